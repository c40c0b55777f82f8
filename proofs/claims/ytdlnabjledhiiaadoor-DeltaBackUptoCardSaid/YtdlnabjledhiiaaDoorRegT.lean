/-
  A region that draws its order, whose last operations stand in one forced order (each waits for all ahead of it): the others met one by one, each once; the last ones behind them, as a list. Without a condition.
-/
import Derived.Test.YtdlnabjledhiiaaDoorRegL
import Derived.Tactics
namespace Go.Proofs.YtdlnabjledhiiaaDoor
open Go.RowKit
set_option linter.unusedVariables false

section
variable {P : Program} {Q : Exit → Act → World → Prop} {a : Act}
/-- Behind an operation K, and Q wherever it does not go on. -/
def Qn (Q : Exit → Act → World → Prop) (K : Act → World → Prop) : Exit → Act → World → Prop
  | .normal, a, w => K a w
  | x, a, w => Q x a w
theorem Qn.out {Q : Exit → Act → World → Prop} {K : Act → World → Prop} (h : LetsOut (Qn Q K)) : LetsOut Q := h
theorem wp_qn {o : Oper} {a : Act} {w : World} {K : Act → World → Prop} (h : o.wp P a w K (Qn Q K)) : o.wp P a w K Q := by
  unfold Oper.wp at *
  generalize (execOp a.eval o).run P w = r at *
  cases r with
  | ok n w' =>
    cases n <;> simp only [Oper.upon] at h ⊢ <;>
      first
        | exact h
        | exact Calls.mono h (fun e w'' he => by cases e with
            | returned v => exact he
            | panicked c => exact he
            | outgrown => exact he)
  | halt x w' => cases x <;> simp only [Oper.upon] at h ⊢ <;> exact h
/-- The last operations, one behind the other. -/
def tailWp (P : Program) (ops : Array Oper) (Q : Exit → Act → World → Prop) : List Oper → Act → World → Prop
  | [], a, w => Q .normal a w
  | o :: r, a, w => ∀ K : Act → World → Prop, (∀ v w', tailWp P ops Q r (a.put o.dst v) w' → K (a.put o.dst v) w') → wpList P ops (Qn Q K) [o] a w
/-- What operation i, ahead of the tail, must show. -/
def StepOkT (P : Program) (ops : Array Oper) (n : Nat) (a : Act) (C : World → Prop) (T : Nat → Value → World → Prop) (drops : Nat → List Nat) (i : Nat) (o : Oper) : Prop :=
  ∀ (e : Vals) (A : Act) (w : World), A = filled ops e a → C w → (∀ j, (waits ops i).contains j = true → ∃ v, e j = some v ∧ (held ops drops i j = true → T j v w)) → (∀ j, n ≤ j → e j = none) →
    ∀ K : Act → World → Prop, Next ops C T drops i e A w o.dst K →
      if Region.wanted o (yielded ops A.tmps) = true then Oper.wp P o A w K noQ else K (A.put o.dst undef) w
theorem filled_base2 {ops : Array Oper} {e : Vals} {a A : Act} {t j : Nat} {v : Value} (hA : A = filled ops e a) (h : whose ops t = some j) (he : e j = none) (hv : a.eval (.tmp t) = v) : A.eval (.tmp t) = v := by
  subst hA
  subst hv
  simp only [Act.eval, filled, Array.getD_eq_getD_getElem?, Array.getElem?_mapIdx, h, Option.bind_some, he, Option.getD_none]
  cases a.tmps[t]? <;> simp
theorem wp_region_tail {id : Nat} {opsG : Array Oper} {w : World} (ops : Array Oper) (ds : List (Option Nat)) (n : Nat) (T : Nat → Value → World → Prop) (C : World → Prop) (drops : Nat → List Nat)
    (hops : opsG = ops) (hds : (ops.toList.map (·.dst)).take n = ds) (hn : Nat.blt n ops.size = true) (hm : P.follows .mixedOrders = true) (hl : loneB ops = true) (hb : backB ops = true) (hlast : ((List.range ops.size).all fun k => Nat.blt k n || lastB ops k) = true)
    (h0 : C w.drew) (hstep : ∀ i o, i < n → ops[i]? = some o → StepOkT P ops n a C T drops i o)
    (hfin : ∀ (vs : List Value) w', vs.length = n → C w' → (∀ j v, vs[j]? = some v → dropped ops drops j = false → T j v w') → tailWp P ops Q (ops.toList.drop n) (puts ds vs a) w') :
    (Code.region id opsG true).wp P Q a w := by
  subst hops
  subst hds
  have hns : n < opsG.size := Nat.blt_eq ▸ hn
  have hla : ∀ k, n ≤ k → k < opsG.size → lastB opsG k = true := by
    intro k hk hk2
    have h := List.all_eq_true.1 hlast k (List.mem_range.2 hk2)
    rw [Bool.or_eq_true] at h
    rcases h with h | h
    · have : k < n := Nat.blt_eq ▸ h
      omega
    · exact h
  refine wp_region_any hm ?_
  have key := wpAny_vals (P := P) (ops := opsG) (Q := Q) hl hb (fun e w => (∀ j, (e j).isSome = true → ∀ k, (waits opsG j).contains k = true → (e k).isSome = true) ∧ (∀ j, (e j).isSome = true → j < opsG.size) ∧
    (e n = none → C w ∧ ∀ j v, e j = some v → (∃ i, i < opsG.size ∧ (e i).isSome = true ∧ (drops i).contains j = true) ∨ T j v w) ∧
    ((e n).isSome = true → ∃ m, n < m ∧ m ≤ opsG.size ∧ (∀ j, (e j).isSome = true ↔ j < m) ∧ tailWp P opsG Q (opsG.toList.drop m) (filled opsG e a) w)) a ?_ ?_
  · have h := key opsG.size (Array.replicate opsG.size false) (fun _ => none) w.drew (by simp) (fun i hi => by simp [hi]) (missing_le _ _) ⟨(fun j h => by cases h), (fun j h => by cases h), (fun _ => ⟨h0, fun j v h => by cases h⟩), fun h => by cases h⟩
    rw [filled_none] at h
    exact h
  · intro i o ho e w1 ⟨hcl, hbd, hI, hW⟩ hei hw
    have hin : i < opsG.size := (Array.getElem?_eq_some_iff.1 ho).1
    have hclose : ∀ v, ∀ j, ((e.set i v) j).isSome = true → ∀ k, (waits opsG j).contains k = true → ((e.set i v) k).isSome = true := by
      intro v j hj k hk2
      by_cases hki : k = i
      · subst hki; rw [Vals.set_same]; rfl
      · rw [Vals.set_other e v hki]
        by_cases hji : j = i
        · subst hji; exact hw k (by simpa using hk2)
        · rw [Vals.set_other e v hji] at hj; exact hcl j hj k hk2
    have hbound : ∀ v, ∀ j, ((e.set i v) j).isSome = true → j < opsG.size := by
      intro v j hj
      by_cases hji : j = i
      · omega
      · rw [Vals.set_other e v hji] at hj; exact hbd j hj
    have hbefore : n ≤ i → ∀ j, j < i → (e j).isSome = true := by
      intro hni j hj
      have h1 := lastB_some (e := e.set i undef) (hla i hni hin) (hclose undef) (by rw [Vals.set_same]; rfl) j hj
      rwa [Vals.set_other e undef (by omega)] at h1
    have hdi : dstOf opsG i = o.dst := by unfold dstOf; rw [ho]; rfl
    by_cases hil : i < n
    · -- ahead of the tail
      have hen : e n = none := by
        cases hc : e n with
        | none => rfl
        | some v =>
          have := lastB_some (hla n (Nat.le_refl _) hns) hcl (by rw [hc]; rfl) i hil
          rw [hei] at this; cases this
      have hni : i ≠ n := by omega
      have hnone : ∀ j, n ≤ j → e j = none := by
        intro j hj
        cases hc : e j with
        | none => rfl
        | some v =>
          by_cases hjn : j = n
          · subst hjn; rw [hen] at hc; cases hc
          · have := lastB_some (hla j hj (hbd j (by rw [hc]; rfl))) hcl (by rw [hc]; rfl) n (by omega)
            rw [hen] at this; cases this
      obtain ⟨hC, hT⟩ := hI hen
      refine wpOp_step ho fun K hK => ?_
      have hgo := hstep i o hil ho e _ w1 rfl hC (fun j hj => ?_) hnone K (fun v w' hv hC' hk => ?_)
      · split
        · rename_i hwt; rw [if_pos hwt] at hgo; exact wp_noQ hgo
        · rename_i hwt; rw [if_neg hwt] at hgo; exact hgo
      · have h1 := hw j (by simpa using hj)
        cases hc : e j with
        | none => rw [hc] at h1; cases h1
        | some v =>
          refine ⟨v, rfl, fun hh => ?_⟩
          rcases hT j v hc with ⟨k, hk, hke, hkd⟩ | h
          · exfalso
            have h2 := List.all_eq_true.1 hh k (List.mem_range.2 hk)
            have hne : k ≠ i := fun he => by subst he; rw [hei] at hke; cases hke
            rw [hkd] at h2
            simp [hne] at h2
          · exact h
      · refine hK _ _ ⟨v, by rw [← hdi, filled_put hl], hclose v, hbound v, (fun _ => ⟨hC', fun j u hj => ?_⟩), fun hu => by rw [Vals.set_other e v (Ne.symm hni), hen] at hu; cases hu⟩
        by_cases hji : j = i
        · subst hji
          rw [Vals.set_same] at hj
          cases hj
          exact .inr hv
        · rw [Vals.set_other e v hji] at hj
          rcases hT j u hj with ⟨k, hk, hke, hkd⟩ | h
          · refine .inl ⟨k, hk, ?_, hkd⟩
            by_cases hki : k = i
            · subst hki; rw [Vals.set_same]; rfl
            · rw [Vals.set_other e v hki]; exact hke
          · by_cases hdr : ∃ k, k < opsG.size ∧ ((e.set i v) k).isSome = true ∧ (drops k).contains j = true
            · exact .inl hdr
            · refine .inr (hk j u hj hji ?_ (fun k hks hkd => ?_) h)
              rotate_left
              · have hki : k ≠ i := fun he => hdr ⟨k, hks, by subst he; rw [Vals.set_same]; rfl, hkd⟩
                refine ⟨hki, ?_⟩
                cases hc : e k with
                | none => rfl
                | some x => exact absurd ⟨k, hks, by rw [Vals.set_other e v hki, hc]; rfl, hkd⟩ hdr
              cases hcw : (waits opsG j).contains i with
              | false => rfl
              | true =>
                have := hcl j (by rw [hj]; rfl) i hcw
                rw [hei] at this; cases this
    · -- in the tail
      have hall := hbefore (by omega)
      have hiff : ∀ j, (e j).isSome = true ↔ j < i := by
        intro j
        refine ⟨fun hj => ?_, hall j⟩
        rcases Nat.lt_trichotomy j i with h | h | h
        · exact h
        · subst h; rw [hei] at hj; cases hj
        · have := lastB_some (hla j (by omega) (hbd j hj)) hcl hj i h
          rw [hei] at this; cases this
      have hL : tailWp P opsG Q (opsG.toList.drop i) (filled opsG e a) w1 := by
        by_cases hni : i = n
        · subst hni
          obtain ⟨hC, hT⟩ := hI hei
          have hval : ∀ j, j < i → e j = some ((e j).getD undef) := fun j hj => by
            have h1 := hall j hj
            cases hc : e j with
            | none => rw [hc] at h1; cases h1
            | some v => rfl
          have hfill : filled opsG e a = puts ((opsG.toList.map (·.dst)).take i) ((List.range i).map fun j => (e j).getD undef) a := by
            rw [← putFrom_puts (ops := opsG) _ 0 _ (fun j hj => ?_) a]
            · have h1 := filled_putFrom hl ((List.range i).map fun j => (e j).getD undef) 0 (fun _ => none) a
              rw [filled_none] at h1
              rw [h1]
              congr 1
              funext j
              by_cases hj : j < i
              · rw [if_pos ⟨Nat.zero_le _, by simpa using hj⟩, hval j hj]; simp [hj]
              · rw [if_neg (by simp; omega)]
                cases hc : e j with
                | none => rfl
                | some v => exact absurd ((hiff j).1 (by rw [hc]; rfl)) hj
            · rw [List.length_map, List.length_range] at hj
              rw [Nat.zero_add, List.getElem?_take_of_lt hj]
              unfold dstOf
              rw [List.getElem?_map, Array.getElem?_toList, Array.getElem?_eq_getElem (by omega)]
              rfl
          rw [hfill]
          refine hfin ((List.range i).map fun j => (e j).getD undef) w1 (by simp) hC fun j v hj hd => ?_
          have hji : j < i := by have := (List.getElem?_eq_some_iff.1 hj).1; simpa using this
          have hjv : e j = some v := by
            rw [List.getElem?_map, List.getElem?_range hji] at hj
            rw [hval j hji]
            simpa using hj
          rcases hT j v hjv with ⟨k, hk, hke, hkd⟩ | h
          · exfalso
            have : dropped opsG drops j = true := List.any_eq_true.2 ⟨k, List.mem_range.2 hk, hkd⟩
            rw [hd] at this; cases this
          · exact h
        · obtain ⟨m, h1, h2, h3, h4⟩ := hW (hall n (by omega))
          have : m = i := by
            have ha : ¬ (e m).isSome = true := fun h => Nat.lt_irrefl m ((h3 m).1 h)
            have hb2 : ¬ i < m := fun h => by have := (h3 i).2 h; rw [hei] at this; cases this
            rcases Nat.lt_trichotomy m i with h | h | h
            · exact absurd (hall m h) ha
            · exact h
            · exact absurd h hb2
          subst this
          exact h4
      have hdrop : opsG.toList.drop i = o :: opsG.toList.drop (i + 1) := by
        rw [List.drop_eq_getElem_cons (by simpa using hin)]
        congr 1
        have := (Array.getElem?_eq_some_iff.1 ho).2
        simpa using this
      rw [hdrop] at hL
      have hnew : ∀ v w', tailWp P opsG Q (opsG.toList.drop (i + 1)) ((filled opsG e a).put o.dst v) w' → ∃ v', (filled opsG e a).put o.dst v = filled opsG (e.set i v') a ∧ ((∀ j, ((e.set i v') j).isSome = true → ∀ k, (waits opsG j).contains k = true → ((e.set i v') k).isSome = true) ∧ (∀ j, ((e.set i v') j).isSome = true → j < opsG.size) ∧
          ((e.set i v') n = none → C w' ∧ ∀ j u, (e.set i v') j = some u → (∃ k, k < opsG.size ∧ ((e.set i v') k).isSome = true ∧ (drops k).contains j = true) ∨ T j u w') ∧
          (((e.set i v') n).isSome = true → ∃ m, n < m ∧ m ≤ opsG.size ∧ (∀ j, ((e.set i v') j).isSome = true ↔ j < m) ∧ tailWp P opsG Q (opsG.toList.drop m) (filled opsG (e.set i v') a) w')) := by
        intro v w' h
        refine ⟨v, by rw [← hdi, filled_put hl], hclose v, hbound v, fun h2 => ?_, fun _ => ⟨i + 1, by omega, hin, fun j => ?_, by rw [← filled_put hl, hdi]; exact h⟩⟩
        · exfalso
          by_cases hni : n = i
          · subst hni; rw [Vals.set_same] at h2; cases h2
          · rw [Vals.set_other e v hni] at h2
            have := hall n (by omega)
            rw [h2] at this; cases this
        · by_cases hji : j = i
          · subst hji; rw [Vals.set_same]; simp
          · rw [Vals.set_other e v hji, hiff j]; omega
      have key2 : ∀ K : Act → World → Prop, (∀ v w', tailWp P opsG Q (opsG.toList.drop (i + 1)) ((filled opsG e a).put o.dst v) w' → K ((filled opsG e a).put o.dst v) w') →
          (if Region.wanted o (yielded opsG (filled opsG e a).tmps) = true then o.wp P (filled opsG e a) w1 K Q ∨ (o.asks P (filled opsG e a) w1 ∧ LetsOut Q) else K ((filled opsG e a).put o.dst undef) w1) := by
        intro K hK
        have h1 := hL K hK
        unfold wpList at h1
        split
        · rename_i hwt
          rw [if_pos hwt] at h1
          rcases h1 with h1 | h1
          · exact .inl (wp_qn h1)
          · exact .inr ⟨h1.1, Qn.out h1.2⟩
        · rename_i hwt
          rw [if_neg hwt] at h1
          exact h1
      unfold wpOp
      rw [ho]
      refine key2 _ ?_
      exact hnew
  · intro e w1 ⟨hcl, hbd, hI, hW⟩ hall
    obtain ⟨m, h1, h2, h3, h4⟩ := hW (hall n hns)
    have : m = opsG.size := by
      have ha : ¬ (e m).isSome = true := fun h => Nat.lt_irrefl m ((h3 m).1 h)
      rcases Nat.lt_or_ge m opsG.size with h | h
      · exact absurd (hall m h) ha
      · omega
    subst this
    rw [List.drop_eq_nil_of_le (by simp)] at h4
    exact h4
end
theorem drop_tail {ops : Array Oper} {n : Nat} {x y : Oper} (hs : ops.size = n + 2) (hx : ops[n]? = some x) (hy : ops[n + 1]? = some y) : ops.toList.drop n = [x, y] := by
  obtain ⟨h1, h2⟩ := Array.getElem?_eq_some_iff.1 hx
  obtain ⟨h3, h4⟩ := Array.getElem?_eq_some_iff.1 hy
  rw [List.drop_eq_getElem_cons (by simpa using h1), List.drop_eq_getElem_cons (by simpa using h3), List.drop_eq_nil_of_le (by simp; omega)]
  simp [h2, h4]
end Go.Proofs.YtdlnabjledhiiaaDoor
