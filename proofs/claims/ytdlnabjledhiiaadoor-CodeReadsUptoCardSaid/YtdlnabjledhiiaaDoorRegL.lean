/-
  A region that draws its order, whose last operation waits for all others: the others met one by one, each once; the last one behind them, alone. Without a condition.
-/
import Derived.Test.YtdlnabjledhiiaaDoorReg
namespace Go.Proofs.YtdlnabjledhiiaaDoor
open Go.RowKit
set_option linter.unusedVariables false

/-- Whatever those of S wait for, and S. -/
def upS (ops : Array Oper) : Nat → List Nat → List Nat
  | 0, S => S
  | k + 1, S => upS ops k (if S.contains k then S ++ waits ops k else S)
/-- Does operation n wait for all others? -/
def lastB (ops : Array Oper) (n : Nat) : Bool := (List.range n).all fun j => (upS ops (n + 1) [n]).contains j
theorem upS_some {ops : Array Oper} {e : Vals} (hc : ∀ j, (e j).isSome = true → ∀ k, (waits ops j).contains k = true → (e k).isSome = true) : ∀ (k : Nat) (S : List Nat), (∀ j ∈ S, (e j).isSome = true) → ∀ j ∈ upS ops k S, (e j).isSome = true
  | 0, S, h => h
  | k + 1, S, h => by
    rw [upS]
    refine upS_some hc k _ ?_
    split
    · rename_i hk
      intro j hj
      rcases List.mem_append.1 hj with hj | hj
      · exact h j hj
      · exact hc k (h k (by simpa using hk)) j (by simpa using hj)
    · exact h
theorem lastB_some {ops : Array Oper} {e : Vals} {n : Nat} (hl : lastB ops n = true) (hc : ∀ j, (e j).isSome = true → ∀ k, (waits ops j).contains k = true → (e k).isSome = true) (hn : (e n).isSome = true) (j : Nat) (hj : j < n) : (e j).isSome = true := by
  have h := List.all_eq_true.1 hl j (List.mem_range.2 hj)
  exact upS_some hc (n + 1) [n] (fun i hi => by simp at hi; subst hi; exact hn) j (by simpa using h)

theorem filled_is' {ops : Array Oper} {e : Vals} (hl : loneB ops = true) (l : List Value) (n : Nat) (hn : l.length = n) (hs : ops.size = n + 1) (h : ∀ j (hj : j < l.length), e j = some l[j]) (h0 : e n = none) (a : Act) : filled ops e a = putFrom ops 0 l a := by
  have h1 := filled_putFrom hl l 0 (fun _ => none) a
  rw [filled_none] at h1
  rw [h1]
  refine Act.ext' ?_ rfl
  refine Array.ext_getElem? fun t => ?_
  simp only [filled, Array.getElem?_mapIdx]
  cases hw : whose ops t with
  | none => simp
  | some j =>
    have hj : j < n + 1 := by rw [← hs]; exact dstOf_lt (whose_some hw)
    simp only [Option.bind_some]
    by_cases hjn : j = n
    · subst hjn
      rw [h0, if_neg (by omega)]
    · rw [h j (by omega), if_pos ⟨Nat.zero_le _, by omega⟩, Nat.sub_zero, List.getElem?_eq_getElem (by omega)]

section
variable {P : Program} {Q : Exit → Act → World → Prop} {a : Act}
theorem wp_region_last {id : Nat} {opsG : Array Oper} {w : World} (ops : Array Oper) (ds : List (Option Nat)) (n : Nat) (T : Nat → Value → World → Prop) (C : World → Prop) (drops : Nat → List Nat)
    (hops : opsG = ops) (hds : (ops.toList.map (·.dst)).take n = ds) (hn : ops.size = n + 1) (hm : P.follows .mixedOrders = true) (hl : loneB ops = true) (hb : backB ops = true) (hlast : lastB ops n = true)
    (h0 : C w.drew) (hstep : ∀ i o, i < n → ops[i]? = some o → StepOk P ops a C T drops i o)
    (hfin : ∀ o, ops[n]? = some o → ∀ (vs : List Value) w', vs.length = n → C w' → (∀ j v, vs[j]? = some v → dropped ops drops j = false → T j v w') →
      ∀ K : Act → World → Prop, (∀ v w, Q .normal ((puts ds vs a).put o.dst v) w → K ((puts ds vs a).put o.dst v) w) → if Region.wanted o (yielded ops (puts ds vs a).tmps) = true then Oper.wp P o (puts ds vs a) w' K Q else K ((puts ds vs a).put o.dst undef) w') :
    (Code.region id opsG true).wp P Q a w := by
  subst hops
  subst hds
  refine wp_region_any hm ?_
  have key := wpAny_vals (P := P) (ops := opsG) (Q := Q) hl hb (fun e w => (∀ j, (e j).isSome = true → ∀ k, (waits opsG j).contains k = true → (e k).isSome = true) ∧ (∀ v, e n = some v → Q .normal (filled opsG e a) w) ∧
    (e n = none → C w ∧ ∀ j v, e j = some v → (∃ i, i < opsG.size ∧ (e i).isSome = true ∧ (drops i).contains j = true) ∨ T j v w)) a ?_ ?_
  · have h := key opsG.size (Array.replicate opsG.size false) (fun _ => none) w.drew (by simp) (fun i hi => by simp [hi]) (missing_le _ _) ⟨(fun j h => by cases h), (fun v h => by cases h), fun _ => ⟨h0, fun j v h => by cases h⟩⟩
    rw [filled_none] at h
    exact h
  · intro i o ho e w1 ⟨hcl, hq, hI⟩ hei hw
    have hin : i < opsG.size := (Array.getElem?_eq_some_iff.1 ho).1
    have hclose : ∀ v, ∀ j, ((e.set i v) j).isSome = true → ∀ k, (waits opsG j).contains k = true → ((e.set i v) k).isSome = true := by
      intro v j hj k hk2
      by_cases hki : k = i
      · subst hki; rw [Vals.set_same]; rfl
      · rw [Vals.set_other e v hki]
        by_cases hji : j = i
        · subst hji; exact hw k (by simpa using hk2)
        · rw [Vals.set_other e v hji] at hj; exact hcl j hj k hk2
    have hen : e n = none := by
      cases hc : e n with
      | none => rfl
      | some v =>
        by_cases hni : i = n
        · subst hni; rw [hei] at hc; cases hc
        · have := lastB_some hlast hcl (by rw [hc]; rfl) i (by omega)
          rw [hei] at this; cases this
    obtain ⟨hC, hT⟩ := hI hen
    refine wpOp_step ho fun K hK => ?_
    have hdi : dstOf opsG i = o.dst := by unfold dstOf; rw [ho]; rfl
    by_cases hni : i = n
    · subst hni
      -- the last one
      have hall : ∀ j, j < i → (e j).isSome = true := by
        intro j hj
        have h1 := lastB_some (e := e.set i undef) hlast (hclose undef) (by rw [Vals.set_same]; rfl) j hj
        rwa [Vals.set_other e undef (by omega)] at h1
      have hval : ∀ j, j < i → e j = some ((e j).getD undef) := fun j hj => by
        have h1 := hall j hj
        cases hc : e j with
        | none => rw [hc] at h1; cases h1
        | some v => rfl
      have hfill : filled opsG e a = puts ((opsG.toList.map (·.dst)).take i) ((List.range i).map fun j => (e j).getD undef) a := by
        rw [← putFrom_puts (ops := opsG) _ 0 _ (fun j hj => ?_) a]
        · exact filled_is' hl _ i (by simp) hn (fun j hj => by rw [hval j (by simpa using hj)]; simp) hei a
        · rw [List.length_map, List.length_range] at hj
          rw [Nat.zero_add, List.getElem?_take_of_lt hj]
          unfold dstOf
          rw [List.getElem?_map, Array.getElem?_toList, Array.getElem?_eq_getElem (by omega)]
          rfl
      rw [hfill]
      refine hfin o ho ((List.range i).map fun j => (e j).getD undef) w1 (by simp) hC (fun j v hj hd => ?_) K (fun v w hA => ?_)
      · have hji : j < i := by have := (List.getElem?_eq_some_iff.1 hj).1; simpa using this
        have hjv : e j = some v := by
          rw [List.getElem?_map, List.getElem?_range hji] at hj
          rw [hval j hji]
          simpa using hj
        rcases hT j v hjv with ⟨k, hk, hke, hkd⟩ | h
        · exfalso
          have : dropped opsG drops j = true := List.any_eq_true.2 ⟨k, List.mem_range.2 hk, hkd⟩
          rw [hd] at this; cases this
        · exact h
      · rw [← hfill] at hA ⊢
        refine hK _ _ ⟨v, by rw [← hdi, filled_put hl], hclose v, (fun u hu => by rw [← filled_put hl, hdi]; exact hA), fun h => by rw [Vals.set_same] at h; cases h⟩
    · have hil : i < n := by omega
      have hgo := hstep i o hil ho e _ w1 rfl hC (fun j hj => ?_) K (fun v w' hv hC' hk => ?_)
      · split
        · rename_i hwt; rw [if_pos hwt] at hgo; exact wp_noQ hgo
        · rename_i hwt; rw [if_neg hwt] at hgo; exact hgo
      · have h1 := hw j (by simpa using hj)
        cases hc : e j with
        | none => rw [hc] at h1; cases h1
        | some v =>
          refine ⟨v, rfl, fun hh => ?_⟩
          rcases hT j v hc with ⟨k, hk, hke, hkd⟩ | h
          · exfalso
            have h2 := List.all_eq_true.1 hh k (List.mem_range.2 hk)
            have hne : k ≠ i := fun he => by subst he; rw [hei] at hke; cases hke
            rw [hkd] at h2
            simp [hne] at h2
          · exact h
      · refine hK _ _ ⟨v, by rw [← hdi, filled_put hl], hclose v, (fun u hu => by rw [Vals.set_other e v (Ne.symm hni), hen] at hu; cases hu), fun _ => ⟨hC', fun j u hj => ?_⟩⟩
        by_cases hji : j = i
        · subst hji
          rw [Vals.set_same] at hj
          cases hj
          exact .inr hv
        · rw [Vals.set_other e v hji] at hj
          rcases hT j u hj with ⟨k, hk, hke, hkd⟩ | h
          · refine .inl ⟨k, hk, ?_, hkd⟩
            by_cases hki : k = i
            · subst hki; rw [Vals.set_same]; rfl
            · rw [Vals.set_other e v hki]; exact hke
          · by_cases hdr : ∃ k, k < opsG.size ∧ ((e.set i v) k).isSome = true ∧ (drops k).contains j = true
            · exact .inl hdr
            · refine .inr (hk j u hj hji ?_ (fun k hks hkd => ?_) h)
              rotate_left
              · have hki : k ≠ i := fun he => hdr ⟨k, hks, by subst he; rw [Vals.set_same]; rfl, hkd⟩
                refine ⟨hki, ?_⟩
                cases hc : e k with
                | none => rfl
                | some x => exact absurd ⟨k, hks, by rw [Vals.set_other e v hki, hc]; rfl, hkd⟩ hdr
              cases hcw : (waits opsG j).contains i with
              | false => rfl
              | true =>
                have := hcl j (by rw [hj]; rfl) i hcw
                rw [hei] at this; cases this
  · intro e w1 ⟨hcl, hq, hI⟩ hall
    have h1 := hall n (by omega)
    cases hc : e n with
    | none => rw [hc] at h1; cases h1
    | some v => exact hq v hc
end
end Go.Proofs.YtdlnabjledhiiaaDoor
