/-
  What code.Put writes, by definition, and: what is read of any bytes, written again, is the bytes; without a condition.
-/
import Derived.Test.YtdlnabjledhiiaaDoorCvBase
import Derived.Test.YtdlnabjledhiiaaDoorCvRt
import Derived.Lib.ItoaNum
namespace Go.Proofs.YtdlnabjledhiiaaDoor
open Go.RowKit
set_option linter.unusedVariables false

mutual
/-- A value's bytes. -/
def putL : V → List UInt8
  | .mk k n s l => if k = 1 then 105 :: (Lib.itoa n ++ [101]) else if k = 2 then Lib.itoa (s.size : Int) ++ 58 :: s.data.toList else 108 :: (putAll l ++ [101])
def putAll : List V → List UInt8
  | [] => []
  | x :: r => putL x ++ putAll r
end
theorem putAll_snoc (l : List V) (x : V) : putAll (l ++ [x]) = putAll l ++ putL x := by
  induction l with
  | nil => simp [putAll]
  | cons y r ih => simp [putAll, ih]
theorem putAll_take {l : List V} {i : Nat} (h : i < l.length) : putAll (l.take (i + 1)) = putAll (l.take i) ++ putL l[i] := by
  rw [List.take_add_one, List.getElem?_eq_getElem h]
  exact putAll_snoc _ _

/-- May be, and no deeper than that. -/
def RightTo : Nat → V → Prop
  | 0, _ => False
  | d + 1, .mk k n s l => rightOne k n s l = true ∧ ∀ y ∈ l, RightTo d y

mutual
theorem rightGo_to : ∀ (x : V) (d deep : Nat) (st : RS), RightTo d x → st.many + x.cnt ≤ 4000 →
    (rightGo x deep st).many = st.many + x.cnt ∧ (rightGo x deep st).deepest + 1 ≤ max (st.deepest + 1) (deep + d) ∧ (rightGo x deep st).ok = st.ok
  | .mk k n s l, 0, deep, st, h, _ => by simp only [RightTo] at h
  | .mk k n s l, d + 1, deep, st, h, hm => by
    simp only [RightTo] at h
    rw [V.cnt] at hm
    rw [rightGo, V.cnt, if_neg (by omega)]
    have := rightAll_to l d (deep + 1) ⟨st.many + 1, max st.deepest deep, st.ok && rightOne k n s l⟩ h.2 (by dsimp only; omega)
    dsimp only at this
    rw [h.1, Bool.and_true] at this
    rw [h.1, Bool.and_true]
    exact ⟨by omega, by omega, this.2.2⟩
theorem rightAll_to : ∀ (l : List V) (d deep : Nat) (st : RS), (∀ y ∈ l, RightTo d y) → st.many + cntAll l ≤ 4000 →
    (rightAll l deep st).many = st.many + cntAll l ∧ (rightAll l deep st).deepest + 1 ≤ max (st.deepest + 1) (deep + d) ∧ (rightAll l deep st).ok = st.ok
  | [], d, deep, st, _, _ => by rw [rightAll, cntAll]; exact ⟨rfl, by omega, rfl⟩
  | x :: r, d, deep, st, h, hm => by
    rw [cntAll] at hm
    rw [rightAll, cntAll]
    have h1 := rightGo_to x d deep st (h x (List.mem_cons_self ..)) (by omega)
    have h2 := rightAll_to r d deep (rightGo x deep st) (fun y hy => h y (List.mem_cons_of_mem _ hy)) (by omega)
    exact ⟨by omega, by omega, h2.2.2.trans h1.2.2⟩
end

/-- The bytes from a place on. -/
abbrev from_ (s : ByteArray) (a : Nat) : List UInt8 := s.data.toList.drop a
theorem from_at {s : ByteArray} {a : Nat} {c : UInt8} (h : s.data.toList[a]? = some c) : from_ s a = c :: from_ s (a + 1) := by
  obtain ⟨h1, h2⟩ := List.getElem?_eq_some_iff.1 h
  rw [from_, List.drop_eq_getElem_cons h1, h2]
theorem digit_of {c : UInt8} (h : ¬(c.toNat < 48 ∨ 57 < c.toNat)) : UInt8.ofNat (48 + (c.toNat - 48)) = c := by
  rw [show 48 + (c.toNat - 48) = c.toNat by omega]
  exact UInt8.ofNat_toNat
theorem digits_spell (s : ByteArray) (most b : Nat) : ∀ (f n a : Nat), b ≤ a → (a = b → n = 0) → (b < a → from_ s b = Lib.decDigits n ++ from_ s a) → (digitsL s most b f n a).2.1 = true →
    from_ s b = Lib.decDigits (digitsL s most b f n a).1 ++ from_ s (digitsL s most b f n a).2.2.1
  | 0, n, a, _, _, _, h => by simp [digitsL] at h
  | f + 1, n, a, ha, h0, hi, h => by
    rw [digitsL] at h ⊢
    by_cases h1 : a < s.size
    · rw [dif_pos h1] at h ⊢
      by_cases h2 : s[a].toNat < 48 ∨ 57 < s[a].toNat
      · rw [if_pos h2] at h ⊢
        by_cases h3 : a = b
        · rw [if_pos h3] at h; simp at h
        · rw [if_neg h3] at h ⊢
          exact hi (by omega)
      · rw [if_neg h2] at h ⊢
        by_cases h3 : (b < a ∧ n = 0) ∨ (most - (s[a].toNat - 48)) / 10 < n
        · rw [if_pos h3] at h; simp at h
        · rw [if_neg h3] at h ⊢
          refine digits_spell s most b f _ (a + 1) (by omega) (by omega) (fun _ => ?_) h
          have hat := from_at (at_lt h1)
          by_cases h4 : a = b
          · subst h4
            rw [h0 rfl, Nat.mul_zero, Nat.zero_add, Lib.decDigits, dif_pos (by omega), digit_of h2]
            exact hat
          · have hn : n ≠ 0 := fun e => h3 (.inl ⟨by omega, e⟩)
            rw [hi (by omega), hat, show Lib.decDigits (10 * n + (s[a].toNat - 48)) = Lib.decDigits ((10 * n + (s[a].toNat - 48)) / 10) ++ [UInt8.ofNat (48 + (10 * n + (s[a].toNat - 48)) % 10)] by rw [Lib.decDigits, dif_neg (by omega)], show (10 * n + (s[a].toNat - 48)) / 10 = n by omega, show (10 * n + (s[a].toNat - 48)) % 10 = s[a].toNat - 48 by omega, digit_of h2, List.append_assoc]
            rfl
    · rw [dif_neg h1] at h; simp at h
theorem mustL_spell (s : ByteArray) (a : Nat) (c : UInt8) (h : (mustL s a c).1 = true) : from_ s a = c :: from_ s (mustL s a c).2.1 := by
  unfold mustL at h ⊢
  by_cases h1 : a < s.size
  · rw [dif_pos h1] at h ⊢
    by_cases h2 : s[a] = c
    · rw [if_pos h2]; rw [← h2]; exact from_at (at_lt h1)
    · rw [if_neg h2] at h; simp at h
  · rw [dif_neg h1] at h; simp at h
theorem decDigits_zero : Lib.decDigits 0 = [48] := by rw [Lib.decDigits, dif_pos (by decide)]; rfl
theorem numTail_spell (s : ByteArray) (most : Nat) (mi : Bool) (a : Nat) (hz : mi = true → s.data.toList[a]? ≠ some 48) (h : (numTail s most mi a).2.1 = true) :
    (if mi = true then [45] else []) ++ from_ s a = Lib.itoa (numTail s most mi a).1 ++ 101 :: from_ s (numTail s most mi a).2.2.1 := by
  unfold numTail at h ⊢
  by_cases h1 : (digitsL s most a (s.size + 1 - a) 0 a).2.1 = true
  · rw [if_pos h1] at h ⊢
    have hd := digits_spell s most a _ 0 a (Nat.le_refl _) (fun _ => rfl) (fun e => absurd e (Nat.lt_irrefl _)) h1
    generalize digitsL s most a (s.size + 1 - a) 0 a = x at *
    by_cases h2 : (mustL s x.2.2.1 101).1 = true
    · rw [if_pos h2] at h ⊢
      have hm := mustL_spell s _ _ h2
      cases mi with
      | false =>
        have e : Lib.itoa (x.1 : Int) = Lib.decDigits x.1 := by
          unfold Lib.itoa
          rw [if_neg (by omega)]
          rfl
        simp only [Bool.false_eq_true, if_false, List.nil_append]
        rw [e, hd, hm]
      | true =>
        have hx : x.1 ≠ 0 := by
          intro e
          rw [e, decDigits_zero] at hd
          refine hz rfl ?_
          have := congrArg (fun z : List UInt8 => z[0]?) hd
          simpa using this
        have e : Lib.itoa (-(x.1 : Int)) = 45 :: Lib.decDigits x.1 := by
          unfold Lib.itoa
          rw [if_pos (by omega), Int.natAbs_neg]
          rfl
        simp only [if_true]
        rw [e, hd, hm]
        rfl
    · rw [if_neg h2] at h; simp at h
  · rw [if_neg h1] at h; simp at h
theorem numberL_spell (s : ByteArray) (a : Nat) (h : (numberL s a).2.1 = true) : from_ s a = Lib.itoa (numberL s a).1 ++ 101 :: from_ s (numberL s a).2.2.1 := by
  unfold numberL at h ⊢
  by_cases h1 : s.data.toList[a]? = some 45
  · rw [if_pos h1] at h ⊢
    by_cases h2 : s.data.toList[a + 1]? = some 48
    · rw [if_pos h2] at h; simp at h
    · rw [if_neg h2] at h ⊢
      have := numTail_spell s _ true _ (fun _ => h2) h
      rw [from_at h1]
      exact this
  · rw [if_neg h1] at h ⊢
    exact numTail_spell s _ false _ (fun e => by cases e) h
theorem extract_list (s : ByteArray) (a n : Nat) (h : a + n ≤ s.size) : (s.extract a (a + n)).data.toList = (from_ s a).take n ∧ (s.extract a (a + n)).size = n := by
  refine ⟨?_, by simp; omega⟩
  simp [from_]
/-- What a reading that goes well has read. -/
def Spelt (s : ByteArray) (d a m : Nat) (x : Rd) : Prop := x.ok = true → from_ s a = putL x.v ++ from_ s x.at_ ∧ x.many = m + x.v.cnt ∧ RightTo d x.v
theorem rdText_spell (s : ByteArray) (d a m : Nat) : Spelt s (d + 1) a m (rdText s a (m + 1)) := by
  intro h
  unfold rdText at h ⊢
  by_cases h1 : (digitsL s 131072 a (s.size + 1 - a) 0 a).2.1 = true
  · rw [if_pos h1] at h ⊢
    have hd := digits_spell s 131072 a _ 0 a (Nat.le_refl _) (fun _ => rfl) (fun e => absurd e (Nat.lt_irrefl _)) h1
    generalize digitsL s 131072 a (s.size + 1 - a) 0 a = x at *
    by_cases h2 : (mustL s x.2.2.1 58).1 = true
    · rw [if_pos h2] at h ⊢
      have hm := mustL_spell s _ _ h2
      have hl := mustL_at s _ _ h2
      generalize mustL s x.2.2.1 58 = y at *
      by_cases h3 : s.size - y.2.1 < x.1
      · rw [if_pos h3] at h; simp [Rd.no] at h
      · rw [if_neg h3]
        have he := extract_list s y.2.1 x.1 (by omega)
        dsimp only
        refine ⟨?_, by simp [V.cnt, cntAll], by simp [RightTo, rightOne]⟩
        rw [putL, if_neg (by decide), if_pos rfl, he.2, he.1, hd, hm]
        have e : Lib.itoa (x.1 : Int) = Lib.decDigits x.1 := by
          unfold Lib.itoa
          rw [if_neg (by omega)]
          rfl
        rw [e, List.append_assoc, List.cons_append]
        congr 2
        rw [show from_ s (y.2.1 + x.1) = (from_ s y.2.1).drop x.1 by simp [from_, List.drop_drop]]
        exact (List.take_append_drop _ _).symm
    · rw [if_neg h2] at h; simp [Rd.no] at h
  · rw [if_neg h1] at h; simp [Rd.no] at h
theorem rdList_spell (rd : Nat → Nat → Rd) (s : ByteArray) (d : Nat) (hrd : ∀ a m, Spelt s d a m (rd a m)) : ∀ (f a m : Nat) (acc : List V), (rdList rd s f a m acc).ok = true →
    ∃ ys, (rdList rd s f a m acc).v = .mk 3 0 ⟨#[]⟩ (acc ++ ys) ∧ from_ s a = putAll ys ++ 101 :: from_ s (rdList rd s f a m acc).at_ ∧ (rdList rd s f a m acc).many = m + cntAll ys ∧ ∀ y ∈ ys, RightTo d y
  | 0, a, m, acc, h => by simp [rdList, Rd.no] at h
  | f + 1, a, m, acc, h => by
    rw [rdList] at h ⊢
    by_cases h1 : s.data.toList[a]? = some 101
    · rw [if_pos h1]
      exact ⟨[], by simp, by simpa [putAll] using from_at h1, rfl, fun y hy => by cases hy⟩
    · rw [if_neg h1] at h ⊢
      by_cases h2 : (rd a m).ok = true
      · rw [if_pos h2] at h ⊢
        obtain ⟨h4, h5, h6⟩ := hrd a m h2
        obtain ⟨ys, e1, e2, e3, e4⟩ := rdList_spell rd s d hrd f _ _ _ h
        refine ⟨(rd a m).v :: ys, by rw [e1]; simp, ?_, by rw [e3, h5, cntAll]; omega, fun y hy => ?_⟩
        · rw [h4, putAll, List.append_assoc, ← e2]
        · rcases List.mem_cons.1 hy with rfl | hy
          · exact h6
          · exact e4 y hy
      · rw [if_neg h2] at h; simp [Rd.no] at h
theorem rdValue_spell (s : ByteArray) : ∀ (d a m : Nat), Spelt s d a m (rdValue s d a m)
  | 0, a, m => by
    intro h
    rw [rdValue] at h
    cases hc : s.data.toList[a]? with
    | none => rw [hc] at h; simp [Rd.no] at h
    | some c => rw [hc] at h; dsimp only at h; split at h <;> simp [Rd.no] at h
  | d + 1, a, m => by
    intro h
    rw [rdValue] at h ⊢
    cases hc : s.data.toList[a]? with
    | none => rw [hc] at h; simp [Rd.no] at h
    | some c =>
      rw [hc] at h
      dsimp only at h ⊢
      by_cases h1 : begins c = true
      · rw [if_pos h1] at h ⊢
        by_cases h2 : 4000 ≤ m
        · rw [if_pos h2] at h; simp [Rd.no] at h
        · rw [if_neg h2] at h ⊢
          by_cases h3 : c = 105
          · rw [if_pos h3] at h ⊢
            have := numberL_spell s (a + 1) h
            dsimp only [rdNumber]
            refine ⟨?_, by simp [V.cnt, cntAll], ?_⟩
            · rw [putL, if_pos rfl, from_at hc, this, h3]; simp
            · simp [RightTo, rightOne]; rfl
          · rw [if_neg h3] at h ⊢
            by_cases h4 : c = 108
            · rw [if_pos h4] at h ⊢
              obtain ⟨ys, e1, e2, e3, e4⟩ := rdList_spell _ s d (rdValue_spell s d) _ _ _ _ h
              rw [List.nil_append] at e1
              refine ⟨?_, ?_, ?_⟩
              · rw [e1, putL, if_neg (by decide), if_neg (by decide), from_at hc, e2, h4]; simp
              · rw [e1, e3, V.cnt]; omega
              · rw [e1]; simp only [RightTo]; exact ⟨by simp [rightOne]; rfl, e4⟩
            · rw [if_neg h4] at h ⊢
              exact rdText_spell s d a m h
      · rw [if_neg h1] at h; simp [Rd.no] at h

/-- A reading that goes wrong tells an error, and a place within the text. -/
def Rd.Bad (s : ByteArray) (x : Rd) : Prop := x.ok ≠ true → x.bad ≠ 0 ∧ x.at_ ≤ s.size
theorem digitsL_no (s : ByteArray) (most b : Nat) : ∀ (f n a : Nat), a ≤ s.size → (digitsL s most b f n a).2.2.1 ≤ s.size ∧ ((digitsL s most b f n a).2.1 ≠ true → (digitsL s most b f n a).2.2.2 ≠ 0)
  | 0, n, a, ha => by simp [digitsL, ha]
  | f + 1, n, a, ha => by
    rw [digitsL]
    by_cases h1 : a < s.size
    · rw [dif_pos h1]
      by_cases h2 : s[a].toNat < 48 ∨ 57 < s[a].toNat
      · rw [if_pos h2]
        by_cases h3 : a = b
        · rw [if_pos h3]; exact ⟨ha, fun _ => by simp⟩
        · rw [if_neg h3]; exact ⟨ha, fun h => absurd rfl h⟩
      · rw [if_neg h2]
        by_cases h3 : (b < a ∧ n = 0) ∨ (most - (s[a].toNat - 48)) / 10 < n
        · rw [if_pos h3]; exact ⟨ha, fun _ => by simp⟩
        · rw [if_neg h3]; exact digitsL_no s most b f _ (a + 1) h1
    · rw [dif_neg h1]; exact ⟨ha, fun _ => by simp⟩
theorem mustL_no (s : ByteArray) (a : Nat) (c : UInt8) (ha : a ≤ s.size) : (mustL s a c).2.1 ≤ s.size ∧ ((mustL s a c).1 ≠ true → (mustL s a c).2.2 ≠ 0) := by
  unfold mustL
  by_cases h1 : a < s.size
  · rw [dif_pos h1]
    by_cases h2 : s[a] = c
    · rw [if_pos h2]; exact ⟨h1, fun h => absurd rfl h⟩
    · rw [if_neg h2]; exact ⟨ha, fun _ => by simp⟩
  · rw [dif_neg h1]; exact ⟨ha, fun _ => by simp⟩
theorem numTail_no (s : ByteArray) (most : Nat) (mi : Bool) (a : Nat) (ha : a ≤ s.size) (h : (numTail s most mi a).2.1 ≠ true) : (numTail s most mi a).2.2.2 ≠ 0 ∧ (numTail s most mi a).2.2.1 ≤ s.size := by
  unfold numTail at h ⊢
  have hd := digitsL_no s most a (s.size + 1 - a) 0 a ha
  generalize digitsL s most a (s.size + 1 - a) 0 a = x at *
  by_cases h1 : x.2.1 = true
  · rw [if_pos h1] at h ⊢
    have hm := mustL_no s x.2.2.1 101 hd.1
    generalize mustL s x.2.2.1 101 = y at *
    by_cases h2 : y.1 = true
    · rw [if_pos h2] at h; exact absurd rfl h
    · rw [if_neg h2]; exact ⟨hm.2 h2, hm.1⟩
  · rw [if_neg h1]; exact ⟨hd.2 h1, hd.1⟩
theorem numberL_no (s : ByteArray) (a : Nat) (ha : a ≤ s.size) (h : (numberL s a).2.1 ≠ true) : (numberL s a).2.2.2 ≠ 0 ∧ (numberL s a).2.2.1 ≤ s.size := by
  unfold numberL at h ⊢
  by_cases h1 : s.data.toList[a]? = some 45
  · have := at_some h1
    rw [if_pos h1] at h ⊢
    by_cases h2 : s.data.toList[a + 1]? = some 48
    · rw [if_pos h2]; exact ⟨by simp, this⟩
    · rw [if_neg h2] at h ⊢; exact numTail_no s _ _ _ this h
  · rw [if_neg h1] at h ⊢; exact numTail_no s _ _ _ ha h
theorem rdText_no (s : ByteArray) (a m : Nat) (ha : a ≤ s.size) : Rd.Bad s (rdText s a m) := by
  intro h
  unfold rdText at h ⊢
  have hd := digitsL_no s 131072 a (s.size + 1 - a) 0 a ha
  generalize digitsL s 131072 a (s.size + 1 - a) 0 a = x at *
  by_cases h1 : x.2.1 = true
  · rw [if_pos h1] at h ⊢
    have hm := mustL_no s x.2.2.1 58 hd.1
    generalize mustL s x.2.2.1 58 = y at *
    by_cases h2 : y.1 = true
    · rw [if_pos h2] at h ⊢
      by_cases h3 : s.size - y.2.1 < x.1
      · rw [if_pos h3]; exact ⟨by simp [Rd.no], Nat.le_refl _⟩
      · rw [if_neg h3] at h; exact absurd rfl h
    · rw [if_neg h2]; exact ⟨hm.2 h2, hm.1⟩
  · rw [if_neg h1]; exact ⟨hd.2 h1, hd.1⟩
theorem rdList_no (rd : Nat → Nat → Rd) (s : ByteArray) (hrd : ∀ a m, a ≤ s.size → m ≤ 4000 → Rd.Bad s (rd a m)) (hgd : ∀ a m, m ≤ 4000 → Rd.Good s a (rd a m)) : ∀ (f a m : Nat) (acc : List V), a ≤ s.size → m ≤ 4000 → Rd.Bad s (rdList rd s f a m acc)
  | 0, a, m, acc, ha, _ => fun _ => ⟨by simp [rdList, Rd.no], ha⟩
  | f + 1, a, m, acc, ha, hm => by
    intro h
    rw [rdList] at h ⊢
    by_cases h1 : s.data.toList[a]? = some 101
    · rw [if_pos h1] at h; exact absurd rfl h
    · rw [if_neg h1] at h ⊢
      by_cases h2 : (rd a m).ok = true
      · rw [if_pos h2] at h ⊢
        obtain ⟨-, h4, h5, h6⟩ := hgd a m hm h2
        exact rdList_no rd s hrd hgd f _ _ _ h5 h6 h
      · rw [if_neg h2]; exact hrd a m ha hm h2
theorem rdValue_no (s : ByteArray) : ∀ (d a m : Nat), a ≤ s.size → m ≤ 4000 → Rd.Bad s (rdValue s d a m)
  | 0, a, m, ha, _ => by
    intro h
    rw [rdValue] at h ⊢
    cases hc : s.data.toList[a]? with
    | none => exact ⟨by simp [Rd.no], ha⟩
    | some c => dsimp only; split <;> exact ⟨by simp [Rd.no], ha⟩
  | d + 1, a, m, ha, hm => by
    intro h
    rw [rdValue] at h ⊢
    cases hc : s.data.toList[a]? with
    | none => exact ⟨by simp [Rd.no], ha⟩
    | some c =>
      have hlt := at_some hc
      rw [hc] at h
      dsimp only at h ⊢
      by_cases h1 : begins c = true
      · rw [if_pos h1] at h ⊢
        by_cases h2 : 4000 ≤ m
        · rw [if_pos h2]; exact ⟨by simp [Rd.no], ha⟩
        · rw [if_neg h2] at h ⊢
          by_cases h3 : c = 105
          · rw [if_pos h3] at h ⊢
            exact numberL_no s (a + 1) hlt h
          · rw [if_neg h3] at h ⊢
            by_cases h4 : c = 108
            · rw [if_pos h4] at h ⊢
              exact rdList_no _ s (fun a m ha hm => rdValue_no s d a m ha hm) (fun a m hm => rdValue_good s d a m hm) _ _ _ _ hlt (by omega) h
            · rw [if_neg h4] at h ⊢
              exact rdText_no s a _ ha h
      · rw [if_neg h1]; exact ⟨by simp [Rd.no], ha⟩
end Go.Proofs.YtdlnabjledhiiaaDoor
