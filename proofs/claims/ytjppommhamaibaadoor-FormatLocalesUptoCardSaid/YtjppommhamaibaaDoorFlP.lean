/-
  Locales in plain Lean: which texts are one, its parts, whom it asks; without a condition.
-/
import Derived.Test.YtjppommhamaibaaDoorMem
import Derived.Lib.CountLaws
import Derived.Lib.CutLaws
import Derived.Lib.IndexLaws
import Derived.Lib.Split
import Derived.Lib.SlTrimSet
import Derived.Lib.LastIndexByte
namespace Go.Proofs.YtjppommhamaibaaDoor
set_option linter.unusedVariables false

def sgn (c : UInt8) : Bool := (decide (97 ≤ c.toNat) && decide (c.toNat ≤ 122)) || (decide (65 ≤ c.toNat) && decide (c.toNat ≤ 90)) || (decide (48 ≤ c.toNat) && decide (c.toNat ≤ 57))
theorem sgn_dash {c : UInt8} (h : sgn c = true) : c ≠ 45 := fun e => by subst e; revert h; decide
/-- Signs and single dashes, none at the ends; b: a dash, or nothing, stands ahead. -/
def okS : Bool → List UInt8 → Bool
  | b, [] => !b
  | b, c :: r => if sgn c = true then okS false r else if c = 45 ∧ b = false then okS true r else false
def locL (l : List UInt8) : Bool := decide (l.length ≤ 32) && okS true l
/-- A place where the text can't be a locale. -/
def badA (l : List UInt8) (i : Nat) : Bool := match l[i]? with
  | none => false
  | some c => !sgn c && (c != 45 || i == 0 || decide ((i : Int) = (l.length : Int) - 1) || l[i - 1]? == some 45)

theorem okS_bad (l : List UInt8) : ∀ (d k : Nat), k + d = l.length → ∀ b, (b = true ↔ (k = 0 ∨ l[k - 1]? = some 45)) → (okS b (l.drop k) = true ↔ (∀ i, k ≤ i → badA l i = false) ∧ (d = 0 → b = false)) := by
  intro d
  induction d with
  | zero =>
    intro k hk b hb
    have e : l.drop k = [] := List.drop_of_length_le (by omega)
    rw [e, okS]
    constructor
    · intro h
      refine ⟨fun i hi => ?_, fun _ => by simpa using h⟩
      unfold badA
      rw [List.getElem?_eq_none (by omega)]
    · intro h
      simpa using h.2 rfl
  | succ d ih =>
    intro k hk b hb
    have hkl : k < l.length := by omega
    rw [List.drop_eq_getElem_cons hkl, okS]
    have hbk : badA l k = (!sgn l[k] && (l[k] != 45 || k == 0 || decide ((k : Int) = (l.length : Int) - 1) || l[k - 1]? == some 45)) := by
      unfold badA
      rw [List.getElem?_eq_getElem hkl]
    have split : (∀ i, k ≤ i → badA l i = false) ↔ (badA l k = false ∧ ∀ i, k + 1 ≤ i → badA l i = false) := by
      constructor
      · intro h
        exact ⟨h k (Nat.le_refl _), fun i hi => h i (by omega)⟩
      · intro h i hi
        by_cases hik : i = k
        · subst hik; exact h.1
        · exact h.2 i (by omega)
    by_cases hs : sgn l[k] = true
    · rw [if_pos hs, ih (k + 1) (by omega) false ?_, split, hbk, hs]
      · simp
      · rw [Nat.add_sub_cancel, List.getElem?_eq_getElem hkl]
        have := sgn_dash hs
        simp [this]
    · have hs' : sgn l[k] = false := by simpa using hs
      rw [if_neg hs]
      by_cases hc : l[k] = 45 ∧ b = false
      · obtain ⟨hc1, rfl⟩ := hc
        rw [if_pos ⟨hc1, rfl⟩, ih (k + 1) (by omega) true ?_, split, hbk, hs', hc1]
        · have h0 : ¬ (k = 0 ∨ l[k - 1]? = some 45) := fun h => by have := hb.2 h; cases this
          have h1 : (k == 0) = false := by simp; intro e; exact h0 (.inl e)
          have h2 : (l[k - 1]? == some 45) = false := by rw [beq_eq_false_iff_ne]; intro e; exact h0 (.inr e)
          rw [h1, h2]
          simp only [Bool.not_false, Bool.true_and, bne_self_eq_false, Bool.false_or, Bool.or_false, decide_eq_false_iff_not, Nat.succ_ne_zero, false_implies, and_true, Bool.true_eq_false, imp_false]
          constructor
          · rintro ⟨h3, h4⟩; exact ⟨by omega, h3⟩
          · rintro ⟨h3, h4⟩; exact ⟨h4, by omega⟩
        · rw [Nat.add_sub_cancel, List.getElem?_eq_getElem hkl, hc1]; simp
      · rw [if_neg hc, split, hbk, hs']
        constructor
        · intro h; cases h
        · rintro ⟨⟨h1, _⟩, _⟩
          exfalso
          simp only [Bool.not_false, Bool.true_and, Bool.or_eq_false_iff] at h1
          obtain ⟨⟨⟨h2, h3⟩, h4⟩, h5⟩ := h1
          have hc1 : l[k] = 45 := by simpa using h2
          refine hc ⟨hc1, ?_⟩
          cases hbb : b with
          | false => rfl
          | true =>
            rcases hb.1 hbb with h | h
            · simp [h] at h3
            · simp [h] at h5
theorem okS_is (l : List UInt8) : okS true l = true ↔ (∀ i, badA l i = false) ∧ 1 ≤ l.length := by
  have h := okS_bad l l.length 0 (by omega) true (by simp)
  rw [List.drop_zero] at h
  rw [h]
  constructor
  · rintro ⟨h1, h2⟩
    refine ⟨fun i => h1 i (Nat.zero_le _), ?_⟩
    by_cases h0 : l.length = 0
    · have := h2 h0; cases this
    · omega
  · rintro ⟨h1, h2⟩
    exact ⟨fun i _ => h1 i, fun h0 => by omega⟩

/-! Cut at the dashes -/
def partOk (p : ByteArray) : Bool := decide (p.size ≠ 0) && p.data.toList.all sgn
theorem okS_signs : ∀ (p : List UInt8) (b : Bool), (∀ i : Nat, p[i]? ≠ some 45) → okS b p = (if p = [] then !b else p.all sgn)
  | [], b, _ => by simp [okS]
  | c :: r, b, h => by
    have hc : c ≠ 45 := fun e => h 0 (by simp [e])
    have ih := okS_signs r false (fun i e => h (i + 1) (by simpa using e))
    rw [okS, if_neg (show ¬ (c :: r = []) by simp), List.all_cons]
    by_cases hs : sgn c = true
    · rw [if_pos hs, ih, hs]
      cases r <;> simp
    · rw [if_neg hs, if_neg (fun e => hc e.1)]
      simp [hs]
theorem okS_cut : ∀ (p r : List UInt8) (b : Bool), (∀ i : Nat, p[i]? ≠ some 45) → okS b (p ++ 45 :: r) = ((if p = [] then !b else p.all sgn) && okS true r)
  | [], r, b, _ => by
    rw [List.nil_append, okS, if_neg (by decide)]
    cases b <;> simp
  | c :: p, r, b, h => by
    have hc : c ≠ 45 := fun e => h 0 (by simp [e])
    have ih := okS_cut p r false (fun i e => h (i + 1) (by simpa using e))
    rw [List.cons_append, okS, if_neg (show ¬ (c :: p = []) by simp), List.all_cons]
    by_cases hs : sgn c = true
    · rw [if_pos hs, ih, hs]
      cases p <;> simp
    · rw [if_neg hs, if_neg (fun e => hc e.1)]
      simp [hs]
def dashB : ByteArray := ⟨#[45]⟩
theorem indexB_dash (s : ByteArray) : Lib.indexB s dashB = Lib.indexByte s.data.toList 45 := by
  rw [Lib.one s dashB rfl]
  rfl
theorem parts_ok : ∀ (k : Nat) (s : ByteArray), Lib.countB s dashB = k → (Lib.splitB dashB 0 k s).all partOk = okS true s.data.toList := by
  intro k
  induction k with
  | zero =>
    intro s hk
    rw [Lib.splitB_zero]
    rcases Lib.indexB_cases s dashB with h | ⟨i, h, hi⟩
    · have hn := Lib.indexByte_none (by rw [← indexB_dash]; exact h)
      rw [okS_signs _ _ hn, List.all_cons, List.all_nil, Bool.and_true, partOk]
      rw [size_len]
      cases he : s.data.toList <;> simp
    · have := Lib.countB_hit s dashB i (by decide) h
      omega
  | succ k ih =>
    intro s hk
    rcases Lib.indexB_cases s dashB with h | ⟨i, h, hi⟩
    · have := Lib.countB_miss s dashB h
      omega
    · have hc := Lib.countB_hit s dashB i (by decide) h
      have hx := ih (s.extract (i + dashB.size) s.size) (by omega)
      rw [Lib.splitB_hit _ _ _ _ _ h, List.all_cons, hx]
      obtain ⟨h1, h2⟩ := Lib.indexByte_some (by rw [← indexB_dash]; exact h)
      have hil : i < s.data.toList.length := (List.getElem?_eq_some_iff.1 h1).1
      have hsp : s.data.toList = s.data.toList.take i ++ 45 :: s.data.toList.drop (i + 1) := by
        conv => lhs; rw [← List.take_append_drop i s.data.toList, List.drop_eq_getElem_cons hil]
        rw [(List.getElem?_eq_some_iff.1 h1).2]
      have hno : ∀ j : Nat, (s.data.toList.take i)[j]? ≠ some 45 := by
        intro j e
        rw [List.getElem?_take] at e
        split at e
        · exact h2 j (by omega) e
        · cases e
      have e1 : (s.extract 0 (i + 0)).data.toList = s.data.toList.take i := by simp
      have e2 : (s.extract (i + dashB.size) s.size).data.toList = s.data.toList.drop (i + 1) := by
        have : dashB.size = 1 := rfl
        rw [this, extract_strOf, strOf_list, List.take_of_length_le]
        rw [List.length_drop, size_len]
        omega
      rw [e2]
      have hr := okS_cut (s.data.toList.take i) (s.data.toList.drop (i + 1)) true hno
      rw [← hsp] at hr
      rw [hr]
      congr 1
      unfold partOk
      rw [size_len, e1]
      cases he : List.take i s.data.toList <;> simp
theorem count_le : ∀ (k : Nat) (s : ByteArray), Lib.countB s dashB = k → k ≤ s.size := by
  intro k
  induction k with
  | zero => intro s _; exact Nat.zero_le _
  | succ k ih =>
    intro s hk
    rcases Lib.indexB_cases s dashB with h | ⟨i, h, hi⟩
    · have := Lib.countB_miss s dashB h
      omega
    · have hc := Lib.countB_hit s dashB i (by decide) h
      have hx := ih (s.extract (i + dashB.size) s.size) (by omega)
      have hd : dashB.size = 1 := rfl
      rw [ByteArray.size_extract] at hx
      omega
theorem split_size : ∀ (k : Nat) (s : ByteArray), ∀ p ∈ Lib.splitB dashB 0 k s, p.size ≤ s.size := by
  intro k
  induction k with
  | zero => intro s p hp; rw [Lib.splitB_zero] at hp; rw [List.mem_singleton.1 hp]; exact Nat.le_refl _
  | succ k ih =>
    intro s p hp
    rcases Lib.indexB_cases s dashB with h | ⟨i, h, hi⟩
    · rw [Lib.splitB_miss _ _ _ _ h] at hp
      rw [List.mem_singleton.1 hp]; exact Nat.le_refl _
    · rw [Lib.splitB_hit _ _ _ _ _ h] at hp
      rcases List.mem_cons.1 hp with rfl | hp
      · rw [ByteArray.size_extract]; omega
      · have := ih _ p hp
        rw [ByteArray.size_extract] at this
        omega
theorem all_takeW {α : Type} (p : α → Bool) : ∀ (l : List α), ∀ x ∈ l.takeWhile p, p x = true
  | [], x, h => by cases h
  | a :: r, x, h => by
    rw [List.takeWhile_cons] at h
    split at h
    · rename_i ha
      rcases List.mem_cons.1 h with rfl | h
      · exact ha
      · exact all_takeW p r x h
    · cases h
theorem dropW_nil {α : Type} (p : α → Bool) : ∀ (l : List α), (∀ x ∈ l, p x = true) → l.dropWhile p = []
  | [], _ => rfl
  | a :: r, h => by
    rw [List.dropWhile_cons, if_pos (h a (List.mem_cons_self ..))]
    exact dropW_nil p r fun x hx => h x (List.mem_cons_of_mem _ hx)
theorem takeW_self {α : Type} (p : α → Bool) : ∀ (l : List α), (∀ x ∈ l, p x = true) → l.takeWhile p = l
  | [], _ => rfl
  | a :: r, h => by
    rw [List.takeWhile_cons, if_pos (h a (List.mem_cons_self ..)), takeW_self p r fun x hx => h x (List.mem_cons_of_mem _ hx)]
/-- What Trim leaves of a text that has but the set's bytes. -/
theorem trim_nil (l cs : List UInt8) : (Lib.trimS l cs = []) ↔ l.all (cs.contains ·) = true := by
  unfold Lib.trimS Lib.trimLeftS Lib.trimRightS
  rw [List.all_eq_true]
  constructor
  · intro h
    have h1 : ∀ x ∈ (l.reverse.dropWhile (cs.contains ·)).reverse, cs.contains x = true := by
      intro x hx
      have := List.takeWhile_append_dropWhile (p := (cs.contains ·)) (l := (l.reverse.dropWhile (cs.contains ·)).reverse)
      rw [h, List.append_nil] at this
      rw [← this] at hx
      exact all_takeW _ _ x hx
    intro x hx
    have h2 := List.takeWhile_append_dropWhile (p := (cs.contains ·)) (l := l.reverse)
    have h3 : x ∈ l.reverse := List.mem_reverse.2 hx
    rw [← h2, List.mem_append] at h3
    rcases h3 with h3 | h3
    · exact all_takeW _ _ x h3
    · exact h1 x (List.mem_reverse.2 h3)
  · intro h
    have h1 : l.reverse.dropWhile (cs.contains ·) = [] := by
      refine dropW_nil _ _ ?_
      intro x hx
      exact h x (List.mem_reverse.1 hx)
    rw [h1]
    rfl

/-! The language, and whom a locale asks -/
def langL (l : List UInt8) : List UInt8 := l.takeWhile (· != 45)
/-- The beginnings ahead of the dashes below k, the longest one first. -/
def cutsD (l : List UInt8) : Nat → List (List UInt8)
  | 0 => []
  | i + 1 => if 1 ≤ i ∧ l[i]? = some 45 then l.take i :: cutsD l i else cutsD l i
def chainL (l : List UInt8) : List (List UInt8) := (if l = [] then [] else l :: cutsD l l.length) ++ [[]]
theorem cutsD_none (l : List UInt8) : ∀ k, (∀ j, 1 ≤ j → j < k → l[j]? ≠ some 45) → cutsD l k = []
  | 0, _ => rfl
  | k + 1, h => by
    rw [cutsD, if_neg (fun e => h k e.1 (by omega) e.2), cutsD_none l k (fun j h1 h2 => h j h1 (by omega))]
theorem cutsD_some (l : List UInt8) : ∀ k i, 1 ≤ i → i < k → l[i]? = some 45 → (∀ j, i < j → j < k → l[j]? ≠ some 45) → cutsD l k = l.take i :: cutsD l i
  | 0, _, _, h, _, _ => absurd h (Nat.not_lt_zero _)
  | k + 1, i, h0, h1, h2, h3 => by
    by_cases hik : i = k
    · subst hik
      rw [cutsD, if_pos ⟨h0, h2⟩]
    · rw [cutsD, if_neg (fun e => h3 k (by omega) (by omega) e.2), cutsD_some l k i h0 (by omega) h2 (fun j h4 h5 => h3 j h4 (by omega))]
theorem cutsD_take (l : List UInt8) (m : Nat) : ∀ k, k ≤ m → cutsD (l.take m) k = cutsD l k
  | 0, _ => rfl
  | k + 1, h => by
    simp only [cutsD]
    rw [cutsD_take l m k (by omega), List.getElem?_take, if_pos (show k < m by omega), List.take_take, Nat.min_eq_left (show k ≤ m by omega)]
theorem data_at (s : ByteArray) (j : Nat) (h : j < s.size) : s.data.toList[j]? = some (s.data[j]!) := by
  have h' : j < s.data.size := h
  rw [getElem!_pos s.data j h', Array.getElem?_toList, Array.getElem?_eq_getElem h']
theorem toNat45 (c : UInt8) : ((c.toNat : Int) = 45) ↔ c = 45 := by
  constructor
  · intro h
    have : c.toNat = 45 := by omega
    exact UInt8.toNat_inj.1 (by rw [this]; rfl)
  · rintro rfl; rfl
/-- The next text that is asked. -/
def nextS (s : ByteArray) : ByteArray := s.extract 0 (max (Lib.lastIndexByte s 45) 0).toNat
theorem next_cuts (s : ByteArray) : cutsD s.data.toList s.data.toList.length = (if (nextS s).data.toList = [] then [] else (nextS s).data.toList :: cutsD (nextS s).data.toList (nextS s).data.toList.length) ∧ (s.size ≠ 0 → (nextS s).size < s.size) ∧ (max (Lib.lastIndexByte s 45) 0).toNat ≤ s.size := by
  have hls : s.size = s.data.toList.length := size_len s
  have key : ∀ m, m ≤ s.size → (s.extract 0 m).data.toList = s.data.toList.take m := fun m _ => by simp
  unfold nextS Lib.lastIndexByte
  rcases Lib.lastIdx_spec s 45 s.size with ⟨h1, h2⟩ | ⟨i, hi, h1, h2, h3⟩
  · rw [h1]
    have e : (max (-1 : Int) 0).toNat = 0 := rfl
    rw [e, key 0 (by omega), List.take_zero, if_pos rfl]
    refine ⟨?_, fun h => ?_, by omega⟩
    · refine cutsD_none _ _ fun j _ h4 e => ?_
      rw [data_at s j (by omega)] at e
      exact h2 j (by omega) ((toNat45 _).2 (Option.some.inj e))
    · rw [ByteArray.size_extract]; omega
  · rw [h1]
    have e : (max (i : Int) 0).toNat = i := by omega
    rw [e, key i (by omega)]
    refine ⟨?_, fun h => by rw [ByteArray.size_extract]; omega, by omega⟩
    by_cases h0 : i = 0
    · subst h0
      rw [List.take_zero, if_pos rfl]
      refine cutsD_none _ _ fun j h4 h5 e => ?_
      rw [data_at s j (by omega)] at e
      exact h3 j (by omega) (by omega) ((toNat45 _).2 (Option.some.inj e))
    · rw [if_neg (fun e => by have := congrArg List.length e; rw [List.length_take, List.length_nil] at this; omega)]
      rw [cutsD_some s.data.toList _ i (by omega) (by omega) (by rw [data_at s i hi, (toNat45 _).1 h2]) (fun j h4 h5 e => by
        rw [data_at s j (by omega)] at e
        exact h3 j h4 (by omega) ((toNat45 _).2 (Option.some.inj e)))]
      rw [cutsD_take _ _ _ (by rw [List.length_take]; omega), List.length_take, Nat.min_eq_left (by omega)]
/-- Cut gives the language. -/
theorem cut_lang (s : ByteArray) : (Lib.cut s.data.toList dashB.data.toList).1 = langL s.data.toList := by
  unfold Lib.cut langL
  have he : Lib.index s.data.toList dashB.data.toList = Lib.indexByte s.data.toList 45 := Lib.index_one _ _
  rw [he]
  by_cases h0 : 0 ≤ Lib.indexByte s.data.toList 45
  · rw [if_pos h0]
    obtain ⟨i, hi⟩ : ∃ i : Nat, Lib.indexByte s.data.toList 45 = i := ⟨(Lib.indexByte s.data.toList 45).toNat, by omega⟩
    obtain ⟨h1, h2⟩ := Lib.indexByte_some hi
    have hil : i < s.data.toList.length := (List.getElem?_eq_some_iff.1 h1).1
    rw [hi]
    show s.data.toList.take i = _
    generalize s.data.toList = l at *
    have hsp : l = l.take i ++ l[i] :: l.drop (i + 1) := by rw [← List.drop_eq_getElem_cons hil, List.take_append_drop]
    have hli : l[i] = 45 := (List.getElem?_eq_some_iff.1 h1).2
    conv => rhs; rw [hsp, hli]
    rw [List.takeWhile_append_of_pos, List.takeWhile_cons_of_neg (by simp), List.append_nil]
    intro x hx
    obtain ⟨j, hj, rfl⟩ := List.getElem_of_mem hx
    rw [List.length_take] at hj
    have := h2 j (by omega)
    rw [List.getElem?_eq_getElem (by omega)] at this
    rw [List.getElem_take]
    simpa using this
  · rw [if_neg h0]
    have hm : Lib.indexByte s.data.toList 45 = -1 := by have := Lib.indexByte_ge s.data.toList 45; omega
    have hn := Lib.indexByte_none hm
    show s.data.toList = _
    symm
    refine takeW_self _ _ ?_
    intro x hx
    obtain ⟨j, hj, rfl⟩ := List.getElem_of_mem hx
    have := hn j
    rw [List.getElem?_eq_getElem hj] at this
    simpa using this
theorem ba_empty {s : ByteArray} (h : s.size = 0) : s = ⟨#[]⟩ := by
  obtain ⟨⟨l⟩⟩ := s
  have : l = [] := List.eq_nil_of_length_eq_zero h
  subst this
  rfl
/-- The set of Trim. -/
def signs : ByteArray := ⟨#[97, 98, 99, 100, 101, 102, 103, 104, 105, 106, 107, 108, 109, 110, 111, 112, 113, 114, 115, 116, 117, 118, 119, 120, 121, 122, 65, 66, 67, 68, 69, 70, 71, 72, 73, 74, 75, 76, 77, 78, 79, 80, 81, 82, 83, 84, 85, 86, 87, 88, 89, 90, 48, 49, 50, 51, 52, 53, 54, 55, 56, 57]⟩
theorem signs_all : ∀ n : Fin 256, signs.data.toList.contains (UInt8.ofNat n.val) = sgn (UInt8.ofNat n.val) := by decide +kernel
theorem signs_sgn (c : UInt8) : signs.data.toList.contains c = sgn c := by
  have h := signs_all ⟨c.toNat, c.toNat_lt⟩
  have e : UInt8.ofNat c.toNat = c := by simp
  rw [e] at h
  exact h
theorem signs_ascii : ∀ (j : Nat) b, signs.data.toList[j]? = some b → b.toNat < 128 := by
  have h : signs.data.toList.all (fun b => decide (b.toNat < 128)) = true := by decide +kernel
  intro j b hj
  exact of_decide_eq_true (List.all_eq_true.1 h b (List.mem_of_getElem? hj))
theorem part_trim (p : ByteArray) : partOk p = (decide (p.size ≠ 0) && decide (Lib.trimS p.data.toList signs.data.toList = [])) := by
  unfold partOk
  congr 1
  rw [Bool.eq_iff_iff, decide_eq_true_eq, trim_nil]
  constructor
  · intro h
    rw [List.all_eq_true] at h ⊢
    intro x hx
    rw [signs_sgn]
    exact h x hx
  · intro h
    rw [List.all_eq_true] at h ⊢
    intro x hx
    rw [← signs_sgn]
    exact h x hx
end Go.Proofs.YtjppommhamaibaaDoor
