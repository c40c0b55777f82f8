/-
  What code.Put writes of a value that may be, code.Get reads as that value: the plain law; without a condition but that the numbers are int64s.
-/
import Derived.Test.YtdlnabjledhiiaaDoorPvOnceP
namespace Go.Proofs.YtdlnabjledhiiaaDoor
open Go.RowKit
set_option linter.unusedVariables false

theorem from_size {s : ByteArray} {a : Nat} {l : List UInt8} (h : from_ s a = l) (h0 : l ≠ []) : a < s.size ∧ a + l.length = s.size := by
  have h1 := congrArg List.length h
  simp [from_] at h1
  have : 0 < l.length := List.length_pos_iff.2 h0
  omega
theorem from_app {s : ByteArray} {a : Nat} {l r : List UInt8} (h : from_ s a = l ++ r) : from_ s (a + l.length) = r := by
  have := congrArg (List.drop l.length) h
  simpa [from_, List.drop_drop] using this
theorem from_head {s : ByteArray} {a : Nat} {c : UInt8} {r : List UInt8} (h : from_ s a = c :: r) : s.data.toList[a]? = some c := by
  have := congrArg (fun l : List UInt8 => l[0]?) h
  simpa [from_] using this
theorem at_of {s : ByteArray} {a : Nat} {c : UInt8} (h : s.data.toList[a]? = some c) (h1 : a < s.size) : s[a] = c := by
  have := at_lt h1
  rw [h] at this
  exact (Option.some.inj this).symm
theorem ofNat_digit {d : Nat} (h : d < 10) : (UInt8.ofNat (48 + d)).toNat = 48 + d := by
  rw [UInt8.toNat_ofNat']; omega
theorem digits_read (s : ByteArray) (most b : Nat) (h9 : 9 ≤ most) (N : Nat) : N ≤ most → ∀ (f : Nat) (rest : List UInt8), from_ s b = Lib.decDigits N ++ rest →
    digitsL s most b (f + (Lib.decDigits N).length) 0 b = digitsL s most b f N (b + (Lib.decDigits N).length) := by
  induction N using Nat.strongRecOn with
  | _ N ih =>
    intro hN f rest h
    by_cases h1 : N < 10
    · rw [Lib.decDigits, dif_pos h1] at h ⊢
      obtain ⟨h2, -⟩ := from_size h (by simp)
      have h3 := at_of (from_head h) h2
      have h4 : s[b].toNat = 48 + N := by rw [h3]; exact ofNat_digit h1
      show digitsL s most b (f + 1) 0 b = _
      rw [digitsL, dif_pos h2, if_neg (by omega), if_neg (by omega), h4]
      simp
    · have hdec : Lib.decDigits N = Lib.decDigits (N / 10) ++ [UInt8.ofNat (48 + N % 10)] := by rw [Lib.decDigits, dif_neg h1]
      rw [hdec] at h ⊢
      rw [List.append_assoc] at h
      have h2 := ih (N / 10) (by omega) (by omega) (f + 1) _ h
      have h3 := from_app h
      obtain ⟨h4, -⟩ := from_size h3 (by simp)
      have h5 := at_of (from_head h3) h4
      have h6 : s[b + (Lib.decDigits (N / 10)).length].toNat = 48 + N % 10 := by rw [h5]; exact ofNat_digit (by omega)
      rw [List.length_append, show f + ((Lib.decDigits (N / 10)).length + [UInt8.ofNat (48 + N % 10)].length) = f + 1 + (Lib.decDigits (N / 10)).length by simp; omega, h2]
      rw [digitsL, dif_pos h4, if_neg (by omega), if_neg (by omega), h6]
      congr 1
      · omega
theorem dec_cons (N : Nat) : ∃ (d : UInt8) (r : List UInt8), Lib.decDigits N = d :: r ∧ 48 ≤ d.toNat ∧ d.toNat ≤ 57 ∧ (1 ≤ N → d ≠ 48) := by
  induction N using Nat.strongRecOn with
  | _ N ih =>
    by_cases h1 : N < 10
    · rw [Lib.decDigits, dif_pos h1]
      have := ofNat_digit h1
      refine ⟨_, _, rfl, by omega, by omega, fun h e => ?_⟩
      rw [e] at this
      have h2 : (48 : UInt8).toNat = 48 := rfl
      omega
    · obtain ⟨d, r, h2, h3, h4, h5⟩ := ih (N / 10) (by omega)
      rw [Lib.decDigits, dif_neg h1, h2]
      exact ⟨d, r ++ [UInt8.ofNat (48 + N % 10)], rfl, h3, h4, fun _ => h5 (by omega)⟩
theorem digits_end (s : ByteArray) (most b N : Nat) (h9 : 9 ≤ most) (hN : N ≤ most) (c : UInt8) (rest : List UInt8) (hc : c.toNat < 48 ∨ 57 < c.toNat) (h : from_ s b = Lib.decDigits N ++ c :: rest) :
    digitsL s most b (s.size + 1 - b) 0 b = (N, true, b + (Lib.decDigits N).length, 0) := by
  obtain ⟨h1, h2⟩ := from_size h (by simp)
  rw [List.length_append, List.length_cons] at h2
  obtain ⟨d, r, h3, -⟩ := dec_cons N
  have h4 := from_app h
  obtain ⟨h5, -⟩ := from_size h4 (by simp)
  have h6 := at_of (from_head h4) h5
  have h7 : 1 ≤ (Lib.decDigits N).length := by rw [h3]; simp
  rw [show s.size + 1 - b = (rest.length + 1 + 1) + (Lib.decDigits N).length by omega, digits_read s most b h9 N hN _ _ h, digitsL, dif_pos h5, if_pos (by rw [h6]; exact hc), if_neg (by omega)]
theorem must_read (s : ByteArray) (a : Nat) (c : UInt8) (rest : List UInt8) (h : from_ s a = c :: rest) : mustL s a c = (true, a + 1, 0) := by
  obtain ⟨h1, -⟩ := from_size h (by simp)
  unfold mustL
  rw [dif_pos h1, if_pos (at_of (from_head h) h1)]
theorem numTail_read (s : ByteArray) (most : Nat) (h9 : 9 ≤ most) (mi : Bool) (a N : Nat) (hN : N ≤ most) (rest : List UInt8) (h : from_ s a = Lib.decDigits N ++ 101 :: rest) :
    numTail s most mi a = ((if mi = true then -(N : Int) else (N : Int)), true, a + (Lib.decDigits N).length + 1, 0) := by
  unfold numTail
  rw [digits_end s most a N h9 hN 101 rest (by decide) h]
  dsimp only
  rw [must_read s _ 101 rest (from_app h)]
  simp
theorem number_read (s : ByteArray) (a : Nat) (n : Int) (h0 : -9223372036854775808 ≤ n) (h1 : n ≤ 9223372036854775807) (rest : List UInt8) (h : from_ s a = Lib.itoa n ++ 101 :: rest) :
    numberL s a = (n, true, a + (Lib.itoa n).length + 1, 0) := by
  unfold numberL
  by_cases hn : n < 0
  · have e : Lib.itoa n = 45 :: Lib.decDigits n.natAbs := by unfold Lib.itoa; rw [if_pos hn]
    rw [e] at h ⊢
    obtain ⟨d, r, h3, h4, h5, h6⟩ := dec_cons n.natAbs
    have h7 : from_ s (a + 1) = Lib.decDigits n.natAbs ++ 101 :: rest := from_app (l := [45]) h
    have h8 : s.data.toList[a + 1]? = some d := from_head (r := r ++ 101 :: rest) (by rw [h7, h3]; rfl)
    rw [if_pos (from_head h), if_neg (by rw [h8]; intro e; exact h6 (by omega) (Option.some.inj e)), numTail_read s _ (by decide) true _ n.natAbs (by omega) rest h7]
    simp only [if_true, List.length_cons]
    have e1 : -(n.natAbs : Int) = n := by omega
    have e2 : a + 1 + (Lib.decDigits n.natAbs).length + 1 = a + ((Lib.decDigits n.natAbs).length + 1) + 1 := by omega
    rw [e1, e2]
  · have e : Lib.itoa n = Lib.decDigits n.toNat := by unfold Lib.itoa; rw [if_neg hn]
    rw [e] at h ⊢
    obtain ⟨d, r, h3, h4, h5, h6⟩ := dec_cons n.toNat
    have h8 : s.data.toList[a]? = some d := from_head (r := r ++ 101 :: rest) (by rw [h, h3]; rfl)
    rw [if_neg (by rw [h8]; intro e; have := Option.some.inj e; rw [this] at h4; have h2 : (45 : UInt8).toNat = 45 := rfl; omega), numTail_read s _ (by decide) false _ n.toNat (by omega) rest h]
    have e1 : ((n.toNat : Nat) : Int) = n := by omega
    simp [e1]

theorem put_head : ∀ (v : V) (d : Nat), RightTo d v → ∃ c r, putL v = c :: r ∧ begins c = true ∧ c ≠ 101
  | .mk k n s l, 0, h => by simp only [RightTo] at h
  | .mk k n s l, d + 1, h => by
    rw [putL]
    split
    · exact ⟨105, _, rfl, rfl, by decide⟩
    · split
      · obtain ⟨c, r, h3, h4, h5, -⟩ := dec_cons s.size
        have e : Lib.itoa (s.size : Int) = Lib.decDigits s.size := by unfold Lib.itoa; rw [if_neg (by omega)]; rfl
        rw [e, h3]
        refine ⟨c, r ++ 58 :: s.data.toList, rfl, by simp [begins, h4, h5], fun e => ?_⟩
        rw [e] at h5
        have h2 : (101 : UInt8).toNat = 101 := rfl
        omega
      · exact ⟨108, _, rfl, rfl, by decide⟩
theorem size_zero {s : ByteArray} (h : s.size = 0) : s = ⟨#[]⟩ := by
  obtain ⟨⟨l⟩⟩ := s
  have : l = [] := List.eq_nil_of_length_eq_zero (by simpa [ByteArray.size] using h)
  subst this; rfl
/-- A value that may be, by its kind. -/
theorem right_forms {k n : Int} {s : ByteArray} {l : List V} (h : rightOne k n s l = true) : (k = 1 ∧ s = ⟨#[]⟩ ∧ l = []) ∨ (k = 2 ∧ n = 0 ∧ l = []) ∨ (k = 3 ∧ n = 0 ∧ s = ⟨#[]⟩) := by
  unfold rightOne at h
  split at h
  · simp at h; exact .inl ⟨by assumption, h.1, h.2⟩
  · split at h
    · simp at h; exact .inr (.inl ⟨by assumption, h.1, h.2⟩)
    · split at h
      · simp at h; exact .inr (.inr ⟨by assumption, h.1, h.2⟩)
      · cases h
theorem text_read (s t : ByteArray) (a m : Nat) (rest : List UInt8) (hs : s.size ≤ 131072) (h : from_ s a = Lib.itoa (t.size : Int) ++ 58 :: (t.data.toList ++ rest)) :
    rdText s a m = ⟨.mk 2 0 t [], true, a + (Lib.itoa (t.size : Int)).length + 1 + t.size, m, 0⟩ := by
  have e : Lib.itoa (t.size : Int) = Lib.decDigits t.size := by unfold Lib.itoa; rw [if_neg (by omega)]; rfl
  rw [e] at h ⊢
  obtain ⟨h1, h2⟩ := from_size h (by simp)
  have htl : t.data.toList.length = t.size := by simp
  rw [List.length_append, List.length_cons, List.length_append, htl] at h2
  have h3 := from_app h
  have h4 := from_app (l := [58]) h3
  rw [List.length_singleton] at h4
  unfold rdText
  rw [digits_end s 131072 a t.size (by decide) (by omega) 58 _ (by decide) h]
  dsimp only
  rw [must_read s _ 58 _ h3, if_pos rfl]
  dsimp only
  rw [if_pos rfl, if_neg (by omega)]
  have h5 : s.extract (a + (Lib.decDigits t.size).length + 1) (a + (Lib.decDigits t.size).length + 1 + t.size) = t := by
    have h6 := (extract_list s (a + (Lib.decDigits t.size).length + 1) t.size (by omega)).1
    rw [show from_ s (a + (Lib.decDigits t.size).length + 1) = t.data.toList ++ rest from h4, List.take_left' htl] at h6
    generalize s.extract _ _ = u at h6
    have := toArray_of u h6
    rw [← this]
  rw [h5]
theorem putL_one (n : Int) (s : ByteArray) (l : List V) : putL (.mk 1 n s l) = 105 :: (Lib.itoa n ++ [101]) := by rw [putL, if_pos rfl]
theorem putL_two (n : Int) (s : ByteArray) (l : List V) : putL (.mk 2 n s l) = Lib.itoa (s.size : Int) ++ 58 :: s.data.toList := by rw [putL, if_neg (by decide), if_pos rfl]
theorem putL_three (n : Int) (s : ByteArray) (l : List V) : putL (.mk 3 n s l) = 108 :: (putAll l ++ [101]) := by rw [putL, if_neg (by decide), if_neg (by decide)]
theorem putAll_ge : ∀ (l : List V) (d : Nat), (∀ y ∈ l, RightTo d y) → l.length ≤ (putAll l).length
  | [], d, _ => Nat.zero_le _
  | x :: r, d, h => by
    obtain ⟨c, q, h1, -, -⟩ := put_head x d (h x (List.mem_cons_self ..))
    have := putAll_ge r d (fun y hy => h y (List.mem_cons_of_mem _ hy))
    rw [putAll, h1]
    simp
    omega
mutual
theorem value_read (s : ByteArray) (hs : s.size ≤ 131072) : ∀ (v : V) (d a m : Nat) (rest : List UInt8), RightTo d v → v.InR → m + v.cnt ≤ 4000 → from_ s a = putL v ++ rest → rdValue s d a m = ⟨v, true, a + (putL v).length, m + v.cnt, 0⟩
  | .mk k n t l, 0, a, m, rest, h, _, _, _ => by simp only [RightTo] at h
  | .mk k n t l, d + 1, a, m, rest, h, hr, hm, hf => by
    obtain ⟨c, r, h1, h2, h3⟩ := put_head _ _ h
    have hat : s.data.toList[a]? = some c := from_head (r := r ++ rest) (by rw [hf, h1]; rfl)
    simp only [RightTo] at h
    simp only [V.InR] at hr
    have hc : V.cnt (.mk k n t l) = 1 + cntAll l := by rw [V.cnt]
    rw [hc] at hm ⊢
    rw [rdValue, hat]
    dsimp only
    rw [if_pos h2, if_neg (by omega)]
    rcases right_forms h.1 with ⟨rfl, rfl, rfl⟩ | ⟨rfl, rfl, rfl⟩ | ⟨rfl, rfl, rfl⟩
    · rw [putL_one] at hf h1 ⊢
      obtain rfl : c = 105 := by injection h1 with e _; exact e.symm
      rw [if_pos rfl]
      have h4 : from_ s (a + 1) = Lib.itoa n ++ 101 :: rest := by have := from_app (l := [105]) (r := Lib.itoa n ++ 101 :: rest) (by rw [hf]; simp); simpa using this
      unfold rdNumber
      rw [number_read s (a + 1) n hr.1.1 hr.1.2 rest h4]
      simp [cntAll]
      omega
    · rw [putL_two] at hf h1 ⊢
      have hd : c ≠ 105 ∧ c ≠ 108 := by
        obtain ⟨c', r', h5, h6, h7, -⟩ := dec_cons t.size
        have e : Lib.itoa (t.size : Int) = Lib.decDigits t.size := by unfold Lib.itoa; rw [if_neg (by omega)]; rfl
        rw [e, h5] at h1
        obtain rfl : c' = c := by injection h1
        constructor
        · intro e; rw [e] at h7; have : (105 : UInt8).toNat = 105 := rfl; omega
        · intro e; rw [e] at h7; have : (108 : UInt8).toNat = 108 := rfl; omega
      rw [if_neg hd.1, if_neg hd.2, text_read s t a (m + 1) rest hs (by rw [hf]; simp)]
      simp [cntAll]
      omega
    · rw [putL_three] at hf h1 ⊢
      obtain rfl : c = 108 := by injection h1 with e _; exact e.symm
      rw [if_neg (show ¬ ((108 : UInt8) = 105) by decide), if_pos rfl]
      have h4 : from_ s (a + 1) = putAll l ++ 101 :: rest := by have := from_app (l := [108]) (r := putAll l ++ 101 :: rest) (by rw [hf]; simp); simpa using this
      obtain ⟨h5, h6⟩ := from_size h4 (by simp)
      rw [List.length_append, List.length_cons] at h6
      have h7 := putAll_ge l d h.2
      rw [list_read s hs d l _ (a + 1) (m + 1) [] rest h.2 hr.2 (by omega) (by omega) h4]
      simp
      omega
theorem list_read (s : ByteArray) (hs : s.size ≤ 131072) (d : Nat) : ∀ (l : List V) (f a m : Nat) (acc : List V) (rest : List UInt8), (∀ y ∈ l, RightTo d y) → allInR l → m + cntAll l ≤ 4000 → l.length < f → from_ s a = putAll l ++ 101 :: rest →
    rdList (rdValue s d) s f a m acc = ⟨.mk 3 0 ⟨#[]⟩ (acc ++ l), true, a + (putAll l).length + 1, m + cntAll l, 0⟩
  | [], 0, a, m, acc, rest, _, _, _, hf, _ => by simp at hf
  | [], f + 1, a, m, acc, rest, _, _, _, _, h => by
    rw [putAll, List.nil_append] at h
    rw [rdList, if_pos (from_head h)]
    simp [putAll, cntAll]
  | x :: r, 0, a, m, acc, rest, _, _, _, hf, _ => by simp at hf
  | x :: r, f + 1, a, m, acc, rest, hd, hr, hm, hf, h => by
    simp only [allInR] at hr
    rw [cntAll] at hm ⊢
    rw [putAll] at h ⊢
    rw [List.append_assoc] at h
    have hx := hd x (List.mem_cons_self ..)
    obtain ⟨c, q, h1, -, h3⟩ := put_head x d hx
    have hat : s.data.toList[a]? = some c := from_head (r := q ++ (putAll r ++ 101 :: rest)) (by rw [h, h1]; rfl)
    rw [rdList, if_neg (by rw [hat]; intro e; exact h3 (Option.some.inj e)), value_read s hs x d a m _ hx hr.1 (by omega) h, if_pos rfl]
    dsimp only
    rw [list_read s hs d r f _ _ _ rest (fun y hy => hd y (List.mem_cons_of_mem _ hy)) hr.2 (by omega) (by simpa using hf) (from_app h)]
    simp
    omega
end

mutual
theorem rightGo_back : ∀ (x : V) (deep : Nat) (st : RS), (rightGo x deep st).many ≤ 4000 →
    (rightGo x deep st).many = st.many + x.cnt ∧ st.deepest ≤ (rightGo x deep st).deepest ∧ ∀ D, (rightGo x deep st).deepest ≤ D → (rightGo x deep st).ok = true → st.ok = true ∧ RightTo (D + 1 - deep) x ∧ deep ≤ D
  | .mk k n s l, deep, st, h => by
    rw [rightGo] at h ⊢
    rw [V.cnt]
    by_cases h1 : 4000 < st.many + 1
    · rw [if_pos h1] at h; dsimp only at h; omega
    · rw [if_neg h1] at h ⊢
      obtain ⟨h2, h3, h4⟩ := rightAll_back l (deep + 1) ⟨st.many + 1, max st.deepest deep, st.ok && rightOne k n s l⟩ h
      dsimp only at h2 h3 h4
      refine ⟨by omega, by omega, fun D hD hok => ?_⟩
      obtain ⟨h5, h6⟩ := h4 D hD hok
      rw [Bool.and_eq_true] at h5
      have hdd : deep ≤ D := by omega
      refine ⟨h5.1, ?_, hdd⟩
      rw [show D + 1 - deep = (D + 1 - (deep + 1)) + 1 by omega]
      simp only [RightTo]
      exact ⟨h5.2, h6⟩
theorem rightAll_back : ∀ (l : List V) (deep : Nat) (st : RS), (rightAll l deep st).many ≤ 4000 →
    (rightAll l deep st).many = st.many + cntAll l ∧ st.deepest ≤ (rightAll l deep st).deepest ∧ ∀ D, (rightAll l deep st).deepest ≤ D → (rightAll l deep st).ok = true → st.ok = true ∧ ∀ y ∈ l, RightTo (D + 1 - deep) y
  | [], deep, st, h => by rw [rightAll, cntAll] at *; exact ⟨rfl, Nat.le_refl _, fun D _ hok => ⟨hok, fun y hy => by cases hy⟩⟩
  | x :: r, deep, st, h => by
    rw [rightAll] at h ⊢
    rw [cntAll]
    obtain ⟨h1, h2, h3⟩ := rightAll_back r deep (rightGo x deep st) h
    have hm := rightAll_many r deep (rightGo x deep st)
    obtain ⟨h4, h5, h6⟩ := rightGo_back x deep st (by omega)
    refine ⟨by omega, by omega, fun D hD hok => ?_⟩
    obtain ⟨h7, h8⟩ := h3 D hD hok
    obtain ⟨h9, h10, -⟩ := h6 D (by omega) h7
    refine ⟨h9, fun y hy => ?_⟩
    rcases List.mem_cons.1 hy with rfl | hy
    · exact h10
    · exact h8 y hy
end
theorem rightL_to {v : V} (h : rightL v = 0) : RightTo 30 v ∧ v.cnt ≤ 4000 := by
  unfold rightL at h
  dsimp only at h
  by_cases h1 : 4000 < (rightGo v 1 ⟨0, 0, true⟩).many
  · rw [if_pos h1] at h; simp at h
  · rw [if_neg h1] at h
    by_cases h2 : 30 < (rightGo v 1 ⟨0, 0, true⟩).deepest
    · rw [if_pos h2] at h; simp at h
    · rw [if_neg h2] at h
      cases h3 : (rightGo v 1 ⟨0, 0, true⟩).ok with
      | false => rw [h3] at h; simp at h
      | true =>
        obtain ⟨h4, -, h5⟩ := rightGo_back v 1 ⟨0, 0, true⟩ (by omega)
        dsimp only at h4
        exact ⟨(h5 30 (by omega) h3).2.1, by omega⟩
/-- What is written is read again. -/
theorem put_back {v : V} {s : ByteArray} (hr : v.InR) (h : putGot v = (s, 0)) : getL s = ⟨v, 0, 0⟩ ∧ RightTo 30 v ∧ v.cnt ≤ 4000 ∧ s.size ≤ 131072 ∧ s.data.toList = putL v := by
  unfold putGot at h
  by_cases h1 : rightL v ≠ 0
  · rw [if_pos h1] at h; exact absurd (congrArg Prod.snd h) h1
  · rw [if_neg h1] at h
    have h1 : rightL v = 0 := Classical.byContradiction h1
    by_cases h2 : 131072 < (putL v).length
    · rw [if_pos h2] at h; have := congrArg Prod.snd h; simp at this
    · rw [if_neg h2] at h
      obtain rfl : ⟨(putL v).toArray⟩ = s := congrArg Prod.fst h
      obtain ⟨h3, h4⟩ := rightL_to h1
      have hsz : (⟨(putL v).toArray⟩ : ByteArray).size = (putL v).length := by simp [ByteArray.size]
      have h5 := value_read ⟨(putL v).toArray⟩ (by rw [hsz]; omega) v 30 0 0 [] h3 hr (by omega) (by simp [from_])
      refine ⟨?_, h3, h4, by rw [hsz]; omega, rfl⟩
      unfold getL
      rw [if_neg (by rw [hsz]; omega), h5, if_pos rfl]
      dsimp only
      rw [if_neg (by rw [hsz]; omega)]
end Go.Proofs.YtdlnabjledhiiaaDoor
