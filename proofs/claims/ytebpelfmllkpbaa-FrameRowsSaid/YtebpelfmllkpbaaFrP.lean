/-
  Frames as plain lists: the frame at a text's beginning, told in the program's way and in the reference's way; all frames from a place on; plain law, without a condition.
-/
import Derived.Test.YtebpelfmllkpbaaFrWalkB
namespace Go.Proofs.Ytebpelfmllkpbaa

/-- The number of a text's first four bytes, the lowest first. -/
def num4 (l : List UInt8) : Nat := (l[0]?.getD 0).toNat + 256 * (l[1]?.getD 0).toNat + 65536 * (l[2]?.getD 0).toNat + 16777216 * (l[3]?.getD 0).toNat
theorem num4_lt (l : List UInt8) : num4 l < 4294967296 := by
  unfold num4
  have h0 := byte_lt (l[0]?.getD 0); have h1 := byte_lt (l[1]?.getD 0); have h2 := byte_lt (l[2]?.getD 0); have h3 := byte_lt (l[3]?.getD 0)
  omega
/-- A number's four bytes. -/
def le4 (n : Nat) : List UInt8 := [UInt8.ofNat (n % 256), UInt8.ofNat (n / 256 % 256), UInt8.ofNat (n / 65536 % 256), UInt8.ofNat (n / 16777216)]
theorem le4_length (n : Nat) : (le4 n).length = 4 := rfl
theorem ofNat_small (m : Nat) (h : m < 256) : (UInt8.ofNat m).toNat = m := by
  rw [UInt8.toNat_ofNat']; exact Nat.mod_eq_of_lt h
theorem num4_le4 (n : Nat) (h : n < 4294967296) (r : List UInt8) : num4 (le4 n ++ r) = n := by
  have e : num4 (le4 n ++ r) = (UInt8.ofNat (n % 256)).toNat + 256 * (UInt8.ofNat (n / 256 % 256)).toNat + 65536 * (UInt8.ofNat (n / 65536 % 256)).toNat + 16777216 * (UInt8.ofNat (n / 16777216)).toNat := rfl
  rw [e, ofNat_small _ (by omega), ofNat_small _ (by omega), ofNat_small _ (by omega), ofNat_small _ (by omega)]
  omega
theorem le4_num4 (l : List UInt8) (h : l.length = 4) : le4 (num4 l) = l := by
  match l, h with
  | [a, b, c, d], _ =>
    have ha := byte_lt a; have hb := byte_lt b; have hc := byte_lt c; have hd := byte_lt d
    have e : num4 [a, b, c, d] = a.toNat + 256 * b.toNat + 65536 * c.toNat + 16777216 * d.toNat := rfl
    rw [e]
    unfold le4
    have g : ∀ (x : UInt8) (m : Nat), m = x.toNat → UInt8.ofNat m = x := fun x m hm => by rw [hm]; exact UInt8.ofNat_toNat
    rw [g a _ (by omega), g b _ (by omega), g c _ (by omega), g d _ (by omega)]
theorem num4_take (l : List UInt8) : num4 (l.take 4) = num4 l := by
  unfold num4
  simp
theorem num4_inj {a b : List UInt8} (ha : a.length = 4) (hb : b.length = 4) (h : num4 a = num4 b) : a = b := by rw [← le4_num4 a ha, ← le4_num4 b hb, h]
theorem four_le4 (n : Nat) : (four (n : Int)).data.toList = le4 n := by
  unfold four
  rw [strOfNums_data]
  have e1 : ((n : Int) % 256).toNat = n % 256 := by omega
  have e2 : ((n : Int) / 256 % 256).toNat = n / 256 % 256 := by omega
  have e3 : ((n : Int) / 65536 % 256).toNat = n / 65536 % 256 := by omega
  have e4 : ((n : Int) / 16777216).toNat = n / 16777216 := by omega
  simp only [List.map_cons, List.map_nil, e1, e2, e3, e4, le4]
/-- The frame of a body, as bytes. -/
def frameL (b : List UInt8) : List UInt8 := le4 b.length ++ le4 (sum32 (le4 b.length)) ++ b ++ le4 (sum32 b)
theorem frameL_length (b : List UInt8) : (frameL b).length = b.length + 12 := by simp [frameL, le4_length]; omega
theorem appl (a b : ByteArray) : (a ++ b).data.toList = a.data.toList ++ b.data.toList := by simp
theorem frameOf_list (s : ByteArray) : (frameOf s).data.toList = frameL s.data.toList := by
  have h1 : (head4 s).data.toList = le4 s.data.toList.length := by unfold head4; rw [four_le4, size_len]
  have h2 : ∀ t : ByteArray, (four (sumI t)).data.toList = le4 (sum32 t.data.toList) := fun t => by unfold sumI; exact four_le4 _
  simp only [← frameOf_eq, appl, h2, h1, frameL]
/-- The body of the frame that a text begins with: the program's tests, in their order. -/
def oneL (l : List UInt8) : Option (List UInt8) :=
  if l.length < 12 then none
  else if sum32 (l.take 4) ≠ num4 (l.drop 4) then none
  else if 65536 < num4 l ∨ l.length - 12 < num4 l then none
  else if sum32 ((l.drop 8).take (num4 l)) ≠ num4 (l.drop (8 + num4 l)) then none
  else some ((l.drop 8).take (num4 l))
/-- .. and the reference's. -/
def oneR (l : List UInt8) : Option (List UInt8) :=
  if l.length < 12 then none
  else if 65536 < num4 l ∨ l.length < num4 l + 12 then none
  else if frameL ((l.drop 8).take (num4 l)) = l.take (num4 l + 12) then some ((l.drop 8).take (num4 l)) else none
theorem split4 (l : List UInt8) (n : Nat) (_h : n + 12 ≤ l.length) : l.take (n + 12) = l.take 4 ++ (l.drop 4).take 4 ++ (l.drop 8).take n ++ (l.drop (8 + n)).take 4 := by
  have e1 : n + 12 = 4 + (4 + (n + 4)) := by omega
  rw [e1, List.take_add, List.take_add, List.take_add, List.drop_drop, List.drop_drop]
  simp only [List.append_assoc]
theorem app4 {a b c d a' b' c' d' : List UInt8} (ha : a.length = a'.length) (hb : b.length = b'.length) (hc : c.length = c'.length) : a ++ b ++ c ++ d = a' ++ b' ++ c' ++ d' ↔ a = a' ∧ b = b' ∧ c = c' ∧ d = d' := by
  simp only [List.append_assoc]
  constructor
  · intro h
    obtain ⟨h1, h⟩ := List.append_inj h ha
    obtain ⟨h2, h⟩ := List.append_inj h hb
    obtain ⟨h3, h4⟩ := List.append_inj h hc
    exact ⟨h1, h2, h3, h4⟩
  · rintro ⟨rfl, rfl, rfl, rfl⟩; rfl
theorem oneR_eq (l : List UInt8) : oneR l = oneL l := by
  unfold oneR oneL
  by_cases h12 : l.length < 12
  · rw [if_pos h12, if_pos h12]
  · rw [if_neg h12, if_neg h12]
    by_cases hn : 65536 < num4 l ∨ l.length < num4 l + 12
    · rw [if_pos hn]
      by_cases hs : sum32 (l.take 4) ≠ num4 (l.drop 4)
      · rw [if_pos hs]
      · rw [if_neg hs, if_pos (by omega)]
    · rw [if_neg hn]
      have hb : ((l.drop 8).take (num4 l)).length = num4 l := by simp; omega
      have hhead : le4 (num4 l) = l.take 4 := by rw [← num4_take, le4_num4 _ (by simp; omega)]
      have hiff : frameL ((l.drop 8).take (num4 l)) = l.take (num4 l + 12) ↔ sum32 (l.take 4) = num4 (l.drop 4) ∧ sum32 ((l.drop 8).take (num4 l)) = num4 (l.drop (8 + num4 l)) := by
        rw [split4 l (num4 l) (by omega)]
        unfold frameL
        rw [hb, hhead, app4 rfl (by rw [le4_length]; simp; omega) rfl]
        have g : ∀ (x : Nat) (m : List UInt8), x < 4294967296 → 4 ≤ m.length → (le4 x = m.take 4 ↔ x = num4 m) := by
          intro x m hx hm
          constructor
          · intro h
            have := num4_le4 x hx []
            rw [List.append_nil, h, num4_take] at this; exact this.symm
          · intro h; rw [h, ← num4_take, le4_num4 _ (by simp; omega)]
        rw [g _ _ (sum32_lt _) (by simp; omega), g _ _ (sum32_lt _) (by simp; omega)]
        simp
      by_cases hs : sum32 (l.take 4) ≠ num4 (l.drop 4)
      · rw [if_pos hs, if_neg (fun h => hs (hiff.1 h).1)]
      · rw [if_neg hs, if_neg (show ¬ (65536 < num4 l ∨ l.length - 12 < num4 l) by omega)]
        by_cases ht : sum32 ((l.drop 8).take (num4 l)) ≠ num4 (l.drop (8 + num4 l))
        · rw [if_pos ht, if_neg (fun h => ht (hiff.1 h).2)]
        · rw [if_neg ht, if_pos (hiff.2 ⟨by simpa using hs, by simpa using ht⟩)]
theorem oneL_some {l b : List UInt8} (h : oneL l = some b) : b.length ≤ 65536 ∧ b.length + 12 ≤ l.length ∧ b = (l.drop 8).take b.length ∧ b.length = num4 l ∧ frameL b = l.take (b.length + 12) := by
  have h2 := h
  rw [← oneR_eq] at h2
  unfold oneR at h2
  by_cases h12 : l.length < 12
  · rw [if_pos h12] at h2; cases h2
  · rw [if_neg h12] at h2
    by_cases hn : 65536 < num4 l ∨ l.length < num4 l + 12
    · rw [if_pos hn] at h2; cases h2
    · rw [if_neg hn] at h2
      by_cases hf : frameL ((l.drop 8).take (num4 l)) = l.take (num4 l + 12)
      · rw [if_pos hf] at h2
        cases h2
        have hb : ((l.drop 8).take (num4 l)).length = num4 l := by simp; omega
        rw [hb]
        exact ⟨by omega, by omega, rfl, rfl, hf⟩
      · rw [if_neg hf] at h2; cases h2
/-- A frame, whatever stands behind it, is told. -/
theorem oneL_frame (b r : List UInt8) (hb : b.length ≤ 65536) : oneL (frameL b ++ r) = some b := by
  rw [← oneR_eq]
  unfold oneR
  have hl : (frameL b ++ r).length = b.length + 12 + r.length := by rw [List.length_append, frameL_length]
  have hn : num4 (frameL b ++ r) = b.length := by
    unfold frameL
    simp only [List.append_assoc]
    exact num4_le4 _ (by omega) _
  have hd : ((frameL b ++ r).drop 8).take b.length = b := by
    unfold frameL
    have e : le4 b.length ++ le4 (sum32 (le4 b.length)) ++ b ++ le4 (sum32 b) ++ r = (le4 b.length ++ le4 (sum32 (le4 b.length))) ++ (b ++ (le4 (sum32 b) ++ r)) := by simp only [List.append_assoc]
    rw [e, List.drop_left' (by simp [le4_length]), List.take_left]
  rw [if_neg (by omega), hn, if_neg (by omega), hd, if_pos (by rw [List.take_left' (frameL_length b)])]

/-- From the text's head on: the frames told are bs, and the last one ends at k. -/
inductive Told (l : List UInt8) : List (List UInt8) → Nat → Prop where
  | start : Told l [] 0
  | step {r : List (List UInt8)} {k : Nat} {b : List UInt8} : Told l r k → oneL (l.drop k) = some b → Told l (r ++ [b]) (k + b.length + 12)
theorem Told.le {l : List UInt8} {r : List (List UInt8)} {k : Nat} (h : Told l r k) : k ≤ l.length := by
  cases h with
  | start => omega
  | step hr hb =>
    obtain ⟨_, h2, _⟩ := oneL_some hb
    simp at h2; omega
theorem Told.count {l : List UInt8} {r : List (List UInt8)} {k : Nat} (h : Told l r k) : 12 * r.length ≤ k := by
  induction h with
  | start => simp
  | step hr hb ih => simp; omega
/-- The bodies that a text's frames hold, the fuel being at least the length. -/
def bods : Nat → List UInt8 → List (List UInt8)
  | 0, _ => []
  | f + 1, l => match oneL l with
    | none => []
    | some b => b :: bods f (l.drop (b.length + 12))
def bodies (l : List UInt8) : List (List UInt8) := bods l.length l
theorem bods_enough : ∀ f g (l : List UInt8), l.length ≤ f → l.length ≤ g → bods f l = bods g l := by
  intro f
  induction f with
  | zero =>
    intro g l h _
    have hl : l = [] := List.eq_nil_of_length_eq_zero (by omega)
    subst hl
    cases g with
    | zero => rfl
    | succ g => rfl
  | succ f ih =>
    intro g l h1 h2
    cases g with
    | zero =>
      have hl : l = [] := List.eq_nil_of_length_eq_zero (by omega)
      subst hl; rfl
    | succ g =>
      simp only [bods]
      cases hb : oneL l with
      | none => rfl
      | some b =>
        obtain ⟨_, h4, _⟩ := oneL_some hb
        simp only
        rw [ih g _ (by simp; omega) (by simp; omega)]
theorem bodies_none (l : List UInt8) (h : oneL l = none) : bodies l = [] := by
  unfold bodies
  cases l with
  | nil => rfl
  | cons x l => simp only [List.length_cons, bods, h]
theorem bodies_some (l b : List UInt8) (h : oneL l = some b) : bodies l = b :: bodies (l.drop (b.length + 12)) := by
  obtain ⟨_, h4, _⟩ := oneL_some h
  unfold bodies
  obtain ⟨n, hn⟩ : ∃ n, l.length = n + 1 := ⟨l.length - 1, by omega⟩
  rw [hn]
  simp only [bods, h]
  rw [bods_enough n _ _ (by simp; omega) (Nat.le_refl _)]
/-- What the bodies' frames take up. -/
def taken (r : List (List UInt8)) : Nat := (r.map fun b => b.length + 12).sum
theorem taken_snoc (r : List (List UInt8)) (b : List UInt8) : taken (r ++ [b]) = taken r + b.length + 12 := by simp [taken]; omega
theorem Told.bodies {l : List UInt8} {r : List (List UInt8)} {k : Nat} (h : Told l r k) : Go.Proofs.Ytebpelfmllkpbaa.bodies l = r ++ Go.Proofs.Ytebpelfmllkpbaa.bodies (l.drop k) := by
  induction h with
  | start => simp
  | step hr hb ih =>
    rename_i r k b
    rw [ih, bodies_some _ _ hb, List.drop_drop]
    simp [Nat.add_assoc]
theorem Told.taken {l : List UInt8} {r : List (List UInt8)} {k : Nat} (h : Told l r k) : k = Go.Proofs.Ytebpelfmllkpbaa.taken r := by
  induction h with
  | start => rfl
  | step hr hb ih => rw [taken_snoc, ← ih]
/-- A telling that has ended. -/
theorem Told.done {l : List UInt8} {r : List (List UInt8)} {k : Nat} (h : Told l r k) (he : oneL (l.drop k) = none) : Go.Proofs.Ytebpelfmllkpbaa.bodies l = r ∧ Go.Proofs.Ytebpelfmllkpbaa.taken (Go.Proofs.Ytebpelfmllkpbaa.bodies l) = k := by
  have h1 : Go.Proofs.Ytebpelfmllkpbaa.bodies l = r := by rw [h.bodies, bodies_none _ he, List.append_nil]
  rw [h1]
  exact ⟨rfl, h.taken.symm⟩
/-- Frames of the bodies are the text, up to the place told. -/
theorem Told.frames {l : List UInt8} {r : List (List UInt8)} {k : Nat} (h : Told l r k) : (r.map frameL).flatten = l.take k := by
  induction h with
  | start => simp
  | step hr hb ih =>
    rename_i r k b
    obtain ⟨_, _, _, _, h5⟩ := oneL_some hb
    rw [List.map_append, List.flatten_append, ih, Nat.add_assoc, List.take_add]
    simp [h5]
/-- Of frames, one behind the other, all bodies are told. -/
theorem told_frames (bs : List (List UInt8)) (hb : ∀ b ∈ bs, b.length ≤ 65536) (more : List UInt8) : ∃ x, bodies ((bs.map frameL).flatten ++ more) = bs ++ x := by
  induction bs with
  | nil => exact ⟨_, rfl⟩
  | cons b bs ih =>
    obtain ⟨x, hx⟩ := ih (fun c hc => hb c (List.mem_cons_of_mem _ hc))
    refine ⟨x, ?_⟩
    have h1 : ((b :: bs).map frameL).flatten ++ more = frameL b ++ ((bs.map frameL).flatten ++ more) := by simp
    rw [h1, bodies_some _ b (oneL_frame b _ (hb b List.mem_cons_self)), List.drop_left' (frameL_length b), hx]
    rfl
theorem taken_frames (bs : List (List UInt8)) : taken bs = ((bs.map frameL).flatten).length := by
  induction bs with
  | nil => rfl
  | cons b bs ih => simp only [taken, List.map_cons, List.sum_cons, List.flatten_cons, List.length_append, frameL_length]; unfold taken at ih; rw [← ih]
theorem taken_append (a b : List (List UInt8)) : taken (a ++ b) = taken a + taken b := by simp [taken]
end Go.Proofs.Ytebpelfmllkpbaa
