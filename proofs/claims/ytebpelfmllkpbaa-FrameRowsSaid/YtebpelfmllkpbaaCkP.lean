/-
  Where a text is cut, as plain lists: the place of the first chunk's end, the chunks, the places; and what follows of it; plain law, without a condition.
-/
import Derived.Test.YtebpelfmllkpbaaCkW
namespace Go.Proofs.Ytebpelfmllkpbaa

/-- The weight of a text's last 16 bytes. -/
def W16 (l : List UInt8) : Int := wt (l.drop (l.length - 16))
/-- Does a chunk that has come to n bytes end there? -/
def stopB (l : List UInt8) (n : Nat) : Bool := decide (l.length ≤ n) || decide (512 ≤ n) || (decide (32 ≤ n) && decide (W16 (l.take n) % 64 = 7))
def cl (l : List UInt8) : Nat → Nat → Nat
  | 0, n => n
  | f + 1, n => if stopB l n = true then n else cl l f (n + 1)
/-- The first chunk's length. -/
def chunkLen (l : List UInt8) : Nat := cl l 512 1
theorem cl_found (l : List UInt8) (k : Nat) (hk : stopB l k = true) : ∀ f n, n ≤ k → k ≤ n + f → (∀ m, n ≤ m → m < k → stopB l m = false) → cl l f n = k := by
  intro f
  induction f with
  | zero => intro n h1 h2 _; simp [cl]; omega
  | succ f ih =>
    intro n h1 h2 h
    unfold cl
    by_cases hn : n = k
    · subst hn; rw [if_pos hk]
    · rw [if_neg (by rw [h n (Nat.le_refl _) (by omega)]; simp)]
      exact ih (n + 1) (by omega) (by omega) (fun m h3 h4 => h m (by omega) h4)
/-- The first place from 1 on at which it ends. -/
theorem chunkLen_eq (l : List UInt8) (k : Nat) (h0 : 1 ≤ k) (hk : stopB l k = true) (h : ∀ m, 1 ≤ m → m < k → stopB l m = false) : chunkLen l = k := by
  refine cl_found l k hk 512 1 h0 ?_ h
  rcases Nat.lt_or_ge 512 k with h5 | h5
  · have := h 512 (by omega) h5
    simp [stopB] at this
  · omega
theorem chunkLen_spec (l : List UInt8) : 1 ≤ chunkLen l ∧ stopB l (chunkLen l) = true ∧ ∀ m, 1 ≤ m → m < chunkLen l → stopB l m = false := by
  have hex : ∀ f n, n + f = 513 → 1 ≤ n → (∃ k, n ≤ k ∧ k ≤ 512 ∧ stopB l k = true ∧ ∀ m, n ≤ m → m < k → stopB l m = false) ∨ f = 0 := by
    intro f
    induction f with
    | zero => intro n _ _; exact .inr rfl
    | succ f ih =>
      intro n hn h1
      by_cases hs : stopB l n = true
      · exact .inl ⟨n, Nat.le_refl _, by omega, hs, fun m h2 h3 => by omega⟩
      · rcases ih (n + 1) (by omega) (by omega) with ⟨k, hk1, hk2, hk3, hk4⟩ | h0
        · refine .inl ⟨k, by omega, hk2, hk3, fun m h2 h3 => ?_⟩
          by_cases hm : m = n
          · subst hm; simpa using hs
          · exact hk4 m (by omega) h3
        · subst h0
          exfalso
          obtain rfl : n = 512 := by omega
          exact hs (by simp [stopB])
  rcases hex 512 1 rfl (Nat.le_refl _) with ⟨k, h1, _, h3, h4⟩ | h
  · rw [chunkLen_eq l k h1 h3 h4]; exact ⟨h1, h3, h4⟩
  · omega
theorem chunkLen_le512 (l : List UInt8) : chunkLen l ≤ 512 := by
  obtain ⟨_, _, h⟩ := chunkLen_spec l
  rcases Nat.lt_or_ge 512 (chunkLen l) with h5 | h5
  · have := h 512 (by omega) h5; simp [stopB] at this
  · exact h5
theorem chunkLen_le (l : List UInt8) (hl : 0 < l.length) : chunkLen l ≤ l.length := by
  obtain ⟨_, _, h⟩ := chunkLen_spec l
  rcases Nat.lt_or_ge l.length (chunkLen l) with h5 | h5
  · have := h l.length hl h5; simp [stopB] at this
  · exact h5

/-- The chunks, the fuel being at least the length. -/
def txs : Nat → List UInt8 → List (List UInt8)
  | 0, _ => []
  | f + 1, l => if l = [] then [] else l.take (chunkLen l) :: txs f (l.drop (chunkLen l))
def chunks (l : List UInt8) : List (List UInt8) := txs l.length l
theorem txs_enough : ∀ f g (l : List UInt8), l.length ≤ f → l.length ≤ g → txs f l = txs g l := by
  intro f
  induction f with
  | zero =>
    intro g l h _
    have : l = [] := List.eq_nil_of_length_eq_zero (by omega)
    subst this
    cases g <;> simp [txs]
  | succ f ih =>
    intro g l h1 h2
    by_cases hl : l = []
    · subst hl; cases g <;> simp [txs]
    · have hpos : 0 < l.length := List.length_pos_iff.2 hl
      have hc := (chunkLen_spec l).1
      cases g with
      | zero => omega
      | succ g =>
        simp only [txs, if_neg hl]
        rw [ih g _ (by simp; omega) (by simp; omega)]
theorem chunks_nil : chunks [] = [] := rfl
theorem chunks_cons (l : List UInt8) (h : l ≠ []) : chunks l = l.take (chunkLen l) :: chunks (l.drop (chunkLen l)) := by
  have hpos : 0 < l.length := List.length_pos_iff.2 h
  have hc := (chunkLen_spec l).1
  unfold chunks
  obtain ⟨n, hn⟩ : ∃ n, l.length = n + 1 := ⟨l.length - 1, by omega⟩
  rw [hn, txs, if_neg h]
  congr 1
  exact txs_enough _ _ _ (by simp; omega) (Nat.le_refl _)
/-- The places: sums of lengths, from a on. -/
def places (a : Nat) : List (List UInt8) → List Nat
  | [] => []
  | t :: r => (a + t.length) :: places (a + t.length) r
def cuts (l : List UInt8) : List Nat := places 0 (chunks l)
theorem places_snoc (a : Nat) (r : List (List UInt8)) (t : List UInt8) : places a (r ++ [t]) = places a r ++ [a + r.flatten.length + t.length] := by
  induction r generalizing a with
  | nil => simp [places]
  | cons x r ih => simp only [List.cons_append, places, ih, List.flatten_cons, List.length_append]; rw [Nat.add_assoc a]
theorem places_length (a : Nat) (r : List (List UInt8)) : (places a r).length = r.length := by
  induction r generalizing a with
  | nil => rfl
  | cons x r ih => simp [places, ih]

/-- The chunks of the text are those before a place that is a cut, and those of what is left. -/
inductive Cutting (l : List UInt8) : List (List UInt8) → Nat → Prop where
  | start : Cutting l [] 0
  | step {r : List (List UInt8)} {k : Nat} : Cutting l r k → k < l.length → Cutting l (r ++ [(l.drop k).take (chunkLen (l.drop k))]) (k + chunkLen (l.drop k))
theorem Cutting.chunks {l : List UInt8} {r : List (List UInt8)} {k : Nat} (h : Cutting l r k) : Go.Proofs.Ytebpelfmllkpbaa.chunks l = r ++ Go.Proofs.Ytebpelfmllkpbaa.chunks (l.drop k) := by
  induction h with
  | start => simp
  | step hr hk ih =>
    rename_i r k
    rw [ih, chunks_cons (l.drop k) (by intro e; have := congrArg List.length e; simp at this; omega)]
    simp [List.drop_drop]
theorem Cutting.done {l : List UInt8} {r : List (List UInt8)} {k : Nat} (h : Cutting l r k) (hk : l.length ≤ k) : Go.Proofs.Ytebpelfmllkpbaa.chunks l = r := by
  rw [h.chunks, List.drop_eq_nil_of_le hk, chunks_nil, List.append_nil]
theorem Cutting.le {l : List UInt8} {r : List (List UInt8)} {k : Nat} (h : Cutting l r k) : k ≤ l.length := by
  cases h with
  | start => omega
  | step hr hk =>
    rename_i r k
    have := chunkLen_le (l.drop k) (by simp; omega)
    simp at this; omega
theorem Cutting.flat {l : List UInt8} {r : List (List UInt8)} {k : Nat} (h : Cutting l r k) : r.flatten = l.take k := by
  induction h with
  | start => simp
  | step hr hk ih =>
    rename_i r k
    rw [List.flatten_append, ih]
    simp [List.take_add]
theorem Cutting.count {l : List UInt8} {r : List (List UInt8)} {k : Nat} (h : Cutting l r k) : r.length ≤ k := by
  induction h with
  | start => simp
  | step hr hk ih =>
    rename_i r k
    have := (chunkLen_spec (l.drop k)).1
    simp; omega
theorem Cutting.flatLen {l : List UInt8} {r : List (List UInt8)} {k : Nat} (h : Cutting l r k) : r.flatten.length = k := by
  rw [h.flat, List.length_take, Nat.min_eq_left h.le]

theorem txs_flat : ∀ f (l : List UInt8), l.length ≤ f → (txs f l).flatten = l := by
  intro f
  induction f with
  | zero =>
    intro l h
    have hl : l = [] := List.eq_nil_of_length_eq_zero (by omega)
    subst hl; rfl
  | succ f ih =>
    intro l h
    simp only [txs]
    by_cases hl : l = []
    · rw [if_pos hl]; simp [hl]
    · rw [if_neg hl]
      have := (chunkLen_spec l).1
      have hp : 0 < l.length := List.length_pos_iff.2 hl
      rw [List.flatten_cons, ih _ (by simp; omega), List.take_append_drop]
theorem chunks_flat (l : List UInt8) : (chunks l).flatten = l := txs_flat _ l (Nat.le_refl _)
/-- The rolling weight's step: one byte comes, the one that is 16 places back goes. -/
theorem poly_take16 (r : List UInt8) (b : UInt8) (h : 16 ≤ r.length) :
    poly ((b :: r).take 16) = (b.toNat : Int) + 1 + 31 * poly (r.take 16) - 31 ^ 16 * (((r[15]'(by omega)).toNat : Int) + 1) := by
  have h1 : r.take 16 = r.take 15 ++ [r[15]'(by omega)] := List.take_succ_eq_append_getElem (by omega)
  have h2 : (b :: r).take 16 = b :: r.take 15 := rfl
  rw [h2, h1, poly, poly_snoc, List.length_take, Nat.min_eq_left (by omega)]
  generalize poly (r.take 15) = p
  generalize ((r[15]'(by omega)).toNat : Int) = x
  omega
theorem W16_poly (l : List UInt8) : W16 l = poly (l.reverse.take 16) % 4294967296 := by
  rw [W16, wt_poly, List.reverse_drop]
  by_cases h16 : l.length ≤ 16
  · rw [List.take_of_length_le (by simp; omega), List.take_of_length_le (by simp; omega)]
  · congr 2; congr 1; omega
theorem W16_few (l : List UInt8) (b : UInt8) (h : l.length < 16) : W16 (l ++ [b]) = ((W16 l * 31 + (b.toNat : Int)) % 4294967296 + 1) % 4294967296 := by
  unfold W16
  rw [show (l ++ [b]).length - 16 = 0 by simp; omega, show l.length - 16 = 0 by omega, List.drop_zero, List.drop_zero, wt_snoc]
def OUT16 : Int := 31 ^ 16 % 4294967296
theorem W16_many (l : List UInt8) (b : UInt8) (h : 16 ≤ l.length) :
    W16 (l ++ [b]) = ((((W16 l * 31 + (b.toNat : Int)) % 4294967296 + 1) % 4294967296) - OUT16 * ((((l[l.length - 16]'(by omega)).toNat : Int) + 1) % 4294967296) % 4294967296) % 4294967296 := by
  rw [W16_poly, W16_poly, List.reverse_append]
  have hr := poly_take16 l.reverse b (by simpa using h)
  have e1 : [b].reverse ++ l.reverse = b :: l.reverse := rfl
  rw [e1, hr]
  have e2 : l.reverse[15]'(by simp; omega) = l[l.length - 16]'(by omega) := by
    rw [List.getElem_reverse]; congr 1
  rw [e2]
  generalize poly (l.reverse.take 16) = p
  generalize ((l[l.length - 16]'(by omega)).toNat : Int) = x
  unfold OUT16
  omega
theorem W16_lo (l : List UInt8) : 0 ≤ W16 l := by rw [W16_poly]; exact Int.emod_nonneg _ (by omega)
theorem W16_fewS (l : List UInt8) (b : UInt8) (h : l.length < 16) : W16 (l ++ [b]) = (W16 l * 31 + (b.toNat : Int) + 1) % 4294967296 := by
  rw [W16_few l b h]; omega
theorem W16_manyS (l : List UInt8) (b : UInt8) (h : 16 ≤ l.length) :
    W16 (l ++ [b]) = ((W16 l * 31 + (b.toNat : Int) + 1) % 4294967296 - OUT16 * (((l[l.length - 16]'(by omega)).toNat : Int) + 1) % 4294967296) % 4294967296 := by
  rw [W16_many l b h]
  generalize ((l[l.length - 16]'(by omega)).toNat : Int) = x
  rw [emod_mul_r]
  omega
end Go.Proofs.Ytebpelfmllkpbaa
