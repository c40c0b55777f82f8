/-
  The weight of a text's last 16 bytes, said in two ways, is one number modulo 2^32: plain law, without a condition.
-/
import Derived.Test.YtebpelfmllkpbaaBase
namespace Go.Proofs.Ytebpelfmllkpbaa

def wstep (w : Int) (b : UInt8) : Int := ((w * 31 + (b.toNat : Int)) % 4294967296 + 1) % 4294967296
/-- The weight as the program reckons it, over all bytes. -/
def wt (l : List UInt8) : Int := l.foldl wstep 0
theorem wt_nil : wt [] = 0 := rfl
theorem wt_snoc (l : List UInt8) (b : UInt8) : wt (l ++ [b]) = ((wt l * 31 + (b.toNat : Int)) % 4294967296 + 1) % 4294967296 := by
  simp [wt, wstep]

/-- The sum of (b+1) times powers of 31, the first byte's power being 0. -/
def poly : List UInt8 → Int
  | [] => 0
  | b :: r => ((b.toNat : Int) + 1) + 31 * poly r
theorem poly_snoc (r : List UInt8) (b : UInt8) : poly (r ++ [b]) = poly r + ((b.toNat : Int) + 1) * 31 ^ r.length := by
  induction r with
  | nil => simp [poly]
  | cons c r ih =>
    simp only [List.cons_append, poly, ih, List.length_cons, Int.pow_succ, Int.mul_add]
    rw [Int.mul_left_comm 31, Int.mul_comm 31 (31 ^ r.length)]
    omega

/-- What the program reckons is the sum over the bytes backwards. -/
theorem wt_poly (l : List UInt8) : wt l = poly l.reverse % 4294967296 := by
  suffices ∀ r : List UInt8, wt r.reverse = poly r % 4294967296 by
    have := this l.reverse
    rwa [List.reverse_reverse] at this
  intro r
  induction r with
  | nil => rfl
  | cons b r ih =>
    rw [List.reverse_cons, wt_snoc, ih, poly]
    omega

/-- The reference's two variables behind k rounds. -/
def rv (l : List UInt8) (k : Nat) : Int := poly (l.reverse.take k) % 4294967296
def rp (k : Nat) : Int := 31 ^ k % 4294967296
theorem rv_zero (l : List UInt8) : rv l 0 = 0 := by simp [rv, poly]
theorem rp_zero : rp 0 = 1 := rfl
theorem rp_succ (k : Nat) : rp (k + 1) = rp k * 31 % 4294967296 := by
  unfold rp; rw [Int.pow_succ, emod_mul_l]
theorem rv_succ (l : List UInt8) (k : Nat) (h : k < l.length) :
    rv l (k + 1) = (rv l k + (((l[l.length - 1 - k]'(by omega)).toNat : Int) + 1) % 4294967296 * rp k % 4294967296) % 4294967296 := by
  unfold rv rp
  rw [List.take_succ_eq_append_getElem (by simpa using h), poly_snoc, emod_add_l, emod_add_r, ← emod_add_r, ← emod_add_r (poly _) (_ * _), emod_mul_l, emod_mul_r]
  simp only [List.getElem_reverse, List.length_take, List.length_reverse, Nat.min_eq_left (Nat.le_of_lt h)]
theorem rv_end (l : List UInt8) (k : Nat) (h : k = min 16 l.length) : rv l k = wt (l.drop (l.length - 16)) := by
  rw [wt_poly, rv]
  congr 2
  rw [List.reverse_drop]
  by_cases h16 : l.length ≤ 16
  · rw [List.take_of_length_le (by simp; omega), List.take_of_length_le (by simp; omega)]
  · congr 1; omega
theorem wt_a : wt [97] = 98 := by decide

end Go.Proofs.Ytebpelfmllkpbaa
