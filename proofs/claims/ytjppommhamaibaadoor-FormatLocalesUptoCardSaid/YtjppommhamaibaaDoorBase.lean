/-
  Small facts on lists, bytes and remainders that the walks and the plain laws of this seat share; they hold without a condition.
-/
import Derived.WalkKit
import Derived.Lib.Strings
namespace Go.Proofs.YtjppommhamaibaaDoor

theorem ret_int {k : IntKind} {a b : Int} (h : a = b) : Ending.returned (.int k a) = .returned (.int k b) := by rw [h]
theorem ret_bool {a b : Bool} (h : a = b) : Ending.returned (.bool a) = .returned (.bool b) := by rw [h]
theorem val_int {k : IntKind} {a b : Int} (h : a = b) : Value.int k a = Value.int k b := by rw [h]

theorem take_snoc (s : ByteArray) (k : Nat) (h : k < s.size) : s.data.toList.take (k + 1) = s.data.toList.take k ++ [s[k]] := by
  rw [List.take_succ_eq_append_getElem (by simpa using h)]; rfl
theorem take_all (s : ByteArray) (k : Nat) (h : ¬ k < s.size) : s.data.toList.take k = s.data.toList :=
  List.take_of_length_le (by simp; omega)
theorem size_len (s : ByteArray) : s.size = s.data.toList.length := by simp
theorem byte_at (s : ByteArray) (k : Nat) (h : k < s.size) : s[k] = s.data.toList[k]'(by simpa using h) := rfl

theorem byte_lt (b : UInt8) : b.toNat < 256 := b.toNat_lt
theorem emod_mul_l (a b m : Int) : (a % m * b) % m = (a * b) % m := by rw [Int.mul_emod, Int.emod_emod, ← Int.mul_emod]
theorem emod_mul_r (a b m : Int) : (a * (b % m)) % m = (a * b) % m := by rw [Int.mul_emod, Int.emod_emod, ← Int.mul_emod]
theorem emod_add_l (a b m : Int) : (a % m + b) % m = (a + b) % m := by rw [Int.add_emod, Int.emod_emod, ← Int.add_emod]
theorem emod_add_r (a b m : Int) : (a + b % m) % m = (a + b) % m := by rw [Int.add_emod, Int.emod_emod, ← Int.add_emod]

end Go.Proofs.YtjppommhamaibaaDoor
