/-
  The walks of frame.four, frame.Put and the reference's Four and Frame: both make one text; new blocks alone are made.
-/
import Derived.Test.YtebpelfmllkpbaaFrWalkA
import Derived.Laws.BytesArg
import Derived.Below
namespace Go.Proofs.Ytebpelfmllkpbaa
open Go.RowKit

theorem conv4 (w : World) (a b c d : Int) :
    (convert 23 9 (.slice (some ⟨w.heap.size, 0, none⟩) 4 4)).run Try.prog (w.alloc (.cells #[.int .u8 a, .int .u8 b, .int .u8 c, .int .u8 d] 5)) =
      .ok (.string (strOfNums [a, b, c, d])) (w.alloc (.cells #[.int .u8 a, .int .u8 b, .int .u8 c, .int .u8 d] 5)) := by
  refine run_convert_bytes_arg _ 23 5 Try.underlying23 Try.underlying5 w.heap.size 0 4 4 [a, b, c, d] rfl ?_ 9 Try.underlying9
  intro i hi
  match i, hi with
  | 0, _ => rw [World.cell?_alloc_mark]; rfl
  | 1, _ => rw [World.cell?_alloc_mark]; rfl
  | 2, _ => rw [World.cell?_alloc_mark]; rfl
  | 3, _ => rw [World.cell?_alloc_mark]; rfl

/-- A number's four bytes, the lowest first. -/
def four (n : Int) : ByteArray := strOfNums [n % 256, n / 256 % 256, n / 65536 % 256, n / 16777216]
theorem four_size (n : Int) : (four n).size = 4 := by simp [four, strOfNums_size]

set_option maxHeartbeats 400000 in
theorem frFour_any (n : Int) (w : World) (h0 : 0 ≤ n) (h1 : n < 4294967296) :
    Calls Try.prog 31 #[.int .u32 n] w fun e w' => e = .returned (.string (four n)) ∧ Below w.heap.size w w' := by
  have hcv := conv4 w (n % 256) (n / 256 % 256) (n / 65536 % 256) (n / 16777216)
  go_enter Try.func31, Try.ntmps31
  go_wp2
  go_ret
  exact ⟨rfl, (Below.refl _ _).alloc (Nat.le_refl _) _⟩

set_option maxHeartbeats 400000 in
theorem reFour_any (n : Int) (w : World) (h0 : 0 ≤ n) (h1 : n < 4294967296) :
    Calls Try.prog 32 #[.int .u32 n] w fun e w' => e = .returned (.string (four n)) ∧ Below w.heap.size w w' := by
  have hcv := conv4 w (n % 256) (n / 256 % 256) (n / 65536 % 256) (n / 16777216)
  go_enter Try.func32, Try.ntmps32
  go_wp2
  go_ret
  exact ⟨rfl, (Below.refl _ _).alloc (Nat.le_refl _) _⟩

/-- The sum of a text as an int. -/
def sumI (s : ByteArray) : Int := (sum32 s.data.toList : Int)
theorem sumI_lo (s : ByteArray) : 0 ≤ sumI s := by unfold sumI; omega
theorem sumI_hi (s : ByteArray) : sumI s < 4294967296 := by unfold sumI; have := sum32_lt s.data.toList; omega
def head4 (s : ByteArray) : ByteArray := four (s.size : Int)
/-- The frame of a body. -/
def frameOf (s : ByteArray) : ByteArray := head4 s ++ four (sumI (head4 s)) ++ s ++ four (sumI s)
theorem frameOf_size (s : ByteArray) : (frameOf s).size = s.size + 12 := by
  simp [frameOf, head4, four_size]; omega
theorem head4_size (s : ByteArray) : (head4 s).size = 4 := by rw [head4, four_size]
theorem frSumI_any (s : ByteArray) (w : World) (hs : s.size ≤ maxLen) :
    Calls Try.prog 15 #[.string s] w fun e w' => e = .returned (.int .u32 (sumI s)) ∧ w = w' := frSum_any s w hs _ rfl
theorem reSumI_any (s : ByteArray) (w : World) (hs : s.size ≤ maxLen) :
    Calls Try.prog 17 #[.string s] w fun e w' => e = .returned (.int .u32 (sumI s)) ∧ w = w' := reSum_any s w hs _ rfl
theorem frHead_any (s : ByteArray) (w : World) (h : s.size ≤ 65536) :
    Calls Try.prog 31 #[.int .u32 (s.size : Int)] w fun e w' => e = .returned (.string (head4 s)) ∧ Below w.heap.size w w' := frFour_any _ _ (by omega) (by omega)
theorem reHead_any (s : ByteArray) (w : World) (h : s.size ≤ 65536) :
    Calls Try.prog 32 #[.int .u32 (s.size : Int)] w fun e w' => e = .returned (.string (head4 s)) ∧ Below w.heap.size w w' := reFour_any _ _ (by omega) (by omega)
theorem frameOf_eq (s : ByteArray) : head4 s ++ four (sumI (head4 s)) ++ s ++ four (sumI s) = frameOf s := rfl
attribute [irreducible] sumI four head4 frameOf

set_option maxHeartbeats 400000 in
theorem frPut_long (s : ByteArray) (w : World) (hs : s.size ≤ maxLen) (h : 65536 < s.size) :
    Calls Try.prog 16 #[.string s] w fun e w' => e = .returned (.tuple #[.string ByteArray.empty, .int .i64 2]) ∧ w = w' := by
  unfold maxLen at hs
  go_enter Try.func16, Try.ntmps16
  go_wp2
  go_ret2
  exact ⟨rfl, rfl⟩

set_option maxHeartbeats 400000 in
theorem frPut_any (s : ByteArray) (w : World) (h : s.size ≤ 65536) :
    Calls Try.prog 16 #[.string s] w fun e w' => e = .returned (.tuple #[.string (frameOf s), .int .i64 0]) ∧ Below w.heap.size w w' := by
  have hml0 : s.size ≤ maxLen := by unfold maxLen; omega
  have hl1 := Lib.hid (sumI_lo s)
  have hl2 := Lib.hid (sumI_hi s)
  have hl3 := Lib.hid (sumI_lo (head4 s))
  have hl4 := Lib.hid (sumI_hi (head4 s))
  have hh0 : (head4 s).size ≤ maxLen := by rw [head4_size]; decide
  have hh := Lib.hid hh0
  have e1 := head4_size s
  have e2 := four_size (sumI (head4 s))
  have e3 := four_size (sumI s)
  have hml := Lib.hid hml0
  clear hh0 hml0
  go_enter Try.func16, Try.ntmps16
  go_wp2_with fail
  refine (frHead_any s _ h).mono ?_
  rintro e w1 ⟨rfl, hb1⟩
  go_wp2_with fail
  refine (frSumI_any (head4 s) _ hh.out).mono ?_
  rintro e w2 ⟨rfl, rfl⟩
  go_wp2_with fail
  refine (frFour_any _ _ hl3.out hl4.out).mono ?_
  rintro e w3 ⟨rfl, hb3⟩
  go_wp2_with fail
  refine (frSumI_any s _ hml.out).mono ?_
  rintro e w4 ⟨rfl, rfl⟩
  go_wp2_with fail
  refine (frFour_any _ _ hl1.out hl2.out).mono ?_
  rintro e w5 ⟨rfl, hb5⟩
  go_wp2
  go_ret2
  exact ⟨by rw [← frameOf_eq]; rfl, (hb1.trans (hb3.mono hb1.size)).trans (hb5.mono (Nat.le_trans hb1.size hb3.size))⟩

set_option maxHeartbeats 400000 in
theorem reFrame_any (s : ByteArray) (w : World) (h : s.size ≤ 65536) :
    Calls Try.prog 18 #[.string s] w fun e w' => e = .returned (.string (frameOf s)) ∧ Below w.heap.size w w' := by
  have hml0 : s.size ≤ maxLen := by unfold maxLen; omega
  have hl1 := Lib.hid (sumI_lo s)
  have hl2 := Lib.hid (sumI_hi s)
  have hl3 := Lib.hid (sumI_lo (head4 s))
  have hl4 := Lib.hid (sumI_hi (head4 s))
  have hh0 : (head4 s).size ≤ maxLen := by rw [head4_size]; decide
  have hh := Lib.hid hh0
  have e1 := head4_size s
  have e2 := four_size (sumI (head4 s))
  have e3 := four_size (sumI s)
  have hml := Lib.hid hml0
  clear hh0 hml0
  go_enter Try.func18, Try.ntmps18
  go_wp2_with fail
  refine (reHead_any s _ h).mono ?_
  rintro e w1 ⟨rfl, hb1⟩
  go_wp2_with fail
  refine (reSumI_any (head4 s) _ hh.out).mono ?_
  rintro e w2 ⟨rfl, rfl⟩
  go_wp2_with fail
  refine (reFour_any _ _ hl3.out hl4.out).mono ?_
  rintro e w3 ⟨rfl, hb3⟩
  go_wp2_with fail
  refine (reSumI_any s _ hml.out).mono ?_
  rintro e w4 ⟨rfl, rfl⟩
  go_wp2_with fail
  refine (reFour_any _ _ hl1.out hl2.out).mono ?_
  rintro e w5 ⟨rfl, hb5⟩
  go_wp2
  go_ret
  exact ⟨by rw [← frameOf_eq]; rfl, (hb1.trans (hb3.mono hb1.size)).trans (hb5.mono (Nat.le_trans hb1.size hb3.size))⟩
end Go.Proofs.Ytebpelfmllkpbaa
