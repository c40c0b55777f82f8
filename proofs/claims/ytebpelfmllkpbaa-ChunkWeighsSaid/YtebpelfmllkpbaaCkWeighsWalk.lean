/-
  The walk of the law ChunkWeighs: it returns true on every text; the world stays. Its length is at most the greatest int.
-/
import Derived.Test.YtebpelfmllkpbaaCkWalkA
import Derived.Below
namespace Go.Proofs.Ytebpelfmllkpbaa
open Go.RowKit

theorem chunkWeighs_walk (s : ByteArray) (w : World) (hs : s.size ≤ maxLen) :
    Calls Try.prog 8 #[.string s] w fun e w' => e = .returned (.bool true) ∧ Below w.heap.size w w' := by
  have h98 : wt (((⟨#[97]⟩ : ByteArray).data.toList).drop ((⟨#[97]⟩ : ByteArray).size - 16)) = 98 := wt_a
  have H := Lib.hid h98
  clear h98
  go_enter Try.func8, Try.ntmps8
  go_wp2_with fail
  refine (chWeight_any s _ hs).mono ?_
  rintro e w' ⟨rfl, rfl⟩
  go_wp2_with fail
  refine (reWeight_any s _ hs).mono ?_
  rintro e w' ⟨rfl, rfl⟩
  go_wp2_with fail
  refine (chWeight_any _ _ (by decide)).mono ?_
  rintro e w' ⟨rfl, rfl⟩
  rw [H.out]
  go_wp2
  go_ret
  exact ⟨rfl, Below.refl _ _⟩
end Go.Proofs.Ytebpelfmllkpbaa
