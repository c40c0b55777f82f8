/-
  The walks of chunk.Weight and of the reference's Weight: on any text both return the weight of its last 16 bytes; the world stays.
-/
import Derived.Test.YtebpelfmllkpbaaCkW
import Derived.Test.YtebpelfmllkpbaaRows
import Derived.WalkKit
import Derived.WalkSpells
import Derived.WalkLawsBesides
import Derived.Lib.IndexBytes
import Derived.Lib.Hide
namespace Go.Proofs.Ytebpelfmllkpbaa
open Go.RowKit

set_option maxHeartbeats 400000 in
theorem chWeight_small (s : ByteArray) (w : World) (hs : s.size ≤ 16) :
    Calls Try.prog 22 #[.string s] w fun e w' => e = .returned (.int .u32 (wt (s.data.toList.drop (s.size - 16)))) ∧ w = w' := by
  go_enter Try.func22, Try.ntmps22
  go_wp2
  go_loop [3, 15] (fun v i => ∃ k : Nat, k ≤ s.size ∧ i = .int .i64 k ∧ v = .int .u32 (wt (s.data.toList.take k))) (fun _ i => s.size - (intOf i).toNat)
  case atStart => exact ⟨0, Nat.zero_le _, rfl, rfl⟩
  case round =>
    obtain ⟨k, hk, rfl, rfl⟩ := hrel
    by_cases hlt : k < s.size
    · go_wp2
      refine ⟨⟨k + 1, by omega, by go_num, ?_⟩, by simp [intOf]; omega⟩
      rw [take_snoc s k hlt, wt_snoc]
    · go_wp2
      go_ret
      refine ⟨ret_int ?_, rfl⟩
      rw [take_all s k hlt]

set_option maxHeartbeats 400000 in
theorem chWeight_great (s : ByteArray) (w : World) (hs : s.size ≤ maxLen) (h : 16 < s.size) (v : Int) (hv : Hid (v = wt (s.data.toList.drop (s.size - 16)))) :
    Calls Try.prog 22 #[.string s] w fun e w' => e = .returned (.int .u32 v) ∧ w = w' := by
  unfold maxLen at hs
  have hsz : (s.extract (s.size - 16) s.size).size = s.size - (s.size - 16) := by simp
  have hl : s.data.toList.drop (s.size - 16) = (s.extract (s.size - 16) s.size).data.toList := (Lib.extract_to_end s _).symm
  rw [hl] at hv
  have HS := Lib.hid hsz
  clear hsz hl
  go_enter Try.func22, Try.ntmps22
  go_wp2
  generalize s.extract (s.size - 16) s.size = t at *
  go_loop [3, 15] (fun v i => ∃ k : Nat, k ≤ t.size ∧ i = .int .i64 k ∧ v = .int .u32 (wt (t.data.toList.take k))) (fun _ i => t.size - (intOf i).toNat)
  case atStart => exact ⟨0, Nat.zero_le _, rfl, rfl⟩
  case round =>
    obtain ⟨k, hk, rfl, rfl⟩ := hrel
    have hk1 := HS.out
    by_cases hlt : k < t.size
    · have hk2 : k < s.size - (s.size - 16) := by omega
      clear hk1
      go_wp2
      refine ⟨⟨k + 1, by omega, by go_num, ?_⟩, by simp [intOf]; omega⟩
      rw [take_snoc t k hlt, wt_snoc]
    · have hk2 : ¬ k < s.size - (s.size - 16) := by omega
      clear hk1
      go_wp2
      go_ret
      refine ⟨ret_int ?_, rfl⟩
      rw [take_all t k hlt, hv.out]

theorem chWeight_any (s : ByteArray) (w : World) (hs : s.size ≤ maxLen) :
    Calls Try.prog 22 #[.string s] w fun e w' => e = .returned (.int .u32 (wt (s.data.toList.drop (s.size - 16)))) ∧ w = w' := by
  by_cases h : s.size ≤ 16
  · exact chWeight_small s w h
  · exact chWeight_great s w hs (by omega) _ rfl

set_option maxHeartbeats 400000 in
theorem reWeight_any (s : ByteArray) (w : World) (hs : s.size ≤ maxLen)  :
    Calls Try.prog 23 #[.string s] w fun e w' => e = .returned (.int .u32 (wt (s.data.toList.drop (s.size - 16)))) ∧ w = w' := by
  unfold maxLen at hs
  have hl : s.data.toList.length = s.size := (size_len s).symm
  have HL := Lib.hid hl
  clear hl
  go_enter Try.func23, Try.ntmps23
  go_wp2
  go_loop [3, 4, 5] (fun v p i => ∃ k : Nat, k ≤ s.size ∧ k ≤ 16 ∧ i = .int .i64 k ∧ v = .int .u32 (rv s.data.toList k) ∧ p = .int .u32 (rp k)) (fun _ _ i => s.size - (intOf i).toNat)
  case atStart => exact ⟨0, Nat.zero_le _, Nat.zero_le _, rfl, by rw [rv_zero], by rw [rp_zero]⟩
  case round =>
    obtain ⟨k, hk, hk2, rfl, rfl, rfl⟩ := hrel
    by_cases hlt : k < s.size
    · by_cases hlt2 : k < 16
      · go_wp2
        refine ⟨⟨k + 1, by omega, by omega, by go_num, ?_, ?_⟩, by simp [intOf]; omega⟩
        · rw [rv_succ _ _ (by rw [HL.out]; exact hlt)]
          simp only [HL.out]; rfl
        · rw [rp_succ]
      · go_wp2
        go_ret
        refine ⟨ret_int ?_, rfl⟩
        rw [rv_end _ _ (by rw [HL.out]; omega), HL.out]
    · go_wp2
      all_goals
        go_ret
        refine ⟨ret_int ?_, rfl⟩
        rw [rv_end _ _ (by rw [HL.out]; omega), HL.out]
end Go.Proofs.Ytebpelfmllkpbaa
