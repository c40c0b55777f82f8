/-
  The walks of frame.Sum and of the reference's Sum: on any text both return sum32 of its bytes; the world stays.
-/
import Derived.Test.YtebpelfmllkpbaaFr
import Derived.Test.YtebpelfmllkpbaaRows
import Derived.WalkKit
import Derived.WalkSpells
import Derived.WalkLawsBesides
import Derived.Lib.Hide
namespace Go.Proofs.Ytebpelfmllkpbaa
open Go.RowKit

set_option maxHeartbeats 400000 in
theorem frSum_any (s : ByteArray) (w : World) (hs : s.size ≤ maxLen) (v : Int) (hv : Hid (v = (sum32 s.data.toList : Int))) :
    Calls Try.prog 15 #[.string s] w fun e w' => e = .returned (.int .u32 v) ∧ w = w' := by
  unfold maxLen at hs
  go_enter Try.func15, Try.ntmps15
  go_wp2
  go_loop [3, 7] (fun c i => ∃ k : Nat, k ≤ s.size ∧ i = .int .i64 k ∧ c = .int .u32 (crc 4294967295 (s.data.toList.take k) : Int)) (fun _ i => s.size - (intOf i).toNat)
  case atStart => exact ⟨0, Nat.zero_le _, rfl, rfl⟩
  case round =>
    obtain ⟨k, hk, rfl, rfl⟩ := hrel
    have hc := crc_lt (s.data.toList.take k) 4294967295 (by omega)
    by_cases hlt : k < s.size
    · have hxb := bits_xor_u32_nat _ _ hc (show s[k].toNat < 4294967296 by have := byte_lt s[k]; omega)
      have hl := xor_byte_lt _ s[k] hc
      have hb := byte_lt s[k]
      have hn := crc_snoc 4294967295 (s.data.toList.take k) s[k]
      rw [← take_snoc s k hlt] at hn
      have HN := Lib.hid hn
      clear hn
      generalize crc 4294967295 (s.data.toList.take k) = C at *
      go_wp2
      clear hxb
      generalize C ^^^ s[k].toNat = X at *
      go_loop [3, 16] (fun c i => ∃ j : Nat, j ≤ 8 ∧ i = .int .i64 j ∧ c = .int .u32 (tsts j X : Int)) (fun _ i => 8 - (intOf i).toNat)
      case atStart => exact ⟨0, Nat.zero_le _, rfl, rfl⟩
      case round =>
        obtain ⟨j, hj, rfl, rfl⟩ := hrel
        by_cases hjt : j < 8
        · have hq := tst_int _ (tsts_lt j X hl)
          have HQ := Lib.hid hq
          clear hq
          have hs1 := tsts_succ j X
          have HS := Lib.hid hs1
          clear hs1
          go_wp2
          refine ⟨⟨j + 1, by omega, by go_num, ?_⟩, by simp [intOf]; omega⟩
          rw [HS.out, HQ.out]
        · obtain rfl : j = 8 := by omega
          go_wp2
          refine ⟨⟨k + 1, by omega, by go_num, ?_⟩, by simp [intOf]; omega⟩
          rw [HN.out]
    · have hm : IntKind.u32.max = ((4294967295 : Nat) : Int) := by decide
      have hx := bits_xor_u32_nat 4294967295 _ (by omega) hc
      have HX := Lib.hid hx
      have HM := Lib.hid hm
      clear hx hm
      go_wp2
      go_ret
      refine ⟨ret_int ?_, rfl⟩
      rw [hv.out, HM.out, HX.out, take_all s k hlt]
      rfl

set_option maxHeartbeats 400000 in
theorem reSum_any (s : ByteArray) (w : World) (hs : s.size ≤ maxLen) (v : Int) (hv : Hid (v = (sum32 s.data.toList : Int))) :
    Calls Try.prog 17 #[.string s] w fun e w' => e = .returned (.int .u32 v) ∧ w = w' := by
  unfold maxLen at hs
  go_enter Try.func17, Try.ntmps17
  go_wp2
  go_loop [3, 4] (fun c i => ∃ k : Nat, k ≤ s.size ∧ i = .int .i64 k ∧ c = .int .u32 (crc 4294967295 (s.data.toList.take k) : Int)) (fun _ i => s.size - (intOf i).toNat)
  case atStart => exact ⟨0, Nat.zero_le _, rfl, rfl⟩
  case round =>
    obtain ⟨k, hk, rfl, rfl⟩ := hrel
    have hc := crc_lt (s.data.toList.take k) 4294967295 (by omega)
    by_cases hlt : k < s.size
    · have hn := crc_snoc 4294967295 (s.data.toList.take k) s[k]
      rw [← take_snoc s k hlt] at hn
      have HN := Lib.hid hn
      clear hn
      have hb := byte_lt s[k]
      generalize crc 4294967295 (s.data.toList.take k) = C at *
      go_wp2
      generalize s[k].toNat = B at *
      go_loop [3, 5, 6] (fun c b i => ∃ j : Nat, j ≤ 8 ∧ i = .int .i64 j ∧ c = .int .u32 (rtst C B j : Int) ∧ b = .int .u32 ((B / 2 ^ j : Nat) : Int)) (fun _ _ i => 8 - (intOf i).toNat)
      case atStart => exact ⟨0, Nat.zero_le _, rfl, rfl, by simp⟩
      case round =>
        obtain ⟨j, hj, rfl, rfl, rfl⟩ := hrel
        by_cases hjt : j < 8
        · have hr := rtst_lt C B hc j
          have hs0 : rtst C B j % 2 = B / 2 ^ j % 2 → rtst C B (j + 1) = rtst C B j / 2 := rtst_even C B j
          have hs1 : rtst C B j % 2 ≠ B / 2 ^ j % 2 → rtst C B (j + 1) = rtst C B j / 2 ^^^ 2197175160 := rtst_odd C B j
          have hd : B / 2 ^ (j + 1) = B / 2 ^ j / 2 := by rw [Nat.pow_succ, Nat.div_div_eq_div_mul]
          have hbl : B / 2 ^ j ≤ B := Nat.div_le_self _ _
          have hx := bits_xor_u32_nat (rtst C B j / 2) 2197175160 (by omega) (by omega)
          have H0 := Lib.hid hs0
          have H1 := Lib.hid hs1
          have HD := Lib.hid hd
          have HX := Lib.hid hx
          clear hs0 hs1 hd hx HN
          by_cases hz : rtst C B j % 2 = B / 2 ^ j % 2
          · have HR := Lib.hid (H0.out hz)
            generalize rtst C B j = R at *
            generalize B / 2 ^ j = Bj at *
            have hz1 : (((R : Int) % 2) != ((Bj : Int) % 2)) = false := by simp; omega
            go_wp2
            refine ⟨⟨j + 1, by omega, by go_num, ?_, ?_⟩, by simp [intOf]; omega⟩
            · rw [HR.out]; exact val_int (by omega)
            · rw [HD.out]; exact val_int (by omega)
          · have HR := Lib.hid (H1.out hz)
            generalize rtst C B j = R at *
            generalize B / 2 ^ j = Bj at *
            have hz1 : (((R : Int) % 2) != ((Bj : Int) % 2)) = true := by simp; omega
            go_wp2
            refine ⟨⟨j + 1, by omega, by go_num, ?_, ?_⟩, by simp [intOf]; omega⟩
            · rw [HR.out, ← HX.out]; exact val_int (by congr 1)
            · rw [HD.out]; exact val_int (by omega)
        · obtain rfl : j = 8 := by omega
          go_wp2
          refine ⟨⟨k + 1, by omega, by go_num, ?_⟩, by simp [intOf]; omega⟩
          rw [HN.out, rtst_eight C B hb]
    · have hms := max_sub _ hc
      have HM := Lib.hid hms
      clear hms
      go_wp2
      go_ret
      refine ⟨ret_int ?_, rfl⟩
      have h1 := HM.out
      rw [take_all s k hlt] at h1 hc ⊢
      rw [hv.out, sum32, ← h1]
      omega
end Go.Proofs.Ytebpelfmllkpbaa
