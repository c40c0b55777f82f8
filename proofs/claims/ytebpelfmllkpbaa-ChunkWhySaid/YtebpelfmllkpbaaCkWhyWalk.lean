/-
  The walk of the law ChunkWhy: it returns true on every text; new blocks alone are made.
-/
import Derived.Test.YtebpelfmllkpbaaCkLaws
import Derived.Test.YtebpelfmllkpbaaCkPB
namespace Go.Proofs.Ytebpelfmllkpbaa
open Go.RowKit
set_option linter.unusedVariables false

theorem chW_any (s : ByteArray) (w : World) (v : Int) (hs : s.size ≤ maxLen) (hv : v = W16 s.data.toList) :
    Calls Try.prog 22 #[.string s] w fun e w' => e = .returned (.int .u32 v) ∧ w = w' := by
  rw [hv, W16, ← size_len]
  exact chWeight_any s w hs

theorem extract_le (T : ByteArray) (j : Nat) : (T.extract 0 j).size ≤ T.size := by simp; omega
theorem small_max {n : Nat} (h : n ≤ 512) : n ≤ maxLen := by unfold maxLen; omega

set_option maxHeartbeats 4000000 in
set_option maxRecDepth 20000 in
theorem chunkWhy_main (s t : ByteArray) (w : World) (hm : Hid (s.size ≤ maxLen)) (hc : Hid (cut4 s = t)) (ht : t.size ≤ 5000) :
    Calls Try.prog 11 #[.string s] w fun e w' => e = .returned (.bool true) ∧ Below w.heap.size w w' := by
  have hsh : Hid (∀ w, Calls Try.prog 24 #[.string s] w fun e w' => e = .returned (.string t) ∧ w = w') := Lib.hid fun w => by rw [← hc.out]; exact short4_any s w hm.out
  have hcn := Lib.hid (texts_count t)
  clear hc hm
  go_enter Try.func11, Try.ntmps11
  go_wp2_with fail
  refine (hsh.out _).mono ?_
  rintro e w' ⟨rfl, rfl⟩
  go_wp2_with fail
  refine (chTexts_any t _ (by omega) _ rfl).mono ?_
  rintro e w1 ⟨x1, n1, c1, rfl, hs1, hb1, _⟩
  have HS1 := Lib.hid hs1
  have HB1 := Lib.hid hb1
  have HN1 := Lib.hid (HS1.out.1.trans (strs_length _))
  have hn1 : n1 ≤ 20000 := by have := HN1.out; have := hcn.out; omega
  clear hs1 hb1
  go_wp2_with fail
  go_loopg [13] n1 (fun gk i wr => ∃ (r : List (List UInt8)) (k : Nat), r.length ≤ n1 ∧ gk = n1 - r.length ∧ i = .int .i64 (r.length : Int) ∧ k ≤ 5000 ∧ w1 = wr ∧ Hid (Cutting t.data.toList r k))
  case atStart => exact ⟨[], 0, Nat.zero_le _, rfl, rfl, Nat.zero_le _, rfl, Cutting.start⟩
  case round =>
    obtain ⟨r, k, hr, rfl, rfl, hk, rfl, hI⟩ := hrel
    by_cases d1 : r.length < n1
    · have hi : r.length < (texts t).length := by rw [← HN1.out]; exact d1
      obtain ⟨-, y1, o1, rfl, hc1⟩ := HS1.out.str (by omega)
      have hcx := hc1 r.length hi
      by_cases d2 : r.length < 12
      · obtain ⟨a1, a2, a3⟩ := texts_at hI.out hi
        have hle := rest_le t k a1
        have hlen : ((texts t)[r.length]).size = chunkLen (restOf t k) := by
          rw [a2, strOf_size, List.length_take, restOf_length]; omega
        have h512 : ((texts t)[r.length]).size ≤ 512 := by rw [hlen]; exact chunkLen_le512 _
        have HNX : Hid (Cutting t.data.toList (r ++ [(restOf t k).take (chunkLen (restOf t k))]) (k + ((texts t)[r.length]).size)) := Lib.hid (by rw [hlen]; exact hI.out.next a1)
        have HNO : Hid (∀ j, 32 ≤ j → j < ((texts t)[r.length]).size → W16 ((restOf t k).take j) % 64 ≠ 7) := Lib.hid fun j h1 h2 => why_not _ j h1 (by rw [← hlen]; exact h2)
        have HXT : Hid (∀ j, j < ((texts t)[r.length]).size → ((texts t)[r.length]).extract 0 j = strOf ((restOf t k).take j)) := Lib.hid fun j h1 => by
          rw [extract_head, a2, strOf_list, List.take_take, Nat.min_eq_left (by rw [← hlen]; omega)]
        have HEND : Hid (r.length + 1 < n1 → ((texts t)[r.length]).size ≠ 512 → W16 ((texts t)[r.length]).data.toList % 64 = 7) := Lib.hid fun h1 h2 => by
          rw [a2, strOf_list]
          refine why_end _ ?_ (by rw [← hlen]; exact h2)
          rw [restOf_length]
          have : ¬ t.size ≤ k + chunkLen (restOf t k) := fun h => by have := a3.2 h; have := HN1.out; omega
          omega
        have hle2 : k + ((texts t)[r.length]).size ≤ 5000 := by rw [hlen]; omega
        clear hc1 a2 a3 hle hlen
        generalize (texts t)[r.length] = T at *
        by_cases dl : r.length + 1 < n1
        · by_cases d5 : T.size = 512
          · have q5 : ((T.size : Int) != 512) = false := by rw [bne_eq_false_iff_eq]; omega
            have q6 : 511 < T.size := by omega
            clear d5
            go_wp2_with fail
            go_loopg [6] (T.size - 32) (fun gk n wx => w1 = wx ∧ ∃ j : Nat, 32 ≤ j ∧ gk = T.size - j ∧ n = .int .i64 j ∧ j ≤ 100000)
            case atStart => exact ⟨rfl, 32, by omega, rfl, rfl, by omega⟩
            case round =>
              obtain ⟨rfl, j, hj1, rfl, rfl, hj2⟩ := hrel
              by_cases dj : j < T.size
              · have hno := HNO.out j hj1 dj
                have HXE := Lib.hid (HXT.out j dj)
                have hsz : Hid ((T.extract 0 j).size ≤ maxLen) := Lib.hid (small_max (Nat.le_trans (extract_le T j) h512))
                have hW0 := W16_lo ((restOf t k).take j)
                have HWV : Hid (∀ w, Calls Try.prog 22 #[.string (T.extract 0 j)] w fun e w' => e = .returned (.int .u32 (W16 ((restOf t k).take j))) ∧ w = w') := Lib.hid fun w => chW_any (T.extract 0 j) w _ hsz.out (by rw [HXE.out]; rfl)
                clear HXE
                generalize W16 ((restOf t k).take j) = Wj at *
                have q : (Wj % 64 == 7) = false := beq_eq_false_iff_ne.2 hno
                clear hno
                go_wp2_with (go_at_call 22; refine (HWV.out _).mono ?_; rintro e w' ⟨rfl, rfl⟩)
                go_roundg (T.size - (j + 1))
                case rel => exact ⟨rfl, j + 1, by omega, rfl, by go_num, by omega⟩
                case measure => omega
              · go_wp2_with fail
                go_roundg (n1 - (r.length + 1))
                case rel => exact ⟨_, k + T.size, by simp; omega, by simp, by simp, by omega, rfl, HNX⟩
                case measure => omega
          · have q5 : ((T.size : Int) != 512) = true := by rw [bne_iff_ne]; omega
            have hwe := HEND.out dl d5
            have hWT := W16_lo T.data.toList
            have HWT : Hid (∀ w, Calls Try.prog 22 #[.string T] w fun e w' => e = .returned (.int .u32 (W16 T.data.toList)) ∧ w = w') := Lib.hid fun w => chW_any T w _ (by unfold maxLen; omega) rfl
            clear HEND
            generalize W16 T.data.toList = WT at *
            have q : (WT % 64 != 7) = false := by rw [bne_eq_false_iff_eq]; exact hwe
            clear hwe
            go_wp2_with fail
            refine (HWT.out _).mono ?_
            rintro e w' ⟨rfl, rfl⟩
            go_wp2_with fail
            go_loopg [6] (T.size - 32) (fun gk n wx => w1 = wx ∧ ∃ j : Nat, 32 ≤ j ∧ gk = T.size - j ∧ n = .int .i64 j ∧ j ≤ 100000)
            case atStart => exact ⟨rfl, 32, by omega, rfl, rfl, by omega⟩
            case round =>
              obtain ⟨rfl, j, hj1, rfl, rfl, hj2⟩ := hrel
              by_cases dj : j < T.size
              · have hno := HNO.out j hj1 dj
                have HXE := Lib.hid (HXT.out j dj)
                have hsz : Hid ((T.extract 0 j).size ≤ maxLen) := Lib.hid (small_max (Nat.le_trans (extract_le T j) h512))
                have hW0 := W16_lo ((restOf t k).take j)
                have HWV : Hid (∀ w, Calls Try.prog 22 #[.string (T.extract 0 j)] w fun e w' => e = .returned (.int .u32 (W16 ((restOf t k).take j))) ∧ w = w') := Lib.hid fun w => chW_any (T.extract 0 j) w _ hsz.out (by rw [HXE.out]; rfl)
                clear HXE
                generalize W16 ((restOf t k).take j) = Wj at *
                have q : (Wj % 64 == 7) = false := beq_eq_false_iff_ne.2 hno
                clear hno
                go_wp2_with (go_at_call 22; refine (HWV.out _).mono ?_; rintro e w' ⟨rfl, rfl⟩)
                go_roundg (T.size - (j + 1))
                case rel => exact ⟨rfl, j + 1, by omega, rfl, by go_num, by omega⟩
                case measure => omega
              · go_wp2_with fail
                go_roundg (n1 - (r.length + 1))
                case rel => exact ⟨_, k + T.size, by simp; omega, by simp, by simp, by omega, rfl, HNX⟩
                case measure => omega
        · go_wp2_with fail
          go_loopg [6] (T.size - 32) (fun gk n wx => w1 = wx ∧ ∃ j : Nat, 32 ≤ j ∧ gk = T.size - j ∧ n = .int .i64 j ∧ j ≤ 100000)
          case atStart => exact ⟨rfl, 32, by omega, rfl, rfl, by omega⟩
          case round =>
            obtain ⟨rfl, j, hj1, rfl, rfl, hj2⟩ := hrel
            by_cases dj : j < T.size
            · have hno := HNO.out j hj1 dj
              have HXE := Lib.hid (HXT.out j dj)
              have hsz : Hid ((T.extract 0 j).size ≤ maxLen) := Lib.hid (small_max (Nat.le_trans (extract_le T j) h512))
              have hW0 := W16_lo ((restOf t k).take j)
              have HWV : Hid (∀ w, Calls Try.prog 22 #[.string (T.extract 0 j)] w fun e w' => e = .returned (.int .u32 (W16 ((restOf t k).take j))) ∧ w = w') := Lib.hid fun w => chW_any (T.extract 0 j) w _ hsz.out (by rw [HXE.out]; rfl)
              clear HXE
              generalize W16 ((restOf t k).take j) = Wj at *
              have q : (Wj % 64 == 7) = false := beq_eq_false_iff_ne.2 hno
              clear hno
              go_wp2_with (go_at_call 22; refine (HWV.out _).mono ?_; rintro e w' ⟨rfl, rfl⟩)
              go_roundg (T.size - (j + 1))
              case rel => exact ⟨rfl, j + 1, by omega, rfl, by go_num, by omega⟩
              case measure => omega
            · go_wp2_with fail
              go_roundg (n1 - (r.length + 1))
              case rel => exact ⟨_, k + T.size, by simp; omega, by simp, by simp, by omega, rfl, HNX⟩
              case measure => omega
      · go_wp2_with fail
        refine (chCuts_a _).mono ?_
        rintro e w7 ⟨a7, n7, c7, rfl, hs7, hb7, _⟩
        obtain rfl : n7 = 1 := sl_len hs7
        have HB7 := Lib.hid (below_then HB1.out hb7 HB1.out.size)
        clear hs7 hb7
        go_wp2
        go_ret
        exact ⟨rfl, HB7.out⟩
    · go_wp2_with fail
      refine (chCuts_a _).mono ?_
      rintro e w7 ⟨a7, n7, c7, rfl, hs7, hb7, _⟩
      obtain rfl : n7 = 1 := sl_len hs7
      have HB7 := Lib.hid (below_then HB1.out hb7 HB1.out.size)
      clear hs7 hb7
      go_wp2
      go_ret
      exact ⟨rfl, HB7.out⟩
theorem chunkWhy_walk (s : ByteArray) (w : World) (hs : s.size ≤ maxLen) :
    Calls Try.prog 11 #[.string s] w fun e w' => e = .returned (.bool true) ∧ Below w.heap.size w w' :=
  chunkWhy_main s _ w (Lib.hid hs) (Lib.hid rfl) (cut4_le s)
end Go.Proofs.Ytebpelfmllkpbaa

