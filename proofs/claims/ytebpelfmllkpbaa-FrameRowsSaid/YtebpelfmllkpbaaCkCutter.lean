/-
  The walks of chunk.cutter and of the function that it hands back: each call tells the next cut.
-/
import Derived.Test.YtebpelfmllkpbaaCkP
import Derived.Test.YtebpelfmllkpbaaSl
import Derived.Test.YtebpelfmllkpbaaRows
import Derived.WalkKit
import Derived.WalkSpells
import Derived.WalkLawsBesides
import Derived.Deep.LoopGhost
import Derived.IntWalk
namespace Go.Proofs.Ytebpelfmllkpbaa
open Go.RowKit
set_option linter.unusedVariables false

/-- What a round has made of the world: the place alone has turned. -/
structure CutW (w wr : World) (Ba k : Nat) : Prop where
  own : One wr Ba 3 (.int .i64 k)
  grown : w.grownBy wr (some Ba)
theorem CutW.step {w wr : World} {Ba k : Nat} (h : CutW w wr Ba k) (n : Nat) (v : Int) (hv : v = ((k + 1 : Nat) : Int)) : CutW w ((wr.setCell ⟨Ba, 0, none⟩ (.int .i64 v)).drewN n) Ba (k + 1) := by
  subst hv
  exact ⟨One.drewN (one_setCell (u := .int .i64 (((k + 1 : Nat)) : Int)) h.own) n, grown_drewN (grown_trans h.grown (grown_setCell wr Ba 0 _)) n⟩
/-- The text's rest, behind j bytes of it, none of which has ended the chunk. -/
structure CutI (s : ByteArray) (at0 j : Nat) : Prop where
  le : at0 + j ≤ s.size
  go : ∀ m, 1 ≤ m → m ≤ j → m < s.size - at0 → stopB (s.data.toList.drop at0) m = false
def restOf (s : ByteArray) (at0 : Nat) : List UInt8 := s.data.toList.drop at0
theorem restOf_length (s : ByteArray) (at0 : Nat) : (restOf s at0).length = s.size - at0 := by simp [restOf]
theorem restOf_take (s : ByteArray) (at0 j : Nat) (h : at0 + j < s.size) : (restOf s at0).take (j + 1) = (restOf s at0).take j ++ [s[at0 + j]] := by
  rw [List.take_succ_eq_append_getElem (by rw [restOf_length]; omega)]
  simp [restOf]; rfl
theorem restOf_back (s : ByteArray) (at0 j : Nat) (h : at0 + j < s.size) (h16 : 16 ≤ j) :
    ((restOf s at0).take j)[((restOf s at0).take j).length - 16]'(by simp [restOf_length]; omega) = s[at0 + j - 16] := by
  have hl : ((restOf s at0).take j).length = j := by simp [restOf_length]; omega
  simp only [hl, List.getElem_take]
  simp only [restOf, List.getElem_drop, byte_at]
  congr 1; omega
theorem take_len (s : ByteArray) (at0 j : Nat) (h : at0 + j < s.size) : ((restOf s at0).take j).length = j := by simp [restOf_length]; omega

theorem stop_yes (s : ByteArray) (at0 j : Nat) (hj : at0 + j < s.size) (W : Int) (hW : W = W16 ((restOf s at0).take (j + 1))) (hI : CutI s at0 j) (h : 512 ≤ j + 1 ∨ (32 ≤ j + 1 ∧ W % 64 = 7)) : chunkLen (restOf s at0) = j + 1 := by
  subst hW
  refine chunkLen_eq _ _ (by omega) ?_ fun m h1 h2 => hI.go m h1 (by omega) (by omega)
  rcases h with h | ⟨h, h'⟩
  · simp [stopB, h]
  · simp [stopB, h, h']
theorem stop_end (s : ByteArray) (at0 j : Nat) (hj : ¬ at0 + j < s.size) (hle : at0 + j ≤ s.size) (h0 : at0 < s.size) (hI : CutI s at0 j) : chunkLen (restOf s at0) = j := by
  refine chunkLen_eq _ _ (by omega) ?_ fun m h1 h2 => hI.go m h1 (by omega) (by omega)
  simp [stopB, restOf_length]; omega
theorem stop_no (s : ByteArray) (at0 j : Nat) (hj : at0 + j < s.size) (W : Int) (hW : W = W16 ((restOf s at0).take (j + 1))) (hI : CutI s at0 j) (h5 : ¬ 512 ≤ j + 1) (h : ¬ (32 ≤ j + 1 ∧ W % 64 = 7)) : CutI s at0 (j + 1) := by
  subst hW
  refine ⟨by omega, fun m h1 h2 h3 => ?_⟩
  by_cases hm : m = j + 1
  · subst hm
    have hl : ¬ (restOf s at0).length ≤ j + 1 := by rw [restOf_length]; omega
    show stopB (restOf s at0) (j + 1) = false
    simp only [stopB, decide_eq_false hl, decide_eq_false h5, Bool.false_or]
    simpa using h
  · exact hI.go m h1 (by omega) h3

set_option maxHeartbeats 2000000 in
theorem cutter_next (s : ByteArray) (at0 : Nat) (Ba Bs Bo : Nat) (w : World) (hs : s.size ≤ maxLen) (h1 : Ba ≠ Bs) (h2 : Ba ≠ Bo) (hat : at0 < s.size)
    (ha : One w Ba 3 (.int .i64 at0)) (hS : w.cell? ⟨Bs, 0, none⟩ = some (.string s)) (hO : w.cell? ⟨Bo, 0, none⟩ = some (.int .u32 OUT16)) (N : Int) (hN : Hid (N = ((at0 + chunkLen (restOf s at0) : Nat) : Int))) (w2 : Nat) (hw2 : Hid (w2 = at0 + chunkLen (restOf s at0))) :
    Calls Try.prog 41 #[.pointer (some ⟨Ba, 0, none⟩), .pointer (some ⟨Bs, 0, none⟩), .pointer (some ⟨Bo, 0, none⟩)] w fun e w' => e = .returned (.int .i64 N) ∧ CutW w w' Ba w2 := by
  have hca := cell_of_one ha
  have hfa := free_of_one ha
  have HA := Lib.hid ha
  have HS := Lib.hid hS
  have HO := Lib.hid hO
  have hd : decide (s.size ≤ at0) = false := decide_eq_false (by omega)
  unfold maxLen at hs
  clear ha
  go_enter Try.func41, Try.ntmps41
  go_wp2
  clear hca hfa hS hO
  go_loopg [5] (s.size - at0) (fun gk c wr => ∃ j : Nat, at0 + j ≤ s.size ∧ gk = s.size - at0 - j ∧ c = .int .u32 (W16 ((restOf s at0).take j)) ∧ CutI s at0 j ∧ CutW w wr Ba (at0 + j))
  case atStart => exact ⟨0, by omega, by omega, rfl, ⟨by omega, fun m h1 h2 => by omega⟩, HA.out, World.grownBy.refl w _⟩
  case round =>
    obtain ⟨j, hj, rfl, rfl, hI, hW⟩ := hrel
    have HI := Lib.hid hI
    have HW := Lib.hid hW
    have hca : wr.cell? ⟨Ba, 0, none⟩ = some (.int .i64 ((at0 + j : Nat) : Int)) := cell_of_one hW.own
    have hfa := free_of_one hW.own
    have hcS : wr.cell? ⟨Bs, 0, none⟩ = some (.string s) := hW.grown.cell HS.out (by simp; omega)
    have hcO : wr.cell? ⟨Bo, 0, none⟩ = some (.int .u32 OUT16) := hW.grown.cell HO.out (by simp; omega)
    clear hI hW
    by_cases hlt : at0 + j < s.size
    · have hsub : (at0 : Int) + (j : Int) - (at0 : Int) = (j : Int) := by omega
      have hsub2 : (at0 : Int) + (j : Int) + 1 - (at0 : Int) = (j : Int) + 1 := by omega
      have hb1 := byte_lt s[at0 + j]
      by_cases h16 : 16 ≤ j
      · have hb2 := byte_lt s[at0 + j - 16]
        have hv := W16_manyS ((restOf s at0).take j) s[at0 + j] (by rw [take_len s at0 j hlt]; exact h16)
        rw [restOf_back s at0 j hlt h16, ← restOf_take s at0 j hlt] at hv
        have HV := Lib.hid hv
        clear hv
        have hi1 : (0 : Int) ≤ ((at0 + j - 16 : Nat) : Int) := by omega
        have hi2 : ((at0 + j - 16 : Nat) : Int) < (s.size : Int) := by omega
        have hwA : IntKind.i64.wrap ((at0 : Int) + (j : Int) - 16) = ((at0 + j - 16 : Nat) : Int) := by rw [IntWalk.i64_in _ (by omega)]; omega
        have hwB : ((at0 : Int) + (j : Int) - 16) = ((at0 + j - 16 : Nat) : Int) := by omega
        go_wp2
        go_quiet (fail)
        rw [← HV.out]
        clear hwA hwB
        obtain ⟨Wn, hWn⟩ : ∃ Wn, Wn = W16 ((restOf s at0).take (j + 1)) := ⟨_, rfl⟩
        rw [← hWn]
        have HWn := Lib.hid hWn
        have hw0 : 0 ≤ Wn := by rw [hWn]; exact W16_lo _
        clear hWn
        by_cases c3 : j + 1 = 512
        · have q3 : 511 ≤ j := by omega
          have q4 : j ≤ 511 := by omega
          have q5 : ((j : Int) + 1 == 512) = true := beq_iff_eq.2 (by omega)
          have HC := Lib.hid (stop_yes s at0 j hlt Wn HWn.out HI.out (.inl (by omega)))
          clear c3
          by_cases c2 : Wn % 64 = 7
          · have q2 : (Wn % 64 == 7) = true := beq_iff_eq.2 c2
            clear c2
            go_wp2
            go_ret
            exact ⟨ret_int (by rw [hN.out, HC.out]; omega), by rw [hw2.out, HC.out]; exact HW.out.step _ _ (by omega)⟩
          · have q2 : (Wn % 64 == 7) = false := beq_eq_false_iff_ne.2 c2
            clear c2
            go_wp2
            go_ret
            exact ⟨ret_int (by rw [hN.out, HC.out]; omega), by rw [hw2.out, HC.out]; exact HW.out.step _ _ (by omega)⟩
        · by_cases c5 : 512 ≤ j + 1
          · exfalso
            have := HI.out.go 512 (by omega) (by omega) (by omega)
            simp [stopB] at this
          · have q5 : ((j : Int) + 1 == 512) = false := beq_eq_false_iff_ne.2 (by omega)
            by_cases c1 : 32 ≤ j + 1
            · by_cases c2 : Wn % 64 = 7
              · have q2 : (Wn % 64 == 7) = true := beq_iff_eq.2 c2
                have HC := Lib.hid (stop_yes s at0 j hlt Wn HWn.out HI.out (.inr ⟨c1, c2⟩))
                clear c2
                go_wp2
                go_ret
                exact ⟨ret_int (by rw [hN.out, HC.out]; omega), by rw [hw2.out, HC.out]; exact HW.out.step _ _ (by omega)⟩
              · have q2 : (Wn % 64 == 7) = false := beq_eq_false_iff_ne.2 c2
                have HC := Lib.hid (stop_no s at0 j hlt Wn HWn.out HI.out c5 (fun h => c2 h.2))
                clear c2
                go_wp2
                go_roundg (s.size - at0 - (j + 1))
                case rel => exact ⟨j + 1, by omega, by omega, by rw [HWn.out], HC.out, HW.out.step _ _ (by omega)⟩
                case measure => omega
            · have HC := Lib.hid (stop_no s at0 j hlt Wn HWn.out HI.out c5 (fun h => c1 h.1))
              go_wp2
              go_roundg (s.size - at0 - (j + 1))
              case rel => exact ⟨j + 1, by omega, by omega, by rw [HWn.out], HC.out, HW.out.step _ _ (by omega)⟩
              case measure => omega
      · have hv := W16_fewS ((restOf s at0).take j) s[at0 + j] (by rw [take_len s at0 j hlt]; omega)
        rw [← restOf_take s at0 j hlt] at hv
        have HV := Lib.hid hv
        clear hv
        have HC := Lib.hid (stop_no s at0 j hlt _ rfl HI.out (by omega) (fun h => by omega))
        go_wp2
        go_roundg (s.size - at0 - (j + 1))
        case rel => exact ⟨j + 1, by omega, by omega, by rw [HV.out], HC.out, HW.out.step 0 _ (by omega)⟩
        case measure => omega
    · have HC := Lib.hid (stop_end s at0 j hlt hj hat HI.out)
      go_wp2
      go_ret
      exact ⟨ret_int (by rw [hN.out, HC.out]; omega), by rw [hw2.out, HC.out]; exact HW.out⟩

set_option maxHeartbeats 400000 in
theorem cutter_end (s : ByteArray) (at0 : Nat) (Ba Bs Bo : Nat) (w : World) (hs : s.size ≤ maxLen) (hat : s.size ≤ at0) (h63 : at0 ≤ 9223372036854775807)
    (ha : One w Ba 3 (.int .i64 at0)) (hS : w.cell? ⟨Bs, 0, none⟩ = some (.string s)) :
    Calls Try.prog 41 #[.pointer (some ⟨Ba, 0, none⟩), .pointer (some ⟨Bs, 0, none⟩), .pointer (some ⟨Bo, 0, none⟩)] w fun e w' => e = .returned (.int .i64 (-1)) ∧ w = w' := by
  have hca := cell_of_one ha
  clear ha
  unfold maxLen at hs
  go_enter Try.func41, Try.ntmps41
  go_wp2
  go_ret
  exact ⟨rfl, rfl⟩
end Go.Proofs.Ytebpelfmllkpbaa
