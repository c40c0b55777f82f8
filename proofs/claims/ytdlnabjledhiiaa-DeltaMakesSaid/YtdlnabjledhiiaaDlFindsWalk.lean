/-
  The walk of the law DeltaFinds: it returns true on any text and any two numbers; the library's own variable holds some number; new blocks alone are made.
-/
import Derived.Test.YtdlnabjledhiiaaMkWalkA
import Derived.IntWalk
import Derived.OpenShut
import Derived.Shelf.Vars
namespace Go.Proofs.Ytdlnabjledhiiaa
open Go.RowKit
set_option linter.unusedVariables false

theorem shortS_le (s : ByteArray) (n : Nat) : (shortS s n).size ≤ n := by
  unfold shortS
  split
  · rw [strOf_size, List.length_take]; omega
  · omega
theorem tmod_in (a : Int) (L : Nat) (h : 0 < L) : -(L : Int) < a.tmod (L : Int) ∧ a.tmod (L : Int) < (L : Int) := by
  have h1 := Int.tmod_lt_of_pos a (b := (L : Int)) (by omega)
  have h2 := Int.tmod_lt_of_pos (-a) (b := (L : Int)) (by omega)
  rw [Int.neg_tmod] at h2
  omega

set_option maxRecDepth 100000 in
set_option maxHeartbeats 4000000 in
theorem deltaFinds_big (old : ByteArray) (at_ n : Int) (w : World) (h : 131072 < old.size) (ho : old.size ≤ maxLen) :
    Calls Try.prog 7 #[.string old, .int .i64 at_, .int .i64 n] w fun e w' => e = .returned (.bool true) ∧ Below w.heap.size w w' := by
  have h1 : (131072 : Int) < (old.size : Int) := by omega
  have k1 := Lib.hid (fun W => make_long old ⟨#[97]⟩ W (.inl h))
  have k2 := Lib.hid (fun W => make_long ⟨#[97]⟩ old W (.inr ⟨by decide, h⟩))
  go_enter Try.func7, Try.ntmps7
  go_wp2_with fail
  refine (k1.out _).mono ?_
  rintro e w1 ⟨rfl, rfl⟩
  go_wp2_with fail
  refine (k2.out _).mono ?_
  rintro e w1 ⟨rfl, rfl⟩
  go_wp2_with fail
  go_ret
  exact ⟨rfl, Below.refl _ _⟩

set_option maxRecDepth 100000 in
set_option maxHeartbeats 8000000 in
theorem deltaFinds_small (old : ByteArray) (at_ n : Int) (m : Int) (w : World) (hm : w.cell? ⟨0, 0, none⟩ = some (.int .i64 m)) (h : old.size ≤ 131072) (ha : -9223372036854775808 ≤ at_ ∧ at_ ≤ 9223372036854775807) (hn : -9223372036854775808 ≤ n ∧ n ≤ 9223372036854775807) :
    Calls Try.prog 7 #[.string old, .int .i64 at_, .int .i64 n] w fun e w' => e = .returned (.bool true) ∧ Below w.heap.size w w' := by
  have h1 : (old.size : Int) ≤ 131072 := by omega
  have k0 := Lib.hid (short_any old 3000 w (by decide) (by unfold maxLen; omega) _ (Lib.hid rfl))
  have hsl := shortS_le old 3000
  generalize shortS old 3000 = s at *
  have k0 : Hid (Calls Try.prog 23 #[.string old, .int .i64 3000] w fun e w' => e = .returned (.string s) ∧ w = w') := k0
  have hsi : (s.size : Int) ≤ 3000 := by omega
  have HM := Lib.hid hm
  obtain ⟨a1, a2⟩ := ha
  obtain ⟨n1, n2⟩ := hn
  clear hm
  by_cases h16 : s.size < 16
  · have h2 : (s.size : Int) < 16 := by omega
    go_enter Try.func7, Try.ntmps7
    go_wp2_with fail
    refine k0.out.mono ?_
    rintro e w1 ⟨rfl, rfl⟩
    go_wp2_with fail
    refine (rightOne _ _).mono ?_
    rintro e w2 ⟨rfl, hb⟩
    have HB := Lib.hid hb
    clear hb
    go_wp2_with fail
    go_ret
    exact ⟨rfl, HB.out⟩
  · have h2 : (16 : Int) ≤ (s.size : Int) := by omega
    obtain ⟨L, hL⟩ : ∃ L, L = s.size := ⟨_, rfl⟩
    have t1 := tmod_in at_ s.size (by omega)
    obtain ⟨r1, hr1⟩ : ∃ r1, at_.tmod (s.size : Int) = r1 := ⟨_, rfl⟩
    rw [hr1] at t1
    obtain ⟨A0, hA0⟩ : ∃ A0 : Nat, (r1 + (s.size : Int)) % (s.size : Int) = (A0 : Int) := ⟨((r1 + (s.size : Int)) % (s.size : Int)).toNat, by
      have := Int.emod_nonneg (r1 + (s.size : Int)) (b := (s.size : Int)) (by omega); omega⟩
    have hA0l : (A0 : Int) < (s.size : Int) := by rw [← hA0]; exact Int.emod_lt_of_pos _ (by omega)
    obtain ⟨A, hA⟩ : ∃ A, A = min A0 (s.size - 16) := ⟨_, rfl⟩
    have hAi : (A : Int) ≤ (s.size : Int) - 16 := by omega
    obtain ⟨R, hR⟩ : ∃ R, R = s.size - A - 16 + 1 := ⟨_, rfl⟩
    have hRi : (s.size : Int) - (A : Int) - 16 + 1 = (R : Int) := by omega
    have hR1 : (1 : Int) ≤ (R : Int) := by omega
    have hR2 : (R : Int) ≤ 3000 := by omega
    have t2 := tmod_in n R (by omega)
    obtain ⟨r2, hr2⟩ : ∃ r2, n.tmod (R : Int) = r2 := ⟨_, rfl⟩
    rw [hr2] at t2
    obtain ⟨N0, hN0⟩ : ∃ N0 : Nat, (r2 + (R : Int)) % (R : Int) = (N0 : Int) := ⟨((r2 + (R : Int)) % (R : Int)).toNat, by
      have := Int.emod_nonneg (r2 + (R : Int)) (b := (R : Int)) (by omega); omega⟩
    have hN0l : (N0 : Int) < (R : Int) := by rw [← hN0]; exact Int.emod_lt_of_pos _ (by omega)
    obtain ⟨M, hM⟩ : ∃ M, M = 16 + N0 := ⟨_, rfl⟩
    have hMi : 16 + (N0 : Int) = (M : Int) := by omega
    have hAM : A + M ≤ s.size := by omega
    have hAMi : (A : Int) + (M : Int) ≤ (s.size : Int) := by omega
    have hM16 : 16 ≤ M := by omega
    have hM16i : (16 : Int) ≤ (M : Int) := by omega
    have hsl' : s.data.toList.length = s.size := (size_len s).symm
    have hex : s.extract A (A + M) = strOf ((s.data.toList.drop A).take M) := by rw [extract_strOf]; congr 2; omega
    have htl : ((s.data.toList.drop A).take M).length = M := by rw [List.length_take, List.length_drop, hsl']; omega
    have hes : (s.extract A (A + M)).size = M := by rw [hex, strOf_size, htl]
    have hfound := index_found s.data.toList (s.extract A (A + M)).data.toList A (by rw [← size_len, hes, hsl']; exact hAM) (by rw [← size_len, hes, hex]; rfl)
    obtain ⟨p, hp⟩ : ∃ p : Nat, Lib.index s.data.toList (s.extract A (A + M)).data.toList = (p : Int) := ⟨_, (Int.toNat_of_nonneg hfound).symm⟩
    have hpat := index_at _ _ p hp
    rw [← size_len, hes, hsl'] at hpat
    have hmk := Lib.hid (fun W (hb : Below w.heap.size w W) => make_found s (s.extract A (A + M)) m W (cell_keep hb HM.out) (by omega) (by rw [hes]; omega) (by rw [hes]; exact hM16) p hp)
    rw [hes] at hmk
    have hpx : s.extract p (p + M) = s.extract A (A + M) := by
      rw [extract_strOf s p (p + M), show p + M - p = M from by omega, hpat.2]
      exact strOf_self _
    have hpp : ((s.extract p (p + M)).toList == (s.extract A (A + M)).toList) = true := by rw [hpx]; simp
    have hpi : (p : Int) + (M : Int) ≤ (s.size : Int) := by have := hpat.1; omega
    have HAeq := Lib.hid hA
    have HA0 := Lib.hid (show (A : Int) = min (A0 : Int) ((s.size : Int) - 16) by omega)
    clear hL hA hR hM hex htl hes hfound hp hpat hpx hsl' hsl h16 hAM hM16
    go_enter Try.func7, Try.ntmps7
    go_wp2_with fail
    refine k0.out.mono ?_
    rintro e w1 ⟨rfl, rfl⟩
    go_upto_if 55 with fail
    go_cut [1] (fun v w' => v = .int .i64 (A : Int) ∧ w = w')
    case first =>
      have := HA0.out
      by_cases hh : (s.size : Int) - 16 < (A0 : Int)
      · have e : (A : Int) = (s.size : Int) - 16 := by omega
        go_wp2_with fail
        go_meet
        exact ⟨val_int e.symm, rfl⟩
      · have e : (A : Int) = (A0 : Int) := by omega
        go_wp2_with fail
        go_meet
        exact ⟨val_int e.symm, rfl⟩
    case rest =>
      obtain ⟨rfl, rfl⟩ := hcut
      go_wp2_with fail
      refine (hmk.out _ (Below.refl _ _)).mono ?_
      rintro e w2 ⟨b, rfl, hsl2, -, hb2⟩
      obtain ⟨-, b', o', e', hcells⟩ := hsl2.at (by decide)
      cases e'
      obtain ⟨d0, d1, d2⟩ := hcells 0 Nat.zero_lt_one
      have c0 : w2.cell? ⟨b, 0, none⟩ = some (.int .i64 (p : Int)) := d0
      have c1 : w2.cell? ⟨b, 1, none⟩ = some (.int .i64 (M : Int)) := d1
      have HB2 := Lib.hid hb2
      have hp0 : (0 : Int) ≤ (p : Int) := by omega
      have hw1 : IntKind.i64.wrap ((p : Int) + (M : Int)) = (p : Int) + (M : Int) := by rw [IntWalk.i64_in _ (by omega)]
      have hw2 : IntKind.i64.wrap ((A : Int) + (M : Int)) = (A : Int) + (M : Int) := by rw [IntWalk.i64_in _ (by omega)]
      have hMM : ((M : Int) == (M : Int)) = true := by simp
      have hle1 : (p : Int) ≤ (p : Int) + (M : Int) := by omega
      have hle2 : (A : Int) ≤ (A : Int) + (M : Int) := by omega
      have hA0i : (0 : Int) ≤ (A : Int) := by omega
      have hd1 : decide ((p : Int) + (M : Int) ≤ (s.size : Int)) = true := by simpa using hpi
      clear d0 d1 d2 hcells hsl2 hb2 hmk k0 hr1 hr2 hA0 hN0 hRi hMi
      go_wp2_with fail
      go_quiet (fail)
      go_wp2
      go_ret
      exact ⟨rfl, below_drewN HB2.out _⟩

theorem maxLenVar (w : World) (h : w.ShapedOpen Try.prog) : ∃ m, w.cell? ⟨0, 0, none⟩ = some (.int .i64 m) :=
  cell_of_shapedOpen_int (g := 0) (t := 3) (zero := #[.int .i64 0]) h (by decide) (by kernel_rfl) rfl (by kernel_rfl) (by kernel_rfl) Try.underlying3

theorem deltaFinds_walk (old : ByteArray) (at_ n : Int) (w : World) (ho : old.size ≤ maxLen) (ha : (Lit.int .i64 at_).wf = true) (hn : (Lit.int .i64 n).wf = true) (hsh : w.ShapedOpen Try.prog) :
    Calls Try.prog 7 #[.string old, .int .i64 at_, .int .i64 n] w fun e w' => e = .returned (.bool true) ∧ Below w.heap.size w w' := by
  by_cases h : 131072 < old.size
  · exact deltaFinds_big old at_ n w h ho
  · obtain ⟨m, hm⟩ := maxLenVar w hsh
    exact deltaFinds_small old at_ n m w hm (by omega) (bounds_i64 ha) (bounds_i64 hn)
end Go.Proofs.Ytdlnabjledhiiaa
