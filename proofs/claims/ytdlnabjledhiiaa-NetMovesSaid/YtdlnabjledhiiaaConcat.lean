/-
  The walks of slices.Grow of nil, slices.Concat of two, and slices.Clone, of slices of strings: a slice of one's own.
-/
import Derived.Test.YtdlnabjledhiiaaSrc
namespace Go.Proofs.Ytdlnabjledhiiaa
open Go.RowKit
set_option linter.unusedVariables false

set_option maxHeartbeats 400000 in
theorem grow_zero (w : World) : Calls Try.prog 36 #[.slice none 0 0, .int .i64 0] w fun e w' => e = .returned (.slice none 0 0) ∧ w' = w := by
  go_enter Try.func36, Try.ntmps36
  go_wp2
  go_ret
  exact ⟨rfl, rfl⟩

set_option maxHeartbeats 1000000 in
theorem grow_some (n : Nat) (h0 : 0 < n) (hn : n ≤ 1000000) (w : World) : Calls Try.prog 36 #[.slice none 0 0, .int .i64 (n : Int)] w fun e w' =>
    ∃ v, e = .returned v ∧ w'.ownsRow w.heap.size 9 1 v 0 [] ∧ Below w.heap.size w w' := by
  obtain ⟨i0, hi, hz0, hz1, hz2⟩ := info_parts infoStr
  have hold : (Builtin.firstCells i0.size 0 (.slice none 0 0)).run Try.prog w.drew = .ok (#[] : Array Value) w.drew := run_firstCells_none _ _ _ _ _
  have hrz : ∀ ty, (Builtin.append_ #[22, 3] ty #[.slice none 0 0, .int .i64 (n : Int)]).run Try.prog w =
      .ok (.slice (some ⟨w.heap.size, 0, none⟩) n (grownCap w n 0 9)) (w.drew.alloc (.cells ((#[] : Array Value) ++ Builtin.zeroCells (Value.string ⟨#[]⟩).cells n ++ Builtin.zeroCells (Value.string ⟨#[]⟩).cells (grownCap w n 0 9 - n)) 9)) := fun ty => by
    have h := Lib.run_append_grow_zeros (P := Try.prog) w 22 3 ty 9 i0 (.string ⟨#[]⟩) .i64 .i64 Try.underlying22 Try.underlying3 hi hz0 none 0 0 [] hold n h0 (by omega) (by omega) (by omega)
      (by rw [hz2]; omega) (by rw [Nat.zero_add]; exact growslice_fits h0 (by rw [hz2]; omega))
    rw [Nat.zero_add] at h
    exact h
  have hGn : n ≤ grownCap w n 0 9 := grownCap_ge w _ _ _
  have hGm : grownCap w n 0 9 ≤ maxLen := grownCap_le_maxLen w n 0 9 (by unfold maxLen; omega)
  obtain ⟨G, hG⟩ : ∃ G, G = grownCap w n 0 9 := ⟨_, rfl⟩
  rw [← hG] at hrz hGn hGm
  have hG63 : G ≤ 9223372036854775807 := by unfold maxLen at hGm; omega
  have hcs : ((#[] : Array Value) ++ Builtin.zeroCells (Value.string ⟨#[]⟩).cells n ++ Builtin.zeroCells (Value.string ⟨#[]⟩).cells (G - n)).size = G * 1 := by
    rw [Array.size_append, Array.size_append, size_zeroCells, size_zeroCells]; simp [Value.cells]; omega
  generalize ((#[] : Array Value) ++ Builtin.zeroCells (Value.string ⟨#[]⟩).cells n ++ Builtin.zeroCells (Value.string ⟨#[]⟩).cells (G - n)) = cur at *
  have hno : ¬ ((n : Int) < 0) := by omega
  have hn1 : (0 : Int) < (n : Int) := by omega
  clear hold hG
  go_enter Try.func36, Try.ntmps36
  go_wp2_with (at_builtin; refine Lib.wpList_append_run _ rfl _ _ _ _ rfl _ _ rfl rfl _ _ (hrz _) ?_)
  go_ret
  refine ⟨_, rfl, ?_, ?_⟩
  · exact World.ownsRow_made w.drew cur G (Nat.le_refl _) hGm hcs
  · exact (below_drewN (Below.refl _ w) 1).alloc (Nat.le_refl _) _

theorem grow_any (n : Nat) (hn : n ≤ 1000000) (w : World) : Calls Try.prog 36 #[.slice none 0 0, .int .i64 (n : Int)] w fun e w' =>
    ∃ v, e = .returned v ∧ w'.ownsRow w.heap.size 9 1 v 0 [] ∧ Below w.heap.size w w' := by
  by_cases h0 : n = 0
  · subst h0
    refine (grow_zero w).mono ?_
    rintro e w' ⟨rfl, rfl⟩
    exact ⟨_, rfl, World.ownsRow_nil _ _ _ _, Below.refl _ _⟩
  · exact grow_some n (by omega) hn w

theorem strs_append (a b : List ByteArray) : strs (a ++ b) = strs a ++ strs b := by simp [strs]

set_option maxHeartbeats 2000000 in
theorem concat_any (b : Nat) (v1 v2 : Value) (xs ys : List ByteArray) (w : World) (hc0 : w.cell? ⟨b, 0, none⟩ = some v1) (hc1 : w.cell? ⟨b, 1, none⟩ = some v2) (h1 : Src w v1 (strs xs)) (h2 : Src w v2 (strs ys)) (hn : xs.length + ys.length ≤ 1000000) :
    Calls Try.prog 24 #[.slice (some ⟨b, 0, none⟩) 2 2] w (RetSl w (strs (xs ++ ys))) := by
  obtain ⟨i0, hi, hz0, hz1, hz2⟩ := info_parts infoStr
  obtain ⟨a1, c1, rfl⟩ := h1.shape
  obtain ⟨a2, c2, rfl⟩ := h2.shape
  obtain ⟨N1, hN1⟩ : ∃ N1, N1 = (strs xs).length := ⟨_, rfl⟩
  obtain ⟨N2, hN2⟩ : ∃ N2, N2 = (strs ys).length := ⟨_, rfl⟩
  rw [← hN1] at h1 hc0
  rw [← hN2] at h2 hc1
  obtain ⟨S, hS⟩ : ∃ S, S = N1 + N2 := ⟨_, rfl⟩
  have hS9 : S ≤ 1000000 := by rw [hS, hN1, hN2, strs_length, strs_length]; exact hn
  have hN1S : N1 ≤ S := by omega
  have hSi : (N1 : Int) + (N2 : Int) = (S : Int) := by omega
  have H1 := Lib.hid h1
  have H2 := Lib.hid h2
  have HN1 := Lib.hid hN1
  have HN2 := Lib.hid hN2
  have HS := Lib.hid hS
  have HC0 := Lib.hid hc0
  have HC1 := Lib.hid hc1
  clear h1 h2 hN1 hN2 hS hn
  go_enter Try.func24, Try.ntmps24
  go_wp2_with fail
  go_loopg [3, 11] 3 (fun gk sv iv wr => ∃ (k s : Nat), gk = 3 - k ∧ iv = .int .i64 k ∧ sv = .int .i64 s ∧ w = wr ∧ ((k = 0 ∧ s = 0) ∨ (k = 1 ∧ s = N1) ∨ (k = 2 ∧ s = S)))
  case atStart => exact ⟨0, 0, rfl, rfl, rfl, rfl, .inl ⟨rfl, rfl⟩⟩
  case round =>
    obtain ⟨k, s, rfl, rfl, rfl, rfl, (⟨rfl, rfl⟩ | ⟨rfl, rfl⟩ | ⟨rfl, rfl⟩)⟩ := hrel
    · go_wp2_with fail
      go_roundg 2
      case rel => exact ⟨1, N1, rfl, rfl, rfl, rfl, .inr (.inl ⟨rfl, rfl⟩)⟩
      case measure => omega
    · go_wp2_with fail
      go_roundg 1
      case rel => exact ⟨2, S, rfl, rfl, rfl, rfl, .inr (.inr ⟨rfl, rfl⟩)⟩
      case measure => omega
    · go_wp2_with fail
      refine (grow_any s hS9 _).mono ?_
      rintro e w1 ⟨v1, rfl, ho1, hb1⟩
      have HO1 := Lib.hid ho1
      have HB1 := Lib.hid hb1
      have HS9 := Lib.hid hS9
      clear ho1 hb1 hc0 hc1
      go_wp2_with fail
      go_loopg [6, 27] 3 (fun gk pv iv w2 => ∃ (k : Nat), gk = 3 - k ∧ iv = .int .i64 k ∧ Hid (Below w.heap.size w w2) ∧ ((k = 0 ∧ Hid (w2.ownsRow w.heap.size 9 1 pv 0 [])) ∨ (k = 1 ∧ Hid (w2.ownsRow w.heap.size 9 1 pv N1 (strs xs))) ∨ (k = 2 ∧ Hid (w2.ownsRow w.heap.size 9 1 pv s (strs (xs ++ ys))))))
      case atStart => exact ⟨0, rfl, rfl, HB1, .inl ⟨rfl, HO1⟩⟩
      case round =>
        obtain ⟨k, rfl, rfl, hB, (⟨rfl, hO⟩ | ⟨rfl, hO⟩ | ⟨rfl, hO⟩)⟩ := hrel
        · have hown := hO.out
          have hsz := hB.out.size
          have hcc := cell_keep hB.out HC0.out
          have hsrc := Lib.hid (H1.out.keep hB.out)
          go_wp2_with (at_builtin; refine wpList_appS _ rfl _ _ 22 rfl w.heap.size 9 i0 (.string ⟨#[]⟩) 16 Try.underlying22 hi hz0 hz1 hz2 rfl _ _ _ hown rfl _ _ rfl hsrc.out (strs_one _) ?c3 ?c4 hsz ?_)
          case c3 => have := HS9.out; have := HS.out; have := HN1.out; have := HN2.out; unfold maxLen; omega
          case c4 => have := HS9.out; have := HS.out; have := HN1.out; have := HN2.out; omega
          intro v' w3 hown' hgrow
          have HB3 : Hid (Below w.heap.size w w3) := Lib.hid (hB.out.grown hgrow hsz (fun x e => (hown.lt x e).1))
          have HO3 : Hid (w3.ownsRow w.heap.size 9 1 v' N1 (strs xs)) := Lib.hid (by
            rw [HN1.out]; simpa using hown')
          clear hown' hgrow hown hsrc hcc hsz
          go_wp2_with fail
          go_roundg 2
          case rel => exact ⟨1, rfl, rfl, HB3, .inr (.inl ⟨rfl, HO3⟩)⟩
          case measure => omega
        · have hown := hO.out
          have hsz := hB.out.size
          have hcc := cell_keep hB.out HC1.out
          have hsrc := Lib.hid (H2.out.keep hB.out)
          go_wp2_with (at_builtin; refine wpList_appS _ rfl _ _ 22 rfl w.heap.size 9 i0 (.string ⟨#[]⟩) 16 Try.underlying22 hi hz0 hz1 hz2 rfl _ _ _ hown rfl _ _ rfl hsrc.out (strs_one _) ?c3 ?c4 hsz ?_)
          case c3 => have := HS9.out; have := HS.out; have := HN1.out; have := HN2.out; unfold maxLen; omega
          case c4 => have := HS9.out; have := HS.out; have := HN1.out; have := HN2.out; omega
          intro v' w3 hown' hgrow
          have HB3 : Hid (Below w.heap.size w w3) := Lib.hid (hB.out.grown hgrow hsz (fun x e => (hown.lt x e).1))
          have HO3 : Hid (w3.ownsRow w.heap.size 9 1 v' s (strs (xs ++ ys))) := Lib.hid (by
            rw [HS.out, HN2.out, strs_append]; exact hown')
          clear hown' hgrow hown hsrc hcc hsz
          go_wp2_with fail
          go_roundg 1
          case rel => exact ⟨2, rfl, rfl, HB3, .inr (.inr ⟨rfl, HO3⟩)⟩
          case measure => omega
        · go_wp2_with fail
          go_ret
          obtain ⟨a, n, c, hv, hsl, hfr, hnc⟩ := own_slice hO.out
          subst hv
          exact ⟨a, n, c, rfl, hsl, hB.out, hfr, hnc⟩
end Go.Proofs.Ytdlnabjledhiiaa
