/-
  The walks of net.Take and Twice, where there is what they ask for.
-/
import Derived.Test.YtdlnabjledhiiaaNet
import Derived.RegionTactic
import Derived.IntWalk
import Derived.Deep.RegionWith
namespace Go.Proofs.Ytdlnabjledhiiaa
open Go.RowKit
set_option linter.unusedVariables false

theorem Src.at {w : World} {a : Option Addr} {n c k : Nat} {xs : List ByteArray} (h : Src w (.slice a n c) (strs xs)) (hk : k < xs.length) :
    ∃ ad, a = some ad ∧ w.cell? (ad.add k) = some (.string xs[k]) := by
  rcases h with ⟨e, hx⟩ | ⟨ad', n', c', e, hn, hc, hx⟩
  · cases xs with
    | nil => simp at hk
    | cons x l => cases hx
  · cases e
    exact ⟨ad', rfl, hx k _ (by simp [strs, List.getElem?_eq_getElem hk])⟩
/-- What is left behind place k. -/
theorem Src.drop {w : World} {ad : Addr} {n c m : Nat} {xs : List Value} (h : Src w (.slice (some ad) n c) xs) (hm : m ≤ n) :
    Src w (.slice (if c = m then some ad else some (ad.add m)) (n - m) (c - m)) (xs.drop m) := by
  rcases h with ⟨e, rfl⟩ | ⟨ad', n', c', e, hn, hc, hx⟩
  · cases e
  · cases e
    by_cases hcm : c = m
    · rw [if_pos hcm]
      refine .inr ⟨ad, n - m, c - m, rfl, by rw [List.length_drop]; omega, by omega, fun j u hj => ?_⟩
      have : xs.drop m = [] := List.drop_eq_nil_of_le (by omega)
      rw [this] at hj; cases hj
    · rw [if_neg hcm]
      refine .inr ⟨ad.add m, n - m, c - m, rfl, by rw [List.length_drop]; omega, by omega, fun j u hj => ?_⟩
      rw [List.getElem?_drop] at hj
      rw [Addr.add_add]
      exact hx _ _ hj

set_option maxHeartbeats 1000000 in
theorem take_any (vw : Value) (xs : List ByteArray) (k : Nat) (w : World) (h1 : Src w vw (strs xs)) (hk : k < xs.length) (hx : xs.length ≤ 1000) :
    Calls Try.prog 11 #[vw, .int .i64 (k : Int)] w fun e w' => ∃ a n c, e = .returned (.tuple #[.slice a n c, .string xs[k], .int .i64 0]) ∧ SlAt w' a n (strs (xs.take k ++ xs.drop (k + 1))) ∧ Below w.heap.size w w' ∧ (∀ x, a = some x → w.heap.size ≤ x.block) ∧ n ≤ c := by
  obtain ⟨a1, c1, rfl⟩ := h1.shape
  obtain ⟨ad, rfl, hcell⟩ := h1.at hk
  have hsd := Src.drop h1 (m := k + 1) (by rw [strs_length]; omega)
  have hst := Src.take h1 (m := k) (by rw [strs_length]; omega)
  have hle := h1.le.2
  rw [strs_length] at hsd hle ⊢
  rw [strs_take] at hst
  have hde : (strs xs).drop (k + 1) = strs (xs.drop (k + 1)) := by simp [strs]
  rw [hde] at hsd
  have hcat : Hid (∀ u, Src w u (strs (xs.drop (k + 1))) → Calls Try.prog 24 #[.slice (some ⟨w.heap.size, 0, none⟩) 2 2] (w.alloc (.cells #[.slice (some ad) k c1, u] 22)).drew (RetSl (w.alloc (.cells #[.slice (some ad) k c1, u] 22)).drew (strs (xs.take k ++ xs.drop (k + 1))))) := Lib.hid fun u hu =>
    concat_any w.heap.size _ _ (xs.take k) (xs.drop (k + 1)) _ (cell_two0 w _ _ _) (cell_two1 w _ _ _) ((hst.keep ((Below.refl _ w).alloc (Nat.le_refl _) _)).keep (below_drewN (Below.refl _ _) 1)) ((hu.keep ((Below.refl _ w).alloc (Nat.le_refl _) _)).keep (below_drewN (Below.refl _ _) 1)) (by rw [List.length_take, List.length_drop]; omega)
  have HC := Lib.hid (fun (W : World) (hb : Below w.heap.size w W) => cell_keep hb hcell)
  have hki : (k : Int) < (xs.length : Int) := by omega
  have hk0 : ¬ (k : Int) < 0 := by omega
  have hk1 : (k : Int) + 1 ≤ (xs.length : Int) := by omega
  have hkc : (k : Int) + 1 ≤ (c1 : Int) := by omega
  have hkc2 : (k : Int) ≤ (c1 : Int) := by omega
  have hlc : (xs.length : Int) ≤ (c1 : Int) := by omega
  have hx1 : (xs.length : Int) ≤ 1000 := by omega
  have hx9 : ((k : Int) + 1) = ((k + 1 : Nat) : Int) := by omega
  generalize xs[k] = t at *
  obtain ⟨L, hL⟩ : ∃ L, L = k + 1 := ⟨_, rfl⟩
  rw [← hL] at hcat hx9 hsd ⊢
  rw [hx9] at hk1 hkc
  have hLw : IntKind.i64.wrap (L : Int) = (L : Int) := by rw [IntWalk.i64_in _ (by omega)]
  have hL0 : (0 : Int) ≤ (L : Int) := by omega
  have HL := Lib.hid hL
  have hLN : L ≤ xs.length := by omega
  have hHW : ∀ (u : Value) (W : World), Below (w.alloc (.cells #[.slice (some ad) k c1, u] 22)).drew.heap.size (w.alloc (.cells #[.slice (some ad) k c1, u] 22)).drew W → Below w.heap.size w W := fun u W hb =>
    below_then (below_drewN ((Below.refl _ w).alloc (Nat.le_refl _) _) 1) hb (by simp)
  by_cases hcm : c1 = L
  · rw [if_pos hcm] at hsd
    have hN : xs.length = L := by omega
    rw [hN, hcm, Nat.sub_self] at hsd
    have HCAT := Lib.hid (hcat.out _ hsd)
    have HW := Lib.hid (hHW (.slice (some ad) 0 0))
    have hcA := cell_keep ((Below.refl _ w).alloc (Nat.le_refl _) (.cells #[.slice (some ad) k c1, .slice (some ad) 0 0] 22)) hcell
    generalize strs (xs.take k ++ xs.drop L) = zs at *
    generalize xs.length = N at *
    clear hsd hst h1 hde hcat hN hHW hL hLN
    subst hcm
    go_enter Try.func11, Try.ntmps11
    go_wp2_with fail
    go_region_with (go_at_call 24; refine HCAT.out.mono ?_; rintro e w1 ⟨a, n, c, rfl, hsl, hb, hfr, hnc⟩; have hbw := Lib.hid (HW.out _ hb); have hcl := HC.out w1 hbw.out; have hsl2 := Lib.hid hsl; have hfr2 := Lib.hid hfr; have hnc2 := Lib.hid hnc; clear hsl hb hfr hnc)
    all_goals
      go_wp2
      refine bodyPost_ret (results_tmp3 rfl _ _ _) rfl ?_
      refine ⟨a, n, c, rfl, hsl2.out, hbw.out, fun x e => ?_, hnc2.out⟩
      have := hfr2.out x e
      simp at this
      omega
  · rw [if_neg hcm] at hsd
    have HCAT := Lib.hid (hcat.out _ hsd)
    have HW := Lib.hid (hHW (.slice (some (ad.add L)) (xs.length - L) (c1 - L)))
    have hcA := cell_keep ((Below.refl _ w).alloc (Nat.le_refl _) (.cells #[.slice (some ad) k c1, .slice (some (ad.add L)) (xs.length - L) (c1 - L)] 22)) hcell
    generalize strs (xs.take k ++ xs.drop L) = zs at *
    generalize xs.length = N at *
    clear hsd hst h1 hde hcat hHW hL
    go_enter Try.func11, Try.ntmps11
    go_wp2_with fail
    go_region_with (go_at_call 24; refine HCAT.out.mono ?_; rintro e w1 ⟨a, n, c, rfl, hsl, hb, hfr, hnc⟩; have hbw := Lib.hid (HW.out _ hb); have hcl := HC.out w1 hbw.out; have hsl2 := Lib.hid hsl; have hfr2 := Lib.hid hfr; have hnc2 := Lib.hid hnc; clear hsl hb hfr hnc)
    all_goals
      go_wp2
      refine bodyPost_ret (results_tmp3 rfl _ _ _) rfl ?_
      refine ⟨a, n, c, rfl, hsl2.out, hbw.out, fun x e => ?_, hnc2.out⟩
      have := hfr2.out x e
      simp at this
      omega
end Go.Proofs.Ytdlnabjledhiiaa
