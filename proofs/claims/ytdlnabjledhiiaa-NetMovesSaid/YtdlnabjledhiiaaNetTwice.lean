/-
  The walk of net.Twice, where there is what it asks for, and room.
-/
import Derived.Test.YtdlnabjledhiiaaNetTake
import Derived.Deep.RegionLaw
import Derived.Deep.AppendLies
namespace Go.Proofs.Ytdlnabjledhiiaa
open Go.RowKit
set_option linter.unusedVariables false

theorem row_base {W : World} {base B : Nat} {e : TypeId} {size k : Nat} {v : Value} {xs : List Value} (h : W.ownsRow base e size v k xs) (hB : B ≤ base) : W.ownsRow B e size v k xs :=
  ⟨h.1, h.2.imp id (fun ⟨g, cap, cur, e1, hb, r⟩ => ⟨g, cap, cur, e1, Nat.le_trans hB hb, r⟩)⟩
theorem clone_at {w W : World} (hb : Below w.heap.size w W) (v : Value) (xs : List ByteArray) (h : Src w v (strs xs)) (hn : xs.length ≤ 1000000) :
    Calls Try.prog 25 #[v] W fun e w' => ∃ v', e = .returned v' ∧ w'.ownsRow w.heap.size 9 1 v' xs.length (strs xs) ∧ Below w.heap.size w w' ∧ Below W.heap.size W w' := by
  refine (clone_any v xs W (h.keep hb) hn).mono ?_
  rintro e w' ⟨v', rfl, ho, hb'⟩
  exact ⟨v', rfl, row_base ho hb.size, below_then hb hb' hb.size, hb'⟩

theorem own_slice_le {w : World} {base : Nat} {e : TypeId} {a : Option Addr} {n c k : Nat} {xs : List Value} (h : w.ownsRow base e 1 (.slice a n c) k xs) : n ≤ c := by
  obtain ⟨a', n', c', hv, _, _, hnc⟩ := own_slice h
  cases hv; exact hnc

set_option maxRecDepth 100000 in
set_option maxHeartbeats 1000000 in
theorem twice_any (vw : Value) (xs : List ByteArray) (k : Nat) (w : World) (h1 : Src w vw (strs xs)) (hk : k < xs.length) (hx : xs.length < 300) :
    Calls Try.prog 12 #[vw, .int .i64 (k : Int)] w fun e w' => ∃ a n c, e = .returned (.tuple #[.slice a n c, .int .i64 0]) ∧ SlAt w' a n (strs (xs ++ [xs[k]])) ∧ Below w.heap.size w w' ∧ (∀ x, a = some x → w.heap.size ≤ x.block) ∧ n ≤ c := by
  obtain ⟨i0, hi, hz0, hz1, hz2⟩ := info_parts infoStr
  obtain ⟨a1, c1, rfl⟩ := h1.shape
  obtain ⟨ad, rfl, hcell⟩ := h1.at hk
  rw [strs_length] at h1 ⊢
  have HC := Lib.hid (fun (W : World) (hb : Below w.heap.size w W) => cell_keep hb hcell)
  have HCL := Lib.hid (fun (W : World) (hb : Below w.heap.size w W) => clone_at hb _ xs h1 (by omega))
  have hz : strs (xs ++ [xs[k]]) = strs xs ++ [.string xs[k]] := strs_snoc _ _
  rw [hz]
  have hki : (k : Int) < (xs.length : Int) := by omega
  have hk0 : ¬ (k : Int) < 0 := by omega
  have hx1 : (xs.length : Int) < 300 := by omega
  have hxm : xs.length + 1 ≤ maxLen := by unfold maxLen; omega
  have hxb : (xs.length + 1) * 16 ≤ 140737488355328 := by omega
  have B0 : Hid (Below w.heap.size w w.drew) := Lib.hid (below_drewN (Below.refl w.heap.size w) 1)
  have B1 : Hid (Below w.heap.size w (w.alloc (.cells #[.string xs[k]] 9)).drew) := Lib.hid (below_drewN ((Below.refl w.heap.size w).alloc (Nat.le_refl _) (.cells #[.string xs[k]] 9)) 1)
  have hcA := cell_keep ((Below.refl _ w).alloc (Nat.le_refl _) (.cells #[.string xs[k]] 9)) hcell
  have HBT : Hid (∀ W, Below (w.alloc (.cells #[.string xs[k]] 9)).drew.heap.size (w.alloc (.cells #[.string xs[k]] 9)).drew W → ∀ j u, [Value.string xs[k]][j]? = some u → W.cell? ((⟨w.heap.size, 0, none⟩ : Addr).add j) = some u) := Lib.hid fun W hb j u hj =>
    cell_keep hb (cell_one_new w _ _ j u hj)
  have HXM := Lib.hid hxm
  have HXB := Lib.hid hxb
  clear hz h1 hx hxm hxb
  generalize xs[k] = t at *
  generalize strs xs = zs at *
  generalize xs.length = N at *
  go_enter Try.func12, Try.ntmps12
  go_wp2_with fail
  go_region_law (first
    | (refine step_append_lies _ rfl _ _ 22 rfl w.heap.size 9 i0 (.string ⟨#[]⟩) 1 16 Try.underlying22 hi hz0 hz1 hz2 rfl (by decide) v' N zs rfl (HO.out.alloc _) _ 1 1 [.string t] rfl rfl (cell_one_new _ _ _) (by simp [Value.oneCell']) (by decide) HXM.out HXB.out (by have := HBW.out.size; simp; omega) _ rfl ?_
       intro g cap w3 hown3 hgrow3 hat3 hlt3
       have HO3 := Lib.hid hown3
       have HB3 : Hid (Below w.heap.size w w3) := Lib.hid ((HBW.out.alloc HBW.out.size _).grown hgrow3 (by have := HBW.out.size; simp; omega) (fun x e => (HO.out.lt x e).1))
       clear hown3 hgrow3 hat3 hlt3)
    | (refine step_append_lies _ rfl _ _ 22 rfl w.heap.size 9 i0 (.string ⟨#[]⟩) 1 16 Try.underlying22 hi hz0 hz1 hz2 rfl (by decide) v' N zs rfl HO.out _ 1 1 [.string t] rfl rfl (HBT.out _ HBB.out) (by simp [Value.oneCell']) (by decide) HXM.out HXB.out HBW.out.size _ rfl ?_
       intro g cap w3 hown3 hgrow3 hat3 hlt3
       have HO3 := Lib.hid hown3
       have HB3 : Hid (Below w.heap.size w w3) := Lib.hid (HBW.out.grown hgrow3 HBW.out.size (fun x e => (HO.out.lt x e).1))
       clear hown3 hgrow3 hat3 hlt3)
    | (go_simp; go_at_call 25; (first | with_reducible refine (HCL.out _ B0.out).mono ?_ | with_reducible refine (HCL.out _ B1.out).mono ?_); rintro e w1 ⟨v', rfl, ho, hbw, hbb⟩; have hcl := HC.out w1 hbw; have HO := Lib.hid ho; have HBW := Lib.hid hbw; have HBB := Lib.hid hbb; clear ho hbw hbb))
  all_goals
    go_wp2
    go_ret2
    exact ⟨_, _, _, rfl, SlAt.ofOwn HO3.out, HB3.out, fun x e => by cases e; exact (HO3.out.lt _ rfl).1, (own_slice_le HO3.out)⟩
end Go.Proofs.Ytdlnabjledhiiaa
