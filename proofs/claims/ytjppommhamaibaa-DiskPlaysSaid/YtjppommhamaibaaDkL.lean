/-
  The walk of slices.Delete of one file: the row is rewritten in place; the texts within reach.
-/
import Derived.Test.YtjppommhamaibaaDkK
import Derived.Test.YtjppommhamaibaaKBlk
import Derived.Deep.RegionWith
import Derived.StillTailTactics
namespace Go.Proofs.Ytjppommhamaibaa
open Go.RowKit Go.BigFrame
set_option linter.unusedVariables false

theorem zeroFile : ∀ w, (zeroValue 32).run Try.prog w = .ok (.agg #[.string ⟨#[]⟩, .string ⟨#[]⟩, .string ⟨#[]⟩]) w := fun _ => by kernel_rfl
def zFl : Fl := ⟨⟨#[]⟩, ⟨#[]⟩, ⟨#[]⟩⟩
theorem Blk.reads {w : World} {g : Nat} {t : TypeId} {cs : List Value} (h : Blk w g t cs) {off : Nat} {news : List Value} (hn : ∀ j u, news[j]? = some u → cs[off + j]? = some u) : Reads w ⟨g, off, none⟩ news := by
  intro j u hj
  rw [Enc.add_is]
  exact h.cell (hn j u hj)
theorem splice_take {α : Type} (L : List α) (off : Nat) (cs : List α) (h : off ≤ L.length) (m : Nat) (hm : m = off + cs.length) : (splice L off cs).take m = L.take off ++ cs := by
  subst hm
  unfold splice
  rw [← List.append_assoc]
  have : (L.take off ++ cs).length = off + cs.length := by rw [List.length_append, List.length_take]; omega
  rw [List.take_append_of_le_length (by omega), List.take_of_length_le (by omega)]
theorem splice_before {α : Type} (L : List α) (off : Nat) (cs : List α) (m : Nat) (h : m ≤ off) (ho : off ≤ L.length) : (splice L off cs).take m = L.take m := by
  unfold splice
  rw [List.take_append_of_le_length (by rw [List.length_take]; omega), List.take_take, Nat.min_eq_left h]
theorem cells_take (l : List Fl) (k : Nat) : (flE.cells l).take (k * 3) = flE.cells (l.take k) := by
  by_cases hk : k ≤ l.length
  · conv => lhs; rw [← List.take_append_drop k l, flE.cells_append]
    have h1 : (flE.cells (l.take k)).length = k * 3 := by rw [flE.cells_length, List.length_take, Nat.min_eq_left hk]; rfl
    rw [List.take_append_of_le_length (by omega), List.take_of_length_le (by omega)]
  · have h1 : (flE.cells l).length = l.length * 3 := flE.cells_length l
    rw [List.take_of_length_le (by omega), List.take_of_length_le (by omega)]
theorem cells_drop (l : List Fl) (k : Nat) : (flE.cells l).drop (k * 3) = flE.cells (l.drop k) := by
  by_cases hk : k ≤ l.length
  · conv => lhs; rw [← List.take_append_drop k l, flE.cells_append]
    have h1 : (flE.cells (l.take k)).length = k * 3 := by rw [flE.cells_length, List.length_take, Nat.min_eq_left hk]; rfl
    rw [List.drop_append_of_le_length (by omega), List.drop_of_length_le (by omega), List.nil_append]
  · have h1 : (flE.cells l).length = l.length * 3 := flE.cells_length l
    rw [List.drop_of_length_le (by omega), List.drop_of_length_le (by omega)]; rfl

set_option maxHeartbeats 2000000 in
set_option maxRecDepth 100000 in
theorem delete_room (g n c base : Nat) (l : List Fl) (k : Nat) (w : World) (h : w.ownsRow base 32 3 (.slice (some ⟨g, 0, none⟩) n c) n (flE.cells l)) (hk : k < n) (hn : n ≤ 1000000) (hc : k + 1 < c) :
    Calls Try.prog 51 #[.slice (some ⟨g, 0, none⟩) n c, .int .i64 (k : Int), .int .i64 ((k : Int) + 1)] w fun e w' =>
      e = .returned (.slice (some ⟨g, 0, none⟩) (n - 1) c) ∧ w'.ownsRow base 32 3 (.slice (some ⟨g, 0, none⟩) (n - 1) c) (n - 1) (flE.cells (l.take k ++ l.drop (k + 1))) ∧ But (fun i => i = g) w w' := by
  obtain ⟨i0, hi, hz0, hz1, hz2⟩ := info_parts infoFile
  have HI := Lib.hid hi
  have HZ := Lib.hid (And.intro hz0 (And.intro hz1 hz2))
  clear hi hz0 hz1 hz2
  have hln : n * 3 = (flE.cells l).length := h.1.symm
  rw [flE.cells_length] at hln
  have hln : l.length = n := by have : flE.k = 3 := rfl; rw [this] at hln; omega
  obtain ⟨cs, hb, hcl, htk, hbg, hnc, hcm, -⟩ := own_blk h
  have HB := Lib.hid hb
  have HF := Lib.hid (And.intro hcl (And.intro htk (And.intro hbg (And.intro hcm hln))))
  clear h hb hcl htk hln
  have hki : (k : Int) < (n : Int) := by omega
  have hk1 : (k : Int) + 1 ≤ (n : Int) := by omega
  have hci : (k : Int) + 1 < (c : Int) := by omega
  have hnci : (n : Int) ≤ (c : Int) := by omega
  unfold maxLen at hcm
  have hne : ((k : Int) == (k : Int) + 1) = false := beq_eq_false_iff_ne.2 (by omega)
  obtain ⟨p, hp⟩ : ∃ p, n = p + 1 := ⟨n - 1, by omega⟩
  have HP := Lib.hid hp
  have hkp : k ≤ p := by omega
  have hpn : (p : Int) < (n : Int) := by omega
  have hNL : Hid ((flE.cells (l.drop (k + 1))).length = (n - (k + 1)) * 3) := Lib.hid (by
    rw [flE.cells_length, List.length_drop, HF.out.2.2.2.2]; rfl)
  have hNR : Hid (Reads w ⟨g, (k + 1) * 3, none⟩ (flE.cells (l.drop (k + 1)))) := Lib.hid (HB.out.reads fun j u hj => by
    rw [← cells_drop, ← HF.out.2.1, List.drop_take, List.getElem?_take] at hj
    split at hj
    · rw [List.getElem?_drop] at hj; exact hj
    · cases hj)
  have hEP : Hid (k + (n - (k + 1)) = p) := Lib.hid (by omega)
  have hNP : Hid (n - p = 1) := Lib.hid (by omega)
  have hFT : Hid (k * 3 + (flE.cells (l.drop (k + 1))).length ≤ cs.length) := Lib.hid (by rw [hNL.out, HF.out.1]; omega)
  have hN1 : Hid (n - 1 = p) := Lib.hid (by omega)
  rw [hN1.out]
  have hkc : k ≤ c := by omega
  have hkn : k + 1 ≤ n := by omega
  have hcne : ¬ c = k + 1 := by omega
  have hk0 : (0 : Int) ≤ (k : Int) + 1 := by omega
  clear hp
  go_enter Try.func51, Try.ntmps51
  go_wp2_with fail
  go_still_tail 6, (by kernel_rfl)
  change wpList _ _ _ _ _ w.drew
  refine wpList_app_blk rfl _ _ 22 rfl 32 i0 3 Try.underlying22 HI.out HZ.out.2.1 g k c cs HB.out rfl ⟨g, (k + 1) * 3, none⟩ (n - (k + 1)) (c - (k + 1)) (flE.cells (l.drop (k + 1))) rfl hNL.out hNR.out (flE.cells_one _) (by omega) hFT.out ?_
  intro w2 hb2 hg2
  rw [hEP.out]
  have hzs : Hid (Builtin.zeroCells (Value.agg #[.string ⟨#[]⟩, .string ⟨#[]⟩, .string ⟨#[]⟩]).cells 1 = (flE.enc zFl).toArray) := Lib.hid (by kernel_rfl)
  have hpc : p ≤ c := by omega
  have hl2 : Hid ((splice cs (k * 3) (flE.cells (l.drop (k + 1)))).length = c * 3) := Lib.hid (by rw [length_splice _ _ _ hFT.out, HF.out.1])
  have hcl := run_clear_blk (P := Try.prog) (w := w2) 22 0 32 _ (flE.enc zFl) Try.underlying22 zeroFile (g := g) (off := p * 3) (n := n - p) (c := c - p) hb2.out (by omega) (by rw [hNP.out, hzs.out]) (flE.one _) (by rw [hl2.out, flE.len]; show p * 3 + 3 ≤ c * 3; have := HP.out; omega)
  have hb3 := Lib.hid (hb2.out.row (splice (splice cs (k * 3) (flE.cells (l.drop (k + 1)))) (p * 3) (flE.enc zFl)))
  generalize w2.setRow g (splice (splice cs (k * 3) (flE.cells (l.drop (k + 1)))) (p * 3) (flE.enc zFl)).toArray = w3 at hcl hb3
  go_wp2_with fail
  go_ret
  refine ⟨rfl, blk_own hb3.out.1 ?_ hbg (by omega) HF.out.2.2.2.1 ?_, ?_⟩
  · rw [length_splice _ _ _ (by rw [hl2.out, flE.len]; show p * 3 + 3 ≤ c * 3; have := HP.out; omega), hl2.out]
  · rw [splice_before _ _ _ _ (Nat.le_refl _) (by rw [hl2.out]; have := HP.out; omega), splice_take _ _ _ (by rw [HF.out.1]; omega) _ (by rw [hNL.out]; have := HP.out; omega), flE.cells_append, ← cells_take, ← HF.out.2.1, List.take_take, Nat.min_eq_left (by omega)]
  · exact ((But.refl _ w).drewN 1).trans ((But.ofGrown hg2.out).trans (But.ofGrown hb3.out.2)) |>.mono (fun i _ e => by cases e; rfl)

set_option maxHeartbeats 2000000 in
set_option maxRecDepth 100000 in
theorem delete_end (g n c base : Nat) (l : List Fl) (k : Nat) (w : World) (h : w.ownsRow base 32 3 (.slice (some ⟨g, 0, none⟩) n c) n (flE.cells l)) (hk : k < n) (hn : n ≤ 1000000) (hc : c = k + 1) :
    Calls Try.prog 51 #[.slice (some ⟨g, 0, none⟩) n c, .int .i64 (k : Int), .int .i64 ((k : Int) + 1)] w fun e w' =>
      e = .returned (.slice (some ⟨g, 0, none⟩) (n - 1) c) ∧ w'.ownsRow base 32 3 (.slice (some ⟨g, 0, none⟩) (n - 1) c) (n - 1) (flE.cells (l.take k ++ l.drop (k + 1))) ∧ But (fun i => i = g) w w' := by
  obtain ⟨i0, hi, hz0, hz1, hz2⟩ := info_parts infoFile
  have HI := Lib.hid hi
  have HZ := Lib.hid (And.intro hz0 (And.intro hz1 hz2))
  clear hi hz0 hz1 hz2
  have hln : n * 3 = (flE.cells l).length := h.1.symm
  rw [flE.cells_length] at hln
  have hln : l.length = n := by have : flE.k = 3 := rfl; rw [this] at hln; omega
  obtain ⟨cs, hb, hcl, htk, hbg, hnc, hcm, -⟩ := own_blk h
  have HB := Lib.hid hb
  have HF := Lib.hid (And.intro hcl (And.intro htk (And.intro hbg (And.intro hcm hln))))
  clear h hb hcl htk hln
  have hki : (k : Int) < (n : Int) := by omega
  have hk1 : (k : Int) + 1 ≤ (n : Int) := by omega
  have hci : (k : Int) + 1 ≤ (c : Int) := by omega
  have hnci : (n : Int) ≤ (c : Int) := by omega
  unfold maxLen at hcm
  have hne : ((k : Int) == (k : Int) + 1) = false := beq_eq_false_iff_ne.2 (by omega)
  obtain ⟨p, hp⟩ : ∃ p, n = p + 1 := ⟨n - 1, by omega⟩
  have HP := Lib.hid hp
  have hkp : k ≤ p := by omega
  have hpn : (p : Int) < (n : Int) := by omega
  have hNL : Hid ((flE.cells (l.drop (k + 1))).length = (n - (k + 1)) * 3) := Lib.hid (by
    rw [flE.cells_length, List.length_drop, HF.out.2.2.2.2]; rfl)
  have hNR : Hid (Reads w ⟨g, 0, none⟩ (flE.cells (l.drop (k + 1)))) := Lib.hid (by
    rw [List.drop_of_length_le (by rw [HF.out.2.2.2.2]; omega)]
    intro j u hj
    exact absurd hj (by simp [Enc.cells]))
  have hEP : Hid (k + (n - (k + 1)) = p) := Lib.hid (by omega)
  have hNP : Hid (n - p = 1) := Lib.hid (by omega)
  have hFT : Hid (k * 3 + (flE.cells (l.drop (k + 1))).length ≤ cs.length) := Lib.hid (by rw [hNL.out, HF.out.1]; omega)
  have hN1 : Hid (n - 1 = p) := Lib.hid (by omega)
  rw [hN1.out]
  have hkc : k ≤ c := by omega
  have hkn : k + 1 ≤ n := by omega
  have hcne : (c = k + 1) = True := eq_true hc
  have hnk : n = k + 1 := by omega
  have HNK := Lib.hid hnk
  clear hnk
  have hk0 : (0 : Int) ≤ (k : Int) + 1 := by omega
  have HC := Lib.hid hc
  clear hp hc
  go_enter Try.func51, Try.ntmps51
  go_wp2_with fail
  go_still_tail 6, (by kernel_rfl)
  change wpList _ _ _ _ _ w.drew
  refine wpList_app_blk rfl _ _ 22 rfl 32 i0 3 Try.underlying22 HI.out HZ.out.2.1 g k c cs HB.out rfl ⟨g, 0, none⟩ (n - (k + 1)) (c - (k + 1)) (flE.cells (l.drop (k + 1))) rfl hNL.out hNR.out (flE.cells_one _) (by have := HNK.out; have := HC.out; omega) hFT.out ?_
  intro w2 hb2 hg2
  rw [hEP.out]
  have hzs : Hid (Builtin.zeroCells (Value.agg #[.string ⟨#[]⟩, .string ⟨#[]⟩, .string ⟨#[]⟩]).cells 1 = (flE.enc zFl).toArray) := Lib.hid (by kernel_rfl)
  have hpc : p ≤ c := by omega
  have hl2 : Hid ((splice cs (k * 3) (flE.cells (l.drop (k + 1)))).length = c * 3) := Lib.hid (by rw [length_splice _ _ _ hFT.out, HF.out.1])
  have hcl := run_clear_blk (P := Try.prog) (w := w2) 22 0 32 _ (flE.enc zFl) Try.underlying22 zeroFile (g := g) (off := p * 3) (n := n - p) (c := c - p) hb2.out (by omega) (by rw [hNP.out, hzs.out]) (flE.one _) (by rw [hl2.out, flE.len]; show p * 3 + 3 ≤ c * 3; have := HP.out; omega)
  have hb3 := Lib.hid (hb2.out.row (splice (splice cs (k * 3) (flE.cells (l.drop (k + 1)))) (p * 3) (flE.enc zFl)))
  generalize w2.setRow g (splice (splice cs (k * 3) (flE.cells (l.drop (k + 1)))) (p * 3) (flE.enc zFl)).toArray = w3 at hcl hb3
  go_wp2_with fail
  go_ret
  refine ⟨rfl, blk_own hb3.out.1 ?_ hbg (by omega) HF.out.2.2.2.1 ?_, ?_⟩
  · rw [length_splice _ _ _ (by rw [hl2.out, flE.len]; show p * 3 + 3 ≤ c * 3; have := HP.out; omega), hl2.out]
  · rw [splice_before _ _ _ _ (Nat.le_refl _) (by rw [hl2.out]; have := HP.out; omega), splice_take _ _ _ (by rw [HF.out.1]; omega) _ (by rw [hNL.out]; have := HP.out; omega), flE.cells_append, ← cells_take, ← HF.out.2.1, List.take_take, Nat.min_eq_left (by omega)]
  · exact ((But.refl _ w).drewN 1).trans ((But.ofGrown hg2.out).trans (But.ofGrown hb3.out.2)) |>.mono (fun i _ e => by cases e; rfl)

theorem delete_any (g n c base : Nat) (l : List Fl) (k : Nat) (w : World) (h : w.ownsRow base 32 3 (.slice (some ⟨g, 0, none⟩) n c) n (flE.cells l)) (hk : k < n) (hn : n ≤ 1000000) :
    Calls Try.prog 51 #[.slice (some ⟨g, 0, none⟩) n c, .int .i64 (k : Int), .int .i64 ((k : Int) + 1)] w fun e w' =>
      e = .returned (.slice (some ⟨g, 0, none⟩) (n - 1) c) ∧ w'.ownsRow base 32 3 (.slice (some ⟨g, 0, none⟩) (n - 1) c) (n - 1) (flE.cells (l.take k ++ l.drop (k + 1))) ∧ But (fun i => i = g) w w' := by
  obtain ⟨cs, _, _, _, _, hnc, _, _⟩ := own_blk h
  by_cases hc : k + 1 < c
  · exact delete_room g n c base l k w h hk hn hc
  · exact delete_end g n c base l k w h hk hn (by omega)
end Go.Proofs.Ytjppommhamaibaa
