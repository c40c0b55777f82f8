/-
  The function values of Sync, and done as a whole; what is not theirs is kept.
-/
import Derived.Test.YtjppommhamaibaaDkI
namespace Go.Proofs.Ytjppommhamaibaa
open Go.RowKit Go.BigFrame
set_option linter.unusedVariables false

theorem done_any (a : Option Addr) (n c : Nat) (d : Dk) (g1 g2 : Nat) (cb1 cb2 : Array Value) (now thn : List Fl) (S : Nat → Prop) (w : World) (h : DkAt w a n c d) (hn : n ≤ 1000000)
    (hg1 : ∀ args w, (callFunc g1 args).run Try.prog w = .ok (.enter g1 args) w) (hg2 : ∀ args w, (callFunc g2 args).run Try.prog w = .ok (.enter g2 args) w) (hf1 : FsFn g1 cb1 d.files now S w) (hf2 : FsFn g2 cb2 d.files thn S w) (hS : ∀ i, S i → i < w.heap.size)
    (hr : rightD (doneD d now thn).1 = true) :
    Calls Try.prog 36 #[d.val a n c, .func (.func g1) #[] cb1, .func (.func g2) #[] cb2] w (RetBut S w (doneD d now thn)) := by
  unfold doneD at *
  by_cases h0 : d.left = 0
  · rw [if_pos h0] at *
    exact done_cut a n c d g1 g2 cb1 cb2 thn S w h hn hg2 hf2 hS h0 hr
  · rw [if_neg h0] at *
    unfold leftD at *
    by_cases h1 : 0 < d.left
    · rw [if_pos h1] at *
      exact done_dec a n c d g1 g2 cb1 cb2 now S w h hn hg1 hf1 hS h1 hr
    · rw [if_neg h1] at *
      exact done_now a n c d g1 g2 cb1 cb2 now S w h hn hg1 hf1 hS (by omega) hr

theorem same_fs (l : List Fl) (S : Nat → Prop) (w : World) : FsFn 38 #[] l l S w := by
  intro W v base hb h0 h1 hrow
  have HR := Lib.hid hrow
  clear hrow
  show Calls Try.prog 38 #[v] W _
  go_enter Try.func38, Try.ntmps38
  go_wp2_with fail
  go_ret
  exact ⟨v, rfl, HR.out, But.refl _ _⟩
theorem enters_same : ∀ args w, (callFunc 38 args).run Try.prog w = .ok (.enter 38 args) w := enters_of Try.func38 (by kernel_rfl) rfl
theorem enters_sync : ∀ args w, (callFunc 37 args).run Try.prog w = .ok (.enter 37 args) w := enters_of Try.func37 (by kernel_rfl) rfl
theorem enters_write : ∀ args w, (callFunc 34 args).run Try.prog w = .ok (.enter 34 args) w := enters_of Try.func34 (by kernel_rfl) rfl
theorem enters_rename : ∀ args w, (callFunc 39 args).run Try.prog w = .ok (.enter 39 args) w := enters_of Try.func39 (by kernel_rfl) rfl
theorem enters_remove : ∀ args w, (callFunc 50 args).run Try.prog w = .ok (.enter 50 args) w := enters_of Try.func50 (by kernel_rfl) rfl

/-- A row of one's own is rewritten in its own block. -/
theorem own_shape {w : World} {base : Nat} {l : List Fl} {v : Value} (h : w.ownsRow base 32 3 v l.length (flE.cells l)) : ∃ a c, v = .slice a l.length c := by
  obtain ⟨a, c, rfl, _⟩ := Enc.own_sl (E := flE) h
  exact ⟨_, _, rfl⟩
theorem One.cell {w : World} {b : Nat} {t : TypeId} {v : Value} (h : One w b t v) : w.cell? ⟨b, 0, none⟩ = some v := cell_of_one h
theorem One.free {w : World} {b : Nat} {t : TypeId} {v : Value} (h : One w b t v) : w.frozen? ⟨b, 0, none⟩ = false := free_of_one h
/-- The cells of a file in a row of one's own. -/
theorem own_file {w : World} {base g c : Nat} {l : List Fl} {k : Nat} (h : w.ownsRow base 32 3 (.slice (some ⟨g, 0, none⟩) l.length c) l.length (flE.cells l)) (hk : k < l.length) :
    w.cell? ⟨g, k * 3, none⟩ = some (.string l[k].nm) ∧ w.cell? ⟨g, k * 3 + 1, none⟩ = some (.string l[k].sy) ∧ w.cell? ⟨g, k * 3 + 2, none⟩ = some (.string l[k].ta) ∧ (∀ j, w.frozen? ⟨g, j, none⟩ = false) :=
  ⟨(h.cellAt (k * 3) (by omega)).trans (Enc.cells_get flE l k hk 0 (by decide)), (h.cellAt (k * 3 + 1) (by omega)).trans (Enc.cells_get flE l k hk 1 (by decide)), (h.cellAt (k * 3 + 2) (by omega)).trans (Enc.cells_get flE l k hk 2 (by decide)), h.frozenAt⟩

set_option maxHeartbeats 2000000 in
theorem sync_fs (l : List Fl) (k B : Nat) (S : Nat → Prop) (w : World) (hk : k < l.length) (h8 : l.length ≤ 1000000) (ho : One w B 3 (.int .i64 (k : Int))) (hs : l[k].sy.size + l[k].ta.size ≤ 1048576) :
    FsFn 37 #[.pointer (some ⟨B, 0, none⟩)] l (l.set k ⟨l[k].nm, l[k].sy ++ l[k].ta, ⟨#[]⟩⟩) S w := by
  intro W v base hb h0 h1 hrow
  show Calls Try.prog 37 #[v, .pointer (some ⟨B, 0, none⟩)] W _
  obtain ⟨a, c, rfl⟩ := own_shape hrow
  obtain ⟨g, rfl, hg1, hg2⟩ := own_some hrow (by omega)
  obtain ⟨c0, c1, c2, hz⟩ := own_file hrow hk
  have z1 := hz (k * 3 + 1)
  have z2 := hz (k * 3 + 2)
  have hBl := ho.lt
  have hcB : W.cell? ⟨B, 0, none⟩ = some (.int .i64 (k : Int)) := (ho.below hb).cell
  have HST := Lib.hid (fun s t => fl_store2 hrow hk s t)
  obtain ⟨n, hn⟩ : ∃ n, n = l.length := ⟨_, rfl⟩
  have hki : (k : Int) < (n : Int) := by omega
  have HN := Lib.hid hn
  have hn8 : n ≤ 1000000 := by omega
  rw [← hn] at HST ⊢
  clear hrow hz hn ho
  have hlen : Hid ((l.set k ⟨l[k].nm, l[k].sy ++ l[k].ta, ⟨#[]⟩⟩).length = n) := Lib.hid (by rw [List.length_set]; exact HN.out.symm)
  have HEQ : Hid (l.set k ⟨l[k].nm, l[k].sy ++ l[k].ta, ⟨#[]⟩⟩ = l.set k ⟨l[k].nm, l[k].sy ++ l[k].ta, ⟨#[]⟩⟩) := Lib.hid rfl
  generalize hl' : l.set k ⟨l[k].nm, l[k].sy ++ l[k].ta, ⟨#[]⟩⟩ = L at hlen HEQ ⊢
  have HL' := Lib.hid hl'
  clear hl'
  generalize l[k] = o at *
  obtain ⟨o0, o1, o2⟩ := o
  dsimp only at *
  go_enter Try.func37, Try.ntmps37
  go_wp2_with fail
  go_big_region
  go_wp2_with fail
  go_ret
  obtain ⟨r1, r2⟩ := HST.out (o1 ++ o2) ⟨#[]⟩
  refine ⟨_, rfl, ?_, ?_⟩
  · rw [hlen.out, ← HL'.out]
    exact r1
  · exact (But.ofGrown r2).mono (fun i hi e => .inr (by cases e; exact hg1)) |>.drewN 1

theorem But.none {w w' : World} (h : But (fun _ => False) w w') : Below w.heap.size w w' := h.below (fun _ h => h.elim) (Nat.le_refl _)
/-- Behind the call of done: what it handed back is laid into the result. -/
theorem ret_out {w W : World} {S : Nat → Prop} {b : Nat} {w3 : World} {a3 : Option Addr} {n3 c3 : Nat} {r : Dk × Int} (hW : Below w.heap.size w W) (hS : ∀ i, S i → w.heap.size ≤ i) (h : But S W w3 ∧ DkAt w3 a3 n3 c3 r.1) (hx : ∀ x, a3 = some x → W.heap.size ≤ x.block) (hb : w.heap.size ≤ b) (hb2 : b < W.heap.size) (u0 u1 u2 u3 : Value) :
    RetDk w r (.returned (.tuple #[Dk.val r.1 a3 n3 c3, .int .i64 r.2])) ((((w3.setCell ⟨b, 0, none⟩ u0).setCell ⟨b, 1, none⟩ u1).setCell ⟨b, 2, none⟩ u2).setCell ⟨b, 3, none⟩ u3) := by
  refine ⟨a3, n3, c3, rfl, DkAt.sets h.2 (fun x hx2 e => ?_) _ _ _ _, ?_⟩
  · have := hx x hx2; omega
  · exact four_sets (hW.trans (h.1.below hS hW.size)) hb _ _ _ _
end Go.Proofs.Ytjppommhamaibaa
