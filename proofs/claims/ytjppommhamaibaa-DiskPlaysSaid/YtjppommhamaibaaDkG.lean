/-
  The walk of Cut: new blocks alone are made; the texts within reach.
-/
import Derived.Test.YtjppommhamaibaaDkF
import Derived.Laws.ResultCell
namespace Go.Proofs.Ytjppommhamaibaa
open Go.RowKit Go.BigFrame
set_option linter.unusedVariables false

theorem name_small {s : ByteArray} (h : nmOk s = true) : s.size ≤ 16 := by
  unfold nmOk at h
  simp only [Bool.and_eq_true, decide_eq_true_eq] at h
  exact h.2
theorem szS_mem {l : List Fl} {f : Fl} (h : f ∈ l) : f.sy.size + f.ta.size ≤ szS l := by
  induction l with
  | nil => cases h
  | cons g r ih =>
    rw [szS_cons]
    rcases List.mem_cons.1 h with rfl | h
    · omega
    · have := ih h; omega
theorem right_small {d : Dk} (h : rightD d = true) : ∀ f ∈ d.files, f.nm.size ≤ 16 ∧ f.sy.size + f.ta.size ≤ 1048576 := by
  intro f hf
  have h1 := name_small ((rightD_fs h).1 f hf)
  have h2 := szS_mem hf
  have h3 := (rightD_size h).2
  have h4 := (rightD_nums h).1
  exact ⟨h1, by omega⟩
theorem own_cm {w : World} {base : Nat} {e : TypeId} {size n c k : Nat} {a : Option Addr} {xs : List Value} (h : w.ownsRow base e size (.slice a n c) k xs) : c ≤ maxLen := by
  rcases h.2 with ⟨hv, _⟩ | ⟨g, cap, cur, hv, _, _, _, hcm, _⟩
  · cases hv; exact Nat.zero_le _
  · cases hv; exact hcm
/-- A disk whose files lie in a row of one's own. -/
theorem DkAt.own {w w' : World} {d : Dk} {v : Value} (h : OwnFs w w' d.files v) (hr : rightD d = true) : ∃ a n c, v = .slice a n c ∧ DkAt w' a n c d ∧ ∀ x, a = some x → w.heap.size ≤ x.block := by
  obtain ⟨a, c, rfl, h1, h2, h3, h4, h5⟩ := Enc.own_sl (E := flE) h.1
  have hcm := own_cm h.1
  obtain ⟨⟨a0, a1⟩, h8, b0, b1⟩ := rightD_nums hr
  refine ⟨_, _, _, rfl, ⟨h2, h4, hcm, h5, by omega, fun f hf => ?_, by omega, by omega⟩, h3⟩
  obtain ⟨s1, s2⟩ := right_small hr f hf
  exact ⟨by omega, by omega, by omega⟩
theorem DkAt.set {w : World} {d : Dk} {a : Option Addr} {n c b o : Nat} (h : DkAt w a n c d) (hx : ∀ x, a = some x → x.block ≠ b) (u : Value) : DkAt (w.setCell ⟨b, o, none⟩ u) a n c d :=
  { h with sl := h.sl.kept (grown_setCell w b o u) (fun q e he => by
      cases a with
      | none => cases e
      | some x => simp at e he; exact hx x rfl (by omega)) }
theorem DkAt.sets {w : World} {d : Dk} {a : Option Addr} {n c b : Nat} (h : DkAt w a n c d) (hx : ∀ x, a = some x → x.block ≠ b) (u0 u1 u2 u3 : Value) :
    DkAt ((((w.setCell ⟨b, 0, none⟩ u0).setCell ⟨b, 1, none⟩ u1).setCell ⟨b, 2, none⟩ u2).setCell ⟨b, 3, none⟩ u3) a n c d := (((h.set hx u0).set hx u1).set hx u2).set hx u3
theorem right_left {d : Dk} (h : rightD d = true) (left : Int) (dn : Bool) (h0 : -1 ≤ left) (h1 : left ≤ 1073741824) : rightD ⟨d.room, d.files, left, dn⟩ = true := by
  obtain ⟨⟨a0, a1⟩, h8, b0, b1⟩ := rightD_nums h
  obtain ⟨h4, h5⟩ := rightD_fs h
  exact rightD_mk a0 a1 h8 h0 h1 (rightD_size h).2 h4 h5
/-- A call hands back a disk and an error's number; new blocks alone are made. -/
def RetDk (w : World) (r : Dk × Int) (e : Ending) (w' : World) : Prop := ∃ a n c, e = .returned (.tuple #[Dk.val r.1 a n c, .int .i64 r.2]) ∧ DkAt w' a n c r.1 ∧ Below w.heap.size w w'
theorem DkAt.zero (w : World) : DkAt w none 0 0 Dk.zero :=
  ⟨Enc.Sl.nil _ _, Nat.le_refl _, Nat.zero_le _, fun _ => rfl, by decide, fun f hf => (by cases hf), by decide, by decide⟩
theorem RetDk.zero {w w' : World} (x : Int) (hb : Below w.heap.size w w') : RetDk w (Dk.zero, x) (.returned (.tuple #[.agg #[.int .i64 0, .slice none 0 0, .int .i64 0, .bool false], .int .i64 x])) w' :=
  ⟨none, 0, 0, rfl, DkAt.zero w', hb⟩
theorem zeroDisk : Try.prog.underlying 24 = Try.prog.underlying 24 := rfl

def outBox (w : World) (b : Nat) : Prop := Four w b 24 (.int .i64 0) (.slice none 0 0) (.int .i64 0) (.bool false)
/-- The two blocks that Cut and its like lay first. -/
def twoW (w : World) (d : Dk) (a : Option Addr) (n c : Nat) : World := (w.alloc (.cells #[.int .i64 d.room, .slice a n c, .int .i64 d.left, .bool d.down] 24)).alloc (.cells #[.int .i64 0, .slice none 0 0, .int .i64 0, .bool false] 24)
theorem two_below (w : World) (d : Dk) (a : Option Addr) (n c : Nat) : Below w.heap.size w (twoW w d a n c) := ((Below.refl _ w).alloc (Nat.le_refl _) _).alloc (by simp) _
theorem two_box (w : World) (d : Dk) (a : Option Addr) (n c : Nat) : DkBox (twoW w d a n c) w.heap.size d a n c := (DkBox.new w d a n c).keep ((Below.refl _ _).alloc (Nat.le_refl _) _)
theorem two_out (w : World) (d : Dk) (a : Option Addr) (n c : Nat) : outBox (twoW w d a n c) (w.heap.size + 1) := by
  have := Four.new (w.alloc (.cells #[.int .i64 d.room, .slice a n c, .int .i64 d.left, .bool d.down] 24)) 24 (.int .i64 0) (.slice none 0 0) (.int .i64 0) (.bool false)
  rw [World.size_alloc] at this
  exact this

theorem RetDk.zero4 {w w1 : World} (x : Int) (b : Nat) (hb : Below w.heap.size w w1) (hB : w.heap.size ≤ b) : RetDk w (Dk.zero, x) (.returned (.tuple #[.agg #[.int .i64 0, .slice none 0 0, .int .i64 0, .bool false], .int .i64 x]))
    ((((w1.setCell ⟨b, 0, none⟩ (.int .i64 0)).setCell ⟨b, 1, none⟩ (.slice none 0 0)).setCell ⟨b, 2, none⟩ (.int .i64 0)).setCell ⟨b, 3, none⟩ (.bool false)) :=
  RetDk.zero x ((((hb.setCell hB _).setCell hB _).setCell hB _).setCell hB _)
theorem four_sets {w w1 : World} {b : Nat} (hb : Below w.heap.size w w1) (hB : w.heap.size ≤ b) (u0 u1 u2 u3 : Value) : Below w.heap.size w ((((w1.setCell ⟨b, 0, none⟩ u0).setCell ⟨b, 1, none⟩ u1).setCell ⟨b, 2, none⟩ u2).setCell ⟨b, 3, none⟩ u3) :=
  (((hb.setCell hB _).setCell hB _).setCell hB _).setCell hB _

set_option maxHeartbeats 1000000 in
theorem cut_wrong (a : Option Addr) (n c : Nat) (d : Dk) (left : Int) (w : World) (h : DkAt w a n c d) (hr : rightD d = false) :
    Calls Try.prog 13 #[d.val a n c, .int .i64 left] w (RetDk w (Dk.zero, 1)) := by
  have hc := Lib.hid (h.right (twoW w d a n c) (two_below w d a n c) false hr)
  have HA := Lib.hid (two_below w d a n c)
  have HB := Lib.hid (two_box w d a n c)
  have HO := Lib.hid (two_out w d a n c)
  clear h hr
  unfold twoW at *
  obtain ⟨rm, l, lf, dn⟩ := d
  unfold Dk.val at *
  dsimp only at *
  go_enter Try.func13, Try.ntmps13
  go_wp2_with fail
  refine hc.out.mono ?_
  rintro e w1 ⟨rfl, hb1⟩
  have HB1 := Lib.hid (below_then HA.out hb1 HA.out.size)
  have o1 := Four.keep HO.out hb1
  have p1 := Four.keep HB.out hb1
  have e0 := o1.c0; have e1 := o1.c1; have e2 := o1.c2; have e3 := o1.c3
  have g0 := o1.free 0; have g1 := o1.free 1; have g2 := o1.free 2; have g3 := o1.free 3
  have q0 := p1.c0; have q1 := p1.c1; have q2 := p1.c2; have q3 := p1.c3
  clear hb1 o1 p1
  go_wp2_with fail
  refine bodyPost_ret (v := .tuple #[.agg #[.int .i64 0, .slice none 0 0, .int .i64 0, .bool false], .int .i64 1]) ?_ rfl ?_
  · rw [results_cell_tmp rfl]; go_simp
  · exact RetDk.zero4 1 _ HB1.out (by omega)

set_option maxHeartbeats 1000000 in
theorem cut_low (a : Option Addr) (n c : Nat) (d : Dk) (left : Int) (w : World) (h : DkAt w a n c d) (hr : rightD d = true) (hl : left < -1) :
    Calls Try.prog 13 #[d.val a n c, .int .i64 left] w (RetDk w (Dk.zero, 1)) := by
  have hc := Lib.hid (h.right (twoW w d a n c) (two_below w d a n c) true hr)
  have HA := Lib.hid (two_below w d a n c)
  have HB := Lib.hid (two_box w d a n c)
  have HO := Lib.hid (two_out w d a n c)
  clear h hr
  unfold twoW at *
  obtain ⟨rm, l, lf, dn⟩ := d
  unfold Dk.val at *
  dsimp only at *
  go_enter Try.func13, Try.ntmps13
  go_wp2_with fail
  refine hc.out.mono ?_
  rintro e w1 ⟨rfl, hb1⟩
  have HB1 := Lib.hid (below_then HA.out hb1 HA.out.size)
  have o1 := Four.keep HO.out hb1
  have p1 := Four.keep HB.out hb1
  have e0 := o1.c0; have e1 := o1.c1; have e2 := o1.c2; have e3 := o1.c3
  have g0 := o1.free 0; have g1 := o1.free 1; have g2 := o1.free 2; have g3 := o1.free 3
  have q0 := p1.c0; have q1 := p1.c1; have q2 := p1.c2; have q3 := p1.c3
  clear hb1 o1 p1
  go_wp2_with fail
  refine bodyPost_ret (v := .tuple #[.agg #[.int .i64 0, .slice none 0 0, .int .i64 0, .bool false], .int .i64 1]) ?_ rfl ?_
  · rw [results_cell_tmp rfl]; go_simp
  · exact RetDk.zero4 1 _ HB1.out (by omega)

set_option maxHeartbeats 1000000 in
theorem cut_high (a : Option Addr) (n c : Nat) (d : Dk) (left : Int) (w : World) (h : DkAt w a n c d) (hr : rightD d = true) (h0 : -1 ≤ left) (hl : 1073741824 < left) :
    Calls Try.prog 13 #[d.val a n c, .int .i64 left] w (RetDk w (Dk.zero, 1)) := by
  have hc := Lib.hid (h.right (twoW w d a n c) (two_below w d a n c) true hr)
  have HA := Lib.hid (two_below w d a n c)
  have HB := Lib.hid (two_box w d a n c)
  have HO := Lib.hid (two_out w d a n c)
  clear h hr
  unfold twoW at *
  obtain ⟨rm, l, lf, dn⟩ := d
  unfold Dk.val at *
  dsimp only at *
  go_enter Try.func13, Try.ntmps13
  go_wp2_with fail
  refine hc.out.mono ?_
  rintro e w1 ⟨rfl, hb1⟩
  have HB1 := Lib.hid (below_then HA.out hb1 HA.out.size)
  have o1 := Four.keep HO.out hb1
  have p1 := Four.keep HB.out hb1
  have e0 := o1.c0; have e1 := o1.c1; have e2 := o1.c2; have e3 := o1.c3
  have g0 := o1.free 0; have g1 := o1.free 1; have g2 := o1.free 2; have g3 := o1.free 3
  have q0 := p1.c0; have q1 := p1.c1; have q2 := p1.c2; have q3 := p1.c3
  clear hb1 o1 p1
  go_wp2_with fail
  refine bodyPost_ret (v := .tuple #[.agg #[.int .i64 0, .slice none 0 0, .int .i64 0, .bool false], .int .i64 1]) ?_ rfl ?_
  · rw [results_cell_tmp rfl]; go_simp
  · exact RetDk.zero4 1 _ HB1.out (by omega)

set_option maxHeartbeats 1000000 in
theorem cut_down (a : Option Addr) (n c : Nat) (d : Dk) (left : Int) (w : World) (h : DkAt w a n c d) (hr : rightD d = true) (h0 : -1 ≤ left) (hl : left ≤ 1073741824) (hd : d.down = true) :
    Calls Try.prog 13 #[d.val a n c, .int .i64 left] w (RetDk w (Dk.zero, 132)) := by
  have hc := Lib.hid (h.right (twoW w d a n c) (two_below w d a n c) true hr)
  have HA := Lib.hid (two_below w d a n c)
  have HB := Lib.hid (two_box w d a n c)
  have HO := Lib.hid (two_out w d a n c)
  clear h hr
  unfold twoW at *
  obtain ⟨rm, l, lf, dn⟩ := d
  unfold Dk.val at *
  dsimp only at *
  subst hd
  go_enter Try.func13, Try.ntmps13
  go_wp2_with fail
  refine hc.out.mono ?_
  rintro e w1 ⟨rfl, hb1⟩
  have HB1 := Lib.hid (below_then HA.out hb1 HA.out.size)
  have o1 := Four.keep HO.out hb1
  have p1 := Four.keep HB.out hb1
  have e0 := o1.c0; have e1 := o1.c1; have e2 := o1.c2; have e3 := o1.c3
  have g0 := o1.free 0; have g1 := o1.free 1; have g2 := o1.free 2; have g3 := o1.free 3
  have q0 := p1.c0; have q1 := p1.c1; have q2 := p1.c2; have q3 := p1.c3
  clear hb1 o1 p1
  go_wp2_with fail
  refine bodyPost_ret (v := .tuple #[.agg #[.int .i64 0, .slice none 0 0, .int .i64 0, .bool false], .int .i64 132]) ?_ rfl ?_
  · rw [results_cell_tmp rfl]; go_simp
  · exact RetDk.zero4 132 _ HB1.out (by omega)

set_option maxHeartbeats 1000000 in
theorem cut_ok (a : Option Addr) (n c : Nat) (d : Dk) (left : Int) (w : World) (h : DkAt w a n c d) (hr : rightD d = true) (h0 : -1 ≤ left) (hl : left ≤ 1073741824) (hd : d.down = false) :
    Calls Try.prog 13 #[d.val a n c, .int .i64 left] w (RetDk w (⟨d.room, d.files, left, d.down⟩, 0)) := by
  have hc := Lib.hid (h.right (twoW w d a n c) (two_below w d a n c) true hr)
  have HA := Lib.hid (two_below w d a n c)
  have HB := Lib.hid (two_box w d a n c)
  have HO := Lib.hid (two_out w d a n c)
  have HL := Lib.hid (right_left hr left d.down h0 hl)
  have hcl := Lib.hid (fun (W : World) (hb : Below w.heap.size w W) => clone_any a n c d.files W (h.sl.keep hb) (by have := h.len; have := (rightD_nums hr).2.1; omega) h.cn)
  clear h hr
  unfold twoW at *
  obtain ⟨rm, l, lf, dn⟩ := d
  unfold Dk.val at *
  dsimp only at *
  subst hd
  go_enter Try.func13, Try.ntmps13
  go_wp2_with fail
  refine hc.out.mono ?_
  rintro e w1 ⟨rfl, hb1⟩
  have HB1 := Lib.hid (below_then HA.out hb1 HA.out.size)
  have hz1 : w.heap.size + 1 < w1.heap.size := by have := hb1.size; simp at this; omega
  have o1 := Four.keep HO.out hb1
  have p1 := Four.keep HB.out hb1
  have q0 := p1.c0; have q1 := p1.c1; have q2 := p1.c2; have q3 := p1.c3
  have O1 := Lib.hid o1
  have P1 := Lib.hid p1
  clear hb1 o1 p1
  go_wp2_with fail
  refine (hcl.out w1 HB1.out).mono ?_
  rintro e w2 ⟨v, rfl, ho⟩
  obtain ⟨a2, n2, c2, rfl, hd2, hx2⟩ := DkAt.own (d := ⟨rm, l, left, false⟩) ho HL.out
  have HD := Lib.hid hd2
  have HX := Lib.hid hx2
  have HB2 := Lib.hid (below_then HB1.out ho.2 HB1.out.size)
  have o2 := Four.keep O1.out ho.2
  have p2 := Four.keep P1.out ho.2
  clear q0 q1 q2 q3
  have e0 := o2.c0; have e1 := o2.c1; have e2 := o2.c2; have e3 := o2.c3
  have g0 := o2.free 0; have g1 := o2.free 1; have g2 := o2.free 2; have g3 := o2.free 3
  have q0 := p2.c0; have q1 := p2.c1; have q2 := p2.c2; have q3 := p2.c3
  have f0 := p2.free 0; have f1 := p2.free 1; have f2 := p2.free 2; have f3 := p2.free 3
  clear ho hd2 hx2 o2 p2
  go_wp2_with fail
  refine bodyPost_ret (v := .tuple #[.agg #[.int .i64 rm, .slice a2 n2 c2, .int .i64 left, .bool false], .int .i64 0]) ?_ rfl ?_
  · rw [results_cell_tmp rfl]; go_simp
  · refine ⟨a2, n2, c2, rfl, ?_, ?_⟩
    · refine DkAt.sets ((HD.out.set ?_ _).set ?_ _) ?_ _ _ _ _
      all_goals intro x hx he; have := HX.out x hx; omega
    · exact four_sets ((HB2.out.setCell (by simp) _).setCell (by simp) _) (by omega) _ _ _ _

theorem cut_any (a : Option Addr) (n c : Nat) (d : Dk) (left : Int) (w : World) (h : DkAt w a n c d) :
    Calls Try.prog 13 #[d.val a n c, .int .i64 left] w (RetDk w (cutD d left)) := by
  unfold cutD
  cases hr : rightD d with
  | false => rw [if_pos (.inl rfl)]; exact cut_wrong a n c d left w h hr
  | true =>
    by_cases h0 : left < -1
    · rw [if_pos (.inr (.inl h0))]; exact cut_low a n c d left w h hr h0
    · by_cases h1 : 1073741824 < left
      · rw [if_pos (.inr (.inr h1))]; exact cut_high a n c d left w h hr (by omega) h1
      · rw [if_neg (by simp [h0, h1])]
        cases hd : d.down with
        | true => rw [if_pos rfl]; exact cut_down a n c d left w h hr (by omega) (by omega) hd
        | false => rw [if_neg (by simp)]; have := cut_ok a n c d left w h hr (by omega) (by omega) hd; rw [hd] at this; exact this
end Go.Proofs.Ytjppommhamaibaa
