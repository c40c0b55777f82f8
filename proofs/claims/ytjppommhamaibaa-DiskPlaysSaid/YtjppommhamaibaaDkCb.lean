/-
  The reference's Call of what may not be: refused. (Written by wip/mkcall.py.)
-/
import Derived.Test.YtjppommhamaibaaDkCa
namespace Go.Proofs.Ytjppommhamaibaa
open Go.RowKit Go.BigFrame
set_option linter.unusedVariables false

set_option maxRecDepth 100000 in
set_option maxHeartbeats 1000000 in
theorem call1_wrong (a : Option Addr) (n c : Nat) (d : Dk) (nm more : ByteArray) (w : World) (h : DkAt w a n c d) (hs : nm.size ≤ maxLen) (hs2 : more.size ≤ maxLen) (hr : rightD d = false) :
    Calls Try.prog 20 #[d.val a n c, .int .i64 1, .string nm, .string more] w (RetDk w (Dk.zero, 1)) := by
  have hmf : ∀ fn first cap w, (Instr.makeFunc fn first cap).run Try.prog w = .ok (.func fn first cap) w := fun _ _ _ _ => rfl
  have HB0 := Lib.hid (call_below w d a n c)
  have HP0 := Lib.hid (call_box w d a n c)
  have HO0 := Lib.hid (call_out w d a n c)
  have HN0 := Lib.hid (call_none w d a n c)
  have HZ := Lib.hid (call_size w d a n c)
  have hrt := Lib.hid (fun (W : World) (hb : Below w.heap.size w W) => refRight_any a n c d W (h.keep hb) false (Lib.hid hr.symm))
  have H := Lib.hid h
  clear h hr
  unfold callW at *
  obtain ⟨rm, l, lf, dn⟩ := d
  unfold Dk.val at *
  dsimp only at *
  go_enter Try.func20, Try.ntmps20
  go_wp2_with fail
  refine (hrt.out _ HB0.out).mono ?_
  rintro e w1 ⟨rfl, hb1⟩
  have HB1 := Lib.hid (below_then HB0.out hb1 HB0.out.size)
  have HP1 := Lib.hid (Four.keep HP0.out hb1)
  have HO1 := Lib.hid (Four.keep HO0.out hb1)
  have HN1 := Lib.hid (Four.keep HN0.out hb1)
  have hz1 : w.heap.size + 3 ≤ w1.heap.size := by have h1 := hb1.size; rw [HZ.out] at h1; exact h1
  have HZ1 := Lib.hid hz1
  clear hb1 HB0 HP0 HO0 HN0 hrt HZ hz1
  have p := HP1.out; have q := HN1.out; have o := HO1.out
  have p0 := p.c0; have p1 := p.c1; have p2 := p.c2; have p3 := p.c3
  have q0 := q.c0; have q1 := q.c1; have q2 := q.c2; have q3 := q.c3
  have e0 := o.c0; have e1 := o.c1; have e2 := o.c2; have e3 := o.c3
  have g0 := o.free 0; have g1 := o.free 1; have g2 := o.free 2; have g3 := o.free 3
  clear p q o
  go_wp2_with fail
  refine bodyPost_ret (v := .tuple #[.agg #[.int .i64 0, .slice none 0 0, .int .i64 0, .bool false], .int .i64 1]) ?_ rfl ?_
  · rw [results_cell_tmp rfl]; go_simp
  · exact RetDk.zero4 1 _ HB1.out (by omega)

set_option maxRecDepth 100000 in
set_option maxHeartbeats 1000000 in
theorem call1_name (a : Option Addr) (n c : Nat) (d : Dk) (nm more : ByteArray) (w : World) (h : DkAt w a n c d) (hs : nm.size ≤ maxLen) (hs2 : more.size ≤ maxLen) (hr : rightD d = true) (hn : nmOk nm = false) :
    Calls Try.prog 20 #[d.val a n c, .int .i64 1, .string nm, .string more] w (RetDk w (Dk.zero, 1)) := by
  have hmf : ∀ fn first cap w, (Instr.makeFunc fn first cap).run Try.prog w = .ok (.func fn first cap) w := fun _ _ _ _ => rfl
  have HB0 := Lib.hid (call_below w d a n c)
  have HP0 := Lib.hid (call_box w d a n c)
  have HO0 := Lib.hid (call_out w d a n c)
  have HN0 := Lib.hid (call_none w d a n c)
  have HZ := Lib.hid (call_size w d a n c)
  have hrt := Lib.hid (fun (W : World) (hb : Below w.heap.size w W) => refRight_any a n c d W (h.keep hb) true (Lib.hid hr.symm))
  have H := Lib.hid h
  have hnm := Lib.hid (refName_any nm hs · false (Lib.hid hn.symm))
  clear h hr hn
  unfold callW at *
  obtain ⟨rm, l, lf, dn⟩ := d
  unfold Dk.val at *
  dsimp only at *
  go_enter Try.func20, Try.ntmps20
  go_wp2_with fail
  refine (hrt.out _ HB0.out).mono ?_
  rintro e w1 ⟨rfl, hb1⟩
  have HB1 := Lib.hid (below_then HB0.out hb1 HB0.out.size)
  have HP1 := Lib.hid (Four.keep HP0.out hb1)
  have HO1 := Lib.hid (Four.keep HO0.out hb1)
  have HN1 := Lib.hid (Four.keep HN0.out hb1)
  have hz1 : w.heap.size + 3 ≤ w1.heap.size := by have h1 := hb1.size; rw [HZ.out] at h1; exact h1
  have HZ1 := Lib.hid hz1
  clear hb1 HB0 HP0 HO0 HN0 hrt HZ hz1
  go_wp2_with fail
  refine (hnm.out _).mono ?_
  rintro e w2 ⟨rfl, rfl⟩
  have p := HP1.out; have q := HN1.out; have o := HO1.out
  have p0 := p.c0; have p1 := p.c1; have p2 := p.c2; have p3 := p.c3
  have q0 := q.c0; have q1 := q.c1; have q2 := q.c2; have q3 := q.c3
  have e0 := o.c0; have e1 := o.c1; have e2 := o.c2; have e3 := o.c3
  have g0 := o.free 0; have g1 := o.free 1; have g2 := o.free 2; have g3 := o.free 3
  clear p q o
  go_wp2_with fail
  refine bodyPost_ret (v := .tuple #[.agg #[.int .i64 0, .slice none 0 0, .int .i64 0, .bool false], .int .i64 1]) ?_ rfl ?_
  · rw [results_cell_tmp rfl]; go_simp
  · exact RetDk.zero4 1 _ HB1.out (by omega)

set_option maxRecDepth 100000 in
set_option maxHeartbeats 1000000 in
theorem call1_down (a : Option Addr) (n c : Nat) (d : Dk) (nm more : ByteArray) (w : World) (h : DkAt w a n c d) (hs : nm.size ≤ maxLen) (hs2 : more.size ≤ maxLen) (hr : rightD d = true) (hn : nmOk nm = true) (hd : d.down = true) :
    Calls Try.prog 20 #[d.val a n c, .int .i64 1, .string nm, .string more] w (RetDk w (Dk.zero, 132)) := by
  have hmf : ∀ fn first cap w, (Instr.makeFunc fn first cap).run Try.prog w = .ok (.func fn first cap) w := fun _ _ _ _ => rfl
  have HB0 := Lib.hid (call_below w d a n c)
  have HP0 := Lib.hid (call_box w d a n c)
  have HO0 := Lib.hid (call_out w d a n c)
  have HN0 := Lib.hid (call_none w d a n c)
  have HZ := Lib.hid (call_size w d a n c)
  have hrt := Lib.hid (fun (W : World) (hb : Below w.heap.size w W) => refRight_any a n c d W (h.keep hb) true (Lib.hid hr.symm))
  have H := Lib.hid h
  have hnm := Lib.hid (refName_any nm hs · true (Lib.hid hn.symm))
  clear h hr hn
  unfold callW at *
  obtain ⟨rm, l, lf, dn⟩ := d
  unfold Dk.val at *
  dsimp only at *
  obtain rfl : dn = true := hd
  go_enter Try.func20, Try.ntmps20
  go_wp2_with fail
  refine (hrt.out _ HB0.out).mono ?_
  rintro e w1 ⟨rfl, hb1⟩
  have HB1 := Lib.hid (below_then HB0.out hb1 HB0.out.size)
  have HP1 := Lib.hid (Four.keep HP0.out hb1)
  have HO1 := Lib.hid (Four.keep HO0.out hb1)
  have HN1 := Lib.hid (Four.keep HN0.out hb1)
  have hz1 : w.heap.size + 3 ≤ w1.heap.size := by have h1 := hb1.size; rw [HZ.out] at h1; exact h1
  have HZ1 := Lib.hid hz1
  clear hb1 HB0 HP0 HO0 HN0 hrt HZ hz1
  go_wp2_with fail
  refine (hnm.out _).mono ?_
  rintro e w2 ⟨rfl, rfl⟩
  have p := HP1.out; have q := HN1.out; have o := HO1.out
  have p0 := p.c0; have p1 := p.c1; have p2 := p.c2; have p3 := p.c3
  have q0 := q.c0; have q1 := q.c1; have q2 := q.c2; have q3 := q.c3
  have e0 := o.c0; have e1 := o.c1; have e2 := o.c2; have e3 := o.c3
  have g0 := o.free 0; have g1 := o.free 1; have g2 := o.free 2; have g3 := o.free 3
  clear p q o
  go_wp2_with fail
  refine bodyPost_ret (v := .tuple #[.agg #[.int .i64 0, .slice none 0 0, .int .i64 0, .bool false], .int .i64 132]) ?_ rfl ?_
  · rw [results_cell_tmp rfl]; go_simp
  · exact RetDk.zero4 132 _ HB1.out (by omega)

set_option maxRecDepth 100000 in
set_option maxHeartbeats 1000000 in
theorem call2_wrong (a : Option Addr) (n c : Nat) (d : Dk) (nm more : ByteArray) (w : World) (h : DkAt w a n c d) (hs : nm.size ≤ maxLen) (hs2 : more.size ≤ maxLen) (hr : rightD d = false) :
    Calls Try.prog 20 #[d.val a n c, .int .i64 2, .string nm, .string more] w (RetDk w (Dk.zero, 1)) := by
  have hmf : ∀ fn first cap w, (Instr.makeFunc fn first cap).run Try.prog w = .ok (.func fn first cap) w := fun _ _ _ _ => rfl
  have HB0 := Lib.hid (call_below w d a n c)
  have HP0 := Lib.hid (call_box w d a n c)
  have HO0 := Lib.hid (call_out w d a n c)
  have HN0 := Lib.hid (call_none w d a n c)
  have HZ := Lib.hid (call_size w d a n c)
  have hrt := Lib.hid (fun (W : World) (hb : Below w.heap.size w W) => refRight_any a n c d W (h.keep hb) false (Lib.hid hr.symm))
  have H := Lib.hid h
  clear h hr
  unfold callW at *
  obtain ⟨rm, l, lf, dn⟩ := d
  unfold Dk.val at *
  dsimp only at *
  go_enter Try.func20, Try.ntmps20
  go_wp2_with fail
  refine (hrt.out _ HB0.out).mono ?_
  rintro e w1 ⟨rfl, hb1⟩
  have HB1 := Lib.hid (below_then HB0.out hb1 HB0.out.size)
  have HP1 := Lib.hid (Four.keep HP0.out hb1)
  have HO1 := Lib.hid (Four.keep HO0.out hb1)
  have HN1 := Lib.hid (Four.keep HN0.out hb1)
  have hz1 : w.heap.size + 3 ≤ w1.heap.size := by have h1 := hb1.size; rw [HZ.out] at h1; exact h1
  have HZ1 := Lib.hid hz1
  clear hb1 HB0 HP0 HO0 HN0 hrt HZ hz1
  have p := HP1.out; have q := HN1.out; have o := HO1.out
  have p0 := p.c0; have p1 := p.c1; have p2 := p.c2; have p3 := p.c3
  have q0 := q.c0; have q1 := q.c1; have q2 := q.c2; have q3 := q.c3
  have e0 := o.c0; have e1 := o.c1; have e2 := o.c2; have e3 := o.c3
  have g0 := o.free 0; have g1 := o.free 1; have g2 := o.free 2; have g3 := o.free 3
  clear p q o
  go_wp2_with fail
  refine bodyPost_ret (v := .tuple #[.agg #[.int .i64 0, .slice none 0 0, .int .i64 0, .bool false], .int .i64 1]) ?_ rfl ?_
  · rw [results_cell_tmp rfl]; go_simp
  · exact RetDk.zero4 1 _ HB1.out (by omega)

set_option maxRecDepth 100000 in
set_option maxHeartbeats 1000000 in
theorem call2_name (a : Option Addr) (n c : Nat) (d : Dk) (nm more : ByteArray) (w : World) (h : DkAt w a n c d) (hs : nm.size ≤ maxLen) (hs2 : more.size ≤ maxLen) (hr : rightD d = true) (hn : nmOk nm = false) :
    Calls Try.prog 20 #[d.val a n c, .int .i64 2, .string nm, .string more] w (RetDk w (Dk.zero, 1)) := by
  have hmf : ∀ fn first cap w, (Instr.makeFunc fn first cap).run Try.prog w = .ok (.func fn first cap) w := fun _ _ _ _ => rfl
  have HB0 := Lib.hid (call_below w d a n c)
  have HP0 := Lib.hid (call_box w d a n c)
  have HO0 := Lib.hid (call_out w d a n c)
  have HN0 := Lib.hid (call_none w d a n c)
  have HZ := Lib.hid (call_size w d a n c)
  have hrt := Lib.hid (fun (W : World) (hb : Below w.heap.size w W) => refRight_any a n c d W (h.keep hb) true (Lib.hid hr.symm))
  have H := Lib.hid h
  have hnm := Lib.hid (refName_any nm hs · false (Lib.hid hn.symm))
  clear h hr hn
  unfold callW at *
  obtain ⟨rm, l, lf, dn⟩ := d
  unfold Dk.val at *
  dsimp only at *
  go_enter Try.func20, Try.ntmps20
  go_wp2_with fail
  refine (hrt.out _ HB0.out).mono ?_
  rintro e w1 ⟨rfl, hb1⟩
  have HB1 := Lib.hid (below_then HB0.out hb1 HB0.out.size)
  have HP1 := Lib.hid (Four.keep HP0.out hb1)
  have HO1 := Lib.hid (Four.keep HO0.out hb1)
  have HN1 := Lib.hid (Four.keep HN0.out hb1)
  have hz1 : w.heap.size + 3 ≤ w1.heap.size := by have h1 := hb1.size; rw [HZ.out] at h1; exact h1
  have HZ1 := Lib.hid hz1
  clear hb1 HB0 HP0 HO0 HN0 hrt HZ hz1
  go_wp2_with fail
  refine (hnm.out _).mono ?_
  rintro e w2 ⟨rfl, rfl⟩
  have p := HP1.out; have q := HN1.out; have o := HO1.out
  have p0 := p.c0; have p1 := p.c1; have p2 := p.c2; have p3 := p.c3
  have q0 := q.c0; have q1 := q.c1; have q2 := q.c2; have q3 := q.c3
  have e0 := o.c0; have e1 := o.c1; have e2 := o.c2; have e3 := o.c3
  have g0 := o.free 0; have g1 := o.free 1; have g2 := o.free 2; have g3 := o.free 3
  clear p q o
  go_wp2_with fail
  refine bodyPost_ret (v := .tuple #[.agg #[.int .i64 0, .slice none 0 0, .int .i64 0, .bool false], .int .i64 1]) ?_ rfl ?_
  · rw [results_cell_tmp rfl]; go_simp
  · exact RetDk.zero4 1 _ HB1.out (by omega)

set_option maxRecDepth 100000 in
set_option maxHeartbeats 1000000 in
theorem call2_down (a : Option Addr) (n c : Nat) (d : Dk) (nm more : ByteArray) (w : World) (h : DkAt w a n c d) (hs : nm.size ≤ maxLen) (hs2 : more.size ≤ maxLen) (hr : rightD d = true) (hn : nmOk nm = true) (hd : d.down = true) :
    Calls Try.prog 20 #[d.val a n c, .int .i64 2, .string nm, .string more] w (RetDk w (Dk.zero, 132)) := by
  have hmf : ∀ fn first cap w, (Instr.makeFunc fn first cap).run Try.prog w = .ok (.func fn first cap) w := fun _ _ _ _ => rfl
  have HB0 := Lib.hid (call_below w d a n c)
  have HP0 := Lib.hid (call_box w d a n c)
  have HO0 := Lib.hid (call_out w d a n c)
  have HN0 := Lib.hid (call_none w d a n c)
  have HZ := Lib.hid (call_size w d a n c)
  have hrt := Lib.hid (fun (W : World) (hb : Below w.heap.size w W) => refRight_any a n c d W (h.keep hb) true (Lib.hid hr.symm))
  have H := Lib.hid h
  have hnm := Lib.hid (refName_any nm hs · true (Lib.hid hn.symm))
  clear h hr hn
  unfold callW at *
  obtain ⟨rm, l, lf, dn⟩ := d
  unfold Dk.val at *
  dsimp only at *
  obtain rfl : dn = true := hd
  go_enter Try.func20, Try.ntmps20
  go_wp2_with fail
  refine (hrt.out _ HB0.out).mono ?_
  rintro e w1 ⟨rfl, hb1⟩
  have HB1 := Lib.hid (below_then HB0.out hb1 HB0.out.size)
  have HP1 := Lib.hid (Four.keep HP0.out hb1)
  have HO1 := Lib.hid (Four.keep HO0.out hb1)
  have HN1 := Lib.hid (Four.keep HN0.out hb1)
  have hz1 : w.heap.size + 3 ≤ w1.heap.size := by have h1 := hb1.size; rw [HZ.out] at h1; exact h1
  have HZ1 := Lib.hid hz1
  clear hb1 HB0 HP0 HO0 HN0 hrt HZ hz1
  go_wp2_with fail
  refine (hnm.out _).mono ?_
  rintro e w2 ⟨rfl, rfl⟩
  have p := HP1.out; have q := HN1.out; have o := HO1.out
  have p0 := p.c0; have p1 := p.c1; have p2 := p.c2; have p3 := p.c3
  have q0 := q.c0; have q1 := q.c1; have q2 := q.c2; have q3 := q.c3
  have e0 := o.c0; have e1 := o.c1; have e2 := o.c2; have e3 := o.c3
  have g0 := o.free 0; have g1 := o.free 1; have g2 := o.free 2; have g3 := o.free 3
  clear p q o
  go_wp2_with fail
  refine bodyPost_ret (v := .tuple #[.agg #[.int .i64 0, .slice none 0 0, .int .i64 0, .bool false], .int .i64 132]) ?_ rfl ?_
  · rw [results_cell_tmp rfl]; go_simp
  · exact RetDk.zero4 132 _ HB1.out (by omega)

set_option maxRecDepth 100000 in
set_option maxHeartbeats 1000000 in
theorem call3_wrong (a : Option Addr) (n c : Nat) (d : Dk) (nm more : ByteArray) (w : World) (h : DkAt w a n c d) (hs : nm.size ≤ maxLen) (hs2 : more.size ≤ maxLen) (hr : rightD d = false) :
    Calls Try.prog 20 #[d.val a n c, .int .i64 3, .string nm, .string more] w (RetDk w (Dk.zero, 1)) := by
  have hmf : ∀ fn first cap w, (Instr.makeFunc fn first cap).run Try.prog w = .ok (.func fn first cap) w := fun _ _ _ _ => rfl
  have HB0 := Lib.hid (call_below w d a n c)
  have HP0 := Lib.hid (call_box w d a n c)
  have HO0 := Lib.hid (call_out w d a n c)
  have HN0 := Lib.hid (call_none w d a n c)
  have HZ := Lib.hid (call_size w d a n c)
  have hrt := Lib.hid (fun (W : World) (hb : Below w.heap.size w W) => refRight_any a n c d W (h.keep hb) false (Lib.hid hr.symm))
  have H := Lib.hid h
  clear h hr
  unfold callW at *
  obtain ⟨rm, l, lf, dn⟩ := d
  unfold Dk.val at *
  dsimp only at *
  go_enter Try.func20, Try.ntmps20
  go_wp2_with fail
  refine (hrt.out _ HB0.out).mono ?_
  rintro e w1 ⟨rfl, hb1⟩
  have HB1 := Lib.hid (below_then HB0.out hb1 HB0.out.size)
  have HP1 := Lib.hid (Four.keep HP0.out hb1)
  have HO1 := Lib.hid (Four.keep HO0.out hb1)
  have HN1 := Lib.hid (Four.keep HN0.out hb1)
  have hz1 : w.heap.size + 3 ≤ w1.heap.size := by have h1 := hb1.size; rw [HZ.out] at h1; exact h1
  have HZ1 := Lib.hid hz1
  clear hb1 HB0 HP0 HO0 HN0 hrt HZ hz1
  have p := HP1.out; have q := HN1.out; have o := HO1.out
  have p0 := p.c0; have p1 := p.c1; have p2 := p.c2; have p3 := p.c3
  have q0 := q.c0; have q1 := q.c1; have q2 := q.c2; have q3 := q.c3
  have e0 := o.c0; have e1 := o.c1; have e2 := o.c2; have e3 := o.c3
  have g0 := o.free 0; have g1 := o.free 1; have g2 := o.free 2; have g3 := o.free 3
  clear p q o
  go_wp2_with fail
  refine bodyPost_ret (v := .tuple #[.agg #[.int .i64 0, .slice none 0 0, .int .i64 0, .bool false], .int .i64 1]) ?_ rfl ?_
  · rw [results_cell_tmp rfl]; go_simp
  · exact RetDk.zero4 1 _ HB1.out (by omega)

set_option maxRecDepth 100000 in
set_option maxHeartbeats 1000000 in
theorem call3_name (a : Option Addr) (n c : Nat) (d : Dk) (nm more : ByteArray) (w : World) (h : DkAt w a n c d) (hs : nm.size ≤ maxLen) (hs2 : more.size ≤ maxLen) (hr : rightD d = true) (hn : nmOk nm = false) :
    Calls Try.prog 20 #[d.val a n c, .int .i64 3, .string nm, .string more] w (RetDk w (Dk.zero, 1)) := by
  have hmf : ∀ fn first cap w, (Instr.makeFunc fn first cap).run Try.prog w = .ok (.func fn first cap) w := fun _ _ _ _ => rfl
  have HB0 := Lib.hid (call_below w d a n c)
  have HP0 := Lib.hid (call_box w d a n c)
  have HO0 := Lib.hid (call_out w d a n c)
  have HN0 := Lib.hid (call_none w d a n c)
  have HZ := Lib.hid (call_size w d a n c)
  have hrt := Lib.hid (fun (W : World) (hb : Below w.heap.size w W) => refRight_any a n c d W (h.keep hb) true (Lib.hid hr.symm))
  have H := Lib.hid h
  have hnm := Lib.hid (refName_any nm hs · false (Lib.hid hn.symm))
  clear h hr hn
  unfold callW at *
  obtain ⟨rm, l, lf, dn⟩ := d
  unfold Dk.val at *
  dsimp only at *
  go_enter Try.func20, Try.ntmps20
  go_wp2_with fail
  refine (hrt.out _ HB0.out).mono ?_
  rintro e w1 ⟨rfl, hb1⟩
  have HB1 := Lib.hid (below_then HB0.out hb1 HB0.out.size)
  have HP1 := Lib.hid (Four.keep HP0.out hb1)
  have HO1 := Lib.hid (Four.keep HO0.out hb1)
  have HN1 := Lib.hid (Four.keep HN0.out hb1)
  have hz1 : w.heap.size + 3 ≤ w1.heap.size := by have h1 := hb1.size; rw [HZ.out] at h1; exact h1
  have HZ1 := Lib.hid hz1
  clear hb1 HB0 HP0 HO0 HN0 hrt HZ hz1
  go_wp2_with fail
  refine (hnm.out _).mono ?_
  rintro e w2 ⟨rfl, rfl⟩
  have p := HP1.out; have q := HN1.out; have o := HO1.out
  have p0 := p.c0; have p1 := p.c1; have p2 := p.c2; have p3 := p.c3
  have q0 := q.c0; have q1 := q.c1; have q2 := q.c2; have q3 := q.c3
  have e0 := o.c0; have e1 := o.c1; have e2 := o.c2; have e3 := o.c3
  have g0 := o.free 0; have g1 := o.free 1; have g2 := o.free 2; have g3 := o.free 3
  clear p q o
  go_wp2_with fail
  refine bodyPost_ret (v := .tuple #[.agg #[.int .i64 0, .slice none 0 0, .int .i64 0, .bool false], .int .i64 1]) ?_ rfl ?_
  · rw [results_cell_tmp rfl]; go_simp
  · exact RetDk.zero4 1 _ HB1.out (by omega)

set_option maxRecDepth 100000 in
set_option maxHeartbeats 1000000 in
theorem call3_more (a : Option Addr) (n c : Nat) (d : Dk) (nm more : ByteArray) (w : World) (h : DkAt w a n c d) (hs : nm.size ≤ maxLen) (hs2 : more.size ≤ maxLen) (hr : rightD d = true) (hn : nmOk nm = true) (hm : nmOk more = false) :
    Calls Try.prog 20 #[d.val a n c, .int .i64 3, .string nm, .string more] w (RetDk w (Dk.zero, 1)) := by
  have hmf : ∀ fn first cap w, (Instr.makeFunc fn first cap).run Try.prog w = .ok (.func fn first cap) w := fun _ _ _ _ => rfl
  have HB0 := Lib.hid (call_below w d a n c)
  have HP0 := Lib.hid (call_box w d a n c)
  have HO0 := Lib.hid (call_out w d a n c)
  have HN0 := Lib.hid (call_none w d a n c)
  have HZ := Lib.hid (call_size w d a n c)
  have hrt := Lib.hid (fun (W : World) (hb : Below w.heap.size w W) => refRight_any a n c d W (h.keep hb) true (Lib.hid hr.symm))
  have H := Lib.hid h
  have hnm := Lib.hid (refName_any nm hs · true (Lib.hid hn.symm))
  have hmo := Lib.hid (refName_any more hs2 · false (Lib.hid hm.symm))
  clear h hr hn hm
  unfold callW at *
  obtain ⟨rm, l, lf, dn⟩ := d
  unfold Dk.val at *
  dsimp only at *
  go_enter Try.func20, Try.ntmps20
  go_wp2_with fail
  refine (hrt.out _ HB0.out).mono ?_
  rintro e w1 ⟨rfl, hb1⟩
  have HB1 := Lib.hid (below_then HB0.out hb1 HB0.out.size)
  have HP1 := Lib.hid (Four.keep HP0.out hb1)
  have HO1 := Lib.hid (Four.keep HO0.out hb1)
  have HN1 := Lib.hid (Four.keep HN0.out hb1)
  have hz1 : w.heap.size + 3 ≤ w1.heap.size := by have h1 := hb1.size; rw [HZ.out] at h1; exact h1
  have HZ1 := Lib.hid hz1
  clear hb1 HB0 HP0 HO0 HN0 hrt HZ hz1
  go_wp2_with fail
  refine (hnm.out _).mono ?_
  rintro e w2 ⟨rfl, rfl⟩
  go_wp2_with fail
  refine (hmo.out _).mono ?_
  rintro e w2 ⟨rfl, rfl⟩
  have p := HP1.out; have q := HN1.out; have o := HO1.out
  have p0 := p.c0; have p1 := p.c1; have p2 := p.c2; have p3 := p.c3
  have q0 := q.c0; have q1 := q.c1; have q2 := q.c2; have q3 := q.c3
  have e0 := o.c0; have e1 := o.c1; have e2 := o.c2; have e3 := o.c3
  have g0 := o.free 0; have g1 := o.free 1; have g2 := o.free 2; have g3 := o.free 3
  clear p q o
  go_wp2_with fail
  refine bodyPost_ret (v := .tuple #[.agg #[.int .i64 0, .slice none 0 0, .int .i64 0, .bool false], .int .i64 1]) ?_ rfl ?_
  · rw [results_cell_tmp rfl]; go_simp
  · exact RetDk.zero4 1 _ HB1.out (by omega)

set_option maxRecDepth 100000 in
set_option maxHeartbeats 1000000 in
theorem call3_down (a : Option Addr) (n c : Nat) (d : Dk) (nm more : ByteArray) (w : World) (h : DkAt w a n c d) (hs : nm.size ≤ maxLen) (hs2 : more.size ≤ maxLen) (hr : rightD d = true) (hn : nmOk nm = true) (hm : nmOk more = true) (hd : d.down = true) :
    Calls Try.prog 20 #[d.val a n c, .int .i64 3, .string nm, .string more] w (RetDk w (Dk.zero, 132)) := by
  have hmf : ∀ fn first cap w, (Instr.makeFunc fn first cap).run Try.prog w = .ok (.func fn first cap) w := fun _ _ _ _ => rfl
  have HB0 := Lib.hid (call_below w d a n c)
  have HP0 := Lib.hid (call_box w d a n c)
  have HO0 := Lib.hid (call_out w d a n c)
  have HN0 := Lib.hid (call_none w d a n c)
  have HZ := Lib.hid (call_size w d a n c)
  have hrt := Lib.hid (fun (W : World) (hb : Below w.heap.size w W) => refRight_any a n c d W (h.keep hb) true (Lib.hid hr.symm))
  have H := Lib.hid h
  have hnm := Lib.hid (refName_any nm hs · true (Lib.hid hn.symm))
  have hmo := Lib.hid (refName_any more hs2 · true (Lib.hid hm.symm))
  clear h hr hn hm
  unfold callW at *
  obtain ⟨rm, l, lf, dn⟩ := d
  unfold Dk.val at *
  dsimp only at *
  obtain rfl : dn = true := hd
  go_enter Try.func20, Try.ntmps20
  go_wp2_with fail
  refine (hrt.out _ HB0.out).mono ?_
  rintro e w1 ⟨rfl, hb1⟩
  have HB1 := Lib.hid (below_then HB0.out hb1 HB0.out.size)
  have HP1 := Lib.hid (Four.keep HP0.out hb1)
  have HO1 := Lib.hid (Four.keep HO0.out hb1)
  have HN1 := Lib.hid (Four.keep HN0.out hb1)
  have hz1 : w.heap.size + 3 ≤ w1.heap.size := by have h1 := hb1.size; rw [HZ.out] at h1; exact h1
  have HZ1 := Lib.hid hz1
  clear hb1 HB0 HP0 HO0 HN0 hrt HZ hz1
  go_wp2_with fail
  refine (hnm.out _).mono ?_
  rintro e w2 ⟨rfl, rfl⟩
  go_wp2_with fail
  refine (hmo.out _).mono ?_
  rintro e w2 ⟨rfl, rfl⟩
  have p := HP1.out; have q := HN1.out; have o := HO1.out
  have p0 := p.c0; have p1 := p.c1; have p2 := p.c2; have p3 := p.c3
  have q0 := q.c0; have q1 := q.c1; have q2 := q.c2; have q3 := q.c3
  have e0 := o.c0; have e1 := o.c1; have e2 := o.c2; have e3 := o.c3
  have g0 := o.free 0; have g1 := o.free 1; have g2 := o.free 2; have g3 := o.free 3
  clear p q o
  go_wp2_with fail
  refine bodyPost_ret (v := .tuple #[.agg #[.int .i64 0, .slice none 0 0, .int .i64 0, .bool false], .int .i64 132]) ?_ rfl ?_
  · rw [results_cell_tmp rfl]; go_simp
  · exact RetDk.zero4 132 _ HB1.out (by omega)

set_option maxRecDepth 100000 in
set_option maxHeartbeats 1000000 in
theorem call4_wrong (a : Option Addr) (n c : Nat) (d : Dk) (nm more : ByteArray) (w : World) (h : DkAt w a n c d) (hs : nm.size ≤ maxLen) (hs2 : more.size ≤ maxLen) (hr : rightD d = false) :
    Calls Try.prog 20 #[d.val a n c, .int .i64 4, .string nm, .string more] w (RetDk w (Dk.zero, 1)) := by
  have hmf : ∀ fn first cap w, (Instr.makeFunc fn first cap).run Try.prog w = .ok (.func fn first cap) w := fun _ _ _ _ => rfl
  have HB0 := Lib.hid (call_below w d a n c)
  have HP0 := Lib.hid (call_box w d a n c)
  have HO0 := Lib.hid (call_out w d a n c)
  have HN0 := Lib.hid (call_none w d a n c)
  have HZ := Lib.hid (call_size w d a n c)
  have hrt := Lib.hid (fun (W : World) (hb : Below w.heap.size w W) => refRight_any a n c d W (h.keep hb) false (Lib.hid hr.symm))
  have H := Lib.hid h
  clear h hr
  unfold callW at *
  obtain ⟨rm, l, lf, dn⟩ := d
  unfold Dk.val at *
  dsimp only at *
  go_enter Try.func20, Try.ntmps20
  go_wp2_with fail
  refine (hrt.out _ HB0.out).mono ?_
  rintro e w1 ⟨rfl, hb1⟩
  have HB1 := Lib.hid (below_then HB0.out hb1 HB0.out.size)
  have HP1 := Lib.hid (Four.keep HP0.out hb1)
  have HO1 := Lib.hid (Four.keep HO0.out hb1)
  have HN1 := Lib.hid (Four.keep HN0.out hb1)
  have hz1 : w.heap.size + 3 ≤ w1.heap.size := by have h1 := hb1.size; rw [HZ.out] at h1; exact h1
  have HZ1 := Lib.hid hz1
  clear hb1 HB0 HP0 HO0 HN0 hrt HZ hz1
  have p := HP1.out; have q := HN1.out; have o := HO1.out
  have p0 := p.c0; have p1 := p.c1; have p2 := p.c2; have p3 := p.c3
  have q0 := q.c0; have q1 := q.c1; have q2 := q.c2; have q3 := q.c3
  have e0 := o.c0; have e1 := o.c1; have e2 := o.c2; have e3 := o.c3
  have g0 := o.free 0; have g1 := o.free 1; have g2 := o.free 2; have g3 := o.free 3
  clear p q o
  go_wp2_with fail
  refine bodyPost_ret (v := .tuple #[.agg #[.int .i64 0, .slice none 0 0, .int .i64 0, .bool false], .int .i64 1]) ?_ rfl ?_
  · rw [results_cell_tmp rfl]; go_simp
  · exact RetDk.zero4 1 _ HB1.out (by omega)

set_option maxRecDepth 100000 in
set_option maxHeartbeats 1000000 in
theorem call4_name (a : Option Addr) (n c : Nat) (d : Dk) (nm more : ByteArray) (w : World) (h : DkAt w a n c d) (hs : nm.size ≤ maxLen) (hs2 : more.size ≤ maxLen) (hr : rightD d = true) (hn : nmOk nm = false) :
    Calls Try.prog 20 #[d.val a n c, .int .i64 4, .string nm, .string more] w (RetDk w (Dk.zero, 1)) := by
  have hmf : ∀ fn first cap w, (Instr.makeFunc fn first cap).run Try.prog w = .ok (.func fn first cap) w := fun _ _ _ _ => rfl
  have HB0 := Lib.hid (call_below w d a n c)
  have HP0 := Lib.hid (call_box w d a n c)
  have HO0 := Lib.hid (call_out w d a n c)
  have HN0 := Lib.hid (call_none w d a n c)
  have HZ := Lib.hid (call_size w d a n c)
  have hrt := Lib.hid (fun (W : World) (hb : Below w.heap.size w W) => refRight_any a n c d W (h.keep hb) true (Lib.hid hr.symm))
  have H := Lib.hid h
  have hnm := Lib.hid (refName_any nm hs · false (Lib.hid hn.symm))
  clear h hr hn
  unfold callW at *
  obtain ⟨rm, l, lf, dn⟩ := d
  unfold Dk.val at *
  dsimp only at *
  go_enter Try.func20, Try.ntmps20
  go_wp2_with fail
  refine (hrt.out _ HB0.out).mono ?_
  rintro e w1 ⟨rfl, hb1⟩
  have HB1 := Lib.hid (below_then HB0.out hb1 HB0.out.size)
  have HP1 := Lib.hid (Four.keep HP0.out hb1)
  have HO1 := Lib.hid (Four.keep HO0.out hb1)
  have HN1 := Lib.hid (Four.keep HN0.out hb1)
  have hz1 : w.heap.size + 3 ≤ w1.heap.size := by have h1 := hb1.size; rw [HZ.out] at h1; exact h1
  have HZ1 := Lib.hid hz1
  clear hb1 HB0 HP0 HO0 HN0 hrt HZ hz1
  go_wp2_with fail
  refine (hnm.out _).mono ?_
  rintro e w2 ⟨rfl, rfl⟩
  have p := HP1.out; have q := HN1.out; have o := HO1.out
  have p0 := p.c0; have p1 := p.c1; have p2 := p.c2; have p3 := p.c3
  have q0 := q.c0; have q1 := q.c1; have q2 := q.c2; have q3 := q.c3
  have e0 := o.c0; have e1 := o.c1; have e2 := o.c2; have e3 := o.c3
  have g0 := o.free 0; have g1 := o.free 1; have g2 := o.free 2; have g3 := o.free 3
  clear p q o
  go_wp2_with fail
  refine bodyPost_ret (v := .tuple #[.agg #[.int .i64 0, .slice none 0 0, .int .i64 0, .bool false], .int .i64 1]) ?_ rfl ?_
  · rw [results_cell_tmp rfl]; go_simp
  · exact RetDk.zero4 1 _ HB1.out (by omega)

set_option maxRecDepth 100000 in
set_option maxHeartbeats 1000000 in
theorem call4_down (a : Option Addr) (n c : Nat) (d : Dk) (nm more : ByteArray) (w : World) (h : DkAt w a n c d) (hs : nm.size ≤ maxLen) (hs2 : more.size ≤ maxLen) (hr : rightD d = true) (hn : nmOk nm = true) (hd : d.down = true) :
    Calls Try.prog 20 #[d.val a n c, .int .i64 4, .string nm, .string more] w (RetDk w (Dk.zero, 132)) := by
  have hmf : ∀ fn first cap w, (Instr.makeFunc fn first cap).run Try.prog w = .ok (.func fn first cap) w := fun _ _ _ _ => rfl
  have HB0 := Lib.hid (call_below w d a n c)
  have HP0 := Lib.hid (call_box w d a n c)
  have HO0 := Lib.hid (call_out w d a n c)
  have HN0 := Lib.hid (call_none w d a n c)
  have HZ := Lib.hid (call_size w d a n c)
  have hrt := Lib.hid (fun (W : World) (hb : Below w.heap.size w W) => refRight_any a n c d W (h.keep hb) true (Lib.hid hr.symm))
  have H := Lib.hid h
  have hnm := Lib.hid (refName_any nm hs · true (Lib.hid hn.symm))
  clear h hr hn
  unfold callW at *
  obtain ⟨rm, l, lf, dn⟩ := d
  unfold Dk.val at *
  dsimp only at *
  obtain rfl : dn = true := hd
  go_enter Try.func20, Try.ntmps20
  go_wp2_with fail
  refine (hrt.out _ HB0.out).mono ?_
  rintro e w1 ⟨rfl, hb1⟩
  have HB1 := Lib.hid (below_then HB0.out hb1 HB0.out.size)
  have HP1 := Lib.hid (Four.keep HP0.out hb1)
  have HO1 := Lib.hid (Four.keep HO0.out hb1)
  have HN1 := Lib.hid (Four.keep HN0.out hb1)
  have hz1 : w.heap.size + 3 ≤ w1.heap.size := by have h1 := hb1.size; rw [HZ.out] at h1; exact h1
  have HZ1 := Lib.hid hz1
  clear hb1 HB0 HP0 HO0 HN0 hrt HZ hz1
  go_wp2_with fail
  refine (hnm.out _).mono ?_
  rintro e w2 ⟨rfl, rfl⟩
  have p := HP1.out; have q := HN1.out; have o := HO1.out
  have p0 := p.c0; have p1 := p.c1; have p2 := p.c2; have p3 := p.c3
  have q0 := q.c0; have q1 := q.c1; have q2 := q.c2; have q3 := q.c3
  have e0 := o.c0; have e1 := o.c1; have e2 := o.c2; have e3 := o.c3
  have g0 := o.free 0; have g1 := o.free 1; have g2 := o.free 2; have g3 := o.free 3
  clear p q o
  go_wp2_with fail
  refine bodyPost_ret (v := .tuple #[.agg #[.int .i64 0, .slice none 0 0, .int .i64 0, .bool false], .int .i64 132]) ?_ rfl ?_
  · rw [results_cell_tmp rfl]; go_simp
  · exact RetDk.zero4 132 _ HB1.out (by omega)
end Go.Proofs.Ytjppommhamaibaa
