/-
  The walk of Rename: what it makes of any disk; new blocks alone are made; the texts within reach.
-/
import Derived.Test.YtjppommhamaibaaDkT
import Derived.Test.YtjppommhamaibaaDkZ
namespace Go.Proofs.Ytjppommhamaibaa
open Go.RowKit Go.BigFrame
set_option linter.unusedVariables false

set_option maxHeartbeats 2000000 in
theorem rename_not (a : Option Addr) (n c : Nat) (d : Dk) (nm to : ByteArray) (w : World) (h : DkAt w a n c d) (hs : nm.size ≤ maxLen) (hs2 : to.size ≤ maxLen) (r0 : Int) (hr0 : r0 = readyD d [nm, to]) (hz : r0 ≠ 0) :
    Calls Try.prog 23 #[d.val a n c, .string nm, .string to] w (RetDk w (Dk.zero, r0)) := by
  have hmf : ∀ fn first cap w, (Instr.makeFunc fn first cap).run Try.prog w = .ok (.func fn first cap) w := fun _ _ _ _ => rfl
  have HA := Lib.hid (three_below w d a n c nm to)
  have HB := Lib.hid (three_box w d a n c nm to)
  have HO := Lib.hid (three_out w d a n c nm to)
  have HNM := Lib.hid (three_nm w d a n c nm to)
  have HMO := Lib.hid (three_more w d a n c nm to)
  have HZ := Lib.hid (three_size w d a n c nm to)
  have hr := Lib.hid (ready_two a n c d nm to w _ h (three_below w d a n c nm to) hs hs2 (w.heap.size + 4) (by rw [three_size]) r0 (Lib.hid hr0))
  have hnb := h.nb
  have hne : (r0 != 0) = true := bne_iff_ne.2 hz
  clear hr0 hz h
  unfold threeW at *
  obtain ⟨rm, l, lf, dn⟩ := d
  unfold Dk.val at *
  dsimp only at *
  go_enter Try.func23, Try.ntmps23
  go_wp2_with fail
  refine hr.out.mono ?_
  rintro e w1 ⟨rfl, hb1⟩
  have HB1 := Lib.hid (below_then HA.out hb1 HA.out.size)
  have hB1 := HB.out.keep hb1
  have o1 := Four.keep HO.out hb1
  have n1 := One.below HNM.out hb1
  have m1 := One.below HMO.out hb1
  have q0 := hB1.c0; have q1 := hB1.c1; have q2 := hB1.c2; have q3 := hB1.c3
  have qn := n1.cell
  have qm := m1.cell
  have O1 := Lib.hid o1
  have P1 := Lib.hid hB1
  have N1 := Lib.hid n1
  have M1 := Lib.hid m1
  have hz1 : w.heap.size + 3 < w1.heap.size := by have h1 := hb1.size; rw [HZ.out] at h1; omega
  clear hB1 o1 hb1 n1 m1
  have o2 := O1.out
  have e0 := o2.c0; have e1 := o2.c1; have e2 := o2.c2; have e3 := o2.c3
  have g0 := o2.free 0; have g1 := o2.free 1; have g2 := o2.free 2; have g3 := o2.free 3
  clear o2 q0 q1 q2 q3
  go_wp2_with fail
  refine bodyPost_ret (v := .tuple #[.agg #[.int .i64 0, .slice none 0 0, .int .i64 0, .bool false], .int .i64 r0]) ?_ rfl ?_
  · rw [results_cell_tmp rfl]; go_simp
  · exact RetDk.zero4 r0 _ HB1.out (by omega)

set_option maxHeartbeats 2000000 in
theorem rename_none (a : Option Addr) (n c : Nat) (d : Dk) (nm to : ByteArray) (w : World) (h : DkAt w a n c d) (hs : nm.size ≤ maxLen) (hs2 : to.size ≤ maxLen) (r0 : Int) (hr0 : r0 = readyD d [nm, to]) (hz : r0 = 0) (k0 : Int) (hk0 : k0 = atL d.files nm) (hk : k0 < 0) :
    Calls Try.prog 23 #[d.val a n c, .string nm, .string to] w (RetDk w (Dk.zero, 60)) := by
  have hmf : ∀ fn first cap w, (Instr.makeFunc fn first cap).run Try.prog w = .ok (.func fn first cap) w := fun _ _ _ _ => rfl
  have HA := Lib.hid (three_below w d a n c nm to)
  have HB := Lib.hid (three_box w d a n c nm to)
  have HO := Lib.hid (three_out w d a n c nm to)
  have HNM := Lib.hid (three_nm w d a n c nm to)
  have HMO := Lib.hid (three_more w d a n c nm to)
  have HZ := Lib.hid (three_size w d a n c nm to)
  have hr := Lib.hid (ready_two a n c d nm to w _ h (three_below w d a n c nm to) hs hs2 (w.heap.size + 4) (by rw [three_size]) r0 (Lib.hid hr0))
  have hnb := h.nb
  subst hz
  have hf := Lib.hid (fun (W : World) (hb : Below w.heap.size w W) => find_any a n c d.files nm W (h.sl.keep hb) hnb k0 (Lib.hid hk0))
  clear hr0 hk0 h
  unfold threeW at *
  obtain ⟨rm, l, lf, dn⟩ := d
  unfold Dk.val at *
  dsimp only at *
  go_enter Try.func23, Try.ntmps23
  go_wp2_with fail
  refine hr.out.mono ?_
  rintro e w1 ⟨rfl, hb1⟩
  have HB1 := Lib.hid (below_then HA.out hb1 HA.out.size)
  have hB1 := HB.out.keep hb1
  have o1 := Four.keep HO.out hb1
  have n1 := One.below HNM.out hb1
  have m1 := One.below HMO.out hb1
  have q0 := hB1.c0; have q1 := hB1.c1; have q2 := hB1.c2; have q3 := hB1.c3
  have qn := n1.cell
  have qm := m1.cell
  have O1 := Lib.hid o1
  have P1 := Lib.hid hB1
  have N1 := Lib.hid n1
  have M1 := Lib.hid m1
  have hz1 : w.heap.size + 3 < w1.heap.size := by have h1 := hb1.size; rw [HZ.out] at h1; omega
  clear hB1 o1 hb1 n1 m1
  go_wp2_with fail
  refine (hf.out w1 HB1.out).mono ?_
  rintro e w2 ⟨rfl, hb2⟩
  have hb2' := below_then HB1.out hb2 HB1.out.size
  have HB2 := Lib.hid (hb2'.alloc hb2'.size (.cells #[.int .i64 k0] 3))
  have O2 := Lib.hid ((Four.keep O1.out hb2).alloc (.cells #[.int .i64 k0] 3))
  have P2 := Lib.hid ((Four.keep P1.out hb2).alloc (.cells #[.int .i64 k0] 3))
  have N2 := Lib.hid ((One.below N1.out hb2).alloc (.cells #[.int .i64 k0] 3))
  have M2 := Lib.hid ((One.below M1.out hb2).alloc (.cells #[.int .i64 k0] 3))
  have A2 := Lib.hid (One.new w2 3 (.int .i64 k0))
  have hsz2 : w1.heap.size ≤ w2.heap.size := hb2.size
  clear hb2 q0 q1 q2 q3 qn qm hb2'
  have o2 := O2.out
  have e0 := o2.c0; have e1 := o2.c1; have e2 := o2.c2; have e3 := o2.c3
  have g0 := o2.free 0; have g1 := o2.free 1; have g2 := o2.free 2; have g3 := o2.free 3
  have qa := A2.out.cell
  clear o2
  go_wp2_with fail
  refine bodyPost_ret (v := .tuple #[.agg #[.int .i64 0, .slice none 0 0, .int .i64 0, .bool false], .int .i64 60]) ?_ rfl ?_
  · rw [results_cell_tmp rfl]; go_simp
  · exact RetDk.zero4 60 _ HB2.out (by omega)

set_option maxHeartbeats 2000000 in
theorem rename_dirty (a : Option Addr) (n c : Nat) (d : Dk) (nm to : ByteArray) (w : World) (h : DkAt w a n c d) (hs : nm.size ≤ maxLen) (hs2 : to.size ≤ maxLen) (r0 : Int) (hr0 : r0 = readyD d [nm, to]) (hz : r0 = 0) (k : Nat) (hk0 : (k : Int) = atL d.files nm) (hkl : k < d.files.length) (hta : d.files[k].ta.size ≠ 0) :
    Calls Try.prog 23 #[d.val a n c, .string nm, .string to] w (RetDk w (Dk.zero, 131)) := by
  have hmf : ∀ fn first cap w, (Instr.makeFunc fn first cap).run Try.prog w = .ok (.func fn first cap) w := fun _ _ _ _ => rfl
  have HA := Lib.hid (three_below w d a n c nm to)
  have HB := Lib.hid (three_box w d a n c nm to)
  have HO := Lib.hid (three_out w d a n c nm to)
  have HNM := Lib.hid (three_nm w d a n c nm to)
  have HMO := Lib.hid (three_more w d a n c nm to)
  have HZ := Lib.hid (three_size w d a n c nm to)
  have hr := Lib.hid (ready_two a n c d nm to w _ h (three_below w d a n c nm to) hs hs2 (w.heap.size + 4) (by rw [three_size]) r0 (Lib.hid hr0))
  have hnb := h.nb
  subst hz
  have hf := Lib.hid (fun (W : World) (hb : Below w.heap.size w W) => find_any a n c d.files nm W (h.sl.keep hb) hnb (k : Int) (Lib.hid hk0))
  have hln := h.len
  have hkn : (k : Int) < (n : Int) := by omega
  have hk00 : ¬ ((k : Int) < 0) := by omega
  have hfl : Hid (∀ (W : World), Below w.heap.size w W → ∃ b off, a = some ⟨b, off, none⟩ ∧ W.cell? ⟨b, off + k * 3 + 2, none⟩ = some (.string d.files[k].ta)) := Lib.hid fun W hb => by
    obtain ⟨b, off, he, hc⟩ := (fl_at h.sl (by omega)).2
    exact ⟨b, off, he, (hc.keep hb k hkl).2.2⟩
  have hte := eqNil_no hta
  have hte2 := isEmpty_no hta
  generalize d.files[k] = o at *
  obtain ⟨o0, o1, o2⟩ := o
  dsimp only at hte hte2 hta hfl
  clear hr0 hk0 h hln hta
  unfold threeW at *
  obtain ⟨rm, l, lf, dn⟩ := d
  unfold Dk.val at *
  dsimp only at *
  go_enter Try.func23, Try.ntmps23
  go_wp2_with fail
  refine hr.out.mono ?_
  rintro e w1 ⟨rfl, hb1⟩
  have HB1 := Lib.hid (below_then HA.out hb1 HA.out.size)
  have hB1 := HB.out.keep hb1
  have o1 := Four.keep HO.out hb1
  have n1 := One.below HNM.out hb1
  have m1 := One.below HMO.out hb1
  have q0 := hB1.c0; have q1 := hB1.c1; have q2 := hB1.c2; have q3 := hB1.c3
  have qn := n1.cell
  have qm := m1.cell
  have O1 := Lib.hid o1
  have P1 := Lib.hid hB1
  have N1 := Lib.hid n1
  have M1 := Lib.hid m1
  have hz1 : w.heap.size + 3 < w1.heap.size := by have h1 := hb1.size; rw [HZ.out] at h1; omega
  clear hB1 o1 hb1 n1 m1
  go_wp2_with fail
  refine (hf.out w1 HB1.out).mono ?_
  rintro e w2 ⟨rfl, hb2⟩
  have hb2' := below_then HB1.out hb2 HB1.out.size
  have HB2 := Lib.hid (hb2'.alloc hb2'.size (.cells #[.int .i64 (k : Int)] 3))
  have O2 := Lib.hid ((Four.keep O1.out hb2).alloc (.cells #[.int .i64 (k : Int)] 3))
  have P2 := Lib.hid ((Four.keep P1.out hb2).alloc (.cells #[.int .i64 (k : Int)] 3))
  have N2 := Lib.hid ((One.below N1.out hb2).alloc (.cells #[.int .i64 (k : Int)] 3))
  have M2 := Lib.hid ((One.below M1.out hb2).alloc (.cells #[.int .i64 (k : Int)] 3))
  have A2 := Lib.hid (One.new w2 3 (.int .i64 (k : Int)))
  have hsz2 : w1.heap.size ≤ w2.heap.size := hb2.size
  clear hb2 q0 q1 q2 q3 qn qm hb2'
  have o2x := O2.out
  have p2 := P2.out
  have e0 := o2x.c0; have e1 := o2x.c1; have e2 := o2x.c2; have e3 := o2x.c3
  have g0 := o2x.free 0; have g1 := o2x.free 1; have g2 := o2x.free 2; have g3 := o2x.free 3
  have qa := A2.out.cell
  have q1 := p2.c1
  obtain ⟨b, off, rfl, hcf⟩ := hfl.out _ HB2.out
  clear o2x p2
  go_wp2_with fail
  refine bodyPost_ret (v := .tuple #[.agg #[.int .i64 0, .slice none 0 0, .int .i64 0, .bool false], .int .i64 131]) ?_ rfl ?_
  · rw [results_cell_tmp rfl]; go_simp
  · exact RetDk.zero4 131 _ HB2.out (by omega)

set_option maxHeartbeats 2000000 in
theorem rename_ok (a : Option Addr) (n c : Nat) (d : Dk) (nm to : ByteArray) (w : World) (h : DkAt w a n c d) (hs : nm.size ≤ maxLen) (hs2 : to.size ≤ maxLen) (r0 : Int) (hr0 : r0 = readyD d [nm, to]) (hz : r0 = 0) (k : Nat) (hk0 : (k : Int) = atL d.files nm) (hkl : k < d.files.length) (hnm : d.files[k].nm = nm) (hta : d.files[k].ta.size = 0) (hfo : fileOf d.files nm = d.files[k]) (hright : rightD d = true) :
    Calls Try.prog 23 #[d.val a n c, .string nm, .string to] w (RetDk w (doneD d (renamed d.files nm to) d.files)) := by
  have hmf : ∀ fn first cap w, (Instr.makeFunc fn first cap).run Try.prog w = .ok (.func fn first cap) w := fun _ _ _ _ => rfl
  have HA := Lib.hid (three_below w d a n c nm to)
  have HB := Lib.hid (three_box w d a n c nm to)
  have HO := Lib.hid (three_out w d a n c nm to)
  have HNM := Lib.hid (three_nm w d a n c nm to)
  have HMO := Lib.hid (three_more w d a n c nm to)
  have HZ := Lib.hid (three_size w d a n c nm to)
  have hr := Lib.hid (ready_two a n c d nm to w _ h (three_below w d a n c nm to) hs hs2 (w.heap.size + 4) (by rw [three_size]) r0 (Lib.hid hr0))
  have hnb := h.nb
  subst hz
  have hf := Lib.hid (fun (W : World) (hb : Below w.heap.size w W) => find_any a n c d.files nm W (h.sl.keep hb) hnb (k : Int) (Lib.hid hk0))
  have hln := h.len
  have hkn : (k : Int) < (n : Int) := by omega
  have hk00 : ¬ ((k : Int) < 0) := by omega
  have hfl : Hid (∀ (W : World), Below w.heap.size w W → ∃ b off, a = some ⟨b, off, none⟩ ∧ W.cell? ⟨b, off + k * 3 + 2, none⟩ = some (.string d.files[k].ta)) := Lib.hid fun W hb => by
    obtain ⟨b, off, he, hc⟩ := (fl_at h.sl (by omega)).2
    exact ⟨b, off, he, (hc.keep hb k hkl).2.2⟩
  have hte0 : d.files[k].ta = ⟨#[]⟩ := size0 hta
  have hn8 : d.files.length ≤ 8 := (rightD_nums hright).2.1
  have hrr : rightD (doneD d (renamed d.files nm to) d.files).1 = true := by
    have h1 := rename_right (d := d) (nm := nm) (to := to)
    unfold renameD at h1
    rw [← hr0, if_neg (by simp), if_neg (by rw [← hk0]; omega), hfo, if_neg (by simpa using hta)] at h1
    exact h1
  have hren : renamed d.files nm to = withF (without d.files nm) ⟨to, d.files[k].sy, d.files[k].ta⟩ := by unfold renamed; rw [hfo]
  have H := Lib.hid h
  obtain ⟨r, hre⟩ : ∃ r, r = doneD d (renamed d.files nm to) d.files := ⟨_, rfl⟩
  have hdone := Lib.hid (fun (W : World) (Bat Bf Bt : Nat) (hb : Below w.heap.size w W) (o1 : One W Bat 3 (.int .i64 (k : Int))) (o2 : One W Bf 9 (.string nm)) (o3 : One W Bt 9 (.string to)) => by
    have hfs : FsFn 39 #[.pointer (some ⟨Bat, 0, none⟩), .pointer (some ⟨Bf, 0, none⟩), .pointer (some ⟨Bt, 0, none⟩)] d.files (renamed d.files nm to) (fun _ => False) W := by
      rw [hren]
      exact rename_fs d.files k Bat Bf Bt nm to (fun _ => False) W hkl (rightD_fs hright).2 hn8 hnm o1 o2 o3
    have := done_any a n c d 39 38 #[.pointer (some ⟨Bat, 0, none⟩), .pointer (some ⟨Bf, 0, none⟩), .pointer (some ⟨Bt, 0, none⟩)] #[] _ d.files (fun _ => False) W (H.out.keep hb) (by omega) enters_rename enters_same hfs (same_fs _ _ _) (fun _ h => h.elim) hrr
    rw [← hre] at this
    exact this)
  rw [← hre]
  rw [hte0] at hfl
  clear hr0 hk0 h hln hta hte0 hrr hren hre hn8 hfo hnm hright
  unfold threeW at *
  obtain ⟨rm, l, lf, dn⟩ := d
  unfold Dk.val at *
  dsimp only at *
  go_enter Try.func23, Try.ntmps23
  go_wp2_with fail
  refine hr.out.mono ?_
  rintro e w1 ⟨rfl, hb1⟩
  have HB1 := Lib.hid (below_then HA.out hb1 HA.out.size)
  have hB1 := HB.out.keep hb1
  have o1 := Four.keep HO.out hb1
  have n1 := One.below HNM.out hb1
  have m1 := One.below HMO.out hb1
  have q0 := hB1.c0; have q1 := hB1.c1; have q2 := hB1.c2; have q3 := hB1.c3
  have qn := n1.cell
  have qm := m1.cell
  have O1 := Lib.hid o1
  have P1 := Lib.hid hB1
  have N1 := Lib.hid n1
  have M1 := Lib.hid m1
  have hz1 : w.heap.size + 3 < w1.heap.size := by have h1 := hb1.size; rw [HZ.out] at h1; omega
  clear hB1 o1 hb1 n1 m1
  go_wp2_with fail
  refine (hf.out w1 HB1.out).mono ?_
  rintro e w2 ⟨rfl, hb2⟩
  have hb2' := below_then HB1.out hb2 HB1.out.size
  have HB2 := Lib.hid (hb2'.alloc hb2'.size (.cells #[.int .i64 (k : Int)] 3))
  have O2 := Lib.hid ((Four.keep O1.out hb2).alloc (.cells #[.int .i64 (k : Int)] 3))
  have P2 := Lib.hid ((Four.keep P1.out hb2).alloc (.cells #[.int .i64 (k : Int)] 3))
  have N2 := Lib.hid ((One.below N1.out hb2).alloc (.cells #[.int .i64 (k : Int)] 3))
  have M2 := Lib.hid ((One.below M1.out hb2).alloc (.cells #[.int .i64 (k : Int)] 3))
  have A2 := Lib.hid (One.new w2 3 (.int .i64 (k : Int)))
  have hsz2 : w1.heap.size ≤ w2.heap.size := hb2.size
  clear hb2 q0 q1 q2 q3 qn qm hb2'
  obtain ⟨A, hA9⟩ : ∃ A, A = w2.heap.size := ⟨_, rfl⟩
  have p2 := P2.out
  have qa := A2.out.cell
  have q0 := p2.c0; have q1 := p2.c1; have q2 := p2.c2; have q3 := p2.c3
  have HSA : Hid (w.heap.size + 3 < w2.heap.size) := Lib.hid (by omega)
  have HC9 := Lib.hid (hdone.out _ w2.heap.size (w.heap.size + 1) (w.heap.size + 2) HB2.out A2.out N2.out M2.out)
  obtain ⟨b, off, rfl, hcf⟩ := hfl.out _ HB2.out
  clear p2 hdone hA9
  go_wp2_with fail
  refine HC9.out.mono ?_
  rintro e w3 ⟨a3, n3, c3, rfl, hbd, hx3⟩
  obtain ⟨⟨rm3, l3, lf3, dn3⟩, x3⟩ := r
  have o2 := hbd.1.four O2.out (fun h => h)
  have HBD := Lib.hid hbd
  have HX3 := Lib.hid hx3
  clear hbd hx3 q0 q1 q2 q3 qa hcf
  have e0 := o2.c0; have e1 := o2.c1; have e2 := o2.c2; have e3 := o2.c3
  have g0 := o2.free 0; have g1 := o2.free 1; have g2 := o2.free 2; have g3 := o2.free 3
  clear o2
  unfold Dk.val
  dsimp only
  go_wp2_with fail
  refine bodyPost_ret (v := .tuple #[.agg #[.int .i64 rm3, .slice a3 n3 c3, .int .i64 lf3, .bool dn3], .int .i64 x3]) ?_ rfl ?_
  · rw [results_cell_tmp rfl]; go_simp
  · exact ret_out (r := (⟨rm3, l3, lf3, dn3⟩, x3)) HB2.out (fun _ h => h.elim) HBD.out HX3.out (by omega) (by have := HSA.out; simp; omega) _ _ _ _

theorem rename_any (a : Option Addr) (n c : Nat) (d : Dk) (nm to : ByteArray) (w : World) (h : DkAt w a n c d) (hs : nm.size ≤ maxLen) (hs2 : to.size ≤ maxLen) :
    Calls Try.prog 23 #[d.val a n c, .string nm, .string to] w (RetDk w (renameD d nm to)) := by
  unfold renameD
  by_cases hz : readyD d [nm, to] = 0
  · rw [if_neg (by simpa using hz)]
    by_cases h1 : atL d.files nm < 0
    · rw [if_pos h1]
      exact rename_none a n c d nm to w h hs hs2 _ rfl hz _ rfl h1
    · rw [if_neg h1]
      obtain ⟨k, hk, h2, h3, h4⟩ := atL_lt h1
      rw [h4]
      by_cases h5 : d.files[k].ta.size = 0
      · rw [if_neg (by simpa using h5)]
        exact rename_ok a n c d nm to w h hs hs2 _ rfl hz k h2.symm hk h3 h5 h4 (ready_parts hz).1
      · rw [if_pos h5]
        exact rename_dirty a n c d nm to w h hs hs2 _ rfl hz k h2.symm hk h5
  · rw [if_pos hz]
    exact rename_not a n c d nm to w h hs hs2 _ rfl hz
end Go.Proofs.Ytjppommhamaibaa
