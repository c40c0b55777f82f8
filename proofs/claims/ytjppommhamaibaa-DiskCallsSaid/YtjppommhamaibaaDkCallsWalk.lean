/-
  The walk of the law DiskCalls: it says true; new blocks alone are made; the texts within reach. (Written by wip/mkcalls.py.)
-/
import Derived.Test.YtjppommhamaibaaDkCe
namespace Go.Proofs.Ytjppommhamaibaa
open Go.RowKit Go.BigFrame
set_option linter.unusedVariables false

def two4 (w : World) (d : Dk) (a : Option Addr) (n c : Nat) (what : Int) (nm more : ByteArray) (N : Int) : World := (w.alloc (.cells #[.int .i64 d.room, .slice a n c, .int .i64 d.left, .bool d.down] 24)).alloc (.cells #[.int .i64 what, .string nm, .string more, .int .i64 N] 44)
theorem two4_size (w : World) (d : Dk) (a : Option Addr) (n c : Nat) (what : Int) (nm more : ByteArray) (N : Int) : (two4 w d a n c what nm more N).heap.size = w.heap.size + 2 := by unfold two4; simp
theorem two4_below (w : World) (d : Dk) (a : Option Addr) (n c : Nat) (what : Int) (nm more : ByteArray) (N : Int) : Below w.heap.size w (two4 w d a n c what nm more N) := ((Below.refl _ w).alloc (Nat.le_refl _) _).alloc (by simp) _
theorem two4_box (w : World) (d : Dk) (a : Option Addr) (n c : Nat) (what : Int) (nm more : ByteArray) (N : Int) : DkBox (two4 w d a n c what nm more N) w.heap.size d a n c := (Four.new w 24 _ _ _ _).alloc _
theorem two4_call (w : World) (d : Dk) (a : Option Addr) (n c : Nat) (what : Int) (nm more : ByteArray) (N : Int) : Four (two4 w d a n c what nm more N) (w.heap.size + 1) 44 (.int .i64 what) (.string nm) (.string more) (.int .i64 N) := by
  have h := Four.new (w.alloc (.cells #[.int .i64 d.room, .slice a n c, .int .i64 d.left, .bool d.down] 24)) 44 (.int .i64 what) (.string nm) (.string more) (.int .i64 N)
  rw [World.size_alloc] at h
  exact h
set_option maxHeartbeats 1000000 in
theorem calls_lo (a : Option Addr) (n c : Nat) (d : Dk) (what : Int) (nm more : ByteArray) (N : Int) (w : World) (h : DkAt w a n c d) (hw : what < 1) :
    Calls Try.prog 5 #[d.val a n c, lcV what nm more N] w fun e w' => e = .returned (.bool true) ∧ Below w.heap.size w w' := by
  have HB0 := Lib.hid (two4_below w d a n c what nm more N)
  have HP0 := Lib.hid (two4_box w d a n c what nm more N)
  have HC0 := Lib.hid (two4_call w d a n c what nm more N)
  have b1 : decide (what < 1) = true := decide_eq_true hw
  clear h
  unfold two4 at *
  unfold lcV
  obtain ⟨rm, l, lf, dn⟩ := d
  unfold Dk.val at *
  dsimp only at *
  go_enter Try.func5, Try.ntmps5
  have k := HC0.out
  have k0 := k.c0
  have k1 := k.c1
  have k2 := k.c2
  have k3 := k.c3
  clear k
  go_wp2_with fail
  refine (alive_any _).mono ?_
  rintro e w1 ⟨rfl, hb1⟩
  have HB1 := Lib.hid (below_then HB0.out hb1 HB0.out.size)
  clear hb1
  go_wp2_with fail
  go_ret
  exact ⟨rfl, HB1.out⟩
set_option maxHeartbeats 1000000 in
theorem calls_hi (a : Option Addr) (n c : Nat) (d : Dk) (what : Int) (nm more : ByteArray) (N : Int) (w : World) (h : DkAt w a n c d) (hw0 : ¬ what < 1) (hw : 4 < what) :
    Calls Try.prog 5 #[d.val a n c, lcV what nm more N] w fun e w' => e = .returned (.bool true) ∧ Below w.heap.size w w' := by
  have HB0 := Lib.hid (two4_below w d a n c what nm more N)
  have HP0 := Lib.hid (two4_box w d a n c what nm more N)
  have HC0 := Lib.hid (two4_call w d a n c what nm more N)
  have b1 : decide (what < 1) = false := decide_eq_false hw0
  have b2 : decide (4 < what) = true := decide_eq_true hw
  clear h
  unfold two4 at *
  unfold lcV
  obtain ⟨rm, l, lf, dn⟩ := d
  unfold Dk.val at *
  dsimp only at *
  go_enter Try.func5, Try.ntmps5
  have k := HC0.out
  have k0 := k.c0
  have k1 := k.c1
  have k2 := k.c2
  have k3 := k.c3
  clear k
  go_wp2_with fail
  refine (alive_any _).mono ?_
  rintro e w1 ⟨rfl, hb1⟩
  have HB1 := Lib.hid (below_then HB0.out hb1 HB0.out.size)
  clear hb1
  go_wp2_with fail
  go_ret
  exact ⟨rfl, HB1.out⟩
set_option maxHeartbeats 1000000 in
theorem calls_long (a : Option Addr) (n c : Nat) (d : Dk) (what : Int) (nm more : ByteArray) (N : Int) (w : World) (h : DkAt w a n c d) (hw0 : ¬ what < 1) (hw1 : ¬ 4 < what) (hw : 2097152 < (more.size : Int)) :
    Calls Try.prog 5 #[d.val a n c, lcV what nm more N] w fun e w' => e = .returned (.bool true) ∧ Below w.heap.size w w' := by
  have HB0 := Lib.hid (two4_below w d a n c what nm more N)
  have HP0 := Lib.hid (two4_box w d a n c what nm more N)
  have HC0 := Lib.hid (two4_call w d a n c what nm more N)
  have b1 : decide (what < 1) = false := decide_eq_false hw0
  have b2 : decide (4 < what) = false := decide_eq_false hw1
  have b3 : decide (2097152 < (more.size : Int)) = true := decide_eq_true hw
  clear h
  unfold two4 at *
  unfold lcV
  obtain ⟨rm, l, lf, dn⟩ := d
  unfold Dk.val at *
  dsimp only at *
  go_enter Try.func5, Try.ntmps5
  have k := HC0.out
  have k0 := k.c0
  have k1 := k.c1
  have k2 := k.c2
  have k3 := k.c3
  clear k
  go_wp2_with fail
  refine (alive_any _).mono ?_
  rintro e w1 ⟨rfl, hb1⟩
  have HB1 := Lib.hid (below_then HB0.out hb1 HB0.out.size)
  clear hb1
  go_wp2_with fail
  go_ret
  exact ⟨rfl, HB1.out⟩
set_option maxRecDepth 100000 in
set_option maxHeartbeats 2000000 in
theorem calls_in (a : Option Addr) (n c : Nat) (d : Dk) (what : Int) (nm more : ByteArray) (N : Int) (w : World) (h : DkAt w a n c d) (hw : 1 ≤ what ∧ what ≤ 4) (hs : nm.size ≤ maxLen) (hs2 : more.size ≤ 2097152) :
    Calls Try.prog 5 #[d.val a n c, lcV what nm more N] w fun e w' => e = .returned (.bool true) ∧ Below w.heap.size w w' := by
  have HB0 := Lib.hid (two4_below w d a n c what nm more N)
  have HP0 := Lib.hid (two4_box w d a n c what nm more N)
  have HC0 := Lib.hid (two4_call w d a n c what nm more N)
  have b1 : decide (what < 1) = false := decide_eq_false (by omega)
  have b2 : decide (4 < what) = false := decide_eq_false (by omega)
  have b3 : decide (2097152 < (more.size : Int)) = false := decide_eq_false (by omega)
  have hlc := Lib.hid (fun (W : World) (hb : Below w.heap.size w W) => lawCall_any a n c d what nm more N W (h.keep hb) hw hs hs2)
  have hrc := Lib.hid (fun (W : World) (hb : Below w.heap.size w W) => refCall_any a n c d what nm more W (h.keep hb) hw hs hs2)
  have H := Lib.hid h
  generalize callD d what nm more = r at *
  clear h
  unfold lcV at *
  unfold two4 at *
  obtain ⟨rm, l, lf, dn⟩ := d
  unfold Dk.val at *
  dsimp only at *
  go_enter Try.func5, Try.ntmps5
  have k := HC0.out
  have k0 := k.c0
  have k1 := k.c1
  have k2 := k.c2
  have k3 := k.c3
  clear k
  have p := HP0.out
  have p0 := p.c0
  have p1 := p.c1
  have p2 := p.c2
  have p3 := p.c3
  clear p
  go_wp2_with fail
  refine (hlc.out _ HB0.out).mono ?_
  rintro e w1 ⟨a1, n1, c1, rfl, hd1, hb1⟩
  obtain ⟨⟨rm1, l1, lf1, dn1⟩, x1⟩ := r
  have HB1 := Lib.hid (below_then HB0.out hb1 HB0.out.size)
  have HP1 := Lib.hid (Four.keep HP0.out hb1)
  have HC1 := Lib.hid (Four.keep HC0.out hb1)
  have HD1 := Lib.hid hd1
  clear hb1 hd1 k0 k1 k2 k3 p0 p1 p2 p3
  unfold Dk.val at *
  dsimp only at *
  have HX2 := Lib.hid (Four.new w1 24 (.int .i64 rm1) (.slice a1 n1 c1) (.int .i64 lf1) (.bool dn1))
  have HB2 := Lib.hid (HB1.out.alloc HB1.out.size (.cells #[.int .i64 rm1, .slice a1 n1 c1, .int .i64 lf1, .bool dn1] 24))
  have HP2 := Lib.hid (Four.alloc HP1.out (.cells #[.int .i64 rm1, .slice a1 n1 c1, .int .i64 lf1, .bool dn1] 24))
  have HC2 := Lib.hid (Four.alloc HC1.out (.cells #[.int .i64 rm1, .slice a1 n1 c1, .int .i64 lf1, .bool dn1] 24))
  have HD2 := Lib.hid (HD1.out.keep ((Below.refl _ _).alloc (Nat.le_refl _) (.cells #[.int .i64 rm1, .slice a1 n1 c1, .int .i64 lf1, .bool dn1] 24)))
  clear HB1 HP1 HC1 HD1
  have k := HC2.out
  have k0 := k.c0
  have k1 := k.c1
  have k2 := k.c2
  have k3 := k.c3
  clear k
  have p := HP2.out
  have p0 := p.c0
  have p1 := p.c1
  have p2 := p.c2
  have p3 := p.c3
  clear p
  go_wp2_with fail
  refine (hrc.out _ HB2.out).mono ?_
  rintro e w3 ⟨a3, n3, c3, rfl, hd3, hb3⟩
  have HB3 := Lib.hid (below_then HB2.out hb3 HB2.out.size)
  have HP3 := Lib.hid (Four.keep HP2.out hb3)
  have HX3 := Lib.hid (Four.keep HX2.out hb3)
  have HD3 := Lib.hid (HD2.out.keep hb3)
  have HE3 := Lib.hid hd3
  obtain ⟨A, hA⟩ : ∃ A, A = w1.heap.size := ⟨_, rfl⟩
  have HA := Lib.hid hA
  clear hb3 hd3 hA k0 k1 k2 k3 p0 p1 p2 p3
  unfold Dk.val
  dsimp only
  go_upto_region 5 with fail
  have HB4 := Lib.hid (HB3.out.alloc HB3.out.size (.cells #[.int .i64 rm1, .slice a3 n3 c3, .int .i64 lf1, .bool dn1] 24))
  have HP4 := Lib.hid (Four.alloc HP3.out (.cells #[.int .i64 rm1, .slice a3 n3 c3, .int .i64 lf1, .bool dn1] 24))
  have HX4 := Lib.hid (Four.alloc HX3.out (.cells #[.int .i64 rm1, .slice a3 n3 c3, .int .i64 lf1, .bool dn1] 24))
  have HY4 := Lib.hid (Four.new w3 24 (.int .i64 rm1) (.slice a3 n3 c3) (.int .i64 lf1) (.bool dn1))
  have hal := (Below.refl w3.heap.size w3).alloc (Nat.le_refl _) (.cells #[.int .i64 rm1, .slice a3 n3 c3, .int .i64 lf1, .bool dn1] 24)
  have HD4 := Lib.hid (HD3.out.keep hal)
  have HE4 := Lib.hid (HE3.out.keep hal)
  clear hal HB3 HP3 HX3 HD3 HE3
  obtain ⟨B, hB⟩ : ∃ B, B = w3.heap.size := ⟨_, rfl⟩
  rw [← HA.out] at HX4 ⊢
  rw [← hB] at HY4 ⊢
  generalize w3.alloc (.cells #[.int .i64 rm1, .slice a3 n3 c3, .int .i64 lf1, .bool dn1] 24) = W4 at *
  clear hB HA
  have p0 := Bel.cell HP4.out.c0; have p1 := Bel.cell HP4.out.c1; have p2 := Bel.cell HP4.out.c2; have p3 := Bel.cell HP4.out.c3
  have x0 := Bel.cell HX4.out.c0; have x1' := Bel.cell HX4.out.c1; have x2 := Bel.cell HX4.out.c2; have x3 := Bel.cell HX4.out.c3
  have y0 := Bel.cell HY4.out.c0; have y1 := Bel.cell HY4.out.c1; have y2 := Bel.cell HY4.out.c2; have y3 := Bel.cell HY4.out.c3
  obtain ⟨rt, hrt⟩ : ∃ rt, rt = rightD ⟨rm, l, lf, dn⟩ := ⟨_, rfl⟩
  have hal := Lib.hid (fun (p : Bel W4) => alive_any p.val)
  have h1 := Lib.hid (fun (p : Bel W4) => right_any a n c ⟨rm, l, lf, dn⟩ p.val (H.out.keep (below_then HB4.out p.bel HB4.out.size)) rt (Lib.hid hrt))
  have h2 := Lib.hid (fun (p : Bel W4) => refRight_any a n c ⟨rm, l, lf, dn⟩ p.val (H.out.keep (below_then HB4.out p.bel HB4.out.size)) rt (Lib.hid hrt))
  have h3 := Lib.hid (fun (p : Bel W4) => refLike_same a1 n1 c1 a3 n3 c3 ⟨rm1, l1, lf1, dn1⟩ p.val (HD4.out.keep p.bel) (HE4.out.keep p.bel))
  unfold Dk.val at h1 h2 h3
  dsimp only at h1 h2 h3
  clear hrt
  refine wp_region_bel (by kernel_rfl) (by kernel_rfl) ?_
  repeat (go_big_quiet_step (first | exact bel_of (hal.out _) | exact bel_of (h1.out _) | exact bel_of (h2.out _) | exact bel_of (h3.out _)))
  refine wpQuiet_nil ?_
  intro W5 hw'
  obtain ⟨⟨W8, hW5⟩, he⟩ := hw'
  change W5 = W8 at he
  subst he
  have HB5 := Lib.hid (below_then HB4.out hW5 HB4.out.size)
  clear hW5 p0 p1 p2 p3 x0 x1' x2 x3 y0 y1 y2 y3
  go_wp2_with fail
  go_ret
  exact ⟨rfl, HB5.out⟩
theorem calls_any (a : Option Addr) (n c : Nat) (d : Dk) (what : Int) (nm more : ByteArray) (N : Int) (w : World) (h : DkAt w a n c d) (hs : nm.size ≤ maxLen) :
    Calls Try.prog 5 #[d.val a n c, lcV what nm more N] w fun e w' => e = .returned (.bool true) ∧ Below w.heap.size w w' := by
  by_cases h1 : what < 1
  · exact calls_lo a n c d what nm more N w h h1
  · by_cases h2 : 4 < what
    · exact calls_hi a n c d what nm more N w h h1 h2
    · by_cases h3 : 2097152 < (more.size : Int)
      · exact calls_long a n c d what nm more N w h h1 h2 h3
      · exact calls_in a n c d what nm more N w h (by omega) hs (by omega)
end Go.Proofs.Ytjppommhamaibaa
