/-
  The walk of the law DiskRenames: it says true; new blocks alone are made; the texts within reach. (Written by wip/mkrens.py.)
-/
import Derived.Test.YtjppommhamaibaaDkReadsWalk
import Derived.Test.YtjppommhamaibaaDkRn
import Derived.Test.YtjppommhamaibaaDkK
import Derived.Test.YtjppommhamaibaaDkS
namespace Go.Proofs.Ytjppommhamaibaa
open Go.RowKit Go.BigFrame
set_option linter.unusedVariables false

set_option maxRecDepth 100000 in
set_option maxHeartbeats 1000000 in
theorem rens_no0 (a : Option Addr) (n c : Nat) (d : Dk) (nm dst more : ByteArray) (cut : Bool) (ak : Option Addr) (nk ck : Nat) (keep : List Int) (w : World) (h : DkAt w a n c d) (hs1 : nm.size ≤ maxLen) (hs2 : dst.size ≤ maxLen) (hs3 : more.size ≤ maxLen) (hk : SlAt w ak nk (i64s keep)) (hkn : nk ≤ 100000000000000) (hr : rightD d = false) :
    Calls Try.prog 6 #[d.val a n c, .string nm, .string dst, .string more, .bool cut, .slice ak nk ck] w fun e w' => e = .returned (.bool true) ∧ Below w.heap.size w w' := by
  have HB0 := Lib.hid ((Below.refl _ w).alloc (Nat.le_refl _) (.cells #[.int .i64 d.room, .slice a n c, .int .i64 d.left, .bool d.down] 24))
  have HP0 := Lib.hid (DkBox.new w d a n c)
  have hrt := Lib.hid (fun (W : World) (hb : Below w.heap.size w W) => right_any a n c d W (h.keep hb) false (Lib.hid hr.symm))
  have HK := Lib.hid hk
  clear h hk hr
  obtain ⟨rm, l, lf, dn⟩ := d
  unfold Dk.val at *
  dsimp only at *
  go_enter Try.func6, Try.ntmps6
  have k := HP0.out
  have k0 := k.c0
  have k1 := k.c1
  have k2 := k.c2
  have k3 := k.c3
  clear k
  go_wp2_with fail
  refine (alive_any _).mono ?_
  rintro e w1 ⟨rfl, hb1⟩
  have HB1 := Lib.hid (below_then HB0.out hb1 HB0.out.size)
  have HP1 := Lib.hid (Four.keep HP0.out hb1)
  clear hb1 k0 k1 k2 k3
  have k := HP1.out
  have k0 := k.c0
  have k1 := k.c1
  have k2 := k.c2
  have k3 := k.c3
  clear k
  go_wp2_with fail
  refine (hrt.out _ HB1.out).mono ?_
  rintro e w2 ⟨rfl, hb2⟩
  have HB2 := Lib.hid (below_then HB1.out hb2 HB1.out.size)
  have HP2 := Lib.hid (Four.keep HP1.out hb2)
  clear hb2 k0 k1 k2 k3
  have k := HP2.out
  have k0 := k.c0
  have k1 := k.c1
  have k2 := k.c2
  have k3 := k.c3
  clear k
  go_wp2_with fail
  refine (alive_any _).mono ?_
  rintro e w4 ⟨rfl, hb4⟩
  have HB4 := Lib.hid (below_then HB2.out hb4 HB2.out.size)
  clear hb4
  go_wp2_with fail
  go_ret
  exact ⟨rfl, HB4.out⟩
set_option maxRecDepth 100000 in
set_option maxHeartbeats 1000000 in
theorem rens_no1 (a : Option Addr) (n c : Nat) (d : Dk) (nm dst more : ByteArray) (cut : Bool) (ak : Option Addr) (nk ck : Nat) (keep : List Int) (w : World) (h : DkAt w a n c d) (hs1 : nm.size ≤ maxLen) (hs2 : dst.size ≤ maxLen) (hs3 : more.size ≤ maxLen) (hk : SlAt w ak nk (i64s keep)) (hkn : nk ≤ 100000000000000) (hr : rightD d = true) (hd : d.down = true) :
    Calls Try.prog 6 #[d.val a n c, .string nm, .string dst, .string more, .bool cut, .slice ak nk ck] w fun e w' => e = .returned (.bool true) ∧ Below w.heap.size w w' := by
  have HB0 := Lib.hid ((Below.refl _ w).alloc (Nat.le_refl _) (.cells #[.int .i64 d.room, .slice a n c, .int .i64 d.left, .bool d.down] 24))
  have HP0 := Lib.hid (DkBox.new w d a n c)
  have hrt := Lib.hid (fun (W : World) (hb : Below w.heap.size w W) => right_any a n c d W (h.keep hb) true (Lib.hid hr.symm))
  have HK := Lib.hid hk
  clear h hk hr
  obtain ⟨rm, l, lf, dn⟩ := d
  unfold Dk.val at *
  dsimp only at *
  subst hd
  go_enter Try.func6, Try.ntmps6
  have k := HP0.out
  have k0 := k.c0
  have k1 := k.c1
  have k2 := k.c2
  have k3 := k.c3
  clear k
  go_wp2_with fail
  refine (alive_any _).mono ?_
  rintro e w1 ⟨rfl, hb1⟩
  have HB1 := Lib.hid (below_then HB0.out hb1 HB0.out.size)
  have HP1 := Lib.hid (Four.keep HP0.out hb1)
  clear hb1 k0 k1 k2 k3
  have k := HP1.out
  have k0 := k.c0
  have k1 := k.c1
  have k2 := k.c2
  have k3 := k.c3
  clear k
  go_wp2_with fail
  refine (hrt.out _ HB1.out).mono ?_
  rintro e w2 ⟨rfl, hb2⟩
  have HB2 := Lib.hid (below_then HB1.out hb2 HB1.out.size)
  have HP2 := Lib.hid (Four.keep HP1.out hb2)
  clear hb2 k0 k1 k2 k3
  have k := HP2.out
  have k0 := k.c0
  have k1 := k.c1
  have k2 := k.c2
  have k3 := k.c3
  clear k
  go_wp2_with fail
  refine (alive_any _).mono ?_
  rintro e w4 ⟨rfl, hb4⟩
  have HB4 := Lib.hid (below_then HB2.out hb4 HB2.out.size)
  clear hb4
  go_wp2_with fail
  go_ret
  exact ⟨rfl, HB4.out⟩
set_option maxRecDepth 100000 in
set_option maxHeartbeats 1000000 in
theorem rens_no2 (a : Option Addr) (n c : Nat) (d : Dk) (nm dst more : ByteArray) (cut : Bool) (ak : Option Addr) (nk ck : Nat) (keep : List Int) (w : World) (h : DkAt w a n c d) (hs1 : nm.size ≤ maxLen) (hs2 : dst.size ≤ maxLen) (hs3 : more.size ≤ maxLen) (hk : SlAt w ak nk (i64s keep)) (hkn : nk ≤ 100000000000000) (hr : rightD d = true) (hd : d.down = false) (hl : 0 ≤ d.left) :
    Calls Try.prog 6 #[d.val a n c, .string nm, .string dst, .string more, .bool cut, .slice ak nk ck] w fun e w' => e = .returned (.bool true) ∧ Below w.heap.size w w' := by
  have HB0 := Lib.hid ((Below.refl _ w).alloc (Nat.le_refl _) (.cells #[.int .i64 d.room, .slice a n c, .int .i64 d.left, .bool d.down] 24))
  have HP0 := Lib.hid (DkBox.new w d a n c)
  have hrt := Lib.hid (fun (W : World) (hb : Below w.heap.size w W) => right_any a n c d W (h.keep hb) true (Lib.hid hr.symm))
  have HK := Lib.hid hk
  clear h hk hr
  obtain ⟨rm, l, lf, dn⟩ := d
  unfold Dk.val at *
  dsimp only at *
  subst hd
  go_enter Try.func6, Try.ntmps6
  have k := HP0.out
  have k0 := k.c0
  have k1 := k.c1
  have k2 := k.c2
  have k3 := k.c3
  clear k
  go_wp2_with fail
  refine (alive_any _).mono ?_
  rintro e w1 ⟨rfl, hb1⟩
  have HB1 := Lib.hid (below_then HB0.out hb1 HB0.out.size)
  have HP1 := Lib.hid (Four.keep HP0.out hb1)
  clear hb1 k0 k1 k2 k3
  have k := HP1.out
  have k0 := k.c0
  have k1 := k.c1
  have k2 := k.c2
  have k3 := k.c3
  clear k
  go_wp2_with fail
  refine (hrt.out _ HB1.out).mono ?_
  rintro e w2 ⟨rfl, hb2⟩
  have HB2 := Lib.hid (below_then HB1.out hb2 HB1.out.size)
  have HP2 := Lib.hid (Four.keep HP1.out hb2)
  clear hb2 k0 k1 k2 k3
  have k := HP2.out
  have k0 := k.c0
  have k1 := k.c1
  have k2 := k.c2
  have k3 := k.c3
  clear k
  go_wp2_with fail
  refine (alive_any _).mono ?_
  rintro e w4 ⟨rfl, hb4⟩
  have HB4 := Lib.hid (below_then HB2.out hb4 HB2.out.size)
  clear hb4
  go_wp2_with fail
  go_ret
  exact ⟨rfl, HB4.out⟩
set_option maxRecDepth 100000 in
set_option maxHeartbeats 1000000 in
theorem rens_no3 (a : Option Addr) (n c : Nat) (d : Dk) (nm dst more : ByteArray) (cut : Bool) (ak : Option Addr) (nk ck : Nat) (keep : List Int) (w : World) (h : DkAt w a n c d) (hs1 : nm.size ≤ maxLen) (hs2 : dst.size ≤ maxLen) (hs3 : more.size ≤ maxLen) (hk : SlAt w ak nk (i64s keep)) (hkn : nk ≤ 100000000000000) (hr : rightD d = true) (hd : d.down = false) (hl : d.left < 0) (he : nm = dst) :
    Calls Try.prog 6 #[d.val a n c, .string nm, .string dst, .string more, .bool cut, .slice ak nk ck] w fun e w' => e = .returned (.bool true) ∧ Below w.heap.size w w' := by
  have HB0 := Lib.hid ((Below.refl _ w).alloc (Nat.le_refl _) (.cells #[.int .i64 d.room, .slice a n c, .int .i64 d.left, .bool d.down] 24))
  have HP0 := Lib.hid (DkBox.new w d a n c)
  have hrt := Lib.hid (fun (W : World) (hb : Below w.heap.size w W) => right_any a n c d W (h.keep hb) true (Lib.hid hr.symm))
  have hseq : (nm.toList == dst.toList) = true := by rw [he]; simp
  have HK := Lib.hid hk
  clear h hk hr he
  obtain ⟨rm, l, lf, dn⟩ := d
  unfold Dk.val at *
  dsimp only at *
  subst hd
  go_enter Try.func6, Try.ntmps6
  have k := HP0.out
  have k0 := k.c0
  have k1 := k.c1
  have k2 := k.c2
  have k3 := k.c3
  clear k
  go_wp2_with fail
  refine (alive_any _).mono ?_
  rintro e w1 ⟨rfl, hb1⟩
  have HB1 := Lib.hid (below_then HB0.out hb1 HB0.out.size)
  have HP1 := Lib.hid (Four.keep HP0.out hb1)
  clear hb1 k0 k1 k2 k3
  have k := HP1.out
  have k0 := k.c0
  have k1 := k.c1
  have k2 := k.c2
  have k3 := k.c3
  clear k
  go_wp2_with fail
  refine (hrt.out _ HB1.out).mono ?_
  rintro e w2 ⟨rfl, hb2⟩
  have HB2 := Lib.hid (below_then HB1.out hb2 HB1.out.size)
  have HP2 := Lib.hid (Four.keep HP1.out hb2)
  clear hb2 k0 k1 k2 k3
  have k := HP2.out
  have k0 := k.c0
  have k1 := k.c1
  have k2 := k.c2
  have k3 := k.c3
  clear k
  go_wp2_with fail
  refine (alive_any _).mono ?_
  rintro e w4 ⟨rfl, hb4⟩
  have HB4 := Lib.hid (below_then HB2.out hb4 HB2.out.size)
  clear hb4
  go_wp2_with fail
  go_ret
  exact ⟨rfl, HB4.out⟩
set_option maxRecDepth 100000 in
set_option maxHeartbeats 1000000 in
theorem rens_no4 (a : Option Addr) (n c : Nat) (d : Dk) (nm dst more : ByteArray) (cut : Bool) (ak : Option Addr) (nk ck : Nat) (keep : List Int) (w : World) (h : DkAt w a n c d) (hs1 : nm.size ≤ maxLen) (hs2 : dst.size ≤ maxLen) (hs3 : more.size ≤ maxLen) (hk : SlAt w ak nk (i64s keep)) (hkn : nk ≤ 100000000000000) (hr : rightD d = true) (hd : d.down = false) (hl : d.left < 0) (he : nm ≠ dst) (hat : 0 ≤ atL d.files nm) :
    Calls Try.prog 6 #[d.val a n c, .string nm, .string dst, .string more, .bool cut, .slice ak nk ck] w fun e w' => e = .returned (.bool true) ∧ Below w.heap.size w w' := by
  have HB0 := Lib.hid ((Below.refl _ w).alloc (Nat.le_refl _) (.cells #[.int .i64 d.room, .slice a n c, .int .i64 d.left, .bool d.down] 24))
  have HP0 := Lib.hid (DkBox.new w d a n c)
  have hrt := Lib.hid (fun (W : World) (hb : Below w.heap.size w W) => right_any a n c d W (h.keep hb) true (Lib.hid hr.symm))
  obtain ⟨pl, hpl⟩ : ∃ pl, pl = atL d.files nm := ⟨_, rfl⟩
  have hata := Lib.hid (fun (W : World) (hb : Below w.heap.size w W) => refAt_any a n c d nm W (h.keep hb) pl (Lib.hid hpl))
  rw [← hpl] at hat
  have hseq : (nm.toList == dst.toList) = false := by rw [beq_eq_false_iff_ne]; intro e; exact he (ba_ext (by rw [ByteArray.toList_eq, ByteArray.toList_eq] at e; exact e))
  have HK := Lib.hid hk
  clear h hk hr hpl he
  obtain ⟨rm, l, lf, dn⟩ := d
  unfold Dk.val at *
  dsimp only at *
  subst hd
  go_enter Try.func6, Try.ntmps6
  have k := HP0.out
  have k0 := k.c0
  have k1 := k.c1
  have k2 := k.c2
  have k3 := k.c3
  clear k
  go_wp2_with fail
  refine (alive_any _).mono ?_
  rintro e w1 ⟨rfl, hb1⟩
  have HB1 := Lib.hid (below_then HB0.out hb1 HB0.out.size)
  have HP1 := Lib.hid (Four.keep HP0.out hb1)
  clear hb1 k0 k1 k2 k3
  have k := HP1.out
  have k0 := k.c0
  have k1 := k.c1
  have k2 := k.c2
  have k3 := k.c3
  clear k
  go_wp2_with fail
  refine (hrt.out _ HB1.out).mono ?_
  rintro e w2 ⟨rfl, hb2⟩
  have HB2 := Lib.hid (below_then HB1.out hb2 HB1.out.size)
  have HP2 := Lib.hid (Four.keep HP1.out hb2)
  clear hb2 k0 k1 k2 k3
  have k := HP2.out
  have k0 := k.c0
  have k1 := k.c1
  have k2 := k.c2
  have k3 := k.c3
  clear k
  go_wp2_with fail
  refine (hata.out _ HB2.out).mono ?_
  rintro e w3 ⟨rfl, hb3⟩
  have HB3 := Lib.hid (below_then HB2.out hb3 HB2.out.size)
  have HP3 := Lib.hid (Four.keep HP2.out hb3)
  clear hb3 k0 k1 k2 k3
  have k := HP3.out
  have k0 := k.c0
  have k1 := k.c1
  have k2 := k.c2
  have k3 := k.c3
  clear k
  go_wp2_with fail
  refine (alive_any _).mono ?_
  rintro e w4 ⟨rfl, hb4⟩
  have HB4 := Lib.hid (below_then HB3.out hb4 HB3.out.size)
  clear hb4
  go_wp2_with fail
  go_ret
  exact ⟨rfl, HB4.out⟩
set_option maxRecDepth 100000 in
set_option maxHeartbeats 1000000 in
theorem rens_refused1 (a : Option Addr) (n c : Nat) (d : Dk) (nm dst more : ByteArray) (cut : Bool) (ak : Option Addr) (nk ck : Nat) (keep : List Int) (w : World) (h : DkAt w a n c d) (hs1 : nm.size ≤ maxLen) (hs2 : dst.size ≤ maxLen) (hs3 : more.size ≤ maxLen) (hk : SlAt w ak nk (i64s keep)) (hkn : nk ≤ 100000000000000) (hr : rightD d = true) (hd : d.down = false) (hl : d.left < 0) (he : nm ≠ dst) (hat : atL d.files nm < 0) (rm1 lf1 : Int) (l1 : List Fl) (dn1 : Bool) (hr1 : writeD d nm more = (⟨rm1, l1, lf1, dn1⟩, 1)) :
    Calls Try.prog 6 #[d.val a n c, .string nm, .string dst, .string more, .bool cut, .slice ak nk ck] w fun e w' => e = .returned (.bool true) ∧ Below w.heap.size w w' := by
  have HB0 := Lib.hid ((Below.refl _ w).alloc (Nat.le_refl _) (.cells #[.int .i64 d.room, .slice a n c, .int .i64 d.left, .bool d.down] 24))
  have HP0 := Lib.hid (DkBox.new w d a n c)
  have hrt := Lib.hid (fun (W : World) (hb : Below w.heap.size w W) => right_any a n c d W (h.keep hb) true (Lib.hid hr.symm))
  obtain ⟨pl, hpl⟩ : ∃ pl, pl = atL d.files nm := ⟨_, rfl⟩
  have hata := Lib.hid (fun (W : World) (hb : Below w.heap.size w W) => refAt_any a n c d nm W (h.keep hb) pl (Lib.hid hpl))
  rw [← hpl] at hat
  have hseq : (nm.toList == dst.toList) = false := by rw [beq_eq_false_iff_ne]; intro e; exact he (ba_ext (by rw [ByteArray.toList_eq, ByteArray.toList_eq] at e; exact e))
  have HW := Lib.hid (fun (W : World) (hb : Below w.heap.size w W) => write_any a n c d nm more W (h.keep hb) hs1 (by unfold maxLen at *; omega))
  rw [hr1] at HW
  have HK := Lib.hid hk
  clear h hk hr hpl he
  obtain ⟨rm, l, lf, dn⟩ := d
  unfold Dk.val at *
  dsimp only at *
  subst hd
  go_enter Try.func6, Try.ntmps6
  have k := HP0.out
  have k0 := k.c0
  have k1 := k.c1
  have k2 := k.c2
  have k3 := k.c3
  clear k
  go_wp2_with fail
  refine (alive_any _).mono ?_
  rintro e w1 ⟨rfl, hb1⟩
  have HB1 := Lib.hid (below_then HB0.out hb1 HB0.out.size)
  have HP1 := Lib.hid (Four.keep HP0.out hb1)
  clear hb1 k0 k1 k2 k3
  have k := HP1.out
  have k0 := k.c0
  have k1 := k.c1
  have k2 := k.c2
  have k3 := k.c3
  clear k
  go_wp2_with fail
  refine (hrt.out _ HB1.out).mono ?_
  rintro e w2 ⟨rfl, hb2⟩
  have HB2 := Lib.hid (below_then HB1.out hb2 HB1.out.size)
  have HP2 := Lib.hid (Four.keep HP1.out hb2)
  clear hb2 k0 k1 k2 k3
  have k := HP2.out
  have k0 := k.c0
  have k1 := k.c1
  have k2 := k.c2
  have k3 := k.c3
  clear k
  go_wp2_with fail
  refine (hata.out _ HB2.out).mono ?_
  rintro e w3 ⟨rfl, hb3⟩
  have HB3 := Lib.hid (below_then HB2.out hb3 HB2.out.size)
  have HP3 := Lib.hid (Four.keep HP2.out hb3)
  clear hb3 k0 k1 k2 k3
  have k := HP3.out
  have k0 := k.c0
  have k1 := k.c1
  have k2 := k.c2
  have k3 := k.c3
  clear k
  go_wp2_with fail
  refine (HW.out _ HB3.out).mono ?_
  rintro e v1 ⟨a1, n1, c1, rfl, hd1, hb1⟩
  have hB1 := below_then HB3.out hb1 HB3.out.size
  have HB4 := Lib.hid (hB1.alloc hB1.size (.cells #[.int .i64 rm1, .slice a1 n1 c1, .int .i64 lf1, .bool dn1] 24))
  have HX1 := Lib.hid (Four.new v1 24 (.int .i64 rm1) (.slice a1 n1 c1) (.int .i64 lf1) (.bool dn1))
  have HD1 := Lib.hid (hd1.keep ((Below.refl _ _).alloc (Nat.le_refl _) (.cells #[.int .i64 rm1, .slice a1 n1 c1, .int .i64 lf1, .bool dn1] 24)))
  clear hd1 hb1 hB1 k0 k1 k2 k3
  unfold Dk.val
  dsimp only
  have k := HX1.out
  have k0 := k.c0
  have k1 := k.c1
  have k2 := k.c2
  have k3 := k.c3
  clear k
  go_wp2_with fail
  go_ret
  exact ⟨rfl, HB4.out⟩
set_option maxRecDepth 100000 in
set_option maxHeartbeats 1000000 in
theorem rens_refused130 (a : Option Addr) (n c : Nat) (d : Dk) (nm dst more : ByteArray) (cut : Bool) (ak : Option Addr) (nk ck : Nat) (keep : List Int) (w : World) (h : DkAt w a n c d) (hs1 : nm.size ≤ maxLen) (hs2 : dst.size ≤ maxLen) (hs3 : more.size ≤ maxLen) (hk : SlAt w ak nk (i64s keep)) (hkn : nk ≤ 100000000000000) (hr : rightD d = true) (hd : d.down = false) (hl : d.left < 0) (he : nm ≠ dst) (hat : atL d.files nm < 0) (rm1 lf1 : Int) (l1 : List Fl) (dn1 : Bool) (hr1 : writeD d nm more = (⟨rm1, l1, lf1, dn1⟩, 130)) :
    Calls Try.prog 6 #[d.val a n c, .string nm, .string dst, .string more, .bool cut, .slice ak nk ck] w fun e w' => e = .returned (.bool true) ∧ Below w.heap.size w w' := by
  have HB0 := Lib.hid ((Below.refl _ w).alloc (Nat.le_refl _) (.cells #[.int .i64 d.room, .slice a n c, .int .i64 d.left, .bool d.down] 24))
  have HP0 := Lib.hid (DkBox.new w d a n c)
  have hrt := Lib.hid (fun (W : World) (hb : Below w.heap.size w W) => right_any a n c d W (h.keep hb) true (Lib.hid hr.symm))
  obtain ⟨pl, hpl⟩ : ∃ pl, pl = atL d.files nm := ⟨_, rfl⟩
  have hata := Lib.hid (fun (W : World) (hb : Below w.heap.size w W) => refAt_any a n c d nm W (h.keep hb) pl (Lib.hid hpl))
  rw [← hpl] at hat
  have hseq : (nm.toList == dst.toList) = false := by rw [beq_eq_false_iff_ne]; intro e; exact he (ba_ext (by rw [ByteArray.toList_eq, ByteArray.toList_eq] at e; exact e))
  have HW := Lib.hid (fun (W : World) (hb : Below w.heap.size w W) => write_any a n c d nm more W (h.keep hb) hs1 (by unfold maxLen at *; omega))
  rw [hr1] at HW
  have HK := Lib.hid hk
  clear h hk hr hpl he
  obtain ⟨rm, l, lf, dn⟩ := d
  unfold Dk.val at *
  dsimp only at *
  subst hd
  go_enter Try.func6, Try.ntmps6
  have k := HP0.out
  have k0 := k.c0
  have k1 := k.c1
  have k2 := k.c2
  have k3 := k.c3
  clear k
  go_wp2_with fail
  refine (alive_any _).mono ?_
  rintro e w1 ⟨rfl, hb1⟩
  have HB1 := Lib.hid (below_then HB0.out hb1 HB0.out.size)
  have HP1 := Lib.hid (Four.keep HP0.out hb1)
  clear hb1 k0 k1 k2 k3
  have k := HP1.out
  have k0 := k.c0
  have k1 := k.c1
  have k2 := k.c2
  have k3 := k.c3
  clear k
  go_wp2_with fail
  refine (hrt.out _ HB1.out).mono ?_
  rintro e w2 ⟨rfl, hb2⟩
  have HB2 := Lib.hid (below_then HB1.out hb2 HB1.out.size)
  have HP2 := Lib.hid (Four.keep HP1.out hb2)
  clear hb2 k0 k1 k2 k3
  have k := HP2.out
  have k0 := k.c0
  have k1 := k.c1
  have k2 := k.c2
  have k3 := k.c3
  clear k
  go_wp2_with fail
  refine (hata.out _ HB2.out).mono ?_
  rintro e w3 ⟨rfl, hb3⟩
  have HB3 := Lib.hid (below_then HB2.out hb3 HB2.out.size)
  have HP3 := Lib.hid (Four.keep HP2.out hb3)
  clear hb3 k0 k1 k2 k3
  have k := HP3.out
  have k0 := k.c0
  have k1 := k.c1
  have k2 := k.c2
  have k3 := k.c3
  clear k
  go_wp2_with fail
  refine (HW.out _ HB3.out).mono ?_
  rintro e v1 ⟨a1, n1, c1, rfl, hd1, hb1⟩
  have hB1 := below_then HB3.out hb1 HB3.out.size
  have HB4 := Lib.hid (hB1.alloc hB1.size (.cells #[.int .i64 rm1, .slice a1 n1 c1, .int .i64 lf1, .bool dn1] 24))
  have HX1 := Lib.hid (Four.new v1 24 (.int .i64 rm1) (.slice a1 n1 c1) (.int .i64 lf1) (.bool dn1))
  have HD1 := Lib.hid (hd1.keep ((Below.refl _ _).alloc (Nat.le_refl _) (.cells #[.int .i64 rm1, .slice a1 n1 c1, .int .i64 lf1, .bool dn1] 24)))
  clear hd1 hb1 hB1 k0 k1 k2 k3
  unfold Dk.val
  dsimp only
  have k := HX1.out
  have k0 := k.c0
  have k1 := k.c1
  have k2 := k.c2
  have k3 := k.c3
  clear k
  go_wp2_with fail
  go_ret
  exact ⟨rfl, HB4.out⟩
set_option maxRecDepth 100000 in
set_option maxHeartbeats 1000000 in
theorem rens_cut_bad (a : Option Addr) (n c : Nat) (d : Dk) (nm dst more : ByteArray) (cut : Bool) (ak : Option Addr) (nk ck : Nat) (keep : List Int) (w : World) (h : DkAt w a n c d) (hs1 : nm.size ≤ maxLen) (hs2 : dst.size ≤ maxLen) (hs3 : more.size ≤ maxLen) (hk : SlAt w ak nk (i64s keep)) (hkn : nk ≤ 100000000000000) (hr : rightD d = true) (hd : d.down = false) (hl : d.left < 0) (he : nm ≠ dst) (hat : atL d.files nm < 0) (rm1 lf1 : Int) (l1 : List Fl) (dn1 : Bool) (hr1 : writeD d nm more = (⟨rm1, l1, lf1, dn1⟩, 0)) (rm2 lf2 : Int) (l2 : List Fl) (dn2 : Bool) (hr2 : syncD ⟨rm1, l1, lf1, dn1⟩ nm = (⟨rm2, l2, lf2, dn2⟩, 0)) (rm3 lf3 : Int) (l3 : List Fl) (dn3 : Bool) (hr3 : cutD ⟨rm2, l2, lf2, dn2⟩ 0 = (⟨rm3, l3, lf3, dn3⟩, 0)) (rm4 lf4 : Int) (l4 : List Fl) (dn4 : Bool) (hr4 : renameD ⟨rm3, l3, lf3, dn3⟩ nm dst = (⟨rm4, l4, lf4, dn4⟩, 1)) (hc : cut = true) :
    Calls Try.prog 6 #[d.val a n c, .string nm, .string dst, .string more, .bool cut, .slice ak nk ck] w fun e w' => e = .returned (.bool true) ∧ Below w.heap.size w w' := by
  subst hc
  have HB0 := Lib.hid ((Below.refl _ w).alloc (Nat.le_refl _) (.cells #[.int .i64 d.room, .slice a n c, .int .i64 d.left, .bool d.down] 24))
  have HP0 := Lib.hid (DkBox.new w d a n c)
  have hrt := Lib.hid (fun (W : World) (hb : Below w.heap.size w W) => right_any a n c d W (h.keep hb) true (Lib.hid hr.symm))
  obtain ⟨pl, hpl⟩ : ∃ pl, pl = atL d.files nm := ⟨_, rfl⟩
  have hata := Lib.hid (fun (W : World) (hb : Below w.heap.size w W) => refAt_any a n c d nm W (h.keep hb) pl (Lib.hid hpl))
  rw [← hpl] at hat
  have hseq : (nm.toList == dst.toList) = false := by rw [beq_eq_false_iff_ne]; intro e; exact he (ba_ext (by rw [ByteArray.toList_eq, ByteArray.toList_eq] at e; exact e))
  have HW := Lib.hid (fun (W : World) (hb : Below w.heap.size w W) => write_any a n c d nm more W (h.keep hb) hs1 (by unfold maxLen at *; omega))
  rw [hr1] at HW
  have HK := Lib.hid hk
  clear h hk hr hpl he
  obtain ⟨rm, l, lf, dn⟩ := d
  unfold Dk.val at *
  dsimp only at *
  subst hd
  go_enter Try.func6, Try.ntmps6
  have k := HP0.out
  have k0 := k.c0
  have k1 := k.c1
  have k2 := k.c2
  have k3 := k.c3
  clear k
  go_wp2_with fail
  refine (alive_any _).mono ?_
  rintro e w1 ⟨rfl, hb1⟩
  have HB1 := Lib.hid (below_then HB0.out hb1 HB0.out.size)
  have HP1 := Lib.hid (Four.keep HP0.out hb1)
  clear hb1 k0 k1 k2 k3
  have k := HP1.out
  have k0 := k.c0
  have k1 := k.c1
  have k2 := k.c2
  have k3 := k.c3
  clear k
  go_wp2_with fail
  refine (hrt.out _ HB1.out).mono ?_
  rintro e w2 ⟨rfl, hb2⟩
  have HB2 := Lib.hid (below_then HB1.out hb2 HB1.out.size)
  have HP2 := Lib.hid (Four.keep HP1.out hb2)
  clear hb2 k0 k1 k2 k3
  have k := HP2.out
  have k0 := k.c0
  have k1 := k.c1
  have k2 := k.c2
  have k3 := k.c3
  clear k
  go_wp2_with fail
  refine (hata.out _ HB2.out).mono ?_
  rintro e w3 ⟨rfl, hb3⟩
  have HB3 := Lib.hid (below_then HB2.out hb3 HB2.out.size)
  have HP3 := Lib.hid (Four.keep HP2.out hb3)
  clear hb3 k0 k1 k2 k3
  have k := HP3.out
  have k0 := k.c0
  have k1 := k.c1
  have k2 := k.c2
  have k3 := k.c3
  clear k
  go_wp2_with fail
  refine (HW.out _ HB3.out).mono ?_
  rintro e v1 ⟨a1, n1, c1, rfl, hd1, hb1⟩
  have hB1 := below_then HB3.out hb1 HB3.out.size
  have HB4 := Lib.hid (hB1.alloc hB1.size (.cells #[.int .i64 rm1, .slice a1 n1 c1, .int .i64 lf1, .bool dn1] 24))
  have HX1 := Lib.hid (Four.new v1 24 (.int .i64 rm1) (.slice a1 n1 c1) (.int .i64 lf1) (.bool dn1))
  have HD1 := Lib.hid (hd1.keep ((Below.refl _ _).alloc (Nat.le_refl _) (.cells #[.int .i64 rm1, .slice a1 n1 c1, .int .i64 lf1, .bool dn1] 24)))
  clear hd1 hb1 hB1 k0 k1 k2 k3
  unfold Dk.val
  dsimp only
  have k := HX1.out
  have k0 := k.c0
  have k1 := k.c1
  have k2 := k.c2
  have k3 := k.c3
  clear k
  go_wp2_with fail
  have HS2 := sync_any a1 n1 c1 ⟨rm1, l1, lf1, dn1⟩ nm _ HD1.out hs1
  rw [hr2] at HS2
  have HT2 := Lib.hid HS2
  clear HS2
  refine HT2.out.mono ?_
  rintro e v2 ⟨a2, n2, c2, rfl, hd2, hb2⟩
  have hB2 := below_then HB4.out hb2 HB4.out.size
  have HB5 := Lib.hid (hB2.alloc hB2.size (.cells #[.int .i64 rm2, .slice a2 n2 c2, .int .i64 lf2, .bool dn2] 24))
  have HX2 := Lib.hid (Four.new v2 24 (.int .i64 rm2) (.slice a2 n2 c2) (.int .i64 lf2) (.bool dn2))
  have HD2 := Lib.hid (hd2.keep ((Below.refl _ _).alloc (Nat.le_refl _) (.cells #[.int .i64 rm2, .slice a2 n2 c2, .int .i64 lf2, .bool dn2] 24)))
  clear hd2 hb2 hB2 k0 k1 k2 k3
  unfold Dk.val
  dsimp only
  have k := HX2.out
  have k0 := k.c0
  have k1 := k.c1
  have k2 := k.c2
  have k3 := k.c3
  clear k
  go_wp2_with fail
  have HS3 := cut_any a2 n2 c2 ⟨rm2, l2, lf2, dn2⟩ 0 _ HD2.out
  rw [hr3] at HS3
  have HT3 := Lib.hid HS3
  clear HS3
  refine HT3.out.mono ?_
  rintro e v3 ⟨a3, n3, c3, rfl, hd3, hb3⟩
  have hB3 := below_then HB5.out hb3 HB5.out.size
  have HB6 := Lib.hid (hB3.alloc hB3.size (.cells #[.int .i64 rm3, .slice a3 n3 c3, .int .i64 lf3, .bool dn3] 24))
  have HX3 := Lib.hid (Four.new v3 24 (.int .i64 rm3) (.slice a3 n3 c3) (.int .i64 lf3) (.bool dn3))
  have HD3 := Lib.hid (hd3.keep ((Below.refl _ _).alloc (Nat.le_refl _) (.cells #[.int .i64 rm3, .slice a3 n3 c3, .int .i64 lf3, .bool dn3] 24)))
  clear hd3 hb3 hB3 k0 k1 k2 k3
  unfold Dk.val
  dsimp only
  have k := HX3.out
  have k0 := k.c0
  have k1 := k.c1
  have k2 := k.c2
  have k3 := k.c3
  clear k
  go_wp2_with fail
  have HS4 := rename_any a3 n3 c3 ⟨rm3, l3, lf3, dn3⟩ nm dst _ HD3.out hs1 hs2
  rw [hr4] at HS4
  have HT4 := Lib.hid HS4
  clear HS4
  refine HT4.out.mono ?_
  rintro e v4 ⟨a4, n4, c4, rfl, hd4, hb4⟩
  have hB4 := below_then HB6.out hb4 HB6.out.size
  have HB7 := Lib.hid (hB4.alloc hB4.size (.cells #[.int .i64 rm4, .slice a4 n4 c4, .int .i64 lf4, .bool dn4] 24))
  have HX4 := Lib.hid (Four.new v4 24 (.int .i64 rm4) (.slice a4 n4 c4) (.int .i64 lf4) (.bool dn4))
  have HD4 := Lib.hid (hd4.keep ((Below.refl _ _).alloc (Nat.le_refl _) (.cells #[.int .i64 rm4, .slice a4 n4 c4, .int .i64 lf4, .bool dn4] 24)))
  clear hd4 hb4 hB4 k0 k1 k2 k3
  unfold Dk.val
  dsimp only
  have k := HX4.out
  have k0 := k.c0
  have k1 := k.c1
  have k2 := k.c2
  have k3 := k.c3
  clear k
  go_wp2_with fail
  go_ret
  exact ⟨rfl, HB7.out⟩
set_option maxRecDepth 100000 in
set_option maxHeartbeats 1000000 in
theorem rens_cut (a : Option Addr) (n c : Nat) (d : Dk) (nm dst more : ByteArray) (cut : Bool) (ak : Option Addr) (nk ck : Nat) (keep : List Int) (w : World) (h : DkAt w a n c d) (hs1 : nm.size ≤ maxLen) (hs2 : dst.size ≤ maxLen) (hs3 : more.size ≤ maxLen) (hk : SlAt w ak nk (i64s keep)) (hkn : nk ≤ 100000000000000) (hr : rightD d = true) (hd : d.down = false) (hl : d.left < 0) (he : nm ≠ dst) (hat : atL d.files nm < 0) (rm1 lf1 : Int) (l1 : List Fl) (dn1 : Bool) (hr1 : writeD d nm more = (⟨rm1, l1, lf1, dn1⟩, 0)) (rm2 lf2 : Int) (l2 : List Fl) (dn2 : Bool) (hr2 : syncD ⟨rm1, l1, lf1, dn1⟩ nm = (⟨rm2, l2, lf2, dn2⟩, 0)) (rm3 lf3 : Int) (l3 : List Fl) (dn3 : Bool) (hr3 : cutD ⟨rm2, l2, lf2, dn2⟩ 0 = (⟨rm3, l3, lf3, dn3⟩, 0)) (rm4 lf4 : Int) (l4 : List Fl) (dn4 : Bool) (hr4 : renameD ⟨rm3, l3, lf3, dn3⟩ nm dst = (⟨rm4, l4, lf4, dn4⟩, 132)) (rm5 lf5 : Int) (l5 : List Fl) (dn5 : Bool) (hr5 : crashD ⟨rm4, l4, lf4, dn4⟩ keep = (⟨rm5, l5, lf5, dn5⟩, 0)) (hq1 : readD ⟨rm5, l5, lf5, dn5⟩ nm = (more, 0)) (hc : cut = true) :
    Calls Try.prog 6 #[d.val a n c, .string nm, .string dst, .string more, .bool cut, .slice ak nk ck] w fun e w' => e = .returned (.bool true) ∧ Below w.heap.size w w' := by
  subst hc
  have hbq : (more.toList == more.toList) = true := by simp
  have HB0 := Lib.hid ((Below.refl _ w).alloc (Nat.le_refl _) (.cells #[.int .i64 d.room, .slice a n c, .int .i64 d.left, .bool d.down] 24))
  have HP0 := Lib.hid (DkBox.new w d a n c)
  have hrt := Lib.hid (fun (W : World) (hb : Below w.heap.size w W) => right_any a n c d W (h.keep hb) true (Lib.hid hr.symm))
  obtain ⟨pl, hpl⟩ : ∃ pl, pl = atL d.files nm := ⟨_, rfl⟩
  have hata := Lib.hid (fun (W : World) (hb : Below w.heap.size w W) => refAt_any a n c d nm W (h.keep hb) pl (Lib.hid hpl))
  rw [← hpl] at hat
  have hseq : (nm.toList == dst.toList) = false := by rw [beq_eq_false_iff_ne]; intro e; exact he (ba_ext (by rw [ByteArray.toList_eq, ByteArray.toList_eq] at e; exact e))
  have HW := Lib.hid (fun (W : World) (hb : Below w.heap.size w W) => write_any a n c d nm more W (h.keep hb) hs1 (by unfold maxLen at *; omega))
  rw [hr1] at HW
  have HK := Lib.hid hk
  clear h hk hr hpl he
  obtain ⟨rm, l, lf, dn⟩ := d
  unfold Dk.val at *
  dsimp only at *
  subst hd
  go_enter Try.func6, Try.ntmps6
  have k := HP0.out
  have k0 := k.c0
  have k1 := k.c1
  have k2 := k.c2
  have k3 := k.c3
  clear k
  go_wp2_with fail
  refine (alive_any _).mono ?_
  rintro e w1 ⟨rfl, hb1⟩
  have HB1 := Lib.hid (below_then HB0.out hb1 HB0.out.size)
  have HP1 := Lib.hid (Four.keep HP0.out hb1)
  clear hb1 k0 k1 k2 k3
  have k := HP1.out
  have k0 := k.c0
  have k1 := k.c1
  have k2 := k.c2
  have k3 := k.c3
  clear k
  go_wp2_with fail
  refine (hrt.out _ HB1.out).mono ?_
  rintro e w2 ⟨rfl, hb2⟩
  have HB2 := Lib.hid (below_then HB1.out hb2 HB1.out.size)
  have HP2 := Lib.hid (Four.keep HP1.out hb2)
  clear hb2 k0 k1 k2 k3
  have k := HP2.out
  have k0 := k.c0
  have k1 := k.c1
  have k2 := k.c2
  have k3 := k.c3
  clear k
  go_wp2_with fail
  refine (hata.out _ HB2.out).mono ?_
  rintro e w3 ⟨rfl, hb3⟩
  have HB3 := Lib.hid (below_then HB2.out hb3 HB2.out.size)
  have HP3 := Lib.hid (Four.keep HP2.out hb3)
  clear hb3 k0 k1 k2 k3
  have k := HP3.out
  have k0 := k.c0
  have k1 := k.c1
  have k2 := k.c2
  have k3 := k.c3
  clear k
  go_wp2_with fail
  refine (HW.out _ HB3.out).mono ?_
  rintro e v1 ⟨a1, n1, c1, rfl, hd1, hb1⟩
  have hB1 := below_then HB3.out hb1 HB3.out.size
  have HB4 := Lib.hid (hB1.alloc hB1.size (.cells #[.int .i64 rm1, .slice a1 n1 c1, .int .i64 lf1, .bool dn1] 24))
  have HX1 := Lib.hid (Four.new v1 24 (.int .i64 rm1) (.slice a1 n1 c1) (.int .i64 lf1) (.bool dn1))
  have HD1 := Lib.hid (hd1.keep ((Below.refl _ _).alloc (Nat.le_refl _) (.cells #[.int .i64 rm1, .slice a1 n1 c1, .int .i64 lf1, .bool dn1] 24)))
  clear hd1 hb1 hB1 k0 k1 k2 k3
  unfold Dk.val
  dsimp only
  have k := HX1.out
  have k0 := k.c0
  have k1 := k.c1
  have k2 := k.c2
  have k3 := k.c3
  clear k
  go_wp2_with fail
  have HS2 := sync_any a1 n1 c1 ⟨rm1, l1, lf1, dn1⟩ nm _ HD1.out hs1
  rw [hr2] at HS2
  have HT2 := Lib.hid HS2
  clear HS2
  refine HT2.out.mono ?_
  rintro e v2 ⟨a2, n2, c2, rfl, hd2, hb2⟩
  have hB2 := below_then HB4.out hb2 HB4.out.size
  have HB5 := Lib.hid (hB2.alloc hB2.size (.cells #[.int .i64 rm2, .slice a2 n2 c2, .int .i64 lf2, .bool dn2] 24))
  have HX2 := Lib.hid (Four.new v2 24 (.int .i64 rm2) (.slice a2 n2 c2) (.int .i64 lf2) (.bool dn2))
  have HD2 := Lib.hid (hd2.keep ((Below.refl _ _).alloc (Nat.le_refl _) (.cells #[.int .i64 rm2, .slice a2 n2 c2, .int .i64 lf2, .bool dn2] 24)))
  clear hd2 hb2 hB2 k0 k1 k2 k3
  unfold Dk.val
  dsimp only
  have k := HX2.out
  have k0 := k.c0
  have k1 := k.c1
  have k2 := k.c2
  have k3 := k.c3
  clear k
  go_wp2_with fail
  have HS3 := cut_any a2 n2 c2 ⟨rm2, l2, lf2, dn2⟩ 0 _ HD2.out
  rw [hr3] at HS3
  have HT3 := Lib.hid HS3
  clear HS3
  refine HT3.out.mono ?_
  rintro e v3 ⟨a3, n3, c3, rfl, hd3, hb3⟩
  have hB3 := below_then HB5.out hb3 HB5.out.size
  have HB6 := Lib.hid (hB3.alloc hB3.size (.cells #[.int .i64 rm3, .slice a3 n3 c3, .int .i64 lf3, .bool dn3] 24))
  have HX3 := Lib.hid (Four.new v3 24 (.int .i64 rm3) (.slice a3 n3 c3) (.int .i64 lf3) (.bool dn3))
  have HD3 := Lib.hid (hd3.keep ((Below.refl _ _).alloc (Nat.le_refl _) (.cells #[.int .i64 rm3, .slice a3 n3 c3, .int .i64 lf3, .bool dn3] 24)))
  clear hd3 hb3 hB3 k0 k1 k2 k3
  unfold Dk.val
  dsimp only
  have k := HX3.out
  have k0 := k.c0
  have k1 := k.c1
  have k2 := k.c2
  have k3 := k.c3
  clear k
  go_wp2_with fail
  have HS4 := rename_any a3 n3 c3 ⟨rm3, l3, lf3, dn3⟩ nm dst _ HD3.out hs1 hs2
  rw [hr4] at HS4
  have HT4 := Lib.hid HS4
  clear HS4
  refine HT4.out.mono ?_
  rintro e v4 ⟨a4, n4, c4, rfl, hd4, hb4⟩
  have hB4 := below_then HB6.out hb4 HB6.out.size
  have HB7 := Lib.hid (hB4.alloc hB4.size (.cells #[.int .i64 rm4, .slice a4 n4 c4, .int .i64 lf4, .bool dn4] 24))
  have HX4 := Lib.hid (Four.new v4 24 (.int .i64 rm4) (.slice a4 n4 c4) (.int .i64 lf4) (.bool dn4))
  have HD4 := Lib.hid (hd4.keep ((Below.refl _ _).alloc (Nat.le_refl _) (.cells #[.int .i64 rm4, .slice a4 n4 c4, .int .i64 lf4, .bool dn4] 24)))
  clear hd4 hb4 hB4 k0 k1 k2 k3
  unfold Dk.val
  dsimp only
  have k := HX4.out
  have k0 := k.c0
  have k1 := k.c1
  have k2 := k.c2
  have k3 := k.c3
  clear k
  go_wp2_with fail
  have HS5 := crash_any a4 n4 c4 ⟨rm4, l4, lf4, dn4⟩ ak nk ck keep _ HD4.out (HK.out.keep HB7.out) hkn
  rw [hr5] at HS5
  have HT5 := Lib.hid HS5
  clear HS5
  refine HT5.out.mono ?_
  rintro e v5 ⟨a5, n5, c5, rfl, hd5, hb5⟩
  have hB5 := below_then HB7.out hb5 HB7.out.size
  have HB8 := Lib.hid (hB5.alloc hB5.size (.cells #[.int .i64 rm5, .slice a5 n5 c5, .int .i64 lf5, .bool dn5] 24))
  have HX5 := Lib.hid (Four.new v5 24 (.int .i64 rm5) (.slice a5 n5 c5) (.int .i64 lf5) (.bool dn5))
  have HD5 := Lib.hid (hd5.keep ((Below.refl _ _).alloc (Nat.le_refl _) (.cells #[.int .i64 rm5, .slice a5 n5 c5, .int .i64 lf5, .bool dn5] 24)))
  clear hd5 hb5 hB5 k0 k1 k2 k3
  unfold Dk.val
  dsimp only
  have k := HX5.out
  have k0 := k.c0
  have k1 := k.c1
  have k2 := k.c2
  have k3 := k.c3
  clear k
  go_wp2_with fail
  refine (read_any _ _ _ ⟨rm5, l5, lf5, dn5⟩ nm _ HD5.out hs1 more 0 (Lib.hid hq1.symm)).mono ?_
  rintro e u1 ⟨rfl, hb⟩
  have HBr1 := Lib.hid (below_then HB8.out hb HB8.out.size)
  have HDr := Lib.hid (HD5.out.keep hb)
  have HXr := Lib.hid (Four.keep HX5.out hb)
  clear hb k0 k1 k2 k3
  have k := HXr.out
  have k0 := k.c0
  have k1 := k.c1
  have k2 := k.c2
  have k3 := k.c3
  clear k
  go_wp2_with fail
  go_ret
  exact ⟨rfl, HBr1.out⟩
set_option maxRecDepth 100000 in
set_option maxHeartbeats 1000000 in
theorem rens_bad (a : Option Addr) (n c : Nat) (d : Dk) (nm dst more : ByteArray) (cut : Bool) (ak : Option Addr) (nk ck : Nat) (keep : List Int) (w : World) (h : DkAt w a n c d) (hs1 : nm.size ≤ maxLen) (hs2 : dst.size ≤ maxLen) (hs3 : more.size ≤ maxLen) (hk : SlAt w ak nk (i64s keep)) (hkn : nk ≤ 100000000000000) (hr : rightD d = true) (hd : d.down = false) (hl : d.left < 0) (he : nm ≠ dst) (hat : atL d.files nm < 0) (rm1 lf1 : Int) (l1 : List Fl) (dn1 : Bool) (hr1 : writeD d nm more = (⟨rm1, l1, lf1, dn1⟩, 0)) (rm2 lf2 : Int) (l2 : List Fl) (dn2 : Bool) (hr2 : syncD ⟨rm1, l1, lf1, dn1⟩ nm = (⟨rm2, l2, lf2, dn2⟩, 0)) (rm4 lf4 : Int) (l4 : List Fl) (dn4 : Bool) (hr4 : renameD ⟨rm2, l2, lf2, dn2⟩ nm dst = (⟨rm4, l4, lf4, dn4⟩, 1)) (hc : cut = false) :
    Calls Try.prog 6 #[d.val a n c, .string nm, .string dst, .string more, .bool cut, .slice ak nk ck] w fun e w' => e = .returned (.bool true) ∧ Below w.heap.size w w' := by
  subst hc
  have HB0 := Lib.hid ((Below.refl _ w).alloc (Nat.le_refl _) (.cells #[.int .i64 d.room, .slice a n c, .int .i64 d.left, .bool d.down] 24))
  have HP0 := Lib.hid (DkBox.new w d a n c)
  have hrt := Lib.hid (fun (W : World) (hb : Below w.heap.size w W) => right_any a n c d W (h.keep hb) true (Lib.hid hr.symm))
  obtain ⟨pl, hpl⟩ : ∃ pl, pl = atL d.files nm := ⟨_, rfl⟩
  have hata := Lib.hid (fun (W : World) (hb : Below w.heap.size w W) => refAt_any a n c d nm W (h.keep hb) pl (Lib.hid hpl))
  rw [← hpl] at hat
  have hseq : (nm.toList == dst.toList) = false := by rw [beq_eq_false_iff_ne]; intro e; exact he (ba_ext (by rw [ByteArray.toList_eq, ByteArray.toList_eq] at e; exact e))
  have HW := Lib.hid (fun (W : World) (hb : Below w.heap.size w W) => write_any a n c d nm more W (h.keep hb) hs1 (by unfold maxLen at *; omega))
  rw [hr1] at HW
  have HK := Lib.hid hk
  clear h hk hr hpl he
  obtain ⟨rm, l, lf, dn⟩ := d
  unfold Dk.val at *
  dsimp only at *
  subst hd
  go_enter Try.func6, Try.ntmps6
  have k := HP0.out
  have k0 := k.c0
  have k1 := k.c1
  have k2 := k.c2
  have k3 := k.c3
  clear k
  go_wp2_with fail
  refine (alive_any _).mono ?_
  rintro e w1 ⟨rfl, hb1⟩
  have HB1 := Lib.hid (below_then HB0.out hb1 HB0.out.size)
  have HP1 := Lib.hid (Four.keep HP0.out hb1)
  clear hb1 k0 k1 k2 k3
  have k := HP1.out
  have k0 := k.c0
  have k1 := k.c1
  have k2 := k.c2
  have k3 := k.c3
  clear k
  go_wp2_with fail
  refine (hrt.out _ HB1.out).mono ?_
  rintro e w2 ⟨rfl, hb2⟩
  have HB2 := Lib.hid (below_then HB1.out hb2 HB1.out.size)
  have HP2 := Lib.hid (Four.keep HP1.out hb2)
  clear hb2 k0 k1 k2 k3
  have k := HP2.out
  have k0 := k.c0
  have k1 := k.c1
  have k2 := k.c2
  have k3 := k.c3
  clear k
  go_wp2_with fail
  refine (hata.out _ HB2.out).mono ?_
  rintro e w3 ⟨rfl, hb3⟩
  have HB3 := Lib.hid (below_then HB2.out hb3 HB2.out.size)
  have HP3 := Lib.hid (Four.keep HP2.out hb3)
  clear hb3 k0 k1 k2 k3
  have k := HP3.out
  have k0 := k.c0
  have k1 := k.c1
  have k2 := k.c2
  have k3 := k.c3
  clear k
  go_wp2_with fail
  refine (HW.out _ HB3.out).mono ?_
  rintro e v1 ⟨a1, n1, c1, rfl, hd1, hb1⟩
  have hB1 := below_then HB3.out hb1 HB3.out.size
  have HB4 := Lib.hid (hB1.alloc hB1.size (.cells #[.int .i64 rm1, .slice a1 n1 c1, .int .i64 lf1, .bool dn1] 24))
  have HX1 := Lib.hid (Four.new v1 24 (.int .i64 rm1) (.slice a1 n1 c1) (.int .i64 lf1) (.bool dn1))
  have HD1 := Lib.hid (hd1.keep ((Below.refl _ _).alloc (Nat.le_refl _) (.cells #[.int .i64 rm1, .slice a1 n1 c1, .int .i64 lf1, .bool dn1] 24)))
  clear hd1 hb1 hB1 k0 k1 k2 k3
  unfold Dk.val
  dsimp only
  have k := HX1.out
  have k0 := k.c0
  have k1 := k.c1
  have k2 := k.c2
  have k3 := k.c3
  clear k
  go_wp2_with fail
  have HS2 := sync_any a1 n1 c1 ⟨rm1, l1, lf1, dn1⟩ nm _ HD1.out hs1
  rw [hr2] at HS2
  have HT2 := Lib.hid HS2
  clear HS2
  refine HT2.out.mono ?_
  rintro e v2 ⟨a2, n2, c2, rfl, hd2, hb2⟩
  have hB2 := below_then HB4.out hb2 HB4.out.size
  have HB5 := Lib.hid (hB2.alloc hB2.size (.cells #[.int .i64 rm2, .slice a2 n2 c2, .int .i64 lf2, .bool dn2] 24))
  have HX2 := Lib.hid (Four.new v2 24 (.int .i64 rm2) (.slice a2 n2 c2) (.int .i64 lf2) (.bool dn2))
  have HD2 := Lib.hid (hd2.keep ((Below.refl _ _).alloc (Nat.le_refl _) (.cells #[.int .i64 rm2, .slice a2 n2 c2, .int .i64 lf2, .bool dn2] 24)))
  clear hd2 hb2 hB2 k0 k1 k2 k3
  unfold Dk.val
  dsimp only
  have k := HX2.out
  have k0 := k.c0
  have k1 := k.c1
  have k2 := k.c2
  have k3 := k.c3
  clear k
  go_wp2_with fail
  have HS4 := rename_any a2 n2 c2 ⟨rm2, l2, lf2, dn2⟩ nm dst _ HD2.out hs1 hs2
  rw [hr4] at HS4
  have HT4 := Lib.hid HS4
  clear HS4
  refine HT4.out.mono ?_
  rintro e v4 ⟨a4, n4, c4, rfl, hd4, hb4⟩
  have hB4 := below_then HB5.out hb4 HB5.out.size
  have HB6 := Lib.hid (hB4.alloc hB4.size (.cells #[.int .i64 rm4, .slice a4 n4 c4, .int .i64 lf4, .bool dn4] 24))
  have HX4 := Lib.hid (Four.new v4 24 (.int .i64 rm4) (.slice a4 n4 c4) (.int .i64 lf4) (.bool dn4))
  have HD4 := Lib.hid (hd4.keep ((Below.refl _ _).alloc (Nat.le_refl _) (.cells #[.int .i64 rm4, .slice a4 n4 c4, .int .i64 lf4, .bool dn4] 24)))
  clear hd4 hb4 hB4 k0 k1 k2 k3
  unfold Dk.val
  dsimp only
  have k := HX4.out
  have k0 := k.c0
  have k1 := k.c1
  have k2 := k.c2
  have k3 := k.c3
  clear k
  go_wp2_with fail
  go_ret
  exact ⟨rfl, HB6.out⟩
set_option maxRecDepth 100000 in
set_option maxHeartbeats 1000000 in
theorem rens_ok (a : Option Addr) (n c : Nat) (d : Dk) (nm dst more : ByteArray) (cut : Bool) (ak : Option Addr) (nk ck : Nat) (keep : List Int) (w : World) (h : DkAt w a n c d) (hs1 : nm.size ≤ maxLen) (hs2 : dst.size ≤ maxLen) (hs3 : more.size ≤ maxLen) (hk : SlAt w ak nk (i64s keep)) (hkn : nk ≤ 100000000000000) (hr : rightD d = true) (hd : d.down = false) (hl : d.left < 0) (he : nm ≠ dst) (hat : atL d.files nm < 0) (rm1 lf1 : Int) (l1 : List Fl) (dn1 : Bool) (hr1 : writeD d nm more = (⟨rm1, l1, lf1, dn1⟩, 0)) (rm2 lf2 : Int) (l2 : List Fl) (dn2 : Bool) (hr2 : syncD ⟨rm1, l1, lf1, dn1⟩ nm = (⟨rm2, l2, lf2, dn2⟩, 0)) (rm4 lf4 : Int) (l4 : List Fl) (dn4 : Bool) (hr4 : renameD ⟨rm2, l2, lf2, dn2⟩ nm dst = (⟨rm4, l4, lf4, dn4⟩, 0)) (rm5 lf5 : Int) (l5 : List Fl) (dn5 : Bool) (hr5 : crashD ⟨rm4, l4, lf4, dn4⟩ keep = (⟨rm5, l5, lf5, dn5⟩, 0)) (hq1 : readD ⟨rm5, l5, lf5, dn5⟩ dst = (more, 0)) (sx : ByteArray) (hq2 : readD ⟨rm5, l5, lf5, dn5⟩ nm = (sx, 60)) (hc : cut = false) :
    Calls Try.prog 6 #[d.val a n c, .string nm, .string dst, .string more, .bool cut, .slice ak nk ck] w fun e w' => e = .returned (.bool true) ∧ Below w.heap.size w w' := by
  subst hc
  have hbq : (more.toList == more.toList) = true := by simp
  have HB0 := Lib.hid ((Below.refl _ w).alloc (Nat.le_refl _) (.cells #[.int .i64 d.room, .slice a n c, .int .i64 d.left, .bool d.down] 24))
  have HP0 := Lib.hid (DkBox.new w d a n c)
  have hrt := Lib.hid (fun (W : World) (hb : Below w.heap.size w W) => right_any a n c d W (h.keep hb) true (Lib.hid hr.symm))
  obtain ⟨pl, hpl⟩ : ∃ pl, pl = atL d.files nm := ⟨_, rfl⟩
  have hata := Lib.hid (fun (W : World) (hb : Below w.heap.size w W) => refAt_any a n c d nm W (h.keep hb) pl (Lib.hid hpl))
  rw [← hpl] at hat
  have hseq : (nm.toList == dst.toList) = false := by rw [beq_eq_false_iff_ne]; intro e; exact he (ba_ext (by rw [ByteArray.toList_eq, ByteArray.toList_eq] at e; exact e))
  have HW := Lib.hid (fun (W : World) (hb : Below w.heap.size w W) => write_any a n c d nm more W (h.keep hb) hs1 (by unfold maxLen at *; omega))
  rw [hr1] at HW
  have HK := Lib.hid hk
  clear h hk hr hpl he
  obtain ⟨rm, l, lf, dn⟩ := d
  unfold Dk.val at *
  dsimp only at *
  subst hd
  go_enter Try.func6, Try.ntmps6
  have k := HP0.out
  have k0 := k.c0
  have k1 := k.c1
  have k2 := k.c2
  have k3 := k.c3
  clear k
  go_wp2_with fail
  refine (alive_any _).mono ?_
  rintro e w1 ⟨rfl, hb1⟩
  have HB1 := Lib.hid (below_then HB0.out hb1 HB0.out.size)
  have HP1 := Lib.hid (Four.keep HP0.out hb1)
  clear hb1 k0 k1 k2 k3
  have k := HP1.out
  have k0 := k.c0
  have k1 := k.c1
  have k2 := k.c2
  have k3 := k.c3
  clear k
  go_wp2_with fail
  refine (hrt.out _ HB1.out).mono ?_
  rintro e w2 ⟨rfl, hb2⟩
  have HB2 := Lib.hid (below_then HB1.out hb2 HB1.out.size)
  have HP2 := Lib.hid (Four.keep HP1.out hb2)
  clear hb2 k0 k1 k2 k3
  have k := HP2.out
  have k0 := k.c0
  have k1 := k.c1
  have k2 := k.c2
  have k3 := k.c3
  clear k
  go_wp2_with fail
  refine (hata.out _ HB2.out).mono ?_
  rintro e w3 ⟨rfl, hb3⟩
  have HB3 := Lib.hid (below_then HB2.out hb3 HB2.out.size)
  have HP3 := Lib.hid (Four.keep HP2.out hb3)
  clear hb3 k0 k1 k2 k3
  have k := HP3.out
  have k0 := k.c0
  have k1 := k.c1
  have k2 := k.c2
  have k3 := k.c3
  clear k
  go_wp2_with fail
  refine (HW.out _ HB3.out).mono ?_
  rintro e v1 ⟨a1, n1, c1, rfl, hd1, hb1⟩
  have hB1 := below_then HB3.out hb1 HB3.out.size
  have HB4 := Lib.hid (hB1.alloc hB1.size (.cells #[.int .i64 rm1, .slice a1 n1 c1, .int .i64 lf1, .bool dn1] 24))
  have HX1 := Lib.hid (Four.new v1 24 (.int .i64 rm1) (.slice a1 n1 c1) (.int .i64 lf1) (.bool dn1))
  have HD1 := Lib.hid (hd1.keep ((Below.refl _ _).alloc (Nat.le_refl _) (.cells #[.int .i64 rm1, .slice a1 n1 c1, .int .i64 lf1, .bool dn1] 24)))
  clear hd1 hb1 hB1 k0 k1 k2 k3
  unfold Dk.val
  dsimp only
  have k := HX1.out
  have k0 := k.c0
  have k1 := k.c1
  have k2 := k.c2
  have k3 := k.c3
  clear k
  go_wp2_with fail
  have HS2 := sync_any a1 n1 c1 ⟨rm1, l1, lf1, dn1⟩ nm _ HD1.out hs1
  rw [hr2] at HS2
  have HT2 := Lib.hid HS2
  clear HS2
  refine HT2.out.mono ?_
  rintro e v2 ⟨a2, n2, c2, rfl, hd2, hb2⟩
  have hB2 := below_then HB4.out hb2 HB4.out.size
  have HB5 := Lib.hid (hB2.alloc hB2.size (.cells #[.int .i64 rm2, .slice a2 n2 c2, .int .i64 lf2, .bool dn2] 24))
  have HX2 := Lib.hid (Four.new v2 24 (.int .i64 rm2) (.slice a2 n2 c2) (.int .i64 lf2) (.bool dn2))
  have HD2 := Lib.hid (hd2.keep ((Below.refl _ _).alloc (Nat.le_refl _) (.cells #[.int .i64 rm2, .slice a2 n2 c2, .int .i64 lf2, .bool dn2] 24)))
  clear hd2 hb2 hB2 k0 k1 k2 k3
  unfold Dk.val
  dsimp only
  have k := HX2.out
  have k0 := k.c0
  have k1 := k.c1
  have k2 := k.c2
  have k3 := k.c3
  clear k
  go_wp2_with fail
  have HS4 := rename_any a2 n2 c2 ⟨rm2, l2, lf2, dn2⟩ nm dst _ HD2.out hs1 hs2
  rw [hr4] at HS4
  have HT4 := Lib.hid HS4
  clear HS4
  refine HT4.out.mono ?_
  rintro e v4 ⟨a4, n4, c4, rfl, hd4, hb4⟩
  have hB4 := below_then HB5.out hb4 HB5.out.size
  have HB6 := Lib.hid (hB4.alloc hB4.size (.cells #[.int .i64 rm4, .slice a4 n4 c4, .int .i64 lf4, .bool dn4] 24))
  have HX4 := Lib.hid (Four.new v4 24 (.int .i64 rm4) (.slice a4 n4 c4) (.int .i64 lf4) (.bool dn4))
  have HD4 := Lib.hid (hd4.keep ((Below.refl _ _).alloc (Nat.le_refl _) (.cells #[.int .i64 rm4, .slice a4 n4 c4, .int .i64 lf4, .bool dn4] 24)))
  clear hd4 hb4 hB4 k0 k1 k2 k3
  unfold Dk.val
  dsimp only
  have k := HX4.out
  have k0 := k.c0
  have k1 := k.c1
  have k2 := k.c2
  have k3 := k.c3
  clear k
  go_wp2_with fail
  have HS5 := crash_any a4 n4 c4 ⟨rm4, l4, lf4, dn4⟩ ak nk ck keep _ HD4.out (HK.out.keep HB6.out) hkn
  rw [hr5] at HS5
  have HT5 := Lib.hid HS5
  clear HS5
  refine HT5.out.mono ?_
  rintro e v5 ⟨a5, n5, c5, rfl, hd5, hb5⟩
  have hB5 := below_then HB6.out hb5 HB6.out.size
  have HB7 := Lib.hid (hB5.alloc hB5.size (.cells #[.int .i64 rm5, .slice a5 n5 c5, .int .i64 lf5, .bool dn5] 24))
  have HX5 := Lib.hid (Four.new v5 24 (.int .i64 rm5) (.slice a5 n5 c5) (.int .i64 lf5) (.bool dn5))
  have HD5 := Lib.hid (hd5.keep ((Below.refl _ _).alloc (Nat.le_refl _) (.cells #[.int .i64 rm5, .slice a5 n5 c5, .int .i64 lf5, .bool dn5] 24)))
  clear hd5 hb5 hB5 k0 k1 k2 k3
  unfold Dk.val
  dsimp only
  have k := HX5.out
  have k0 := k.c0
  have k1 := k.c1
  have k2 := k.c2
  have k3 := k.c3
  clear k
  go_wp2_with fail
  refine (read_any _ _ _ ⟨rm5, l5, lf5, dn5⟩ dst _ HD5.out hs2 more 0 (Lib.hid hq1.symm)).mono ?_
  rintro e u1 ⟨rfl, hb⟩
  have HBr1 := Lib.hid (below_then HB7.out hb HB7.out.size)
  have HDr := Lib.hid (HD5.out.keep hb)
  have HXr := Lib.hid (Four.keep HX5.out hb)
  clear hb k0 k1 k2 k3
  have k := HXr.out
  have k0 := k.c0
  have k1 := k.c1
  have k2 := k.c2
  have k3 := k.c3
  clear k
  go_wp2_with fail
  refine (read_any _ _ _ ⟨rm5, l5, lf5, dn5⟩ nm _ HDr.out hs1 sx 60 (Lib.hid hq2.symm)).mono ?_
  rintro e u2 ⟨rfl, hb⟩
  have HBr2 := Lib.hid (below_then HBr1.out hb HBr1.out.size)
  have HDr := Lib.hid (HDr.out.keep hb)
  have HXr := Lib.hid (Four.keep HXr.out hb)
  clear hb k0 k1 k2 k3
  have k := HXr.out
  have k0 := k.c0
  have k1 := k.c1
  have k2 := k.c2
  have k3 := k.c3
  clear k
  go_wp2_with fail
  go_ret
  exact ⟨rfl, HBr2.out⟩
theorem rens_any (a : Option Addr) (n c : Nat) (d : Dk) (nm dst more : ByteArray) (cut : Bool) (ak : Option Addr) (nk ck : Nat) (keep : List Int) (w : World) (h : DkAt w a n c d) (hs1 : nm.size ≤ maxLen) (hs2 : dst.size ≤ maxLen) (hs3 : more.size ≤ maxLen) (hk : SlAt w ak nk (i64s keep)) (hkn : nk ≤ 100000000000000) :
    Calls Try.prog 6 #[d.val a n c, .string nm, .string dst, .string more, .bool cut, .slice ak nk ck] w fun e w' => e = .returned (.bool true) ∧ Below w.heap.size w w' := by
  by_cases hr : rightD d = true
  · by_cases hd : d.down = true
    · exact rens_no1 a n c d nm dst more cut ak nk ck keep w h hs1 hs2 hs3 hk hkn hr hd
    · have hd : d.down = false := by simpa using hd
      by_cases hl : 0 ≤ d.left
      · exact rens_no2 a n c d nm dst more cut ak nk ck keep w h hs1 hs2 hs3 hk hkn hr hd hl
      · have hl : d.left < 0 := by omega
        by_cases he : nm = dst
        · exact rens_no3 a n c d nm dst more cut ak nk ck keep w h hs1 hs2 hs3 hk hkn hr hd hl he
        · by_cases hat : 0 ≤ atL d.files nm
          · exact rens_no4 a n c d nm dst more cut ak nk ck keep w h hs1 hs2 hs3 hk hkn hr hd hl he hat
          · have hat : atL d.files nm < 0 := by omega
            have hL := renames_law (more := more) hr hd hl he hat keep
            obtain ⟨⟨⟨rm1, l1, lf1, dn1⟩, x1⟩, hr1⟩ : ∃ r, writeD d nm more = r := ⟨_, rfl⟩
            rw [hr1] at hL
            dsimp only at hL
            rcases hL with rfl | rfl | ⟨rfl, hL⟩
            · exact rens_refused1 a n c d nm dst more cut ak nk ck keep w h hs1 hs2 hs3 hk hkn hr hd hl he hat rm1 lf1 l1 dn1 hr1
            · exact rens_refused130 a n c d nm dst more cut ak nk ck keep w h hs1 hs2 hs3 hk hkn hr hd hl he hat rm1 lf1 l1 dn1 hr1
            · obtain ⟨⟨⟨rm2, l2, lf2, dn2⟩, x2⟩, hr2⟩ : ∃ r, syncD ⟨rm1, l1, lf1, dn1⟩ nm = r := ⟨_, rfl⟩
              rw [hr2] at hL
              dsimp only at hL
              obtain ⟨rfl, hc, hn⟩ := hL
              cases hcut : cut with
              | true =>
                clear hn
                subst hcut
                obtain ⟨⟨⟨rm3, l3, lf3, dn3⟩, x3⟩, hr3⟩ : ∃ r, cutD ⟨rm2, l2, lf2, dn2⟩ 0 = r := ⟨_, rfl⟩
                rw [hr3] at hc
                dsimp only at hc
                obtain ⟨rfl, hc⟩ := hc
                obtain ⟨⟨⟨rm4, l4, lf4, dn4⟩, x4⟩, hr4⟩ : ∃ r, renameD ⟨rm3, l3, lf3, dn3⟩ nm dst = r := ⟨_, rfl⟩
                rw [hr4] at hc
                dsimp only at hc
                rcases hc with rfl | ⟨rfl, hc⟩
                · exact rens_cut_bad a n c d nm dst more true ak nk ck keep w h hs1 hs2 hs3 hk hkn hr hd hl he hat rm1 lf1 l1 dn1 hr1 rm2 lf2 l2 dn2 hr2 rm3 lf3 l3 dn3 hr3 rm4 lf4 l4 dn4 hr4 rfl
                · obtain ⟨⟨⟨rm5, l5, lf5, dn5⟩, x5⟩, hr5⟩ : ∃ r, crashD ⟨rm4, l4, lf4, dn4⟩ keep = r := ⟨_, rfl⟩
                  rw [hr5] at hc
                  dsimp only at hc
                  obtain ⟨rfl, hq1⟩ := hc
                  exact rens_cut a n c d nm dst more true ak nk ck keep w h hs1 hs2 hs3 hk hkn hr hd hl he hat rm1 lf1 l1 dn1 hr1 rm2 lf2 l2 dn2 hr2 rm3 lf3 l3 dn3 hr3 rm4 lf4 l4 dn4 hr4 rm5 lf5 l5 dn5 hr5 hq1 rfl
              | false =>
                clear hc
                subst hcut
                obtain ⟨⟨⟨rm4, l4, lf4, dn4⟩, x4⟩, hr4⟩ : ∃ r, renameD ⟨rm2, l2, lf2, dn2⟩ nm dst = r := ⟨_, rfl⟩
                rw [hr4] at hn
                dsimp only at hn
                rcases hn with rfl | ⟨rfl, hn⟩
                · exact rens_bad a n c d nm dst more false ak nk ck keep w h hs1 hs2 hs3 hk hkn hr hd hl he hat rm1 lf1 l1 dn1 hr1 rm2 lf2 l2 dn2 hr2 rm4 lf4 l4 dn4 hr4 rfl
                · obtain ⟨⟨⟨rm5, l5, lf5, dn5⟩, x5⟩, hr5⟩ : ∃ r, crashD ⟨rm4, l4, lf4, dn4⟩ keep = r := ⟨_, rfl⟩
                  rw [hr5] at hn
                  dsimp only at hn
                  obtain ⟨rfl, hq1, hq2⟩ := hn
                  obtain ⟨⟨sx, x6⟩, hq⟩ : ∃ r, readD ⟨rm5, l5, lf5, dn5⟩ nm = r := ⟨_, rfl⟩
                  rw [hq] at hq2
                  dsimp only at hq2
                  subst hq2
                  exact rens_ok a n c d nm dst more false ak nk ck keep w h hs1 hs2 hs3 hk hkn hr hd hl he hat rm1 lf1 l1 dn1 hr1 rm2 lf2 l2 dn2 hr2 rm4 lf4 l4 dn4 hr4 rm5 lf5 l5 dn5 hr5 hq1 sx hq rfl
  · exact rens_no0 a n c d nm dst more cut ak nk ck keep w h hs1 hs2 hs3 hk hkn (by simpa using hr)
theorem diskRenames_walk (a : Option Addr) (n c : Nat) (d : Dk) (nm dst more : ByteArray) (cut : Bool) (ak : Option Addr) (nk ck : Nat) (keep : List Int) (w : World) (h : DkAt w a n c d) (hs1 : nm.size ≤ maxLen) (hs2 : dst.size ≤ maxLen) (hs3 : more.size ≤ maxLen) (hk : SlAt w ak nk (i64s keep) ∧ nk ≤ 100000000000000) :
    Calls Try.prog 6 #[d.val a n c, .string nm, .string dst, .string more, .bool cut, .slice ak nk ck] w fun e w' => e = .returned (.bool true) ∧ Below w.heap.size w w' :=
  rens_any a n c d nm dst more cut ak nk ck keep w h hs1 hs2 hs3 hk.1 hk.2
end Go.Proofs.Ytjppommhamaibaa
