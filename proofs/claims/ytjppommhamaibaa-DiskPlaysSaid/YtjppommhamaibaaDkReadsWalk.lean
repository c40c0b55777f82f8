/-
  The walk of the law DiskReads: it says true; new blocks alone are made; the texts within reach. (Written by wip/mkreads.py.)
-/
import Derived.Test.YtjppommhamaibaaDkV
import Derived.Test.YtjppommhamaibaaDkW
import Derived.Deep.RegionWith
import Derived.Deep.DeepCutAuto
import Derived.Deep.CutBlock
namespace Go.Proofs.Ytjppommhamaibaa
open Go.RowKit Go.BigFrame
set_option linter.unusedVariables false

theorem box_no_string {w : World} {B : Nat} {r lf : Int} {a : Option Addr} {n c : Nat} {dn : Bool} (h : Four w B 24 (.int .i64 r) (.slice a n c) (.int .i64 lf) (.bool dn)) (off : Nat) (s : ByteArray) : w.cell? ⟨B, off, none⟩ ≠ some (.string s) := by
  match off with
  | 0 => rw [h.c0]; simp
  | 1 => rw [h.c1]; simp
  | 2 => rw [h.c2]; simp
  | 3 => rw [h.c3]; simp
  | k + 4 =>
    have h' : w.heap[B]? = some (.cells #[.int .i64 r, .slice a n c, .int .i64 lf, .bool dn] 24 (0, 0)) := h
    unfold World.cell?
    rw [h']
    simp
theorem DkAt.setBox {w : World} {a a' : Option Addr} {n c n' c' B : Nat} {d : Dk} {r lf : Int} {dn : Bool} (h : DkAt w a n c d) (hb : Four w B 24 (.int .i64 r) (.slice a' n' c') (.int .i64 lf) (.bool dn)) (o : Nat) (u : Value) : DkAt (w.setCell ⟨B, o, none⟩ u) a n c d := by
  refine { h with sl := ⟨h.sl.1, ?_⟩ }
  rcases h.sl.2 with h0 | ⟨b, off, ha, hc⟩
  · exact .inl h0
  · by_cases he : d.files = []
    · exact .inl he
    · have hpos : 0 < d.files.length := List.length_pos_iff.2 he
      have hne : b ≠ B := fun e => by
        subst e
        have h1 := hc 0 hpos 0 (.string d.files[0].nm) rfl
        exact box_no_string hb _ _ h1
      exact .inr ⟨b, off, ha, fun i hi j v hv => by rw [World.cell?_setCell_other w _ _ _ (fun e => hne (congrArg Addr.block e).symm)]; exact hc i hi j v hv⟩

set_option maxRecDepth 100000 in
set_option maxHeartbeats 2000000 in
theorem reads_wrong (a : Option Addr) (n c : Nat) (d : Dk) (nm : ByteArray) (left : Int) (ak : Option Addr) (nk ck : Nat) (keep : List Int) (w : World) (h : DkAt w a n c d) (hs : nm.size ≤ maxLen) (hl : -9223372036854775808 ≤ left ∧ left ≤ 9223372036854775807) (hk : SlAt w ak nk (i64s keep)) (hkn : nk ≤ 100000000000000) (hr : rightD d = false) :
    Calls Try.prog 4 #[d.val a n c, .string nm, .int .i64 left, .slice ak nk ck] w fun e w' => e = .returned (.bool true) ∧ Below w.heap.size w w' := by
  have hrd : readD d nm = (⟨#[]⟩, 1) := by
    have h1 : readyD d [nm] = 1 := by unfold readyD; rw [if_pos (.inl hr)]
    unfold readD
    rw [h1, if_pos (by decide)]
  have hct : cutD d left = (Dk.zero, 1) := by unfold cutD; rw [if_pos (.inl hr)]
  have hcs : crashD d keep = (Dk.zero, 1) := by unfold crashD; rw [if_pos hr]
  have hA : Below w.heap.size w (w.alloc (.cells #[.int .i64 d.room, .slice a n c, .int .i64 d.left, .bool d.down] 24)) := (Below.refl _ w).alloc (Nat.le_refl _) _
  have HA := Lib.hid hA
  have HBX := Lib.hid (DkBox.new w d a n c)
  have H := Lib.hid h
  have HK := Lib.hid hk
  have hread := Lib.hid (read_any a n c d nm _ (h.keep hA) hs ⟨#[]⟩ 1 (Lib.hid hrd.symm))
  have hcut := Lib.hid (fun (W : World) (hb : Below w.heap.size w W) => cut_any a n c d left W (h.keep hb))
  have hcr := Lib.hid (fun (W : World) (hb : Below w.heap.size w W) => crash_any a n c d ak nk ck keep W (h.keep hb) (hk.keep hb) hkn)
  have hrt := Lib.hid (fun (W : World) (hb : Below w.heap.size w W) => refRight_any a n c d W (h.keep hb) false (Lib.hid hr.symm))
  rw [hct] at hcut
  rw [hcs] at hcr
  clear hA h hk
  obtain ⟨rm, l, lf, dn⟩ := d
  unfold Dk.val at *
  dsimp only at *
  go_enter Try.func4, Try.ntmps4
  go_wp2_with fail
  refine hread.out.mono ?_
  rintro e w1 ⟨rfl, hb1⟩
  have HB1 := Lib.hid (below_then HA.out hb1 HA.out.size)
  have HX1 := Lib.hid (HBX.out.keep hb1)
  have x := HX1.out
  have q0 := x.c0; have q1 := x.c1; have q2 := x.c2; have q3 := x.c3
  clear hb1 x
  go_wp2_with fail
  refine (hcut.out w1 HB1.out).mono ?_
  rintro e w2 ⟨a2, n2, c2, rfl, hd2, hb2⟩
  have hb2' := below_then HB1.out hb2 HB1.out.size
  unfold Dk.val
  try unfold Dk.zero
  dsimp only
  have hal := (Below.refl w2.heap.size w2).alloc (Nat.le_refl _) (.cells #[(.int .i64 0), .slice a2 n2 c2, (.int .i64 0), .bool false] 24)
  have HB2 := Lib.hid (below_then hb2' hal hb2'.size)
  have hAw : w.heap.size < w2.heap.size := lt_of_block (HX1.out.keep hb2)
  have HX2 := Lib.hid ((HX1.out.keep hb2).alloc (.cells #[(.int .i64 0), .slice a2 n2 c2, (.int .i64 0), .bool false] 24))
  have HY2 := Lib.hid (Four.new w2 24 (.int .i64 0) (.slice a2 n2 c2) (.int .i64 0) (.bool false))
  have HD2 := Lib.hid (hd2.keep hal)
  have x := HX2.out
  clear q0 q1 q2 q3
  have q0 := x.c0; have q1 := x.c1; have q2 := x.c2; have q3 := x.c3
  clear hb2 hb2' hal hd2 x
  go_wp2_with fail
  refine (hcr.out _ HB2.out).mono ?_
  rintro e w3 ⟨a3, n3, c3, rfl, hd3, hb3⟩
  have hb3' := below_then HB2.out hb3 HB2.out.size
  unfold Dk.val
  try unfold Dk.zero
  dsimp only
  have hal := (Below.refl w3.heap.size w3).alloc (Nat.le_refl _) (.cells #[(.int .i64 0), .slice a3 n3 c3, (.int .i64 0), .bool false] 24)
  have HB3 := Lib.hid (below_then hb3' hal hb3'.size)
  have HX3 := Lib.hid ((Four.keep HX2.out hb3).alloc (.cells #[(.int .i64 0), .slice a3 n3 c3, (.int .i64 0), .bool false] 24))
  have HY3 := Lib.hid ((Four.keep HY2.out hb3).alloc (.cells #[(.int .i64 0), .slice a3 n3 c3, (.int .i64 0), .bool false] 24))
  have HZ3 := Lib.hid (Four.new w3 24 (.int .i64 0) (.slice a3 n3 c3) (.int .i64 0) (.bool false))
  have HD3 := Lib.hid (hd3.keep hal)
  have HE3 := Lib.hid ((HD2.out.keep hb3).keep hal)
  have hsz3 : w2.heap.size < w3.heap.size := by have := hb3.size; simp at this; omega
  have x := HX3.out
  clear q0 q1 q2 q3
  have q0 := x.c0; have q1 := x.c1; have q2 := x.c2; have q3 := x.c3
  obtain ⟨A1, hA1⟩ : ∃ A1, A1 = w2.heap.size := ⟨_, rfl⟩
  obtain ⟨B1, hB1⟩ : ∃ B1, B1 = w3.heap.size := ⟨_, rfl⟩
  rw [← hA1] at HY3 hAw
  rw [← hB1] at HZ3
  have HAB := Lib.hid (And.intro hA1 hB1)
  clear hb3 hb3' hal hd3 hA1 hB1 x
  go_wp2_with fail
  rw [← HAB.out.1, ← HAB.out.2]
  refine (hrt.out _ HB3.out).mono ?_
  rintro e w4 ⟨rfl, hb4⟩
  have HB4 := Lib.hid (below_then HB3.out hb4 HB3.out.size)
  have HX4 := Lib.hid (Four.keep HX3.out hb4)
  have HY4 := Lib.hid (Four.keep HY3.out hb4)
  have HZ4 := Lib.hid (Four.keep HZ3.out hb4)
  have HD4 := Lib.hid (HD3.out.keep hb4)
  have HE4 := Lib.hid (HE3.out.keep hb4)
  clear hb4 q0 q1 q2 q3 hsz3
  clear HX1 HX2 HX3 HY2 HY3 HZ3 HD2 HD3 HE3 HB1 HB2 HB3 hread hcut hcr hrt HAB
  go_wp2_with fail
  refine (alive_any w4).mono ?_
  rintro e w5 ⟨rfl, hb5⟩
  have HB5 := Lib.hid (below_then HB4.out hb5 HB4.out.size)
  have y := Four.keep HY4.out hb5
  have HZ5 := Lib.hid (Four.keep HZ4.out hb5)
  have HD5 := Lib.hid (HD4.out.keep hb5)
  have HE5 := Lib.hid (HE4.out.keep hb5)
  have y0 := y.c0; have y1 := y.c1; have y2 := y.c2; have y3 := y.c3
  clear y hb5
  have hl1 := Lib.hid (refLike_same a2 n2 c2 none 0 0 Dk.zero w5 HE5.out (DkAt.zero w5))
  unfold Dk.val Dk.zero at hl1
  dsimp only at hl1
  go_wp2_with fail
  refine hl1.out.mono ?_
  rintro e w6 ⟨rfl, hb6⟩
  have HB6 := Lib.hid (below_then HB5.out hb6 HB5.out.size)
  have z := Four.keep HZ5.out hb6
  have z0 := z.c0; have z1 := z.c1; have z2 := z.c2; have z3 := z.c3
  have hl2 := Lib.hid (refLike_same a3 n3 c3 none 0 0 Dk.zero w6 (HD5.out.keep hb6) (DkAt.zero w6))
  unfold Dk.val Dk.zero at hl2
  dsimp only at hl2
  clear z hb6 y0 y1 y2 y3
  go_wp2_with fail
  refine hl2.out.mono ?_
  rintro e w7 ⟨rfl, hb7⟩
  have HB7 := Lib.hid (below_then HB6.out hb7 HB6.out.size)
  clear hb7 z0 z1 z2 z3
  go_wp2_with fail
  go_ret
  exact ⟨rfl, HB7.out⟩

set_option maxRecDepth 100000 in
set_option maxHeartbeats 4000000 in
theorem reads_right (a : Option Addr) (n c : Nat) (d : Dk) (nm : ByteArray) (left : Int) (ak : Option Addr) (nk ck : Nat) (keep : List Int) (w : World) (h : DkAt w a n c d) (hs : nm.size ≤ maxLen) (hl : -9223372036854775808 ≤ left ∧ left ≤ 9223372036854775807) (hk : SlAt w ak nk (i64s keep)) (hkn : nk ≤ 100000000000000) (hr : rightD d = true) :
    Calls Try.prog 4 #[d.val a n c, .string nm, .int .i64 left, .slice ak nk ck] w fun e w' => e = .returned (.bool true) ∧ Below w.heap.size w w' := by
  obtain ⟨s, e0, hrd⟩ : ∃ s e0, readD d nm = (s, e0) := ⟨_, _, rfl⟩
  obtain ⟨ra, lA, lfa, dna, fa, hct⟩ : ∃ ra lA lfa dna fa, cutD d left = (⟨ra, lA, lfa, dna⟩, fa) := ⟨_, _, _, _, _, rfl⟩
  obtain ⟨rmc, lc, lfc, dnc, hcd⟩ : ∃ rmc lc lfc dnc, crashed d keep = ⟨rmc, lc, lfc, dnc⟩ := ⟨_, _, _, _, rfl⟩
  have hcs : crashD d keep = (⟨rmc, lc, lfc, dnc⟩, 0) := by unfold crashD; rw [if_neg (by simp [hr]), hcd]
  have hrc := Lib.hid (fun (W : World) (hb : Below w.heap.size w W) => hcd ▸ refCrash_any a n c d ak nk ck keep W (h.keep hb) (hk.keep hb) hkn hr)
  have hA : Below w.heap.size w (w.alloc (.cells #[.int .i64 d.room, .slice a n c, .int .i64 d.left, .bool d.down] 24)) := (Below.refl _ w).alloc (Nat.le_refl _) _
  have HA := Lib.hid hA
  have HBX := Lib.hid (DkBox.new w d a n c)
  have H := Lib.hid h
  have HK := Lib.hid hk
  have hread := Lib.hid (read_any a n c d nm _ (h.keep hA) hs s e0 (Lib.hid hrd.symm))
  have hcut := Lib.hid (fun (W : World) (hb : Below w.heap.size w W) => cut_any a n c d left W (h.keep hb))
  have hcr := Lib.hid (fun (W : World) (hb : Below w.heap.size w W) => crash_any a n c d ak nk ck keep W (h.keep hb) (hk.keep hb) hkn)
  have hrt := Lib.hid (fun (W : World) (hb : Below w.heap.size w W) => refRight_any a n c d W (h.keep hb) true (Lib.hid hr.symm))
  rw [hct] at hcut
  rw [hcs] at hcr
  clear hA h hk
  have HCT := Lib.hid hct
  have HRD := Lib.hid hrd
  have HR := Lib.hid hr
  clear hct hrd hr hcd hcs
  obtain ⟨rm, l, lf, dn⟩ := d
  unfold Dk.val at *
  dsimp only at *
  go_enter Try.func4, Try.ntmps4
  go_wp2_with fail
  refine hread.out.mono ?_
  rintro e w1 ⟨rfl, hb1⟩
  have HB1 := Lib.hid (below_then HA.out hb1 HA.out.size)
  have HX1 := Lib.hid (HBX.out.keep hb1)
  have x := HX1.out
  have q0 := x.c0; have q1 := x.c1; have q2 := x.c2; have q3 := x.c3
  clear hb1 x
  go_wp2_with fail
  refine (hcut.out w1 HB1.out).mono ?_
  rintro e w2 ⟨a2, n2, c2, rfl, hd2, hb2⟩
  have hb2' := below_then HB1.out hb2 HB1.out.size
  unfold Dk.val
  try unfold Dk.zero
  dsimp only
  have hal := (Below.refl w2.heap.size w2).alloc (Nat.le_refl _) (.cells #[(.int .i64 ra), .slice a2 n2 c2, (.int .i64 lfa), .bool dna] 24)
  have HB2 := Lib.hid (below_then hb2' hal hb2'.size)
  have hAw : w.heap.size < w2.heap.size := lt_of_block (HX1.out.keep hb2)
  have HX2 := Lib.hid ((HX1.out.keep hb2).alloc (.cells #[(.int .i64 ra), .slice a2 n2 c2, (.int .i64 lfa), .bool dna] 24))
  have HY2 := Lib.hid (Four.new w2 24 (.int .i64 ra) (.slice a2 n2 c2) (.int .i64 lfa) (.bool dna))
  have HD2 := Lib.hid (hd2.keep hal)
  have x := HX2.out
  clear q0 q1 q2 q3
  have q0 := x.c0; have q1 := x.c1; have q2 := x.c2; have q3 := x.c3
  clear hb2 hb2' hal hd2 x
  go_wp2_with fail
  refine (hcr.out _ HB2.out).mono ?_
  rintro e w3 ⟨a3, n3, c3, rfl, hd3, hb3⟩
  have hb3' := below_then HB2.out hb3 HB2.out.size
  unfold Dk.val
  try unfold Dk.zero
  dsimp only
  have hal := (Below.refl w3.heap.size w3).alloc (Nat.le_refl _) (.cells #[(.int .i64 rmc), .slice a3 n3 c3, (.int .i64 lfc), .bool dnc] 24)
  have HB3 := Lib.hid (below_then hb3' hal hb3'.size)
  have HX3 := Lib.hid ((Four.keep HX2.out hb3).alloc (.cells #[(.int .i64 rmc), .slice a3 n3 c3, (.int .i64 lfc), .bool dnc] 24))
  have HY3 := Lib.hid ((Four.keep HY2.out hb3).alloc (.cells #[(.int .i64 rmc), .slice a3 n3 c3, (.int .i64 lfc), .bool dnc] 24))
  have HZ3 := Lib.hid (Four.new w3 24 (.int .i64 rmc) (.slice a3 n3 c3) (.int .i64 lfc) (.bool dnc))
  have HD3 := Lib.hid (hd3.keep hal)
  have HE3 := Lib.hid ((HD2.out.keep hb3).keep hal)
  have hsz3 : w2.heap.size < w3.heap.size := by have := hb3.size; simp at this; omega
  have x := HX3.out
  clear q0 q1 q2 q3
  have q0 := x.c0; have q1 := x.c1; have q2 := x.c2; have q3 := x.c3
  obtain ⟨A1, hA1⟩ : ∃ A1, A1 = w2.heap.size := ⟨_, rfl⟩
  obtain ⟨B1, hB1⟩ : ∃ B1, B1 = w3.heap.size := ⟨_, rfl⟩
  rw [← hA1] at HY3 hAw
  rw [← hB1] at HZ3
  have HAB := Lib.hid (And.intro hA1 hB1)
  clear hb3 hb3' hal hd3 hA1 hB1 x
  go_wp2_with fail
  rw [← HAB.out.1, ← HAB.out.2]
  refine (hrt.out _ HB3.out).mono ?_
  rintro e w4 ⟨rfl, hb4⟩
  have HB4 := Lib.hid (below_then HB3.out hb4 HB3.out.size)
  have HX4 := Lib.hid (Four.keep HX3.out hb4)
  have HY4 := Lib.hid (Four.keep HY3.out hb4)
  have HZ4 := Lib.hid (Four.keep HZ3.out hb4)
  have HD4 := Lib.hid (HD3.out.keep hb4)
  have HE4 := Lib.hid (HE3.out.keep hb4)
  clear hb4 q0 q1 q2 q3 hsz3
  clear HX1 HX2 HX3 HY2 HY3 HZ3 HD2 HD3 HE3 HB1 HB2 HB3 hread hcut hcr hrt HAB
  go_upto_region 6 with fail
  go_cut [81] (fun v wx => v = .bool false ∧ Hid (Below w.heap.size w wx) ∧ Hid (Four wx w.heap.size 24 (.int .i64 rm) (.slice a n c) (.int .i64 lf) (.bool dn)) ∧ Hid (Four wx A1 24 (.int .i64 ra) (.slice a2 n2 c2) (.int .i64 lfa) (.bool dna)) ∧ Hid (DkAt wx a2 n2 c2 ⟨ra, lA, lfa, dna⟩))
  case first =>
    go_region_with (first
      | (go_at_call 10
         refine (alive_any _).mono ?_
         rintro e w5 ⟨rfl, hb5⟩
         have HB5 := Lib.hid (below_then (below_drewN HB4.out 1) hb5 HB4.out.size)
         have z5 := Four.keep (Four.drewN HZ4.out 1) hb5
         have x5 := Four.keep (Four.drewN HX4.out 1) hb5
         have HZ5 := Lib.hid z5
         have HX5 := Lib.hid x5
         have HY5 := Lib.hid (Four.keep (Four.drewN HY4.out 1) hb5)
         have HBD := Lib.hid (below_then (below_drewN (Below.refl w4.heap.size w4) 1) hb5 (Nat.le_refl _))
         have z0 := z5.c0; have z1 := z5.c1; have z2 := z5.c2; have z3 := z5.c3
         have q0 := x5.c0; have q1 := x5.c1; have q2 := x5.c2; have q3 := x5.c3
         clear hb5 z5 x5)
      | (go_at_call 16
         refine (hrc.out _ HB5.out).mono ?_
         rintro e w6 ⟨a6, n6, c6, rfl, hd6, hb6⟩
         have HB6 := Lib.hid (below_then HB5.out hb6 HB5.out.size)
         have z6 := Four.keep HZ5.out hb6
         have HX6 := Lib.hid (Four.keep HX5.out hb6)
         have HY6 := Lib.hid (Four.keep HY5.out hb6)
         have HD6 := Lib.hid hd6
         have HB56 := Lib.hid hb6
         clear z0 z1 z2 z3 q0 q1 q2 q3
         have z0 := z6.c0; have z1 := z6.c1; have z2 := z6.c2; have z3 := z6.c3
         unfold Dk.val
         try dsimp only
         clear hd6 hb6 z6)
      | (go_at_call 15
         have hlk := refLike_same a3 n3 c3 a6 n6 c6 ⟨rmc, lc, lfc, dnc⟩ w6 ((HD4.out.keep (w' := w5) HBD.out).keep HB56.out) HD6.out
         unfold Dk.val at hlk
         try dsimp only at hlk
         refine hlk.mono ?_
         rintro e w7 ⟨rfl, hb7⟩
         have HB7 := Lib.hid (below_then HB6.out hb7 HB6.out.size)
         have x7 := Four.keep HX6.out hb7
         have HX7 := Lib.hid x7
         have HY7 := Lib.hid (Four.keep HY6.out hb7)
         have HE7 := Lib.hid (((HE4.out.keep (w' := w5) HBD.out).keep HB56.out).keep hb7)
         have q0 := x7.c0; have q1 := x7.c1; have q2 := x7.c2; have q3 := x7.c3
         clear hlk hb7 x7))
    all_goals (go_wp2_with fail; go_meet; exact ⟨rfl, HB7, HX7, HY7, HE7⟩)
  case rest =>
    obtain ⟨rfl, HB7, HX7, HY7, HE7⟩ := hcut
    clear HB4 HX4 HY4 HZ4 HD4 HE4 HA HBX hrc
    have x7 := HX7.out
    have q0 := x7.c0; have q1 := x7.c1; have q2 := x7.c2; have q3 := x7.c3
    obtain ⟨k0, hk0⟩ : ∃ k0, k0 = atL l nm := ⟨_, rfl⟩
    have hat := Lib.hid (refAt_any a n c ⟨rm, l, lf, dn⟩ nm _ (H.out.keep HB7.out) k0 (Lib.hid hk0))
    unfold Dk.val at hat
    dsimp only at hat
    have HK0 := Lib.hid hk0
    clear hk0 x7
    go_upto_block 0 with (first | (go_at_call 17; refine hat.out.mono ?_; rintro e w8 ⟨rfl, hb8⟩))
    have HB8 := Lib.hid (below_then HB7.out hb8 HB7.out.size)
    have HX8 := Lib.hid (Four.keep HX7.out hb8)
    have HY8 := Lib.hid (Four.keep HY7.out hb8)
    have HE8 := Lib.hid (HE7.out.keep hb8)
    clear hb8 q0 q1 q2 q3
    go_cut [15, 16] (fun v15 v16 wx => v15 = .string s ∧ v16 = .int .i64 e0 ∧ Hid (Below w.heap.size w wx) ∧ Hid (Four wx w.heap.size 24 (.int .i64 rm) (.slice a n c) (.int .i64 lf) (.bool dn)) ∧ Hid (Four wx A1 24 (.int .i64 ra) (.slice a2 n2 c2) (.int .i64 lfa) (.bool dna)) ∧ Hid (DkAt wx a2 n2 c2 ⟨ra, lA, lfa, dna⟩))
    case first =>
      have hnmc := Lib.hid (fun (v : Bool) (hv : Hid (v = nmOk nm)) (W : World) => refName_any nm hs W v hv)
      have x8 := HX8.out
      have q0 := x8.c0; have q1 := x8.c1; have q2 := x8.c2; have q3 := x8.c3
      clear x8
      cases hnm : nmOk nm with
      | false =>
        have hv : s = ⟨#[]⟩ ∧ e0 = 1 := by
          have h1 : readyD ⟨rm, l, lf, dn⟩ [nm] = 1 := by unfold readyD; rw [if_pos (.inr (by simp [hnm]))]
          have h2 := HRD.out
          unfold readD at h2
          rw [h1, if_pos (by decide)] at h2
          exact ⟨(Prod.mk.inj h2).1.symm, (Prod.mk.inj h2).2.symm⟩
        obtain ⟨rfl, rfl⟩ := hv
        have hc := Lib.hid (hnmc.out false (Lib.hid hnm.symm))
        clear hnm hnmc
        go_wp2_with fail
        refine (hc.out _).mono ?_
        rintro e w9 ⟨rfl, rfl⟩
        go_wp2_with fail
        go_meet
        exact ⟨rfl, rfl, HB8, HX8, HY8, HE8⟩
      | true =>
        have hc := Lib.hid (hnmc.out true (Lib.hid hnm.symm))
        have hne : ¬ (rightD ⟨rm, l, lf, dn⟩ = false ∨ [nm].all nmOk = false) := by rw [HR.out]; simp [hnm]
        cases dn with
        | true =>
          have hv : s = ⟨#[]⟩ ∧ e0 = 132 := by
            have h1 : readyD ⟨rm, l, lf, true⟩ [nm] = 132 := by unfold readyD; rw [if_neg hne, if_pos rfl]
            have h2 := HRD.out
            unfold readD at h2
            rw [h1, if_pos (by decide)] at h2
            exact ⟨(Prod.mk.inj h2).1.symm, (Prod.mk.inj h2).2.symm⟩
          obtain ⟨rfl, rfl⟩ := hv
          clear hnm hnmc hne
          go_wp2_with fail
          refine (hc.out _).mono ?_
          rintro e w9 ⟨rfl, rfl⟩
          go_wp2_with fail
          go_meet
          exact ⟨rfl, rfl, HB8, HX8, HY8, HE8⟩
        | false =>
          have h1 : readyD ⟨rm, l, lf, false⟩ [nm] = 0 := by unfold readyD; rw [if_neg hne, if_neg (by simp)]
          have h2 := HRD.out
          unfold readD at h2
          rw [h1, if_neg (by decide), ← HK0.out] at h2
          by_cases hk : k0 < 0
          · rw [if_pos hk] at h2
            obtain ⟨rfl, rfl⟩ : s = ⟨#[]⟩ ∧ e0 = 60 := ⟨(Prod.mk.inj h2).1.symm, (Prod.mk.inj h2).2.symm⟩
            clear hnm hnmc hne h1 h2
            go_wp2_with fail
            refine (hc.out _).mono ?_
            rintro e w9 ⟨rfl, rfl⟩
            go_wp2_with fail
            go_meet
            exact ⟨rfl, rfl, HB8, HX8, HY8, HE8⟩
          · rw [if_neg hk] at h2
            obtain ⟨j, hj, hj1, hj2, hj3⟩ := atL_lt (l := l) (nm := nm) (by rw [← HK0.out]; exact hk)
            have hkj : k0 = (j : Int) := HK0.out.trans hj1
            dsimp only at h2
            rw [hj3] at h2
            have hln := H.out.len
            dsimp only at hln
            have hjn : (j : Int) < (n : Int) := by omega
            obtain ⟨-, b, off, hab, hcells⟩ := fl_at (H.out.sl.keep HB8.out) (by omega)
            obtain ⟨-, c1, c2'⟩ := hcells j hj
            obtain ⟨-, s1, s2⟩ := H.out.small l[j] (List.getElem_mem hj)
            dsimp only at c1 c2'
            obtain ⟨rfl, rfl⟩ : s = l[j].sy ++ l[j].ta ∧ e0 = 0 := ⟨(Prod.mk.inj h2).1.symm, (Prod.mk.inj h2).2.symm⟩
            generalize hsy : l[j].sy = o1 at *
            generalize hta : l[j].ta = o2 at *
            subst hab
            subst hkj
            have hj0 : ¬ ((j : Int) < 0) := by omega
            clear hnm hnmc hne h1 h2 hj1 hj2 hj3 hk hln hcells hsy hta
            go_wp2_with fail
            refine (hc.out _).mono ?_
            rintro e w9 ⟨rfl, rfl⟩
            go_wp2_with fail
            go_quiet (fail)
            go_wp2_with fail
            go_meet
            exact ⟨rfl, rfl, Lib.hid (below_drewN HB8.out _), Lib.hid (Four.drewN HX8.out _), Lib.hid (Four.drewN HY8.out _), Lib.hid { HE8.out with sl := HE8.out.sl.drewN _ }⟩
    case rest =>
      obtain ⟨rfl, rfl, HB9, HX9, HY9, HE9⟩ := hcut
      clear HB7 HX7 HY7 HE7 HB8 HX8 HY8 HE8 hat HK0 HRD
      have x9 := HX9.out
      have y9 := HY9.out
      have q0 := x9.c0; have q1 := x9.c1; have q2 := x9.c2; have q3 := x9.c3
      have y0 := y9.c0; have y1 := y9.c1; have y2 := y9.c2; have y3 := y9.c3
      have f2 := x9.free 2
      have hA1 := lt_of_block y9
      have hB1 := lt_of_block x9
      clear x9 y9
      have ess : (s.toList == s.toList) = true := by simp
      have eee : (e0 != e0) = false := by simp
      by_cases hbad : left < -1 ∨ 1073741824 < left
      · have hv : (⟨ra, lA, lfa, dna⟩, fa) = (Dk.zero, (1 : Int)) := by rw [← HCT.out]; unfold cutD; rw [if_pos (.inr hbad)]
        obtain ⟨hv1, rfl⟩ := Prod.mk.inj hv
        have HV1 := Lib.hid hv1
        have hl1 := Lib.hid (fun (W : World) (hb : Below (World.heap _).size _ W) => refLike_same a2 n2 c2 none 0 0 ⟨ra, lA, lfa, dna⟩ W (HE9.out.keep hb) (HV1.out ▸ DkAt.zero W))
        have hv2 := hv1
        unfold Dk.zero at hv2
        obtain ⟨rfl, rfl, rfl, rfl⟩ := Dk.mk.inj hv2
        have hl2 := Lib.hid (hl1.out _ (Below.refl _ _))
        unfold Dk.val at hl2
        dsimp only at hl2
        clear hv hv1 hv2 hl1 HCT
        rcases hbad with hb1 | hb1
        · go_wp2_with fail
          refine hl2.out.mono ?_
          rintro e w10 ⟨rfl, hb10⟩
          have HB10 := Lib.hid (below_then HB9.out hb10 HB9.out.size)
          clear hb10
          go_wp2_with fail
          go_ret
          exact ⟨rfl, HB10.out⟩
        · have hb0 : ¬ left < -1 := by omega
          go_wp2_with fail
          refine hl2.out.mono ?_
          rintro e w10 ⟨rfl, hb10⟩
          have HB10 := Lib.hid (below_then HB9.out hb10 HB9.out.size)
          clear hb10
          go_wp2_with fail
          go_ret
          exact ⟨rfl, HB10.out⟩
      · have hb0 : ¬ left < -1 := fun h => hbad (.inl h)
        have hb1 : ¬ 1073741824 < left := fun h => hbad (.inr h)
        have hcn : ¬ (rightD ⟨rm, l, lf, dn⟩ = false ∨ left < -1 ∨ 1073741824 < left) := by rw [HR.out]; simp; omega
        clear hbad
        cases dn with
        | true =>
          have hv : (⟨ra, lA, lfa, dna⟩, fa) = (Dk.zero, (132 : Int)) := by rw [← HCT.out]; unfold cutD; rw [if_neg hcn, if_pos rfl]
          obtain ⟨hv1, rfl⟩ := Prod.mk.inj hv
          have HV1 := Lib.hid hv1
          have hl1 := Lib.hid (fun (W : World) (hb : Below (World.heap _).size _ W) => refLike_same a2 n2 c2 none 0 0 ⟨ra, lA, lfa, dna⟩ W (HE9.out.keep hb) (HV1.out ▸ DkAt.zero W))
          have hv2 := hv1
          unfold Dk.zero at hv2
          obtain ⟨rfl, rfl, rfl, rfl⟩ := Dk.mk.inj hv2
          have hl2 := Lib.hid (hl1.out _ (Below.refl _ _))
          unfold Dk.val at hl2
          dsimp only at hl2
          clear hv hv1 hv2 hl1 HCT hcn
          go_wp2_with fail
          refine hl2.out.mono ?_
          rintro e w10 ⟨rfl, hb10⟩
          have HB10 := Lib.hid (below_then HB9.out hb10 HB9.out.size)
          clear hb10
          go_wp2_with fail
          go_ret
          exact ⟨rfl, HB10.out⟩
        | false =>
          have hv : (⟨ra, lA, lfa, dna⟩, fa) = ((⟨rm, l, left, false⟩ : Dk), (0 : Int)) := by rw [← HCT.out]; unfold cutD; rw [if_neg hcn, if_neg (by simp)]
          obtain ⟨hv1, rfl⟩ := Prod.mk.inj hv
          obtain ⟨rfl, rfl, rfl, rfl⟩ := Dk.mk.inj hv1
          have hdn : Hid (∀ (W : World), Below w.heap.size w W → DkAt W a n c ⟨ra, lA, lfa, false⟩) := Lib.hid fun W hb => { H.out.keep hb with lw := hl }
          have hW := HB9.out.setCell (p := ⟨w.heap.size, 2, none⟩) (Nat.le_refl _) (.int .i64 lfa)
          have HW := Lib.hid hW
          have hl2 := Lib.hid (refLike_same a2 n2 c2 a n c ⟨ra, lA, lfa, false⟩ _ (DkAt.setBox HE9.out HX9.out 2 (.int .i64 lfa)) (hdn.out _ hW))
          have y9 := Four.kept HY9.out (grown_setCell wc w.heap.size 2 (.int .i64 lfa)) (by simp; omega)
          have x9 := Four.set2 HX9.out (.int .i64 lfa)
          clear q0 q1 q2 q3 y0 y1 y2 y3
          have z0 := y9.c0; have z1 := y9.c1; have z2 := y9.c2; have z3 := y9.c3
          have r0 := x9.c0; have r1 := x9.c1; have r2 := x9.c2; have r3 := x9.c3
          have q2 := (Four.c2 HX9.out)
          have q3 := (Four.c3 HX9.out)
          unfold Dk.val at hl2
          dsimp only at hl2
          clear hv hv1 HCT hcn hW y9 x9
          go_wp2_with fail
          refine hl2.out.mono ?_
          rintro e w10 ⟨rfl, hb10⟩
          have HB10 := Lib.hid (below_then HW.out hb10 HW.out.size)
          clear hb10
          go_wp2_with fail
          go_ret
          exact ⟨rfl, HB10.out⟩

theorem bounds_left {n : Int} (h : (Lit.int .i64 n).wf = true) : -9223372036854775808 ≤ n ∧ n ≤ 9223372036854775807 := bounds_i64' h
theorem diskReads_walk (a : Option Addr) (n c : Nat) (d : Dk) (nm : ByteArray) (left : Int) (ak : Option Addr) (nk ck : Nat) (keep : List Int) (w : World) (h : DkAt w a n c d) (hs : nm.size ≤ maxLen) (hl : (Lit.int .i64 left).wf = true) (hk : SlAt w ak nk (i64s keep) ∧ nk ≤ 100000000000000) :
    Calls Try.prog 4 #[d.val a n c, .string nm, .int .i64 left, .slice ak nk ck] w fun e w' => e = .returned (.bool true) ∧ Below w.heap.size w w' := by
  cases hr : rightD d with
  | true => exact reads_right a n c d nm left ak nk ck keep w h hs (bounds_left hl) hk.1 hk.2 hr
  | false => exact reads_wrong a n c d nm left ak nk ck keep w h hs (bounds_left hl) hk.1 hk.2 hr
end Go.Proofs.Ytjppommhamaibaa
