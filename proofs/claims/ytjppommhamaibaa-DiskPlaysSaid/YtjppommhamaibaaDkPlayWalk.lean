/-
  The walk of the law DiskPlays: it says true; new blocks alone are made; the texts within reach. (Written by wip/mkplay.py.)
-/
import Derived.Test.YtjppommhamaibaaOpenCalls
import Derived.Test.YtjppommhamaibaaDkReadsWalk
namespace Go.Proofs.Ytjppommhamaibaa
open Go.RowKit Go.BigFrame
set_option linter.unusedVariables false

theorem infoIntP : (Try.prog.info? 3).map (fun i => (i.zero, i.size, i.bytes)) = some (some (.int .i64 0), 1, 8) := by kernel_rfl
/-- What holds between two rounds: the disk's own box, and that the disk may be. -/
structure PlayRel (w wr : World) (a : Option Addr) (n c : Nat) (d : Dk) : Prop where
  below : Below w.heap.size w wr
  box : DkBox wr w.heap.size d a n c
  disk : DkAt wr a n c d
  right : rightD d = true
def RoomOf (room : Int) : Int := min (max room 0) 1048576
theorem play_start (w : World) (room : Int) : PlayRel w (w.alloc (.cells #[.int .i64 (RoomOf room), .slice none 0 0, .int .i64 (-1), .bool false] 24)) none 0 0 ⟨RoomOf room, [], -1, false⟩ where
  below := (Below.refl _ w).alloc (Nat.le_refl _) _
  box := DkBox.new w ⟨RoomOf room, [], -1, false⟩ none 0 0
  disk := ⟨Enc.Sl.nil _ _, Nat.le_refl _, Nat.zero_le _, fun _ => rfl, by decide, fun f hf => (by cases hf), by unfold RoomOf; dsimp only; omega, by dsimp only; omega⟩
  right := rightD_mk (by unfold RoomOf; dsimp only; omega) (by unfold RoomOf; dsimp only; omega) (by dsimp only [List.length_nil]; omega) (by dsimp only; omega) (by dsimp only; omega) (by unfold RoomOf; simp [szS]; omega) (fun f hf => (by cases hf)) List.Pairwise.nil
theorem callD_right (d : Dk) (what : Int) (nm more : ByteArray) : rightD (callD d what nm more).1 = true := by
  unfold callD
  split
  · exact write_right
  · split
    · exact sync_right
    · split
      · exact rename_right
      · exact remove_right
/-- The blocks that a round makes first: the call's own box, and two disks. -/
def pw (w : World) (what : Int) (nm more : ByteArray) (num : Int) : World := ((w.alloc (.cells #[.int .i64 what, .string nm, .string more, .int .i64 num] 44)).alloc (.cells #[.int .i64 0, .slice none 0 0, .int .i64 0, .bool false] 24)).alloc (.cells #[.int .i64 0, .slice none 0 0, .int .i64 0, .bool false] 24)
theorem pw_below (w : World) (what : Int) (nm more : ByteArray) (num : Int) : Below w.heap.size w (pw w what nm more num) := (((Below.refl _ w).alloc (Nat.le_refl _) _).alloc (by simp) _).alloc (by simp; omega) _
theorem pw_size (w : World) (what : Int) (nm more : ByteArray) (num : Int) : (pw w what nm more num).heap.size = w.heap.size + 3 := by unfold pw; simp
theorem pw_call (w : World) (what : Int) (nm more : ByteArray) (num : Int) : Four (pw w what nm more num) w.heap.size 44 (.int .i64 what) (.string nm) (.string more) (.int .i64 num) := ((Four.new w _ _ _ _ _).alloc _).alloc _
theorem pw_next (w : World) (what : Int) (nm more : ByteArray) (num : Int) : outBox (pw w what nm more num) (w.heap.size + 1) := by
  have h := Four.new (w.alloc (.cells #[.int .i64 what, .string nm, .string more, .int .i64 num] 44)) 24 (.int .i64 0) (.slice none 0 0) (.int .i64 0) (.bool false)
  rw [World.size_alloc] at h
  exact h.alloc _
theorem pw_want (w : World) (what : Int) (nm more : ByteArray) (num : Int) : outBox (pw w what nm more num) (w.heap.size + 1 + 1) := by
  have h := Four.new ((w.alloc (.cells #[.int .i64 what, .string nm, .string more, .int .i64 num] 44)).alloc (.cells #[.int .i64 0, .slice none 0 0, .int .i64 0, .bool false] 24)) 24 (.int .i64 0) (.slice none 0 0) (.int .i64 0) (.bool false)
  rw [World.size_alloc, World.size_alloc] at h
  exact h
/-- A world whose disk's box b is laid anew. -/
def put4 (w : World) (b : Nat) (d : Dk) (a : Option Addr) (n c : Nat) : World := (((w.setCell ⟨b, 0, none⟩ (.int .i64 d.room)).setCell ⟨b, 1, none⟩ (.slice a n c)).setCell ⟨b, 2, none⟩ (.int .i64 d.left)).setCell ⟨b, 3, none⟩ (.bool d.down)
/-- A box that holds a disk. -/
def Dbx (w : World) (b : Nat) : Prop := ∃ (d : Dk) (a : Option Addr) (n c : Nat), DkBox w b d a n c
theorem DkAt.put4 {w : World} {b : Nat} {d : Dk} {a : Option Addr} {n c : Nat} {d0 : Dk} {a0 : Option Addr} {n0 c0 : Nat} (h : DkAt w a0 n0 c0 d0) (hb : Dbx w b) : DkAt (put4 w b d a n c) a0 n0 c0 d0 := by
  obtain ⟨d', a', n', c', hb⟩ := hb
  have hb : Four w b 24 (.int .i64 d'.room) (.slice a' n' c') (.int .i64 d'.left) (.bool d'.down) := hb
  have h0 := DkAt.setDisk h hb 0 (.int .i64 d.room)
  have b0 := Four.set0 hb (.int .i64 d.room)
  have h1 := DkAt.setDisk h0 b0 1 (.slice a n c)
  have b1 := Four.set1 b0 (.slice a n c)
  have h2 := DkAt.setDisk h1 b1 2 (.int .i64 d.left)
  exact DkAt.setDisk h2 (Four.set2 b1 (.int .i64 d.left)) 3 (.bool d.down)
theorem box_put4 {w : World} {b : Nat} {d : Dk} {a : Option Addr} {n c : Nat} (hb : Dbx w b) : DkBox (put4 w b d a n c) b d a n c := by
  obtain ⟨d', a', n', c', hb⟩ := hb
  exact Four.all hb _ _ _ _
theorem four_put4 {w : World} {b b' : Nat} {d : Dk} {a : Option Addr} {n c : Nat} {t : TypeId} {v0 v1 v2 v3 : Value} (h : Four w b' t v0 v1 v2 v3) (hne : b' ≠ b) : Four (put4 w b d a n c) b' t v0 v1 v2 v3 :=
  h.kept (grown_four w b _ _ _ _) (fun e => hne (Option.some.inj e))
theorem below_put4 {w w1 : World} {b : Nat} {d : Dk} {a : Option Addr} {n c : Nat} (h : Below w.heap.size w w1) (hb : w.heap.size ≤ b) : Below w.heap.size w (put4 w1 b d a n c) := four_sets h hb _ _ _ _
theorem out_box {w : World} {b : Nat} (h : outBox w b) : Dbx w b := ⟨Dk.zero, none, 0, 0, h⟩
theorem Dbx.keep {w w' : World} {b : Nat} (h : Dbx w b) (hb : Below w.heap.size w w') : Dbx w' b := by
  obtain ⟨d, a, n, c, h⟩ := h
  exact ⟨d, a, n, c, Four.keep h hb⟩

set_option maxRecDepth 100000 in
set_option maxHeartbeats 1000000 in
theorem plays_any (room : Int) (ac : Option Addr) (nc cc : Nat) (l : List Lc) (w : World) (h : lcE.Sl w ac nc l) (ho : ∀ o ∈ l, o.ok) (hn : nc ≤ 3000000000000) :
    Calls Try.prog 7 #[.int .i64 room, .slice ac nc cc] w fun e w' => e = .returned (.bool true) ∧ Below w.heap.size w w' := by
  have H := Lib.hid h
  have HL := Lib.hid h.1
  have HO := Lib.hid ho
  have HS := Lib.hid (play_start w room)
  obtain ⟨rm, hrm⟩ : ∃ rm, rm = RoomOf room := ⟨_, rfl⟩
  rw [← hrm] at HS
  have HR := Lib.hid hrm
  clear h ho hrm
  go_enter Try.func7, Try.ntmps7
  go_wp2_with fail
  have hrm : min (max room 0) 1048576 = rm := HR.out.symm
  rw [hrm]
  clear hrm HR
  generalize w.alloc (.cells #[.int .i64 rm, .slice none 0 0, .int .i64 (-1), .bool false] 24) = W at *
  go_loopg [19] nc (fun gk i wr => ∃ k : Nat, k ≤ nc ∧ gk = nc - k ∧ i = .int .i64 (k : Int) ∧ ∃ a n c d, Hid (PlayRel w wr a n c d))
  case atStart => exact ⟨0, Nat.zero_le _, rfl, rfl, _, _, _, _, HS⟩
  case round =>
    obtain ⟨k, hk, rfl, rfl, a, n, c, d, hP⟩ := hrel
    by_cases hlt : k < nc
    · have hkl : k < l.length := by rw [← HL.out]; exact hlt
      obtain ⟨b, off, rfl, hc1⟩ := lc_at (H.out.keep hP.out.below) (by omega)
      obtain ⟨c0, c1, c2, c3⟩ := hc1 k hkl
      have hki : (k : Int) < (nc : Int) := by omega
      have hok := HO.out l[k] (List.getElem_mem hkl)
      obtain ⟨z1, z2, z3, z4⟩ := hok
      generalize l[k] = o at *
      obtain ⟨what, nm, more, num⟩ := o
      dsimp only at *
      clear hc1 HS
      by_cases hq1 : 60 ≤ (k : Int)
      · have b1 : decide (60 ≤ (k : Int)) = true := decide_eq_true hq1
        have HWB := Lib.hid (hP.out.below.alloc hP.out.below.size (.cells #[.int .i64 what, .string nm, .string more, .int .i64 num] 44))
        go_wp2_with fail
        refine (alive_any _).mono ?_
        rintro e wz ⟨rfl, hbz⟩
        have HBz := Lib.hid (below_then HWB.out hbz HWB.out.size)
        clear hbz
        go_wp2_with fail
        go_ret
        exact ⟨rfl, HBz.out⟩
      · have b1 : decide (60 ≤ (k : Int)) = false := decide_eq_false hq1
        by_cases hq2 : 3000 < (more.size : Int)
        · have b2 : decide (3000 < (more.size : Int)) = true := decide_eq_true hq2
          have HWB := Lib.hid (hP.out.below.alloc hP.out.below.size (.cells #[.int .i64 what, .string nm, .string more, .int .i64 num] 44))
          go_wp2_with fail
          refine (alive_any _).mono ?_
          rintro e wz ⟨rfl, hbz⟩
          have HBz := Lib.hid (below_then HWB.out hbz HWB.out.size)
          clear hbz
          go_wp2_with fail
          go_ret
          exact ⟨rfl, HBz.out⟩
        · have b2 : decide (3000 < (more.size : Int)) = false := decide_eq_false hq2
          by_cases h14 : 1 ≤ what ∧ what ≤ 4
          · obtain rfl | rfl | rfl | rfl : what = 1 ∨ what = 2 ∨ what = 3 ∨ what = 4 := by omega
            · have HN1 := Lib.hid (pw_next wr 1 nm more num)
              have HN2 := Lib.hid (pw_want wr 1 nm more num)
              have HNc := Lib.hid (pw_call wr 1 nm more num)
              have HB2 := Lib.hid (pw_below wr 1 nm more num)
              have HP2 := Lib.hid (hP.out.box.keep HB2.out)
              have HD2 := Lib.hid (hP.out.disk.keep HB2.out)
              have hAw := Lib.hid (lt_of_block hP.out.box)
              have h1 := Lib.hid (lawCall_any a n c d 1 nm more num _ HD2.out (by omega) z1 (by omega))
              have hrt := callD_right d 1 nm more
              have HWB := Lib.hid hP.out.below
              have HRD := Lib.hid hP.out.right
              have h2 := Lib.hid (fun (V : World) (hV : DkAt V a n c d) => refCall_any a n c d 1 nm more V hV (by omega) z1 (by omega))
              clear hP
              obtain ⟨⟨⟨rm1, l1, lf1, dn1⟩, x1⟩, hr1⟩ : ∃ r, callD d 1 nm more = r := ⟨_, rfl⟩
              rw [hr1] at h1 h2 hrt
              clear hr1
              have HR1 := Lib.hid hrt
              clear hrt
              unfold pw at *
              unfold lcV at *
              obtain ⟨rm0, l0, lf0, dn0⟩ := d
              unfold Dk.val DkBox at *
              dsimp only at *
              have p := HP2.out
              have p0 := p.c0
              have p1 := p.c1
              have p2 := p.c2
              have p3 := p.c3
              clear p
              go_wp2_with fail
              refine h1.out.mono ?_
              rintro e w1 ⟨a1, n1, c1, rfl, hd1, hb1⟩
              have HBa := Lib.hid (below_then HB2.out hb1 HB2.out.size)
              have HPa := Lib.hid (Four.keep HP2.out hb1)
              have HNa := Lib.hid (Four.keep HN1.out hb1)
              have HNb := Lib.hid (Four.keep HN2.out hb1)
              have HNd := Lib.hid (Four.keep HNc.out hb1)
              have HDa := Lib.hid (HD2.out.keep hb1)
              have HDb := Lib.hid hd1
              clear hb1 hd1 HB2 HP2 HN1 HN2 HNc HD2 p0 p1 p2 p3 h1
              have o := HNa.out
              have of0 := o.free 0
              have of1 := o.free 1
              have of2 := o.free 2
              have of3 := o.free 3
              have o0 := o.c0
              have o1 := o.c1
              have o2 := o.c2
              have o3 := o.c3
              clear o
              unfold Dk.val
              dsimp only
              go_upto_region 14 with fail
              have hxw := HNa.out
              obtain ⟨V1, hV⟩ : ∃ V, V = put4 w1 (wr.heap.size + 1) ⟨rm1, l1, lf1, dn1⟩ a1 n1 c1 := ⟨_, rfl⟩
              have HBb := Lib.hid (show Below w.heap.size w V1 by rw [hV]; exact below_put4 (below_then HWB.out HBa.out HWB.out.size) (by have := hAw.out; omega))
              have HPb := Lib.hid (show Four V1 w.heap.size _ _ _ _ _ by rw [hV]; exact four_put4 HPa.out (by have := hAw.out; omega))
              have HNe := Lib.hid (show DkBox V1 (wr.heap.size + 1) ⟨rm1, l1, lf1, dn1⟩ a1 n1 c1 by rw [hV]; exact box_put4 (out_box HNa.out))
              have HN2b := Lib.hid (show outBox V1 (wr.heap.size + 1 + 1) by rw [hV]; exact four_put4 HNb.out (by omega))
              have HNf := Lib.hid (show Four V1 wr.heap.size _ _ _ _ _ by rw [hV]; exact four_put4 HNd.out (by omega))
              have HDc := Lib.hid (show DkAt V1 a n c ⟨rm0, l0, lf0, dn0⟩ by rw [hV]; exact HDa.out.put4 (out_box HNa.out))
              have HDd := Lib.hid (show DkAt V1 a1 n1 c1 ⟨rm1, l1, lf1, dn1⟩ by rw [hV]; exact HDb.out.put4 (out_box HNa.out))
              unfold put4 at hV
              dsimp only at hV
              rw [← hV]
              clear hV hxw o0 o1 o2 o3 of0 of1 of2 of3 HBa HPa HNa HNb HNd HDa HDb
              unfold DkBox at *
              dsimp only at *

              have p := HPb.out
              have p0 := p.c0
              have p1 := p.c1
              have p2 := p.c2
              have p3 := p.c3
              clear p
              have p := HNf.out
              have q0 := p.c0
              have q1 := p.c1
              have q2 := p.c2
              have q3 := p.c3
              clear p
              go_wp2_with fail
              refine (h2.out _ HDc.out).mono ?_
              rintro e w3 ⟨a2, n2, c2, rfl, hd3, hb3⟩
              have HBc := Lib.hid (below_then HBb.out hb3 HBb.out.size)
              have HPc := Lib.hid (Four.keep HPb.out hb3)
              have HNg := Lib.hid (Four.keep HNe.out hb3)
              have HNh := Lib.hid (Four.keep HN2b.out hb3)
              have HDe := Lib.hid (HDc.out.keep hb3)
              have HDf := Lib.hid (HDd.out.keep hb3)
              have HDg := Lib.hid hd3
              clear hb3 hd3 HBb HPb HNe HN2b HNf HDc HDd p0 p1 p2 p3 q0 q1 q2 q3 h2
              unfold Dk.val
              dsimp only
              have o := HNh.out
              have of0 := o.free 0
              have of1 := o.free 1
              have of2 := o.free 2
              have of3 := o.free 3
              have o0 := o.c0
              have o1 := o.c1
              have o2 := o.c2
              have o3 := o.c3
              clear o
              go_upto_region 29 with fail
              obtain ⟨V2, hV⟩ : ∃ V, V = put4 w3 (wr.heap.size + 1 + 1) ⟨rm1, l1, lf1, dn1⟩ a2 n2 c2 := ⟨_, rfl⟩
              have HBt := Lib.hid (show Below w.heap.size w V2 by rw [hV]; exact below_put4 HBc.out (by have := hAw.out; omega))
              have HPt := Lib.hid (show Four V2 w.heap.size _ _ _ _ _ by rw [hV]; exact four_put4 HPc.out (by have := hAw.out; omega))
              have HNt := Lib.hid (show Four V2 (wr.heap.size + 1) _ _ _ _ _ by rw [hV]; exact four_put4 HNg.out (by omega))
              have HWt := Lib.hid (show DkBox V2 (wr.heap.size + 1 + 1) ⟨rm1, l1, lf1, dn1⟩ a2 n2 c2 by rw [hV]; exact box_put4 (out_box HNh.out))
              have HDt := Lib.hid (show DkAt V2 a n c ⟨rm0, l0, lf0, dn0⟩ by rw [hV]; exact HDe.out.put4 (out_box HNh.out))
              have HD1t := Lib.hid (show DkAt V2 a1 n1 c1 ⟨rm1, l1, lf1, dn1⟩ by rw [hV]; exact HDf.out.put4 (out_box HNh.out))
              have HD2t := Lib.hid (show DkAt V2 a2 n2 c2 ⟨rm1, l1, lf1, dn1⟩ by rw [hV]; exact HDg.out.put4 (out_box HNh.out))
              unfold put4 at hV
              dsimp only at hV
              rw [← hV]
              clear hV o0 o1 o2 o3 of0 of1 of2 of3 HBc HPc HNg HNh HDe HDf HDg
              unfold DkBox at *
              dsimp only at *
              have bx : (x1 != x1) = false := by simp
              have hlk := Lib.hid (refLike_same a1 n1 c1 a2 n2 c2 ⟨rm1, l1, lf1, dn1⟩ V2 HD1t.out HD2t.out)
              unfold Dk.val at hlk
              dsimp only at hlk
              have p := HNt.out
              have p0 := p.c0
              have p1 := p.c1
              have p2 := p.c2
              have p3 := p.c3
              clear p
              have p := HWt.out
              have q0 := p.c0
              have q1 := p.c1
              have q2 := p.c2
              have q3 := p.c3
              clear p
              go_wp2_with fail
              refine hlk.out.mono ?_
              rintro e w5 ⟨rfl, hb5⟩
              have HBu := Lib.hid (below_then HBt.out hb5 HBt.out.size)
              have HPu := Lib.hid (Four.keep HPt.out hb5)
              have HNu := Lib.hid (Four.keep HNt.out hb5)
              have HDu := Lib.hid (HDt.out.keep hb5)
              have HD1u := Lib.hid (HD1t.out.keep hb5)
              clear hb5 p0 p1 p2 p3 q0 q1 q2 q3 hlk HBt HPt HNt HWt HDt HD1t HD2t bx
              have p := HPu.out
              have p0 := p.c0
              have p1 := p.c1
              have p2 := p.c2
              have p3 := p.c3
              clear p
              have p := HPu.out
              have pf0 := p.free 0
              have pf1 := p.free 1
              have pf2 := p.free 2
              have pf3 := p.free 3
              clear p
              have p := HNu.out
              have q0 := p.c0
              have q1 := p.c1
              have q2 := p.c2
              have q3 := p.c3
              clear p
              by_cases hx0 : x1 = 0
              · have e0 : (x1 == 0) = true := by simp [hx0]
                clear hx0
                go_upto_region 33 with fail
                obtain ⟨V3, hV⟩ : ∃ V, V = put4 w5 w.heap.size ⟨rm1, l1, lf1, dn1⟩ a1 n1 c1 := ⟨_, rfl⟩
                have hbx : Dbx w5 w.heap.size := ⟨⟨rm0, l0, lf0, _⟩, a, n, c, HPu.out⟩
                have HBv := Lib.hid (show Below w.heap.size w V3 by rw [hV]; exact below_put4 HBu.out (Nat.le_refl _))
                have HPv := Lib.hid (show DkBox V3 w.heap.size ⟨rm1, l1, lf1, dn1⟩ a1 n1 c1 by rw [hV]; exact box_put4 hbx)
                have HDv := Lib.hid (show DkAt V3 a1 n1 c1 ⟨rm1, l1, lf1, dn1⟩ by rw [hV]; exact HD1u.out.put4 hbx)
                unfold put4 at hV
                dsimp only at hV
                rw [← hV]
                clear hV p0 p1 p2 p3 pf0 pf1 pf2 pf3 q0 q1 q2 q3 hbx
                have p := HPv.out
                have p0 := p.c0
                have p1 := p.c1
                have p2 := p.c2
                have p3 := p.c3
                clear p
                go_wp2_with fail
                refine (right_any a1 n1 c1 ⟨rm1, l1, lf1, dn1⟩ V3 HDv.out true (Lib.hid HR1.out.symm)).mono ?_
                rintro e w6 ⟨rfl, hb6⟩
                have HPk := Lib.hid (PlayRel.mk (below_then HBv.out hb6 HBv.out.size) (DkBox.keep HPv.out hb6) (HDv.out.keep hb6) HR1.out)
                clear hb6
                go_wp2_with fail
                go_roundg (nc - (k + 1))
                case rel => exact ⟨k + 1, by omega, rfl, by go_num, _, _, _, _, HPk⟩
                case measure => omega
              · have e0 : (x1 == 0) = false := by simp [hx0]
                by_cases hx1 : x1 = 132
                · have e1 : (x1 == 132) = true := by simp [hx1]
                  clear hx0 hx1
                  cases dn0 with
                  | false =>
                    go_upto_region 33 with fail
                    obtain ⟨V3, hV⟩ : ∃ V, V = put4 w5 w.heap.size ⟨rm1, l1, lf1, dn1⟩ a1 n1 c1 := ⟨_, rfl⟩
                    have hbx : Dbx w5 w.heap.size := ⟨⟨rm0, l0, lf0, _⟩, a, n, c, HPu.out⟩
                    have HBv := Lib.hid (show Below w.heap.size w V3 by rw [hV]; exact below_put4 HBu.out (Nat.le_refl _))
                    have HPv := Lib.hid (show DkBox V3 w.heap.size ⟨rm1, l1, lf1, dn1⟩ a1 n1 c1 by rw [hV]; exact box_put4 hbx)
                    have HDv := Lib.hid (show DkAt V3 a1 n1 c1 ⟨rm1, l1, lf1, dn1⟩ by rw [hV]; exact HD1u.out.put4 hbx)
                    unfold put4 at hV
                    dsimp only at hV
                    rw [← hV]
                    clear hV p0 p1 p2 p3 pf0 pf1 pf2 pf3 q0 q1 q2 q3 hbx
                    have p := HPv.out
                    have p0 := p.c0
                    have p1 := p.c1
                    have p2 := p.c2
                    have p3 := p.c3
                    clear p
                    go_wp2_with fail
                    refine (right_any a1 n1 c1 ⟨rm1, l1, lf1, dn1⟩ V3 HDv.out true (Lib.hid HR1.out.symm)).mono ?_
                    rintro e w6 ⟨rfl, hb6⟩
                    have HPk := Lib.hid (PlayRel.mk (below_then HBv.out hb6 HBv.out.size) (DkBox.keep HPv.out hb6) (HDv.out.keep hb6) HR1.out)
                    clear hb6
                    go_wp2_with fail
                    go_roundg (nc - (k + 1))
                    case rel => exact ⟨k + 1, by omega, rfl, by go_num, _, _, _, _, HPk⟩
                    case measure => omega
                  | true =>
                    go_upto_region 33 with fail
                    go_wp2_with fail
                    refine (right_any a n c ⟨rm0, l0, lf0, true⟩ w5 HDu.out true (Lib.hid HRD.out.symm)).mono ?_
                    rintro e w6 ⟨rfl, hb6⟩
                    have HPk := Lib.hid (PlayRel.mk (d := ⟨rm0, l0, lf0, true⟩) (below_then HBu.out hb6 HBu.out.size) (Four.keep HPu.out hb6) (HDu.out.keep hb6) HRD.out)
                    clear hb6
                    go_wp2_with fail
                    go_roundg (nc - (k + 1))
                    case rel => exact ⟨k + 1, by omega, rfl, by go_num, _, _, _, _, HPk⟩
                    case measure => omega
                · have e1 : (x1 == 132) = false := by simp [hx1]
                  clear hx0 hx1
                  go_upto_region 33 with fail
                  go_wp2_with fail
                  refine (right_any a n c ⟨rm0, l0, lf0, dn0⟩ w5 HDu.out true (Lib.hid HRD.out.symm)).mono ?_
                  rintro e w6 ⟨rfl, hb6⟩
                  have HPk := Lib.hid (PlayRel.mk (d := ⟨rm0, l0, lf0, dn0⟩) (below_then HBu.out hb6 HBu.out.size) (Four.keep HPu.out hb6) (HDu.out.keep hb6) HRD.out)
                  clear hb6
                  go_wp2_with fail
                  go_roundg (nc - (k + 1))
                  case rel => exact ⟨k + 1, by omega, rfl, by go_num, _, _, _, _, HPk⟩
                  case measure => omega
            · have HN1 := Lib.hid (pw_next wr 2 nm more num)
              have HN2 := Lib.hid (pw_want wr 2 nm more num)
              have HNc := Lib.hid (pw_call wr 2 nm more num)
              have HB2 := Lib.hid (pw_below wr 2 nm more num)
              have HP2 := Lib.hid (hP.out.box.keep HB2.out)
              have HD2 := Lib.hid (hP.out.disk.keep HB2.out)
              have hAw := Lib.hid (lt_of_block hP.out.box)
              have h1 := Lib.hid (lawCall_any a n c d 2 nm more num _ HD2.out (by omega) z1 (by omega))
              have hrt := callD_right d 2 nm more
              have HWB := Lib.hid hP.out.below
              have HRD := Lib.hid hP.out.right
              have h2 := Lib.hid (fun (V : World) (hV : DkAt V a n c d) => refCall_any a n c d 2 nm more V hV (by omega) z1 (by omega))
              clear hP
              obtain ⟨⟨⟨rm1, l1, lf1, dn1⟩, x1⟩, hr1⟩ : ∃ r, callD d 2 nm more = r := ⟨_, rfl⟩
              rw [hr1] at h1 h2 hrt
              clear hr1
              have HR1 := Lib.hid hrt
              clear hrt
              unfold pw at *
              unfold lcV at *
              obtain ⟨rm0, l0, lf0, dn0⟩ := d
              unfold Dk.val DkBox at *
              dsimp only at *
              have p := HP2.out
              have p0 := p.c0
              have p1 := p.c1
              have p2 := p.c2
              have p3 := p.c3
              clear p
              go_wp2_with fail
              refine h1.out.mono ?_
              rintro e w1 ⟨a1, n1, c1, rfl, hd1, hb1⟩
              have HBa := Lib.hid (below_then HB2.out hb1 HB2.out.size)
              have HPa := Lib.hid (Four.keep HP2.out hb1)
              have HNa := Lib.hid (Four.keep HN1.out hb1)
              have HNb := Lib.hid (Four.keep HN2.out hb1)
              have HNd := Lib.hid (Four.keep HNc.out hb1)
              have HDa := Lib.hid (HD2.out.keep hb1)
              have HDb := Lib.hid hd1
              clear hb1 hd1 HB2 HP2 HN1 HN2 HNc HD2 p0 p1 p2 p3 h1
              have o := HNa.out
              have of0 := o.free 0
              have of1 := o.free 1
              have of2 := o.free 2
              have of3 := o.free 3
              have o0 := o.c0
              have o1 := o.c1
              have o2 := o.c2
              have o3 := o.c3
              clear o
              unfold Dk.val
              dsimp only
              go_upto_region 14 with fail
              have hxw := HNa.out
              obtain ⟨V1, hV⟩ : ∃ V, V = put4 w1 (wr.heap.size + 1) ⟨rm1, l1, lf1, dn1⟩ a1 n1 c1 := ⟨_, rfl⟩
              have HBb := Lib.hid (show Below w.heap.size w V1 by rw [hV]; exact below_put4 (below_then HWB.out HBa.out HWB.out.size) (by have := hAw.out; omega))
              have HPb := Lib.hid (show Four V1 w.heap.size _ _ _ _ _ by rw [hV]; exact four_put4 HPa.out (by have := hAw.out; omega))
              have HNe := Lib.hid (show DkBox V1 (wr.heap.size + 1) ⟨rm1, l1, lf1, dn1⟩ a1 n1 c1 by rw [hV]; exact box_put4 (out_box HNa.out))
              have HN2b := Lib.hid (show outBox V1 (wr.heap.size + 1 + 1) by rw [hV]; exact four_put4 HNb.out (by omega))
              have HNf := Lib.hid (show Four V1 wr.heap.size _ _ _ _ _ by rw [hV]; exact four_put4 HNd.out (by omega))
              have HDc := Lib.hid (show DkAt V1 a n c ⟨rm0, l0, lf0, dn0⟩ by rw [hV]; exact HDa.out.put4 (out_box HNa.out))
              have HDd := Lib.hid (show DkAt V1 a1 n1 c1 ⟨rm1, l1, lf1, dn1⟩ by rw [hV]; exact HDb.out.put4 (out_box HNa.out))
              unfold put4 at hV
              dsimp only at hV
              rw [← hV]
              clear hV hxw o0 o1 o2 o3 of0 of1 of2 of3 HBa HPa HNa HNb HNd HDa HDb
              unfold DkBox at *
              dsimp only at *

              have p := HPb.out
              have p0 := p.c0
              have p1 := p.c1
              have p2 := p.c2
              have p3 := p.c3
              clear p
              have p := HNf.out
              have q0 := p.c0
              have q1 := p.c1
              have q2 := p.c2
              have q3 := p.c3
              clear p
              go_wp2_with fail
              refine (h2.out _ HDc.out).mono ?_
              rintro e w3 ⟨a2, n2, c2, rfl, hd3, hb3⟩
              have HBc := Lib.hid (below_then HBb.out hb3 HBb.out.size)
              have HPc := Lib.hid (Four.keep HPb.out hb3)
              have HNg := Lib.hid (Four.keep HNe.out hb3)
              have HNh := Lib.hid (Four.keep HN2b.out hb3)
              have HDe := Lib.hid (HDc.out.keep hb3)
              have HDf := Lib.hid (HDd.out.keep hb3)
              have HDg := Lib.hid hd3
              clear hb3 hd3 HBb HPb HNe HN2b HNf HDc HDd p0 p1 p2 p3 q0 q1 q2 q3 h2
              unfold Dk.val
              dsimp only
              have o := HNh.out
              have of0 := o.free 0
              have of1 := o.free 1
              have of2 := o.free 2
              have of3 := o.free 3
              have o0 := o.c0
              have o1 := o.c1
              have o2 := o.c2
              have o3 := o.c3
              clear o
              go_upto_region 29 with fail
              obtain ⟨V2, hV⟩ : ∃ V, V = put4 w3 (wr.heap.size + 1 + 1) ⟨rm1, l1, lf1, dn1⟩ a2 n2 c2 := ⟨_, rfl⟩
              have HBt := Lib.hid (show Below w.heap.size w V2 by rw [hV]; exact below_put4 HBc.out (by have := hAw.out; omega))
              have HPt := Lib.hid (show Four V2 w.heap.size _ _ _ _ _ by rw [hV]; exact four_put4 HPc.out (by have := hAw.out; omega))
              have HNt := Lib.hid (show Four V2 (wr.heap.size + 1) _ _ _ _ _ by rw [hV]; exact four_put4 HNg.out (by omega))
              have HWt := Lib.hid (show DkBox V2 (wr.heap.size + 1 + 1) ⟨rm1, l1, lf1, dn1⟩ a2 n2 c2 by rw [hV]; exact box_put4 (out_box HNh.out))
              have HDt := Lib.hid (show DkAt V2 a n c ⟨rm0, l0, lf0, dn0⟩ by rw [hV]; exact HDe.out.put4 (out_box HNh.out))
              have HD1t := Lib.hid (show DkAt V2 a1 n1 c1 ⟨rm1, l1, lf1, dn1⟩ by rw [hV]; exact HDf.out.put4 (out_box HNh.out))
              have HD2t := Lib.hid (show DkAt V2 a2 n2 c2 ⟨rm1, l1, lf1, dn1⟩ by rw [hV]; exact HDg.out.put4 (out_box HNh.out))
              unfold put4 at hV
              dsimp only at hV
              rw [← hV]
              clear hV o0 o1 o2 o3 of0 of1 of2 of3 HBc HPc HNg HNh HDe HDf HDg
              unfold DkBox at *
              dsimp only at *
              have bx : (x1 != x1) = false := by simp
              have hlk := Lib.hid (refLike_same a1 n1 c1 a2 n2 c2 ⟨rm1, l1, lf1, dn1⟩ V2 HD1t.out HD2t.out)
              unfold Dk.val at hlk
              dsimp only at hlk
              have p := HNt.out
              have p0 := p.c0
              have p1 := p.c1
              have p2 := p.c2
              have p3 := p.c3
              clear p
              have p := HWt.out
              have q0 := p.c0
              have q1 := p.c1
              have q2 := p.c2
              have q3 := p.c3
              clear p
              go_wp2_with fail
              refine hlk.out.mono ?_
              rintro e w5 ⟨rfl, hb5⟩
              have HBu := Lib.hid (below_then HBt.out hb5 HBt.out.size)
              have HPu := Lib.hid (Four.keep HPt.out hb5)
              have HNu := Lib.hid (Four.keep HNt.out hb5)
              have HDu := Lib.hid (HDt.out.keep hb5)
              have HD1u := Lib.hid (HD1t.out.keep hb5)
              clear hb5 p0 p1 p2 p3 q0 q1 q2 q3 hlk HBt HPt HNt HWt HDt HD1t HD2t bx
              have p := HPu.out
              have p0 := p.c0
              have p1 := p.c1
              have p2 := p.c2
              have p3 := p.c3
              clear p
              have p := HPu.out
              have pf0 := p.free 0
              have pf1 := p.free 1
              have pf2 := p.free 2
              have pf3 := p.free 3
              clear p
              have p := HNu.out
              have q0 := p.c0
              have q1 := p.c1
              have q2 := p.c2
              have q3 := p.c3
              clear p
              by_cases hx0 : x1 = 0
              · have e0 : (x1 == 0) = true := by simp [hx0]
                clear hx0
                go_upto_region 33 with fail
                obtain ⟨V3, hV⟩ : ∃ V, V = put4 w5 w.heap.size ⟨rm1, l1, lf1, dn1⟩ a1 n1 c1 := ⟨_, rfl⟩
                have hbx : Dbx w5 w.heap.size := ⟨⟨rm0, l0, lf0, _⟩, a, n, c, HPu.out⟩
                have HBv := Lib.hid (show Below w.heap.size w V3 by rw [hV]; exact below_put4 HBu.out (Nat.le_refl _))
                have HPv := Lib.hid (show DkBox V3 w.heap.size ⟨rm1, l1, lf1, dn1⟩ a1 n1 c1 by rw [hV]; exact box_put4 hbx)
                have HDv := Lib.hid (show DkAt V3 a1 n1 c1 ⟨rm1, l1, lf1, dn1⟩ by rw [hV]; exact HD1u.out.put4 hbx)
                unfold put4 at hV
                dsimp only at hV
                rw [← hV]
                clear hV p0 p1 p2 p3 pf0 pf1 pf2 pf3 q0 q1 q2 q3 hbx
                have p := HPv.out
                have p0 := p.c0
                have p1 := p.c1
                have p2 := p.c2
                have p3 := p.c3
                clear p
                go_wp2_with fail
                refine (right_any a1 n1 c1 ⟨rm1, l1, lf1, dn1⟩ V3 HDv.out true (Lib.hid HR1.out.symm)).mono ?_
                rintro e w6 ⟨rfl, hb6⟩
                have HPk := Lib.hid (PlayRel.mk (below_then HBv.out hb6 HBv.out.size) (DkBox.keep HPv.out hb6) (HDv.out.keep hb6) HR1.out)
                clear hb6
                go_wp2_with fail
                go_roundg (nc - (k + 1))
                case rel => exact ⟨k + 1, by omega, rfl, by go_num, _, _, _, _, HPk⟩
                case measure => omega
              · have e0 : (x1 == 0) = false := by simp [hx0]
                by_cases hx1 : x1 = 132
                · have e1 : (x1 == 132) = true := by simp [hx1]
                  clear hx0 hx1
                  cases dn0 with
                  | false =>
                    go_upto_region 33 with fail
                    obtain ⟨V3, hV⟩ : ∃ V, V = put4 w5 w.heap.size ⟨rm1, l1, lf1, dn1⟩ a1 n1 c1 := ⟨_, rfl⟩
                    have hbx : Dbx w5 w.heap.size := ⟨⟨rm0, l0, lf0, _⟩, a, n, c, HPu.out⟩
                    have HBv := Lib.hid (show Below w.heap.size w V3 by rw [hV]; exact below_put4 HBu.out (Nat.le_refl _))
                    have HPv := Lib.hid (show DkBox V3 w.heap.size ⟨rm1, l1, lf1, dn1⟩ a1 n1 c1 by rw [hV]; exact box_put4 hbx)
                    have HDv := Lib.hid (show DkAt V3 a1 n1 c1 ⟨rm1, l1, lf1, dn1⟩ by rw [hV]; exact HD1u.out.put4 hbx)
                    unfold put4 at hV
                    dsimp only at hV
                    rw [← hV]
                    clear hV p0 p1 p2 p3 pf0 pf1 pf2 pf3 q0 q1 q2 q3 hbx
                    have p := HPv.out
                    have p0 := p.c0
                    have p1 := p.c1
                    have p2 := p.c2
                    have p3 := p.c3
                    clear p
                    go_wp2_with fail
                    refine (right_any a1 n1 c1 ⟨rm1, l1, lf1, dn1⟩ V3 HDv.out true (Lib.hid HR1.out.symm)).mono ?_
                    rintro e w6 ⟨rfl, hb6⟩
                    have HPk := Lib.hid (PlayRel.mk (below_then HBv.out hb6 HBv.out.size) (DkBox.keep HPv.out hb6) (HDv.out.keep hb6) HR1.out)
                    clear hb6
                    go_wp2_with fail
                    go_roundg (nc - (k + 1))
                    case rel => exact ⟨k + 1, by omega, rfl, by go_num, _, _, _, _, HPk⟩
                    case measure => omega
                  | true =>
                    go_upto_region 33 with fail
                    go_wp2_with fail
                    refine (right_any a n c ⟨rm0, l0, lf0, true⟩ w5 HDu.out true (Lib.hid HRD.out.symm)).mono ?_
                    rintro e w6 ⟨rfl, hb6⟩
                    have HPk := Lib.hid (PlayRel.mk (d := ⟨rm0, l0, lf0, true⟩) (below_then HBu.out hb6 HBu.out.size) (Four.keep HPu.out hb6) (HDu.out.keep hb6) HRD.out)
                    clear hb6
                    go_wp2_with fail
                    go_roundg (nc - (k + 1))
                    case rel => exact ⟨k + 1, by omega, rfl, by go_num, _, _, _, _, HPk⟩
                    case measure => omega
                · have e1 : (x1 == 132) = false := by simp [hx1]
                  clear hx0 hx1
                  go_upto_region 33 with fail
                  go_wp2_with fail
                  refine (right_any a n c ⟨rm0, l0, lf0, dn0⟩ w5 HDu.out true (Lib.hid HRD.out.symm)).mono ?_
                  rintro e w6 ⟨rfl, hb6⟩
                  have HPk := Lib.hid (PlayRel.mk (d := ⟨rm0, l0, lf0, dn0⟩) (below_then HBu.out hb6 HBu.out.size) (Four.keep HPu.out hb6) (HDu.out.keep hb6) HRD.out)
                  clear hb6
                  go_wp2_with fail
                  go_roundg (nc - (k + 1))
                  case rel => exact ⟨k + 1, by omega, rfl, by go_num, _, _, _, _, HPk⟩
                  case measure => omega
            · have HN1 := Lib.hid (pw_next wr 3 nm more num)
              have HN2 := Lib.hid (pw_want wr 3 nm more num)
              have HNc := Lib.hid (pw_call wr 3 nm more num)
              have HB2 := Lib.hid (pw_below wr 3 nm more num)
              have HP2 := Lib.hid (hP.out.box.keep HB2.out)
              have HD2 := Lib.hid (hP.out.disk.keep HB2.out)
              have hAw := Lib.hid (lt_of_block hP.out.box)
              have h1 := Lib.hid (lawCall_any a n c d 3 nm more num _ HD2.out (by omega) z1 (by omega))
              have hrt := callD_right d 3 nm more
              have HWB := Lib.hid hP.out.below
              have HRD := Lib.hid hP.out.right
              have h2 := Lib.hid (fun (V : World) (hV : DkAt V a n c d) => refCall_any a n c d 3 nm more V hV (by omega) z1 (by omega))
              clear hP
              obtain ⟨⟨⟨rm1, l1, lf1, dn1⟩, x1⟩, hr1⟩ : ∃ r, callD d 3 nm more = r := ⟨_, rfl⟩
              rw [hr1] at h1 h2 hrt
              clear hr1
              have HR1 := Lib.hid hrt
              clear hrt
              unfold pw at *
              unfold lcV at *
              obtain ⟨rm0, l0, lf0, dn0⟩ := d
              unfold Dk.val DkBox at *
              dsimp only at *
              have p := HP2.out
              have p0 := p.c0
              have p1 := p.c1
              have p2 := p.c2
              have p3 := p.c3
              clear p
              go_wp2_with fail
              refine h1.out.mono ?_
              rintro e w1 ⟨a1, n1, c1, rfl, hd1, hb1⟩
              have HBa := Lib.hid (below_then HB2.out hb1 HB2.out.size)
              have HPa := Lib.hid (Four.keep HP2.out hb1)
              have HNa := Lib.hid (Four.keep HN1.out hb1)
              have HNb := Lib.hid (Four.keep HN2.out hb1)
              have HNd := Lib.hid (Four.keep HNc.out hb1)
              have HDa := Lib.hid (HD2.out.keep hb1)
              have HDb := Lib.hid hd1
              clear hb1 hd1 HB2 HP2 HN1 HN2 HNc HD2 p0 p1 p2 p3 h1
              have o := HNa.out
              have of0 := o.free 0
              have of1 := o.free 1
              have of2 := o.free 2
              have of3 := o.free 3
              have o0 := o.c0
              have o1 := o.c1
              have o2 := o.c2
              have o3 := o.c3
              clear o
              unfold Dk.val
              dsimp only
              go_upto_region 14 with fail
              have hxw := HNa.out
              obtain ⟨V1, hV⟩ : ∃ V, V = put4 w1 (wr.heap.size + 1) ⟨rm1, l1, lf1, dn1⟩ a1 n1 c1 := ⟨_, rfl⟩
              have HBb := Lib.hid (show Below w.heap.size w V1 by rw [hV]; exact below_put4 (below_then HWB.out HBa.out HWB.out.size) (by have := hAw.out; omega))
              have HPb := Lib.hid (show Four V1 w.heap.size _ _ _ _ _ by rw [hV]; exact four_put4 HPa.out (by have := hAw.out; omega))
              have HNe := Lib.hid (show DkBox V1 (wr.heap.size + 1) ⟨rm1, l1, lf1, dn1⟩ a1 n1 c1 by rw [hV]; exact box_put4 (out_box HNa.out))
              have HN2b := Lib.hid (show outBox V1 (wr.heap.size + 1 + 1) by rw [hV]; exact four_put4 HNb.out (by omega))
              have HNf := Lib.hid (show Four V1 wr.heap.size _ _ _ _ _ by rw [hV]; exact four_put4 HNd.out (by omega))
              have HDc := Lib.hid (show DkAt V1 a n c ⟨rm0, l0, lf0, dn0⟩ by rw [hV]; exact HDa.out.put4 (out_box HNa.out))
              have HDd := Lib.hid (show DkAt V1 a1 n1 c1 ⟨rm1, l1, lf1, dn1⟩ by rw [hV]; exact HDb.out.put4 (out_box HNa.out))
              unfold put4 at hV
              dsimp only at hV
              rw [← hV]
              clear hV hxw o0 o1 o2 o3 of0 of1 of2 of3 HBa HPa HNa HNb HNd HDa HDb
              unfold DkBox at *
              dsimp only at *

              have p := HPb.out
              have p0 := p.c0
              have p1 := p.c1
              have p2 := p.c2
              have p3 := p.c3
              clear p
              have p := HNf.out
              have q0 := p.c0
              have q1 := p.c1
              have q2 := p.c2
              have q3 := p.c3
              clear p
              go_wp2_with fail
              refine (h2.out _ HDc.out).mono ?_
              rintro e w3 ⟨a2, n2, c2, rfl, hd3, hb3⟩
              have HBc := Lib.hid (below_then HBb.out hb3 HBb.out.size)
              have HPc := Lib.hid (Four.keep HPb.out hb3)
              have HNg := Lib.hid (Four.keep HNe.out hb3)
              have HNh := Lib.hid (Four.keep HN2b.out hb3)
              have HDe := Lib.hid (HDc.out.keep hb3)
              have HDf := Lib.hid (HDd.out.keep hb3)
              have HDg := Lib.hid hd3
              clear hb3 hd3 HBb HPb HNe HN2b HNf HDc HDd p0 p1 p2 p3 q0 q1 q2 q3 h2
              unfold Dk.val
              dsimp only
              have o := HNh.out
              have of0 := o.free 0
              have of1 := o.free 1
              have of2 := o.free 2
              have of3 := o.free 3
              have o0 := o.c0
              have o1 := o.c1
              have o2 := o.c2
              have o3 := o.c3
              clear o
              go_upto_region 29 with fail
              obtain ⟨V2, hV⟩ : ∃ V, V = put4 w3 (wr.heap.size + 1 + 1) ⟨rm1, l1, lf1, dn1⟩ a2 n2 c2 := ⟨_, rfl⟩
              have HBt := Lib.hid (show Below w.heap.size w V2 by rw [hV]; exact below_put4 HBc.out (by have := hAw.out; omega))
              have HPt := Lib.hid (show Four V2 w.heap.size _ _ _ _ _ by rw [hV]; exact four_put4 HPc.out (by have := hAw.out; omega))
              have HNt := Lib.hid (show Four V2 (wr.heap.size + 1) _ _ _ _ _ by rw [hV]; exact four_put4 HNg.out (by omega))
              have HWt := Lib.hid (show DkBox V2 (wr.heap.size + 1 + 1) ⟨rm1, l1, lf1, dn1⟩ a2 n2 c2 by rw [hV]; exact box_put4 (out_box HNh.out))
              have HDt := Lib.hid (show DkAt V2 a n c ⟨rm0, l0, lf0, dn0⟩ by rw [hV]; exact HDe.out.put4 (out_box HNh.out))
              have HD1t := Lib.hid (show DkAt V2 a1 n1 c1 ⟨rm1, l1, lf1, dn1⟩ by rw [hV]; exact HDf.out.put4 (out_box HNh.out))
              have HD2t := Lib.hid (show DkAt V2 a2 n2 c2 ⟨rm1, l1, lf1, dn1⟩ by rw [hV]; exact HDg.out.put4 (out_box HNh.out))
              unfold put4 at hV
              dsimp only at hV
              rw [← hV]
              clear hV o0 o1 o2 o3 of0 of1 of2 of3 HBc HPc HNg HNh HDe HDf HDg
              unfold DkBox at *
              dsimp only at *
              have bx : (x1 != x1) = false := by simp
              have hlk := Lib.hid (refLike_same a1 n1 c1 a2 n2 c2 ⟨rm1, l1, lf1, dn1⟩ V2 HD1t.out HD2t.out)
              unfold Dk.val at hlk
              dsimp only at hlk
              have p := HNt.out
              have p0 := p.c0
              have p1 := p.c1
              have p2 := p.c2
              have p3 := p.c3
              clear p
              have p := HWt.out
              have q0 := p.c0
              have q1 := p.c1
              have q2 := p.c2
              have q3 := p.c3
              clear p
              go_wp2_with fail
              refine hlk.out.mono ?_
              rintro e w5 ⟨rfl, hb5⟩
              have HBu := Lib.hid (below_then HBt.out hb5 HBt.out.size)
              have HPu := Lib.hid (Four.keep HPt.out hb5)
              have HNu := Lib.hid (Four.keep HNt.out hb5)
              have HDu := Lib.hid (HDt.out.keep hb5)
              have HD1u := Lib.hid (HD1t.out.keep hb5)
              clear hb5 p0 p1 p2 p3 q0 q1 q2 q3 hlk HBt HPt HNt HWt HDt HD1t HD2t bx
              have p := HPu.out
              have p0 := p.c0
              have p1 := p.c1
              have p2 := p.c2
              have p3 := p.c3
              clear p
              have p := HPu.out
              have pf0 := p.free 0
              have pf1 := p.free 1
              have pf2 := p.free 2
              have pf3 := p.free 3
              clear p
              have p := HNu.out
              have q0 := p.c0
              have q1 := p.c1
              have q2 := p.c2
              have q3 := p.c3
              clear p
              by_cases hx0 : x1 = 0
              · have e0 : (x1 == 0) = true := by simp [hx0]
                clear hx0
                go_upto_region 33 with fail
                obtain ⟨V3, hV⟩ : ∃ V, V = put4 w5 w.heap.size ⟨rm1, l1, lf1, dn1⟩ a1 n1 c1 := ⟨_, rfl⟩
                have hbx : Dbx w5 w.heap.size := ⟨⟨rm0, l0, lf0, _⟩, a, n, c, HPu.out⟩
                have HBv := Lib.hid (show Below w.heap.size w V3 by rw [hV]; exact below_put4 HBu.out (Nat.le_refl _))
                have HPv := Lib.hid (show DkBox V3 w.heap.size ⟨rm1, l1, lf1, dn1⟩ a1 n1 c1 by rw [hV]; exact box_put4 hbx)
                have HDv := Lib.hid (show DkAt V3 a1 n1 c1 ⟨rm1, l1, lf1, dn1⟩ by rw [hV]; exact HD1u.out.put4 hbx)
                unfold put4 at hV
                dsimp only at hV
                rw [← hV]
                clear hV p0 p1 p2 p3 pf0 pf1 pf2 pf3 q0 q1 q2 q3 hbx
                have p := HPv.out
                have p0 := p.c0
                have p1 := p.c1
                have p2 := p.c2
                have p3 := p.c3
                clear p
                go_wp2_with fail
                refine (right_any a1 n1 c1 ⟨rm1, l1, lf1, dn1⟩ V3 HDv.out true (Lib.hid HR1.out.symm)).mono ?_
                rintro e w6 ⟨rfl, hb6⟩
                have HPk := Lib.hid (PlayRel.mk (below_then HBv.out hb6 HBv.out.size) (DkBox.keep HPv.out hb6) (HDv.out.keep hb6) HR1.out)
                clear hb6
                go_wp2_with fail
                go_roundg (nc - (k + 1))
                case rel => exact ⟨k + 1, by omega, rfl, by go_num, _, _, _, _, HPk⟩
                case measure => omega
              · have e0 : (x1 == 0) = false := by simp [hx0]
                by_cases hx1 : x1 = 132
                · have e1 : (x1 == 132) = true := by simp [hx1]
                  clear hx0 hx1
                  cases dn0 with
                  | false =>
                    go_upto_region 33 with fail
                    obtain ⟨V3, hV⟩ : ∃ V, V = put4 w5 w.heap.size ⟨rm1, l1, lf1, dn1⟩ a1 n1 c1 := ⟨_, rfl⟩
                    have hbx : Dbx w5 w.heap.size := ⟨⟨rm0, l0, lf0, _⟩, a, n, c, HPu.out⟩
                    have HBv := Lib.hid (show Below w.heap.size w V3 by rw [hV]; exact below_put4 HBu.out (Nat.le_refl _))
                    have HPv := Lib.hid (show DkBox V3 w.heap.size ⟨rm1, l1, lf1, dn1⟩ a1 n1 c1 by rw [hV]; exact box_put4 hbx)
                    have HDv := Lib.hid (show DkAt V3 a1 n1 c1 ⟨rm1, l1, lf1, dn1⟩ by rw [hV]; exact HD1u.out.put4 hbx)
                    unfold put4 at hV
                    dsimp only at hV
                    rw [← hV]
                    clear hV p0 p1 p2 p3 pf0 pf1 pf2 pf3 q0 q1 q2 q3 hbx
                    have p := HPv.out
                    have p0 := p.c0
                    have p1 := p.c1
                    have p2 := p.c2
                    have p3 := p.c3
                    clear p
                    go_wp2_with fail
                    refine (right_any a1 n1 c1 ⟨rm1, l1, lf1, dn1⟩ V3 HDv.out true (Lib.hid HR1.out.symm)).mono ?_
                    rintro e w6 ⟨rfl, hb6⟩
                    have HPk := Lib.hid (PlayRel.mk (below_then HBv.out hb6 HBv.out.size) (DkBox.keep HPv.out hb6) (HDv.out.keep hb6) HR1.out)
                    clear hb6
                    go_wp2_with fail
                    go_roundg (nc - (k + 1))
                    case rel => exact ⟨k + 1, by omega, rfl, by go_num, _, _, _, _, HPk⟩
                    case measure => omega
                  | true =>
                    go_upto_region 33 with fail
                    go_wp2_with fail
                    refine (right_any a n c ⟨rm0, l0, lf0, true⟩ w5 HDu.out true (Lib.hid HRD.out.symm)).mono ?_
                    rintro e w6 ⟨rfl, hb6⟩
                    have HPk := Lib.hid (PlayRel.mk (d := ⟨rm0, l0, lf0, true⟩) (below_then HBu.out hb6 HBu.out.size) (Four.keep HPu.out hb6) (HDu.out.keep hb6) HRD.out)
                    clear hb6
                    go_wp2_with fail
                    go_roundg (nc - (k + 1))
                    case rel => exact ⟨k + 1, by omega, rfl, by go_num, _, _, _, _, HPk⟩
                    case measure => omega
                · have e1 : (x1 == 132) = false := by simp [hx1]
                  clear hx0 hx1
                  go_upto_region 33 with fail
                  go_wp2_with fail
                  refine (right_any a n c ⟨rm0, l0, lf0, dn0⟩ w5 HDu.out true (Lib.hid HRD.out.symm)).mono ?_
                  rintro e w6 ⟨rfl, hb6⟩
                  have HPk := Lib.hid (PlayRel.mk (d := ⟨rm0, l0, lf0, dn0⟩) (below_then HBu.out hb6 HBu.out.size) (Four.keep HPu.out hb6) (HDu.out.keep hb6) HRD.out)
                  clear hb6
                  go_wp2_with fail
                  go_roundg (nc - (k + 1))
                  case rel => exact ⟨k + 1, by omega, rfl, by go_num, _, _, _, _, HPk⟩
                  case measure => omega
            · have HN1 := Lib.hid (pw_next wr 4 nm more num)
              have HN2 := Lib.hid (pw_want wr 4 nm more num)
              have HNc := Lib.hid (pw_call wr 4 nm more num)
              have HB2 := Lib.hid (pw_below wr 4 nm more num)
              have HP2 := Lib.hid (hP.out.box.keep HB2.out)
              have HD2 := Lib.hid (hP.out.disk.keep HB2.out)
              have hAw := Lib.hid (lt_of_block hP.out.box)
              have h1 := Lib.hid (lawCall_any a n c d 4 nm more num _ HD2.out (by omega) z1 (by omega))
              have hrt := callD_right d 4 nm more
              have HWB := Lib.hid hP.out.below
              have HRD := Lib.hid hP.out.right
              have h2 := Lib.hid (fun (V : World) (hV : DkAt V a n c d) => refCall_any a n c d 4 nm more V hV (by omega) z1 (by omega))
              clear hP
              obtain ⟨⟨⟨rm1, l1, lf1, dn1⟩, x1⟩, hr1⟩ : ∃ r, callD d 4 nm more = r := ⟨_, rfl⟩
              rw [hr1] at h1 h2 hrt
              clear hr1
              have HR1 := Lib.hid hrt
              clear hrt
              unfold pw at *
              unfold lcV at *
              obtain ⟨rm0, l0, lf0, dn0⟩ := d
              unfold Dk.val DkBox at *
              dsimp only at *
              have p := HP2.out
              have p0 := p.c0
              have p1 := p.c1
              have p2 := p.c2
              have p3 := p.c3
              clear p
              go_wp2_with fail
              refine h1.out.mono ?_
              rintro e w1 ⟨a1, n1, c1, rfl, hd1, hb1⟩
              have HBa := Lib.hid (below_then HB2.out hb1 HB2.out.size)
              have HPa := Lib.hid (Four.keep HP2.out hb1)
              have HNa := Lib.hid (Four.keep HN1.out hb1)
              have HNb := Lib.hid (Four.keep HN2.out hb1)
              have HNd := Lib.hid (Four.keep HNc.out hb1)
              have HDa := Lib.hid (HD2.out.keep hb1)
              have HDb := Lib.hid hd1
              clear hb1 hd1 HB2 HP2 HN1 HN2 HNc HD2 p0 p1 p2 p3 h1
              have o := HNa.out
              have of0 := o.free 0
              have of1 := o.free 1
              have of2 := o.free 2
              have of3 := o.free 3
              have o0 := o.c0
              have o1 := o.c1
              have o2 := o.c2
              have o3 := o.c3
              clear o
              unfold Dk.val
              dsimp only
              go_upto_region 14 with fail
              have hxw := HNa.out
              obtain ⟨V1, hV⟩ : ∃ V, V = put4 w1 (wr.heap.size + 1) ⟨rm1, l1, lf1, dn1⟩ a1 n1 c1 := ⟨_, rfl⟩
              have HBb := Lib.hid (show Below w.heap.size w V1 by rw [hV]; exact below_put4 (below_then HWB.out HBa.out HWB.out.size) (by have := hAw.out; omega))
              have HPb := Lib.hid (show Four V1 w.heap.size _ _ _ _ _ by rw [hV]; exact four_put4 HPa.out (by have := hAw.out; omega))
              have HNe := Lib.hid (show DkBox V1 (wr.heap.size + 1) ⟨rm1, l1, lf1, dn1⟩ a1 n1 c1 by rw [hV]; exact box_put4 (out_box HNa.out))
              have HN2b := Lib.hid (show outBox V1 (wr.heap.size + 1 + 1) by rw [hV]; exact four_put4 HNb.out (by omega))
              have HNf := Lib.hid (show Four V1 wr.heap.size _ _ _ _ _ by rw [hV]; exact four_put4 HNd.out (by omega))
              have HDc := Lib.hid (show DkAt V1 a n c ⟨rm0, l0, lf0, dn0⟩ by rw [hV]; exact HDa.out.put4 (out_box HNa.out))
              have HDd := Lib.hid (show DkAt V1 a1 n1 c1 ⟨rm1, l1, lf1, dn1⟩ by rw [hV]; exact HDb.out.put4 (out_box HNa.out))
              unfold put4 at hV
              dsimp only at hV
              rw [← hV]
              clear hV hxw o0 o1 o2 o3 of0 of1 of2 of3 HBa HPa HNa HNb HNd HDa HDb
              unfold DkBox at *
              dsimp only at *

              have p := HPb.out
              have p0 := p.c0
              have p1 := p.c1
              have p2 := p.c2
              have p3 := p.c3
              clear p
              have p := HNf.out
              have q0 := p.c0
              have q1 := p.c1
              have q2 := p.c2
              have q3 := p.c3
              clear p
              go_wp2_with fail
              refine (h2.out _ HDc.out).mono ?_
              rintro e w3 ⟨a2, n2, c2, rfl, hd3, hb3⟩
              have HBc := Lib.hid (below_then HBb.out hb3 HBb.out.size)
              have HPc := Lib.hid (Four.keep HPb.out hb3)
              have HNg := Lib.hid (Four.keep HNe.out hb3)
              have HNh := Lib.hid (Four.keep HN2b.out hb3)
              have HDe := Lib.hid (HDc.out.keep hb3)
              have HDf := Lib.hid (HDd.out.keep hb3)
              have HDg := Lib.hid hd3
              clear hb3 hd3 HBb HPb HNe HN2b HNf HDc HDd p0 p1 p2 p3 q0 q1 q2 q3 h2
              unfold Dk.val
              dsimp only
              have o := HNh.out
              have of0 := o.free 0
              have of1 := o.free 1
              have of2 := o.free 2
              have of3 := o.free 3
              have o0 := o.c0
              have o1 := o.c1
              have o2 := o.c2
              have o3 := o.c3
              clear o
              go_upto_region 29 with fail
              obtain ⟨V2, hV⟩ : ∃ V, V = put4 w3 (wr.heap.size + 1 + 1) ⟨rm1, l1, lf1, dn1⟩ a2 n2 c2 := ⟨_, rfl⟩
              have HBt := Lib.hid (show Below w.heap.size w V2 by rw [hV]; exact below_put4 HBc.out (by have := hAw.out; omega))
              have HPt := Lib.hid (show Four V2 w.heap.size _ _ _ _ _ by rw [hV]; exact four_put4 HPc.out (by have := hAw.out; omega))
              have HNt := Lib.hid (show Four V2 (wr.heap.size + 1) _ _ _ _ _ by rw [hV]; exact four_put4 HNg.out (by omega))
              have HWt := Lib.hid (show DkBox V2 (wr.heap.size + 1 + 1) ⟨rm1, l1, lf1, dn1⟩ a2 n2 c2 by rw [hV]; exact box_put4 (out_box HNh.out))
              have HDt := Lib.hid (show DkAt V2 a n c ⟨rm0, l0, lf0, dn0⟩ by rw [hV]; exact HDe.out.put4 (out_box HNh.out))
              have HD1t := Lib.hid (show DkAt V2 a1 n1 c1 ⟨rm1, l1, lf1, dn1⟩ by rw [hV]; exact HDf.out.put4 (out_box HNh.out))
              have HD2t := Lib.hid (show DkAt V2 a2 n2 c2 ⟨rm1, l1, lf1, dn1⟩ by rw [hV]; exact HDg.out.put4 (out_box HNh.out))
              unfold put4 at hV
              dsimp only at hV
              rw [← hV]
              clear hV o0 o1 o2 o3 of0 of1 of2 of3 HBc HPc HNg HNh HDe HDf HDg
              unfold DkBox at *
              dsimp only at *
              have bx : (x1 != x1) = false := by simp
              have hlk := Lib.hid (refLike_same a1 n1 c1 a2 n2 c2 ⟨rm1, l1, lf1, dn1⟩ V2 HD1t.out HD2t.out)
              unfold Dk.val at hlk
              dsimp only at hlk
              have p := HNt.out
              have p0 := p.c0
              have p1 := p.c1
              have p2 := p.c2
              have p3 := p.c3
              clear p
              have p := HWt.out
              have q0 := p.c0
              have q1 := p.c1
              have q2 := p.c2
              have q3 := p.c3
              clear p
              go_wp2_with fail
              refine hlk.out.mono ?_
              rintro e w5 ⟨rfl, hb5⟩
              have HBu := Lib.hid (below_then HBt.out hb5 HBt.out.size)
              have HPu := Lib.hid (Four.keep HPt.out hb5)
              have HNu := Lib.hid (Four.keep HNt.out hb5)
              have HDu := Lib.hid (HDt.out.keep hb5)
              have HD1u := Lib.hid (HD1t.out.keep hb5)
              clear hb5 p0 p1 p2 p3 q0 q1 q2 q3 hlk HBt HPt HNt HWt HDt HD1t HD2t bx
              have p := HPu.out
              have p0 := p.c0
              have p1 := p.c1
              have p2 := p.c2
              have p3 := p.c3
              clear p
              have p := HPu.out
              have pf0 := p.free 0
              have pf1 := p.free 1
              have pf2 := p.free 2
              have pf3 := p.free 3
              clear p
              have p := HNu.out
              have q0 := p.c0
              have q1 := p.c1
              have q2 := p.c2
              have q3 := p.c3
              clear p
              by_cases hx0 : x1 = 0
              · have e0 : (x1 == 0) = true := by simp [hx0]
                clear hx0
                go_upto_region 33 with fail
                obtain ⟨V3, hV⟩ : ∃ V, V = put4 w5 w.heap.size ⟨rm1, l1, lf1, dn1⟩ a1 n1 c1 := ⟨_, rfl⟩
                have hbx : Dbx w5 w.heap.size := ⟨⟨rm0, l0, lf0, _⟩, a, n, c, HPu.out⟩
                have HBv := Lib.hid (show Below w.heap.size w V3 by rw [hV]; exact below_put4 HBu.out (Nat.le_refl _))
                have HPv := Lib.hid (show DkBox V3 w.heap.size ⟨rm1, l1, lf1, dn1⟩ a1 n1 c1 by rw [hV]; exact box_put4 hbx)
                have HDv := Lib.hid (show DkAt V3 a1 n1 c1 ⟨rm1, l1, lf1, dn1⟩ by rw [hV]; exact HD1u.out.put4 hbx)
                unfold put4 at hV
                dsimp only at hV
                rw [← hV]
                clear hV p0 p1 p2 p3 pf0 pf1 pf2 pf3 q0 q1 q2 q3 hbx
                have p := HPv.out
                have p0 := p.c0
                have p1 := p.c1
                have p2 := p.c2
                have p3 := p.c3
                clear p
                go_wp2_with fail
                refine (right_any a1 n1 c1 ⟨rm1, l1, lf1, dn1⟩ V3 HDv.out true (Lib.hid HR1.out.symm)).mono ?_
                rintro e w6 ⟨rfl, hb6⟩
                have HPk := Lib.hid (PlayRel.mk (below_then HBv.out hb6 HBv.out.size) (DkBox.keep HPv.out hb6) (HDv.out.keep hb6) HR1.out)
                clear hb6
                go_wp2_with fail
                go_roundg (nc - (k + 1))
                case rel => exact ⟨k + 1, by omega, rfl, by go_num, _, _, _, _, HPk⟩
                case measure => omega
              · have e0 : (x1 == 0) = false := by simp [hx0]
                by_cases hx1 : x1 = 132
                · have e1 : (x1 == 132) = true := by simp [hx1]
                  clear hx0 hx1
                  cases dn0 with
                  | false =>
                    go_upto_region 33 with fail
                    obtain ⟨V3, hV⟩ : ∃ V, V = put4 w5 w.heap.size ⟨rm1, l1, lf1, dn1⟩ a1 n1 c1 := ⟨_, rfl⟩
                    have hbx : Dbx w5 w.heap.size := ⟨⟨rm0, l0, lf0, _⟩, a, n, c, HPu.out⟩
                    have HBv := Lib.hid (show Below w.heap.size w V3 by rw [hV]; exact below_put4 HBu.out (Nat.le_refl _))
                    have HPv := Lib.hid (show DkBox V3 w.heap.size ⟨rm1, l1, lf1, dn1⟩ a1 n1 c1 by rw [hV]; exact box_put4 hbx)
                    have HDv := Lib.hid (show DkAt V3 a1 n1 c1 ⟨rm1, l1, lf1, dn1⟩ by rw [hV]; exact HD1u.out.put4 hbx)
                    unfold put4 at hV
                    dsimp only at hV
                    rw [← hV]
                    clear hV p0 p1 p2 p3 pf0 pf1 pf2 pf3 q0 q1 q2 q3 hbx
                    have p := HPv.out
                    have p0 := p.c0
                    have p1 := p.c1
                    have p2 := p.c2
                    have p3 := p.c3
                    clear p
                    go_wp2_with fail
                    refine (right_any a1 n1 c1 ⟨rm1, l1, lf1, dn1⟩ V3 HDv.out true (Lib.hid HR1.out.symm)).mono ?_
                    rintro e w6 ⟨rfl, hb6⟩
                    have HPk := Lib.hid (PlayRel.mk (below_then HBv.out hb6 HBv.out.size) (DkBox.keep HPv.out hb6) (HDv.out.keep hb6) HR1.out)
                    clear hb6
                    go_wp2_with fail
                    go_roundg (nc - (k + 1))
                    case rel => exact ⟨k + 1, by omega, rfl, by go_num, _, _, _, _, HPk⟩
                    case measure => omega
                  | true =>
                    go_upto_region 33 with fail
                    go_wp2_with fail
                    refine (right_any a n c ⟨rm0, l0, lf0, true⟩ w5 HDu.out true (Lib.hid HRD.out.symm)).mono ?_
                    rintro e w6 ⟨rfl, hb6⟩
                    have HPk := Lib.hid (PlayRel.mk (d := ⟨rm0, l0, lf0, true⟩) (below_then HBu.out hb6 HBu.out.size) (Four.keep HPu.out hb6) (HDu.out.keep hb6) HRD.out)
                    clear hb6
                    go_wp2_with fail
                    go_roundg (nc - (k + 1))
                    case rel => exact ⟨k + 1, by omega, rfl, by go_num, _, _, _, _, HPk⟩
                    case measure => omega
                · have e1 : (x1 == 132) = false := by simp [hx1]
                  clear hx0 hx1
                  go_upto_region 33 with fail
                  go_wp2_with fail
                  refine (right_any a n c ⟨rm0, l0, lf0, dn0⟩ w5 HDu.out true (Lib.hid HRD.out.symm)).mono ?_
                  rintro e w6 ⟨rfl, hb6⟩
                  have HPk := Lib.hid (PlayRel.mk (d := ⟨rm0, l0, lf0, dn0⟩) (below_then HBu.out hb6 HBu.out.size) (Four.keep HPu.out hb6) (HDu.out.keep hb6) HRD.out)
                  clear hb6
                  go_wp2_with fail
                  go_roundg (nc - (k + 1))
                  case rel => exact ⟨k + 1, by omega, rfl, by go_num, _, _, _, _, HPk⟩
                  case measure => omega
          · by_cases h5 : what = 5
            · subst h5
              cases hd0 : d.down with
              | true =>
                have HN1 := Lib.hid (pw_next wr 5 nm more num)
                have HN2 := Lib.hid (pw_want wr 5 nm more num)
                have HNc := Lib.hid (pw_call wr 5 nm more num)
                have HB2 := Lib.hid (pw_below wr 5 nm more num)
                have HP2 := Lib.hid (hP.out.box.keep HB2.out)
                have HD2 := Lib.hid (hP.out.disk.keep HB2.out)
                have hAw := Lib.hid (lt_of_block hP.out.box)
                have HWB := Lib.hid hP.out.below
                have HRD := Lib.hid hP.out.right
                obtain ⟨K, hK⟩ : ∃ K, min (max num (-1)) 1073741824 = K := ⟨_, rfl⟩
                have hK1 : -1 ≤ K ∧ K ≤ 1073741824 := by omega
                have h1 := cut_any a n c d K (pw wr 5 nm more num) HD2.out
                clear hP
                obtain ⟨rm0, l0, lf0, dn0⟩ := d
                dsimp only at hd0
                subst hd0
                have hct : cutD ⟨rm0, l0, lf0, true⟩ K = (⟨0, [], 0, false⟩, 132) := by
                  unfold cutD
                  rw [if_neg (by rw [HRD.out]; simp; omega)]
                  rw [if_pos rfl]; rfl
                rw [hct] at h1
                have HR1 : Hid (rightD ⟨0, [], 0, false⟩ = true) := Lib.hid zero_right
                have H1 := Lib.hid h1
                have HK1 := Lib.hid hK1
                clear h1 hct hK1
                unfold pw at *
                unfold Dk.val DkBox at *
                dsimp only at *
                have p := HP2.out
                have p0 := p.c0
                have p1 := p.c1
                have p2 := p.c2
                have p3 := p.c3
                clear p
                go_wp2_with fail
                refine H1.out.mono ?_
                rintro e w1 ⟨a1, n1, c1, rfl, hd1, hb1⟩
                have HBa := Lib.hid (below_then HB2.out hb1 HB2.out.size)
                have HPa := Lib.hid (Four.keep HP2.out hb1)
                have HNa := Lib.hid (Four.keep HN1.out hb1)
                have HNb := Lib.hid (Four.keep HN2.out hb1)
                have HNd := Lib.hid (Four.keep HNc.out hb1)
                have HDa := Lib.hid (HD2.out.keep hb1)
                have HDb := Lib.hid hd1
                clear H1 hb1 hd1 HB2 HP2 HN1 HN2 HNc HD2 p0 p1 p2 p3
                have o := HNa.out
                have of0 := o.free 0
                have of1 := o.free 1
                have of2 := o.free 2
                have of3 := o.free 3
                have o0 := o.c0
                have o1 := o.c1
                have o2 := o.c2
                have o3 := o.c3
                clear o
                unfold Dk.val
                dsimp only
                go_upto_region 17 with fail
                have hxw := HNa.out
                obtain ⟨V1, hV⟩ : ∃ V, V = put4 w1 (wr.heap.size + 1) ⟨0, [], 0, false⟩ a1 n1 c1 := ⟨_, rfl⟩
                have HBb := Lib.hid (show Below w.heap.size w V1 by rw [hV]; exact below_put4 (below_then HWB.out HBa.out HWB.out.size) (by have := hAw.out; omega))
                have HPb := Lib.hid (show Four V1 w.heap.size _ _ _ _ _ by rw [hV]; exact four_put4 HPa.out (by have := hAw.out; omega))
                have HNe := Lib.hid (show DkBox V1 (wr.heap.size + 1) ⟨0, [], 0, false⟩ a1 n1 c1 by rw [hV]; exact box_put4 (out_box HNa.out))
                have HN2b := Lib.hid (show outBox V1 (wr.heap.size + 1 + 1) by rw [hV]; exact four_put4 HNb.out (by omega))
                have HNf := Lib.hid (show Four V1 wr.heap.size _ _ _ _ _ by rw [hV]; exact four_put4 HNd.out (by omega))
                have HDc := Lib.hid (show DkAt V1 a n c ⟨rm0, l0, lf0, true⟩ by rw [hV]; exact HDa.out.put4 (out_box HNa.out))
                have HDd := Lib.hid (show DkAt V1 a1 n1 c1 ⟨0, [], 0, false⟩ by rw [hV]; exact HDb.out.put4 (out_box HNa.out))
                unfold put4 at hV
                dsimp only at hV
                rw [← hV]
                clear hV hxw o0 o1 o2 o3 of0 of1 of2 of3 HBa HPa HNa HNb HNd HDa HDb
                unfold DkBox at *
                dsimp only at *
                have p := HPb.out
                have p0 := p.c0
                have p1 := p.c1
                have p2 := p.c2
                have p3 := p.c3
                clear p
                have p := HNf.out
                have q0 := p.c0
                have q1 := p.c1
                have q2 := p.c2
                have q3 := p.c3
                clear p
                have o := HN2b.out
                have of0 := o.free 0
                have of1 := o.free 1
                have of2 := o.free 2
                have of3 := o.free 3
                have o0 := o.c0
                have o1 := o.c1
                have o2 := o.c2
                have o3 := o.c3
                clear o
                go_upto_region 18 with fail
                obtain ⟨V4, hV⟩ : ∃ V, V = put4 V1 (wr.heap.size + 1 + 1) ⟨rm0, l0, lf0, true⟩ a n c := ⟨_, rfl⟩
                have HBc := Lib.hid (show Below w.heap.size w V4 by rw [hV]; exact below_put4 HBb.out (by have := hAw.out; omega))
                have HPc := Lib.hid (show Four V4 w.heap.size _ _ _ _ _ by rw [hV]; exact four_put4 HPb.out (by have := hAw.out; omega))
                have HNg := Lib.hid (show Four V4 (wr.heap.size + 1) _ _ _ _ _ by rw [hV]; exact four_put4 HNe.out (by omega))
                have HNh := Lib.hid (show DkBox V4 (wr.heap.size + 1 + 1) ⟨rm0, l0, lf0, true⟩ a n c by rw [hV]; exact box_put4 (out_box HN2b.out))
                have HNj := Lib.hid (show Four V4 wr.heap.size _ _ _ _ _ by rw [hV]; exact four_put4 HNf.out (by omega))
                have HDe := Lib.hid (show DkAt V4 a n c ⟨rm0, l0, lf0, true⟩ by rw [hV]; exact HDc.out.put4 (out_box HN2b.out))
                have HDf := Lib.hid (show DkAt V4 a1 n1 c1 ⟨0, [], 0, false⟩ by rw [hV]; exact HDd.out.put4 (out_box HN2b.out))
                unfold put4 at hV
                dsimp only at hV
                rw [← hV]
                clear hV o0 o1 o2 o3 of0 of1 of2 of3 HBb HPb HNe HN2b HNf HDc HDd p0 p1 p2 p3 q0 q1 q2 q3
                unfold DkBox at *
                dsimp only at *
                have q := HNj.out
                have q0 := q.c0
                have q1 := q.c1
                have q2 := q.c2
                have q3 := q.c3
                clear q
                have o := HNh.out
                have of0 := o.free 0
                have of1 := o.free 1
                have of2 := o.free 2
                have of3 := o.free 3
                have o0 := o.c0
                have o1 := o.c1
                have o2 := o.c2
                have o3 := o.c3
                clear o
                go_upto_region 19 with fail
                obtain ⟨V5, hV⟩ : ∃ V, V = V4.setCell ⟨wr.heap.size + 1 + 1, 2, none⟩ (.int .i64 K) := ⟨_, rfl⟩
                have hb4 : Dbx V4 (wr.heap.size + 1 + 1) := ⟨⟨rm0, l0, lf0, true⟩, a, n, c, HNh.out⟩
                have hg4 : V4.grownBy (V4.setCell ⟨wr.heap.size + 1 + 1, 2, none⟩ (.int .i64 K)) (some (wr.heap.size + 1 + 1)) := grown_setCell _ _ _ _
                have HBd := Lib.hid (show Below w.heap.size w V5 by rw [hV]; exact HBc.out.setCell (by have := hAw.out; show w.heap.size ≤ wr.heap.size + 1 + 1; omega) _)
                have HPd := Lib.hid (show Four V5 w.heap.size _ _ _ _ _ by rw [hV]; exact HPc.out.kept hg4 (by have := hAw.out; simp; omega))
                have HNd := Lib.hid (show Four V5 (wr.heap.size + 1) _ _ _ _ _ by rw [hV]; exact HNg.out.kept hg4 (by simp))
                have HNi := Lib.hid (show Four V5 (wr.heap.size + 1 + 1) _ _ _ _ _ by rw [hV]; exact HNh.out.set2 (.int .i64 K))
                have HDh := Lib.hid (show DkAt V5 a n c ⟨rm0, l0, lf0, true⟩ by rw [hV]; exact HDe.out.setDisk HNh.out 2 _)
                have HDi := Lib.hid (show DkAt V5 a1 n1 c1 ⟨0, [], 0, false⟩ by rw [hV]; exact HDf.out.setDisk HNh.out 2 _)
                rw [← hV]
                clear hV hb4 hg4 o0 o1 o2 o3 of0 of1 of2 of3 HBc HPc HNg HNh HNj HDe HDf q0 q1 q2 q3 hK
                have p := HPd.out
                have p0 := p.c0
                have p1 := p.c1
                have p2 := p.c2
                have p3 := p.c3
                clear p
                have o := HNi.out
                have of0 := o.free 0
                have of1 := o.free 1
                have of2 := o.free 2
                have of3 := o.free 3
                have o0 := o.c0
                have o1 := o.c1
                have o2 := o.c2
                have o3 := o.c3
                clear o
                go_upto_region 29 with fail
                obtain ⟨V2, hV⟩ : ∃ V, V = put4 V5 (wr.heap.size + 1 + 1) ⟨0, [], 0, false⟩ none 0 0 := ⟨_, rfl⟩
                have hb4 : Dbx V5 (wr.heap.size + 1 + 1) := ⟨⟨rm0, l0, K, true⟩, a, n, c, HNi.out⟩
                have HBt := Lib.hid (show Below w.heap.size w V2 by rw [hV]; exact below_put4 HBd.out (by have := hAw.out; omega))
                have HPt := Lib.hid (show Four V2 w.heap.size _ _ _ _ _ by rw [hV]; exact four_put4 HPd.out (by have := hAw.out; omega))
                have HNt := Lib.hid (show Four V2 (wr.heap.size + 1) _ _ _ _ _ by rw [hV]; exact four_put4 HNd.out (by omega))
                have HWt := Lib.hid (show DkBox V2 (wr.heap.size + 1 + 1) ⟨0, [], 0, false⟩ none 0 0 by rw [hV]; exact box_put4 hb4)
                have HDt := Lib.hid (show DkAt V2 a n c ⟨rm0, l0, lf0, true⟩ by rw [hV]; exact HDh.out.put4 hb4)
                have HD1t := Lib.hid (show DkAt V2 a1 n1 c1 ⟨0, [], 0, false⟩ by rw [hV]; exact HDi.out.put4 hb4)
                have HD2t := Lib.hid (DkAt.zero V2)
                unfold put4 at hV
                dsimp only at hV
                rw [← hV]
                clear hV hb4 o0 o1 o2 o3 of0 of1 of2 of3 HBd HPd HNd HNi HDh HDi p0 p1 p2 p3
                unfold DkBox at *
                dsimp only at *
                have hlk := Lib.hid (refLike_same a1 n1 c1 none 0 0 ⟨0, [], 0, false⟩ V2 HD1t.out HD2t.out)
                unfold Dk.val at hlk
                dsimp only at hlk
                have p := HNt.out
                have p0 := p.c0
                have p1 := p.c1
                have p2 := p.c2
                have p3 := p.c3
                clear p
                have p := HWt.out
                have q0 := p.c0
                have q1 := p.c1
                have q2 := p.c2
                have q3 := p.c3
                clear p
                go_wp2_with fail
                refine hlk.out.mono ?_
                rintro e w5 ⟨rfl, hb5⟩
                have HBu := Lib.hid (below_then HBt.out hb5 HBt.out.size)
                have HPu := Lib.hid (Four.keep HPt.out hb5)
                have HNu := Lib.hid (Four.keep HNt.out hb5)
                have HDu := Lib.hid (HDt.out.keep hb5)
                have HD1u := Lib.hid (HD1t.out.keep hb5)
                clear hb5 p0 p1 p2 p3 q0 q1 q2 q3 hlk HBt HPt HNt HWt HDt HD1t HD2t
                have p := HPu.out
                have p0 := p.c0
                have p1 := p.c1
                have p2 := p.c2
                have p3 := p.c3
                clear p
                have p := HPu.out
                have pf0 := p.free 0
                have pf1 := p.free 1
                have pf2 := p.free 2
                have pf3 := p.free 3
                clear p
                have p := HNu.out
                have q0 := p.c0
                have q1 := p.c1
                have q2 := p.c2
                have q3 := p.c3
                clear p
                go_upto_region 33 with fail
                go_wp2_with fail
                refine (right_any a n c ⟨rm0, l0, lf0, true⟩ w5 HDu.out true (Lib.hid HRD.out.symm)).mono ?_
                rintro e w6 ⟨rfl, hb6⟩
                have HPk := Lib.hid (PlayRel.mk (d := ⟨rm0, l0, lf0, true⟩) (below_then HBu.out hb6 HBu.out.size) (Four.keep HPu.out hb6) (HDu.out.keep hb6) HRD.out)
                clear hb6
                go_wp2_with fail
                go_roundg (nc - (k + 1))
                case rel => exact ⟨k + 1, by omega, rfl, by go_num, _, _, _, _, HPk⟩
                case measure => omega
              | false =>
                have HN1 := Lib.hid (pw_next wr 5 nm more num)
                have HN2 := Lib.hid (pw_want wr 5 nm more num)
                have HNc := Lib.hid (pw_call wr 5 nm more num)
                have HB2 := Lib.hid (pw_below wr 5 nm more num)
                have HP2 := Lib.hid (hP.out.box.keep HB2.out)
                have HD2 := Lib.hid (hP.out.disk.keep HB2.out)
                have hAw := Lib.hid (lt_of_block hP.out.box)
                have HWB := Lib.hid hP.out.below
                have HRD := Lib.hid hP.out.right
                obtain ⟨K, hK⟩ : ∃ K, min (max num (-1)) 1073741824 = K := ⟨_, rfl⟩
                have hK1 : -1 ≤ K ∧ K ≤ 1073741824 := by omega
                have h1 := cut_any a n c d K (pw wr 5 nm more num) HD2.out
                clear hP
                obtain ⟨rm0, l0, lf0, dn0⟩ := d
                dsimp only at hd0
                subst hd0
                have hct : cutD ⟨rm0, l0, lf0, false⟩ K = (⟨rm0, l0, K, false⟩, 0) := by
                  unfold cutD
                  rw [if_neg (by rw [HRD.out]; simp; omega)]
                  rw [if_neg (by simp)]
                rw [hct] at h1
                have HR1 : Hid (rightD ⟨rm0, l0, K, false⟩ = true) := Lib.hid (right_left HRD.out K false hK1.1 hK1.2)
                have H1 := Lib.hid h1
                have HK1 := Lib.hid hK1
                clear h1 hct hK1
                unfold pw at *
                unfold Dk.val DkBox at *
                dsimp only at *
                have p := HP2.out
                have p0 := p.c0
                have p1 := p.c1
                have p2 := p.c2
                have p3 := p.c3
                clear p
                go_wp2_with fail
                refine H1.out.mono ?_
                rintro e w1 ⟨a1, n1, c1, rfl, hd1, hb1⟩
                have HBa := Lib.hid (below_then HB2.out hb1 HB2.out.size)
                have HPa := Lib.hid (Four.keep HP2.out hb1)
                have HNa := Lib.hid (Four.keep HN1.out hb1)
                have HNb := Lib.hid (Four.keep HN2.out hb1)
                have HNd := Lib.hid (Four.keep HNc.out hb1)
                have HDa := Lib.hid (HD2.out.keep hb1)
                have HDb := Lib.hid hd1
                clear H1 hb1 hd1 HB2 HP2 HN1 HN2 HNc HD2 p0 p1 p2 p3
                have o := HNa.out
                have of0 := o.free 0
                have of1 := o.free 1
                have of2 := o.free 2
                have of3 := o.free 3
                have o0 := o.c0
                have o1 := o.c1
                have o2 := o.c2
                have o3 := o.c3
                clear o
                unfold Dk.val
                dsimp only
                go_upto_region 17 with fail
                have hxw := HNa.out
                obtain ⟨V1, hV⟩ : ∃ V, V = put4 w1 (wr.heap.size + 1) ⟨rm0, l0, K, false⟩ a1 n1 c1 := ⟨_, rfl⟩
                have HBb := Lib.hid (show Below w.heap.size w V1 by rw [hV]; exact below_put4 (below_then HWB.out HBa.out HWB.out.size) (by have := hAw.out; omega))
                have HPb := Lib.hid (show Four V1 w.heap.size _ _ _ _ _ by rw [hV]; exact four_put4 HPa.out (by have := hAw.out; omega))
                have HNe := Lib.hid (show DkBox V1 (wr.heap.size + 1) ⟨rm0, l0, K, false⟩ a1 n1 c1 by rw [hV]; exact box_put4 (out_box HNa.out))
                have HN2b := Lib.hid (show outBox V1 (wr.heap.size + 1 + 1) by rw [hV]; exact four_put4 HNb.out (by omega))
                have HNf := Lib.hid (show Four V1 wr.heap.size _ _ _ _ _ by rw [hV]; exact four_put4 HNd.out (by omega))
                have HDc := Lib.hid (show DkAt V1 a n c ⟨rm0, l0, lf0, false⟩ by rw [hV]; exact HDa.out.put4 (out_box HNa.out))
                have HDd := Lib.hid (show DkAt V1 a1 n1 c1 ⟨rm0, l0, K, false⟩ by rw [hV]; exact HDb.out.put4 (out_box HNa.out))
                unfold put4 at hV
                dsimp only at hV
                rw [← hV]
                clear hV hxw o0 o1 o2 o3 of0 of1 of2 of3 HBa HPa HNa HNb HNd HDa HDb
                unfold DkBox at *
                dsimp only at *
                have p := HPb.out
                have p0 := p.c0
                have p1 := p.c1
                have p2 := p.c2
                have p3 := p.c3
                clear p
                have p := HNf.out
                have q0 := p.c0
                have q1 := p.c1
                have q2 := p.c2
                have q3 := p.c3
                clear p
                have o := HN2b.out
                have of0 := o.free 0
                have of1 := o.free 1
                have of2 := o.free 2
                have of3 := o.free 3
                have o0 := o.c0
                have o1 := o.c1
                have o2 := o.c2
                have o3 := o.c3
                clear o
                go_upto_region 18 with fail
                obtain ⟨V4, hV⟩ : ∃ V, V = put4 V1 (wr.heap.size + 1 + 1) ⟨rm0, l0, lf0, false⟩ a n c := ⟨_, rfl⟩
                have HBc := Lib.hid (show Below w.heap.size w V4 by rw [hV]; exact below_put4 HBb.out (by have := hAw.out; omega))
                have HPc := Lib.hid (show Four V4 w.heap.size _ _ _ _ _ by rw [hV]; exact four_put4 HPb.out (by have := hAw.out; omega))
                have HNg := Lib.hid (show Four V4 (wr.heap.size + 1) _ _ _ _ _ by rw [hV]; exact four_put4 HNe.out (by omega))
                have HNh := Lib.hid (show DkBox V4 (wr.heap.size + 1 + 1) ⟨rm0, l0, lf0, false⟩ a n c by rw [hV]; exact box_put4 (out_box HN2b.out))
                have HNj := Lib.hid (show Four V4 wr.heap.size _ _ _ _ _ by rw [hV]; exact four_put4 HNf.out (by omega))
                have HDe := Lib.hid (show DkAt V4 a n c ⟨rm0, l0, lf0, false⟩ by rw [hV]; exact HDc.out.put4 (out_box HN2b.out))
                have HDf := Lib.hid (show DkAt V4 a1 n1 c1 ⟨rm0, l0, K, false⟩ by rw [hV]; exact HDd.out.put4 (out_box HN2b.out))
                unfold put4 at hV
                dsimp only at hV
                rw [← hV]
                clear hV o0 o1 o2 o3 of0 of1 of2 of3 HBb HPb HNe HN2b HNf HDc HDd p0 p1 p2 p3 q0 q1 q2 q3
                unfold DkBox at *
                dsimp only at *
                have q := HNj.out
                have q0 := q.c0
                have q1 := q.c1
                have q2 := q.c2
                have q3 := q.c3
                clear q
                have o := HNh.out
                have of0 := o.free 0
                have of1 := o.free 1
                have of2 := o.free 2
                have of3 := o.free 3
                have o0 := o.c0
                have o1 := o.c1
                have o2 := o.c2
                have o3 := o.c3
                clear o
                go_upto_region 19 with fail
                obtain ⟨V5, hV⟩ : ∃ V, V = V4.setCell ⟨wr.heap.size + 1 + 1, 2, none⟩ (.int .i64 K) := ⟨_, rfl⟩
                have hb4 : Dbx V4 (wr.heap.size + 1 + 1) := ⟨⟨rm0, l0, lf0, false⟩, a, n, c, HNh.out⟩
                have hg4 : V4.grownBy (V4.setCell ⟨wr.heap.size + 1 + 1, 2, none⟩ (.int .i64 K)) (some (wr.heap.size + 1 + 1)) := grown_setCell _ _ _ _
                have HBd := Lib.hid (show Below w.heap.size w V5 by rw [hV]; exact HBc.out.setCell (by have := hAw.out; show w.heap.size ≤ wr.heap.size + 1 + 1; omega) _)
                have HPd := Lib.hid (show Four V5 w.heap.size _ _ _ _ _ by rw [hV]; exact HPc.out.kept hg4 (by have := hAw.out; simp; omega))
                have HNd := Lib.hid (show Four V5 (wr.heap.size + 1) _ _ _ _ _ by rw [hV]; exact HNg.out.kept hg4 (by simp))
                have HNi := Lib.hid (show Four V5 (wr.heap.size + 1 + 1) _ _ _ _ _ by rw [hV]; exact HNh.out.set2 (.int .i64 K))
                have HDh := Lib.hid (show DkAt V5 a n c ⟨rm0, l0, lf0, false⟩ by rw [hV]; exact HDe.out.setDisk HNh.out 2 _)
                have HDi := Lib.hid (show DkAt V5 a1 n1 c1 ⟨rm0, l0, K, false⟩ by rw [hV]; exact HDf.out.setDisk HNh.out 2 _)
                rw [← hV]
                clear hV hb4 hg4 o0 o1 o2 o3 of0 of1 of2 of3 HBc HPc HNg HNh HNj HDe HDf q0 q1 q2 q3 hK
                have p := HPd.out
                have p0 := p.c0
                have p1 := p.c1
                have p2 := p.c2
                have p3 := p.c3
                clear p
                go_upto_region 29 with fail
                have HBt := Lib.hid HBd.out
                have HPt := Lib.hid HPd.out
                have HNt := Lib.hid HNd.out
                have HWt := Lib.hid HNi.out
                have HDt := Lib.hid HDh.out
                have HD1t := Lib.hid HDi.out
                have HD2t : Hid (DkAt V5 a n c ⟨rm0, l0, K, false⟩) := Lib.hid (HDh.out.relab K false (by have := HK1.out; omega))
                clear HBd HPd HNd HNi HDh HDi p0 p1 p2 p3
                have hlk := Lib.hid (refLike_same a1 n1 c1 a n c ⟨rm0, l0, K, false⟩ V5 HD1t.out HD2t.out)
                unfold Dk.val at hlk
                dsimp only at hlk
                have p := HNt.out
                have p0 := p.c0
                have p1 := p.c1
                have p2 := p.c2
                have p3 := p.c3
                clear p
                have p := HWt.out
                have q0 := p.c0
                have q1 := p.c1
                have q2 := p.c2
                have q3 := p.c3
                clear p
                go_wp2_with fail
                refine hlk.out.mono ?_
                rintro e w5 ⟨rfl, hb5⟩
                have HBu := Lib.hid (below_then HBt.out hb5 HBt.out.size)
                have HPu := Lib.hid (Four.keep HPt.out hb5)
                have HNu := Lib.hid (Four.keep HNt.out hb5)
                have HDu := Lib.hid (HDt.out.keep hb5)
                have HD1u := Lib.hid (HD1t.out.keep hb5)
                clear hb5 p0 p1 p2 p3 q0 q1 q2 q3 hlk HBt HPt HNt HWt HDt HD1t HD2t
                have p := HPu.out
                have p0 := p.c0
                have p1 := p.c1
                have p2 := p.c2
                have p3 := p.c3
                clear p
                have p := HPu.out
                have pf0 := p.free 0
                have pf1 := p.free 1
                have pf2 := p.free 2
                have pf3 := p.free 3
                clear p
                have p := HNu.out
                have q0 := p.c0
                have q1 := p.c1
                have q2 := p.c2
                have q3 := p.c3
                clear p
                go_upto_region 33 with fail
                obtain ⟨V3, hV⟩ : ∃ V, V = put4 w5 w.heap.size ⟨rm0, l0, K, false⟩ a1 n1 c1 := ⟨_, rfl⟩
                have hbx : Dbx w5 w.heap.size := ⟨⟨rm0, l0, lf0, _⟩, a, n, c, HPu.out⟩
                have HBv := Lib.hid (show Below w.heap.size w V3 by rw [hV]; exact below_put4 HBu.out (Nat.le_refl _))
                have HPv := Lib.hid (show DkBox V3 w.heap.size ⟨rm0, l0, K, false⟩ a1 n1 c1 by rw [hV]; exact box_put4 hbx)
                have HDv := Lib.hid (show DkAt V3 a1 n1 c1 ⟨rm0, l0, K, false⟩ by rw [hV]; exact HD1u.out.put4 hbx)
                unfold put4 at hV
                dsimp only at hV
                rw [← hV]
                clear hV p0 p1 p2 p3 pf0 pf1 pf2 pf3 q0 q1 q2 q3 hbx
                have p := HPv.out
                have p0 := p.c0
                have p1 := p.c1
                have p2 := p.c2
                have p3 := p.c3
                clear p
                go_wp2_with fail
                refine (right_any a1 n1 c1 ⟨rm0, l0, K, false⟩ V3 HDv.out true (Lib.hid HR1.out.symm)).mono ?_
                rintro e w6 ⟨rfl, hb6⟩
                have HPk := Lib.hid (PlayRel.mk (below_then HBv.out hb6 HBv.out.size) (DkBox.keep HPv.out hb6) (HDv.out.keep hb6) HR1.out)
                clear hb6
                go_wp2_with fail
                go_roundg (nc - (k + 1))
                case rel => exact ⟨k + 1, by omega, rfl, by go_num, _, _, _, _, HPk⟩
                case measure => omega
            · by_cases h6 : what = 6
              · subst h6
                have HN1 := Lib.hid (pw_next wr 6 nm more num)
                have HN2 := Lib.hid (pw_want wr 6 nm more num)
                have HNc := Lib.hid (pw_call wr 6 nm more num)
                have HB2 := Lib.hid (pw_below wr 6 nm more num)
                have HP2 := Lib.hid (hP.out.box.keep HB2.out)
                have HD2 := Lib.hid (hP.out.disk.keep HB2.out)
                have hAw := Lib.hid (lt_of_block hP.out.box)
                have HWB := Lib.hid hP.out.below
                have HRD := Lib.hid hP.out.right
                obtain ⟨i0, hi, hz0, hz1, hz2⟩ := info_parts infoIntP
                have hdn := hP.out.disk.len
                have h8 := (rightD_nums hP.out.right).2.1
                have hcr := crash_right HRD.out (List.replicate n num)
                clear hP
                obtain ⟨rm0, l0, lf0, dn0⟩ := d
                have hct : crashD ⟨rm0, l0, lf0, dn0⟩ (List.replicate n num) = (crashed ⟨rm0, l0, lf0, dn0⟩ (List.replicate n num), 0) := by
                  unfold crashD
                  rw [if_neg (by rw [HRD.out]; simp)]
                obtain ⟨⟨rm1, l1, lf1, dn1⟩, hr1⟩ : ∃ r, crashed ⟨rm0, l0, lf0, dn0⟩ (List.replicate n num) = r := ⟨_, rfl⟩
                have h1 := fun (V : World) (hV : DkAt V a n c ⟨rm0, l0, lf0, dn0⟩) (ak : Option Addr) (nk ck : Nat) (hk : SlAt V ak nk (i64s (List.replicate n num))) (hkn : nk ≤ 100000000000000) => crash_any a n c ⟨rm0, l0, lf0, dn0⟩ ak nk ck (List.replicate n num) V hV hk hkn
                have h2 := fun (V : World) (hV : DkAt V a n c ⟨rm0, l0, lf0, dn0⟩) (ak : Option Addr) (nk ck : Nat) (hk : SlAt V ak nk (i64s (List.replicate n num))) (hkn : nk ≤ 100000000000000) => refCrash_any a n c ⟨rm0, l0, lf0, dn0⟩ ak nk ck (List.replicate n num) V hV hk hkn HRD.out
                rw [hct, hr1] at h1
                rw [hr1] at h2 hcr
                have H1 := Lib.hid h1
                have H2 := Lib.hid h2
                have HR1 := Lib.hid hcr
                have HN8 : Hid (n ≤ 8) := Lib.hid (by dsimp only at hdn h8; omega)
                clear h1 h2 hcr hct hr1 hdn h8
                unfold pw at *
                unfold Dk.val DkBox at *
                dsimp only at *
                have p := HP2.out
                have p0 := p.c0
                have p1 := p.c1
                have p2 := p.c2
                have p3 := p.c3
                clear p
                have q := HNc.out
                have q0 := q.c0
                have q1 := q.c1
                have q2 := q.c2
                have q3 := q.c3
                clear q
                go_upto_region 24 with fail
                have HSZ := Lib.hid (pw_size wr 6 nm more num)
                unfold pw at HSZ
                generalize hPW : ((wr.alloc (.cells #[.int .i64 6, .string nm, .string more, .int .i64 num] 44)).alloc (.cells #[.int .i64 0, .slice none 0 0, .int .i64 0, .bool false] 24)).alloc (.cells #[.int .i64 0, .slice none 0 0, .int .i64 0, .bool false] 24) = PW at *
                clear hPW
                obtain ⟨wo, hwo⟩ : ∃ wo, wo = wr := ⟨_, rfl⟩
                subst hwo
                go_loopg [12, 81] n (fun gk v i wx => ∃ j : Nat, j ≤ n ∧ gk = n - j ∧ i = .int .i64 (j : Int) ∧ Hid (wx.ownsRow PW.heap.size 3 1 v j (i64s (List.replicate j num))) ∧ Hid (Below PW.heap.size PW wx))
                case atStart => exact ⟨0, Nat.zero_le _, rfl, rfl, Lib.hid (World.ownsRow_nil PW PW.heap.size 3 1), Lib.hid (Below.refl _ _)⟩
                case round =>
                  rename_i v12
                  obtain ⟨j, hj, rfl, rfl, hown, hbx⟩ := hrel
                  by_cases hjn : j < n
                  · have hji : (j : Int) < (n : Int) := by omega
                    have q3x := cell_keep hbx.out q3
                    have hj8 : j ≤ 8 := by have := HN8.out; omega
                    have hsz := hbx.out.size
                    clear p0 p1 p2 p3 q0 q1 q2 q3
                    go_wp2_with (at_builtin; refine wpList_append_own _ rfl _ _ 25 rfl PW.heap.size 3 i0 (.int .i64 0) 1 8 Try.underlying25 hi hz0 hz1 hz2 rfl (by decide) _ _ _ rfl (hown.out.alloc _) ⟨wr.heap.size, 0, none⟩ 1 1 [.int .i64 num] rfl rfl (cell_one_new _ _ _) (by simp [Value.oneCell']) ?c3 ?c4 ?c5 ?_)
                    case c3 => unfold maxLen; omega
                    case c4 => omega
                    case c5 => simp; omega
                    intro v' w3 hown' hgrow _
                    have HO3 := Lib.hid (show w3.ownsRow PW.heap.size 3 1 v' (j + 1) (i64s (List.replicate (j + 1) num)) by rw [List.replicate_succ', i64s_snoc]; exact hown')
                    have HB3 := Lib.hid ((hbx.out.alloc hsz _).grown hgrow (by simp; omega) (fun b e => by have := hown.out.lt b e; omega))
                    clear hown' hgrow hsz
                    go_wp2_with fail
                    go_roundg (n - (j + 1))
                    case rel => exact ⟨j + 1, by omega, rfl, by go_num, HO3, HB3⟩
                    case measure => omega
                  · have hji : (n : Int) ≤ (j : Int) := by omega
                    obtain rfl : n = j := by omega
                    obtain ⟨ak, nk, ck, rfl, hsl, hkb, _⟩ := own_slice hown.out
                    have hnk : nk ≤ 100000000000000 := by have h1 := hsl.1; rw [i64s_length, List.length_replicate] at h1; have := HN8.out; omega
                    have HB2x := Lib.hid (below_then HB2.out hbx.out HB2.out.size)
                    have HP2x := Lib.hid (Four.keep HP2.out hbx.out)
                    have HN1x := Lib.hid (Four.keep HN1.out hbx.out)
                    have HN2x := Lib.hid (Four.keep HN2.out hbx.out)
                    have HNcx := Lib.hid (Four.keep HNc.out hbx.out)
                    have HD2x := Lib.hid (HD2.out.keep hbx.out)
                    have HSL := Lib.hid hsl
                    have HKB := Lib.hid hkb
                    clear hsl hkb hown hbx HB2 HP2 HN1 HN2 HNc HD2 p0 p1 p2 p3 q0 q1 q2 q3
                    have p := HP2x.out
                    have p0 := p.c0
                    have p1 := p.c1
                    have p2 := p.c2
                    have p3 := p.c3
                    clear p
                    go_wp2_with fail
                    refine (H1.out _ HD2x.out ak nk ck HSL.out hnk).mono ?_
                    rintro e w1 ⟨a1, n1, c1, rfl, hd1, hb1⟩
                    have HBa := Lib.hid (below_then HB2x.out hb1 HB2x.out.size)
                    have HPa := Lib.hid (Four.keep HP2x.out hb1)
                    have HNa := Lib.hid (Four.keep HN1x.out hb1)
                    have HNb := Lib.hid (Four.keep HN2x.out hb1)
                    have HNd := Lib.hid (Four.keep HNcx.out hb1)
                    have HDa := Lib.hid (HD2x.out.keep hb1)
                    have HDb := Lib.hid hd1
                    have HSa := Lib.hid (HSL.out.keep hb1)
                    clear hb1 hd1 HB2x HP2x HN1x HN2x HNcx HD2x HSL H1 p0 p1 p2 p3
                    have o := HNa.out
                    have of0 := o.free 0
                    have of1 := o.free 1
                    have of2 := o.free 2
                    have of3 := o.free 3
                    have o0 := o.c0
                    have o1 := o.c1
                    have o2 := o.c2
                    have o3 := o.c3
                    clear o
                    unfold Dk.val
                    dsimp only
                    go_upto_region 28 with fail
                    have hsk : SlAt (put4 w1 (wo.heap.size + 1) ⟨rm1, l1, lf1, dn1⟩ a1 n1 c1) ak nk (i64s (List.replicate n num)) := HSa.out.kept (grown_four w1 (wo.heap.size + 1) _ _ _ _) (fun b hb e => by
                      cases ak with
                      | none => cases hb
                      | some x =>
                        have h1 := HKB.out x rfl
                        simp at hb e
                        have := HSZ.out
                        omega)
                    have hxw := HNa.out
                    obtain ⟨V1, hV⟩ : ∃ V, V = put4 w1 (wo.heap.size + 1) ⟨rm1, l1, lf1, dn1⟩ a1 n1 c1 := ⟨_, rfl⟩
                    have HBb := Lib.hid (show Below w.heap.size w V1 by rw [hV]; exact below_put4 (below_then HWB.out HBa.out HWB.out.size) (by have := hAw.out; omega))
                    have HPb := Lib.hid (show Four V1 w.heap.size _ _ _ _ _ by rw [hV]; exact four_put4 HPa.out (by have := hAw.out; omega))
                    have HNe := Lib.hid (show DkBox V1 (wo.heap.size + 1) ⟨rm1, l1, lf1, dn1⟩ a1 n1 c1 by rw [hV]; exact box_put4 (out_box HNa.out))
                    have HN2b := Lib.hid (show outBox V1 (wo.heap.size + 1 + 1) by rw [hV]; exact four_put4 HNb.out (by omega))
                    have HNf := Lib.hid (show Four V1 wo.heap.size _ _ _ _ _ by rw [hV]; exact four_put4 HNd.out (by omega))
                    have HDc := Lib.hid (show DkAt V1 a n c ⟨rm0, l0, lf0, dn0⟩ by rw [hV]; exact HDa.out.put4 (out_box HNa.out))
                    have HDd := Lib.hid (show DkAt V1 a1 n1 c1 ⟨rm1, l1, lf1, dn1⟩ by rw [hV]; exact HDb.out.put4 (out_box HNa.out))
                    have HSc := Lib.hid (show SlAt V1 ak nk (i64s (List.replicate n num)) by rw [hV]; exact hsk)
                    clear hsk HSa
                    unfold put4 at hV
                    dsimp only at hV
                    rw [← hV]
                    clear hV hxw o0 o1 o2 o3 of0 of1 of2 of3 HBa HPa HNa HNb HNd HDa HDb
                    unfold DkBox at *
                    dsimp only at *
                    have p := HPb.out
                    have p0 := p.c0
                    have p1 := p.c1
                    have p2 := p.c2
                    have p3 := p.c3
                    clear p
                    go_wp2_with fail
                    refine (H2.out _ HDc.out ak nk ck HSc.out hnk).mono ?_
                    rintro e w3 ⟨a2, n2, c2, rfl, hd3, hb3⟩
                    have HBc := Lib.hid (below_then HBb.out hb3 HBb.out.size)
                    have HPc := Lib.hid (Four.keep HPb.out hb3)
                    have HNg := Lib.hid (Four.keep HNe.out hb3)
                    have HNh := Lib.hid (Four.keep HN2b.out hb3)
                    have HDe := Lib.hid (HDc.out.keep hb3)
                    have HDf := Lib.hid (HDd.out.keep hb3)
                    have HDg := Lib.hid hd3
                    clear hb3 hd3 HBb HPb HNe HN2b HNf HDc HDd HSc p0 p1 p2 p3 H2
                    unfold Dk.val
                    dsimp only
                    have o := HNh.out
                    have of0 := o.free 0
                    have of1 := o.free 1
                    have of2 := o.free 2
                    have of3 := o.free 3
                    have o0 := o.c0
                    have o1 := o.c1
                    have o2 := o.c2
                    have o3 := o.c3
                    clear o
                    go_upto_region 29 with fail
                    obtain ⟨V2, hV⟩ : ∃ V, V = put4 w3 (wo.heap.size + 1 + 1) ⟨rm1, l1, lf1, dn1⟩ a2 n2 c2 := ⟨_, rfl⟩
                    have HBt := Lib.hid (show Below w.heap.size w V2 by rw [hV]; exact below_put4 HBc.out (by have := hAw.out; omega))
                    have HPt := Lib.hid (show Four V2 w.heap.size _ _ _ _ _ by rw [hV]; exact four_put4 HPc.out (by have := hAw.out; omega))
                    have HNt := Lib.hid (show Four V2 (wo.heap.size + 1) _ _ _ _ _ by rw [hV]; exact four_put4 HNg.out (by omega))
                    have HWt := Lib.hid (show DkBox V2 (wo.heap.size + 1 + 1) ⟨rm1, l1, lf1, dn1⟩ a2 n2 c2 by rw [hV]; exact box_put4 (out_box HNh.out))
                    have HDt := Lib.hid (show DkAt V2 a n c ⟨rm0, l0, lf0, dn0⟩ by rw [hV]; exact HDe.out.put4 (out_box HNh.out))
                    have HD1t := Lib.hid (show DkAt V2 a1 n1 c1 ⟨rm1, l1, lf1, dn1⟩ by rw [hV]; exact HDf.out.put4 (out_box HNh.out))
                    have HD2t := Lib.hid (show DkAt V2 a2 n2 c2 ⟨rm1, l1, lf1, dn1⟩ by rw [hV]; exact HDg.out.put4 (out_box HNh.out))
                    unfold put4 at hV
                    dsimp only at hV
                    rw [← hV]
                    clear hV o0 o1 o2 o3 of0 of1 of2 of3 HBc HPc HNg HNh HDe HDf HDg
                    unfold DkBox at *
                    dsimp only at *
                    have hlk := Lib.hid (refLike_same a1 n1 c1 a2 n2 c2 ⟨rm1, l1, lf1, dn1⟩ V2 HD1t.out HD2t.out)
                    unfold Dk.val at hlk
                    dsimp only at hlk
                    have p := HNt.out
                    have p0 := p.c0
                    have p1 := p.c1
                    have p2 := p.c2
                    have p3 := p.c3
                    clear p
                    have p := HWt.out
                    have q0 := p.c0
                    have q1 := p.c1
                    have q2 := p.c2
                    have q3 := p.c3
                    clear p
                    go_wp2_with fail
                    refine hlk.out.mono ?_
                    rintro e w5 ⟨rfl, hb5⟩
                    have HBu := Lib.hid (below_then HBt.out hb5 HBt.out.size)
                    have HPu := Lib.hid (Four.keep HPt.out hb5)
                    have HNu := Lib.hid (Four.keep HNt.out hb5)
                    have HDu := Lib.hid (HDt.out.keep hb5)
                    have HD1u := Lib.hid (HD1t.out.keep hb5)
                    clear hb5 p0 p1 p2 p3 q0 q1 q2 q3 hlk HBt HPt HNt HWt HDt HD1t HD2t
                    have p := HPu.out
                    have p0 := p.c0
                    have p1 := p.c1
                    have p2 := p.c2
                    have p3 := p.c3
                    clear p
                    have p := HPu.out
                    have pf0 := p.free 0
                    have pf1 := p.free 1
                    have pf2 := p.free 2
                    have pf3 := p.free 3
                    clear p
                    have p := HNu.out
                    have q0 := p.c0
                    have q1 := p.c1
                    have q2 := p.c2
                    have q3 := p.c3
                    clear p
                    go_upto_region 33 with fail
                    obtain ⟨V3, hV⟩ : ∃ V, V = put4 w5 w.heap.size ⟨rm1, l1, lf1, dn1⟩ a1 n1 c1 := ⟨_, rfl⟩
                    have hbx : Dbx w5 w.heap.size := ⟨⟨rm0, l0, lf0, _⟩, a, n, c, HPu.out⟩
                    have HBv := Lib.hid (show Below w.heap.size w V3 by rw [hV]; exact below_put4 HBu.out (Nat.le_refl _))
                    have HPv := Lib.hid (show DkBox V3 w.heap.size ⟨rm1, l1, lf1, dn1⟩ a1 n1 c1 by rw [hV]; exact box_put4 hbx)
                    have HDv := Lib.hid (show DkAt V3 a1 n1 c1 ⟨rm1, l1, lf1, dn1⟩ by rw [hV]; exact HD1u.out.put4 hbx)
                    unfold put4 at hV
                    dsimp only at hV
                    rw [← hV]
                    clear hV p0 p1 p2 p3 pf0 pf1 pf2 pf3 q0 q1 q2 q3 hbx
                    have p := HPv.out
                    have p0 := p.c0
                    have p1 := p.c1
                    have p2 := p.c2
                    have p3 := p.c3
                    clear p
                    go_wp2_with fail
                    refine (right_any a1 n1 c1 ⟨rm1, l1, lf1, dn1⟩ V3 HDv.out true (Lib.hid HR1.out.symm)).mono ?_
                    rintro e w6 ⟨rfl, hb6⟩
                    have HPk := Lib.hid (PlayRel.mk (below_then HBv.out hb6 HBv.out.size) (DkBox.keep HPv.out hb6) (HDv.out.keep hb6) HR1.out)
                    clear hb6
                    go_wp2_with fail
                    go_roundg (nc - (k + 1))
                    case rel => exact ⟨k + 1, by omega, rfl, by go_num, _, _, _, _, HPk⟩
                    case measure => omega
              · have e1 : (what == 1) = false := by simp; omega
                have e2 : (what == 2) = false := by simp; omega
                have e3 : (what == 3) = false := by simp; omega
                have e4 : (what == 4) = false := by simp; omega
                have e5 : (what == 5) = false := by simp; omega
                have e6 : (what == 6) = false := by simp; omega
                have HB2 := Lib.hid (pw_below wr what nm more num)
                have HPk := Lib.hid (PlayRel.mk (below_then hP.out.below HB2.out hP.out.below.size) (hP.out.box.keep HB2.out) (hP.out.disk.keep HB2.out) hP.out.right)
                unfold pw at *
                clear hP HB2 h14 h5 h6
                go_wp2_with fail
                go_roundg (nc - (k + 1))
                case rel => exact ⟨k + 1, by omega, rfl, by go_num, _, _, _, _, HPk⟩
                case measure => omega
    · have hki : (nc : Int) ≤ (k : Int) := by omega
      have HWB := Lib.hid hP.out.below
      go_wp2_with fail
      refine (alive_any _).mono ?_
      rintro e wz ⟨rfl, hbz⟩
      have HBz := Lib.hid (below_then HWB.out hbz HWB.out.size)
      clear hbz
      go_wp2_with fail
      go_ret
      exact ⟨rfl, HBz.out⟩
theorem diskPlays_walk (room : Int) (ac : Option Addr) (nc cc : Nat) (l : List Lc) (w : World) (hwf : (Lit.int .i64 room).wf = true) (h : lcE.Sl w ac nc l ∧ (∀ o ∈ l, o.ok) ∧ nc ≤ 3000000000000) :
    Calls Try.prog 7 #[.int .i64 room, .slice ac nc cc] w fun e w' => e = .returned (.bool true) ∧ Below w.heap.size w w' :=
  plays_any room ac nc cc l w h.1 h.2.1 h.2.2
end Go.Proofs.Ytjppommhamaibaa
