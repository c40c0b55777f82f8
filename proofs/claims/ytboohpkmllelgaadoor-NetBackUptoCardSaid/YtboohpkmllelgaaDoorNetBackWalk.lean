/-
  The walk of the law NetBack: it returns true. (Written by wip/mknback.py.)
-/
import Derived.Test.YtboohpkmllelgaaDoorNoA
import Derived.Test.YtboohpkmllelgaaDoorNsA
import Derived.Test.YtboohpkmllelgaaDoorNaL
namespace Go.Proofs.YtboohpkmllelgaaDoor
open Go.RowKit
set_option linter.unusedVariables false

theorem seal_put {m : Ms} {s : ByteArray} (h : sealM m = (s, 0)) : (putM m).2 = 0 := by
  have := congrArg Prod.snd (seal_ok h).1
  exact this

set_option maxRecDepth 100000 in
set_option maxHeartbeats 4000000 in
theorem netBack_walk (m : Ms) (ar : Option Addr) (nr cr : Nat) (av : Option Addr) (nv cv : Nat) (s : ByteArray) (w : World) (h : MsAt w m ar nr cr av nv cv) (hsn : m.snap.size ≤ 140737488355328) (hd : ∀ r ∈ m.recs, r.data.size ≤ 140737488355328) (hm : s.size ≤ 9223372036854775807) (htab : Lib.TabIs Tryd.prog w "internal/strconv.uint64pow10" .u64 Lib.pow10Tab) :
    Calls Tryd.prog 3 #[m.val ar nr cr av nv cv, .string s] w (fun e w' => e = .returned (.bool true) ∧ Below w.heap.size w w') := by
  have HT := Lib.hid (Lib.tabBelow_of_tabIs htab)
  obtain ⟨g, hg⟩ : ∃ g, g = putM m := ⟨_, rfl⟩
  obtain ⟨q, hq⟩ : ∃ q, q = sealM m := ⟨_, rfl⟩
  obtain ⟨y, hy⟩ : ∃ y, y = getM s := ⟨_, rfl⟩
  have HPG : Hid (g.2 = 0 → getM g.1 = (m, 0)) := Lib.hid (fun h => put_got (by rw [← hg]; exact Prod.ext rfl h))
  have HSO : Hid (q.2 = 0 → openM q.1 = (m, 0)) := Lib.hid (fun h => seal_open (by rw [← hq]; exact Prod.ext rfl h))
  have HGZ : Hid (g.1.size ≤ 131072) := Lib.hid (by rw [hg]; exact putM_size m)
  have HQZ : Hid (q.2 = 0 → q.1.size ≤ 65548) := Lib.hid (fun h => (seal_some (m := m) (s := q.1) (by rw [← hq]; exact Prod.ext rfl h)).2)
  have HQG : Hid (q.2 = 0 → g.2 = 0) := Lib.hid (fun h => by rw [hg]; exact seal_put (s := q.1) (by rw [← hq]; exact Prod.ext rfl h))
  have HGB : Hid (y.2 ≠ 0 → y.1 = Ms.zero) := Lib.hid (fun h => got_bad (s := s) (e := y.2) (by rw [← hy]) h)
  have HGP : Hid (y.2 = 0 → putM y.1 = (s, 0)) := Lib.hid (fun h => got_put (by rw [← hy]; exact Prod.ext rfl h))
  have HGS : Hid (∀ W, Calls Tryd.prog 11 #[.string s] W (RetM W y)) := Lib.hid (fun W => by rw [hy]; exact nget_any s W hm)
  have HAL := Lib.hid alive_any
  have HSS := Lib.hid (show s.size < 9223372036854775808 by omega)
  have HG2 := Lib.hid hg
  have HQ2 := Lib.hid hq
  clear hg hq hy htab
  obtain ⟨kd, fr, ds, tm, ok, ix, lt, rs, cm, sn, vs⟩ := m
  have HMS : Hid (∀ W, Below w.heap.size w W → MsAt W ⟨kd, fr, ds, tm, ok, ix, lt, rs, cm, sn, vs⟩ ar nr cr av nv cv) := Lib.hid (fun W hb => h.keep hb)
  have HSM : Hid (∀ W, Below w.heap.size w W → Calls Tryd.prog 7 #[.agg #[.int .i64 kd, .int .i64 fr, .int .i64 ds, .int .i64 tm, .bool ok, .int .i64 ix, .int .i64 lt, .slice ar nr cr, .int .i64 cm, .string sn, .slice av nv cv]] W fun e w' => (∃ b, e = .returned (.bool b)) ∧ Below W.heap.size W w') := Lib.hid (fun W hb => small_any ⟨kd, fr, ds, tm, ok, ix, lt, rs, cm, sn, vs⟩ ar nr cr av nv cv W (h.keep hb) hsn hd)
  have HPUT : Hid (∀ W, Below w.heap.size w W → Calls Tryd.prog 9 #[.agg #[.int .i64 kd, .int .i64 fr, .int .i64 ds, .int .i64 tm, .bool ok, .int .i64 ix, .int .i64 lt, .slice ar nr cr, .int .i64 cm, .string sn, .slice av nv cv]] W fun e w' => e = .returned (.tuple #[.string g.1, .int .i64 g.2]) ∧ Below W.heap.size W w') := Lib.hid (fun W hb => nput_any ⟨kd, fr, ds, tm, ok, ix, lt, rs, cm, sn, vs⟩ ar nr cr av nv cv W (h.keep hb) (HT.out _ hb) g HG2)
  have HSEAL : Hid (∀ W, Below w.heap.size w W → Calls Tryd.prog 10 #[.agg #[.int .i64 kd, .int .i64 fr, .int .i64 ds, .int .i64 tm, .bool ok, .int .i64 ix, .int .i64 lt, .slice ar nr cr, .int .i64 cm, .string sn, .slice av nv cv]] W fun e w' => e = .returned (.tuple #[.string q.1, .int .i64 q.2]) ∧ Below W.heap.size W w') := Lib.hid (fun W hb => nseal_any ⟨kd, fr, ds, tm, ok, ix, lt, rs, cm, sn, vs⟩ ar nr cr av nv cv W (h.keep hb) (HT.out _ hb) q HQ2)
  have HB0 := Lib.hid ((Below.refl w.heap.size w).alloc (Nat.le_refl _) (.cells #[.int .i64 kd, .int .i64 fr, .int .i64 ds, .int .i64 tm, .bool ok, .int .i64 ix, .int .i64 lt, .slice ar nr cr, .int .i64 cm, .string sn, .slice av nv cv] 25))
  have HK0 : Hid (Blk (w.alloc (.cells #[.int .i64 kd, .int .i64 fr, .int .i64 ds, .int .i64 tm, .bool ok, .int .i64 ix, .int .i64 lt, .slice ar nr cr, .int .i64 cm, .string sn, .slice av nv cv] 25)) w.heap.size 25 [.int .i64 kd, .int .i64 fr, .int .i64 ds, .int .i64 tm, .bool ok, .int .i64 ix, .int .i64 lt, .slice ar nr cr, .int .i64 cm, .string sn, .slice av nv cv]) := Lib.hid (heap_alloc_new w _)
  unfold Ms.val
  dsimp only
  clear h hsn hd HG2 HQ2
  obtain ⟨g1, g2⟩ := g
  obtain ⟨q1, q2⟩ := q
  obtain ⟨y1, y2⟩ := y
  dsimp only at *
  have x0 := HK0.out.cell (j := 0) rfl
  have x1 := HK0.out.cell (j := 1) rfl
  have x2 := HK0.out.cell (j := 2) rfl
  have x3 := HK0.out.cell (j := 3) rfl
  have x4 := HK0.out.cell (j := 4) rfl
  have x5 := HK0.out.cell (j := 5) rfl
  have x6 := HK0.out.cell (j := 6) rfl
  have x7 := HK0.out.cell (j := 7) rfl
  have x8 := HK0.out.cell (j := 8) rfl
  have x9 := HK0.out.cell (j := 9) rfl
  have x10 := HK0.out.cell (j := 10) rfl
  go_enter Tryd.func3, Tryd.ntmps3
  go_wp2_with fail
  refine (HSM.out _ HB0.out).mono ?_
  rintro e w1 ⟨⟨b, rfl⟩, hb1⟩
  have HB1 := Lib.hid (below_then HB0.out hb1 HB0.out.size)
  have HK1 := Lib.hid (HK0.out.keep hb1)
  clear x0 x1 x2 x3 x4 x5 x6 x7 x8 x9 x10 hb1 HB0 HK0 HSM
  cases b
  · skip
    go_wp2_with fail
    refine (HAL.out w1).mono ?_
    rintro e w2 ⟨rfl, hb2⟩
    have HB2 := Lib.hid (below_then HB1.out hb2 HB1.out.size)
    go_wp2_with fail
    go_ret
    exact ⟨rfl, HB2.out⟩
  · by_cases hs : 20000 < s.size
    · have hsi : (20000 : Int) < (s.size : Int) := by omega
      go_wp2_with fail
      refine (HAL.out w1).mono ?_
      rintro e w2 ⟨rfl, hb2⟩
      have HB2 := Lib.hid (below_then HB1.out hb2 HB1.out.size)
      go_wp2_with fail
      go_ret
      exact ⟨rfl, HB2.out⟩
    · have hsi : (s.size : Int) ≤ 20000 := by omega
      go_wp2_with fail
      refine (HAL.out w1).mono ?_
      rintro e w2 ⟨rfl, hb2⟩
      have HB2 := Lib.hid (below_then HB1.out hb2 HB1.out.size)
      have HK2 := Lib.hid (HK1.out.keep hb2)
      clear hb2 HB1 HK1
      have x0 := HK2.out.cell (j := 0) rfl
      have x1 := HK2.out.cell (j := 1) rfl
      have x2 := HK2.out.cell (j := 2) rfl
      have x3 := HK2.out.cell (j := 3) rfl
      have x4 := HK2.out.cell (j := 4) rfl
      have x5 := HK2.out.cell (j := 5) rfl
      have x6 := HK2.out.cell (j := 6) rfl
      have x7 := HK2.out.cell (j := 7) rfl
      have x8 := HK2.out.cell (j := 8) rfl
      have x9 := HK2.out.cell (j := 9) rfl
      have x10 := HK2.out.cell (j := 10) rfl
      go_wp2_with fail
      refine (HPUT.out w2 HB2.out).mono ?_
      rintro e w3 ⟨rfl, hb3⟩
      have HB3 := Lib.hid (below_then HB2.out hb3 HB2.out.size)
      have HK3 := Lib.hid (HK2.out.keep hb3)
      clear x0 x1 x2 x3 x4 x5 x6 x7 x8 x9 x10 hb3 HB2 HK2 hsi hs
      dsimp only
      have x0 := HK3.out.cell (j := 0) rfl
      have x1 := HK3.out.cell (j := 1) rfl
      have x2 := HK3.out.cell (j := 2) rfl
      have x3 := HK3.out.cell (j := 3) rfl
      have x4 := HK3.out.cell (j := 4) rfl
      have x5 := HK3.out.cell (j := 5) rfl
      have x6 := HK3.out.cell (j := 6) rfl
      have x7 := HK3.out.cell (j := 7) rfl
      have x8 := HK3.out.cell (j := 8) rfl
      have x9 := HK3.out.cell (j := 9) rfl
      have x10 := HK3.out.cell (j := 10) rfl
      go_wp2_with fail
      refine (HSEAL.out w3 HB3.out).mono ?_
      rintro e w4 ⟨rfl, hb4⟩
      have HB4 := Lib.hid (below_then HB3.out hb4 HB3.out.size)
      have HK4 := Lib.hid (HK3.out.keep hb4)
      clear x0 x1 x2 x3 x4 x5 x6 x7 x8 x9 x10 hb4 HB3 HK3 HPUT HSEAL
      dsimp only
      by_cases hg : g2 = 0
      · subst hg
        have hgt := Lib.hid (nget_any g1 w4 (by have := HGZ.out; omega))
        rw [HPG.out rfl] at hgt
        clear HPG HGZ HQG
        go_wp2_with fail
        refine (hgt.out).mono ?_
        rintro e w5 ⟨ar5, nr5, cr5, av5, nv5, cv5, rfl, hms5, hb5, -, -⟩
        unfold Ms.val
        dsimp only
        have HB5 := Lib.hid (below_then HB4.out hb5 HB4.out.size)
        have HK5 := Lib.hid (HK4.out.keep hb5)
        have HMX5 := Lib.hid hms5
        clear hms5 hb5 HK4
        go_upto_region 7 with fail
        have HB6 := Lib.hid (HB5.out.alloc HB5.out.size (.cells #[.int .i64 kd, .int .i64 fr, .int .i64 ds, .int .i64 tm, .bool ok, .int .i64 ix, .int .i64 lt, .slice ar5 nr5 cr5, .int .i64 cm, .string sn, .slice av5 nv5 cv5] 25))
        have HK6 := Lib.hid (HK5.out.alloc (.cells #[.int .i64 kd, .int .i64 fr, .int .i64 ds, .int .i64 tm, .bool ok, .int .i64 ix, .int .i64 lt, .slice ar5 nr5 cr5, .int .i64 cm, .string sn, .slice av5 nv5 cv5] 25))
        have HX6 := Lib.hid (show Blk (w5.alloc (.cells #[.int .i64 kd, .int .i64 fr, .int .i64 ds, .int .i64 tm, .bool ok, .int .i64 ix, .int .i64 lt, .slice ar5 nr5 cr5, .int .i64 cm, .string sn, .slice av5 nv5 cv5] 25)) w5.heap.size 25 [.int .i64 kd, .int .i64 fr, .int .i64 ds, .int .i64 tm, .bool ok, .int .i64 ix, .int .i64 lt, .slice ar5 nr5 cr5, .int .i64 cm, .string sn, .slice av5 nv5 cv5] from heap_alloc_new w5 _)
        have HMX6 := Lib.hid (HMX5.out.keep ((Below.refl _ w5).alloc (Nat.le_refl _) (.cells #[.int .i64 kd, .int .i64 fr, .int .i64 ds, .int .i64 tm, .bool ok, .int .i64 ix, .int .i64 lt, .slice ar5 nr5 cr5, .int .i64 cm, .string sn, .slice av5 nv5 cv5] 25)))
        generalize w5.alloc (.cells #[.int .i64 kd, .int .i64 fr, .int .i64 ds, .int .i64 tm, .bool ok, .int .i64 ix, .int .i64 lt, .slice ar5 nr5 cr5, .int .i64 cm, .string sn, .slice av5 nv5 cv5] 25) = w6 at *
        clear HB5 HK5 HMX5
        have x0 := HX6.out.cell (j := 0) rfl
        have x1 := HX6.out.cell (j := 1) rfl
        have x2 := HX6.out.cell (j := 2) rfl
        have x3 := HX6.out.cell (j := 3) rfl
        have x4 := HX6.out.cell (j := 4) rfl
        have x5 := HX6.out.cell (j := 5) rfl
        have x6 := HX6.out.cell (j := 6) rfl
        have x7 := HX6.out.cell (j := 7) rfl
        have x8 := HX6.out.cell (j := 8) rfl
        have x9 := HX6.out.cell (j := 9) rfl
        have x10 := HX6.out.cell (j := 10) rfl
        have y0 := (HK6.out.alloc (.cells #[.int .i64 kd, .int .i64 fr, .int .i64 ds, .int .i64 tm, .bool ok, .int .i64 ix, .int .i64 lt, .slice ar5 nr5 cr5, .int .i64 cm, .string sn, .slice av5 nv5 cv5] 25)).cell (j := 0) rfl
        have y1 := (HK6.out.alloc (.cells #[.int .i64 kd, .int .i64 fr, .int .i64 ds, .int .i64 tm, .bool ok, .int .i64 ix, .int .i64 lt, .slice ar5 nr5 cr5, .int .i64 cm, .string sn, .slice av5 nv5 cv5] 25)).cell (j := 1) rfl
        have y2 := (HK6.out.alloc (.cells #[.int .i64 kd, .int .i64 fr, .int .i64 ds, .int .i64 tm, .bool ok, .int .i64 ix, .int .i64 lt, .slice ar5 nr5 cr5, .int .i64 cm, .string sn, .slice av5 nv5 cv5] 25)).cell (j := 2) rfl
        have y3 := (HK6.out.alloc (.cells #[.int .i64 kd, .int .i64 fr, .int .i64 ds, .int .i64 tm, .bool ok, .int .i64 ix, .int .i64 lt, .slice ar5 nr5 cr5, .int .i64 cm, .string sn, .slice av5 nv5 cv5] 25)).cell (j := 3) rfl
        have y4 := (HK6.out.alloc (.cells #[.int .i64 kd, .int .i64 fr, .int .i64 ds, .int .i64 tm, .bool ok, .int .i64 ix, .int .i64 lt, .slice ar5 nr5 cr5, .int .i64 cm, .string sn, .slice av5 nv5 cv5] 25)).cell (j := 4) rfl
        have y5 := (HK6.out.alloc (.cells #[.int .i64 kd, .int .i64 fr, .int .i64 ds, .int .i64 tm, .bool ok, .int .i64 ix, .int .i64 lt, .slice ar5 nr5 cr5, .int .i64 cm, .string sn, .slice av5 nv5 cv5] 25)).cell (j := 5) rfl
        have y6 := (HK6.out.alloc (.cells #[.int .i64 kd, .int .i64 fr, .int .i64 ds, .int .i64 tm, .bool ok, .int .i64 ix, .int .i64 lt, .slice ar5 nr5 cr5, .int .i64 cm, .string sn, .slice av5 nv5 cv5] 25)).cell (j := 6) rfl
        have y7 := (HK6.out.alloc (.cells #[.int .i64 kd, .int .i64 fr, .int .i64 ds, .int .i64 tm, .bool ok, .int .i64 ix, .int .i64 lt, .slice ar5 nr5 cr5, .int .i64 cm, .string sn, .slice av5 nv5 cv5] 25)).cell (j := 7) rfl
        have y8 := (HK6.out.alloc (.cells #[.int .i64 kd, .int .i64 fr, .int .i64 ds, .int .i64 tm, .bool ok, .int .i64 ix, .int .i64 lt, .slice ar5 nr5 cr5, .int .i64 cm, .string sn, .slice av5 nv5 cv5] 25)).cell (j := 8) rfl
        have y9 := (HK6.out.alloc (.cells #[.int .i64 kd, .int .i64 fr, .int .i64 ds, .int .i64 tm, .bool ok, .int .i64 ix, .int .i64 lt, .slice ar5 nr5 cr5, .int .i64 cm, .string sn, .slice av5 nv5 cv5] 25)).cell (j := 9) rfl
        have y10 := (HK6.out.alloc (.cells #[.int .i64 kd, .int .i64 fr, .int .i64 ds, .int .i64 tm, .bool ok, .int .i64 ix, .int .i64 lt, .slice ar5 nr5 cr5, .int .i64 cm, .string sn, .slice av5 nv5 cv5] 25)).cell (j := 10) rfl
        have HA6 := Lib.hid (HB6.out.alloc HB6.out.size (.cells #[.int .i64 kd, .int .i64 fr, .int .i64 ds, .int .i64 tm, .bool ok, .int .i64 ix, .int .i64 lt, .slice ar5 nr5 cr5, .int .i64 cm, .string sn, .slice av5 nv5 cv5] 25))
        have HC6 := Lib.hid (HA6.out.alloc HA6.out.size (.cells #[.int .i64 kd, .int .i64 fr, .int .i64 ds, .int .i64 tm, .bool ok, .int .i64 ix, .int .i64 lt, .slice ar nr cr, .int .i64 cm, .string sn, .slice av nv cv] 25))
        have hlk : Hid (Calls Tryd.prog 12 #[.slice (some ⟨w6.heap.size, 0, none⟩) 1 1, .slice (some ⟨w6.heap.size + 1, 0, none⟩) 1 1] ((w6.alloc (.cells #[.int .i64 kd, .int .i64 fr, .int .i64 ds, .int .i64 tm, .bool ok, .int .i64 ix, .int .i64 lt, .slice ar5 nr5 cr5, .int .i64 cm, .string sn, .slice av5 nv5 cv5] 25)).alloc (.cells #[.int .i64 kd, .int .i64 fr, .int .i64 ds, .int .i64 tm, .bool ok, .int .i64 ix, .int .i64 lt, .slice ar nr cr, .int .i64 cm, .string sn, .slice av nv cv] 25)) _) := Lib.hid (likeMsg_same w6.heap.size (w6.heap.size + 1) 1 1 ⟨kd, fr, ds, tm, ok, ix, lt, rs, cm, sn, vs⟩ ar5 nr5 cr5 av5 nv5 cv5 ar nr cr av nv cv ((w6.alloc (.cells #[.int .i64 kd, .int .i64 fr, .int .i64 ds, .int .i64 tm, .bool ok, .int .i64 ix, .int .i64 lt, .slice ar5 nr5 cr5, .int .i64 cm, .string sn, .slice av5 nv5 cv5] 25)).alloc (.cells #[.int .i64 kd, .int .i64 fr, .int .i64 ds, .int .i64 tm, .bool ok, .int .i64 ix, .int .i64 lt, .slice ar nr cr, .int .i64 cm, .string sn, .slice av nv cv] 25))
          (HMX6.out.keep (((Below.refl _ w6).alloc (Nat.le_refl _) (.cells #[.int .i64 kd, .int .i64 fr, .int .i64 ds, .int .i64 tm, .bool ok, .int .i64 ix, .int .i64 lt, .slice ar5 nr5 cr5, .int .i64 cm, .string sn, .slice av5 nv5 cv5] 25)).alloc (by simp) (.cells #[.int .i64 kd, .int .i64 fr, .int .i64 ds, .int .i64 tm, .bool ok, .int .i64 ix, .int .i64 lt, .slice ar nr cr, .int .i64 cm, .string sn, .slice av nv cv] 25))) ((HMS.out _ HB6.out).keep (((Below.refl _ w6).alloc (Nat.le_refl _) (.cells #[.int .i64 kd, .int .i64 fr, .int .i64 ds, .int .i64 tm, .bool ok, .int .i64 ix, .int .i64 lt, .slice ar5 nr5 cr5, .int .i64 cm, .string sn, .slice av5 nv5 cv5] 25)).alloc (by simp) (.cells #[.int .i64 kd, .int .i64 fr, .int .i64 ds, .int .i64 tm, .bool ok, .int .i64 ix, .int .i64 lt, .slice ar nr cr, .int .i64 cm, .string sn, .slice av nv cv] 25)))
          (Blk.alloc (heap_alloc_new w6 _) _) (by have hz := heap_alloc_new (w6.alloc (.cells #[.int .i64 kd, .int .i64 fr, .int .i64 ds, .int .i64 tm, .bool ok, .int .i64 ix, .int .i64 lt, .slice ar5 nr5 cr5, .int .i64 cm, .string sn, .slice av5 nv5 cv5] 25)) (.cells #[.int .i64 kd, .int .i64 fr, .int .i64 ds, .int .i64 tm, .bool ok, .int .i64 ix, .int .i64 lt, .slice ar nr cr, .int .i64 cm, .string sn, .slice av nv cv] 25); rw [World.size_alloc] at hz; exact hz))
        go_wp2_with fail
        refine hlk.out.mono ?_
        rintro e w7 ⟨rfl, hb7⟩
        have HB7 := Lib.hid (below_then HC6.out hb7 HC6.out.size)
        have HK7 := Lib.hid (((HK6.out.alloc (.cells #[.int .i64 kd, .int .i64 fr, .int .i64 ds, .int .i64 tm, .bool ok, .int .i64 ix, .int .i64 lt, .slice ar5 nr5 cr5, .int .i64 cm, .string sn, .slice av5 nv5 cv5] 25)).alloc (.cells #[.int .i64 kd, .int .i64 fr, .int .i64 ds, .int .i64 tm, .bool ok, .int .i64 ix, .int .i64 lt, .slice ar nr cr, .int .i64 cm, .string sn, .slice av nv cv] 25)).keep hb7)
        clear x0 x1 x2 x3 x4 x5 x6 x7 x8 x9 x10 hlk HA6 HX6 HMX6
        clear y0 y1 y2 y3 y4 y5 y6 y7 y8 y9 y10 HK6
        by_cases hq : q2 = 0
        · subst hq
          have hop := Lib.hid (nopen_any q1 w7 (by have := HQZ.out rfl; omega))
          rw [HSO.out rfl] at hop
          clear HSO HQZ
          go_wp2_with fail
          refine (hop.out).mono ?_
          rintro e w8 ⟨ar8, nr8, cr8, av8, nv8, cv8, rfl, hms8, hb8, -, -⟩
          unfold Ms.val
          dsimp only
          have HB8 := Lib.hid (below_then HB7.out hb8 HB7.out.size)
          have HK8 := Lib.hid (HK7.out.keep hb8)
          have HMX8 := Lib.hid hms8
          clear hms8 hb8 HK7
          go_upto_region 11 with fail
          have HB9 := Lib.hid (HB8.out.alloc HB8.out.size (.cells #[.int .i64 kd, .int .i64 fr, .int .i64 ds, .int .i64 tm, .bool ok, .int .i64 ix, .int .i64 lt, .slice ar8 nr8 cr8, .int .i64 cm, .string sn, .slice av8 nv8 cv8] 25))
          have HK9 := Lib.hid (HK8.out.alloc (.cells #[.int .i64 kd, .int .i64 fr, .int .i64 ds, .int .i64 tm, .bool ok, .int .i64 ix, .int .i64 lt, .slice ar8 nr8 cr8, .int .i64 cm, .string sn, .slice av8 nv8 cv8] 25))
          have HX9 := Lib.hid (show Blk (w8.alloc (.cells #[.int .i64 kd, .int .i64 fr, .int .i64 ds, .int .i64 tm, .bool ok, .int .i64 ix, .int .i64 lt, .slice ar8 nr8 cr8, .int .i64 cm, .string sn, .slice av8 nv8 cv8] 25)) w8.heap.size 25 [.int .i64 kd, .int .i64 fr, .int .i64 ds, .int .i64 tm, .bool ok, .int .i64 ix, .int .i64 lt, .slice ar8 nr8 cr8, .int .i64 cm, .string sn, .slice av8 nv8 cv8] from heap_alloc_new w8 _)
          have HMX9 := Lib.hid (HMX8.out.keep ((Below.refl _ w8).alloc (Nat.le_refl _) (.cells #[.int .i64 kd, .int .i64 fr, .int .i64 ds, .int .i64 tm, .bool ok, .int .i64 ix, .int .i64 lt, .slice ar8 nr8 cr8, .int .i64 cm, .string sn, .slice av8 nv8 cv8] 25)))
          generalize w8.alloc (.cells #[.int .i64 kd, .int .i64 fr, .int .i64 ds, .int .i64 tm, .bool ok, .int .i64 ix, .int .i64 lt, .slice ar8 nr8 cr8, .int .i64 cm, .string sn, .slice av8 nv8 cv8] 25) = w9 at *
          clear HB8 HK8 HMX8
          have x0 := HX9.out.cell (j := 0) rfl
          have x1 := HX9.out.cell (j := 1) rfl
          have x2 := HX9.out.cell (j := 2) rfl
          have x3 := HX9.out.cell (j := 3) rfl
          have x4 := HX9.out.cell (j := 4) rfl
          have x5 := HX9.out.cell (j := 5) rfl
          have x6 := HX9.out.cell (j := 6) rfl
          have x7 := HX9.out.cell (j := 7) rfl
          have x8 := HX9.out.cell (j := 8) rfl
          have x9 := HX9.out.cell (j := 9) rfl
          have x10 := HX9.out.cell (j := 10) rfl
          have y0 := (HK9.out.alloc (.cells #[.int .i64 kd, .int .i64 fr, .int .i64 ds, .int .i64 tm, .bool ok, .int .i64 ix, .int .i64 lt, .slice ar8 nr8 cr8, .int .i64 cm, .string sn, .slice av8 nv8 cv8] 25)).cell (j := 0) rfl
          have y1 := (HK9.out.alloc (.cells #[.int .i64 kd, .int .i64 fr, .int .i64 ds, .int .i64 tm, .bool ok, .int .i64 ix, .int .i64 lt, .slice ar8 nr8 cr8, .int .i64 cm, .string sn, .slice av8 nv8 cv8] 25)).cell (j := 1) rfl
          have y2 := (HK9.out.alloc (.cells #[.int .i64 kd, .int .i64 fr, .int .i64 ds, .int .i64 tm, .bool ok, .int .i64 ix, .int .i64 lt, .slice ar8 nr8 cr8, .int .i64 cm, .string sn, .slice av8 nv8 cv8] 25)).cell (j := 2) rfl
          have y3 := (HK9.out.alloc (.cells #[.int .i64 kd, .int .i64 fr, .int .i64 ds, .int .i64 tm, .bool ok, .int .i64 ix, .int .i64 lt, .slice ar8 nr8 cr8, .int .i64 cm, .string sn, .slice av8 nv8 cv8] 25)).cell (j := 3) rfl
          have y4 := (HK9.out.alloc (.cells #[.int .i64 kd, .int .i64 fr, .int .i64 ds, .int .i64 tm, .bool ok, .int .i64 ix, .int .i64 lt, .slice ar8 nr8 cr8, .int .i64 cm, .string sn, .slice av8 nv8 cv8] 25)).cell (j := 4) rfl
          have y5 := (HK9.out.alloc (.cells #[.int .i64 kd, .int .i64 fr, .int .i64 ds, .int .i64 tm, .bool ok, .int .i64 ix, .int .i64 lt, .slice ar8 nr8 cr8, .int .i64 cm, .string sn, .slice av8 nv8 cv8] 25)).cell (j := 5) rfl
          have y6 := (HK9.out.alloc (.cells #[.int .i64 kd, .int .i64 fr, .int .i64 ds, .int .i64 tm, .bool ok, .int .i64 ix, .int .i64 lt, .slice ar8 nr8 cr8, .int .i64 cm, .string sn, .slice av8 nv8 cv8] 25)).cell (j := 6) rfl
          have y7 := (HK9.out.alloc (.cells #[.int .i64 kd, .int .i64 fr, .int .i64 ds, .int .i64 tm, .bool ok, .int .i64 ix, .int .i64 lt, .slice ar8 nr8 cr8, .int .i64 cm, .string sn, .slice av8 nv8 cv8] 25)).cell (j := 7) rfl
          have y8 := (HK9.out.alloc (.cells #[.int .i64 kd, .int .i64 fr, .int .i64 ds, .int .i64 tm, .bool ok, .int .i64 ix, .int .i64 lt, .slice ar8 nr8 cr8, .int .i64 cm, .string sn, .slice av8 nv8 cv8] 25)).cell (j := 8) rfl
          have y9 := (HK9.out.alloc (.cells #[.int .i64 kd, .int .i64 fr, .int .i64 ds, .int .i64 tm, .bool ok, .int .i64 ix, .int .i64 lt, .slice ar8 nr8 cr8, .int .i64 cm, .string sn, .slice av8 nv8 cv8] 25)).cell (j := 9) rfl
          have y10 := (HK9.out.alloc (.cells #[.int .i64 kd, .int .i64 fr, .int .i64 ds, .int .i64 tm, .bool ok, .int .i64 ix, .int .i64 lt, .slice ar8 nr8 cr8, .int .i64 cm, .string sn, .slice av8 nv8 cv8] 25)).cell (j := 10) rfl
          have HA9 := Lib.hid (HB9.out.alloc HB9.out.size (.cells #[.int .i64 kd, .int .i64 fr, .int .i64 ds, .int .i64 tm, .bool ok, .int .i64 ix, .int .i64 lt, .slice ar8 nr8 cr8, .int .i64 cm, .string sn, .slice av8 nv8 cv8] 25))
          have HC9 := Lib.hid (HA9.out.alloc HA9.out.size (.cells #[.int .i64 kd, .int .i64 fr, .int .i64 ds, .int .i64 tm, .bool ok, .int .i64 ix, .int .i64 lt, .slice ar nr cr, .int .i64 cm, .string sn, .slice av nv cv] 25))
          have hlk : Hid (Calls Tryd.prog 12 #[.slice (some ⟨w9.heap.size, 0, none⟩) 1 1, .slice (some ⟨w9.heap.size + 1, 0, none⟩) 1 1] ((w9.alloc (.cells #[.int .i64 kd, .int .i64 fr, .int .i64 ds, .int .i64 tm, .bool ok, .int .i64 ix, .int .i64 lt, .slice ar8 nr8 cr8, .int .i64 cm, .string sn, .slice av8 nv8 cv8] 25)).alloc (.cells #[.int .i64 kd, .int .i64 fr, .int .i64 ds, .int .i64 tm, .bool ok, .int .i64 ix, .int .i64 lt, .slice ar nr cr, .int .i64 cm, .string sn, .slice av nv cv] 25)) _) := Lib.hid (likeMsg_same w9.heap.size (w9.heap.size + 1) 1 1 ⟨kd, fr, ds, tm, ok, ix, lt, rs, cm, sn, vs⟩ ar8 nr8 cr8 av8 nv8 cv8 ar nr cr av nv cv ((w9.alloc (.cells #[.int .i64 kd, .int .i64 fr, .int .i64 ds, .int .i64 tm, .bool ok, .int .i64 ix, .int .i64 lt, .slice ar8 nr8 cr8, .int .i64 cm, .string sn, .slice av8 nv8 cv8] 25)).alloc (.cells #[.int .i64 kd, .int .i64 fr, .int .i64 ds, .int .i64 tm, .bool ok, .int .i64 ix, .int .i64 lt, .slice ar nr cr, .int .i64 cm, .string sn, .slice av nv cv] 25))
            (HMX9.out.keep (((Below.refl _ w9).alloc (Nat.le_refl _) (.cells #[.int .i64 kd, .int .i64 fr, .int .i64 ds, .int .i64 tm, .bool ok, .int .i64 ix, .int .i64 lt, .slice ar8 nr8 cr8, .int .i64 cm, .string sn, .slice av8 nv8 cv8] 25)).alloc (by simp) (.cells #[.int .i64 kd, .int .i64 fr, .int .i64 ds, .int .i64 tm, .bool ok, .int .i64 ix, .int .i64 lt, .slice ar nr cr, .int .i64 cm, .string sn, .slice av nv cv] 25))) ((HMS.out _ HB9.out).keep (((Below.refl _ w9).alloc (Nat.le_refl _) (.cells #[.int .i64 kd, .int .i64 fr, .int .i64 ds, .int .i64 tm, .bool ok, .int .i64 ix, .int .i64 lt, .slice ar8 nr8 cr8, .int .i64 cm, .string sn, .slice av8 nv8 cv8] 25)).alloc (by simp) (.cells #[.int .i64 kd, .int .i64 fr, .int .i64 ds, .int .i64 tm, .bool ok, .int .i64 ix, .int .i64 lt, .slice ar nr cr, .int .i64 cm, .string sn, .slice av nv cv] 25)))
            (Blk.alloc (heap_alloc_new w9 _) _) (by have hz := heap_alloc_new (w9.alloc (.cells #[.int .i64 kd, .int .i64 fr, .int .i64 ds, .int .i64 tm, .bool ok, .int .i64 ix, .int .i64 lt, .slice ar8 nr8 cr8, .int .i64 cm, .string sn, .slice av8 nv8 cv8] 25)) (.cells #[.int .i64 kd, .int .i64 fr, .int .i64 ds, .int .i64 tm, .bool ok, .int .i64 ix, .int .i64 lt, .slice ar nr cr, .int .i64 cm, .string sn, .slice av nv cv] 25); rw [World.size_alloc] at hz; exact hz))
          go_wp2_with fail
          refine hlk.out.mono ?_
          rintro e w10 ⟨rfl, hb10⟩
          have HB10 := Lib.hid (below_then HC9.out hb10 HC9.out.size)
          have HK10 := Lib.hid (((HK9.out.alloc (.cells #[.int .i64 kd, .int .i64 fr, .int .i64 ds, .int .i64 tm, .bool ok, .int .i64 ix, .int .i64 lt, .slice ar8 nr8 cr8, .int .i64 cm, .string sn, .slice av8 nv8 cv8] 25)).alloc (.cells #[.int .i64 kd, .int .i64 fr, .int .i64 ds, .int .i64 tm, .bool ok, .int .i64 ix, .int .i64 lt, .slice ar nr cr, .int .i64 cm, .string sn, .slice av nv cv] 25)).keep hb10)
          clear x0 x1 x2 x3 x4 x5 x6 x7 x8 x9 x10 hlk HA9 HX9 HMX9
          clear y0 y1 y2 y3 y4 y5 y6 y7 y8 y9 y10 HK9
          by_cases hy : y2 = 0
          · subst hy
            have hyp := HGP.out rfl
            have hgt := Lib.hid (HGS.out w10)
            obtain ⟨kdy, fry, dsy, tmy, oky, ixy, lty, rsy, cmy, sny, vsy⟩ := y1
            go_wp2_with fail
            refine (hgt.out).mono ?_
            rintro e w11 ⟨ar11, nr11, cr11, av11, nv11, cv11, rfl, hms11, hb11, -, -⟩
            unfold Ms.val
            dsimp only
            have HB11 := Lib.hid (below_then HB10.out hb11 HB10.out.size)
            have HK11 := Lib.hid (HK10.out.keep hb11)
            have HMX11 := Lib.hid hms11
            clear hms11 hb11 HK10
            go_upto_region 14 with fail
            have HB12 := Lib.hid (HB11.out.alloc HB11.out.size (.cells #[.int .i64 kdy, .int .i64 fry, .int .i64 dsy, .int .i64 tmy, .bool oky, .int .i64 ixy, .int .i64 lty, .slice ar11 nr11 cr11, .int .i64 cmy, .string sny, .slice av11 nv11 cv11] 25))
            have HK12 := Lib.hid (HK11.out.alloc (.cells #[.int .i64 kdy, .int .i64 fry, .int .i64 dsy, .int .i64 tmy, .bool oky, .int .i64 ixy, .int .i64 lty, .slice ar11 nr11 cr11, .int .i64 cmy, .string sny, .slice av11 nv11 cv11] 25))
            have HX12 := Lib.hid (show Blk (w11.alloc (.cells #[.int .i64 kdy, .int .i64 fry, .int .i64 dsy, .int .i64 tmy, .bool oky, .int .i64 ixy, .int .i64 lty, .slice ar11 nr11 cr11, .int .i64 cmy, .string sny, .slice av11 nv11 cv11] 25)) w11.heap.size 25 [.int .i64 kdy, .int .i64 fry, .int .i64 dsy, .int .i64 tmy, .bool oky, .int .i64 ixy, .int .i64 lty, .slice ar11 nr11 cr11, .int .i64 cmy, .string sny, .slice av11 nv11 cv11] from heap_alloc_new w11 _)
            have HMX12 := Lib.hid (HMX11.out.keep ((Below.refl _ w11).alloc (Nat.le_refl _) (.cells #[.int .i64 kdy, .int .i64 fry, .int .i64 dsy, .int .i64 tmy, .bool oky, .int .i64 ixy, .int .i64 lty, .slice ar11 nr11 cr11, .int .i64 cmy, .string sny, .slice av11 nv11 cv11] 25)))
            generalize w11.alloc (.cells #[.int .i64 kdy, .int .i64 fry, .int .i64 dsy, .int .i64 tmy, .bool oky, .int .i64 ixy, .int .i64 lty, .slice ar11 nr11 cr11, .int .i64 cmy, .string sny, .slice av11 nv11 cv11] 25) = w12 at *
            clear HB11 HK11 HMX11
            have x0 := HX12.out.cell (j := 0) rfl
            have x1 := HX12.out.cell (j := 1) rfl
            have x2 := HX12.out.cell (j := 2) rfl
            have x3 := HX12.out.cell (j := 3) rfl
            have x4 := HX12.out.cell (j := 4) rfl
            have x5 := HX12.out.cell (j := 5) rfl
            have x6 := HX12.out.cell (j := 6) rfl
            have x7 := HX12.out.cell (j := 7) rfl
            have x8 := HX12.out.cell (j := 8) rfl
            have x9 := HX12.out.cell (j := 9) rfl
            have x10 := HX12.out.cell (j := 10) rfl
            have hpt : Hid (Calls Tryd.prog 9 #[.agg #[.int .i64 kdy, .int .i64 fry, .int .i64 dsy, .int .i64 tmy, .bool oky, .int .i64 ixy, .int .i64 lty, .slice ar11 nr11 cr11, .int .i64 cmy, .string sny, .slice av11 nv11 cv11]] w12 (fun e w' => e = .returned (.tuple #[.string s, .int .i64 0]) ∧ Below w12.heap.size w12 w')) := Lib.hid (nput_any ⟨kdy, fry, dsy, tmy, oky, ixy, lty, rsy, cmy, sny, vsy⟩ ar11 nr11 cr11 av11 nv11 cv11 w12 HMX12.out (HT.out _ HB12.out) (s, 0) (Lib.hid hyp.symm))
            have hss : (s.toList == s.toList) = true := by simp
            clear hyp
            go_wp2_with fail
            refine hpt.out.mono ?_
            rintro e w13 ⟨rfl, hb13⟩
            have HB13 := Lib.hid (below_then HB12.out hb13 HB12.out.size)
            clear x0 x1 x2 x3 x4 x5 x6 x7 x8 x9 x10 hpt HX12 HMX12 HK12
            go_wp2_with fail
            go_ret
            exact ⟨rfl, HB13.out⟩
          · have r1 : (y2 != 0) = true := by simpa using hy
            have hz := HGB.out hy
            (try dsimp only at hz)
            subst hz
            have hgt := Lib.hid (HGS.out w10)
            clear hy
            go_wp2_with fail
            refine hgt.out.mono ?_
            rintro e w11 ⟨ar11, nr11, cr11, av11, nv11, cv11, rfl, hms11, hb11, -, -⟩
            unfold Ms.val Ms.zero
            dsimp only
            have HB11 := Lib.hid (below_then HB10.out hb11 HB10.out.size)
            have HK11 := Lib.hid (HK10.out.keep hb11)
            have HMX11 := Lib.hid hms11
            clear hms11 hb11 HK10
            go_upto_region 14 with fail
            have HB12 := Lib.hid (HB11.out.alloc HB11.out.size (.cells #[.int .i64 0, .int .i64 0, .int .i64 0, .int .i64 0, .bool false, .int .i64 0, .int .i64 0, .slice ar11 nr11 cr11, .int .i64 0, .string ⟨#[]⟩, .slice av11 nv11 cv11] 25))
            have HK12 := Lib.hid (HK11.out.alloc (.cells #[.int .i64 0, .int .i64 0, .int .i64 0, .int .i64 0, .bool false, .int .i64 0, .int .i64 0, .slice ar11 nr11 cr11, .int .i64 0, .string ⟨#[]⟩, .slice av11 nv11 cv11] 25))
            have HX12 := Lib.hid (show Blk (w11.alloc (.cells #[.int .i64 0, .int .i64 0, .int .i64 0, .int .i64 0, .bool false, .int .i64 0, .int .i64 0, .slice ar11 nr11 cr11, .int .i64 0, .string ⟨#[]⟩, .slice av11 nv11 cv11] 25)) w11.heap.size 25 [.int .i64 0, .int .i64 0, .int .i64 0, .int .i64 0, .bool false, .int .i64 0, .int .i64 0, .slice ar11 nr11 cr11, .int .i64 0, .string ⟨#[]⟩, .slice av11 nv11 cv11] from heap_alloc_new w11 _)
            have HMX12 := Lib.hid (HMX11.out.keep ((Below.refl _ w11).alloc (Nat.le_refl _) (.cells #[.int .i64 0, .int .i64 0, .int .i64 0, .int .i64 0, .bool false, .int .i64 0, .int .i64 0, .slice ar11 nr11 cr11, .int .i64 0, .string ⟨#[]⟩, .slice av11 nv11 cv11] 25)))
            generalize w11.alloc (.cells #[.int .i64 0, .int .i64 0, .int .i64 0, .int .i64 0, .bool false, .int .i64 0, .int .i64 0, .slice ar11 nr11 cr11, .int .i64 0, .string ⟨#[]⟩, .slice av11 nv11 cv11] 25) = w12 at *
            have x0 := HX12.out.cell (j := 0) rfl
            have x1 := HX12.out.cell (j := 1) rfl
            have x2 := HX12.out.cell (j := 2) rfl
            have x3 := HX12.out.cell (j := 3) rfl
            have x4 := HX12.out.cell (j := 4) rfl
            have x5 := HX12.out.cell (j := 5) rfl
            have x6 := HX12.out.cell (j := 6) rfl
            have x7 := HX12.out.cell (j := 7) rfl
            have x8 := HX12.out.cell (j := 8) rfl
            have x9 := HX12.out.cell (j := 9) rfl
            have x10 := HX12.out.cell (j := 10) rfl
            have HA12 := Lib.hid (HB12.out.alloc HB12.out.size (.cells #[.int .i64 0, .int .i64 0, .int .i64 0, .int .i64 0, .bool false, .int .i64 0, .int .i64 0, .slice ar11 nr11 cr11, .int .i64 0, .string ⟨#[]⟩, .slice av11 nv11 cv11] 25))
            have HC12 := Lib.hid (HA12.out.alloc HA12.out.size (.cells #[.int .i64 0, .int .i64 0, .int .i64 0, .int .i64 0, .bool false, .int .i64 0, .int .i64 0, .slice none 0 0, .int .i64 0, .string ⟨#[]⟩, .slice none 0 0] 25))
            have hlk : Hid (Calls Tryd.prog 12 #[.slice (some ⟨w12.heap.size, 0, none⟩) 1 1, .slice (some ⟨w12.heap.size + 1, 0, none⟩) 1 1] ((w12.alloc (.cells #[.int .i64 0, .int .i64 0, .int .i64 0, .int .i64 0, .bool false, .int .i64 0, .int .i64 0, .slice ar11 nr11 cr11, .int .i64 0, .string ⟨#[]⟩, .slice av11 nv11 cv11] 25)).alloc (.cells #[.int .i64 0, .int .i64 0, .int .i64 0, .int .i64 0, .bool false, .int .i64 0, .int .i64 0, .slice none 0 0, .int .i64 0, .string ⟨#[]⟩, .slice none 0 0] 25)) _) := Lib.hid (likeMsg_same w12.heap.size (w12.heap.size + 1) 1 1 Ms.zero ar11 nr11 cr11 av11 nv11 cv11 none 0 0 none 0 0 ((w12.alloc (.cells #[.int .i64 0, .int .i64 0, .int .i64 0, .int .i64 0, .bool false, .int .i64 0, .int .i64 0, .slice ar11 nr11 cr11, .int .i64 0, .string ⟨#[]⟩, .slice av11 nv11 cv11] 25)).alloc (.cells #[.int .i64 0, .int .i64 0, .int .i64 0, .int .i64 0, .bool false, .int .i64 0, .int .i64 0, .slice none 0 0, .int .i64 0, .string ⟨#[]⟩, .slice none 0 0] 25))
              (HMX12.out.keep (((Below.refl _ w12).alloc (Nat.le_refl _) (.cells #[.int .i64 0, .int .i64 0, .int .i64 0, .int .i64 0, .bool false, .int .i64 0, .int .i64 0, .slice ar11 nr11 cr11, .int .i64 0, .string ⟨#[]⟩, .slice av11 nv11 cv11] 25)).alloc (by simp) (.cells #[.int .i64 0, .int .i64 0, .int .i64 0, .int .i64 0, .bool false, .int .i64 0, .int .i64 0, .slice none 0 0, .int .i64 0, .string ⟨#[]⟩, .slice none 0 0] 25))) (msAt_zero _)
              (Blk.alloc (heap_alloc_new w12 _) _) (by have hz := heap_alloc_new (w12.alloc (.cells #[.int .i64 0, .int .i64 0, .int .i64 0, .int .i64 0, .bool false, .int .i64 0, .int .i64 0, .slice ar11 nr11 cr11, .int .i64 0, .string ⟨#[]⟩, .slice av11 nv11 cv11] 25)) (.cells #[.int .i64 0, .int .i64 0, .int .i64 0, .int .i64 0, .bool false, .int .i64 0, .int .i64 0, .slice none 0 0, .int .i64 0, .string ⟨#[]⟩, .slice none 0 0] 25); rw [World.size_alloc] at hz; exact hz))
            go_wp2_with fail
            refine hlk.out.mono ?_
            rintro e w13 ⟨rfl, hb13⟩
            have HB13 := Lib.hid (below_then HC12.out hb13 HC12.out.size)
            clear x0 x1 x2 x3 x4 x5 x6 x7 x8 x9 x10 hlk HA12 HX12 HMX12
            go_wp2_with fail
            go_ret
            exact ⟨rfl, HB13.out⟩
        · have q3 : (q2 == 0) = false := by simpa using hq
          clear HSO HQZ hq
          by_cases hy : y2 = 0
          · subst hy
            have hyp := HGP.out rfl
            have hgt := Lib.hid (HGS.out w7)
            obtain ⟨kdy, fry, dsy, tmy, oky, ixy, lty, rsy, cmy, sny, vsy⟩ := y1
            go_wp2_with fail
            refine (hgt.out).mono ?_
            rintro e w8 ⟨ar8, nr8, cr8, av8, nv8, cv8, rfl, hms8, hb8, -, -⟩
            unfold Ms.val
            dsimp only
            have HB8 := Lib.hid (below_then HB7.out hb8 HB7.out.size)
            have HK8 := Lib.hid (HK7.out.keep hb8)
            have HMX8 := Lib.hid hms8
            clear hms8 hb8 HK7
            go_upto_region 14 with fail
            have HB9 := Lib.hid (HB8.out.alloc HB8.out.size (.cells #[.int .i64 kdy, .int .i64 fry, .int .i64 dsy, .int .i64 tmy, .bool oky, .int .i64 ixy, .int .i64 lty, .slice ar8 nr8 cr8, .int .i64 cmy, .string sny, .slice av8 nv8 cv8] 25))
            have HK9 := Lib.hid (HK8.out.alloc (.cells #[.int .i64 kdy, .int .i64 fry, .int .i64 dsy, .int .i64 tmy, .bool oky, .int .i64 ixy, .int .i64 lty, .slice ar8 nr8 cr8, .int .i64 cmy, .string sny, .slice av8 nv8 cv8] 25))
            have HX9 := Lib.hid (show Blk (w8.alloc (.cells #[.int .i64 kdy, .int .i64 fry, .int .i64 dsy, .int .i64 tmy, .bool oky, .int .i64 ixy, .int .i64 lty, .slice ar8 nr8 cr8, .int .i64 cmy, .string sny, .slice av8 nv8 cv8] 25)) w8.heap.size 25 [.int .i64 kdy, .int .i64 fry, .int .i64 dsy, .int .i64 tmy, .bool oky, .int .i64 ixy, .int .i64 lty, .slice ar8 nr8 cr8, .int .i64 cmy, .string sny, .slice av8 nv8 cv8] from heap_alloc_new w8 _)
            have HMX9 := Lib.hid (HMX8.out.keep ((Below.refl _ w8).alloc (Nat.le_refl _) (.cells #[.int .i64 kdy, .int .i64 fry, .int .i64 dsy, .int .i64 tmy, .bool oky, .int .i64 ixy, .int .i64 lty, .slice ar8 nr8 cr8, .int .i64 cmy, .string sny, .slice av8 nv8 cv8] 25)))
            generalize w8.alloc (.cells #[.int .i64 kdy, .int .i64 fry, .int .i64 dsy, .int .i64 tmy, .bool oky, .int .i64 ixy, .int .i64 lty, .slice ar8 nr8 cr8, .int .i64 cmy, .string sny, .slice av8 nv8 cv8] 25) = w9 at *
            clear HB8 HK8 HMX8
            have x0 := HX9.out.cell (j := 0) rfl
            have x1 := HX9.out.cell (j := 1) rfl
            have x2 := HX9.out.cell (j := 2) rfl
            have x3 := HX9.out.cell (j := 3) rfl
            have x4 := HX9.out.cell (j := 4) rfl
            have x5 := HX9.out.cell (j := 5) rfl
            have x6 := HX9.out.cell (j := 6) rfl
            have x7 := HX9.out.cell (j := 7) rfl
            have x8 := HX9.out.cell (j := 8) rfl
            have x9 := HX9.out.cell (j := 9) rfl
            have x10 := HX9.out.cell (j := 10) rfl
            have hpt : Hid (Calls Tryd.prog 9 #[.agg #[.int .i64 kdy, .int .i64 fry, .int .i64 dsy, .int .i64 tmy, .bool oky, .int .i64 ixy, .int .i64 lty, .slice ar8 nr8 cr8, .int .i64 cmy, .string sny, .slice av8 nv8 cv8]] w9 (fun e w' => e = .returned (.tuple #[.string s, .int .i64 0]) ∧ Below w9.heap.size w9 w')) := Lib.hid (nput_any ⟨kdy, fry, dsy, tmy, oky, ixy, lty, rsy, cmy, sny, vsy⟩ ar8 nr8 cr8 av8 nv8 cv8 w9 HMX9.out (HT.out _ HB9.out) (s, 0) (Lib.hid hyp.symm))
            have hss : (s.toList == s.toList) = true := by simp
            clear hyp
            go_wp2_with fail
            refine hpt.out.mono ?_
            rintro e w10 ⟨rfl, hb10⟩
            have HB10 := Lib.hid (below_then HB9.out hb10 HB9.out.size)
            clear x0 x1 x2 x3 x4 x5 x6 x7 x8 x9 x10 hpt HX9 HMX9 HK9
            go_wp2_with fail
            go_ret
            exact ⟨rfl, HB10.out⟩
          · have r1 : (y2 != 0) = true := by simpa using hy
            have hz := HGB.out hy
            (try dsimp only at hz)
            subst hz
            have hgt := Lib.hid (HGS.out w7)
            clear hy
            go_wp2_with fail
            refine hgt.out.mono ?_
            rintro e w8 ⟨ar8, nr8, cr8, av8, nv8, cv8, rfl, hms8, hb8, -, -⟩
            unfold Ms.val Ms.zero
            dsimp only
            have HB8 := Lib.hid (below_then HB7.out hb8 HB7.out.size)
            have HK8 := Lib.hid (HK7.out.keep hb8)
            have HMX8 := Lib.hid hms8
            clear hms8 hb8 HK7
            go_upto_region 14 with fail
            have HB9 := Lib.hid (HB8.out.alloc HB8.out.size (.cells #[.int .i64 0, .int .i64 0, .int .i64 0, .int .i64 0, .bool false, .int .i64 0, .int .i64 0, .slice ar8 nr8 cr8, .int .i64 0, .string ⟨#[]⟩, .slice av8 nv8 cv8] 25))
            have HK9 := Lib.hid (HK8.out.alloc (.cells #[.int .i64 0, .int .i64 0, .int .i64 0, .int .i64 0, .bool false, .int .i64 0, .int .i64 0, .slice ar8 nr8 cr8, .int .i64 0, .string ⟨#[]⟩, .slice av8 nv8 cv8] 25))
            have HX9 := Lib.hid (show Blk (w8.alloc (.cells #[.int .i64 0, .int .i64 0, .int .i64 0, .int .i64 0, .bool false, .int .i64 0, .int .i64 0, .slice ar8 nr8 cr8, .int .i64 0, .string ⟨#[]⟩, .slice av8 nv8 cv8] 25)) w8.heap.size 25 [.int .i64 0, .int .i64 0, .int .i64 0, .int .i64 0, .bool false, .int .i64 0, .int .i64 0, .slice ar8 nr8 cr8, .int .i64 0, .string ⟨#[]⟩, .slice av8 nv8 cv8] from heap_alloc_new w8 _)
            have HMX9 := Lib.hid (HMX8.out.keep ((Below.refl _ w8).alloc (Nat.le_refl _) (.cells #[.int .i64 0, .int .i64 0, .int .i64 0, .int .i64 0, .bool false, .int .i64 0, .int .i64 0, .slice ar8 nr8 cr8, .int .i64 0, .string ⟨#[]⟩, .slice av8 nv8 cv8] 25)))
            generalize w8.alloc (.cells #[.int .i64 0, .int .i64 0, .int .i64 0, .int .i64 0, .bool false, .int .i64 0, .int .i64 0, .slice ar8 nr8 cr8, .int .i64 0, .string ⟨#[]⟩, .slice av8 nv8 cv8] 25) = w9 at *
            have x0 := HX9.out.cell (j := 0) rfl
            have x1 := HX9.out.cell (j := 1) rfl
            have x2 := HX9.out.cell (j := 2) rfl
            have x3 := HX9.out.cell (j := 3) rfl
            have x4 := HX9.out.cell (j := 4) rfl
            have x5 := HX9.out.cell (j := 5) rfl
            have x6 := HX9.out.cell (j := 6) rfl
            have x7 := HX9.out.cell (j := 7) rfl
            have x8 := HX9.out.cell (j := 8) rfl
            have x9 := HX9.out.cell (j := 9) rfl
            have x10 := HX9.out.cell (j := 10) rfl
            have HA9 := Lib.hid (HB9.out.alloc HB9.out.size (.cells #[.int .i64 0, .int .i64 0, .int .i64 0, .int .i64 0, .bool false, .int .i64 0, .int .i64 0, .slice ar8 nr8 cr8, .int .i64 0, .string ⟨#[]⟩, .slice av8 nv8 cv8] 25))
            have HC9 := Lib.hid (HA9.out.alloc HA9.out.size (.cells #[.int .i64 0, .int .i64 0, .int .i64 0, .int .i64 0, .bool false, .int .i64 0, .int .i64 0, .slice none 0 0, .int .i64 0, .string ⟨#[]⟩, .slice none 0 0] 25))
            have hlk : Hid (Calls Tryd.prog 12 #[.slice (some ⟨w9.heap.size, 0, none⟩) 1 1, .slice (some ⟨w9.heap.size + 1, 0, none⟩) 1 1] ((w9.alloc (.cells #[.int .i64 0, .int .i64 0, .int .i64 0, .int .i64 0, .bool false, .int .i64 0, .int .i64 0, .slice ar8 nr8 cr8, .int .i64 0, .string ⟨#[]⟩, .slice av8 nv8 cv8] 25)).alloc (.cells #[.int .i64 0, .int .i64 0, .int .i64 0, .int .i64 0, .bool false, .int .i64 0, .int .i64 0, .slice none 0 0, .int .i64 0, .string ⟨#[]⟩, .slice none 0 0] 25)) _) := Lib.hid (likeMsg_same w9.heap.size (w9.heap.size + 1) 1 1 Ms.zero ar8 nr8 cr8 av8 nv8 cv8 none 0 0 none 0 0 ((w9.alloc (.cells #[.int .i64 0, .int .i64 0, .int .i64 0, .int .i64 0, .bool false, .int .i64 0, .int .i64 0, .slice ar8 nr8 cr8, .int .i64 0, .string ⟨#[]⟩, .slice av8 nv8 cv8] 25)).alloc (.cells #[.int .i64 0, .int .i64 0, .int .i64 0, .int .i64 0, .bool false, .int .i64 0, .int .i64 0, .slice none 0 0, .int .i64 0, .string ⟨#[]⟩, .slice none 0 0] 25))
              (HMX9.out.keep (((Below.refl _ w9).alloc (Nat.le_refl _) (.cells #[.int .i64 0, .int .i64 0, .int .i64 0, .int .i64 0, .bool false, .int .i64 0, .int .i64 0, .slice ar8 nr8 cr8, .int .i64 0, .string ⟨#[]⟩, .slice av8 nv8 cv8] 25)).alloc (by simp) (.cells #[.int .i64 0, .int .i64 0, .int .i64 0, .int .i64 0, .bool false, .int .i64 0, .int .i64 0, .slice none 0 0, .int .i64 0, .string ⟨#[]⟩, .slice none 0 0] 25))) (msAt_zero _)
              (Blk.alloc (heap_alloc_new w9 _) _) (by have hz := heap_alloc_new (w9.alloc (.cells #[.int .i64 0, .int .i64 0, .int .i64 0, .int .i64 0, .bool false, .int .i64 0, .int .i64 0, .slice ar8 nr8 cr8, .int .i64 0, .string ⟨#[]⟩, .slice av8 nv8 cv8] 25)) (.cells #[.int .i64 0, .int .i64 0, .int .i64 0, .int .i64 0, .bool false, .int .i64 0, .int .i64 0, .slice none 0 0, .int .i64 0, .string ⟨#[]⟩, .slice none 0 0] 25); rw [World.size_alloc] at hz; exact hz))
            go_wp2_with fail
            refine hlk.out.mono ?_
            rintro e w10 ⟨rfl, hb10⟩
            have HB10 := Lib.hid (below_then HC9.out hb10 HC9.out.size)
            clear x0 x1 x2 x3 x4 x5 x6 x7 x8 x9 x10 hlk HA9 HX9 HMX9
            go_wp2_with fail
            go_ret
            exact ⟨rfl, HB10.out⟩
      · have hq : q2 ≠ 0 := fun h => hg (HQG.out h)
        have g3 : (g2 == 0) = false := by simpa using hg
        have q3 : (q2 == 0) = false := by simpa using hq
        clear HSO HQZ HPG HGZ HQG hq hg
        by_cases hy : y2 = 0
        · subst hy
          have hyp := HGP.out rfl
          have hgt := Lib.hid (HGS.out w4)
          obtain ⟨kdy, fry, dsy, tmy, oky, ixy, lty, rsy, cmy, sny, vsy⟩ := y1
          go_wp2_with fail
          refine (hgt.out).mono ?_
          rintro e w5 ⟨ar5, nr5, cr5, av5, nv5, cv5, rfl, hms5, hb5, -, -⟩
          unfold Ms.val
          dsimp only
          have HB5 := Lib.hid (below_then HB4.out hb5 HB4.out.size)
          have HK5 := Lib.hid (HK4.out.keep hb5)
          have HMX5 := Lib.hid hms5
          clear hms5 hb5 HK4
          go_upto_region 14 with fail
          have HB6 := Lib.hid (HB5.out.alloc HB5.out.size (.cells #[.int .i64 kdy, .int .i64 fry, .int .i64 dsy, .int .i64 tmy, .bool oky, .int .i64 ixy, .int .i64 lty, .slice ar5 nr5 cr5, .int .i64 cmy, .string sny, .slice av5 nv5 cv5] 25))
          have HK6 := Lib.hid (HK5.out.alloc (.cells #[.int .i64 kdy, .int .i64 fry, .int .i64 dsy, .int .i64 tmy, .bool oky, .int .i64 ixy, .int .i64 lty, .slice ar5 nr5 cr5, .int .i64 cmy, .string sny, .slice av5 nv5 cv5] 25))
          have HX6 := Lib.hid (show Blk (w5.alloc (.cells #[.int .i64 kdy, .int .i64 fry, .int .i64 dsy, .int .i64 tmy, .bool oky, .int .i64 ixy, .int .i64 lty, .slice ar5 nr5 cr5, .int .i64 cmy, .string sny, .slice av5 nv5 cv5] 25)) w5.heap.size 25 [.int .i64 kdy, .int .i64 fry, .int .i64 dsy, .int .i64 tmy, .bool oky, .int .i64 ixy, .int .i64 lty, .slice ar5 nr5 cr5, .int .i64 cmy, .string sny, .slice av5 nv5 cv5] from heap_alloc_new w5 _)
          have HMX6 := Lib.hid (HMX5.out.keep ((Below.refl _ w5).alloc (Nat.le_refl _) (.cells #[.int .i64 kdy, .int .i64 fry, .int .i64 dsy, .int .i64 tmy, .bool oky, .int .i64 ixy, .int .i64 lty, .slice ar5 nr5 cr5, .int .i64 cmy, .string sny, .slice av5 nv5 cv5] 25)))
          generalize w5.alloc (.cells #[.int .i64 kdy, .int .i64 fry, .int .i64 dsy, .int .i64 tmy, .bool oky, .int .i64 ixy, .int .i64 lty, .slice ar5 nr5 cr5, .int .i64 cmy, .string sny, .slice av5 nv5 cv5] 25) = w6 at *
          clear HB5 HK5 HMX5
          have x0 := HX6.out.cell (j := 0) rfl
          have x1 := HX6.out.cell (j := 1) rfl
          have x2 := HX6.out.cell (j := 2) rfl
          have x3 := HX6.out.cell (j := 3) rfl
          have x4 := HX6.out.cell (j := 4) rfl
          have x5 := HX6.out.cell (j := 5) rfl
          have x6 := HX6.out.cell (j := 6) rfl
          have x7 := HX6.out.cell (j := 7) rfl
          have x8 := HX6.out.cell (j := 8) rfl
          have x9 := HX6.out.cell (j := 9) rfl
          have x10 := HX6.out.cell (j := 10) rfl
          have hpt : Hid (Calls Tryd.prog 9 #[.agg #[.int .i64 kdy, .int .i64 fry, .int .i64 dsy, .int .i64 tmy, .bool oky, .int .i64 ixy, .int .i64 lty, .slice ar5 nr5 cr5, .int .i64 cmy, .string sny, .slice av5 nv5 cv5]] w6 (fun e w' => e = .returned (.tuple #[.string s, .int .i64 0]) ∧ Below w6.heap.size w6 w')) := Lib.hid (nput_any ⟨kdy, fry, dsy, tmy, oky, ixy, lty, rsy, cmy, sny, vsy⟩ ar5 nr5 cr5 av5 nv5 cv5 w6 HMX6.out (HT.out _ HB6.out) (s, 0) (Lib.hid hyp.symm))
          have hss : (s.toList == s.toList) = true := by simp
          clear hyp
          go_wp2_with fail
          refine hpt.out.mono ?_
          rintro e w7 ⟨rfl, hb7⟩
          have HB7 := Lib.hid (below_then HB6.out hb7 HB6.out.size)
          clear x0 x1 x2 x3 x4 x5 x6 x7 x8 x9 x10 hpt HX6 HMX6 HK6
          go_wp2_with fail
          go_ret
          exact ⟨rfl, HB7.out⟩
        · have r1 : (y2 != 0) = true := by simpa using hy
          have hz := HGB.out hy
          (try dsimp only at hz)
          subst hz
          have hgt := Lib.hid (HGS.out w4)
          clear hy
          go_wp2_with fail
          refine hgt.out.mono ?_
          rintro e w5 ⟨ar5, nr5, cr5, av5, nv5, cv5, rfl, hms5, hb5, -, -⟩
          unfold Ms.val Ms.zero
          dsimp only
          have HB5 := Lib.hid (below_then HB4.out hb5 HB4.out.size)
          have HK5 := Lib.hid (HK4.out.keep hb5)
          have HMX5 := Lib.hid hms5
          clear hms5 hb5 HK4
          go_upto_region 14 with fail
          have HB6 := Lib.hid (HB5.out.alloc HB5.out.size (.cells #[.int .i64 0, .int .i64 0, .int .i64 0, .int .i64 0, .bool false, .int .i64 0, .int .i64 0, .slice ar5 nr5 cr5, .int .i64 0, .string ⟨#[]⟩, .slice av5 nv5 cv5] 25))
          have HK6 := Lib.hid (HK5.out.alloc (.cells #[.int .i64 0, .int .i64 0, .int .i64 0, .int .i64 0, .bool false, .int .i64 0, .int .i64 0, .slice ar5 nr5 cr5, .int .i64 0, .string ⟨#[]⟩, .slice av5 nv5 cv5] 25))
          have HX6 := Lib.hid (show Blk (w5.alloc (.cells #[.int .i64 0, .int .i64 0, .int .i64 0, .int .i64 0, .bool false, .int .i64 0, .int .i64 0, .slice ar5 nr5 cr5, .int .i64 0, .string ⟨#[]⟩, .slice av5 nv5 cv5] 25)) w5.heap.size 25 [.int .i64 0, .int .i64 0, .int .i64 0, .int .i64 0, .bool false, .int .i64 0, .int .i64 0, .slice ar5 nr5 cr5, .int .i64 0, .string ⟨#[]⟩, .slice av5 nv5 cv5] from heap_alloc_new w5 _)
          have HMX6 := Lib.hid (HMX5.out.keep ((Below.refl _ w5).alloc (Nat.le_refl _) (.cells #[.int .i64 0, .int .i64 0, .int .i64 0, .int .i64 0, .bool false, .int .i64 0, .int .i64 0, .slice ar5 nr5 cr5, .int .i64 0, .string ⟨#[]⟩, .slice av5 nv5 cv5] 25)))
          generalize w5.alloc (.cells #[.int .i64 0, .int .i64 0, .int .i64 0, .int .i64 0, .bool false, .int .i64 0, .int .i64 0, .slice ar5 nr5 cr5, .int .i64 0, .string ⟨#[]⟩, .slice av5 nv5 cv5] 25) = w6 at *
          have x0 := HX6.out.cell (j := 0) rfl
          have x1 := HX6.out.cell (j := 1) rfl
          have x2 := HX6.out.cell (j := 2) rfl
          have x3 := HX6.out.cell (j := 3) rfl
          have x4 := HX6.out.cell (j := 4) rfl
          have x5 := HX6.out.cell (j := 5) rfl
          have x6 := HX6.out.cell (j := 6) rfl
          have x7 := HX6.out.cell (j := 7) rfl
          have x8 := HX6.out.cell (j := 8) rfl
          have x9 := HX6.out.cell (j := 9) rfl
          have x10 := HX6.out.cell (j := 10) rfl
          have HA6 := Lib.hid (HB6.out.alloc HB6.out.size (.cells #[.int .i64 0, .int .i64 0, .int .i64 0, .int .i64 0, .bool false, .int .i64 0, .int .i64 0, .slice ar5 nr5 cr5, .int .i64 0, .string ⟨#[]⟩, .slice av5 nv5 cv5] 25))
          have HC6 := Lib.hid (HA6.out.alloc HA6.out.size (.cells #[.int .i64 0, .int .i64 0, .int .i64 0, .int .i64 0, .bool false, .int .i64 0, .int .i64 0, .slice none 0 0, .int .i64 0, .string ⟨#[]⟩, .slice none 0 0] 25))
          have hlk : Hid (Calls Tryd.prog 12 #[.slice (some ⟨w6.heap.size, 0, none⟩) 1 1, .slice (some ⟨w6.heap.size + 1, 0, none⟩) 1 1] ((w6.alloc (.cells #[.int .i64 0, .int .i64 0, .int .i64 0, .int .i64 0, .bool false, .int .i64 0, .int .i64 0, .slice ar5 nr5 cr5, .int .i64 0, .string ⟨#[]⟩, .slice av5 nv5 cv5] 25)).alloc (.cells #[.int .i64 0, .int .i64 0, .int .i64 0, .int .i64 0, .bool false, .int .i64 0, .int .i64 0, .slice none 0 0, .int .i64 0, .string ⟨#[]⟩, .slice none 0 0] 25)) _) := Lib.hid (likeMsg_same w6.heap.size (w6.heap.size + 1) 1 1 Ms.zero ar5 nr5 cr5 av5 nv5 cv5 none 0 0 none 0 0 ((w6.alloc (.cells #[.int .i64 0, .int .i64 0, .int .i64 0, .int .i64 0, .bool false, .int .i64 0, .int .i64 0, .slice ar5 nr5 cr5, .int .i64 0, .string ⟨#[]⟩, .slice av5 nv5 cv5] 25)).alloc (.cells #[.int .i64 0, .int .i64 0, .int .i64 0, .int .i64 0, .bool false, .int .i64 0, .int .i64 0, .slice none 0 0, .int .i64 0, .string ⟨#[]⟩, .slice none 0 0] 25))
            (HMX6.out.keep (((Below.refl _ w6).alloc (Nat.le_refl _) (.cells #[.int .i64 0, .int .i64 0, .int .i64 0, .int .i64 0, .bool false, .int .i64 0, .int .i64 0, .slice ar5 nr5 cr5, .int .i64 0, .string ⟨#[]⟩, .slice av5 nv5 cv5] 25)).alloc (by simp) (.cells #[.int .i64 0, .int .i64 0, .int .i64 0, .int .i64 0, .bool false, .int .i64 0, .int .i64 0, .slice none 0 0, .int .i64 0, .string ⟨#[]⟩, .slice none 0 0] 25))) (msAt_zero _)
            (Blk.alloc (heap_alloc_new w6 _) _) (by have hz := heap_alloc_new (w6.alloc (.cells #[.int .i64 0, .int .i64 0, .int .i64 0, .int .i64 0, .bool false, .int .i64 0, .int .i64 0, .slice ar5 nr5 cr5, .int .i64 0, .string ⟨#[]⟩, .slice av5 nv5 cv5] 25)) (.cells #[.int .i64 0, .int .i64 0, .int .i64 0, .int .i64 0, .bool false, .int .i64 0, .int .i64 0, .slice none 0 0, .int .i64 0, .string ⟨#[]⟩, .slice none 0 0] 25); rw [World.size_alloc] at hz; exact hz))
          go_wp2_with fail
          refine hlk.out.mono ?_
          rintro e w7 ⟨rfl, hb7⟩
          have HB7 := Lib.hid (below_then HC6.out hb7 HC6.out.size)
          clear x0 x1 x2 x3 x4 x5 x6 x7 x8 x9 x10 hlk HA6 HX6 HMX6
          go_wp2_with fail
          go_ret
          exact ⟨rfl, HB7.out⟩
end Go.Proofs.YtboohpkmllelgaaDoor
