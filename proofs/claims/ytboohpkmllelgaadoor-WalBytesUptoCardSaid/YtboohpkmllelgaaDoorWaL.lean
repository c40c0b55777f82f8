/-
  Layer 14's law: small, alive; ref14.Like of the same state. (Written by wip/mkwal.py.)
-/
import Derived.Test.YtboohpkmllelgaaDoorWpA
import Derived.Test.YtboohpkmllelgaaDoorNmC
namespace Go.Proofs.YtboohpkmllelgaaDoor
open Go.RowKit
set_option linter.unusedVariables false
set_option maxRecDepth 100000 in
set_option maxHeartbeats 1000000 in
theorem small14_any (h : Hd) (ar : Option Addr) (nr cr : Nat) (av : Option Addr) (nv cv : Nat) (w : World) (H : HdAt w h ar nr cr av nv cv) :
    Calls Tryd.prog 15 #[h.val ar nr cr av nv cv] w fun e w' => (∃ b, e = .returned (.bool b)) ∧ Below w.heap.size w w' := by
  have hsn := H.snap
  have hd := fun r hr => (H.data r hr).1
  obtain ⟨tm, vt, bs, bt, rs, sn, vs⟩ := h
  unfold Hd.val
  dsimp only at *
  have HR := Lib.hid (show rcE.Sl w ar nr rs from H.recs)
  have HN := Lib.hid (show nr = rs.length from H.rlen)
  have HNR := H.nr
  have HD := Lib.hid hd
  have HB0 := Lib.hid ((Below.refl w.heap.size w).alloc (Nat.le_refl _) (.cells #[.int .i64 tm, .int .i64 vt, .int .i64 bs, .int .i64 bt, .slice ar nr cr, .string sn, .slice av nv cv] 42))
  have HK0 : Hid (Blk (w.alloc (.cells #[.int .i64 tm, .int .i64 vt, .int .i64 bs, .int .i64 bt, .slice ar nr cr, .string sn, .slice av nv cv] 42)) w.heap.size 42 [.int .i64 tm, .int .i64 vt, .int .i64 bs, .int .i64 bt, .slice ar nr cr, .string sn, .slice av nv cv]) := Lib.hid (heap_alloc_new w _)
  have x4 := HK0.out.cell (j := 4) rfl
  have x5 := HK0.out.cell (j := 5) rfl
  clear H hd
  obtain ⟨K0, hK0⟩ : ∃ K0, K0 = sn.size := ⟨_, rfl⟩
  rw [← hK0] at hsn
  replace hK0 := Lib.hid hK0
  go_enter Tryd.func15, Tryd.ntmps15
  go_wp2_with fail
  clear x4 x5
  go_loopg [3, 4, 5, 13] nr (fun gk v3 v4 v5 i wr => ∃ k K : Nat, k ≤ nr ∧ gk = nr - k ∧ i = .int .i64 (k : Int) ∧ v3 = .int .i64 (K : Int) ∧ K ≤ 140737488355328 ∧ Hid (Below w.heap.size w wr))
  case atStart => exact ⟨0, K0, Nat.zero_le _, rfl, rfl, by rw [hK0.out], hsn, HB0⟩
  case round =>
    obtain ⟨k, K, hk, rfl, rfl, rfl, hK, hB⟩ := hrel
    by_cases hkn : k < nr
    · have hki : (k : Int) < (nr : Int) := by omega
      have hkl : k < rs.length := by rw [← HN.out]; exact hkn
      obtain ⟨b, off, rfl, hc⟩ := rc_at (HR.out.keep hB.out) (by omega)
      obtain ⟨c0, c1, c2⟩ := hc k hkl
      have hdk := HD.out _ (List.getElem_mem hkl)
      clear hc
      generalize rs[k] = r at *
      obtain ⟨rt, rk, rd⟩ := r
      dsimp only at *
      have HK1 : Hid (Blk (wr.alloc (.cells #[.int .i64 rt, .int .i64 rk, .string rd] 52)) wr.heap.size 52 [.int .i64 rt, .int .i64 rk, .string rd]) := Lib.hid (heap_alloc_new wr _)
      have HB1 := Lib.hid (hB.out.alloc hB.out.size (.cells #[.int .i64 rt, .int .i64 rk, .string rd] 52))
      have z2 := HK1.out.cell (j := 2) rfl
      by_cases hbig : K + rd.size ≤ 20000
      · have hbi : (K : Int) + (rd.size : Int) ≤ 20000 := by omega
        by_cases hk1 : k ≤ 300
        · have hk1i : (k : Int) ≤ 300 := by omega
          go_wp2_with fail
          go_roundg (nr - (k + 1))
          case rel => exact ⟨k + 1, K + rd.size, by omega, rfl, by go_num, by go_num, by omega, HB1⟩
          case measure => omega
        · have hk1i : (300 : Int) < (k : Int) := by omega
          go_wp2_with fail
          go_ret
          exact ⟨⟨_, rfl⟩, HB1.out⟩
      · have hbi : (20000 : Int) < (K : Int) + (rd.size : Int) := by omega
        go_wp2_with fail
        go_ret
        exact ⟨⟨_, rfl⟩, HB1.out⟩
    · have hki : (nr : Int) ≤ (k : Int) := by omega
      go_wp2_with fail
      go_ret
      exact ⟨⟨_, rfl⟩, hB.out⟩
theorem rightH_zero : rightH Hd.zero = true := by
  have h : (putGot (hdV Hd.zero)).2 = 0 := by decide +kernel
  have hs : shapedH Hd.zero = true := by decide +kernel
  unfold rightH putH
  rw [if_pos hs, if_neg (fun hh => hh h)]
  exact decide_eq_true h
set_option maxRecDepth 100000 in
set_option maxHeartbeats 1000000 in
theorem alive14_any (w : World) (htab : Lib.TabIs Tryd.prog w "internal/strconv.uint64pow10" .u64 Lib.pow10Tab) : Calls Tryd.prog 20 #[] w fun e w' => e = .returned (.bool true) ∧ Below w.heap.size w w' := by
  have hr := Lib.hid (wright_any Hd.zero none 0 0 none 0 0 w ⟨⟨rfl, .inl rfl⟩, ⟨rfl, .inl rfl⟩, Nat.zero_le _, Nat.zero_le _, fun r hr => (by cases hr), Nat.zero_le _, (by unfold in63 Hd.zero; decide), fun x hx => (by cases hx)⟩ htab true (Lib.hid rightH_zero.symm))
  clear htab
  unfold Hd.val Hd.zero at hr
  dsimp only at hr
  go_enter Tryd.func20, Tryd.ntmps20
  go_wp2_with fail
  refine hr.out.mono ?_
  rintro e w' ⟨rfl, hb⟩
  dsimp only
  go_wp2_with fail
  go_ret
  exact ⟨rfl, hb⟩
set_option maxRecDepth 100000 in
set_option maxHeartbeats 2000000 in
theorem like14_same (h : Hd) (ar : Option Addr) (nr cr : Nat) (av : Option Addr) (nv cv : Nat) (ar' : Option Addr) (nr' cr' : Nat) (av' : Option Addr) (nv' cv' : Nat) (w : World)
    (H : HdAt w h ar nr cr av nv cv) (H' : HdAt w h ar' nr' cr' av' nv' cv') :
    Calls Tryd.prog 22 #[h.val ar nr cr av nv cv, h.val ar' nr' cr' av' nv' cv'] w fun e w' => e = .returned (.bool true) ∧ Below w.heap.size w w' := by
  have hi := Lib.hid (fun (W : World) (hw : Below w.heap.size w W) => ints_same av av' nv cv nv' cv' h.voters W (H.voters.keep hw) (H'.voters.keep hw) H.nv)
  have hnr : nr = nr' := by rw [H.rlen, H'.rlen]
  have hmx := H.nr
  have HN := Lib.hid H.rlen
  obtain ⟨tm, vt, bs, bt, rs, sn, vs⟩ := h
  unfold Hd.val
  dsimp only at *
  have HR := Lib.hid (show rcE.Sl w ar nr rs from H.recs)
  have HR' := Lib.hid (show rcE.Sl w ar' nr' rs from H'.recs)
  clear H H'
  subst hnr
  have e0 : (tm != tm) = false := by simp
  have e1 : (vt != vt) = false := by simp
  have e2 : (bs != bs) = false := by simp
  have e3 : (bt != bt) = false := by simp
  have e4 : ((nr : Int) != (nr : Int)) = false := by simp
  have e5 : (sn.toList != sn.toList) = false := by simp
  have HA1 := Lib.hid ((Below.refl w.heap.size w).alloc (Nat.le_refl _) (.cells #[.int .i64 tm, .int .i64 vt, .int .i64 bs, .int .i64 bt, .slice ar nr cr, .string sn, .slice av nv cv] 42))
  have HA2 := Lib.hid (HA1.out.alloc HA1.out.size (.cells #[.int .i64 tm, .int .i64 vt, .int .i64 bs, .int .i64 bt, .slice ar' nr cr', .string sn, .slice av' nv' cv'] 42))
  have HX6 : Hid (Blk ((w.alloc (.cells #[.int .i64 tm, .int .i64 vt, .int .i64 bs, .int .i64 bt, .slice ar nr cr, .string sn, .slice av nv cv] 42)).alloc (.cells #[.int .i64 tm, .int .i64 vt, .int .i64 bs, .int .i64 bt, .slice ar' nr cr', .string sn, .slice av' nv' cv'] 42)) w.heap.size 42 [.int .i64 tm, .int .i64 vt, .int .i64 bs, .int .i64 bt, .slice ar nr cr, .string sn, .slice av nv cv]) := Lib.hid (Blk.alloc (heap_alloc_new w _) _)
  have HX7 : Hid (Blk ((w.alloc (.cells #[.int .i64 tm, .int .i64 vt, .int .i64 bs, .int .i64 bt, .slice ar nr cr, .string sn, .slice av nv cv] 42)).alloc (.cells #[.int .i64 tm, .int .i64 vt, .int .i64 bs, .int .i64 bt, .slice ar' nr cr', .string sn, .slice av' nv' cv'] 42)) (w.heap.size + 1) 42 [.int .i64 tm, .int .i64 vt, .int .i64 bs, .int .i64 bt, .slice ar' nr cr', .string sn, .slice av' nv' cv']) := Lib.hid (by
    have hz := heap_alloc_new (w.alloc (.cells #[.int .i64 tm, .int .i64 vt, .int .i64 bs, .int .i64 bt, .slice ar nr cr, .string sn, .slice av nv cv] 42)) (.cells #[.int .i64 tm, .int .i64 vt, .int .i64 bs, .int .i64 bt, .slice ar' nr cr', .string sn, .slice av' nv' cv'] 42)
    rw [World.size_alloc] at hz
    exact hz)
  have hnf := neqRec
  have x0 := HX6.out.cell (j := 0) rfl; have x1 := HX6.out.cell (j := 1) rfl; have x2 := HX6.out.cell (j := 2) rfl; have x3 := HX6.out.cell (j := 3) rfl; have x4 := HX6.out.cell (j := 4) rfl; have x5 := HX6.out.cell (j := 5) rfl; have x6 := HX6.out.cell (j := 6) rfl
  have y0 := HX7.out.cell (j := 0) rfl; have y1 := HX7.out.cell (j := 1) rfl; have y2 := HX7.out.cell (j := 2) rfl; have y3 := HX7.out.cell (j := 3) rfl; have y4 := HX7.out.cell (j := 4) rfl; have y5 := HX7.out.cell (j := 5) rfl; have y6 := HX7.out.cell (j := 6) rfl
  go_enter Tryd.func22, Tryd.ntmps22
  go_wp2_with fail
  refine (hi.out _ HA2.out).mono ?_
  rintro e w1 ⟨rfl, hb1⟩
  have HA3 := Lib.hid (below_then HA2.out hb1 HA2.out.size)
  have HY6 := Lib.hid (HX6.out.keep hb1)
  have HY7 := Lib.hid (HX7.out.keep hb1)
  have z4 := HY6.out.cell (j := 4) rfl
  have u4 := HY7.out.cell (j := 4) rfl
  have hs1 := HA3.out.size
  have HW1 : Hid (w.heap.size + 1 < w1.heap.size) := Lib.hid (lt_of_block HY7.out)
  clear hb1 HX6 HX7 x0 x1 x2 x3 x4 x5 x6 y0 y1 y2 y3 y4 y5 y6 hi e0 e1 e2 e3 e5
  dsimp only
  go_wp2_with fail
  clear z4 u4
  go_loopg [5, 66] nr (fun gk v5 i wr => ∃ k : Nat, k ≤ nr ∧ gk = nr - k ∧ i = .int .i64 (k : Int) ∧ Hid (Below w1.heap.size w1 wr))
  case atStart => exact ⟨0, Nat.zero_le _, rfl, rfl, Lib.hid (Below.refl _ _)⟩
  case round =>
    obtain ⟨k, hk, rfl, rfl, hB⟩ := hrel
    have HBB := Lib.hid (below_then HA3.out hB.out HA3.out.size)
    by_cases hkn : k < nr
    · have hki : (k : Int) < (nr : Int) := by omega
      have hkl : k < rs.length := by rw [← HN.out]; exact hkn
      have z4 := (HY6.out.keep hB.out).cell (j := 4) rfl
      have u4 := (HY7.out.keep hB.out).cell (j := 4) rfl
      obtain ⟨b, off, rfl, hc⟩ := rc_at (HR.out.keep HBB.out) (by omega)
      obtain ⟨b', off', rfl, hc'⟩ := rc_at (HR'.out.keep HBB.out) (by omega)
      obtain ⟨c0, c1, c2⟩ := hc k hkl
      obtain ⟨d0, d1, d2⟩ := hc' k hkl
      clear hc hc'
      generalize rs[k] = r at *
      obtain ⟨rt, rk, rd⟩ := r
      dsimp only at *
      go_wp2_with fail
      go_quiet (fail)
      go_wp2_with fail
      go_roundg (nr - (k + 1))
      case rel => exact ⟨k + 1, by omega, rfl, by go_num, Lib.hid (below_drewN hB.out _)⟩
      case measure => omega
    · have hki : (nr : Int) ≤ (k : Int) := by omega
      go_wp2_with fail
      go_ret
      exact ⟨rfl, HBB.out⟩
end Go.Proofs.YtboohpkmllelgaaDoor
