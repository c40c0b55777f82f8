/-
  The walk of net.Open: any packet is read as just that message, or refused; packets of at most 200000 bytes. (Written by wip/mknopen.py.)
-/
import Derived.Test.YtboohpkmllelgaaDoorNgE
import Derived.Test.YtboohpkmllelgaaDoorNtQ
import Derived.Test.YtboohpkmllelgaaDoorFram
namespace Go.Proofs.YtboohpkmllelgaaDoor
open Go.RowKit
set_option linter.unusedVariables false

set_option maxRecDepth 100000 in
set_option maxHeartbeats 2000000 in
theorem nopen_any (s : ByteArray) (w : World) (hs : s.size ≤ 200000) : Calls Tryd.prog 13 #[.string s] w (RetM w (openM s)) := by
  obtain ⟨l, hl⟩ : ∃ l, l = s.data.toList := ⟨_, rfl⟩
  have hsl : s.size = l.length := by rw [hl]; simp
  have HSC := Lib.hid (frScan_any s (w.alloc (.cells #[.int .i64 0, .int .i64 0, .int .i64 0, .int .i64 0, .bool false, .int .i64 0, .int .i64 0, .slice none 0 0, .int .i64 0, .string ⟨#[]⟩, .slice none 0 0] 25)) hs l (Lib.hid hl))
  have HX : Hid (openM s = if wholeB l then getM (bodyOf l) else (Ms.zero, 61)) := Lib.hid (by rw [hl]; rfl)
  have HSL := Lib.hid hsl
  have HB0 := Lib.hid ((Below.refl w.heap.size w).alloc (Nat.le_refl _) (.cells #[.int .i64 0, .int .i64 0, .int .i64 0, .int .i64 0, .bool false, .int .i64 0, .int .i64 0, .slice none 0 0, .int .i64 0, .string ⟨#[]⟩, .slice none 0 0] 25))
  have HR0 : Hid (Blk (w.alloc (.cells #[.int .i64 0, .int .i64 0, .int .i64 0, .int .i64 0, .bool false, .int .i64 0, .int .i64 0, .slice none 0 0, .int .i64 0, .string ⟨#[]⟩, .slice none 0 0] 25)) w.heap.size 25 [.int .i64 0, .int .i64 0, .int .i64 0, .int .i64 0, .bool false, .int .i64 0, .int .i64 0, .slice none 0 0, .int .i64 0, .string ⟨#[]⟩, .slice none 0 0]) := Lib.hid (heap_alloc_new w _)
  have HWL : Hid (w.heap.size < (w.alloc (.cells #[.int .i64 0, .int .i64 0, .int .i64 0, .int .i64 0, .bool false, .int .i64 0, .int .i64 0, .slice none 0 0, .int .i64 0, .string ⟨#[]⟩, .slice none 0 0] 25)).heap.size) := Lib.hid (by simp)
  clear hl hsl
  go_enter Tryd.func13, Tryd.ntmps13
  go_wp2_with fail
  refine HSC.out.mono ?_
  rintro e w1 ⟨a, n, c, rfl, hsl, hb1, -, -⟩
  dsimp only
  have hn : n = (bodies l).length := by have := hsl.1; rw [strs_length, List.length_map] at this; exact this
  have HN := Lib.hid hn
  have HB1 := Lib.hid (below_then HB0.out hb1 HB0.out.size)
  have HR1 := Lib.hid (HR0.out.keep hb1)
  have HSLA := Lib.hid hsl
  obtain ⟨T, hT⟩ : ∃ T, T = taken (bodies l) := ⟨_, rfl⟩
  rw [← hT]
  have HTK := Lib.hid hT
  clear hb1 hsl hn hT HSC
  by_cases hw : wholeB l
  · have HW := Lib.hid hw
    obtain rfl : n = 1 := by rw [HN.out]; exact hw.1
    obtain rfl : T = s.size := by rw [HTK.out, HSL.out]; exact hw.2
    obtain ⟨bd, hbd, hbs, -⟩ := wholeB_frame hw
    have hbo : bodyOf l = ⟨bd.toArray⟩ := by rw [hbd]; exact (wholeB_is bd hbs).2
    have hb0 : (bodies l)[0]'(by rw [hw.1]; decide) = bd := by
      have h1 : oneL l = some bd := by rw [hbd]; have := oneL_frame bd [] hbs; rwa [List.append_nil] at this
      have h2 := bodies_some l bd h1
      simp [h2]
    have hx : openM s = getM ⟨bd.toArray⟩ := by rw [HX.out, if_pos HW.out, hbo]
    have HX8 := Lib.hid hx
    obtain ⟨b, off, rfl, hc⟩ : ∃ b off, a = some ⟨b, off, none⟩ ∧ w1.cell? ⟨b, off, none⟩ = some (.string (strOf bd)) := by
      rcases HSLA.out.2 with h0 | ⟨b, off, ha, hc⟩
      · have := congrArg List.length h0
        rw [strs_length, List.length_map, ← HN.out] at this
        cases this
      · refine ⟨b, off, ha, ?_⟩
        have h1 := hc 0 (by rw [strs_length, List.length_map, ← HN.out]; decide)
        simp only [strs, List.getElem_map, hb0] at h1
        exact h1
    have hbz : (⟨bd.toArray⟩ : ByteArray) = strOf bd := rfl
    have HGT := Lib.hid (nget_any (strOf bd) w1 (by show ByteArray.size ⟨bd.toArray⟩ ≤ _; simp [ByteArray.size]; omega))
    clear hbd hbs hbo hb0 hx hbz HX hw
    go_wp2_with fail
    refine HGT.out.mono ?_
    rintro e w2 ⟨ar, nr, cr, av, nv, cv, rfl, hms, hb2, hfa, hfv⟩
    dsimp only
    obtain ⟨x, hx⟩ : ∃ x, x = getM (strOf bd) := ⟨_, rfl⟩
    rw [← hx] at hms ⊢
    have HX9 : Hid (openM s = x) := Lib.hid (by rw [HX8.out, hx]; rfl)
    clear hx HGT HX8
    obtain ⟨⟨kd, fr, ds, tm, ok, ix, lt, rs, cm, sn, vs⟩, er⟩ := x
    unfold Ms.val
    dsimp only at *
    have HBz := Lib.hid (below_then HB1.out hb2 HB1.out.size)
    have HRz := Lib.hid (HR1.out.keep hb2)
    have HMS := Lib.hid hms
    clear hc hms
    have q0 := HRz.out.cell (j := 0) rfl
    have f0 := HRz.out.free 0
    have q1 := HRz.out.cell (j := 1) rfl
    have f1 := HRz.out.free 1
    have q2 := HRz.out.cell (j := 2) rfl
    have f2 := HRz.out.free 2
    have q3 := HRz.out.cell (j := 3) rfl
    have f3 := HRz.out.free 3
    have q4 := HRz.out.cell (j := 4) rfl
    have f4 := HRz.out.free 4
    have q5 := HRz.out.cell (j := 5) rfl
    have f5 := HRz.out.free 5
    have q6 := HRz.out.cell (j := 6) rfl
    have f6 := HRz.out.free 6
    have q7 := HRz.out.cell (j := 7) rfl
    have f7 := HRz.out.free 7
    have q8 := HRz.out.cell (j := 8) rfl
    have f8 := HRz.out.free 8
    have q9 := HRz.out.cell (j := 9) rfl
    have f9 := HRz.out.free 9
    have q10 := HRz.out.cell (j := 10) rfl
    have f10 := HRz.out.free 10
    go_wp2_with fail
    clear q0 q1 q2 q3 q4 q5 q6 q7 q8 q9 q10 f0 f1 f2 f3 f4 f5 f6 f7 f8 f9 f10
    (try simp only [Exit.inBlock, Exit.then])
    have hz9 := blk_eleven HRz.out (.int .i64 kd) (.int .i64 fr) (.int .i64 ds) (.int .i64 tm) (.bool ok) (.int .i64 ix) (.int .i64 lt) (.slice ar nr cr) (.int .i64 cm) (.string sn) (.slice av nv cv)
    have hg9 := grown_eleven (w2) w.heap.size (.int .i64 kd) (.int .i64 fr) (.int .i64 ds) (.int .i64 tm) (.bool ok) (.int .i64 ix) (.int .i64 lt) (.slice ar nr cr) (.int .i64 cm) (.string sn) (.slice av nv cv)
    have HB9 := Lib.hid (HBz.out.grown hg9 HBz.out.size (fun q e => by have := Option.some.inj e; omega))
    refine bodyPost_ret (v := .tuple #[.agg #[.int .i64 kd, .int .i64 fr, .int .i64 ds, .int .i64 tm, .bool ok, .int .i64 ix, .int .i64 lt, .slice ar nr cr, .int .i64 cm, .string sn, .slice av nv cv], .int .i64 er]) ?_ rfl ?_
    · exact results_row_tmp (p := 2) (u := 3) rfl _ _ w.heap.size 25 _ (0, 0) _ rfl hz9 Tryd.underlying25 rfl (by kernel_rfl)
    · rw [HX9.out]; exact ⟨ar, nr, cr, av, nv, cv, rfl, msAt_kept HMS.out hg9 (fun y e he => by have := hfa y e; have := Option.some.inj he; have := HR1.out.lt; omega) (fun y e he => by have := hfv y e; have := Option.some.inj he; have := HR1.out.lt; omega), HB9.out, fun y e => (by have := hfa y e; have := HR1.out.lt; omega), fun y e => (by have := hfv y e; have := HR1.out.lt; omega)⟩
  · have HZ : Hid (openM s = (Ms.zero, 61)) := Lib.hid (by rw [HX.out, if_neg hw])
    have HW := Lib.hid (show ¬ (n = 1 ∧ T = s.size) from fun h => hw ⟨by rw [← HN.out]; exact h.1, by rw [← HTK.out, ← HSL.out]; exact h.2⟩)
    clear hw HX
    have q0 := HR1.out.cell (j := 0) rfl
    have f0 := HR1.out.free 0
    have q1 := HR1.out.cell (j := 1) rfl
    have f1 := HR1.out.free 1
    have q2 := HR1.out.cell (j := 2) rfl
    have f2 := HR1.out.free 2
    have q3 := HR1.out.cell (j := 3) rfl
    have f3 := HR1.out.free 3
    have q4 := HR1.out.cell (j := 4) rfl
    have f4 := HR1.out.free 4
    have q5 := HR1.out.cell (j := 5) rfl
    have f5 := HR1.out.free 5
    have q6 := HR1.out.cell (j := 6) rfl
    have f6 := HR1.out.free 6
    have q7 := HR1.out.cell (j := 7) rfl
    have f7 := HR1.out.free 7
    have q8 := HR1.out.cell (j := 8) rfl
    have f8 := HR1.out.free 8
    have q9 := HR1.out.cell (j := 9) rfl
    have f9 := HR1.out.free 9
    have q10 := HR1.out.cell (j := 10) rfl
    have f10 := HR1.out.free 10
    go_wp2_with fail
    all_goals first
      | (exfalso; have h := HW.out; (try simp only [bne_eq_false_iff_eq] at *); omega)
      | (
        (try simp only [Exit.inBlock, Exit.then])
        have hz9 := blk_eleven HR1.out (.int .i64 0) (.int .i64 0) (.int .i64 0) (.int .i64 0) (.bool false) (.int .i64 0) (.int .i64 0) (.slice none 0 0) (.int .i64 0) (.string ⟨#[]⟩) (.slice none 0 0)
        have hg9 := grown_eleven (w1) w.heap.size (.int .i64 0) (.int .i64 0) (.int .i64 0) (.int .i64 0) (.bool false) (.int .i64 0) (.int .i64 0) (.slice none 0 0) (.int .i64 0) (.string ⟨#[]⟩) (.slice none 0 0)
        have HB9 := Lib.hid (HB1.out.grown hg9 HB1.out.size (fun q e => by have := Option.some.inj e; omega))
        refine bodyPost_ret (v := .tuple #[.agg #[.int .i64 0, .int .i64 0, .int .i64 0, .int .i64 0, .bool false, .int .i64 0, .int .i64 0, .slice none 0 0, .int .i64 0, .string ⟨#[]⟩, .slice none 0 0], .int .i64 61]) ?_ rfl ?_
        · exact results_row_tmp (p := 2) (u := 3) rfl _ _ w.heap.size 25 _ (0, 0) _ rfl hz9 Tryd.underlying25 rfl (by kernel_rfl)
        · rw [HZ.out]; exact retM_zero _ HB9.out
        )
end Go.Proofs.YtboohpkmllelgaaDoor
