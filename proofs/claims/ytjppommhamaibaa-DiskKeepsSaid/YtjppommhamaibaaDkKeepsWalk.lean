/-
  The walk of the law DiskKeeps: it says true; new blocks alone are made; the texts within reach.
-/
import Derived.Test.YtjppommhamaibaaDkU
namespace Go.Proofs.Ytjppommhamaibaa
open Go.RowKit Go.BigFrame
set_option linter.unusedVariables false

theorem prefix_lit {s t : ByteArray} (hz : t.size ≤ s.size) (h : s.extract 0 t.size = t) : (s.extract 0 t.size).toList == t.toList := by rw [h]; simp
set_option maxHeartbeats 400000 in
theorem hasPre0 (s t : ByteArray) (w : World) (hs : s.size ≤ 9223372036854775807) (hz : t.size ≤ s.size) (h : s.extract 0 t.size = t) : Calls Try.prog 29 #[.string s, .string t] w fun e w' => e = .returned (.bool true) ∧ w = w' := by
  have hzi : (t.size : Int) ≤ (s.size : Int) := by omega
  have hq : ((s.extract 0 t.size).toList == t.toList) = true := by rw [h]; simp
  have H := Lib.hid h
  clear h
  go_enter Try.func29, Try.ntmps29
  go_wp2_with fail
  go_ret
  exact ⟨rfl, rfl⟩
set_option maxHeartbeats 400000 in
theorem hasPre (s t : ByteArray) (w : World) (hs : s.size ≤ 9223372036854775807) (hz : t.size ≤ s.size) (h : s.extract 0 t.size = t) : Calls Try.prog 12 #[.string s, .string t] w fun e w' => e = .returned (.bool true) ∧ w = w' := by
  have H := Lib.hid (hasPre0 s t w hs hz h)
  clear h
  go_enter Try.func12, Try.ntmps12
  go_wp2_with fail
  refine H.out.mono ?_
  rintro e w1 ⟨rfl, rfl⟩
  go_wp2_with fail
  go_ret
  exact ⟨rfl, rfl⟩

theorem extract_pre (a b : ByteArray) : (a ++ b).extract 0 a.size = a := by
  apply ba_ext
  rw [Lib.extract_data]
  simp
theorem extract_pre2 (a b : ByteArray) (m : Nat) (h : m ≤ b.size) : (a ++ b).extract 0 (a ++ b.extract 0 m).size = a ++ b.extract 0 m := by
  apply ba_ext
  rw [Lib.extract_data]
  simp [ByteArray.size_append, ByteArray.size_extract]
  rw [List.take_append, List.take_of_length_le (by simp)]
  congr 1
  congr 1
  simp
  omega
theorem keepN_le (keep : List Int) (i : Nat) (f : Fl) : keepN keep i f ≤ f.ta.size := by
  unfold keepN
  split
  · exact Nat.zero_le _
  · exact Nat.min_le_right _ _
set_option maxRecDepth 100000 in
set_option maxHeartbeats 2000000 in
theorem keeps_wrong (a : Option Addr) (n c : Nat) (d : Dk) (ak : Option Addr) (nk ck : Nat) (keep : List Int) (w : World) (h : DkAt w a n c d) (hk : SlAt w ak nk (i64s keep)) (hkn : nk ≤ 100000000000000) (hr : rightD d = false) :
    Calls Try.prog 3 #[d.val a n c, .slice ak nk ck] w fun e w' => e = .returned (.bool true) ∧ Below w.heap.size w w' := by
  have hA : Below w.heap.size w (w.alloc (.cells #[.int .i64 d.room, .slice a n c, .int .i64 d.left, .bool d.down] 24)) := (Below.refl _ w).alloc (Nat.le_refl _) _
  have HA := Lib.hid hA
  have HBX := Lib.hid (DkBox.new w d a n c)
  have hc := Lib.hid (crash_any a n c d ak nk ck keep _ (h.keep hA) (hk.keep hA) hkn)
  have hrt := Lib.hid (fun (W : World) (hb : Below w.heap.size w W) => h.right W hb false hr)
  have hcr : crashD d keep = (Dk.zero, 1) := by unfold crashD; rw [if_pos hr]
  rw [hcr] at hc
  clear hA h hk hr hcr
  obtain ⟨rm, l, lf, dn⟩ := d
  unfold Dk.val at *
  dsimp only at *
  go_enter Try.func3, Try.ntmps3
  go_wp2_with fail
  refine hc.out.mono ?_
  rintro e w1 ⟨a2, n2, c2, rfl, -, hb1⟩
  have hb1' := below_then HA.out hb1 HA.out.size
  unfold Dk.val Dk.zero
  have HB1 := Lib.hid (hb1'.alloc hb1'.size (.cells #[.int .i64 0, .slice a2 n2 c2, .int .i64 0, .bool false] 24))
  have hx := (HBX.out.keep hb1).alloc (.cells #[.int .i64 0, .slice a2 n2 c2, .int .i64 0, .bool false] 24)
  have q0 := hx.c0; have q1 := hx.c1; have q2 := hx.c2; have q3 := hx.c3
  clear hb1 hb1' hx
  go_wp2_with fail
  refine (hrt.out _ HB1.out).mono ?_
  rintro e w2 ⟨rfl, hb2⟩
  have HB2 := Lib.hid (below_then HB1.out hb2 HB1.out.size)
  clear hb2 q0 q1 q2 q3
  go_wp2_with fail
  refine (alive_any w2).mono ?_
  rintro e w3 ⟨rfl, hb3⟩
  have HB3 := Lib.hid (below_then HB2.out hb3 HB2.out.size)
  clear hb3
  go_wp2_with fail
  go_ret
  exact ⟨rfl, HB3.out⟩

set_option maxRecDepth 100000 in
set_option maxHeartbeats 500000 in
theorem keeps_right (a : Option Addr) (n c : Nat) (d : Dk) (ak : Option Addr) (nk ck : Nat) (keep : List Int) (w : World) (h : DkAt w a n c d) (hk : SlAt w ak nk (i64s keep)) (hkn : nk ≤ 100000000000000) (hr : rightD d = true) :
    Calls Try.prog 3 #[d.val a n c, .slice ak nk ck] w fun e w' => e = .returned (.bool true) ∧ Below w.heap.size w w' := by
  have hA : Below w.heap.size w (w.alloc (.cells #[.int .i64 d.room, .slice a n c, .int .i64 d.left, .bool d.down] 24)) := (Below.refl _ w).alloc (Nat.le_refl _) _
  have HA := Lib.hid hA
  have HBX := Lib.hid (DkBox.new w d a n c)
  have hc := Lib.hid (crash_any a n c d ak nk ck keep _ (h.keep hA) (hk.keep hA) hkn)
  have hrt := Lib.hid (fun (W : World) (hb : Below w.heap.size w W) => h.right W hb true hr)
  have hcr : crashD d keep = (crashed d keep, 0) := by unfold crashD; rw [if_neg (by simp [hr])]
  rw [hcr] at hc
  have hn8 : n ≤ 8 := by have := h.len; have := (rightD_nums hr).2.1; omega
  have H := Lib.hid h
  have HR := Lib.hid hr
  have HCR := Lib.hid (crash_right hr keep)
  have HN := Lib.hid h.len
  have HNC := Lib.hid (crashed_len d keep)
  obtain ⟨cd, hcd⟩ : ∃ cd, cd = crashed d keep := ⟨_, rfl⟩
  have HCD := Lib.hid hcd
  have hcdn : cd.down = false := by rw [hcd]; rfl
  rw [← hcd] at hc HCR HNC
  clear hA h hk hr hcr hcd
  obtain ⟨rmc, lc, lfc, dnc⟩ := cd
  have hcdn : dnc = false := hcdn
  subst hcdn
  obtain ⟨rm, l, lf, dn⟩ := d
  unfold Dk.val at *
  dsimp only at *
  go_enter Try.func3, Try.ntmps3
  go_wp2_with fail
  refine hc.out.mono ?_
  rintro e w1 ⟨a2, n2, c2, rfl, hd1, hb1⟩
  have hb1' := below_then HA.out hb1 HA.out.size
  have hnn : n2 = n := by have h1 := hd1.len; have h2 := HNC.out; have h3 := HN.out; dsimp only at h1 h2; omega
  subst hnn
  unfold Dk.val
  dsimp only
  have HD1 := Lib.hid hd1
  have HB1 := Lib.hid (hb1'.alloc hb1'.size (.cells #[.int .i64 rmc, .slice a2 n2 c2, .int .i64 lfc, .bool false] 24))
  have HD2 := Lib.hid (hd1.keep ((Below.refl _ w1).alloc (Nat.le_refl _) (.cells #[.int .i64 rmc, .slice a2 n2 c2, .int .i64 lfc, .bool false] 24)))
  have hx := (HBX.out.keep hb1).alloc (.cells #[.int .i64 rmc, .slice a2 n2 c2, .int .i64 lfc, .bool false] 24)
  have q0 := hx.c0; have q1 := hx.c1; have q2 := hx.c2; have q3 := hx.c3
  have HX := Lib.hid hx
  have HY := Lib.hid (Four.new w1 24 (.int .i64 rmc) (.slice a2 n2 c2) (.int .i64 lfc) (.bool false))
  have hwlt : w.heap.size < w1.heap.size := by have := hb1.size; simp at this; omega
  clear hb1 hb1' hx hd1
  go_wp2_with fail
  refine (hrt.out _ HB1.out).mono ?_
  rintro e w2 ⟨rfl, hb2⟩
  have HB2 := Lib.hid (below_then HB1.out hb2 HB1.out.size)
  have HX2 := Lib.hid (Four.keep HX.out hb2)
  have HY2 := Lib.hid (Four.keep HY.out hb2)
  have HD3 := Lib.hid (HD2.out.keep hb2)
  clear hb2 q0 q1 q2 q3
  obtain ⟨B5, hB5⟩ : ∃ B5, B5 = w1.heap.size := ⟨_, rfl⟩
  have HB5 := Lib.hid hB5
  rw [← hB5] at HY2 hwlt
  clear hB5
  go_wp2_with fail
  rw [← HB5.out]
  refine (alive_any w2).mono ?_
  rintro e w3 ⟨rfl, hb3⟩
  have HB3 := Lib.hid (below_then HB2.out hb3 HB2.out.size)
  have hx3 := Four.keep HX2.out hb3
  have hy3 := Four.keep HY2.out hb3
  have HX3 := Lib.hid hx3
  have HY3 := Lib.hid hy3
  have HD4 := Lib.hid (HD3.out.keep hb3)
  have q0 := hx3.c0; have q1 := hx3.c1; have q2 := hx3.c2; have q3 := hx3.c3
  have y0 := hy3.c0; have y1 := hy3.c1; have y2 := hy3.c2; have y3 := hy3.c3
  clear hb3 hx3 hy3
  have hrc := Lib.hid (right_any a2 n2 c2 ⟨rmc, lc, lfc, false⟩ w3 HD4.out true (Lib.hid HCR.out.symm))
  unfold Dk.val at hrc
  dsimp only at hrc
  go_wp2_with fail
  refine hrc.out.mono ?_
  rintro e w4 ⟨rfl, hb4⟩
  have HB4 := Lib.hid (below_then HB3.out hb4 HB3.out.size)
  have hx4 := Four.keep HX3.out hb4
  have hy4 := Four.keep HY3.out hb4
  have HX4 := Lib.hid hx4
  have HY4 := Lib.hid hy4
  have HD5 := Lib.hid (HD4.out.keep hb4)
  clear q0 q1 q2 q3 y0 y1 y2 y3
  have q0 := hx4.c0; have q1 := hx4.c1; have q2 := hx4.c2; have q3 := hx4.c3
  have y0 := hy4.c0; have y1 := hy4.c1; have y2 := hy4.c2; have y3 := hy4.c3
  clear hb4 hx4 hy4
  have hnb : ((n2 : Int) != (n2 : Int)) = false := by simp
  have HSL := Lib.hid (H.out.sl.keep HB4.out)
  have HSM := Lib.hid H.out.small
  have HCF : Hid (∀ (k : Nat) (h : k < l.length) (hc : k < lc.length), lc[k] = ⟨l[k].nm, l[k].sy ++ l[k].ta.extract 0 (keepN keep k l[k]), ⟨#[]⟩⟩) := Lib.hid fun k h hc => by
    have h1 := crashed_at ⟨rm, l, lf, dn⟩ keep h
    have h2 : lc = (crashed ⟨rm, l, lf, dn⟩ keep).files := congrArg Dk.files HCD.out
    subst h2
    exact h1
  have HRD : Hid (∀ (k : Nat) (h : k < l.length), readD ⟨rmc, lc, lfc, false⟩ l[k].nm = (l[k].sy ++ l[k].ta.extract 0 (keepN keep k l[k]), 0)) := Lib.hid fun k h => by
    rw [HCD.out]
    exact read_crashed HR.out keep h
  have HSZ4 : Hid (w.heap.size < w4.heap.size ∧ B5 < w4.heap.size) := Lib.hid ⟨lt_of_block HX4.out, lt_of_block HY4.out⟩
  go_wp2_with fail
  clear q0 q1 q2 q3 y0 y1 y2 y3 hnb
  clear HX HX2 HX3 HY2 HY3 HD1 HD2 HD3 HD4 hc hrt hrc HB1 HB2 HB3 HA HBX HB5 HCR HR HCD H
  go_loopg [7, 8, 9, 10, 52] n2 (fun gk v7 v8 v9 v10 i wr => ∃ k : Nat, k ≤ n2 ∧ gk = n2 - k ∧ i = .int .i64 (k : Int) ∧ Hid (Below w4.heap.size w4 wr))
  case atStart => exact ⟨0, Nat.zero_le _, rfl, rfl, Lib.hid (Below.refl _ _)⟩
  case round =>
    obtain ⟨k, hk, rfl, rfl, hW⟩ := hrel
    by_cases hlt : k < n2
    · have hkl : k < l.length := by rw [HN.out]; exact hlt
      have hkc : k < lc.length := by have h2 := HNC.out; omega
      obtain ⟨-, b, off, rfl, hcells⟩ := fl_at (HSL.out.keep hW.out) (by omega)
      obtain ⟨c0, c1, c2'⟩ := hcells k hkl
      obtain ⟨-, g, off2, rfl, hcells2⟩ := fl_at HD5.out.sl (by omega)
      have hd2 := hcells2 k hkc
      rw [HCF.out k hkl hkc] at hd2
      dsimp only at hd2
      have HC2 := Lib.hid hd2
      have hrd := Lib.hid (HRD.out k hkl)
      obtain ⟨s0, s1, s2⟩ := HSM.out l[k] (List.getElem_mem hkl)
      have hm := keepN_le keep k l[k]
      generalize keepN keep k l[k] = m at *
      generalize l[k] = o at *
      obtain ⟨o0, o1, o2⟩ := o
      dsimp only at *
      obtain ⟨s, hs⟩ : ∃ s, s = o1 ++ o2.extract 0 m := ⟨_, rfl⟩
      have hsz : s.size ≤ 281474976710656 := by
        have s1 : o1.size ≤ 140737488355328 := s1
        have s2 : o2.size ≤ 140737488355328 := s2
        rw [hs, ByteArray.size_append, ByteArray.size_extract]; omega
      have hsz2 : o1.size ≤ s.size := by rw [hs, ByteArray.size_append]; omega
      have hsz3 : s.size ≤ (o1 ++ o2).size := by rw [hs, ByteArray.size_append, ByteArray.size_append, ByteArray.size_extract]; omega
      have hp1 := Lib.hid (fun (W : World) => hasPre s o1 W (by omega) hsz2 (by rw [hs]; exact extract_pre _ _))
      have s1 : o1.size ≤ 140737488355328 := s1
      have s2 : o2.size ≤ 140737488355328 := s2
      have s0 : o0.size ≤ 140737488355328 := s0
      have hp2 := Lib.hid (fun (W : World) => hasPre (o1 ++ o2) s W (by rw [ByteArray.size_append]; omega) hsz3 (by rw [hs]; exact extract_pre2 _ _ _ hm))
      rw [← hs] at HC2 hrd
      have hread := Lib.hid (fun (W : World) (hb : Below w4.heap.size w4 W) => read_any (some ⟨g, off2, none⟩) n2 c2 ⟨rmc, lc, lfc, false⟩ o0 W (HD5.out.keep hb) (by unfold maxLen; omega) s 0 (Lib.hid hrd.out.symm))
      have hki : (k : Int) < (n2 : Int) := by omega
      have hY := Four.keep HY4.out hW.out
      have hBW := hW.out.alloc hW.out.size (.cells #[.string o0, .string o1, .string o2] 32)
      have HBW := Lib.hid hBW
      have n0 := cell_new (w := wr) (cs := #[.string o0, .string o1, .string o2]) (T := 32) 0 (v := .string o0) rfl
      have n1 := cell_new (w := wr) (cs := #[.string o0, .string o1, .string o2]) (T := 32) 1 (v := .string o1) rfl
      have n2' := cell_new (w := wr) (cs := #[.string o0, .string o1, .string o2]) (T := 32) 2 (v := .string o2) rfl
      have HNW := Lib.hid (And.intro n0 (And.intro n1 n2'))
      have hY5 := hY.alloc (.cells #[.string o0, .string o1, .string o2] 32)
      have y0 := hY5.c0; have y1 := hY5.c1; have y2 := hY5.c2; have y3 := hY5.c3
      have HY5 := Lib.hid hY5
      clear hs hcells hcells2 hd2 hm hrd hsz hsz2 hsz3 hBW hY hY5
      unfold Dk.val at hread
      dsimp only at hread
      go_wp2_with fail
      refine (hread.out _ HBW.out).mono ?_
      rintro e w6 ⟨rfl, hb6⟩
      have f0 := cell_keep hb6 n0
      have f1 := cell_keep hb6 n1
      have f2 := cell_keep hb6 n2'
      have hY6 := Four.keep HY5.out hb6
      have HB6 := Lib.hid (below_then HBW.out hb6 HBW.out.size)
      clear hb6 y0 y1 y2 y3 c0 c1 c2'
      have y1 := hY6.c1
      clear hY6
      obtain ⟨d0, d1, d2⟩ := HC2.out
      have d0 := cell_keep HB6.out d0
      have d2 := cell_keep HB6.out d2
      obtain ⟨N8, hN8⟩ : ∃ N8, N8 = wr.heap.size := ⟨_, rfl⟩
      clear n0 n1 n2'
      go_wp2_with fail
      rw [← hN8] at f0 f1 f2 ⊢
      clear hN8
      go_quiet (first | ((go_at_call 12; exact qsame (hp1.out _))) | ((go_at_call 12; exact qsame (hp2.out _))))
      go_wp2_with fail
      go_roundg (n2 - (k + 1))
      case rel => exact ⟨k + 1, by omega, rfl, by go_num, Lib.hid (below_drewN HB6.out _)⟩
      case measure => omega
    · have hki : (n2 : Int) ≤ (k : Int) := by omega
      go_wp2_with fail
      go_ret
      exact ⟨rfl, below_then HB4.out hW.out HB4.out.size⟩
theorem diskKeeps_walk (a : Option Addr) (n c : Nat) (d : Dk) (ak : Option Addr) (nk ck : Nat) (keep : List Int) (w : World) (h : DkAt w a n c d) (hk : SlAt w ak nk (i64s keep) ∧ nk ≤ 100000000000000) :
    Calls Try.prog 3 #[d.val a n c, .slice ak nk ck] w fun e w' => e = .returned (.bool true) ∧ Below w.heap.size w w' := by
  cases hr : rightD d with
  | true => exact keeps_right a n c d ak nk ck keep w h hk.1 hk.2 hr
  | false => exact keeps_wrong a n c d ak nk ck keep w h hk.1 hk.2 hr
end Go.Proofs.Ytjppommhamaibaa
