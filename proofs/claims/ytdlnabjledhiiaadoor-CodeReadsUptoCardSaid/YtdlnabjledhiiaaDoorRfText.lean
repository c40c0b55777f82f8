/-
  The walk of hornbookref01's text. (Written by wip/mkrftext.py.)
-/
import Derived.Test.YtdlnabjledhiiaaDoorRfNum
import Derived.Test.YtdlnabjledhiiaaDoorCvValD
namespace Go.Proofs.YtdlnabjledhiiaaDoor
open Go.RowKit
set_option linter.unusedVariables false

theorem most_text : (⟨#[49, 51, 49, 48, 55, 50]⟩ : ByteArray) = ⟨(Lib.decDigits 131072).toArray⟩ := by
  rw [show Lib.decDigits 131072 = [49, 51, 49, 48, 55, 50] by simp [Lib.decDigits]]
theorem rdText_dig (s : ByteArray) (a m : Nat) (h1 : (digitsL s 131072 a (s.size + 1 - a) 0 a).2.1 ≠ true) : rdText s a m = Rd.no (digitsL s 131072 a (s.size + 1 - a) 0 a).2.2.1 m (digitsL s 131072 a (s.size + 1 - a) 0 a).2.2.2 := by unfold rdText; rw [if_neg h1]
theorem rdText_must (s : ByteArray) (a m : Nat) (h1 : (digitsL s 131072 a (s.size + 1 - a) 0 a).2.1 = true) (h2 : (mustL s (digitsL s 131072 a (s.size + 1 - a) 0 a).2.2.1 58).1 ≠ true) : rdText s a m = Rd.no (mustL s (digitsL s 131072 a (s.size + 1 - a) 0 a).2.2.1 58).2.1 m (mustL s (digitsL s 131072 a (s.size + 1 - a) 0 a).2.2.1 58).2.2 := by unfold rdText; rw [if_pos h1, if_neg h2]
theorem rdText_end (s : ByteArray) (a m : Nat) (h1 : (digitsL s 131072 a (s.size + 1 - a) 0 a).2.1 = true) (h2 : (mustL s (digitsL s 131072 a (s.size + 1 - a) 0 a).2.2.1 58).1 = true) (h3 : s.size - (mustL s (digitsL s 131072 a (s.size + 1 - a) 0 a).2.2.1 58).2.1 < (digitsL s 131072 a (s.size + 1 - a) 0 a).1) : rdText s a m = Rd.no s.size m 10 := by unfold rdText; rw [if_pos h1, if_pos h2, if_pos h3]
theorem rdText_ok (s : ByteArray) (a m : Nat) (h1 : (digitsL s 131072 a (s.size + 1 - a) 0 a).2.1 = true) (h2 : (mustL s (digitsL s 131072 a (s.size + 1 - a) 0 a).2.2.1 58).1 = true) (h3 : ¬ s.size - (mustL s (digitsL s 131072 a (s.size + 1 - a) 0 a).2.2.1 58).2.1 < (digitsL s 131072 a (s.size + 1 - a) 0 a).1) :
    rdText s a m = ⟨.mk 2 0 (s.extract (mustL s (digitsL s 131072 a (s.size + 1 - a) 0 a).2.2.1 58).2.1 ((mustL s (digitsL s 131072 a (s.size + 1 - a) 0 a).2.2.1 58).2.1 + (digitsL s 131072 a (s.size + 1 - a) 0 a).1)) [], true, (mustL s (digitsL s 131072 a (s.size + 1 - a) 0 a).2.2.1 58).2.1 + (digitsL s 131072 a (s.size + 1 - a) 0 a).1, m, 0⟩ := by unfold rdText; rw [if_pos h1, if_pos h2, if_neg h3]

set_option maxRecDepth 20000 in
set_option maxHeartbeats 2000000 in
theorem rtext_any (r : Nat) (s : ByteArray) (a m : Nat) (w : World) (h : RdAt w r s a m 0) (hs : s.size ≤ 131072) (ha : a ≤ s.size) (x : Rd) (hx : Hid (x = rdText s a m)) :
    Calls Tryd.prog 59 #[.pointer (some ⟨r, 0, none⟩)] w (RfPost r s w x) := by
  have HRLT := Lib.hid h.lt
  have HR4 := Lib.hid (h.alloc (.cells #[.int .i64 0, .int .i64 0, .string ⟨#[]⟩, .slice none 0 0] 42))
  have HF4 := Lib.hid (Four.new w 42 (.int .i64 0) (.int .i64 0) (.string ⟨#[]⟩) (.slice none 0 0))
  have HG4 := Lib.hid (World.grownBy_alloc w (.cells #[.int .i64 0, .int .i64 0, .string ⟨#[]⟩, .slice none 0 0] 42) (some r))
  have HD := Lib.hid (rdigits_any r s a m _ 131072 _ HR4.out hs ha (by decide) (Lib.hid most_text) (digitsL s 131072 a (s.size + 1 - a) 0 a) (Lib.hid rfl))
  have hdok := digitsL_ok s 131072 a (by decide) (s.size + 1 - a) 0 a (Nat.le_refl _) (Nat.zero_le _)
  have hdno := digitsL_no s 131072 a (s.size + 1 - a) 0 a ha
  have hA := rdText_ok s a m
  have hB := rdText_must s a m
  have hC := rdText_dig s a m
  have hE := rdText_end s a m
  have HST : Hid (x = rdText s a m) := hx
  generalize rdText s a m = q at *
  generalize digitsL s 131072 a (s.size + 1 - a) 0 a = y at *
  obtain ⟨N, ok, at1, bad1⟩ := y
  dsimp only at hdok hdno hA hB hC hE HD
  have HOK := Lib.hid hdok
  have HNO := Lib.hid hdno
  have HA := Lib.hid hA
  have HB := Lib.hid hB
  have HC := Lib.hid hC
  have HE := Lib.hid hE
  clear h hx hdok hdno hA hB hC hE
  go_enter Tryd.func59, Tryd.ntmps59
  go_wp2_with fail
  refine HD.out.mono ?_
  rintro e w5 ⟨t, rfl, hr5, hg5, ht⟩
  (try dsimp only at hr5 ht)
  have HR5 := Lib.hid hr5
  have HG5 := Lib.hid (grown_trans HG4.out hg5)
  have HF5 := Lib.hid (HF4.out.kept hg5 (by have := HRLT.out; simp; omega))
  have HT := Lib.hid ht
  clear HD hr5 hg5 HR4 HG4 HF4 ht
  by_cases hy : ok = true
  · subst hy
    obtain ⟨hb0, hN, hlt, hsz⟩ := HOK.out rfl
    have hT := HT.out rfl
    subst hT
    subst hb0
    have HTK := Lib.hid (take_any r s at1 m 58 w5 HR5.out (by omega) (mustL s at1 58) (Lib.hid rfl))
    have hmok := mustL_ok s at1 58
    have hmat := mustL_at s at1 58
    have hmno := mustL_no s at1 58 (by omega)
    have HA2 := Lib.hid (HA.out rfl)
    have HB2 := Lib.hid (HB.out rfl)
    have HE2 := Lib.hid (HE.out rfl)
    clear HA HB HC HE HOK HNO HT
    generalize mustL s at1 58 = z at *
    obtain ⟨zok, at2, bad2⟩ := z
    dsimp only at hmok hmno hmat HTK HA2 HB2 HE2
    have HMO := Lib.hid hmok
    have HMN := Lib.hid hmno
    have HMA := Lib.hid hmat
    clear hmok hmno hmat
    go_wp2_with fail
    refine HTK.out.mono ?_
    rintro e w6 ⟨rfl, hr6, hg6⟩
    have HR6 := Lib.hid hr6
    have HG6 := Lib.hid (grown_trans HG5.out hg6)
    have HF6 := Lib.hid (HF5.out.kept hg6 (by have := HRLT.out; simp; omega))
    clear HTK hr6 hg6 HG5 HF5 HR5
    have d3 := HR6.out.c3
    cases zok with
    | true =>
      obtain rfl := HMO.out rfl
      have hat2 : at2 ≤ s.size := HMN.out.1
      have HP := Lib.hid (Tryd.strconv_Atoi_ok ⟨(Lib.decDigits N).toArray⟩ (by have := dec_len N (by omega); show (Lib.decDigits N).toArray.size ≤ _; rw [List.size_toArray]; omega) (N : Int) (by rw [show (⟨(Lib.decDigits N).toArray⟩ : ByteArray).data.toList = Lib.decDigits N by simp]; exact atoi_dec N (by omega)) w6)
      have HA3 := Lib.hid (HA2.out rfl)
      have HE3 := Lib.hid (HE2.out rfl)
      clear HMO HMN HMA HA2 HB2 HE2
      go_wp2_with fail
      refine HP.out.mono ?_
      rintro e w7 ⟨rfl, hw7⟩
      have hb7 : Below w6.heap.size w6 w7 := by
        rcases hw7 with rfl | ⟨tt, rfl⟩
        · exact Below.refl _ _
        · exact Lib.bytesWorld_below _ _ _
      have HR7 := Lib.hid (HR6.out.kept (grown_of_below hb7 none) (by simp))
      have HG7 := Lib.hid (grown_trans HG6.out (grown_of_below hb7 (some r)))
      have HF7 := Lib.hid (HF6.out.kept (grown_of_below hb7 none) (by simp))
      clear HP hw7 hb7 HR6 HG6 HF6 d3
      have d0 := HR7.out.c0
      have d1 := HR7.out.c1
      have hni : (N : Int) ≤ 131072 := by omega
      have hai : (at2 : Int) ≤ 131072 := by omega
      have hsi : (s.size : Int) ≤ 131072 := by omega
      by_cases hlong : s.size - at2 < N
      · have hl2 : (s.size : Int) < (at2 : Int) + (N : Int) := by omega
        have HX : Hid (x = Rd.no s.size m 10) := Lib.hid (by rw [HST.out, HE3.out hlong])
        clear HA3 HE3 hlong HST
        go_wp2_with fail
        go_quiet (fail)
        clear d0 d1
        have HR8a := HR7.out.drewN nq
        have HF8a : Four (w7.drewN nq) w.heap.size 42 (.int .i64 0) (.int .i64 0) (.string ⟨#[]⟩) (.slice none 0 0) := HF7.out.drewN nq
        have HG8a := grown_trans HG7.out (grown_drewN (World.grownBy.refl w7 (some r)) nq)
        clear HR7 HG7 HF7
        generalize w7.drewN nq = w8 at *
        have d0 := HR8a.c0
        have k1 := HR8a.free 1 (by decide)
        have d1 := HR8a.c1
        have hr9 := HR8a.setAt (s.size : Int)
        have d3 := hr9.c3
        have k3 := hr9.free 3 (by decide)
        have HR9 := Lib.hid (hr9.setBad 10)
        have hg9 := grown_trans (grown_setCell w8 r 1 (.int .i64 (s.size : Int))) (grown_setCell (w8.setCell ⟨r, 1, none⟩ (.int .i64 (s.size : Int))) r 3 (.int .i64 10))
        have HF9 := Lib.hid (HF8a.kept hg9 (by have := HRLT.out; simp; omega))
        have HG9 := Lib.hid (grown_trans HG8a hg9)
        clear HR8a HF8a HG8a hr9 hg9
        have b0 := HF9.out.c0
        have b1 := HF9.out.c1
        have b2 := HF9.out.c2
        have b3 := HF9.out.c3
        have g0 := HF9.out.free 0
        have g1 := HF9.out.free 1
        have g2 := HF9.out.free 2
        have g3 := HF9.out.free 3
        go_wp2_with fail
        have HF9b := HF9.out.all (.int .i64 0) (.int .i64 0) (.string ⟨#[]⟩) (.slice none 0 0)
        have hgf := grown_four ((w8.setCell ⟨r, 1, none⟩ (.int .i64 (s.size : Int))).setCell ⟨r, 3, none⟩ (.int .i64 10)) w.heap.size (.int .i64 0) (.int .i64 0) (.string ⟨#[]⟩) (.slice none 0 0)
        clear b0 b1 b2 b3 g0 g1 g2 g3 d0 d1 d3 k1 k3
        generalize ((((((w8.setCell ⟨r, 1, none⟩ (.int .i64 (s.size : Int))).setCell ⟨r, 3, none⟩ (.int .i64 10)).setCell ⟨w.heap.size, 0, none⟩ (.int .i64 0)).setCell ⟨w.heap.size, 1, none⟩ (.int .i64 0)).setCell ⟨w.heap.size, 2, none⟩ (.string ⟨#[]⟩)).setCell ⟨w.heap.size, 3, none⟩ (.slice none 0 0)) = w10 at *
        have e0 := HF9b.c0
        have e1 := HF9b.c1
        have e2 := HF9b.c2
        have e3 := HF9b.c3
        (try simp only [Exit.inBlock, Exit.then])
        refine bodyPost_ret (v := .agg #[.int .i64 0, .int .i64 0, .string ⟨#[]⟩, .slice none 0 0]) ?_ rfl ?_
        · rw [results_cell_one rfl]; go_simp
        · rw [HX.out]
          exact ⟨_, rfl, ⟨zeroV, zeroV_at _ _, fun h => by cases h⟩, HR9.out.kept hgf (by have := HR9.out.lt; have := HRLT.out; simp; omega), grown_fresh HG9.out hgf (Nat.le_refl _)⟩
      · have hl2 : (at2 : Int) + (N : Int) ≤ (s.size : Int) := by omega
        have hl3 : (at2 : Int) ≤ (at2 : Int) + (N : Int) := by omega
        have HX : Hid (x = ⟨.mk 2 0 (s.extract at2 (at2 + N)) [], true, at2 + N, m, 0⟩) := Lib.hid (by rw [HST.out, HA3.out hlong])
        clear HA3 HE3 hlong HST
        go_wp2_with fail
        go_quiet (fail)
        go_wp2_with fail
        clear d0 d1
        have HF8 : Hid (Four (w7.drewN nq) w.heap.size 42 (.int .i64 0) (.int .i64 0) (.string ⟨#[]⟩) (.slice none 0 0)) := Lib.hid (HF7.out.drewN nq)
        have HR8 := Lib.hid (HR7.out.drewN nq)
        have HG8 : Hid (w.grownBy (w7.drewN nq) (some r)) := Lib.hid (grown_drewN HG7.out _)
        clear HF7 HR7 HG7
        generalize w7.drewN nq = w8 at *
        have d0 := HR8.out.c0
        have d1 := HR8.out.c1
        have k1 := HR8.out.free 1 (by decide)
        have hr9 := HR8.out.alloc (.cells #[.int .i64 0, .int .i64 0, .string ⟨#[]⟩, .slice none 0 0] 42)
        have l0 := hr9.c0
        have l1 := hr9.c1
        clear hr9
        go_region
        have hg9 : ∀ row, w8.grownBy (w8.alloc (.cells #[.int .i64 2, .int .i64 0, .string (s.extract at2 (at2 + N)), .slice none 0 0] 42)).drew row := by
          intro row
          have h := World.grownBy_alloc w8 (.cells #[.int .i64 2, .int .i64 0, .string (s.extract at2 (at2 + N)), .slice none 0 0] 42) row
          exact ⟨h.os, h.tape, h.output, h.size, h.block⟩
        have HB9 : Hid (Four (w8.alloc (.cells #[.int .i64 2, .int .i64 0, .string (s.extract at2 (at2 + N)), .slice none 0 0] 42)).drew w8.heap.size 42 (.int .i64 2) (.int .i64 0) (.string (s.extract at2 (at2 + N))) (.slice none 0 0)) := Lib.hid (Four.new w8 _ _ _ _ _)
        clear d0 d1 k1 l0 l1
        generalize (w8.alloc (.cells #[.int .i64 2, .int .i64 0, .string (s.extract at2 (at2 + N)), .slice none 0 0] 42)).drew = w9 at *
        have HF9 := Lib.hid (HF8.out.kept (hg9 none) (by simp))
        have hr9 := HR8.out.kept (hg9 none) (by simp)
        have HG9 := Lib.hid (grown_trans HG8.out (hg9 (some r)))
        have d0 := hr9.c0
        have d1 := hr9.c1
        have k1 := hr9.free 1 (by decide)
        have HR9 := Lib.hid hr9
        have hb8 : w8.heap.size ≠ r := by have := HR8.out.lt; omega
        have hb9 : w.heap.size ≠ w8.heap.size := by have := lt_of_block HF8.out; omega
        have hbr : w.heap.size ≠ r := by have := HRLT.out; omega
        clear hr9 hg9 HF8 HR8 HG8
        have HF := Lib.hid (HF9.out.kept (grown_setCell w9 r 1 (.int .i64 ((at2 : Int) + (N : Int)))) (by simp; omega))
        have HR : Hid (RdAt (w9.setCell ⟨r, 1, none⟩ (.int .i64 ((at2 : Int) + (N : Int)))) r s ((at2 + N : Nat) : Int) m 0) := Lib.hid (by rw [Int.natCast_add]; exact HR9.out.setAt _)
        have HG := Lib.hid (grown_trans HG9.out (grown_setCell w9 r 1 (.int .i64 ((at2 : Int) + (N : Int)))))
        have HBN := Lib.hid (HB9.out.kept (grown_setCell w9 r 1 (.int .i64 ((at2 : Int) + (N : Int)))) (by simp; omega))
        have p0 := HBN.out.c0
        have p1 := HBN.out.c1
        have p2 := HBN.out.c2
        have p3 := HBN.out.c3
        clear HF9 HR9 HG9 HB9
        (try simp only [Exit.then])
        have b0 := HF.out.c0
        have b1 := HF.out.c1
        have b2 := HF.out.c2
        have b3 := HF.out.c3
        have g0 := HF.out.free 0
        have g1 := HF.out.free 1
        have g2 := HF.out.free 2
        have g3 := HF.out.free 3
        go_wp2_with fail
        have HF9 := HF.out.all (.int .i64 2) (.int .i64 0) (.string (s.extract at2 (at2 + N))) (.slice none 0 0)
        have hgf := grown_four (w9.setCell ⟨r, 1, none⟩ (.int .i64 ((at2 : Int) + (N : Int)))) w.heap.size (.int .i64 2) (.int .i64 0) (.string (s.extract at2 (at2 + N))) (.slice none 0 0)
        clear b0 b1 b2 b3 g0 g1 g2 g3 d0 d1 k1 p0 p1 p2 p3
        generalize (((((w9.setCell ⟨r, 1, none⟩ (.int .i64 ((at2 : Int) + (N : Int)))).setCell ⟨w.heap.size, 0, none⟩ (.int .i64 2)).setCell ⟨w.heap.size, 1, none⟩ (.int .i64 0)).setCell ⟨w.heap.size, 2, none⟩ (.string (s.extract at2 (at2 + N)))).setCell ⟨w.heap.size, 3, none⟩ (.slice none 0 0)) = w10 at *
        have e0 := HF9.c0
        have e1 := HF9.c1
        have e2 := HF9.c2
        have e3 := HF9.c3
        (try simp only [Exit.inBlock, Exit.then])
        refine bodyPost_ret (v := .agg #[.int .i64 2, .int .i64 0, .string (s.extract at2 (at2 + N)), .slice none 0 0]) ?_ rfl ?_
        · rw [results_cell_one rfl]; go_simp
        · rw [HX.out]
          exact ⟨_, rfl, ⟨_, textV_at _ _ _, fun _ => rfl⟩, HR.out.kept hgf (by have := HR.out.lt; have := HRLT.out; simp; omega), grown_fresh HG.out hgf (Nat.le_refl _)⟩
    | false =>
      have hb2 := HMN.out.2 (by simp)
      have q1 : (bad2 != 0) = true := by simpa using hb2
      have q2 : (bad2 == 0) = false := by simpa using hb2
      have HX : Hid (x = Rd.no at2 m bad2) := Lib.hid (by rw [HST.out, HB2.out (by simp)])
      clear HST HMO HMN HMA HA2 HB2 HE2 hb2
      have b0 := HF6.out.c0
      have b1 := HF6.out.c1
      have b2 := HF6.out.c2
      have b3 := HF6.out.c3
      have g0 := HF6.out.free 0
      have g1 := HF6.out.free 1
      have g2 := HF6.out.free 2
      have g3 := HF6.out.free 3
      go_wp2_with fail
      have HF9 := HF6.out.all (.int .i64 0) (.int .i64 0) (.string ⟨#[]⟩) (.slice none 0 0)
      have hgf := grown_four w6 w.heap.size (.int .i64 0) (.int .i64 0) (.string ⟨#[]⟩) (.slice none 0 0)
      clear b0 b1 b2 b3 g0 g1 g2 g3 d3
      generalize ((((w6.setCell ⟨w.heap.size, 0, none⟩ (.int .i64 0)).setCell ⟨w.heap.size, 1, none⟩ (.int .i64 0)).setCell ⟨w.heap.size, 2, none⟩ (.string ⟨#[]⟩)).setCell ⟨w.heap.size, 3, none⟩ (.slice none 0 0)) = w10 at *
      have e0 := HF9.c0
      have e1 := HF9.c1
      have e2 := HF9.c2
      have e3 := HF9.c3
      (try simp only [Exit.inBlock, Exit.then])
      refine bodyPost_ret (v := .agg #[.int .i64 0, .int .i64 0, .string ⟨#[]⟩, .slice none 0 0]) ?_ rfl ?_
      · rw [results_cell_one rfl]; go_simp
      · rw [HX.out]
        exact ⟨_, rfl, ⟨zeroV, zeroV_at _ _, fun h => by cases h⟩, HR6.out.kept hgf (by have := HR6.out.lt; have := HRLT.out; simp; omega), grown_fresh HG6.out hgf (Nat.le_refl _)⟩
  · have hb1 := HNO.out.2 hy
    have q1 : (bad1 != 0) = true := by simpa using hb1
    have q2 : (bad1 == 0) = false := by simpa using hb1
    have HTK := Lib.hid (take_bad r s (at1 : Int) m bad1 58 w5 HR5.out hb1)
    have d3 := HR5.out.c3
    have HX : Hid (x = Rd.no at1 m bad1) := Lib.hid (by rw [HST.out, HC.out hy])
    clear HST HOK HNO hb1 hy HT HA HB HC HE
    go_wp2_with fail
    refine HTK.out.mono ?_
    rintro e w6 ⟨rfl, rfl⟩
    clear HTK
    have b0 := HF5.out.c0
    have b1 := HF5.out.c1
    have b2 := HF5.out.c2
    have b3 := HF5.out.c3
    have g0 := HF5.out.free 0
    have g1 := HF5.out.free 1
    have g2 := HF5.out.free 2
    have g3 := HF5.out.free 3
    go_wp2_with fail
    have HF9 := HF5.out.all (.int .i64 0) (.int .i64 0) (.string ⟨#[]⟩) (.slice none 0 0)
    have hgf := grown_four w6 w.heap.size (.int .i64 0) (.int .i64 0) (.string ⟨#[]⟩) (.slice none 0 0)
    clear b0 b1 b2 b3 g0 g1 g2 g3 d3
    generalize ((((w6.setCell ⟨w.heap.size, 0, none⟩ (.int .i64 0)).setCell ⟨w.heap.size, 1, none⟩ (.int .i64 0)).setCell ⟨w.heap.size, 2, none⟩ (.string ⟨#[]⟩)).setCell ⟨w.heap.size, 3, none⟩ (.slice none 0 0)) = w10 at *
    have e0 := HF9.c0
    have e1 := HF9.c1
    have e2 := HF9.c2
    have e3 := HF9.c3
    (try simp only [Exit.inBlock, Exit.then])
    refine bodyPost_ret (v := .agg #[.int .i64 0, .int .i64 0, .string ⟨#[]⟩, .slice none 0 0]) ?_ rfl ?_
    · rw [results_cell_one rfl]; go_simp
    · rw [HX.out]
      exact ⟨_, rfl, ⟨zeroV, zeroV_at _ _, fun h => by cases h⟩, HR5.out.kept hgf (by have := HR5.out.lt; have := HRLT.out; simp; omega), grown_fresh HG5.out hgf (Nat.le_refl _)⟩
end Go.Proofs.YtdlnabjledhiiaaDoor
