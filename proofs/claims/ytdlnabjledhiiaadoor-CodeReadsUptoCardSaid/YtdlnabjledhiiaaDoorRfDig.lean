/-
  The walk of hornbookref01's digits: the numeral that stands there, or what is wrong.
-/
import Derived.Test.YtdlnabjledhiiaaDoorRfA
import Derived.Deep.LoopGhost
import Derived.LaidLaws
namespace Go.Proofs.YtdlnabjledhiiaaDoor
open Go.RowKit
set_option linter.unusedVariables false

theorem dec_size (n : Nat) : (⟨(Lib.decDigits n).toArray⟩ : ByteArray).size ≠ 0 := by
  show (Lib.decDigits n).toArray.size ≠ 0
  rw [List.size_toArray]
  have := dec_pos n
  omega
theorem one_app (l : List UInt8) (c : UInt8) : ((⟨l.toArray⟩ : ByteArray) ++ ⟨#[c]⟩) = ⟨(l ++ [c]).toArray⟩ := by
  apply ByteArray.ext
  simp
theorem one_string (w : World) (c : UInt8) : (convert 51 9 (.slice (some ⟨w.heap.size, 0, none⟩) 1 1)).run Tryd.prog (w.alloc (.cells #[.int .u8 (c.toNat : Int)] 5)) = .ok (.string ⟨#[c]⟩) (w.alloc (.cells #[.int .u8 (c.toNat : Int)] 5)) := by
  refine run_convert_bytes_back _ 51 9 5 ⟨w.heap.size, 0, none⟩ 1 [c] Tryd.underlying51 Tryd.underlying5 Tryd.underlying9 fun j hj => ?_
  have hj0 : j = 0 := by simpa using hj
  subst hj0
  have hb : (w.alloc (.cells #[.int .u8 (c.toNat : Int)] 5)).heap[w.heap.size]? = some (.cells #[.int .u8 (c.toNat : Int)] 5 (0, 0)) := heap_alloc_new w _
  exact (Lib.cell_of_heap hb _).trans rfl

set_option maxRecDepth 20000 in
set_option maxHeartbeats 1000000 in
theorem rdigits_any (r : Nat) (s : ByteArray) (a0 : Nat) (m : Int) (most : ByteArray) (M : Nat) (w : World) (h : RdAt w r s a0 m 0) (hs : s.size ≤ 131072) (ha : a0 ≤ s.size) (h9 : 9 ≤ M) (hmost : Hid (most = ⟨(Lib.decDigits M).toArray⟩))
    (x : Nat × Bool × Nat × Int) (hx : Hid (x = digitsL s M a0 (s.size + 1 - a0) 0 a0)) :
    Calls Tryd.prog 71 #[.pointer (some ⟨r, 0, none⟩), .string most] w (fun e w' => ∃ t : ByteArray, e = .returned (.string t) ∧ RdAt w' r s (x.2.2.1 : Int) m x.2.2.2 ∧ w.grownBy w' (some r) ∧ (x.2.1 = true → t = ⟨(Lib.decDigits x.1).toArray⟩)) := by
  have H := Lib.hid h
  clear h
  go_enter Tryd.func71, Tryd.ntmps71
  go_wp2_with fail
  go_loopg [5] (s.size + 1 - a0) (fun gk v wr => ∃ (n a : Nat) (t : ByteArray), v = .string t ∧ gk = s.size + 1 - a ∧ a ≤ s.size ∧ a0 ≤ a ∧ t.size ≤ a ∧ Hid (a = a0 → t = ⟨#[]⟩ ∧ n = 0) ∧ Hid (a0 < a → t = ⟨(Lib.decDigits n).toArray⟩) ∧ Hid (RdAt wr r s (a : Int) m 0) ∧ Hid (w.grownBy wr (some r)) ∧ Hid (x = digitsL s M a0 gk n a))
  case atStart => exact ⟨0, a0, ⟨#[]⟩, rfl, rfl, ha, Nat.le_refl _, Nat.zero_le _, Lib.hid fun _ => ⟨rfl, rfl⟩, Lib.hid fun h => absurd h (Nat.lt_irrefl _), H, Lib.hid (World.grownBy.refl _ _), hx⟩
  case round =>
    obtain ⟨n, a, t, rfl, rfl, hal, haa, hts, hT0, hT1, hR, hG, hX⟩ := hrel
    clear H hx
    have hnow := Lib.hid (now_any r s a m 0 wr hR.out (by omega) (nowL s a) (Lib.hid rfl))
    have hst := hX.out
    rw [show s.size + 1 - a = (s.size - a) + 1 by omega, digitsL] at hst
    by_cases h1 : ∃ h : a < s.size, 48 ≤ s[a].toNat ∧ s[a].toNat ≤ 57
    · obtain ⟨h1, h2, h3⟩ := h1
      rw [dif_pos h1, if_neg (by omega)] at hst
      have HST := Lib.hid hst
      have HQ : nowL s a = (s[a].toNat : Int) := by rw [nowL, dif_pos h1]
      rw [HQ] at hnow
      have hdg := Lib.hid (fun w1 => digit_any (s[a].toNat : Int) w1 true (Lib.hid (by rw [decide_eq_true (show (48 : Int) ≤ (s[a].toNat : Int) by omega), decide_eq_true (show (s[a].toNat : Int) ≤ 57 by omega)]; rfl)))
      clear hst hX HQ
      go_wp2_with fail
      refine hnow.out.mono ?_
      rintro e w2 ⟨rfl, n2, rfl⟩
      go_wp2_with fail
      refine (hdg.out _).mono ?_
      rintro e w3 ⟨rfl, rfl⟩
      go_wp2_with fail
      refine ((Lib.hid (fun w1 (h : RdAt w1 r s a m 0) => now_any r s a m 0 w1 h (by omega) (s[a].toNat : Int) (Lib.hid (by rw [nowL, dif_pos h1])))).out _ (hR.out.drewN _)).mono ?_
      rintro e w3 ⟨rfl, n3, rfl⟩
      have HR4 := Lib.hid ((hR.out.drewN n2).drewN n3)
      have HG4 := Lib.hid (grown_trans hG.out (grown_drewN (grown_drewN (World.grownBy.refl wr (some r)) n2) n3))
      clear hnow hdg
      generalize (wr.drewN n2).drewN n3 = w4 at *
      have hconv := one_string w4 s[a]
      have HR5 := Lib.hid (HR4.out.alloc (.cells #[.int .u8 (s[a].toNat : Int)] 5))
      have HG5 := Lib.hid (grown_trans HG4.out (World.grownBy_alloc w4 (.cells #[.int .u8 (s[a].toNat : Int)] 5) (some r)))
      have hlen : t.size + 1 ≤ 9223372036854775807 := by omega
      have HF : Hid (fitsB (t ++ ⟨#[s[a]]⟩) most = !(decide ((a0 < a ∧ n = 0) ∨ (M - (s[a].toNat - 48)) / 10 < n))) := by
        refine Lib.hid ?_
        rw [hmost.out]
        rcases Nat.eq_or_lt_of_le haa with h4 | h4
        · obtain ⟨e1, e2⟩ := hT0.out h4.symm
          rw [e1, e2, show ((⟨#[]⟩ : ByteArray) ++ ⟨#[s[a]]⟩) = ⟨[s[a]].toArray⟩ from one_app _ _, (fits_step 0 M h9 s[a] ⟨h2, h3⟩).2]
          simp [h4]
        · rw [hT1.out h4, one_app, (fits_step n M h9 s[a] ⟨h2, h3⟩).1]
          simp [h4]
      have hft := Lib.hid (fun w1 => fits_any (t ++ ⟨#[s[a]]⟩) most w1 _ (Lib.hid HF.out.symm))
      go_wp2_with fail
      refine (hft.out _).mono ?_
      rintro e w6 ⟨rfl, rfl⟩
      clear hft HF hconv HR4 HG4
      generalize w4.alloc (.cells #[.int .u8 (s[a].toNat : Int)] 5) = w6 at *
      by_cases hbad : (a0 < a ∧ n = 0) ∨ (M - (s[a].toNat - 48)) / 10 < n
      · have HX2 : Hid (x = (0, false, a, 11)) := Lib.hid (by rw [HST.out, if_pos hbad])
        rw [decide_eq_true hbad]
        have d3 := HR5.out.c3
        have k3 := HR5.out.free 3 (by decide)
        clear HST hT0 hT1 hbad
        go_wp2_with fail
        go_ret
        rw [HX2.out]
        exact ⟨⟨#[]⟩, rfl, HR5.out.setBad _, grown_trans HG5.out (grown_setCell _ _ _ _), fun h => by cases h⟩
      · have HX2 : Hid (x = digitsL s M a0 (s.size + 1 - (a + 1)) (10 * n + (s[a].toNat - 48)) (a + 1)) := Lib.hid (by rw [HST.out, if_neg hbad, show s.size + 1 - (a + 1) = s.size - a by omega])
        have HT2 : Hid (t ++ ⟨#[s[a]]⟩ = ⟨(Lib.decDigits (10 * n + (s[a].toNat - 48))).toArray⟩) := by
          refine Lib.hid ?_
          rcases Nat.eq_or_lt_of_le haa with h4 | h4
          · obtain ⟨e1, e2⟩ := hT0.out h4.symm
            rw [e1, e2, show ((⟨#[]⟩ : ByteArray) ++ ⟨#[s[a]]⟩) = ⟨[s[a]].toArray⟩ from one_app _ _, Lib.decDigits, dif_pos (by omega), show 48 + (10 * 0 + (s[a].toNat - 48)) = 48 + (s[a].toNat - 48) by omega, digit_of (by omega)]
          · have hn : n ≠ 0 := fun e => hbad (.inl ⟨h4, e⟩)
            rw [hT1.out h4, one_app, Lib.decDigits.eq_1 (10 * n + (s[a].toNat - 48)), dif_neg (by omega), show (10 * n + (s[a].toNat - 48)) / 10 = n by omega, show (10 * n + (s[a].toNat - 48)) % 10 = s[a].toNat - 48 by omega, digit_of (by omega)]
        have HS2 : Hid ((t ++ ⟨#[s[a]]⟩ : ByteArray).size ≤ a + 1) := Lib.hid (by rw [ByteArray.size_append]; show t.size + 1 ≤ a + 1; omega)
        rw [decide_eq_false hbad]
        have d1 := HR5.out.c1
        have k1 := HR5.out.free 1 (by decide)
        have hai : (a : Int) < 131072 := by omega
        clear HST hT0 hT1 hbad
        generalize (t ++ ⟨#[s[a]]⟩ : ByteArray) = t2 at *
        go_wp2_with fail
        go_roundg (s.size + 1 - (a + 1))
        case rel => exact ⟨_, a + 1, t2, rfl, rfl, h1, by omega, HS2.out, Lib.hid (fun e => by omega), Lib.hid (fun _ => HT2.out), Lib.hid (by rw [Int.natCast_add]; exact HR5.out.setAt _), Lib.hid (grown_trans HG5.out (grown_setCell _ _ _ _)), HX2⟩
        case measure => omega
    · have HND : Hid ((decide (48 ≤ nowL s a) && decide (nowL s a ≤ 57)) = false) := by
        refine Lib.hid ?_
        unfold nowL
        split
        · rename_i h2
          rcases Nat.lt_or_ge s[a].toNat 48 with h3 | h3
          · rw [decide_eq_false (show ¬ (48 : Int) ≤ (s[a].toNat : Int) by omega)]; rfl
          · rw [decide_eq_false (show ¬ (s[a].toNat : Int) ≤ 57 from fun h4 => h1 ⟨h2, h3, by omega⟩), Bool.and_false]
        · rfl
      have hdg := Lib.hid (fun w1 => digit_any (nowL s a) w1 false (Lib.hid HND.out.symm))
      generalize hq : nowL s a = q at *
      have HQ := Lib.hid hq
      clear hq
      go_wp2_with fail
      refine hnow.out.mono ?_
      rintro e w2 ⟨rfl, n2, rfl⟩
      go_wp2_with fail
      refine (hdg.out _).mono ?_
      rintro e w3 ⟨rfl, rfl⟩
      have HR4 := Lib.hid (hR.out.drewN n2)
      have HG4 := Lib.hid (grown_trans hG.out (grown_drewN (World.grownBy.refl wr (some r)) n2))
      clear hnow hdg HND
      generalize wr.drewN n2 = w4 at *
      have hcase : (a = a0 ∧ x = (0, false, a, wrongL s a)) ∨ (a0 < a ∧ s.size ≤ a ∧ x = (0, false, a, 10)) ∨ (a0 < a ∧ a < s.size ∧ x = (n, true, a, 0)) := by
        rcases Nat.lt_or_ge a s.size with h2 | h2
        · rw [dif_pos h2, if_pos (by
            rcases Nat.lt_or_ge s[a].toNat 48 with h3 | h3
            · exact .inl h3
            · exact .inr (Nat.lt_of_not_le fun h4 => h1 ⟨h2, h3, h4⟩))] at hst
          by_cases h3 : a = a0
          · rw [if_pos h3] at hst
            exact .inl ⟨h3, by rw [hst, wrongL, if_pos h2]⟩
          · rw [if_neg h3] at hst
            exact .inr (.inr ⟨by omega, h2, hst⟩)
        · rw [dif_neg (by omega)] at hst
          by_cases h3 : a = a0
          · exact .inl ⟨h3, by rw [hst, wrongL, if_neg (by omega)]⟩
          · exact .inr (.inl ⟨by omega, h2, hst⟩)
      clear hst hX h1
      rcases hcase with ⟨h2, h3⟩ | ⟨h2, h3, h4⟩ | ⟨h2, h3, h4⟩
      · obtain ⟨rfl, -⟩ := hT0.out h2
        have HX2 := Lib.hid h3
        have hwr := Lib.hid (wrong_any r s a m 0 w4 HR4.out (by omega) (wrongL s a) (Lib.hid rfl))
        clear h2 h3 hT0 hT1 HQ
        go_wp2_with fail
        refine hwr.out.mono ?_
        rintro e w5 ⟨rfl, hr5, hg5⟩
        have HR5 := Lib.hid hr5
        have HG5 := Lib.hid (grown_trans HG4.out hg5)
        clear hwr hr5 hg5
        go_wp2_with fail
        go_ret
        rw [HX2.out]
        exact ⟨⟨#[]⟩, rfl, HR5.out, HG5.out, fun h => by cases h⟩
      · have hne : t.size ≠ 0 := by
          rw [hT1.out h2]; exact dec_size n
        have p1 := eqNil_no hne
        have p2 := isEmpty_no hne
        have HX2 := Lib.hid h4
        have hq1 : q < 0 := by rw [← HQ.out]; exact (nowL_neg s a).2 (by omega)
        have hnw := Lib.hid (now_any r s a m 0 w4 HR4.out (by omega) q (Lib.hid HQ.out.symm))
        have hw10 : wrongL s a = 10 := by rw [wrongL, if_neg (by omega)]
        have hwr := Lib.hid (fun w1 (h : RdAt w1 r s a m 0) => wrong_any r s a m 0 w1 h (by omega) 10 (Lib.hid hw10.symm))
        clear h2 h3 h4 hT0 hT1 HQ hne hw10
        go_wp2_with fail
        refine hnw.out.mono ?_
        rintro e w5 ⟨rfl, n5, rfl⟩
        have HR5 := Lib.hid (HR4.out.drewN n5)
        have HG5 := Lib.hid (grown_trans HG4.out (grown_drewN (World.grownBy.refl w4 (some r)) n5))
        clear hnw
        generalize w4.drewN n5 = w5 at *
        go_wp2_with fail
        refine (hwr.out _ HR5.out).mono ?_
        rintro e w6 ⟨rfl, hr6, hg6⟩
        have HR6 := Lib.hid hr6
        have HG6 := Lib.hid (grown_trans HG5.out hg6)
        clear hwr hr6 hg6
        go_wp2_with fail
        go_ret
        rw [HX2.out]
        exact ⟨t, rfl, HR6.out, HG6.out, fun h => by cases h⟩
      · have HT := Lib.hid (hT1.out h2)
        have hne : t.size ≠ 0 := by
          rw [HT.out]; exact dec_size n
        have p1 := eqNil_no hne
        have p2 := isEmpty_no hne
        have HX2 := Lib.hid h4
        have hq1 : 0 ≤ q := by
          rw [← HQ.out]
          exact Classical.byContradiction fun h => absurd h3 ((nowL_neg s a).1 (by omega))
        have hnw := Lib.hid (now_any r s a m 0 w4 HR4.out (by omega) q (Lib.hid HQ.out.symm))
        clear h2 h3 h4 hT0 hT1 HQ hne
        go_wp2_with fail
        refine hnw.out.mono ?_
        rintro e w5 ⟨rfl, n5, rfl⟩
        have HR5 := Lib.hid (HR4.out.drewN n5)
        have HG5 := Lib.hid (grown_trans HG4.out (grown_drewN (World.grownBy.refl w4 (some r)) n5))
        clear hnw
        generalize w4.drewN n5 = w5 at *
        go_wp2_with fail
        go_ret
        rw [HX2.out]
        exact ⟨t, rfl, HR5.out, HG5.out, fun _ => HT.out⟩
end Go.Proofs.YtdlnabjledhiiaaDoor
