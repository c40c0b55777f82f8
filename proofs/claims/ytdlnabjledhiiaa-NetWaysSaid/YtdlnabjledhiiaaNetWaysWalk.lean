/-
  The walk of the law NetWays: it returns true on all lists of texts; new blocks alone are made.
-/
import Derived.Test.YtdlnabjledhiiaaNetW9
import Derived.Test.YtdlnabjledhiiaaNetW15
import Derived.Test.YtdlnabjledhiiaaNetW19
import Derived.Deep.DeepCutAuto
namespace Go.Proofs.Ytdlnabjledhiiaa
open Go.RowKit
set_option linter.unusedVariables false

set_option maxRecDepth 100000 in
set_option maxHeartbeats 4000000 in
theorem netWays_a (a1 a2 : Option Addr) (N1 N2 c1 c2 R0 R D : Nat) (xs ys : List ByteArray) (i : Int) (w : World) (h1 : Src w (.slice a1 N1 c1) (strs xs)) (h2 : Src w (.slice a2 N2 c2) (strs ys)) (hx : N1 ≤ 400) (hy : N2 ≤ 400)
    (hR : R = roomOf N1 N2) (hR0 : R0 = 300 - N1) (hD : D = N2 - R) :
    Calls Try.prog 3 #[.slice a1 N1 c1, .slice a2 N2 c2, .int .i64 i] w fun e w' => e = .returned (.bool true) ∧ Below w.heap.size w w' := by
  obtain ⟨i0, hi, hz0, hz1, hz2⟩ := info_parts infoStr
  have hN1 : N1 = xs.length := by rw [h1.le.1, strs_length]
  have hN2 : N2 = ys.length := by rw [h2.le.1, strs_length]
  have hRle : R ≤ N2 := by rw [hR]; exact roomOf_le _ _
  have hRm : R = min R0 N2 := by rw [hR, hR0]; rfl
  have hs := Lib.hid (send_any _ _ xs ys w h1 h2 (by omega) (by omega))
  rw [← hN1, ← hN2, ← hR, ← hD] at hs
  have HI := Lib.hid hi
  have HZ := Lib.hid (And.intro hz0 (And.intro hz1 hz2))
  have H1 := Lib.hid h1
  have H2 := Lib.hid h2
  have HT := Lib.hid (h2.take hRle)
  rw [strs_take] at HT
  have HN1 := Lib.hid hN1
  have HN2 := Lib.hid hN2
  have HR := Lib.hid hR
  have HR0 := Lib.hid hR0
  have HD := Lib.hid hD
  have HRM := Lib.hid hRm
  have hR2 : N2 ≤ c2 := h2.le.2
  have HLT : Hid ((strs (ys.take R)).length ≤ 400) := Lib.hid (by rw [strs_length, List.length_take]; omega)
  have HLL : Hid ((xs ++ ys.take R).length ≤ 9223372036854775807) := Lib.hid (by rw [List.length_append, List.length_take]; omega)
  have hx4 : (N1 : Int) ≤ 400 := by omega
  have hy4 : (N2 : Int) ≤ 400 := by omega
  clear hi hz0 hz1 hz2 h1 h2 hN1 hN2 hR hR0 hD hRm
  go_enter Try.func3, Try.ntmps3
  go_upto_if 27 with fail
  go_cut [7] (fun v w' => v = .int .i64 (R0 : Int) ∧ w = w')
  case first =>
    by_cases hh : (300 : Int) - (N1 : Int) < 0
    · have : R0 = 0 := by have := HR0.out; omega
      subst this
      go_wp2_with fail
      go_meet
      exact ⟨rfl, rfl⟩
    · have e : (300 : Int) - (N1 : Int) = (R0 : Int) := by have := HR0.out; omega
      go_wp2_with fail
      go_meet
      exact ⟨rfl, rfl⟩
  case rest =>
    obtain ⟨rfl, rfl⟩ := hcut
    go_upto_if 31 with fail
    go_cut [7] (fun v w' => v = .int .i64 (R : Int) ∧ w = w')
    case first =>
      by_cases hh : (R0 : Int) > (N2 : Int)
      · have e : R = N2 := by have := HRM.out; omega
        subst e
        go_wp2_with fail
        go_meet
        exact ⟨rfl, rfl⟩
      · have e : R0 = R := by have := HRM.out; omega
        subst e
        go_wp2_with fail
        go_meet
        exact ⟨rfl, rfl⟩
    case rest =>
      obtain ⟨rfl, rfl⟩ := hcut
      go_wp2_with fail
      refine hs.out.mono ?_
      rintro e w1 ⟨a3, n3, c3, rfl, hsl3, hb3, hfr3, hnc3⟩
      have HS3 := Lib.hid hsl3
      have HB3 := Lib.hid hb3
      clear hsl3 hb3 hfr3 hnc3
      go_wp2_with fail
      refine wp_region_set (regOf Try.f3 9) [some 40, some 41, some 42, some 43, some 44, some 45, some 46, some 47, some 48, some 49, some 50, some 51, some 52, some 53, some 54, some 55, some 56, some 57]
        (way9T i0 a1 a2 a3 N1 N2 c1 c2 R D n3 c3 xs ys w1) (fun w => Below w1.heap.size w1 w) way9D (by kernel_rfl) (by kernel_rfl) (by kernel_rfl) (by kernel_rfl) (by kernel_rfl) (below_drewN (Below.refl _ _) 1)
        (way9_steps i0 a1 a2 a3 N1 N2 c1 c2 R D n3 c3 xs ys w1 HI.out HZ.out.1 HZ.out.2.1 HZ.out.2.2 (H1.out.keep HB3.out) (HT.out.keep HB3.out) HS3.out hx hy hRle hR2 (by have := HD.out; omega) (by rw [strs_length]; exact HN1.out) HLT.out HLL.out (by kernel_rfl) (by kernel_rfl) (by kernel_rfl) (by kernel_rfl) (by kernel_rfl) (by kernel_rfl)) ?_
      intro vs w2 hn hCw2 hT
      replace hn : vs.length = 18 := hn
      obtain ⟨v0, vs1, rfl, hn1⟩ := len_cons hn
      obtain ⟨v1, vs2, rfl, hn2⟩ := len_cons hn1
      obtain ⟨v2, vs3, rfl, hn3⟩ := len_cons hn2
      obtain ⟨v3, vs4, rfl, hn4⟩ := len_cons hn3
      obtain ⟨v4, vs5, rfl, hn5⟩ := len_cons hn4
      obtain ⟨v5, vs6, rfl, hn6⟩ := len_cons hn5
      obtain ⟨v6, vs7, rfl, hn7⟩ := len_cons hn6
      obtain ⟨v7, vs8, rfl, hn8⟩ := len_cons hn7
      obtain ⟨v8, vs9, rfl, hn9⟩ := len_cons hn8
      obtain ⟨v9, vs10, rfl, hn10⟩ := len_cons hn9
      obtain ⟨v10, vs11, rfl, hn11⟩ := len_cons hn10
      obtain ⟨v11, vs12, rfl, hn12⟩ := len_cons hn11
      obtain ⟨v12, vs13, rfl, hn13⟩ := len_cons hn12
      obtain ⟨v13, vs14, rfl, hn14⟩ := len_cons hn13
      obtain ⟨v14, vs15, rfl, hn15⟩ := len_cons hn14
      obtain ⟨v15, vs16, rfl, hn16⟩ := len_cons hn15
      obtain ⟨v16, vs17, rfl, hn17⟩ := len_cons hn16
      obtain ⟨v17, vs18, rfl, hn18⟩ := len_cons hn17
      obtain rfl := List.eq_nil_of_length_eq_zero hn18
      clear hn hn1 hn2 hn3 hn4 hn5 hn6 hn7 hn8 hn9 hn10 hn11 hn12 hn13 hn14 hn15 hn16 hn17 hn18
      obtain rfl : v0 = .int .i64 (D : Int) := hT 0 v0 rfl (by kernel_rfl)
      obtain rfl : v1 = .slice a2 N2 c2 := hT 1 v1 rfl (by kernel_rfl)
      obtain rfl : v2 = .int .i64 (N2 : Int) := hT 2 v2 rfl (by kernel_rfl)
      obtain rfl : v3 = .int .i64 (R : Int) := hT 3 v3 rfl (by kernel_rfl)
      obtain rfl : v4 = .int .i64 (D : Int) := hT 4 v4 rfl (by kernel_rfl)
      obtain rfl : v5 = .bool false := hT 5 v5 rfl (by kernel_rfl)
      obtain rfl : v6 = .bool false := hT 6 v6 rfl (by kernel_rfl)
      obtain rfl : v7 = .slice a3 n3 c3 := hT 7 v7 rfl (by kernel_rfl)
      obtain rfl : v9 = .slice a1 N1 c1 := hT 9 v9 rfl (by kernel_rfl)
      obtain rfl : v11 = .slice a2 N2 c2 := hT 11 v11 rfl (by kernel_rfl)
      obtain rfl : v12 = .int .i64 (R : Int) := hT 12 v12 rfl (by kernel_rfl)
      obtain rfl : v13 = .slice a2 R c2 := hT 13 v13 rfl (by kernel_rfl)
      have t14 := Lib.hid (hT 14 v14 rfl (by kernel_rfl))
      obtain rfl : v15 = .bool true := hT 15 v15 rfl (by kernel_rfl)
      obtain rfl : v16 = .bool false := hT 16 v16 rfl (by kernel_rfl)
      obtain rfl : v17 = .bool false := hT 17 v17 rfl (by kernel_rfl)
      clear hT
      simp only [puts, Act.put, List.setIfInBounds_toArray, List.set_cons_succ, List.set_cons_zero]
      have HC2 := Lib.hid hCw2
      clear hCw2
      go_wp2_with fail
      clear t14
      have hb2 := Lib.hid (below_then HB3.out HC2.out HB3.out.size)
      clear HC2
      by_cases hb : i < 0 ∨ (N1 : Int) ≤ i
      · have hbad : Hid (i < 0 ∨ (xs.length : Int) ≤ i) := Lib.hid (by rw [← HN1.out]; exact hb)
        refine (take_bad _ xs i w2 (H1.out.keep hb2.out) hbad.out).mono ?_
        rintro e w3 ⟨rfl, rfl⟩
        go_wp2_with fail
        refine (twice_bad _ xs i _ (H1.out.keep hb2.out) hbad.out).mono ?_
        rintro e w3 ⟨rfl, rfl⟩
        have hal := Lib.hid (fun W => alive_any W)
        have hB := Lib.hid (fun W (h : Below w3.heap.size w3 W) => below_then hb2.out h hb2.out.size)
        by_cases h0 : i < 0
        · go_wp2_with fail
          refine (hal.out _).mono ?_
          rintro e w4 ⟨rfl, hb4⟩
          have HB4 := Lib.hid (hB.out _ hb4)
          clear hb4
          go_wp2_with fail
          go_ret
          exact ⟨rfl, HB4.out⟩
        · have h1 : (N1 : Int) ≤ i := by omega
          go_wp2_with fail
          refine (hal.out _).mono ?_
          rintro e w4 ⟨rfl, hb4⟩
          have HB4 := Lib.hid (hB.out _ hb4)
          clear hb4
          go_wp2_with fail
          go_ret
          exact ⟨rfl, HB4.out⟩
      · obtain ⟨k, rfl⟩ : ∃ k : Nat, i = (k : Int) := ⟨i.toNat, by omega⟩
        have hkN : k < N1 := by omega
        have HKX : Hid (k < xs.length) := Lib.hid (by rw [← HN1.out]; exact hkN)
        have hki : (k : Int) < (N1 : Int) := by omega
        refine (take_any _ xs k w2 (H1.out.keep hb2.out) HKX.out (by have := HN1.out; omega)).mono ?_
        rintro e w3 ⟨a4, n4, c4, rfl, hsl4, hb4, -, -⟩
        have HS4 := Lib.hid hsl4
        have HB4 := Lib.hid hb4
        have hb3 := Lib.hid (below_then hb2.out hb4 hb2.out.size)
        obtain ⟨ad, hadr, hcell⟩ := H1.out.at HKX.out
        subst hadr
        have HCELL := Lib.hid hcell
        have hHX : ∃ t, t = xs[k]'HKX.out := ⟨_, rfl⟩
        obtain ⟨t, htx⟩ := hHX
        have HTX := Lib.hid htx
        rw [← htx] at HCELL ⊢
        clear hsl4 hb4 hcell htx hb
        have K1 := Lib.hid (H1.out.take (m := k) (by omega))
        have K2 := Lib.hid (H1.out.drop (m := k + 1) (by omega))
        rw [strs_take] at K1
        have hde : (strs xs).drop (k + 1) = strs (xs.drop (k + 1)) := by simp [strs]
        rw [hde] at K2
        clear hde
        obtain ⟨S, hSS⟩ : ∃ S : Value, S = .slice (if c1 = k + 1 then some ad else some (ad.add (k + 1))) (N1 - (k + 1)) (c1 - (k + 1)) := ⟨_, rfl⟩
        rw [← hSS] at K2
        have HSS := Lib.hid hSS
        clear hSS
        have Hus : Hid ((xs.take k).length = k) := Lib.hid (by rw [List.length_take]; have := HKX.out; omega)
        have Hvs : Hid ((xs.drop (k + 1)).length ≤ 400) := Lib.hid (by rw [List.length_drop]; have := HN1.out; omega)
        have Hzl : Hid ((xs.take k ++ xs.drop (k + 1)).length ≤ 9223372036854775807) := Lib.hid (by rw [List.length_append, List.length_drop, List.length_take]; have := HN1.out; omega)
        have Hzl2 : Hid ((xs ++ [t]).length ≤ 9223372036854775807) := Lib.hid (by rw [List.length_append]; have := HN1.out; simp; omega)
        have hNc : N1 ≤ c1 := H1.out.le.2
        by_cases hfull : 300 ≤ N1
        · have hfi : (300 : Int) ≤ (N1 : Int) := by omega
          go_wp2_with fail
          refine (twice_full _ xs k _ (H1.out.keep hb3.out) HKX.out (by have := HN1.out; omega)).mono ?_
          rintro e w5 ⟨rfl, rfl⟩
          go_wp2_with fail
          refine wp_region_set (regOf Try.f3 15) [some 103, some 104, some 105, some 106, some 107, some 108, some 109, some 110, some 111, some 112, some 113, some 114, some 115, some 116, some 117, some 118, some 119, some 120, some 121, some 122, some 123, some 124, some 125, some 126, some 127]
            (way15T i0 ad a4 N1 k c1 n4 c4 t S xs (xs.take k ++ xs.drop (k + 1)) (xs.take k) (xs.drop (k + 1)) w5) (fun w => Below w5.heap.size w5 w) way15D (by kernel_rfl) (by kernel_rfl) (by kernel_rfl) (by kernel_rfl) (by kernel_rfl) (below_drewN (Below.refl _ _) 1)
            (way15_steps i0 ad a4 N1 k c1 n4 c4 t S xs (xs.take k ++ xs.drop (k + 1)) (xs.take k) (xs.drop (k + 1)) w5 HI.out HZ.out.1 HZ.out.2.1 HZ.out.2.2 (K1.out.keep hb3.out) (K2.out.keep hb3.out) (cell_keep hb3.out HCELL.out) hkN hNc hx HSS.out Hus.out Hvs.out rfl HS4.out Hzl.out (by kernel_rfl) (by kernel_rfl) (by kernel_rfl) (by kernel_rfl) (by kernel_rfl) (by kernel_rfl)) ?_
          intro vs w6 hn hCw6 hT
          replace hn : vs.length = 25 := hn
          obtain ⟨v0, vs1, rfl, hn1⟩ := len_cons hn
          obtain ⟨v1, vs2, rfl, hn2⟩ := len_cons hn1
          obtain ⟨v2, vs3, rfl, hn3⟩ := len_cons hn2
          obtain ⟨v3, vs4, rfl, hn4⟩ := len_cons hn3
          obtain ⟨v4, vs5, rfl, hn5⟩ := len_cons hn4
          obtain ⟨v5, vs6, rfl, hn6⟩ := len_cons hn5
          obtain ⟨v6, vs7, rfl, hn7⟩ := len_cons hn6
          obtain ⟨v7, vs8, rfl, hn8⟩ := len_cons hn7
          obtain ⟨v8, vs9, rfl, hn9⟩ := len_cons hn8
          obtain ⟨v9, vs10, rfl, hn10⟩ := len_cons hn9
          obtain ⟨v10, vs11, rfl, hn11⟩ := len_cons hn10
          obtain ⟨v11, vs12, rfl, hn12⟩ := len_cons hn11
          obtain ⟨v12, vs13, rfl, hn13⟩ := len_cons hn12
          obtain ⟨v13, vs14, rfl, hn14⟩ := len_cons hn13
          obtain ⟨v14, vs15, rfl, hn15⟩ := len_cons hn14
          obtain ⟨v15, vs16, rfl, hn16⟩ := len_cons hn15
          obtain ⟨v16, vs17, rfl, hn17⟩ := len_cons hn16
          obtain ⟨v17, vs18, rfl, hn18⟩ := len_cons hn17
          obtain ⟨v18, vs19, rfl, hn19⟩ := len_cons hn18
          obtain ⟨v19, vs20, rfl, hn20⟩ := len_cons hn19
          obtain ⟨v20, vs21, rfl, hn21⟩ := len_cons hn20
          obtain ⟨v21, vs22, rfl, hn22⟩ := len_cons hn21
          obtain ⟨v22, vs23, rfl, hn23⟩ := len_cons hn22
          obtain ⟨v23, vs24, rfl, hn24⟩ := len_cons hn23
          obtain ⟨v24, vs25, rfl, hn25⟩ := len_cons hn24
          obtain rfl := List.eq_nil_of_length_eq_zero hn25
          clear hn hn1 hn2 hn3 hn4 hn5 hn6 hn7 hn8 hn9 hn10 hn11 hn12 hn13 hn14 hn15 hn16 hn17 hn18 hn19 hn20 hn21 hn22 hn23 hn24 hn25
          obtain rfl : v0 = .int .i64 0 := hT 0 v0 rfl (by kernel_rfl)
          obtain rfl : v1 = .bool false := hT 1 v1 rfl (by kernel_rfl)
          obtain rfl : v2 = .bool false := hT 2 v2 rfl (by kernel_rfl)
          obtain rfl : v3 = .string t := hT 3 v3 rfl (by kernel_rfl)
          obtain rfl : v4 = .slice (some ad) N1 c1 := hT 4 v4 rfl (by kernel_rfl)
          obtain rfl : v5 = .int .i64 (k : Int) := hT 5 v5 rfl (by kernel_rfl)
          obtain rfl : v6 = .pointer (some (ad.add k)) := hT 6 v6 rfl (by kernel_rfl)
          obtain rfl : v7 = .string t := hT 7 v7 rfl (by kernel_rfl)
          obtain rfl : v8 = .bool false := hT 8 v8 rfl (by kernel_rfl)
          obtain rfl : v9 = .bool false := hT 9 v9 rfl (by kernel_rfl)
          obtain rfl : v10 = .bool false := hT 10 v10 rfl (by kernel_rfl)
          obtain rfl : v11 = .slice a4 n4 c4 := hT 11 v11 rfl (by kernel_rfl)
          obtain rfl : v13 = .slice (some ad) N1 c1 := hT 13 v13 rfl (by kernel_rfl)
          obtain rfl : v14 = .int .i64 (k : Int) := hT 14 v14 rfl (by kernel_rfl)
          obtain rfl : v15 = .slice (some ad) k c1 := hT 15 v15 rfl (by kernel_rfl)
          obtain rfl : v17 = .slice (some ad) N1 c1 := hT 17 v17 rfl (by kernel_rfl)
          obtain rfl : v18 = .int .i64 (k : Int) := hT 18 v18 rfl (by kernel_rfl)
          obtain rfl : v19 = .int .i64 ((k : Int) + 1) := hT 19 v19 rfl (by kernel_rfl)
          obtain rfl : v20 = S := hT 20 v20 rfl (by kernel_rfl)
          have t21 := Lib.hid (hT 21 v21 rfl (by kernel_rfl))
          obtain rfl : v22 = .bool true := hT 22 v22 rfl (by kernel_rfl)
          obtain rfl : v23 = .bool false := hT 23 v23 rfl (by kernel_rfl)
          obtain rfl : v24 = .bool false := hT 24 v24 rfl (by kernel_rfl)
          clear hT
          simp only [puts, Act.put, List.setIfInBounds_toArray, List.set_cons_succ, List.set_cons_zero]
          have HC6 := Lib.hid (below_then hb3.out hCw6 hb3.out.size)
          have H56 := Lib.hid hCw6
          clear hCw6 t21
          go_wp2_with fail
          refine (alive_any _).mono ?_
          rintro e w6 ⟨rfl, hb6⟩
          have HB6 := Lib.hid (below_then HC6.out hb6 HC6.out.size)
          clear hb6
          go_wp2_with fail
          go_ret
          exact ⟨rfl, HB6.out⟩
        · have hnf : (N1 : Int) < 300 := by omega
          go_wp2_with fail
          refine (twice_any _ xs k _ (H1.out.keep hb3.out) HKX.out (by have := HN1.out; omega)).mono ?_
          rintro e w5 ⟨a5, n5, c5, rfl, hsl5, hb5, -, -⟩
          rw [← HTX.out] at hsl5
          have HS5 := Lib.hid hsl5
          have HB5 := Lib.hid hb5
          have hb5w := Lib.hid (below_then hb3.out hb5 hb3.out.size)
          clear hsl5 hb5
          go_wp2_with fail
          refine wp_region_set (regOf Try.f3 15) [some 103, some 104, some 105, some 106, some 107, some 108, some 109, some 110, some 111, some 112, some 113, some 114, some 115, some 116, some 117, some 118, some 119, some 120, some 121, some 122, some 123, some 124, some 125, some 126, some 127]
            (way15T i0 ad a4 N1 k c1 n4 c4 t S xs (xs.take k ++ xs.drop (k + 1)) (xs.take k) (xs.drop (k + 1)) w5) (fun w => Below w5.heap.size w5 w) way15D (by kernel_rfl) (by kernel_rfl) (by kernel_rfl) (by kernel_rfl) (by kernel_rfl) (below_drewN (Below.refl _ _) 1)
            (way15_steps i0 ad a4 N1 k c1 n4 c4 t S xs (xs.take k ++ xs.drop (k + 1)) (xs.take k) (xs.drop (k + 1)) w5 HI.out HZ.out.1 HZ.out.2.1 HZ.out.2.2 (K1.out.keep hb5w.out) (K2.out.keep hb5w.out) (cell_keep hb5w.out HCELL.out) hkN hNc hx HSS.out Hus.out Hvs.out rfl (HS4.out.keep HB5.out) Hzl.out (by kernel_rfl) (by kernel_rfl) (by kernel_rfl) (by kernel_rfl) (by kernel_rfl) (by kernel_rfl)) ?_
          intro vs w6 hn hCw6 hT
          replace hn : vs.length = 25 := hn
          obtain ⟨v0, vs1, rfl, hn1⟩ := len_cons hn
          obtain ⟨v1, vs2, rfl, hn2⟩ := len_cons hn1
          obtain ⟨v2, vs3, rfl, hn3⟩ := len_cons hn2
          obtain ⟨v3, vs4, rfl, hn4⟩ := len_cons hn3
          obtain ⟨v4, vs5, rfl, hn5⟩ := len_cons hn4
          obtain ⟨v5, vs6, rfl, hn6⟩ := len_cons hn5
          obtain ⟨v6, vs7, rfl, hn7⟩ := len_cons hn6
          obtain ⟨v7, vs8, rfl, hn8⟩ := len_cons hn7
          obtain ⟨v8, vs9, rfl, hn9⟩ := len_cons hn8
          obtain ⟨v9, vs10, rfl, hn10⟩ := len_cons hn9
          obtain ⟨v10, vs11, rfl, hn11⟩ := len_cons hn10
          obtain ⟨v11, vs12, rfl, hn12⟩ := len_cons hn11
          obtain ⟨v12, vs13, rfl, hn13⟩ := len_cons hn12
          obtain ⟨v13, vs14, rfl, hn14⟩ := len_cons hn13
          obtain ⟨v14, vs15, rfl, hn15⟩ := len_cons hn14
          obtain ⟨v15, vs16, rfl, hn16⟩ := len_cons hn15
          obtain ⟨v16, vs17, rfl, hn17⟩ := len_cons hn16
          obtain ⟨v17, vs18, rfl, hn18⟩ := len_cons hn17
          obtain ⟨v18, vs19, rfl, hn19⟩ := len_cons hn18
          obtain ⟨v19, vs20, rfl, hn20⟩ := len_cons hn19
          obtain ⟨v20, vs21, rfl, hn21⟩ := len_cons hn20
          obtain ⟨v21, vs22, rfl, hn22⟩ := len_cons hn21
          obtain ⟨v22, vs23, rfl, hn23⟩ := len_cons hn22
          obtain ⟨v23, vs24, rfl, hn24⟩ := len_cons hn23
          obtain ⟨v24, vs25, rfl, hn25⟩ := len_cons hn24
          obtain rfl := List.eq_nil_of_length_eq_zero hn25
          clear hn hn1 hn2 hn3 hn4 hn5 hn6 hn7 hn8 hn9 hn10 hn11 hn12 hn13 hn14 hn15 hn16 hn17 hn18 hn19 hn20 hn21 hn22 hn23 hn24 hn25
          obtain rfl : v0 = .int .i64 0 := hT 0 v0 rfl (by kernel_rfl)
          obtain rfl : v1 = .bool false := hT 1 v1 rfl (by kernel_rfl)
          obtain rfl : v2 = .bool false := hT 2 v2 rfl (by kernel_rfl)
          obtain rfl : v3 = .string t := hT 3 v3 rfl (by kernel_rfl)
          obtain rfl : v4 = .slice (some ad) N1 c1 := hT 4 v4 rfl (by kernel_rfl)
          obtain rfl : v5 = .int .i64 (k : Int) := hT 5 v5 rfl (by kernel_rfl)
          obtain rfl : v6 = .pointer (some (ad.add k)) := hT 6 v6 rfl (by kernel_rfl)
          obtain rfl : v7 = .string t := hT 7 v7 rfl (by kernel_rfl)
          obtain rfl : v8 = .bool false := hT 8 v8 rfl (by kernel_rfl)
          obtain rfl : v9 = .bool false := hT 9 v9 rfl (by kernel_rfl)
          obtain rfl : v10 = .bool false := hT 10 v10 rfl (by kernel_rfl)
          obtain rfl : v11 = .slice a4 n4 c4 := hT 11 v11 rfl (by kernel_rfl)
          obtain rfl : v13 = .slice (some ad) N1 c1 := hT 13 v13 rfl (by kernel_rfl)
          obtain rfl : v14 = .int .i64 (k : Int) := hT 14 v14 rfl (by kernel_rfl)
          obtain rfl : v15 = .slice (some ad) k c1 := hT 15 v15 rfl (by kernel_rfl)
          obtain rfl : v17 = .slice (some ad) N1 c1 := hT 17 v17 rfl (by kernel_rfl)
          obtain rfl : v18 = .int .i64 (k : Int) := hT 18 v18 rfl (by kernel_rfl)
          obtain rfl : v19 = .int .i64 ((k : Int) + 1) := hT 19 v19 rfl (by kernel_rfl)
          obtain rfl : v20 = S := hT 20 v20 rfl (by kernel_rfl)
          have t21 := Lib.hid (hT 21 v21 rfl (by kernel_rfl))
          obtain rfl : v22 = .bool true := hT 22 v22 rfl (by kernel_rfl)
          obtain rfl : v23 = .bool false := hT 23 v23 rfl (by kernel_rfl)
          obtain rfl : v24 = .bool false := hT 24 v24 rfl (by kernel_rfl)
          clear hT
          simp only [puts, Act.put, List.setIfInBounds_toArray, List.set_cons_succ, List.set_cons_zero]
          have HC6 := Lib.hid (below_then hb5w.out hCw6 hb5w.out.size)
          have H56 := Lib.hid hCw6
          clear hCw6 t21
          go_wp2_with fail
          refine wp_region_set (regOf Try.f3 19) [some 141, some 142, some 143, some 144, some 145, some 146, some 147, some 148, some 149, some 150, some 151, some 152, some 153, some 154, some 155, some 156, some 157, some 158, some 6]
            (way19T i0 ad a5 N1 k c1 n5 c5 t .nilIface xs (xs ++ [t]) xs [] w6) (fun w => Below w6.heap.size w6 w) way19D (by kernel_rfl) (by kernel_rfl) (by kernel_rfl) (by kernel_rfl) (by kernel_rfl) (below_drewN (Below.refl _ _) 1)
            (way19_steps i0 ad a5 N1 k c1 n5 c5 t .nilIface xs (xs ++ [t]) xs [] w6 HI.out HZ.out.1 HZ.out.2.1 HZ.out.2.2 (H1.out.keep HC6.out) (cell_keep HC6.out HCELL.out) hkN hx HN1.out.symm rfl (HS5.out.keep H56.out) Hzl2.out (by kernel_rfl) (by kernel_rfl) (by kernel_rfl) (by kernel_rfl) (by kernel_rfl)) ?_
          intro vs w7 hn hCw7 hT
          replace hn : vs.length = 19 := hn
          obtain ⟨x0, vs1, rfl, hn1⟩ := len_cons hn
          obtain ⟨x1, vs2, rfl, hn2⟩ := len_cons hn1
          obtain ⟨x2, vs3, rfl, hn3⟩ := len_cons hn2
          obtain ⟨x3, vs4, rfl, hn4⟩ := len_cons hn3
          obtain ⟨x4, vs5, rfl, hn5⟩ := len_cons hn4
          obtain ⟨x5, vs6, rfl, hn6⟩ := len_cons hn5
          obtain ⟨x6, vs7, rfl, hn7⟩ := len_cons hn6
          obtain ⟨x7, vs8, rfl, hn8⟩ := len_cons hn7
          obtain ⟨x8, vs9, rfl, hn9⟩ := len_cons hn8
          obtain ⟨x9, vs10, rfl, hn10⟩ := len_cons hn9
          obtain ⟨x10, vs11, rfl, hn11⟩ := len_cons hn10
          obtain ⟨x11, vs12, rfl, hn12⟩ := len_cons hn11
          obtain ⟨x12, vs13, rfl, hn13⟩ := len_cons hn12
          obtain ⟨x13, vs14, rfl, hn14⟩ := len_cons hn13
          obtain ⟨x14, vs15, rfl, hn15⟩ := len_cons hn14
          obtain ⟨x15, vs16, rfl, hn16⟩ := len_cons hn15
          obtain ⟨x16, vs17, rfl, hn17⟩ := len_cons hn16
          obtain ⟨x17, vs18, rfl, hn18⟩ := len_cons hn17
          obtain ⟨x18, vs19, rfl, hn19⟩ := len_cons hn18
          obtain rfl := List.eq_nil_of_length_eq_zero hn19
          clear hn hn1 hn2 hn3 hn4 hn5 hn6 hn7 hn8 hn9 hn10 hn11 hn12 hn13 hn14 hn15 hn16 hn17 hn18 hn19
          obtain rfl : x0 = .bool true := hT 0 x0 rfl (by kernel_rfl)
          obtain rfl : x1 = .bool true := hT 1 x1 rfl (by kernel_rfl)
          obtain rfl : x2 = .int .i64 0 := hT 2 x2 rfl (by kernel_rfl)
          obtain rfl : x3 = .bool true := hT 3 x3 rfl (by kernel_rfl)
          obtain rfl : x4 = .bool true := hT 4 x4 rfl (by kernel_rfl)
          obtain rfl : x5 = .bool true := hT 5 x5 rfl (by kernel_rfl)
          obtain rfl : x6 = .slice a5 n5 c5 := hT 6 x6 rfl (by kernel_rfl)
          obtain rfl : x8 = .slice (some ad) N1 c1 := hT 8 x8 rfl (by kernel_rfl)
          obtain rfl : x10 = .slice (some ad) N1 c1 := hT 10 x10 rfl (by kernel_rfl)
          obtain rfl : x11 = .int .i64 (k : Int) := hT 11 x11 rfl (by kernel_rfl)
          obtain rfl : x12 = .pointer (some (ad.add k)) := hT 12 x12 rfl (by kernel_rfl)
          obtain rfl : x13 = .string t := hT 13 x13 rfl (by kernel_rfl)
          have t15 := Lib.hid (hT 15 x15 rfl (by kernel_rfl))
          obtain rfl : x16 = .bool true := hT 16 x16 rfl (by kernel_rfl)
          obtain rfl : x17 = .bool true := hT 17 x17 rfl (by kernel_rfl)
          obtain rfl : x18 = .bool true := hT 18 x18 rfl (by kernel_rfl)
          clear hT
          simp only [puts, Act.put, List.setIfInBounds_toArray, List.set_cons_succ, List.set_cons_zero]
          have HC7 := Lib.hid (below_then HC6.out hCw7 HC6.out.size)
          clear hCw7
          go_wp2_with fail
          go_ret
          exact ⟨rfl, HC7.out⟩

set_option maxRecDepth 100000 in
set_option maxHeartbeats 1000000 in
theorem netWays_long (a1 a2 : Option Addr) (N1 N2 c1 c2 : Nat) (i : Int) (w : World) (h : 400 < N1 ∨ (N1 ≤ 400 ∧ 400 < N2)) :
    Calls Try.prog 3 #[.slice a1 N1 c1, .slice a2 N2 c2, .int .i64 i] w fun e w' => e = .returned (.bool true) ∧ Below w.heap.size w w' := by
  rcases h with h | ⟨h, h'⟩
  · have h1 : (400 : Int) < (N1 : Int) := by omega
    go_enter Try.func3, Try.ntmps3
    go_wp2_with fail
    go_ret
    exact ⟨rfl, Below.refl _ _⟩
  · have h1 : (N1 : Int) ≤ 400 := by omega
    have h2 : (400 : Int) < (N2 : Int) := by omega
    go_enter Try.func3, Try.ntmps3
    go_wp2_with fail
    go_ret
    exact ⟨rfl, Below.refl _ _⟩

theorem netWays_walk (a1 : Option Addr) (N1 c1 : Nat) (xs : List ByteArray) (a2 : Option Addr) (N2 c2 : Nat) (ys : List ByteArray) (i : Int) (w : World) (h1 : IsStrs w a1 N1 c1 xs) (h2 : IsStrs w a2 N2 c2 ys) (hw : (Lit.int .i64 i).wf = true) :
    Calls Try.prog 3 #[.slice a1 N1 c1, .slice a2 N2 c2, .int .i64 i] w fun e w' => e = .returned (.bool true) ∧ Below w.heap.size w w' := by
  by_cases h : 400 < N1 ∨ (N1 ≤ 400 ∧ 400 < N2)
  · exact netWays_long a1 a2 N1 N2 c1 c2 i w h
  · exact netWays_a a1 a2 N1 N2 c1 c2 _ _ _ _ _ i w (Src.ofStrs h1) (Src.ofStrs h2) (by omega) (by omega) rfl rfl rfl
end Go.Proofs.Ytdlnabjledhiiaa
