/-
  The walk of hornbookref01's number. (Written by wip/mkrfnum.py.)
-/
import Derived.Test.YtdlnabjledhiiaaDoorRfDig
import Derived.Test.YtdlnabjledhiiaaDoorCvVal
import Derived.Test.YtdlnabjledhiiaaDoorDbBytes
import Derived.Lib.AtoiErrMem
namespace Go.Proofs.YtdlnabjledhiiaaDoor
open Go.RowKit
set_option linter.unusedVariables false

theorem results_cell_one {fn : Func} {p : Tmp} {ty : TypeId} (h : fn.results = #[.cell p ty]) (tmps : Array Value) (P : Program) (w : World) :
    (results fn tmps).run P w = ((asAddr (tmps.getD p undef)).run P w).andThen fun a w₁ => (loadVar ty a).run P w₁ := by
  simp only [results, h]
  simp [Sem.run_bind, Result.andThen]
/-- What ref01's reader leaves: where it is well, just that value. -/
def RfPost (r : Nat) (s : ByteArray) (w : World) (x : Rd) (e : Ending) (w' : World) : Prop :=
  ∃ cs : List Value, e = .returned (.agg cs.toArray) ∧ (∃ y : V, V.At w' (fun b => w.heap.size ≤ b ∧ b < w'.heap.size) y cs ∧ (x.ok = true → y = x.v)) ∧ RdAt w' r s (x.at_ : Int) (x.many : Int) x.bad ∧ w.grownBy w' (some r)
set_option maxHeartbeats 1000000 in
/-- take, where something is wrong. -/
theorem take_bad (r : Nat) (s : ByteArray) (a m b : Int) (c : Int) (w : World) (h : RdAt w r s a m b) (hb : b ≠ 0) :
    Calls Tryd.prog 72 #[.pointer (some ⟨r, 0, none⟩), .int .i64 c] w fun e w' => e = .returned (.tuple #[]) ∧ w' = w := by
  have c3 := h.c3
  have q1 : (b != 0) = true := by simpa using hb
  have q2 : (b == 0) = false := by simpa using hb
  clear h hb
  go_enter Tryd.func72, Tryd.ntmps72
  go_wp2_with fail
  (try simp only [Exit.inBlock, Exit.then])
  refine bodyPost_ret (v := .tuple #[]) (results_none rfl _ _ _) rfl ?_
  exact ⟨rfl, rfl⟩
theorem most_false : (⟨#[57, 50, 50, 51, 51, 55, 50, 48, 51, 54, 56, 53, 52, 55, 55, 53, 56, 48, 55]⟩ : ByteArray) = ⟨(Lib.decDigits 9223372036854775807).toArray⟩ := by
  rw [show Lib.decDigits 9223372036854775807 = [57, 50, 50, 51, 51, 55, 50, 48, 51, 54, 56, 53, 52, 55, 55, 53, 56, 48, 55] by simp [Lib.decDigits]]
theorem most_true : (⟨#[57, 50, 50, 51, 51, 55, 50, 48, 51, 54, 56, 53, 52, 55, 55, 53, 56, 48, 56]⟩ : ByteArray) = ⟨(Lib.decDigits 9223372036854775808).toArray⟩ := by
  rw [show Lib.decDigits 9223372036854775808 = [57, 50, 50, 51, 51, 55, 50, 48, 51, 54, 56, 53, 52, 55, 55, 53, 56, 48, 56] by simp [Lib.decDigits]]
theorem numTail_ok (s : ByteArray) (M : Nat) (mi : Bool) (A : Nat) (h1 : (digitsL s M A (s.size + 1 - A) 0 A).2.1 = true) (h2 : (mustL s (digitsL s M A (s.size + 1 - A) 0 A).2.2.1 101).1 = true) :
    numTail s M mi A = ((if mi = true then -((digitsL s M A (s.size + 1 - A) 0 A).1 : Int) else ((digitsL s M A (s.size + 1 - A) 0 A).1 : Int)), true, (mustL s (digitsL s M A (s.size + 1 - A) 0 A).2.2.1 101).2.1, 0) := by unfold numTail; rw [if_pos h1, if_pos h2]
theorem numTail_must (s : ByteArray) (M : Nat) (mi : Bool) (A : Nat) (h1 : (digitsL s M A (s.size + 1 - A) 0 A).2.1 = true) (h2 : (mustL s (digitsL s M A (s.size + 1 - A) 0 A).2.2.1 101).1 ≠ true) :
    numTail s M mi A = (0, false, (mustL s (digitsL s M A (s.size + 1 - A) 0 A).2.2.1 101).2.1, (mustL s (digitsL s M A (s.size + 1 - A) 0 A).2.2.1 101).2.2) := by unfold numTail; rw [if_pos h1, if_neg h2]
theorem numTail_dig (s : ByteArray) (M : Nat) (mi : Bool) (A : Nat) (h1 : (digitsL s M A (s.size + 1 - A) 0 A).2.1 ≠ true) :
    numTail s M mi A = (0, false, (digitsL s M A (s.size + 1 - A) 0 A).2.2.1, (digitsL s M A (s.size + 1 - A) 0 A).2.2.2) := by unfold numTail; rw [if_neg h1]
theorem dec_app (l : List UInt8) (N : Nat) : ((⟨l.toArray⟩ : ByteArray) ++ ⟨(Lib.decDigits N).toArray⟩) = ⟨(l ++ Lib.decDigits N).toArray⟩ := by
  apply ByteArray.ext
  simp
theorem sg_false (N : Nat) (h : N ≤ 9223372036854775807) : Lib.parseIntB 64 (((⟨#[]⟩ : ByteArray) ++ ⟨(Lib.decDigits N).toArray⟩).data.toList) = .ok (N : Int) := by
  rw [show ((⟨#[]⟩ : ByteArray) ++ ⟨(Lib.decDigits N).toArray⟩) = ⟨([] ++ Lib.decDigits N).toArray⟩ from dec_app [] N, Lib.parseIntB_64]
  exact atoi_dec N h
theorem sg_true (N : Nat) (h : N ≤ 9223372036854775808) : Lib.parseIntB 64 (((⟨#[45]⟩ : ByteArray) ++ ⟨(Lib.decDigits N).toArray⟩).data.toList) = .ok (-(N : Int)) := by
  rw [show ((⟨#[45]⟩ : ByteArray) ++ ⟨(Lib.decDigits N).toArray⟩) = ⟨([45] ++ Lib.decDigits N).toArray⟩ from dec_app [45] N, Lib.parseIntB_64]
  exact atoi_neg N h
theorem sg_size_false (N : Nat) (h : N ≤ 9223372036854775807) : ((⟨#[]⟩ : ByteArray) ++ ⟨(Lib.decDigits N).toArray⟩).size ≤ 9223372036854775806 := by
  rw [ByteArray.size_append]
  have := dec_len N (by omega)
  show 0 + (Lib.decDigits N).toArray.size ≤ _
  rw [List.size_toArray]
  omega
theorem sg_size_true (N : Nat) (h : N ≤ 9223372036854775808) : ((⟨#[45]⟩ : ByteArray) ++ ⟨(Lib.decDigits N).toArray⟩).size ≤ 9223372036854775806 := by
  rw [ByteArray.size_append]
  have := dec_len N (by omega)
  show 1 + (Lib.decDigits N).toArray.size ≤ _
  rw [List.size_toArray]
  omega
set_option maxRecDepth 20000 in
set_option maxHeartbeats 1000000 in
theorem rnumber_any (r : Nat) (s : ByteArray) (a m : Nat) (w : World) (h : RdAt w r s a m 0) (hs : s.size ≤ 131072) (ha : a < s.size) (x : Rd) (hx : Hid (x = rdNumber s (a + 1) m)) :
    Calls Tryd.prog 58 #[.pointer (some ⟨r, 0, none⟩)] w (RfPost r s w x) := by
  have hrlt := h.lt
  have HRLT := Lib.hid h.lt
  have h2 := h.alloc (.cells #[.int .i64 0, .int .i64 0, .string ⟨#[]⟩, .slice none 0 0] 42)
  have c1 := h2.c1
  have f1 := h2.free 1 (by decide)
  have HR3 : Hid (RdAt ((w.setCell ⟨r, 1, none⟩ (.int .i64 ((a : Int) + 1))).alloc (.cells #[.int .i64 0, .int .i64 0, .string ⟨#[]⟩, .slice none 0 0] 42)) r s ((a + 1 : Nat) : Int) m 0) := Lib.hid (by rw [Int.natCast_add]; exact (h.setAt _).alloc _)
  have hsz : (w.setCell ⟨r, 1, none⟩ (.int .i64 ((a : Int) + 1))).heap.size = w.heap.size := by simp
  have HF3 : Hid (Four ((w.setCell ⟨r, 1, none⟩ (.int .i64 ((a : Int) + 1))).alloc (.cells #[.int .i64 0, .int .i64 0, .string ⟨#[]⟩, .slice none 0 0] 42)) w.heap.size 42 (.int .i64 0) (.int .i64 0) (.string ⟨#[]⟩) (.slice none 0 0)) := Lib.hid (by have := Four.new (w.setCell ⟨r, 1, none⟩ (.int .i64 ((a : Int) + 1))) 42 (.int .i64 0) (.int .i64 0) (.string ⟨#[]⟩) (.slice none 0 0); rwa [hsz] at this)
  have HG3 := Lib.hid (grown_trans (grown_setCell w r 1 (.int .i64 ((a : Int) + 1))) (World.grownBy_alloc _ (.cells #[.int .i64 0, .int .i64 0, .string ⟨#[]⟩, .slice none 0 0] 42) (some r)))
  have hai : (a : Int) < 131072 := by omega
  clear h h2 hsz
  go_enter Tryd.func58, Tryd.ntmps58
  go_wp2_with fail
  clear c1 f1
  generalize (w.setCell ⟨r, 1, none⟩ (.int .i64 ((a : Int) + 1))).alloc (.cells #[.int .i64 0, .int .i64 0, .string ⟨#[]⟩, .slice none 0 0] 42) = w3 at *
  obtain ⟨A, hAe⟩ : ∃ A, A = a + 1 := ⟨_, rfl⟩
  have hAs : A ≤ s.size := by omega
  rw [← hAe] at HR3 hx
  clear hAe
  have hnow := Lib.hid (now_any r s A m 0 w3 HR3.out (by omega) (nowL s A) (Lib.hid rfl))
  have hxn := hx.out
  unfold rdNumber numberL at hxn
  by_cases h1 : s.data.toList[A]? = some 45
  · have hlt := at_some h1
    rw [if_pos h1] at hxn
    have HQ : nowL s A = 45 := by
      rw [nowL, dif_pos hlt]
      have := at_of h1 hlt
      rw [this]; rfl
    rw [HQ] at hnow
    have d1 := HR3.out.c1
    have k1 := HR3.out.free 1 (by decide)
    have hai2 : (A : Int) < 131073 := by omega
    have HXN := Lib.hid hxn
    clear HQ h1 hxn hx
    go_wp2_with fail
    refine hnow.out.mono ?_
    rintro e w4 ⟨rfl, n4, rfl⟩
    have HR4a := HR3.out.drewN n4
    have HF4a : Four (w3.drewN n4) w.heap.size 42 (.int .i64 0) (.int .i64 0) (.string ⟨#[]⟩) (.slice none 0 0) := HF3.out.drewN n4
    have HG4a := grown_trans HG3.out (grown_drewN (World.grownBy.refl w3 (some r)) n4)
    clear hnow HR3 HF3 HG3 d1 k1
    generalize w3.drewN n4 = w4 at *
    have d1 := HR4a.c1
    have k1 := HR4a.free 1 (by decide)
    have HR5 : Hid (RdAt (w4.setCell ⟨r, 1, none⟩ (.int .i64 ((A : Int) + 1))) r s ((A + 1 : Nat) : Int) m 0) := Lib.hid (by rw [Int.natCast_add]; exact HR4a.setAt _)
    have HF5 := Lib.hid (HF4a.kept (grown_setCell w4 r 1 (.int .i64 ((A : Int) + 1))) (by simp; omega))
    have HG5 := Lib.hid (grown_trans HG4a (grown_setCell w4 r 1 (.int .i64 ((A : Int) + 1))))
    have hai3 : (A : Int) + 1 < 131074 := by omega
    clear HR4a HF4a HG4a
    go_wp2_with fail
    clear d1 k1
    generalize w4.setCell ⟨r, 1, none⟩ (.int .i64 ((A : Int) + 1)) = w5 at *
    obtain ⟨A2, hAe2⟩ : ∃ A2, A2 = A + 1 := ⟨_, rfl⟩
    have hAs2 : A2 ≤ s.size := by omega
    rw [← hAe2] at HR5 HXN
    clear hAe2
    have hnow2 := Lib.hid (now_any r s A2 m 0 w5 HR5.out (by omega) (nowL s A2) (Lib.hid rfl))
    have hxn := HXN.out
    by_cases h1 : s.data.toList[A2]? = some 48
    · have hlt2 := at_some h1
      have HX : Hid (x = ⟨.mk 1 0 ⟨#[]⟩ [], false, A2, m, 11⟩) := Lib.hid (by rw [hxn, if_pos h1])
      have HQ : nowL s A2 = 48 := by
        rw [nowL, dif_pos hlt2]
        have := at_of h1 hlt2
        rw [this]; rfl
      rw [HQ] at hnow2
      clear HQ h1 hxn HXN
      refine hnow2.out.mono ?_
      rintro e w6 ⟨rfl, n6, rfl⟩
      have HR6a := HR5.out.drewN n6
      have HF6a : Four (w5.drewN n6) w.heap.size 42 (.int .i64 0) (.int .i64 0) (.string ⟨#[]⟩) (.slice none 0 0) := HF5.out.drewN n6
      have HG6a := grown_trans HG5.out (grown_drewN (World.grownBy.refl w5 (some r)) n6)
      clear hnow2 HR5 HF5 HG5
      generalize w5.drewN n6 = w6a at *
      have d3 := HR6a.c3
      have k3 := HR6a.free 3 (by decide)
      have HR6 := Lib.hid (HR6a.setBad 11)
      have HF6 := Lib.hid (HF6a.kept (grown_setCell w6a r 3 (.int .i64 11)) (by simp; omega))
      have HG6 := Lib.hid (grown_trans HG6a (grown_setCell w6a r 3 (.int .i64 11)))
      clear HR6a HF6a HG6a
      have b0 := HF6.out.c0
      have b1 := HF6.out.c1
      have b2 := HF6.out.c2
      have b3 := HF6.out.c3
      have g0 := HF6.out.free 0
      have g1 := HF6.out.free 1
      have g2 := HF6.out.free 2
      have g3 := HF6.out.free 3
      go_wp2_with fail
      have HF9 := HF6.out.all (.int .i64 0) (.int .i64 0) (.string ⟨#[]⟩) (.slice none 0 0)
      have hgf := grown_four (w6a.setCell ⟨r, 3, none⟩ (.int .i64 11)) w.heap.size (.int .i64 0) (.int .i64 0) (.string ⟨#[]⟩) (.slice none 0 0)
      clear b0 b1 b2 b3 g0 g1 g2 g3 d3 k3
      generalize (((((w6a.setCell ⟨r, 3, none⟩ (.int .i64 11)).setCell ⟨w.heap.size, 0, none⟩ (.int .i64 0)).setCell ⟨w.heap.size, 1, none⟩ (.int .i64 0)).setCell ⟨w.heap.size, 2, none⟩ (.string ⟨#[]⟩)).setCell ⟨w.heap.size, 3, none⟩ (.slice none 0 0)) = w10 at *
      have e0 := HF9.c0
      have e1 := HF9.c1
      have e2 := HF9.c2
      have e3 := HF9.c3
      (try simp only [Exit.inBlock, Exit.then])
      refine bodyPost_ret (v := .agg #[.int .i64 0, .int .i64 0, .string ⟨#[]⟩, .slice none 0 0]) ?_ rfl ?_
      · rw [results_cell_one rfl]; go_simp
      · rw [HX.out]
        exact ⟨_, rfl, ⟨zeroV, zeroV_at _ _, fun h => by cases h⟩, HR6.out.kept hgf (by have := HR6.out.lt; have := HRLT.out; simp; omega), grown_fresh HG6.out hgf (Nat.le_refl _)⟩
    · rw [if_neg h1] at hxn
      have hxt := Lib.hid hxn
      have hne : (nowL s A2 == 48) = false := by
        rw [beq_eq_false_iff_ne, nowL]
        split
        · rename_i h2
          intro e
          exact h1 (by rw [at_lt h2]; exact congrArg some (UInt8.toNat_inj.1 (show s[A2].toNat = 48 by omega)))
        · decide
      generalize nowL s A2 = q2 at *
      clear hxn HXN h1
      refine hnow2.out.mono ?_
      rintro e w6 ⟨rfl, n6, rfl⟩
      have HR4 := Lib.hid (HR5.out.drewN n6)
      have HF4 : Hid (Four (w5.drewN n6) w.heap.size 42 (.int .i64 0) (.int .i64 0) (.string ⟨#[]⟩) (.slice none 0 0)) := Lib.hid (HF5.out.drewN n6)
      have HG4 := Lib.hid (grown_trans HG5.out (grown_drewN (World.grownBy.refl w5 (some r)) n6))
      clear hnow2 HR5 HF5 HG5
      generalize w5.drewN n6 = w4a at *
      have HD := Lib.hid (rdigits_any r s (A2) m _ 9223372036854775808 _ HR4.out hs (by omega) (by decide) (Lib.hid most_true) (digitsL s 9223372036854775808 (A2) (s.size + 1 - (A2)) 0 (A2)) (Lib.hid rfl))
      have hdok := digitsL_ok s 9223372036854775808 (A2) (by decide) (s.size + 1 - (A2)) 0 (A2) (Nat.le_refl _) (Nat.zero_le _)
      have hdno := digitsL_no s 9223372036854775808 (A2) (s.size + 1 - (A2)) 0 (A2) (by omega)
      have hst := hxt.out
      have hA := numTail_ok s 9223372036854775808 true (A2)
      have hB := numTail_must s 9223372036854775808 true (A2)
      have hC := numTail_dig s 9223372036854775808 true (A2)
      generalize numTail s 9223372036854775808 true (A2) = q at *
      generalize digitsL s 9223372036854775808 (A2) (s.size + 1 - (A2)) 0 (A2) = y at *
      obtain ⟨N, ok, at1, bad1⟩ := y
      dsimp only at hdok hdno hA hB hC HD
      have HOK := Lib.hid hdok
      have HNO := Lib.hid hdno
      have HA := Lib.hid hA
      have HB := Lib.hid hB
      have HC := Lib.hid hC
      have HST := Lib.hid hst
      clear hxt hdok hdno hA hB hC hst 
      go_wp2_with fail
      refine HD.out.mono ?_
      rintro e w5 ⟨t, rfl, hr5, hg5, ht⟩
      (try dsimp only at hr5 ht)
      have HR5 := Lib.hid hr5
      have HG5 := Lib.hid (grown_trans HG4.out hg5)
      have HF5 := Lib.hid (HF4.out.kept hg5 (by have := HR4.out.lt; simp; omega))
      have HT := Lib.hid ht
      clear HD hr5 hg5 HR4 HG4 HF4 ht
      by_cases hy : ok = true
      · subst hy
        obtain ⟨hb0, hN, hlt, hsz⟩ := HOK.out rfl
        have hT := HT.out rfl
        subst hT
        subst hb0
        have HTK := Lib.hid (take_any r s at1 m 101 w5 HR5.out (by omega) (mustL s at1 101) (Lib.hid rfl))
        have hmok := mustL_ok s at1 101
        have hmno := mustL_no s at1 101 (by omega)
        generalize mustL s at1 101 = z at *
        obtain ⟨zok, at2, bad2⟩ := z
        dsimp only at hmok hmno HTK
        have HA2 := Lib.hid (HA.out rfl)
        have HB2 := Lib.hid (HB.out rfl)
        have HMO := Lib.hid hmok
        have HMN := Lib.hid hmno
        have HN := Lib.hid hN
        clear hmok hmno hN HA HB HC HOK HNO HT
        go_wp2_with fail
        refine HTK.out.mono ?_
        rintro e w6 ⟨rfl, hr6, hg6⟩
        have HR6 := Lib.hid hr6
        have HG6 := Lib.hid (grown_trans HG5.out hg6)
        have HF6 := Lib.hid (HF5.out.kept hg6 (by have := HR5.out.lt; simp; omega))
        clear HTK hr6 hg6 HG5 HF5
        cases zok with
        | true =>
          obtain rfl := HMO.out rfl
          have d3 := HR6.out.c3
          have HP := Lib.hid (Tryd.strconv_ParseInt_10_at64_ok (((⟨#[45]⟩ : ByteArray) ++ ⟨(Lib.decDigits N).toArray⟩)) (sg_size_true N HN.out) (-(N : Int)) (sg_true N HN.out) w6)
          have HX : Hid (x = ⟨.mk 1 (-(N : Int)) ⟨#[]⟩ [], true, at2, m, 0⟩) := Lib.hid (by rw [HST.out, HA2.out rfl]; rfl)
          have hsl : (Lib.decDigits N).length ≤ 19 := dec_len N (Nat.lt_of_le_of_lt HN.out (by decide))
          clear HST HMO HMN HA2 HB2
          go_wp2_with fail
          refine HP.out.mono ?_
          rintro e w7 ⟨rfl, hw7⟩
          have hb7 : Below w6.heap.size w6 w7 := by
            rcases hw7 with rfl | ⟨tt, rfl⟩
            · exact Below.refl _ _
            · exact Lib.bytesWorld_below _ _ _
          have HR7 := Lib.hid (HR6.out.kept (grown_of_below hb7 none) (by simp))
          have HG7 := Lib.hid (grown_trans HG6.out (grown_of_below hb7 (some r)))
          have HF7 := Lib.hid (HF6.out.kept (grown_of_below hb7 none) (by simp))
          clear HP hw7 hb7 HR6 HG6 HF6 d3
          have b0 := HF7.out.c0
          have b1 := HF7.out.c1
          have b2 := HF7.out.c2
          have b3 := HF7.out.c3
          have g0 := HF7.out.free 0
          have g1 := HF7.out.free 1
          have g2 := HF7.out.free 2
          have g3 := HF7.out.free 3
          go_wp2_with fail
          have HF9 := HF7.out.all (.int .i64 1) (.int .i64 (-(N : Int))) (.string ⟨#[]⟩) (.slice none 0 0)
          have hgf := grown_four w7 w.heap.size (.int .i64 1) (.int .i64 (-(N : Int))) (.string ⟨#[]⟩) (.slice none 0 0)
          clear b0 b1 b2 b3 g0 g1 g2 g3 
          generalize ((((w7.setCell ⟨w.heap.size, 0, none⟩ (.int .i64 1)).setCell ⟨w.heap.size, 1, none⟩ (.int .i64 (-(N : Int)))).setCell ⟨w.heap.size, 2, none⟩ (.string ⟨#[]⟩)).setCell ⟨w.heap.size, 3, none⟩ (.slice none 0 0)) = w10 at *
          have e0 := HF9.c0
          have e1 := HF9.c1
          have e2 := HF9.c2
          have e3 := HF9.c3
          (try simp only [Exit.inBlock, Exit.then])
          refine bodyPost_ret (v := .agg #[.int .i64 1, .int .i64 (-(N : Int)), .string ⟨#[]⟩, .slice none 0 0]) ?_ rfl ?_
          · rw [results_cell_one rfl]; go_simp
          · rw [HX.out]
            exact ⟨_, rfl, ⟨.mk 1 (-(N : Int)) ⟨#[]⟩ [], by simp only [V.At]; exact ⟨none, 0, rfl, Nat.le_refl _, fun _ => rfl, by simp only [VAll]⟩, fun _ => rfl⟩, HR7.out.kept hgf (by have := HR7.out.lt; have := HRLT.out; simp; omega), grown_fresh HG7.out hgf (Nat.le_refl _)⟩
        | false =>
          have hb2 := HMN.out.2 (by simp)
          have q1 : (bad2 != 0) = true := by simpa using hb2
          have q2 : (bad2 == 0) = false := by simpa using hb2
          have d3 := HR6.out.c3
          have HX : Hid (x = ⟨.mk 1 0 ⟨#[]⟩ [], false, at2, m, bad2⟩) := Lib.hid (by rw [HST.out, HB2.out (by simp)])
          clear HST HMO HMN HA2 HB2 hb2
          have b0 := HF6.out.c0
          have b1 := HF6.out.c1
          have b2 := HF6.out.c2
          have b3 := HF6.out.c3
          have g0 := HF6.out.free 0
          have g1 := HF6.out.free 1
          have g2 := HF6.out.free 2
          have g3 := HF6.out.free 3
          go_wp2_with fail
          have HF9 := HF6.out.all (.int .i64 0) (.int .i64 0) (.string ⟨#[]⟩) (.slice none 0 0)
          have hgf := grown_four w6 w.heap.size (.int .i64 0) (.int .i64 0) (.string ⟨#[]⟩) (.slice none 0 0)
          clear b0 b1 b2 b3 g0 g1 g2 g3 d3
          generalize ((((w6.setCell ⟨w.heap.size, 0, none⟩ (.int .i64 0)).setCell ⟨w.heap.size, 1, none⟩ (.int .i64 0)).setCell ⟨w.heap.size, 2, none⟩ (.string ⟨#[]⟩)).setCell ⟨w.heap.size, 3, none⟩ (.slice none 0 0)) = w10 at *
          have e0 := HF9.c0
          have e1 := HF9.c1
          have e2 := HF9.c2
          have e3 := HF9.c3
          (try simp only [Exit.inBlock, Exit.then])
          refine bodyPost_ret (v := .agg #[.int .i64 0, .int .i64 0, .string ⟨#[]⟩, .slice none 0 0]) ?_ rfl ?_
          · rw [results_cell_one rfl]; go_simp
          · rw [HX.out]
            exact ⟨_, rfl, ⟨zeroV, zeroV_at _ _, fun h => by cases h⟩, HR6.out.kept hgf (by have := HR6.out.lt; have := HRLT.out; simp; omega), grown_fresh HG6.out hgf (Nat.le_refl _)⟩
      · have hb1 := HNO.out.2 hy
        have q1 : (bad1 != 0) = true := by simpa using hb1
        have q2 : (bad1 == 0) = false := by simpa using hb1
        have HTK := Lib.hid (take_bad r s (at1 : Int) m bad1 101 w5 HR5.out hb1)
        have d3 := HR5.out.c3
        have HX : Hid (x = ⟨.mk 1 0 ⟨#[]⟩ [], false, at1, m, bad1⟩) := Lib.hid (by rw [HST.out, HC.out hy])
        clear HST HOK HNO hb1 hy HT HA HB HC
        go_wp2_with fail
        refine HTK.out.mono ?_
        rintro e w6 ⟨rfl, rfl⟩
        clear HTK
        have b0 := HF5.out.c0
        have b1 := HF5.out.c1
        have b2 := HF5.out.c2
        have b3 := HF5.out.c3
        have g0 := HF5.out.free 0
        have g1 := HF5.out.free 1
        have g2 := HF5.out.free 2
        have g3 := HF5.out.free 3
        go_wp2_with fail
        have HF9 := HF5.out.all (.int .i64 0) (.int .i64 0) (.string ⟨#[]⟩) (.slice none 0 0)
        have hgf := grown_four w6 w.heap.size (.int .i64 0) (.int .i64 0) (.string ⟨#[]⟩) (.slice none 0 0)
        clear b0 b1 b2 b3 g0 g1 g2 g3 d3
        generalize ((((w6.setCell ⟨w.heap.size, 0, none⟩ (.int .i64 0)).setCell ⟨w.heap.size, 1, none⟩ (.int .i64 0)).setCell ⟨w.heap.size, 2, none⟩ (.string ⟨#[]⟩)).setCell ⟨w.heap.size, 3, none⟩ (.slice none 0 0)) = w10 at *
        have e0 := HF9.c0
        have e1 := HF9.c1
        have e2 := HF9.c2
        have e3 := HF9.c3
        (try simp only [Exit.inBlock, Exit.then])
        refine bodyPost_ret (v := .agg #[.int .i64 0, .int .i64 0, .string ⟨#[]⟩, .slice none 0 0]) ?_ rfl ?_
        · rw [results_cell_one rfl]; go_simp
        · rw [HX.out]
          exact ⟨_, rfl, ⟨zeroV, zeroV_at _ _, fun h => by cases h⟩, HR5.out.kept hgf (by have := HR5.out.lt; have := HRLT.out; simp; omega), grown_fresh HG5.out hgf (Nat.le_refl _)⟩
  · rw [if_neg h1] at hxn
    have hne : (nowL s A == 45) = false := by
      rw [beq_eq_false_iff_ne, nowL]
      split
      · rename_i h2
        intro e
        exact h1 (by rw [at_lt h2]; exact congrArg some (UInt8.toNat_inj.1 (show s[A].toNat = 45 by omega)))
      · decide
    have hxt := Lib.hid hxn
    generalize nowL s A = q at *
    clear hxn hx h1
    go_wp2_with fail
    refine hnow.out.mono ?_
    rintro e w4 ⟨rfl, n4, rfl⟩
    have HR4 := Lib.hid (HR3.out.drewN n4)
    have HF4 : Hid (Four (w3.drewN n4) w.heap.size 42 (.int .i64 0) (.int .i64 0) (.string ⟨#[]⟩) (.slice none 0 0)) := Lib.hid (HF3.out.drewN n4)
    have HG4 := Lib.hid (grown_trans HG3.out (grown_drewN (World.grownBy.refl w3 (some r)) n4))
    clear hnow HR3 HF3 HG3
    generalize w3.drewN n4 = w4 at *
    have HD := Lib.hid (rdigits_any r s (A) m _ 9223372036854775807 _ HR4.out hs (by omega) (by decide) (Lib.hid most_false) (digitsL s 9223372036854775807 (A) (s.size + 1 - (A)) 0 (A)) (Lib.hid rfl))
    have hdok := digitsL_ok s 9223372036854775807 (A) (by decide) (s.size + 1 - (A)) 0 (A) (Nat.le_refl _) (Nat.zero_le _)
    have hdno := digitsL_no s 9223372036854775807 (A) (s.size + 1 - (A)) 0 (A) (by omega)
    have hst := hxt.out
    have hA := numTail_ok s 9223372036854775807 false (A)
    have hB := numTail_must s 9223372036854775807 false (A)
    have hC := numTail_dig s 9223372036854775807 false (A)
    generalize numTail s 9223372036854775807 false (A) = q at *
    generalize digitsL s 9223372036854775807 (A) (s.size + 1 - (A)) 0 (A) = y at *
    obtain ⟨N, ok, at1, bad1⟩ := y
    dsimp only at hdok hdno hA hB hC HD
    have HOK := Lib.hid hdok
    have HNO := Lib.hid hdno
    have HA := Lib.hid hA
    have HB := Lib.hid hB
    have HC := Lib.hid hC
    have HST := Lib.hid hst
    clear hxt hdok hdno hA hB hC hst 
    go_wp2_with fail
    refine HD.out.mono ?_
    rintro e w5 ⟨t, rfl, hr5, hg5, ht⟩
    (try dsimp only at hr5 ht)
    have HR5 := Lib.hid hr5
    have HG5 := Lib.hid (grown_trans HG4.out hg5)
    have HF5 := Lib.hid (HF4.out.kept hg5 (by have := HR4.out.lt; simp; omega))
    have HT := Lib.hid ht
    clear HD hr5 hg5 HR4 HG4 HF4 ht
    by_cases hy : ok = true
    · subst hy
      obtain ⟨hb0, hN, hlt, hsz⟩ := HOK.out rfl
      have hT := HT.out rfl
      subst hT
      subst hb0
      have HTK := Lib.hid (take_any r s at1 m 101 w5 HR5.out (by omega) (mustL s at1 101) (Lib.hid rfl))
      have hmok := mustL_ok s at1 101
      have hmno := mustL_no s at1 101 (by omega)
      generalize mustL s at1 101 = z at *
      obtain ⟨zok, at2, bad2⟩ := z
      dsimp only at hmok hmno HTK
      have HA2 := Lib.hid (HA.out rfl)
      have HB2 := Lib.hid (HB.out rfl)
      have HMO := Lib.hid hmok
      have HMN := Lib.hid hmno
      have HN := Lib.hid hN
      clear hmok hmno hN HA HB HC HOK HNO HT
      go_wp2_with fail
      refine HTK.out.mono ?_
      rintro e w6 ⟨rfl, hr6, hg6⟩
      have HR6 := Lib.hid hr6
      have HG6 := Lib.hid (grown_trans HG5.out hg6)
      have HF6 := Lib.hid (HF5.out.kept hg6 (by have := HR5.out.lt; simp; omega))
      clear HTK hr6 hg6 HG5 HF5
      cases zok with
      | true =>
        obtain rfl := HMO.out rfl
        have d3 := HR6.out.c3
        have HP := Lib.hid (Tryd.strconv_ParseInt_10_at64_ok (((⟨#[]⟩ : ByteArray) ++ ⟨(Lib.decDigits N).toArray⟩)) (sg_size_false N HN.out) ((N : Int)) (sg_false N HN.out) w6)
        have HX : Hid (x = ⟨.mk 1 ((N : Int)) ⟨#[]⟩ [], true, at2, m, 0⟩) := Lib.hid (by rw [HST.out, HA2.out rfl]; rfl)
        have hsl : (Lib.decDigits N).length ≤ 19 := dec_len N (Nat.lt_of_le_of_lt HN.out (by decide))
        clear HST HMO HMN HA2 HB2
        go_wp2_with fail
        refine HP.out.mono ?_
        rintro e w7 ⟨rfl, hw7⟩
        have hb7 : Below w6.heap.size w6 w7 := by
          rcases hw7 with rfl | ⟨tt, rfl⟩
          · exact Below.refl _ _
          · exact Lib.bytesWorld_below _ _ _
        have HR7 := Lib.hid (HR6.out.kept (grown_of_below hb7 none) (by simp))
        have HG7 := Lib.hid (grown_trans HG6.out (grown_of_below hb7 (some r)))
        have HF7 := Lib.hid (HF6.out.kept (grown_of_below hb7 none) (by simp))
        clear HP hw7 hb7 HR6 HG6 HF6 d3
        have b0 := HF7.out.c0
        have b1 := HF7.out.c1
        have b2 := HF7.out.c2
        have b3 := HF7.out.c3
        have g0 := HF7.out.free 0
        have g1 := HF7.out.free 1
        have g2 := HF7.out.free 2
        have g3 := HF7.out.free 3
        go_wp2_with fail
        have HF9 := HF7.out.all (.int .i64 1) (.int .i64 ((N : Int))) (.string ⟨#[]⟩) (.slice none 0 0)
        have hgf := grown_four w7 w.heap.size (.int .i64 1) (.int .i64 ((N : Int))) (.string ⟨#[]⟩) (.slice none 0 0)
        clear b0 b1 b2 b3 g0 g1 g2 g3 
        generalize ((((w7.setCell ⟨w.heap.size, 0, none⟩ (.int .i64 1)).setCell ⟨w.heap.size, 1, none⟩ (.int .i64 ((N : Int)))).setCell ⟨w.heap.size, 2, none⟩ (.string ⟨#[]⟩)).setCell ⟨w.heap.size, 3, none⟩ (.slice none 0 0)) = w10 at *
        have e0 := HF9.c0
        have e1 := HF9.c1
        have e2 := HF9.c2
        have e3 := HF9.c3
        (try simp only [Exit.inBlock, Exit.then])
        refine bodyPost_ret (v := .agg #[.int .i64 1, .int .i64 ((N : Int)), .string ⟨#[]⟩, .slice none 0 0]) ?_ rfl ?_
        · rw [results_cell_one rfl]; go_simp
        · rw [HX.out]
          exact ⟨_, rfl, ⟨.mk 1 ((N : Int)) ⟨#[]⟩ [], by simp only [V.At]; exact ⟨none, 0, rfl, Nat.le_refl _, fun _ => rfl, by simp only [VAll]⟩, fun _ => rfl⟩, HR7.out.kept hgf (by have := HR7.out.lt; have := HRLT.out; simp; omega), grown_fresh HG7.out hgf (Nat.le_refl _)⟩
      | false =>
        have hb2 := HMN.out.2 (by simp)
        have q1 : (bad2 != 0) = true := by simpa using hb2
        have q2 : (bad2 == 0) = false := by simpa using hb2
        have d3 := HR6.out.c3
        have HX : Hid (x = ⟨.mk 1 0 ⟨#[]⟩ [], false, at2, m, bad2⟩) := Lib.hid (by rw [HST.out, HB2.out (by simp)])
        clear HST HMO HMN HA2 HB2 hb2
        have b0 := HF6.out.c0
        have b1 := HF6.out.c1
        have b2 := HF6.out.c2
        have b3 := HF6.out.c3
        have g0 := HF6.out.free 0
        have g1 := HF6.out.free 1
        have g2 := HF6.out.free 2
        have g3 := HF6.out.free 3
        go_wp2_with fail
        have HF9 := HF6.out.all (.int .i64 0) (.int .i64 0) (.string ⟨#[]⟩) (.slice none 0 0)
        have hgf := grown_four w6 w.heap.size (.int .i64 0) (.int .i64 0) (.string ⟨#[]⟩) (.slice none 0 0)
        clear b0 b1 b2 b3 g0 g1 g2 g3 d3
        generalize ((((w6.setCell ⟨w.heap.size, 0, none⟩ (.int .i64 0)).setCell ⟨w.heap.size, 1, none⟩ (.int .i64 0)).setCell ⟨w.heap.size, 2, none⟩ (.string ⟨#[]⟩)).setCell ⟨w.heap.size, 3, none⟩ (.slice none 0 0)) = w10 at *
        have e0 := HF9.c0
        have e1 := HF9.c1
        have e2 := HF9.c2
        have e3 := HF9.c3
        (try simp only [Exit.inBlock, Exit.then])
        refine bodyPost_ret (v := .agg #[.int .i64 0, .int .i64 0, .string ⟨#[]⟩, .slice none 0 0]) ?_ rfl ?_
        · rw [results_cell_one rfl]; go_simp
        · rw [HX.out]
          exact ⟨_, rfl, ⟨zeroV, zeroV_at _ _, fun h => by cases h⟩, HR6.out.kept hgf (by have := HR6.out.lt; have := HRLT.out; simp; omega), grown_fresh HG6.out hgf (Nat.le_refl _)⟩
    · have hb1 := HNO.out.2 hy
      have q1 : (bad1 != 0) = true := by simpa using hb1
      have q2 : (bad1 == 0) = false := by simpa using hb1
      have HTK := Lib.hid (take_bad r s (at1 : Int) m bad1 101 w5 HR5.out hb1)
      have d3 := HR5.out.c3
      have HX : Hid (x = ⟨.mk 1 0 ⟨#[]⟩ [], false, at1, m, bad1⟩) := Lib.hid (by rw [HST.out, HC.out hy])
      clear HST HOK HNO hb1 hy HT HA HB HC
      go_wp2_with fail
      refine HTK.out.mono ?_
      rintro e w6 ⟨rfl, rfl⟩
      clear HTK
      have b0 := HF5.out.c0
      have b1 := HF5.out.c1
      have b2 := HF5.out.c2
      have b3 := HF5.out.c3
      have g0 := HF5.out.free 0
      have g1 := HF5.out.free 1
      have g2 := HF5.out.free 2
      have g3 := HF5.out.free 3
      go_wp2_with fail
      have HF9 := HF5.out.all (.int .i64 0) (.int .i64 0) (.string ⟨#[]⟩) (.slice none 0 0)
      have hgf := grown_four w6 w.heap.size (.int .i64 0) (.int .i64 0) (.string ⟨#[]⟩) (.slice none 0 0)
      clear b0 b1 b2 b3 g0 g1 g2 g3 d3
      generalize ((((w6.setCell ⟨w.heap.size, 0, none⟩ (.int .i64 0)).setCell ⟨w.heap.size, 1, none⟩ (.int .i64 0)).setCell ⟨w.heap.size, 2, none⟩ (.string ⟨#[]⟩)).setCell ⟨w.heap.size, 3, none⟩ (.slice none 0 0)) = w10 at *
      have e0 := HF9.c0
      have e1 := HF9.c1
      have e2 := HF9.c2
      have e3 := HF9.c3
      (try simp only [Exit.inBlock, Exit.then])
      refine bodyPost_ret (v := .agg #[.int .i64 0, .int .i64 0, .string ⟨#[]⟩, .slice none 0 0]) ?_ rfl ?_
      · rw [results_cell_one rfl]; go_simp
      · rw [HX.out]
        exact ⟨_, rfl, ⟨zeroV, zeroV_at _ _, fun h => by cases h⟩, HR5.out.kept hgf (by have := HR5.out.lt; have := HRLT.out; simp; omega), grown_fresh HG5.out hgf (Nat.le_refl _)⟩
end Go.Proofs.YtdlnabjledhiiaaDoor
