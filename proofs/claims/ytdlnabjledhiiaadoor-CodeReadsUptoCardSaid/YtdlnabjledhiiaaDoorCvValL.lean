/-
  The walk of code.reader's value: a list.
-/
import Derived.Test.YtdlnabjledhiiaaDoorCvValD
import Derived.Test.YtdlnabjledhiiaaDoorCvApp
import Derived.Deep.LoopGhost
namespace Go.Proofs.YtdlnabjledhiiaaDoor
open Go.RowKit
set_option linter.unusedVariables false

def Stop (p : Prop) : Prop := p
theorem Stop.go {p : Prop} (h : Stop p) : p := h
set_option maxRecDepth 20000 in
set_option maxHeartbeats 4000000 in
theorem value_list (r : Nat) (s : ByteArray) (k : Int) (a m : Nat) (w : World) (h : RdAt w r s a m 0) (hs : s.size ≤ 131072) (h1 : a < s.size) (hb : s[a] = 108) (hk : k < 30) (hk0 : 0 ≤ k) (hm : m < 4000)
    (rd : Nat → Nat → Rd) (hgood : Hid (∀ a m, m ≤ 4000 → Rd.Good s a (rd a m)))
    (IH : Hid (∀ (a m : Nat) (w : World), RdAt w r s a m 0 → a ≤ s.size → m ≤ 4000 → Calls Tryd.prog 33 #[.pointer (some ⟨r, 0, none⟩), .int .i64 (k + 1)] w (ValPost r s w (rd a m))))
    (x : Rd) (hx : Hid (x = rdList rd s (s.size + 1 - (a + 1)) (a + 1) (m + 1) [])) :
    Calls Tryd.prog 33 #[.pointer (some ⟨r, 0, none⟩), .int .i64 k] w (ValPost r s w x) := by
  obtain ⟨i0, hi0, hz0, hz1, hz2⟩ := infoV
  have HI := Lib.hid hi0
  have HZ := Lib.hid (And.intro hz0 (And.intro hz1 hz2))
  have H := Lib.hid h
  have h2 := h.alloc (.cells #[.int .i64 0, .int .i64 0, .string ⟨#[]⟩, .slice none 0 0] 42)
  have c0 := h2.c0
  have c1 := h2.c1
  have c2 := h2.c2
  have f1 := h2.free 1 (by decide)
  have f2 := h2.free 2 (by decide)
  have hmi : (m : Int) < 4000 := by omega
  have hi : (a : Int) < (s.size : Int) := by omega
  have q1 : ((s[a].toNat : Int) != 105) = true := by rw [hb]; rfl
  have q2 : ((s[a].toNat : Int) != 108) = false := by rw [hb]; rfl
  have q3 : ((s[a].toNat : Int) == 105) = false := by rw [hb]; rfl
  have q4 : ((s[a].toNat : Int) == 108) = true := by rw [hb]; rfl
  clear h h2 hb hi0 hz0 hz1 hz2
  go_enter Tryd.func33, Tryd.ntmps33
  go_wp2_with fail
  go_quiet (fail)
  revert nq
  intro nqa
  go_wp2_with fail
  go_quiet (fail)
  revert nq
  intro nqb
  go_wp2_with fail
  have hsz : (w.alloc (.cells #[.int .i64 0, .int .i64 0, .string ⟨#[]⟩, .slice none 0 0] 42)).heap.size = w.heap.size + 1 := by simp
  have HF0 := Lib.hid (Four.new w 42 (.int .i64 0) (.int .i64 0) (.string ⟨#[]⟩) (.slice none 0 0))
  have HG0 : Hid (w.grownBy (w.alloc (.cells #[.int .i64 0, .int .i64 0, .string ⟨#[]⟩, .slice none 0 0] 42)) (some r)) := Lib.hid (World.grownBy_alloc w _ _)
  have HR0 := Lib.hid (H.out.alloc (.cells #[.int .i64 0, .int .i64 0, .string ⟨#[]⟩, .slice none 0 0] 42))
  clear c0 c1 c2 f1 f2
  generalize (w.alloc (.cells #[.int .i64 0, .int .i64 0, .string ⟨#[]⟩, .slice none 0 0] 42)) = w3 at *
  have HG5 : Hid (w.grownBy (((w3.drewN (nqa + nqb)).setCell ⟨r, 2, none⟩ (.int .i64 ((m : Int) + 1))).setCell ⟨r, 1, none⟩ (.int .i64 ((a : Int) + 1))) (some r)) := Lib.hid (grown_trans HG0.out (grown_drew_l (grown_trans (grown_setCell _ _ _ _) (grown_setCell _ _ _ _))))
  have HF5 : Hid (Four (((w3.drewN (nqa + nqb)).setCell ⟨r, 2, none⟩ (.int .i64 ((m : Int) + 1))).setCell ⟨r, 1, none⟩ (.int .i64 ((a : Int) + 1))) w.heap.size 42 (.int .i64 0) (.int .i64 0) (.string ⟨#[]⟩) (.slice none 0 0)) := Lib.hid ((HF0.out.drewN _).kept (grown_trans (grown_setCell _ _ _ _) (grown_setCell _ _ _ _)) (by have := H.out.lt; simp; omega))
  have HR5 : Hid (RdAt (((w3.drewN (nqa + nqb)).setCell ⟨r, 2, none⟩ (.int .i64 ((m : Int) + 1))).setCell ⟨r, 1, none⟩ (.int .i64 ((a : Int) + 1))) r s ((a + 1 : Nat) : Int) ((m + 1 : Nat) : Int) 0) := Lib.hid (by have := ((HR0.out.drewN (nqa + nqb)).setMany ((m : Int) + 1)).setAt ((a : Int) + 1); rw [Int.natCast_add, Int.natCast_add]; exact this)
  have hsz5 : (((w3.drewN (nqa + nqb)).setCell ⟨r, 2, none⟩ (.int .i64 ((m : Int) + 1))).setCell ⟨r, 1, none⟩ (.int .i64 ((a : Int) + 1))).heap.size = w.heap.size + 1 := by simp; exact hsz
  have hrw : r < w.heap.size := H.out.lt
  clear HG0 HF0 HR0 hsz
  generalize (((w3.drewN (nqa + nqb)).setCell ⟨r, 2, none⟩ (.int .i64 ((m : Int) + 1))).setCell ⟨r, 1, none⟩ (.int .i64 ((a : Int) + 1))) = w5 at *
  have HF6 := Lib.hid (HF5.out.alloc (.cells #[.int .i64 3, .int .i64 0, .string ⟨#[]⟩, .slice none 0 0] 42))
  have HR6 := Lib.hid (HR5.out.alloc (.cells #[.int .i64 3, .int .i64 0, .string ⟨#[]⟩, .slice none 0 0] 42))
  have HB6 : Hid (Four (w5.alloc (.cells #[.int .i64 3, .int .i64 0, .string ⟨#[]⟩, .slice none 0 0] 42)) (w.heap.size + 1) 42 (.int .i64 3) (.int .i64 0) (.string ⟨#[]⟩) (.slice none 0 0)) := Lib.hid (by rw [← hsz5]; exact Four.new w5 _ _ _ _ _)
  have HG6 : Hid (w.grownBy (w5.alloc (.cells #[.int .i64 3, .int .i64 0, .string ⟨#[]⟩, .slice none 0 0] 42)) (some r)) := Lib.hid (grown_trans HG5.out (World.grownBy_alloc _ _ _))
  have hsz6 : (w5.alloc (.cells #[.int .i64 3, .int .i64 0, .string ⟨#[]⟩, .slice none 0 0] 42)).heap.size = w.heap.size + 2 := by simp; omega
  clear HF5 HR5 HG5 hsz5
  generalize (w5.alloc (.cells #[.int .i64 3, .int .i64 0, .string ⟨#[]⟩, .slice none 0 0] 42)) = w6 at *
  have hdd : decide (s.size ≤ a) = false := by simp; omega
  (try simp only [hdd])
  clear hdd
  go_loopg [] (s.size + 1 - (a + 1)) (fun gk wr => ∃ (a' m' : Nat) (acc : List V) (cells : List Value) (va : Option Addr) (vc : Nat), s.size < gk + a' ∧ a' ≤ s.size ∧ m' ≤ 4000 ∧ acc.length ≤ a' ∧ w.heap.size + 2 ≤ wr.heap.size ∧ Hid (RdAt wr r s (a' : Int) (m' : Int) 0) ∧ Hid (Four wr w.heap.size 42 (.int .i64 0) (.int .i64 0) (.string ⟨#[]⟩) (.slice none 0 0))
      ∧ Hid (Four wr (w.heap.size + 1) 42 (.int .i64 3) (.int .i64 0) (.string ⟨#[]⟩) (.slice va acc.length vc)) ∧ Hid (wr.ownsRow (w.heap.size + 2) 42 4 (.slice va acc.length vc) acc.length cells) ∧ Hid (RowOf wr (InRow (w.heap.size + 2) (.slice va acc.length vc) wr) acc cells) ∧ Hid (w.grownBy wr (some r)) ∧ Hid (x = rdList rd s gk a' m' acc))
  case atStart => exact ⟨a + 1, m + 1, [], [], none, 0, by omega, by omega, by omega, Nat.zero_le _, by omega, HR6, HF6, HB6, Lib.hid (World.ownsRow_nil _ _ _ _), Lib.hid .nil, HG6, hx⟩
  case round =>
    obtain ⟨a', m', acc, cells, va, vc, hgk, ha', hm', hacc, hsz, hR, hF, hB, hO, hRow, hG, hX⟩ := hrel
    clear hx
    have d0 := hR.out.c0
    have d1 := hR.out.c1
    have k1 := hR.out.free 1 (by decide)
    have b0' := hF.out.c0
    have b1' := hF.out.c1
    have b2' := hF.out.c2
    have b3' := hF.out.c3
    have g0 := hF.out.free 0
    have g1 := hF.out.free 1
    have g2 := hF.out.free 2
    have g3 := hF.out.free 3
    have e0 := hB.out.c0
    have e1 := hB.out.c1
    have e2 := hB.out.c2
    have e3 := hB.out.c3
    obtain ⟨f, rfl⟩ : ∃ f, gk = f + 1 := ⟨gk - 1, by omega⟩
    have hst := hX.out
    rw [rdList] at hst
    clear hX
    by_cases hend : s.data.toList[a']? = some 101
    · rw [if_pos hend] at hst
      have hlt : a' < s.size := at_some hend
      have hlti : (a' : Int) < (s.size : Int) := by omega
      rw [at_lt hlt] at hend
      have hc : ((s[a'].toNat : Int) != 101) = false := by rw [Option.some.inj hend]; rfl
      have HST := Lib.hid hst
      clear hend hst
      go_wp2_with fail
      go_quiet (fail)
      go_wp2_with fail
      have HF : Hid (Four ((wr.drewN nq).setCell ⟨r, 1, none⟩ (.int .i64 ((a' : Int) + 1))) w.heap.size 42 (.int .i64 0) (.int .i64 0) (.string ⟨#[]⟩) (.slice none 0 0)) := Lib.hid ((hF.out.drewN _).kept (grown_setCell _ _ _ _) (by simp; omega))
      have HR : Hid (RdAt ((wr.drewN nq).setCell ⟨r, 1, none⟩ (.int .i64 ((a' : Int) + 1))) r s ((a' + 1 : Nat) : Int) (m' : Int) 0) := Lib.hid (by rw [Int.natCast_add]; exact (hR.out.drewN _).setAt _)
      have hg9 := grown_drew_l (grown_setCell (wr.drewN nq) r 1 (.int .i64 ((a' : Int) + 1)))
      have HG := Lib.hid (grown_trans hG.out hg9)
      obtain ⟨hO9, hRow9⟩ := row_kept hO.out hRow.out hg9 (by omega)
      have HO := Lib.hid hO9
      have HRow := Lib.hid hRow9
      clear hO9 hRow9 hg9
      generalize ((wr.drewN nq).setCell ⟨r, 1, none⟩ (.int .i64 ((a' : Int) + 1))) = w9 at *
      have HF2 := HF.out.all (.int .i64 3) (.int .i64 0) (.string ⟨#[]⟩) (.slice va acc.length vc)
      have hgf := grown_four w9 w.heap.size (.int .i64 3) (.int .i64 0) (.string ⟨#[]⟩) (.slice va acc.length vc)
      clear b0' b1' b2' b3' g0 g1 g2 g3 d0 d1 k1 e0 e1 e2 e3
      generalize ((((w9.setCell ⟨w.heap.size, 0, none⟩ (.int .i64 3)).setCell ⟨w.heap.size, 1, none⟩ (.int .i64 0)).setCell ⟨w.heap.size, 2, none⟩ (.string ⟨#[]⟩)).setCell ⟨w.heap.size, 3, none⟩ (.slice va acc.length vc)) = w10 at *
      have e0 := HF2.c0
      have e1 := HF2.c1
      have e2 := HF2.c2
      have e3 := HF2.c3
      (try simp only [Exit.inBlock, Exit.then])
      refine bodyPost_ret (v := .tuple #[.agg #[.int .i64 3, .int .i64 0, .string ⟨#[]⟩, .slice va acc.length vc], .bool true]) ?_ rfl ?_
      · rw [results_cell_tmp rfl]; go_simp
      · rw [HST.out]
        obtain ⟨h1, h2⟩ := row_kept HO.out HRow.out hgf (by omega)
        obtain ⟨a1, c1, h3, h4, h5, h6⟩ := own_vals h1 h2
        cases h3
        refine ⟨_, rfl, ?_, HR.out.kept hgf (by simp; omega), grown_fresh HG.out hgf (Nat.le_refl _)⟩
        simp only [V.At]
        exact ⟨va, vc, rfl, h4, h5, VAll.move (fun b (hb : _ ∧ _) => ⟨by omega, hb.2⟩) (fun _ _ => rfl) _ _ _ h6⟩
    · rw [if_neg hend] at hst
      have hcall := IH.out a' m'
      have hgd := hgood.out a' m' hm'
      generalize rd a' m' = y at *
      have HST := Lib.hid hst
      have HC := Lib.hid hcall
      have HGD := Lib.hid hgd
      clear hst hcall hgd
      have hways : ((s.size : Int) ≤ (a' : Int)) ∨ ∃ h : a' < s.size, (a' : Int) < (s.size : Int) ∧ ((s[a'].toNat : Int) != 101) = true := by
        rcases Nat.lt_or_ge a' s.size with h | h
        · refine .inr ⟨h, by omega, ?_⟩
          rw [at_lt h] at hend
          rw [bne_iff_ne]; intro e
          exact hend (congrArg some (UInt8.toNat_inj.1 (by show s[a'].toNat = 101; omega)))
        · exact .inl (by omega)
      clear hend
      rcases hways with hw1 | ⟨hlt, hw1, hw2⟩
      all_goals
        go_wp2_with fail
        go_quiet (fail)
        go_wp2_with fail
        refine (HC.out _ (hR.out.drewN _) ha' hm').mono ?_
        rintro e w1 ⟨cs, rfl, hat, hr1, hg1⟩
        obtain ⟨⟨vk, vn, vs, vl⟩, yok, yat, ym, ybad⟩ := y
        have hat' := hat
        simp only [V.At] at hat
        obtain ⟨xa, xc, rfl, hxl, hxn, hxall⟩ := hat
        clear hxall hxn hxl
        have HAT := Lib.hid hat'
        have hgw := grown_drew_l hg1
        obtain ⟨hO1, hRow1⟩ := row_kept hO.out hRow.out hgw (by omega)
        have HO1 := Lib.hid hO1
        have HRow1 := Lib.hid hRow1
        have HF1 := Lib.hid (hF.out.kept hgw (by simp; omega))
        have HB1 := Lib.hid (hB.out.kept hgw (by simp; omega))
        have HG1 := Lib.hid (grown_trans hG.out hgw)
        have HR1 := Lib.hid hr1
        have hvl := hO.out.lt
        have hvl1 : ∀ k, (Value.slice va acc.length vc).ownBlock = some k → k < wr.heap.size := fun k hk => (hvl k hk).2
        have hsz1 : w.heap.size + 2 ≤ w1.heap.size := Nat.le_trans hsz hg1.size
        have hszw : wr.heap.size ≤ w1.heap.size := hgw.size
        have HVL := Lib.hid hvl1
        clear hat' hgw hO1 hRow1 hr1 hg1 hvl hvl1 b0' b1' b2' b3' g0 g1 g2 g3 d0 d1 k1 e0 e1 e2 e3
        have HF2 := Lib.hid (HF1.out.alloc (.cells #[.int .i64 vk, .int .i64 vn, .string vs, .slice xa vl.length xc] 42))
        have HB2 := Lib.hid (HB1.out.alloc (.cells #[.int .i64 vk, .int .i64 vn, .string vs, .slice xa vl.length xc] 42))
        have HR2 := Lib.hid (HR1.out.alloc (.cells #[.int .i64 vk, .int .i64 vn, .string vs, .slice xa vl.length xc] 42))
        have HG2 := Lib.hid (grown_trans HG1.out (World.grownBy_alloc w1 (.cells #[.int .i64 vk, .int .i64 vn, .string vs, .slice xa vl.length xc] 42) (some r)))
        have HN2 := Lib.hid (Four.new w1 42 (.int .i64 vk) (.int .i64 vn) (.string vs) (.slice xa vl.length xc))
        have b0 := HF2.out.c0
        have b1 := HF2.out.c1
        have b2 := HF2.out.c2
        have b3 := HF2.out.c3
        have g0 := HF2.out.free 0
        have g1 := HF2.out.free 1
        have g2 := HF2.out.free 2
        have g3 := HF2.out.free 3
        have e3 := HB2.out.c3
        have k3 := HB2.out.free 3
        have n0 := HN2.out.c0
        have n1 := HN2.out.c1
        have n2 := HN2.out.c2
        have n3 := HN2.out.c3
        cases yok with
        | false =>
          go_wp2_with fail
          have HST2 : Hid (x = Rd.no yat ym ybad) := Lib.hid (by rw [HST.out]; rfl)
          have HF3 := HF2.out.all (.int .i64 0) (.int .i64 0) (.string ⟨#[]⟩) (.slice none 0 0)
          have hgf := grown_four (w1.alloc (.cells #[.int .i64 vk, .int .i64 vn, .string vs, .slice xa vl.length xc] 42)) w.heap.size (.int .i64 0) (.int .i64 0) (.string ⟨#[]⟩) (.slice none 0 0)
          clear b0 b1 b2 b3 g0 g1 g2 g3 e3 k3 n0 n1 n2 n3
          generalize (w1.alloc (.cells #[.int .i64 vk, .int .i64 vn, .string vs, .slice xa vl.length xc] 42)) = w9 at *
          generalize ((((w9.setCell ⟨w.heap.size, 0, none⟩ (.int .i64 0)).setCell ⟨w.heap.size, 1, none⟩ (.int .i64 0)).setCell ⟨w.heap.size, 2, none⟩ (.string ⟨#[]⟩)).setCell ⟨w.heap.size, 3, none⟩ (.slice none 0 0)) = w10 at *
          have e0 := HF3.c0
          have e1 := HF3.c1
          have e2 := HF3.c2
          have e3 := HF3.c3
          (try simp only [Exit.inBlock, Exit.then])
          refine bodyPost_ret (v := .tuple #[.agg #[.int .i64 0, .int .i64 0, .string ⟨#[]⟩, .slice none 0 0], .bool false]) ?_ rfl ?_
          · rw [results_cell_tmp rfl]; go_simp
          · rw [HST2.out]
            exact ⟨_, rfl, zeroV_at _ _, HR2.out.kept hgf (by simp; omega), grown_fresh HG2.out hgf (Nat.le_refl _)⟩
        | true =>
          obtain ⟨hbad, hyat, hyat2, hym⟩ := HGD.out rfl
          dsimp only at hbad hyat hyat2 hym
          subst hbad
          have h4 : ∀ u ∈ [Value.int .i64 vk, .int .i64 vn, .string vs, .slice xa vl.length xc], u.oneCell' = true := HAT.out.four.2
          have H4 := Lib.hid h4
          have HY := Lib.hid (And.intro hyat (And.intro hyat2 hym))
          clear hyat hyat2 hym h4
          go_wp2_with (at_builtin; refine Stop.go ?_)
          unfold Stop
          refine wpList_app4 _ rfl _ _ 40 rfl (w.heap.size + 2) 42 i0 _ 56 underV HI.out HZ.out.1 HZ.out.2.1 HZ.out.2.2 rfl _ acc.length cells (HO1.out.alloc _) rfl _ _ _ _ _ (w1.heap.size + 1) (by simp) rfl H4.out (by unfold maxLen; omega) (by omega) (by simp; omega) ?_
          intro v3 w3 ho3 hg3 hs3 hob
          generalize hw2 : w1.alloc (.cells #[.int .i64 vk, .int .i64 vn, .string vs, .slice xa vl.length xc] 42) = w2 at *
          have hgw2 : ∀ row, w1.grownBy w2 row := fun row => hw2 ▸ World.grownBy_alloc w1 _ row
          obtain ⟨hO2, hRow2⟩ := row_kept HO1.out HRow1.out (hgw2 (some r)) (by omega)
          have hsz2 := (hgw2 none).size
          have hlt2 := hO2.lt
          have hat2 : V.At w2 (fun b => wr.heap.size ≤ b ∧ b < w2.heap.size) (.mk vk vn vs vl) [.int .i64 vk, .int .i64 vn, .string vs, .slice xa vl.length xc] := V.At.move (fun b (hb : _ ∧ _) => ⟨hb.1, Nat.lt_of_lt_of_le hb.2 hsz2⟩) (fun b (hb : _ ∧ _) => (hgw2 none).block b hb.2 (by simp)) _ _ HAT.out
          have hrow3 : RowOf w3 (InRow (w.heap.size + 2) v3 w3) (acc ++ [.mk vk vn vs vl]) (cells ++ [.int .i64 vk, .int .i64 vn, .string vs, .slice xa vl.length xc]) := row_snoc hO2 hRow2 hat2 hsz HVL.out hg3 (hob.imp id fun e => ⟨_, e, by omega⟩)
          obtain ⟨a3, c3, rfl, -⟩ := own_vals ho3 hrow3
          have hne : ∀ b, b < w.heap.size + 2 → some b ≠ (Value.slice va acc.length vc).ownBlock := fun b hb e => by have := (hlt2 b e.symm).1; omega
          have HF3 := Lib.hid (HF2.out.kept hg3 (hne _ (by omega)))
          have HB3 := Lib.hid (HB2.out.kept hg3 (hne _ (by omega)))
          have HR3 := Lib.hid (HR2.out.kept hg3 (hne _ (by omega)))
          have HG3 := Lib.hid (grown_own HG2.out hg3 (fun b e => by have := (hlt2 b e).1; omega))
          have hlen : (acc ++ [V.mk vk vn vs vl]).length = acc.length + 1 := by simp
          rw [hlen] at ho3 hrow3
          have HO3 := Lib.hid ho3
          have HRow3 := Lib.hid hrow3
          have hsz3 : w.heap.size + 2 ≤ w3.heap.size := by omega
          have HLEN := Lib.hid hlen
          clear b0 b1 b2 b3 g0 g1 g2 g3 e3 k3 n0 n1 n2 n3 ho3 hrow3 hg3 hob hat2 hO2 hRow2 hlt2 hgw2 hw2 hne hs3 hlen
          have e3 := HB3.out.c3
          have k3 := HB3.out.free 3
          go_wp2_with fail
          go_roundg f
          case rel =>
            have hg4 := grown_setCell w3 (w.heap.size + 1) 3 (.slice a3 (acc.length + 1) c3)
            obtain ⟨h5, h6⟩ := row_kept HO3.out HRow3.out hg4 (by omega)
            refine ⟨yat, ym, acc ++ [.mk vk vn vs vl], cells ++ [.int .i64 vk, .int .i64 vn, .string vs, .slice xa vl.length xc], a3, c3, ?_, ?_, ?_, ?_, ?_, Lib.hid (HR3.out.kept hg4 (by simp; omega)), Lib.hid (HF3.out.kept hg4 (by simp)), ?_, ?_, ?_, Lib.hid (grown_fresh HG3.out hg4 (by omega)), ?_⟩
            · have := HY.out; omega
            · exact HY.out.2.1
            · exact HY.out.2.2
            · rw [HLEN.out]; have := HY.out; omega
            · simp; exact hsz3
            · rw [HLEN.out]; exact Lib.hid (HB3.out.set3 _)
            · rw [HLEN.out]; exact Lib.hid h5
            · rw [HLEN.out]; exact Lib.hid h6
            · exact Lib.hid (by rw [HST.out]; rfl)
          case measure => omega
end Go.Proofs.YtdlnabjledhiiaaDoor
