/-
  The walk of hornbookref01's value as a whole, and of its Get: any text is read as just that value, or refused, as code.Get reads it. (Written by wip/mkrfget.py.)
-/
import Derived.Test.YtdlnabjledhiiaaDoorRfList
import Derived.Test.YtdlnabjledhiiaaDoorCvGet
namespace Go.Proofs.YtdlnabjledhiiaaDoor
open Go.RowKit
set_option linter.unusedVariables false

theorem not_digit {n : Nat} (h : ¬ (48 ≤ n ∧ n ≤ 57)) : false = (decide ((48 : Int) ≤ (n : Int)) && decide ((n : Int) ≤ 57)) := by
  rcases Nat.lt_or_ge n 48 with h3 | h3
  · rw [decide_eq_false (show ¬ (48 : Int) ≤ (n : Int) by omega)]; rfl
  · rw [decide_eq_false (show ¬ (n : Int) ≤ 57 from fun h4 => h ⟨h3, by omega⟩), Bool.and_false]
theorem bne_t {x y : Int} (h : x ≠ y) : (x != y) = true := by simpa using h
theorem rvalue_any (r : Nat) (s : ByteArray) (hs : s.size ≤ 131072) : ∀ (d : Nat) (k : Int), k + (d : Int) = 30 → 0 ≤ k → ∀ (a m : Nat) (w : World), RdAt w r s a m 0 → a ≤ s.size → m ≤ 4000 →
    Calls Tryd.prog 43 #[.pointer (some ⟨r, 0, none⟩), .int .i64 k] w (RfPost r s w (rdValue s d a m)) := by
  intro d
  induction d with
  | zero =>
    intro k hk hk0 a m w h ha hm
    rw [rdValue]
    by_cases hlt : a < s.size
    · rw [at_lt hlt]
      dsimp only
      have hq : nowL s a = (s[a].toNat : Int) := by rw [nowL, dif_pos hlt]
      by_cases hb : begins s[a] = true
      · rw [if_pos hb]
        by_cases h1 : s[a] = 105
        · exact rv_deep_i r s k a m w h hs ha 105 (Lib.hid (by rw [hq, h1]; rfl)) rfl rfl (by omega)
        · by_cases h2 : s[a] = 108
          · exact rv_deep_l r s k a m w h hs ha 108 (Lib.hid (by rw [hq, h2]; rfl)) rfl rfl rfl (by omega)
          · have h3 : 48 ≤ s[a].toNat ∧ s[a].toNat ≤ 57 := by simpa [begins, h1, h2] using hb
            exact rv_deep_d r s k a m w h hs ha (s[a].toNat : Int) (Lib.hid hq.symm) (bne_t (by omega)) (bne_t (by omega)) (by rw [beq_eq_false_iff_ne]; omega) (Lib.hid (by rw [decide_eq_true (show (48 : Int) ≤ (s[a].toNat : Int) by omega), decide_eq_true (show (s[a].toNat : Int) ≤ 57 by omega)]; rfl)) (by omega)
      · rw [if_neg hb]
        have h1 : s[a] ≠ 105 := fun e => hb (by rw [e]; rfl)
        have h2 : s[a] ≠ 108 := fun e => hb (by rw [e]; rfl)
        have h3 : ¬ (48 ≤ s[a].toNat ∧ s[a].toNat ≤ 57) := fun e => hb (by simp [begins, e.1, e.2])
        have := rv_wrong r s k a m w h hs ha (s[a].toNat : Int) (Lib.hid hq.symm) (bne_t (fun e => h1 (UInt8.toNat_inj.1 (show s[a].toNat = 105 by omega)))) (bne_t (fun e => h2 (UInt8.toNat_inj.1 (show s[a].toNat = 108 by omega)))) (Lib.hid (not_digit h3))
        rwa [wrongL, if_pos hlt] at this
    · rw [at_ge hlt]
      have := rv_wrong r s k a m w h hs ha (-1) (Lib.hid (by rw [nowL, dif_neg hlt])) rfl rfl (Lib.hid rfl)
      rwa [wrongL, if_neg hlt] at this
  | succ d ih =>
    intro k hk hk0 a m w h ha hm
    rw [rdValue]
    by_cases hlt : a < s.size
    · rw [at_lt hlt]
      dsimp only
      have hq : nowL s a = (s[a].toNat : Int) := by rw [nowL, dif_pos hlt]
      by_cases hb : begins s[a] = true
      · rw [if_pos hb]
        by_cases h1 : s[a] = 105
        · by_cases hmm : 4000 ≤ m
          · rw [if_pos hmm]; exact rv_long_i r s k a m w h hs ha 105 (Lib.hid (by rw [hq, h1]; rfl)) rfl rfl (by omega) (by omega)
          · rw [if_neg hmm, if_pos h1]; exact rv_num r s k a m w h hs ha 105 (Lib.hid (by rw [hq, h1]; rfl)) rfl rfl hlt (by omega) (by omega) _ (Lib.hid rfl)
        · by_cases h2 : s[a] = 108
          · by_cases hmm : 4000 ≤ m
            · rw [if_pos hmm]; exact rv_long_l r s k a m w h hs ha 108 (Lib.hid (by rw [hq, h2]; rfl)) rfl rfl rfl (by omega) (by omega)
            · rw [if_neg hmm, if_neg h1, if_pos h2]
              exact rv_list r s k a m w h hs ha 108 (Lib.hid (by rw [hq, h2]; rfl)) rfl rfl rfl hlt (by omega) hk0 (by omega) (rdValue s d) (Lib.hid fun a m hm => rdValue_good s d a m hm) (Lib.hid fun a m ha hm => rdValue_no s d a m ha hm) (Lib.hid (ih (k + 1) (by omega) (by omega))) _ (Lib.hid rfl)
          · have h3 : 48 ≤ s[a].toNat ∧ s[a].toNat ≤ 57 := by simpa [begins, h1, h2] using hb
            have e1 := bne_t (x := (s[a].toNat : Int)) (y := 105) (by omega)
            have e2 := bne_t (x := (s[a].toNat : Int)) (y := 108) (by omega)
            have e3 : ((s[a].toNat : Int) == 105) = false := by rw [beq_eq_false_iff_ne]; omega
            have e4 : Hid (true = (decide ((48 : Int) ≤ (s[a].toNat : Int)) && decide ((s[a].toNat : Int) ≤ 57))) := Lib.hid (by rw [decide_eq_true (show (48 : Int) ≤ (s[a].toNat : Int) by omega), decide_eq_true (show (s[a].toNat : Int) ≤ 57 by omega)]; rfl)
            by_cases hmm : 4000 ≤ m
            · rw [if_pos hmm]; exact rv_long_d r s k a m w h hs ha (s[a].toNat : Int) (Lib.hid hq.symm) e1 e2 e3 e4 (by omega) (by omega)
            · rw [if_neg hmm, if_neg h1, if_neg h2]; exact rv_text r s k a m w h hs ha (s[a].toNat : Int) (Lib.hid hq.symm) e1 e2 e3 e4 hlt (by omega) (by omega) _ (Lib.hid rfl)
      · rw [if_neg hb]
        have h1 : s[a] ≠ 105 := fun e => hb (by rw [e]; rfl)
        have h2 : s[a] ≠ 108 := fun e => hb (by rw [e]; rfl)
        have h3 : ¬ (48 ≤ s[a].toNat ∧ s[a].toNat ≤ 57) := fun e => hb (by simp [begins, e.1, e.2])
        have := rv_wrong r s k a m w h hs ha (s[a].toNat : Int) (Lib.hid hq.symm) (bne_t (fun e => h1 (UInt8.toNat_inj.1 (show s[a].toNat = 105 by omega)))) (bne_t (fun e => h2 (UInt8.toNat_inj.1 (show s[a].toNat = 108 by omega)))) (Lib.hid (not_digit h3))
        rwa [wrongL, if_pos hlt] at this
    · rw [at_ge hlt]
      have := rv_wrong r s k a m w h hs ha (-1) (Lib.hid (by rw [nowL, dif_neg hlt])) rfl rfl (Lib.hid rfl)
      rwa [wrongL, if_neg hlt] at this

set_option maxRecDepth 20000 in
set_option maxHeartbeats 1000000 in
theorem rget_long (s : ByteArray) (w : World) (hm : s.size ≤ 9223372036854775807) (h : 131072 < s.size) :
    Calls Tryd.prog 23 #[.string s] w (GetPost w ⟨zeroV, 2, 0⟩) := by
  have hi : (131072 : Int) < (s.size : Int) := by omega
  have HF : Hid (Four (w.alloc (.cells #[.int .i64 0, .int .i64 0, .string ⟨#[]⟩, .slice none 0 0] 42)) w.heap.size 42 (.int .i64 0) (.int .i64 0) (.string ⟨#[]⟩) (.slice none 0 0)) := Lib.hid (Four.new w _ _ _ _ _)
  have HB := Lib.hid ((Below.refl w.heap.size w).alloc (Nat.le_refl _) (.cells #[.int .i64 0, .int .i64 0, .string ⟨#[]⟩, .slice none 0 0] 42))
  have b0 := HF.out.c0
  have b1 := HF.out.c1
  have b2 := HF.out.c2
  have b3 := HF.out.c3
  have g0 := HF.out.free 0
  have g1 := HF.out.free 1
  have g2 := HF.out.free 2
  have g3 := HF.out.free 3
  go_enter Tryd.func23, Tryd.ntmps23
  go_wp2_with fail
  clear b0 b1 b2 b3 g0 g1 g2 g3
  generalize (w.alloc (.cells #[.int .i64 0, .int .i64 0, .string ⟨#[]⟩, .slice none 0 0] 42)) = w9 at *
  have e0 := HF.out.c0
  have e1 := HF.out.c1
  have e2 := HF.out.c2
  have e3 := HF.out.c3
  (try simp only [Exit.inBlock, Exit.then])
  refine bodyPost_ret (v := .tuple #[.agg #[.int .i64 0, .int .i64 0, .string ⟨#[]⟩, .slice none 0 0], .int .i64 2, .int .i64 0]) ?_ rfl ?_
  · rw [results_cell_tmps rfl]; go_simp
  · exact ⟨_, rfl, zeroV_at _ _, HB.out⟩

set_option maxRecDepth 20000 in
set_option maxHeartbeats 2000000 in
theorem rget_short (s : ByteArray) (w : World) (h : s.size ≤ 131072) (y : Rd) (hy : Hid (y = rdValue s 30 0 0)) (g : Got) (hg : Hid (g = (if y.ok = true then (if y.at_ < s.size then ⟨zeroV, 11, y.at_⟩ else ⟨y.v, 0, 0⟩) else ⟨zeroV, y.bad, y.at_⟩))) :
    Calls Tryd.prog 23 #[.string s] w (GetPost w g) := by
  have hi : (s.size : Int) ≤ 131072 := by omega
  have hcall := Lib.hid (fun (w0 : World) (h0 : RdAt w0 (w.heap.size + 1) s 0 0 0) => hy.out ▸ rvalue_any (w.heap.size + 1) s h 30 0 (by decide) (by decide) 0 0 w0 h0 (Nat.zero_le _) (Nat.zero_le _))
  have hgood := rdValue_good s 30 0 0 (by decide)
  have hno := rdValue_no s 30 0 0 (Nat.zero_le _) (by decide)
  rw [← hy.out] at hgood hno
  have HGD := Lib.hid hgood
  have HNO := Lib.hid hno
  clear hgood hno hy
  have HF0 : Hid (Four (w.alloc (.cells #[.int .i64 0, .int .i64 0, .string ⟨#[]⟩, .slice none 0 0] 42)) w.heap.size 42 (.int .i64 0) (.int .i64 0) (.string ⟨#[]⟩) (.slice none 0 0)) := Lib.hid (Four.new w _ _ _ _ _)
  have HB0 := Lib.hid ((Below.refl w.heap.size w).alloc (Nat.le_refl _) (.cells #[.int .i64 0, .int .i64 0, .string ⟨#[]⟩, .slice none 0 0] 42))
  have hsz0 : (w.alloc (.cells #[.int .i64 0, .int .i64 0, .string ⟨#[]⟩, .slice none 0 0] 42)).heap.size = w.heap.size + 1 := by simp
  go_enter Tryd.func23, Tryd.ntmps23
  go_wp2_with fail
  have HF1 := Lib.hid (HF0.out.alloc (.cells #[.string s, .int .i64 0, .int .i64 0, .int .i64 0] 74))
  have HB1 := Lib.hid (HB0.out.alloc (by simp) (.cells #[.string s, .int .i64 0, .int .i64 0, .int .i64 0] 74))
  have HN1 := Four.new (w.alloc (.cells #[.int .i64 0, .int .i64 0, .string ⟨#[]⟩, .slice none 0 0] 42)) 74 (.string s) (.int .i64 0) (.int .i64 0) (.int .i64 0)
  have hsz1 : ((w.alloc (.cells #[.int .i64 0, .int .i64 0, .string ⟨#[]⟩, .slice none 0 0] 42)).alloc (.cells #[.string s, .int .i64 0, .int .i64 0, .int .i64 0] 74)).heap.size = w.heap.size + 2 := by simp
  have hr1 : RdAt ((w.alloc (.cells #[.int .i64 0, .int .i64 0, .string ⟨#[]⟩, .slice none 0 0] 42)).alloc (.cells #[.string s, .int .i64 0, .int .i64 0, .int .i64 0] 74)) (w.heap.size + 1) s 0 0 0 := by
    rw [hsz0] at HN1
    exact ⟨by rw [hsz1]; omega, HN1.c0, HN1.c1, HN1.c2, HN1.c3, fun j _ => HN1.free j⟩
  refine (hcall.out _ hr1).mono ?_
  rintro e w1 ⟨cs, rfl, ⟨yv, hat, hok⟩, hr2, hg2⟩
  clear hr1 HN1 hcall HF0 HB0 hsz0
  have HF2 := Lib.hid (HF1.out.kept hg2 (by simp))
  have HB2 := Lib.hid (HB1.out.grown hg2 (by rw [hsz1]; omega) (fun k e => by cases e; omega))
  have hsz2 := hg2.size
  have HR2 := Lib.hid hr2
  rw [hsz1] at hsz2
  clear hr2 hg2 HF1 HB1
  obtain ⟨⟨zk, zn, zs, zl⟩, yok, yat, ym, ybad⟩ := y
  obtain ⟨vk, vn, vs, vl⟩ := yv
  have hat' := V.At.move (T := fun b => w.heap.size + 1 ≤ b ∧ b < w1.heap.size) (fun b (hb : _ ∧ _) => ⟨by have := hb.1; omega, hb.2⟩) (fun _ _ => rfl) _ _ hat
  clear hsz1
  generalize hvm : vl.length = vm at *
  have HVM := Lib.hid hvm
  simp only [V.At] at hat
  rw [hvm] at hat
  obtain ⟨xa, xc, rfl, -, -, -⟩ := hat
  have HAT := Lib.hid hat'
  have HOK := Lib.hid hok
  clear hat' hok hvm
  have hst := hg.out
  clear hg
  have HF3 := Lib.hid (HF2.out.alloc (.cells #[.int .i64 vk, .int .i64 vn, .string vs, .slice xa vm xc] 42))
  have HN3 := Lib.hid (Four.new w1 42 (.int .i64 vk) (.int .i64 vn) (.string vs) (.slice xa vm xc))
  have HR3 := Lib.hid (HR2.out.alloc (.cells #[.int .i64 vk, .int .i64 vn, .string vs, .slice xa vm xc] 42))
  have HB3 := Lib.hid (HB2.out.alloc (by omega) (.cells #[.int .i64 vk, .int .i64 vn, .string vs, .slice xa vm xc] 42))
  have HK : Hid (w1.grownBy (w1.alloc (.cells #[.int .i64 vk, .int .i64 vn, .string vs, .slice xa vm xc] 42)) none) := Lib.hid (World.grownBy_alloc w1 _ none)
  have b0 := HF3.out.c0
  have b1 := HF3.out.c1
  have b2 := HF3.out.c2
  have b3 := HF3.out.c3
  have g0 := HF3.out.free 0
  have g1 := HF3.out.free 1
  have g2 := HF3.out.free 2
  have g3 := HF3.out.free 3
  have d1 := HR3.out.c1
  have d3 := HR3.out.c3
  have n0 := HN3.out.c0
  have n1 := HN3.out.c1
  have n2 := HN3.out.c2
  have n3 := HN3.out.c3
  by_cases hyok : yok = true
  · subst hyok
    obtain ⟨hbad, hyat, hyat2, hym⟩ := HGD.out rfl
    dsimp only at hbad hyat hyat2 hym
    subst hbad
    by_cases hat : yat < s.size
    · have HST : Hid (g = ⟨zeroV, 11, yat⟩) := Lib.hid (by rw [hst, if_pos rfl, if_pos hat])
      have hati : (yat : Int) < (s.size : Int) := by omega
      have k3 := HR3.out.free 3 (by decide)
      clear hst
      have HR5 := Lib.hid (HR3.out.setBad 11)
      have hg5 := grown_setCell (w1.alloc (.cells #[.int .i64 vk, .int .i64 vn, .string vs, .slice xa vm xc] 42)) (w.heap.size + 1) 3 (.int .i64 11)
      have HF5 := Lib.hid (HF3.out.kept hg5 (by simp))
      have HB5 := Lib.hid (HB3.out.grown hg5 (by simp; omega) (fun k e => by cases e; omega))
      have hsz5 := hg5.size
      rw [World.size_alloc] at hsz5
      clear hg5 b0 b1 b2 b3 g0 g1 g2 g3
      go_wp2_with fail
      clear n0 n1 n2 n3 d1 d3 k3 HR3 HF3 HB3 HN3 HK
      generalize ((w1.alloc (.cells #[.int .i64 vk, .int .i64 vn, .string vs, .slice xa vm xc] 42)).setCell ⟨w.heap.size + 1, 3, none⟩ (.int .i64 11)) = w9 at *
      have b0 := HF5.out.c0
      have b1 := HF5.out.c1
      have b2 := HF5.out.c2
      have b3 := HF5.out.c3
      have g0 := HF5.out.free 0
      have g1 := HF5.out.free 1
      have g2 := HF5.out.free 2
      have g3 := HF5.out.free 3
      have d1 := HR5.out.c1
      have d3 := HR5.out.c3
      go_region
      (try simp only [Exit.then])
      go_wp2_with fail
      have n0 := 0
      have n1 := 0
      have n2 := 0
      have n3 := 0
      have HF4 := HF5.out.all (.int .i64 0) (.int .i64 0) (.string ⟨#[]⟩) (.slice none 0 0)
      have hgf := grown_four w9 w.heap.size (.int .i64 0) (.int .i64 0) (.string ⟨#[]⟩) (.slice none 0 0)
      have HB4 := Lib.hid (HB5.out.grown hgf (by omega) (fun k e => by cases e; exact Nat.le_refl _))
      clear b0 b1 b2 b3 g0 g1 g2 g3 n0 n1 n2 n3 d1 d3
      generalize ((((w9.setCell ⟨w.heap.size, 0, none⟩ (.int .i64 0)).setCell ⟨w.heap.size, 1, none⟩ (.int .i64 0)).setCell ⟨w.heap.size, 2, none⟩ (.string ⟨#[]⟩)).setCell ⟨w.heap.size, 3, none⟩ (.slice none 0 0)) = w10 at *
      have HF4 : Four w10.drew w.heap.size 42 (.int .i64 0) (.int .i64 0) (.string ⟨#[]⟩) (.slice none 0 0) := HF4
      have HB4 : Hid (Below w.heap.size w w10.drew) := Lib.hid HB4.out.drew
      generalize w10.drew = w11 at *
      have e0 := HF4.c0
      have e1 := HF4.c1
      have e2 := HF4.c2
      have e3 := HF4.c3
      (try simp only [Exit.inBlock, Exit.then])
      refine bodyPost_ret (v := .tuple #[.agg #[.int .i64 0, .int .i64 0, .string ⟨#[]⟩, .slice none 0 0], .int .i64 11, .int .i64 (yat : Int)]) ?_ rfl ?_
      · rw [results_cell_tmps rfl]; go_simp
      · rw [HST.out]; exact ⟨_, rfl, zeroV_at _ _, HB4.out⟩
    · have hv : V.mk vk vn vs vl = V.mk zk zn zs zl := HOK.out rfl
      have HST : Hid (g = ⟨.mk vk vn vs vl, 0, 0⟩) := Lib.hid (by rw [hst, if_pos rfl, if_neg hat, hv])
      have hati : (s.size : Int) ≤ (yat : Int) := by omega
      clear hv
      clear hst
      go_wp2_with fail
      have HF4 := HF3.out.all (.int .i64 vk) (.int .i64 vn) (.string vs) (.slice xa vm xc)
      have hgf := grown_four (w1.alloc (.cells #[.int .i64 vk, .int .i64 vn, .string vs, .slice xa vm xc] 42)) w.heap.size (.int .i64 vk) (.int .i64 vn) (.string vs) (.slice xa vm xc)
      have HB4 := Lib.hid (HB3.out.grown hgf (by simp; omega) (fun k e => by cases e; exact Nat.le_refl _))
      clear b0 b1 b2 b3 g0 g1 g2 g3 n0 n1 n2 n3 d1 d3
      generalize (((((w1.alloc (.cells #[.int .i64 vk, .int .i64 vn, .string vs, .slice xa vm xc] 42)).setCell ⟨w.heap.size, 0, none⟩ (.int .i64 vk)).setCell ⟨w.heap.size, 1, none⟩ (.int .i64 vn)).setCell ⟨w.heap.size, 2, none⟩ (.string vs)).setCell ⟨w.heap.size, 3, none⟩ (.slice xa vm xc)) = w10 at *
      have e0 := HF4.c0
      have e1 := HF4.c1
      have e2 := HF4.c2
      have e3 := HF4.c3
      (try simp only [Exit.inBlock, Exit.then])
      refine bodyPost_ret (v := .tuple #[.agg #[.int .i64 vk, .int .i64 vn, .string vs, .slice xa vm xc], .int .i64 0, .int .i64 0]) ?_ rfl ?_
      · rw [results_cell_tmps rfl]; go_simp
      · rw [HST.out]; exact ⟨_, rfl, V.At.move (fun b (hb : _ ∧ _) => ⟨Nat.le_of_succ_le hb.1, Nat.lt_of_lt_of_le hb.2 (Nat.le_trans HK.out.size hgf.size)⟩) (fun b (hb : _ ∧ _) => (hgf.block b (Nat.lt_of_lt_of_le hb.2 HK.out.size) (by have := hb.1; simp; omega)).trans (HK.out.block b hb.2 (by simp))) _ _ HAT.out, HB4.out⟩
  · have hb := HNO.out hyok
    have hb1 : ybad ≠ 0 := hb.1
    have q1 : (ybad != 0) = true := by simpa using hb1
    have q2 : (ybad == 0) = false := by simpa using hb1
    have HST : Hid (g = ⟨zeroV, ybad, yat⟩) := Lib.hid (by rw [hst, if_neg hyok])
    clear hst hb hb1 hyok
    go_wp2_with fail
    go_region
    (try simp only [Exit.then])
    go_wp2_with fail
    have HF4 := HF3.out.all (.int .i64 0) (.int .i64 0) (.string ⟨#[]⟩) (.slice none 0 0)
    have hgf := grown_four (w1.alloc (.cells #[.int .i64 vk, .int .i64 vn, .string vs, .slice xa vm xc] 42)) w.heap.size (.int .i64 0) (.int .i64 0) (.string ⟨#[]⟩) (.slice none 0 0)
    have HB4 := Lib.hid (HB3.out.grown hgf (by simp; omega) (fun k e => by cases e; exact Nat.le_refl _))
    clear b0 b1 b2 b3 g0 g1 g2 g3 n0 n1 n2 n3 d1 d3
    generalize (((((w1.alloc (.cells #[.int .i64 vk, .int .i64 vn, .string vs, .slice xa vm xc] 42)).setCell ⟨w.heap.size, 0, none⟩ (.int .i64 0)).setCell ⟨w.heap.size, 1, none⟩ (.int .i64 0)).setCell ⟨w.heap.size, 2, none⟩ (.string ⟨#[]⟩)).setCell ⟨w.heap.size, 3, none⟩ (.slice none 0 0)) = w10 at *
    have HF4 : Four w10.drew w.heap.size 42 (.int .i64 0) (.int .i64 0) (.string ⟨#[]⟩) (.slice none 0 0) := HF4
    have HB4 : Hid (Below w.heap.size w w10.drew) := Lib.hid HB4.out.drew
    generalize w10.drew = w11 at *
    have e0 := HF4.c0
    have e1 := HF4.c1
    have e2 := HF4.c2
    have e3 := HF4.c3
    (try simp only [Exit.inBlock, Exit.then])
    refine bodyPost_ret (v := .tuple #[.agg #[.int .i64 0, .int .i64 0, .string ⟨#[]⟩, .slice none 0 0], .int .i64 ybad, .int .i64 (yat : Int)]) ?_ rfl ?_
    · rw [results_cell_tmps rfl]; go_simp
    · rw [HST.out]; exact ⟨_, rfl, zeroV_at _ _, HB4.out⟩
theorem rget_any (s : ByteArray) (w : World) (hm : s.size ≤ 9223372036854775807) : Calls Tryd.prog 23 #[.string s] w (GetPost w (getL s)) := by
  unfold getL
  by_cases h : 131072 < s.size
  · rw [if_pos h]; exact rget_long s w hm h
  · rw [if_neg h]; exact rget_short s w (by omega) _ (Lib.hid rfl) _ (Lib.hid rfl)
end Go.Proofs.YtdlnabjledhiiaaDoor
