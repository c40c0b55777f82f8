/-
  The walks of Rename's compare function and of slices.SortFunc of at most nine files, of which all but the last stand in order: the row is rewritten in place; the texts within reach.
-/
import Derived.Test.YtjppommhamaibaaDkX
import Derived.Test.YtjppommhamaibaaShelf
namespace Go.Proofs.Ytjppommhamaibaa
open Go.RowKit Go.BigFrame
set_option linter.unusedVariables false

theorem cmp_neg : ∀ (a b : List UInt8), (Lib.compareBytes a b < 0) ↔ a < b
  | [], [] => by simp [Lib.compareBytes]
  | [], _ :: _ => by simp [Lib.compareBytes]
  | _ :: _, [] => by simp [Lib.compareBytes]
  | a :: x, b :: y => by
    rw [Lib.compareBytes]
    by_cases h1 : a < b
    · rw [if_pos h1]; simp [List.cons_lt_cons_iff, h1]
    · rw [if_neg h1]
      by_cases h2 : b < a
      · rw [if_pos h2]
        have h3 : ¬ a = b := fun e => by subst e; exact absurd h2 (UInt8.lt_irrefl _)
        simp [List.cons_lt_cons_iff, h1, h3]
      · rw [if_neg h2, cmp_neg x y]
        have h3 : a = b := UInt8.le_antisymm (UInt8.not_lt.1 h2) (UInt8.not_lt.1 h1)
        subst h3
        simp
def cmpN (a b : Fl) : Int := Lib.compareBytes a.nm.data.toList b.nm.data.toList
theorem cmpN_neg (a b : Fl) : (cmpN a b < 0) ↔ ltN a.nm b.nm = true := by
  unfold cmpN
  rw [cmp_neg, ltN_is]; simp
theorem cmpN_rng (a b : Fl) : -1 ≤ cmpN a b ∧ cmpN a b ≤ 1 := by
  unfold cmpN
  generalize a.nm.data.toList = x
  generalize b.nm.data.toList = y
  induction x generalizing y with
  | nil => cases y <;> simp [Lib.compareBytes]
  | cons a x ih =>
    cases y with
    | nil => simp [Lib.compareBytes]
    | cons b y =>
      rw [Lib.compareBytes]
      split
      · omega
      · split
        · omega
        · exact ih y
set_option maxHeartbeats 1000000 in
theorem cmp_any (a b : Fl) (w : World) : Calls Try.prog 43 #[flVal a, flVal b] w fun e w' => e = .returned (.int .i64 (cmpN a b)) ∧ Below w.heap.size w w' := by
  obtain ⟨v, hv⟩ : ∃ v, v = cmpN a b := ⟨_, rfl⟩
  have hc := Lib.hid (fun W => Try.strings_Compare a.nm b.nm W)
  have HV : Hid (v = Lib.compareBytes a.nm.data.toList b.nm.data.toList) := Lib.hid hv
  rw [← hv]
  have hb : Below w.heap.size w ((w.alloc (.cells #[.string a.nm, .string a.sy, .string a.ta] 32)).alloc (.cells #[.string b.nm, .string b.sy, .string b.ta] 32)) := ((Below.refl _ w).alloc (Nat.le_refl _) _).alloc (by simp) _
  have HB := Lib.hid hb
  clear hv hb
  obtain ⟨a0, a1, a2⟩ := a
  obtain ⟨b0, b1, b2⟩ := b
  unfold flVal
  dsimp only at *
  go_enter Try.func43, Try.ntmps43
  go_wp2_with fail
  refine (hc.out _).mono ?_
  rintro e w1 ⟨rfl, hw⟩
  subst hw
  rw [← HV.out]
  go_wp2_with fail
  go_ret
  exact ⟨rfl, HB.out⟩
/-- The list on its way: x stands at place j. -/
theorem swap_step {W : List Fl} {x : Fl} {m : Nat} (h : m < W.length) : ((insAt W (m + 1) x).set (m + 1) W[m]).set m x = insAt W m x := by
  have h1 : (W.take (m + 1)).length = m + 1 := by rw [List.length_take]; omega
  have h2 : (W.take m).length = m := by rw [List.length_take]; omega
  unfold insAt
  rw [List.set_append_right _ _ (by omega), h1, Nat.sub_self, List.set_cons_zero, List.set_append_left _ _ (by omega), List.take_succ_eq_append_getElem h, List.set_append_right _ _ (by omega), h2, Nat.sub_self, List.set_cons_zero, List.append_assoc, List.drop_eq_getElem_cons h]
  rfl
theorem insAt_before {W : List Fl} {x : Fl} {i k : Nat} (h : k < i) (hi : i ≤ W.length) : (insAt W i x)[k]'(by rw [insAt_length W x hi]; omega) = W[k]'(by omega) := by
  unfold insAt
  rw [List.getElem_append_left (by rw [List.length_take]; omega), List.getElem_take]
theorem insF_stop {W : List Fl} (hr : Rising W) {x : Fl} {j : Nat} (hj : j ≤ W.length) (h1 : ∀ k (h : k < W.length), j ≤ k → ltN x.nm W[k].nm = true) (h2 : ∀ (h : 0 < j), ltN x.nm (W[j - 1]'(by omega)).nm = false) : insF x W = insAt W j x := by
  refine insF_at hj (fun k hk hkj => ?_) (fun h => h1 j h (Nat.le_refl _))
  have h3 := h2 (by omega)
  by_cases hk1 : k = j - 1
  · subst hk1; exact h3
  · cases hq : ltN x.nm W[k].nm with
    | false => rfl
    | true =>
      have h4 := List.pairwise_iff_getElem.1 hr k (j - 1) hk (by omega) (by omega)
      have h5 := ltN_trans hq h4
      rw [h3] at h5
      cases h5
theorem insAt_end (W : List Fl) (x : Fl) : insAt W W.length x = W ++ [x] := by
  unfold insAt; rw [List.take_of_length_le (Nat.le_refl _), List.drop_of_length_le (Nat.le_refl _)]

theorem srt_cells {w : World} {base g n c m : Nat} {W : List Fl} {x : Fl} (h : w.ownsRow base 32 3 (.slice (some ⟨g, 0, none⟩) n c) n (flE.cells (insAt W (m + 1) x))) (hm : m < W.length) (hn : W.length + 1 = n) :
    (w.cell? ⟨g, (m + 1) * 3, none⟩ = some (.string x.nm) ∧ w.cell? ⟨g, (m + 1) * 3 + 1, none⟩ = some (.string x.sy) ∧ w.cell? ⟨g, (m + 1) * 3 + 2, none⟩ = some (.string x.ta)) ∧
    (w.cell? ⟨g, m * 3, none⟩ = some (.string W[m].nm) ∧ w.cell? ⟨g, m * 3 + 1, none⟩ = some (.string W[m].sy) ∧ w.cell? ⟨g, m * 3 + 2, none⟩ = some (.string W[m].ta)) ∧ ∀ j, w.frozen? ⟨g, j, none⟩ = false := by
  have hLl : (insAt W (m + 1) x).length = n := by rw [insAt_length W x hm]; exact hn
  have hrow : w.ownsRow base 32 3 (.slice (some ⟨g, 0, none⟩) (insAt W (m + 1) x).length c) (insAt W (m + 1) x).length (flE.cells (insAt W (m + 1) x)) := by rw [hLl]; exact h
  have hm1 : m + 1 < (insAt W (m + 1) x).length := by rw [hLl]; omega
  obtain ⟨c0, c1, c2, hz⟩ := own_file hrow hm1
  rw [insAt_at W x hm] at c0 c1 c2
  obtain ⟨d0, d1, d2, -⟩ := own_file hrow (k := m) (by omega)
  rw [insAt_before (by omega) hm] at d0 d1 d2
  exact ⟨⟨c0, c1, c2⟩, ⟨d0, d1, d2⟩, hz⟩
def swapW (w : World) (g m : Nat) (x y : Fl) : World := (((((w.setCell ⟨g, (m + 1) * 3, none⟩ (.string y.nm)).setCell ⟨g, (m + 1) * 3 + 1, none⟩ (.string y.sy)).setCell ⟨g, (m + 1) * 3 + 2, none⟩ (.string y.ta)).setCell ⟨g, m * 3, none⟩ (.string x.nm)).setCell ⟨g, m * 3 + 1, none⟩ (.string x.sy)).setCell ⟨g, m * 3 + 2, none⟩ (.string x.ta)
theorem srt_swap {w : World} {base g n c m : Nat} {W : List Fl} {x : Fl} (h : w.ownsRow base 32 3 (.slice (some ⟨g, 0, none⟩) n c) n (flE.cells (insAt W (m + 1) x))) (hm : m < W.length) (hn : W.length + 1 = n) :
    (swapW w g m x W[m]).ownsRow base 32 3 (.slice (some ⟨g, 0, none⟩) n c) n (flE.cells (insAt W m x)) ∧ w.grownBy (swapW w g m x W[m]) (some g) := by
  have hLl : (insAt W (m + 1) x).length = n := by rw [insAt_length W x hm]; exact hn
  have hm1 : m + 1 < (insAt W (m + 1) x).length := by rw [hLl]; omega
  have hst := fl_store3 h hm1 W[m].nm W[m].sy W[m].ta
  have hst2 := fl_store3 (L := (insAt W (m + 1) x).set (m + 1) ⟨W[m].nm, W[m].sy, W[m].ta⟩) hst.1 (k := m) (by rw [List.length_set]; omega) x.nm x.sy x.ta
  rw [swap_step hm] at hst2
  exact ⟨hst2.1, grown_trans hst.2 hst2.2⟩
def srtList (W : List Fl) (x : Fl) (i : Nat) : List Fl := if i ≤ W.length then insAt W W.length x else insF x W
theorem srt_length (W : List Fl) (x : Fl) (i : Nat) : (srtList W x i).length = W.length + 1 := by
  unfold srtList
  split
  · rw [insAt_length W x (Nat.le_refl _)]
  · rw [(insF_perm x W).length_eq, List.length_cons]
set_option maxRecDepth 20000 in
set_option maxHeartbeats 1000000 in
theorem insSort_any (g n c base : Nat) (W : List Fl) (x : Fl) (w : World) (h : w.ownsRow base 32 3 (.slice (some ⟨g, 0, none⟩) n c) n (flE.cells (W ++ [x]))) (hn : n ≤ 1000000) (hr : Rising W) (hbase : base ≤ w.heap.size) :
    Calls Try.prog 59 #[.slice (some ⟨g, 0, none⟩) n c, .int .i64 0, .int .i64 (n : Int), .func (.func 43) #[] #[]] w fun e w' =>
      e = .returned (.tuple #[]) ∧ w'.ownsRow base 32 3 (.slice (some ⟨g, 0, none⟩) n c) n (flE.cells (insF x W)) ∧ But (fun i => i = g) w w' := by
  have hln : W.length + 1 = n := by have h1 := h.1; rw [len_cells] at h1; simp at h1; omega
  have HN := Lib.hid hln
  have HRS := Lib.hid hr
  rw [← insAt_end] at h
  have h0 : w.ownsRow base 32 3 (.slice (some ⟨g, 0, none⟩) n c) n (flE.cells (srtList W x 1)) := by
    unfold srtList
    split
    · exact h
    · have : W = [] := List.eq_nil_of_length_eq_zero (by omega)
      subst this; exact h
  have HM0 := Lib.hid h0
  have hn1 : 1 ≤ n := by omega
  clear h h0 hln hr
  go_enter Try.func59, Try.ntmps59
  go_wp2_with fail
  go_loopg [8, 9] (n - 1) (fun gk vi v9 wr => ∃ (i : Nat), gk = n - i ∧ 1 ≤ i ∧ i ≤ n ∧ vi = .int .i64 (i : Int) ∧ Hid (But (fun i => i = g) w wr) ∧ Hid (wr.ownsRow base 32 3 (.slice (some ⟨g, 0, none⟩) n c) n (flE.cells (srtList W x i))))
  case atStart => exact ⟨1, rfl, Nat.le_refl _, hn1, rfl, Lib.hid (But.refl _ _), HM0⟩
  case round =>
    obtain ⟨i, rfl, hi1, hin, rfl, hB, hM⟩ := hrel
    clear HM0
    obtain ⟨wo, rfl⟩ : ∃ wo : World, wo = wr := ⟨_, rfl⟩
    by_cases hlt : i < n
    · have hini : (i : Int) < (n : Int) := by omega
      by_cases hlast : i = W.length
      · have hLI : srtList W x i = insAt W W.length x := by unfold srtList; rw [if_pos (by omega)]
        rw [hLI] at hM
        have HIL := Lib.hid hlast
        clear hlast hLI
        go_wp2_with fail
        go_loopg [9] i (fun gk vj wr => ∃ (j : Nat), gk = j ∧ j ≤ i ∧ vj = .int .i64 (j : Int) ∧ Hid (But (fun i => i = g) w wr) ∧ Hid (wr.ownsRow base 32 3 (.slice (some ⟨g, 0, none⟩) n c) n (flE.cells (insAt W j x))) ∧ Hid (∀ k (h : k < W.length), j ≤ k → ltN x.nm W[k].nm = true))
        case atStart => exact ⟨i, rfl, Nat.le_refl _, rfl, hB, by rw [HIL.out]; exact hM, Lib.hid (fun k h hk => by have := HIL.out; omega)⟩
        case round =>
          obtain ⟨j, hgk, hji, rfl, hB2, hM2, hall⟩ := hrel
          have hgk := hgk.symm
          subst hgk
          clear hB hM
          have hjW : j ≤ W.length := by have := HIL.out; omega
          rcases j with _ | m
          · have hd0 : decide ((0 : Int) < (0 : Int)) = false := by decide
            have hfin : Hid (insF x W = insAt W 0 x) := Lib.hid (insF_stop HRS.out (Nat.zero_le _) hall.out (fun h => absurd h (by decide)))
            go_wp2_with fail
            go_quiet (fail)
            go_wp2_with fail
            go_roundg (n - (i + 1))
            case rel => exact ⟨i + 1, rfl, by omega, by omega, by go_num, Lib.hid (hB2.out.drewN _), by unfold srtList; rw [if_neg (by have := HIL.out; omega), hfin.out]; exact Lib.hid hM2.out⟩
            case measure => omega
          · have hmW : m < W.length := hjW
            have HCE : Hid (∀ w' : World, w'.ownsRow base 32 3 (.slice (some ⟨g, 0, none⟩) n c) n (flE.cells (insAt W (m + 1) x)) → _) := Lib.hid fun w' h => srt_cells h hmW HN.out
            have HSW : Hid (∀ w' : World, w'.ownsRow base 32 3 (.slice (some ⟨g, 0, none⟩) n c) n (flE.cells (insAt W (m + 1) x)) → _) := Lib.hid fun w' h => srt_swap h hmW HN.out
            have hjj : (0 : Int) < ((m + 1 : Nat) : Int) := by omega
            have hmn : (m : Int) < (n : Int) := by have := HN.out; omega
            have hmn1 : (m : Int) + 1 < (n : Int) := by have := HN.out; omega
            have hall2 : Hid (ltN x.nm W[m].nm = true → ∀ k (h : k < W.length), m ≤ k → ltN x.nm W[k].nm = true) := Lib.hid fun hq k h hk => by
              by_cases hkm : k = m
              · subst hkm; exact hq
              · exact hall.out k h (by omega)
            have hfin : Hid (ltN x.nm W[m].nm = false → insF x W = insAt W (m + 1) x) := Lib.hid fun hq => insF_stop HRS.out hjW hall.out (fun h => by simpa using hq)
            have hcmp := Lib.hid (fun w => cmp_any x W[m] w)
            have hneg := cmpN_neg x W[m]
            have hrng := cmpN_rng x W[m]
            obtain ⟨v, hv⟩ : ∃ v, v = cmpN x W[m] := ⟨_, rfl⟩
            rw [← hv] at hcmp hneg hrng
            clear hv hall
            generalize W[m] = y at *
            obtain ⟨y0, y1, y2⟩ := y
            obtain ⟨x0, x1, x2⟩ := x
            unfold flVal at hcmp
            dsimp only at *
            cases hq : ltN x0 y0 with
            | true =>
              have hvn : v < 0 := hneg.2 hq
              have hvd : decide (v < 0) = true := decide_eq_true hvn
              have HALL := Lib.hid (hall2.out hq)
              clear hneg hrng hq hall2 hfin
              obtain ⟨⟨c0, c1, c2⟩, ⟨d0, d1, d2⟩, -⟩ := HCE.out wr hM2.out
              have p0 := Bel.cell c0
              have p1 := Bel.cell c1
              have p2 := Bel.cell c2
              have p3 := Bel.cell d0
              have p4 := Bel.cell d1
              have p5 := Bel.cell d2
              clear c0 c1 c2 d0 d1 d2
              try dsimp only at p0 p1 p2 p3 p4 p5
              go_wp2_with fail
              refine wp_region_bel (by kernel_rfl) (by kernel_rfl) ?_
              repeat (go_big_quiet_step (exact bel_of (hcmp.out _)))
              refine wpQuiet_nil ?_
              intro W8 hw'
              obtain ⟨⟨W9, hW8⟩, he⟩ := hw'
              change W8 = W9 at he
              subst he
              have hM8 := Enc.row_under hM2.out hW8
              have HB8 := Lib.hid (hB2.out.trans (But.ofBelow hW8))
              obtain ⟨⟨c0, c1, c2⟩, ⟨d0, d1, d2⟩, hz⟩ := HCE.out W8 hM8
              have HSW8 := Lib.hid (HSW.out W8 hM8)
              have z0 := hz ((m + 1) * 3)
              have z1 := hz ((m + 1) * 3 + 1)
              have z2 := hz ((m + 1) * 3 + 2)
              have z3 := hz (m * 3)
              have z4 := hz (m * 3 + 1)
              have z5 := hz (m * 3 + 2)
              clear hz hM8 hW8 p0 p1 p2 p3 p4 p5 hcmp
              try dsimp only at c0 c1 c2 d0 d1 d2
              obtain ⟨W9, hW9⟩ : ∃ W9, W9 = swapW W8 g m ⟨x0, x1, x2⟩ ⟨y0, y1, y2⟩ := ⟨_, rfl⟩
              rw [← hW9] at HSW8
              have HW9 := Lib.hid hW9
              clear hW9
              go_wp2_with fail
              go_big_region
              go_wp2_with fail
              have hW9 := HW9.out
              unfold swapW at hW9
              dsimp only at hW9
              rw [← hW9]
              clear hW9
              have HB9 : Hid (But (fun i => i = g) w W9.drew) := Lib.hid ((HB8.out.trans ((But.ofGrown HSW8.out.2).mono (fun i _ e => by cases e; rfl))).drewN 1)
              have HM9 : Hid (W9.drew.ownsRow base 32 3 (.slice (some ⟨g, 0, none⟩) n c) n (flE.cells (insAt W m ⟨x0, x1, x2⟩))) := Lib.hid HSW8.out.1
              go_roundg m
              case rel => exact ⟨m, rfl, by omega, by go_num, HB9, HM9, HALL⟩
              case measure => omega
            | false =>
              have hvn : ¬ v < 0 := fun e => by have := hneg.1 e; rw [hq] at this; cases this
              have hvd : decide (v < 0) = false := decide_eq_false hvn
              have HF := Lib.hid (hfin.out hq)
              clear hneg hrng hq hall2 hfin hvn
              obtain ⟨⟨c0, c1, c2⟩, ⟨d0, d1, d2⟩, -⟩ := HCE.out wr hM2.out
              have p0 := Bel.cell c0
              have p1 := Bel.cell c1
              have p2 := Bel.cell c2
              have p3 := Bel.cell d0
              have p4 := Bel.cell d1
              have p5 := Bel.cell d2
              clear c0 c1 c2 d0 d1 d2
              try dsimp only at p0 p1 p2 p3 p4 p5
              go_wp2_with fail
              refine wp_region_bel (by kernel_rfl) (by kernel_rfl) ?_
              repeat (go_big_quiet_step (exact bel_of (hcmp.out _)))
              refine wpQuiet_nil ?_
              intro W8 hw'
              obtain ⟨⟨W9, hW8⟩, he⟩ := hw'
              change W8 = W9 at he
              subst he
              have HM8 := Lib.hid (Enc.row_under hM2.out hW8)
              have HB8 := Lib.hid (hB2.out.trans (But.ofBelow hW8))
              clear hW8 p0 p1 p2 p3 p4 p5 hcmp
              go_wp2_with fail
              go_roundg (n - (i + 1))
              case rel => exact ⟨i + 1, rfl, by omega, by omega, by go_num, HB8, by unfold srtList; rw [if_neg (by have := HIL.out; omega), HF.out]; exact HM8⟩
              case measure => omega
      · have hLI : srtList W x i = insAt W W.length x := by unfold srtList; rw [if_pos (by have := HN.out; omega)]
        rw [hLI] at hM
        have hNX : Hid (srtList W x (i + 1) = insAt W W.length x) := Lib.hid (by unfold srtList; rw [if_pos (by have := HN.out; omega)])
        obtain ⟨m, rfl⟩ : ∃ m, i = m + 1 := ⟨i - 1, by omega⟩
        have hmW : m + 1 < W.length := by have := HN.out; omega
        have hLl : (insAt W W.length x).length = n := by rw [insAt_length W x (Nat.le_refl _)]; exact HN.out
        have hrow : wo.ownsRow base 32 3 (.slice (some ⟨g, 0, none⟩) (insAt W W.length x).length c) (insAt W W.length x).length (flE.cells (insAt W W.length x)) := by rw [hLl]; exact hM.out
        obtain ⟨c0, c1, c2, -⟩ := own_file hrow (k := m + 1) (by omega)
        obtain ⟨d0, d1, d2, -⟩ := own_file hrow (k := m) (by omega)
        rw [insAt_before hmW (Nat.le_refl _)] at c0 c1 c2
        rw [insAt_before (by omega) (Nat.le_refl _)] at d0 d1 d2
        have hasc : ltN W[m + 1].nm W[m].nm = false := ltN_asymm (List.pairwise_iff_getElem.1 HRS.out m (m + 1) (by omega) hmW (by omega))
        have hcmp := Lib.hid (fun w => cmp_any W[m + 1] W[m] w)
        have hneg := cmpN_neg W[m + 1] W[m]
        obtain ⟨v, hv⟩ : ∃ v, v = cmpN W[m + 1] W[m] := ⟨_, rfl⟩
        rw [← hv] at hcmp hneg
        have hvn : ¬ v < 0 := fun e => by have := hneg.1 e; rw [hasc] at this; cases this
        have hvd : decide (v < 0) = false := decide_eq_false hvn
        have hjj : (0 : Int) < ((m + 1 : Nat) : Int) := by omega
        have hmn : (m : Int) < (n : Int) := by have := HN.out; omega
        have hmn1 : (m : Int) + 1 < (n : Int) := by have := HN.out; omega
        clear hv hneg hvn hasc hrow hLI hLl
        generalize W[m + 1] = xx at *
        generalize W[m] = y at *
        obtain ⟨y0, y1, y2⟩ := y
        obtain ⟨x0, x1, x2⟩ := xx
        unfold flVal at hcmp
        dsimp only at *
        have p0 := Bel.cell c0
        have p1 := Bel.cell c1
        have p2 := Bel.cell c2
        have p3 := Bel.cell d0
        have p4 := Bel.cell d1
        have p5 := Bel.cell d2
        clear c0 c1 c2 d0 d1 d2
        go_wp2_with fail
        go_loopg [9] 0 (fun gk vj wr => vj = .int .i64 ((m : Int) + 1) ∧ wo = wr)
        case atStart => exact ⟨by go_num, rfl⟩
        case round =>
          obtain ⟨rfl, rfl⟩ := hrel
          go_wp2_with fail
          refine wp_region_bel (by kernel_rfl) (by kernel_rfl) ?_
          repeat (go_big_quiet_step (exact bel_of (hcmp.out _)))
          refine wpQuiet_nil ?_
          intro W8 hw'
          obtain ⟨⟨W9, hW8⟩, he⟩ := hw'
          change W8 = W9 at he
          subst he
          have HM8 := Lib.hid (Enc.row_under hM.out hW8)
          have HB8 := Lib.hid (hB.out.trans (But.ofBelow hW8))
          clear hW8 p0 p1 p2 p3 p4 p5 hcmp
          go_wp2_with fail
          go_roundg (n - (m + 1 + 1))
          case rel => exact ⟨m + 1 + 1, rfl, by omega, by omega, by go_num, HB8, by rw [hNX.out]; exact HM8⟩
          case measure => omega
    · have hini : (n : Int) ≤ (i : Int) := by omega
      obtain rfl : i = n := by omega
      go_wp2_with fail
      go_end0
      refine ⟨rfl, ?_, hB.out⟩
      have h1 := hM.out
      unfold srtList at h1
      rw [if_neg (by have := HN.out; omega)] at h1
      exact h1
end Go.Proofs.Ytjppommhamaibaa
