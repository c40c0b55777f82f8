/-
  The walk of Write's function value: what it makes of files; what is not its own is kept; the texts within reach.
-/
import Derived.Test.YtjppommhamaibaaDkN
import Derived.WalkLawsBesides
namespace Go.Proofs.Ytjppommhamaibaa
open Go.RowKit Go.BigFrame
set_option linter.unusedVariables false

theorem fl_store1 {w : World} {base g n c : Nat} {L : List Fl} {k : Nat} (h : w.ownsRow base 32 3 (.slice (some ⟨g, 0, none⟩) n c) n (flE.cells L)) (hk : k < L.length) (t : ByteArray) :
    (w.setCell ⟨g, k * 3 + 2, none⟩ (.string t)).ownsRow base 32 3 (.slice (some ⟨g, 0, none⟩) n c) n (flE.cells (L.set k ⟨L[k].nm, L[k].sy, t⟩)) ∧ w.grownBy (w.setCell ⟨g, k * 3 + 2, none⟩ (.string t)) (some g) := by
  obtain ⟨h1, g1⟩ := h.stored (k * 3 + 2) (.string t)
  refine ⟨?_, g1⟩
  have e1 : (flE.cells L).set (k * 3 + 2) (.string t) = flE.cells (L.set k ⟨L[k].nm, L[k].sy, t⟩) := Enc.cells_set flE (j := 2) (by decide) L k hk rfl
  rw [e1] at h1
  exact h1
theorem wrote_at {l : List Fl} (hr : Rising l) {k : Nat} (hk : k < l.length) {nm more : ByteArray} (hnm : l[k].nm = nm) (hf : fileOf l nm = l[k]) : wrote l nm more = l.set k ⟨nm, l[k].sy, l[k].ta ++ more⟩ := by
  unfold wrote
  rw [hf, withF_set hr hk hnm.symm]
theorem wrote_new {l : List Fl} (hr : Rising l) {nm more : ByteArray} (ha : atL l nm < 0) {k : Nat} (hk : k ≤ l.length) (h1 : ∀ j (h : j < l.length), k ≤ j → ltN nm l[j].nm = true) (h2 : ∀ (h : 0 < k), ltN nm (l[k - 1]'(by omega)).nm = false) :
    wrote l nm more = insAt l k ⟨nm, ⟨#[]⟩, (⟨#[]⟩ : ByteArray) ++ more⟩ := by
  obtain ⟨_, hn, hw⟩ := atL_no ha
  unfold wrote withF
  rw [hn, hw]
  refine insF_at hk (fun j hj hjk => ?_) (fun h => h1 k h (Nat.le_refl _))
  have h3 := h2 (by omega)
  by_cases hj1 : j = k - 1
  · subst hj1; exact h3
  · cases hq : ltN nm l[j].nm with
    | false => rfl
    | true =>
      have h4 := List.pairwise_iff_getElem.1 hr j (k - 1) hj (by omega) (by omega)
      have h5 := ltN_trans hq h4
      rw [h3] at h5
      cases h5

set_option maxHeartbeats 2000000 in
theorem put_old (l : List Fl) (k Bat Bn Bm : Nat) (nm more : ByteArray) (S : Nat → Prop) (w : World) (hk : k < l.length) (h8 : l.length ≤ 1000000) (hs : l[k].ta.size + more.size ≤ maxLen)
    (h1 : One w Bat 3 (.int .i64 (k : Int))) (h3 : One w Bm 9 (.string more)) :
    FsFn 34 #[.pointer (some ⟨Bat, 0, none⟩), .pointer (some ⟨Bn, 0, none⟩), .pointer (some ⟨Bm, 0, none⟩)] l (l.set k ⟨l[k].nm, l[k].sy, l[k].ta ++ more⟩) S w := by
  intro W v base hb h0 hbs hrow
  show Calls Try.prog 34 #[v, .pointer (some ⟨Bat, 0, none⟩), .pointer (some ⟨Bn, 0, none⟩), .pointer (some ⟨Bm, 0, none⟩)] W _
  obtain ⟨a, c, rfl⟩ := own_shape hrow
  obtain ⟨g, rfl, hg1, hg2⟩ := own_some hrow (by omega)
  obtain ⟨c0, c1, c2, hz⟩ := own_file hrow hk
  have z2 := hz (k * 3 + 2)
  have hcB : W.cell? ⟨Bat, 0, none⟩ = some (.int .i64 (k : Int)) := (h1.below hb).cell
  have hcM : W.cell? ⟨Bm, 0, none⟩ = some (.string more) := (h3.below hb).cell
  have HST := Lib.hid (fun t => fl_store1 hrow hk t)
  obtain ⟨n, hn⟩ : ∃ n, n = l.length := ⟨_, rfl⟩
  have hki : (k : Int) < (n : Int) := by omega
  have HN := Lib.hid hn
  have hn8 : n ≤ 1000000 := by omega
  rw [← hn] at HST ⊢
  clear hrow hz hn h1 h3
  have hlen : Hid ((l.set k ⟨l[k].nm, l[k].sy, l[k].ta ++ more⟩).length = n) := Lib.hid (by rw [List.length_set]; exact HN.out.symm)
  generalize hl' : l.set k ⟨l[k].nm, l[k].sy, l[k].ta ++ more⟩ = L at hlen ⊢
  have HL' := Lib.hid hl'
  clear hl'
  generalize l[k] = o at *
  obtain ⟨o0, o1, o2⟩ := o
  dsimp only at *
  unfold maxLen at hs
  have hki0 : ¬ ((k : Int) < 0) := by omega
  go_enter Try.func34, Try.ntmps34
  go_wp2_with fail
  go_big_region
  go_wp2_with fail
  go_ret
  obtain ⟨r1, r2⟩ := HST.out (o2 ++ more)
  refine ⟨_, rfl, ?_, ?_⟩
  · rw [hlen.out, ← HL'.out]
    exact r1
  · exact (But.ofGrown r2).mono (fun i hi e => .inr (by cases e; exact hg1)) |>.drewN 1

theorem One.set {w : World} {b : Nat} {t : TypeId} {v : Value} (h : One w b t v) (u : Value) : One (w.setCell ⟨b, 0, none⟩ u) b t u := one_setCell h
theorem insAt_length (l : List Fl) {i : Nat} (x : Fl) (h : i ≤ l.length) : (insAt l i x).length = l.length + 1 := by
  unfold insAt
  rw [List.length_append, List.length_cons, List.length_take, List.length_drop]; omega
theorem insAt_at (l : List Fl) {i : Nat} (x : Fl) (h : i ≤ l.length) : (insAt l i x)[i]'(by rw [insAt_length l x h]; omega) = x := by
  unfold insAt
  rw [List.getElem_append_right (by rw [List.length_take]; omega)]
  simp [List.length_take, Nat.min_eq_left h]
theorem insAt_set (l : List Fl) {i : Nat} (x y : Fl) (h : i ≤ l.length) : (insAt l i x).set i y = insAt l i y := by
  unfold insAt
  have hl : (l.take i).length = i := by rw [List.length_take]; omega
  rw [List.set_append_right _ _ (by omega), hl, Nat.sub_self, List.set_cons_zero]

set_option maxHeartbeats 4000000 in
theorem put_new (l : List Fl) (at_ : Int) (Bat Bn Bm : Nat) (nm more : ByteArray) (w : World) (hr : Rising l) (ha : atL l nm = at_) (hat : at_ < 0) (h8 : l.length ≤ 100000) (hs : more.size ≤ maxLen)
    (h1 : One w Bat 3 (.int .i64 at_)) (h2 : One w Bn 9 (.string nm)) (h3 : One w Bm 9 (.string more)) (hn1 : Bat ≠ Bn) (hn2 : Bat ≠ Bm) :
    FsFn 34 #[.pointer (some ⟨Bat, 0, none⟩), .pointer (some ⟨Bn, 0, none⟩), .pointer (some ⟨Bm, 0, none⟩)] l (wrote l nm more) (fun i => i = Bat) w := by
  intro W v base hb h0 hbs hrow
  show Calls Try.prog 34 #[v, .pointer (some ⟨Bat, 0, none⟩), .pointer (some ⟨Bn, 0, none⟩), .pointer (some ⟨Bm, 0, none⟩)] W _
  obtain ⟨a, c, rfl⟩ := own_shape hrow
  have HA := Lib.hid (h1.below hb)
  have HNM := Lib.hid (h2.below hb)
  have HMO := Lib.hid (h3.below hb)
  have hBat : Bat < base := by have := h1.lt; omega
  have hBm : Bm < base := by have := h3.lt; omega
  have hw := Lib.hid (fun (k : Nat) (hk : k ≤ l.length) (q1 : ∀ j (h : j < l.length), k ≤ j → ltN nm l[j].nm = true) (q2 : ∀ (h : 0 < k), ltN nm (l[k - 1]'(by omega)).nm = false) => wrote_new (more := more) hr (by rw [ha]; exact hat) hk q1 q2)
  have HNE := Lib.hid (atL_no (by rw [ha]; exact hat)).1
  obtain ⟨n, hn⟩ : ∃ n, n = l.length := ⟨_, rfl⟩
  have HN := Lib.hid hn
  rw [← hn] at hrow h8
  have HR := Lib.hid hrow
  have HBS := Lib.hid hbs
  rw [← hn]
  obtain ⟨WR, hWR⟩ : ∃ WR, WR = wrote l nm more := ⟨_, rfl⟩
  rw [← hWR] at hw ⊢
  unfold maxLen at hs
  have a0 := HA.out.cell
  have a1 := HA.out.free
  have hne1 : Bn ≠ Bat := fun e => hn1 e.symm
  have hne2 : Bm ≠ Bat := fun e => hn2 e.symm
  clear hn h1 h2 h3 hb hrow hbs ha h0 hr hWR
  go_enter Try.func34, Try.ntmps34
  go_wp2_with fail
  have HA1 := Lib.hid (HA.out.set (.int .i64 (n : Int)))
  have HG1 := Lib.hid (grown_setCell W Bat 0 (.int .i64 (n : Int)))
  generalize W.setCell ⟨Bat, 0, none⟩ (.int .i64 (n : Int)) = W1 at HA1 HG1 ⊢
  clear a0 a1
  go_loopg [22] n (fun gk v22 wr => ∃ k : Nat, k ≤ n ∧ gk = k ∧ Hid (One wr Bat 3 (.int .i64 (k : Int))) ∧ Hid (W.grownBy wr (some Bat)) ∧ Hid (∀ j (h : j < l.length), k ≤ j → ltN nm l[j].nm = true))
  case atStart => exact ⟨n, Nat.le_refl _, rfl, HA1, HG1, Lib.hid (fun j h hj => by have := HN.out; omega)⟩
  case round =>
    obtain ⟨k, hk, hgk, hA, hG, hall⟩ := hrel
    have hgk := hgk.symm
    subst hgk
    clear HA1 HG1
    have a0 := hA.out.cell
    have a1 := hA.out.free
    have n0 := (HNM.out.grown hG.out (by simpa using hne1)).cell
    have HRr := Lib.hid (HR.out.kept hG.out (.inr fun e => by have := (HR.out.lt _ e).1; omega))
    rcases k with _ | j
    · have hd0 : decide ((0 : Int) < (0 : Int)) = false := by decide
      go_wp2_with fail
      go_quiet (fail)
      go_wp2_with fail
      have hsz5 : base ≤ wr.heap.size := by have h1 := hG.out.size; have h2 := HBS.out; omega
      have hi5 := insert_any a n c base l 0 ⟨nm, ⟨#[]⟩, ⟨#[]⟩⟩ wr.heap.size ((wr.drewN nq).alloc (.cells #[.string nm, .string ⟨#[]⟩, .string ⟨#[]⟩] 32)) (World.ownsRow.alloc (w := wr.drewN nq) HRr.out _) hk (by omega) (by simp; exact Nat.le_succ_of_le hsz5) (heap_alloc_new (wr.drewN nq) _) (fun p hp e => by have h1 := (HRr.out.lt p.block (by rw [hp]; rfl)).2; omega)
      have hA5 := Lib.hid (One.alloc (One.drewN hA.out nq) (.cells #[.string nm, .string ⟨#[]⟩, .string ⟨#[]⟩] 32))
      have hM5 := Lib.hid (One.alloc (One.drewN (HMO.out.grown hG.out (by simpa using hne2)) nq) (.cells #[.string nm, .string ⟨#[]⟩, .string ⟨#[]⟩] 32))
      have hB5 : Hid (But (fun i => i = Bat ∨ base ≤ i) W ((wr.drewN nq).alloc (.cells #[.string nm, .string ⟨#[]⟩, .string ⟨#[]⟩] 32))) := Lib.hid (((But.ofGrown hG.out).drewN nq).mono (fun i _ e => .inl (by cases e; rfl)) |>.trans (But.ofBelow ((Below.refl _ _).alloc (Nat.le_refl _) _)))
      refine hi5.mono ?_
      clear hi5
      rintro e w5 ⟨v5, rfl, ho5, hb5⟩
      obtain ⟨L, hL⟩ : ∃ L, L = insAt l 0 ⟨nm, ⟨#[]⟩, ⟨#[]⟩⟩ := ⟨_, rfl⟩
      have hkl : 0 ≤ l.length := by have := HN.out; omega
      have hLn : L.length = n + 1 := by rw [hL, insAt_length l _ hkl, HN.out]
      rw [← hL, ← hLn] at ho5
      obtain ⟨a5, c5, rfl⟩ := own_shape ho5
      obtain ⟨g5, rfl, hg1, hg2⟩ := own_some ho5 (by omega)
      have hKL : 0 < L.length := by rw [hLn]; omega
      have hLK : L[0] = ⟨nm, ⟨#[]⟩, ⟨#[]⟩⟩ := by subst hL; exact insAt_at l _ hkl
      obtain ⟨c0, c1, c2, hz⟩ := own_file ho5 hKL
      rw [hLK] at c0 c1 c2
      have z2 := hz (0 * 3 + 2)
      have HST := Lib.hid (fl_store1 ho5 hKL more)
      have a5' := (hb5.one hA5.out (by omega)).cell
      have m5 := (hb5.one hM5.out (by omega)).cell
      have HB6 := Lib.hid (hB5.out.trans (hb5.mono (T := fun i => i = Bat ∨ base ≤ i) (fun i _ e => .inr e)))
      have HLK := Lib.hid hLK
      have HL := Lib.hid hL
      have HLN := Lib.hid hLn
      have hw5 := hw.out 0 hkl (fun j h _ => hall.out j h (Nat.zero_le _)) (fun h => absurd h (by decide))
      have HW5 := Lib.hid hw5
      obtain ⟨n5, hn5⟩ : ∃ n5, n5 = L.length := ⟨_, rfl⟩
      rw [← hn5] at HST ⊢
      have hki5 : (0 : Int) < (n5 : Int) := by have := HLN.out; omega
      have hn58 : n5 ≤ 1000000 := by have := HLN.out; omega
      have HN5 := Lib.hid hn5
      clear hw5 hL hLn hLK hz ho5 hb5 hn5 hA5 hM5 hB5 hw hall
      dsimp only at c0 c1 c2
      go_wp2_with fail
      go_big_region
      go_wp2_with fail
      go_ret
      obtain ⟨r1, r2⟩ := HST.out
      refine ⟨_, rfl, ?_, ?_⟩
      · have e1 : WR = L.set 0 ⟨nm, ⟨#[]⟩, more⟩ := by
          rw [HW5.out, HL.out, insAt_set l _ _ (by have := HN.out; omega)]
          congr 2
          all_goals (apply ba_ext; simp)
        have e2 : WR.length = n5 := by rw [e1, List.length_set, HN5.out]
        rw [e2, e1]
        rw [HLK.out] at r1
        exact r1
      · exact HB6.out.trans ((But.ofGrown r2).mono (fun i _ e => .inr (by cases e; exact hg1)) |>.drewN 1)
    · obtain ⟨g, rfl, hg1, hg2⟩ := own_some HRr.out (by omega)
      have hjl : j < l.length := by have := HN.out; omega
      have HRl : Hid (wr.ownsRow base 32 3 (.slice (some ⟨g, 0, none⟩) l.length c) l.length (flE.cells l)) := Lib.hid (by have h1 := HRr.out; rw [HN.out] at h1; exact h1)
      obtain ⟨c0, -, -, -⟩ := own_file HRl.out hjl
      have hjj : (0 : Int) < ((j + 1 : Nat) : Int) := by omega
      have hjn : (j : Int) < (n : Int) := by omega
      cases hq : ltN nm l[j].nm with
      | true =>
        have hq2 : Op.bytesLess l[j].nm.toList nm.toList = false := ltN_asymm hq
        have hq3 := toList_ne (HNE.out l[j] (List.getElem_mem hjl))
        have hall2 : Hid (∀ i (h : i < l.length), j ≤ i → ltN nm l[i].nm = true) := Lib.hid fun i h hi => by
          by_cases hij : i = j
          · subst hij; exact hq
          · exact hall.out i h (by omega)
        clear hq hall
        generalize l[j] = o at *
        obtain ⟨o0, o1, o2⟩ := o
        dsimp only at *
        go_wp2_with fail
        go_quiet (fail)
        go_wp2_with fail
        have HA2 := Lib.hid ((One.drewN hA.out nq).set (.int .i64 (j : Int)))
        have HG2 := Lib.hid (grown_trans (grown_drewN hG.out nq) (grown_setCell (wr.drewN nq) Bat 0 (.int .i64 (j : Int))))
        go_roundg j
        case rel => exact ⟨j, by omega, rfl, HA2, HG2, hall2⟩
        case measure => omega
      | false =>
        have hq2 : Op.bytesLess l[j].nm.toList nm.toList = true := ltN_total (fun e => HNE.out l[j] (List.getElem_mem hjl) e.symm) hq
        have HQ := Lib.hid hq
        clear hq
        generalize hoo : l[j] = o at c0 hq2
        have HOO := Lib.hid hoo
        clear hoo
        obtain ⟨o0, o1, o2⟩ := o
        dsimp only at *
        go_wp2_with fail
        go_quiet (fail)
        go_wp2_with fail
        have hsz5 : base ≤ wr.heap.size := by have h1 := hG.out.size; have h2 := HBS.out; omega
        have hi5 := insert_any (some ⟨g, 0, none⟩) n c base l (j + 1) ⟨nm, ⟨#[]⟩, ⟨#[]⟩⟩ wr.heap.size ((wr.drewN nq).alloc (.cells #[.string nm, .string ⟨#[]⟩, .string ⟨#[]⟩] 32)) (World.ownsRow.alloc (w := wr.drewN nq) HRr.out _) hk (by omega) (by simp; exact Nat.le_succ_of_le hsz5) (heap_alloc_new (wr.drewN nq) _) (fun p hp e => by have h1 := (HRr.out.lt p.block (by rw [hp]; rfl)).2; omega)
        have hA5 := Lib.hid (One.alloc (One.drewN hA.out nq) (.cells #[.string nm, .string ⟨#[]⟩, .string ⟨#[]⟩] 32))
        have hM5 := Lib.hid (One.alloc (One.drewN (HMO.out.grown hG.out (by simpa using hne2)) nq) (.cells #[.string nm, .string ⟨#[]⟩, .string ⟨#[]⟩] 32))
        have hB5 : Hid (But (fun i => i = Bat ∨ base ≤ i) W ((wr.drewN nq).alloc (.cells #[.string nm, .string ⟨#[]⟩, .string ⟨#[]⟩] 32))) := Lib.hid (((But.ofGrown hG.out).drewN nq).mono (fun i _ e => .inl (by cases e; rfl)) |>.trans (But.ofBelow ((Below.refl _ _).alloc (Nat.le_refl _) _)))
        refine hi5.mono ?_
        clear hi5
        rintro e w5 ⟨v5, rfl, ho5, hb5⟩
        obtain ⟨L, hL⟩ : ∃ L, L = insAt l (j + 1) ⟨nm, ⟨#[]⟩, ⟨#[]⟩⟩ := ⟨_, rfl⟩
        have hkl : (j + 1) ≤ l.length := by have := HN.out; omega
        have hLn : L.length = n + 1 := by rw [hL, insAt_length l _ hkl, HN.out]
        rw [← hL, ← hLn] at ho5
        obtain ⟨a5, c5, rfl⟩ := own_shape ho5
        obtain ⟨g5, rfl, hg1, hg2⟩ := own_some ho5 (by omega)
        have hKL : (j + 1) < L.length := by rw [hLn]; omega
        have hLK : L[(j + 1)] = ⟨nm, ⟨#[]⟩, ⟨#[]⟩⟩ := by subst hL; exact insAt_at l _ hkl
        obtain ⟨c0, c1, c2, hz⟩ := own_file ho5 hKL
        rw [hLK] at c0 c1 c2
        have z2 := hz ((j + 1) * 3 + 2)
        have HST := Lib.hid (fl_store1 ho5 hKL more)
        have a5' := (hb5.one hA5.out (by omega)).cell
        have m5 := (hb5.one hM5.out (by omega)).cell
        have HB6 := Lib.hid (hB5.out.trans (hb5.mono (T := fun i => i = Bat ∨ base ≤ i) (fun i _ e => .inr e)))
        have HLK := Lib.hid hLK
        have HL := Lib.hid hL
        have HLN := Lib.hid hLn
        have hw5 := hw.out (j + 1) hkl hall.out (fun h => by simpa using HQ.out)
        have HW5 := Lib.hid hw5
        obtain ⟨n5, hn5⟩ : ∃ n5, n5 = L.length := ⟨_, rfl⟩
        rw [← hn5] at HST ⊢
        have hki5 : (((j + 1 : Nat) : Int)) < (n5 : Int) := by have := HLN.out; omega
        have hn58 : n5 ≤ 1000000 := by have := HLN.out; omega
        have HN5 := Lib.hid hn5
        clear hw5 hL hLn hLK hz ho5 hb5 hn5 hA5 hM5 hB5 hw hall
        dsimp only at c0 c1 c2
        go_wp2_with fail
        go_big_region
        go_wp2_with fail
        go_ret
        obtain ⟨r1, r2⟩ := HST.out
        refine ⟨_, rfl, ?_, ?_⟩
        · have e1 : WR = L.set (j + 1) ⟨nm, ⟨#[]⟩, more⟩ := by
            rw [HW5.out, HL.out, insAt_set l _ _ (by have := HN.out; omega)]
            congr 2
            all_goals (apply ba_ext; simp)
          have e2 : WR.length = n5 := by rw [e1, List.length_set, HN5.out]
          rw [e2, e1]
          rw [HLK.out] at r1
          exact r1
        · exact HB6.out.trans ((But.ofGrown r2).mono (fun i _ e => .inr (by cases e; exact hg1)) |>.drewN 1)
end Go.Proofs.Ytjppommhamaibaa
