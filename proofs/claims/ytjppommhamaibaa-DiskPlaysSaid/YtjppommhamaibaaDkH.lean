/-
  The walk of Crash: new blocks alone are made; the texts within reach.
-/
import Derived.Test.YtjppommhamaibaaDkG
import Derived.RegionTactic
import Derived.BigRegion
namespace Go.Proofs.Ytjppommhamaibaa
open Go.RowKit Go.BigFrame
set_option linter.unusedVariables false

theorem Enc.cells_set {α : Type} (E : Enc α) {x : α} {j : Nat} {u : Value} (hj : j < E.k) : ∀ (l : List α) (i : Nat) (hi : i < l.length), E.enc x = (E.enc l[i]).set j u → (E.cells l).set (i * E.k + j) u = E.cells (l.set i x)
  | y :: r, 0, _, h => by
    rw [Nat.zero_mul, Nat.zero_add, E.cells_cons, List.set_append_left _ _ (by rw [E.len]; exact hj)]
    rw [List.set_cons_zero, E.cells_cons, h]
    rfl
  | y :: r, i + 1, hi, h => by
    have ih := cells_set E hj r i (by simpa using hi) (by simpa using h)
    rw [E.cells_cons, List.set_append_right _ _ (by rw [E.len, Nat.add_mul]; omega), E.len, List.set_cons_succ, E.cells_cons, ← ih]
    congr 2
    rw [Nat.add_mul, Nat.one_mul]; omega
theorem own_some {w : World} {base : Nat} {e : TypeId} {size n c k : Nat} {a : Option Addr} {xs : List Value} (h : w.ownsRow base e size (.slice a n c) k xs) (h0 : 0 < n) : ∃ g, a = some ⟨g, 0, none⟩ ∧ base ≤ g ∧ g < w.heap.size := by
  rcases h.2 with ⟨hv, _⟩ | ⟨g, cap, cur, hv, hb, hg, _⟩
  · cases hv; omega
  · cases hv; exact ⟨g, rfl, hb, lt_of_block hg⟩
theorem DkAt.row {w : World} {base n c k : Nat} {a : Option Addr} {d : Dk} (h : w.ownsRow base 32 3 (.slice a n c) k (flE.cells d.files)) (hr : rightD d = true) : DkAt w a n c d ∧ ∀ x, a = some x → base ≤ x.block := by
  have hk : k = n := by rcases h.2 with ⟨hv, h0⟩ | ⟨g, cap, cur, hv, _⟩ <;> · cases hv; (first | rfl | exact h0)
  subst hk
  obtain ⟨a', c', he, h1, h2, h3, h4, h5⟩ := Enc.own_sl (E := flE) h
  cases he
  have hcm := own_cm h
  obtain ⟨⟨a0, a1⟩, h8, b0, b1⟩ := rightD_nums hr
  refine ⟨⟨h2, h4, hcm, h5, by omega, fun f hf => ?_, by omega, by omega⟩, h3⟩
  obtain ⟨s1, s2⟩ := right_small hr f hf
  exact ⟨by omega, by omega, by omega⟩
theorem fl_store2 {w : World} {base g n c : Nat} {L : List Fl} {k : Nat} (h : w.ownsRow base 32 3 (.slice (some ⟨g, 0, none⟩) n c) n (flE.cells L)) (hk : k < L.length) (s t : ByteArray) :
    ((w.setCell ⟨g, k * 3 + 1, none⟩ (.string s)).setCell ⟨g, k * 3 + 2, none⟩ (.string t)).ownsRow base 32 3 (.slice (some ⟨g, 0, none⟩) n c) n (flE.cells (L.set k ⟨L[k].nm, s, t⟩)) ∧
    w.grownBy ((w.setCell ⟨g, k * 3 + 1, none⟩ (.string s)).setCell ⟨g, k * 3 + 2, none⟩ (.string t)) (some g) := by
  obtain ⟨h1, g1⟩ := h.stored (k * 3 + 1) (.string s)
  obtain ⟨h2, g2⟩ := h1.stored (k * 3 + 2) (.string t)
  refine ⟨?_, grown_trans g1 g2⟩
  have e1 : (flE.cells L).set (k * 3 + 1) (.string s) = flE.cells (L.set k ⟨L[k].nm, s, L[k].ta⟩) := Enc.cells_set flE (j := 1) (by decide) L k hk rfl
  have e2 : (flE.cells (L.set k ⟨L[k].nm, s, L[k].ta⟩)).set (k * 3 + 2) (.string t) = flE.cells ((L.set k ⟨L[k].nm, s, L[k].ta⟩).set k ⟨L[k].nm, s, t⟩) := Enc.cells_set flE (j := 2) (by decide) _ k (by simpa using hk) (by simp [flE])
  rw [e1, e2, List.set_set] at h2
  exact h2
/-- What a round of Crash leaves. -/
theorem crash_round {w wr : World} {base g n c k m : Nat} {L : List Fl} {rm lf : Int} {dn : Bool} {f : Fl} (s : ByteArray) (hs : s = f.sy ++ f.ta.extract 0 m)
    (hW : Below w.heap.size w wr) (hP : Four wr w.heap.size 24 (.int .i64 rm) (.slice (some ⟨g, 0, none⟩) n c) (.int .i64 lf) (.bool dn)) (hQ : outBox wr (w.heap.size + 1))
    (hM : wr.ownsRow base 32 3 (.slice (some ⟨g, 0, none⟩) n c) n (flE.cells L)) (hk : k < L.length) (hf : L[k].nm = f.nm) (hb : w.heap.size + 1 < g) (L' : List Fl) (hL : L.set k ⟨f.nm, f.sy ++ f.ta.extract 0 m, ⟨#[]⟩⟩ = L') (W : World) (hw : W = (wr.setCell ⟨g, k * 3 + 1, none⟩ (.string s)).setCell ⟨g, k * 3 + 2, none⟩ (.string ⟨#[]⟩)) (q : Nat) :
    Hid (Below w.heap.size w (W.drewN q)) ∧ Hid (Four (W.drewN q) w.heap.size 24 (.int .i64 rm) (.slice (some ⟨g, 0, none⟩) n c) (.int .i64 lf) (.bool dn)) ∧ Hid (outBox (W.drewN q) (w.heap.size + 1)) ∧
      Hid ((W.drewN q).ownsRow base 32 3 (.slice (some ⟨g, 0, none⟩) n c) n (flE.cells L')) := by
  subst hw hs
  obtain ⟨h1, h2⟩ := fl_store2 hM hk (f.sy ++ f.ta.extract 0 m) ⟨#[]⟩
  rw [hf, hL] at h1
  refine ⟨Lib.hid (below_drewN ((hW.setCell (by simp; omega) _).setCell (by simp; omega) _) q), Lib.hid (Four.drewN (Four.kept hP h2 (by simp; omega)) q), Lib.hid (Four.drewN (Four.kept hQ h2 (by simp; omega)) q), Lib.hid ?_⟩
  exact h1
theorem extract_zero (a : ByteArray) : a.extract 0 0 = ⟨#[]⟩ := by
  apply ba_ext
  rw [Lib.extract_data]; simp
def crashUp (keep : List Int) (k : Nat) (l : List Fl) : List Fl := (crashF keep 0 l).take k ++ l.drop k
theorem crashUp_length (keep : List Int) (k : Nat) (l : List Fl) : (crashUp keep k l).length = l.length := by
  unfold crashUp
  rw [List.length_append, List.length_take, crashF_length, List.length_drop]; omega
theorem crashUp_zero (keep : List Int) (l : List Fl) : crashUp keep 0 l = l := rfl
theorem crashUp_all (keep : List Int) {k : Nat} {l : List Fl} (h : l.length ≤ k) : crashUp keep k l = crashF keep 0 l := by
  unfold crashUp
  rw [List.take_of_length_le (by rw [crashF_length]; exact h), List.drop_of_length_le h, List.append_nil]
theorem crashUp_at (keep : List Int) {k : Nat} {l : List Fl} (hk : k < l.length) : (crashUp keep k l)[k]'(by rw [crashUp_length]; exact hk) = l[k] := by
  unfold crashUp
  rw [List.getElem_append_right (by rw [List.length_take, crashF_length]; omega), List.getElem_drop]
  congr 1
  rw [List.length_take, crashF_length]; omega
theorem crashUp_next (keep : List Int) {k : Nat} {l : List Fl} (hk : k < l.length) : (crashUp keep k l).set k ⟨l[k].nm, l[k].sy ++ l[k].ta.extract 0 (keepN keep k l[k]), ⟨#[]⟩⟩ = crashUp keep (k + 1) l := by
  have h1 := crashF_get keep 0 l k hk
  rw [Nat.zero_add] at h1
  have hl : k < (crashF keep 0 l).length := by rw [crashF_length]; exact hk
  have h2 : (crashF keep 0 l)[k] = ⟨l[k].nm, l[k].sy ++ l[k].ta.extract 0 (keepN keep k l[k]), ⟨#[]⟩⟩ := (List.getElem?_eq_some_iff.1 h1).2
  unfold crashUp
  have hlt : ((crashF keep 0 l).take k).length = k := by rw [List.length_take, crashF_length]; omega
  rw [List.set_append_right _ _ (by omega), hlt, Nat.sub_self, List.drop_eq_getElem_cons hk, List.set_cons_zero, List.take_succ_eq_append_getElem hl, h2, List.append_assoc]
  rfl
theorem keepN_none {keep : List Int} {i : Nat} (f : Fl) (h : keep.length ≤ i) : keepN keep i f = 0 := by
  unfold keepN; rw [List.getElem?_eq_none h]
theorem keepN_some {keep : List Int} {i : Nat} (f : Fl) (h : i < keep.length) : keepN keep i f = min keep[i].toNat f.ta.size := by
  unfold keepN; rw [List.getElem?_eq_getElem h]

set_option maxHeartbeats 1000000 in
theorem crash_wrong (a : Option Addr) (n c : Nat) (d : Dk) (ak : Option Addr) (nk ck : Nat) (w : World) (h : DkAt w a n c d) (hr : rightD d = false) :
    Calls Try.prog 8 #[d.val a n c, .slice ak nk ck] w (RetDk w (Dk.zero, 1)) := by
  have hc := Lib.hid (h.right (twoW w d a n c) (two_below w d a n c) false hr)
  have HA := Lib.hid (two_below w d a n c)
  have HB := Lib.hid (two_box w d a n c)
  have HO := Lib.hid (two_out w d a n c)
  clear h hr
  unfold twoW at *
  obtain ⟨rm, l, lf, dn⟩ := d
  unfold Dk.val at *
  dsimp only at *
  go_enter Try.func8, Try.ntmps8
  go_wp2_with fail
  refine hc.out.mono ?_
  rintro e w1 ⟨rfl, hb1⟩
  have HB1 := Lib.hid (below_then HA.out hb1 HA.out.size)
  have o1 := Four.keep HO.out hb1
  have e0 := o1.c0; have e1 := o1.c1; have e2 := o1.c2; have e3 := o1.c3
  have g0 := o1.free 0; have g1 := o1.free 1; have g2 := o1.free 2; have g3 := o1.free 3
  clear hb1 o1
  go_wp2_with fail
  refine bodyPost_ret (v := .tuple #[.agg #[.int .i64 0, .slice none 0 0, .int .i64 0, .bool false], .int .i64 1]) ?_ rfl ?_
  · rw [results_cell_tmp rfl]; go_simp
  · exact RetDk.zero4 1 _ HB1.out (by omega)

set_option maxHeartbeats 2000000 in
theorem crash_ok (a : Option Addr) (n c : Nat) (d : Dk) (ak : Option Addr) (nk ck : Nat) (keep : List Int) (w : World) (h : DkAt w a n c d) (hk : SlAt w ak nk (i64s keep)) (hkn : nk ≤ 100000000000000) (hr : rightD d = true) :
    Calls Try.prog 8 #[d.val a n c, .slice ak nk ck] w (RetDk w (crashed d keep, 0)) := by
  have hc := Lib.hid (h.right (twoW w d a n c) (two_below w d a n c) true hr)
  have HA := Lib.hid (two_below w d a n c)
  have HB := Lib.hid (two_box w d a n c)
  have HO := Lib.hid (two_out w d a n c)
  have HL := Lib.hid (crash_right hr keep)
  have HS := Lib.hid (right_small hr)
  have HK := Lib.hid hk
  have hn8 : n ≤ 8 := by have := h.len; have := (rightD_nums hr).2.1; omega
  have HN := Lib.hid h.len
  have hcl := Lib.hid (fun (W : World) (hb : Below w.heap.size w W) => clone_any a n c d.files W (h.sl.keep hb) (by omega) h.cn)
  clear h hr hk
  unfold twoW at *
  obtain ⟨rm, l, lf, dn⟩ := d
  unfold Dk.val at *
  dsimp only at *
  go_enter Try.func8, Try.ntmps8
  go_wp2_with fail
  refine hc.out.mono ?_
  rintro e w1 ⟨rfl, hb1⟩
  have HB1 := Lib.hid (below_then HA.out hb1 HA.out.size)
  have hz1 : w.heap.size + 1 < w1.heap.size := by have := hb1.size; simp at this; omega
  have o1 := Four.keep HO.out hb1
  have p1 := Four.keep HB.out hb1
  have q0 := p1.c0; have q1 := p1.c1; have q2 := p1.c2; have q3 := p1.c3
  have O1 := Lib.hid o1
  have P1 := Lib.hid p1
  clear hb1 o1 p1
  go_wp2_with fail
  refine (hcl.out w1 HB1.out).mono ?_
  rintro e w2 ⟨v, rfl, ho⟩
  obtain ⟨a2, n2, c2, rfl, -⟩ : ∃ a2 n2 c2, v = .slice a2 n2 c2 ∧ True := by
    obtain ⟨a, c, rfl, _⟩ := Enc.own_sl (E := flE) ho.1
    exact ⟨_, _, _, rfl, trivial⟩
  obtain rfl : n2 = n := by
    obtain ⟨a, c, e, _⟩ := Enc.own_sl (E := flE) ho.1
    cases e
    exact HN.out
  have HR := Lib.hid ho.1
  have HB2 := Lib.hid (below_then HB1.out ho.2 HB1.out.size)
  have o2 := Four.keep O1.out ho.2
  have p2 := Four.keep P1.out ho.2
  clear q0 q1 q2 q3
  have q0 := p2.c0; have q1 := p2.c1; have q2 := p2.c2; have q3 := p2.c3
  have f0 := p2.free 0; have f1 := p2.free 1; have f2 := p2.free 2; have f3 := p2.free 3
  have O2 := Lib.hid o2
  have P2 := Lib.hid p2
  clear ho o2 p2
  have hb2 := HB1.out
  have HW : Hid (Below w.heap.size w (w2.setCell ⟨w.heap.size, 1, none⟩ (.slice a2 n2 c2))) := Lib.hid (HB2.out.setCell (by simp) _)
  have HP : Hid (Four (w2.setCell ⟨w.heap.size, 1, none⟩ (.slice a2 n2 c2)) w.heap.size 24 (.int .i64 rm) (.slice a2 n2 c2) (.int .i64 lf) (.bool dn)) := Lib.hid (P2.out.set1 _)
  have HQ : Hid (outBox (w2.setCell ⟨w.heap.size, 1, none⟩ (.slice a2 n2 c2)) (w.heap.size + 1)) := Lib.hid (Four.kept O2.out (grown_setCell _ _ _ _) (by simp))
  have HM : Hid ((w2.setCell ⟨w.heap.size, 1, none⟩ (.slice a2 n2 c2)).ownsRow w1.heap.size 32 3 (.slice a2 n2 c2) n2 (flE.cells (crashUp keep 0 l))) := Lib.hid (by
    rw [crashUp_zero]
    have h1 := HR.out
    rw [HN.out] at h1
    refine h1.kept (grown_setCell _ _ _ _) (.inr fun e => ?_)
    have := (h1.lt _ e).1
    omega)
  clear hb2
  go_wp2_with fail
  clear q0 q1 q2 q3 f0 f1 f2 f3
  generalize (w2.setCell ⟨w.heap.size, 1, none⟩ (.slice a2 n2 c2)) = W2 at HW HP HQ HM ⊢
  go_loopg [6, 7, 8, 20] n2 (fun gk v6 v7 v8 i wr => ∃ k : Nat, k ≤ n2 ∧ gk = n2 - k ∧ i = .int .i64 (k : Int) ∧ Hid (Below w.heap.size w wr) ∧ Hid (Four wr w.heap.size 24 (.int .i64 rm) (.slice a2 n2 c2) (.int .i64 lf) (.bool dn)) ∧ Hid (outBox wr (w.heap.size + 1)) ∧ Hid (wr.ownsRow w1.heap.size 32 3 (.slice a2 n2 c2) n2 (flE.cells (crashUp keep k l))))
  case atStart => exact ⟨0, Nat.zero_le _, rfl, rfl, HW, HP, HQ, HM⟩
  case round =>
    obtain ⟨k, hk, rfl, rfl, hW, hP, hQ, hM⟩ := hrel
    clear HW HP HQ HM
    by_cases hlt : k < n2
    · have hkl : k < l.length := by rw [HN.out]; exact hlt
      have hkc : k < (crashUp keep k l).length := by rw [crashUp_length]; exact hkl
      obtain ⟨g, rfl, hg1, hg2⟩ := own_some hM.out (by omega)
      have c1 : wr.cell? ⟨g, k * 3 + 1, none⟩ = some (.string l[k].sy) := by
        rw [hM.out.cellAt (k * 3 + 1) (by omega)]; exact (Enc.cells_get flE _ k hkc 1 (by decide)).trans (by rw [crashUp_at keep hkl]; rfl)
      have c2' : wr.cell? ⟨g, k * 3 + 2, none⟩ = some (.string l[k].ta) := by
        rw [hM.out.cellAt (k * 3 + 2) (by omega)]; exact (Enc.cells_get flE _ k hkc 2 (by decide)).trans (by rw [crashUp_at keep hkl]; rfl)
      have z1 := hM.out.frozenAt (k * 3 + 1)
      have z2 := hM.out.frozenAt (k * 3 + 2)
      obtain ⟨s1, s2⟩ := HS.out l[k] (List.getElem_mem hkl)
      have hgB : g ≠ w.heap.size := by omega
      have p1 := hP.out
      have q1 := p1.c1
      clear p1
      have hki : (k : Int) < (n2 : Int) := by omega
      have hnx := Lib.hid (crashUp_next keep hkl)
      have hnm := Lib.hid (congrArg Fl.nm (crashUp_at keep hkl))
      have HKC := Lib.hid hkc
      have HKN := Lib.hid (fun h => keepN_none (keep := keep) (i := k) l[k] h)
      have HKS := Lib.hid (fun h => keepN_some (keep := keep) (i := k) l[k] h)
      generalize l[k] = o at *
      obtain ⟨o0, o1, o2⟩ := o
      dsimp only at *
      obtain ⟨m, hm⟩ : ∃ m, m = keepN keep k ⟨o0, o1, o2⟩ := ⟨_, rfl⟩
      rw [← hm] at hnx HKN HKS
      clear hm
      by_cases hkk : k < nk
      · obtain ⟨x, bk, offk, hak, ck1, hms⟩ : ∃ (x : Int) (bk offk : Nat), ak = some ⟨bk, offk, none⟩ ∧ wr.cell? ⟨bk, offk + k, none⟩ = some (.int .i64 x) ∧ Hid (m = min x.toNat o2.size) := by
          obtain ⟨hkl2, bk, offk, h1, hkc2⟩ := SlAt.i64 (HK.out.keep hW.out) (by omega)
          exact ⟨keep[k]'(by omega), bk, offk, h1, hkc2 k (by omega), Lib.hid (HKS.out (by omega))⟩
        subst hak
        have hkki : (k : Int) < (nk : Int) := by omega
        clear HKN HKS
        go_wp2_with fail
        go_quiet (fail)
        have hmi : (if (o2.size : Int) < (if x < 0 then 0 else x) then (o2.size : Int) else if x < 0 then 0 else x) = (m : Int) := by
          have := hms.out
          by_cases h1 : x < 0
          · rw [if_pos h1, if_neg (by omega)]; omega
          · rw [if_neg h1]; split <;> omega
        have hm2 : (m : Int) ≤ (o2.size : Int) := by have := hms.out; omega
        have hm3 : m ≤ o2.size := by omega
        rw [hmi]
        clear hmi
        generalize (if x < 0 then 0 else x) = y
        go_wp2_with fail
        go_big_region
        go_wp2_with fail
        obtain ⟨r1, r2, r3, r4⟩ := crash_round (wr := wr.drewN nq) (f := ⟨o0, o1, o2⟩) (m := m) (o1 ++ o2.extract 0 m) rfl (below_drewN hW.out nq) (Four.drewN hP.out nq) (Four.drewN hQ.out nq) hM.out HKC.out hnm.out (by omega) _ hnx.out _ rfl 1
        go_roundg (n2 - (k + 1))
        case rel => exact ⟨k + 1, by omega, rfl, by go_num, r1, r2, r3, r4⟩
        case measure => omega
      · have hkki : (nk : Int) ≤ (k : Int) := by omega
        have hm0 : m = 0 := HKN.out (by have := HK.out.1; rw [i64s_length] at this; omega)
        subst hm0
        go_wp2_with fail
        go_big_region
        go_wp2_with fail
        obtain ⟨r1, r2, r3, r4⟩ := crash_round (f := ⟨o0, o1, o2⟩) (m := 0) o1 (by rw [show (⟨o0, o1, o2⟩ : Fl).ta.extract 0 0 = ⟨#[]⟩ from extract_zero _]; exact (append_nil _).symm) hW.out hP.out hQ.out hM.out HKC.out hnm.out (by omega) _ hnx.out _ rfl 1
        go_roundg (n2 - (k + 1))
        case rel => exact ⟨k + 1, by omega, rfl, by go_num, r1, r2, r3, r4⟩
        case measure => omega
    · have hki : (n2 : Int) ≤ (k : Int) := by omega
      have p1 := hP.out; have o1 := hQ.out
      have e0 := o1.c0; have e1 := o1.c1; have e2 := o1.c2; have e3 := o1.c3
      have g0 := o1.free 0; have g1 := o1.free 1; have g2 := o1.free 2; have g3 := o1.free 3
      have q0 := p1.c0; have q1 := p1.c1; have q2 := p1.c2; have q3 := p1.c3
      have f0 := p1.free 0; have f1 := p1.free 1; have f2 := p1.free 2; have f3 := p1.free 3
      have hsz := hW.out.size
      clear p1 o1
      go_wp2_with fail
      refine bodyPost_ret (v := .tuple #[.agg #[.int .i64 rm, .slice a2 n2 c2, .int .i64 (-1), .bool false], .int .i64 0]) ?_ rfl ?_
      · rw [results_cell_tmp rfl]; go_simp
      · have hm := hM.out
        rw [crashUp_all keep (by have := HN.out; omega)] at hm
        obtain ⟨hd, hx⟩ := DkAt.row (d := crashed ⟨rm, l, lf, dn⟩ keep) hm HL.out
        refine ⟨a2, n2, c2, rfl, ?_, ?_⟩
        · refine DkAt.sets ((hd.set ?_ _).set ?_ _) ?_ _ _ _ _
          all_goals intro x hx2 he; have := hx x hx2; omega
        · exact four_sets ((hW.out.setCell (by simp) _).setCell (by simp) _) (by omega) _ _ _ _
theorem crash_any (a : Option Addr) (n c : Nat) (d : Dk) (ak : Option Addr) (nk ck : Nat) (keep : List Int) (w : World) (h : DkAt w a n c d) (hk : SlAt w ak nk (i64s keep)) (hkn : nk ≤ 100000000000000) :
    Calls Try.prog 8 #[d.val a n c, .slice ak nk ck] w (RetDk w (crashD d keep)) := by
  unfold crashD
  cases hr : rightD d with
  | false => rw [if_pos rfl]; exact crash_wrong a n c d ak nk ck w h hr
  | true => rw [if_neg (by simp)]; exact crash_ok a n c d ak nk ck keep w h hk hkn hr
end Go.Proofs.Ytjppommhamaibaa
