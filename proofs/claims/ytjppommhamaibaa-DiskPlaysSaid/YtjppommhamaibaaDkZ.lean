/-
  The walks of slices.SortFunc and of Rename's function value; what is not their own is kept; the texts within reach.
-/
import Derived.Test.YtjppommhamaibaaDkY
namespace Go.Proofs.Ytjppommhamaibaa
open Go.RowKit Go.BigFrame
set_option linter.unusedVariables false

set_option maxRecDepth 100000 in
set_option maxHeartbeats 1000000 in
theorem pdq_any (g n c base : Nat) (lim : Int) (W : List Fl) (x : Fl) (w : World) (h : w.ownsRow base 32 3 (.slice (some ⟨g, 0, none⟩) n c) n (flE.cells (W ++ [x]))) (hn : n ≤ 12) (hr : Rising W) (hbase : base ≤ w.heap.size) :
    Calls Try.prog 54 #[.slice (some ⟨g, 0, none⟩) n c, .int .i64 0, .int .i64 (n : Int), .int .i64 lim, .func (.func 43) #[] #[]] w fun e w' =>
      e = .returned (.tuple #[]) ∧ w'.ownsRow base 32 3 (.slice (some ⟨g, 0, none⟩) n c) n (flE.cells (insF x W)) ∧ But (fun i => i = g) w w' := by
  have H := Lib.hid (insSort_any g n c base W x w h (by omega) hr hbase)
  have hn0 : (0 : Int) ≤ (n : Int) := by omega
  have hni : (n : Int) ≤ 12 := by omega
  clear h hr
  go_enter Try.func54, Try.ntmps54
  go_wp2_with fail
  go_loopg [1, 2] 0 (fun gk v1 v2 wr => v1 = .int .i64 0 ∧ v2 = .int .i64 (n : Int) ∧ w = wr)
  case atStart => exact ⟨rfl, rfl, rfl⟩
  case round =>
    obtain ⟨rfl, rfl, rfl⟩ := hrel
    go_wp2_with fail
    refine H.out.mono ?_
    rintro e w1 ⟨rfl, h1, h2⟩
    have H1 := Lib.hid h1
    have H2 := Lib.hid h2
    clear h1 h2
    go_wp2_with fail
    refine bodyPost_ret (results_none rfl _ _ _) rfl ?_
    exact ⟨rfl, H1.out, H2.out⟩
set_option maxHeartbeats 1000000 in
theorem sortFunc_any (g n c base : Nat) (W : List Fl) (x : Fl) (w : World) (h : w.ownsRow base 32 3 (.slice (some ⟨g, 0, none⟩) n c) n (flE.cells (W ++ [x]))) (hn : n ≤ 12) (hr : Rising W) (hbase : base ≤ w.heap.size) :
    Calls Try.prog 42 #[.slice (some ⟨g, 0, none⟩) n c, .func (.func 43) #[] #[]] w fun e w' =>
      e = .returned (.tuple #[]) ∧ w'.ownsRow base 32 3 (.slice (some ⟨g, 0, none⟩) n c) n (flE.cells (insF x W)) ∧ But (fun i => i = g) w w' := by
  have H := Lib.hid (fun lim => pdq_any g n c base lim W x w h hn hr hbase)
  have HL := Lib.hid (fun W => Try.bits_Len (n : Int) W (by omega) (by omega))
  have hn0 : (0 : Int) ≤ (n : Int) := by omega
  have hni : (n : Int) ≤ 12 := by omega
  clear h hr
  go_enter Try.func42, Try.ntmps42
  go_wp2_with fail
  refine (HL.out _).mono ?_
  rintro e w1 ⟨rfl, hw⟩
  subst hw
  go_wp2_with fail
  refine (H.out _).mono ?_
  rintro e w1 ⟨rfl, h1, h2⟩
  have H1 := Lib.hid h1
  have H2 := Lib.hid h2
  clear h1 h2
  go_wp2_with fail
  go_end0
  exact ⟨rfl, H1.out, H2.out⟩

/-- Which files go: those of the one name and of the other. -/
def isOf (fr to : ByteArray) (f : Fl) : Bool := decide (f.nm = fr) || decide (f.nm = to)
set_option maxHeartbeats 1000000 in
theorem isOf_any (f : Fl) (fr to : ByteArray) (Bf Bt : Nat) (w : World) (h1 : One w Bf 9 (.string fr)) (h2 : One w Bt 9 (.string to)) :
    Calls Try.prog 41 #[flVal f, .pointer (some ⟨Bf, 0, none⟩), .pointer (some ⟨Bt, 0, none⟩)] w fun e w' => e = .returned (.bool (isOf fr to f)) ∧ Below w.heap.size w w' := by
  have hb : Below w.heap.size w (w.alloc (.cells #[.string f.nm, .string f.sy, .string f.ta] 32)) := (Below.refl _ w).alloc (Nat.le_refl _) _
  have c1 := (h1.alloc (.cells #[.string f.nm, .string f.sy, .string f.ta] 32)).cell
  have c2 := (h2.alloc (.cells #[.string f.nm, .string f.sy, .string f.ta] 32)).cell
  have HB := Lib.hid hb
  clear h1 h2 hb
  by_cases hf : f.nm = fr
  · have hv : isOf fr to f = true := by unfold isOf; rw [decide_eq_true hf]; rfl
    rw [hv]
    have hq := toList_yes hf
    clear hf hv
    obtain ⟨a0, a1, a2⟩ := f
    unfold flVal
    dsimp only at *
    go_enter Try.func41, Try.ntmps41
    go_wp2_with fail
    go_ret
    exact ⟨rfl, HB.out⟩
  · have hq := toList_ne hf
    by_cases ht : f.nm = to
    · have hv : isOf fr to f = true := by unfold isOf; rw [decide_eq_true ht, Bool.or_true]
      rw [hv]
      have hq2 := toList_yes ht
      clear hf ht hv
      obtain ⟨a0, a1, a2⟩ := f
      unfold flVal
      dsimp only at *
      go_enter Try.func41, Try.ntmps41
      go_wp2_with fail
      go_ret
      exact ⟨rfl, HB.out⟩
    · have hv : isOf fr to f = false := by unfold isOf; rw [decide_eq_false hf, decide_eq_false ht]; rfl
      rw [hv]
      have hq2 := toList_ne ht
      clear hf ht hv
      obtain ⟨a0, a1, a2⟩ := f
      unfold flVal
      dsimp only at *
      go_enter Try.func41, Try.ntmps41
      go_wp2_with fail
      go_ret
      exact ⟨rfl, HB.out⟩
theorem enters_isOf : ∀ args w, (callFunc 41 args).run Try.prog w = .ok (.enter 41 args) w := enters_of Try.func41 (by kernel_rfl) rfl
theorem filter_isOf (l : List Fl) (fr to : ByteArray) : l.filter (fun f => !isOf fr to f) = without (without l fr) to := by
  unfold without isOf
  rw [List.filter_filter]
  congr 1
  funext f
  by_cases h1 : f.nm = fr <;> by_cases h2 : f.nm = to <;> simp [h1, h2]

/-- A block of three cells that may be written. -/
def Three (w : World) (b : Nat) (v0 v1 v2 : Value) : Prop := w.heap[b]? = some (.cells #[v0, v1, v2] 32 (0, 0))
theorem Three.new (w : World) (v0 v1 v2 : Value) : Three (w.alloc (.cells #[v0, v1, v2] 32)) w.heap.size v0 v1 v2 := heap_alloc_new w _
theorem Three.c0 {w : World} {b : Nat} {v0 v1 v2 : Value} (h : Three w b v0 v1 v2) : w.cell? ⟨b, 0, none⟩ = some v0 := by unfold World.cell?; rw [show w.heap[b]? = _ from h]; rfl
theorem Three.c1 {w : World} {b : Nat} {v0 v1 v2 : Value} (h : Three w b v0 v1 v2) : w.cell? ⟨b, 1, none⟩ = some v1 := by unfold World.cell?; rw [show w.heap[b]? = _ from h]; rfl
theorem Three.c2 {w : World} {b : Nat} {v0 v1 v2 : Value} (h : Three w b v0 v1 v2) : w.cell? ⟨b, 2, none⟩ = some v2 := by unfold World.cell?; rw [show w.heap[b]? = _ from h]; rfl
theorem Three.free {w : World} {b : Nat} {v0 v1 v2 : Value} (h : Three w b v0 v1 v2) (j : Nat) : w.frozen? ⟨b, j, none⟩ = false := by unfold World.frozen?; rw [show w.heap[b]? = _ from h]; simp
theorem Three.lt {w : World} {b : Nat} {v0 v1 v2 : Value} (h : Three w b v0 v1 v2) : b < w.heap.size := lt_of_block h
theorem Three.but {S : Nat → Prop} {w w' : World} {b : Nat} {v0 v1 v2 : Value} (h : Three w b v0 v1 v2) (k : But S w w') (hs : ¬ S b) : Three w' b v0 v1 v2 := (k.block b (lt_of_block h) hs).trans h
theorem Three.set0 {w : World} {b : Nat} {v0 v1 v2 : Value} (h : Three w b v0 v1 v2) (u : Value) : Three (w.setCell ⟨b, 0, none⟩ u) b u v1 v2 := by
  have h' : w.heap[b]? = _ := h
  show (w.setCell _ u).heap[b]? = _
  simp [World.setCell, Array.getElem?_modify, h']

set_option maxRecDepth 20000 in
set_option maxHeartbeats 1000000 in
theorem rename_fs (l : List Fl) (k Bat Bf Bt : Nat) (fr to : ByteArray) (S : Nat → Prop) (w : World) (hk : k < l.length) (hr : Rising l) (h8 : l.length ≤ 8) (hnm : l[k].nm = fr)
    (h1 : One w Bat 3 (.int .i64 (k : Int))) (h2 : One w Bf 9 (.string fr)) (h3 : One w Bt 9 (.string to)) :
    FsFn 39 #[.pointer (some ⟨Bat, 0, none⟩), .pointer (some ⟨Bf, 0, none⟩), .pointer (some ⟨Bt, 0, none⟩)] l (withF (without l fr) ⟨to, l[k].sy, l[k].ta⟩) S w := by
  intro W v base hb hb0 hbs hrow
  show Calls Try.prog 39 #[v, .pointer (some ⟨Bat, 0, none⟩), .pointer (some ⟨Bf, 0, none⟩), .pointer (some ⟨Bt, 0, none⟩)] W _
  have hmf : ∀ fn first cap w, (Instr.makeFunc fn first cap).run Try.prog w = .ok (.func fn first cap) w := fun _ _ _ _ => rfl
  obtain ⟨i0, hi, hz0, hz1, hz2⟩ := info_parts infoFile
  have HI := Lib.hid hi
  have HZ := Lib.hid (And.intro hz0 (And.intro hz1 hz2))
  clear hi hz0 hz1 hz2
  obtain ⟨a, c, rfl⟩ := own_shape hrow
  obtain ⟨g, rfl, hg1, hg2⟩ := own_some hrow (by omega)
  obtain ⟨c0, c1, c2, -⟩ := own_file hrow hk
  have o1 := h1.below hb
  have o2 := h2.below hb
  have o3 := h3.below hb
  have hBt : Bt < base := by have := h3.lt; omega
  have hBf : Bf < base := by have := h2.lt; omega
  have hcB := o1.cell
  obtain ⟨x0, x1, x2, hx⟩ : ∃ x0 x1 x2, l[k] = ⟨x0, x1, x2⟩ := ⟨_, _, _, rfl⟩
  rw [hx] at c0 c1 c2 hnm ⊢
  dsimp only at c0 c1 c2 hnm ⊢
  obtain ⟨fs, hfs⟩ : ∃ fs, fs = l.filter (fun f => !isOf fr to f) := ⟨_, rfl⟩
  have hres : withF (without l fr) ⟨to, x1, x2⟩ = insF ⟨to, x1, x2⟩ fs := by unfold withF; rw [hfs, filter_isOf]
  have hfr : Rising fs := by rw [hfs, filter_isOf]; exact without_rising (without_rising hr _) _
  have hfl : fs.length < l.length := by
    rw [hfs, filter_isOf]
    have e1 := len_without hr hk
    rw [hx] at e1
    dsimp only at e1
    rw [hnm] at e1
    have := len_without_le (without l fr) to
    omega
  rw [hres]
  have HFR := Lib.hid hfr
  have hA : Below W.heap.size W (W.alloc (.cells #[.string x0, .string x1, .string x2] 32)) := (Below.refl _ W).alloc (Nat.le_refl _) _
  have hrow2 := hrow.alloc (.cells #[.string x0, .string x1, .string x2] 32)
  have hdel := Lib.hid (delFunc_any 41 #[.pointer (some ⟨Bf, 0, none⟩), .pointer (some ⟨Bt, 0, none⟩)] (isOf fr to) enters_isOf g l.length c base l S _ hrow2 (by omega) (by simp; omega)
    (fun f hf W2 hb2 => isOf_any f fr to Bf Bt W2 (hb2.one (o2.alloc _) (by omega)) (hb2.one (o3.alloc _) (by omega))) ⟨l[k], List.getElem_mem hk, by rw [hx]; unfold isOf; dsimp only; rw [decide_eq_true hnm]; rfl⟩)
  rw [← hfs] at hdel
  have HO3 := Lib.hid (o3.alloc (.cells #[.string x0, .string x1, .string x2] 32))
  have HT := Lib.hid (Three.new W (.string x0) (.string x1) (.string x2))
  have HA : Hid (But (fun i => S i ∨ base ≤ i) W (W.alloc (.cells #[.string x0, .string x1, .string x2] 32))) := Lib.hid (But.ofBelow hA)
  obtain ⟨n, hn⟩ : ∃ n, n = l.length := ⟨_, rfl⟩
  have hki : (k : Int) < (n : Int) := by omega
  have hn8 : n ≤ 8 := by omega
  have hfn : fs.length < n := by omega
  have hgW : g < W.heap.size := hg2
  have hW6 : ∃ N6, N6 = W.heap.size := ⟨_, rfl⟩
  obtain ⟨N6, hN6⟩ := hW6
  have HN6 := Lib.hid hN6
  rw [← hn] at hdel ⊢
  have hgN : g < N6 := by omega
  have hbN : base ≤ N6 := by omega
  rw [← hN6] at HT
  have HBB := Lib.hid hbs
  clear hrow hrow2 hfs hres hfr hfl hA hn hx hr hnm h1 h2 h3 o1 o2 o3 hb hb0 hbs hN6 hg2 hk h8
  go_enter Try.func39, Try.ntmps39
  go_wp2_with fail
  rw [← HN6.out]
  refine hdel.out.mono ?_
  rintro e w2 ⟨m, rfl, hr2, hbut⟩
  have hm : m = fs.length := by have h1 := hr2.1; rw [len_cells] at h1; omega
  have HO4 := Lib.hid (hbut.one HO3.out (by omega))
  have HT4 := Lib.hid (HT.out.but hbut (by omega))
  have HA4 := Lib.hid (HA.out.trans (hbut.mono (T := fun i => S i ∨ base ≤ i) (fun i _ e => .inr (by rw [e]; exact hg1))))
  have HR4 := Lib.hid hr2
  have HM := Lib.hid hm
  have t0 := HT4.out.c0; have t1 := HT4.out.c1; have t2 := HT4.out.c2
  have z0 := HT4.out.free 0
  have q3 := HO4.out.cell
  have hm8 : m ≤ 8 := by omega
  clear hbut hr2 hm hdel
  have hb5 : base ≤ w2.heap.size := Nat.le_trans HBB.out HA4.out.size
  have hgN6 : (Value.slice (some ⟨g, 0, none⟩) m c).ownBlock ≠ some N6 := fun e => by
    have h1 : g = N6 := by simpa [Value.ownBlock] using e
    omega
  have HO5 : Hid (((w2.setCell ⟨N6, 0, none⟩ (.string to)).alloc (.cells #[.string to, .string x1, .string x2] 32)).ownsRow base 32 3 (.slice (some ⟨g, 0, none⟩) m c) m (flE.cells fs)) := Lib.hid ((HR4.out.kept (grown_setCell w2 N6 0 (.string to)) (.inr hgN6)).alloc _)
  have HA5 : Hid (But (fun i => S i ∨ base ≤ i) W ((w2.setCell ⟨N6, 0, none⟩ (.string to)).alloc (.cells #[.string to, .string x1, .string x2] 32))) := Lib.hid ((HA4.out.setCell ⟨N6, 0, none⟩ (fun _ => .inr hbN) (.string to)).trans (But.ofBelow ((Below.refl _ _).alloc (Nat.le_refl _) _)))
  have HSR : Hid (flE.Sl ((w2.setCell ⟨N6, 0, none⟩ (.string to)).alloc (.cells #[.string to, .string x1, .string x2] 32)) (some ⟨w2.heap.size, 0, none⟩) 1 [⟨to, x1, x2⟩]) := Lib.hid (by
    have h1 := Enc.Sl.one (E := flE) (w2.setCell ⟨N6, 0, none⟩ (.string to)) ⟨to, x1, x2⟩ 32 #[.string to, .string x1, .string x2] rfl
    simpa using h1)
  have HBS5 : Hid (base ≤ ((w2.setCell ⟨N6, 0, none⟩ (.string to)).alloc (.cells #[.string to, .string x1, .string x2] 32)).heap.size) := Lib.hid (by simp; omega)
  go_wp2_with (at_builtin; refine Enc.wpList_app (E := flE) _ rfl _ _ 22 rfl base 32 i0 _ 48 Try.underlying22 HI.out HZ.out.1 HZ.out.2.1 HZ.out.2.2 rfl _ m fs HO5.out rfl (some ⟨w2.heap.size, 0, none⟩) 1 1 [⟨to, x1, x2⟩] rfl HSR.out (fun e => by cases e) (by unfold maxLen; omega) (by omega) HBS5.out ?_)
  intro v6 w6 ho6 hg6
  have hlt6 := HO5.out.lt
  have HA6 := Lib.hid (HA5.out.trans ((But.ofGrown hg6).mono (T := fun i => S i ∨ base ≤ i) (fun i _ e => .inr (hlt6 i e.symm).1)))
  obtain ⟨a6, n6, c6, rfl⟩ : ∃ a n c, v6 = .slice a n c := by
    obtain ⟨a, c, rfl, _⟩ := Enc.own_sl (E := flE) ho6
    exact ⟨_, _, _, rfl⟩
  have hn6 : n6 = m + 1 := by
    obtain ⟨a, c, he, _⟩ := Enc.own_sl (E := flE) ho6
    cases he; rfl
  subst hn6
  obtain ⟨g6, rfl, hg6b, hg6l⟩ := own_some ho6 (by omega)
  have hb6 : base ≤ w6.heap.size := Nat.le_trans HBS5.out hg6.size
  have hsort := Lib.hid (sortFunc_any g6 (m + 1) c6 base fs ⟨to, x1, x2⟩ w6 ho6 (by omega) HFR.out hb6)
  clear ho6 hg6 hlt6 t0 t1 t2 z0 q3
  go_wp2_with fail
  refine hsort.out.mono ?_
  rintro e w7 ⟨rfl, hr7, hb7⟩
  have HR7 := Lib.hid hr7
  have HA7 := Lib.hid (HA6.out.trans (hb7.mono (T := fun i => S i ∨ base ≤ i) (fun i _ e => .inr (by rw [e]; exact hg6b))))
  clear hr7 hb7
  go_wp2_with fail
  go_ret
  have hlen : (insF ⟨to, x1, x2⟩ fs).length = m + 1 := by rw [(insF_perm _ _).length_eq, List.length_cons, HM.out]
  exact ⟨_, rfl, by rw [hlen]; exact HR7.out, HA7.out⟩
end Go.Proofs.Ytjppommhamaibaa
