/-
  The walk of frame.Scan: it answers as the reference's Scan, at every text of at most 200000 bytes.
-/
import Derived.Test.YtebpelfmllkpbaaFrFrames
namespace Go.Proofs.Ytebpelfmllkpbaa
open Go.RowKit Go.Shelf
attribute [local go_sem] Oper.semAt_some
set_option linter.unusedVariables false

theorem boxed_own {β : Type} (B : Nat) (t : TypeId) (f : β → Value) : Own (fun s W => Boxed W B t (f s)) := by
  rintro s X Y row hv hg hrow
  refine hv.kept hg (fun e' => ?_)
  obtain ⟨o, ho, hc⟩ := hrow B e'.symm
  rw [show X.heap[B]? = _ from hv] at ho; cases ho; cases hc

def bodsOf (pre : List (Nat × ByteArray)) : List Value := strs (pre.map (·.2))
theorem bodsOf_snoc (pre : List (Nat × ByteArray)) (x : Nat × ByteArray) : bodsOf (pre ++ [x]) = bodsOf pre ++ [.string x.2] := by simp [bodsOf, strs_snoc]

theorem row_ne {W : World} {base B : Nat} {e : TypeId} {size k : Nat} {v : Value} {xs : List Value} (h : W.ownsRow base e size v k xs) (hB : B < base) : some B ≠ v.ownBlock := by
  rcases h.2 with ⟨rfl, _⟩ | ⟨g, cap, cur, rfl, hb, _, _⟩
  · simp [Value.ownBlock]
  · intro e'
    obtain rfl : B = g := by simpa [Value.ownBlock] using e'
    omega
theorem row_base {W : World} {base B : Nat} {e : TypeId} {size k : Nat} {v : Value} {xs : List Value} (h : W.ownsRow base e size v k xs) (hB : B ≤ base) : W.ownsRow B e size v k xs :=
  ⟨h.1, h.2.imp id (fun ⟨g, cap, cur, e1, hb, r⟩ => ⟨g, cap, cur, e1, Nat.le_trans hB hb, r⟩)⟩

set_option maxRecDepth 100000 in
set_option maxHeartbeats 4000000 in
theorem frScan_in (n : Nat) (hn : 3 ≤ n) (s : ByteArray) (w : World) (hs : s.size ≤ 200000) (l : List UInt8) (hl : Hid (l = s.data.toList)) :
    CallsIn Fence.wide n Try.prog 19 #[.string s] w (ScanP w l) := by
  have h1 : 1 ≤ n := by omega
  obtain ⟨i0, hi, hz0, hz1, hz2⟩ := info_parts infoStr
  have hf1 : Fence.wide.fn 33 := trivial
  refine callsIn_of_wp_marks Try.func19 rfl trivial ?_ rfl
  simp only [Try.ntmps19, List.size_toArray, List.length_cons, List.length_nil, Nat.reduceAdd, Nat.reduceSub, Array.replicate_succ, Array.replicate_zero, List.push_toArray, List.append_toArray, List.nil_append, List.cons_append]
  gi_wp2_with (gi_at_call 33; refine (callsIn_wide.2 (frames_any _ _)).mono ?_; rintro e w' ⟨rfl, rfl⟩)
  have bO := Boxed.new w 31 (.slice none 0 0)
  have bE := Boxed.new (w.alloc (.cells #[.slice none 0 0] 31)) 3 (.int .i64 0)
  have bS := Boxed.new ((w.alloc (.cells #[.slice none 0 0] 31)).alloc (.cells #[.int .i64 0] 3)) 9 (.string s)
  rw [World.size_alloc] at bE bS
  rw [World.size_alloc] at bS
  obtain ⟨W0, hW0⟩ : ∃ W0, W0 = ((w.alloc (.cells #[.slice none 0 0] 31)).alloc (.cells #[.int .i64 0] 3)).alloc (.cells #[.string s] 9) := ⟨_, rfl⟩
  have hB0 : Below w.heap.size w W0 := by rw [hW0]; exact (((Below.refl _ w).alloc (Nat.le_refl _) _).alloc (by simp) _).alloc (by simp; omega) _
  have hsz0 : W0.heap.size = w.heap.size + 3 := by rw [hW0]; simp
  have bO0 : Boxed W0 w.heap.size 31 (.slice none 0 0) := by rw [hW0]; exact (bO.alloc _).alloc _
  have bE0 : Boxed W0 (w.heap.size + 1) 3 (.int .i64 0) := by rw [hW0]; exact bE.alloc _
  have bS0 : Boxed W0 (w.heap.size + 1 + 1) 9 (.string s) := by rw [hW0]; exact bS
  rw [← hW0]
  clear bO bE bS hW0
  refine wpIn_rangeFunc_ownG rfl h1 (gf := 39) (lb := #[.pointer (some ⟨w.heap.size + 1 + 1, 0, none⟩)]) rfl trivial (enters_of Try.func39 (by kernel_rfl) rfl)
    (frames_stops (n - 1) (by omega) (w.heap.size + 1 + 1) s hs W0 bS0) (fun h k hb => k (h hb)) (fun W l o o' h h2 h3 h4 => kb_b _ _ W0 W l o o' h h2 h3 h4) (Below.refl _ _) (fun _ => rfl)
    (fun pre W => (∃ v, Boxed W w.heap.size 31 v ∧ W.ownsRow (w.heap.size + 3) 9 1 v pre.length (bodsOf pre) ∧ True) ∧ Boxed W (w.heap.size + 1) 3 (.int .i64 (lastAt pre : Int)) ∧ Boxed W (w.heap.size + 1 + 1) 9 (.string s) ∧ Below w.heap.size w W)
    (fun _ _ _ => False)
    (OwnFrom.and (Own.from (holdsRow_own (w.heap.size + 3) w.heap.size 31 9 1 (fun pre => pre.length) (fun pre => bodsOf pre) (fun pre v => True)) _) (OwnFrom.and (Own.from (boxed_own _ _ _) _) <| OwnFrom.and (Own.from (boxed_own _ _ _) _) (ownFrom_below (Nat.le_refl _) (by omega))))
    (fun _ _ _ _ _ hs _ _ => hs)
    ⟨⟨_, bO0, World.ownsRow_nil _ _ _ _, trivial⟩, bE0, bS0, hB0⟩
    (fun x => { tmps := #[.string s, undef, .slice none 0 0, .int .i64 0, .pointer (some ⟨w.heap.size, 0, none⟩), .pointer (some ⟨w.heap.size + 1, 0, none⟩), .int .i64 x.1, .string x.2, .string s, .func (.func 39) #[] #[.pointer (some ⟨w.heap.size + 1 + 1, 0, none⟩)], .int .i64 x.1, .string x.2, undef, undef, undef, undef, undef, undef, undef], defers := [] }) ?assign ?body ?done ?stop
  case assign =>
    intro l x W K hK
    simp only [encF]
    gi_wp2
    exact hK
  case body =>
    rintro l' pre x W ⟨⟨v, hv, hrow, -⟩, hE, hS, hB⟩ hlt
    have hc := hv.cell
    have hec := hE.cell
    have hsz := hS.lt
    gi_wp2_with (gi_at_builtin; refine wpListIn_append_own _ rfl _ _ 31 rfl (w.heap.size + 3) 9 i0 (.string ⟨#[]⟩) 1 16 Try.underlying31 hi hz0 hz1 hz2 rfl (by decide) _ _ _ rfl (hrow.alloc _) ⟨W.heap.size, 0, none⟩ 1 1 [.string x.2] rfl rfl (cell_one_new _ _ _) (by simp [Value.oneCell']) (by unfold maxLen; omega) (by omega) (by simp; omega) ?_; intro v' w1 hown' hgrow _; have hE1 := (hE.alloc _).kept hgrow (row_ne hrow (by omega)); have hS1 := (hS.alloc _).kept hgrow (row_ne hrow (by omega)); have hc2 := hE1.cell; have hf2 := hE1.frozen; obtain ⟨g', cap', rfl⟩ := ownsRow_succ hown'; obtain ⟨hv1, hv2, hr2, hk2, hb2⟩ := hv.appended (by decide) (row_base hrow (Nat.le_add_right _ _)) hB.size (Nat.le_refl _) (row_base hown' (Nat.le_add_right _ _)) hgrow; have hc1 := hv1.cell; have hf1 := hv1.frozen)
    have hE2 := hE1.kept (grownBy_setCell' w1 w.heap.size (.slice (some ⟨g', 0, none⟩) (pre.length + 1) cap')) (by simp)
    have hS2 := hS1.kept (grownBy_setCell' w1 w.heap.size (.slice (some ⟨g', 0, none⟩) (pre.length + 1) cap')) (by simp; omega)
    have hr3 := hown'.kept (grownBy_setCell' w1 w.heap.size (.slice (some ⟨g', 0, none⟩) (pre.length + 1) cap')) (.inr (row_ne hown' (by omega)).symm)
    have gE := grownBy_setCell' (w1.setCell ⟨w.heap.size, 0, none⟩ (.slice (some ⟨g', 0, none⟩) (pre.length + 1) cap')) (w.heap.size + 1) (.int .i64 (x.1 : Int))
    refine ⟨(hk2.trans (KeepsOthers.setCell _ _ _)).from _, fun _ => hS2.kept gE (by simp), ⟨_, hv2.kept gE (by simp), ?_, trivial⟩, ?_, hS2.kept gE (by simp), ?_⟩
    · rw [bodsOf_snoc, List.length_append]
      exact hr3.kept gE (.inr (row_ne hr3 (by omega)).symm)
    · rw [lastAt_snoc]; exact hE2.set _
    · exact (hB.trans hb2).setCell (p := ⟨w.heap.size + 1, 0, none⟩) (by simp) _
  case done =>
    rintro D ys W hD ⟨hT, hnone⟩ ⟨⟨v, hv, hrow, -⟩, hE, hS, hB⟩ hK
    have hc := hv.cell
    have hec := hE.cell
    gi_wp2_with fail
    refine wpIn_wide.2 ?_
    go_quiet (fail)
    gi_wp2_with fail
    have hrow' : (W.drewN nq).ownsRow w.heap.size 9 1 v ys.length (bodsOf ys) := row_base hrow (Nat.le_add_right _ _)
    have hK' : (W.drewN nq).heap[D]? = some (.deferred (some [])) := hK
    refine ⟨by simp, .inl ⟨_, _, rfl, run_takeDeferred hK', ?_⟩⟩
    refine ⟨_, results_tmp2 rfl _ _ _, ?_⟩
    have hfin := ownsRow_putObj hrow' (.deferred none) hK' rfl
    obtain ⟨d1, d2⟩ := Told.done hT hnone
    have e1 : (bodies l).map strOf = ys.map (·.2) := by
      rw [hl.out, d1, List.map_map]
      refine List.map_congr_left fun x _ => ?_
      exact strOf_self _
    obtain ⟨a, m, c, hva, hsl, hfr, hnc⟩ := own_slice hfin
    subst hva
    refine ⟨a, m, c, ?_, ?_, ?_, hfr, hnc⟩
    · rw [hl.out, d2]; rfl
    · rw [e1]; exact hsl
    · exact (below_drewN hB nq).trans (belowK_b (w := w) (Nat.le_refl _) (W.drewN nq) D _ _ (by omega) hK' rfl rfl)
  case stop =>
    rintro D c pre W _ _ h _
    exact h.elim
theorem frScan_any (s : ByteArray) (w : World) (hs : s.size ≤ 200000) (l : List UInt8) (hl : Hid (l = s.data.toList)) :
    Calls Try.prog 19 #[.string s] w (ScanP w l) := callsIn_wide.1 (frScan_in 3 (Nat.le_refl _) s w hs l hl)
end Go.Proofs.Ytebpelfmllkpbaa
