/-
  The walk of slices.Insert of one file: a row of one's own behind it; the texts within reach.
-/
import Derived.Test.YtjppommhamaibaaDkM
import Derived.Lib.Overlaps
import Derived.Lib.AppendZerosOnto
import Derived.Lib.SliceRun
import Derived.Laws.Externs
namespace Go.Proofs.Ytjppommhamaibaa
open Go.RowKit Go.BigFrame
set_option linter.unusedVariables false

def insAt (l : List Fl) (i : Nat) (x : Fl) : List Fl := l.take i ++ x :: l.drop i
def flVal (x : Fl) : Value := .agg #[.string x.nm, .string x.sy, .string x.ta]
theorem enc_sl {w : World} {b : Nat} {x : Fl} (h : Blk w b 32 (flE.enc x)) : flE.Sl w (some ⟨b, 0, none⟩) 1 [x] :=
  Enc.Sl.ofCells (E := flE) (d := [x]) fun j u hu => by
    rw [flE.cells_cons, flE.cells_nil, List.append_nil] at hu
    rw [Nat.zero_add]
    exact h.cell hu
set_option maxRecDepth 100000 in
set_option maxHeartbeats 2000000 in
theorem insert_end (a : Option Addr) (n c base : Nat) (l : List Fl) (x : Fl) (bv : Nat) (w : World) (h : w.ownsRow base 32 3 (.slice a n c) n (flE.cells l)) (hn : n ≤ 1000000) (hb : base ≤ w.heap.size) (hx : Blk w bv 32 (flE.enc x)) :
    Calls Try.prog 35 #[.slice a n c, .int .i64 (n : Int), .slice (some ⟨bv, 0, none⟩) 1 1] w fun e w' =>
      ∃ v, e = .returned v ∧ w'.ownsRow base 32 3 v (n + 1) (flE.cells (l ++ [x])) ∧ But (fun i => base ≤ i) w w' := by
  obtain ⟨i0, hi, hz0, hz1, hz2⟩ := info_parts infoFile
  have HI := Lib.hid hi
  have HZ := Lib.hid (And.intro hz0 (And.intro hz1 hz2))
  clear hi hz0 hz1 hz2
  have HX := Lib.hid (enc_sl hx)
  have H := Lib.hid h
  have HBA := Lib.hid hb
  have hc : a = none ∨ ∃ g, a = some ⟨g, 0, none⟩ := by
    rcases h.2 with ⟨hv, _⟩ | ⟨g, cap, cur, hv, _⟩
    · cases hv; exact .inl rfl
    · cases hv; exact .inr ⟨_, rfl⟩
  have hnc : n ≤ c ∧ c ≤ 9223372036854775807 ∧ (a = none → n = 0 ∧ c = 0) := by
    have hcm := own_cm h
    unfold maxLen at hcm
    rcases h.2 with ⟨hv, hk⟩ | ⟨g, cap, cur, hv, _, _, h1, _⟩
    · cases hv; exact ⟨by omega, by omega, fun _ => ⟨rfl, rfl⟩⟩
    · cases hv; exact ⟨h1, by omega, fun e => by cases e⟩
  obtain ⟨hnc, hcm, hcn⟩ := hnc
  have fin : Hid (∀ v' w', w'.ownsRow base 32 3 v' (n + 1) (flE.cells (l ++ [x])) → w.grownBy w' (Value.slice a n c).ownBlock → But (fun i => base ≤ i) w w') := Lib.hid fun v' w' ho hg => (But.ofGrown hg).mono (fun i _ e => (h.lt i e.symm).1)
  clear h hx hb
  rcases hc with rfl | ⟨g, rfl⟩
  · obtain ⟨rfl, rfl⟩ := hcn rfl
    clear hcn
    go_enter Try.func35, Try.ntmps35
    go_wp2_with (at_builtin; refine Enc.wpList_app (E := flE) _ rfl _ _ 22 rfl base 32 i0 _ 48 Try.underlying22 HI.out HZ.out.1 HZ.out.2.1 HZ.out.2.2 rfl _ 0 l H.out rfl (some ⟨bv, 0, none⟩) 1 1 [x] rfl HX.out (fun e => by cases e) (by decide) (by decide) HBA.out ?_)
    intro v3 w3 ho3 hg3
    have HO := Lib.hid ho3
    have HG := Lib.hid (fin.out v3 w3 ho3 hg3)
    clear ho3 hg3
    go_wp2_with fail
    go_ret
    exact ⟨_, rfl, HO.out, HG.out⟩
  · clear hcn
    have hii : ((n : Int) == (n : Int)) = true := beq_iff_eq.2 rfl
    by_cases hcap : c = n
    · have hce : (c = n) = True := eq_true hcap
      have HC := Lib.hid hcap
      clear hcap
      go_enter Try.func35, Try.ntmps35
      go_wp2_with (at_builtin; refine Enc.wpList_app (E := flE) _ rfl _ _ 22 rfl base 32 i0 _ 48 Try.underlying22 HI.out HZ.out.1 HZ.out.2.1 HZ.out.2.2 rfl _ n l H.out rfl (some ⟨bv, 0, none⟩) 1 1 [x] rfl HX.out (fun e => by cases e) (by unfold maxLen; omega) (by omega) HBA.out ?_)
      intro v3 w3 ho3 hg3
      have HO := Lib.hid ho3
      have HG := Lib.hid (fin.out v3 w3 ho3 hg3)
      clear ho3 hg3
      go_wp2_with fail
      go_ret
      exact ⟨_, rfl, HO.out, HG.out⟩
    · go_enter Try.func35, Try.ntmps35
      go_wp2_with (at_builtin; refine Enc.wpList_app (E := flE) _ rfl _ _ 22 rfl base 32 i0 _ 48 Try.underlying22 HI.out HZ.out.1 HZ.out.2.1 HZ.out.2.2 rfl _ n l H.out rfl (some ⟨bv, 0, none⟩) 1 1 [x] rfl HX.out (fun e => by cases e) (by unfold maxLen; omega) (by omega) HBA.out ?_)
      intro v3 w3 ho3 hg3
      have HO := Lib.hid ho3
      have HG := Lib.hid (fin.out v3 w3 ho3 hg3)
      clear ho3 hg3
      go_wp2_with fail
      go_ret
      exact ⟨_, rfl, HO.out, HG.out⟩

theorem cells_ins (l : List Fl) (i : Nat) (x : Fl) : flE.cells (insAt l i x) = flE.cells (l.take i) ++ flE.enc x ++ flE.cells (l.drop i) := by
  unfold insAt
  rw [flE.cells_append, flE.cells_cons, List.append_assoc]
theorem len_cells (l : List Fl) : (flE.cells l).length = l.length * 3 := flE.cells_length l
theorem shape_blk {w : World} {g : Nat} {t : TypeId} {cs : List Value} (h : Blk w g t cs) : w.shape? g = some (t, cs.length) := by
  unfold Blk at h
  simp [World.shape?, h]
theorem two_splices {α : Type} {cs X A C : List α} {m : Nat} (hA : A.length = m) (hcs : cs.take (m + C.length) = A ++ C) (hX : m + X.length + C.length ≤ cs.length) : (splice (splice cs (m + X.length) C) m X).take (m + X.length + C.length) = A ++ X ++ C := by
  subst hA
  have hc1 : A.length + C.length ≤ cs.length := by omega
  have e1 : cs.take A.length = A := by
    have := congrArg (List.take A.length) hcs
    rw [List.take_take, Nat.min_eq_left (by omega), List.take_append_of_le_length (Nat.le_refl _), List.take_of_length_le (Nat.le_refl _)] at this
    exact this
  have hlen : (splice cs (A.length + X.length) C).length = cs.length := length_splice _ _ _ (by omega)
  have e2 : (splice cs (A.length + X.length) C).take A.length = A := by
    unfold splice
    rw [List.take_append_of_le_length (by rw [List.length_take]; omega), List.take_take, Nat.min_eq_left (by omega), e1]
  have e3 : ((splice cs (A.length + X.length) C).drop (A.length + X.length)).take C.length = C := by
    unfold splice
    rw [List.drop_append_of_le_length (by rw [List.length_take]; omega), List.drop_of_length_le (by rw [List.length_take]; omega), List.nil_append, List.take_append_of_le_length (Nat.le_refl _), List.take_of_length_le (Nat.le_refl _)]
  conv => lhs; rw [splice, e2, ← List.append_assoc]
  rw [List.take_append, List.take_of_length_le (by rw [List.length_append]; omega)]
  congr 1
  rw [List.length_append, show A.length + X.length + C.length - (A.length + X.length) = C.length by omega]
  exact e3

set_option maxRecDepth 100000 in
set_option maxHeartbeats 2000000 in
theorem insert_room (g n c base : Nat) (l : List Fl) (i : Nat) (x : Fl) (bv : Nat) (w : World) (h : w.ownsRow base 32 3 (.slice (some ⟨g, 0, none⟩) n c) n (flE.cells l)) (hi : i < n) (hn : n ≤ 1000000) (hx : Blk w bv 32 (flE.enc x)) (hne : bv ≠ g) (hc : n < c) :
    Calls Try.prog 35 #[.slice (some ⟨g, 0, none⟩) n c, .int .i64 (i : Int), .slice (some ⟨bv, 0, none⟩) 1 1] w fun e w' =>
      ∃ v, e = .returned v ∧ w'.ownsRow base 32 3 v (n + 1) (flE.cells (insAt l i x)) ∧ But (fun i => base ≤ i) w w' := by
  obtain ⟨i0, hi0, hz0, hz1, hz2⟩ := info_parts infoFile
  have HI := Lib.hid hi0
  have HZ := Lib.hid (And.intro hz0 (And.intro hz1 hz2))
  clear hi0 hz0 hz1 hz2
  have hln : n * 3 = (flE.cells l).length := h.1.symm
  rw [len_cells] at hln
  have hln : l.length = n := by omega
  obtain ⟨cs, hb, hcl, htk, hbg, hnc, hcm, -⟩ := own_blk h
  have HB := Lib.hid hb
  have HX := Lib.hid hx
  have HF := Lib.hid (And.intro hcl (And.intro htk (And.intro hbg (And.intro hcm hln))))
  have hov : ∀ lb cb, (callFunc 52 #[.slice (some ⟨bv, 0, none⟩) 1 1, .slice (some ⟨g, (i + 1) * 3, none⟩) lb cb]).run Try.prog w = .ok (.value (.bool false)) w := fun lb cb => by
    rw [run_callFunc_extern Try.func52 (by kernel_rfl) (by kernel_rfl) (by kernel_rfl) (e := Extern.SlicesOverlaps.overlaps #[22, 22] #[4]) (by kernel_rfl),
      Lib.run_overlaps_apart w 22 4 32 Try.underlying22 3 (fun _ => by kernel_rfl) ⟨bv, 0, none⟩ ⟨g, (i + 1) * 3, none⟩ 1 1 lb cb hne 32 32 3 cs.length (shape_blk hx) (shape_blk hb) (by omega) (hx.free 0) (hx.free 3)]
    rfl
  clear h hb hcl htk hln hx
  have hii : (i : Int) < (n : Int) := by omega
  have hnci : (n : Int) + 1 ≤ (c : Int) := by omega
  have hnci2 : (n : Int) < (c : Int) := by omega
  unfold maxLen at hcm
  have hin : ((i : Int) == (n : Int)) = false := beq_eq_false_iff_ne.2 (by omega)
  go_enter Try.func35, Try.ntmps35
  go_wp2_with (simp only [hov])
  clear hov
  have hk0 : (0 : Int) ≤ (i : Int) + 1 := by omega
  have hic : ¬ c = i := by omega
  have hic1 : ¬ c = i + 1 := by omega
  have hic2 : i ≤ n + 1 := by omega
  have hic3 : i + 1 ≤ n + 1 := by omega
  have hic4 : (i : Int) + 1 ≤ (n : Int) + 1 := by omega
  have hic5 : (i : Int) ≤ (n : Int) + 1 := by omega
  have hw1 : IntKind.i64.wrap ((i : Int) + 1) = (i : Int) + 1 := by rw [IntKind.wrap_i64]; omega
  have htn : ((i : Int) + 1).toNat = i + 1 := by omega
  go_still_tail 8, (by kernel_rfl)
  clear hw1 htn
  change wpList _ _ _ _ _ w.drew
  have hNL : Hid ((flE.cells (l.drop i)).length = (n - i) * 3) := Lib.hid (by rw [len_cells, List.length_drop, HF.out.2.2.2.2])
  have hNR : Hid (Reads w ⟨g, i * 3, none⟩ (flE.cells (l.drop i))) := Lib.hid (HB.out.reads fun j u hj => by
    rw [← cells_drop, ← HF.out.2.1, List.drop_take, List.getElem?_take] at hj
    split at hj
    · rw [List.getElem?_drop] at hj; exact hj
    · cases hj)
  have hFT : Hid ((i + 1) * 3 + (flE.cells (l.drop i)).length ≤ cs.length) := Lib.hid (by rw [hNL.out, HF.out.1]; omega)
  refine wpList_copy_blk rfl _ _ 22 22 rfl 32 i0 3 Try.underlying22 HI.out HZ.out.2.1 g ((i + 1) * 3) (n - i) (c - (i + 1)) cs HB.out rfl ⟨g, i * 3, none⟩ (n + 1 - i) (c - i) (n - i) (flE.cells (l.drop i)) rfl (by show n - i = min (n + 1 - i) (n - i); omega) hNL.out hNR.out (flE.cells_one _) hFT.out ?_
  intro w2 hb2 hg2
  have hl2 : Hid ((splice cs ((i + 1) * 3) (flE.cells (l.drop i))).length = c * 3) := Lib.hid (by rw [length_splice _ _ _ hFT.out, HF.out.1])
  have hx2 : Hid (Reads w2 ⟨bv, 0, none⟩ (flE.enc x)) := Lib.hid ((Blk.kept (w := w.drew) HX.out hg2.out (by simpa using hne)).reads fun j u hj => by rw [Nat.zero_add]; exact hj)
  have hcp := fun ty => run_copy_blk (P := Try.prog) (w := w2) 22 22 ty 32 i0 3 Try.underlying22 HI.out HZ.out.2.1 (g := g) (off := i * 3) (dLen := n + 1 - i) (dCap := c - i) hb2.out ⟨bv, 0, none⟩ 1 1 1 (flE.enc x) (by show 1 = min 1 (n + 1 - i); omega) (flE.len x) hx2.out (flE.one x) (by rw [hl2.out, flE.len]; show i * 3 + 3 ≤ c * 3; omega)
  have hb3 := Lib.hid (hb2.out.row (splice (splice cs ((i + 1) * 3) (flE.cells (l.drop i))) (i * 3) (flE.enc x)))
  generalize w2.setRow g (splice (splice cs ((i + 1) * 3) (flE.cells (l.drop i))) (i * 3) (flE.enc x)).toArray = w3 at hcp hb3
  go_wp2_with fail
  go_ret
  refine ⟨_, rfl, blk_own hb3.out.1 ?_ hbg (by omega) HF.out.2.2.2.1 ?_, ?_⟩
  · rw [length_splice _ _ _ (by rw [hl2.out, flE.len]; show i * 3 + 3 ≤ c * 3; omega), hl2.out]
  · have h1 := two_splices (cs := cs) (X := flE.enc x) (A := flE.cells (l.take i)) (C := flE.cells (l.drop i)) (m := i * 3) (by rw [len_cells, List.length_take, HF.out.2.2.2.2]; omega) (by rw [hNL.out, ← flE.cells_append, List.take_append_drop, ← HF.out.2.1]; congr 1; omega) (by rw [flE.len, hNL.out, HF.out.1]; show i * 3 + 3 + (n - i) * 3 ≤ c * 3; omega)
    have e3 : (flE.enc x).length = 3 := flE.len x
    rw [e3, hNL.out, show i * 3 + 3 = (i + 1) * 3 by omega, show (i + 1) * 3 + (n - i) * 3 = (n + 1) * 3 by omega] at h1
    rw [h1, cells_ins]
  · exact ((But.refl _ w).drewN 1).trans ((But.ofGrown hg2.out).trans (But.ofGrown hb3.out.2)) |>.mono (fun i _ e => by cases e; exact hbg)

set_option maxRecDepth 100000 in
set_option maxHeartbeats 2000000 in
theorem insert_grow (g n c base : Nat) (l : List Fl) (i : Nat) (x : Fl) (bv : Nat) (w : World) (h : w.ownsRow base 32 3 (.slice (some ⟨g, 0, none⟩) n c) n (flE.cells l)) (hi : i < n) (hn : n ≤ 1000000) (hx : Blk w bv 32 (flE.enc x)) (hbase : base ≤ w.heap.size) (hc : c = n) :
    Calls Try.prog 35 #[.slice (some ⟨g, 0, none⟩) n c, .int .i64 (i : Int), .slice (some ⟨bv, 0, none⟩) 1 1] w fun e w' =>
      ∃ v, e = .returned v ∧ w'.ownsRow base 32 3 v (n + 1) (flE.cells (insAt l i x)) ∧ But (fun i => base ≤ i) w w' := by
  subst hc
  obtain ⟨i0, hi0, hz0, hz1, hz2⟩ := info_parts infoFile
  have hln : c * 3 = (flE.cells l).length := h.1.symm
  rw [len_cells] at hln
  have hln : l.length = c := by omega
  obtain ⟨cs, hb, hcl, htk, hbg, hnc, hcm, -⟩ := own_blk h
  have hTL : (flE.cells (l.take i)).length = i * 3 := by rw [len_cells, List.length_take, hln]; omega
  have hTR : Reads w ⟨g, 0, none⟩ (flE.cells (l.take i)) := hb.reads fun j u hj => by
    rw [← cells_take, ← htk, List.take_take, List.getElem?_take] at hj
    rw [Nat.zero_add]
    split at hj
    · exact hj
    · cases hj
  have hold : (Builtin.firstCells i0.size i (.slice (some ⟨g, 0, none⟩) i c)).run Try.prog w.drew = .ok (flE.cells (l.take i)).toArray w.drew := run_firstCells_some (P := Try.prog) w.drew i0.size i ⟨g, 0, none⟩ i c _ (by rw [hz1]; exact hTL) hTR
  obtain ⟨G, hG⟩ : ∃ G, G = grownCap w (c + 1) c 32 := ⟨_, rfl⟩
  have hGn : c + 1 ≤ G := hG ▸ grownCap_ge w _ _ _
  have hGm : G ≤ maxLen := hG ▸ grownCap_le_maxLen w (c + 1) c 32 (by unfold maxLen; omega)
  obtain ⟨cs1, hcs1⟩ : ∃ cs1, cs1 = flE.cells (l.take i) ++ ((Builtin.zeroCells (Value.agg #[.string ⟨#[]⟩, .string ⟨#[]⟩, .string ⟨#[]⟩]).cells (c + 1 - i)).toList ++ (Builtin.zeroCells (Value.agg #[.string ⟨#[]⟩, .string ⟨#[]⟩, .string ⟨#[]⟩]).cells (G - (c + 1))).toList) := ⟨_, rfl⟩
  have hrz : ∀ ty, (Builtin.append_ #[22, 3] ty #[.slice (some ⟨g, 0, none⟩) i c, .int .i64 ((c : Int) + 1 - (i : Int))]).run Try.prog w = .ok (.slice (some ⟨w.heap.size, 0, none⟩) (c + 1) G) (w.drew.alloc (.cells cs1.toArray 32)) := fun ty => by
    have h1 := Lib.run_append_grow_zeros (P := Try.prog) w 22 3 ty 32 i0 _ .i64 .i64 Try.underlying22 Try.underlying3 hi0 hz0 (some ⟨g, 0, none⟩) i c (flE.cells (l.take i)) hold (c + 1 - i) (by omega) (by omega) (by omega) (by omega) (by rw [hz2]; omega) (by rw [hz2]; exact growslice_fits (by omega) (by omega))
    rw [show i + (c + 1 - i) = c + 1 by omega, show ((c + 1 - i : Nat) : Int) = (c : Int) + 1 - (i : Int) by omega, ← hG] at h1
    rw [h1, hcs1]
    congr 3
    apply Array.ext'
    simp
  have hl1 : cs1.length = G * 3 := by
    rw [hcs1, List.length_append, List.length_append, hTL, Array.length_toList, Array.length_toList, size_zeroCells, size_zeroCells]
    show i * 3 + ((c + 1 - i) * 3 + (G - (c + 1)) * 3) = G * 3
    omega
  have ht1 : cs1.take (i * 3) = flE.cells (l.take i) := by rw [hcs1, List.take_append_of_le_length (by omega), List.take_of_length_le (by omega)]
  obtain ⟨W1, hW1⟩ : ∃ W1, W1 = w.drew.alloc (.cells cs1.toArray 32) := ⟨_, rfl⟩
  have hB1 : Below w.heap.size w W1 := hW1 ▸ ((Below.refl _ w).drew.alloc (Nat.le_refl _) _)
  have hN1 : Blk W1 w.heap.size 32 cs1 := by rw [hW1]; exact heap_alloc_new w.drew _
  rw [← hW1] at hrz
  have hglt := hb.lt
  have hvlt := hx.lt
  have HI := Lib.hid hi0
  have HZ := Lib.hid (And.intro hz0 (And.intro hz1 hz2))
  have HB := Lib.hid (hb.keep hB1)
  have HX := Lib.hid (hx.keep hB1)
  have HF := Lib.hid (And.intro hcl (And.intro htk (And.intro hbg (And.intro hcm hln))))
  have HN1 := Lib.hid hN1
  have HB1 := Lib.hid hB1
  have HL1 := Lib.hid (And.intro hl1 (And.intro ht1 hTL))
  have hcp := fun ty => run_copy_blk (P := Try.prog) (w := W1) 22 22 ty 32 i0 3 Try.underlying22 HI.out HZ.out.2.1 (g := w.heap.size) (off := i * 3) (dLen := c + 1 - i) (dCap := G - i) HN1.out ⟨bv, 0, none⟩ 1 1 1 (flE.enc x) (by show 1 = min 1 (c + 1 - i); omega) (flE.len x) (HX.out.reads fun j u hj => by rw [Nat.zero_add]; exact hj) (flE.one x) (by rw [hl1, flE.len]; show i * 3 + 3 ≤ G * 3; omega)
  have hb3 := Lib.hid (hN1.row (splice cs1 (i * 3) (flE.enc x)))
  generalize hW3 : W1.setRow w.heap.size (splice cs1 (i * 3) (flE.enc x)).toArray = w3 at hcp hb3
  clear hW3
  have hl3 : Hid ((splice cs1 (i * 3) (flE.enc x)).length = G * 3) := Lib.hid (by rw [length_splice _ _ _ (by rw [hl1, flE.len]; show i * 3 + 3 ≤ G * 3; omega), hl1])
  have HB3 : Hid (Blk w3 g 32 cs) := Lib.hid (HB.out.kept hb3.out.2 (by simp; omega))
  have hNL : Hid ((flE.cells (l.drop i)).length = (c - i) * 3) := Lib.hid (by rw [len_cells, List.length_drop, hln])
  have hNR : Hid (Reads w3 ⟨g, i * 3, none⟩ (flE.cells (l.drop i))) := Lib.hid (HB3.out.reads fun j u hj => by
    rw [← cells_drop, ← HF.out.2.1, List.drop_take, List.getElem?_take] at hj
    split at hj
    · rw [List.getElem?_drop] at hj; exact hj
    · cases hj)
  have hFT : Hid ((i + 1) * 3 + (flE.cells (l.drop i)).length ≤ (splice cs1 (i * 3) (flE.enc x)).length) := Lib.hid (by rw [hNL.out, hl3.out]; omega)
  unfold maxLen at hGm hcm
  clear h hb hcl htk hln hx hi0 hz0 hz1 hz2 hTL hTR hold hG hcs1 hl1 ht1 hW1 hB1 hN1
  have hii : (i : Int) < (c : Int) := by omega
  have hin : ((i : Int) == (c : Int)) = false := beq_eq_false_iff_ne.2 (by omega)
  have hic : ¬ c = i := by omega
  have hicc : i ≤ c := by omega
  have hGi : ¬ G = i := by omega
  have hGi1 : ¬ G = i + 1 := by omega
  have hw1 : IntKind.i64.wrap ((i : Int) + 1) = (i : Int) + 1 := by rw [IntKind.wrap_i64]; omega
  have htn : ((i : Int) + 1).toNat = i + 1 := by omega
  have hk0 : (0 : Int) ≤ (i : Int) + 1 := by omega
  have hic4 : (i : Int) + 1 ≤ (c : Int) + 1 := by omega
  have hic5 : (i : Int) ≤ (c : Int) + 1 := by omega
  go_enter Try.func35, Try.ntmps35
  go_wp2_with (at_builtin; refine Lib.wpList_append_run _ rfl _ _ _ _ rfl _ _ rfl rfl _ _ (hrz _) ?_)
  go_still_tail 8, (by kernel_rfl)
  change wpList _ _ _ _ _ w3.drew
  clear hw1 htn hcp hrz
  refine wpList_copy_blk rfl _ _ 22 22 rfl 32 i0 3 Try.underlying22 HI.out HZ.out.2.1 w.heap.size ((i + 1) * 3) (c - i) (G - (i + 1)) _ hb3.out.1 rfl ⟨g, i * 3, none⟩ (c - i) (c - i) (c - i) (flE.cells (l.drop i)) rfl (by show c - i = min (c - i) (c - i); omega) hNL.out hNR.out (flE.cells_one _) hFT.out ?_
  intro w4 hb4 hg4
  go_wp2_with fail
  go_ret
  refine ⟨_, rfl, blk_own hb4.out ?_ hbase (by omega) (by unfold maxLen; omega) ?_, ?_⟩
  · rw [length_splice _ _ _ hFT.out, hl3.out]
  · have e3 : (flE.enc x).length = 3 := flE.len x
    rw [splice_take _ _ _ (by rw [hl3.out]; omega) _ (by rw [hNL.out]; omega), splice_take _ _ _ (by rw [HL1.out.1]; omega) _ (by rw [e3]; omega), HL1.out.2.1, cells_ins]
  · refine ((But.ofBelow HB1.out).trans ((But.ofGrown hb3.out.2).mono (T := fun i => base ≤ i) (fun i _ e => by cases e; exact hbase))).trans (But.mono (S := fun i => some i = some w.heap.size) ⟨hg4.out.os, hg4.out.tape, hg4.out.output, hg4.out.size, fun i hi hs => hg4.out.block i hi hs⟩ (fun i _ e => by cases e; exact hbase))

theorem insert_any (a : Option Addr) (n c base : Nat) (l : List Fl) (i : Nat) (x : Fl) (bv : Nat) (w : World) (h : w.ownsRow base 32 3 (.slice a n c) n (flE.cells l)) (hi : i ≤ n) (hn : n ≤ 1000000) (hb : base ≤ w.heap.size) (hx : Blk w bv 32 (flE.enc x)) (hne : ∀ p, a = some p → p.block ≠ bv) :
    Calls Try.prog 35 #[.slice a n c, .int .i64 (i : Int), .slice (some ⟨bv, 0, none⟩) 1 1] w fun e w' =>
      ∃ v, e = .returned v ∧ w'.ownsRow base 32 3 v (n + 1) (flE.cells (insAt l i x)) ∧ But (fun i => base ≤ i) w w' := by
  by_cases hin : i = n
  · subst hin
    have hln : l.length = i := by
      have h1 := h.1
      rw [len_cells] at h1; omega
    have e : insAt l i x = l ++ [x] := by unfold insAt; rw [List.take_of_length_le (by omega), List.drop_of_length_le (by omega)]
    rw [e]
    exact insert_end a i c base l x bv w h hn hb hx
  · obtain ⟨g, rfl, -, -⟩ := own_some h (by omega)
    obtain ⟨cs, _, _, _, _, hnc, _, _⟩ := own_blk h
    by_cases hc : c = n
    · exact insert_grow g n c base l i x bv w h (by omega) hn hx hb hc
    · exact insert_room g n c base l i x bv w h (by omega) hn hx (fun e => hne _ rfl e.symm) (by omega)
end Go.Proofs.Ytjppommhamaibaa
