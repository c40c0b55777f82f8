/-
  The walk of delta.Apply: what any delta makes of any text; new blocks alone are made.
-/
import Derived.Test.YtdlnabjledhiiaaDlWalkB
import Derived.Test.YtdlnabjledhiiaaBuilder
import Derived.Test.YtdlnabjledhiiaaShelf
import Derived.Deep.DeepCutAuto
namespace Go.Proofs.Ytdlnabjledhiiaa
open Go.RowKit
set_option linter.unusedVariables false

theorem applyD_step {old : List UInt8} {M : Nat} {acc : List UInt8} {d : List DOp} {k : Nat} (h : k < d.length) :
    applyD old M acc (d.drop k) = if d[k].fits old.length = false then ([], 70) else if M < acc.length + (d[k].piece old).length then ([], 2) else applyD old M (acc ++ d[k].piece old) (d.drop (k + 1)) := by
  rw [List.drop_eq_getElem_cons h, applyD]
theorem piece_copy {old : List UInt8} {o : DOp} (h : o.t.size = 0) : o.piece old = (old.drop o.f.toNat).take o.l.toNat := by unfold DOp.piece; rw [if_pos h]
theorem piece_text {old : List UInt8} {o : DOp} (h : o.t.size ≠ 0) : o.piece old = o.t.data.toList := by unfold DOp.piece; rw [if_neg h]
theorem fits_text {n : Nat} {o : DOp} (h : o.t.size ≠ 0) : o.fits n = true := by unfold DOp.fits; simp [h]
theorem fits_copy {n : Nat} {o : DOp} (h : o.t.size = 0) : o.fits n = decide (o.f + o.l ≤ n) := by unfold DOp.fits; simp [h]
theorem clampM_le (m : Int) : clampM m ≤ 1048576 := Nat.min_le_right _ _

theorem bd_keep {T e : TypeId} {B b : Nat} {bs : List Value} {w w' : World} (h : Lib.IsBuilder T e B b bs w) (hb : Below w.heap.size w w') : Lib.IsBuilder T e B b bs w' := by
  have key : ∀ p, Lib.BuilderAt T e B b p bs w → Lib.BuilderAt T e B b p bs w' := fun p ⟨hB, v, hbk, hown, hne⟩ =>
    ⟨hB, v, (hb.block b (lt_of_block hbk)).trans hbk, hown.kept (grown_below hb none) (by by_cases hh : v.ownBlock = none <;> simp [hh]), hne⟩
  exact h.imp (key _) (key _)
theorem cell_three0 (w : World) (u v x : Value) (t : TypeId) : (w.alloc (.cells #[u, v, x] t)).cell? ⟨w.heap.size, 0, none⟩ = some u := by
  unfold World.cell?
  rw [show (w.alloc (.cells #[u, v, x] t)).heap[w.heap.size]? = _ from heap_alloc_new w _]
  rfl
theorem cell_three1 (w : World) (u v x : Value) (t : TypeId) : (w.alloc (.cells #[u, v, x] t)).cell? ⟨w.heap.size, 1, none⟩ = some v := by
  unfold World.cell?
  rw [show (w.alloc (.cells #[u, v, x] t)).heap[w.heap.size]? = _ from heap_alloc_new w _]
  rfl
theorem cell_three2 (w : World) (u v x : Value) (t : TypeId) : (w.alloc (.cells #[u, v, x] t)).cell? ⟨w.heap.size, 2, none⟩ = some x := by
  unfold World.cell?
  rw [show (w.alloc (.cells #[u, v, x] t)).heap[w.heap.size]? = _ from heap_alloc_new w _]
  rfl

set_option maxRecDepth 100000 in
set_option maxHeartbeats 4000000 in
theorem apply_main (old : ByteArray) (a : Option Addr) (n c : Nat) (d : List DOp) (m : Int) (w : World) (h : OpsSl w a n d) (hn : n ≤ 9223372036854775807) (ho : old.size ≤ maxLen) (hr : rightB d = true) (r : List UInt8 × Int) (hrr : Hid (r = applyD old.data.toList (clampM m) [] d)) :
    Calls Try.prog 15 #[.string old, .slice a n c, .int .i64 m] w fun e w' => e = .returned (.tuple #[.string (strOf r.1), .int .i64 r.2]) ∧ Below w.heap.size w w' := by
  have hc := Lib.hid (right_any a n c d w h hn true (Lib.hid hr.symm))
  have hall := Lib.hid (rightB_all hr)
  have hn2 : n ≤ 2000 := by unfold rightB at hr; simp at hr; rw [h.1]; exact hr.1
  have H := Lib.hid h
  obtain ⟨M, hM⟩ : ∃ M, M = clampM m := ⟨_, rfl⟩
  have hM2 : M ≤ 1048576 := by rw [hM]; exact clampM_le m
  have hMv : min (max m 0) 1048576 = (M : Int) := by rw [hM]; unfold clampM; omega
  have hMi : (M : Int) ≤ 1048576 := by omega
  rw [← hM] at hrr
  unfold maxLen at ho
  have hnd := h.1
  have HN := Lib.hid hnd
  clear h hr hM hnd
  go_enter Try.func15, Try.ntmps15
  go_wp2_with fail
  refine hc.out.mono ?_
  rintro e w1 ⟨rfl, hb1⟩
  have HB1 := Lib.hid hb1
  have hBsz := hb1.size
  have HBd : Hid (Lib.IsBuilder 55 5 w.heap.size w1.heap.size (Lib.byteCells []) (w1.alloc (.cells #[.pointer none, .slice none 0 0] 55))) := by
    refine Lib.hid (.inl ⟨hBsz, .slice none 0 0, heap_alloc_new w1 _, ?_, by simp [Value.ownBlock]⟩)
    exact World.ownsRow_nil _ _ _ _
  have HB2 := Lib.hid (HB1.out.alloc hBsz (.cells #[.pointer none, .slice none 0 0] 55))
  have hb0 : w1.heap.size < (w1.alloc (.cells #[.pointer none, .slice none 0 0] 55)).heap.size := by simp
  clear hb1 hc
  go_wp2_with fail
  generalize (w1.alloc (.cells #[.pointer none, .slice none 0 0] 55)) = w2 at *
  generalize w1.heap.size = bb at *
  go_loopg [20] n (fun gk i wr => ∃ (k : Nat) (acc : List UInt8), k ≤ n ∧ gk = n - k ∧ i = .int .i64 (k : Int) ∧ acc.length ≤ M ∧ Hid (Below w.heap.size w wr) ∧ Hid (Lib.IsBuilder 55 5 w.heap.size bb (Lib.byteCells acc) wr) ∧ Hid (r = applyD old.data.toList M acc (d.drop k)) ∧ bb < wr.heap.size)
  case atStart => exact ⟨0, [], Nat.zero_le _, rfl, rfl, Nat.zero_le _, HB2, HBd, hrr, hb0⟩
  case round =>
    obtain ⟨k, acc, hk, rfl, rfl, hacc, hB, hBd, hR, hlt0⟩ := hrel
    by_cases hlt : k < n
    · have hkd : k < d.length := by rw [← HN.out]; exact hlt
      obtain ⟨-, bo, off, rfl, hcells⟩ := H.out.at (by omega)
      obtain ⟨q0, q1, q2⟩ := hcells k hkd
      have c0 := cell_keep hB.out q0
      have c1 := cell_keep hB.out q1
      have c2 := cell_keep hB.out q2
      have hki : (k : Int) < (n : Int) := by omega
      have hok := hall.out d[k] (List.getElem_mem hkd)
      have hst := applyD_step (old := old.data.toList) (M := M) (acc := acc) hkd
      rw [← hR.out] at hst
      clear q0 q1 q2 hcells hR
      generalize d[k] = o at *
      obtain ⟨of, ol, ot⟩ := o
      have HX := Lib.hid (hB.out.alloc hB.out.size (.cells #[.int .i64 of, .int .i64 ol, .string ot] 41))
      have hBe : Below wr.heap.size wr (wr.alloc (.cells #[.int .i64 of, .int .i64 ol, .string ot] 41)) := (Below.refl _ wr).alloc (Nat.le_refl _) _
      have HBd1 := Lib.hid (bd_keep hBd.out hBe)
      have G0 := Lib.hid (cell_three0 wr (.int .i64 of) (.int .i64 ol) (.string ot) 41)
      have G1 := Lib.hid (cell_three1 wr (.int .i64 of) (.int .i64 ol) (.string ot) 41)
      have G2 := Lib.hid (cell_three2 wr (.int .i64 of) (.int .i64 ol) (.string ot) 41)
      have hacci : (acc.length : Int) ≤ (M : Int) := by omega
      clear hBe
      by_cases h0 : ot.size = 0
      · obtain ⟨p1, p2, p3, p4⟩ := ok_empty hok h0
        rw [fits_copy h0] at hst
        obtain rfl := size0 h0
        obtain ⟨F, rfl⟩ : ∃ F : Nat, of = (F : Int) := ⟨of.toNat, by dsimp only at p3; omega⟩
        obtain ⟨L, rfl⟩ : ∃ L : Nat, ol = (L : Int) := ⟨ol.toNat, by dsimp only at p1; omega⟩
        have p1 : (1 : Int) ≤ (L : Int) := p1
        have p2 : (L : Int) ≤ 131072 := p2
        have p4 : (F : Int) ≤ 131072 := p4
        have hcop := Lib.hid (copies_is (F : Int) (L : Int) ⟨#[]⟩ (wr.alloc (.cells #[.int .i64 (F : Int), .int .i64 (L : Int), .string ⟨#[]⟩] 41)) true (Lib.hid (by simp; omega)))
        have hlo : old.data.toList.length = old.size := (size_len old).symm
        dsimp only at hst
        by_cases hfit : F + L ≤ old.size
        · rw [if_neg (by rw [hlo]; simp; omega)] at hst
          have hpc : DOp.piece old.data.toList ⟨(F : Int), (L : Int), ⟨#[]⟩⟩ = (old.data.toList.drop F).take L := by rw [piece_copy rfl]; simp
          rw [hpc] at hst
          have hpl : ((old.data.toList.drop F).take L).length = L := by rw [List.length_take, List.length_drop, hlo]; omega
          rw [hpl] at hst
          have hex : old.extract F (F + L) = strOf ((old.data.toList.drop F).take L) := by rw [extract_strOf]; congr 2; omega
          have hsz : (old.extract F (F + L)).size = L := by rw [hex, strOf_size, hpl]
          have HEX := Lib.hid hex
          have HPL := Lib.hid hpl
          have HSZ := Lib.hid hsz
          have hfi : (F : Int) + (L : Int) ≤ (old.size : Int) := by omega
          clear hpc hpl hex hsz hlo h0
          by_cases hover : M < acc.length + L
          · rw [if_pos hover] at hst
            have HST := Lib.hid hst
            have hoi : (M : Int) < (acc.length : Int) + (L : Int) := by omega
            clear hst hover
            go_wp2_with fail
            refine hcop.out.mono ?_
            rintro e w3 ⟨rfl, hb3⟩
            have g0 := cell_keep hb3 G0.out
            have g1 := cell_keep hb3 G1.out
            have g2 := cell_keep hb3 G2.out
            have HB3 := Lib.hid (below_then HX.out hb3 HX.out.size)
            have hbl := Lib.hid (bd_keep HBd1.out hb3)
            clear hb3
            go_wp2_with fail
            refine (Try.Builder_Len _ _ _ _ hbl.out).mono ?_
            rintro e w4 ⟨rfl, rfl⟩
            rw [Lib.byteCells_length]
            go_wp2_with fail
            go_ret2
            exact ⟨by rw [HST.out]; rfl, HB3.out⟩
          · rw [if_neg hover] at hst
            have HST := Lib.hid hst
            have hoi : (acc.length : Int) + (L : Int) ≤ (M : Int) := by omega
            have hnew : (acc ++ (old.data.toList.drop F).take L).length ≤ M := by rw [List.length_append, HPL.out]; omega
            have hcells : Lib.byteCells acc ++ Lib.strCells (old.extract F (F + L)) = Lib.byteCells (acc ++ (old.data.toList.drop F).take L) := by rw [HEX.out, Lib.byteCells_append]; rfl
            have HCL := Lib.hid hcells
            have hwl : (Lib.byteCells acc).length + (old.extract F (F + L)).size ≤ 140737488355328 := by rw [Lib.byteCells_length, HSZ.out]; omega
            have HWL := Lib.hid hwl
            clear hst hover hcells hwl
            go_wp2_with fail
            refine hcop.out.mono ?_
            rintro e w3 ⟨rfl, hb3⟩
            have g0 := cell_keep hb3 G0.out
            have g1 := cell_keep hb3 G1.out
            have g2 := cell_keep hb3 G2.out
            have HB3 := Lib.hid (below_then HX.out hb3 HX.out.size)
            have hbl := Lib.hid (bd_keep HBd1.out hb3)
            clear hb3
            go_wp2_with fail
            refine (Try.Builder_Len _ _ _ _ hbl.out).mono ?_
            rintro e w4 ⟨rfl, rfl⟩
            rw [Lib.byteCells_length]
            go_wp2_with fail
            refine (bdWrite_any _ _ _ (old.extract F (F + L)) _ hbl.out HWL.out HB3.out.size).mono ?_
            rintro e w5 ⟨rfl, hbd5, hb5⟩
            rw [HCL.out] at hbd5
            have HD5 := Lib.hid hbd5
            have HB5 := Lib.hid (HB3.out.trans hb5)
            have hlt5 : bb < w5.heap.size := by
              rcases hbd5 with h | h
              · exact h.lt
              · exact h.lt
            clear hbd5 hb5
            go_wp2_with fail
            go_roundg (n - (k + 1))
            case rel => exact ⟨k + 1, _, by omega, rfl, by go_num, hnew, HB5, HD5, HST, hlt5⟩
            case measure => omega
        · rw [if_pos (by rw [hlo]; simp; omega)] at hst
          have HST := Lib.hid hst
          have hfi : (old.size : Int) < (F : Int) + (L : Int) := by omega
          clear hst hlo h0
          go_wp2_with fail
          refine hcop.out.mono ?_
          rintro e w3 ⟨rfl, hb3⟩
          have g0 := cell_keep hb3 G0.out
          have g1 := cell_keep hb3 G1.out
          have g2 := cell_keep hb3 G2.out
          have HB3 := Lib.hid (below_then HX.out hb3 HX.out.size)
          clear hb3
          go_wp2_with fail
          go_ret2
          exact ⟨by rw [HST.out]; rfl, HB3.out⟩
      · obtain ⟨p1, p2, p3⟩ := ok_text hok h0
        have p1 : ol = 0 := p1
        have p2 : of = 0 := p2
        have p3 : ot.size ≤ 131072 := p3
        subst p1 p2
        rw [fits_text h0, piece_text h0] at hst
        rw [if_neg (by decide)] at hst
        have hpl : ot.data.toList.length = ot.size := (size_len ot).symm
        dsimp only at hst
        rw [hpl] at hst
        have hcop := Lib.hid (copies_is 0 0 ot (wr.alloc (.cells #[.int .i64 0, .int .i64 0, .string ot] 41)) false (Lib.hid (by decide)))
        have HPL := Lib.hid hpl
        clear hpl
        by_cases hover : M < acc.length + ot.size
        · rw [if_pos hover] at hst
          have HST := Lib.hid hst
          have hoi : (M : Int) < (acc.length : Int) + (ot.size : Int) := by omega
          clear hst hover
          go_wp2_with fail
          refine hcop.out.mono ?_
          rintro e w3 ⟨rfl, hb3⟩
          have g0 := cell_keep hb3 G0.out
          have g1 := cell_keep hb3 G1.out
          have g2 := cell_keep hb3 G2.out
          have HB3 := Lib.hid (below_then HX.out hb3 HX.out.size)
          have hbl := Lib.hid (bd_keep HBd1.out hb3)
          clear hb3
          go_wp2_with fail
          refine (Try.Builder_Len _ _ _ _ hbl.out).mono ?_
          rintro e w4 ⟨rfl, rfl⟩
          rw [Lib.byteCells_length]
          go_wp2_with fail
          go_ret2
          exact ⟨by rw [HST.out]; rfl, HB3.out⟩
        · rw [if_neg hover] at hst
          have HST := Lib.hid hst
          have hoi : (acc.length : Int) + (ot.size : Int) ≤ (M : Int) := by omega
          have hnew : (acc ++ ot.data.toList).length ≤ M := by rw [List.length_append, HPL.out]; omega
          have hcells : Lib.byteCells acc ++ Lib.strCells ot = Lib.byteCells (acc ++ ot.data.toList) := by rw [Lib.byteCells_append]; rfl
          have HCL := Lib.hid hcells
          have hwl : (Lib.byteCells acc).length + ot.size ≤ 140737488355328 := by rw [Lib.byteCells_length]; omega
          have HWL := Lib.hid hwl
          clear hst hover hcells hwl
          go_wp2_with fail
          refine hcop.out.mono ?_
          rintro e w3 ⟨rfl, hb3⟩
          have g0 := cell_keep hb3 G0.out
          have g1 := cell_keep hb3 G1.out
          have g2 := cell_keep hb3 G2.out
          have HB3 := Lib.hid (below_then HX.out hb3 HX.out.size)
          have hbl := Lib.hid (bd_keep HBd1.out hb3)
          clear hb3
          go_wp2_with fail
          refine (Try.Builder_Len _ _ _ _ hbl.out).mono ?_
          rintro e w4 ⟨rfl, rfl⟩
          rw [Lib.byteCells_length]
          go_wp2_with fail
          refine (bdWrite_any _ _ _ ot _ hbl.out HWL.out HB3.out.size).mono ?_
          rintro e w5 ⟨rfl, hbd5, hb5⟩
          rw [HCL.out] at hbd5
          have HD5 := Lib.hid hbd5
          have HB5 := Lib.hid (HB3.out.trans hb5)
          have hlt5 : bb < w5.heap.size := by
            rcases hbd5 with h | h
            · exact h.lt
            · exact h.lt
          clear hbd5 hb5
          go_wp2_with fail
          go_roundg (n - (k + 1))
          case rel => exact ⟨k + 1, _, by omega, rfl, by go_num, hnew, HB5, HD5, HST, hlt5⟩
          case measure => omega
    · have hki : (n : Int) ≤ (k : Int) := by omega
      have hnil : d.drop k = [] := List.drop_eq_nil_of_le (by have := HN.out; omega)
      have HST := Lib.hid (show r = (acc, 0) by rw [hR.out, hnil, applyD])
      clear hnil hR
      go_wp2_with fail
      refine (Try.Builder_String_any _ _ _ _ hBd.out hB.out.size).mono ?_
      rintro e w4 ⟨rfl, hb4⟩
      have HB4 := Lib.hid (hB.out.trans hb4)
      clear hb4
      go_wp2_with fail
      go_ret2
      exact ⟨by rw [HST.out]; rfl, HB4.out⟩

theorem apply_any (old : ByteArray) (a : Option Addr) (n c : Nat) (d : List DOp) (m : Int) (w : World) (h : OpsSl w a n d) (hn : n ≤ 9223372036854775807) (ho : old.size ≤ maxLen) :
    Calls Try.prog 15 #[.string old, .slice a n c, .int .i64 m] w fun e w' => e = .returned (.tuple #[.string (strOf (applyAll old.data.toList d m).1), .int .i64 (applyAll old.data.toList d m).2]) ∧ Below w.heap.size w w' := by
  by_cases hr : rightB d = true
  · refine (apply_main old a n c d m w h hn ho hr _ (Lib.hid rfl)).mono ?_
    rintro e w' ⟨rfl, hb⟩
    rw [applyAll, if_pos hr]
    exact ⟨rfl, hb⟩
  · have hc := Lib.hid (right_any a n c d w h hn false (Lib.hid (by simpa using hr)))
    have HF := Lib.hid (show applyAll old.data.toList d m = ([], 70) by rw [applyAll, if_neg hr])
    rw [HF.out]
    clear h hr hn ho HF
    go_enter Try.func15, Try.ntmps15
    go_wp2_with fail
    refine hc.out.mono ?_
    rintro e w1 ⟨rfl, hb1⟩
    have HB1 := Lib.hid hb1
    clear hb1 hc
    go_wp2_with fail
    go_ret2
    exact ⟨rfl, HB1.out⟩
end Go.Proofs.Ytdlnabjledhiiaa
