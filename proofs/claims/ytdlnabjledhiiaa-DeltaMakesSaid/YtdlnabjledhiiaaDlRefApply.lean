/-
  The walk of the reference's Apply: what any delta makes of any text; new blocks alone are made.
-/
import Derived.Test.YtdlnabjledhiiaaDlApply
namespace Go.Proofs.Ytdlnabjledhiiaa
open Go.RowKit
set_option linter.unusedVariables false

theorem conv_own {P : Program} (w : World) (src dst e : TypeId) (base : Nat) (v : Value) (l : List UInt8) (n : Nat) (hs : P.underlying src = some (.slice e)) (he : P.underlying e = some (.int .u8)) (hd : P.underlying dst = some .string)
    (h : w.ownsRow base e 1 v n (Lib.byteCells l)) (hne : v ≠ .slice none 0 0) : (convert src dst v).run P w = .ok (.string (strOf l)) w := by
  rcases h.2 with ⟨hv, _⟩ | ⟨g, cap, cur, rfl, _⟩
  · exact absurd hv hne
  · have hn : n = l.length := by have := h.1; rw [Lib.byteCells_length] at this; omega
    subst hn
    refine run_convert_bytes_back w src dst e ⟨g, 0, none⟩ cap l hs he hd fun j hj => ?_
    have := h.cells (g := g) rfl j (.int .u8 (l[j].toNat : Int)) (by simp [Lib.byteCells, hj])
    exact this

set_option maxRecDepth 100000 in
set_option maxHeartbeats 4000000 in
theorem refApply_main (old : ByteArray) (a : Option Addr) (n c : Nat) (d : List DOp) (m : Int) (w : World) (h : OpsSl w a n d) (hn : n ≤ 9223372036854775807) (ho : old.size ≤ maxLen) (hr : rightB d = true) (r : List UInt8 × Int) (hrr : Hid (r = applyD old.data.toList (clampM m) [] d)) :
    Calls Try.prog 16 #[.string old, .slice a n c, .int .i64 m] w fun e w' => e = .returned (.tuple #[.string (strOf r.1), .int .i64 r.2]) ∧ Below w.heap.size w w' := by
  obtain ⟨i0, hi, hz0, hz1, hz2⟩ := info_parts infoByte
  have hc := Lib.hid (refRight_any a n c d w h hn true (Lib.hid hr.symm))
  have hall := Lib.hid (rightB_all hr)
  have hn2 : n ≤ 2000 := by unfold rightB at hr; simp at hr; rw [h.1]; exact hr.1
  have H := Lib.hid h
  obtain ⟨M, hM⟩ : ∃ M, M = clampM m := ⟨_, rfl⟩
  have hM2 : M ≤ 1048576 := by rw [hM]; exact clampM_le m
  have hMv : Hid ((M : Int) = min (max m 0) 1048576) := Lib.hid (by rw [hM]; unfold clampM; omega)
  have hMi : (M : Int) ≤ 1048576 := by omega
  rw [← hM] at hrr
  unfold maxLen at ho
  have hnd := h.1
  have HN := Lib.hid hnd
  have HI := Lib.hid hi
  have HZ := Lib.hid (And.intro hz0 (And.intro hz1 hz2))
  clear h hr hM hnd hi hz0 hz1 hz2
  go_enter Try.func16, Try.ntmps16
  go_wp2_with fail
  refine hc.out.mono ?_
  rintro e w1 ⟨rfl, hb1⟩
  have HB1 := Lib.hid hb1
  have hBsz := hb1.size
  clear hb1 hc
  go_upto_if 15 with fail
  go_cut [2] (fun v w' => v = .int .i64 (max m 0) ∧ w1 = w')
  case first =>
    by_cases h1 : m < 0
    · have e : max m 0 = 0 := by omega
      go_wp2_with fail
      go_meet
      exact ⟨val_int e.symm, rfl⟩
    · have e : max m 0 = m := by omega
      go_wp2_with fail
      go_meet
      exact ⟨val_int e.symm, rfl⟩
  case rest =>
    obtain ⟨rfl, rfl⟩ := hcut
    go_upto_if 17 with fail
    go_cut [2] (fun v w' => v = .int .i64 (M : Int) ∧ w1 = w')
    case first =>
      have := hMv.out
      generalize max m 0 = mm at *
      by_cases h1 : 1048576 < mm
      · have e : (M : Int) = 1048576 := by omega
        go_wp2_with fail
        go_meet
        exact ⟨val_int e.symm, rfl⟩
      · have e : (M : Int) = mm := by omega
        go_wp2_with fail
        go_meet
        exact ⟨val_int e.symm, rfl⟩
    case rest =>
      obtain ⟨rfl, rfl⟩ := hcut
      have HO0 : Hid ((w1.alloc (.cells #[] 5)).ownsRow w.heap.size 5 1 (.slice (some ⟨w1.heap.size, 0, none⟩) 0 0) ([] : List UInt8).length (Lib.byteCells [])) := Lib.hid (by
        have := World.ownsRow_made (e := 5) (size := 1) w1 #[] 0 (Nat.le_refl _) (Nat.zero_le _) rfl
        exact ⟨this.1, this.2.imp id (fun ⟨g, cap, cur, e1, hb, r⟩ => ⟨g, cap, cur, e1, Nat.le_trans hBsz hb, r⟩)⟩)
      have HB2 := Lib.hid (HB1.out.alloc hBsz (.cells #[] 5))
      go_wp2_with fail
      generalize (w1.alloc (.cells #[] 5)) = w2 at *
      generalize w1.heap.size = bb at *
      go_loopg [8, 21] n (fun gk v8 i wr => ∃ (k : Nat) (acc : List UInt8), k ≤ n ∧ gk = n - k ∧ i = .int .i64 (k : Int) ∧ acc.length ≤ M ∧ Hid (Below w.heap.size w wr) ∧ Hid (wr.ownsRow w.heap.size 5 1 v8 acc.length (Lib.byteCells acc)) ∧ Hid (v8 ≠ .slice none 0 0) ∧ Hid (r = applyD old.data.toList M acc (d.drop k)))
      case atStart => exact ⟨0, [], Nat.zero_le _, rfl, rfl, Nat.zero_le _, HB2, HO0, Lib.hid (by simp), hrr⟩
      case round =>
        obtain ⟨k, acc, hk, rfl, rfl, hacc, hB, hO, hNe, hR⟩ := hrel
        by_cases hlt : k < n
        · have hkd : k < d.length := by rw [← HN.out]; exact hlt
          obtain ⟨-, bo, off, rfl, hcells⟩ := H.out.at (by omega)
          obtain ⟨q0, q1, q2⟩ := hcells k hkd
          have c0 := cell_keep hB.out q0
          have c1 := cell_keep hB.out q1
          have c2 := cell_keep hB.out q2
          have hki : (k : Int) < (n : Int) := by omega
          have hok := hall.out d[k] (List.getElem_mem hkd)
          have hst := applyD_step (old := old.data.toList) (M := M) (acc := acc) hkd
          rw [← hR.out] at hst
          clear q0 q1 q2 hcells hR
          generalize d[k] = o at *
          obtain ⟨of, ol, ot⟩ := o
          have hacci : (acc.length : Int) ≤ (M : Int) := by omega
          by_cases h0 : ot.size = 0
          · obtain ⟨o1, o2, o3, o4⟩ := ok_empty hok h0
            rw [fits_copy h0] at hst
            obtain rfl := size0 h0
            obtain ⟨F, rfl⟩ : ∃ F : Nat, of = (F : Int) := ⟨of.toNat, by dsimp only at o3; omega⟩
            obtain ⟨L, rfl⟩ : ∃ L : Nat, ol = (L : Int) := ⟨ol.toNat, by dsimp only at o1; omega⟩
            have p1 : (1 : Int) ≤ (L : Int) := o1
            have p2 : (L : Int) ≤ 131072 := o2
            have p4 : (F : Int) ≤ 131072 := o4
            have hlo : old.data.toList.length = old.size := (size_len old).symm
            dsimp only at hst
            clear o1 o2 o3 o4
            by_cases hfit : F + L ≤ old.size
            · rw [if_neg (by rw [hlo]; simp; omega)] at hst
              have hpc : DOp.piece old.data.toList ⟨(F : Int), (L : Int), ⟨#[]⟩⟩ = (old.data.toList.drop F).take L := by rw [piece_copy rfl]; simp
              rw [hpc] at hst
              have hpl : ((old.data.toList.drop F).take L).length = L := by rw [List.length_take, List.length_drop, hlo]; omega
              rw [hpl] at hst
              have hex : old.extract F (F + L) = strOf ((old.data.toList.drop F).take L) := by rw [extract_strOf]; congr 2; omega
              have hsz : (old.extract F (F + L)).size = L := by rw [hex, strOf_size, hpl]
              have HPL := Lib.hid hpl
              have HSZ := Lib.hid hsz
              have HCL : Hid (Lib.byteCells acc ++ Lib.strCells (old.extract F (F + L)) = Lib.byteCells (acc ++ (old.data.toList.drop F).take L)) := Lib.hid (by rw [hex, Lib.byteCells_append]; rfl)
              have hfi : (F : Int) + (L : Int) ≤ (old.size : Int) := by omega
              clear hpc hpl hex hsz hlo h0 hok
              go_wp2_with (at_builtin; refine Lib.wpList_append_own_string _ rfl _ _ 53 9 rfl w.heap.size 5 i0 Try.underlying53 Try.underlying9 HI.out HZ.out.1 HZ.out.2.1 HZ.out.2.2 _ _ _ rfl (hO.out.alloc _) (old.extract F (F + L)) rfl ?c3 ?c4 ?c5 ?_)
              case c3 => (try rw [HSZ.out]); unfold maxLen; omega
              case c4 => (try rw [HSZ.out]); omega
              case c5 => have := hB.out.size; simp; omega
              intro v' w3 hown' hgrow hnil
              try rw [HSZ.out] at hown'
              try rw [HSZ.out] at hnil
              rw [HCL.out] at hown'
              have HO3 := Lib.hid hown'
              have HB3 := Lib.hid ((hB.out.alloc hB.out.size _).grown hgrow (by have := hB.out.size; simp; omega) (fun x e => (hO.out.lt x e).1))
              have HN3 : Hid (v' ≠ .slice none 0 0) := Lib.hid (fun e => hNe.out (hnil.1 e).1)
              obtain ⟨g, cap, rfl⟩ : ∃ g cap, v' = .slice (some ⟨g, 0, none⟩) (acc.length + L) cap := by
                rcases hown'.2 with ⟨hv, _⟩ | ⟨g, cap, cur, hv, _⟩
                · exact absurd hv HN3.out
                · exact ⟨g, cap, hv⟩
              clear hown' hgrow hnil
              by_cases hover : M < acc.length + L
              · rw [if_pos hover] at hst
                have HST := Lib.hid hst
                have hoi : (M : Int) < (acc.length : Int) + (L : Int) := by omega
                clear hst hover
                go_wp2_with fail
                go_ret2
                exact ⟨by rw [HST.out]; rfl, HB3.out⟩
              · rw [if_neg hover] at hst
                have HST := Lib.hid hst
                have hoi : (acc.length : Int) + (L : Int) ≤ (M : Int) := by omega
                have hnew : (acc ++ (old.data.toList.drop F).take L).length ≤ M := by rw [List.length_append, HPL.out]; omega
                have HLE : Hid (acc.length + L = (acc ++ (old.data.toList.drop F).take L).length) := Lib.hid (by rw [List.length_append, HPL.out])
                rw [HLE.out] at HO3
                clear hst hover
                go_wp2_with fail
                go_roundg (n - (k + 1))
                case rel => exact ⟨k + 1, _, by omega, rfl, by go_num, hnew, HB3, by rw [HLE.out]; exact HO3, HN3, HST⟩
                case measure => omega
            · rw [if_pos (by rw [hlo]; simp; omega)] at hst
              have HST := Lib.hid hst
              have HBX := Lib.hid (hB.out.alloc hB.out.size (.cells #[.int .i64 (F : Int), .int .i64 (L : Int), .string ⟨#[]⟩] 41))
              have hfi : (old.size : Int) < (F : Int) + (L : Int) := by omega
              clear hst hlo h0 hok
              go_wp2_with fail
              go_ret2
              exact ⟨by rw [HST.out]; rfl, HBX.out⟩
          · obtain ⟨p1, p2, p3⟩ := ok_text hok h0
            have p1 : ol = 0 := p1
            have p2 : of = 0 := p2
            have p3 : ot.size ≤ 131072 := p3
            subst p1 p2
            rw [fits_text h0, piece_text h0] at hst
            rw [if_neg (by decide)] at hst
            have hpl : ot.data.toList.length = ot.size := (size_len ot).symm
            dsimp only at hst
            rw [hpl] at hst
            have HPL := Lib.hid hpl
            have HSZ : Hid (ot.size = ot.size) := Lib.hid rfl
            have e1 := isEmpty_no h0
            have e2 := eqNil_no h0
            have HCL : Hid (Lib.byteCells acc ++ Lib.strCells ot = Lib.byteCells (acc ++ ot.data.toList)) := Lib.hid (by rw [Lib.byteCells_append]; rfl)
            clear hpl hok h0
            go_wp2_with (at_builtin; refine Lib.wpList_append_own_string _ rfl _ _ 53 9 rfl w.heap.size 5 i0 Try.underlying53 Try.underlying9 HI.out HZ.out.1 HZ.out.2.1 HZ.out.2.2 _ _ _ rfl (hO.out.alloc _) ot rfl ?c3 ?c4 ?c5 ?_)
            case c3 => (try rw [HSZ.out]); unfold maxLen; omega
            case c4 => (try rw [HSZ.out]); omega
            case c5 => have := hB.out.size; simp; omega
            intro v' w3 hown' hgrow hnil
            try rw [HSZ.out] at hown'
            try rw [HSZ.out] at hnil
            rw [HCL.out] at hown'
            have HO3 := Lib.hid hown'
            have HB3 := Lib.hid ((hB.out.alloc hB.out.size _).grown hgrow (by have := hB.out.size; simp; omega) (fun x e => (hO.out.lt x e).1))
            have HN3 : Hid (v' ≠ .slice none 0 0) := Lib.hid (fun e => hNe.out (hnil.1 e).1)
            obtain ⟨g, cap, rfl⟩ : ∃ g cap, v' = .slice (some ⟨g, 0, none⟩) (acc.length + ot.size) cap := by
              rcases hown'.2 with ⟨hv, _⟩ | ⟨g, cap, cur, hv, _⟩
              · exact absurd hv HN3.out
              · exact ⟨g, cap, hv⟩
            clear hown' hgrow hnil
            by_cases hover : M < acc.length + ot.size
            · rw [if_pos hover] at hst
              have HST := Lib.hid hst
              have hoi : (M : Int) < (acc.length : Int) + (ot.size : Int) := by omega
              clear hst hover
              go_wp2_with fail
              go_ret2
              exact ⟨by rw [HST.out]; rfl, HB3.out⟩
            · rw [if_neg hover] at hst
              have HST := Lib.hid hst
              have hoi : (acc.length : Int) + (ot.size : Int) ≤ (M : Int) := by omega
              have hnew : (acc ++ ot.data.toList).length ≤ M := by rw [List.length_append, HPL.out]; omega
              have HLE : Hid (acc.length + ot.size = (acc ++ ot.data.toList).length) := Lib.hid (by rw [List.length_append, HPL.out])
              rw [HLE.out] at HO3
              clear hst hover
              go_wp2_with fail
              go_roundg (n - (k + 1))
              case rel => exact ⟨k + 1, _, by omega, rfl, by go_num, hnew, HB3, by rw [HLE.out]; exact HO3, HN3, HST⟩
              case measure => omega
        · have hki : (n : Int) ≤ (k : Int) := by omega
          have hnil : d.drop k = [] := List.drop_eq_nil_of_le (by have := HN.out; omega)
          have HST := Lib.hid (show r = (acc, 0) by rw [hR.out, hnil, applyD])
          have hconv := conv_own wr 53 9 5 w.heap.size _ acc _ Try.underlying53 Try.underlying5 Try.underlying9 hO.out hNe.out
          clear hnil hR
          go_wp2_with fail
          go_ret2
          exact ⟨by rw [HST.out]; rfl, hB.out⟩

theorem refApply_any (old : ByteArray) (a : Option Addr) (n c : Nat) (d : List DOp) (m : Int) (w : World) (h : OpsSl w a n d) (hn : n ≤ 9223372036854775807) (ho : old.size ≤ maxLen) :
    Calls Try.prog 16 #[.string old, .slice a n c, .int .i64 m] w fun e w' => e = .returned (.tuple #[.string (strOf (applyAll old.data.toList d m).1), .int .i64 (applyAll old.data.toList d m).2]) ∧ Below w.heap.size w w' := by
  by_cases hr : rightB d = true
  · refine (refApply_main old a n c d m w h hn ho hr _ (Lib.hid rfl)).mono ?_
    rintro e w' ⟨rfl, hb⟩
    rw [applyAll, if_pos hr]
    exact ⟨rfl, hb⟩
  · have hc := Lib.hid (refRight_any a n c d w h hn false (Lib.hid (by simpa using hr)))
    have HF := Lib.hid (show applyAll old.data.toList d m = ([], 70) by rw [applyAll, if_neg hr])
    rw [HF.out]
    clear h hr hn ho HF
    go_enter Try.func16, Try.ntmps16
    go_wp2_with fail
    refine hc.out.mono ?_
    rintro e w1 ⟨rfl, hb1⟩
    have HB1 := Lib.hid hb1
    clear hb1 hc
    go_wp2_with fail
    go_ret2
    exact ⟨rfl, HB1.out⟩
end Go.Proofs.Ytdlnabjledhiiaa
