/-
  The walk of the law FrameOnce: it returns true on all texts; new blocks alone are made.
-/
import Derived.Test.YtebpelfmllkpbaaFrScansWalk
import Derived.Deep.LoopGhost
namespace Go.Proofs.Ytebpelfmllkpbaa
open Go.RowKit
set_option linter.unusedVariables false

/-- The frames of the first k bodies, as they stand in a row. -/
def rowL (l : List UInt8) (k : Nat) : List UInt8 := (((bodies l).take k).map frameL).flatten
theorem rowL_zero (l : List UInt8) : rowL l 0 = [] := by simp [rowL]
theorem rowL_succ (l : List UInt8) (k : Nat) (h : k < (bodies l).length) : rowL l (k + 1) = rowL l k ++ frameL (bodies l)[k] := by
  unfold rowL
  rw [List.take_succ_eq_append_getElem h, List.map_append, List.flatten_append]
  simp only [List.map_cons, List.map_nil, List.flatten_cons, List.flatten_nil, List.append_nil]
theorem rowL_all (l : List UInt8) : rowL l (bodies l).length = l.take (taken (bodies l)) := by
  unfold rowL
  rw [List.take_length]
  exact (bodies_told l).1.frames
theorem rowL_le (l : List UInt8) (k : Nat) (h : k ≤ (bodies l).length) : (rowL l k).length ≤ l.length := by
  have e : (rowL l k).length ≤ (rowL l (bodies l).length).length := by
    unfold rowL
    rw [List.take_length]
    conv => rhs; rw [← List.take_append_drop k (bodies l), List.map_append, List.flatten_append, List.length_append]
    omega
  rw [rowL_all] at e
  refine Nat.le_trans e ?_
  simp; omega
theorem told_small {l : List UInt8} {r : List (List UInt8)} {k : Nat} (h : Told l r k) : ∀ b ∈ r, b.length ≤ 65536 := by
  induction h with
  | start => intro b hb; cases hb
  | step hr hb ih =>
    intro b hm
    rcases List.mem_append.1 hm with hm | hm
    · exact ih b hm
    · obtain rfl := List.mem_singleton.1 hm
      exact (oneL_some hb).1
theorem bodies_small (l : List UInt8) (k : Nat) (h : k < (bodies l).length) : (bodies l)[k].length ≤ 65536 := told_small (bodies_told l).1 _ (List.getElem_mem h)
attribute [irreducible] rowL

theorem ba_app (a b : ByteArray) : (a ++ b).data.toList = a.data.toList ++ b.data.toList := by simp

set_option maxHeartbeats 1000000 in
theorem frameOnce_walk (s : ByteArray) (w : World) (hs : s.size ≤ maxLen) :
    Calls Try.prog 7 #[.string s] w fun e w' => e = .returned (.bool true) ∧ Below w.heap.size w w' := by
  have hm := Lib.hid hs
  have ht := Lib.hid (cut2_le s)
  clear hs
  go_enter Try.func7, Try.ntmps7
  go_wp2_with fail
  refine (short2_any s _ hm.out).mono ?_
  rintro e w' ⟨rfl, rfl⟩
  generalize cut2 s = t at *
  obtain ⟨l, hl⟩ : ∃ l, l = t.data.toList := ⟨_, rfl⟩
  have HL := Lib.hid hl
  clear hl
  go_wp2_with fail
  refine (frScan_any t _ (by have := ht.out; omega) l HL).mono ?_
  rintro e w1 ⟨a1, n1, c1, rfl, hs1, hb1, _⟩
  have hn1 : n1 = (bodies l).length := by have := hs1.1; rw [strs_length, List.length_map] at this; exact this
  have HS1 := Lib.hid hs1
  have HB1 := Lib.hid hb1
  have HN1 := Lib.hid hn1
  have htk := (bodies_told l).1.le
  have hlt : t.size ≤ 20000 := ht.out
  have hls : l.length = t.size := by rw [size_len, HL.out]
  have HLS := Lib.hid hls
  have hn9 : n1 ≤ 20000 := by have := bodies_count l; omega
  clear hs1 hb1 hn1 hls
  go_wp2_with fail
  go_loopg [5, 19] n1 (fun gk rv iv wr => ∃ (k : Nat) (row : ByteArray), gk = n1 - k ∧ iv = .int .i64 k ∧ rv = .string row ∧ k ≤ n1 ∧ Hid (row.data.toList = rowL l k) ∧ Hid (SlAt wr a1 n1 (strs ((bodies l).map strOf))) ∧ Hid (Below w.heap.size w wr))
  case atStart => exact ⟨0, ⟨#[]⟩, rfl, rfl, rfl, Nat.zero_le _, Lib.hid (rowL_zero l).symm, HS1, HB1⟩
  case round =>
    obtain ⟨k, row, rfl, rfl, rfl, hk, hR, hS, hB⟩ := hrel
    have hrsz : row.size ≤ 20000 := by
      have h1 := rowL_le l k (by have := HN1.out; omega)
      rw [← hR.out, ← size_len, HLS.out] at h1
      omega
    by_cases hlt2 : k < n1
    · have hkb : k < (bodies l).length := by have := HN1.out; omega
      obtain ⟨hnx, b1, o1, rfl, hc1⟩ := hS.out.str (by omega)
      have hcx0 := hc1 k (by rw [List.length_map]; exact hkb)
      have hcx : wr.cell? ⟨b1, o1 + k, none⟩ = some (.string (strOf (bodies l)[k])) := by rw [hcx0, List.getElem_map]
      have hbz : (strOf (bodies l)[k]).size ≤ 65536 := by rw [size_len, strOf_list]; exact bodies_small l k hkb
      have hrow2 : Hid ((row ++ frameOf (strOf (bodies l)[k])).data.toList = rowL l (k + 1)) := Lib.hid (by
        rw [rowL_succ l k hkb, ← hR.out, ba_app, frameOf_list, strOf_list])
      have hfz := frameOf_size (strOf (bodies l)[k])
      have HFZ := Lib.hid hfz
      have HBZ := Lib.hid hbz
      have hki : (k : Int) < (n1 : Int) := by omega
      clear hnx hc1 hcx0 hfz hbz
      generalize strOf (bodies l)[k] = t2 at *
      clear hkb
      go_wp2_with fail
      refine (frPut_any t2 _ HBZ.out).mono ?_
      rintro e w2 ⟨rfl, hb2⟩
      have HS2 := Lib.hid (hS.out.keep hb2)
      have HB2 := Lib.hid (below_then hB.out hb2 hB.out.size)
      have hfz2 : (frameOf t2).size ≤ 65548 := by have := HFZ.out; have := HBZ.out; omega
      clear hb2 hcx
      generalize frameOf t2 = f2 at *
      go_wp2_with fail
      go_roundg (n1 - (k + 1))
      case rel => exact ⟨k + 1, row ++ f2, rfl, by go_num, rfl, by omega, hrow2, HS2, HB2⟩
      case measure => omega
    · obtain rfl : k = n1 := by omega
      have hT : row = t.extract 0 (taken (bodies l)) := by
        rw [← strOf_self row, hR.out, HN1.out, rowL_all, extract_strOf, ← HL.out]; simp
      have hTle : taken (bodies l) ≤ t.size := by have := HLS.out; omega
      have hTi : ((taken (bodies l) : Nat) : Int) ≤ (t.size : Int) := by omega
      have hTi0 : (0 : Int) ≤ ((taken (bodies l) : Nat) : Int) := by omega
      subst hT
      clear hR
      generalize taken (bodies l) = T at *
      go_wp2_with fail
      refine (frSum_const _ _ _ sumI_a (by decide)).mono ?_
      rintro e w' ⟨rfl, rfl⟩
      go_wp2_with fail
      go_ret
      exact ⟨rfl, hB.out⟩
end Go.Proofs.Ytebpelfmllkpbaa
