/-
  The walks of Chain, the program's and the reference's: new blocks alone are made; the texts within reach.
-/
import Derived.Test.YtjppommhamaibaaDoorFlX
namespace Go.Proofs.YtjppommhamaibaaDoor
open Go.RowKit
set_option linter.unusedVariables false

/-- A slice of texts is handed back; new blocks alone are made. -/
def RetStrs (w : World) (l : List ByteArray) (e : Ending) (w' : World) : Prop := ∃ a n c, e = .returned (.slice a n c) ∧ SlAt w' a n (strs l) ∧ Below w.heap.size w w'
/-- What is still to come of a chain, from a text on. -/
def restC (s : ByteArray) : List ByteArray := if s.size = 0 then [] else (s.data.toList :: cutsD s.data.toList s.data.toList.length).map strOf
theorem restC_zero {s : ByteArray} (h : s.size = 0) : restC s = [] := by unfold restC; rw [if_pos h]
theorem restC_next {s : ByteArray} (h : s.size ≠ 0) : restC s = s :: restC (nextS s) := by
  unfold restC
  rw [if_neg h, List.map_cons, strOf_self, (next_cuts s).1]
  congr 1
  by_cases h0 : (nextS s).size = 0
  · rw [if_pos h0, if_pos (List.eq_nil_of_length_eq_zero (by rw [← size_len]; exact h0))]
    rfl
  · rw [if_neg h0, if_neg (fun e => h0 (by rw [size_len, e]; rfl))]
theorem chain_rest (s : ByteArray) : (chainL s.data.toList).map strOf = restC s ++ [⟨#[]⟩] := by
  unfold chainL restC
  rw [List.map_append]
  by_cases h : s.size = 0
  · rw [if_pos h, if_pos (List.eq_nil_of_length_eq_zero (by rw [← size_len]; exact h))]
    rfl
  · rw [if_neg h, if_neg (fun e => h (by rw [size_len, e]; rfl))]
    rfl
theorem row_base2 {W : World} {base B : Nat} {e : TypeId} {size k : Nat} {v : Value} {xs : List Value} (h : W.ownsRow base e size v k xs) (hB : B ≤ base) : W.ownsRow B e size v k xs :=
  ⟨h.1, h.2.imp id (fun ⟨g, cap, cur, e1, hb, r⟩ => ⟨g, cap, cur, e1, Nat.le_trans hB hb, r⟩)⟩
theorem own_ret {w wr : World} {v : Value} {n : Nat} {l : List ByteArray} (h : wr.ownsRow w.heap.size 9 1 v n (strs l)) (hb : Below w.heap.size w wr) : RetStrs w l (.returned v) wr := by
  obtain ⟨a, n, c, rfl, h1, _, _⟩ := own_slice h
  exact ⟨a, n, c, rfl, h1, hb⟩
theorem own_grown {w wr w3 : World} {v : Value} {n : Nat} {l : List Value} {o : Obj} (h : wr.ownsRow w.heap.size 9 1 v n l) (hb : Below w.heap.size w wr) (hg : (wr.alloc o).grownBy w3 v.ownBlock) : Below w.heap.size w w3 :=
  (hb.alloc hb.size _).grown hg (by have := hb.size; simp; omega) (fun b e => (h.lt b e).1)
set_option maxRecDepth 100000 in
set_option maxHeartbeats 1000000 in
theorem chain_no (s : ByteArray) (hs : s.size ≤ maxLen) (m : Int) (w : World) (hm : w.cell? ⟨0, 0, none⟩ = some (.int .i64 m)) (h0 : s.size ≠ 0) (hl : locL s.data.toList = false) :
    Calls Tryd.prog 14 #[.string s] w (RetStrs w []) := by
  have hc := Lib.hid (locale_any s hs m w hm false (Lib.hid hl.symm))
  have be := notEmpty h0
  go_enter Tryd.func14, Tryd.ntmps14
  go_wp2_with fail
  refine hc.out.mono ?_
  rintro e w1 ⟨rfl, hb1⟩
  have HB := Lib.hid hb1
  clear hb1
  go_wp2_with fail
  go_ret
  exact ⟨none, 0, 0, rfl, SlAt.nil _ _, HB.out⟩
set_option maxRecDepth 100000 in
set_option maxHeartbeats 1000000 in
theorem chain_empty (w : World) : Calls Tryd.prog 14 #[.string ⟨#[]⟩] w (RetStrs w [⟨#[]⟩]) := by
  go_enter Tryd.func14, Tryd.ntmps14
  go_wp2_with fail
  go_ret
  exact ⟨_, _, _, rfl, ⟨rfl, .inr ⟨w.heap.size, 0, rfl, fun i hi => by
    have : i = 0 := by simpa [strs] using hi
    subst this
    exact cell_new (cs := #[.string ⟨#[]⟩]) 0 rfl⟩⟩, (Below.refl _ w).alloc (Nat.le_refl _) _⟩
set_option maxRecDepth 100000 in
set_option maxHeartbeats 1000000 in
theorem chain_yes (s : ByteArray) (hs : s.size ≤ maxLen) (m : Int) (w : World) (hm : w.cell? ⟨0, 0, none⟩ = some (.int .i64 m)) (h0 : s.size ≠ 0) (hl : locL s.data.toList = true) :
    Calls Tryd.prog 14 #[.string s] w (RetStrs w (restC s ++ [⟨#[]⟩])) := by
  have hsz : s.size ≤ 32 := by
    unfold locL at hl
    rw [Bool.and_eq_true, decide_eq_true_eq, ← size_len] at hl
    exact hl.1
  obtain ⟨i0, hi, hz0, hz1, hz2⟩ := info_parts infoStr
  have hc := Lib.hid (locale_any s hs m w hm true (Lib.hid hl.symm))
  have be := notEmpty h0
  clear hm hl
  go_enter Tryd.func14, Tryd.ntmps14
  go_wp2_with fail
  refine hc.out.mono ?_
  rintro e w1 ⟨rfl, hb1⟩
  have HB := Lib.hid hb1
  have HO := Lib.hid (World.ownsRow_nil w1 w.heap.size 9 1)
  clear hb1 hc
  go_wp2_with fail
  go_loopg [3, 4] s.size (fun gk v x wr => ∃ (t : ByteArray) (acc : List ByteArray), gk = t.size ∧ x = .string t ∧ t.size ≤ 32 ∧ acc.length + t.size ≤ 32 ∧ Hid (acc ++ restC t = restC s) ∧ Hid (wr.ownsRow w.heap.size 9 1 v acc.length (strs acc)) ∧ Hid (Below w.heap.size w wr))
  case atStart => exact ⟨s, [], rfl, rfl, hsz, by simpa using hsz, Lib.hid rfl, HO, HB⟩
  case round =>
    obtain ⟨t, acc, rfl, rfl, ht32, hacc, hA, hO, hB⟩ := hrel
    have hBs := hB.out.size
    by_cases hz : t.size = 0
    · obtain rfl : t = ⟨#[]⟩ := ba_empty hz
      have hA2 : Hid (acc = restC s) := Lib.hid (by rw [← hA.out, restC_zero rfl, List.append_nil])
      obtain ⟨N, hN⟩ : ∃ N, N = acc.length := ⟨_, rfl⟩
      rw [← hN] at hO hacc
      clear hN
      go_wp2_with (at_builtin; refine wpList_append_own _ rfl _ _ 26 rfl w.heap.size 9 i0 (.string ⟨#[]⟩) 1 16 Tryd.underlying26 hi hz0 hz1 hz2 rfl (by decide) _ _ _ rfl (hO.out.alloc _) ⟨wr.heap.size, 0, none⟩ 1 1 [.string ⟨#[]⟩] rfl rfl (cell_one_new _ _ _) (by simp [Value.oneCell']) ?c3 ?c4 ?c5 ?_)
      case c3 => unfold maxLen; omega
      case c4 => omega
      case c5 => simp; omega
      intro v' w3 hown' hgrow _
      have HB3 := Lib.hid (own_grown hO.out hB.out hgrow)
      have HO3 : Hid (w3.ownsRow w.heap.size 9 1 v' (N + 1) (strs (restC s ++ [⟨#[]⟩]))) := Lib.hid (by rw [strs_snoc, ← hA2.out]; exact hown')
      clear hown' hgrow
      go_wp2_with fail
      go_ret
      exact own_ret HO3.out HB3.out
    · have bt := notEmpty hz
      obtain ⟨N, hN⟩ : ∃ N, N = acc.length := ⟨_, rfl⟩
      rw [← hN] at hO hacc
      have HN := Lib.hid hN
      clear hN
      go_wp2_with (at_builtin; refine wpList_append_own _ rfl _ _ 26 rfl w.heap.size 9 i0 (.string ⟨#[]⟩) 1 16 Tryd.underlying26 hi hz0 hz1 hz2 rfl (by decide) _ _ _ rfl (hO.out.alloc _) ⟨wr.heap.size, 0, none⟩ 1 1 [.string t] rfl rfl (cell_one_new _ _ _) (by simp [Value.oneCell']) ?c3 ?c4 ?c5 ?_)
      case c3 => unfold maxLen; omega
      case c4 => omega
      case c5 => simp; omega
      intro v' w3 hown' hgrow _
      obtain ⟨-, hlt, hle⟩ := next_cuts t
      have hlt := hlt hz
      have HB3 := Lib.hid (own_grown hO.out hB.out hgrow)
      have HO3 : Hid (w3.ownsRow w.heap.size 9 1 v' (acc ++ [t]).length (strs (acc ++ [t]))) := Lib.hid (by rw [strs_snoc, List.length_append, ← HN.out]; exact hown')
      have hA2 : Hid ((acc ++ [t]) ++ restC (nextS t) = restC s) := Lib.hid (by rw [← hA.out, restC_next hz]; simp)
      have HL := Lib.hid (show (acc ++ [t]).length = N + 1 by rw [List.length_append, ← HN.out]; rfl)
      have hlx := Lib.hid (Tryd.strings_LastIndexByte t 45 (by omega) w3)
      obtain ⟨q, hq⟩ : ∃ q : Nat, max (Lib.lastIndexByte t 45) 0 = (q : Int) := ⟨(max (Lib.lastIndexByte t 45) 0).toNat, by omega⟩
      have HQ : Hid (nextS t = t.extract 0 q) := Lib.hid (by unfold nextS; rw [hq]; rfl)
      have hq2 : q ≤ t.size := by omega
      have hqi : (q : Int) ≤ (t.size : Int) := by omega
      generalize Lib.lastIndexByte t 45 = y at *
      generalize acc ++ [t] = acc2 at *
      clear hown' hgrow hle
      go_wp2_with fail
      refine hlx.out.mono ?_
      rintro e w4 ⟨rfl, rfl⟩
      go_wp2_with fail
      go_roundg (t.extract 0 q).size
      case rel => exact ⟨t.extract 0 q, acc2, rfl, by simp, by rw [← HQ.out]; omega, by rw [HL.out, ← HQ.out]; omega, by rw [← HQ.out]; exact hA2, HO3, HB3⟩
      case measure => rw [← HQ.out]; exact hlt
theorem row_lit (w : World) : (w.alloc (.cells #[] 9)).ownsRow w.heap.size 9 1 (.slice (some ⟨w.heap.size, 0, none⟩) 0 0) 0 (strs []) :=
  World.ownsRow_made (base := w.heap.size) (e := 9) (size := 1) w #[] 0 (Nat.le_refl _) (Nat.zero_le _) (by simp)
set_option maxRecDepth 100000 in
set_option maxHeartbeats 1000000 in
theorem rChain_no (s : ByteArray) (hs : s.size ≤ maxLen) (w : World) (h0 : s.size ≠ 0) (hl : locL s.data.toList = false) :
    Calls Tryd.prog 15 #[.string s] w (RetStrs w []) := by
  have hc := Lib.hid (rLocale_any s hs w false (Lib.hid hl.symm))
  have be := notEmpty h0
  go_enter Tryd.func15, Tryd.ntmps15
  go_wp2_with fail
  refine hc.out.mono ?_
  rintro e w1 ⟨rfl, hb1⟩
  have HB := Lib.hid hb1
  clear hb1
  go_wp2_with fail
  go_ret
  exact ⟨none, 0, 0, rfl, SlAt.nil _ _, HB.out⟩
set_option maxRecDepth 100000 in
set_option maxHeartbeats 1000000 in
theorem rChain_empty (w : World) : Calls Tryd.prog 15 #[.string ⟨#[]⟩] w (RetStrs w [⟨#[]⟩]) := by
  obtain ⟨i0, hi, hz0, hz1, hz2⟩ := info_parts infoStr
  have HO := Lib.hid (row_lit w)
  have HB := Lib.hid ((Below.refl _ w).alloc (Nat.le_refl _) (.cells #[] 9))
  go_enter Tryd.func15, Tryd.ntmps15
  go_wp2_with fail
  generalize w.alloc (.cells #[] 9) = wr at *
  have hBs := HB.out.size
  obtain ⟨wx, hwx⟩ : ∃ x, x = wr := ⟨_, rfl⟩
  subst hwx
  go_loopg [3, 4] 1 (fun gk v i wy => v = .slice (some ⟨w.heap.size, 0, none⟩) 0 0 ∧ i = .int .i64 (-1) ∧ wy = wx)
  case atStart => exact ⟨rfl, rfl, rfl⟩
  case round =>
    obtain ⟨rfl, rfl, rfl⟩ := hrel
    go_wp2_with (at_builtin; refine wpList_append_own _ rfl _ _ 26 rfl w.heap.size 9 i0 (.string ⟨#[]⟩) 1 16 Tryd.underlying26 hi hz0 hz1 hz2 rfl (by decide) _ _ _ rfl (HO.out.alloc _) ⟨wr.heap.size, 0, none⟩ 1 1 [.string ⟨#[]⟩] rfl rfl (cell_one_new _ _ _) (by simp [Value.oneCell']) ?c3 ?c4 ?c5 ?_)
    case c3 => unfold maxLen; omega
    case c4 => omega
    case c5 => simp; omega
    intro v' w3 hown' hgrow _
    have HB3 := Lib.hid (own_grown HO.out HB.out hgrow)
    have HO3 : Hid (w3.ownsRow w.heap.size 9 1 v' (0 + 1) (strs ([] ++ [⟨#[]⟩]))) := Lib.hid hown'
    clear hown' hgrow
    go_wp2_with fail
    go_ret
    exact own_ret HO3.out HB3.out
set_option maxRecDepth 100000 in
set_option maxHeartbeats 1000000 in
theorem rChain_yes (s : ByteArray) (hs : s.size ≤ maxLen) (w : World) (h0 : s.size ≠ 0) (hl : locL s.data.toList = true) :
    Calls Tryd.prog 15 #[.string s] w (RetStrs w (restC s ++ [⟨#[]⟩])) := by
  have hsz : s.size ≤ 32 := by
    unfold locL at hl
    rw [Bool.and_eq_true, decide_eq_true_eq, ← size_len] at hl
    exact hl.1
  obtain ⟨i0, hi, hz0, hz1, hz2⟩ := info_parts infoStr
  have hc := Lib.hid (rLocale_any s hs w true (Lib.hid hl.symm))
  have be := notEmpty h0
  have HRS : Hid (restC s = s :: (cutsD s.data.toList s.size).map strOf) := Lib.hid (by unfold restC; rw [if_neg h0, List.map_cons, strOf_self, ← size_len])
  obtain ⟨M, hM⟩ : ∃ M : Nat, (s.size : Int) - 1 = (M : Int) := ⟨s.size - 1, by omega⟩
  have hMs : s.size = M + 1 := by omega
  have HM := Lib.hid hMs
  clear hl hMs
  go_enter Tryd.func15, Tryd.ntmps15
  go_wp2_with fail
  refine hc.out.mono ?_
  rintro e w1 ⟨rfl, hb1⟩
  have HB := Lib.hid hb1
  have HO := Lib.hid (row_lit w1)
  have HB1 := Lib.hid (hb1.alloc hb1.size (.cells #[] 9))
  have hbs := hb1.size
  clear hb1 hc
  have HO2 := Lib.hid (row_base2 HO.out hbs)
  clear HO
  go_upto_region 5 with fail
  generalize w1.alloc (.cells #[] 9) = wq at *
  have hbq := HB1.out.size
  go_wp2_with (at_builtin; refine wpList_append_own _ rfl _ _ 26 rfl w.heap.size 9 i0 (.string ⟨#[]⟩) 1 16 Tryd.underlying26 hi hz0 hz1 hz2 rfl (by decide) _ _ _ rfl (HO2.out.alloc _) ⟨wq.heap.size, 0, none⟩ 1 1 [.string s] rfl rfl (cell_one_new _ _ _) (by simp [Value.oneCell']) ?c3 ?c4 ?c5 ?_)
  case c3 => unfold maxLen; omega
  case c4 => omega
  case c5 => simp; omega
  intro v' w3 hown' hgrow _
  have HB3 := Lib.hid (own_grown HO2.out HB1.out hgrow)
  have HO3 : Hid (w3.ownsRow w.heap.size 9 1 v' [s].length (strs [s])) := Lib.hid hown'
  clear hown' hgrow
  go_wp2_with fail
  go_loopg [3, 4] (M + 1) (fun gk v i wr => ∃ (k : Nat) (acc : List ByteArray), gk = k + 1 ∧ i = .int .i64 (k : Int) ∧ k ≤ M ∧ acc.length + k ≤ 33 ∧ Hid (acc ++ (cutsD s.data.toList (k + 1)).map strOf = restC s) ∧ Hid (wr.ownsRow w.heap.size 9 1 v acc.length (strs acc)) ∧ Hid (Below w.heap.size w wr))
  case atStart => exact ⟨M, [s], rfl, rfl, Nat.le_refl _, by simp; omega, Lib.hid (by rw [HRS.out, ← HM.out]; rfl), HO3, HB3⟩
  case round =>
    obtain ⟨k, acc, rfl, rfl, hk, hacc, hA, hO, hB⟩ := hrel
    have hBs := hB.out.size
    obtain ⟨N, hN⟩ : ∃ N, N = acc.length := ⟨_, rfl⟩
    rw [← hN] at hO hacc
    have HN := Lib.hid hN
    clear hN
    by_cases hk0 : k = 0
    · have hA2 : Hid (acc = restC s) := Lib.hid (by rw [← hA.out, hk0]; simp [cutsD])
      have hki : (k : Int) ≤ 0 := by omega
      clear hk0
      go_wp2_with (at_builtin; refine wpList_append_own _ rfl _ _ 26 rfl w.heap.size 9 i0 (.string ⟨#[]⟩) 1 16 Tryd.underlying26 hi hz0 hz1 hz2 rfl (by decide) _ _ _ rfl (hO.out.alloc _) ⟨wr.heap.size, 0, none⟩ 1 1 [.string ⟨#[]⟩] rfl rfl (cell_one_new _ _ _) (by simp [Value.oneCell']) ?c3 ?c4 ?c5 ?_)
      case c3 => unfold maxLen; omega
      case c4 => omega
      case c5 => simp; omega
      intro v' w3 hown' hgrow _
      have HB3 := Lib.hid (own_grown hO.out hB.out hgrow)
      have HO3 : Hid (w3.ownsRow w.heap.size 9 1 v' (N + 1) (strs (restC s ++ [⟨#[]⟩]))) := Lib.hid (by rw [strs_snoc, ← hA2.out]; exact hown')
      clear hown' hgrow
      go_wp2_with fail
      go_ret
      exact own_ret HO3.out HB3.out
    · have hki : 0 < (k : Int) := by omega
      have hks : k < s.size := by rw [HM.out]; omega
      have hks2 : (k : Int) < (s.size : Int) := by omega
      obtain ⟨j, hj⟩ : ∃ j : Nat, (k : Int) - 1 = (j : Int) := ⟨k - 1, by omega⟩
      have HJ : Hid (j + 1 = k) := Lib.hid (by omega)
      have hjk : j < k := by omega
      have HG : Hid (s.data.toList[k]? = some s[k]) := Lib.hid (List.getElem?_eq_getElem _)
      by_cases h45 : s[k] = 45
      · have b45 : ((s[k].toNat : Int) == 45) = true := by rw [h45]; rfl
        have hA2 : Hid ((acc ++ [s.extract 0 k]) ++ (cutsD s.data.toList (j + 1)).map strOf = restC s) := Lib.hid (by
          rw [← hA.out, show cutsD s.data.toList (k + 1) = s.data.toList.take k :: cutsD s.data.toList k by rw [cutsD, if_pos ⟨by omega, by rw [HG.out, h45]⟩], HJ.out, List.map_cons]
          rw [extract_strOf]
          simp)
        clear h45 hk0 HG
        have hki3 : (k : Int) ≤ (s.size : Int) := by omega
        obtain ⟨x, hx⟩ : ∃ x, x = s.extract 0 k := ⟨_, rfl⟩
        go_wp2_with (at_builtin; refine wpList_append_own _ rfl _ _ 26 rfl w.heap.size 9 i0 (.string ⟨#[]⟩) 1 16 Tryd.underlying26 hi hz0 hz1 hz2 rfl (by decide) _ _ _ rfl (hO.out.alloc _) ⟨wr.heap.size, 0, none⟩ 1 1 [.string (s.extract 0 k)] rfl rfl (cell_one_new _ _ _) (by simp [Value.oneCell']) ?c3 ?c4 ?c5 ?_)
        case c3 => unfold maxLen; omega
        case c4 => omega
        case c5 => simp; omega
        intro v' w3 hown' hgrow _
        have HB3 := Lib.hid (own_grown hO.out hB.out hgrow)
        have HO3 : Hid (w3.ownsRow w.heap.size 9 1 v' (acc ++ [s.extract 0 k]).length (strs (acc ++ [s.extract 0 k]))) := Lib.hid (by rw [strs_snoc, List.length_append, ← HN.out]; exact hown')
        have HL := Lib.hid (show (acc ++ [s.extract 0 k]).length = N + 1 by rw [List.length_append, ← HN.out]; rfl)
        clear hown' hgrow
        generalize acc ++ [s.extract 0 k] = acc2 at *
        go_wp2_with fail
        go_roundg (j + 1)
        case rel => exact ⟨j, acc2, rfl, by go_num, by omega, by rw [HL.out]; omega, hA2, HO3, HB3⟩
        case measure => omega
      · have b45 : ((s[k].toNat : Int) == 45) = false := by rw [beq_eq_false_iff_ne]; intro e; exact h45 ((toNat45 _).1 e)
        have hA2 : Hid (acc ++ (cutsD s.data.toList (j + 1)).map strOf = restC s) := Lib.hid (by
          rw [← hA.out, show cutsD s.data.toList (k + 1) = cutsD s.data.toList k by rw [cutsD, if_neg (fun e => h45 (by have := e.2; rw [HG.out] at this; exact Option.some.inj this))], HJ.out])
        clear h45 hk0 HG
        go_wp2_with fail
        go_roundg (j + 1)
        case rel => exact ⟨j, acc, rfl, by go_num, by omega, by rw [← HN.out]; omega, hA2, by rw [← HN.out]; exact hO, hB⟩
        case measure => omega
theorem chain_any (s : ByteArray) (hs : s.size ≤ maxLen) (m : Int) (w : World) (hm : w.cell? ⟨0, 0, none⟩ = some (.int .i64 m)) (v : List ByteArray) (hv : Hid (v = chainV s)) :
    Calls Tryd.prog 14 #[.string s] w (RetStrs w v) := by
  rw [hv.out]
  unfold chainV
  by_cases h0 : s.size = 0
  · rw [if_neg (fun e => e.1 h0), chain_rest, restC_zero h0]
    obtain rfl := ba_empty h0
    exact chain_empty w
  · cases hl : locL s.data.toList with
    | false =>
      rw [if_pos ⟨h0, rfl⟩]
      exact chain_no s hs m w hm h0 hl
    | true =>
      rw [if_neg (fun e => by cases e.2), chain_rest]
      exact chain_yes s hs m w hm h0 hl
theorem rChain_any (s : ByteArray) (hs : s.size ≤ maxLen) (w : World) (v : List ByteArray) (hv : Hid (v = chainV s)) :
    Calls Tryd.prog 15 #[.string s] w (RetStrs w v) := by
  rw [hv.out]
  unfold chainV
  by_cases h0 : s.size = 0
  · rw [if_neg (fun e => e.1 h0), chain_rest, restC_zero h0]
    obtain rfl := ba_empty h0
    exact rChain_empty w
  · cases hl : locL s.data.toList with
    | false =>
      rw [if_pos ⟨h0, rfl⟩]
      exact rChain_no s hs w h0 hl
    | true =>
      rw [if_neg (fun e => by cases e.2), chain_rest]
      exact rChain_yes s hs w h0 hl
theorem chainV_small (s : ByteArray) (h : (chainV s).length ≤ s.size + 1) : (chainV s).length ≤ 33 := by
  by_cases h0 : s.size = 0
  · omega
  · cases hl : locL s.data.toList with
    | false => unfold chainV; rw [if_pos ⟨h0, hl⟩]; simp
    | true =>
      unfold locL at hl
      rw [Bool.and_eq_true, decide_eq_true_eq, ← size_len] at hl
      omega
theorem chainV_length (s : ByteArray) : (chainV s).length ≤ s.size + 1 := by
  unfold chainV
  split
  · simp
  · rename_i h
    rw [chain_rest, List.length_append]
    have key : ∀ k, (cutsD s.data.toList k).length ≤ k - 1 := by
      intro k
      induction k with
      | zero => simp [cutsD]
      | succ k ih =>
        rw [cutsD]
        split
        · rename_i hk
          rw [List.length_cons]; omega
        · omega
    have := key s.data.toList.length
    unfold restC
    split
    · simp
    · rename_i hz
      rw [List.length_map, List.length_cons, List.length_singleton]
      rw [size_len] at *
      omega
set_option maxRecDepth 100000 in
set_option maxHeartbeats 1000000 in
theorem formatLocales_walk (s : ByteArray) (w : World) (hs : s.size ≤ maxLen) (m : Int) (hm : w.cell? ⟨0, 0, none⟩ = some (.int .i64 m)) :
    Calls Tryd.prog 3 #[.string s] w fun e w' => e = .returned (.bool true) ∧ Below w.heap.size w w' := by
  have h1 := Lib.hid (alive10_any m w hm)
  obtain ⟨lo, hlo⟩ : ∃ v, v = locL s.data.toList := ⟨_, rfl⟩
  obtain ⟨la, hla⟩ : ∃ v, v = langV s := ⟨_, rfl⟩
  obtain ⟨ch, hch⟩ : ∃ v, v = chainV s := ⟨_, rfl⟩
  have hcl := Lib.hid (chainV_small s (chainV_length s))
  rw [← hch] at hcl
  have h2 := Lib.hid (fun (W : World) (hb : Below w.heap.size w W) => locale_any s hs m W (cell_keep hb hm) lo (Lib.hid hlo))
  have h3 := Lib.hid (fun (W : World) => rLocale_any s hs W lo (Lib.hid hlo))
  have h4 := Lib.hid (fun (W : World) (hb : Below w.heap.size w W) => lang_any s hs m W (cell_keep hb hm) la (Lib.hid hla))
  have h5 := Lib.hid (fun (W : World) => rLang_any s hs W la (Lib.hid hla))
  have h6 := Lib.hid (fun (W : World) (hb : Below w.heap.size w W) => chain_any s hs m W (cell_keep hb hm) ch (Lib.hid hch))
  have h7 := Lib.hid (fun (W : World) => rChain_any s hs W ch (Lib.hid hch))
  have bl : (lo == lo) = true := by simp
  have bs : (la.toList == la.toList) = true := by simp
  clear hlo hla hch hm
  go_enter Tryd.func3, Tryd.ntmps3
  go_wp2_with fail
  refine h1.out.mono ?_
  rintro e w1 ⟨rfl, hb1⟩
  have HB1 := Lib.hid hb1
  clear hb1
  go_wp2_with fail
  refine (h2.out w1 HB1.out).mono ?_
  rintro e w2 ⟨rfl, hb2⟩
  have HB2 := Lib.hid (below_then HB1.out hb2 HB1.out.size)
  clear hb2
  go_wp2_with fail
  refine (h3.out w2).mono ?_
  rintro e w3 ⟨rfl, hb3⟩
  have HB3 := Lib.hid (below_then HB2.out hb3 HB2.out.size)
  clear hb3
  go_wp2_with fail
  refine (h4.out w3 HB3.out).mono ?_
  rintro e w4 ⟨rfl, hb4⟩
  have HB4 := Lib.hid (below_then HB3.out hb4 HB3.out.size)
  clear hb4
  go_wp2_with fail
  refine (h5.out w4).mono ?_
  rintro e w5 ⟨rfl, hb5⟩
  have HB5 := Lib.hid (below_then HB4.out hb5 HB4.out.size)
  clear hb5
  go_wp2_with fail
  refine (h6.out w5 HB5.out).mono ?_
  rintro e w6 ⟨a6, n6, c6, rfl, hs6, hb6⟩
  have HB6 := Lib.hid (below_then HB5.out hb6 HB5.out.size)
  have HS6 := Lib.hid hs6
  clear hb6 hs6
  go_wp2_with fail
  refine (h7.out w6).mono ?_
  rintro e w7 ⟨a7, n7, c7, rfl, hs7, hb7⟩
  have HB7 := Lib.hid (below_then HB6.out hb7 HB6.out.size)
  have HS7 := Lib.hid (HS6.out.keep hb7)
  have h8 := Lib.hid (like_same a6 a7 n6 n7 c6 c7 ch w7 HS7.out hs7 (by have := hcl.out; unfold maxLen at hs; omega))
  clear hb7 hs7
  go_wp2_with fail
  refine h8.out.mono ?_
  rintro e w8 ⟨rfl, q, rfl⟩
  have HB8 := Lib.hid (below_drewN HB7.out q)
  go_wp2_with fail
  go_ret
  exact ⟨rfl, HB8.out⟩
end Go.Proofs.YtjppommhamaibaaDoor
