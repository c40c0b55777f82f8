/-
  The walks of frame.frames and of the iterator that it hands back: each round is handed the place where a frame ends, and its body; for texts of at most 200000 bytes.
-/
import Derived.RangeFuncBox
import Derived.RangeFuncNested
import Derived.RangeFuncBound
import Derived.RangeFuncCalls
import Derived.RangeFuncLeaves
import Derived.Shelf.Abstract
import Derived.Shelf.RegionOpen
import Derived.WalkKit
import Derived.OwnWalkIn
import Derived.TacticsInMore
import Derived.LoopNIn
import Derived.LoopIn
import Derived.Maps.AppendAt
import Derived.Sort.QuietIn
import Derived.Sort.LoopGhostIn
import Derived.Test.YtebpelfmllkpbaaFrScanR
import Derived.WalkMore
import Derived.Scope
namespace Go.Proofs.Ytebpelfmllkpbaa
open Go.RowKit Go.Shelf
attribute [local go_sem] Oper.semAt_some
set_option linter.unusedVariables false

set_option maxHeartbeats 400000 in
theorem frames_any (s : ByteArray) (w : World) :
    Calls Try.prog 33 #[.string s] w fun e w' => e = .returned (.func (.func 39) #[] #[.pointer (some ⟨w.heap.size, 0, none⟩)]) ∧ w' = w.alloc (.cells #[.string s] 9) := by
  go_enter Try.func33, Try.ntmps33
  go_wp2
  go_ret
  exact ⟨rfl, rfl⟩

/-- What a round is handed. -/
def encF (x : Nat × ByteArray) : Array Value := #[.int .i64 x.1, .string x.2]
def lastAt (pre : List (Nat × ByteArray)) : Nat := (pre.getLast?.map (·.1)).getD 0
theorem lastAt_snoc (pre : List (Nat × ByteArray)) (x : Nat × ByteArray) : lastAt (pre ++ [x]) = x.1 := by simp [lastAt]
/-- The rounds so far are the frames told so far. -/
def TP (l : List UInt8) (pre : List (Nat × ByteArray)) : Prop := Told l (pre.map fun x => x.2.data.toList) (lastAt pre)
theorem TP.start (l : List UInt8) : TP l [] := Told.start
theorem TP.step {l : List UInt8} {pre : List (Nat × ByteArray)} (h : TP l pre) (t : ByteArray) (ho : oneL (l.drop (lastAt pre)) = some t.data.toList) : TP l (pre ++ [(lastAt pre + t.size + 12, t)]) := by
  unfold TP
  rw [lastAt_snoc, List.map_append, size_len]
  exact Told.step h ho

/-- What a round must keep: the box that holds the text. -/
def KB (Bs : Nat) (s : ByteArray) (A B : World) : Prop := Boxed A Bs 9 (.string s) → Boxed B Bs 9 (.string s)

/-- The tests of one place, as the walk meets them: what is told there. -/
theorem one_tests (s : ByteArray) (k : Nat) (r : ByteArray) (hr : r = s.extract k s.size) (h12 : 12 ≤ r.size) :
    (r.extract 0 4).size = 4 ∧ r.data.toList = s.data.toList.drop k ∧ (r.extract 4 r.size).data.toList = (s.data.toList.drop k).drop 4 ∧ sumI (r.extract 0 4) = (sum32 ((s.data.toList.drop k).take 4) : Int) := by
  have e : r.data.toList = s.data.toList.drop k := by rw [hr]; exact Lib.extract_to_end s k
  refine ⟨by simp; omega, e, by rw [Lib.extract_to_end, e], ?_⟩
  have e2 : (r.extract 0 4).data.toList = (s.data.toList.drop k).take 4 := by rw [Lib.extract_data, e]; rfl
  unfold sumI
  rw [e2]

set_option maxRecDepth 100000 in
set_option maxHeartbeats 4000000 in
theorem frames1_in (n : Nat) (hn : 1 ≤ n) (l Bs : Nat) (s : ByteArray) (hs : s.size ≤ 200000) (J Jx : List (Nat × ByteArray) → World → Prop)
    (hY : ∀ pre x W, J pre W → pre.length < s.size + 1 → YieldAt Fence.wide (n - 1) Try.prog l (encF x) W fun e W' =>
      (e = .returned (.bool true) ∧ J (pre ++ [x]) W' ∧ KB Bs s W W') ∨ (e = .returned (.bool false) ∧ Jx (pre ++ [x]) W'))
    (W : World) (hBs : Boxed W Bs 9 (.string s)) (h0 : J [] W)
    (hdr : ∀ pre W m, J pre W → J pre (W.drewN m)) :
    CallsIn Fence.wide n Try.prog 39 #[.func (.yield l) #[] #[], .pointer (some ⟨Bs, 0, none⟩)] W fun e W' => (∃ v, e = .returned v) ∧
      ((∃ ys, (TP s.data.toList ys ∧ oneL (s.data.toList.drop (lastAt ys)) = none) ∧ J ys W') ∨ (∃ pre, True ∧ Jx pre W')) := by
  refine callsIn_of_wp Try.func39 rfl trivial ?_ rfl
  simp only [Try.ntmps39, List.size_toArray, List.length_cons, List.length_nil, Nat.reduceAdd, Nat.reduceSub, Array.replicate_succ, Array.replicate_zero, List.push_toArray, List.append_toArray, List.nil_append, List.cons_append]
  refine wpIn_wide.2 ?_
  refine wp_scope_straight ?_
  refine (wpIn_wide (n := n)).1 ?_
  refine wpIn_seq ?_
  gi_wp2_with fail
  refine wpIn_label ?_
  gi_wp2_with fail
  gi_loopg [3] s.size (fun gk i wr => ∃ (pre : List (Nat × ByteArray)), gk = s.size - lastAt pre ∧ i = .int .i64 (lastAt pre : Int) ∧ lastAt pre ≤ s.size ∧ Hid (Boxed wr Bs 9 (.string s)) ∧ Hid (TP s.data.toList pre) ∧ Hid (J pre wr))
  case atStart => exact ⟨[], rfl, rfl, Nat.zero_le _, Lib.hid hBs, TP.start _, h0⟩
  case round =>
    obtain ⟨pre, rfl, rfl, hk, hB, hT, hJ⟩ := hrel
    have hc := hB.out.cell
    have HS := Lib.hid hs
    have HY := Lib.hid hY
    have HDR := Lib.hid hdr
    clear hY hdr h0 hBs
    have hko : Hid (oneL (s.data.toList.drop (lastAt pre)) = oneL (s.extract (lastAt pre) s.size).data.toList) := Lib.hid (by rw [Lib.extract_to_end])
    generalize hkk : lastAt pre = k at *
    have HK := Lib.hid hkk
    clear hkk
    obtain ⟨r, hr⟩ : ∃ r, r = s.extract k s.size := ⟨_, rfl⟩
    have hrs : r.size = s.size - k := by rw [hr]; simp
    have HR := Lib.hid hr
    have HRS := Lib.hid hrs
    have hend : ∀ (e : Ending) (W' : World), oneL r.data.toList = none → (∃ v, e = .returned v) → J pre W' → (∃ v, e = .returned v) ∧
      ((∃ ys, (TP s.data.toList ys ∧ oneL (s.data.toList.drop (lastAt ys)) = none) ∧ J ys W') ∨ (∃ pre, True ∧ Jx pre W')) := by
      intro e W' hn he hj
      exact ⟨he, .inl ⟨pre, ⟨hT.out, by rw [HK.out, hko.out, ← HR.out]; exact hn⟩, hj⟩⟩
    have hend2 : ∀ (e : Ending) (W' : World), oneL r.data.toList = none → (∃ v, e = .returned v) → J pre W' → (∃ v, e = .returned v) ∧
      ((∃ ys, (TP s.data.toList ys ∧ oneL (s.data.toList.drop (lastAt ys)) = none) ∧ J ys W') ∨ (∃ pre, Jx pre W')) := by
      intro e W' hn he hj
      exact ⟨he, .inl ⟨pre, ⟨hT.out, by rw [HK.out, hko.out, ← HR.out]; exact hn⟩, hj⟩⟩
    have HEND2 := Lib.hid hend2
    clear hend2
    have HEND := Lib.hid hend
    clear hend hr hrs
    have hf1 : Fence.wide.fn 40 := trivial
    have hf2 : Fence.wide.fn 15 := trivial
    by_cases h12 : r.size < 12
    · have h12i : (r.size : Int) < 12 := by omega
      have ho : Hid (oneL r.data.toList = none) := Lib.hid (by unfold oneL; rw [if_pos (by rw [← size_len]; exact h12)])
      gi_wp2_with fail
      rw [← HR.out]
      refine wpIn_wide.2 ?_
      go_quiet (fail)
      gi_wp2_with fail
      try simp only [Exit.noGoto]
      go_end0
      first | exact HEND.out _ _ ho.out ⟨_, rfl⟩ (HDR.out _ _ _ hJ.out) | exact HEND2.out _ _ ho.out ⟨_, rfl⟩ (HDR.out _ _ _ hJ.out)
    · have a1 : (r.extract 0 4).size ≤ maxLen := by unfold maxLen; simp; omega
      have a2 : 4 ≤ (r.extract 4 r.size).size := by simp; omega
      have a3 : 4 ≤ r.size := by omega
      have g12 : ¬ (r.size : Int) < 12 := by omega
      have g4 : (4 : Int) ≤ (r.size : Int) := by omega
      have e12 : ¬ r.data.toList.length < 12 := by rw [← size_len]; exact h12
      have t1 : sumI (r.extract 0 4) = (sum32 (r.data.toList.take 4) : Int) := by unfold sumI; rw [Lib.extract_data]; rfl
      have t2 : (r.extract 4 r.size).data.toList = r.data.toList.drop 4 := Lib.extract_to_end r 4
      obtain ⟨c1, hc1⟩ : ∃ c, c = sumI (r.extract 0 4) := ⟨_, rfl⟩
      obtain ⟨d1, hd1⟩ : ∃ c, c = (num4 (r.extract 4 r.size).data.toList : Int) := ⟨_, rfl⟩
      have HS1 := Lib.hid (fun (W : World) => (frSumI_any (r.extract 0 4) W a1).mono (fun e w' (h : e = .returned (.int .u32 (sumI (r.extract 0 4))) ∧ W = w') => (⟨by rw [hc1]; exact h.1, h.2.symm⟩ : e = .returned (.int .u32 c1) ∧ w' = W)))
      have HN1 := Lib.hid (fun (W : World) => number_any (r.extract 4 r.size) W a2 d1 hd1)
      have HN0 := Lib.hid (fun (W : World) (v : Int) (hv : Hid (v = (num4 r.data.toList : Int))) => number_any r W a3 v hv)
      have hcd : c1 = d1 ↔ sum32 (r.data.toList.take 4) = num4 (r.data.toList.drop 4) := by rw [hc1, hd1, t1, t2]; omega
      clear t1 t2 a1 a2 a3 hc1 hd1
      by_cases hcc : sum32 (r.data.toList.take 4) = num4 (r.data.toList.drop 4)
      · have hv := hcd.2 hcc
        subst hv
        obtain ⟨N, hN⟩ : ∃ N, N = num4 r.data.toList := ⟨_, rfl⟩
        have hNlt : N < 4294967296 := by rw [hN]; exact num4_lt _
        have HN0' := Lib.hid (fun (W : World) => HN0.out W (N : Int) (by rw [hN]; rfl))
        have HNN := Lib.hid hN
        have hr200 : r.size ≤ 200000 := by have := HRS.out; omega
        have hrI : (r.size : Int) ≤ 200000 := by omega
        clear HN0 hcd
        clear hN
        have q1 : (c1 == c1) = true := by simp
        have q2 : (c1 != c1) = false := by simp
        gi_wp2_with fail
        rw [← HR.out]
        refine wpIn_wide.2 ?_
        go_quiet ((first | (go_at_call 15; exact Calls.quiet_of_same (HS1.out _)) | (go_at_call 40; exact Calls.quiet_of (HN1.out _))))
        gi_wp2_with (gi_at_call 40; refine (callsIn_wide.2 (HN0'.out _)).mono ?_; rintro e w1 ⟨rfl, nn, rfl⟩)
        obtain ⟨W1, hW1⟩ : ∃ W1, W1 = wr.drewN (nq + nn) := ⟨_, rfl⟩
        rw [← hW1]
        have HJ1 : Hid (J pre W1) := Lib.hid (by rw [hW1]; exact HDR.out _ _ _ hJ.out)
        have hc1 : W1.cell? ⟨Bs, 0, none⟩ = some (.string s) := by rw [hW1]; exact hc
        have HB1 : Hid (Boxed W1 Bs 9 (.string s)) := Lib.hid (by rw [hW1]; exact hB.out)
        clear hW1 hc hJ
        by_cases n1 : 65536 < N
        · have m1 : (65536 : Int) < (N : Int) := by omega
          have ho : Hid (oneL r.data.toList = none) := Lib.hid (by unfold oneL; rw [if_neg e12, if_neg (by simpa using hcc), if_pos (.inl (by rw [← HNN.out]; exact n1))])
          clear e12 hcc
          refine wpIn_wide.2 ?_
          go_quiet (fail)
          gi_wp2_with fail
          try simp only [Exit.noGoto]
          go_end0
          first | exact HEND.out _ _ ho.out ⟨_, rfl⟩ (HDR.out _ _ _ HJ1.out) | exact HEND2.out _ _ ho.out ⟨_, rfl⟩ (HDR.out _ _ _ HJ1.out)
        · have m1 : ¬ (65536 : Int) < (N : Int) := by omega
          have m1' : (N : Int) ≤ 65536 := by omega
          by_cases n2 : r.size - 12 < N
          · have m2 : (r.size : Int) - 12 < (N : Int) := by omega
            have ho : Hid (oneL r.data.toList = none) := Lib.hid (by unfold oneL; rw [if_neg e12, if_neg (by simpa using hcc), if_pos (.inr (by rw [← HNN.out, ← size_len]; exact n2))])
            clear e12 hcc
            refine wpIn_wide.2 ?_
            go_quiet (fail)
            gi_wp2_with fail
            try simp only [Exit.noGoto]
            go_end0
            first | exact HEND.out _ _ ho.out ⟨_, rfl⟩ (HDR.out _ _ _ HJ1.out) | exact HEND2.out _ _ ho.out ⟨_, rfl⟩ (HDR.out _ _ _ HJ1.out)
          · have m2 : ¬ (r.size : Int) - 12 < (N : Int) := by omega
            have hNle : N + 12 ≤ r.size := by omega
            have hNleI : (N : Int) + 12 ≤ (r.size : Int) := by omega
            have hA1 : (0 : Int) ≤ (N : Int) := by omega
            obtain ⟨M, hM⟩ : ∃ M, M = 8 + N := ⟨_, rfl⟩
            have hMI : (8 : Int) + (N : Int) = (M : Int) := by omega
            have hMw : IntKind.i64.wrap (M : Int) = (M : Int) := by rw [IntWalk.i64_in _ (by omega)]
            have hMle : (M : Int) ≤ (r.size : Int) := by omega
            have hM8 : (8 : Int) ≤ (M : Int) := by omega
            have HM := Lib.hid hM
            have b1 : (r.extract 8 M).size ≤ maxLen := by unfold maxLen; simp; omega
            have b2 : 4 ≤ (r.extract M r.size).size := by simp; omega
            have t1 : sumI (r.extract 8 M) = (sum32 ((r.data.toList.drop 8).take N) : Int) := by
              unfold sumI; rw [Lib.extract_data]; rw [hM]; simp
            have t2 : (r.extract M r.size).data.toList = r.data.toList.drop (8 + N) := by rw [Lib.extract_to_end, hM]
            have t3 : (r.extract 8 M).data.toList = (r.data.toList.drop 8).take N := by rw [Lib.extract_data, hM]; simp
            clear hM HS1 HN1 HN0'
            obtain ⟨c2, hc2⟩ : ∃ c, c = sumI (r.extract 8 M) := ⟨_, rfl⟩
            obtain ⟨d2, hd2⟩ : ∃ c, c = (num4 (r.extract M r.size).data.toList : Int) := ⟨_, rfl⟩
            have HS2 := Lib.hid (fun (W : World) => (frSumI_any (r.extract 8 M) W b1).mono (fun e w' (h : e = .returned (.int .u32 (sumI (r.extract 8 M))) ∧ W = w') => (⟨by rw [hc2]; exact h.1, h.2.symm⟩ : e = .returned (.int .u32 c2) ∧ w' = W)))
            have HN2 := Lib.hid (fun (W : World) => number_any (r.extract M r.size) W b2 d2 hd2)
            have hcd2 : c2 = d2 ↔ sum32 ((r.data.toList.drop 8).take N) = num4 (r.data.toList.drop (8 + N)) := by rw [hc2, hd2, t1, t2]; omega
            have HT3 := Lib.hid t3
            clear t1 t2 t3 b1 b2 hc2 hd2
            by_cases hcc2 : sum32 ((r.data.toList.drop 8).take N) = num4 (r.data.toList.drop (8 + N))
            · have hv := hcd2.2 hcc2
              subst hv
              have p1 : (c2 == c2) = true := by simp
              have p2 : (c2 != c2) = false := by simp
              have ho : oneL r.data.toList = some (r.extract 8 M).data.toList := by
                unfold oneL
                rw [if_neg e12, if_neg (by simpa using hcc), if_neg (by rw [← HNN.out, ← size_len]; omega), if_neg (by rw [← HNN.out]; simpa using hcc2), HT3.out, HNN.out]
              have hcnt : pre.length < s.size + 1 := by have := (Told.count hT.out); rw [HK.out] at this; simp at this; omega
              have hst : TP s.data.toList (pre ++ [(k + N + 12, r.extract 8 M)]) := by
                have e : (r.extract 8 M).size = N := by simp; have := HM.out; omega
                have := TP.step hT.out (r.extract 8 M) (by rw [HK.out, hko.out, ← HR.out]; exact ho)
                rw [HK.out, e] at this
                exact this
              have HST := Lib.hid hst
              have hkN : k + N + 12 ≤ s.size := by have := HRS.out; omega
              obtain ⟨T, hT2⟩ : ∃ T, T = k + (N + 12) := ⟨_, rfl⟩
              obtain ⟨V, hV⟩ : ∃ V, V = N + 12 := ⟨_, rfl⟩
              have v1 : (N : Int) + 12 = (V : Int) := by omega
              have v2 : IntKind.i64.wrap (V : Int) = (V : Int) := by rw [IntWalk.i64_in _ (by omega)]
              have v3 : (k : Int) + (V : Int) = (T : Int) := by omega
              have v4 : IntKind.i64.wrap (T : Int) = (T : Int) := by rw [IntWalk.i64_in _ (by omega)]
              have HTT := Lib.hid hT2
              have HVV := Lib.hid hV
              clear hV hT2 hst ho e12 hcc hcc2 hcd2
              refine wpIn_wide.2 ?_
              go_quiet ((first | (go_at_call 15; exact Calls.quiet_of_same (HS2.out _)) | (go_at_call 40; exact Calls.quiet_of (HN2.out _))))
              obtain ⟨W2, hW2⟩ : ∃ W2, W2 = W1.drewN nq := ⟨_, rfl⟩
              rw [← hW2]
              have HJ2 : J pre W2 := by rw [hW2]; exact HDR.out _ _ _ HJ1.out
              have HB2 : Hid (Boxed W2 Bs 9 (.string s)) := Lib.hid (by rw [hW2]; exact HB1.out)
              have hc2 : W2.cell? ⟨Bs, 0, none⟩ = some (.string s) := by rw [hW2]; exact hc1
              obtain ⟨fn, tmps, assign, body, hy0, hR⟩ := HY.out pre (T, r.extract 8 M) W2 HJ2 hcnt
              have hy : (Instr.yield l #[.int .i64 (T : Int), .string (r.extract 8 M)]).run Try.prog W2 = .ok (.round l fn tmps assign body) W2 := hy0
              clear hW2 hc1 hy0
              have eT : T = k + N + 12 := by have := HTT.out; omega
              have HST2 : Hid (TP s.data.toList (pre ++ [(T, r.extract 8 M)])) := Lib.hid (by rw [eT]; exact HST.out)
              have HEL : Hid (lastAt (pre ++ [(T, r.extract 8 M)]) = T) := Lib.hid (lastAt_snoc _ _)
              have hTle : T ≤ s.size := by omega
              have hkT : k < T := by omega
              clear HST eT hkN
              gi_wp2_with fail
              refine hR.mono ?_
              rintro e W3 (⟨rfl, hJ3, hk3⟩ | ⟨rfl, hJx3⟩)
              · have HB3 : Hid (Boxed W3 Bs 9 (.string s)) := Lib.hid (hk3 HB2.out)
                have hc3 : W3.cell? ⟨Bs, 0, none⟩ = some (.string s) := HB3.out.cell
                clear hk3
                have HJ3 := Lib.hid hJ3
                clear hJ3 hy hR
                gi_wp2_with fail
                gi_roundg (s.size - T)
                case rel => exact ⟨pre ++ [(T, r.extract 8 M)], by rw [HEL.out], by rw [HEL.out], by rw [HEL.out]; exact hTle, HB3, HST2, HJ3⟩
                case measure => omega
              · have HX := Lib.hid hJx3
                clear hJx3 hy hR
                gi_wp2_with fail
                simp only [Exit.noGoto]
                refine bodyPost_ret (results_none rfl _ _ _) rfl ?_
                exact ⟨⟨_, rfl⟩, .inr ⟨_, trivial, HX.out⟩⟩
            · have hv : ¬ c2 = d2 := fun e => hcc2 (hcd2.1 e)
              have p1 : (c2 == d2) = false := beq_eq_false_iff_ne.2 hv
              have p2 : (c2 != d2) = true := bne_iff_ne.2 hv
              have ho : Hid (oneL r.data.toList = none) := Lib.hid (by
                unfold oneL
                rw [if_neg e12, if_neg (by simpa using hcc), if_neg (by rw [← HNN.out, ← size_len]; omega), if_pos (by rw [← HNN.out]; exact hcc2)])
              clear hcc2 hcd2 e12 hcc
              refine wpIn_wide.2 ?_
              go_quiet ((first | (go_at_call 15; exact Calls.quiet_of_same (HS2.out _)) | (go_at_call 40; exact Calls.quiet_of (HN2.out _))))
              gi_wp2_with fail
              try simp only [Exit.noGoto]
              go_end0
              first | exact HEND.out _ _ ho.out ⟨_, rfl⟩ (HDR.out _ _ _ HJ1.out) | exact HEND2.out _ _ ho.out ⟨_, rfl⟩ (HDR.out _ _ _ HJ1.out)
      · have hv : ¬ c1 = d1 := fun e => hcc (hcd.1 e)
        have q1 : (c1 == d1) = false := beq_eq_false_iff_ne.2 hv
        have q2 : (c1 != d1) = true := bne_iff_ne.2 hv
        have ho : Hid (oneL r.data.toList = none) := Lib.hid (by unfold oneL; rw [if_neg e12, if_pos hcc])
        clear hcc hcd e12
        gi_wp2_with fail
        rw [← HR.out]
        refine wpIn_wide.2 ?_
        go_quiet ((first | (go_at_call 15; exact Calls.quiet_of_same (HS1.out _)) | (go_at_call 40; exact Calls.quiet_of (HN1.out _))))
        gi_wp2_with fail
        try simp only [Exit.noGoto]
        go_end0
        first | exact HEND.out _ _ ho.out ⟨_, rfl⟩ (HDR.out _ _ _ hJ.out) | exact HEND2.out _ _ ho.out ⟨_, rfl⟩ (HDR.out _ _ _ hJ.out)
theorem kb_b (Bs : Nat) (s : ByteArray) (w : World) (W : World) (l : Nat) (o o' : Obj) (_ : w.heap.size ≤ l) (h : W.heap[l]? = some o) (hc : o.isCells = false) (_ : o.isWalk = false) : KB Bs s W (W.putObj l o') := by
  intro hb
  refine hb.kept (grownBy_putObj' W l o') (fun e => ?_)
  cases e
  rw [show W.heap[Bs]? = _ from hb] at h
  cases h; cases hc
/-- **frames(s) hands back a value that tells the frames.** -/
theorem frames_stops (n : Nat) (hn : 1 ≤ n) (Bs : Nat) (s : ByteArray) (hs : s.size ≤ 200000) (w : World) (hBs : Boxed w Bs 9 (.string s)) :
    SeqStopsK Fence.wide n Try.prog 39 #[.pointer (some ⟨Bs, 0, none⟩)] encF (KB Bs s) (fun ys => TP s.data.toList ys ∧ oneL (s.data.toList.drop (lastAt ys)) = none) (fun _ => True) (s.size + 1) w := fun l J Jx W hW hJ _ hY h0 =>
  frames1_in n hn l Bs s hs J Jx hY W ((hW.block Bs hBs.lt).trans hBs) h0 (fun pre W' m hj => hJ pre W' _ none hj ⟨rfl, rfl, rfl, Nat.le_refl _, fun _ _ _ => rfl⟩ (fun _ e => by cases e))
end Go.Proofs.Ytebpelfmllkpbaa
