/-
  The walk of the law NetMoves: it returns true on all lists of texts; new blocks alone are made.
-/
import Derived.Test.YtdlnabjledhiiaaNetAlive
import Derived.Deep.DeepCutAuto
import Derived.Deep.LoopGhost
namespace Go.Proofs.Ytdlnabjledhiiaa
open Go.RowKit
set_option linter.unusedVariables false

theorem Src.ofSome {w : World} {a : Option Addr} {n c : Nat} {xs : List Value} (h : SlAt w a n xs) (hc : n ≤ c) (h0 : 0 < n) : Src w (.slice a n c) xs := by
  refine Src.ofSl h hc (fun ha => ?_)
  rcases h.2 with rfl | ⟨b, off, e, _⟩
  · have := h.1; simp at this; omega
  · rw [ha] at e; cases e
theorem take_first (a : Option Addr) (n c : Nat) (x : ByteArray) (xs : List ByteArray) (w : World) (h1 : SlAt w a n (strs (x :: xs))) (hc : n ≤ c) (hx : xs.length ≤ 900) :
    Calls Try.prog 11 #[.slice a n c, .int .i64 0] w fun e w' => ∃ a n c, e = .returned (.tuple #[.slice a n c, .string x, .int .i64 0]) ∧ SlAt w' a n (strs xs) ∧ Below w.heap.size w w' ∧ n ≤ c := by
  refine (take_any (.slice a n c) (x :: xs) 0 w (Src.ofSome h1 hc (by rw [h1.1]; simp [strs])) (by simp) (by simp; omega)).mono ?_
  rintro e w' ⟨a, n, c, rfl, h, hb, _, hnc⟩
  exact ⟨a, n, c, rfl, by simpa using h, hb, hnc⟩
theorem twice_first (a : Option Addr) (n c : Nat) (x : ByteArray) (xs : List ByteArray) (w : World) (h1 : SlAt w a n (strs (x :: xs))) (hc : n ≤ c) (hx : xs.length ≤ 200) :
    Calls Try.prog 12 #[.slice a n c, .int .i64 0] w fun e w' => ∃ a n c, e = .returned (.tuple #[.slice a n c, .int .i64 0]) ∧ SlAt w' a n (strs (x :: xs ++ [x])) ∧ Below w.heap.size w w' ∧ n ≤ c := by
  refine (twice_any (.slice a n c) (x :: xs) 0 w (Src.ofSome h1 hc (by rw [h1.1]; simp [strs])) (by simp) (by simp; omega)).mono ?_
  rintro e w' ⟨a, n, c, rfl, h, hb, _, hnc⟩
  exact ⟨a, n, c, rfl, by simpa using h, hb, hnc⟩
theorem take_last (a : Option Addr) (n c m : Nat) (x : ByteArray) (xs : List ByteArray) (w : World) (h1 : SlAt w a n (strs (xs ++ [x]))) (hc : n ≤ c) (hx : xs.length ≤ 900) (hm : m = xs.length) :
    Calls Try.prog 11 #[.slice a n c, .int .i64 (m : Int)] w fun e w' => ∃ a n c, e = .returned (.tuple #[.slice a n c, .string x, .int .i64 0]) ∧ Below w.heap.size w w' := by
  subst hm
  refine (take_any (.slice a n c) (xs ++ [x]) xs.length w (Src.ofSome h1 hc (by rw [h1.1]; simp [strs])) (by simp) (by simp; omega)).mono ?_
  rintro e w' ⟨a, n, c, rfl, h, hb, _, hnc⟩
  exact ⟨a, n, c, by simp, hb⟩

set_option maxRecDepth 100000 in
set_option maxHeartbeats 4000000 in
theorem netMoves_a (a1 : Option Addr) (N1 N c1 : Nat) (xs ys : List ByteArray) (w : World) (h1 : Src w (.slice a1 N1 c1) (strs xs)) (hN : N = min N1 100) (hys : ys = xs.take N) :
    Calls Try.prog 4 #[.slice a1 N1 c1] w fun e w' => e = .returned (.bool true) ∧ Below w.heap.size w w' := by
  have hN1 : N1 = xs.length := by rw [h1.le.1, strs_length]
  have hly : ys.length = N := by rw [hys, List.length_take]; omega
  have h2 := h1.take (m := N) (by omega)
  rw [strs_take, ← hys] at h2
  have hr : roomOf 0 N = N := by unfold roomOf; omega
  have hs := send_any (.slice none 0 0) _ [] ys w (.inl ⟨rfl, rfl⟩) h2 (by decide) (by omega)
  rw [show ([] : List ByteArray).length = 0 from rfl, hly, hr, Nat.sub_self, List.nil_append, ← hly, List.take_length, hly] at hs
  have HS := Lib.hid hs
  have H2 := Lib.hid h2
  have hc : N ≤ c1 := by have := h1.le.2; omega
  have hNi : (N : Int) ≤ 100 := by omega
  have HN := Lib.hid hN
  have HL := Lib.hid hly
  have hcut : N1 > 100 → N = 100 := by omega
  have hc1 := h1.le.2
  clear hs h2 h1 hN1 hr hys hly hN
  go_enter Try.func4, Try.ntmps4
  go_upto_if 17 with fail
  go_cut [0] (fun v w' => v = .slice a1 N c1 ∧ w = w')
  case first =>
    by_cases hh : N1 > 100
    · obtain rfl := hcut hh
      have e1 : (100 : Int) < (N1 : Int) := by omega
      have e2 : (100 : Int) ≤ (c1 : Int) := by omega
      go_wp2_with fail
      go_meet
      exact ⟨rfl, rfl⟩
    · have e : N = N1 := by have := HN.out; omega
      subst e
      have e1 : (N : Int) ≤ 100 := by omega
      go_wp2_with fail
      go_meet
      exact ⟨rfl, rfl⟩
  case rest =>
    obtain ⟨rfl, rfl⟩ := hcut
    go_wp2_with fail
    refine HS.out.mono ?_
    rintro e w1 ⟨a3, n3, c3, rfl, hsl3, hb3, -, hnc3⟩
    obtain rfl : n3 = N := by have := hsl3.1; rw [strs_length, HL.out] at this; exact this
    have HS3 := Lib.hid hsl3
    have HB3 := Lib.hid hb3
    have hq : ((n3 : Int) != (n3 : Int)) = false := by simp
    clear hsl3 hb3
    go_wp2_with fail
    refine (alive_any _).mono ?_
    rintro e w2 ⟨rfl, hb4⟩
    have HB4 := Lib.hid (below_then HB3.out hb4 HB3.out.size)
    have HS4 := Lib.hid (HS3.out.keep hb4)
    clear hb4 HS3 HB3
    go_wp2_with fail
    go_loopg [3, 40] n3 (fun gk v3 i wr => ∃ (k n c : Nat) (a : Option Addr), k ≤ n3 ∧ gk = n3 - k ∧ i = .int .i64 (k : Int) ∧ v3 = .slice a n c ∧ n ≤ c ∧ n = n3 - k ∧ Hid (SlAt wr a n (strs (ys.drop k))) ∧ Hid (Below w.heap.size w wr))
    case atStart => exact ⟨0, n3, c3, a3, Nat.zero_le _, rfl, rfl, rfl, hnc3, rfl, HS4, HB4⟩
    case round =>
      obtain ⟨k, n, c, a, hk, rfl, rfl, rfl, hnc, hnk, HA, HB⟩ := hrel
      by_cases hlt : k < n3
      · have hlty : k < ys.length := by rw [HL.out]; exact hlt
        have hdr : ys.drop k = ys[k] :: ys.drop (k + 1) := List.drop_eq_getElem_cons hlty
        have hcell := (H2.out.keep HB.out).at hlty
        obtain ⟨ad, hadr, hcell⟩ := hcell
        subst hadr
        have HA2 := HA.out
        rw [hdr] at HA2
        have HA := Lib.hid HA2
        have hdl : (ys.drop (k + 1)).length ≤ 99 := by rw [List.length_drop, HL.out]; omega
        have hM : (ys[k] :: ys.drop (k + 1)).length = n := by rw [← hdr, List.length_drop, HL.out]; omega
        have hn1 : n + 1 ≤ 1000 := by omega
        generalize ys[k] = t at *
        clear hdr hlty HA2
        obtain ⟨zs, hzs⟩ : ∃ zs, zs = ys.drop (k + 1) := ⟨_, rfl⟩
        rw [← hzs] at HA hdl hM
        have HZ := Lib.hid hzs
        have HM := Lib.hid hM
        have HD := Lib.hid hdl
        have HNK := Lib.hid hnk
        clear hzs hM hdl hnk
        have htt : (t.toList != t.toList) = false := by simp
        have hki : (k : Int) < (n3 : Int) := by omega
        go_wp2_with fail
        refine (twice_first a n c t zs _ HA.out hnc (by have := HD.out; omega)).mono ?_
        rintro e w5 ⟨a7, n7, c7, rfl, hs7, hb7, hnc7⟩
        have hn7 : n7 = n + 1 := by rw [hs7.1, strs_length, List.length_append, HM.out]; rfl
        have HS7 := Lib.hid hs7
        have HB7 := Lib.hid (below_then HB.out hb7 HB.out.size)
        have HA7 := Lib.hid (HA.out.keep hb7)
        have h7i : (n7 : Int) - 1 = (n : Int) := by omega
        have h7q : ((n7 : Int) != (n : Int) + 1) = false := by simp; omega
        have HN7 := Lib.hid hn7
        clear hs7 hb7 hn7
        go_wp2_with fail
        refine (take_first a n c t zs _ HA7.out hnc (by have := HD.out; omega)).mono ?_
        rintro e w6 ⟨a9, n9, c9, rfl, hs9, hb9, hnc9⟩
        have HS9 := Lib.hid hs9
        have HB9 := Lib.hid (below_then HB7.out hb9 HB7.out.size)
        have HS7 := Lib.hid (HS7.out.keep hb9)
        clear hs9 hb9
        go_wp2_with fail
        refine (take_last a7 n7 c7 n t (t :: zs) _ HS7.out hnc7 (by have := HD.out; simp; omega) HM.out.symm).mono ?_
        rintro e w7 ⟨a12, n12, c12, rfl, hb12⟩
        have HB12 := Lib.hid (below_then HB9.out hb12 HB9.out.size)
        have HS9 := Lib.hid (HS9.out.keep hb12)
        clear hb12
        go_wp2_with fail
        go_roundg (n3 - (k + 1))
        case rel => exact ⟨k + 1, n9, c9, a9, by omega, rfl, by go_num, rfl, hnc9, by have := HS9.out.1; rw [strs_length, HZ.out, List.length_drop, HL.out] at this; exact this, by rw [HZ.out] at HS9; exact HS9, HB12⟩
        case measure => omega
      · obtain rfl : k = n3 := by omega
        obtain rfl : n = 0 := by omega
        clear hnk hnc hk hlt hcut
        go_wp2_with fail
        go_ret
        exact ⟨rfl, HB.out⟩

theorem netMoves_walk (a1 : Option Addr) (N1 c1 : Nat) (xs : List ByteArray) (w : World) (h1 : IsStrs w a1 N1 c1 xs) :
    Calls Try.prog 4 #[.slice a1 N1 c1] w fun e w' => e = .returned (.bool true) ∧ Below w.heap.size w w' :=
  netMoves_a a1 N1 _ c1 _ _ w (Src.ofStrs h1) rfl rfl
end Go.Proofs.Ytdlnabjledhiiaa
