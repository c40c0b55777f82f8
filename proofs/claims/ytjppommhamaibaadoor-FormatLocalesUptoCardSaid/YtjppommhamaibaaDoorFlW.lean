/-
  The walks of Locale and Language, the program's and the reference's: new blocks alone are made; the texts within reach.
-/
import Derived.Test.YtjppommhamaibaaDoorFlP
import Derived.Test.YtjppommhamaibaaDoorSl
import Derived.Test.YtjppommhamaibaaDoorShelf
import Derived.Shelf.Strings.SlTrimAscii
import Derived.Lib.SplitLaws
import Derived.Deep.LoopGhost
namespace Go.Proofs.YtjppommhamaibaaDoor
open Go.RowKit
set_option linter.unusedVariables false

set_option maxRecDepth 100000 in
theorem trim_any (s : ByteArray) (hs : s.size ≤ maxLen) (w : World) :
    Calls Tryd.prog 33 #[.string s, .string signs] w fun e w' => e = .returned (.string ⟨(Lib.trimS s.data.toList signs.data.toList).toArray⟩) ∧ Below w.heap.size w w' :=
  Any.strings_Trim_laid Tryd.lays160 (by kernel_rfl) s signs w (by unfold maxLen at hs; omega) (by decide) signs_ascii
set_option maxHeartbeats 1000000 in
theorem sign_any (c : UInt8) (w : World) (v : Bool) (hv : Hid (v = sgn c)) : Calls Tryd.prog 34 #[.int .u8 (c.toNat : Int)] w fun e w' => e = .returned (.bool v) ∧ w = w' := by
  go_enter Tryd.func34, Tryd.ntmps34
  go_wp2_with fail
  all_goals (go_ret; refine ⟨ret_bool ?_, rfl⟩; rw [hv.out]; unfold sgn; rw [Bool.eq_iff_iff]; simp; omega)
theorem cell_new {w : World} {cs : Array Value} {T : TypeId} (i : Nat) {v : Value} (h : cs[i]? = some v) : (w.alloc (.cells cs T)).cell? ⟨w.heap.size, i, none⟩ = some v := by
  have hb : (w.alloc (.cells cs T)).heap[w.heap.size]? = some (.cells cs T (0, 0)) := heap_alloc_new w _
  rw [Lib.cell_of_heap hb i, h]
theorem notEmpty {p : ByteArray} (h : p.size ≠ 0) : p.toList.isEmpty = false := by
  rw [Lib.toList_data]
  cases he : p.data.toList with
  | nil => exact absurd (by rw [Lib.size_eq, he]; rfl) h
  | cons _ _ => rfl
theorem part_of {s : ByteArray} {K : Nat} {parts : List ByteArray} (h : (List.all parts partOk) = true) {j : Nat} (hj : j < parts.length) : partOk parts[j] = true := List.all_eq_true.1 h _ (List.getElem_mem hj)
set_option maxRecDepth 100000 in
set_option maxHeartbeats 1000000 in
theorem locale_any (s : ByteArray) (hs : s.size ≤ maxLen) (m : Int) (w : World) (hm : w.cell? ⟨0, 0, none⟩ = some (.int .i64 m)) (v : Bool) (hv : Hid (v = locL s.data.toList)) :
    Calls Tryd.prog 9 #[.string s] w fun e w' => e = .returned (.bool v) ∧ Below w.heap.size w w' := by
  by_cases h32 : 32 < (s.size : Int)
  · have hvf : v = false := by
      rw [hv.out]; unfold locL; rw [decide_eq_false (by rw [← size_len]; omega), Bool.false_and]
    subst hvf
    have b1 : decide (32 < (s.size : Int)) = true := decide_eq_true h32
    clear hv
    go_enter Tryd.func9, Tryd.ntmps9
    go_wp2_with fail
    go_ret
    exact ⟨rfl, Below.refl _ _⟩
  · have b1 : decide (32 < (s.size : Int)) = false := decide_eq_false h32
    have HV : Hid (v = (Lib.splitB dashB 0 (Lib.countB s dashB) s).all partOk) := Lib.hid (by
      rw [hv.out, parts_ok _ s rfl]; unfold locL; rw [decide_eq_true (by rw [← size_len]; omega), Bool.true_and])
    have HN := Lib.hid (Lib.splitB_all dashB (by decide) 0 _ s rfl)
    have hsp := Lib.hid (Tryd.strings_Split s dashB m w (by unfold maxLen at hs; omega) hm (by decide))
    have HSZ : Hid (∀ p ∈ Lib.splitB dashB 0 (Lib.countB s dashB) s, p.size ≤ maxLen) := Lib.hid (fun p hp => by have := split_size _ s p hp; omega)
    clear hv
    generalize Lib.splitB dashB 0 (Lib.countB s dashB) s = parts at *
    have hN1 : Lib.countB s dashB + 1 ≤ 33 := by have := count_le _ s rfl; omega
    generalize Lib.countB s dashB + 1 = N at *
    go_enter Tryd.func9, Tryd.ntmps9
    go_wp2_with fail
    refine hsp.out.mono ?_
    rintro e w1 ⟨rfl, hw1⟩
    have HB1 := Lib.hid (show Below w.heap.size w w1 by rw [hw1]; exact (Below.refl _ w).alloc (Nat.le_refl _) _)
    have HC : Hid (∀ j (h : j < parts.length), w1.cell? ⟨w.heap.size, j, none⟩ = some (.string parts[j])) := Lib.hid (fun j h => by
      rw [hw1]
      exact cell_new (cs := (List.map Value.string parts).toArray) j (by simp [h]))
    clear hw1 hsp
    go_wp2_with fail
    go_loopg [4, 11] N (fun gk v4 i wr => ∃ k : Nat, k ≤ N ∧ gk = N - k ∧ i = .int .i64 (k : Int) ∧ Hid ((parts.take k).all partOk = true) ∧ Hid (Below w1.heap.size w1 wr))
    case atStart => exact ⟨0, Nat.zero_le _, rfl, rfl, Lib.hid rfl, Lib.hid (Below.refl _ _)⟩
    case round =>
      obtain ⟨k, hk, rfl, rfl, hA, hB⟩ := hrel
      by_cases hkn : k < N
      · have hki : (k : Int) < (N : Int) := by omega
        have hkp : k < parts.length := by rw [HN.out]; exact hkn
        have hc := cell_keep hB.out (HC.out k hkp)
        have hps := HSZ.out _ (List.getElem_mem hkp)
        have HT := Lib.hid (part_trim parts[k])
        have HT2 : Hid ((parts.take (k + 1)).all partOk = partOk parts[k]) := Lib.hid (by rw [List.take_succ_eq_append_getElem hkp, List.all_append, hA.out]; simp)
        have HT3 : Hid (partOk parts[k] = false → v = false) := Lib.hid (fun h => by
          rw [HV.out]
          cases ha : parts.all partOk with
          | false => rfl
          | true => rw [List.all_eq_true.1 ha _ (List.getElem_mem hkp)] at h; cases h)
        generalize parts[k] = p at *
        have htr := Lib.hid (trim_any p hps wr)
        by_cases hz : p.size = 0
        · have hpe : p = ⟨#[]⟩ := ba_empty hz
          have hvf : v = false := HT3.out (by rw [HT.out, hz]; rfl)
          subst hpe
          subst hvf
          have HBr := Lib.hid (below_then HB1.out hB.out HB1.out.size)
          clear HT HT2 HT3 htr hz
          go_wp2_with fail
          go_ret
          exact ⟨rfl, HBr.out⟩
        · have be : p.toList.isEmpty = false := notEmpty hz
          have HZ := Lib.hid hz
          clear hz
          go_wp2_with fail
          refine htr.out.mono ?_
          rintro e w2 ⟨rfl, hb2⟩
          have HBr := Lib.hid (below_then (below_then HB1.out hB.out HB1.out.size) hb2 (below_then HB1.out hB.out HB1.out.size).size)
          have HB2 := Lib.hid (below_then hB.out hb2 hB.out.size)
          clear hb2
          obtain ⟨t, ht⟩ : ∃ t : ByteArray, t = ⟨(Lib.trimS p.data.toList signs.data.toList).toArray⟩ := ⟨_, rfl⟩
          have HD : Hid (t.size = 0 ↔ Lib.trimS p.data.toList signs.data.toList = []) := Lib.hid (by
            rw [ht]
            show (Lib.trimS p.data.toList signs.data.toList).toArray.size = 0 ↔ _
            rw [List.size_toArray]
            exact List.length_eq_zero_iff)
          rw [← ht]
          clear ht htr
          by_cases hz2 : t.size = 0
          · have ht0 : partOk p = true := by rw [HT.out, decide_eq_true (HD.out.1 hz2), decide_eq_true HZ.out]; rfl
            have HA2 := Lib.hid (HT2.out.trans ht0)
            obtain rfl : t = ⟨#[]⟩ := ba_empty hz2
            clear hz2 ht0 HT HT2 HT3 HD HBr
            go_wp2_with fail
            go_roundg (N - (k + 1))
            case rel => exact ⟨k + 1, by omega, rfl, by go_num, HA2, HB2⟩
            case measure => omega
          · have hvf : v = false := HT3.out (by rw [HT.out, decide_eq_false (fun e => hz2 (HD.out.2 e)), Bool.and_false])
            subst hvf
            have be2 : t.toList.isEmpty = false := notEmpty hz2
            clear hz2 HT HT2 HT3 HD
            go_wp2_with fail
            go_ret
            exact ⟨rfl, HBr.out⟩
      · have hki : (N : Int) ≤ (k : Int) := by omega
        have hvt : v = true := by rw [HV.out, ← hA.out, List.take_of_length_le (by rw [HN.out]; omega)]
        subst hvt
        have HBr := Lib.hid (below_then HB1.out hB.out HB1.out.size)
        go_wp2_with fail
        go_ret
        exact ⟨rfl, HBr.out⟩
set_option maxRecDepth 100000 in
set_option maxHeartbeats 1000000 in
theorem rLocale_any (s : ByteArray) (hs : s.size ≤ maxLen) (w : World) (v : Bool) (hv : Hid (v = locL s.data.toList)) :
    Calls Tryd.prog 10 #[.string s] w fun e w' => e = .returned (.bool v) ∧ Below w.heap.size w w' := by
  have hm : s.size ≤ 9223372036854775807 := by unfold maxLen at hs; omega
  go_enter Tryd.func10, Tryd.ntmps10
  go_wp2_with fail
  go_loopg [3] s.size (fun gk i wr => ∃ k : Nat, k ≤ s.size ∧ gk = s.size - k ∧ i = .int .i64 (k : Int) ∧ Hid (∀ i, i < k → badA s.data.toList i = false) ∧ Hid (Below w.heap.size w wr))
  case atStart => exact ⟨0, Nat.zero_le _, rfl, rfl, Lib.hid (fun i h => absurd h (Nat.not_lt_zero _)), Lib.hid (Below.refl _ _)⟩
  case round =>
    obtain ⟨k, hk, rfl, rfl, hA, hB⟩ := hrel
    by_cases hkn : k < s.size
    · have hki : (k : Int) < (s.size : Int) := by omega
      have hbad : Hid (badA s.data.toList k = (!sgn s[k] && (s[k] != 45 || k == 0 || decide ((k : Int) = (s.size : Int) - 1) || s.data.toList[k - 1]? == some 45))) := Lib.hid (by
        unfold badA
        have hl := size_len s
        rw [List.getElem?_eq_getElem (show k < s.data.toList.length by rw [← size_len]; exact hkn)]
        dsimp only
        rw [show ((s.data.toList.length : Int)) = (s.size : Int) by omega]
        rfl)
      have hno : Hid (badA s.data.toList k = true → v = false) := Lib.hid (fun h => by
        rw [hv.out]
        unfold locL
        cases ho : okS true s.data.toList with
        | false => rw [Bool.and_false]
        | true => rw [((okS_is _).1 ho).1 k] at h; cases h)
      have hyes : Hid (badA s.data.toList k = false → ∀ i, i < k + 1 → badA s.data.toList i = false) := Lib.hid (fun h i hi => by
        by_cases hik : i = k
        · subst hik; exact h
        · exact hA.out i (by omega))
      by_cases hsg : sgn s[k] = true
      · have hA2 := Lib.hid (hyes.out (by rw [hbad.out, hsg]; rfl))
        have hsc := Lib.hid (sign_any s[k] wr true (Lib.hid hsg.symm))
        clear hbad hno hyes hsg
        go_wp2_with fail
        refine hsc.out.mono ?_
        rintro e w' ⟨rfl, rfl⟩
        go_wp2_with fail
        go_roundg (s.size - (k + 1))
        case rel => exact ⟨k + 1, by omega, rfl, by go_num, hA2, hB⟩
        case measure => omega
      · have hsg : sgn s[k] = false := by simpa using hsg
        have hsc := Lib.hid (sign_any s[k] wr false (Lib.hid hsg.symm))
        by_cases h45 : s[k] = 45
        · have b45 : ((s[k].toNat : Int) != 45) = false := by rw [h45]; rfl
          by_cases hk0 : k = 0
          · have hvf : v = false := hno.out (by rw [hbad.out, hsg, show (k == 0) = true by simp [hk0]]; simp)
            subst hvf
            have b0 : ((k : Int) == 0) = true := by simp [hk0]
            clear hbad hno hyes hsg h45 hk0
            go_wp2_with fail
            refine hsc.out.mono ?_
            rintro e w' ⟨rfl, rfl⟩
            go_wp2_with fail
            go_ret
            exact ⟨rfl, hB.out⟩
          · have b0 : ((k : Int) == 0) = false := by simp [hk0]
            obtain ⟨j, hj⟩ : ∃ j : Nat, (k : Int) - 1 = (j : Int) := ⟨k - 1, by omega⟩
            have hjk : k - 1 = j := by omega
            have hjs : j < s.size := by omega
            have hji : (j : Int) < (s.size : Int) := by omega
            have hjv : s.data.toList[k - 1]? = some s[j] := by rw [hjk]; exact List.getElem?_eq_getElem _
            by_cases hkl : (k : Int) = (s.size : Int) - 1
            · have hvf : v = false := hno.out (by rw [hbad.out, hsg, decide_eq_true hkl]; simp)
              subst hvf
              have bl : ((k : Int) == (s.size : Int) - 1) = true := by rw [beq_iff_eq]; exact hkl
              clear hbad hno hyes hsg h45 hk0 hkl hjv
              go_wp2_with fail
              refine hsc.out.mono ?_
              rintro e w' ⟨rfl, rfl⟩
              go_wp2_with fail
              go_ret
              exact ⟨rfl, hB.out⟩
            · have bl : ((k : Int) == (s.size : Int) - 1) = false := by rw [beq_eq_false_iff_ne]; exact hkl
              by_cases hj45 : s[j] = 45
              · have hvf : v = false := hno.out (by rw [hbad.out, hsg, hjv, hj45]; simp)
                subst hvf
                have bj : ((s[j].toNat : Int) == 45) = true := by rw [hj45]; rfl
                clear hbad hno hyes hsg h45 hk0 hkl hjv hj45
                go_wp2_with fail
                refine hsc.out.mono ?_
                rintro e w' ⟨rfl, rfl⟩
                go_wp2_with fail
                go_ret
                exact ⟨rfl, hB.out⟩
              · have hA2 := Lib.hid (hyes.out (by rw [hbad.out, hsg, hjv, h45, decide_eq_false hkl]; simp [hk0, hj45]))
                have bj : ((s[j].toNat : Int) == 45) = false := by rw [beq_eq_false_iff_ne]; intro e; exact hj45 ((toNat45 _).1 e)
                clear hbad hno hyes hsg h45 hk0 hkl hjv hj45
                go_wp2_with fail
                refine hsc.out.mono ?_
                rintro e w' ⟨rfl, rfl⟩
                go_wp2_with fail
                go_roundg (s.size - (k + 1))
                case rel => exact ⟨k + 1, by omega, rfl, by go_num, hA2, hB⟩
                case measure => omega
        · have b45 : ((s[k].toNat : Int) != 45) = true := by rw [bne_iff_ne]; intro e; exact h45 ((toNat45 _).1 e)
          have hvf : v = false := hno.out (by rw [hbad.out, hsg]; simp [h45])
          subst hvf
          clear hbad hno hyes hsg h45
          go_wp2_with fail
          refine hsc.out.mono ?_
          rintro e w' ⟨rfl, rfl⟩
          go_wp2_with fail
          go_ret
          exact ⟨rfl, hB.out⟩
    · have hki : (s.size : Int) ≤ (k : Int) := by omega
      have hno2 : ∀ i, badA s.data.toList i = false := fun i => by
        by_cases hi : i < k
        · exact hA.out i hi
        · unfold badA
          rw [List.getElem?_eq_none (by rw [← size_len]; omega)]
      have hv2 : v = (decide (1 ≤ (s.size : Int)) && decide ((s.size : Int) ≤ 32)) := by
        rw [hv.out]
        unfold locL
        have hl := size_len s
        by_cases h1 : 1 ≤ s.size
        · rw [(okS_is _).2 ⟨hno2, by omega⟩, Bool.and_true, decide_eq_true (show (1 : Int) ≤ (s.size : Int) by omega), Bool.true_and]
          congr 1
          exact propext ⟨fun h => by omega, fun h => by omega⟩
        · have : okS true s.data.toList = false := by
            cases ho : okS true s.data.toList with
            | false => rfl
            | true => have := ((okS_is _).1 ho).2; omega
          rw [this, Bool.and_false, decide_eq_false (show ¬ (1 : Int) ≤ (s.size : Int) by omega), Bool.false_and]
      have HV2 := Lib.hid hv2
      clear hv2 hno2 hv
      obtain ⟨N, hN⟩ : ∃ N : Int, N = (s.size : Int) := ⟨_, rfl⟩
      by_cases h1 : 1 ≤ (s.size : Int)
      · have b1 : decide (1 ≤ (s.size : Int)) = true := decide_eq_true h1
        have hv3 : v = decide ((s.size : Int) ≤ 32) := by rw [HV2.out, b1, Bool.true_and]
        have HV3 := Lib.hid hv3
        clear hN HV2 hv3
        go_wp2_with fail
        go_ret
        exact ⟨ret_bool HV3.out.symm, hB.out⟩
      · have b1 : decide (1 ≤ (s.size : Int)) = false := decide_eq_false h1
        obtain rfl : v = false := by rw [HV2.out, b1, Bool.false_and]
        clear hN HV2
        go_wp2_with fail
        go_ret
        exact ⟨rfl, hB.out⟩
end Go.Proofs.YtjppommhamaibaaDoor
