/-
  The walks of Language and Chain, the program's and the reference's, and of alive: new blocks alone are made; the texts within reach.
-/
import Derived.Test.YtjppommhamaibaaDoorFlW
import Derived.Test.YtjppommhamaibaaDoorApp
import Derived.Test.YtjppommhamaibaaDoorInfo
import Derived.Test.YtjppommhamaibaaDoorLike
import Derived.StillTailTactics
namespace Go.Proofs.YtjppommhamaibaaDoor
open Go.RowKit
set_option linter.unusedVariables false

def langV (s : ByteArray) : ByteArray := if locL s.data.toList = true then strOf (langL s.data.toList) else ⟨#[]⟩
def chainV (s : ByteArray) : List ByteArray := if s.size ≠ 0 ∧ locL s.data.toList = false then [] else (chainL s.data.toList).map strOf
set_option maxRecDepth 100000 in
set_option maxHeartbeats 1000000 in
theorem lang_any (s : ByteArray) (hs : s.size ≤ maxLen) (m : Int) (w : World) (hm : w.cell? ⟨0, 0, none⟩ = some (.int .i64 m)) (v : ByteArray) (hv : Hid (v = langV s)) :
    Calls Tryd.prog 11 #[.string s] w fun e w' => e = .returned (.string v) ∧ Below w.heap.size w w' := by
  cases hl : locL s.data.toList with
  | false =>
    have hc := Lib.hid (locale_any s hs m w hm false (Lib.hid hl.symm))
    obtain rfl : v = ⟨#[]⟩ := by rw [hv.out]; unfold langV; rw [if_neg (by rw [hl]; simp)]
    clear hv hl
    go_enter Tryd.func11, Tryd.ntmps11
    go_wp2_with fail
    refine hc.out.mono ?_
    rintro e w1 ⟨rfl, hb1⟩
    have HB := Lib.hid hb1
    clear hb1
    go_wp2_with fail
    go_ret
    exact ⟨rfl, HB.out⟩
  | true =>
    have hsz : s.size ≤ 32 := by
      unfold locL at hl
      rw [Bool.and_eq_true, decide_eq_true_eq, ← size_len] at hl
      exact hl.1
    have hc := Lib.hid (locale_any s hs m w hm true (Lib.hid hl.symm))
    have hct := Lib.hid (fun (W : World) (hb : Below w.heap.size w W) => Tryd.strings_Cut s dashB m W (by omega) (cell_keep hb hm))
    have hv2 : v = ⟨(Lib.cut s.data.toList dashB.data.toList).1.toArray⟩ := by rw [hv.out, cut_lang]; unfold langV; rw [if_pos hl]; rfl
    have HV := Lib.hid hv2
    obtain ⟨⟨p1, p2, p3⟩, hp⟩ : ∃ p, Lib.cut s.data.toList dashB.data.toList = p := ⟨_, rfl⟩
    rw [hp] at hct HV
    clear hv hv2 hl hp
    dsimp only at hct HV
    go_enter Tryd.func11, Tryd.ntmps11
    go_wp2_with fail
    refine hc.out.mono ?_
    rintro e w1 ⟨rfl, hb1⟩
    have HB := Lib.hid hb1
    clear hb1
    go_wp2_with fail
    refine (hct.out w1 HB.out).mono ?_
    rintro e w2 ⟨rfl, q, rfl⟩
    go_wp2_with fail
    go_ret
    exact ⟨by rw [HV.out]; rfl, below_drewN HB.out q⟩
theorem langL_at (s : ByteArray) (k : Nat) (hk : k < s.size) (h1 : ∀ i, i < k → s.data.toList[i]? ≠ some 45) (h2 : s[k] = 45) : s.extract 0 k = strOf (langL s.data.toList) := by
  rw [extract_strOf, List.drop_zero, Nat.sub_zero]
  congr 1
  unfold langL
  have hkl : k < s.data.toList.length := by rw [← size_len]; exact hk
  have h3 : s.data.toList[k] = 45 := h2
  generalize s.data.toList = l at *
  have hsp : l = l.take k ++ l[k] :: l.drop (k + 1) := by rw [← List.drop_eq_getElem_cons hkl, List.take_append_drop]
  conv => rhs; rw [hsp, h3]
  rw [List.takeWhile_append_of_pos, List.takeWhile_cons_of_neg (by simp), List.append_nil]
  intro x hx
  obtain ⟨j, hj, rfl⟩ := List.getElem_of_mem hx
  rw [List.length_take] at hj
  have := h1 j (by omega)
  rw [List.getElem?_eq_getElem (by omega)] at this
  rw [List.getElem_take]
  simpa using this
theorem langL_all (s : ByteArray) (h1 : ∀ i, i < s.size → s.data.toList[i]? ≠ some 45) : s = strOf (langL s.data.toList) := by
  unfold langL
  rw [takeW_self]
  · exact (strOf_self s).symm
  · intro x hx
    obtain ⟨j, hj, rfl⟩ := List.getElem_of_mem hx
    have := h1 j (by rw [size_len]; exact hj)
    rw [List.getElem?_eq_getElem hj] at this
    simpa using this
set_option maxRecDepth 100000 in
set_option maxHeartbeats 1000000 in
theorem rLang_any (s : ByteArray) (hs : s.size ≤ maxLen) (w : World) (v : ByteArray) (hv : Hid (v = langV s)) :
    Calls Tryd.prog 12 #[.string s] w fun e w' => e = .returned (.string v) ∧ Below w.heap.size w w' := by
  have hm : s.size ≤ 9223372036854775807 := by unfold maxLen at hs; omega
  cases hl : locL s.data.toList with
  | false =>
    have hc := Lib.hid (rLocale_any s hs w false (Lib.hid hl.symm))
    obtain rfl : v = ⟨#[]⟩ := by rw [hv.out]; unfold langV; rw [if_neg (by rw [hl]; simp)]
    clear hv hl
    go_enter Tryd.func12, Tryd.ntmps12
    go_wp2_with fail
    refine hc.out.mono ?_
    rintro e w1 ⟨rfl, hb1⟩
    have HB := Lib.hid hb1
    clear hb1
    go_wp2_with fail
    go_ret
    exact ⟨rfl, HB.out⟩
  | true =>
    have hc := Lib.hid (rLocale_any s hs w true (Lib.hid hl.symm))
    have HV : Hid (v = strOf (langL s.data.toList)) := Lib.hid (by rw [hv.out]; unfold langV; rw [if_pos hl])
    clear hv hl
    go_enter Tryd.func12, Tryd.ntmps12
    go_wp2_with fail
    refine hc.out.mono ?_
    rintro e w1 ⟨rfl, hb1⟩
    have HB := Lib.hid hb1
    clear hb1
    go_wp2_with fail
    go_loopg [3] s.size (fun gk i wr => ∃ k : Nat, k ≤ s.size ∧ gk = s.size - k ∧ i = .int .i64 (k : Int) ∧ Hid (∀ i, i < k → s.data.toList[i]? ≠ some 45) ∧ Hid (Below w.heap.size w wr))
    case atStart => exact ⟨0, Nat.zero_le _, rfl, rfl, Lib.hid (fun i h => absurd h (Nat.not_lt_zero _)), HB⟩
    case round =>
      obtain ⟨k, hk, rfl, rfl, hA, hB⟩ := hrel
      by_cases hkn : k < s.size
      · have hki : (k : Int) < (s.size : Int) := by omega
        by_cases h45 : s[k] = 45
        · have b45 : ((s[k].toNat : Int) == 45) = true := by rw [h45]; rfl
          have HV2 : Hid (v = s.extract 0 k) := Lib.hid (by rw [HV.out, langL_at s k hkn hA.out h45])
          clear h45 HV
          go_wp2_with fail
          go_ret
          exact ⟨by rw [HV2.out]; simp, hB.out⟩
        · have b45 : ((s[k].toNat : Int) == 45) = false := by rw [beq_eq_false_iff_ne]; intro e; exact h45 ((toNat45 _).1 e)
          have hA2 : Hid (∀ i, i < k + 1 → s.data.toList[i]? ≠ some 45) := Lib.hid (fun i hi e => by
            by_cases hik : i = k
            · subst hik
              rw [List.getElem?_eq_getElem (show i < s.data.toList.length by rw [← size_len]; exact hkn)] at e
              exact h45 (Option.some.inj e)
            · exact hA.out i (by omega) e)
          clear h45
          go_wp2_with fail
          go_roundg (s.size - (k + 1))
          case rel => exact ⟨k + 1, by omega, rfl, by go_num, hA2, hB⟩
          case measure => omega
      · have hki : (s.size : Int) ≤ (k : Int) := by omega
        have HV2 : Hid (v = s) := Lib.hid (by rw [HV.out, ← langL_all s (fun i hi => hA.out i (by omega))])
        clear HV
        go_wp2_with fail
        go_ret
        exact ⟨by rw [HV2.out]; rfl, hB.out⟩
theorem alive_lang : langV ⟨#[100, 101, 45, 67, 72]⟩ = ⟨#[100, 101]⟩ := by decide +kernel
set_option maxHeartbeats 1000000 in
theorem alive10_any (m : Int) (w : World) (hm : w.cell? ⟨0, 0, none⟩ = some (.int .i64 m)) :
    Calls Tryd.prog 8 #[] w fun e w' => e = .returned (.bool true) ∧ Below w.heap.size w w' := by
  have hc := Lib.hid (lang_any ⟨#[100, 101, 45, 67, 72]⟩ (by decide) m w hm ⟨#[100, 101]⟩ (Lib.hid alive_lang.symm))
  go_enter Tryd.func8, Tryd.ntmps8
  go_wp2_with fail
  refine hc.out.mono ?_
  rintro e w1 ⟨rfl, hb1⟩
  have HB := Lib.hid hb1
  clear hb1
  go_wp2_with fail
  go_ret
  exact ⟨rfl, HB.out⟩
end Go.Proofs.YtjppommhamaibaaDoor
