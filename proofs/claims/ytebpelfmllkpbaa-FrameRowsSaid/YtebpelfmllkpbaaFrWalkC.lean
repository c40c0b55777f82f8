/-
  The walks of frame.number and of the reference's One and Scan: the number of four bytes; the frame at a text's head; all frames of a text of at most 100000 bytes.
-/
import Derived.Test.YtebpelfmllkpbaaFrP
import Derived.Test.YtebpelfmllkpbaaApp
import Derived.Test.YtebpelfmllkpbaaInfo
import Derived.RegionTactic
import Derived.ChangeAlike
import Derived.IntWalk
import Derived.Deep.RegionWith
namespace Go.Proofs.Ytebpelfmllkpbaa
open Go.RowKit
set_option linter.unusedVariables false

theorem bits_or_u32_nat (a b : Nat) (ha : a < 4294967296) (hb : b < 4294967296) : bits .or .u32 (a : Int) (b : Int) = ((a ||| b : Nat) : Int) := by
  have hx : a ||| b < 2 ^ 32 := Nat.or_lt_two_pow (by omega) (by omega)
  show IntKind.u32.wrap ((BitVec.ofInt 32 (a : Int) ||| BitVec.ofInt 32 (b : Int)).toNat : Int) = _
  rw [BitVec.toNat_or, ofInt32_nat a ha, ofInt32_nat b hb, IntKind.wrap_u32]
  omega
theorem or_join (a b i : Nat) (ha : a < 2 ^ i) (hs : a + 2 ^ i * b < 4294967296) : bits .or .u32 (a : Int) ((2 ^ i * b : Nat) : Int) = ((a + 2 ^ i * b : Nat) : Int) := by
  rw [bits_or_u32_nat _ _ (by omega) (by omega), Nat.or_comm, ← Nat.two_pow_add_eq_or_of_lt ha, Nat.add_comm]
theorem num4_at (s : ByteArray) (h0 : 0 < s.size) (h1 : 1 < s.size) (h2 : 2 < s.size) (h3 : 3 < s.size) :
    num4 s.data.toList = s[0].toNat + 256 * s[1].toNat + 65536 * s[2].toNat + 16777216 * s[3].toNat := by
  have g : ∀ i (h : i < s.size), (s.data.toList[i]?.getD 0) = s[i] := fun i h => by
    rw [List.getElem?_eq_getElem (by simpa using h)]; rfl
  unfold num4
  rw [g 0 h0, g 1 h1, g 2 h2, g 3 h3]
theorem num4_bits (a b c d : Nat) (ha : a < 256) (hb : b < 256) (hc : c < 256) (hd : d < 256) :
    bits .or .u32 (bits .or .u32 (bits .or .u32 (a : Int) ((b : Int) * 256)) ((c : Int) * 65536)) ((d : Int) * 16777216) = ((a + 256 * b + 65536 * c + 16777216 * d : Nat) : Int) := by
  have e1 : ((b : Int) * 256) = ((2 ^ 8 * b : Nat) : Int) := by omega
  have e2 : ((c : Int) * 65536) = ((2 ^ 16 * c : Nat) : Int) := by omega
  have e3 : ((d : Int) * 16777216) = ((2 ^ 24 * d : Nat) : Int) := by omega
  rw [e1, e2, e3, or_join a b 8 (by omega) (by omega), or_join _ c 16 (by omega) (by omega), or_join _ d 24 (by omega) (by omega)]

set_option maxHeartbeats 1000000 in
theorem number_any (s : ByteArray) (w : World) (h : 4 ≤ s.size) (v : Int) (hv : Hid (v = (num4 s.data.toList : Int))) :
    Calls Try.prog 40 #[.string s] w fun e w' => e = .returned (.int .u32 v) ∧ ∃ n, w' = w.drewN n := by
  have i0 : (0 : Int) < (s.size : Int) := by omega
  have i1 : (1 : Int) < (s.size : Int) := by omega
  have i2 : (2 : Int) < (s.size : Int) := by omega
  have i3 : (3 : Int) < (s.size : Int) := by omega
  have n0 : 0 < s.size := by omega
  have n1 : 1 < s.size := by omega
  have n2 : 2 < s.size := by omega
  have n3 : 3 < s.size := by omega
  have b0 := byte_lt s[0]
  have b1 := byte_lt s[1]
  have b2 := byte_lt s[2]
  have b3 := byte_lt s[3]
  have hb := Lib.hid (num4_bits _ _ _ _ b0 b1 b2 b3)
  have hn := Lib.hid (num4_at s n0 n1 n2 n3)
  go_enter Try.func40, Try.ntmps40
  go_wp2_with fail
  go_quiet (fail)
  go_wp2
  go_ret
  exact ⟨ret_int (by rw [hv.out, hn.out, hb.out]), _, rfl⟩

theorem strOf_drop (s : ByteArray) (k : Nat) : s.extract k s.size = strOf (s.data.toList.drop k) := by
  rw [extract_strOf, List.take_of_length_le (by simp)]

set_option maxHeartbeats 400000 in
theorem one_short (s : ByteArray) (w : World) (h : s.size < 12) :
    Calls Try.prog 34 #[.string s] w fun e w' => e = .returned (.tuple #[.string ⟨#[]⟩, .bool false]) ∧ Below w.heap.size w w' := by
  go_enter Try.func34, Try.ntmps34
  go_wp2
  go_ret2
  exact ⟨rfl, Below.refl _ _⟩

set_option maxHeartbeats 2000000 in
theorem one_long (s : ByteArray) (w : World) (h : 12 ≤ s.size) (hmax : s.size ≤ 9000000000000000000) :
    Calls Try.prog 34 #[.string s] w fun e w' => (match oneR s.data.toList with | some b => e = .returned (.tuple #[.string (strOf b), .bool true]) | none => ∃ t, e = .returned (.tuple #[.string t, .bool false])) ∧ Below w.heap.size w w' := by
  have i0 : (0 : Int) < (s.size : Int) := by omega
  have i1 : (1 : Int) < (s.size : Int) := by omega
  have i2 : (2 : Int) < (s.size : Int) := by omega
  have i3 : (3 : Int) < (s.size : Int) := by omega
  have n0 : 0 < s.size := by omega
  have n1 : 1 < s.size := by omega
  have n2 : 2 < s.size := by omega
  have n3 : 3 < s.size := by omega
  have b0 := byte_lt s[0]
  have b1 := byte_lt s[1]
  have b2 := byte_lt s[2]
  have b3 := byte_lt s[3]
  have hn0 := num4_at s n0 n1 n2 n3
  have hn : Hid (((s[0].toNat : Int) + (256 : Int) * (s[1].toNat : Int) + (65536 : Int) * (s[2].toNat : Int) + (16777216 : Int) * (s[3].toNat : Int)) = ((num4 s.data.toList : Nat) : Int)) := Lib.hid (by omega)
  have hlt := num4_lt s.data.toList
  have h12 : ¬ s.data.toList.length < 12 := by rw [← size_len]; omega
  by_cases c1 : 65536 < num4 s.data.toList ∨ s.size < num4 s.data.toList + 12
  · have hr : oneR s.data.toList = none := by unfold oneR; rw [if_neg h12, if_pos (by rw [← size_len]; exact c1)]
    rw [hr]
    have hl2 := Lib.hid hlt
    clear hn0 hr h12 hlt
    go_enter Try.func34, Try.ntmps34
    go_wp2_with fail
    go_quiet (fail)
    rw [hn.out]
    have hlt := hl2.out
    generalize num4 s.data.toList = N at *
    by_cases c2 : 65536 < N
    · clear c1
      go_wp2
      go_ret2
      exact ⟨⟨_, rfl⟩, below_drewN (Below.refl _ _) _⟩
    · have c3 : s.size < N + 12 := by omega
      clear c1
      go_wp2
      go_ret2
      exact ⟨⟨_, rfl⟩, below_drewN (Below.refl _ _) _⟩
  · have c2 : num4 s.data.toList ≤ 65536 := by omega
    have c3 : num4 s.data.toList + 12 ≤ s.size := by omega
    have hbody : s.extract 8 (8 + num4 s.data.toList) = strOf ((s.data.toList.drop 8).take (num4 s.data.toList)) := by rw [extract_strOf, Nat.add_sub_cancel_left]
    have hbs : (s.extract 8 (8 + num4 s.data.toList)).size ≤ 65536 := by simp; omega
    have hfr := reFrame_any (s.extract 8 (8 + num4 s.data.toList))
    have hpre : s.extract 0 (num4 s.data.toList + 12) = strOf (s.data.toList.take (num4 s.data.toList + 12)) := by rw [extract_strOf, Nat.sub_zero, List.drop_zero]
    have hcmp : Hid (frameL ((s.data.toList.drop 8).take (num4 s.data.toList)) = s.data.toList.take (num4 s.data.toList + 12) ↔ frameOf (s.extract 8 (8 + num4 s.data.toList)) = s.extract 0 (num4 s.data.toList + 12)) := Lib.hid (by
      rw [hpre, hbody]
      have e := frameOf_list (strOf ((s.data.toList.drop 8).take (num4 s.data.toList)))
      rw [strOf_list] at e
      rw [← e]
      constructor
      · intro h; rw [← h, strOf_self]
      · intro h; rw [h, strOf_list])
    have hr : oneR s.data.toList = if frameL ((s.data.toList.drop 8).take (num4 s.data.toList)) = s.data.toList.take (num4 s.data.toList + 12) then some ((s.data.toList.drop 8).take (num4 s.data.toList)) else none := by
      unfold oneR; rw [if_neg h12, if_neg (by rw [← size_len]; exact c1)]
    have HR := Lib.hid hr
    have HBODY := Lib.hid hbody
    have HFR := Lib.hid hfr
    have HBS := Lib.hid hbs
    clear hn0 hr h12 c1 hbody hpre hfr hbs
    by_cases hf : frameL ((s.data.toList.drop 8).take (num4 s.data.toList)) = s.data.toList.take (num4 s.data.toList + 12)
    · rw [HR.out, if_pos hf]
      have hq := hcmp.out.1 hf
      have HQ := Lib.hid hq
      clear hf HR hcmp hq
      go_enter Try.func34, Try.ntmps34
      go_wp2_with fail
      go_quiet (fail)
      rw [hn.out]
      have HB := Lib.hid HBODY.out
      generalize hNN : num4 s.data.toList = N at *
      have HNN := Lib.hid hNN
      clear hNN
      go_wp2_with fail
      obtain ⟨M, hM⟩ : ∃ M, M = N + 12 := ⟨_, rfl⟩
      have hwA : IntKind.i64.wrap (M : Int) = (M : Int) := by rw [IntWalk.i64_in _ (by omega)]
      have hwB : ((N : Int) + 12) = (M : Int) := by omega
      have hwC : (M : Int) ≤ (s.size : Int) := by omega
      have hwD : (0 : Int) ≤ (M : Int) := by omega
      have HM := Lib.hid hM
      clear hM
      go_region_with (go_at_call 18; refine (HFR.out _ HBS.out).mono ?_; rintro e w1 ⟨rfl, hb1⟩)
      go_wp2
      go_ret2
      have e1 : frameOf (s.extract 8 (8 + N)) = s.extract 0 M := by rw [HM.out]; exact HQ.out
      refine ⟨?_, below_then (below_drewN (Below.refl _ _) _) hb1 (Nat.le_refl _)⟩
      show Ending.returned (.tuple #[.string (s.extract 8 (8 + N)), .bool ((frameOf (s.extract 8 (8 + N))).toList == (s.extract 0 M).toList)]) = _
      rw [e1, HB.out, HNN.out]
      simp
    · rw [HR.out, if_neg hf]
      have hq : ¬ frameOf (s.extract 8 (8 + num4 s.data.toList)) = s.extract 0 (num4 s.data.toList + 12) := fun e => hf (hcmp.out.2 e)
      have HQ := Lib.hid (toList_ne hq)
      clear hf HR hcmp hq
      go_enter Try.func34, Try.ntmps34
      go_wp2_with fail
      go_quiet (fail)
      rw [hn.out]
      have HB := Lib.hid HBODY.out
      generalize hNN : num4 s.data.toList = N at *
      have HNN := Lib.hid hNN
      clear hNN
      go_wp2_with fail
      obtain ⟨M, hM⟩ : ∃ M, M = N + 12 := ⟨_, rfl⟩
      have hwA : IntKind.i64.wrap (M : Int) = (M : Int) := by rw [IntWalk.i64_in _ (by omega)]
      have hwB : ((N : Int) + 12) = (M : Int) := by omega
      have hwC : (M : Int) ≤ (s.size : Int) := by omega
      have hwD : (0 : Int) ≤ (M : Int) := by omega
      have HM := Lib.hid hM
      clear hM
      go_region_with (go_at_call 18; refine (HFR.out _ HBS.out).mono ?_; rintro e w1 ⟨rfl, hb1⟩)
      go_wp2
      go_ret2
      refine ⟨⟨s.extract 8 (8 + N), ?_⟩, below_then (below_drewN (Below.refl _ _) _) hb1 (Nat.le_refl _)⟩
      show Ending.returned (.tuple #[.string (s.extract 8 (8 + N)), .bool ((frameOf (s.extract 8 (8 + N))).toList == (s.extract 0 M).toList)]) = _
      rw [HM.out, HQ.out]

/-- The reference's One, at any text. -/
def OneP (s : ByteArray) (w : World) (e : Ending) (w' : World) : Prop :=
  ∃ t b, e = .returned (.tuple #[.string t, .bool b]) ∧ ((b = true ∧ oneL s.data.toList = some t.data.toList) ∨ (b = false ∧ oneL s.data.toList = none)) ∧ Below w.heap.size w w'
theorem one_any (s : ByteArray) (w : World) (hmax : s.size ≤ 9000000000000000000) : Calls Try.prog 34 #[.string s] w (OneP s w) := by
  by_cases h : s.size < 12
  · refine (one_short s w h).mono ?_
    rintro e w' ⟨rfl, hb⟩
    refine ⟨_, _, rfl, .inr ⟨rfl, ?_⟩, hb⟩
    unfold oneL; rw [if_pos (by rw [← size_len]; exact h)]
  · refine (one_long s w (by omega) hmax).mono ?_
    rintro e w' ⟨he, hb⟩
    rw [oneR_eq] at he
    cases ho : oneL s.data.toList with
    | none =>
      rw [ho] at he
      obtain ⟨t, rfl⟩ := he
      exact ⟨t, _, rfl, .inr ⟨rfl, ho⟩, hb⟩
    | some b =>
      rw [ho] at he
      exact ⟨_, _, he, .inl ⟨rfl, by rw [strOf_list, ho]⟩, hb⟩
end Go.Proofs.Ytebpelfmllkpbaa
