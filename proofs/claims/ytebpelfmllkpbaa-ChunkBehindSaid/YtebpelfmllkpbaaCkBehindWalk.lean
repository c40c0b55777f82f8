/-
  The walk of the law ChunkBehind: it returns true on every text and place; new blocks alone are made.
-/
import Derived.Test.YtebpelfmllkpbaaCkLaws
import Derived.Test.YtebpelfmllkpbaaCkPB
import Derived.Test.YtebpelfmllkpbaaJoin
import Derived.Deep.RegionWith
import Derived.Deep.RegionHeld3
namespace Go.Proofs.Ytebpelfmllkpbaa
open Go.RowKit
set_option linter.unusedVariables false

theorem cut_exists (l : List UInt8) : ∀ i, i ≤ (chunks l).length → ∃ r k, Cutting l r k ∧ r.length = i ∧ k ≤ l.length := by
  intro i
  induction i with
  | zero => intro _; exact ⟨[], 0, Cutting.start, rfl, Nat.zero_le _⟩
  | succ i ih =>
    intro hi
    obtain ⟨r, k, h, hr, hk⟩ := ih (by omega)
    obtain ⟨a1, _⟩ := chunk_at h (by omega)
    have h2 := Cutting.step h a1
    exact ⟨_, _, h2, by simp [hr], h2.le⟩
/-- What stands behind a cut is cut as if it stood alone. -/
theorem behind (s : ByteArray) (i : Nat) (hi : i ≤ (texts s).length) : texts (strOf (flat ((texts s).drop i))) = (texts s).drop i := by
  have hl : (texts s).length = (chunks s.data.toList).length := by simp [texts]
  obtain ⟨r, k, h, hr, hk⟩ := cut_exists s.data.toList i (by omega)
  have h1 : (chunks s.data.toList).drop i = chunks (s.data.toList.drop k) := by
    rw [h.chunks, ← hr, List.drop_left]
  have h2 : flat ((texts s).drop i) = s.data.toList.drop k := by
    have e : ((texts s).drop i).map (fun s => s.data.toList) = (chunks s.data.toList).drop i := by
      rw [texts, ← List.map_drop, List.map_map]
      conv => rhs; rw [← List.map_id ((chunks s.data.toList).drop i)]
      rfl
    rw [flat, e, h1, chunks_flat]
  rw [h2]
  unfold texts
  rw [strOf_list, ← h1, List.map_drop]
theorem flat_le (xs : List ByteArray) (i : Nat) : (flat (xs.drop i)).length ≤ (flat xs).length := by
  have h : xs.map (fun s => s.data.toList) = (xs.take i).map (fun s => s.data.toList) ++ (xs.drop i).map (fun s => s.data.toList) := by rw [← List.map_append, List.take_append_drop]
  unfold flat
  rw [h, List.flatten_append, List.length_append]; omega
theorem slice_drop {w : World} {a : Option Addr} {n : Nat} {xs : List ByteArray} (h : SlAt w a n (strs xs)) (i : Nat) (hi : i < n) (b off : Nat) (ha : a = some ⟨b, off, none⟩) :
    SlAt w (some ⟨b, off + i, none⟩) (n - i) (strs (xs.drop i)) := by
  obtain ⟨hn, b', o', ha', hc⟩ := h.str (by omega)
  rw [ha'] at ha; cases ha
  refine ⟨by rw [strs_length, List.length_drop]; omega, .inr ⟨b, off + i, rfl, fun j hj => ?_⟩⟩
  have hj2 : i + j < xs.length := by rw [strs_length, List.length_drop] at hj; omega
  rw [Nat.add_assoc, hc (i + j) hj2]
  simp [strs]
/-- The place that is asked for, within the list. -/
theorem place_in (at0 : Int) (n : Nat) (h : 0 < n) (hn : n ≤ 20000) : ∃ i : Nat, i < n ∧ (wrap64 (at0.tmod n + n)).tmod n = (i : Int) := by
  have h1 : (0 : Int) < n := by omega
  have h2 : -(n : Int) < at0.tmod n := by have := Int.lt_tmod_of_pos at0 h1; omega
  have h3 : at0.tmod n < n := Int.tmod_lt_of_pos at0 h1
  rw [IntWalk.wrap64_in _ ⟨by omega, by omega⟩]
  refine ⟨((at0.tmod n + n).tmod n).toNat, ?_, ?_⟩
  · rw [Int.tmod_eq_emod_of_nonneg (by omega)]
    have := Int.emod_lt_of_pos (at0.tmod n + n) h1
    have := Int.emod_nonneg (at0.tmod n + n) (by omega : (n : Int) ≠ 0)
    omega
  · rw [Int.tmod_eq_emod_of_nonneg (by omega)]
    have := Int.emod_nonneg (at0.tmod n + n) (by omega : (n : Int) ≠ 0)
    omega

set_option maxHeartbeats 2000000 in
theorem chunkBehind_main (s t : ByteArray) (at0 : Int) (w : World) (hm : Hid (s.size ≤ maxLen)) (hc : Hid (cut4 s = t)) (ht : t.size ≤ 5000) (hlo : -9223372036854775808 ≤ at0) (hhi : at0 ≤ 9223372036854775807) (h0 : 0 < (texts t).length) :
    Calls Try.prog 13 #[.string s, .int .i64 at0] w fun e w' => e = .returned (.bool true) ∧ Below w.heap.size w w' := by
  have hsh : Hid (∀ w, Calls Try.prog 24 #[.string s] w fun e w' => e = .returned (.string t) ∧ w = w') := Lib.hid fun w => by rw [← hc.out]; exact short4_any s w hm.out
  have hcn := Lib.hid (texts_count t)
  have hfl := Lib.hid (flat_texts t)
  have H0 := Lib.hid h0
  clear hc hm h0
  go_enter Try.func13, Try.ntmps13
  go_wp2_with fail
  refine (hsh.out _).mono ?_
  rintro e w' ⟨rfl, rfl⟩
  go_wp2_with fail
  refine (chTexts_any t _ (by omega) _ rfl).mono ?_
  rintro e w1 ⟨x1, n1, c1, rfl, hs1, hb1, _, hcap⟩
  have HB1 := Lib.hid hb1
  have HN1 := Lib.hid (hs1.1.trans (strs_length _))
  have hn1 : n1 ≤ 20000 := by have := HN1.out; have := hcn.out; omega
  have hn0 : 0 < n1 := by have := HN1.out; have := H0.out; omega
  obtain ⟨-, b, off, hx1, -⟩ := hs1.str hn0
  subst hx1
  obtain ⟨i, hi, hat⟩ := place_in at0 n1 hn0 hn1
  have HS1 := Lib.hid hs1
  have hflat : (flat ((texts t).drop i)).length ≤ 5000 := Nat.le_trans (flat_le _ _) (by rw [hfl.out, ← size_len]; exact ht)
  have hbh := behind t i (by have := HN1.out; omega)
  have HJ : Hid (∀ W, Below w1.heap.size w1 W → Calls Try.prog 30 #[.slice (some ⟨b, off + i, none⟩) (n1 - i) (c1 - i), .string ⟨#[]⟩] W fun e w' => e = .returned (.string (strOf (flat ((texts t).drop i)))) ∧ Below w1.heap.size w1 w') := Lib.hid fun W hk =>
    (join_flat (some ⟨b, off + i, none⟩) (n1 - i) (c1 - i) ((texts t).drop i) W (slice_drop (hs1.keep hk) i hi b off rfl) (by omega) (by rw [List.length_drop]; have := hcn.out; omega) (by omega)).mono fun e w' ⟨h1, h2⟩ => ⟨h1, below_then hk h2 hk.size⟩
  have HT : Hid (∀ W, Below w1.heap.size w1 W → Calls Try.prog 28 #[.string (strOf (flat ((texts t).drop i)))] W fun e w' => ∃ a n c, e = .returned (.slice a n c) ∧ Below w1.heap.size w1 w' ∧ Hid (SlAt w' a n (strs ((texts t).drop i)))) := Lib.hid fun W hk =>
    (chTexts_any (strOf (flat ((texts t).drop i))) W (by rw [strOf_size]; omega) _ rfl).mono fun e w' ⟨a, n, c, h1, h2, h3, _⟩ => ⟨a, n, c, h1, below_then hk h3 hk.size, Lib.hid (by rw [hbh] at h2; exact h2)⟩
  have HL : Hid (∀ W a n c, Below w1.heap.size w1 W → Hid (SlAt W a n (strs ((texts t).drop i))) → Calls Try.prog 21 #[.slice a n c, .slice (some ⟨b, off + i, none⟩) (n1 - i) (c1 - i)] W fun e w' => e = .returned (.bool true) ∧ Below w1.heap.size w1 w') := Lib.hid fun W a n c hk hs =>
    (like_same a _ n _ c _ ((texts t).drop i) W hs.out (slice_drop (hs1.keep hk) i hi b off rfl) (by rw [List.length_drop]; have := hcn.out; omega)).mono fun e w' ⟨h1, m, h2⟩ => ⟨h1, by rw [h2]; exact below_drewN hk m⟩
  generalize strOf (flat ((texts t).drop i)) = tj at *
  have HAT := Lib.hid hat
  clear hs1 hb1 hat
  go_wp2_with fail
  refine (chCuts_a _).mono ?_
  rintro e w7 ⟨a7, n7, c7, rfl, hs7, hb7, _⟩
  obtain rfl : n7 = 1 := sl_len hs7
  have HB7 := Lib.hid hb7
  clear hs7 hb7
  go_wp2_with fail
  rw [HAT.out]
  have hic : i < c1 := by omega
  have hci : ¬ c1 = i := by omega
  have hi1 : (i : Int) ≤ (n1 : Int) := by omega
  have hb0 : Below w1.heap.size w1 w7.drew := HB7.out.drew
  go_region_with (first | (go_at_call 30; refine (HJ.out _ (by assumption)).mono ?_; rintro e w8 ⟨rfl, hb8⟩) | (go_at_call 28; refine (HT.out _ (by assumption)).mono ?_; rintro e w9 ⟨a9, n9, c9, rfl, hb9, hs9⟩) | (go_at_call 21; refine (HL.out _ _ _ _ (by assumption) (by assumption)).mono ?_; rintro e w10 ⟨rfl, hb10⟩))
  go_wp2
  go_ret
  exact ⟨rfl, below_then HB1.out (by assumption) HB1.out.size⟩

theorem texts_none (t : ByteArray) (h : ¬ 0 < (texts t).length) : t = ⟨#[]⟩ := by
  have hl : (texts t).length = (chunks t.data.toList).length := by simp [texts]
  have h1 : chunks t.data.toList = [] := List.eq_nil_of_length_eq_zero (by omega)
  have h2 := chunks_flat t.data.toList
  rw [h1] at h2
  obtain ⟨⟨d⟩⟩ := t
  simp at h2; rw [h2]
set_option maxHeartbeats 400000 in
theorem chunkBehind_none (s : ByteArray) (at0 : Int) (w : World) (hm : Hid (s.size ≤ maxLen)) (hc : Hid (cut4 s = ⟨#[]⟩)) :
    Calls Try.prog 13 #[.string s, .int .i64 at0] w fun e w' => e = .returned (.bool true) ∧ Below w.heap.size w w' := by
  have hsh : Hid (∀ w, Calls Try.prog 24 #[.string s] w fun e w' => e = .returned (.string ⟨#[]⟩) ∧ w = w') := Lib.hid fun w => by rw [← hc.out]; exact short4_any s w hm.out
  clear hc hm
  go_enter Try.func13, Try.ntmps13
  go_wp2_with fail
  refine (hsh.out _).mono ?_
  rintro e w' ⟨rfl, rfl⟩
  go_wp2_with fail
  refine (chTexts_any ⟨#[]⟩ _ (by decide) [] rfl).mono ?_
  rintro e w1 ⟨x1, n1, c1, rfl, hs1, hb1, _⟩
  obtain rfl : n1 = 0 := sl_len hs1
  have HB1 := Lib.hid hb1
  clear hs1 hb1
  go_wp2_with fail
  refine (chCuts_a _).mono ?_
  rintro e w7 ⟨a7, n7, c7, rfl, hs7, hb7, _⟩
  obtain rfl : n7 = 1 := sl_len hs7
  have HB7 := Lib.hid (below_then HB1.out hb7 HB1.out.size)
  clear hs7 hb7
  go_wp2_with fail
  refine (chCuts_a _).mono ?_
  rintro e w8 ⟨a8, n8, c8, rfl, hs8, hb8, _⟩
  obtain rfl : n8 = 1 := sl_len hs8
  have HB8 := Lib.hid (below_then HB7.out hb8 HB7.out.size)
  clear hs8 hb8
  go_wp2
  go_ret
  exact ⟨rfl, HB8.out⟩
theorem chunkBehind_walk (s : ByteArray) (at0 : Int) (w : World) (hs : s.size ≤ maxLen) (hat : (Lit.int .i64 at0).wf = true) :
    Calls Try.prog 13 #[.string s, .int .i64 at0] w fun e w' => e = .returned (.bool true) ∧ Below w.heap.size w w' := by
  have hf' : -9223372036854775808 ≤ at0 ∧ at0 ≤ 9223372036854775807 := by simpa [Lit.wf, IntKind.min, IntKind.max, IntKind.signed, IntKind.bits] using hat
  by_cases h0 : 0 < (texts (cut4 s)).length
  · exact chunkBehind_main s _ at0 w (Lib.hid hs) (Lib.hid rfl) (cut4_le s) hf'.1 hf'.2 h0
  · exact chunkBehind_none s at0 w (Lib.hid hs) (Lib.hid (texts_none _ h0))
end Go.Proofs.Ytebpelfmllkpbaa
