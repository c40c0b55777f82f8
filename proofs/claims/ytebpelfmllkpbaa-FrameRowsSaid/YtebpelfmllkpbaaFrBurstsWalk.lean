/-
  The walk of the law FrameBursts: it returns true on every body, place and pattern; new blocks alone are made.
-/
import Derived.Test.YtebpelfmllkpbaaFrWalkB
import Derived.Test.YtebpelfmllkpbaaMem
import Derived.RegionTactic
import Derived.ChangeAlike
import Derived.Lib.IndexBytes
namespace Go.Proofs.Ytebpelfmllkpbaa
open Go.RowKit
set_option linter.unusedVariables false

theorem frSum_const (s : ByteArray) (w : World) (n : Int) (hn : sumI s = n) (hs : s.size ≤ maxLen) :
    Calls Try.prog 15 #[.string s] w fun e w' => e = .returned (.int .u32 n) ∧ w = w' := by
  subst hn; exact frSumI_any s w hs

set_option maxHeartbeats 400000 in
theorem short2_small (s : ByteArray) (w : World) (h : s.size ≤ 20000) :
    Calls Try.prog 14 #[.string s] w fun e w' => e = .returned (.string s) ∧ w = w' := by
  go_enter Try.func14, Try.ntmps14
  go_wp2
  go_ret
  exact ⟨rfl, rfl⟩
set_option maxHeartbeats 400000 in
theorem short2_great (s : ByteArray) (w : World) (hs : s.size ≤ maxLen) (h : 20000 < s.size) :
    Calls Try.prog 14 #[.string s] w fun e w' => e = .returned (.string (s.extract 0 20000)) ∧ w = w' := by
  unfold maxLen at hs
  go_enter Try.func14, Try.ntmps14
  go_wp2
  go_ret
  exact ⟨rfl, rfl⟩
def cut2 (s : ByteArray) : ByteArray := if 20000 < s.size then s.extract 0 20000 else s
theorem cut2_le (s : ByteArray) : (cut2 s).size ≤ 20000 := by
  unfold cut2; split
  · simp; omega
  · omega
theorem short2_any (s : ByteArray) (w : World) (hs : s.size ≤ maxLen) :
    Calls Try.prog 14 #[.string s] w fun e w' => e = .returned (.string (cut2 s)) ∧ w = w' := by
  unfold cut2
  by_cases h : 20000 < s.size
  · rw [if_pos h]; exact short2_great s w hs h
  · rw [if_neg h]; exact short2_small s w (by omega)
attribute [irreducible] cut2

/-- What stands in the copy behind k rounds. -/
structure Bur (s : List UInt8) (f k : Nat) (l : List UInt8) : Prop where
  len : l.length = s.length
  num : ∃ q, q < 2 ^ k ∧ leN l = leN s ^^^ 2 ^ f * q
theorem Bur.start (s : List UInt8) (f : Nat) : Bur s f 0 s := ⟨rfl, 0, by simp, by simp⟩
theorem Bur.keep {s : List UInt8} {f k : Nat} {l : List UInt8} (h : Bur s f k l) : Bur s f (k + 1) l := by
  obtain ⟨q, hq, hl⟩ := h.num
  exact ⟨h.len, q, by rw [Nat.pow_succ]; omega, hl⟩
theorem mulpow_xor (f a b : Nat) : 2 ^ f * (a ^^^ b) = 2 ^ f * a ^^^ 2 ^ f * b := by
  have h2 := @Nat.shiftLeft_xor_distrib f a b
  rw [Nat.shiftLeft_eq, Nat.shiftLeft_eq, Nat.shiftLeft_eq] at h2
  rw [Nat.mul_comm _ (a ^^^ b), Nat.mul_comm _ a, Nat.mul_comm _ b]
  exact h2
theorem Bur.turn {s : List UInt8} {f k : Nat} {l : List UInt8} (h : Bur s f k l) (hj : (f + k) / 8 < l.length) (x : UInt8) (hx : x.toNat = 2 ^ ((f + k) % 8)) :
    Bur s f (k + 1) (l.set ((f + k) / 8) (l[(f + k) / 8] ^^^ x)) := by
  obtain ⟨q, hq, hl⟩ := h.num
  refine ⟨by simpa using h.len, q ^^^ 2 ^ k, ?_, ?_⟩
  · exact Nat.xor_lt_two_pow (by rw [Nat.pow_succ]; omega) (Nat.pow_lt_pow_right (by omega) (by omega))
  · rw [leN_set l _ hj x, hl, hx, mulpow_xor, ← Nat.xor_assoc]
    congr 1
    rw [← Nat.pow_add, ← Nat.pow_add]
    congr 1
    omega
/-- The byte with one bit. -/
def bit8 (m : Nat) : UInt8 := UInt8.ofNat (2 ^ m)
theorem bit8_nat (m : Nat) (h : m < 8) : (bit8 m).toNat = 2 ^ m := by
  unfold bit8
  rw [UInt8.toNat_ofNat']
  exact Nat.mod_eq_of_lt (by have : 2 ^ m < 2 ^ 8 := Nat.pow_lt_pow_right (by omega) h
                             omega)
theorem ofInt8_nat (a : Nat) (ha : a < 256) : (BitVec.ofInt 8 (a : Int)).toNat = a := by
  rw [BitVec.ofInt_natCast, BitVec.toNat_ofNat]; exact Nat.mod_eq_of_lt (by omega)
theorem bits_xor_u8 (a b : UInt8) : bits .xor .u8 (a.toNat : Int) (b.toNat : Int) = ((a ^^^ b).toNat : Int) := by
  have h1 := byte_lt a; have h2 := byte_lt b; have h3 := byte_lt (a ^^^ b)
  show IntKind.u8.wrap ((BitVec.ofInt 8 (a.toNat : Int) ^^^ BitVec.ofInt 8 (b.toNat : Int)).toNat : Int) = _
  rw [BitVec.toNat_xor, ofInt8_nat _ h1, ofInt8_nat _ h2, ← UInt8.toNat_xor, IntKind.wrap_u8]
  omega

theorem bit8_int (m : Nat) (h : m < 8) : ((2 : Int) ^ m % 256) = ((bit8 m).toNat : Int) := by
  rw [bit8_nat m h]
  have : m = 0 ∨ m = 1 ∨ m = 2 ∨ m = 3 ∨ m = 4 ∨ m = 5 ∨ m = 6 ∨ m = 7 := by omega
  rcases this with rfl | rfl | rfl | rfl | rfl | rfl | rfl | rfl <;> rfl
theorem bur_end (s : ByteArray) (f k : Nat) (l : List UInt8) (h : Bur s.data.toList f k l) (hf : f < 8 * s.size) (hk : k ≤ 32) : sumI s = sumI ⟨l.toArray⟩ ↔ s = ⟨l.toArray⟩ := by
  obtain ⟨q, hq, hl⟩ := h.num
  have hb := sum32_burst s.data.toList l h.len.symm f q (Nat.lt_of_lt_of_le hq (Nat.pow_le_pow_right (n := 2) (by omega) hk)) (by simp; omega) hl
  have e1 : sumI s = (sum32 s.data.toList : Int) := by unfold sumI; rfl
  have e2 : sumI ⟨l.toArray⟩ = (sum32 l : Int) := by unfold sumI; rfl
  rw [e1, e2, Int.natCast_inj, hb]
  constructor
  · intro h
    obtain ⟨⟨d⟩⟩ := s
    subst h
    rfl
  · intro h; rw [h]
theorem burst_place (f : Int) (n : Nat) (h0 : 0 < n) : ∃ F : Nat, F < 8 * n ∧ (f < 0 → -((f + 1).tmod (8 * (n : Int))) = (F : Int)) ∧ (¬ f < 0 → f % (8 * (n : Int)) = (F : Int)) := by
  have hm : (0 : Int) < 8 * (n : Int) := by omega
  by_cases hneg : f < 0
  · refine ⟨((-(f + 1)) % (8 * (n : Int))).toNat, ?_, ?_, fun h => absurd hneg h⟩
    · have h1 := Int.emod_nonneg (-(f + 1)) (by omega : 8 * (n : Int) ≠ 0)
      have h2 := Int.emod_lt_of_pos (-(f + 1)) hm
      omega
    · intro _
      rw [← Int.neg_tmod, Int.tmod_eq_emod_of_nonneg (by omega)]
      have h1 := Int.emod_nonneg (-(f + 1)) (by omega : 8 * (n : Int) ≠ 0)
      omega
  · refine ⟨(f % (8 * (n : Int))).toNat, ?_, fun h => absurd h hneg, ?_⟩
    · have h1 := Int.emod_nonneg f (by omega : 8 * (n : Int) ≠ 0)
      have h2 := Int.emod_lt_of_pos f hm
      omega
    · intro _
      have h1 := Int.emod_nonneg f (by omega : 8 * (n : Int) ≠ 0)
      omega
/-- What the loop's frame and world say behind k rounds. -/
def BurI (s : ByteArray) (f : Nat) (B : Nat) (w : World) (i : Value) (wr : World) : Prop :=
  ∃ (k : Nat) (l : List UInt8), k ≤ 32 ∧ i = .int .i64 k ∧ Bur s.data.toList f k l ∧ BytesAt wr B l ∧ Below B w wr

theorem bur_step (s : ByteArray) (F B k : Nat) (_p : Int) (w wr : World) (l : List UInt8) (hk : k + 1 ≤ 32) (hbu : Bur s.data.toList F k l) (hj : (F + k) / 8 < l.length) (hby : BytesAt wr B l) (hbw : Below B w wr) :
    BurI s F B w (.int .i64 ((k : Int) + 1)) (wr.setCell ⟨B, (F + k) / 8, none⟩ (.int .u8 (bits .xor .u8 (l[(F + k) / 8].toNat : Int) (2 ^ ((F + k) % 8) % 256)))).drew :=
  ⟨k + 1, _, hk, by go_num, hbu.turn hj (bit8 ((F + k) % 8)) (bit8_nat _ (by omega)), (hby.set _ hj _ _ (by rw [bit8_int _ (by omega), bits_xor_u8])).drew, (hbw.setCell (p := ⟨B, (F + k) / 8, none⟩) (Nat.le_refl _) _).drew⟩
theorem bur_less (k : Nat) (h : k < 32) : 32 - (intOf (Value.int .i64 ((k : Int) + 1))).toNat < 32 - (intOf (Value.int .i64 (k : Int))).toNat := by
  show 32 - ((k : Int) + 1).toNat < 32 - (k : Int).toNat
  omega
theorem bur_bool (s : ByteArray) (l : List UInt8) (h : sumI s = sumI ⟨l.toArray⟩ ↔ s = ⟨l.toArray⟩) : ((sumI s == sumI ⟨l.toArray⟩) == (s.toList == l)) = true := by
  have h2 : s.toList = l ↔ s = ⟨l.toArray⟩ := by
    rw [Lib.toList_data]
    constructor
    · intro h; obtain ⟨⟨d⟩⟩ := s; subst h; rfl
    · intro h; rw [h]
  by_cases hc : s = ⟨l.toArray⟩
  · have h3 := h.2 hc; have h4 := h2.2 hc
    rw [beq_iff_eq, beq_iff_eq.2 h3, beq_iff_eq.2 h4]
  · have h3 : ¬ sumI s = sumI ⟨l.toArray⟩ := fun e => hc (h.1 e)
    have h4 : ¬ s.toList = l := fun e => hc (h2.1 e)
    rw [beq_iff_eq, beq_eq_false_iff_ne.2 h3, beq_eq_false_iff_ne.2 h4]

set_option maxHeartbeats 1000000 in
set_option maxRecDepth 10000 in
theorem frameBursts_main (s0 s : ByteArray) (f p : Int) (w : World) (hs0 : s0.size ≤ maxLen) (hcut : cut2 s0 = s) (h : s.size ≤ 20000) (h0 : 0 < s.size) (hf1 : -9223372036854775808 ≤ f) (hf2 : f ≤ 9223372036854775807) (hp0 : 0 ≤ p) (hp1 : p ≤ 4294967295) :
    Calls Try.prog 3 #[.string s0, .int .i64 f, .int .u32 p] w fun e w' => e = .returned (.bool true) ∧ Below w.heap.size w w' := by
  obtain ⟨cap, w1, hcv, hb1, hby⟩ := conv_bytes (P := Try.prog) w 9 23 5 s Try.underlying9 Try.underlying23 Try.underlying5
  have hne : ((s.size : Int) == 0) = false := beq_eq_false_iff_ne.2 (by omega)
  have hsh := Lib.hid (short2_any s0)
  rw [hcut] at hsh
  have hm0 := Lib.hid hs0
  clear hcut hs0
  generalize hB : w.heap.size = B at *
  have HB := Lib.hid hB
  clear hB
  have hm1 : ∃ F : Nat, F < 8 * s.size ∧ (f < 0 → -((f + 1).tmod (8 * (s.size : Int))) = (F : Int)) ∧ (¬ f < 0 → f % (8 * (s.size : Int)) = (F : Int)) := burst_place f s.size h0
  obtain ⟨F, hF, hFn, hFp⟩ := hm1
  by_cases hneg : f < 0
  · have hX := hFn hneg
    clear hFn hFp
    go_enter Try.func3, Try.ntmps3
    go_wp2_with fail
    refine (hsh.out _ hm0.out).mono ?_
    rintro e w' ⟨rfl, rfl⟩
    go_wp2_with fail
    try rw [hX]
    go_loopw [8, 9, 33] (fun _ _ i wr => BurI s F B w i wr) (fun _ _ i _ => 32 - (intOf i).toNat)
    case atStart => exact ⟨0, s.data.toList, Nat.zero_le _, rfl, Bur.start _ _, hby, hb1⟩
    case round =>
      obtain ⟨k, l, hk, rfl, hbu, hby, hbw⟩ := hrel
      by_cases hlt : k < 32
      · by_cases hg : F + k < 8 * s.size
        · have hj : (F + k) / 8 < l.length := by have := hbu.len; simp at this; omega
          have hcell := hby.cell _ hj
          have hfree := hby.free _ hj
          have hj2 : (F + k) / 8 < s.size := by omega
          go_wp2_with fail
          · go_region
            go_wp2
            go_roundw
            case rel =>
              have hr := bur_step s F B k p w wr l (by omega) hbu hj hby hbw
              first | exact hr | exact ⟨_, _, _, hr, rfl, rfl, rfl⟩ | ((repeat apply Exists.intro); exact ⟨hr, rfl⟩)
            case measure => exact bur_less k hlt
          · go_roundw
            case rel =>
              have hr : BurI s F B w (.int .i64 ((k : Int) + 1)) wr := ⟨k + 1, l, by omega, by go_num, hbu.keep, hby, hbw⟩
              first | exact hr | exact ⟨_, _, _, hr, rfl, rfl, rfl⟩ | ((repeat apply Exists.intro); exact ⟨hr, rfl⟩)
            case measure => exact bur_less k hlt
        · go_wp2_with fail
          go_roundw
          case rel =>
              have hr : BurI s F B w (.int .i64 ((k : Int) + 1)) wr := ⟨k + 1, l, by omega, by go_num, hbu.keep, hby, hbw⟩
              first | exact hr | exact ⟨_, _, _, hr, rfl, rfl, rfl⟩ | ((repeat apply Exists.intro); exact ⟨hr, rfl⟩)
          case measure => exact bur_less k hlt
      · go_wp2_with fail
        refine (hsh.out _ hm0.out).mono ?_
        rintro e w' ⟨rfl, rfl⟩
        have hln : s.size = l.length := by have := hbu.len; simp at this; omega
        have hback : ∀ n, (convert 23 9 (.slice (some ⟨B, 0, none⟩) s.size cap)).run Try.prog (wr.drewN n) = .ok (.string ⟨l.toArray⟩) (wr.drewN n) := fun n =>
          conv_back (wr.drewN n) 23 9 5 B cap s.size l Try.underlying23 Try.underlying5 Try.underlying9 (hby.drewN n) hln
        have hA := Lib.hid (show s.size ≤ maxLen by unfold maxLen; omega)
        have hBl := Lib.hid (show (⟨l.toArray⟩ : ByteArray).size ≤ maxLen by show l.toArray.size ≤ maxLen; unfold maxLen; simp; omega)
        have hfin := Lib.hid (bur_end s F k l hbu hF hk)
        clear hbu hln
        go_wp2_with fail
        go_quiet ((go_at_call 15; exact qsame (frSumI_any _ _ (by first | exact hA.out | exact hBl.out))))
        go_wp2
        go_ret
        exact ⟨ret_bool (bur_bool s l hfin.out), below_drewN hbw _⟩
  · have hX := hFp hneg
    have hd : decide (f < 0) = false := decide_eq_false hneg
    clear hFn hFp
    go_enter Try.func3, Try.ntmps3
    go_wp2_with fail
    refine (hsh.out _ hm0.out).mono ?_
    rintro e w' ⟨rfl, rfl⟩
    go_wp2_with fail
    try rw [hX]
    go_loopw [8, 9, 33] (fun _ _ i wr => BurI s F B w i wr) (fun _ _ i _ => 32 - (intOf i).toNat)
    case atStart => exact ⟨0, s.data.toList, Nat.zero_le _, rfl, Bur.start _ _, hby, hb1⟩
    case round =>
      obtain ⟨k, l, hk, rfl, hbu, hby, hbw⟩ := hrel
      by_cases hlt : k < 32
      · by_cases hg : F + k < 8 * s.size
        · have hj : (F + k) / 8 < l.length := by have := hbu.len; simp at this; omega
          have hcell := hby.cell _ hj
          have hfree := hby.free _ hj
          have hj2 : (F + k) / 8 < s.size := by omega
          go_wp2_with fail
          · go_region
            go_wp2
            go_roundw
            case rel =>
              have hr := bur_step s F B k p w wr l (by omega) hbu hj hby hbw
              first | exact hr | exact ⟨_, _, _, hr, rfl, rfl, rfl⟩ | ((repeat apply Exists.intro); exact ⟨hr, rfl⟩)
            case measure => exact bur_less k hlt
          · go_roundw
            case rel =>
              have hr : BurI s F B w (.int .i64 ((k : Int) + 1)) wr := ⟨k + 1, l, by omega, by go_num, hbu.keep, hby, hbw⟩
              first | exact hr | exact ⟨_, _, _, hr, rfl, rfl, rfl⟩ | ((repeat apply Exists.intro); exact ⟨hr, rfl⟩)
            case measure => exact bur_less k hlt
        · go_wp2_with fail
          go_roundw
          case rel =>
              have hr : BurI s F B w (.int .i64 ((k : Int) + 1)) wr := ⟨k + 1, l, by omega, by go_num, hbu.keep, hby, hbw⟩
              first | exact hr | exact ⟨_, _, _, hr, rfl, rfl, rfl⟩ | ((repeat apply Exists.intro); exact ⟨hr, rfl⟩)
          case measure => exact bur_less k hlt
      · go_wp2_with fail
        refine (hsh.out _ hm0.out).mono ?_
        rintro e w' ⟨rfl, rfl⟩
        have hln : s.size = l.length := by have := hbu.len; simp at this; omega
        have hback : ∀ n, (convert 23 9 (.slice (some ⟨B, 0, none⟩) s.size cap)).run Try.prog (wr.drewN n) = .ok (.string ⟨l.toArray⟩) (wr.drewN n) := fun n =>
          conv_back (wr.drewN n) 23 9 5 B cap s.size l Try.underlying23 Try.underlying5 Try.underlying9 (hby.drewN n) hln
        have hA := Lib.hid (show s.size ≤ maxLen by unfold maxLen; omega)
        have hBl := Lib.hid (show (⟨l.toArray⟩ : ByteArray).size ≤ maxLen by show l.toArray.size ≤ maxLen; unfold maxLen; simp; omega)
        have hfin := Lib.hid (bur_end s F k l hbu hF hk)
        clear hbu hln
        go_wp2_with fail
        go_quiet ((go_at_call 15; exact qsame (frSumI_any _ _ (by first | exact hA.out | exact hBl.out))))
        go_wp2
        go_ret
        exact ⟨ret_bool (bur_bool s l hfin.out), below_drewN hbw _⟩

theorem sumI_empty : sumI (⟨#[]⟩ : ByteArray) = 0 := by unfold sumI; decide
theorem sumI_a : sumI ⟨#[97]⟩ = 3251651376 := by unfold sumI; decide

set_option maxHeartbeats 400000 in
theorem frameBursts_none (s0 s : ByteArray) (f p : Int) (w : World) (hs0 : s0.size ≤ maxLen) (hcut : cut2 s0 = s) (h0 : s.size = 0) :
    Calls Try.prog 3 #[.string s0, .int .i64 f, .int .u32 p] w fun e w' => e = .returned (.bool true) ∧ Below w.heap.size w w' := by
  obtain rfl : s = ByteArray.empty := by
    obtain ⟨⟨d⟩⟩ := s
    cases d with
    | nil => rfl
    | cons x d => simp [ByteArray.size] at h0
  obtain ⟨cap, w1, hcv, hb1, _⟩ := conv_bytes (P := Try.prog) w 9 23 5 ByteArray.empty Try.underlying9 Try.underlying23 Try.underlying5
  have hsh := Lib.hid (short2_any s0)
  rw [hcut] at hsh
  have hm0 := Lib.hid hs0
  clear hcut hs0 h0
  go_enter Try.func3, Try.ntmps3
  go_wp2_with fail
  refine (hsh.out _ hm0.out).mono ?_
  rintro e w' ⟨rfl, rfl⟩
  go_wp2_with fail
  refine (frSum_const _ _ 0 sumI_empty (by decide)).mono ?_
  rintro e w' ⟨rfl, rfl⟩
  go_wp2_with fail
  refine (frSum_const _ _ _ sumI_a (by decide)).mono ?_
  rintro e w' ⟨rfl, rfl⟩
  go_wp2
  go_ret
  exact ⟨rfl, hb1⟩

theorem frameBursts_walk (s : ByteArray) (f p : Int) (w : World) (hs : s.size ≤ maxLen) (hf : (Lit.int .i64 f).wf = true) (hp : (Lit.int .u32 p).wf = true) :
    Calls Try.prog 3 #[.string s, .int .i64 f, .int .u32 p] w fun e w' => e = .returned (.bool true) ∧ Below w.heap.size w w' := by
  have hf' : -9223372036854775808 ≤ f ∧ f ≤ 9223372036854775807 := by simpa [Lit.wf, IntKind.min, IntKind.max, IntKind.signed, IntKind.bits] using hf
  have hp' : 0 ≤ p ∧ p ≤ 4294967295 := by simpa [Lit.wf, IntKind.min, IntKind.max, IntKind.signed, IntKind.bits] using hp
  by_cases h0 : (cut2 s).size = 0
  · exact frameBursts_none s _ f p w hs rfl h0
  · exact frameBursts_main s _ f p w hs rfl (cut2_le s) (by omega) hf'.1 hf'.2 hp'.1 hp'.2
end Go.Proofs.Ytebpelfmllkpbaa
