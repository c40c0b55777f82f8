/-
  The walk of code.reader's value.
-/
import Derived.Test.YtdlnabjledhiiaaDoorCvP
import Derived.Test.YtdlnabjledhiiaaDoorFour
import Derived.Laws.ResultCell
namespace Go.Proofs.YtdlnabjledhiiaaDoor
open Go.RowKit
set_option linter.unusedVariables false

/-- What a reading of a value leaves. -/
def ValPost (r : Nat) (s : ByteArray) (w : World) (x : Rd) (e : Ending) (w' : World) : Prop :=
  ∃ cs : List Value, e = .returned (.tuple #[.agg cs.toArray, .bool x.ok]) ∧ V.At w' (fun b => w.heap.size ≤ b ∧ b < w'.heap.size) x.v cs ∧ RdAt w' r s (x.at_ : Int) (x.many : Int) x.bad ∧ w.grownBy w' (some r)

/-- A write to a new block is no write for who came before. -/
theorem grown_fresh {w w1 w2 : World} {row : Option Nat} {b : Nat} (h : w.grownBy w1 row) (k : w1.grownBy w2 (some b)) (hb : w.heap.size ≤ b) : w.grownBy w2 row :=
  ⟨k.os.trans h.os, k.tape.trans h.tape, k.output.trans h.output, Nat.le_trans h.size k.size, fun i hi hr => (k.block i (Nat.lt_of_lt_of_le hi h.size) (by simp; omega)).trans (h.block i hi hr)⟩
theorem zeroV_at (w : World) (S : Nat → Prop) : V.At w S zeroV [.int .i64 0, .int .i64 0, .string ⟨#[]⟩, .slice none 0 0] := by
  simp only [zeroV, V.At]
  exact ⟨none, 0, rfl, Nat.le_refl _, fun _ => rfl, by simp only [VAll]⟩

set_option maxRecDepth 20000 in
set_option maxHeartbeats 4000000 in
theorem value_end (r : Nat) (s : ByteArray) (k : Int) (a m : Nat) (w : World) (h : RdAt w r s a m 0) (hs : s.size ≤ 131072) (h1 : ¬ a < s.size) :
    Calls Tryd.prog 33 #[.pointer (some ⟨r, 0, none⟩), .int .i64 k] w (ValPost r s w (Rd.no a m 10)) := by
  have H := Lib.hid h
  have h2 := h.alloc (.cells #[.int .i64 0, .int .i64 0, .string ⟨#[]⟩, .slice none 0 0] 42)
  have c0 := h2.c0
  have c1 := h2.c1
  have hi : (s.size : Int) ≤ (a : Int) := by omega
  clear h h2
  go_enter Tryd.func33, Tryd.ntmps33
  go_wp2_with fail
  go_quiet (fail)
  go_wp2_with fail
  refine (fail_any r s a m 10 _ ((H.out.alloc _).drewN _)).mono ?_
  rintro e w1 ⟨rfl, hr1, hg1⟩
  have HF : Hid (Four w1 w.heap.size 42 (.int .i64 0) (.int .i64 0) (.string ⟨#[]⟩) (.slice none 0 0)) := Lib.hid (((Four.new w _ _ _ _ _).drewN _).kept hg1 (by have := H.out.lt; simp; omega))
  have HR := Lib.hid hr1
  have HG : Hid (w.grownBy w1 (some r)) := Lib.hid (grown_trans (World.grownBy_alloc w _ _) (grown_drew_l hg1))
  have b0 := HF.out.c0
  have b1 := HF.out.c1
  have b2 := HF.out.c2
  have b3 := HF.out.c3
  have g0 := HF.out.free 0
  have g1 := HF.out.free 1
  have g2 := HF.out.free 2
  have g3 := HF.out.free 3
  clear hr1 hg1
  go_wp2_with fail
  have HF2 := HF.out.all (.int .i64 0) (.int .i64 0) (.string ⟨#[]⟩) (.slice none 0 0)
  have hgf := grown_four w1 w.heap.size (.int .i64 0) (.int .i64 0) (.string ⟨#[]⟩) (.slice none 0 0)
  clear b0 b1 b2 b3 g0 g1 g2 g3
  generalize ((((w1.setCell ⟨w.heap.size, 0, none⟩ (.int .i64 0)).setCell ⟨w.heap.size, 1, none⟩ (.int .i64 0)).setCell ⟨w.heap.size, 2, none⟩ (.string ⟨#[]⟩)).setCell ⟨w.heap.size, 3, none⟩ (.slice none 0 0)) = w2 at *
  have e0 := HF2.c0
  have e1 := HF2.c1
  have e2 := HF2.c2
  have e3 := HF2.c3
  (try simp only [Exit.inBlock, Exit.then])
  refine bodyPost_ret (v := .tuple #[.agg #[.int .i64 0, .int .i64 0, .string ⟨#[]⟩, .slice none 0 0], .bool false]) ?_ rfl ?_
  · rw [results_cell_tmp rfl]; go_simp
  · exact ⟨_, rfl, zeroV_at _ _, HR.out.kept hgf (by have := H.out.lt; simp; omega), grown_fresh HG.out hgf (Nat.le_refl _)⟩
set_option maxRecDepth 20000 in
set_option maxHeartbeats 4000000 in
theorem value_byte (r : Nat) (s : ByteArray) (k : Int) (a m : Nat) (w : World) (h : RdAt w r s a m 0) (hs : s.size ≤ 131072) (h1 : a < s.size) (hb : begins s[a] = false) :
    Calls Tryd.prog 33 #[.pointer (some ⟨r, 0, none⟩), .int .i64 k] w (ValPost r s w (Rd.no a m 11)) := by
  have H := Lib.hid h
  have h2 := h.alloc (.cells #[.int .i64 0, .int .i64 0, .string ⟨#[]⟩, .slice none 0 0] 42)
  have c0 := h2.c0
  have c1 := h2.c1
  have hi : (a : Int) < (s.size : Int) := by omega
  unfold begins at hb
  simp only [Bool.or_eq_false_iff, Bool.and_eq_false_iff, decide_eq_false_iff_not, beq_eq_false_iff_ne] at hb
  obtain ⟨⟨hb1, hb2⟩, hb3⟩ := hb
  have q1 : ((s[a].toNat : Int) != 105) = true := by rw [bne_iff_ne]; intro e; exact hb1 (UInt8.toNat_inj.1 (by show s[a].toNat = 105; omega))
  have q2 : ((s[a].toNat : Int) != 108) = true := by rw [bne_iff_ne]; intro e; exact hb2 (UInt8.toNat_inj.1 (by show s[a].toNat = 108; omega))
  have q3 : (s[a].toNat : Int) < 48 ∨ ((48 : Int) ≤ (s[a].toNat : Int) ∧ (57 : Int) < (s[a].toNat : Int)) := by omega
  clear h h2 hb1 hb2 hb3
  rcases q3 with q3 | ⟨q3, q4⟩
  all_goals
    go_enter Tryd.func33, Tryd.ntmps33
    go_wp2_with fail
    go_quiet (fail)
    go_wp2_with fail
    go_quiet (fail)
    go_wp2_with fail
    refine (fail_any r s a m 11 _ ((H.out.alloc _).drewN _)).mono ?_
    rintro e w1 ⟨rfl, hr1, hg1⟩
    have HF : Hid (Four w1 w.heap.size 42 (.int .i64 0) (.int .i64 0) (.string ⟨#[]⟩) (.slice none 0 0)) := Lib.hid (((Four.new w _ _ _ _ _).drewN _).kept hg1 (by have := H.out.lt; simp; omega))
    have HR := Lib.hid hr1
    have HG : Hid (w.grownBy w1 (some r)) := Lib.hid (grown_trans (World.grownBy_alloc w _ _) (grown_drew_l hg1))
    have b0 := HF.out.c0
    have b1 := HF.out.c1
    have b2 := HF.out.c2
    have b3 := HF.out.c3
    have g0 := HF.out.free 0
    have g1 := HF.out.free 1
    have g2 := HF.out.free 2
    have g3 := HF.out.free 3
    clear hr1 hg1
    go_wp2_with fail
    have HF2 := HF.out.all (.int .i64 0) (.int .i64 0) (.string ⟨#[]⟩) (.slice none 0 0)
    have hgf := grown_four w1 w.heap.size (.int .i64 0) (.int .i64 0) (.string ⟨#[]⟩) (.slice none 0 0)
    clear b0 b1 b2 b3 g0 g1 g2 g3
    generalize ((((w1.setCell ⟨w.heap.size, 0, none⟩ (.int .i64 0)).setCell ⟨w.heap.size, 1, none⟩ (.int .i64 0)).setCell ⟨w.heap.size, 2, none⟩ (.string ⟨#[]⟩)).setCell ⟨w.heap.size, 3, none⟩ (.slice none 0 0)) = w2 at *
    have e0 := HF2.c0
    have e1 := HF2.c1
    have e2 := HF2.c2
    have e3 := HF2.c3
    (try simp only [Exit.inBlock, Exit.then])
    refine bodyPost_ret (v := .tuple #[.agg #[.int .i64 0, .int .i64 0, .string ⟨#[]⟩, .slice none 0 0], .bool false]) ?_ rfl ?_
    · rw [results_cell_tmp rfl]; go_simp
    · exact ⟨_, rfl, zeroV_at _ _, HR.out.kept hgf (by have := H.out.lt; simp; omega), grown_fresh HG.out hgf (Nat.le_refl _)⟩
theorem begins_ways {c : UInt8} (h : begins c = true) : (((c.toNat : Int) != 105) = false) ∨ (((c.toNat : Int) != 105) = true ∧ ((c.toNat : Int) != 108) = false) ∨ (((c.toNat : Int) != 105) = true ∧ ((c.toNat : Int) != 108) = true ∧ (48 : Int) ≤ (c.toNat : Int) ∧ (c.toNat : Int) ≤ 57) := by
  unfold begins at h
  simp only [Bool.or_eq_true, Bool.and_eq_true, decide_eq_true_eq, beq_iff_eq] at h
  rcases h with (rfl | rfl) | ⟨h1, h2⟩
  · exact .inl (by decide)
  · exact .inr (.inl ⟨by decide, by decide⟩)
  · exact .inr (.inr ⟨by rw [bne_iff_ne]; omega, by rw [bne_iff_ne]; omega, by omega, by omega⟩)
set_option maxRecDepth 20000 in
set_option maxHeartbeats 4000000 in
theorem value_deep (r : Nat) (s : ByteArray) (k : Int) (a m : Nat) (w : World) (h : RdAt w r s a m 0) (hs : s.size ≤ 131072) (h1 : a < s.size) (hb : begins s[a] = true) (hk : 30 ≤ k) :
    Calls Tryd.prog 33 #[.pointer (some ⟨r, 0, none⟩), .int .i64 k] w (ValPost r s w (Rd.no a m 12)) := by
  have H := Lib.hid h
  have h2 := h.alloc (.cells #[.int .i64 0, .int .i64 0, .string ⟨#[]⟩, .slice none 0 0] 42)
  have c0 := h2.c0
  have c1 := h2.c1
  have hi : (a : Int) < (s.size : Int) := by omega
  have q := begins_ways hb
  clear h h2 hb
  rcases q with q1 | ⟨q1, q2⟩ | ⟨q1, q2, q3, q4⟩
  all_goals
    go_enter Tryd.func33, Tryd.ntmps33
    go_wp2_with fail
    go_quiet (fail)
    go_wp2_with fail
    go_quiet (fail)
    go_wp2_with fail
    refine (fail_any r s a m 12 _ ((H.out.alloc _).drewN _)).mono ?_
    rintro e w1 ⟨rfl, hr1, hg1⟩
    have HF : Hid (Four w1 w.heap.size 42 (.int .i64 0) (.int .i64 0) (.string ⟨#[]⟩) (.slice none 0 0)) := Lib.hid (((Four.new w _ _ _ _ _).drewN _).kept hg1 (by have := H.out.lt; simp; omega))
    have HR := Lib.hid hr1
    have HG : Hid (w.grownBy w1 (some r)) := Lib.hid (grown_trans (World.grownBy_alloc w _ _) (grown_drew_l hg1))
    have b0 := HF.out.c0
    have b1 := HF.out.c1
    have b2 := HF.out.c2
    have b3 := HF.out.c3
    have g0 := HF.out.free 0
    have g1 := HF.out.free 1
    have g2 := HF.out.free 2
    have g3 := HF.out.free 3
    clear hr1 hg1
    go_wp2_with fail
    have HF2 := HF.out.all (.int .i64 0) (.int .i64 0) (.string ⟨#[]⟩) (.slice none 0 0)
    have hgf := grown_four w1 w.heap.size (.int .i64 0) (.int .i64 0) (.string ⟨#[]⟩) (.slice none 0 0)
    clear b0 b1 b2 b3 g0 g1 g2 g3
    generalize ((((w1.setCell ⟨w.heap.size, 0, none⟩ (.int .i64 0)).setCell ⟨w.heap.size, 1, none⟩ (.int .i64 0)).setCell ⟨w.heap.size, 2, none⟩ (.string ⟨#[]⟩)).setCell ⟨w.heap.size, 3, none⟩ (.slice none 0 0)) = w2 at *
    have e0 := HF2.c0
    have e1 := HF2.c1
    have e2 := HF2.c2
    have e3 := HF2.c3
    (try simp only [Exit.inBlock, Exit.then])
    refine bodyPost_ret (v := .tuple #[.agg #[.int .i64 0, .int .i64 0, .string ⟨#[]⟩, .slice none 0 0], .bool false]) ?_ rfl ?_
    · rw [results_cell_tmp rfl]; go_simp
    · exact ⟨_, rfl, zeroV_at _ _, HR.out.kept hgf (by have := H.out.lt; simp; omega), grown_fresh HG.out hgf (Nat.le_refl _)⟩
set_option maxRecDepth 20000 in
set_option maxHeartbeats 4000000 in
theorem value_long (r : Nat) (s : ByteArray) (k : Int) (a m : Nat) (w : World) (h : RdAt w r s a m 0) (hs : s.size ≤ 131072) (h1 : a < s.size) (hb : begins s[a] = true) (hk : k < 30) (hm : 4000 ≤ m) :
    Calls Tryd.prog 33 #[.pointer (some ⟨r, 0, none⟩), .int .i64 k] w (ValPost r s w (Rd.no a m 2)) := by
  have H := Lib.hid h
  have h2 := h.alloc (.cells #[.int .i64 0, .int .i64 0, .string ⟨#[]⟩, .slice none 0 0] 42)
  have c0 := h2.c0
  have c1 := h2.c1
  have c2 := h2.c2
  have hmi : (4000 : Int) ≤ (m : Int) := by omega
  have hi : (a : Int) < (s.size : Int) := by omega
  have q := begins_ways hb
  clear h h2 hb
  rcases q with q1 | ⟨q1, q2⟩ | ⟨q1, q2, q3, q4⟩
  all_goals
    go_enter Tryd.func33, Tryd.ntmps33
    go_wp2_with fail
    go_quiet (fail)
    go_wp2_with fail
    go_quiet (fail)
    go_wp2_with fail
    refine (fail_any r s a m 2 _ ((H.out.alloc _).drewN _)).mono ?_
    rintro e w1 ⟨rfl, hr1, hg1⟩
    have HF : Hid (Four w1 w.heap.size 42 (.int .i64 0) (.int .i64 0) (.string ⟨#[]⟩) (.slice none 0 0)) := Lib.hid (((Four.new w _ _ _ _ _).drewN _).kept hg1 (by have := H.out.lt; simp; omega))
    have HR := Lib.hid hr1
    have HG : Hid (w.grownBy w1 (some r)) := Lib.hid (grown_trans (World.grownBy_alloc w _ _) (grown_drew_l hg1))
    have b0 := HF.out.c0
    have b1 := HF.out.c1
    have b2 := HF.out.c2
    have b3 := HF.out.c3
    have g0 := HF.out.free 0
    have g1 := HF.out.free 1
    have g2 := HF.out.free 2
    have g3 := HF.out.free 3
    clear hr1 hg1
    go_wp2_with fail
    have HF2 := HF.out.all (.int .i64 0) (.int .i64 0) (.string ⟨#[]⟩) (.slice none 0 0)
    have hgf := grown_four w1 w.heap.size (.int .i64 0) (.int .i64 0) (.string ⟨#[]⟩) (.slice none 0 0)
    clear b0 b1 b2 b3 g0 g1 g2 g3
    generalize ((((w1.setCell ⟨w.heap.size, 0, none⟩ (.int .i64 0)).setCell ⟨w.heap.size, 1, none⟩ (.int .i64 0)).setCell ⟨w.heap.size, 2, none⟩ (.string ⟨#[]⟩)).setCell ⟨w.heap.size, 3, none⟩ (.slice none 0 0)) = w2 at *
    have e0 := HF2.c0
    have e1 := HF2.c1
    have e2 := HF2.c2
    have e3 := HF2.c3
    (try simp only [Exit.inBlock, Exit.then])
    refine bodyPost_ret (v := .tuple #[.agg #[.int .i64 0, .int .i64 0, .string ⟨#[]⟩, .slice none 0 0], .bool false]) ?_ rfl ?_
    · rw [results_cell_tmp rfl]; go_simp
    · exact ⟨_, rfl, zeroV_at _ _, HR.out.kept hgf (by have := H.out.lt; simp; omega), grown_fresh HG.out hgf (Nat.le_refl _)⟩
end Go.Proofs.YtdlnabjledhiiaaDoor
