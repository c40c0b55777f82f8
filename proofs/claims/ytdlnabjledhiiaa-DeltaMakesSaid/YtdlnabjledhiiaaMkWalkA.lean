/-
  The walks of the law's short, and of delta.Make where no search of places is wanted: too long, empty, short, found as a whole; new blocks alone are made.
-/
import Derived.Test.YtdlnabjledhiiaaDlAppliesWalk
import Derived.Test.YtdlnabjledhiiaaOpsRow
import Derived.Test.YtdlnabjledhiiaaMkP
namespace Go.Proofs.Ytdlnabjledhiiaa
open Go.RowKit
set_option linter.unusedVariables false

def shortS (s : ByteArray) (n : Nat) : ByteArray := if n < s.size then strOf (s.data.toList.take n) else s
set_option maxHeartbeats 400000 in
theorem short_any (s : ByteArray) (n : Nat) (w : World) (hn : n ≤ 100000) (hs : s.size ≤ maxLen) (t : ByteArray) (ht : Hid (t = shortS s n)) :
    Calls Try.prog 23 #[.string s, .int .i64 (n : Int)] w fun e w' => e = .returned (.string t) ∧ w = w' := by
  unfold maxLen at hs
  by_cases h : n < s.size
  · have hi : (n : Int) < (s.size : Int) := by omega
    have hfin : Hid (t = s.extract 0 n) := Lib.hid (by rw [ht.out, shortS, if_pos h, extract_strOf]; simp)
    clear ht
    go_enter Try.func23, Try.ntmps23
    go_wp2
    go_ret
    exact ⟨by rw [hfin.out]; rfl, rfl⟩
  · have hi : (s.size : Int) ≤ (n : Int) := by omega
    have hfin : Hid (t = s) := Lib.hid (by rw [ht.out, shortS, if_neg h])
    clear ht
    go_enter Try.func23, Try.ntmps23
    go_wp2
    go_ret
    exact ⟨by rw [hfin.out]; rfl, rfl⟩

set_option maxRecDepth 100000 in
set_option maxHeartbeats 1000000 in
theorem make_long (old now : ByteArray) (w : World) (h : 131072 < old.size ∨ (old.size ≤ 131072 ∧ 131072 < now.size)) :
    Calls Try.prog 22 #[.string old, .string now] w fun e w' => e = .returned (.tuple #[.slice none 0 0, .int .i64 2]) ∧ w' = w := by
  rcases h with h | ⟨h, h'⟩
  · have h1 : (131072 : Int) < (old.size : Int) := by omega
    go_enter Try.func22, Try.ntmps22
    go_wp2_with fail
    go_ret2
    exact ⟨rfl, rfl⟩
  · have h1 : (old.size : Int) ≤ 131072 := by omega
    have h2 : (131072 : Int) < (now.size : Int) := by omega
    go_enter Try.func22, Try.ntmps22
    go_wp2_with fail
    go_ret2
    exact ⟨rfl, rfl⟩

/-- A good delta is handed back. -/
def MkPost (old now : ByteArray) (w : World) (e : Ending) (w' : World) : Prop :=
  ∃ a n c d, e = .returned (.tuple #[.slice a n c, .int .i64 0]) ∧ OpsSl w' a n d ∧ n ≤ c ∧ MkGood old.data.toList now.data.toList d ∧ Below w.heap.size w w'

theorem textOp_sl (w : World) (s : ByteArray) (t : TypeId) : OpsSl (w.alloc (.cells #[.int .i64 0, .int .i64 0, .string s] t)) (some ⟨w.heap.size, 0, none⟩) 1 [textOp s] :=
  ⟨rfl, .inr ⟨w.heap.size, 0, rfl, fun i hi => by
    have : i = 0 := by simp at hi; omega
    subst this
    exact ⟨cell_three0 w _ _ _ _, cell_three1 w _ _ _ _, cell_three2 w _ _ _ _⟩⟩⟩
theorem copyOp_sl (w : World) (p n : Nat) (t : TypeId) : OpsSl (w.alloc (.cells #[.int .i64 (p : Int), .int .i64 (n : Int), .string ⟨#[]⟩] t)) (some ⟨w.heap.size, 0, none⟩) 1 [copyOp p n] :=
  ⟨rfl, .inr ⟨w.heap.size, 0, rfl, fun i hi => by
    have : i = 0 := by simp at hi; omega
    subst this
    exact ⟨cell_three0 w _ _ _ _, cell_three1 w _ _ _ _, cell_three2 w _ _ _ _⟩⟩⟩

set_option maxRecDepth 100000 in
set_option maxHeartbeats 2000000 in
theorem make_none (old : ByteArray) (w : World) (h : old.size ≤ 131072) :
    Calls Try.prog 22 #[.string old, .string ⟨#[]⟩] w fun e w' => e = .returned (.tuple #[.slice none 0 0, .int .i64 0]) ∧ w' = w := by
  have h1 : (old.size : Int) ≤ 131072 := by omega
  go_enter Try.func22, Try.ntmps22
  go_wp2_with fail
  go_ret2
  exact ⟨rfl, rfl⟩

set_option maxRecDepth 100000 in
set_option maxHeartbeats 2000000 in
theorem make_short (old now : ByteArray) (w : World) (h : old.size ≤ 131072) (h0 : now.size ≠ 0) (h16 : now.size < 16) :
    Calls Try.prog 22 #[.string old, .string now] w (MkPost old now w) := by
  have h1 : (old.size : Int) ≤ 131072 := by omega
  have h2 : (now.size : Int) < 16 := by omega
  have e1 := isEmpty_no h0
  have e2 := eqNil_no h0
  have HG := Lib.hid (MkGood.whole old.data.toList now h0 (by omega))
  have HS := Lib.hid (textOp_sl w now 41)
  have HB := Lib.hid ((Below.refl _ w).alloc (Nat.le_refl _) (.cells #[.int .i64 0, .int .i64 0, .string now] 41))
  clear h0
  go_enter Try.func22, Try.ntmps22
  go_wp2_with fail
  go_ret2
  exact ⟨_, 1, 1, _, rfl, HS.out, Nat.le_refl _, HG.out, HB.out⟩

set_option maxRecDepth 100000 in
set_option maxHeartbeats 2000000 in
theorem make_found (old now : ByteArray) (m : Int) (w : World) (hm : w.cell? ⟨0, 0, none⟩ = some (.int .i64 m)) (h : old.size ≤ 131072) (hn : now.size ≤ 131072) (h16 : 16 ≤ now.size) (p : Nat) (hp : Lib.index old.data.toList now.data.toList = (p : Int)) :
    Calls Try.prog 22 #[.string old, .string now] w fun e w' => ∃ b, e = .returned (.tuple #[.slice (some ⟨b, 0, none⟩) 1 1, .int .i64 0]) ∧ OpsSl w' (some ⟨b, 0, none⟩) 1 [copyOp p now.size] ∧ MkGood old.data.toList now.data.toList [copyOp p now.size] ∧ Below w.heap.size w w' := by
  have h1 : (old.size : Int) ≤ 131072 := by omega
  have h2 : (now.size : Int) ≤ 131072 := by omega
  have h3 : (16 : Int) ≤ (now.size : Int) := by omega
  have h0 : now.size ≠ 0 := by omega
  have e1 := isEmpty_no h0
  have e2 := eqNil_no h0
  have hat := index_at _ _ p hp
  have hnl : now.data.toList.length = now.size := (size_len now).symm
  have hol : old.data.toList.length = old.size := (size_len old).symm
  have HG : Hid (MkGood old.data.toList now.data.toList [copyOp p now.size]) := Lib.hid (by
    have := MkGood.one old.data.toList now.data.toList p (by omega) (by omega) hat.1 (by omega) hat.2
    rw [hnl] at this; exact this)
  have hix := Lib.hid (fun W (hb : Below w.heap.size w W) => Try.strings_Index old now m W (by omega) (cell_keep hb hm))
  rw [hp] at hix
  have HB := Lib.hid ((Below.refl _ w).alloc (Nat.le_refl _) (.cells #[.int .i64 0, .int .i64 0, .string now] 41))
  have hpi : (0 : Int) ≤ (p : Int) := by omega
  have hcs := copyOp_sl (w.alloc (.cells #[.int .i64 0, .int .i64 0, .string now] 41)) p now.size 41
  rw [World.size_alloc] at hcs
  have HCS := Lib.hid hcs
  clear hcs
  clear h0 hat hnl hol hp hm
  go_enter Try.func22, Try.ntmps22
  go_wp2_with fail
  refine (hix.out _ HB.out).mono ?_
  rintro e w1 ⟨rfl, rfl⟩
  go_wp2_with fail
  go_ret2
  exact ⟨_, rfl, HCS.out, HG.out, HB.out.alloc (by have := HB.out.size; omega) _⟩
end Go.Proofs.Ytdlnabjledhiiaa
