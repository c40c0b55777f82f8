/-
  code.reader in memory, and the walks of its fail and must.
-/
import Derived.Test.YtdlnabjledhiiaaDoorSwLine
import Derived.Test.YtdlnabjledhiiaaDoorApp
namespace Go.Proofs.YtdlnabjledhiiaaDoor
open Go.RowKit
set_option linter.unusedVariables false

/-- Block r holds a reader: its text, its place, how many values it has read, its error. -/
structure RdAt (w : World) (r : Nat) (s : ByteArray) (a m b : Int) : Prop where
  lt : r < w.heap.size
  c0 : w.cell? ⟨r, 0, none⟩ = some (.string s)
  c1 : w.cell? ⟨r, 1, none⟩ = some (.int .i64 a)
  c2 : w.cell? ⟨r, 2, none⟩ = some (.int .i64 m)
  c3 : w.cell? ⟨r, 3, none⟩ = some (.int .i64 b)
  free : ∀ j, j < 4 → w.frozen? ⟨r, j, none⟩ = false
theorem RdAt.drewN {w : World} {r : Nat} {s : ByteArray} {a m b : Int} (h : RdAt w r s a m b) (n : Nat) : RdAt (w.drewN n) r s a m b := ⟨h.lt, h.c0, h.c1, h.c2, h.c3, h.free⟩
theorem RdAt.kept {w w' : World} {r : Nat} {s : ByteArray} {a m b : Int} (h : RdAt w r s a m b) {row : Option Nat} (hg : w.grownBy w' row) (hr : some r ≠ row) : RdAt w' r s a m b := by
  have hb := hg.block r h.lt hr
  exact ⟨Nat.lt_of_lt_of_le h.lt hg.size, hg.cell h.c0 hr, hg.cell h.c1 hr, hg.cell h.c2 hr, hg.cell h.c3 hr, fun j hj => by rw [World.frozen?_of_block (a := ⟨r, j, none⟩) hb]; exact h.free j hj⟩
theorem RdAt.alloc {w : World} {r : Nat} {s : ByteArray} {a m b : Int} (h : RdAt w r s a m b) (o : Obj) : RdAt (w.alloc o) r s a m b := h.kept (World.grownBy_alloc w o none) (by simp)
theorem addr_ne {r i j : Nat} (h : i ≠ j) : (⟨r, i, none⟩ : Addr) ≠ ⟨r, j, none⟩ := fun e => h (congrArg Addr.off e)
theorem RdAt.setAt {w : World} {r : Nat} {s : ByteArray} {a m b : Int} (h : RdAt w r s a m b) (a' : Int) : RdAt (w.setCell ⟨r, 1, none⟩ (.int .i64 a')) r s a' m b :=
  ⟨by simpa using h.lt, by rw [World.cell?_setCell_other w _ _ _ (addr_ne (by decide))]; exact h.c0, World.cell?_setCell_same w _ _ h.c1, by rw [World.cell?_setCell_other w _ _ _ (addr_ne (by decide))]; exact h.c2,
    by rw [World.cell?_setCell_other w _ _ _ (addr_ne (by decide))]; exact h.c3, fun j hj => by rw [World.frozen?_setCell]; exact h.free j hj⟩
theorem RdAt.setMany {w : World} {r : Nat} {s : ByteArray} {a m b : Int} (h : RdAt w r s a m b) (m' : Int) : RdAt (w.setCell ⟨r, 2, none⟩ (.int .i64 m')) r s a m' b :=
  ⟨by simpa using h.lt, by rw [World.cell?_setCell_other w _ _ _ (addr_ne (by decide))]; exact h.c0, by rw [World.cell?_setCell_other w _ _ _ (addr_ne (by decide))]; exact h.c1, World.cell?_setCell_same w _ _ h.c2,
    by rw [World.cell?_setCell_other w _ _ _ (addr_ne (by decide))]; exact h.c3, fun j hj => by rw [World.frozen?_setCell]; exact h.free j hj⟩
theorem RdAt.setBad {w : World} {r : Nat} {s : ByteArray} {a m b : Int} (h : RdAt w r s a m b) (b' : Int) : RdAt (w.setCell ⟨r, 3, none⟩ (.int .i64 b')) r s a m b' :=
  ⟨by simpa using h.lt, by rw [World.cell?_setCell_other w _ _ _ (addr_ne (by decide))]; exact h.c0, by rw [World.cell?_setCell_other w _ _ _ (addr_ne (by decide))]; exact h.c1, by rw [World.cell?_setCell_other w _ _ _ (addr_ne (by decide))]; exact h.c2,
    World.cell?_setCell_same w _ _ h.c3, fun j hj => by rw [World.frozen?_setCell]; exact h.free j hj⟩

set_option maxHeartbeats 1000000 in
theorem fail_any (r : Nat) (s : ByteArray) (a m x : Int) (w : World) (h : RdAt w r s a m 0) :
    Calls Tryd.prog 34 #[.pointer (some ⟨r, 0, none⟩), .int .i64 x] w fun e w' => e = .returned (.bool false) ∧ RdAt w' r s a m x ∧ w.grownBy w' (some r) := by
  have H := Lib.hid h
  have c3 := h.c3
  have f3 := h.free 3 (by decide)
  clear h
  go_enter Tryd.func34, Tryd.ntmps34
  go_wp2_with fail
  go_ret
  exact ⟨rfl, H.out.setBad x, grown_setCell _ _ _ _⟩

/-- 'must': the byte stands there, or what is wrong. -/
def mustL (s : ByteArray) (a : Nat) (c : UInt8) : Bool × Nat × Int :=
  if h : a < s.size then (if s[a] = c then (true, a + 1, 0) else (false, a, 11)) else (false, a, 10)
set_option maxHeartbeats 2000000 in
theorem must_any (r : Nat) (s : ByteArray) (a : Nat) (m : Int) (c : UInt8) (w : World) (h : RdAt w r s a m 0) (hs : s.size ≤ maxLen) (x : Bool × Nat × Int) (hx : Hid (x = mustL s a c)) :
    Calls Tryd.prog 50 #[.pointer (some ⟨r, 0, none⟩), .int .u8 (c.toNat : Int)] w fun e w' => e = .returned (.bool x.1) ∧ RdAt w' r s (x.2.1 : Int) m x.2.2 ∧ w.grownBy w' (some r) := by
  unfold maxLen at hs
  have H := Lib.hid h
  have c0 := h.c0
  have c1 := h.c1
  have f1 := h.free 1 (by decide)
  by_cases h1 : a < s.size
  · have hi : (a : Int) < (s.size : Int) := by omega
    by_cases h2 : s[a] = c
    · have hne : ((s[a].toNat : Int) != (c.toNat : Int)) = false := by rw [h2]; simp
      have HX : Hid (x = (true, a + 1, 0)) := Lib.hid (by rw [hx.out, mustL, dif_pos h1, if_pos h2])
      clear h h2 hx
      go_enter Tryd.func50, Tryd.ntmps50
      go_wp2_with fail
      go_quiet (fail)
      go_wp2_with fail
      go_quiet (fail)
      go_wp2_with fail
      go_ret
      rw [HX.out]
      exact ⟨rfl, by simpa using (H.out.drewN _).setAt _, grown_trans (grown_drewN (World.grownBy.refl _ _) _) (grown_setCell _ _ _ _)⟩
    · have hne : ((s[a].toNat : Int) != (c.toNat : Int)) = true := by
        rw [bne_iff_ne]
        intro e
        exact h2 (UInt8.toNat_inj.1 (by omega))
      have HX : Hid (x = (false, a, 11)) := Lib.hid (by rw [hx.out, mustL, dif_pos h1, if_neg h2])
      clear h h2 hx
      go_enter Tryd.func50, Tryd.ntmps50
      go_wp2_with fail
      go_quiet (fail)
      go_wp2_with fail
      go_quiet (fail)
      go_wp2_with fail
      refine (fail_any r s a m 11 _ (H.out.drewN _)).mono ?_
      rintro e w1 ⟨rfl, hr1, hg1⟩
      have HR := Lib.hid hr1
      have HG := Lib.hid hg1
      clear hr1 hg1
      go_wp2_with fail
      go_ret
      rw [HX.out]
      exact ⟨rfl, HR.out, ⟨HG.out.os, HG.out.tape, HG.out.output, HG.out.size, HG.out.block⟩⟩
  · have hi : (s.size : Int) ≤ (a : Int) := by omega
    have HX : Hid (x = (false, a, 10)) := Lib.hid (by rw [hx.out, mustL, dif_neg h1])
    clear h hx
    go_enter Tryd.func50, Tryd.ntmps50
    go_wp2_with fail
    go_quiet (fail)
    go_wp2_with fail
    refine (fail_any r s a m 10 _ (H.out.drewN _)).mono ?_
    rintro e w1 ⟨rfl, hr1, hg1⟩
    have HR := Lib.hid hr1
    have HG := Lib.hid hg1
    clear hr1 hg1
    go_wp2_with fail
    go_ret
    rw [HX.out]
    exact ⟨rfl, HR.out, ⟨HG.out.os, HG.out.tape, HG.out.output, HG.out.size, HG.out.block⟩⟩
end Go.Proofs.YtdlnabjledhiiaaDoor
