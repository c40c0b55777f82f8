/-
  The reference's Call, first part: its boxes; what it says of a disk, a name that may not be, a disk without power.
-/
import Derived.Test.YtjppommhamaibaaDkRn
import Derived.Test.YtjppommhamaibaaDkWo
namespace Go.Proofs.Ytjppommhamaibaa
open Go.RowKit Go.BigFrame
set_option linter.unusedVariables false

theorem Three.kept {w w' : World} {b : Nat} {v0 v1 v2 : Value} (h : Three w b v0 v1 v2) {row : Option Nat} (hg : w.grownBy w' row) (hr : some b ≠ row) : Three w' b v0 v1 v2 := (hg.block b (lt_of_block h) hr).trans h
theorem Three.keep {w w' : World} {b : Nat} {v0 v1 v2 : Value} (h : Three w b v0 v1 v2) (hb : Below w.heap.size w w') : Three w' b v0 v1 v2 := (hb.block b (lt_of_block h)).trans h
theorem Three.alloc {w : World} {b : Nat} {v0 v1 v2 : Value} (h : Three w b v0 v1 v2) (o : Obj) : Three (w.alloc o) b v0 v1 v2 := (Below.heap_alloc w o b (lt_of_block h)).trans h
theorem Three.set1 {w : World} {b : Nat} {v0 v1 v2 : Value} (h : Three w b v0 v1 v2) (u : Value) : Three (w.setCell ⟨b, 1, none⟩ u) b v0 u v2 := by
  have h' : w.heap[b]? = _ := h
  show (w.setCell _ u).heap[b]? = _
  simp [World.setCell, Array.getElem?_modify, h']
theorem Three.set2 {w : World} {b : Nat} {v0 v1 v2 : Value} (h : Three w b v0 v1 v2) (u : Value) : Three (w.setCell ⟨b, 2, none⟩ u) b v0 v1 u := by
  have h' : w.heap[b]? = _ := h
  show (w.setCell _ u).heap[b]? = _
  simp [World.setCell, Array.getElem?_modify, h']
theorem Four.setT {w : World} {B F o : Nat} {t : TypeId} {v0 v1 v2 v3 : Value} (h : Four w B t v0 v1 v2 v3) (hne : B ≠ F) (u : Value) : Four (w.setCell ⟨F, o, none⟩ u) B t v0 v1 v2 v3 := h.kept (grown_setCell w F o u) (fun e => hne (Option.some.inj e))
theorem Three.setT {w : World} {B F o : Nat} {v0 v1 v2 : Value} (h : Three w B v0 v1 v2) (hne : B ≠ F) (u : Value) : Three (w.setCell ⟨F, o, none⟩ u) B v0 v1 v2 := h.kept (grown_setCell w F o u) (fun e => hne (Option.some.inj e))

theorem fileOf_nm (l : List Fl) (nm : ByteArray) : (fileOf l nm).nm = nm := by
  by_cases h : atL l nm < 0
  · rw [(atL_no h).2.1]
  · obtain ⟨k, hk, _, h2, h3⟩ := atL_lt h
    rw [h3]; exact h2
theorem fileOf_eta (l : List Fl) (nm : ByteArray) : ∃ x1 x2, fileOf l nm = ⟨nm, x1, x2⟩ := by
  have h := fileOf_nm l nm
  revert h
  generalize fileOf l nm = f
  obtain ⟨a, b, c⟩ := f
  intro h
  exact ⟨b, c, by rw [show a = nm from h]⟩
theorem fileOf_size (l : List Fl) (nm : ByteArray) : (fileOf l nm).sy.size + (fileOf l nm).ta.size ≤ szS l := by
  by_cases h : atL l nm < 0
  · rw [(atL_no h).2.1]; exact Nat.zero_le _
  · obtain ⟨k, hk, _, h2, h3⟩ := atL_lt h
    rw [h3]
    have := szS_split hk
    omega
/-- The three blocks that Call lays first. -/
def callW (w : World) (d : Dk) (a : Option Addr) (n c : Nat) : World := ((w.alloc (.cells #[.int .i64 d.room, .slice a n c, .int .i64 d.left, .bool d.down] 24)).alloc (.cells #[.int .i64 0, .slice none 0 0, .int .i64 0, .bool false] 24)).alloc (.cells #[.int .i64 0, .slice none 0 0, .int .i64 0, .bool false] 24)
theorem call_size (w : World) (d : Dk) (a : Option Addr) (n c : Nat) : (callW w d a n c).heap.size = w.heap.size + 3 := by unfold callW; simp
theorem call_below (w : World) (d : Dk) (a : Option Addr) (n c : Nat) : Below w.heap.size w (callW w d a n c) := (two_below w d a n c).alloc (two_below w d a n c).size _
theorem call_box (w : World) (d : Dk) (a : Option Addr) (n c : Nat) : DkBox (callW w d a n c) w.heap.size d a n c := (two_box w d a n c).alloc _
theorem call_out (w : World) (d : Dk) (a : Option Addr) (n c : Nat) : outBox (callW w d a n c) (w.heap.size + 1) := (two_out w d a n c).alloc _
theorem call_none (w : World) (d : Dk) (a : Option Addr) (n c : Nat) : outBox (callW w d a n c) (w.heap.size + 2) := by
  have h := Four.new (twoW w d a n c) 24 (.int .i64 0) (.slice none 0 0) (.int .i64 0) (.bool false)
  have hz : (twoW w d a n c).heap.size = w.heap.size + 2 := by unfold twoW; simp
  rw [hz] at h
  exact h
def callD (d : Dk) (what : Int) (nm more : ByteArray) : Dk × Int :=
  if what = 1 then writeD d nm more else if what = 2 then syncD d nm else if what = 3 then renameD d nm more else removeD d nm
theorem DkAt.relab {w : World} {a : Option Addr} {n c : Nat} {d : Dk} (h : DkAt w a n c d) (left : Int) (dn : Bool) (hl : -9223372036854775808 ≤ left ∧ left ≤ 9223372036854775807) : DkAt w a n c ⟨d.room, d.files, left, dn⟩ :=
  ⟨h.sl, h.nc, h.cm, h.cn, h.nb, h.small, h.rw, hl⟩
theorem call_end {w W : World} {a : Option Addr} {n c ob : Nat} {d : Dk} {r : Dk × Int} {x : Int} {u : Value} (hr : r = (d, x)) (hB : Below w.heap.size w W) (hd : DkAt W a n c d) (hx : ∀ p, a = some p → p.block ≠ w.heap.size + 1 ∧ p.block ≠ ob) (hob : w.heap.size ≤ ob) (u0 u1 u2 u3 : Value) :
    RetDk w r (.returned (.tuple #[.agg #[.int .i64 d.room, .slice a n c, .int .i64 d.left, .bool d.down], .int .i64 x])) (((((W.setCell ⟨ob, 1, none⟩ u).setCell ⟨w.heap.size + 1, 0, none⟩ u0).setCell ⟨w.heap.size + 1, 1, none⟩ u1).setCell ⟨w.heap.size + 1, 2, none⟩ u2).setCell ⟨w.heap.size + 1, 3, none⟩ u3) := by
  subst hr
  exact ⟨a, n, c, rfl, (hd.set (fun p hp => (hx p hp).2) u).sets (fun p hp => (hx p hp).1) _ _ _ _, four_sets (hB.setCell hob u) (by omega) _ _ _ _⟩
theorem call_end1 {w W : World} {a : Option Addr} {n c : Nat} {d : Dk} {r : Dk × Int} {x : Int} (hr : r = (d, x)) (hB : Below w.heap.size w W) (hd : DkAt W a n c d) (hx : ∀ p, a = some p → p.block ≠ w.heap.size + 1) (u0 u1 u2 u3 : Value) :
    RetDk w r (.returned (.tuple #[.agg #[.int .i64 d.room, .slice a n c, .int .i64 d.left, .bool d.down], .int .i64 x])) ((((W.setCell ⟨w.heap.size + 1, 0, none⟩ u0).setCell ⟨w.heap.size + 1, 1, none⟩ u1).setCell ⟨w.heap.size + 1, 2, none⟩ u2).setCell ⟨w.heap.size + 1, 3, none⟩ u3) := by
  subst hr
  exact ⟨a, n, c, rfl, hd.sets hx _ _ _ _, four_sets hB (by omega) _ _ _ _⟩
theorem call_end0 {w W : World} {a : Option Addr} {n c : Nat} {d : Dk} {r : Dk × Int} {x left : Int} {dn : Bool} (hr : r = (⟨d.room, d.files, left, dn⟩, x)) (hB : Below w.heap.size w W) (hd : DkAt w a n c d) (hl : -9223372036854775808 ≤ left ∧ left ≤ 9223372036854775807) (u0 u1 u2 u3 : Value) :
    RetDk w r (.returned (.tuple #[.agg #[.int .i64 d.room, .slice a n c, .int .i64 left, .bool dn], .int .i64 x])) ((((W.setCell ⟨w.heap.size + 1, 0, none⟩ u0).setCell ⟨w.heap.size + 1, 1, none⟩ u1).setCell ⟨w.heap.size + 1, 2, none⟩ u2).setCell ⟨w.heap.size + 1, 3, none⟩ u3) := by
  subst hr
  have hb := four_sets hB (b := w.heap.size + 1) (by omega) u0 u1 u2 u3
  exact ⟨a, n, c, rfl, (hd.keep hb).relab left dn hl, hb⟩
end Go.Proofs.Ytjppommhamaibaa
