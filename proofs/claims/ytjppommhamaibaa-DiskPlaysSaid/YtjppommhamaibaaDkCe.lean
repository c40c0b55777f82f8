/-
  The law's call: what the program's call makes. (Written by wip/mklcall.py.)
-/
import Derived.Test.YtjppommhamaibaaDkCd
import Derived.Test.YtjppommhamaibaaDkV
namespace Go.Proofs.Ytjppommhamaibaa
open Go.RowKit Go.BigFrame
set_option linter.unusedVariables false

theorem disk_no_string {w : World} {B : Nat} {r lf : Int} {a : Option Addr} {n c : Nat} {dn : Bool} (h : Four w B 24 (.int .i64 r) (.slice a n c) (.int .i64 lf) (.bool dn)) (off : Nat) (s : ByteArray) : w.cell? ⟨B, off, none⟩ ≠ some (.string s) := by
  match off with
  | 0 => rw [h.c0]; simp
  | 1 => rw [h.c1]; simp
  | 2 => rw [h.c2]; simp
  | 3 => rw [h.c3]; simp
  | k + 4 =>
    have h' : w.heap[B]? = some (.cells #[.int .i64 r, .slice a n c, .int .i64 lf, .bool dn] 24 (0, 0)) := h
    unfold World.cell?
    rw [h']
    simp
theorem DkAt.setDisk {w : World} {a a' : Option Addr} {n c n' c' B : Nat} {d : Dk} {r lf : Int} {dn : Bool} (h : DkAt w a n c d) (hb : Four w B 24 (.int .i64 r) (.slice a' n' c') (.int .i64 lf) (.bool dn)) (o : Nat) (u : Value) : DkAt (w.setCell ⟨B, o, none⟩ u) a n c d := by
  refine { h with sl := ⟨h.sl.1, ?_⟩ }
  rcases h.sl.2 with h0 | ⟨b, off, ha, hc⟩
  · exact .inl h0
  · by_cases he : d.files = []
    · exact .inl he
    · have hpos : 0 < d.files.length := List.length_pos_iff.2 he
      have hne : b ≠ B := fun e => by
        subst e
        have h1 := hc 0 hpos 0 (.string d.files[0].nm) rfl
        exact disk_no_string hb _ _ h1
      exact .inr ⟨b, off, ha, fun i hi j v hv => by rw [World.cell?_setCell_other w _ _ _ (fun e => hne (congrArg Addr.block e).symm)]; exact hc i hi j v hv⟩

theorem disk_end {w W : World} {a : Option Addr} {n c B : Nat} {d : Dk} {x : Int} (hB : Below w.heap.size w W) (hd : DkAt W a n c d) (ho : outBox W B) (hb : w.heap.size ≤ B) :
    RetDk w (d, x) (.returned (.tuple #[.agg #[.int .i64 d.room, .slice a n c, .int .i64 d.left, .bool d.down], .int .i64 x])) ((((W.setCell ⟨B, 0, none⟩ (.int .i64 d.room)).setCell ⟨B, 1, none⟩ (.slice a n c)).setCell ⟨B, 2, none⟩ (.int .i64 d.left)).setCell ⟨B, 3, none⟩ (.bool d.down)) := by
  refine ⟨a, n, c, rfl, ?_, four_sets hB hb _ _ _ _⟩
  have h0 := DkAt.setDisk hd ho 0 (.int .i64 d.room)
  have b0 := Four.set0 ho (.int .i64 d.room)
  have h1 := DkAt.setDisk h0 b0 1 (.slice a n c)
  have b1 := Four.set1 b0 (.slice a n c)
  have h2 := DkAt.setDisk h1 b1 2 (.int .i64 d.left)
  exact DkAt.setDisk h2 (Four.set2 b1 (.int .i64 d.left)) 3 (.bool d.down)
def lcV (what : Int) (nm more : ByteArray) (N : Int) : Value := .agg #[.int .i64 what, .string nm, .string more, .int .i64 N]
def lcW (w : World) (d : Dk) (a : Option Addr) (n c : Nat) (what : Int) (nm more : ByteArray) (N : Int) : World := ((w.alloc (.cells #[.int .i64 d.room, .slice a n c, .int .i64 d.left, .bool d.down] 24)).alloc (.cells #[.int .i64 what, .string nm, .string more, .int .i64 N] 44)).alloc (.cells #[.int .i64 0, .slice none 0 0, .int .i64 0, .bool false] 24)
theorem lc_size (w : World) (d : Dk) (a : Option Addr) (n c : Nat) (what : Int) (nm more : ByteArray) (N : Int) : (lcW w d a n c what nm more N).heap.size = w.heap.size + 3 := by unfold lcW; simp
theorem lc_below (w : World) (d : Dk) (a : Option Addr) (n c : Nat) (what : Int) (nm more : ByteArray) (N : Int) : Below w.heap.size w (lcW w d a n c what nm more N) := (((Below.refl _ w).alloc (Nat.le_refl _) _).alloc (by simp) _).alloc (by simp; omega) _
theorem lc_box (w : World) (d : Dk) (a : Option Addr) (n c : Nat) (what : Int) (nm more : ByteArray) (N : Int) : DkBox (lcW w d a n c what nm more N) w.heap.size d a n c := ((Four.new w 24 _ _ _ _).alloc _).alloc _
theorem lc_call (w : World) (d : Dk) (a : Option Addr) (n c : Nat) (what : Int) (nm more : ByteArray) (N : Int) : Four (lcW w d a n c what nm more N) (w.heap.size + 1) 44 (.int .i64 what) (.string nm) (.string more) (.int .i64 N) := by
  have h := Four.new (w.alloc (.cells #[.int .i64 d.room, .slice a n c, .int .i64 d.left, .bool d.down] 24)) 44 (.int .i64 what) (.string nm) (.string more) (.int .i64 N)
  rw [World.size_alloc] at h
  exact h.alloc _
theorem lc_out (w : World) (d : Dk) (a : Option Addr) (n c : Nat) (what : Int) (nm more : ByteArray) (N : Int) : outBox (lcW w d a n c what nm more N) (w.heap.size + 2) := by
  have h := Four.new ((w.alloc (.cells #[.int .i64 d.room, .slice a n c, .int .i64 d.left, .bool d.down] 24)).alloc (.cells #[.int .i64 what, .string nm, .string more, .int .i64 N] 44)) 24 (.int .i64 0) (.slice none 0 0) (.int .i64 0) (.bool false)
  rw [World.size_alloc, World.size_alloc] at h
  exact h
set_option maxRecDepth 100000 in
set_option maxHeartbeats 1000000 in
theorem lcall1 (a : Option Addr) (n c : Nat) (d : Dk) (nm more : ByteArray) (N : Int) (w : World) (h : DkAt w a n c d) (hs : nm.size ≤ maxLen) (hs2 : more.size ≤ 2097152) :
    Calls Try.prog 19 #[d.val a n c, lcV 1 nm more N] w (RetDk w (writeD d nm more)) := by
  have hs3 : more.size ≤ maxLen := by unfold maxLen; omega
  have HB0 := Lib.hid (lc_below w d a n c 1 nm more N)
  have HP0 := Lib.hid (lc_box w d a n c 1 nm more N)
  have HC0 := Lib.hid (lc_call w d a n c 1 nm more N)
  have HO0 := Lib.hid (lc_out w d a n c 1 nm more N)
  have hop := Lib.hid (fun (W : World) (hb : Below w.heap.size w W) => write_any a n c d nm more W (h.keep hb) hs (by unfold maxLen at *; omega))
  generalize writeD d nm more = r at *
  clear h
  unfold lcW at *
  unfold lcV
  obtain ⟨rm, l, lf, dn⟩ := d
  unfold Dk.val at *
  dsimp only at *
  go_enter Try.func19, Try.ntmps19
  go_wp2_with fail
  refine (hop.out _ HB0.out).mono ?_
  rintro e w1 ⟨a1, n1, c1, rfl, hd1, hb1⟩
  obtain ⟨⟨rm1, l1, lf1, dn1⟩, x1⟩ := r
  have HB1 := Lib.hid (below_then HB0.out hb1 HB0.out.size)
  have HO1 := Lib.hid (Four.keep HO0.out hb1)
  have HD1 := Lib.hid hd1
  clear hb1 hd1
  unfold Dk.val
  dsimp only
  have o := HO1.out
  have o0 := o.c0
  have o1 := o.c1
  have o2 := o.c2
  have o3 := o.c3
  have of0 := o.free 0
  have of1 := o.free 1
  have of2 := o.free 2
  have of3 := o.free 3
  clear o
  go_wp2_with fail
  refine bodyPost_ret (v := .tuple #[.agg #[.int .i64 rm1, .slice a1 n1 c1, .int .i64 lf1, .bool dn1], .int .i64 x1]) ?_ rfl ?_
  · rw [results_cell_tmp rfl]; go_simp
  · exact disk_end (d := ⟨rm1, l1, lf1, dn1⟩) HB1.out HD1.out HO1.out (by omega)
set_option maxRecDepth 100000 in
set_option maxHeartbeats 1000000 in
theorem lcall2 (a : Option Addr) (n c : Nat) (d : Dk) (nm more : ByteArray) (N : Int) (w : World) (h : DkAt w a n c d) (hs : nm.size ≤ maxLen) (hs2 : more.size ≤ 2097152) :
    Calls Try.prog 19 #[d.val a n c, lcV 2 nm more N] w (RetDk w (syncD d nm)) := by
  have hs3 : more.size ≤ maxLen := by unfold maxLen; omega
  have HB0 := Lib.hid (lc_below w d a n c 2 nm more N)
  have HP0 := Lib.hid (lc_box w d a n c 2 nm more N)
  have HC0 := Lib.hid (lc_call w d a n c 2 nm more N)
  have HO0 := Lib.hid (lc_out w d a n c 2 nm more N)
  have hop := Lib.hid (fun (W : World) (hb : Below w.heap.size w W) => sync_any a n c d nm W (h.keep hb) hs)
  generalize syncD d nm = r at *
  clear h
  unfold lcW at *
  unfold lcV
  obtain ⟨rm, l, lf, dn⟩ := d
  unfold Dk.val at *
  dsimp only at *
  go_enter Try.func19, Try.ntmps19
  go_wp2_with fail
  refine (hop.out _ HB0.out).mono ?_
  rintro e w1 ⟨a1, n1, c1, rfl, hd1, hb1⟩
  obtain ⟨⟨rm1, l1, lf1, dn1⟩, x1⟩ := r
  have HB1 := Lib.hid (below_then HB0.out hb1 HB0.out.size)
  have HO1 := Lib.hid (Four.keep HO0.out hb1)
  have HD1 := Lib.hid hd1
  clear hb1 hd1
  unfold Dk.val
  dsimp only
  have o := HO1.out
  have o0 := o.c0
  have o1 := o.c1
  have o2 := o.c2
  have o3 := o.c3
  have of0 := o.free 0
  have of1 := o.free 1
  have of2 := o.free 2
  have of3 := o.free 3
  clear o
  go_wp2_with fail
  refine bodyPost_ret (v := .tuple #[.agg #[.int .i64 rm1, .slice a1 n1 c1, .int .i64 lf1, .bool dn1], .int .i64 x1]) ?_ rfl ?_
  · rw [results_cell_tmp rfl]; go_simp
  · exact disk_end (d := ⟨rm1, l1, lf1, dn1⟩) HB1.out HD1.out HO1.out (by omega)
set_option maxRecDepth 100000 in
set_option maxHeartbeats 1000000 in
theorem lcall3 (a : Option Addr) (n c : Nat) (d : Dk) (nm more : ByteArray) (N : Int) (w : World) (h : DkAt w a n c d) (hs : nm.size ≤ maxLen) (hs2 : more.size ≤ 2097152) :
    Calls Try.prog 19 #[d.val a n c, lcV 3 nm more N] w (RetDk w (renameD d nm more)) := by
  have hs3 : more.size ≤ maxLen := by unfold maxLen; omega
  have HB0 := Lib.hid (lc_below w d a n c 3 nm more N)
  have HP0 := Lib.hid (lc_box w d a n c 3 nm more N)
  have HC0 := Lib.hid (lc_call w d a n c 3 nm more N)
  have HO0 := Lib.hid (lc_out w d a n c 3 nm more N)
  have hop := Lib.hid (fun (W : World) (hb : Below w.heap.size w W) => rename_any a n c d nm more W (h.keep hb) hs hs3)
  generalize renameD d nm more = r at *
  clear h
  unfold lcW at *
  unfold lcV
  obtain ⟨rm, l, lf, dn⟩ := d
  unfold Dk.val at *
  dsimp only at *
  go_enter Try.func19, Try.ntmps19
  go_wp2_with fail
  refine (hop.out _ HB0.out).mono ?_
  rintro e w1 ⟨a1, n1, c1, rfl, hd1, hb1⟩
  obtain ⟨⟨rm1, l1, lf1, dn1⟩, x1⟩ := r
  have HB1 := Lib.hid (below_then HB0.out hb1 HB0.out.size)
  have HO1 := Lib.hid (Four.keep HO0.out hb1)
  have HD1 := Lib.hid hd1
  clear hb1 hd1
  unfold Dk.val
  dsimp only
  have o := HO1.out
  have o0 := o.c0
  have o1 := o.c1
  have o2 := o.c2
  have o3 := o.c3
  have of0 := o.free 0
  have of1 := o.free 1
  have of2 := o.free 2
  have of3 := o.free 3
  clear o
  go_wp2_with fail
  refine bodyPost_ret (v := .tuple #[.agg #[.int .i64 rm1, .slice a1 n1 c1, .int .i64 lf1, .bool dn1], .int .i64 x1]) ?_ rfl ?_
  · rw [results_cell_tmp rfl]; go_simp
  · exact disk_end (d := ⟨rm1, l1, lf1, dn1⟩) HB1.out HD1.out HO1.out (by omega)
set_option maxRecDepth 100000 in
set_option maxHeartbeats 1000000 in
theorem lcall4 (a : Option Addr) (n c : Nat) (d : Dk) (nm more : ByteArray) (N : Int) (w : World) (h : DkAt w a n c d) (hs : nm.size ≤ maxLen) (hs2 : more.size ≤ 2097152) :
    Calls Try.prog 19 #[d.val a n c, lcV 4 nm more N] w (RetDk w (removeD d nm)) := by
  have hs3 : more.size ≤ maxLen := by unfold maxLen; omega
  have HB0 := Lib.hid (lc_below w d a n c 4 nm more N)
  have HP0 := Lib.hid (lc_box w d a n c 4 nm more N)
  have HC0 := Lib.hid (lc_call w d a n c 4 nm more N)
  have HO0 := Lib.hid (lc_out w d a n c 4 nm more N)
  have hop := Lib.hid (fun (W : World) (hb : Below w.heap.size w W) => remove_any a n c d nm W (h.keep hb) hs)
  generalize removeD d nm = r at *
  clear h
  unfold lcW at *
  unfold lcV
  obtain ⟨rm, l, lf, dn⟩ := d
  unfold Dk.val at *
  dsimp only at *
  go_enter Try.func19, Try.ntmps19
  go_wp2_with fail
  refine (hop.out _ HB0.out).mono ?_
  rintro e w1 ⟨a1, n1, c1, rfl, hd1, hb1⟩
  obtain ⟨⟨rm1, l1, lf1, dn1⟩, x1⟩ := r
  have HB1 := Lib.hid (below_then HB0.out hb1 HB0.out.size)
  have HO1 := Lib.hid (Four.keep HO0.out hb1)
  have HD1 := Lib.hid hd1
  clear hb1 hd1
  unfold Dk.val
  dsimp only
  have o := HO1.out
  have o0 := o.c0
  have o1 := o.c1
  have o2 := o.c2
  have o3 := o.c3
  have of0 := o.free 0
  have of1 := o.free 1
  have of2 := o.free 2
  have of3 := o.free 3
  clear o
  go_wp2_with fail
  refine bodyPost_ret (v := .tuple #[.agg #[.int .i64 rm1, .slice a1 n1 c1, .int .i64 lf1, .bool dn1], .int .i64 x1]) ?_ rfl ?_
  · rw [results_cell_tmp rfl]; go_simp
  · exact disk_end (d := ⟨rm1, l1, lf1, dn1⟩) HB1.out HD1.out HO1.out (by omega)
theorem lawCall_any (a : Option Addr) (n c : Nat) (d : Dk) (what : Int) (nm more : ByteArray) (N : Int) (w : World) (h : DkAt w a n c d) (hw : 1 ≤ what ∧ what ≤ 4) (hs : nm.size ≤ maxLen) (hs2 : more.size ≤ 2097152) :
    Calls Try.prog 19 #[d.val a n c, lcV what nm more N] w (RetDk w (callD d what nm more)) := by
  obtain rfl | rfl | rfl | rfl : what = 1 ∨ what = 2 ∨ what = 3 ∨ what = 4 := by omega
  · exact lcall1 a n c d nm more N w h hs hs2
  · exact lcall2 a n c d nm more N w h hs hs2
  · exact lcall3 a n c d nm more N w h hs hs2
  · exact lcall4 a n c d nm more N w h hs hs2
end Go.Proofs.Ytjppommhamaibaa
