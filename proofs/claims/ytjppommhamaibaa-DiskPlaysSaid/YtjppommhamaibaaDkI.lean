/-
  The walk of done: what it makes, told what the function values make; what is not theirs is kept.
-/
import Derived.Test.YtjppommhamaibaaDkH
import Derived.Shelf.Abstract
namespace Go.Proofs.Ytjppommhamaibaa
open Go.RowKit Go.BigFrame
set_option linter.unusedVariables false

/-- All that lay there is as it was, but for the blocks of S. -/
structure But (S : Nat → Prop) (w w' : World) : Prop where
  os : w'.os = w.os
  tape : w'.tape = w.tape
  output : w'.output = w.output
  size : w.heap.size ≤ w'.heap.size
  block : ∀ i, i < w.heap.size → ¬ S i → w'.heap[i]? = w.heap[i]?
theorem But.refl (S : Nat → Prop) (w : World) : But S w w := ⟨rfl, rfl, rfl, Nat.le_refl _, fun _ _ _ => rfl⟩
theorem But.trans {S : Nat → Prop} {a b c : World} (h : But S a b) (k : But S b c) : But S a c :=
  ⟨k.os.trans h.os, k.tape.trans h.tape, k.output.trans h.output, Nat.le_trans h.size k.size, fun i hi hs => (k.block i (Nat.lt_of_lt_of_le hi h.size) hs).trans (h.block i hi hs)⟩
theorem But.mono {S T : Nat → Prop} {a b : World} (h : But S a b) (k : ∀ i, i < a.heap.size → S i → T i) : But T a b :=
  ⟨h.os, h.tape, h.output, h.size, fun i hi ht => h.block i hi (fun hs => ht (k i hi hs))⟩
theorem But.ofBelow {S : Nat → Prop} {a b : World} (h : Below a.heap.size a b) : But S a b := ⟨h.os, h.tape, h.output, h.size, fun i hi _ => h.block i hi⟩
theorem But.ofGrown {a b : World} {row : Option Nat} (h : a.grownBy b row) : But (fun i => some i = row) a b := ⟨h.os, h.tape, h.output, h.size, fun i hi hs => h.block i hi hs⟩
theorem But.below {S : Nat → Prop} {a b : World} {B : Nat} (h : But S a b) (hB : ∀ i, S i → B ≤ i) (hs : B ≤ a.heap.size) : Below B a b :=
  ⟨h.os, h.tape, h.output, h.size, fun i hi => h.block i (by omega) (fun hs => by have := hB i hs; omega)⟩
theorem But.four {S : Nat → Prop} {a b : World} (h : But S a b) {B : Nat} {t : TypeId} {v0 v1 v2 v3 : Value} (hf : Four a B t v0 v1 v2 v3) (hs : ¬ S B) : Four b B t v0 v1 v2 v3 := (h.block B (lt_of_block hf) hs).trans hf
theorem But.one {S : Nat → Prop} {a b : World} (h : But S a b) {B : Nat} {t : TypeId} {v : Value} (hf : One a B t v) (hs : ¬ S B) : One b B t v := (h.block B (lt_of_block hf) hs).trans hf
theorem But.drewN {S : Nat → Prop} {a b : World} (h : But S a b) (n : Nat) : But S a (b.drewN n) := ⟨h.os, h.tape, h.output, h.size, h.block⟩
theorem But.setCell {S : Nat → Prop} {a b : World} (h : But S a b) (x : Addr) (hx : x.block < a.heap.size → S x.block) (v : Value) : But S a (b.setCell x v) :=
  ⟨h.os, h.tape, h.output, by simpa using h.size, fun i hi hs => (Below.heap_setCell b x v i (fun e => hs (by subst e; exact hx hi))).trans (h.block i hi hs)⟩
/-- What is asked of a function that makes files of files. -/
def FsFn (g : Nat) (cb : Array Value) (l l' : List Fl) (S : Nat → Prop) (W : World) : Prop :=
  ∀ (W' : World) (v : Value) (base : Nat), Below W.heap.size W W' → W.heap.size ≤ base → base ≤ W'.heap.size → W'.ownsRow base 32 3 v l.length (flE.cells l) →
    Calls Try.prog g (#[v] ++ cb) W' fun e w' => ∃ v', e = .returned v' ∧ w'.ownsRow base 32 3 v' l'.length (flE.cells l') ∧ But (fun i => S i ∨ base ≤ i) W' w'
def RetBut (S : Nat → Prop) (w : World) (r : Dk × Int) (e : Ending) (w' : World) : Prop := ∃ a n c, e = .returned (.tuple #[Dk.val r.1 a n c, .int .i64 r.2]) ∧ (But S w w' ∧ DkAt w' a n c r.1) ∧ ∀ x, a = some x → w.heap.size ≤ x.block

theorem But.after {S : Nat → Prop} {w w1 w3 : World} {base : Nat} (h : Below w.heap.size w w1) (k : But (fun i => S i ∨ base ≤ i) w1 w3) (hB : w.heap.size ≤ base) : But S w w3 :=
  ⟨k.os.trans h.os, k.tape.trans h.tape, k.output.trans h.output, Nat.le_trans h.size k.size, fun i hi hs => (k.block i (Nat.lt_of_lt_of_le hi h.size) (fun e => e.elim hs (fun e => by omega))).trans (h.block i hi)⟩
theorem set_box {S : Nat → Prop} {w w3 : World} {a3 : Option Addr} {n3 c3 b o : Nat} {d : Dk} (hx : ∀ p, a3 = some p → w.heap.size + 2 ≤ p.block) (hb : w.heap.size ≤ b) (hb2 : b < w.heap.size + 2) (v : Value) (h : But S w w3 ∧ DkAt w3 a3 n3 c3 d) :
    But S w (w3.setCell ⟨b, o, none⟩ v) ∧ DkAt (w3.setCell ⟨b, o, none⟩ v) a3 n3 c3 d :=
  ⟨h.1.setCell _ (fun e => absurd e (by simp; omega)) v, h.2.set (fun p hp he => by have := hx p hp; omega) v⟩

set_option maxHeartbeats 2000000 in
theorem done_cut (a : Option Addr) (n c : Nat) (d : Dk) (g1 g2 : Nat) (cb1 cb2 : Array Value) (fs : List Fl) (S : Nat → Prop) (w : World) (h : DkAt w a n c d) (hn : n ≤ 1000000)
    (hg : ∀ args w, (callFunc g2 args).run Try.prog w = .ok (.enter g2 args) w) (hf : FsFn g2 cb2 d.files fs S w) (hS : ∀ i, S i → i < w.heap.size) (hl : d.left = 0) (hr : rightD ⟨d.room, fs, 0, true⟩ = true) :
    Calls Try.prog 36 #[d.val a n c, .func (.func g1) #[] cb1, .func (.func g2) #[] cb2] w (RetBut S w (⟨d.room, fs, 0, true⟩, 132)) := by
  have HA := Lib.hid (two_below w d a n c)
  have HB := Lib.hid (two_box w d a n c)
  have HO := Lib.hid (two_out w d a n c)
  have HR := Lib.hid hr
  have HF := Lib.hid hf
  have HSS := Lib.hid hS
  have hlw := h.lw
  have hcl := Lib.hid (fun (W : World) (hb : Below w.heap.size w W) => clone_any a n c d.files W (h.sl.keep hb) hn h.cn)
  clear h hr hf hS
  have p1 : DkBox (twoW w d a n c) w.heap.size d a n c := HB.out
  have q0 := p1.c0; have q1 := p1.c1; have q2 := p1.c2; have q3 := p1.c3
  clear p1
  have hz : (twoW w d a n c).heap.size = w.heap.size + 2 := by unfold twoW; simp
  have HZ := Lib.hid hz
  clear hz
  unfold twoW at *
  obtain ⟨rm, l, lf, dn⟩ := d
  unfold Dk.val at *
  dsimp only at *
  subst hl
  go_enter Try.func36, Try.ntmps36
  go_wp2_with fail
  refine (hcl.out _ HA.out).mono ?_
  rintro e w1 ⟨v, rfl, ho⟩
  have o2 := Four.keep HO.out ho.2
  have p2 := Four.keep HB.out ho.2
  have HB2 := Lib.hid (below_then HA.out ho.2 HA.out.size)
  have HRO : Hid (w1.ownsRow (w.heap.size + 2) 32 3 v l.length (flE.cells l)) := Lib.hid (by have h1 := ho.1; rw [HZ.out] at h1; exact h1)
  have HSZ : Hid (w.heap.size + 2 ≤ w1.heap.size) := Lib.hid (by have h1 := ho.2.size; rw [HZ.out] at h1; exact h1)
  clear q0 q1 q2 q3
  have q0 := p2.c0; have q1 := p2.c1; have q2 := p2.c2; have q3 := p2.c3
  have f2 := p2.free 2
  have O2 := Lib.hid o2
  have P2 := Lib.hid p2
  clear ho o2 p2
  have HB3 := HB2
  have P3 := P2
  have O3 := O2
  have hcall := Lib.hid (HF.out w1 v (w.heap.size + 2) HB3.out (by omega) HSZ.out HRO.out)
  go_wp2_with fail
  refine hcall.out.mono ?_
  rintro e w3 ⟨v3, rfl, hrow, hbut⟩
  obtain ⟨a3, n3, c3, rfl⟩ : ∃ a3 n3 c3, v3 = .slice a3 n3 c3 := by
    obtain ⟨a, c, rfl, _⟩ := Enc.own_sl (E := flE) hrow
    exact ⟨_, _, _, rfl⟩
  obtain ⟨hd3, hx3⟩ := DkAt.row (d := ⟨rm, fs, 0, true⟩) hrow HR.out
  have p3 := hbut.four P3.out (by rintro (h | h); · have := HSS.out _ h; omega
                                  · omega)
  have o3 := hbut.four O3.out (by rintro (h | h); · have := HSS.out _ h; omega
                                  · omega)
  have HB4 := Lib.hid (But.after (S := S) HB3.out hbut (by omega))
  have HD3 := Lib.hid hd3
  have HX3 := Lib.hid hx3
  clear q0 q1 q2 q3 f2 hd3 hx3 hbut hrow
  have e0 := o3.c0; have e1 := o3.c1; have e2 := o3.c2; have e3 := o3.c3
  have g0 := o3.free 0; have g1 := o3.free 1; have g2 := o3.free 2; have g3 := o3.free 3
  have q0 := p3.c0; have q1 := p3.c1; have q2 := p3.c2; have q3 := p3.c3
  have f0 := p3.free 0; have f1 := p3.free 1; have f2 := p3.free 2; have f3 := p3.free 3
  clear o3 p3
  go_wp2_with fail
  refine bodyPost_ret (v := .tuple #[.agg #[.int .i64 rm, .slice a3 n3 c3, .int .i64 0, .bool true], .int .i64 132]) ?_ rfl ?_
  · rw [results_cell_tmp rfl]; go_simp
  · refine ⟨a3, n3, c3, rfl, ?_, fun p hp => by have := HX3.out p hp; omega⟩
    repeat (refine set_box HX3.out (by omega) (by omega) _ ?_)
    exact ⟨HB4.out, HD3.out⟩

set_option maxHeartbeats 2000000 in
theorem done_dec (a : Option Addr) (n c : Nat) (d : Dk) (g1 g2 : Nat) (cb1 cb2 : Array Value) (fs : List Fl) (S : Nat → Prop) (w : World) (h : DkAt w a n c d) (hn : n ≤ 1000000)
    (hg : ∀ args w, (callFunc g1 args).run Try.prog w = .ok (.enter g1 args) w) (hf : FsFn g1 cb1 d.files fs S w) (hS : ∀ i, S i → i < w.heap.size) (hl : 0 < d.left) (hr : rightD ⟨d.room, fs, d.left - 1, d.down⟩ = true) :
    Calls Try.prog 36 #[d.val a n c, .func (.func g1) #[] cb1, .func (.func g2) #[] cb2] w (RetBut S w (⟨d.room, fs, d.left - 1, d.down⟩, 0)) := by
  have HA := Lib.hid (two_below w d a n c)
  have HB := Lib.hid (two_box w d a n c)
  have HO := Lib.hid (two_out w d a n c)
  have HR := Lib.hid hr
  have HF := Lib.hid hf
  have HSS := Lib.hid hS
  have hlw := h.lw
  have hcl := Lib.hid (fun (W : World) (hb : Below w.heap.size w W) => clone_any a n c d.files W (h.sl.keep hb) hn h.cn)
  clear h hr hf hS
  have p1 : DkBox (twoW w d a n c) w.heap.size d a n c := HB.out
  have q0 := p1.c0; have q1 := p1.c1; have q2 := p1.c2; have q3 := p1.c3
  clear p1
  have hz : (twoW w d a n c).heap.size = w.heap.size + 2 := by unfold twoW; simp
  have HZ := Lib.hid hz
  clear hz
  unfold twoW at *
  obtain ⟨rm, l, lf, dn⟩ := d
  unfold Dk.val at *
  dsimp only at *
  have hne : (lf == 0) = false := beq_eq_false_iff_ne.2 (by omega)
  go_enter Try.func36, Try.ntmps36
  go_wp2_with fail
  refine (hcl.out _ HA.out).mono ?_
  rintro e w1 ⟨v, rfl, ho⟩
  have o2 := Four.keep HO.out ho.2
  have p2 := Four.keep HB.out ho.2
  have HB2 := Lib.hid (below_then HA.out ho.2 HA.out.size)
  have HRO : Hid (w1.ownsRow (w.heap.size + 2) 32 3 v l.length (flE.cells l)) := Lib.hid (by have h1 := ho.1; rw [HZ.out] at h1; exact h1)
  have HSZ : Hid (w.heap.size + 2 ≤ w1.heap.size) := Lib.hid (by have h1 := ho.2.size; rw [HZ.out] at h1; exact h1)
  clear q0 q1 q2 q3
  have q0 := p2.c0; have q1 := p2.c1; have q2 := p2.c2; have q3 := p2.c3
  have f2 := p2.free 2
  have O2 := Lib.hid o2
  have P2 := Lib.hid p2
  clear ho o2 p2
  have HB3 := Lib.hid (HB2.out.setCell (p := ⟨w.heap.size, 2, none⟩) (Nat.le_refl _) (.int .i64 (lf - 1)))
  have P3 := Lib.hid (Four.set2 P2.out (.int .i64 (lf - 1)))
  have O3 := Lib.hid (Four.kept O2.out (grown_setCell w1 w.heap.size 2 (.int .i64 (lf - 1))) (by simp))
  have hcall := Lib.hid (HF.out (w1.setCell ⟨w.heap.size, 2, none⟩ (.int .i64 (lf - 1))) v (w.heap.size + 2) HB3.out (by omega) (by simpa using HSZ.out) (HRO.out.kept (grown_setCell w1 w.heap.size 2 (.int .i64 (lf - 1))) (.inr fun e => by have := (HRO.out.lt _ e).1; omega)))
  go_wp2_with fail
  refine hcall.out.mono ?_
  rintro e w3 ⟨v3, rfl, hrow, hbut⟩
  obtain ⟨a3, n3, c3, rfl⟩ : ∃ a3 n3 c3, v3 = .slice a3 n3 c3 := by
    obtain ⟨a, c, rfl, _⟩ := Enc.own_sl (E := flE) hrow
    exact ⟨_, _, _, rfl⟩
  obtain ⟨hd3, hx3⟩ := DkAt.row (d := ⟨rm, fs, lf - 1, dn⟩) hrow HR.out
  have p3 := hbut.four P3.out (by rintro (h | h); · have := HSS.out _ h; omega
                                  · omega)
  have o3 := hbut.four O3.out (by rintro (h | h); · have := HSS.out _ h; omega
                                  · omega)
  have HB4 := Lib.hid (But.after (S := S) HB3.out hbut (by omega))
  have HD3 := Lib.hid hd3
  have HX3 := Lib.hid hx3
  clear q0 q1 q2 q3 f2 hd3 hx3 hbut hrow
  have e0 := o3.c0; have e1 := o3.c1; have e2 := o3.c2; have e3 := o3.c3
  have g0 := o3.free 0; have g1 := o3.free 1; have g2 := o3.free 2; have g3 := o3.free 3
  have q0 := p3.c0; have q1 := p3.c1; have q2 := p3.c2; have q3 := p3.c3
  have f0 := p3.free 0; have f1 := p3.free 1; have f2 := p3.free 2; have f3 := p3.free 3
  clear o3 p3
  go_wp2_with fail
  refine bodyPost_ret (v := .tuple #[.agg #[.int .i64 rm, .slice a3 n3 c3, .int .i64 (lf - 1), .bool dn], .int .i64 0]) ?_ rfl ?_
  · rw [results_cell_tmp rfl]; go_simp
  · refine ⟨a3, n3, c3, rfl, ?_, fun p hp => by have := HX3.out p hp; omega⟩
    repeat (refine set_box HX3.out (by omega) (by omega) _ ?_)
    exact ⟨HB4.out, HD3.out⟩

set_option maxHeartbeats 2000000 in
theorem done_now (a : Option Addr) (n c : Nat) (d : Dk) (g1 g2 : Nat) (cb1 cb2 : Array Value) (fs : List Fl) (S : Nat → Prop) (w : World) (h : DkAt w a n c d) (hn : n ≤ 1000000)
    (hg : ∀ args w, (callFunc g1 args).run Try.prog w = .ok (.enter g1 args) w) (hf : FsFn g1 cb1 d.files fs S w) (hS : ∀ i, S i → i < w.heap.size) (hl : d.left < 0) (hr : rightD ⟨d.room, fs, d.left, d.down⟩ = true) :
    Calls Try.prog 36 #[d.val a n c, .func (.func g1) #[] cb1, .func (.func g2) #[] cb2] w (RetBut S w (⟨d.room, fs, d.left, d.down⟩, 0)) := by
  have HA := Lib.hid (two_below w d a n c)
  have HB := Lib.hid (two_box w d a n c)
  have HO := Lib.hid (two_out w d a n c)
  have HR := Lib.hid hr
  have HF := Lib.hid hf
  have HSS := Lib.hid hS
  have hlw := h.lw
  have hcl := Lib.hid (fun (W : World) (hb : Below w.heap.size w W) => clone_any a n c d.files W (h.sl.keep hb) hn h.cn)
  clear h hr hf hS
  have p1 : DkBox (twoW w d a n c) w.heap.size d a n c := HB.out
  have q0 := p1.c0; have q1 := p1.c1; have q2 := p1.c2; have q3 := p1.c3
  clear p1
  have hz : (twoW w d a n c).heap.size = w.heap.size + 2 := by unfold twoW; simp
  have HZ := Lib.hid hz
  clear hz
  unfold twoW at *
  obtain ⟨rm, l, lf, dn⟩ := d
  unfold Dk.val at *
  dsimp only at *
  have hne : (lf == 0) = false := beq_eq_false_iff_ne.2 (by omega)
  go_enter Try.func36, Try.ntmps36
  go_wp2_with fail
  refine (hcl.out _ HA.out).mono ?_
  rintro e w1 ⟨v, rfl, ho⟩
  have o2 := Four.keep HO.out ho.2
  have p2 := Four.keep HB.out ho.2
  have HB2 := Lib.hid (below_then HA.out ho.2 HA.out.size)
  have HRO : Hid (w1.ownsRow (w.heap.size + 2) 32 3 v l.length (flE.cells l)) := Lib.hid (by have h1 := ho.1; rw [HZ.out] at h1; exact h1)
  have HSZ : Hid (w.heap.size + 2 ≤ w1.heap.size) := Lib.hid (by have h1 := ho.2.size; rw [HZ.out] at h1; exact h1)
  clear q0 q1 q2 q3
  have q0 := p2.c0; have q1 := p2.c1; have q2 := p2.c2; have q3 := p2.c3
  have f2 := p2.free 2
  have O2 := Lib.hid o2
  have P2 := Lib.hid p2
  clear ho o2 p2
  have HB3 := HB2
  have P3 := P2
  have O3 := O2
  have hcall := Lib.hid (HF.out w1 v (w.heap.size + 2) HB3.out (by omega) HSZ.out HRO.out)
  go_wp2_with fail
  refine hcall.out.mono ?_
  rintro e w3 ⟨v3, rfl, hrow, hbut⟩
  obtain ⟨a3, n3, c3, rfl⟩ : ∃ a3 n3 c3, v3 = .slice a3 n3 c3 := by
    obtain ⟨a, c, rfl, _⟩ := Enc.own_sl (E := flE) hrow
    exact ⟨_, _, _, rfl⟩
  obtain ⟨hd3, hx3⟩ := DkAt.row (d := ⟨rm, fs, lf, dn⟩) hrow HR.out
  have p3 := hbut.four P3.out (by rintro (h | h); · have := HSS.out _ h; omega
                                  · omega)
  have o3 := hbut.four O3.out (by rintro (h | h); · have := HSS.out _ h; omega
                                  · omega)
  have HB4 := Lib.hid (But.after (S := S) HB3.out hbut (by omega))
  have HD3 := Lib.hid hd3
  have HX3 := Lib.hid hx3
  clear q0 q1 q2 q3 f2 hd3 hx3 hbut hrow
  have e0 := o3.c0; have e1 := o3.c1; have e2 := o3.c2; have e3 := o3.c3
  have g0 := o3.free 0; have g1 := o3.free 1; have g2 := o3.free 2; have g3 := o3.free 3
  have q0 := p3.c0; have q1 := p3.c1; have q2 := p3.c2; have q3 := p3.c3
  have f0 := p3.free 0; have f1 := p3.free 1; have f2 := p3.free 2; have f3 := p3.free 3
  clear o3 p3
  go_wp2_with fail
  refine bodyPost_ret (v := .tuple #[.agg #[.int .i64 rm, .slice a3 n3 c3, .int .i64 lf, .bool dn], .int .i64 0]) ?_ rfl ?_
  · rw [results_cell_tmp rfl]; go_simp
  · refine ⟨a3, n3, c3, rfl, ?_, fun p hp => by have := HX3.out p hp; omega⟩
    repeat (refine set_box HX3.out (by omega) (by omega) _ ?_)
    exact ⟨HB4.out, HD3.out⟩

end Go.Proofs.Ytjppommhamaibaa
