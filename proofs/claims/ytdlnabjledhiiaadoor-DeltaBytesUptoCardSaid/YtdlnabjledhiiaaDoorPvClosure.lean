/-
  The walk of the closure of code.Put, by the kind of the value: a number, and a list; as long as what is written has at most 2^47 bytes.
  The walk of the closure of code.Put at a text; as long as what is written has at most 2^47 bytes. (Written by wip/mkput.py.)
-/
import Derived.Test.YtdlnabjledhiiaaDoorPvP
import Derived.Test.YtdlnabjledhiiaaDoorBuilder
import Derived.Test.YtdlnabjledhiiaaDoorShelf
import Derived.Test.YtdlnabjledhiiaaDoorFour
import Derived.Lib.AppendIntMem
import Derived.Lib.UnsafeStr
import Derived.RangeFuncBox
import Derived.Deep.DeepCutAuto
import Derived.Deep.CutBlock
import Derived.Test.YtdlnabjledhiiaaDoorRegs
namespace Go.Proofs.YtdlnabjledhiiaaDoor
open Go.RowKit
set_option linter.unusedVariables false

/-- The library's table of powers of ten reads so, whatever is done from the block B on. -/
abbrev Tab (B : Nat) (w : World) : Prop := Lib.TabBelow Tryd.prog B w "internal/strconv.uint64pow10" .u64 Lib.pow10Tab
abbrev putFn (b F : Nat) : Value := .func (.func 36) #[] #[.pointer (some ⟨b, 0, none⟩), .pointer (some ⟨F, 0, none⟩)]
/-- Where Put stands: the builder at b holds bs, the closure lies in its box at F. -/
structure PutIn (B b F : Nat) (bs : List UInt8) (w : World) : Prop where
  bd : Bd B b (Lib.byteCells bs) w
  fn : Boxed w F 62 (putFn b F)
  tab : Tab B w
  ne : F ≠ b
theorem Bd.le {B b : Nat} {bs : List Value} {w : World} (h : Bd B b bs w) : B ≤ b ∧ b < w.heap.size := by
  rcases h with h | h <;> exact ⟨h.1, h.lt⟩
theorem bdAtF_under {T e : TypeId} {B b : Nat} {p : Value} {bs : List Value} {w w' : World} (h : Lib.BuilderAtF T e B b p bs w) (hb : Below w.heap.size w w') : Lib.BuilderAtF T e B b p bs w' := by
  have hlt := h.lt
  obtain ⟨hB, v, hbk, hown, hne⟩ := h
  exact ⟨hB, v, (hb.block b hlt).trans hbk, hown.kept (row := none) ⟨hb.os, hb.tape, hb.output, hb.size, fun k hk _ => hb.block k hk⟩ (by cases hv : v.ownBlock <;> simp), hne⟩
theorem Bd.under {B b : Nat} {bs : List Value} {w w' : World} (h : Bd B b bs w) (hb : Below w.heap.size w w') : Bd B b bs w' := by
  rcases h with h | h
  · exact .inl (bdAtF_under h hb)
  · exact .inr (bdAtF_under h hb)
theorem Below.lower {A B : Nat} {w w' : World} (h : Below A w w') (hAB : B ≤ A) : Below B w w' := ⟨h.os, h.tape, h.output, h.size, fun i hi => h.block i (by omega)⟩
theorem PutIn.size {B b F : Nat} {bs : List UInt8} {w : World} (h : PutIn B b F bs w) : B ≤ w.heap.size := by have := h.bd.le; omega
theorem PutIn.under {B b F : Nat} {bs : List UInt8} {w w' : World} (h : PutIn B b F bs w) (hb : Below w.heap.size w w') : PutIn B b F bs w' :=
  ⟨h.bd.under hb, (hb.block F h.fn.lt).trans h.fn, h.tab.on (Below.lower hb h.size), h.ne⟩
theorem PutIn.alloc {B b F : Nat} {bs : List UInt8} {w : World} (h : PutIn B b F bs w) (o : Obj) : PutIn B b F bs (w.alloc o) := h.under ((Below.refl _ w).alloc (Nat.le_refl _) o)
theorem bdKept_cells {b k : Nat} {w w' : World} {cs : Array Value} {t : TypeId} {fz : Nat × Nat} (h : BdKept b w w') (hk : w.heap[k]? = some (.cells cs t fz)) (hne : k ≠ b) (ht : t ≠ 5) : w'.heap[k]? = some (.cells cs t fz) :=
  h k _ hk (fun e => hne (Option.some.inj e)) (fun c f e => by cases e; exact ht rfl)
theorem PutIn.wrote {B b F : Nat} {bs bs' : List UInt8} {w w' : World} (h : PutIn B b F bs w) (hd : Bd B b (Lib.byteCells bs') w') (hb : Below B w w') (hk : BdKept b w w') : PutIn B b F bs' w' :=
  ⟨hd, bdKept_cells hk h.fn h.ne (by decide), h.tab.on hb, h.ne⟩
theorem put_write (B b F : Nat) (bs : List UInt8) (s : ByteArray) (w : World) (h : PutIn B b F bs w) (hlen : bs.length + s.size ≤ 140737488355328) :
    Calls Tryd.prog 37 #[.pointer (some ⟨b, 0, none⟩), .string s] w fun e w' => e = .returned (.tuple #[.int .i64 s.size, .nilIface]) ∧ PutIn B b F (bs ++ s.data.toList) w' ∧ Below B w w' ∧ BdKept b w w' := by
  refine (bdWrite_any B b _ s w h.bd (by rw [Lib.byteCells_length]; exact hlen) h.size).mono ?_
  rintro e w' ⟨rfl, h1, h2, h3⟩
  rw [Lib.strCells_eq, ← Lib.byteCells_append] at h1
  exact ⟨rfl, h.wrote h1 h2 h3, h2, h3⟩
theorem put_byte (B b F : Nat) (bs : List UInt8) (c : UInt8) (i : Int) (hi : i = (c.toNat : Int)) (w : World) (h : PutIn B b F bs w) (hlen : bs.length + 1 ≤ 140737488355328) :
    Calls Tryd.prog 40 #[.pointer (some ⟨b, 0, none⟩), .int .u8 i] w fun e w' => e = .returned .nilIface ∧ PutIn B b F (bs ++ [c]) w' ∧ Below B w w' ∧ BdKept b w w' := by
  subst hi
  refine (bdByte_any B b _ _ w h.bd (by rw [Lib.byteCells_length]; exact hlen) h.size).mono ?_
  rintro e w' ⟨rfl, h1, h2, h3⟩
  rw [show [Value.int .u8 (c.toNat : Int)] = Lib.byteCells [c] from rfl, ← Lib.byteCells_append] at h1
  exact ⟨rfl, h.wrote h1 h2 h3, h2, h3⟩
theorem fmt_any (n : Int) (h0 : -9223372036854775808 ≤ n) (h1 : n ≤ 9223372036854775807) (B : Nat) (w : World) (h : Tab B w) :
    Calls Tryd.prog 38 #[.int .i64 n, .int .i64 10] w fun e w' => e = .returned (.string ⟨(Lib.itoa n).toArray⟩) ∧ Below w.heap.size w w' := by
  refine (Tryd.strconv_FormatInt_10 n h0 h1 w h.here).mono ?_
  rintro e w' ⟨rfl, k, os, rfl⟩
  exact ⟨rfl, Lib.below_grow _ _ (Nat.le_refl _) k os⟩
theorem itoa_any (n : Int) (h0 : -9223372036854775808 ≤ n) (h1 : n ≤ 9223372036854775807) (B : Nat) (w : World) (h : Tab B w) :
    Calls Tryd.prog 39 #[.int .i64 n] w fun e w' => e = .returned (.string ⟨(Lib.itoa n).toArray⟩) ∧ Below w.heap.size w w' := by
  refine (Tryd.strconv_Itoa n h0 h1 w h.here).mono ?_
  rintro e w' ⟨rfl, k, os, rfl⟩
  exact ⟨rfl, Lib.below_grow _ _ (Nat.le_refl _) k os⟩
/-- What the closure leaves. -/
def PutPost (B b F : Nat) (bs : List UInt8) (w : World) (e : Ending) (w' : World) : Prop := e = .returned (.tuple #[]) ∧ PutIn B b F bs w' ∧ Below B w w'

set_option maxRecDepth 20000 in
set_option maxHeartbeats 4000000 in
theorem put1_num (B b F : Nat) (bs : List UInt8) (n : Int) (s : ByteArray) (a : Option Addr) (l c : Nat) (w : World) (h : PutIn B b F bs w) (h0 : -9223372036854775808 ≤ n) (h1 : n ≤ 9223372036854775807) (hlen : bs.length + ((Lib.itoa n).length + 2) ≤ 140737488355328) :
    Calls Tryd.prog 36 #[.agg #[.int .i64 1, .int .i64 n, .string s, .slice a l c], .pointer (some ⟨b, 0, none⟩), .pointer (some ⟨F, 0, none⟩)] w (PutPost B b F (bs ++ 105 :: (Lib.itoa n ++ [101])) w) := by
  have HN := Lib.hid (Four.new w 42 (.int .i64 1) (.int .i64 n) (.string s) (.slice a l c))
  have n0 := HN.out.c0
  have n1 := HN.out.c1
  have H1 := Lib.hid (h.alloc (.cells #[.int .i64 1, .int .i64 n, .string s, .slice a l c] 42))
  have HB1 := Lib.hid ((Below.refl B w).alloc h.size (.cells #[.int .i64 1, .int .i64 n, .string s, .slice a l c] 42))
  clear h HN
  go_enter Tryd.func36, Tryd.ntmps36
  go_wp2_with fail
  refine (fmt_any n h0 h1 B _ H1.out.tab).mono ?_
  rintro e w2 ⟨rfl, hb2⟩
  have H2 := Lib.hid (H1.out.under hb2)
  have HB2 := Lib.hid (HB1.out.trans (Below.lower hb2 H1.out.size))
  clear H1 HB1 n0 n1 hb2
  go_wp2_with fail
  refine (put_write B b F bs _ w2 H2.out ?_).mono ?_
  · rw [show ((⟨#[105]⟩ : ByteArray) ++ ⟨(Lib.itoa n).toArray⟩ ++ ⟨#[101]⟩).size = 1 + (Lib.itoa n).length + 1 by rw [ByteArray.size_append, ByteArray.size_append]; rfl]; omega
  rintro e w3 ⟨rfl, h3, hb3, -⟩
  have H3 := Lib.hid h3
  have HB3 := Lib.hid (HB2.out.trans hb3)
  clear h3 hb3 H2 HB2
  go_wp2_with fail
  go_end0
  refine ⟨rfl, ?_, HB3.out⟩
  have := H3.out
  simpa using this

theorem putAll_len {l : List V} {i : Nat} (h : i < l.length) : (putAll (l.take i)).length + (putL l[i]).length ≤ (putAll l).length := by
  have e : putAll l = putAll (l.take (i + 1)) ++ putAll (l.drop (i + 1)) := by
    conv => lhs; rw [← List.take_append_drop (i + 1) l]
    generalize l.take (i + 1) = p
    induction p with
    | nil => simp [putAll]
    | cons x r ih => simp [putAll, ih]
  rw [e, putAll_take h, List.length_append, List.length_append]
  omega

set_option maxRecDepth 20000 in
set_option maxHeartbeats 4000000 in
theorem put1_list (B b F : Nat) (bs : List UInt8) (k n : Int) (s : ByteArray) (a : Option Addr) (c : Nat) (l : List V) (w : World) (h : PutIn B b F bs w) (hk1 : k ≠ 1) (hk2 : k ≠ 2)
    (S : Nat → Prop) (hS : Hid (∀ p, S p → p < B)) (hcm : l.length ≤ 4611686018427387904) (hc : l.length ≤ c) (hall : Hid (VAll w S a 0 l)) (hlen : bs.length + ((putAll l).length + 2) ≤ 140737488355328)
    (IH : Hid (∀ y ∈ l, ∀ (cs : List Value) (bs : List UInt8) (w : World), PutIn B b F bs w → V.At w S y cs → bs.length + (putL y).length ≤ 140737488355328 →
      Calls Tryd.prog 36 #[.agg cs.toArray, .pointer (some ⟨b, 0, none⟩), .pointer (some ⟨F, 0, none⟩)] w (PutPost B b F (bs ++ putL y) w))) :
    Calls Tryd.prog 36 #[.agg #[.int .i64 k, .int .i64 n, .string s, .slice a l.length c], .pointer (some ⟨b, 0, none⟩), .pointer (some ⟨F, 0, none⟩)] w (PutPost B b F (bs ++ 108 :: (putAll l ++ [101])) w) := by
  have p1 : (k == 1) = false := by simpa using hk1
  have p2 : (k == 2) = false := by simpa using hk2
  have HN := Lib.hid (Four.new w 42 (.int .i64 k) (.int .i64 n) (.string s) (.slice a l.length c))
  have n0 := HN.out.c0
  have H1 := Lib.hid (h.alloc (.cells #[.int .i64 k, .int .i64 n, .string s, .slice a l.length c] 42))
  have HB1 := Lib.hid ((Below.refl B w).alloc h.size (.cells #[.int .i64 k, .int .i64 n, .string s, .slice a l.length c] 42))
  have hbw := h.bd.le
  clear h hk1 hk2
  go_enter Tryd.func36, Tryd.ntmps36
  go_wp2_with fail
  refine (put_byte B b F bs 108 108 rfl _ H1.out (by omega)).mono ?_
  rintro e w2 ⟨rfl, h2, hb2, hk2⟩
  have HN2 : Hid (Four w2 w.heap.size 42 (.int .i64 k) (.int .i64 n) (.string s) (.slice a l.length c)) := Lib.hid (bdKept_cells hk2 HN.out (by omega) (by decide))
  have H2 := Lib.hid h2
  have HB2 := Lib.hid (HB1.out.trans hb2)
  clear h2 hb2 hk2 H1 HB1 HN n0
  have n3 := HN2.out.c3
  go_wp2_with fail
  go_loopg [12] l.length (fun gk v wr => ∃ (i : Nat), i ≤ l.length ∧ gk = l.length - i ∧ v = .int .i64 (i : Int) ∧ Hid (PutIn B b F (bs ++ 108 :: putAll (l.take i)) wr) ∧ Hid (Below B w wr))
  case atStart => exact ⟨0, Nat.zero_le _, rfl, rfl, by simpa [putAll] using H2, HB2⟩
  case round =>
    obtain ⟨i, hi, rfl, rfl, hR, hW⟩ := hrel
    clear n3
    by_cases hlt : i < l.length
    · have hlti : (i : Int) < (l.length : Int) := by omega
      obtain ⟨b1, o, cs, rfl, hb, hat, hcell⟩ := VAll.at 0 l hall.out i hlt
      have hih := IH.out l[i] (List.getElem_mem hlt)
      have hpl := putAll_len hlt
      have hpt := putAll_take hlt
      have hat2 := hat
      generalize l[i] = y at *
      obtain ⟨yk, yn, ys, yl⟩ := y
      simp only [V.At] at hat
      obtain ⟨ya, yc, rfl, -, -, -⟩ := hat
      have hcell2 : ∀ j u, [Value.int .i64 yk, .int .i64 yn, .string ys, .slice ya yl.length yc][j]? = some u → wr.cell? ⟨b1, o + i * 4 + j, none⟩ = some u := fun j u hj => by
        have := hcell j u hj
        rw [Nat.zero_add] at this
        exact (World.cell?_of_block (hW.out.block b1 (hS.out b1 hb))).trans this
      have e0 := hcell2 0 _ rfl
      have e1 := hcell2 1 _ rfl
      have e2 := hcell2 2 _ rfl
      have e3 := hcell2 3 _ rfl
      rw [Nat.add_zero] at e0
      have HN3 := Lib.hid (Four.new wr 42 (.int .i64 yk) (.int .i64 yn) (.string ys) (.slice ya yl.length yc))
      have HR3 := Lib.hid (hR.out.alloc (.cells #[.int .i64 yk, .int .i64 yn, .string ys, .slice ya yl.length yc] 42))
      have HW3 := Lib.hid (hW.out.alloc hR.out.size (.cells #[.int .i64 yk, .int .i64 yn, .string ys, .slice ya yl.length yc] 42))
      have HAT := Lib.hid (V.At.move (fun _ hp => hp) (fun p hp => HW3.out.block p (hS.out p hp)) _ _ hat2)
      have f0 := HR3.out.fn.cell
      have n0 := HN3.out.c0
      have n1 := HN3.out.c1
      have n2 := HN3.out.c2
      have n3 := HN3.out.c3
      have HIH := Lib.hid hih
      have HPL := Lib.hid hpl
      have HPT := Lib.hid hpt
      clear hih hat2 hpl hpt hcell hcell2
      go_wp2_with fail
      refine (HIH.out _ _ _ HR3.out HAT.out (by have := HPL.out; simp; omega)).mono ?_
      rintro e w4 ⟨rfl, hr4, hw4⟩
      have HR4 := Lib.hid hr4
      have HW4 := Lib.hid (HW3.out.trans hw4)
      clear hr4 hw4 e0 e1 e2 e3 f0 n0 n1 n2 n3
      go_wp2_with fail
      go_roundg (l.length - (i + 1))
      case rel => exact ⟨i + 1, hlt, rfl, by go_num, by rw [HPT.out]; simpa using HR4, HW4⟩
      case measure => omega
    · obtain rfl : i = l.length := by omega
      rw [List.take_length] at hR
      go_wp2_with fail
      refine (put_byte B b F _ 101 101 rfl _ hR.out (by simp; omega)).mono ?_
      rintro e w3 ⟨rfl, h3, hb3, -⟩
      have H3 := Lib.hid h3
      have HB3 := Lib.hid (hW.out.trans hb3)
      clear h3 hb3
      go_wp2_with fail
      go_end0
      exact ⟨rfl, by simpa using H3.out, HB3.out⟩
end Go.Proofs.YtdlnabjledhiiaaDoor

namespace Go.Proofs.YtdlnabjledhiiaaDoor
open Go.RowKit
set_option linter.unusedVariables false

/-- What each operation of the region yields. -/
def ptextT (B B0 b : Nat) (s : ByteArray) (w1 : World) : Nat → Value → World → Prop
  | 0, v, w => v = .pointer (some ⟨B0, 2, none⟩)
  | 1, v, w => v = .string s
  | 2, v, w => v = .int .i64 (s.size : Int)
  | 3, v, w => v = .string ⟨(Lib.itoa (s.size : Int)).toArray⟩
  | 4, v, w => v = .string ((⟨(Lib.itoa (s.size : Int)).toArray⟩ : ByteArray) ++ (⟨#[58]⟩ : ByteArray))
  | 5, v, w => v = .pointer (some ⟨B0, 2, none⟩)
  | 6, v, w => v = .string s
  | 7, v, w => v = .string ((⟨(Lib.itoa (s.size : Int)).toArray⟩ : ByteArray) ++ (⟨#[58]⟩ : ByteArray) ++ s)
  | _, _, _ => True
def ptextD : Nat → List Nat
  | _ => []
theorem ptext_keep (B B0 b : Nat) (s : ByteArray) (w1 : World) : ∀ (j : Nat) (u : Value) (w w' : World), Below w.heap.size w w' → (ptextT B B0 b s w1) j u w → (ptextT B B0 b s w1) j u w'
  | 0, u, w, w', hb, h => h
  | 1, u, w, w', hb, h => h
  | 2, u, w, w', hb, h => h
  | 3, u, w, w', hb, h => h
  | 4, u, w, w', hb, h => h
  | 5, u, w, w', hb, h => h
  | 6, u, w, w', hb, h => h
  | 7, u, w, w', hb, h => h
  | _ + 8, u, w, w', hb, h => trivial
theorem ptext_free (B B0 b : Nat) (s : ByteArray) (w1 : World) : ∀ (j : Nat) (u : Value) (w w' : World), [].contains j = false → (ptextT B B0 b s w1) j u w → (ptextT B B0 b s w1) j u w'
  | 0, u, w, w', hb, h => h
  | 1, u, w, w', hb, h => h
  | 2, u, w, w', hb, h => h
  | 3, u, w, w', hb, h => h
  | 4, u, w, w', hb, h => h
  | 5, u, w, w', hb, h => h
  | 6, u, w, w', hb, h => h
  | 7, u, w, w', hb, h => h
  | _ + 8, u, w, w', hb, h => trivial
set_option maxHeartbeats 4000000 in
theorem ptext_steps (B B0 b : Nat) (s : ByteArray) (w1 : World) (hcell : w1.cell? ⟨B0, 2, none⟩ = some (.string s)) (h0 : B0 < w1.heap.size) (htab : Tab B w1) (hB : B ≤ w1.heap.size) (hil : (Lib.itoa (s.size : Int)).length + (s.size + 1) ≤ 140737488355328) {a : Act} (hs : a.tmps.size = 40) (b3 : a.eval (.tmp 3) = .pointer (some ⟨B0, 0, none⟩)) (b1 : a.eval (.tmp 1) = .pointer (some ⟨b, 0, none⟩)) : ∀ i o, i < 8 → (regOf Tryd.f36 12)[i]? = some o → StepOk Tryd.prog (regOf Tryd.f36 12) a (fun w => Below w1.heap.size w1 w) (ptextT B B0 b s w1) ptextD i o := by
  have hz : ∀ t, Nat.blt t 40 = true → Nat.blt t a.tmps.size = true := fun t h => by rw [hs]; exact h
  have hsz : (regOf Tryd.f36 12).size = 9 := by kernel_rfl
  intro i o hii ho
  match i, hii with
  | 0, _ =>
    have ho1 := opIs ho (p := .fieldAddr 42 (.tmp 3) 2) (by kernel_rfl)
    have hg := guardIs ho (p := none) (by kernel_rfl)
    intro e A w hA hC hp K hk
    have x3 : A.eval (.tmp 3) = .pointer (some ⟨B0, 0, none⟩) := filled_base hA (by kernel_rfl) b3
    have hw : Region.wanted o (yielded (regOf Tryd.f36 12) A.tmps) = true := wanted_free hg
    refine step_pure (v := .pointer (some ⟨B0, 2, none⟩)) hk hC hw ?_ rfl
    unfold execOp
    simp only [ho1]
    generalize A.eval = ρ at x3 ⊢
    simp [go_sem, x3]
  | 1, _ =>
    have ho1 := opIs ho (p := .load 9 (.tmp 31)) (by kernel_rfl)
    have hg := guardIs ho (p := none) (by kernel_rfl)
    intro e A w hA hC hp K hk
    have x31 : A.eval (.tmp 31) = .pointer (some ⟨B0, 2, none⟩) := op_tmp hA hp 31 0 (by kernel_rfl) (by kernel_rfl) (by kernel_rfl) (hz _ rfl)
    have hw : Region.wanted o (yielded (regOf Tryd.f36 12) A.tmps) = true := wanted_free hg
    refine step_pure (v := .string s) hk hC hw ?_ rfl
    unfold execOp
    simp only [ho1]
    have e1 : w.cell? ⟨B0, 2, none⟩ = some (.string s) := (World.cell?_of_block (hC.block _ h0)).trans hcell
    generalize A.eval = ρ at x31 ⊢
    simp [go_sem, x31, e1]
  | 2, _ =>
    have ho1 := opIs ho (p := .call { callee := (.builtin .len), args := #[(.tmp 32)], argTypes := #[9] }) (by kernel_rfl)
    have hg := guardIs ho (p := none) (by kernel_rfl)
    intro e A w hA hC hp K hk
    have x32 : A.eval (.tmp 32) = .string s := op_tmp hA hp 32 1 (by kernel_rfl) (by kernel_rfl) (by kernel_rfl) (hz _ rfl)
    have hw : Region.wanted o (yielded (regOf Tryd.f36 12) A.tmps) = true := wanted_free hg
    refine step_pure (v := .int .i64 (s.size : Int)) hk hC hw ?_ rfl
    unfold execOp
    simp only [ho1]
    generalize A.eval = ρ at x32 ⊢
    simp [go_sem, x32]
  | 3, _ =>
    have ho1 := opIs ho (p := .call { callee := (.value (.func 39)), args := #[(.tmp 33)], argTypes := #[3] }) (by kernel_rfl)
    have hg := guardIs ho (p := none) (by kernel_rfl)
    intro e A w hA hC hp K hk
    have x33 : A.eval (.tmp 33) = .int .i64 (s.size : Int) := op_tmp hA hp 33 2 (by kernel_rfl) (by kernel_rfl) (by kernel_rfl) (hz _ rfl)
    have hw : Region.wanted o (yielded (regOf Tryd.f36 12) A.tmps) = true := wanted_free hg
    refine step_call (f := 39) (args := #[.int .i64 (s.size : Int)]) hk hw ?_ ?_
    · unfold execOp
      simp only [ho1]
      have xf : ∀ f, A.eval (.func f) = .func (.func f) #[] #[] := fun _ => rfl
      generalize A.eval = ρ at x33 xf ⊢
      simp [go_sem, xf, x33]
    · refine (itoa_any _ (by omega) (by omega) B _ (htab.on (Below.lower hC hB))).mono ?_
      rintro en w' ⟨rfl, hb'⟩
      exact ⟨_, rfl, rfl, hC.trans (Below.lower hb' hC.size), fun j u _ _ _ _ h => ptext_keep B B0 b s w1 j u w _ hb' h⟩
  | 4, _ =>
    have ho1 := opIs ho (p := .binOp .add 9 (.tmp 34) (.const (.string ⟨#[58]⟩)) 9) (by kernel_rfl)
    have hg := guardIs ho (p := none) (by kernel_rfl)
    intro e A w hA hC hp K hk
    have x34 : A.eval (.tmp 34) = .string ⟨(Lib.itoa (s.size : Int)).toArray⟩ := op_tmp hA hp 34 3 (by kernel_rfl) (by kernel_rfl) (by kernel_rfl) (hz _ rfl)
    have hw : Region.wanted o (yielded (regOf Tryd.f36 12) A.tmps) = true := wanted_free hg
    refine step_pure (v := .string ((⟨(Lib.itoa (s.size : Int)).toArray⟩ : ByteArray) ++ (⟨#[58]⟩ : ByteArray))) hk hC hw ?_ rfl
    unfold execOp
    simp only [ho1]
    have xc : ∀ v, A.eval (.const v) = v := fun _ => rfl
    have e1 : (Lib.itoa (s.size : Int)).length ≤ 9223372036854775806 := by omega
    generalize A.eval = ρ at x34 xc ⊢
    simp [go_sem, x34, xc, e1]
  | 5, _ =>
    have ho1 := opIs ho (p := .fieldAddr 42 (.tmp 3) 2) (by kernel_rfl)
    have hg := guardIs ho (p := none) (by kernel_rfl)
    intro e A w hA hC hp K hk
    have x3 : A.eval (.tmp 3) = .pointer (some ⟨B0, 0, none⟩) := filled_base hA (by kernel_rfl) b3
    have hw : Region.wanted o (yielded (regOf Tryd.f36 12) A.tmps) = true := wanted_free hg
    refine step_pure (v := .pointer (some ⟨B0, 2, none⟩)) hk hC hw ?_ rfl
    unfold execOp
    simp only [ho1]
    generalize A.eval = ρ at x3 ⊢
    simp [go_sem, x3]
  | 6, _ =>
    have ho1 := opIs ho (p := .load 9 (.tmp 36)) (by kernel_rfl)
    have hg := guardIs ho (p := none) (by kernel_rfl)
    intro e A w hA hC hp K hk
    have x36 : A.eval (.tmp 36) = .pointer (some ⟨B0, 2, none⟩) := op_tmp hA hp 36 5 (by kernel_rfl) (by kernel_rfl) (by kernel_rfl) (hz _ rfl)
    have hw : Region.wanted o (yielded (regOf Tryd.f36 12) A.tmps) = true := wanted_free hg
    refine step_pure (v := .string s) hk hC hw ?_ rfl
    unfold execOp
    simp only [ho1]
    have e1 : w.cell? ⟨B0, 2, none⟩ = some (.string s) := (World.cell?_of_block (hC.block _ h0)).trans hcell
    generalize A.eval = ρ at x36 ⊢
    simp [go_sem, x36, e1]
  | 7, _ =>
    have ho1 := opIs ho (p := .binOp .add 9 (.tmp 35) (.tmp 37) 9) (by kernel_rfl)
    have hg := guardIs ho (p := none) (by kernel_rfl)
    intro e A w hA hC hp K hk
    have x35 : A.eval (.tmp 35) = .string ((⟨(Lib.itoa (s.size : Int)).toArray⟩ : ByteArray) ++ (⟨#[58]⟩ : ByteArray)) := op_tmp hA hp 35 4 (by kernel_rfl) (by kernel_rfl) (by kernel_rfl) (hz _ rfl)
    have x37 : A.eval (.tmp 37) = .string s := op_tmp hA hp 37 6 (by kernel_rfl) (by kernel_rfl) (by kernel_rfl) (hz _ rfl)
    have hw : Region.wanted o (yielded (regOf Tryd.f36 12) A.tmps) = true := wanted_free hg
    refine step_pure (v := .string ((⟨(Lib.itoa (s.size : Int)).toArray⟩ : ByteArray) ++ (⟨#[58]⟩ : ByteArray) ++ s)) hk hC hw ?_ rfl
    unfold execOp
    simp only [ho1]
    have e1 : (Lib.itoa (s.size : Int)).length + 1 + s.size ≤ 9223372036854775807 := by omega
    generalize A.eval = ρ at x35 x37 ⊢
    simp [go_sem, x35, x37, e1]
  | _ + 8, h => exact absurd h (by omega)

set_option maxRecDepth 20000 in
set_option maxHeartbeats 4000000 in
theorem put1_text (B b F : Nat) (bs : List UInt8) (n : Int) (s : ByteArray) (a : Option Addr) (l c : Nat) (w : World) (h : PutIn B b F bs w) (hlen : bs.length + ((Lib.itoa (s.size : Int)).length + (s.size + 1)) ≤ 140737488355328) :
    Calls Tryd.prog 36 #[.agg #[.int .i64 2, .int .i64 n, .string s, .slice a l c], .pointer (some ⟨b, 0, none⟩), .pointer (some ⟨F, 0, none⟩)] w (PutPost B b F (bs ++ (Lib.itoa (s.size : Int) ++ 58 :: s.data.toList)) w) := by
  have HN := Lib.hid (Four.new w 42 (.int .i64 2) (.int .i64 n) (.string s) (.slice a l c))
  have n0 := HN.out.c0
  have n2 := Lib.hid HN.out.c2
  have H1 := Lib.hid (h.alloc (.cells #[.int .i64 2, .int .i64 n, .string s, .slice a l c] 42))
  have HB1 := Lib.hid ((Below.refl B w).alloc h.size (.cells #[.int .i64 2, .int .i64 n, .string s, .slice a l c] 42))
  have hlt : w.heap.size < (w.alloc (.cells #[.int .i64 2, .int .i64 n, .string s, .slice a l c] 42)).heap.size := by simp
  clear h HN
  go_enter Tryd.func36, Tryd.ntmps36
  go_wp2_with fail
  generalize w.alloc (.cells #[.int .i64 2, .int .i64 n, .string s, .slice a l c] 42) = w1 at *
  clear n0
  refine wp_region_last (regOf Tryd.f36 12) [some 31, some 32, some 33, some 34, some 35, some 36, some 37, some 38] 8 (ptextT B w.heap.size b s w1) (fun w' => Below w1.heap.size w1 w') ptextD (by kernel_rfl) (by kernel_rfl) (by kernel_rfl) (by kernel_rfl) (by kernel_rfl) (by kernel_rfl) (by kernel_rfl) ((Below.refl _ _).drew)
    (ptext_steps B w.heap.size b s w1 n2.out hlt H1.out.tab H1.out.size (by omega) (by kernel_rfl) (by kernel_rfl) (by kernel_rfl)) ?_
  intro oL hoL vs w2 hn hCw2 hT KL hKL
  replace hn : vs.length = 8 := hn
  obtain ⟨v0, vs1, rfl, hn1⟩ := len_cons hn
  obtain ⟨v1, vs2, rfl, hn2⟩ := len_cons hn1
  obtain ⟨v2, vs3, rfl, hn3⟩ := len_cons hn2
  obtain ⟨v3, vs4, rfl, hn4⟩ := len_cons hn3
  obtain ⟨v4, vs5, rfl, hn5⟩ := len_cons hn4
  obtain ⟨v5, vs6, rfl, hn6⟩ := len_cons hn5
  obtain ⟨v6, vs7, rfl, hn7⟩ := len_cons hn6
  obtain ⟨v7, vs8, rfl, hn8⟩ := len_cons hn7
  obtain rfl := List.eq_nil_of_length_eq_zero hn8
  clear hn hn1 hn2 hn3 hn4 hn5 hn6 hn7 hn8
  obtain rfl : v0 = .pointer (some ⟨w.heap.size, 2, none⟩) := hT 0 v0 rfl (by kernel_rfl)
  obtain rfl : v1 = .string s := hT 1 v1 rfl (by kernel_rfl)
  obtain rfl : v2 = .int .i64 (s.size : Int) := hT 2 v2 rfl (by kernel_rfl)
  obtain rfl : v3 = .string ⟨(Lib.itoa (s.size : Int)).toArray⟩ := hT 3 v3 rfl (by kernel_rfl)
  obtain rfl : v4 = .string ((⟨(Lib.itoa (s.size : Int)).toArray⟩ : ByteArray) ++ (⟨#[58]⟩ : ByteArray)) := hT 4 v4 rfl (by kernel_rfl)
  obtain rfl : v5 = .pointer (some ⟨w.heap.size, 2, none⟩) := hT 5 v5 rfl (by kernel_rfl)
  obtain rfl : v6 = .string s := hT 6 v6 rfl (by kernel_rfl)
  obtain rfl : v7 = .string ((⟨(Lib.itoa (s.size : Int)).toArray⟩ : ByteArray) ++ (⟨#[58]⟩ : ByteArray) ++ s) := hT 7 v7 rfl (by kernel_rfl)
  clear hT
  have hoL1 := opIs hoL (p := .call { callee := (.value (.func 37)), args := #[(.tmp 1), (.tmp 38)], argTypes := #[61, 9] }) (by kernel_rfl)
  have hgL := guardIs hoL (p := none) (by kernel_rfl)
  have hdL : oL.dst = some 39 := by have := (show ((regOf Tryd.f36 12)[8]?).map (·.dst) = some (some 39) by kernel_rfl); rw [hoL] at this; simpa using this
  rw [if_pos (wanted_free hgL)]
  rw [hdL] at hKL
  simp only [puts, Act.put, List.setIfInBounds_toArray, List.set_cons_succ, List.set_cons_zero] at hKL ⊢

  unfold Oper.wp
  rw [show (execOp _ oL).run Tryd.prog w2 = .ok (.enter 37 #[.pointer (some ⟨b, 0, none⟩), .string (⟨(Lib.itoa (s.size : Int)).toArray⟩ ++ (⟨#[58]⟩ : ByteArray) ++ s)]) w2 by unfold execOp; simp only [hoL1]; simp [go_sem]]
  have H2 := H1.out.under hCw2
  refine (put_write B b F bs _ w2 H2 ?_).mono ?_
  · rw [show ((⟨(Lib.itoa (s.size : Int)).toArray⟩ : ByteArray) ++ (⟨#[58]⟩ : ByteArray) ++ s).size = (Lib.itoa (s.size : Int)).length + 1 + s.size by rw [ByteArray.size_append, ByteArray.size_append]; rfl]; omega
  rintro e w3 ⟨rfl, h3, hb3, -⟩
  dsimp only
  rw [hdL]
  refine hKL _ _ ?_
  have H3 := Lib.hid h3
  have HB3 := Lib.hid ((HB1.out.trans (Below.lower hCw2 H1.out.size)).trans hb3)
  clear h3 hb3 hCw2 hKL
  go_wp2_with fail
  go_end0
  refine ⟨rfl, ?_, HB3.out⟩
  have := H3.out
  simpa using this
end Go.Proofs.YtdlnabjledhiiaaDoor
