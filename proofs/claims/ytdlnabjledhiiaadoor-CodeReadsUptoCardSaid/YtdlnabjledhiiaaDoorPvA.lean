/-
  The walk of the closure of code.Put, by the kind of the value: a number, and a list; as long as what is written has at most 2^47 bytes.
-/
import Derived.Test.YtdlnabjledhiiaaDoorPvP
import Derived.Test.YtdlnabjledhiiaaDoorBuilder
import Derived.Test.YtdlnabjledhiiaaDoorShelf
import Derived.Test.YtdlnabjledhiiaaDoorFour
import Derived.Lib.AppendIntMem
import Derived.Lib.UnsafeStr
import Derived.RangeFuncBox
import Derived.Deep.DeepCutAuto
import Derived.Deep.CutBlock
namespace Go.Proofs.YtdlnabjledhiiaaDoor
open Go.RowKit
set_option linter.unusedVariables false

/-- The library's table of powers of ten reads so, whatever is done from the block B on. -/
abbrev Tab (B : Nat) (w : World) : Prop := Lib.TabBelow Tryd.prog B w "internal/strconv.uint64pow10" .u64 Lib.pow10Tab
abbrev putFn (b F : Nat) : Value := .func (.func 36) #[] #[.pointer (some ⟨b, 0, none⟩), .pointer (some ⟨F, 0, none⟩)]
/-- Where Put stands: the builder at b holds bs, the closure lies in its box at F. -/
structure PutIn (B b F : Nat) (bs : List UInt8) (w : World) : Prop where
  bd : Bd B b (Lib.byteCells bs) w
  fn : Boxed w F 62 (putFn b F)
  tab : Tab B w
  ne : F ≠ b
theorem Bd.le {B b : Nat} {bs : List Value} {w : World} (h : Bd B b bs w) : B ≤ b ∧ b < w.heap.size := by
  rcases h with h | h <;> exact ⟨h.1, h.lt⟩
theorem bdAtF_under {T e : TypeId} {B b : Nat} {p : Value} {bs : List Value} {w w' : World} (h : Lib.BuilderAtF T e B b p bs w) (hb : Below w.heap.size w w') : Lib.BuilderAtF T e B b p bs w' := by
  have hlt := h.lt
  obtain ⟨hB, v, hbk, hown, hne⟩ := h
  exact ⟨hB, v, (hb.block b hlt).trans hbk, hown.kept (row := none) ⟨hb.os, hb.tape, hb.output, hb.size, fun k hk _ => hb.block k hk⟩ (by cases hv : v.ownBlock <;> simp), hne⟩
theorem Bd.under {B b : Nat} {bs : List Value} {w w' : World} (h : Bd B b bs w) (hb : Below w.heap.size w w') : Bd B b bs w' := by
  rcases h with h | h
  · exact .inl (bdAtF_under h hb)
  · exact .inr (bdAtF_under h hb)
theorem Below.lower {A B : Nat} {w w' : World} (h : Below A w w') (hAB : B ≤ A) : Below B w w' := ⟨h.os, h.tape, h.output, h.size, fun i hi => h.block i (by omega)⟩
theorem PutIn.size {B b F : Nat} {bs : List UInt8} {w : World} (h : PutIn B b F bs w) : B ≤ w.heap.size := by have := h.bd.le; omega
theorem PutIn.under {B b F : Nat} {bs : List UInt8} {w w' : World} (h : PutIn B b F bs w) (hb : Below w.heap.size w w') : PutIn B b F bs w' :=
  ⟨h.bd.under hb, (hb.block F h.fn.lt).trans h.fn, h.tab.on (Below.lower hb h.size), h.ne⟩
theorem PutIn.alloc {B b F : Nat} {bs : List UInt8} {w : World} (h : PutIn B b F bs w) (o : Obj) : PutIn B b F bs (w.alloc o) := h.under ((Below.refl _ w).alloc (Nat.le_refl _) o)
theorem bdKept_cells {b k : Nat} {w w' : World} {cs : Array Value} {t : TypeId} {fz : Nat × Nat} (h : BdKept b w w') (hk : w.heap[k]? = some (.cells cs t fz)) (hne : k ≠ b) (ht : t ≠ 5) : w'.heap[k]? = some (.cells cs t fz) :=
  h k _ hk (fun e => hne (Option.some.inj e)) (fun c f e => by cases e; exact ht rfl)
theorem PutIn.wrote {B b F : Nat} {bs bs' : List UInt8} {w w' : World} (h : PutIn B b F bs w) (hd : Bd B b (Lib.byteCells bs') w') (hb : Below B w w') (hk : BdKept b w w') : PutIn B b F bs' w' :=
  ⟨hd, bdKept_cells hk h.fn h.ne (by decide), h.tab.on hb, h.ne⟩
theorem put_write (B b F : Nat) (bs : List UInt8) (s : ByteArray) (w : World) (h : PutIn B b F bs w) (hlen : bs.length + s.size ≤ 140737488355328) :
    Calls Tryd.prog 37 #[.pointer (some ⟨b, 0, none⟩), .string s] w fun e w' => e = .returned (.tuple #[.int .i64 s.size, .nilIface]) ∧ PutIn B b F (bs ++ s.data.toList) w' ∧ Below B w w' ∧ BdKept b w w' := by
  refine (bdWrite_any B b _ s w h.bd (by rw [Lib.byteCells_length]; exact hlen) h.size).mono ?_
  rintro e w' ⟨rfl, h1, h2, h3⟩
  rw [Lib.strCells_eq, ← Lib.byteCells_append] at h1
  exact ⟨rfl, h.wrote h1 h2 h3, h2, h3⟩
theorem put_byte (B b F : Nat) (bs : List UInt8) (c : UInt8) (i : Int) (hi : i = (c.toNat : Int)) (w : World) (h : PutIn B b F bs w) (hlen : bs.length + 1 ≤ 140737488355328) :
    Calls Tryd.prog 40 #[.pointer (some ⟨b, 0, none⟩), .int .u8 i] w fun e w' => e = .returned .nilIface ∧ PutIn B b F (bs ++ [c]) w' ∧ Below B w w' ∧ BdKept b w w' := by
  subst hi
  refine (bdByte_any B b _ _ w h.bd (by rw [Lib.byteCells_length]; exact hlen) h.size).mono ?_
  rintro e w' ⟨rfl, h1, h2, h3⟩
  rw [show [Value.int .u8 (c.toNat : Int)] = Lib.byteCells [c] from rfl, ← Lib.byteCells_append] at h1
  exact ⟨rfl, h.wrote h1 h2 h3, h2, h3⟩
theorem fmt_any (n : Int) (h0 : -9223372036854775808 ≤ n) (h1 : n ≤ 9223372036854775807) (B : Nat) (w : World) (h : Tab B w) :
    Calls Tryd.prog 38 #[.int .i64 n, .int .i64 10] w fun e w' => e = .returned (.string ⟨(Lib.itoa n).toArray⟩) ∧ Below w.heap.size w w' := by
  refine (Tryd.strconv_FormatInt_10 n h0 h1 w h.here).mono ?_
  rintro e w' ⟨rfl, k, os, rfl⟩
  exact ⟨rfl, Lib.below_grow _ _ (Nat.le_refl _) k os⟩
theorem itoa_any (n : Int) (h0 : -9223372036854775808 ≤ n) (h1 : n ≤ 9223372036854775807) (B : Nat) (w : World) (h : Tab B w) :
    Calls Tryd.prog 39 #[.int .i64 n] w fun e w' => e = .returned (.string ⟨(Lib.itoa n).toArray⟩) ∧ Below w.heap.size w w' := by
  refine (Tryd.strconv_Itoa n h0 h1 w h.here).mono ?_
  rintro e w' ⟨rfl, k, os, rfl⟩
  exact ⟨rfl, Lib.below_grow _ _ (Nat.le_refl _) k os⟩
/-- What the closure leaves. -/
def PutPost (B b F : Nat) (bs : List UInt8) (w : World) (e : Ending) (w' : World) : Prop := e = .returned (.tuple #[]) ∧ PutIn B b F bs w' ∧ Below B w w'

set_option maxRecDepth 20000 in
set_option maxHeartbeats 4000000 in
theorem put1_num (B b F : Nat) (bs : List UInt8) (n : Int) (s : ByteArray) (a : Option Addr) (l c : Nat) (w : World) (h : PutIn B b F bs w) (h0 : -9223372036854775808 ≤ n) (h1 : n ≤ 9223372036854775807) (hlen : bs.length + ((Lib.itoa n).length + 2) ≤ 140737488355328) :
    Calls Tryd.prog 36 #[.agg #[.int .i64 1, .int .i64 n, .string s, .slice a l c], .pointer (some ⟨b, 0, none⟩), .pointer (some ⟨F, 0, none⟩)] w (PutPost B b F (bs ++ 105 :: (Lib.itoa n ++ [101])) w) := by
  have HN := Lib.hid (Four.new w 42 (.int .i64 1) (.int .i64 n) (.string s) (.slice a l c))
  have n0 := HN.out.c0
  have n1 := HN.out.c1
  have H1 := Lib.hid (h.alloc (.cells #[.int .i64 1, .int .i64 n, .string s, .slice a l c] 42))
  have HB1 := Lib.hid ((Below.refl B w).alloc h.size (.cells #[.int .i64 1, .int .i64 n, .string s, .slice a l c] 42))
  clear h HN
  go_enter Tryd.func36, Tryd.ntmps36
  go_wp2_with fail
  refine (fmt_any n h0 h1 B _ H1.out.tab).mono ?_
  rintro e w2 ⟨rfl, hb2⟩
  have H2 := Lib.hid (H1.out.under hb2)
  have HB2 := Lib.hid (HB1.out.trans (Below.lower hb2 H1.out.size))
  clear H1 HB1 n0 n1 hb2
  go_wp2_with fail
  refine (put_write B b F bs _ w2 H2.out ?_).mono ?_
  · rw [show ((⟨#[105]⟩ : ByteArray) ++ ⟨(Lib.itoa n).toArray⟩ ++ ⟨#[101]⟩).size = 1 + (Lib.itoa n).length + 1 by rw [ByteArray.size_append, ByteArray.size_append]; rfl]; omega
  rintro e w3 ⟨rfl, h3, hb3, -⟩
  have H3 := Lib.hid h3
  have HB3 := Lib.hid (HB2.out.trans hb3)
  clear h3 hb3 H2 HB2
  go_wp2_with fail
  go_end0
  refine ⟨rfl, ?_, HB3.out⟩
  have := H3.out
  simpa using this

theorem putAll_len {l : List V} {i : Nat} (h : i < l.length) : (putAll (l.take i)).length + (putL l[i]).length ≤ (putAll l).length := by
  have e : putAll l = putAll (l.take (i + 1)) ++ putAll (l.drop (i + 1)) := by
    conv => lhs; rw [← List.take_append_drop (i + 1) l]
    generalize l.take (i + 1) = p
    induction p with
    | nil => simp [putAll]
    | cons x r ih => simp [putAll, ih]
  rw [e, putAll_take h, List.length_append, List.length_append]
  omega

set_option maxRecDepth 20000 in
set_option maxHeartbeats 4000000 in
theorem put1_list (B b F : Nat) (bs : List UInt8) (k n : Int) (s : ByteArray) (a : Option Addr) (c : Nat) (l : List V) (w : World) (h : PutIn B b F bs w) (hk1 : k ≠ 1) (hk2 : k ≠ 2)
    (S : Nat → Prop) (hS : Hid (∀ p, S p → p < B)) (hcm : l.length ≤ 4611686018427387904) (hc : l.length ≤ c) (hall : Hid (VAll w S a 0 l)) (hlen : bs.length + ((putAll l).length + 2) ≤ 140737488355328)
    (IH : Hid (∀ y ∈ l, ∀ (cs : List Value) (bs : List UInt8) (w : World), PutIn B b F bs w → V.At w S y cs → bs.length + (putL y).length ≤ 140737488355328 →
      Calls Tryd.prog 36 #[.agg cs.toArray, .pointer (some ⟨b, 0, none⟩), .pointer (some ⟨F, 0, none⟩)] w (PutPost B b F (bs ++ putL y) w))) :
    Calls Tryd.prog 36 #[.agg #[.int .i64 k, .int .i64 n, .string s, .slice a l.length c], .pointer (some ⟨b, 0, none⟩), .pointer (some ⟨F, 0, none⟩)] w (PutPost B b F (bs ++ 108 :: (putAll l ++ [101])) w) := by
  have p1 : (k == 1) = false := by simpa using hk1
  have p2 : (k == 2) = false := by simpa using hk2
  have HN := Lib.hid (Four.new w 42 (.int .i64 k) (.int .i64 n) (.string s) (.slice a l.length c))
  have n0 := HN.out.c0
  have H1 := Lib.hid (h.alloc (.cells #[.int .i64 k, .int .i64 n, .string s, .slice a l.length c] 42))
  have HB1 := Lib.hid ((Below.refl B w).alloc h.size (.cells #[.int .i64 k, .int .i64 n, .string s, .slice a l.length c] 42))
  have hbw := h.bd.le
  clear h hk1 hk2
  go_enter Tryd.func36, Tryd.ntmps36
  go_wp2_with fail
  refine (put_byte B b F bs 108 108 rfl _ H1.out (by omega)).mono ?_
  rintro e w2 ⟨rfl, h2, hb2, hk2⟩
  have HN2 : Hid (Four w2 w.heap.size 42 (.int .i64 k) (.int .i64 n) (.string s) (.slice a l.length c)) := Lib.hid (bdKept_cells hk2 HN.out (by omega) (by decide))
  have H2 := Lib.hid h2
  have HB2 := Lib.hid (HB1.out.trans hb2)
  clear h2 hb2 hk2 H1 HB1 HN n0
  have n3 := HN2.out.c3
  go_wp2_with fail
  go_loopg [12] l.length (fun gk v wr => ∃ (i : Nat), i ≤ l.length ∧ gk = l.length - i ∧ v = .int .i64 (i : Int) ∧ Hid (PutIn B b F (bs ++ 108 :: putAll (l.take i)) wr) ∧ Hid (Below B w wr))
  case atStart => exact ⟨0, Nat.zero_le _, rfl, rfl, by simpa [putAll] using H2, HB2⟩
  case round =>
    obtain ⟨i, hi, rfl, rfl, hR, hW⟩ := hrel
    clear n3
    by_cases hlt : i < l.length
    · have hlti : (i : Int) < (l.length : Int) := by omega
      obtain ⟨b1, o, cs, rfl, hb, hat, hcell⟩ := VAll.at 0 l hall.out i hlt
      have hih := IH.out l[i] (List.getElem_mem hlt)
      have hpl := putAll_len hlt
      have hpt := putAll_take hlt
      have hat2 := hat
      generalize l[i] = y at *
      obtain ⟨yk, yn, ys, yl⟩ := y
      simp only [V.At] at hat
      obtain ⟨ya, yc, rfl, -, -, -⟩ := hat
      have hcell2 : ∀ j u, [Value.int .i64 yk, .int .i64 yn, .string ys, .slice ya yl.length yc][j]? = some u → wr.cell? ⟨b1, o + i * 4 + j, none⟩ = some u := fun j u hj => by
        have := hcell j u hj
        rw [Nat.zero_add] at this
        exact (World.cell?_of_block (hW.out.block b1 (hS.out b1 hb))).trans this
      have e0 := hcell2 0 _ rfl
      have e1 := hcell2 1 _ rfl
      have e2 := hcell2 2 _ rfl
      have e3 := hcell2 3 _ rfl
      rw [Nat.add_zero] at e0
      have HN3 := Lib.hid (Four.new wr 42 (.int .i64 yk) (.int .i64 yn) (.string ys) (.slice ya yl.length yc))
      have HR3 := Lib.hid (hR.out.alloc (.cells #[.int .i64 yk, .int .i64 yn, .string ys, .slice ya yl.length yc] 42))
      have HW3 := Lib.hid (hW.out.alloc hR.out.size (.cells #[.int .i64 yk, .int .i64 yn, .string ys, .slice ya yl.length yc] 42))
      have HAT := Lib.hid (V.At.move (fun _ hp => hp) (fun p hp => HW3.out.block p (hS.out p hp)) _ _ hat2)
      have f0 := HR3.out.fn.cell
      have n0 := HN3.out.c0
      have n1 := HN3.out.c1
      have n2 := HN3.out.c2
      have n3 := HN3.out.c3
      have HIH := Lib.hid hih
      have HPL := Lib.hid hpl
      have HPT := Lib.hid hpt
      clear hih hat2 hpl hpt hcell hcell2
      go_wp2_with fail
      refine (HIH.out _ _ _ HR3.out HAT.out (by have := HPL.out; simp; omega)).mono ?_
      rintro e w4 ⟨rfl, hr4, hw4⟩
      have HR4 := Lib.hid hr4
      have HW4 := Lib.hid (HW3.out.trans hw4)
      clear hr4 hw4 e0 e1 e2 e3 f0 n0 n1 n2 n3
      go_wp2_with fail
      go_roundg (l.length - (i + 1))
      case rel => exact ⟨i + 1, hlt, rfl, by go_num, by rw [HPT.out]; simpa using HR4, HW4⟩
      case measure => omega
    · obtain rfl : i = l.length := by omega
      rw [List.take_length] at hR
      go_wp2_with fail
      refine (put_byte B b F _ 101 101 rfl _ hR.out (by simp; omega)).mono ?_
      rintro e w3 ⟨rfl, h3, hb3, -⟩
      have H3 := Lib.hid h3
      have HB3 := Lib.hid (hW.out.trans hb3)
      clear h3 hb3
      go_wp2_with fail
      go_end0
      exact ⟨rfl, by simpa using H3.out, HB3.out⟩
end Go.Proofs.YtdlnabjledhiiaaDoor
