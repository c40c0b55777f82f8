/-
  The walk of code.Put: the bytes of any value, or why it is refused; as long as what is written has at most 2^47 bytes, and the value at most 2^61 values within it.
-/
import Derived.Test.YtdlnabjledhiiaaDoorPvClosure
import Derived.Test.YtdlnabjledhiiaaDoorCvRt
namespace Go.Proofs.YtdlnabjledhiiaaDoor
open Go.RowKit
set_option linter.unusedVariables false

mutual
/-- All its numbers are such as an int64 holds. -/
def V.InR : V → Prop
  | .mk k n s l => (-9223372036854775808 ≤ n ∧ n ≤ 9223372036854775807) ∧ allInR l
def allInR : List V → Prop
  | [] => True
  | x :: r => x.InR ∧ allInR r
end
theorem allInR_mem : ∀ {l : List V} {x : V}, allInR l → x ∈ l → x.InR
  | y :: r, x, h, hx => by
    simp only [allInR] at h
    rcases List.mem_cons.1 hx with rfl | hx
    · exact h.1
    · exact allInR_mem h.2 hx

theorem put1_any (B b F : Nat) (S : Nat → Prop) (hS : ∀ p, S p → p < B) : ∀ (f : Nat) (x : V), x.cnt ≤ f → x.cnt ≤ 4611686018427387904 → x.InR → ∀ (cs : List Value) (bs : List UInt8) (w : World), PutIn B b F bs w → V.At w S x cs → bs.length + (putL x).length ≤ 140737488355328 →
    Calls Tryd.prog 36 #[.agg cs.toArray, .pointer (some ⟨b, 0, none⟩), .pointer (some ⟨F, 0, none⟩)] w (PutPost B b F (bs ++ putL x) w)
  | 0, .mk k n s l, hf, _, _, _, _, _, _, _, _ => by simp only [V.cnt] at hf; omega
  | f + 1, .mk k n s l, hf, hcnt, hr, cs, bs, w, h, hat, hlen => by
    simp only [V.cnt] at hf hcnt
    simp only [V.At] at hat
    simp only [V.InR] at hr
    obtain ⟨a, c, rfl, hc, -, hall⟩ := hat
    by_cases h1 : k = 1
    · subst h1
      rw [putL, if_pos rfl] at hlen ⊢
      exact put1_num B b F bs n s a _ c w h hr.1.1 hr.1.2 (by simpa using hlen)
    · by_cases h2 : k = 2
      · subst h2
        rw [putL, if_neg (by decide), if_pos rfl] at hlen ⊢
        exact put1_text B b F bs n s a _ c w h (by simpa using hlen)
      · rw [putL, if_neg h1, if_neg h2] at hlen ⊢
        refine put1_list B b F bs k n s a c l w h h1 h2 S (Lib.hid hS) (by have := cntAll_ge l; omega) hc (Lib.hid hall) (by simp at hlen; omega) (Lib.hid ?_)
        intro y hy cs2 bs2 w2 h3 hat2 hlen2
        exact put1_any B b F S hS f y (by have := cntAll_mem hy; omega) (by have := cntAll_mem hy; omega) (allInR_mem hr.2 hy) cs2 bs2 w2 h3 hat2 hlen2

/-- What code.Put tells: the bytes, and the error. -/
def putGot (x : V) : ByteArray × Int := if rightL x ≠ 0 then (⟨#[]⟩, rightL x) else if 131072 < (putL x).length then (⟨#[]⟩, 2) else (⟨(putL x).toArray⟩, 0)

set_option maxRecDepth 20000 in
set_option maxHeartbeats 4000000 in
theorem put_any (S : Nat → Prop) (x : V) (cs : List Value) (w : World) (hS : ∀ b, S b → b < w.heap.size) (hat : V.At w S x cs) (hcnt : x.cnt ≤ 4611686018427387904) (hr : x.InR) (hlen : (putL x).length ≤ 140737488355328)
    (htab : Lib.TabIs Tryd.prog w "internal/strconv.uint64pow10" .u64 Lib.pow10Tab) (g : ByteArray × Int) (hg : Hid (g = putGot x)) :
    Calls Tryd.prog 22 #[.agg cs.toArray] w (fun e w' => e = .returned (.tuple #[.string g.1, .int .i64 g.2]) ∧ Below w.heap.size w w') := by
  have HR : Hid (∀ (w1 : World), (∀ b, S b → b < w1.heap.size) → V.At w1 S x cs → Calls Tryd.prog 35 #[.agg cs.toArray] w1 (fun e w' => e = .returned (.int .i64 (rightL x)) ∧ Below w1.heap.size w1 w')) :=
    Lib.hid fun w1 h1 h2 => right_any S x cs w1 h1 h2 hcnt _ (Lib.hid rfl)
  have HP : Hid (∀ (B b F : Nat) (w1 : World), (∀ p, S p → p < B) → PutIn B b F [] w1 → V.At w1 S x cs → Calls Tryd.prog 36 #[.agg cs.toArray, .pointer (some ⟨b, 0, none⟩), .pointer (some ⟨F, 0, none⟩)] w1 (PutPost B b F (putL x) w1)) :=
    Lib.hid fun B b F w1 h1 h2 h3 => put1_any B b F S h1 x.cnt x (Nat.le_refl _) hcnt hr cs [] w1 h2 h3 (by simpa using hlen)
  have HG : Hid (g = if rightL x ≠ 0 then (⟨#[]⟩, rightL x) else if 131072 < (putL x).length then (⟨#[]⟩, 2) else (⟨(putL x).toArray⟩, 0)) := hg
  generalize rightL x = y at HR HG
  have HL := Lib.hid hlen
  generalize putL x = bs at HP HG HL
  have HAT := Lib.hid hat
  have HS := Lib.hid hS
  have HT := Lib.hid htab
  clear hg hS hr hlen hcnt htab
  obtain ⟨k, n, s, l⟩ := x
  simp only [V.At] at hat
  obtain ⟨a, c, rfl, -, -, -⟩ := hat
  have hmf : ∀ fn first cap w, (Instr.makeFunc fn first cap).run Tryd.prog w = .ok (.func fn first cap) w := fun _ _ _ _ => rfl
  have HN := Lib.hid (Four.new w 42 (.int .i64 k) (.int .i64 n) (.string s) (.slice a l.length c))
  have n0 := HN.out.c0
  have n1 := HN.out.c1
  have n2 := HN.out.c2
  have n3 := HN.out.c3
  have HB1 := Lib.hid ((Below.refl w.heap.size w).alloc (Nat.le_refl _) (.cells #[.int .i64 k, .int .i64 n, .string s, .slice a l.length c] 42))
  have HA1 := Lib.hid (V.At.move (fun _ hp => hp) (fun p hp => HB1.out.block p (HS.out p hp)) _ _ HAT.out)
  have hs1 : (w.alloc (.cells #[.int .i64 k, .int .i64 n, .string s, .slice a l.length c] 42)).heap.size = w.heap.size + 1 := by simp
  go_enter Tryd.func22, Tryd.ntmps22
  go_wp2_with fail
  refine (HR.out _ (fun p hp => by rw [hs1]; have := HS.out p hp; omega) HA1.out).mono ?_
  rintro e w2 ⟨rfl, hb2⟩
  have HN2 : Hid (Four w2 w.heap.size 42 (.int .i64 k) (.int .i64 n) (.string s) (.slice a l.length c)) := Lib.hid ((hb2.block _ (by rw [hs1]; omega)).trans HN.out)
  have HB2 := Lib.hid (HB1.out.trans (Below.lower hb2 (by rw [hs1]; omega)))
  have hs2 := hb2.size
  rw [hs1] at hs2
  clear n0 n1 n2 n3 HB1 HA1 hb2 HN HR hs1
  by_cases hy : y = 0
  · subst hy
    have HG2 : Hid (g = if 131072 < bs.length then (⟨#[]⟩, 2) else (⟨bs.toArray⟩, 0)) := Lib.hid (by rw [HG.out, if_neg (by simp)])
    clear HG
    have n0 := (Four.alloc (Four.alloc HN2.out (.cells #[.pointer none, .slice none 0 0] 61)) (.cells #[putFn w2.heap.size (w2.heap.size + 1)] 62)).c0
    have n1 := (Four.alloc (Four.alloc HN2.out (.cells #[.pointer none, .slice none 0 0] 61)) (.cells #[putFn w2.heap.size (w2.heap.size + 1)] 62)).c1
    have n2 := (Four.alloc (Four.alloc HN2.out (.cells #[.pointer none, .slice none 0 0] 61)) (.cells #[putFn w2.heap.size (w2.heap.size + 1)] 62)).c2
    have n3 := (Four.alloc (Four.alloc HN2.out (.cells #[.pointer none, .slice none 0 0] 61)) (.cells #[putFn w2.heap.size (w2.heap.size + 1)] 62)).c3
    go_wp2_with fail
    clear n0 n1 n2 n3
    have HB5 : Hid (Below w2.heap.size w2 ((w2.alloc (.cells #[.pointer none, .slice none 0 0] 61)).alloc (.cells #[putFn w2.heap.size (w2.heap.size + 1)] 62))) := Lib.hid (((Below.refl _ w2).alloc (Nat.le_refl _) _).alloc (by simp) _)
    have HI5 : Hid (PutIn w2.heap.size w2.heap.size (w2.heap.size + 1) [] ((w2.alloc (.cells #[.pointer none, .slice none 0 0] 61)).alloc (.cells #[putFn w2.heap.size (w2.heap.size + 1)] 62))) :=
      Lib.hid ⟨(Lib.IsBuilderF.of (Lib.fresh_isBuilder _ _ w2)).alloc _, Boxed.fresh (by simp) _ _, (Lib.tabBelow_of_tabIs (Lib.tabBelow_of_tabIs HT.out w2 HB2.out)).on HB5.out, by omega⟩
    have HA5 := Lib.hid (V.At.move (fun _ hp => hp) (fun p hp => (HB2.out.trans (Below.lower HB5.out (by omega))).block p (HS.out p hp)) _ _ HAT.out)
    refine (HP.out w2.heap.size w2.heap.size (w2.heap.size + 1) _ (fun p hp => by have := HS.out p hp; omega) HI5.out HA5.out).mono ?_
    rintro e w6 ⟨rfl, hi6, hb6⟩
    have HI6 := Lib.hid hi6
    have HB6 := Lib.hid (HB2.out.trans (Below.lower (HB5.out.trans hb6) (by omega)))
    clear HB5 HI5 HA5 hi6 hb6 HP HAT HB2 HN2
    go_wp2_with fail
    refine (Tryd.Builder_Len_f w2.heap.size w2.heap.size _ w6 HI6.out.bd).mono ?_
    rintro e w7 ⟨rfl, rfl⟩
    rw [Lib.byteCells_length]
    by_cases hl : 131072 < bs.length
    · have hl2 : (131072 : Int) < (bs.length : Int) := by omega
      have HG3 : Hid (g = (⟨#[]⟩, 2)) := Lib.hid (by rw [HG2.out, if_pos hl])
      clear HG2 hl
      go_wp2_with fail
      go_ret2
      exact ⟨by rw [HG3.out]; rfl, HB6.out⟩
    · have hl2 : (bs.length : Int) ≤ 131072 := by omega
      have HG3 : Hid (g = (⟨bs.toArray⟩, 0)) := Lib.hid (by rw [HG2.out, if_neg hl])
      clear HG2 hl
      go_wp2_with fail
      refine (Tryd.Builder_String_any_f w2.heap.size w2.heap.size bs w7 HI6.out.bd (by have := HB6.out.size; have := HI6.out.size; omega)).mono ?_
      rintro e w8 ⟨rfl, h8⟩
      have HB8 := Lib.hid h8
      clear h8
      go_wp2_with fail
      go_ret2
      exact ⟨by rw [HG3.out]; rfl, HB6.out.trans (Below.lower HB8.out.2 (by omega))⟩
  · have p1 : (y != 0) = true := by simpa using hy
    have p2 : (y == 0) = false := by simpa using hy
    have HG2 : Hid (g = (⟨#[]⟩, y)) := Lib.hid (by rw [HG.out, if_pos hy])
    clear HG hy
    go_wp2_with fail
    go_ret2
    exact ⟨by rw [HG2.out]; rfl, HB2.out⟩
end Go.Proofs.YtdlnabjledhiiaaDoor
