/-
  The walk of code.Right: which values may be; for any value of at most 2^61 values.
-/
import Derived.Test.YtdlnabjledhiiaaDoorCvRightB
import Derived.Test.YtdlnabjledhiiaaDoorCvRightC
import Derived.Laws.EntriesVeiled
namespace Go.Proofs.YtdlnabjledhiiaaDoor
open Go.RowKit
set_option linter.unusedVariables false

theorem right1_any : ∀ (f : Nat) (x : V), x.cnt ≤ f → ∀ (S : Nat → Prop) (B : Nat) (cs : List Value) (deep : Nat) (st : RS) (w : World), RtAt w B st → B + 3 < w.heap.size → (∀ b, S b → b < w.heap.size ∧ (b < B ∨ B + 3 < b)) → V.At w S x cs → st.many + x.cnt ≤ 4611686018427387904 → deep ≤ st.many + 1 →
    Calls Tryd.prog 51 #[.agg cs.toArray, .int .i64 (deep : Int), .pointer (some ⟨B, 0, none⟩), .pointer (some ⟨B + 1, 0, none⟩), .pointer (some ⟨B + 2, 0, none⟩), .pointer (some ⟨B + 3, 0, none⟩)] w (RPost B (rightGo x deep st) w)
  | 0, .mk k n s l, hf, _, _, _, _, _, _, _, _, _, _, _, _ => by simp only [V.cnt] at hf; omega
  | f + 1, .mk k n s l, hf, S, B, cs, deep, st, w, h, hB, hS, hat, hcnt, hdeep => by
    simp only [V.cnt] at hf hcnt
    simp only [V.At] at hat
    obtain ⟨a, c, rfl, hc, -, hall⟩ := hat
    rw [rightGo]
    by_cases hfar : 4000 < st.many + 1
    · rw [if_pos hfar]
      exact right1_far B k n s a c l deep st w h hB (by omega) hfar
    · rw [if_neg hfar]
      refine right1_near B k n s a c l deep st w h hB hfar S (Lib.hid hS) hc (Lib.hid hall) (by omega) hdeep (Lib.hid ?_) _ (Lib.hid rfl)
      intro y hy cs2 deep2 st2 w2 h2 hB2 hS2 hat2 hcnt2 hdeep2
      exact right1_any f y (by have := cntAll_mem hy; omega) S B cs2 deep2 st2 w2 h2 hB2 hS2 hat2 hcnt2 hdeep2

theorem Boxed.fresh {w : World} {n : Nat} (h : w.heap.size = n) (t : TypeId) (v : Value) : Boxed (w.alloc (.cells #[v] t)) n t v := h ▸ Boxed.new w t v
/-- What code.Right tells. -/
def rightL (x : V) : Int :=
  let z := rightGo x 1 ⟨0, 0, true⟩
  if 4000 < z.many then 2 else if 30 < z.deepest then 12 else if z.ok then 0 else 1



set_option maxRecDepth 20000 in
set_option maxHeartbeats 4000000 in
theorem right_any (S : Nat → Prop) (x : V) (cs : List Value) (w : World) (hS : ∀ b, S b → b < w.heap.size) (hat : V.At w S x cs) (hcnt : x.cnt ≤ 4611686018427387904) (y : Int) (hy : Hid (y = rightL x)) :
    Calls Tryd.prog 35 #[.agg cs.toArray] w (fun e w' => e = .returned (.int .i64 y) ∧ Below w.heap.size w w') := by
  have H : Hid (∀ (w5 : World) (B : Nat), RtAt w5 B ⟨0, 0, true⟩ → B + 3 < w5.heap.size → (∀ b, S b → b < w5.heap.size ∧ (b < B ∨ B + 3 < b)) → V.At w5 S x cs →
    Calls Tryd.prog 51 #[.agg cs.toArray, .int .i64 ((1 : Nat) : Int), .pointer (some ⟨B, 0, none⟩), .pointer (some ⟨B + 1, 0, none⟩), .pointer (some ⟨B + 2, 0, none⟩), .pointer (some ⟨B + 3, 0, none⟩)] w5 (RPost B (rightGo x 1 ⟨0, 0, true⟩) w5)) :=
    Lib.hid fun w5 B h1 h2 h3 h4 => right1_any x.cnt x (Nat.le_refl _) S B cs 1 ⟨0, 0, true⟩ w5 h1 h2 h3 h4 (show 0 + x.cnt ≤ 4611686018427387904 by rw [Nat.zero_add]; exact hcnt) (show 1 ≤ 0 + 1 from Nat.le_refl 1)
  have HZ : Hid (y = if 4000 < (rightGo x 1 ⟨0, 0, true⟩).many then 2 else if 30 < (rightGo x 1 ⟨0, 0, true⟩).deepest then 12 else if (rightGo x 1 ⟨0, 0, true⟩).ok then 0 else 1) := hy
  have HM := rightGo_many x 1 ⟨0, 0, true⟩
  generalize rightGo x 1 ⟨0, 0, true⟩ = z at H HZ HM
  have HMm := Lib.hid HM
  have HAT := Lib.hid hat
  have HS := Lib.hid hS
  clear HM hy hS
  obtain ⟨k, n, s, l⟩ := x
  simp only [V.At] at hat
  obtain ⟨a, c, rfl, -, -, -⟩ := hat
  have hmf : ∀ fn first cap w, (Instr.makeFunc fn first cap).run Tryd.prog w = .ok (.func fn first cap) w := fun _ _ _ _ => rfl
  go_enter Tryd.func35, Tryd.ntmps35
  go_wp2_with fail
  have HR5 : Hid (RtAt (((((w.alloc (.cells #[.int .i64 k, .int .i64 n, .string s, .slice a l.length c] 42)).alloc (.cells #[.int .i64 0] 3)).alloc (.cells #[.int .i64 0] 3)).alloc (.cells #[.bool true] 4)).alloc (.cells #[.func (.func 51) #[] #[.pointer (some ⟨w.heap.size + 1, 0, none⟩), .pointer (some ⟨w.heap.size + 1 + 1, 0, none⟩), .pointer (some ⟨w.heap.size + 1 + 1 + 1, 0, none⟩), .pointer (some ⟨w.heap.size + 1 + 1 + 1 + 1, 0, none⟩)]] 84)) (w.heap.size + 1) ⟨0, 0, true⟩) := by
    refine Lib.hid ⟨?_, ?_, ?_, ?_⟩
    · exact (((Boxed.fresh (by simp) _ _).alloc _).alloc _).alloc _
    · exact ((Boxed.fresh (by simp) _ _).alloc _).alloc _
    · exact (Boxed.fresh (by simp) _ _).alloc _
    · exact Boxed.fresh (by simp) _ _
  have HB5 : Hid (Below w.heap.size w (((((w.alloc (.cells #[.int .i64 k, .int .i64 n, .string s, .slice a l.length c] 42)).alloc (.cells #[.int .i64 0] 3)).alloc (.cells #[.int .i64 0] 3)).alloc (.cells #[.bool true] 4)).alloc (.cells #[.func (.func 51) #[] #[.pointer (some ⟨w.heap.size + 1, 0, none⟩), .pointer (some ⟨w.heap.size + 1 + 1, 0, none⟩), .pointer (some ⟨w.heap.size + 1 + 1 + 1, 0, none⟩), .pointer (some ⟨w.heap.size + 1 + 1 + 1 + 1, 0, none⟩)]] 84))) := Lib.hid ((((((Below.refl w.heap.size w).alloc (Nat.le_refl _) _).alloc (by simp) _).alloc (by simp; omega) _).alloc (by simp; omega) _).alloc (by simp; omega) _)
  have hsz : (((((w.alloc (.cells #[.int .i64 k, .int .i64 n, .string s, .slice a l.length c] 42)).alloc (.cells #[.int .i64 0] 3)).alloc (.cells #[.int .i64 0] 3)).alloc (.cells #[.bool true] 4)).alloc (.cells #[.func (.func 51) #[] #[.pointer (some ⟨w.heap.size + 1, 0, none⟩), .pointer (some ⟨w.heap.size + 1 + 1, 0, none⟩), .pointer (some ⟨w.heap.size + 1 + 1 + 1, 0, none⟩), .pointer (some ⟨w.heap.size + 1 + 1 + 1 + 1, 0, none⟩)]] 84)).heap.size = w.heap.size + 5 := by simp
  have hat5 := V.At.move (w' := ((((w.alloc (.cells #[.int .i64 k, .int .i64 n, .string s, .slice a l.length c] 42)).alloc (.cells #[.int .i64 0] 3)).alloc (.cells #[.int .i64 0] 3)).alloc (.cells #[.bool true] 4)).alloc (.cells #[.func (.func 51) #[] #[.pointer (some ⟨w.heap.size + 1, 0, none⟩), .pointer (some ⟨w.heap.size + 1 + 1, 0, none⟩), .pointer (some ⟨w.heap.size + 1 + 1 + 1, 0, none⟩), .pointer (some ⟨w.heap.size + 1 + 1 + 1 + 1, 0, none⟩)]] 84)) (fun _ h => h) (fun b hb => HB5.out.block b (HS.out b hb)) _ _ HAT.out
  have hcall := H.out _ (w.heap.size + 1) HR5.out (by rw [hsz]; omega) (fun b hb => ⟨by rw [hsz]; have := HS.out b hb; omega, .inl (by have := HS.out b hb; omega)⟩) hat5
  have HCALL := Lib.hid hcall
  clear H hat5 hcall
  generalize ((((w.alloc (.cells #[.int .i64 k, .int .i64 n, .string s, .slice a l.length c] 42)).alloc (.cells #[.int .i64 0] 3)).alloc (.cells #[.int .i64 0] 3)).alloc (.cells #[.bool true] 4)).alloc (.cells #[.func (.func 51) #[] #[.pointer (some ⟨w.heap.size + 1, 0, none⟩), .pointer (some ⟨w.heap.size + 1 + 1, 0, none⟩), .pointer (some ⟨w.heap.size + 1 + 1 + 1, 0, none⟩), .pointer (some ⟨w.heap.size + 1 + 1 + 1 + 1, 0, none⟩)]] 84) = w5 at *
  refine HCALL.out.mono ?_
  clear HCALL HR5 HAT
  rintro e w6 ⟨rfl, hr6, hw6⟩
  have m0 := hr6.m.cell
  have d0 := hr6.d.cell
  have o0 := hr6.o.cell
  have HB6 : Hid (Below w.heap.size w w6) := Lib.hid (HB5.out.trans ⟨hw6.os, hw6.tape, hw6.output, hw6.size, fun i hi => hw6.block i (by omega) (.inl (by omega))⟩)
  clear hr6 hw6 HB5
  obtain ⟨zm, zd, zo⟩ := z
  have hy := HZ.out
  clear HZ
  dsimp only at hy m0 d0 o0
  by_cases h1 : 4000 < zm
  · have h1i : (4000 : Int) < (zm : Int) := by omega
    have HY : Hid (y = 2) := Lib.hid (by rw [hy, if_pos h1])
    clear hy h1
    go_wp2_with fail
    go_ret
    exact ⟨by rw [HY.out]; rfl, HB6.out⟩
  · have h1i : (zm : Int) ≤ 4000 := by omega
    rw [if_neg h1] at hy
    by_cases h2 : 30 < zd
    · have h2i : (30 : Int) < (zd : Int) := by omega
      have HY : Hid (y = 12) := Lib.hid (by rw [hy, if_pos h2])
      clear hy h1 h2
      go_wp2_with fail
      go_ret
      exact ⟨by rw [HY.out]; rfl, HB6.out⟩
    · have h2i : (zd : Int) ≤ 30 := by omega
      rw [if_neg h2] at hy
      cases zo with
      | true =>
        have HY : Hid (y = 0) := Lib.hid (by rw [hy]; rfl)
        clear hy h1 h2
        go_wp2_with fail
        go_ret
        exact ⟨by rw [HY.out]; rfl, HB6.out⟩
      | false =>
        have HY : Hid (y = 1) := Lib.hid (by rw [hy]; rfl)
        clear hy h1 h2
        go_wp2_with fail
        go_ret
        exact ⟨by rw [HY.out]; rfl, HB6.out⟩
end Go.Proofs.YtdlnabjledhiiaaDoor
