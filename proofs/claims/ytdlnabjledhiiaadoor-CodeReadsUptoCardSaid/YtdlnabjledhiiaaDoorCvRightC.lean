/-
  The walk of the closure of code.Right where it is near.
-/
import Derived.Test.YtdlnabjledhiiaaDoorCvRightA
namespace Go.Proofs.YtdlnabjledhiiaaDoor
open Go.RowKit
set_option linter.unusedVariables false

set_option maxRecDepth 20000 in
set_option maxHeartbeats 4000000 in
theorem right1_near (B : Nat) (k n : Int) (s : ByteArray) (a : Option Addr) (c : Nat) (l : List V) (deep : Nat) (st : RS) (w : World) (h : RtAt w B st) (hB : B + 3 < w.heap.size) (hf : ¬ 4000 < st.many + 1)
    (S : Nat → Prop) (hS : Hid (∀ b, S b → b < w.heap.size ∧ (b < B ∨ B + 3 < b))) (hc : l.length ≤ c) (hall : Hid (VAll w S a 0 l)) (hcnt : st.many + 1 + cntAll l ≤ 4611686018427387904) (hdeep : deep ≤ st.many + 1)
    (IH : Hid (∀ y ∈ l, ∀ (cs : List Value) (deep : Nat) (st : RS) (w : World), RtAt w B st → B + 3 < w.heap.size → (∀ b, S b → b < w.heap.size ∧ (b < B ∨ B + 3 < b)) → V.At w S y cs → st.many + y.cnt ≤ 4611686018427387904 → deep ≤ st.many + 1 →
      Calls Tryd.prog 51 #[.agg cs.toArray, .int .i64 (deep : Int), .pointer (some ⟨B, 0, none⟩), .pointer (some ⟨B + 1, 0, none⟩), .pointer (some ⟨B + 2, 0, none⟩), .pointer (some ⟨B + 3, 0, none⟩)] w (RPost B (rightGo y deep st) w)))
    (x : RS) (hx : Hid (x = rightAll l (deep + 1) ⟨st.many + 1, max st.deepest deep, st.ok && rightOne k n s l⟩)) :
    Calls Tryd.prog 51 #[.agg #[.int .i64 k, .int .i64 n, .string s, .slice a l.length c], .int .i64 (deep : Int), .pointer (some ⟨B, 0, none⟩), .pointer (some ⟨B + 1, 0, none⟩), .pointer (some ⟨B + 2, 0, none⟩), .pointer (some ⟨B + 3, 0, none⟩)] w (RPost B x w) := by
  have hmi : (st.many : Int) + 1 ≤ 4000 := by omega
  have H := Lib.hid h
  have h2 := h.kept (World.grownBy_alloc w (.cells #[.int .i64 k, .int .i64 n, .string s, .slice a l.length c] 42) none) (fun i e => by cases e)
  have m0 := h2.m.cell
  have m1 := h2.m.frozen
  have d0 := h2.d.cell
  have d1 := h2.d.frozen
  have o0 := h2.o.cell
  have o1 := h2.o.frozen
  have HN := Lib.hid (Four.new w 42 (.int .i64 k) (.int .i64 n) (.string s) (.slice a l.length c))
  have n0 := HN.out.c0
  have n1 := HN.out.c1
  have n2 := HN.out.c2
  have n3 := HN.out.c3
  have HR0 := Lib.hid h2
  clear h h2
  go_enter Tryd.func51, Tryd.ntmps51
  go_upto_block 0 with fail
  have HR1 : Hid (RtAt (((w.alloc (.cells #[.int .i64 k, .int .i64 n, .string s, .slice a l.length c] 42)).setCell ⟨B, 0, none⟩ (.int .i64 ((st.many : Int) + 1))).setCell ⟨B + 1, 0, none⟩ (.int .i64 (max (st.deepest : Int) (deep : Int)))) B ⟨st.many + 1, max st.deepest deep, st.ok⟩) := by
    refine Lib.hid ⟨?_, ?_, ?_, ?_⟩
    · show Boxed _ B 3 (.int .i64 ((st.many + 1 : Nat) : Int))
      rw [Int.natCast_add]
      exact (HR0.out.m.set _).kept (grown_setCell _ (B + 1) 0 _) (by simp)
    · show Boxed _ (B + 1) 3 (.int .i64 ((max st.deepest deep : Nat) : Int))
      rw [show ((max st.deepest deep : Nat) : Int) = max (st.deepest : Int) (deep : Int) by omega]
      exact (HR0.out.d.kept (grown_setCell _ B 0 _) (by simp)).set _
    · exact (HR0.out.o.kept (grown_setCell _ B 0 _) (by simp)).kept (grown_setCell _ (B + 1) 0 _) (by simp)
    · exact (HR0.out.f.kept (grown_setCell _ B 0 _) (by simp)).kept (grown_setCell _ (B + 1) 0 _) (by simp)
  have HW1 : Hid (Wrote B w (((w.alloc (.cells #[.int .i64 k, .int .i64 n, .string s, .slice a l.length c] 42)).setCell ⟨B, 0, none⟩ (.int .i64 ((st.many : Int) + 1))).setCell ⟨B + 1, 0, none⟩ (.int .i64 (max (st.deepest : Int) (deep : Int))))) := Lib.hid ((((Wrote.refl B w).grown (World.grownBy_alloc w _ none) (fun i e => by cases e)).grown (grown_setCell _ B 0 _) (fun i e => by cases e; omega)).grown (grown_setCell _ (B + 1) 0 _) (fun i e => by cases e; omega))
  have HN1 : Hid (Four (((w.alloc (.cells #[.int .i64 k, .int .i64 n, .string s, .slice a l.length c] 42)).setCell ⟨B, 0, none⟩ (.int .i64 ((st.many : Int) + 1))).setCell ⟨B + 1, 0, none⟩ (.int .i64 (max (st.deepest : Int) (deep : Int)))) w.heap.size 42 (.int .i64 k) (.int .i64 n) (.string s) (.slice a l.length c)) := Lib.hid ((HN.out.kept (grown_setCell _ B 0 _) (by simp; omega)).kept (grown_setCell _ (B + 1) 0 _) (by simp; omega))
  clear m0 m1 d0 d1 o0 o1 n0 n1 n2 n3
  generalize (((w.alloc (.cells #[.int .i64 k, .int .i64 n, .string s, .slice a l.length c] 42)).setCell ⟨B, 0, none⟩ (.int .i64 ((st.many : Int) + 1))).setCell ⟨B + 1, 0, none⟩ (.int .i64 (max (st.deepest : Int) (deep : Int)))) = w1 at *
  clear HR0 HN
  go_cut [] (fun w' => Hid (RtAt w' B ⟨st.many + 1, max st.deepest deep, st.ok && rightOne k n s l⟩) ∧ Hid (Wrote B w w') ∧ Hid (Four w' w.heap.size 42 (.int .i64 k) (.int .i64 n) (.string s) (.slice a l.length c)))
  case first =>
    have o0 := HR1.out.o.cell
    have o1 := HR1.out.o.frozen
    have n0 := HN1.out.c0
    have n1 := HN1.out.c1
    have n2 := HN1.out.c2
    have n3 := HN1.out.c3
    have fin : Hid (∀ v : Bool, v = (st.ok && rightOne k n s l) → Hid (RtAt (w1.setCell ⟨B + 2, 0, none⟩ (.bool v)) B ⟨st.many + 1, max st.deepest deep, st.ok && rightOne k n s l⟩) ∧ Hid (Wrote B w (w1.setCell ⟨B + 2, 0, none⟩ (.bool v))) ∧ Hid (Four (w1.setCell ⟨B + 2, 0, none⟩ (.bool v)) w.heap.size 42 (.int .i64 k) (.int .i64 n) (.string s) (.slice a l.length c))) := by
      refine Lib.hid fun v hv => ?_
      subst hv
      have hg := grown_setCell w1 (B + 2) 0 (.bool (st.ok && rightOne k n s l))
      exact ⟨Lib.hid ⟨HR1.out.m.kept hg (by simp), HR1.out.d.kept hg (by simp), HR1.out.o.set _, HR1.out.f.kept hg (by simp)⟩, Lib.hid (HW1.out.grown hg (fun i e => by cases e; omega)), Lib.hid (HN1.out.kept hg (by simp; omega))⟩
    have hlen : ∀ z : List V, z.length = 0 → ((z.length : Int) == 0) = true := fun z h => by rw [h]; rfl
    have hlen2 : ∀ z : List V, z.length ≠ 0 → ((z.length : Int) == 0) = false := fun z h => by rw [beq_eq_false_iff_ne]; omega
    have HL1 := Lib.hid hlen
    have HL2 := Lib.hid hlen2
    clear hlen hlen2
    cases hok : st.ok with
    | false =>
      rw [hok] at o0
      have HOK := Lib.hid hok
      clear hok
      by_cases h1 : k = 1
      · subst h1
        go_wp2_with fail
        go_meet
        exact fin.out false (by rw [HOK.out]; rfl)
      · by_cases h2 : k = 2
        · subst h2
          clear h1
          go_wp2_with fail
          go_meet
          exact fin.out false (by rw [HOK.out]; rfl)
        · by_cases h3 : k = 3
          · subst h3
            clear h1 h2
            go_wp2_with fail
            go_meet
            exact fin.out false (by rw [HOK.out]; rfl)
          · have p1 : (k == 1) = false := by simpa using h1
            have p2 : (k == 2) = false := by simpa using h2
            have p3 : (k == 3) = false := by simpa using h3
            clear h1 h2 h3
            go_wp2_with fail
            go_meet
            exact fin.out false (by rw [HOK.out]; rfl)
    | true =>
      rw [hok] at o0
      have HOK := Lib.hid hok
      clear hok
      by_cases h1 : k = 1
      · subst h1
        by_cases hs0 : s.size = 0
        · obtain rfl := size0 hs0
          by_cases hl : l.length = 0
          · have p1 := HL1.out l hl
            have R : Hid (rightOne 1 n ⟨#[]⟩ l = true) := Lib.hid (by simp [rightOne, hl]; rfl)
            clear hl hs0
            go_wp2_with fail
            go_meet
            exact fin.out true (by rw [HOK.out, R.out]; rfl)
          · have p1 := HL2.out l hl
            have R : Hid (rightOne 1 n ⟨#[]⟩ l = false) := Lib.hid (by simp only [rightOne, if_pos]; simp [hl])
            clear hl hs0
            go_wp2_with fail
            go_meet
            exact fin.out false (by rw [HOK.out, R.out]; rfl)
        · have e1 := isEmpty_no hs0
          have e2 := eqNil_no hs0
          have R : Hid (rightOne 1 n s l = false) := Lib.hid (by simp [rightOne, hs0])
          clear hs0
          go_wp2_with fail
          go_meet
          exact fin.out false (by rw [HOK.out, R.out]; rfl)
      · by_cases h2 : k = 2
        · subst h2
          clear h1
          by_cases hn : n = 0
          · subst hn
            by_cases hl : l.length = 0
            · have p1 := HL1.out l hl
              have R : Hid (rightOne 2 0 s l = true) := Lib.hid (by simp [rightOne, hl])
              clear hl
              go_wp2_with fail
              go_meet
              exact fin.out true (by rw [HOK.out, R.out]; rfl)
            · have p1 := HL2.out l hl
              have R : Hid (rightOne 2 0 s l = false) := Lib.hid (by simp [rightOne]; simpa using hl)
              clear hl
              go_wp2_with fail
              go_meet
              exact fin.out false (by rw [HOK.out, R.out]; rfl)
          · have p2 : (n == 0) = false := by simpa using hn
            have R : Hid (rightOne 2 n s l = false) := Lib.hid (by simp [rightOne, hn])
            clear hn
            go_wp2_with fail
            go_meet
            exact fin.out false (by rw [HOK.out, R.out]; rfl)
        · by_cases h3 : k = 3
          · subst h3
            clear h1 h2
            by_cases hn : n = 0
            · subst hn
              by_cases hs0 : s.size = 0
              · obtain rfl := size0 hs0
                clear hs0
                have R : Hid (rightOne 3 0 ⟨#[]⟩ l = true) := Lib.hid (by simp [rightOne]; rfl)
                go_wp2_with fail
                go_meet
                exact fin.out true (by rw [HOK.out, R.out]; rfl)
              · have e1 := isEmpty_no hs0
                have e2 := eqNil_no hs0
                have R : Hid (rightOne 3 0 s l = false) := Lib.hid (by simp [rightOne, hs0])
                clear hs0
                go_wp2_with fail
                go_meet
                exact fin.out false (by rw [HOK.out, R.out]; rfl)
            · have p2 : (n == 0) = false := by simpa using hn
              have R : Hid (rightOne 3 n s l = false) := Lib.hid (by simp [rightOne, hn])
              clear hn
              go_wp2_with fail
              go_meet
              exact fin.out false (by rw [HOK.out, R.out]; rfl)
          · have p1 : (k == 1) = false := by simpa using h1
            have p2 : (k == 2) = false := by simpa using h2
            have p3 : (k == 3) = false := by simpa using h3
            have R : Hid (rightOne k n s l = false) := Lib.hid (by simp [rightOne, h1, h2, h3])
            clear h1 h2 h3
            go_wp2_with fail
            go_meet
            exact fin.out false (by rw [HOK.out, R.out]; rfl)
  case rest =>
    obtain ⟨hR, hW, hN⟩ := hcut
    clear HR1 HW1 HN1
    have n0 := hN.out.c0
    have n1 := hN.out.c1
    have n2 := hN.out.c2
    have n3 := hN.out.c3
    have hll := cntAll_ge l
    go_wp2_with fail
    go_loopg [63] l.length (fun gk v wr => ∃ (i : Nat) (sx : RS), i ≤ l.length ∧ gk = l.length - i ∧ v = .int .i64 (i : Int) ∧ st.many + 1 ≤ sx.many ∧ sx.many + cntAll (l.drop i) ≤ 4611686018427387904 ∧ Hid (RtAt wr B sx) ∧ Hid (Wrote B w wr) ∧ Hid (x = rightAll (l.drop i) (deep + 1) sx))
    case atStart => exact ⟨0, _, Nat.zero_le _, rfl, rfl, Nat.le_refl _, by simpa using hcnt, hR, hW, hx⟩
    case round =>
      obtain ⟨i, sx, hi, rfl, rfl, hsx, hsc, hR2, hW2, hX⟩ := hrel
      clear n0 n1 n2 n3
      by_cases hlt : i < l.length
      · have hlti : (i : Int) < (l.length : Int) := by omega
        obtain ⟨b, o, cs, rfl, hb, hat, hcell⟩ := VAll.at 0 l hall.out i hlt
        have hih := IH.out l[i] (List.getElem_mem hlt)
        have hcd := cntAll_drop hlt
        have hst := hX.out
        rw [rightAll_drop hlt] at hst
        have hmany := rightGo_many l[i] (deep + 1) sx
        generalize l[i] = y at *
        obtain ⟨yk, yn, ys, yl⟩ := y
        have hat' := hat
        simp only [V.At] at hat
        obtain ⟨ya, yc, rfl, -, -, -⟩ := hat
        have hcell2 : ∀ j u, [Value.int .i64 yk, .int .i64 yn, .string ys, .slice ya yl.length yc][j]? = some u → wr.cell? ⟨b, o + i * 4 + j, none⟩ = some u := fun j u hj => by
          have := hcell j u hj
          rw [Nat.zero_add] at this
          exact (World.cell?_of_block (hW2.out.block b (hS.out b hb).1 (hS.out b hb).2)).trans this
        have e0 := hcell2 0 _ rfl
        have e1 := hcell2 1 _ rfl
        have e2 := hcell2 2 _ rfl
        have e3 := hcell2 3 _ rfl
        rw [Nat.add_zero] at e0
        have HN3 := Lib.hid (Four.new wr 42 (.int .i64 yk) (.int .i64 yn) (.string ys) (.slice ya yl.length yc))
        have HR3 := Lib.hid (hR2.out.kept (World.grownBy_alloc wr (.cells #[.int .i64 yk, .int .i64 yn, .string ys, .slice ya yl.length yc] 42) none) (fun i e => by cases e))
        have HW3 := Lib.hid (hW2.out.grown (World.grownBy_alloc wr (.cells #[.int .i64 yk, .int .i64 yn, .string ys, .slice ya yl.length yc] 42) none) (fun i e => by cases e))
        have f0 := HR3.out.f.cell
        have n0 := HN3.out.c0
        have n1 := HN3.out.c1
        have n2 := HN3.out.c2
        have n3 := HN3.out.c3
        have HIH := Lib.hid hih
        have HAT := Lib.hid hat'
        have HST := Lib.hid hst
        have HM := Lib.hid hmany
        have hdi : (deep : Int) ≤ 4611686018427387904 := by omega
        have HC := Lib.hid hcd
        clear hih hat' hst hmany hcell hcell2 hcd
        go_wp2_with fail
        have hsz3 := hW2.out.size
        refine (HIH.out _ (deep + 1) sx _ HR3.out (by rw [World.size_alloc]; omega) (fun b' hb' => ⟨by rw [World.size_alloc]; have := (hS.out b' hb').1; omega, (hS.out b' hb').2⟩) (HW3.out.at hS.out HAT.out) (by have := HC.out; omega) (by omega)).mono ?_
        rintro e w4 ⟨rfl, hr4, hw4⟩
        have HR4 := Lib.hid hr4
        have HW4 := Lib.hid (HW3.out.trans hw4)
        clear hr4 hw4 e0 e1 e2 e3 f0 n0 n1 n2 n3
        go_wp2_with fail
        go_roundg (l.length - (i + 1))
        case rel => exact ⟨i + 1, _, hlt, rfl, by go_num, by have := HM.out; omega, by have := HM.out; have := HC.out; omega, HR4, HW4, HST⟩
        case measure => omega
      · obtain rfl : i = l.length := by omega
        have HX : Hid (x = sx) := Lib.hid (by rw [hX.out, List.drop_length, rightAll])
        go_wp2_with fail
        go_end0
        rw [HX.out]
        exact ⟨rfl, hR2.out, hW2.out⟩
end Go.Proofs.YtdlnabjledhiiaaDoor
