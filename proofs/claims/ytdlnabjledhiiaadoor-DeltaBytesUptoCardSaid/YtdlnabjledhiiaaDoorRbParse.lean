/-
  The walk of hornbookref07.Parse: any text is parsed as just that delta, or refused, as by delta.Parse.
-/
import Derived.Test.YtdlnabjledhiiaaDoorDbParse
import Derived.Test.YtdlnabjledhiiaaDoorRfAll
namespace Go.Proofs.YtdlnabjledhiiaaDoor
open Go.RowKit
set_option linter.unusedVariables false

/-- A value as an op that may be. -/
def rOp (y : V) : Option DOp := match vOp y with
  | none => none
  | some o => if o.ok = true then some o else none
def rOps : List V → Option (List DOp)
  | [] => some []
  | x :: r => match rOp x with
    | none => none
    | some o => (rOps r).map (o :: ·)
theorem rOps_drop {l : List V} {i : Nat} (h : i < l.length) : rOps (l.drop i) = match rOp l[i] with
    | none => none
    | some o => (rOps (l.drop (i + 1))).map (o :: ·) := by
  rw [List.drop_eq_getElem_cons h, rOps]
theorem rOps_is : ∀ l : List V, rOps l = match vOps l with
    | none => none
    | some d => if d.all DOp.ok = true then some d else none
  | [] => rfl
  | x :: r => by
    rw [rOps, vOps, rOps_is r, rOp]
    cases vOp x with
    | none => rfl
    | some o =>
      dsimp only
      cases vOps r with
      | none =>
        by_cases h : o.ok = true
        · rw [if_pos h]; rfl
        · rw [if_neg h]; rfl
      | some d =>
        by_cases h : o.ok = true
        · by_cases h2 : d.all DOp.ok = true
          · simp [h, h2]
          · simp [h, h2]
        · simp [h]
theorem opsOf_is (k n : Int) (s : ByteArray) (l : List V) : opsOf (.mk k n s l) = if k = 3 then (match rOps l with
    | none => ([], 70)
    | some d => if d.length ≤ 2000 then (d, 0) else ([], 70)) else (([], 70) : List DOp × Int) := by
  unfold opsOf
  dsimp only
  rw [rOps_is]
  cases vOps l with
  | none => rfl
  | some d =>
    dsimp only
    by_cases h : d.all DOp.ok = true
    · rw [if_pos h]
      dsimp only
      unfold rightB
      by_cases h2 : d.length ≤ 2000
      · simp [h, h2]
      · simp [h2]
    · have : rightB d = false := by unfold rightB; simp [h]
      rw [if_neg h, this]
      simp
theorem opsOf_rnone {k n : Int} {s : ByteArray} {l : List V} (h : rOps l = none) : opsOf (.mk k n s l) = ([], 70) := by
  rw [opsOf_is, h]
  split <;> rfl
/-- The values within have a kind. -/
def Kinds (l : List V) : Prop := ∀ y ∈ l, ∀ k n s r, y = .mk k n s r → k = 1 ∨ k = 2 ∨ k = 3
theorem get_kinds {s : ByteArray} (h : (getL s).bad = 0) : ∀ k n t l, (getL s).v = .mk k n t l → Kinds l := by
  obtain ⟨-, h2, -, h4, -⟩ := getL_ok s h
  obtain ⟨-, h5, -⟩ := put_back h4 h2
  intro k n t l e
  rw [e] at h5
  simp only [RightTo] at h5
  intro y hy k2 n2 s2 r2 e2
  have := h5.2 y hy
  subst e2
  simp only [RightTo] at this
  rcases right_forms this.1 with h | h | h
  · exact .inl h.1
  · exact .inr (.inl h.1)
  · exact .inr (.inr h.1)

set_option maxRecDepth 20000 in
set_option maxHeartbeats 1000000 in
theorem rparse_any (s : ByteArray) (w : World) (hm : s.size ≤ 9223372036854775807) (x : List DOp × Int) (hx : Hid (x = parseGot s)) :
    Calls Tryd.prog 14 #[.string s] w (ParsePost w x) := by
  obtain ⟨i0, hi0, hz0, hz1, hz2⟩ := infoO
  have HI := Lib.hid hi0
  have HZ := Lib.hid (And.intro hz0 (And.intro hz1 hz2))
  have HGET := Lib.hid (rget_any s w hm)
  have HX := Lib.hid (show x = if (getL s).bad = 0 then opsOf (getL s).v else ([], (getL s).bad) from hx.out)
  have HCNT : Hid ((getL s).bad = 0 → (getL s).v.cnt ≤ 4000) := Lib.hid fun h => (getL_ok s h).2.2.1
  have HKS : Hid ((getL s).bad = 0 → ∀ k n t l, (getL s).v = .mk k n t l → Kinds l) := Lib.hid fun h => get_kinds h
  clear hx hi0 hz0 hz1 hz2
  go_enter Tryd.func14, Tryd.ntmps14
  go_wp2_with fail
  refine HGET.out.mono ?_
  generalize getL s = g at *
  rintro e w1 ⟨cs, rfl, hat, hb1⟩
  clear HGET
  obtain ⟨⟨k, n, t, l⟩, bad, at_⟩ := g
  have hat2 := hat
  simp only [V.At] at hat2
  obtain ⟨a, c, rfl, hlc, -, -⟩ := hat2
  have HB2 := Lib.hid (hb1.alloc hb1.size (.cells #[.int .i64 k, .int .i64 n, .string t, .slice a l.length c] 42))
  have HF2 := Lib.hid (Four.new w1 42 (.int .i64 k) (.int .i64 n) (.string t) (.slice a l.length c))
  have HAT := Lib.hid (V.At.move (w' := w1.alloc (.cells #[.int .i64 k, .int .i64 n, .string t, .slice a l.length c] 42)) (T := fun b => b < w1.heap.size) (fun _ (h : _ ∧ _) => h.2) (fun b hb => heap_alloc_old w1 _ hb.2) _ _ hat)
  have hs2 : (w1.alloc (.cells #[.int .i64 k, .int .i64 n, .string t, .slice a l.length c] 42)).heap.size = w1.heap.size + 1 := by simp
  have n0 := HF2.out.c0
  have n3 := HF2.out.c3
  have hs01 := hb1.size
  clear hat hb1
  dsimp only at HX HCNT HKS
  by_cases hbad : bad = 0
  · subst hbad
    have HX2 : Hid (x = opsOf (.mk k n t l)) := Lib.hid (by rw [HX.out, if_pos rfl])
    have HKD : Hid (Kinds l) := Lib.hid (HKS.out rfl k n t l rfl)
    have hcnt := HCNT.out rfl
    rw [V.cnt] at hcnt
    have hln := cntAll_ge l
    clear HX HCNT HKS
    have HO2 : Hid (((w1.alloc (.cells #[.int .i64 k, .int .i64 n, .string t, .slice a l.length c] 42)).alloc (.cells #[] 32)).ownsRow (w1.heap.size + 1) 32 3 (.slice (some ⟨w1.heap.size + 1, 0, none⟩) 0 0) 0 (opsCells [])) := Lib.hid (by
      have := World.ownsRow_made (base := w1.heap.size + 1) (e := 32) (size := 3) (w1.alloc (.cells #[.int .i64 k, .int .i64 n, .string t, .slice a l.length c] 42)) #[] 0 (by rw [hs2]; exact Nat.le_refl _) (by unfold maxLen; omega) (by simp)
      rw [hs2] at this
      exact this)
    have HB3 := Lib.hid (HB2.out.alloc HB2.out.size (.cells #[] 32))
    have HF3 := Lib.hid (HF2.out.alloc (.cells #[] 32))
    have HAT3 := Lib.hid (V.At.move (w' := (w1.alloc (.cells #[.int .i64 k, .int .i64 n, .string t, .slice a l.length c] 42)).alloc (.cells #[] 32)) (T := fun b => b < w1.heap.size) (fun _ h => h) (fun b (hb : b < w1.heap.size) => heap_alloc_old (w1.alloc (.cells #[.int .i64 k, .int .i64 n, .string t, .slice a l.length c] 42)) _ (by omega)) _ _ HAT.out)
    have hs3 : ((w1.alloc (.cells #[.int .i64 k, .int .i64 n, .string t, .slice a l.length c] 42)).alloc (.cells #[] 32)).heap.size = w1.heap.size + 2 := by simp
    have n0 := HF3.out.c0
    have n3 := HF3.out.c3
    go_wp2_with fail
    clear n0 n3 HF2 HAT HB2
    generalize (w1.alloc (.cells #[.int .i64 k, .int .i64 n, .string t, .slice a l.length c] 42)).alloc (.cells #[] 32) = w2 at *
    have hatl := HAT3.out
    simp only [V.At] at hatl
    obtain ⟨a0, c0, hcs, -, -, hall0⟩ := hatl
    simp only [List.cons.injEq, Value.slice.injEq, and_true, true_and] at hcs
    obtain ⟨rfl, -, rfl⟩ := hcs
    have HALL := Lib.hid hall0
    clear hall0 HAT3
    go_loopg [24, 7] l.length (fun gk v u wr => ∃ (i : Nat) (out : List DOp) (va : Option Addr) (vc : Nat), i ≤ l.length ∧ gk = l.length - i ∧ v = .int .i64 (i : Int) ∧ u = .slice va out.length vc ∧ out.length ≤ i ∧ Hid (wr.ownsRow (w1.heap.size + 1) 32 3 (.slice va out.length vc) out.length (opsCells out)) ∧ Hid (Below (w1.heap.size + 1) w2 wr) ∧ Hid (rOps l = (rOps (l.drop i)).map (out ++ ·)))
    case atStart => exact ⟨0, [], _, 0, Nat.zero_le _, rfl, rfl, rfl, Nat.le_refl _, HO2, Lib.hid (Below.refl _ _), Lib.hid (by simp)⟩
    case round =>
      obtain ⟨i, out, va, vc, hi, rfl, rfl, rfl, hol, hO, hW, hV⟩ := hrel
      clear HO2
      by_cases hlt : i < l.length
      · have hlti : (i : Int) < (l.length : Int) := by omega
        obtain ⟨b1, o, cs, rfl, hb, hat, hcell⟩ := VAll.at 0 l HALL.out i hlt
        have hv := hV.out
        rw [rOps_drop hlt] at hv
        have hkd := HKD.out l[i] (List.getElem_mem hlt)
        generalize l[i] = y at *
        obtain ⟨yk, yn, ys, yl⟩ := y
        replace hkd := hkd yk yn ys yl rfl
        have hwz := hW.out.size
        have hat2 := V.At.move (w' := wr) (fun _ h => h) (fun p (hp : p < w1.heap.size) => hW.out.block p (by omega)) _ _ hat
        simp only [V.At] at hat hat2
        generalize hylm : yl.length = m at *
        have HYL := Lib.hid hylm
        clear hylm
        obtain ⟨ya, yc, rfl, -, -, -⟩ := hat
        obtain ⟨ya2, yc2, hcs, hyl, hyn, hyall⟩ := hat2
        simp only [List.cons.injEq, Value.slice.injEq, and_true, true_and] at hcs
        obtain ⟨rfl, -, rfl⟩ := hcs
        have hcell2 : ∀ j u, [Value.int .i64 yk, .int .i64 yn, .string ys, .slice ya m yc][j]? = some u → wr.cell? ⟨b1, o + i * 4 + j, none⟩ = some u := fun j u hj => by
          have := hcell j u hj
          rw [Nat.zero_add] at this
          exact (World.cell?_of_block (hW.out.block b1 (by have : b1 < w1.heap.size := hb; omega))).trans this
        have e0 := hcell2 0 _ rfl
        have e1 := hcell2 1 _ rfl
        have e2 := hcell2 2 _ rfl
        have e3 := hcell2 3 _ rfl
        rw [Nat.add_zero] at e0
        have hs4 : (wr.alloc (.cells #[.int .i64 yk, .int .i64 yn, .string ys, .slice ya m yc] 42)).heap.size = wr.heap.size + 1 := by simp
        have HN4 := Lib.hid ((Four.new wr 42 (.int .i64 yk) (.int .i64 yn) (.string ys) (.slice ya m yc)).alloc (.cells #[.int .i64 0, .int .i64 0, .string ys] 32))
        have HN3 := Lib.hid (Four.new wr 42 (.int .i64 yk) (.int .i64 yn) (.string ys) (.slice ya m yc))
        have HW4 := Lib.hid (((Below.refl wr.heap.size wr).alloc (Nat.le_refl _) (.cells #[.int .i64 yk, .int .i64 yn, .string ys, .slice ya m yc] 42)).alloc (by omega) (.cells #[.int .i64 0, .int .i64 0, .string ys] 32))
        have HP4 : Hid (((wr.alloc (.cells #[.int .i64 yk, .int .i64 yn, .string ys, .slice ya m yc] 42)).alloc (.cells #[.int .i64 0, .int .i64 0, .string ys] 32)).heap[wr.heap.size + 1]? = some (.cells #[.int .i64 0, .int .i64 0, .string ys] 32 (0, 0))) := Lib.hid (by have := heap_alloc_new (wr.alloc (.cells #[.int .i64 yk, .int .i64 yn, .string ys, .slice ya m yc] 42)) (.cells #[.int .i64 0, .int .i64 0, .string ys] 32); rw [hs4] at this; exact this)
        have HYA := Lib.hid (VAll.move (w' := (wr.alloc (.cells #[.int .i64 yk, .int .i64 yn, .string ys, .slice ya m yc] 42)).alloc (.cells #[.int .i64 0, .int .i64 0, .string ys] 32)) (fun _ h => h) (fun p (hp : p < w1.heap.size) => HW4.out.block p (by omega)) _ _ _ hyall)
        have hs5 : ((wr.alloc (.cells #[.int .i64 yk, .int .i64 yn, .string ys, .slice ya m yc] 42)).alloc (.cells #[.int .i64 0, .int .i64 0, .string ys] 32)).heap.size = wr.heap.size + 2 := by simp
        have f0 := HN4.out.c0
        have f2 := HN3.out.c2
        have f3 := HN4.out.c3
        have HV2 := Lib.hid hv
        clear hcell hcell2 hyall hv hV
        go_upto_if 33 with fail
        go_cut [] (fun w' => ∃ (o : DOp), Hid (w'.heap[wr.heap.size + 1]? = some (.cells #[.int .i64 o.f, .int .i64 o.l, .string o.t] 32 (0, 0))) ∧ Hid (Four w' wr.heap.size 42 (.int .i64 yk) (.int .i64 yn) (.string ys) (.slice ya m yc)) ∧ Hid (yk ≠ 1 → rOp (.mk yk yn ys yl) = if o.ok = true then some o else none) ∧ Hid (Below wr.heap.size wr w'))
        case first =>
          by_cases hk3 : yk = 3
          · subst hk3
            by_cases hm2 : m = 2
            · subst hm2
              obtain ⟨⟨k0, v0, s0, l0⟩, ⟨k1, v1, s1, l1⟩, rfl⟩ := two_of HYL.out
              have hya := HYA.out
              simp only [VAll] at hya
              obtain ⟨⟨b0, o0, cs0, rfl, hb0, hat0, hc0⟩, ⟨b0', o0', cs1, he, -, hat1, hc1⟩, -⟩ := hya
              cases he
              simp only [V.At] at hat0 hat1
              obtain ⟨ya0, yc0, rfl, -⟩ := hat0
              obtain ⟨ya1, yc1, rfl, -⟩ := hat1
              have g00 := hc0 0 _ rfl
              have g01 := hc0 1 _ rfl
              have g10 := hc1 0 _ rfl
              have g11 := hc1 1 _ rfl
              clear hc0 hc1 HYA
              simp only [Nat.zero_mul, Nat.add_zero, Nat.zero_add, Nat.one_mul] at g00 g01 g10 g11
              by_cases hk0 : k0 = 1
              · subst hk0
                by_cases hk1 : k1 = 1
                · subst hk1
                  have q0 := (Lib.cell_of_heap HP4.out 0).trans (show _ = some (Value.int .i64 0) from rfl)
                  have q1 := (Lib.cell_of_heap HP4.out 1).trans (show _ = some (Value.int .i64 0) from rfl)
                  have q2 := (Lib.cell_of_heap HP4.out 2).trans (show _ = some (Value.string ys) from rfl)
                  go_wp2_with fail
                  go_region
                  go_wp2_with fail
                  go_meet
                  have h7 := heap_alloc_new (wr.alloc (.cells #[.int .i64 3, .int .i64 yn, .string ys, .slice (some ⟨b0, o0, none⟩) 2 yc] 42)) (.cells #[.int .i64 v0, .int .i64 v1, .string ⟨#[]⟩] 32)
                  rw [hs4] at h7
                  refine ⟨⟨v0, v1, ⟨#[]⟩⟩, Lib.hid h7, Lib.hid ((Four.new wr 42 (.int .i64 3) (.int .i64 yn) (.string ys) (.slice (some ⟨b0, o0, none⟩) 2 yc)).alloc (.cells #[.int .i64 v0, .int .i64 v1, .string ⟨#[]⟩] 32)), Lib.hid (fun _ => ?_), Lib.hid (((Below.refl wr.heap.size wr).alloc (Nat.le_refl _) (.cells #[.int .i64 3, .int .i64 yn, .string ys, .slice (some ⟨b0, o0, none⟩) 2 yc] 42)).alloc (by omega) (.cells #[.int .i64 v0, .int .i64 v1, .string ⟨#[]⟩] 32)).drew⟩
                  rw [rOp, vOp, if_neg (by decide), if_pos rfl, vCopy]
                  by_cases hv1 : 0 < v1
                  · rw [if_pos ⟨rfl, rfl, hv1⟩]
                  · rw [if_neg (fun h => hv1 h.2.2)]
                    have : (DOp.mk v0 v1 ⟨#[]⟩).ok = false := by
                      unfold DOp.ok
                      rw [if_pos (show (⟨#[]⟩ : ByteArray).size = 0 from rfl)]
                      exact decide_eq_false (fun h => hv1 (by have := h.1; dsimp only at this; omega))
                    rw [this]
                    rfl
                · have p5 : (k1 == 1) = false := by simpa using hk1
                  have HVN : Hid (rOps l = none) := Lib.hid (by rw [HV2.out, rOp, vOp, if_neg (by decide), if_pos rfl, vCopy, if_neg (fun h => hk1 h.2.1)]; rfl)
                  have HX3 : Hid (x = ([], 70)) := Lib.hid (by rw [HX2.out, opsOf_rnone (HVN.out)])
                  go_wp2_with fail
                  go_ret2
                  rw [HX3.out]
                  exact ⟨none, 0, 0, rfl, ⟨rfl, .inl rfl⟩, Nat.le_refl _, HB3.out.trans (Below.lower (hW.out.trans (Below.lower HW4.out (by omega))) (by omega))⟩
              · have p5 : (k0 == 1) = false := by simpa using hk0
                have HVN : Hid (rOps l = none) := Lib.hid (by rw [HV2.out, rOp, vOp, if_neg (by decide), if_pos rfl, vCopy, if_neg (fun h => hk0 h.1)]; rfl)
                have HX3 : Hid (x = ([], 70)) := Lib.hid (by rw [HX2.out, opsOf_rnone (HVN.out)])
                go_wp2_with fail
                go_ret2
                rw [HX3.out]
                exact ⟨none, 0, 0, rfl, ⟨rfl, .inl rfl⟩, Nat.le_refl _, HB3.out.trans (Below.lower (hW.out.trans (Below.lower HW4.out (by omega))) (by omega))⟩
            · have p5 : ((m : Int) == 2) = false := by rw [beq_eq_false_iff_ne]; omega
              have HVN : Hid (rOps l = none) := Lib.hid (by rw [HV2.out, rOp, vOp, if_neg (by decide), if_pos rfl, vCopy_len (by rw [HYL.out]; exact hm2)]; rfl)
              have HX3 : Hid (x = ([], 70)) := Lib.hid (by rw [HX2.out, opsOf_rnone (HVN.out)])
              go_wp2_with fail
              go_ret2
              rw [HX3.out]
              exact ⟨none, 0, 0, rfl, ⟨rfl, .inl rfl⟩, Nat.le_refl _, HB3.out.trans (Below.lower (hW.out.trans (Below.lower HW4.out (by omega))) (by omega))⟩
          · have p3 : (yk == 3) = false := by simpa using hk3
            have HR : Hid (yk ≠ 1 → rOp (.mk yk yn ys yl) = if (DOp.mk 0 0 ys).ok = true then some ⟨0, 0, ys⟩ else none) := Lib.hid (fun h1 => by
              obtain rfl : yk = 2 := by omega
              rw [rOp, vOp, if_pos rfl])
            clear hk3
            go_wp2_with fail
            go_meet
            exact ⟨⟨0, 0, ys⟩, HP4, HN4, HR, HW4⟩
        case rest =>
          clear HN3 HN4 HW4 HP4 HYA f0 f2 f3 e0 e1 e2 e3 hs4 hs5
          obtain ⟨o5, HP5, HN5, HR5, HW5⟩ := hcut
          have HW6 := Lib.hid (hW.out.trans (Below.lower HW5.out (by omega)))
          have HO5 := Lib.hid (hO.out.kept (grown_of_below HW5.out none) (by cases hv : (Value.slice va out.length vc).ownBlock <;> simp))
          have q0 := HN5.out.c0
          by_cases hk1 : yk = 1
          · subst hk1
            have HVN : Hid (rOps l = none) := Lib.hid (by rw [HV2.out, rOp, vOp, if_neg (by decide), if_neg (by decide)]; rfl)
            have HX3 : Hid (x = ([], 70)) := Lib.hid (by rw [HX2.out, opsOf_rnone (HVN.out)])
            go_wp2_with fail
            go_ret2
            rw [HX3.out]
            exact ⟨none, 0, 0, rfl, ⟨rfl, .inl rfl⟩, Nat.le_refl _, HB3.out.trans (Below.lower HW6.out (by omega))⟩
          · have p1 : (yk == 1) = false := by simpa using hk1
            have HR6 := Lib.hid (HR5.out hk1)
            clear HR5 hk1
            obtain ⟨f5, l5, t5⟩ := o5
            dsimp only at HP5 HR6
            have q4 := (Lib.cell_of_heap HP5.out 0).trans (show _ = some (Value.int .i64 f5) from rfl)
            have q5 := (Lib.cell_of_heap HP5.out 1).trans (show _ = some (Value.int .i64 l5) from rfl)
            have q6 := (Lib.cell_of_heap HP5.out 2).trans (show _ = some (Value.string t5) from rfl)
            have hop := Lib.hid (fun W => refOp_any ⟨f5, l5, t5⟩ W _ (Lib.hid rfl))
            cases hok : (DOp.mk f5 l5 t5).ok with
            | false =>
              rw [hok] at hop HR6
              have HVN : Hid (rOps l = none) := Lib.hid (by rw [HV2.out, HR6.out]; rfl)
              have HX3 : Hid (x = ([], 70)) := Lib.hid (by rw [HX2.out, opsOf_rnone (HVN.out)])
              clear hok
              go_wp2_with fail
              refine (hop.out _).mono ?_
              rintro e w6 ⟨rfl, hb6⟩
              have HB6 := Lib.hid (HW6.out.trans (Below.lower hb6 (by have := HW6.out.size; omega)))
              clear hop hb6 q0 q4 q5 q6
              go_wp2_with fail
              go_ret2
              rw [HX3.out]
              exact ⟨none, 0, 0, rfl, ⟨rfl, .inl rfl⟩, Nat.le_refl _, HB3.out.trans (Below.lower HB6.out (by omega))⟩
            | true =>
              rw [hok] at hop HR6
              have HV3 : Hid (rOps l = (rOps (l.drop (i + 1))).map ((out ++ [⟨f5, l5, t5⟩]) ++ ·)) := Lib.hid (by rw [HV2.out, HR6.out]; simp [Option.map_map, Function.comp_def])
              clear hok HR6 HV2
              go_wp2_with fail
              refine (hop.out _).mono ?_
              rintro e w6 ⟨rfl, hb6⟩
              have HB6 := Lib.hid (HW6.out.trans (Below.lower hb6 (by have := HW6.out.size; omega)))
              have HP6 := Lib.hid ((hb6.block _ (lt_of_block HP5.out)).trans HP5.out)
              have HO6 := Lib.hid (HO5.out.kept (grown_of_below hb6 none) (by cases hv : (Value.slice va out.length vc).ownBlock <;> simp))
              clear hop hb6 q0 q4 q5 q6 HP5 HO5 HW6 HN5
              have q4 := (Lib.cell_of_heap HP6.out 0).trans (show _ = some (Value.int .i64 f5) from rfl)
              have q5 := (Lib.cell_of_heap HP6.out 1).trans (show _ = some (Value.int .i64 l5) from rfl)
              have q6 := (Lib.cell_of_heap HP6.out 2).trans (show _ = some (Value.string t5) from rfl)
              go_wp2_with (at_builtin; refine Stop.go ?_)
              unfold Stop
              refine wpList_appOps _ rfl _ _ 22 rfl (w1.heap.size + 1) 32 i0 _ 32 underO HI.out HZ.out.1 HZ.out.2.1 HZ.out.2.2 rfl _ out.length out (HO6.out.alloc _) rfl (some ⟨w6.heap.size, 0, none⟩) 1 1 [⟨f5, l5, t5⟩] rfl ?_ (fun e => by cases e) (by unfold maxLen; omega) (by omega) (by have := HB6.out.size; simp; omega) ?_
              · exact opsSl_one w6 ⟨f5, l5, t5⟩ 32
              intro v7 w7 ho7 hg7
              have hlt7 := HO6.out.lt
              have HW7 := Lib.hid ((HB6.out.alloc (by have := HB6.out.size; omega) (.cells #[.int .i64 f5, .int .i64 l5, .string t5] 32)).grown hg7 (by have := HB6.out.size; simp at this ⊢; omega) (fun k e => (hlt7 k e).1))
              have hlen7 : (out ++ [(⟨f5, l5, t5⟩ : DOp)]).length = out.length + 1 := by simp
              obtain ⟨a7, c7, rfl, -⟩ := own_ops ho7
              rw [← hlen7] at ho7
              have HO7 := Lib.hid ho7
              have HLEN := Lib.hid hlen7
              clear q4 q5 q6 ho7 hg7 hlt7 HO6 HB6 HP6 hO hW hlen7
              go_wp2_with fail
              go_roundg (l.length - (i + 1))
              case rel => exact ⟨i + 1, out ++ [⟨f5, l5, t5⟩], a7, c7, hlt, rfl, by go_num, by rw [HLEN.out], by rw [HLEN.out]; omega, HO7, HW7, HV3⟩
              case measure => omega
      · obtain rfl : i = l.length := by omega
        have hv := hV.out
        rw [List.drop_length, rOps] at hv
        have hv2 : rOps l = some out := by rw [hv]; simp
        obtain ⟨a5, c5, he, hn5, hsl, -, hnc, -⟩ := own_ops hO.out
        cases he
        have hs0 := HB3.out.size
        have HX3 : Hid (x = if k = 3 then (if out.length ≤ 2000 then (out, 0) else ([], 70)) else ([], 70)) := Lib.hid (by rw [HX2.out, opsOf_is, hv2])
        have HSL := Lib.hid hsl
        have HBW := Lib.hid (HB3.out.trans (Below.lower hW.out (by omega)))
        have HFW : Hid (Four wr w1.heap.size 42 (.int .i64 k) (.int .i64 n) (.string t) (.slice a l.length c)) := Lib.hid ((hW.out.block _ (by omega)).trans HF3.out)
        have n0 := HFW.out.c0
        have hvl := HSL.out.1
        clear hv hv2 hV hsl HX2 hO hn5
        by_cases hk : k = 3
        · subst hk
          by_cases hl2 : out.length ≤ 2000
          · have hl3 : (out.length : Int) ≤ 2000 := by omega
            have HX4 : Hid (x = (out, 0)) := Lib.hid (by rw [HX3.out, if_pos rfl, if_pos hl2])
            clear HX3 hl2
            go_wp2_with fail
            go_ret2
            rw [HX4.out]
            exact ⟨_, _, _, rfl, HSL.out, hnc, HBW.out⟩
          · have hl3 : (2000 : Int) < (out.length : Int) := by omega
            have HX4 : Hid (x = ([], 70)) := Lib.hid (by rw [HX3.out, if_pos rfl, if_neg hl2])
            clear HX3 hl2
            go_wp2_with fail
            go_ret2
            rw [HX4.out]
            exact ⟨none, 0, 0, rfl, ⟨rfl, .inl rfl⟩, Nat.le_refl _, HBW.out⟩
        · have p1 : (k != 3) = true := by simpa using hk
          have HX4 : Hid (x = ([], 70)) := Lib.hid (by rw [HX3.out, if_neg hk])
          clear HX3 hk
          go_wp2_with fail
          go_ret2
          rw [HX4.out]
          exact ⟨none, 0, 0, rfl, ⟨rfl, .inl rfl⟩, Nat.le_refl _, HBW.out⟩
  · have p1 : (bad != 0) = true := by simpa using hbad
    have p2 : (bad == 0) = false := by simpa using hbad
    have HX2 : Hid (x = ([], bad)) := Lib.hid (by rw [HX.out, if_neg hbad])
    clear HX HCNT hbad HKS
    go_wp2_with fail
    go_ret2
    rw [HX2.out]
    exact ⟨none, 0, 0, rfl, ⟨rfl, .inl rfl⟩, Nat.le_refl _, HB2.out⟩
end Go.Proofs.YtdlnabjledhiiaaDoor
