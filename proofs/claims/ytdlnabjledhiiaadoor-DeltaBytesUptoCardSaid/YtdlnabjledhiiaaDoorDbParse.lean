/-
  The walk of delta.Parse: any text is parsed as just that delta, or refused.
-/
import Derived.Test.YtdlnabjledhiiaaDoorDbP
import Derived.Test.YtdlnabjledhiiaaDoorDlWalkB
import Derived.Test.YtdlnabjledhiiaaDoorOpsRow
import Derived.Test.YtdlnabjledhiiaaDoorCvValue
import Derived.Test.YtdlnabjledhiiaaDoorCvGet
import Derived.Test.YtdlnabjledhiiaaDoorPvClosure
import Derived.Test.YtdlnabjledhiiaaDoorDbBytes
import Derived.Test.YtdlnabjledhiiaaDoorDbReg
namespace Go.Proofs.YtdlnabjledhiiaaDoor
open Go.RowKit
set_option linter.unusedVariables false

def ParsePost (w : World) (x : List DOp × Int) (e : Ending) (w' : World) : Prop :=
  ∃ (a : Option Addr) (n c : Nat), e = .returned (.tuple #[.slice a n c, .int .i64 x.2]) ∧ OpsSl w' a n x.1 ∧ n ≤ c ∧ Below w.heap.size w w'
theorem vOps_drop {l : List V} {i : Nat} (h : i < l.length) : vOps (l.drop i) = match vOp l[i] with
    | none => none
    | some o => (vOps (l.drop (i + 1))).map (o :: ·) := by
  rw [List.drop_eq_getElem_cons h, vOps]
  cases vOp l[i] <;> rfl
theorem infoO : ∃ i, Tryd.prog.info? 32 = some i ∧ i.zero = some (.agg #[.int .i64 0, .int .i64 0, .string ⟨#[]⟩]) ∧ i.size = 3 ∧ i.bytes = 32 := by
  have h := infoOp
  cases hi : Tryd.prog.info? 32 with
  | none => rw [hi] at h; cases h
  | some i =>
    rw [hi] at h
    simp only [Option.map_some, Option.some.injEq, Prod.mk.injEq] at h
    exact ⟨i, rfl, h.1, h.2.1, h.2.2⟩
theorem underO : Tryd.prog.underlying 22 = some (.slice 32) := by kernel_rfl
theorem vCopy_len {l : List V} (h : l.length ≠ 2) : vCopy l = none := by
  unfold vCopy
  split
  · exact absurd rfl h
  · rfl
theorem two_of {l : List V} (h : l.length = 2) : ∃ x y, l = [x, y] := by
  match l, h with
  | [x, y], _ => exact ⟨x, y, rfl⟩
theorem opsOf_none {k n : Int} {s : ByteArray} {l : List V} (h : vOps l = none) : opsOf (.mk k n s l) = ([], 70) := by
  unfold opsOf
  dsimp only
  rw [h]
  split <;> rfl
set_option maxRecDepth 20000 in
set_option maxHeartbeats 1000000 in
theorem parse_any (s : ByteArray) (w : World) (hm : s.size ≤ 9223372036854775807) (x : List DOp × Int) (hx : Hid (x = parseGot s)) :
    Calls Tryd.prog 10 #[.string s] w (ParsePost w x) := by
  obtain ⟨i0, hi0, hz0, hz1, hz2⟩ := infoO
  have HI := Lib.hid hi0
  have HZ := Lib.hid (And.intro hz0 (And.intro hz1 hz2))
  have HGET := Lib.hid (get_any s w hm)
  have HX := Lib.hid (show x = if (getL s).bad = 0 then opsOf (getL s).v else ([], (getL s).bad) from hx.out)
  have HCNT : Hid ((getL s).bad = 0 → (getL s).v.cnt ≤ 4000) := Lib.hid fun h => (getL_ok s h).2.2.1
  clear hx hi0 hz0 hz1 hz2
  go_enter Tryd.func10, Tryd.ntmps10
  go_wp2_with fail
  refine HGET.out.mono ?_
  generalize getL s = g at *
  rintro e w1 ⟨cs, rfl, hat, hb1⟩
  clear HGET
  obtain ⟨⟨k, n, t, l⟩, bad, at_⟩ := g
  have hat2 := hat
  simp only [V.At] at hat2
  obtain ⟨a, c, rfl, hlc, -, -⟩ := hat2
  have HB2 := Lib.hid (hb1.alloc hb1.size (.cells #[.int .i64 k, .int .i64 n, .string t, .slice a l.length c] 42))
  have HF2 := Lib.hid (Four.new w1 42 (.int .i64 k) (.int .i64 n) (.string t) (.slice a l.length c))
  have HAT := Lib.hid (V.At.move (w' := w1.alloc (.cells #[.int .i64 k, .int .i64 n, .string t, .slice a l.length c] 42)) (T := fun b => b < w1.heap.size) (fun _ (h : _ ∧ _) => h.2) (fun b hb => heap_alloc_old w1 _ hb.2) _ _ hat)
  have hs2 : (w1.alloc (.cells #[.int .i64 k, .int .i64 n, .string t, .slice a l.length c] 42)).heap.size = w1.heap.size + 1 := by simp
  have n0 := HF2.out.c0
  have n3 := HF2.out.c3
  clear hat hb1
  dsimp only at HX HCNT
  by_cases hbad : bad = 0
  · subst hbad
    have HX2 : Hid (x = opsOf (.mk k n t l)) := Lib.hid (by rw [HX.out, if_pos rfl])
    have hcnt := HCNT.out rfl
    rw [V.cnt] at hcnt
    have hln := cntAll_ge l
    clear HX HCNT
    by_cases hk : k = 3
    · subst hk
      go_wp2_with fail
      clear n0 n3 HF2
      generalize (w1.alloc (.cells #[.int .i64 3, .int .i64 n, .string t, .slice a l.length c] 42)) = w2 at *
      have hatl := HAT.out
      simp only [V.At] at hatl
      obtain ⟨a0, c0, hcs, -, -, hall0⟩ := hatl
      simp only [List.cons.injEq, Value.slice.injEq, and_true, true_and] at hcs
      obtain ⟨rfl, -, rfl⟩ := hcs
      have HALL := Lib.hid hall0
      clear hall0 HAT
      go_loopg [25, 7] l.length (fun gk v u wr => ∃ (i : Nat) (out : List DOp) (va : Option Addr) (vc : Nat), i ≤ l.length ∧ gk = l.length - i ∧ v = .int .i64 (i : Int) ∧ u = .slice va out.length vc ∧ out.length ≤ i ∧ Hid (wr.ownsRow w2.heap.size 32 3 (.slice va out.length vc) out.length (opsCells out)) ∧ Hid (Below w2.heap.size w2 wr) ∧ Hid (vOps l = (vOps (l.drop i)).map (out ++ ·)))
      case atStart => exact ⟨0, [], none, 0, Nat.zero_le _, rfl, rfl, rfl, Nat.le_refl _, Lib.hid (World.ownsRow_nil _ _ _ _), Lib.hid (Below.refl _ _), Lib.hid (by simp)⟩
      case round =>
        obtain ⟨i, out, va, vc, hi, rfl, rfl, rfl, hol, hO, hW, hV⟩ := hrel
        by_cases hlt : i < l.length
        · have hlti : (i : Int) < (l.length : Int) := by omega
          obtain ⟨b1, o, cs, rfl, hb, hat, hcell⟩ := VAll.at 0 l HALL.out i hlt
          have hv := hV.out
          rw [vOps_drop hlt] at hv
          generalize l[i] = y at *
          obtain ⟨yk, yn, ys, yl⟩ := y
          have hat2 := V.At.move (w' := wr) (fun _ h => h) (fun p (hp : p < w1.heap.size) => hW.out.block p (by omega)) _ _ hat
          simp only [V.At] at hat hat2
          generalize hylm : yl.length = m at *
          have HYL := Lib.hid hylm
          clear hylm
          obtain ⟨ya, yc, rfl, -, -, -⟩ := hat
          obtain ⟨ya2, yc2, hcs, hyl, hyn, hyall⟩ := hat2
          simp only [List.cons.injEq, Value.slice.injEq, and_true, true_and] at hcs
          obtain ⟨rfl, -, rfl⟩ := hcs
          have hcell2 : ∀ j u, [Value.int .i64 yk, .int .i64 yn, .string ys, .slice ya m yc][j]? = some u → wr.cell? ⟨b1, o + i * 4 + j, none⟩ = some u := fun j u hj => by
            have := hcell j u hj
            rw [Nat.zero_add] at this
            exact (World.cell?_of_block (hW.out.block b1 (by have : b1 < w1.heap.size := hb; omega))).trans this
          have e0 := hcell2 0 _ rfl
          have e1 := hcell2 1 _ rfl
          have e2 := hcell2 2 _ rfl
          have e3 := hcell2 3 _ rfl
          rw [Nat.add_zero] at e0
          have HN3 := Lib.hid (Four.new wr 42 (.int .i64 yk) (.int .i64 yn) (.string ys) (.slice ya m yc))
          have HO3 := Lib.hid (hO.out.alloc (.cells #[.int .i64 yk, .int .i64 yn, .string ys, .slice ya m yc] 42))
          have HW3 := Lib.hid (hW.out.alloc hW.out.size (.cells #[.int .i64 yk, .int .i64 yn, .string ys, .slice ya m yc] 42))
          have HYA := Lib.hid (VAll.move (w' := wr.alloc (.cells #[.int .i64 yk, .int .i64 yn, .string ys, .slice ya m yc] 42)) (fun _ h => h) (fun p (hp : p < w1.heap.size) => heap_alloc_old wr _ (by have := hW.out.size; omega)) _ _ _ hyall)
          have f0 := HN3.out.c0
          have f2 := HN3.out.c2
          have f3 := HN3.out.c3
          have HV2 := Lib.hid hv
          have hs3 : (wr.alloc (.cells #[.int .i64 yk, .int .i64 yn, .string ys, .slice ya m yc] 42)).heap.size = wr.heap.size + 1 := by simp
          clear hcell hcell2 hyall hv hV
          by_cases hk2 : yk = 2
          · subst hk2
            have HV3 : Hid (vOps l = (vOps (l.drop (i + 1))).map ((out ++ [⟨0, 0, ys⟩]) ++ ·)) := Lib.hid (by rw [HV2.out, vOp, if_pos rfl]; simp [Option.map_map, Function.comp_def])
            clear HV2
            go_wp2_with (at_builtin; refine Stop.go ?_)
            unfold Stop
            refine wpList_appOps _ rfl _ _ 22 rfl w2.heap.size 32 i0 _ 32 underO HI.out HZ.out.1 HZ.out.2.1 HZ.out.2.2 rfl _ out.length out (HO3.out.alloc _) rfl (some ⟨wr.heap.size + 1, 0, none⟩) 1 1 [⟨0, 0, ys⟩] rfl ?_ (fun e => by cases e) (by unfold maxLen; omega) (by omega) (by have := hW.out.size; simp; omega) ?_
            · have := opsSl_one (wr.alloc (.cells #[.int .i64 2, .int .i64 yn, .string ys, .slice ya m yc] 42)) ⟨0, 0, ys⟩ 32
              rw [hs3] at this
              exact this
            intro v5 w5 ho5 hg5
            have hlt5 := HO3.out.lt
            have HW5 := Lib.hid ((HW3.out.alloc HW3.out.size (.cells #[.int .i64 0, .int .i64 0, .string ys] 32)).grown hg5 (by have := HW3.out.size; simp at this ⊢; omega) (fun k e => (hlt5 k e).1))
            have hlen5 : (out ++ [(⟨0, 0, ys⟩ : DOp)]).length = out.length + 1 := by simp
            obtain ⟨a5, c5, rfl, -⟩ := own_ops ho5
            rw [← hlen5] at ho5
            have HO5 := Lib.hid ho5
            have HLEN := Lib.hid hlen5
            clear e0 e1 e2 e3 f0 f2 f3 ho5 hg5 hlt5 HO3 HW3 HN3 hO hW HYA hlen5
            go_wp2_with fail
            go_roundg (l.length - (i + 1))
            case rel => exact ⟨i + 1, out ++ [⟨0, 0, ys⟩], a5, c5, hlt, rfl, by go_num, by rw [HLEN.out], by rw [HLEN.out]; omega, HO5, HW5, HV3⟩
            case measure => omega
          · have p2 : (yk == 2) = false := by simpa using hk2
            by_cases hk3 : yk = 3
            · subst hk3
              by_cases hm2 : m = 2
              · subst hm2
                obtain ⟨⟨k0, v0, s0, l0⟩, ⟨k1, v1, s1, l1⟩, rfl⟩ := two_of HYL.out
                have hya := HYA.out
                simp only [VAll] at hya
                obtain ⟨⟨b0, o0, cs0, rfl, hb0, hat0, hc0⟩, ⟨b0', o0', cs1, he, -, hat1, hc1⟩, -⟩ := hya
                cases he
                simp only [V.At] at hat0 hat1
                obtain ⟨ya0, yc0, rfl, -⟩ := hat0
                obtain ⟨ya1, yc1, rfl, -⟩ := hat1
                have g00 := hc0 0 _ rfl
                have g01 := hc0 1 _ rfl
                have g10 := hc1 0 _ rfl
                have g11 := hc1 1 _ rfl
                clear hc0 hc1 HYA
                simp only [Nat.zero_mul, Nat.add_zero, Nat.zero_add, Nat.one_mul] at g00 g01 g10 g11
                by_cases hk0 : k0 = 1
                · subst hk0
                  by_cases hk1 : k1 = 1
                  · subst hk1
                    by_cases hn1 : 0 < v1
                    · have HV3 : Hid (vOps l = (vOps (l.drop (i + 1))).map ((out ++ [⟨v0, v1, ⟨#[]⟩⟩]) ++ ·)) := Lib.hid (by rw [HV2.out, vOp, if_neg (by decide), if_pos rfl, vCopy, if_pos ⟨rfl, rfl, hn1⟩]; simp [Option.map_map, Function.comp_def])
                      clear HV2
                      go_wp2_with fail
                      generalize (wr.alloc (.cells #[.int .i64 3, .int .i64 yn, .string ys, .slice (some ⟨b0, o0, none⟩) 2 yc] 42)) = w3 at *
                      -- THE REGION
                      refine wp_region_tail (regOf Tryd.f10 14) [some 73, some 74, some 75, some 76, some 77, some 78, some 79, some 80, some 81, some 82, some 83, some 84, some 85] 13 (dprT wr.heap.size b0 o0 out.length vc yc va v0 v1 w3) (fun w' => Below w3.heap.size w3 w') dprD (by kernel_rfl) (by kernel_rfl) (by kernel_rfl) (by kernel_rfl) (by kernel_rfl) (by kernel_rfl) (by kernel_rfl) ((Below.refl _ _).drew)
                        (dpr_steps wr.heap.size b0 o0 out.length vc yc va v0 v1 w3 f3 (by omega) g01 g11 (by have : b0 < w1.heap.size := hb0; have := hW.out.size; omega) (by kernel_rfl) (by kernel_rfl) (by kernel_rfl)) ?_
                      intro vs w4 hn hCw4 hT
                      replace hn : vs.length = 13 := hn
                      obtain ⟨v0, vs1, rfl, hn1⟩ := len_cons hn
                      obtain ⟨v1, vs2, rfl, hn2⟩ := len_cons hn1
                      obtain ⟨v2, vs3, rfl, hn3⟩ := len_cons hn2
                      obtain ⟨v3, vs4, rfl, hn4⟩ := len_cons hn3
                      obtain ⟨v4, vs5, rfl, hn5⟩ := len_cons hn4
                      obtain ⟨v5, vs6, rfl, hn6⟩ := len_cons hn5
                      obtain ⟨v6, vs7, rfl, hn7⟩ := len_cons hn6
                      obtain ⟨v7, vs8, rfl, hn8⟩ := len_cons hn7
                      obtain ⟨v8, vs9, rfl, hn9⟩ := len_cons hn8
                      obtain ⟨v9, vs10, rfl, hn10⟩ := len_cons hn9
                      obtain ⟨v10, vs11, rfl, hn11⟩ := len_cons hn10
                      obtain ⟨v11, vs12, rfl, hn12⟩ := len_cons hn11
                      obtain ⟨v12, vs13, rfl, hn13⟩ := len_cons hn12
                      obtain rfl := List.eq_nil_of_length_eq_zero hn13
                      clear hn hn1 hn2 hn3 hn4 hn5 hn6 hn7 hn8 hn9 hn10 hn11 hn12 hn13
                      obtain rfl : v0 = .slice va out.length vc := hT 0 v0 rfl (by kernel_rfl)
                      obtain rfl : v1 = .pointer (some ⟨wr.heap.size, 3, none⟩) := hT 1 v1 rfl (by kernel_rfl)
                      obtain rfl : v2 = .slice (some ⟨b0, o0, none⟩) 2 yc := hT 2 v2 rfl (by kernel_rfl)
                      obtain rfl : v3 = .pointer (some ⟨b0, o0, none⟩) := hT 3 v3 rfl (by kernel_rfl)
                      obtain rfl : v4 = .pointer (some ⟨b0, o0 + 1, none⟩) := hT 4 v4 rfl (by kernel_rfl)
                      obtain rfl : v5 = .int .i64 v0 := hT 5 v5 rfl (by kernel_rfl)
                      obtain rfl : v6 = .pointer (some ⟨wr.heap.size, 3, none⟩) := hT 6 v6 rfl (by kernel_rfl)
                      obtain rfl : v7 = .slice (some ⟨b0, o0, none⟩) 2 yc := hT 7 v7 rfl (by kernel_rfl)
                      obtain rfl : v8 = .pointer (some ⟨b0, o0 + 4, none⟩) := hT 8 v8 rfl (by kernel_rfl)
                      obtain rfl : v9 = .pointer (some ⟨b0, o0 + 4 + 1, none⟩) := hT 9 v9 rfl (by kernel_rfl)
                      obtain rfl : v10 = .int .i64 v1 := hT 10 v10 rfl (by kernel_rfl)
                      obtain rfl : v11 = .agg #[.int .i64 v0, .int .i64 v1, .string ⟨#[]⟩] := hT 11 v11 rfl (by kernel_rfl)
                      have t12 := Lib.hid (hT 12 v12 rfl (by kernel_rfl))
                      clear hT
                      obtain ⟨o13, ho13⟩ : ∃ o, (regOf Tryd.f10 14)[13]? = some o := ⟨_, Array.getElem?_eq_getElem (show 13 < (regOf Tryd.f10 14).size from (show (regOf Tryd.f10 14).size = 15 by kernel_rfl) ▸ by decide)⟩
                      have op13 := opIs ho13 (p := .call { callee := (.builtin .append), args := #[(.tmp 73), (.tmp 85)], argTypes := #[22, 22] }) (by kernel_rfl)
                      have gd13 := guardIs ho13 (p := none) (by kernel_rfl)
                      have dt13 : o13.dst = some 86 := by have := (show ((regOf Tryd.f10 14)[13]?).map (·.dst) = some (some 86) by kernel_rfl); rw [ho13] at this; simpa using this
                      obtain ⟨o14, ho14⟩ : ∃ o, (regOf Tryd.f10 14)[14]? = some o := ⟨_, Array.getElem?_eq_getElem (show 14 < (regOf Tryd.f10 14).size from (show (regOf Tryd.f10 14).size = 15 by kernel_rfl) ▸ by decide)⟩
                      have op14 := opIs ho14 (p := .assign (.tmp 86)) (by kernel_rfl)
                      have gd14 := guardIs ho14 (p := none) (by kernel_rfl)
                      have dt14 : o14.dst = some 7 := by have := (show ((regOf Tryd.f10 14)[14]?).map (·.dst) = some (some 7) by kernel_rfl); rw [ho14] at this; simpa using this
                      rw [show (regOf Tryd.f10 14).toList.drop 13 = [o13, o14] from drop_tail (by kernel_rfl) ho13 ho14]
                      simp only [puts, Act.put, List.setIfInBounds_toArray, List.set_cons_succ, List.set_cons_zero]
                      obtain ⟨b12, rfl, hsl⟩ := t12.out
                      intro K2 hK2
                      have HO4 := Lib.hid (HO3.out.kept (grown_of_below hCw4 none) (by cases hv : (Value.slice va out.length vc).ownBlock <;> simp))
                      have HW4 := Lib.hid (HW3.out.trans (Below.lower hCw4 HW3.out.size))
                      refine wpList_appOps _ gd13 _ _ 22 op13 w2.heap.size 32 i0 _ 32 underO HI.out HZ.out.1 HZ.out.2.1 HZ.out.2.2 rfl _ out.length out HO4.out rfl (some ⟨b12, 0, none⟩) 1 1 [⟨v0, v1, ⟨#[]⟩⟩] rfl hsl (fun e => by cases e) (by unfold maxLen; omega) (by omega) HW4.out.size ?_
                      intro v5 w5 ho5 hg5
                      have hlt5 := HO4.out.lt
                      have HW5 := Lib.hid (HW4.out.grown hg5 HW4.out.size (fun k e => (hlt5 k e).1))
                      have hlen5 : (out ++ [(⟨v0, v1, ⟨#[]⟩⟩ : DOp)]).length = out.length + 1 := by simp
                      obtain ⟨a5, c5, rfl, -⟩ := own_ops ho5
                      rw [← hlen5] at ho5
                      have HO5 := Lib.hid ho5
                      have HLEN := Lib.hid hlen5
                      rw [dt13] at hK2 ⊢
                      refine hK2 _ _ ?_
                      clear ho5 hg5 hlt5 hlen5 HO4 HW4 hK2 hsl t12 hCw4
                      intro K3 hK3
                      refine wpList_plain gd14 fun K4 hK4 => ?_
                      unfold Oper.wp
                      rw [run_assign (v := .slice a5 (out.length + 1) c5) op14 rfl]
                      simp only [Oper.upon]
                      rw [dt14] at hK3 ⊢
                      refine hK4 _ _ (hK3 _ _ ?_)
                      clear hK3 hK4
                      unfold tailWp
                      simp only [Act.put, List.setIfInBounds_toArray, List.set_cons_succ, List.set_cons_zero]
                      clear f0 f2 f3 g00 g01 g10 g11 HO3 HW3 HN3 hO hW hs3 e0 e1 e2 e3
                      go_wp2_with fail
                      go_roundg (l.length - (i + 1))
                      case rel => exact ⟨i + 1, out ++ [⟨v0, v1, ⟨#[]⟩⟩], a5, c5, hlt, rfl, by go_num, by rw [HLEN.out], by rw [HLEN.out]; omega, HO5, HW5, HV3⟩
                      case measure => omega
                    · have HVN : Hid (vOps l = none) := Lib.hid (by rw [HV2.out, vOp, if_neg (by decide), if_pos rfl, vCopy, if_neg (fun h => hn1 h.2.2)]; rfl)
                      have hn2 : v1 ≤ 0 := by omega
                      clear hn1
                      have HX3 : Hid (x = ([], 70)) := Lib.hid (by rw [HX2.out, opsOf_none (HVN.out)])
                      go_wp2_with fail
                      go_ret2
                      rw [HX3.out]
                      exact ⟨none, 0, 0, rfl, ⟨rfl, .inl rfl⟩, Nat.le_refl _, HB2.out.trans (Below.lower HW3.out (by have := HB2.out.size; omega))⟩
                  · have p5 : (k1 == 1) = false := by simpa using hk1
                    have HVN : Hid (vOps l = none) := Lib.hid (by rw [HV2.out, vOp, if_neg (by decide), if_pos rfl, vCopy, if_neg (fun h => hk1 h.2.1)]; rfl)
                    clear hk1
                    have HX3 : Hid (x = ([], 70)) := Lib.hid (by rw [HX2.out, opsOf_none (HVN.out)])
                    go_wp2_with fail
                    go_ret2
                    rw [HX3.out]
                    exact ⟨none, 0, 0, rfl, ⟨rfl, .inl rfl⟩, Nat.le_refl _, HB2.out.trans (Below.lower HW3.out (by have := HB2.out.size; omega))⟩
                · have p5 : (k0 == 1) = false := by simpa using hk0
                  have HVN : Hid (vOps l = none) := Lib.hid (by rw [HV2.out, vOp, if_neg (by decide), if_pos rfl, vCopy, if_neg (fun h => hk0 h.1)]; rfl)
                  clear hk0
                  have HX3 : Hid (x = ([], 70)) := Lib.hid (by rw [HX2.out, opsOf_none (HVN.out)])
                  go_wp2_with fail
                  go_ret2
                  rw [HX3.out]
                  exact ⟨none, 0, 0, rfl, ⟨rfl, .inl rfl⟩, Nat.le_refl _, HB2.out.trans (Below.lower HW3.out (by have := HB2.out.size; omega))⟩
              · have p5 : ((m : Int) == 2) = false := by rw [beq_eq_false_iff_ne]; omega
                have HVN : Hid (vOps l = none) := Lib.hid (by rw [HV2.out, vOp, if_neg (by decide), if_pos rfl, vCopy_len (by rw [HYL.out]; exact hm2)]; rfl)
                clear hm2
                have HX3 : Hid (x = ([], 70)) := Lib.hid (by rw [HX2.out, opsOf_none (HVN.out)])
                go_wp2_with fail
                go_ret2
                rw [HX3.out]
                exact ⟨none, 0, 0, rfl, ⟨rfl, .inl rfl⟩, Nat.le_refl _, HB2.out.trans (Below.lower HW3.out (by have := HB2.out.size; omega))⟩
            · have p3 : (yk == 3) = false := by simpa using hk3
              have HVN : Hid (vOps l = none) := Lib.hid (by rw [HV2.out, vOp, if_neg hk2, if_neg hk3]; rfl)
              clear hk2 hk3
              have HX3 : Hid (x = ([], 70)) := Lib.hid (by rw [HX2.out, opsOf_none (HVN.out)])
              go_wp2_with fail
              go_ret2
              rw [HX3.out]
              exact ⟨none, 0, 0, rfl, ⟨rfl, .inl rfl⟩, Nat.le_refl _, HB2.out.trans (Below.lower HW3.out (by have := HB2.out.size; omega))⟩
        · obtain rfl : i = l.length := by omega
          have hv := hV.out
          rw [List.drop_length, vOps] at hv
          have hv2 : vOps l = some out := by rw [hv]; simp
          obtain ⟨a5, c5, he, hn5, hsl, -, hnc, -⟩ := own_ops hO.out
          cases he
          have hs0 := HB2.out.size
          have HX3 : Hid (x = if rightB out = true then (out, 0) else ([], 70)) := Lib.hid (by rw [HX2.out]; unfold opsOf; dsimp only; rw [if_pos rfl, hv2])
          have hrt := Lib.hid (dright_any va out.length vc out wr hsl (by omega) (rightB out) (Lib.hid rfl))
          have HSL := Lib.hid hsl
          have HBW := Lib.hid (HB2.out.trans (Below.lower hW.out hs0))
          clear hv hv2 hV hsl HX2 hO hn5
          cases hr : rightB out with
          | true =>
            rw [hr] at hrt
            have HX4 : Hid (x = (out, 0)) := Lib.hid (by rw [HX3.out, hr]; rfl)
            clear hr HX3
            go_wp2_with fail
            refine hrt.out.mono ?_
            rintro e w6 ⟨rfl, hb6⟩
            have HB6 := Lib.hid hb6
            clear hrt hb6
            go_wp2_with fail
            go_ret2
            rw [HX4.out]
            exact ⟨_, _, _, rfl, HSL.out.keep HB6.out, hnc, HBW.out.trans (Below.lower HB6.out HBW.out.size)⟩
          | false =>
            rw [hr] at hrt
            have HX4 : Hid (x = ([], 70)) := Lib.hid (by rw [HX3.out, hr]; rfl)
            clear hr HX3
            go_wp2_with fail
            refine hrt.out.mono ?_
            rintro e w6 ⟨rfl, hb6⟩
            have HB6 := Lib.hid hb6
            clear hrt hb6
            go_wp2_with fail
            go_ret2
            rw [HX4.out]
            exact ⟨none, 0, 0, rfl, ⟨rfl, .inl rfl⟩, Nat.le_refl _, HBW.out.trans (Below.lower HB6.out HBW.out.size)⟩
    · have p1 : (k != 3) = true := by simpa using hk
      have HX3 : Hid (x = ([], 70)) := Lib.hid (by rw [HX2.out]; unfold opsOf; dsimp only; rw [if_neg hk])
      clear HX2 hk
      go_wp2_with fail
      go_ret2
      rw [HX3.out]
      exact ⟨none, 0, 0, rfl, ⟨rfl, .inl rfl⟩, Nat.le_refl _, HB2.out⟩
  · have p1 : (bad != 0) = true := by simpa using hbad
    have p2 : (bad == 0) = false := by simpa using hbad
    have HX2 : Hid (x = ([], bad)) := Lib.hid (by rw [HX.out, if_neg hbad])
    clear HX HCNT hbad
    go_wp2_with fail
    go_ret2
    rw [HX2.out]
    exact ⟨none, 0, 0, rfl, ⟨rfl, .inl rfl⟩, Nat.le_refl _, HB2.out⟩
end Go.Proofs.YtdlnabjledhiiaaDoor
