/-
  The walk of the reference's Get of states: any text is read as just that state, or refused. (Written by wip/mkwi.py.)
-/
import Derived.Test.YtboohpkmllelgaaDoorWhB
import Derived.Test.YtboohpkmllelgaaDoorWpB
import Derived.Test.YtboohpkmllelgaaDoorRfAll
namespace Go.Proofs.YtboohpkmllelgaaDoor
open Go.RowKit
set_option linter.unusedVariables false

set_option maxRecDepth 100000 in
set_option maxHeartbeats 1000000 in
theorem rget14_bad (s : ByteArray) (w : World) (hm : s.size ≤ 9223372036854775807) (hbad : (getL s).bad ≠ 0) : Calls Tryd.prog 19 #[.string s] w (RetH w (Hd.zero, (getL s).bad)) := by
  have HG := Lib.hid (rget_any s (w.alloc (.cells #[.int .i64 0, .int .i64 0, .int .i64 0, .int .i64 0, .slice none 0 0, .string ⟨#[]⟩, .slice none 0 0] 42)) hm)
  have HB0 := Lib.hid ((Below.refl w.heap.size w).alloc (Nat.le_refl _) (.cells #[.int .i64 0, .int .i64 0, .int .i64 0, .int .i64 0, .slice none 0 0, .string ⟨#[]⟩, .slice none 0 0] 42))
  have HR0 : Hid (Blk (w.alloc (.cells #[.int .i64 0, .int .i64 0, .int .i64 0, .int .i64 0, .slice none 0 0, .string ⟨#[]⟩, .slice none 0 0] 42)) w.heap.size 42 [.int .i64 0, .int .i64 0, .int .i64 0, .int .i64 0, .slice none 0 0, .string ⟨#[]⟩, .slice none 0 0]) := Lib.hid (heap_alloc_new w _)
  obtain ⟨b, hb⟩ : ∃ b, b = (getL s).bad := ⟨_, rfl⟩
  have p1 : (b != 0) = true := by rw [hb]; simpa using hbad
  have HBE := Lib.hid hb
  clear hbad
  go_enter Tryd.func19, Tryd.ntmps19
  go_wp2_with fail
  refine HG.out.mono ?_
  rintro e w1 ⟨cs, rfl, hat, hb1⟩
  dsimp only
  rw [← hb]
  clear hb
  obtain ⟨v, hv⟩ : ∃ v, v = (getL s).v := ⟨_, rfl⟩
  rw [← hv] at hat
  clear hv
  obtain ⟨vk, vn, vt, vl⟩ := v
  simp only [V.At] at hat
  obtain ⟨va, vc, rfl, -, -, -⟩ := hat
  have HB1 := Lib.hid (below_then HB0.out hb1 HB0.out.size)
  have HR1 := Lib.hid (HR0.out.keep hb1)
  have HB2 := Lib.hid (HB1.out.alloc HB1.out.size (.cells #[.int .i64 vk, .int .i64 vn, .string vt, .slice va vl.length vc] 58))
  have HR2 := Lib.hid (HR1.out.alloc (.cells #[.int .i64 vk, .int .i64 vn, .string vt, .slice va vl.length vc] 58))
  have q0 := HR2.out.cell (j := 0) rfl
  have f0 := HR2.out.free 0
  have q1 := HR2.out.cell (j := 1) rfl
  have f1 := HR2.out.free 1
  have q2 := HR2.out.cell (j := 2) rfl
  have f2 := HR2.out.free 2
  have q3 := HR2.out.cell (j := 3) rfl
  have f3 := HR2.out.free 3
  have q4 := HR2.out.cell (j := 4) rfl
  have f4 := HR2.out.free 4
  have q5 := HR2.out.cell (j := 5) rfl
  have f5 := HR2.out.free 5
  have q6 := HR2.out.cell (j := 6) rfl
  have f6 := HR2.out.free 6
  clear HG HB0 HR0 HR1 hb1
  go_wp2_with fail
  (try simp only [Exit.inBlock, Exit.then])
  have hz9 := blk_seven HR2.out (.int .i64 0) (.int .i64 0) (.int .i64 0) (.int .i64 0) (.slice none 0 0) (.string ⟨#[]⟩) (.slice none 0 0)
  have hg9 := grown_seven (w1.alloc (.cells #[.int .i64 vk, .int .i64 vn, .string vt, .slice va vl.length vc] 58)) w.heap.size (.int .i64 0) (.int .i64 0) (.int .i64 0) (.int .i64 0) (.slice none 0 0) (.string ⟨#[]⟩) (.slice none 0 0)
  have HB9 := Lib.hid (HB2.out.grown hg9 HB2.out.size (fun q e => by have := Option.some.inj e; omega))
  refine bodyPost_ret (v := .tuple #[.agg #[.int .i64 0, .int .i64 0, .int .i64 0, .int .i64 0, .slice none 0 0, .string ⟨#[]⟩, .slice none 0 0], .int .i64 b]) ?_ rfl ?_
  · exact results_row_tmp (p := 2) (u := 3) rfl _ _ w.heap.size 42 _ (0, 0) _ rfl hz9 Tryd.underlying42 rfl (by kernel_rfl)
  · rw [HBE.out]; exact retH_zero _ HB9.out
set_option maxRecDepth 100000 in
set_option maxHeartbeats 3000000 in
theorem rget14_go (s : ByteArray) (w : World) (hm : s.size ≤ 9223372036854775807) (htab : Lib.TabIs Tryd.prog w "internal/strconv.uint64pow10" .u64 Lib.pow10Tab) (hbad : (getL s).bad = 0) (v : V) (hv : (getL s).v = v) (x : Hd × Int) (hx : Hid (x = readH v)) : Calls Tryd.prog 19 #[.string s] w (RetH w x) := by
  have HG := Lib.hid (rget_any s (w.alloc (.cells #[.int .i64 0, .int .i64 0, .int .i64 0, .int .i64 0, .slice none 0 0, .string ⟨#[]⟩, .slice none 0 0] 42)) hm)
  have HB0 := Lib.hid ((Below.refl w.heap.size w).alloc (Nat.le_refl _) (.cells #[.int .i64 0, .int .i64 0, .int .i64 0, .int .i64 0, .slice none 0 0, .string ⟨#[]⟩, .slice none 0 0] 42))
  have HR0 : Hid (Blk (w.alloc (.cells #[.int .i64 0, .int .i64 0, .int .i64 0, .int .i64 0, .slice none 0 0, .string ⟨#[]⟩, .slice none 0 0] 42)) w.heap.size 42 [.int .i64 0, .int .i64 0, .int .i64 0, .int .i64 0, .slice none 0 0, .string ⟨#[]⟩, .slice none 0 0]) := Lib.hid (heap_alloc_new w _)
  have HT := Lib.hid (Lib.tabBelow_of_tabIs htab)
  obtain ⟨at_, hat_⟩ : ∃ b, b = (getL s).at_ := ⟨_, rfl⟩
  have HA_ := Lib.hid hat_
  have HBA := Lib.hid hbad
  have HHV := Lib.hid hv
  clear hbad hv hat_ htab
  go_enter Tryd.func19, Tryd.ntmps19
  go_wp2_with fail
  refine HG.out.mono ?_
  rintro e w1 ⟨cs, rfl, hat, hb1⟩
  dsimp only
  rw [HBA.out, ← HA_.out]
  rw [HHV.out] at hat
  obtain ⟨vk, vn, vt, vl⟩ := v
  simp only [V.At] at hat
  obtain ⟨va, vc, rfl, hvc, hv0, hall⟩ := hat
  have HB1 := Lib.hid (below_then HB0.out hb1 HB0.out.size)
  have HR1 := Lib.hid (HR0.out.keep hb1)
  have hb2 : Below w1.heap.size w1 (w1.alloc (.cells #[.int .i64 vk, .int .i64 vn, .string vt, .slice va vl.length vc] 58)) := (Below.refl w1.heap.size w1).alloc (Nat.le_refl _) _
  have HB2 := Lib.hid (HB1.out.alloc HB1.out.size (.cells #[.int .i64 vk, .int .i64 vn, .string vt, .slice va vl.length vc] 58))
  have HR2 := Lib.hid (HR1.out.alloc (.cells #[.int .i64 vk, .int .i64 vn, .string vt, .slice va vl.length vc] 58))
  have HV2 : Hid ((w1.alloc (.cells #[.int .i64 vk, .int .i64 vn, .string vt, .slice va vl.length vc] 58)).heap[w1.heap.size]? = some (.cells #[.int .i64 vk, .int .i64 vn, .string vt, .slice va vl.length vc] 58 (0, 0))) := Lib.hid (heap_alloc_new w1 _)
  have HALL := Lib.hid (VAll.move (w' := w1.alloc (.cells #[.int .i64 vk, .int .i64 vn, .string vt, .slice va vl.length vc] 58)) (T := fun p => p < w1.heap.size) (fun _ h => h.2) (fun p hp => hb2.block p hp.2) _ _ _ hall)
  have HW1 : Hid (w.heap.size < w1.heap.size) := Lib.hid (lt_of_block HR1.out)
  have HS2 : Hid ((w1.alloc (.cells #[.int .i64 vk, .int .i64 vn, .string vt, .slice va vl.length vc] 58)).heap.size = w1.heap.size + 1) := Lib.hid (by simp)
  have HLL : Hid (∀ y ∈ vl, y.l.length ≤ 4000) := Lib.hid (fun y hy => by
    have h := getL_ok s HBA.out
    rw [HHV.out] at h
    obtain ⟨j, hj, rfl⟩ := List.getElem_of_mem hy
    exact fld_few h.2.2.1 j hj (by rw [List.getD_eq_getElem?_getD, List.getElem?_eq_getElem hj]; rfl))
  have HVLN : Hid (vl.length ≤ 4000) := Lib.hid (by
    have h := (getL_ok s HBA.out).2.2.1
    rw [HHV.out, V.cnt] at h
    have := cntAll_ge vl
    omega)
  have HTX : Hid (∀ y ∈ vl, (putL y).length ≤ 131072 ∨ vk ≠ 3) := Lib.hid (fun y hy => by
    by_cases h3 : vk = 3
    · subst h3
      have hp := (getL_ok s HBA.out).2.2.2.2
      rw [HHV.out] at hp
      exact .inl (Nat.le_trans (mem_len hy) (Nat.le_trans (all_len (V.mk 3 vn vt vl) rfl) hp))
    · exact .inr h3)
  clear hall hb1 hb2 HG HB0 HR0 HR1
  go_upto_region 2 with fail
  generalize (w1.alloc (.cells #[.int .i64 vk, .int .i64 vn, .string vt, .slice va vl.length vc] 58)) = w2 at *
  have hs2 := HS2.out
  have v0 := (Lib.cell_of_heap HV2.out 0).trans (show _ = some (Value.int .i64 vk) from rfl)
  have v3 := (Lib.cell_of_heap HV2.out 3).trans (show _ = some (Value.slice va vl.length vc) from rfl)
  by_cases hk3 : vk = 3
  · subst hk3
    by_cases hl7 : vl.length = 7
    · obtain ⟨b, o, rfl, hSb, hel⟩ := elemsV2 HALL.out (by omega)
      obtain ⟨g0, g1, g2, g3, g4, g5, g6, rfl⟩ := list_of7 hl7
      obtain ⟨a4, c4, -, -, e40, e41, e42, e43⟩ := hel 4 (by simp)
      obtain ⟨a5, c5, ⟨hc5, h05⟩, r5, e50, e51, e52, e53⟩ := hel 5 (by simp)
      obtain ⟨a6, c6, ⟨hc6, h06⟩, r6, e60, e61, e62, e63⟩ := hel 6 (by simp)
      simp only [Nat.reduceMul, Nat.add_assoc, Nat.reduceAdd, List.getElem_cons_succ, List.getElem_cons_zero] at e40 e42 e50 e53 e60 e61 e62 e63 r5 r6
      have hb3 : b < w2.heap.size := by omega
      have hvc7 : 7 ≤ vc := hvc
      have HALT : Hid (VAll w2 (fun p => p < w1.heap.size) (some ⟨b, o, none⟩) 0 [g0, g1, g2, g3]) := Lib.hid (by
        have h := HALL.out
        simp only [VAll] at h ⊢
        exact ⟨h.1, h.2.1, h.2.2.1, h.2.2.2.1, trivial⟩)
      have HL5 := Lib.hid (HLL.out g5 (by simp))
      have HL6 := Lib.hid (HLL.out g6 (by simp))
      have HT4 := Lib.hid ((HTX.out g4 (by simp)).resolve_right (fun h => h rfl))
      have HT6 := Lib.hid ((HTX.out g6 (by simp)).resolve_right (fun h => h rfl))
      change w2.cell? ⟨w1.heap.size, 3, none⟩ = some (.slice (some ⟨b, o, none⟩) 7 vc) at v3
      clear hel hl7 e41 HLL HTX HALL hvc hv0 HVLN hc5 h05 hc6 h06
      by_cases hc : g4.k = 2 ∧ g5.k = 3
      · obtain ⟨hk4, hk5⟩ := hc
        have y4 := e40
        have y5 := e50
        rw [hk4] at y4
        rw [hk5] at y5
        have HK45 := Lib.hid (And.intro hk4 hk5)
        have HE : Hid (w2.cell? ⟨b, o + 18, none⟩ = some (.string g4.s) ∧ w2.cell? ⟨b, o + 23, none⟩ = some (.slice a5 g5.l.length c5)) := Lib.hid ⟨e42, e53⟩
        have HE6 := Lib.hid (And.intro e60 (And.intro e61 (And.intro e62 e63)))
        have HQ5 := Lib.hid r5
        have HQ6 := Lib.hid r6
        have hvci : (4 : Int) ≤ (vc : Int) := by omega
        have hcall := Lib.hid (show Calls Tryd.prog 49 #[.slice (some ⟨b, o, none⟩) 4 vc] w2 _ from rsmalls_any (some ⟨b, o, none⟩) [g0, g1, g2, g3] vc w2 _ HALT.out (by simp) _ (Lib.hid rfl))
        clear hk4 hk5 e40 e42 e50 e51 e52 e53 e60 e61 e62 e63 r5 r6 HALT
        go_wp2_with fail
        refine hcall.out.mono ?_
        rintro e w3 ⟨hb3', hcase⟩
        have hb3 : b < w3.heap.size := by have := hb3'.size; omega
        have HK3 := Lib.hid hb3'
        have HB3 := Lib.hid (below_then HB2.out hb3' HB2.out.size)
        have HR3 := Lib.hid (HR2.out.keep hb3')
        have HV3 := Lib.hid ((hb3'.block _ (lt_of_block HV2.out)).trans HV2.out)
        have hs3 : w2.heap.size ≤ w3.heap.size := hb3'.size
        obtain ⟨B1, hB1⟩ : ∃ B1, B1 = [g0, g1, g2, g3].all smallB := ⟨_, rfl⟩
        rw [← hB1] at hcase
        have HB1E := Lib.hid hB1
        have key : ∃ na nn nc, e = .returned (.tuple #[.slice na nn nc, .bool B1]) ∧ (B1 = true → nn = 4 ∧ w3.ownsRow w2.heap.size 3 1 (.slice na nn nc) nn (i64s [g0.n, g1.n, g2.n, g3.n])) := by
          rcases hcase with ⟨rfl, a, n, c, rfl⟩ | ⟨rfl, a, c, rfl, hown⟩
          · exact ⟨a, n, c, rfl, fun h => by cases h⟩
          · exact ⟨a, _, c, rfl, fun _ => ⟨rfl, hown⟩⟩
        clear hcase hB1 v0 v3 y4 y5 hcall hb3' hvci
        obtain ⟨na, nn, nc, rfl, hno⟩ := key
        have HNO := Lib.hid hno
        clear hno
        dsimp only
        have v3 := (Lib.cell_of_heap HV3.out 3).trans (show _ = some (Value.slice (some ⟨b, o, none⟩) 7 vc) from rfl)
        have y5 := cell_keep HK3.out HE.out.2
        have hcall := Lib.hid (rsmalls_any a5 g5.l c5 w3 _ (VAll.move (w' := w3) (fun _ h => h) (fun p hp => HK3.out.block p (by omega)) _ _ _ HQ5.out) HL5.out _ (Lib.hid rfl))
        go_wp2_with fail
        refine hcall.out.mono ?_
        rintro e w4 ⟨hb4, hcase⟩
        have HK4 := Lib.hid hb4
        have HB4 := Lib.hid (below_then HB3.out hb4 HB3.out.size)
        have HR4 := Lib.hid (HR3.out.keep hb4)
        have HV4 := Lib.hid ((hb4.block _ (lt_of_block HV3.out)).trans HV3.out)
        have hs4 : w3.heap.size ≤ w4.heap.size := hb4.size
        obtain ⟨B2, hB2⟩ : ∃ B2, B2 = g5.l.all smallB := ⟨_, rfl⟩
        rw [← hB2] at hcase
        have HB2E := Lib.hid hB2
        have key : ∃ va5 vm5 vc5, e = .returned (.tuple #[.slice va5 vm5 vc5, .bool B2]) ∧ (B2 = true → vm5 = (g5.l.map V.n).length ∧ w4.ownsRow w3.heap.size 3 1 (.slice va5 vm5 vc5) vm5 (i64s (g5.l.map V.n))) := by
          rcases hcase with ⟨rfl, a, n, c, rfl⟩ | ⟨rfl, a, c, rfl, hown⟩
          · exact ⟨a, n, c, rfl, fun h => by cases h⟩
          · exact ⟨a, _, c, rfl, fun _ => ⟨rfl, hown⟩⟩
        clear hcase hB2 v3 y5 hcall hb4
        obtain ⟨va5, vm5, vc5, rfl, hvo⟩ := key
        have HVO := Lib.hid hvo
        clear hvo
        dsimp only
        have HKA := Lib.hid (HK3.out.trans (Below.lower HK4.out HK3.out.size))
        have v3 := (Lib.cell_of_heap HV4.out 3).trans (show _ = some (Value.slice (some ⟨b, o, none⟩) 7 vc) from rfl)
        have y0 := cell_keep HKA.out HE6.out.1
        have y1 := cell_keep HKA.out HE6.out.2.1
        have y2 := cell_keep HKA.out HE6.out.2.2.1
        have y3 := cell_keep HKA.out HE6.out.2.2.2
        have hcall := Lib.hid (rgetRecs_any g6.k g6.n g6.s a6 g6.l c6 w4 _ (fun p (hp : p < w1.heap.size) => by omega) (VAll.move (w' := w4) (fun _ h => h) (fun p hp => HKA.out.block p (by omega)) _ _ _ HQ6.out) HL6.out _ (Lib.hid rfl))
        go_wp2_with fail
        refine hcall.out.mono ?_
        rintro e w5 ⟨hb5, hcase⟩
        have HK5 := Lib.hid (HKA.out.trans (Below.lower hb5 HKA.out.size))
        have HB5 := Lib.hid (below_then HB4.out hb5 HB4.out.size)
        have HR5 := Lib.hid (HR4.out.keep hb5)
        have HV5 := Lib.hid ((hb5.block _ (lt_of_block HV4.out)).trans HV4.out)
        have hs5 : w4.heap.size ≤ w5.heap.size := hb5.size
        have HVO5 := Lib.hid (fun hB => (show vm5 = _ ∧ _ from ⟨(HVO.out hB).1, own_under (HVO.out hB).2 hb5⟩))
        have HNO5 := Lib.hid (fun hB => (show nn = _ ∧ _ from ⟨(HNO.out hB).1, own_under (own_under (HNO.out hB).2 HK4.out) hb5⟩))
        obtain ⟨B3, hB3⟩ : ∃ B3, B3 = (decide (g6.k = 3) && g6.l.all recIsB) := ⟨_, rfl⟩
        rw [← hB3] at hcase
        have HB3E := Lib.hid hB3
        have key : ∃ ra rn rc, e = .returned (.tuple #[.slice ra rn rc, .bool B3]) ∧ (B3 = true → rn = (g6.l.map recRead).length ∧ w5.ownsRow w4.heap.size 52 3 (.slice ra rn rc) rn (rcE.cells (g6.l.map recRead))) := by
          rcases hcase with ⟨rfl, a, n, c, rfl⟩ | ⟨rfl, a, c, rfl, hown⟩
          · exact ⟨a, n, c, rfl, fun h => by cases h⟩
          · exact ⟨a, _, c, rfl, fun _ => ⟨rfl, hown⟩⟩
        clear hcase hB3 v3 y0 y1 y2 y3 hcall hb5
        obtain ⟨ra, rn, rc, rfl, hro⟩ := key
        have HRO := Lib.hid hro
        clear hro HVO HNO HB3 HB4 HR3 HR4 HV3 HV4
        dsimp only
        have HREAD : Hid (hdRead (V.mk 3 vn vt [g0, g1, g2, g3, g4, g5, g6]) = ⟨g0.n, g1.n, g2.n, g3.n, g6.l.map recRead, g4.s, g5.l.map V.n⟩) := Lib.hid rfl
        have HNUM : Hid (hdOk (V.mk 3 vn vt [g0, g1, g2, g3, g4, g5, g6]) ↔ (B1 = true ∧ B2 = true ∧ B3 = true ∧ rightH ⟨g0.n, g1.n, g2.n, g3.n, g6.l.map recRead, g4.s, g5.l.map V.n⟩ = true)) := Lib.hid (by
          have h1 : B1 = true ↔ firstH (V.mk 3 vn vt [g0, g1, g2, g3, g4, g5, g6]) := by
            rw [HB1E.out]
            simp only [List.all_cons, List.all_nil, Bool.and_true, Bool.and_eq_true, smallB, decide_eq_true_eq]
            exact Iff.rfl
          have h2 : B2 = true ↔ ∀ y ∈ g5.l, smallN y := by rw [HB2E.out, List.all_eq_true]; simp [smallB]
          have h3 : B3 = true ↔ (g6.k = 3 ∧ ∀ y ∈ g6.l, recIs y) := by rw [HB3E.out, Bool.and_eq_true, decide_eq_true_eq, List.all_eq_true]; simp [recIsB]
          rw [h1, h2, h3, ← HREAD.out]
          unfold hdOk
          constructor
          · rintro ⟨q1, q2, q3, q4, q5⟩
            exact ⟨q2, q3, ⟨q1.2.2.2.2, q4⟩, q5⟩
          · rintro ⟨q2, q3, ⟨q6, q4⟩, q5⟩
            exact ⟨⟨rfl, rfl, HK45.out.1, HK45.out.2, q6⟩, q2, q3, q4, q5⟩)
        cases B1 with
        | false =>
          have HZ9 : Hid (x = (Hd.zero, 1)) := Lib.hid (by rw [hx.out]; unfold readH; rw [if_neg (fun h => by have := (HNUM.out.1 h).1; cases this)])
          clear hx HNUM HREAD
          have q0 := HR5.out.cell (j := 0) rfl
          have f0 := HR5.out.free 0
          have q1 := HR5.out.cell (j := 1) rfl
          have f1 := HR5.out.free 1
          have q2 := HR5.out.cell (j := 2) rfl
          have f2 := HR5.out.free 2
          have q3 := HR5.out.cell (j := 3) rfl
          have f3 := HR5.out.free 3
          have q4 := HR5.out.cell (j := 4) rfl
          have f4 := HR5.out.free 4
          have q5 := HR5.out.cell (j := 5) rfl
          have f5 := HR5.out.free 5
          have q6 := HR5.out.cell (j := 6) rfl
          have f6 := HR5.out.free 6
          go_wp2_with fail
          (try simp only [Exit.inBlock, Exit.then])
          have hz9 := blk_seven HR5.out (.int .i64 0) (.int .i64 0) (.int .i64 0) (.int .i64 0) (.slice none 0 0) (.string ⟨#[]⟩) (.slice none 0 0)
          have hg9 := grown_seven w5 w.heap.size (.int .i64 0) (.int .i64 0) (.int .i64 0) (.int .i64 0) (.slice none 0 0) (.string ⟨#[]⟩) (.slice none 0 0)
          have HB9 := Lib.hid (HB5.out.grown hg9 HB5.out.size (fun q e => by have := Option.some.inj e; omega))
          refine bodyPost_ret (v := .tuple #[.agg #[.int .i64 0, .int .i64 0, .int .i64 0, .int .i64 0, .slice none 0 0, .string ⟨#[]⟩, .slice none 0 0], .int .i64 1]) ?_ rfl ?_
          · exact results_row_tmp (p := 2) (u := 3) rfl _ _ w.heap.size 42 _ (0, 0) _ rfl hz9 Tryd.underlying42 rfl (by kernel_rfl)
          · rw [HZ9.out]; exact retH_zero _ HB9.out
        | true =>
          cases B2 with
          | false =>
            have HZ9 : Hid (x = (Hd.zero, 1)) := Lib.hid (by rw [hx.out]; unfold readH; rw [if_neg (fun h => by have := (HNUM.out.1 h).2.1; cases this)])
            clear hx HNUM HREAD
            have q0 := HR5.out.cell (j := 0) rfl
            have f0 := HR5.out.free 0
            have q1 := HR5.out.cell (j := 1) rfl
            have f1 := HR5.out.free 1
            have q2 := HR5.out.cell (j := 2) rfl
            have f2 := HR5.out.free 2
            have q3 := HR5.out.cell (j := 3) rfl
            have f3 := HR5.out.free 3
            have q4 := HR5.out.cell (j := 4) rfl
            have f4 := HR5.out.free 4
            have q5 := HR5.out.cell (j := 5) rfl
            have f5 := HR5.out.free 5
            have q6 := HR5.out.cell (j := 6) rfl
            have f6 := HR5.out.free 6
            go_wp2_with fail
            (try simp only [Exit.inBlock, Exit.then])
            have hz9 := blk_seven HR5.out (.int .i64 0) (.int .i64 0) (.int .i64 0) (.int .i64 0) (.slice none 0 0) (.string ⟨#[]⟩) (.slice none 0 0)
            have hg9 := grown_seven w5 w.heap.size (.int .i64 0) (.int .i64 0) (.int .i64 0) (.int .i64 0) (.slice none 0 0) (.string ⟨#[]⟩) (.slice none 0 0)
            have HB9 := Lib.hid (HB5.out.grown hg9 HB5.out.size (fun q e => by have := Option.some.inj e; omega))
            refine bodyPost_ret (v := .tuple #[.agg #[.int .i64 0, .int .i64 0, .int .i64 0, .int .i64 0, .slice none 0 0, .string ⟨#[]⟩, .slice none 0 0], .int .i64 1]) ?_ rfl ?_
            · exact results_row_tmp (p := 2) (u := 3) rfl _ _ w.heap.size 42 _ (0, 0) _ rfl hz9 Tryd.underlying42 rfl (by kernel_rfl)
            · rw [HZ9.out]; exact retH_zero _ HB9.out
          | true =>
            cases B3 with
            | false =>
              have HZ9 : Hid (x = (Hd.zero, 1)) := Lib.hid (by rw [hx.out]; unfold readH; rw [if_neg (fun h => by have := (HNUM.out.1 h).2.2.1; cases this)])
              clear hx HNUM HREAD
              have q0 := HR5.out.cell (j := 0) rfl
              have f0 := HR5.out.free 0
              have q1 := HR5.out.cell (j := 1) rfl
              have f1 := HR5.out.free 1
              have q2 := HR5.out.cell (j := 2) rfl
              have f2 := HR5.out.free 2
              have q3 := HR5.out.cell (j := 3) rfl
              have f3 := HR5.out.free 3
              have q4 := HR5.out.cell (j := 4) rfl
              have f4 := HR5.out.free 4
              have q5 := HR5.out.cell (j := 5) rfl
              have f5 := HR5.out.free 5
              have q6 := HR5.out.cell (j := 6) rfl
              have f6 := HR5.out.free 6
              go_wp2_with fail
              (try simp only [Exit.inBlock, Exit.then])
              have hz9 := blk_seven HR5.out (.int .i64 0) (.int .i64 0) (.int .i64 0) (.int .i64 0) (.slice none 0 0) (.string ⟨#[]⟩) (.slice none 0 0)
              have hg9 := grown_seven w5 w.heap.size (.int .i64 0) (.int .i64 0) (.int .i64 0) (.int .i64 0) (.slice none 0 0) (.string ⟨#[]⟩) (.slice none 0 0)
              have HB9 := Lib.hid (HB5.out.grown hg9 HB5.out.size (fun q e => by have := Option.some.inj e; omega))
              refine bodyPost_ret (v := .tuple #[.agg #[.int .i64 0, .int .i64 0, .int .i64 0, .int .i64 0, .slice none 0 0, .string ⟨#[]⟩, .slice none 0 0], .int .i64 1]) ?_ rfl ?_
              · exact results_row_tmp (p := 2) (u := 3) rfl _ _ w.heap.size 42 _ (0, 0) _ rfl hz9 Tryd.underlying42 rfl (by kernel_rfl)
              · rw [HZ9.out]; exact retH_zero _ HB9.out
            | true =>
              obtain ⟨rfl, hno⟩ := HNO5.out (by trivial)
              obtain ⟨nb, rfl, hnb0, hnb, hn0, hn1, hn2, hn3⟩ := own_four hno
              have HVA5 : Hid (g5.l.all smallB = true) := Lib.hid HB2E.out.symm
              have HFI := Lib.hid ((HB1E.out.symm : [g0, g1, g2, g3].all smallB = true))
              obtain ⟨N0, hN0⟩ : ∃ y, y = g0.n := ⟨_, rfl⟩
              obtain ⟨N1, hN1⟩ : ∃ y, y = g1.n := ⟨_, rfl⟩
              obtain ⟨N2, hN2⟩ : ∃ y, y = g2.n := ⟨_, rfl⟩
              obtain ⟨N3, hN3⟩ : ∃ y, y = g3.n := ⟨_, rfl⟩
              obtain ⟨S4, hS4⟩ : ∃ y, y = g4.s := ⟨_, rfl⟩
              have HC63 : Hid (in63 N0 ∧ in63 N1 ∧ in63 N2 ∧ in63 N3) := Lib.hid (by
                have h := List.all_eq_true.1 HFI.out
                have a0 := (of_decide_eq_true (h g0 (by simp)) : smallN g0).2
                have a1 := (of_decide_eq_true (h g1 (by simp)) : smallN g1).2
                have a2 := (of_decide_eq_true (h g2 (by simp)) : smallN g2).2
                have a3 := (of_decide_eq_true (h g3 (by simp)) : smallN g3).2
                rw [hN0, hN1, hN2, hN3]
                unfold in63
                omega)
              have HS4 := Lib.hid hS4
              rw [← hN0] at hn0 HNUM HREAD
              rw [← hN1] at hn1 HNUM HREAD
              rw [← hN2] at hn2 HNUM HREAD
              rw [← hN3] at hn3 HNUM HREAD
              have hs4' := cell_keep HK5.out (show w2.cell? ⟨b, o + 18, none⟩ = some (.string S4) from by rw [hS4]; exact HE.out.1)
              rw [← hS4] at HNUM HREAD
              have hm0 := hn0
              have hm1 := hn1
              have hm2 := hn2
              have hm3 := hn3
              clear hN0 hN1 hN2 hN3 hS4 hn0 hn1 hn2 hn3 hno HNO5 HFI
              go_wp2_with fail
              refine wp_region_last (regOf Tryd.f19 11) [some 85, some 86, some 87, some 88, some 89, some 90, some 91, some 92, some 93, some 94, some 95, some 96, some 97, some 98, some 99, some 100, some 101, some 102, some 103, some 104, some 105, some 13] 22 (rgbT w1.heap.size b o nb nc vn vt vc N0 N1 N2 N3 S4 ra rn rc va5 vm5 vc5 w5) (fun w' => Below w5.heap.size w5 w') rgbD (by kernel_rfl) (by kernel_rfl) (by kernel_rfl) (by kernel_rfl) (by kernel_rfl) (by kernel_rfl) (by kernel_rfl) ((Below.refl _ _).drew)
                (rgb_steps w1.heap.size b o nb nc vn vt vc N0 N1 N2 N3 S4 ra rn rc va5 vm5 vc5 w5 (by omega) HV5.out (by omega) hm0 hm1 hm2 hm3 hs4' (by kernel_rfl) (by kernel_rfl) (by kernel_rfl) (by kernel_rfl) (by kernel_rfl)) ?_
              intro oL hoL vs w9 hn hCw9 hT KL hKL
              replace hn : vs.length = 22 := hn
              obtain ⟨v0, vs1, rfl, hn1⟩ := len_cons hn
              obtain ⟨v1, vs2, rfl, hn2⟩ := len_cons hn1
              obtain ⟨v2, vs3, rfl, hn3⟩ := len_cons hn2
              obtain ⟨v3, vs4, rfl, hn4⟩ := len_cons hn3
              obtain ⟨v4, vs5, rfl, hn5⟩ := len_cons hn4
              obtain ⟨v5, vs6, rfl, hn6⟩ := len_cons hn5
              obtain ⟨v6, vs7, rfl, hn7⟩ := len_cons hn6
              obtain ⟨v7, vs8, rfl, hn8⟩ := len_cons hn7
              obtain ⟨v8, vs9, rfl, hn9⟩ := len_cons hn8
              obtain ⟨v9, vs10, rfl, hn10⟩ := len_cons hn9
              obtain ⟨v10, vs11, rfl, hn11⟩ := len_cons hn10
              obtain ⟨v11, vs12, rfl, hn12⟩ := len_cons hn11
              obtain ⟨v12, vs13, rfl, hn13⟩ := len_cons hn12
              obtain ⟨v13, vs14, rfl, hn14⟩ := len_cons hn13
              obtain ⟨v14, vs15, rfl, hn15⟩ := len_cons hn14
              obtain ⟨v15, vs16, rfl, hn16⟩ := len_cons hn15
              obtain ⟨v16, vs17, rfl, hn17⟩ := len_cons hn16
              obtain ⟨v17, vs18, rfl, hn18⟩ := len_cons hn17
              obtain ⟨v18, vs19, rfl, hn19⟩ := len_cons hn18
              obtain ⟨v19, vs20, rfl, hn20⟩ := len_cons hn19
              obtain ⟨v20, vs21, rfl, hn21⟩ := len_cons hn20
              obtain ⟨v21, vs22, rfl, hn22⟩ := len_cons hn21
              obtain rfl := List.eq_nil_of_length_eq_zero hn22
              clear hn hn1 hn2 hn3 hn4 hn5 hn6 hn7 hn8 hn9 hn10 hn11 hn12 hn13 hn14 hn15 hn16 hn17 hn18 hn19 hn20 hn21 hn22
              obtain rfl : v0 = .slice (some ⟨nb, 0, none⟩) 4 nc := hT 0 v0 rfl (by kernel_rfl)
              obtain rfl : v1 = .pointer (some ⟨nb, 0, none⟩) := hT 1 v1 rfl (by kernel_rfl)
              obtain rfl : v2 = .int .i64 N0 := hT 2 v2 rfl (by kernel_rfl)
              obtain rfl : v3 = .slice (some ⟨nb, 0, none⟩) 4 nc := hT 3 v3 rfl (by kernel_rfl)
              obtain rfl : v4 = .pointer (some ⟨nb, 1, none⟩) := hT 4 v4 rfl (by kernel_rfl)
              obtain rfl : v5 = .int .i64 N1 := hT 5 v5 rfl (by kernel_rfl)
              obtain rfl : v6 = .slice (some ⟨nb, 0, none⟩) 4 nc := hT 6 v6 rfl (by kernel_rfl)
              obtain rfl : v7 = .pointer (some ⟨nb, 2, none⟩) := hT 7 v7 rfl (by kernel_rfl)
              obtain rfl : v8 = .int .i64 N2 := hT 8 v8 rfl (by kernel_rfl)
              obtain rfl : v9 = .slice (some ⟨nb, 0, none⟩) 4 nc := hT 9 v9 rfl (by kernel_rfl)
              obtain rfl : v10 = .pointer (some ⟨nb, 3, none⟩) := hT 10 v10 rfl (by kernel_rfl)
              obtain rfl : v11 = .int .i64 N3 := hT 11 v11 rfl (by kernel_rfl)
              obtain rfl : v12 = .slice ra rn rc := hT 12 v12 rfl (by kernel_rfl)
              obtain rfl : v13 = .agg #[.int .i64 N2, .int .i64 N3, .slice ra rn rc] := hT 13 v13 rfl (by kernel_rfl)
              obtain rfl : v14 = .pointer (some ⟨w1.heap.size, 3, none⟩) := hT 14 v14 rfl (by kernel_rfl)
              obtain rfl : v15 = .slice (some ⟨b, o, none⟩) 7 vc := hT 15 v15 rfl (by kernel_rfl)
              obtain rfl : v16 = .pointer (some ⟨b, o + 16, none⟩) := hT 16 v16 rfl (by kernel_rfl)
              obtain rfl : v17 = .pointer (some ⟨b, o + 18, none⟩) := hT 17 v17 rfl (by kernel_rfl)
              obtain rfl : v18 = .string S4 := hT 18 v18 rfl (by kernel_rfl)
              obtain rfl : v19 = .slice va5 vm5 vc5 := hT 19 v19 rfl (by kernel_rfl)
              obtain rfl : v20 = .agg #[.int .i64 N0, .int .i64 N1, .int .i64 N2, .int .i64 N3, .slice ra rn rc, .string S4, .slice va5 vm5 vc5] := hT 20 v20 rfl (by kernel_rfl)
              have t21 := Lib.hid (hT 21 v21 rfl (by kernel_rfl))
              clear hT
              have hoL1 := opIs hoL (p := .store 42 (.tmp 13) (.tmp 105)) (by kernel_rfl)
              have hgL := guardIs hoL (p := none) (by kernel_rfl)
              have hdL : oL.dst = none := by have := (show ((regOf Tryd.f19 11)[22]?).map (·.dst) = some (none) by kernel_rfl); rw [hoL] at this; simpa using this
              rw [if_pos (wanted_free hgL)]
              rw [hdL] at hKL
              simp only [puts, Act.put, List.setIfInBounds_toArray, List.set_cons_succ, List.set_cons_zero] at hKL ⊢
              obtain ⟨g, rfl, hgl, hgb⟩ := t21.out
              have HBK : Blk w9 g 42 [.int .i64 0, .int .i64 0, .int .i64 0, .int .i64 0, .slice none 0 0, .string ⟨#[]⟩, .slice none 0 0] := hgb
              have q0 := HBK.cell (j := 0) rfl
              have f0 := HBK.free 0
              have q1 := HBK.cell (j := 1) rfl
              have f1 := HBK.free 1
              have q2 := HBK.cell (j := 2) rfl
              have f2 := HBK.free 2
              have q3 := HBK.cell (j := 3) rfl
              have f3 := HBK.free 3
              have q4 := HBK.cell (j := 4) rfl
              have f4 := HBK.free 4
              have q5 := HBK.cell (j := 5) rfl
              have f5 := HBK.free 5
              have q6 := HBK.cell (j := 6) rfl
              have f6 := HBK.free 6
              unfold Oper.wp
              rw [show (execOp _ oL).run Tryd.prog w9 = .ok .skip (((((((w9.setCell ⟨g, 0, none⟩ (.int .i64 N0)).setCell ⟨g, 1, none⟩ (.int .i64 N1)).setCell ⟨g, 2, none⟩ (.int .i64 N2)).setCell ⟨g, 3, none⟩ (.int .i64 N3)).setCell ⟨g, 4, none⟩ (.slice ra rn rc)).setCell ⟨g, 5, none⟩ (.string S4)).setCell ⟨g, 6, none⟩ (.slice va5 vm5 vc5)) by unfold execOp; simp only [hoL1]; simp [go_sem, q0, q1, q2, q3, q4, q5, q6, f0, f1, f2, f3, f4, f5, f6]]
              show KL (Act.put _ oL.dst undef) _
              rw [hdL]
              refine hKL undef _ ?_
              have HM6 := Lib.hid (blk_seven HBK (.int .i64 N0) (.int .i64 N1) (.int .i64 N2) (.int .i64 N3) (.slice ra rn rc) (.string S4) (.slice va5 vm5 vc5))
              have hg5 := grown_seven w9 g (.int .i64 N0) (.int .i64 N1) (.int .i64 N2) (.int .i64 N3) (.slice ra rn rc) (.string S4) (.slice va5 vm5 vc5)
              have HKB := Lib.hid (hCw9.grown hg5 hCw9.size (fun q e => by have := Option.some.inj e; omega))
              have HG1 := Lib.hid hgl
              clear q0 q1 q2 q3 q4 q5 q6 f0 f1 f2 f3 f4 f5 f6 hg5 hgl hgb HBK t21 hoL hoL1 hgL hdL hCw9 hm0 hm1 hm2 hm3 hs4'
              generalize (((((((w9.setCell ⟨g, 0, none⟩ (.int .i64 N0)).setCell ⟨g, 1, none⟩ (.int .i64 N1)).setCell ⟨g, 2, none⟩ (.int .i64 N2)).setCell ⟨g, 3, none⟩ (.int .i64 N3)).setCell ⟨g, 4, none⟩ (.slice ra rn rc)).setCell ⟨g, 5, none⟩ (.string S4)).setCell ⟨g, 6, none⟩ (.slice va5 vm5 vc5)) = w6 at *
              have HB6 := Lib.hid (below_then HB5.out HKB.out HB5.out.size)
              have HR6' := Lib.hid (HR5.out.keep HKB.out)
              have hs6 := HKB.out.size
              clear HR5 HB5
              have HXR : Hid (x = if rightH (⟨N0, N1, N2, N3, g6.l.map recRead, S4, g5.l.map V.n⟩ : Hd) = true then ((⟨N0, N1, N2, N3, g6.l.map recRead, S4, g5.l.map V.n⟩ : Hd), 0) else (Hd.zero, 1)) := Lib.hid (by
                rw [hx.out]
                unfold readH
                by_cases hq : rightH (⟨N0, N1, N2, N3, g6.l.map recRead, S4, g5.l.map V.n⟩ : Hd) = true
                · rw [if_pos hq, if_pos (HNUM.out.2 ⟨by trivial, by trivial, by trivial, hq⟩), HREAD.out]
                · rw [if_neg hq, if_neg (fun h => hq (HNUM.out.1 h).2.2.2)])
              obtain ⟨rfl, hro⟩ := HRO.out (by trivial)
              obtain ⟨rfl, hvo⟩ := HVO5.out (by trivial)
              replace HRO := Lib.hid hro
              replace HVO5 := Lib.hid hvo
              have HK6 : Hid (g6.k = 3) := Lib.hid (by have h := HB3E.out.symm; rw [Bool.and_eq_true, decide_eq_true_eq] at h; exact h.1)
              have HRA : Hid (g6.l.all recIsB = true) := Lib.hid (by have h := HB3E.out.symm; rw [Bool.and_eq_true] at h; exact h.2)
              clear hx HNUM HREAD hro hvo HE HE6 HB1E HB2E HB3E HQ5 HQ6
              have HHD : Hid (HdAt w6 (⟨N0, N1, N2, N3, g6.l.map recRead, S4, g5.l.map V.n⟩ : Hd) ra (g6.l.map recRead).length rc va5 (g5.l.map V.n).length vc5) := Lib.hid (by
                obtain ⟨a, c, he, hn, hsl, -, -, -⟩ := Enc.own_sl (E := rcE) (own_under HRO.out HKB.out)
                cases he
                refine ⟨hsl, SlAt.ofOwn (own_under HVO5.out HKB.out), ?_, ?_, ?_, ?_, ?_, ?_⟩
                · rw [List.length_map]; have := HL6.out; omega
                · rw [List.length_map]; have := HL5.out; omega
                · intro r hr
                  obtain ⟨y, hy, rfl⟩ := List.mem_map.1 hr
                  have hn := of_decide_eq_true (List.all_eq_true.1 HRA.out y hy)
                  have h1 := txt_len (fld y 2) hn.2.2.2.2
                  have h2 := mem_len (fld_mem (v := y) (i := 2) (by rw [hn.2.1]; decide))
                  have h3 := all_len y hn.1
                  have h4 := mem_len hy
                  have h5 := all_len g6 HK6.out
                  have h6 := HT6.out
                  have hsz : (fld y 2).s.size ≤ 140737488355328 := by omega
                  exact ⟨hsz, by have := hn.2.2.1.2; unfold in63; show _ ≤ (fld y 0).n ∧ (fld y 0).n ≤ _; omega, by have := hn.2.2.2.1.2; unfold in63; show _ ≤ (fld y 1).n ∧ (fld y 1).n ≤ _; omega⟩
                · have h1 := txt_len g4 HK45.out.1
                  have h2 := HT4.out
                  show S4.size ≤ _
                  rw [HS4.out]
                  omega
                · exact ⟨HC63.out.1, HC63.out.2.1, HC63.out.2.2.1, HC63.out.2.2.2⟩
                · intro z hz
                  obtain ⟨y, hy, rfl⟩ := List.mem_map.1 hz
                  have := (of_decide_eq_true (List.all_eq_true.1 HVA5.out y hy) : smallN y).2; unfold in63; omega)
              have HAR : Hid (∀ y, ra = some y → w.heap.size ≤ y.block ∧ w1.heap.size ≤ y.block) := Lib.hid (fun y hy => by
                obtain ⟨a, c, he, hn, -, hsl, -, -⟩ := Enc.own_sl (E := rcE) HRO.out
                cases he
                have h1 := hsl y hy
                have := HW1.out
                exact ⟨by omega, by omega⟩)
              have HAV : Hid (∀ y, va5 = some y → w.heap.size ≤ y.block ∧ w1.heap.size ≤ y.block) := Lib.hid (fun y hy => by
                obtain ⟨a, n, c, he, -, hsl, -⟩ := own_slice HVO5.out
                cases he
                have h1 := hsl y hy
                have := HW1.out
                exact ⟨by omega, by omega⟩)
              have hright := Lib.hid (show Calls Tryd.prog 51 #[.agg #[.int .i64 N0, .int .i64 N1, .int .i64 N2, .int .i64 N3, .slice ra (g6.l.map recRead).length rc, .string S4, .slice va5 (g5.l.map V.n).length vc5]] w6 _ from rright14_any (⟨N0, N1, N2, N3, g6.l.map recRead, S4, g5.l.map V.n⟩ : Hd) ra _ rc va5 _ vc5 w6 HHD.out (HT.out _ HB6.out) _ (Lib.hid rfl))
              generalize (g6.l.map recRead).length = rn' at *
              generalize (g5.l.map V.n).length = vm' at *
              have x0 := HM6.out.cell (j := 0) rfl
              have x1 := HM6.out.cell (j := 1) rfl
              have x2 := HM6.out.cell (j := 2) rfl
              have x3 := HM6.out.cell (j := 3) rfl
              have x4 := HM6.out.cell (j := 4) rfl
              have x5 := HM6.out.cell (j := 5) rfl
              have x6 := HM6.out.cell (j := 6) rfl
              go_wp2_with fail
              refine hright.out.mono ?_
              rintro e w7 ⟨rfl, hb7⟩
              have HB7 := Lib.hid (below_then HB6.out hb7 HB6.out.size)
              have HR7 := Lib.hid (HR6'.out.keep hb7)
              have HM7 := Lib.hid (HM6.out.keep hb7)
              have HHD7 := Lib.hid (HHD.out.keep hb7)
              have hs7 := hb7.size
              have hw1 := HW1.out
              clear x0 x1 x2 x3 x4 x5 x6 hb7 hright HR6' HM6 HHD HB6
              cases hr : rightH (⟨N0, N1, N2, N3, g6.l.map recRead, S4, g5.l.map V.n⟩ : Hd) with
              | false =>
                have HZ9 : Hid (x = (Hd.zero, 1)) := Lib.hid (by rw [HXR.out, hr]; rfl)
                clear HXR hr
                have q0 := HR7.out.cell (j := 0) rfl
                have f0 := HR7.out.free 0
                have q1 := HR7.out.cell (j := 1) rfl
                have f1 := HR7.out.free 1
                have q2 := HR7.out.cell (j := 2) rfl
                have f2 := HR7.out.free 2
                have q3 := HR7.out.cell (j := 3) rfl
                have f3 := HR7.out.free 3
                have q4 := HR7.out.cell (j := 4) rfl
                have f4 := HR7.out.free 4
                have q5 := HR7.out.cell (j := 5) rfl
                have f5 := HR7.out.free 5
                have q6 := HR7.out.cell (j := 6) rfl
                have f6 := HR7.out.free 6
                go_wp2_with fail
                (try simp only [Exit.inBlock, Exit.then])
                have hz9 := blk_seven HR7.out (.int .i64 0) (.int .i64 0) (.int .i64 0) (.int .i64 0) (.slice none 0 0) (.string ⟨#[]⟩) (.slice none 0 0)
                have hg9 := grown_seven w7 w.heap.size (.int .i64 0) (.int .i64 0) (.int .i64 0) (.int .i64 0) (.slice none 0 0) (.string ⟨#[]⟩) (.slice none 0 0)
                have HB9 := Lib.hid (HB7.out.grown hg9 HB7.out.size (fun q e => by have := Option.some.inj e; omega))
                refine bodyPost_ret (v := .tuple #[.agg #[.int .i64 0, .int .i64 0, .int .i64 0, .int .i64 0, .slice none 0 0, .string ⟨#[]⟩, .slice none 0 0], .int .i64 1]) ?_ rfl ?_
                · exact results_row_tmp (p := 2) (u := 3) rfl _ _ w.heap.size 42 _ (0, 0) _ rfl hz9 Tryd.underlying42 rfl (by kernel_rfl)
                · rw [HZ9.out]; exact retH_zero _ HB9.out
              | true =>
                have HZ9 : Hid (x = ((⟨N0, N1, N2, N3, g6.l.map recRead, S4, g5.l.map V.n⟩ : Hd), 0)) := Lib.hid (by rw [HXR.out, hr]; rfl)
                clear HXR hr
                have x0 := HM7.out.cell (j := 0) rfl
                have x1 := HM7.out.cell (j := 1) rfl
                have x2 := HM7.out.cell (j := 2) rfl
                have x3 := HM7.out.cell (j := 3) rfl
                have x4 := HM7.out.cell (j := 4) rfl
                have x5 := HM7.out.cell (j := 5) rfl
                have x6 := HM7.out.cell (j := 6) rfl
                have q0 := HR7.out.cell (j := 0) rfl
                have f0 := HR7.out.free 0
                have q1 := HR7.out.cell (j := 1) rfl
                have f1 := HR7.out.free 1
                have q2 := HR7.out.cell (j := 2) rfl
                have f2 := HR7.out.free 2
                have q3 := HR7.out.cell (j := 3) rfl
                have f3 := HR7.out.free 3
                have q4 := HR7.out.cell (j := 4) rfl
                have f4 := HR7.out.free 4
                have q5 := HR7.out.cell (j := 5) rfl
                have f5 := HR7.out.free 5
                have q6 := HR7.out.cell (j := 6) rfl
                have f6 := HR7.out.free 6
                go_wp2_with fail
                clear x0 x1 x2 x3 x4 x5 x6
                (try simp only [Exit.inBlock, Exit.then])
                have hz9 := blk_seven HR7.out (.int .i64 N0) (.int .i64 N1) (.int .i64 N2) (.int .i64 N3) (.slice ra rn' rc) (.string S4) (.slice va5 vm' vc5)
                have hg9 := grown_seven w7 w.heap.size (.int .i64 N0) (.int .i64 N1) (.int .i64 N2) (.int .i64 N3) (.slice ra rn' rc) (.string S4) (.slice va5 vm' vc5)
                have HB9 := Lib.hid (HB7.out.grown hg9 HB7.out.size (fun q e => by have := Option.some.inj e; omega))
                refine bodyPost_ret (v := .tuple #[.agg #[.int .i64 N0, .int .i64 N1, .int .i64 N2, .int .i64 N3, .slice ra rn' rc, .string S4, .slice va5 vm' vc5], .int .i64 0]) ?_ rfl ?_
                · exact results_row_tmp (p := 2) (u := 3) rfl _ _ w.heap.size 42 _ (0, 0) _ rfl hz9 Tryd.underlying42 rfl (by kernel_rfl)
                · rw [HZ9.out]; exact ⟨ra, rn', rc, va5, vm', vc5, rfl, hdAt_kept HHD7.out hg9 (fun y e he => by have := (HAR.out y e).2; have := Option.some.inj he; omega) (fun y e he => by have := (HAV.out y e).2; have := Option.some.inj he; omega), HB9.out, fun y e => (HAR.out y e).1, fun y e => (HAV.out y e).1⟩
      · have HZ9 : Hid (x = (Hd.zero, 1)) := Lib.hid (by
          rw [hx.out]; unfold readH; rw [if_neg]
          rintro ⟨⟨-, -, h1, h2, -⟩, -⟩
          exact hc ⟨h1, h2⟩)
        have HCC := Lib.hid hc
        generalize g4.k = k4 at *
        generalize g5.k = k5 at *
        clear hx hc r5 r6 e42 e51 e52 e53 e60 e61 e62 e63 HALT
        have q0 := HR2.out.cell (j := 0) rfl
        have f0 := HR2.out.free 0
        have q1 := HR2.out.cell (j := 1) rfl
        have f1 := HR2.out.free 1
        have q2 := HR2.out.cell (j := 2) rfl
        have f2 := HR2.out.free 2
        have q3 := HR2.out.cell (j := 3) rfl
        have f3 := HR2.out.free 3
        have q4 := HR2.out.cell (j := 4) rfl
        have f4 := HR2.out.free 4
        have q5 := HR2.out.cell (j := 5) rfl
        have f5 := HR2.out.free 5
        have q6 := HR2.out.cell (j := 6) rfl
        have f6 := HR2.out.free 6
        go_wp2_with fail
        all_goals first
          | (exfalso; have hk := HCC.out; (try simp only [bne_eq_false_iff_eq] at *); omega)
          | (
            (try simp only [Exit.inBlock, Exit.then])
            have hz9 := blk_seven HR2.out (.int .i64 0) (.int .i64 0) (.int .i64 0) (.int .i64 0) (.slice none 0 0) (.string ⟨#[]⟩) (.slice none 0 0)
            have hg9 := grown_seven w2 w.heap.size (.int .i64 0) (.int .i64 0) (.int .i64 0) (.int .i64 0) (.slice none 0 0) (.string ⟨#[]⟩) (.slice none 0 0)
            have HB9 := Lib.hid (HB2.out.grown hg9 HB2.out.size (fun q e => by have := Option.some.inj e; omega))
            refine bodyPost_ret (v := .tuple #[.agg #[.int .i64 0, .int .i64 0, .int .i64 0, .int .i64 0, .slice none 0 0, .string ⟨#[]⟩, .slice none 0 0], .int .i64 1]) ?_ rfl ?_
            · exact results_row_tmp (p := 2) (u := 3) rfl _ _ w.heap.size 42 _ (0, 0) _ rfl hz9 Tryd.underlying42 rfl (by kernel_rfl)
            · rw [HZ9.out]; exact retH_zero _ HB9.out
            )
    · have HZ9 : Hid (x = (Hd.zero, 1)) := Lib.hid (by
        rw [hx.out]; unfold readH; rw [if_neg]
        rintro ⟨⟨-, h2, -⟩, -⟩
        exact hl7 h2)
      have hl7b : ((vl.length : Int) != 7) = true := by simp; omega
      clear hx hl7
      have q0 := HR2.out.cell (j := 0) rfl
      have f0 := HR2.out.free 0
      have q1 := HR2.out.cell (j := 1) rfl
      have f1 := HR2.out.free 1
      have q2 := HR2.out.cell (j := 2) rfl
      have f2 := HR2.out.free 2
      have q3 := HR2.out.cell (j := 3) rfl
      have f3 := HR2.out.free 3
      have q4 := HR2.out.cell (j := 4) rfl
      have f4 := HR2.out.free 4
      have q5 := HR2.out.cell (j := 5) rfl
      have f5 := HR2.out.free 5
      have q6 := HR2.out.cell (j := 6) rfl
      have f6 := HR2.out.free 6
      go_wp2_with fail
      (try simp only [Exit.inBlock, Exit.then])
      have hz9 := blk_seven HR2.out (.int .i64 0) (.int .i64 0) (.int .i64 0) (.int .i64 0) (.slice none 0 0) (.string ⟨#[]⟩) (.slice none 0 0)
      have hg9 := grown_seven w2 w.heap.size (.int .i64 0) (.int .i64 0) (.int .i64 0) (.int .i64 0) (.slice none 0 0) (.string ⟨#[]⟩) (.slice none 0 0)
      have HB9 := Lib.hid (HB2.out.grown hg9 HB2.out.size (fun q e => by have := Option.some.inj e; omega))
      refine bodyPost_ret (v := .tuple #[.agg #[.int .i64 0, .int .i64 0, .int .i64 0, .int .i64 0, .slice none 0 0, .string ⟨#[]⟩, .slice none 0 0], .int .i64 1]) ?_ rfl ?_
      · exact results_row_tmp (p := 2) (u := 3) rfl _ _ w.heap.size 42 _ (0, 0) _ rfl hz9 Tryd.underlying42 rfl (by kernel_rfl)
      · rw [HZ9.out]; exact retH_zero _ HB9.out
  · have HZ9 : Hid (x = (Hd.zero, 1)) := Lib.hid (by
      rw [hx.out]; unfold readH; rw [if_neg]
      rintro ⟨⟨h2, -⟩, -⟩
      exact hk3 h2)
    have hk3b : (vk != 3) = true := by simpa using hk3
    clear hx hk3
    have q0 := HR2.out.cell (j := 0) rfl
    have f0 := HR2.out.free 0
    have q1 := HR2.out.cell (j := 1) rfl
    have f1 := HR2.out.free 1
    have q2 := HR2.out.cell (j := 2) rfl
    have f2 := HR2.out.free 2
    have q3 := HR2.out.cell (j := 3) rfl
    have f3 := HR2.out.free 3
    have q4 := HR2.out.cell (j := 4) rfl
    have f4 := HR2.out.free 4
    have q5 := HR2.out.cell (j := 5) rfl
    have f5 := HR2.out.free 5
    have q6 := HR2.out.cell (j := 6) rfl
    have f6 := HR2.out.free 6
    go_wp2_with fail
    (try simp only [Exit.inBlock, Exit.then])
    have hz9 := blk_seven HR2.out (.int .i64 0) (.int .i64 0) (.int .i64 0) (.int .i64 0) (.slice none 0 0) (.string ⟨#[]⟩) (.slice none 0 0)
    have hg9 := grown_seven w2 w.heap.size (.int .i64 0) (.int .i64 0) (.int .i64 0) (.int .i64 0) (.slice none 0 0) (.string ⟨#[]⟩) (.slice none 0 0)
    have HB9 := Lib.hid (HB2.out.grown hg9 HB2.out.size (fun q e => by have := Option.some.inj e; omega))
    refine bodyPost_ret (v := .tuple #[.agg #[.int .i64 0, .int .i64 0, .int .i64 0, .int .i64 0, .slice none 0 0, .string ⟨#[]⟩, .slice none 0 0], .int .i64 1]) ?_ rfl ?_
    · exact results_row_tmp (p := 2) (u := 3) rfl _ _ w.heap.size 42 _ (0, 0) _ rfl hz9 Tryd.underlying42 rfl (by kernel_rfl)
    · rw [HZ9.out]; exact retH_zero _ HB9.out
theorem rget14_any (s : ByteArray) (w : World) (hm : s.size ≤ 9223372036854775807) (htab : Lib.TabIs Tryd.prog w "internal/strconv.uint64pow10" .u64 Lib.pow10Tab) : Calls Tryd.prog 19 #[.string s] w (RetH w (getH s)) := by
  unfold getH
  by_cases hb : (getL s).bad ≠ 0
  · rw [if_pos hb]
    exact rget14_bad s w hm hb
  · rw [if_neg hb]
    have hb : (getL s).bad = 0 := Classical.byContradiction hb
    exact rget14_go s w hm htab hb _ rfl _ (Lib.hid rfl)
end Go.Proofs.YtboohpkmllelgaaDoor
