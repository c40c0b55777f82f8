/-
  The walk of the reference's Crash: new blocks alone are made; the texts within reach. (Written by wip/mkrcw.py.)
-/
import Derived.Test.YtjppommhamaibaaDkReg
import Derived.Laws.ResultCell
namespace Go.Proofs.Ytjppommhamaibaa
open Go.RowKit Go.BigFrame
set_option linter.unusedVariables false

theorem results_cell {fn : Func} {p : Tmp} {ty : TypeId} (h : fn.results = #[.cell p ty]) (tmps : Array Value) (P : Program) (w : World) :
    (results fn tmps).run P w = ((asAddr (tmps.getD p undef)).run P w).andThen fun a w₁ => ((loadVar ty a).run P w₁) := by
  simp only [results, h]
  simp [Sem.run_bind, Result.andThen]
theorem drop_tail3 {ops : Array Oper} {n : Nat} {x y z : Oper} (hs : ops.size = n + 3) (hx : ops[n]? = some x) (hy : ops[n + 1]? = some y) (hz : ops[n + 2]? = some z) : ops.toList.drop n = [x, y, z] := by
  obtain ⟨h1, h2⟩ := Array.getElem?_eq_some_iff.1 hx
  obtain ⟨h3, h4⟩ := Array.getElem?_eq_some_iff.1 hy
  obtain ⟨h5, h6⟩ := Array.getElem?_eq_some_iff.1 hz
  rw [List.drop_eq_getElem_cons (by simpa using h1), List.drop_eq_getElem_cons (by simpa using h3), List.drop_eq_getElem_cons (by simpa using h5), List.drop_eq_nil_of_le (by simp; omega)]
  simp [h2, h4, h6]
theorem fieldAddr_run {ρ : Operand → Value} {o : Oper} {b : Nat} (hop : o.op = .fieldAddr 24 (.tmp 5) 1) (hx : ρ (.tmp 5) = .pointer (some ⟨b, 0, none⟩)) (w : World) : (execOp ρ o).run Try.prog w = .ok (.value (.pointer (some ⟨b, 1, none⟩))) w := by
  unfold execOp
  simp only [hop]
  simp [go_sem, hx]
theorem store_run {ρ : Operand → Value} {o : Oper} {b : Nat} {v0 : Value} {a : Option Addr} {n c : Nat} (hop : o.op = .store 22 (.tmp 57) (.tmp 56)) (hx : ρ (.tmp 57) = .pointer (some ⟨b, 1, none⟩)) (hy : ρ (.tmp 56) = .slice a n c) {w : World} (hc : w.cell? ⟨b, 1, none⟩ = some v0) (hf : w.frozen? ⟨b, 1, none⟩ = false) :
    (execOp ρ o).run Try.prog w = .ok .skip (w.setCell ⟨b, 1, none⟩ (.slice a n c)) := by
  unfold execOp
  simp only [hop]
  simp [go_sem, hx, hy, hc, hf]
theorem wp_val {P : Program} {o : Oper} {a : Act} {w w' : World} {K : Act → World → Prop} {Q : Exit → Act → World → Prop} {v : Value} (hr : (execOp a.eval o).run P w = .ok (.value v) w') (h : K (a.put o.dst v) w') : Oper.wp P o a w K Q := by
  unfold Oper.wp
  rw [hr]
  exact h
theorem wp_skip {P : Program} {o : Oper} {a : Act} {w w' : World} {K : Act → World → Prop} {Q : Exit → Act → World → Prop} (hr : (execOp a.eval o).run P w = .ok .skip w') (h : K (a.put o.dst undef) w') : Oper.wp P o a w K Q := by
  unfold Oper.wp
  rw [hr]
  exact h
def RetD1 (w : World) (d : Dk) (e : Ending) (w' : World) : Prop := ∃ a n c, e = .returned (Dk.val d a n c) ∧ DkAt w' a n c d ∧ Below w.heap.size w w'
def thrW (w : World) (d : Dk) (a : Option Addr) (n c : Nat) : World := ((w.alloc (.cells #[.int .i64 d.room, .slice a n c, .int .i64 d.left, .bool d.down] 24)).alloc (.cells #[.int .i64 0, .slice none 0 0, .int .i64 0, .bool false] 24)).alloc (.cells #[.int .i64 d.room, .slice none 0 0, .int .i64 (-1), .bool false] 24)
theorem thr_size (w : World) (d : Dk) (a : Option Addr) (n c : Nat) : (thrW w d a n c).heap.size = w.heap.size + 3 := by unfold thrW; simp
theorem thr_below (w : World) (d : Dk) (a : Option Addr) (n c : Nat) : Below w.heap.size w (thrW w d a n c) := (two_below w d a n c).alloc (two_below w d a n c).size _
theorem thr_box (w : World) (d : Dk) (a : Option Addr) (n c : Nat) : DkBox (thrW w d a n c) w.heap.size d a n c := (two_box w d a n c).alloc _
theorem thr_out (w : World) (d : Dk) (a : Option Addr) (n c : Nat) : outBox (thrW w d a n c) (w.heap.size + 1) := (two_out w d a n c).alloc _
theorem thr_new (w : World) (d : Dk) (a : Option Addr) (n c : Nat) : Four (thrW w d a n c) (w.heap.size + 2) 24 (.int .i64 d.room) (.slice none 0 0) (.int .i64 (-1)) (.bool false) := by
  have h := Four.new (twoW w d a n c) 24 (.int .i64 d.room) (.slice none 0 0) (.int .i64 (-1)) (.bool false)
  have hz : (twoW w d a n c).heap.size = w.heap.size + 2 := by unfold twoW; simp
  rw [hz] at h
  exact h

set_option maxRecDepth 20000 in
set_option maxHeartbeats 4000000 in
theorem refCrash_any (a : Option Addr) (n c : Nat) (d : Dk) (ak : Option Addr) (nk ck : Nat) (keep : List Int) (w : World) (h : DkAt w a n c d) (hk : SlAt w ak nk (i64s keep)) (hkn : nk ≤ 100000000000000) (hr : rightD d = true) :
    Calls Try.prog 16 #[d.val a n c, .slice ak nk ck] w (RetD1 w (crashed d keep)) := by
  obtain ⟨i0, hi, hz0, hz1, hz2⟩ := info_parts infoFile
  have HI := Lib.hid hi
  have HZ := Lib.hid (And.intro hz0 (And.intro hz1 hz2))
  clear hi hz0 hz1 hz2
  have HB := Lib.hid (thr_below w d a n c)
  have HX := Lib.hid (thr_box w d a n c)
  have HQ := Lib.hid (thr_out w d a n c)
  have HY := Lib.hid (thr_new w d a n c)
  have HZS := Lib.hid (thr_size w d a n c)
  have HL := Lib.hid (crash_right hr keep)
  have HS := Lib.hid (right_small hr)
  have hn8 : n ≤ 8 := by have := h.len; have := (rightD_nums hr).2.1; omega
  have HN := Lib.hid h.len
  have HK := Lib.hid hk
  have HSL := Lib.hid h.sl
  clear h hk hr
  unfold thrW at *
  obtain ⟨rm, l, lf, dn⟩ := d
  unfold Dk.val
  dsimp only at *
  go_enter Try.func16, Try.ntmps16
  go_wp2_with fail
  have HRO : Hid ((((w.alloc (.cells #[.int .i64 rm, .slice a n c, .int .i64 lf, .bool dn] 24)).alloc (.cells #[.int .i64 0, .slice none 0 0, .int .i64 0, .bool false] 24)).alloc (.cells #[.int .i64 rm, .slice none 0 0, .int .i64 (-1), .bool false] 24)).ownsRow (w.heap.size + 3) 32 3 (.slice none 0 0) 0 (flE.cells ((crashF keep 0 l).take 0))) := Lib.hid (World.ownsRow_nil _ _ _ _)
  generalize ((w.alloc (.cells #[.int .i64 rm, .slice a n c, .int .i64 lf, .bool dn] 24)).alloc (.cells #[.int .i64 0, .slice none 0 0, .int .i64 0, .bool false] 24)).alloc (.cells #[.int .i64 rm, .slice none 0 0, .int .i64 (-1), .bool false] 24) = W0 at *
  go_loopg [6, 7, 8, 15] n (fun gk v6 v7 v8 i wr => ∃ (k : Nat) (va : Option Addr) (vc : Nat), k ≤ n ∧ gk = n - k ∧ i = .int .i64 (k : Int) ∧ Hid (Below w.heap.size w wr) ∧ Hid (Four wr w.heap.size 24 (.int .i64 rm) (.slice a n c) (.int .i64 lf) (.bool dn)) ∧ Hid (outBox wr (w.heap.size + 1)) ∧ Hid (Four wr (w.heap.size + 2) 24 (.int .i64 rm) (.slice va k vc) (.int .i64 (-1)) (.bool false)) ∧ Hid (wr.ownsRow (w.heap.size + 3) 32 3 (.slice va k vc) k (flE.cells ((crashF keep 0 l).take k))))
  case atStart => exact ⟨0, none, 0, Nat.zero_le _, rfl, rfl, HB, HX, HQ, HY, HRO⟩
  case round =>
    obtain ⟨k, va, vc, hk, rfl, rfl, hB, hX, hQ, hY, hM⟩ := hrel
    clear HB HX HQ HY HRO HZS
    by_cases hlt : k < n
    · have hkl : k < l.length := by rw [HN.out]; exact hlt
      obtain ⟨-, b, off, rfl, hcells⟩ := fl_at (HSL.out.keep hB.out) (by omega)
      obtain ⟨c0, c1, c2⟩ := hcells k hkl
      have hki : (k : Int) < (n : Int) := by omega
      have h5 : w.heap.size + 2 < wr.heap.size := lt_of_block hY.out
      have HZ7 : Hid (w.heap.size + 2 < wr.heap.size) := Lib.hid h5
      have hfr : ∀ v0 v1 v2, (wr.alloc (.cells #[v0, v1, v2] 32)).cell? ⟨w.heap.size + 2, 1, none⟩ = some (.slice va k vc) := fun v0 v1 v2 => (Four.alloc hY.out (.cells #[v0, v1, v2] 32)).c1
      obtain ⟨s1, s2⟩ := HS.out l[k] (List.getElem_mem hkl)
      have hcf : (crashF keep 0 l)[k]? = some ⟨l[k].nm, l[k].sy ++ l[k].ta.extract 0 (keepN keep k l[k]), ⟨#[]⟩⟩ := by have := crashF_get keep 0 l k hkl; rwa [Nat.zero_add] at this
      have HKN := Lib.hid (fun h => keepN_none (keep := keep) (i := k) l[k] h)
      have HKS := Lib.hid (fun h => keepN_some (keep := keep) (i := k) l[k] h)
      clear hcells
      generalize l[k] = o at *
      obtain ⟨o0, o1, o2⟩ := o
      dsimp only at *
      obtain ⟨m, hm⟩ : ∃ m, m = keepN keep k ⟨o0, o1, o2⟩ := ⟨_, rfl⟩
      rw [← hm] at hcf HKN HKS
      clear hm
      have hcl : k < (crashF keep 0 l).length := by rw [crashF_length]; exact hkl
      have HNX : Hid (((crashF keep 0 l).take k) ++ [⟨o0, o1 ++ o2.extract 0 m, ⟨#[]⟩⟩] = (crashF keep 0 l).take (k + 1)) := Lib.hid (by
        rw [List.take_succ_eq_append_getElem hcl, (List.getElem?_eq_some_iff.1 hcf).2])
      have f0 := cell_new (w := wr) (cs := #[.string o0, .string o1, .string o2]) (T := 32) 0 (v := .string o0) rfl
      have f1 := cell_new (w := wr) (cs := #[.string o0, .string o1, .string o2]) (T := 32) 1 (v := .string o1) rfl
      have f2 := cell_new (w := wr) (cs := #[.string o0, .string o1, .string o2]) (T := 32) 2 (v := .string o2) rfl
      have y1 := hfr (.string o0) (.string o1) (.string o2)
      have HY7 := Lib.hid (Four.alloc hY.out (.cells #[.string o0, .string o1, .string o2] 32))
      have HX7 := Lib.hid (Four.alloc hX.out (.cells #[.string o0, .string o1, .string o2] 32))
      have HQ7 := Lib.hid (Four.alloc hQ.out (.cells #[.string o0, .string o1, .string o2] 32))
      have HB7 := Lib.hid (hB.out.alloc hB.out.size (.cells #[.string o0, .string o1, .string o2] 32))
      have HO7 := Lib.hid (hM.out.alloc (.cells #[.string o0, .string o1, .string o2] 32))
      have HZ7 : Hid (w.heap.size + 2 < (wr.alloc (.cells #[.string o0, .string o1, .string o2] 32)).heap.size ∧ wr.heap.size < (wr.alloc (.cells #[.string o0, .string o1, .string o2] 32)).heap.size) := Lib.hid (by simp; omega)
      clear hfr hcf hcl h5
      by_cases hkk : k < nk
      · obtain ⟨x, bk, offk, hak, ck1, hms⟩ : ∃ (x : Int) (bk offk : Nat), ak = some ⟨bk, offk, none⟩ ∧ wr.cell? ⟨bk, offk + k, none⟩ = some (.int .i64 x) ∧ Hid (m = min x.toNat o2.size) := by
          obtain ⟨hkl2, bk, offk, h1, hkc2⟩ := SlAt.i64 (HK.out.keep hB.out) (by omega)
          exact ⟨keep[k]'(by omega), bk, offk, h1, hkc2 k (by omega), Lib.hid (HKS.out (by omega))⟩
        subst hak
        have hkki : (k : Int) < (nk : Int) := by omega
        have ck2 := cell_keep ((Below.refl wr.heap.size wr).alloc (Nat.le_refl _) (.cells #[.string o0, .string o1, .string o2] 32)) ck1
        have HM : Hid (m ≤ o2.size) := Lib.hid (by have := hms.out; omega)
        clear HKN HKS ck1
        by_cases hx0 : 0 < x
        · by_cases hxs : x ≤ (o2.size : Int)
          · have hxm : (m : Int) = x := by have := hms.out; omega
            clear hms
            subst hxm
            go_wp2_with fail
            obtain ⟨N7, hN7⟩ : ∃ N7, N7 = wr.heap.size := ⟨_, rfl⟩
            generalize wr.alloc (.cells #[.string o0, .string o1, .string o2] 32) = W7 at *
            rw [← hN7] at f0 f1 f2 HZ7 ⊢
            clear hN7
            refine wp_region_tail (regOf Try.f16 10) [some 43, some 44, some 45, some 46, some 47, some 48, some 49, some 50, some 51, some 52, some 53, some 54, some 55] 13 (rcrT (w.heap.size + 2) N7 k vc m va o0 o1 o2 W7) (fun w' => Below W7.heap.size W7 w') rcrD (by kernel_rfl) (by kernel_rfl) (by kernel_rfl) (by kernel_rfl) (by kernel_rfl) (by kernel_rfl) (by kernel_rfl) ((Below.refl _ _).drew)
              (rcr_steps (w.heap.size + 2) N7 k vc m va o0 o1 o2 W7 y1 (by have := HZ7.out; omega) f0 f1 f2 (by have := HZ7.out; omega) (by have := HM.out; omega) (by omega) (by omega) (by kernel_rfl) (by kernel_rfl) (by kernel_rfl) (by kernel_rfl)) ?_
            intro vs w4 hn hCw4 hT
            replace hn : vs.length = 13 := hn
            obtain ⟨v0, vs1, rfl, hn1⟩ := len_cons hn
            obtain ⟨v1, vs2, rfl, hn2⟩ := len_cons hn1
            obtain ⟨v2, vs3, rfl, hn3⟩ := len_cons hn2
            obtain ⟨v3, vs4, rfl, hn4⟩ := len_cons hn3
            obtain ⟨v4, vs5, rfl, hn5⟩ := len_cons hn4
            obtain ⟨v5, vs6, rfl, hn6⟩ := len_cons hn5
            obtain ⟨v6, vs7, rfl, hn7⟩ := len_cons hn6
            obtain ⟨v7, vs8, rfl, hn8⟩ := len_cons hn7
            obtain ⟨v8, vs9, rfl, hn9⟩ := len_cons hn8
            obtain ⟨v9, vs10, rfl, hn10⟩ := len_cons hn9
            obtain ⟨v10, vs11, rfl, hn11⟩ := len_cons hn10
            obtain ⟨v11, vs12, rfl, hn12⟩ := len_cons hn11
            obtain ⟨v12, vs13, rfl, hn13⟩ := len_cons hn12
            obtain rfl := List.eq_nil_of_length_eq_zero hn13
            clear hn hn1 hn2 hn3 hn4 hn5 hn6 hn7 hn8 hn9 hn10 hn11 hn12 hn13
            obtain rfl : v0 = .pointer (some ⟨(w.heap.size + 2), 1, none⟩) := hT 0 v0 rfl (by kernel_rfl)
            obtain rfl : v1 = .slice va k vc := hT 1 v1 rfl (by kernel_rfl)
            obtain rfl : v2 = .pointer (some ⟨N7, 0, none⟩) := hT 2 v2 rfl (by kernel_rfl)
            obtain rfl : v3 = .string o0 := hT 3 v3 rfl (by kernel_rfl)
            obtain rfl : v4 = .pointer (some ⟨N7, 1, none⟩) := hT 4 v4 rfl (by kernel_rfl)
            obtain rfl : v5 = .string o1 := hT 5 v5 rfl (by kernel_rfl)
            obtain rfl : v6 = .pointer (some ⟨N7, 2, none⟩) := hT 6 v6 rfl (by kernel_rfl)
            obtain rfl : v7 = .string o2 := hT 7 v7 rfl (by kernel_rfl)
            obtain rfl : v8 = .int .i64 (m : Int) := hT 8 v8 rfl (by kernel_rfl)
            obtain rfl : v9 = .string (o2.extract 0 m) := hT 9 v9 rfl (by kernel_rfl)
            obtain rfl : v10 = .string (o1 ++ o2.extract 0 m) := hT 10 v10 rfl (by kernel_rfl)
            obtain rfl : v11 = .agg #[.string o0, .string (o1 ++ o2.extract 0 m), .string ⟨#[]⟩] := hT 11 v11 rfl (by kernel_rfl)
            have t12 := Lib.hid (hT 12 v12 rfl (by kernel_rfl))
            clear hT
            obtain ⟨o13, ho13⟩ : ∃ o, (regOf Try.f16 10)[13]? = some o := ⟨_, Array.getElem?_eq_getElem (show 13 < (regOf Try.f16 10).size from (show (regOf Try.f16 10).size = 16 by kernel_rfl) ▸ by decide)⟩
            have op13 := opIs ho13 (p := .call { callee := (.builtin .append), args := #[(.tmp 44), (.tmp 55)], argTypes := #[22, 22] }) (by kernel_rfl)
            have gd13 := guardIs ho13 (p := none) (by kernel_rfl)
            have dt13 : o13.dst = some 56 := by have := (show ((regOf Try.f16 10)[13]?).map (·.dst) = some (some 56) by kernel_rfl); rw [ho13] at this; simpa using this
            obtain ⟨o14, ho14⟩ : ∃ o, (regOf Try.f16 10)[14]? = some o := ⟨_, Array.getElem?_eq_getElem (show 14 < (regOf Try.f16 10).size from (show (regOf Try.f16 10).size = 16 by kernel_rfl) ▸ by decide)⟩
            have op14 := opIs ho14 (p := .fieldAddr 24 (.tmp 5) 1) (by kernel_rfl)
            have gd14 := guardIs ho14 (p := none) (by kernel_rfl)
            have dt14 : o14.dst = some 57 := by have := (show ((regOf Try.f16 10)[14]?).map (·.dst) = some (some 57) by kernel_rfl); rw [ho14] at this; simpa using this
            obtain ⟨o15, ho15⟩ : ∃ o, (regOf Try.f16 10)[15]? = some o := ⟨_, Array.getElem?_eq_getElem (show 15 < (regOf Try.f16 10).size from (show (regOf Try.f16 10).size = 16 by kernel_rfl) ▸ by decide)⟩
            have op15 := opIs ho15 (p := .store 22 (.tmp 57) (.tmp 56)) (by kernel_rfl)
            have gd15 := guardIs ho15 (p := none) (by kernel_rfl)
            have dt15 : o15.dst = none := by have := (show ((regOf Try.f16 10)[15]?).map (·.dst) = some (none) by kernel_rfl); rw [ho15] at this; simpa using this
            rw [show (regOf Try.f16 10).toList.drop 13 = [o13, o14, o15] from drop_tail3 (by kernel_rfl) ho13 ho14 ho15]
            simp only [puts, Act.put, List.setIfInBounds_toArray, List.set_cons_succ, List.set_cons_zero]
            obtain ⟨b12, rfl, hsl⟩ := t12.out
            intro K2 hK2
            have HO4 := Lib.hid (HO7.out.kept (grown_below hCw4 none) (by cases hv : (Value.slice va k vc).ownBlock <;> simp))
            have HY4 := Lib.hid (Four.keep HY7.out hCw4)
            have HX4 := Lib.hid (Four.keep HX7.out hCw4)
            have HQ4 := Lib.hid (Four.keep HQ7.out hCw4)
            have HB4 := Lib.hid (below_then HB7.out hCw4 HB7.out.size)
            have hz4 : w.heap.size + 3 ≤ w4.heap.size := by have h1 := HZ7.out; have h2 := hCw4.size; omega
            refine Enc.wpList_app (E := flE) _ gd13 _ _ 22 op13 (w.heap.size + 3) 32 i0 _ 48 Try.underlying22 HI.out HZ.out.1 HZ.out.2.1 HZ.out.2.2 rfl _ k ((crashF keep 0 l).take k) HO4.out rfl (some ⟨b12, 0, none⟩) 1 1 [⟨o0, o1 ++ o2.extract 0 m, ⟨#[]⟩⟩] rfl hsl (fun e => by cases e) (by unfold maxLen; omega) (by omega) hz4 ?_
            intro v5 w5 ho5 hg5
            have hlt5 := HO4.out.lt
            rw [HNX.out] at ho5
            obtain ⟨a5, c5, rfl, -⟩ := Enc.own_sl (E := flE) ho5
            have HO5 := Lib.hid ho5
            have nb : ∀ b, b < w.heap.size + 3 → some b ≠ (Value.slice va k vc).ownBlock := fun b hb e => by have := (hlt5 b e.symm).1; omega
            have HY5 := Lib.hid (Four.kept HY4.out hg5 (nb _ (by omega)))
            have HX5 := Lib.hid (Four.kept HX4.out hg5 (nb _ (by omega)))
            have HQ5 := Lib.hid (Four.kept HQ4.out hg5 (nb _ (by omega)))
            have HB5 := Lib.hid (HB4.out.grown hg5 HB4.out.size (fun q e => by have := (hlt5 q e).1; omega))
            rw [dt13] at hK2 ⊢
            refine hK2 _ _ ?_
            clear ho5 hg5 hlt5 nb hsl t12 hCw4 hK2 HO4 HY4 HX4 HQ4 HB4
            intro K3 hK3
            refine wpList_plain gd14 fun K4 hK4 => ?_
            refine wp_val (fieldAddr_run op14 rfl _) ?_
            rw [dt14] at hK3 ⊢
            refine hK4 _ _ (hK3 _ _ ?_)
            clear hK3 hK4
            intro K5 hK5
            refine wpList_plain gd15 fun K6 hK6 => ?_
            refine wp_skip (store_run op15 rfl rfl HY5.out.c1 (HY5.out.free 1)) ?_
            rw [dt15] at hK5 ⊢
            refine hK6 _ _ (hK5 _ _ ?_)
            clear hK5 hK6
            unfold tailWp
            simp only [Act.put, List.setIfInBounds_toArray, List.set_cons_succ, List.set_cons_zero]
            have HY6 := Lib.hid (Four.set1 HY5.out (.slice a5 (k + 1) c5))
            have HX6 := Lib.hid (Four.kept HX5.out (grown_setCell w5 (w.heap.size + 2) 1 (.slice a5 (k + 1) c5)) (by simp))
            have HQ6 := Lib.hid (Four.kept HQ5.out (grown_setCell w5 (w.heap.size + 2) 1 (.slice a5 (k + 1) c5)) (by simp))
            have HO6 := Lib.hid (HO5.out.kept (grown_setCell w5 (w.heap.size + 2) 1 (.slice a5 (k + 1) c5)) (.inr fun e => by have := (HO5.out.lt _ e).1; omega))
            have HB6 := Lib.hid (HB5.out.setCell (p := ⟨w.heap.size + 2, 1, none⟩) (by simp) (.slice a5 (k + 1) c5))
            clear HY5 HX5 HQ5 HO5 HB5
            go_wp2_with fail
            go_roundg (n - (k + 1))
            case rel => exact ⟨k + 1, a5, c5, by omega, rfl, by go_num, HB6, HX6, HQ6, HY6, HO6⟩
            case measure => omega
          · have hxm : m = o2.size := by have := hms.out; omega
            have hxs2 : (o2.size : Int) < x := by omega
            clear hms
            subst hxm
            go_wp2_with fail
            obtain ⟨N7, hN7⟩ : ∃ N7, N7 = wr.heap.size := ⟨_, rfl⟩
            generalize wr.alloc (.cells #[.string o0, .string o1, .string o2] 32) = W7 at *
            rw [← hN7] at f0 f1 f2 HZ7 ⊢
            clear hN7
            refine wp_region_tail (regOf Try.f16 10) [some 43, some 44, some 45, some 46, some 47, some 48, some 49, some 50, some 51, some 52, some 53, some 54, some 55] 13 (rcrT (w.heap.size + 2) N7 k vc o2.size va o0 o1 o2 W7) (fun w' => Below W7.heap.size W7 w') rcrD (by kernel_rfl) (by kernel_rfl) (by kernel_rfl) (by kernel_rfl) (by kernel_rfl) (by kernel_rfl) (by kernel_rfl) ((Below.refl _ _).drew)
              (rcr_steps (w.heap.size + 2) N7 k vc o2.size va o0 o1 o2 W7 y1 (by have := HZ7.out; omega) f0 f1 f2 (by have := HZ7.out; omega) (by have := HM.out; omega) (by omega) (by omega) (by kernel_rfl) (by kernel_rfl) (by kernel_rfl) (by kernel_rfl)) ?_
            intro vs w4 hn hCw4 hT
            replace hn : vs.length = 13 := hn
            obtain ⟨v0, vs1, rfl, hn1⟩ := len_cons hn
            obtain ⟨v1, vs2, rfl, hn2⟩ := len_cons hn1
            obtain ⟨v2, vs3, rfl, hn3⟩ := len_cons hn2
            obtain ⟨v3, vs4, rfl, hn4⟩ := len_cons hn3
            obtain ⟨v4, vs5, rfl, hn5⟩ := len_cons hn4
            obtain ⟨v5, vs6, rfl, hn6⟩ := len_cons hn5
            obtain ⟨v6, vs7, rfl, hn7⟩ := len_cons hn6
            obtain ⟨v7, vs8, rfl, hn8⟩ := len_cons hn7
            obtain ⟨v8, vs9, rfl, hn9⟩ := len_cons hn8
            obtain ⟨v9, vs10, rfl, hn10⟩ := len_cons hn9
            obtain ⟨v10, vs11, rfl, hn11⟩ := len_cons hn10
            obtain ⟨v11, vs12, rfl, hn12⟩ := len_cons hn11
            obtain ⟨v12, vs13, rfl, hn13⟩ := len_cons hn12
            obtain rfl := List.eq_nil_of_length_eq_zero hn13
            clear hn hn1 hn2 hn3 hn4 hn5 hn6 hn7 hn8 hn9 hn10 hn11 hn12 hn13
            obtain rfl : v0 = .pointer (some ⟨(w.heap.size + 2), 1, none⟩) := hT 0 v0 rfl (by kernel_rfl)
            obtain rfl : v1 = .slice va k vc := hT 1 v1 rfl (by kernel_rfl)
            obtain rfl : v2 = .pointer (some ⟨N7, 0, none⟩) := hT 2 v2 rfl (by kernel_rfl)
            obtain rfl : v3 = .string o0 := hT 3 v3 rfl (by kernel_rfl)
            obtain rfl : v4 = .pointer (some ⟨N7, 1, none⟩) := hT 4 v4 rfl (by kernel_rfl)
            obtain rfl : v5 = .string o1 := hT 5 v5 rfl (by kernel_rfl)
            obtain rfl : v6 = .pointer (some ⟨N7, 2, none⟩) := hT 6 v6 rfl (by kernel_rfl)
            obtain rfl : v7 = .string o2 := hT 7 v7 rfl (by kernel_rfl)
            obtain rfl : v8 = .int .i64 (o2.size : Int) := hT 8 v8 rfl (by kernel_rfl)
            obtain rfl : v9 = .string (o2.extract 0 o2.size) := hT 9 v9 rfl (by kernel_rfl)
            obtain rfl : v10 = .string (o1 ++ o2.extract 0 o2.size) := hT 10 v10 rfl (by kernel_rfl)
            obtain rfl : v11 = .agg #[.string o0, .string (o1 ++ o2.extract 0 o2.size), .string ⟨#[]⟩] := hT 11 v11 rfl (by kernel_rfl)
            have t12 := Lib.hid (hT 12 v12 rfl (by kernel_rfl))
            clear hT
            obtain ⟨o13, ho13⟩ : ∃ o, (regOf Try.f16 10)[13]? = some o := ⟨_, Array.getElem?_eq_getElem (show 13 < (regOf Try.f16 10).size from (show (regOf Try.f16 10).size = 16 by kernel_rfl) ▸ by decide)⟩
            have op13 := opIs ho13 (p := .call { callee := (.builtin .append), args := #[(.tmp 44), (.tmp 55)], argTypes := #[22, 22] }) (by kernel_rfl)
            have gd13 := guardIs ho13 (p := none) (by kernel_rfl)
            have dt13 : o13.dst = some 56 := by have := (show ((regOf Try.f16 10)[13]?).map (·.dst) = some (some 56) by kernel_rfl); rw [ho13] at this; simpa using this
            obtain ⟨o14, ho14⟩ : ∃ o, (regOf Try.f16 10)[14]? = some o := ⟨_, Array.getElem?_eq_getElem (show 14 < (regOf Try.f16 10).size from (show (regOf Try.f16 10).size = 16 by kernel_rfl) ▸ by decide)⟩
            have op14 := opIs ho14 (p := .fieldAddr 24 (.tmp 5) 1) (by kernel_rfl)
            have gd14 := guardIs ho14 (p := none) (by kernel_rfl)
            have dt14 : o14.dst = some 57 := by have := (show ((regOf Try.f16 10)[14]?).map (·.dst) = some (some 57) by kernel_rfl); rw [ho14] at this; simpa using this
            obtain ⟨o15, ho15⟩ : ∃ o, (regOf Try.f16 10)[15]? = some o := ⟨_, Array.getElem?_eq_getElem (show 15 < (regOf Try.f16 10).size from (show (regOf Try.f16 10).size = 16 by kernel_rfl) ▸ by decide)⟩
            have op15 := opIs ho15 (p := .store 22 (.tmp 57) (.tmp 56)) (by kernel_rfl)
            have gd15 := guardIs ho15 (p := none) (by kernel_rfl)
            have dt15 : o15.dst = none := by have := (show ((regOf Try.f16 10)[15]?).map (·.dst) = some (none) by kernel_rfl); rw [ho15] at this; simpa using this
            rw [show (regOf Try.f16 10).toList.drop 13 = [o13, o14, o15] from drop_tail3 (by kernel_rfl) ho13 ho14 ho15]
            simp only [puts, Act.put, List.setIfInBounds_toArray, List.set_cons_succ, List.set_cons_zero]
            obtain ⟨b12, rfl, hsl⟩ := t12.out
            intro K2 hK2
            have HO4 := Lib.hid (HO7.out.kept (grown_below hCw4 none) (by cases hv : (Value.slice va k vc).ownBlock <;> simp))
            have HY4 := Lib.hid (Four.keep HY7.out hCw4)
            have HX4 := Lib.hid (Four.keep HX7.out hCw4)
            have HQ4 := Lib.hid (Four.keep HQ7.out hCw4)
            have HB4 := Lib.hid (below_then HB7.out hCw4 HB7.out.size)
            have hz4 : w.heap.size + 3 ≤ w4.heap.size := by have h1 := HZ7.out; have h2 := hCw4.size; omega
            refine Enc.wpList_app (E := flE) _ gd13 _ _ 22 op13 (w.heap.size + 3) 32 i0 _ 48 Try.underlying22 HI.out HZ.out.1 HZ.out.2.1 HZ.out.2.2 rfl _ k ((crashF keep 0 l).take k) HO4.out rfl (some ⟨b12, 0, none⟩) 1 1 [⟨o0, o1 ++ o2.extract 0 o2.size, ⟨#[]⟩⟩] rfl hsl (fun e => by cases e) (by unfold maxLen; omega) (by omega) hz4 ?_
            intro v5 w5 ho5 hg5
            have hlt5 := HO4.out.lt
            rw [HNX.out] at ho5
            obtain ⟨a5, c5, rfl, -⟩ := Enc.own_sl (E := flE) ho5
            have HO5 := Lib.hid ho5
            have nb : ∀ b, b < w.heap.size + 3 → some b ≠ (Value.slice va k vc).ownBlock := fun b hb e => by have := (hlt5 b e.symm).1; omega
            have HY5 := Lib.hid (Four.kept HY4.out hg5 (nb _ (by omega)))
            have HX5 := Lib.hid (Four.kept HX4.out hg5 (nb _ (by omega)))
            have HQ5 := Lib.hid (Four.kept HQ4.out hg5 (nb _ (by omega)))
            have HB5 := Lib.hid (HB4.out.grown hg5 HB4.out.size (fun q e => by have := (hlt5 q e).1; omega))
            rw [dt13] at hK2 ⊢
            refine hK2 _ _ ?_
            clear ho5 hg5 hlt5 nb hsl t12 hCw4 hK2 HO4 HY4 HX4 HQ4 HB4
            intro K3 hK3
            refine wpList_plain gd14 fun K4 hK4 => ?_
            refine wp_val (fieldAddr_run op14 rfl _) ?_
            rw [dt14] at hK3 ⊢
            refine hK4 _ _ (hK3 _ _ ?_)
            clear hK3 hK4
            intro K5 hK5
            refine wpList_plain gd15 fun K6 hK6 => ?_
            refine wp_skip (store_run op15 rfl rfl HY5.out.c1 (HY5.out.free 1)) ?_
            rw [dt15] at hK5 ⊢
            refine hK6 _ _ (hK5 _ _ ?_)
            clear hK5 hK6
            unfold tailWp
            simp only [Act.put, List.setIfInBounds_toArray, List.set_cons_succ, List.set_cons_zero]
            have HY6 := Lib.hid (Four.set1 HY5.out (.slice a5 (k + 1) c5))
            have HX6 := Lib.hid (Four.kept HX5.out (grown_setCell w5 (w.heap.size + 2) 1 (.slice a5 (k + 1) c5)) (by simp))
            have HQ6 := Lib.hid (Four.kept HQ5.out (grown_setCell w5 (w.heap.size + 2) 1 (.slice a5 (k + 1) c5)) (by simp))
            have HO6 := Lib.hid (HO5.out.kept (grown_setCell w5 (w.heap.size + 2) 1 (.slice a5 (k + 1) c5)) (.inr fun e => by have := (HO5.out.lt _ e).1; omega))
            have HB6 := Lib.hid (HB5.out.setCell (p := ⟨w.heap.size + 2, 1, none⟩) (by simp) (.slice a5 (k + 1) c5))
            clear HY5 HX5 HQ5 HO5 HB5
            go_wp2_with fail
            go_roundg (n - (k + 1))
            case rel => exact ⟨k + 1, a5, c5, by omega, rfl, by go_num, HB6, HX6, HQ6, HY6, HO6⟩
            case measure => omega
        · have hxm : m = 0 := by have := hms.out; omega
          have hx1 : x ≤ 0 := by omega
          clear hms
          subst hxm
          go_wp2_with fail
          obtain ⟨N7, hN7⟩ : ∃ N7, N7 = wr.heap.size := ⟨_, rfl⟩
          generalize wr.alloc (.cells #[.string o0, .string o1, .string o2] 32) = W7 at *
          rw [← hN7] at f0 f1 f2 HZ7 ⊢
          clear hN7
          refine wp_region_tail (regOf Try.f16 10) [some 43, some 44, some 45, some 46, some 47, some 48, some 49, some 50, some 51, some 52, some 53, some 54, some 55] 13 (rcrT (w.heap.size + 2) N7 k vc 0 va o0 o1 o2 W7) (fun w' => Below W7.heap.size W7 w') rcrD (by kernel_rfl) (by kernel_rfl) (by kernel_rfl) (by kernel_rfl) (by kernel_rfl) (by kernel_rfl) (by kernel_rfl) ((Below.refl _ _).drew)
            (rcr_steps (w.heap.size + 2) N7 k vc 0 va o0 o1 o2 W7 y1 (by have := HZ7.out; omega) f0 f1 f2 (by have := HZ7.out; omega) (by have := HM.out; omega) (by omega) (by omega) (by kernel_rfl) (by kernel_rfl) (by kernel_rfl) (by kernel_rfl)) ?_
          intro vs w4 hn hCw4 hT
          replace hn : vs.length = 13 := hn
          obtain ⟨v0, vs1, rfl, hn1⟩ := len_cons hn
          obtain ⟨v1, vs2, rfl, hn2⟩ := len_cons hn1
          obtain ⟨v2, vs3, rfl, hn3⟩ := len_cons hn2
          obtain ⟨v3, vs4, rfl, hn4⟩ := len_cons hn3
          obtain ⟨v4, vs5, rfl, hn5⟩ := len_cons hn4
          obtain ⟨v5, vs6, rfl, hn6⟩ := len_cons hn5
          obtain ⟨v6, vs7, rfl, hn7⟩ := len_cons hn6
          obtain ⟨v7, vs8, rfl, hn8⟩ := len_cons hn7
          obtain ⟨v8, vs9, rfl, hn9⟩ := len_cons hn8
          obtain ⟨v9, vs10, rfl, hn10⟩ := len_cons hn9
          obtain ⟨v10, vs11, rfl, hn11⟩ := len_cons hn10
          obtain ⟨v11, vs12, rfl, hn12⟩ := len_cons hn11
          obtain ⟨v12, vs13, rfl, hn13⟩ := len_cons hn12
          obtain rfl := List.eq_nil_of_length_eq_zero hn13
          clear hn hn1 hn2 hn3 hn4 hn5 hn6 hn7 hn8 hn9 hn10 hn11 hn12 hn13
          obtain rfl : v0 = .pointer (some ⟨(w.heap.size + 2), 1, none⟩) := hT 0 v0 rfl (by kernel_rfl)
          obtain rfl : v1 = .slice va k vc := hT 1 v1 rfl (by kernel_rfl)
          obtain rfl : v2 = .pointer (some ⟨N7, 0, none⟩) := hT 2 v2 rfl (by kernel_rfl)
          obtain rfl : v3 = .string o0 := hT 3 v3 rfl (by kernel_rfl)
          obtain rfl : v4 = .pointer (some ⟨N7, 1, none⟩) := hT 4 v4 rfl (by kernel_rfl)
          obtain rfl : v5 = .string o1 := hT 5 v5 rfl (by kernel_rfl)
          obtain rfl : v6 = .pointer (some ⟨N7, 2, none⟩) := hT 6 v6 rfl (by kernel_rfl)
          obtain rfl : v7 = .string o2 := hT 7 v7 rfl (by kernel_rfl)
          obtain rfl : v8 = .int .i64 (0 : Int) := hT 8 v8 rfl (by kernel_rfl)
          obtain rfl : v9 = .string (o2.extract 0 0) := hT 9 v9 rfl (by kernel_rfl)
          obtain rfl : v10 = .string (o1 ++ o2.extract 0 0) := hT 10 v10 rfl (by kernel_rfl)
          obtain rfl : v11 = .agg #[.string o0, .string (o1 ++ o2.extract 0 0), .string ⟨#[]⟩] := hT 11 v11 rfl (by kernel_rfl)
          have t12 := Lib.hid (hT 12 v12 rfl (by kernel_rfl))
          clear hT
          obtain ⟨o13, ho13⟩ : ∃ o, (regOf Try.f16 10)[13]? = some o := ⟨_, Array.getElem?_eq_getElem (show 13 < (regOf Try.f16 10).size from (show (regOf Try.f16 10).size = 16 by kernel_rfl) ▸ by decide)⟩
          have op13 := opIs ho13 (p := .call { callee := (.builtin .append), args := #[(.tmp 44), (.tmp 55)], argTypes := #[22, 22] }) (by kernel_rfl)
          have gd13 := guardIs ho13 (p := none) (by kernel_rfl)
          have dt13 : o13.dst = some 56 := by have := (show ((regOf Try.f16 10)[13]?).map (·.dst) = some (some 56) by kernel_rfl); rw [ho13] at this; simpa using this
          obtain ⟨o14, ho14⟩ : ∃ o, (regOf Try.f16 10)[14]? = some o := ⟨_, Array.getElem?_eq_getElem (show 14 < (regOf Try.f16 10).size from (show (regOf Try.f16 10).size = 16 by kernel_rfl) ▸ by decide)⟩
          have op14 := opIs ho14 (p := .fieldAddr 24 (.tmp 5) 1) (by kernel_rfl)
          have gd14 := guardIs ho14 (p := none) (by kernel_rfl)
          have dt14 : o14.dst = some 57 := by have := (show ((regOf Try.f16 10)[14]?).map (·.dst) = some (some 57) by kernel_rfl); rw [ho14] at this; simpa using this
          obtain ⟨o15, ho15⟩ : ∃ o, (regOf Try.f16 10)[15]? = some o := ⟨_, Array.getElem?_eq_getElem (show 15 < (regOf Try.f16 10).size from (show (regOf Try.f16 10).size = 16 by kernel_rfl) ▸ by decide)⟩
          have op15 := opIs ho15 (p := .store 22 (.tmp 57) (.tmp 56)) (by kernel_rfl)
          have gd15 := guardIs ho15 (p := none) (by kernel_rfl)
          have dt15 : o15.dst = none := by have := (show ((regOf Try.f16 10)[15]?).map (·.dst) = some (none) by kernel_rfl); rw [ho15] at this; simpa using this
          rw [show (regOf Try.f16 10).toList.drop 13 = [o13, o14, o15] from drop_tail3 (by kernel_rfl) ho13 ho14 ho15]
          simp only [puts, Act.put, List.setIfInBounds_toArray, List.set_cons_succ, List.set_cons_zero]
          obtain ⟨b12, rfl, hsl⟩ := t12.out
          intro K2 hK2
          have HO4 := Lib.hid (HO7.out.kept (grown_below hCw4 none) (by cases hv : (Value.slice va k vc).ownBlock <;> simp))
          have HY4 := Lib.hid (Four.keep HY7.out hCw4)
          have HX4 := Lib.hid (Four.keep HX7.out hCw4)
          have HQ4 := Lib.hid (Four.keep HQ7.out hCw4)
          have HB4 := Lib.hid (below_then HB7.out hCw4 HB7.out.size)
          have hz4 : w.heap.size + 3 ≤ w4.heap.size := by have h1 := HZ7.out; have h2 := hCw4.size; omega
          refine Enc.wpList_app (E := flE) _ gd13 _ _ 22 op13 (w.heap.size + 3) 32 i0 _ 48 Try.underlying22 HI.out HZ.out.1 HZ.out.2.1 HZ.out.2.2 rfl _ k ((crashF keep 0 l).take k) HO4.out rfl (some ⟨b12, 0, none⟩) 1 1 [⟨o0, o1 ++ o2.extract 0 0, ⟨#[]⟩⟩] rfl hsl (fun e => by cases e) (by unfold maxLen; omega) (by omega) hz4 ?_
          intro v5 w5 ho5 hg5
          have hlt5 := HO4.out.lt
          rw [HNX.out] at ho5
          obtain ⟨a5, c5, rfl, -⟩ := Enc.own_sl (E := flE) ho5
          have HO5 := Lib.hid ho5
          have nb : ∀ b, b < w.heap.size + 3 → some b ≠ (Value.slice va k vc).ownBlock := fun b hb e => by have := (hlt5 b e.symm).1; omega
          have HY5 := Lib.hid (Four.kept HY4.out hg5 (nb _ (by omega)))
          have HX5 := Lib.hid (Four.kept HX4.out hg5 (nb _ (by omega)))
          have HQ5 := Lib.hid (Four.kept HQ4.out hg5 (nb _ (by omega)))
          have HB5 := Lib.hid (HB4.out.grown hg5 HB4.out.size (fun q e => by have := (hlt5 q e).1; omega))
          rw [dt13] at hK2 ⊢
          refine hK2 _ _ ?_
          clear ho5 hg5 hlt5 nb hsl t12 hCw4 hK2 HO4 HY4 HX4 HQ4 HB4
          intro K3 hK3
          refine wpList_plain gd14 fun K4 hK4 => ?_
          refine wp_val (fieldAddr_run op14 rfl _) ?_
          rw [dt14] at hK3 ⊢
          refine hK4 _ _ (hK3 _ _ ?_)
          clear hK3 hK4
          intro K5 hK5
          refine wpList_plain gd15 fun K6 hK6 => ?_
          refine wp_skip (store_run op15 rfl rfl HY5.out.c1 (HY5.out.free 1)) ?_
          rw [dt15] at hK5 ⊢
          refine hK6 _ _ (hK5 _ _ ?_)
          clear hK5 hK6
          unfold tailWp
          simp only [Act.put, List.setIfInBounds_toArray, List.set_cons_succ, List.set_cons_zero]
          have HY6 := Lib.hid (Four.set1 HY5.out (.slice a5 (k + 1) c5))
          have HX6 := Lib.hid (Four.kept HX5.out (grown_setCell w5 (w.heap.size + 2) 1 (.slice a5 (k + 1) c5)) (by simp))
          have HQ6 := Lib.hid (Four.kept HQ5.out (grown_setCell w5 (w.heap.size + 2) 1 (.slice a5 (k + 1) c5)) (by simp))
          have HO6 := Lib.hid (HO5.out.kept (grown_setCell w5 (w.heap.size + 2) 1 (.slice a5 (k + 1) c5)) (.inr fun e => by have := (HO5.out.lt _ e).1; omega))
          have HB6 := Lib.hid (HB5.out.setCell (p := ⟨w.heap.size + 2, 1, none⟩) (by simp) (.slice a5 (k + 1) c5))
          clear HY5 HX5 HQ5 HO5 HB5
          go_wp2_with fail
          go_roundg (n - (k + 1))
          case rel => exact ⟨k + 1, a5, c5, by omega, rfl, by go_num, HB6, HX6, HQ6, HY6, HO6⟩
          case measure => omega
      · have hkki : (nk : Int) ≤ (k : Int) := by omega
        have hm0 : m = 0 := HKN.out (by have := HK.out.1; rw [i64s_length] at this; omega)
        have HM : Hid (m ≤ o2.size) := Lib.hid (by omega)
        subst hm0
        go_wp2_with fail
        obtain ⟨N7, hN7⟩ : ∃ N7, N7 = wr.heap.size := ⟨_, rfl⟩
        generalize wr.alloc (.cells #[.string o0, .string o1, .string o2] 32) = W7 at *
        rw [← hN7] at f0 f1 f2 HZ7 ⊢
        clear hN7
        refine wp_region_tail (regOf Try.f16 10) [some 43, some 44, some 45, some 46, some 47, some 48, some 49, some 50, some 51, some 52, some 53, some 54, some 55] 13 (rcrT (w.heap.size + 2) N7 k vc 0 va o0 o1 o2 W7) (fun w' => Below W7.heap.size W7 w') rcrD (by kernel_rfl) (by kernel_rfl) (by kernel_rfl) (by kernel_rfl) (by kernel_rfl) (by kernel_rfl) (by kernel_rfl) ((Below.refl _ _).drew)
          (rcr_steps (w.heap.size + 2) N7 k vc 0 va o0 o1 o2 W7 y1 (by have := HZ7.out; omega) f0 f1 f2 (by have := HZ7.out; omega) (by have := HM.out; omega) (by omega) (by omega) (by kernel_rfl) (by kernel_rfl) (by kernel_rfl) (by kernel_rfl)) ?_
        intro vs w4 hn hCw4 hT
        replace hn : vs.length = 13 := hn
        obtain ⟨v0, vs1, rfl, hn1⟩ := len_cons hn
        obtain ⟨v1, vs2, rfl, hn2⟩ := len_cons hn1
        obtain ⟨v2, vs3, rfl, hn3⟩ := len_cons hn2
        obtain ⟨v3, vs4, rfl, hn4⟩ := len_cons hn3
        obtain ⟨v4, vs5, rfl, hn5⟩ := len_cons hn4
        obtain ⟨v5, vs6, rfl, hn6⟩ := len_cons hn5
        obtain ⟨v6, vs7, rfl, hn7⟩ := len_cons hn6
        obtain ⟨v7, vs8, rfl, hn8⟩ := len_cons hn7
        obtain ⟨v8, vs9, rfl, hn9⟩ := len_cons hn8
        obtain ⟨v9, vs10, rfl, hn10⟩ := len_cons hn9
        obtain ⟨v10, vs11, rfl, hn11⟩ := len_cons hn10
        obtain ⟨v11, vs12, rfl, hn12⟩ := len_cons hn11
        obtain ⟨v12, vs13, rfl, hn13⟩ := len_cons hn12
        obtain rfl := List.eq_nil_of_length_eq_zero hn13
        clear hn hn1 hn2 hn3 hn4 hn5 hn6 hn7 hn8 hn9 hn10 hn11 hn12 hn13
        obtain rfl : v0 = .pointer (some ⟨(w.heap.size + 2), 1, none⟩) := hT 0 v0 rfl (by kernel_rfl)
        obtain rfl : v1 = .slice va k vc := hT 1 v1 rfl (by kernel_rfl)
        obtain rfl : v2 = .pointer (some ⟨N7, 0, none⟩) := hT 2 v2 rfl (by kernel_rfl)
        obtain rfl : v3 = .string o0 := hT 3 v3 rfl (by kernel_rfl)
        obtain rfl : v4 = .pointer (some ⟨N7, 1, none⟩) := hT 4 v4 rfl (by kernel_rfl)
        obtain rfl : v5 = .string o1 := hT 5 v5 rfl (by kernel_rfl)
        obtain rfl : v6 = .pointer (some ⟨N7, 2, none⟩) := hT 6 v6 rfl (by kernel_rfl)
        obtain rfl : v7 = .string o2 := hT 7 v7 rfl (by kernel_rfl)
        obtain rfl : v8 = .int .i64 (0 : Int) := hT 8 v8 rfl (by kernel_rfl)
        obtain rfl : v9 = .string (o2.extract 0 0) := hT 9 v9 rfl (by kernel_rfl)
        obtain rfl : v10 = .string (o1 ++ o2.extract 0 0) := hT 10 v10 rfl (by kernel_rfl)
        obtain rfl : v11 = .agg #[.string o0, .string (o1 ++ o2.extract 0 0), .string ⟨#[]⟩] := hT 11 v11 rfl (by kernel_rfl)
        have t12 := Lib.hid (hT 12 v12 rfl (by kernel_rfl))
        clear hT
        obtain ⟨o13, ho13⟩ : ∃ o, (regOf Try.f16 10)[13]? = some o := ⟨_, Array.getElem?_eq_getElem (show 13 < (regOf Try.f16 10).size from (show (regOf Try.f16 10).size = 16 by kernel_rfl) ▸ by decide)⟩
        have op13 := opIs ho13 (p := .call { callee := (.builtin .append), args := #[(.tmp 44), (.tmp 55)], argTypes := #[22, 22] }) (by kernel_rfl)
        have gd13 := guardIs ho13 (p := none) (by kernel_rfl)
        have dt13 : o13.dst = some 56 := by have := (show ((regOf Try.f16 10)[13]?).map (·.dst) = some (some 56) by kernel_rfl); rw [ho13] at this; simpa using this
        obtain ⟨o14, ho14⟩ : ∃ o, (regOf Try.f16 10)[14]? = some o := ⟨_, Array.getElem?_eq_getElem (show 14 < (regOf Try.f16 10).size from (show (regOf Try.f16 10).size = 16 by kernel_rfl) ▸ by decide)⟩
        have op14 := opIs ho14 (p := .fieldAddr 24 (.tmp 5) 1) (by kernel_rfl)
        have gd14 := guardIs ho14 (p := none) (by kernel_rfl)
        have dt14 : o14.dst = some 57 := by have := (show ((regOf Try.f16 10)[14]?).map (·.dst) = some (some 57) by kernel_rfl); rw [ho14] at this; simpa using this
        obtain ⟨o15, ho15⟩ : ∃ o, (regOf Try.f16 10)[15]? = some o := ⟨_, Array.getElem?_eq_getElem (show 15 < (regOf Try.f16 10).size from (show (regOf Try.f16 10).size = 16 by kernel_rfl) ▸ by decide)⟩
        have op15 := opIs ho15 (p := .store 22 (.tmp 57) (.tmp 56)) (by kernel_rfl)
        have gd15 := guardIs ho15 (p := none) (by kernel_rfl)
        have dt15 : o15.dst = none := by have := (show ((regOf Try.f16 10)[15]?).map (·.dst) = some (none) by kernel_rfl); rw [ho15] at this; simpa using this
        rw [show (regOf Try.f16 10).toList.drop 13 = [o13, o14, o15] from drop_tail3 (by kernel_rfl) ho13 ho14 ho15]
        simp only [puts, Act.put, List.setIfInBounds_toArray, List.set_cons_succ, List.set_cons_zero]
        obtain ⟨b12, rfl, hsl⟩ := t12.out
        intro K2 hK2
        have HO4 := Lib.hid (HO7.out.kept (grown_below hCw4 none) (by cases hv : (Value.slice va k vc).ownBlock <;> simp))
        have HY4 := Lib.hid (Four.keep HY7.out hCw4)
        have HX4 := Lib.hid (Four.keep HX7.out hCw4)
        have HQ4 := Lib.hid (Four.keep HQ7.out hCw4)
        have HB4 := Lib.hid (below_then HB7.out hCw4 HB7.out.size)
        have hz4 : w.heap.size + 3 ≤ w4.heap.size := by have h1 := HZ7.out; have h2 := hCw4.size; omega
        refine Enc.wpList_app (E := flE) _ gd13 _ _ 22 op13 (w.heap.size + 3) 32 i0 _ 48 Try.underlying22 HI.out HZ.out.1 HZ.out.2.1 HZ.out.2.2 rfl _ k ((crashF keep 0 l).take k) HO4.out rfl (some ⟨b12, 0, none⟩) 1 1 [⟨o0, o1 ++ o2.extract 0 0, ⟨#[]⟩⟩] rfl hsl (fun e => by cases e) (by unfold maxLen; omega) (by omega) hz4 ?_
        intro v5 w5 ho5 hg5
        have hlt5 := HO4.out.lt
        rw [HNX.out] at ho5
        obtain ⟨a5, c5, rfl, -⟩ := Enc.own_sl (E := flE) ho5
        have HO5 := Lib.hid ho5
        have nb : ∀ b, b < w.heap.size + 3 → some b ≠ (Value.slice va k vc).ownBlock := fun b hb e => by have := (hlt5 b e.symm).1; omega
        have HY5 := Lib.hid (Four.kept HY4.out hg5 (nb _ (by omega)))
        have HX5 := Lib.hid (Four.kept HX4.out hg5 (nb _ (by omega)))
        have HQ5 := Lib.hid (Four.kept HQ4.out hg5 (nb _ (by omega)))
        have HB5 := Lib.hid (HB4.out.grown hg5 HB4.out.size (fun q e => by have := (hlt5 q e).1; omega))
        rw [dt13] at hK2 ⊢
        refine hK2 _ _ ?_
        clear ho5 hg5 hlt5 nb hsl t12 hCw4 hK2 HO4 HY4 HX4 HQ4 HB4
        intro K3 hK3
        refine wpList_plain gd14 fun K4 hK4 => ?_
        refine wp_val (fieldAddr_run op14 rfl _) ?_
        rw [dt14] at hK3 ⊢
        refine hK4 _ _ (hK3 _ _ ?_)
        clear hK3 hK4
        intro K5 hK5
        refine wpList_plain gd15 fun K6 hK6 => ?_
        refine wp_skip (store_run op15 rfl rfl HY5.out.c1 (HY5.out.free 1)) ?_
        rw [dt15] at hK5 ⊢
        refine hK6 _ _ (hK5 _ _ ?_)
        clear hK5 hK6
        unfold tailWp
        simp only [Act.put, List.setIfInBounds_toArray, List.set_cons_succ, List.set_cons_zero]
        have HY6 := Lib.hid (Four.set1 HY5.out (.slice a5 (k + 1) c5))
        have HX6 := Lib.hid (Four.kept HX5.out (grown_setCell w5 (w.heap.size + 2) 1 (.slice a5 (k + 1) c5)) (by simp))
        have HQ6 := Lib.hid (Four.kept HQ5.out (grown_setCell w5 (w.heap.size + 2) 1 (.slice a5 (k + 1) c5)) (by simp))
        have HO6 := Lib.hid (HO5.out.kept (grown_setCell w5 (w.heap.size + 2) 1 (.slice a5 (k + 1) c5)) (.inr fun e => by have := (HO5.out.lt _ e).1; omega))
        have HB6 := Lib.hid (HB5.out.setCell (p := ⟨w.heap.size + 2, 1, none⟩) (by simp) (.slice a5 (k + 1) c5))
        clear HY5 HX5 HQ5 HO5 HB5
        go_wp2_with fail
        go_roundg (n - (k + 1))
        case rel => exact ⟨k + 1, a5, c5, by omega, rfl, by go_num, HB6, HX6, HQ6, HY6, HO6⟩
        case measure => omega
    · have hki : (n : Int) ≤ (k : Int) := by omega
      obtain rfl : k = n := by omega
      have hm := hM.out
      rw [List.take_of_length_le (by rw [crashF_length, HN.out]; exact Nat.le_refl _)] at hm
      obtain ⟨hd, hx⟩ := DkAt.row (d := crashed ⟨rm, l, lf, dn⟩ keep) hm HL.out
      have HD := Lib.hid hd
      have HXX := Lib.hid hx
      have o1 := hQ.out; have y := hY.out
      have e0 := o1.c0; have e1 := o1.c1; have e2 := o1.c2; have e3 := o1.c3
      have g0 := o1.free 0; have g1 := o1.free 1; have g2 := o1.free 2; have g3 := o1.free 3
      have y0 := y.c0; have y1 := y.c1; have y2 := y.c2; have y3 := y.c3
      have hsz := hB.out.size
      clear o1 y hm hd hx hlt
      go_wp2_with fail
      refine bodyPost_ret (v := .agg #[.int .i64 rm, .slice va k vc, .int .i64 (-1), .bool false]) ?_ rfl ?_
      · rw [results_cell rfl]; go_simp
      · refine ⟨va, k, vc, rfl, DkAt.sets HD.out (fun x hx2 e => by have := HXX.out x hx2; omega) _ _ _ _, four_sets hB.out (by omega) _ _ _ _⟩
end Go.Proofs.Ytjppommhamaibaa
