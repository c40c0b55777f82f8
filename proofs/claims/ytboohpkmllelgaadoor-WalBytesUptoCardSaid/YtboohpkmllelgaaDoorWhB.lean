/-
  The walk of wal.Get: any text is read as just that state, or refused. (Written by wip/mkwi.py.)
-/
import Derived.Test.YtboohpkmllelgaaDoorWhA
import Derived.Test.YtboohpkmllelgaaDoorWpA
import Derived.Test.YtboohpkmllelgaaDoorNgK
import Derived.Test.YtboohpkmllelgaaDoorCvGet
namespace Go.Proofs.YtboohpkmllelgaaDoor
open Go.RowKit
set_option linter.unusedVariables false

/-- What Get answers. -/
def RetH (w : World) (x : Hd × Int) (e : Ending) (w' : World) : Prop :=
  ∃ (ar : Option Addr) (nr cr : Nat) (av : Option Addr) (nv cv : Nat), e = .returned (.tuple #[x.1.val ar nr cr av nv cv, .int .i64 x.2]) ∧ HdAt w' x.1 ar nr cr av nv cv ∧ Below w.heap.size w w' ∧ (∀ y, ar = some y → w.heap.size ≤ y.block) ∧ (∀ y, av = some y → w.heap.size ≤ y.block)
theorem hdAt_zero (w : World) : HdAt w Hd.zero none 0 0 none 0 0 where
  recs := ⟨rfl, .inl rfl⟩
  voters := ⟨rfl, .inl rfl⟩
  nr := Nat.zero_le _
  nv := Nat.zero_le _
  data := fun r hr => by cases hr
  snap := Nat.zero_le _
  nums := by unfold in63 Hd.zero; decide
  vots := fun x hx => by cases hx
theorem retH_zero {w w' : World} (b : Int) (hb : Below w.heap.size w w') : RetH w (Hd.zero, b) (.returned (.tuple #[.agg #[.int .i64 0, .int .i64 0, .int .i64 0, .int .i64 0, .slice none 0 0, .string ⟨#[]⟩, .slice none 0 0], .int .i64 b])) w' := ⟨none, 0, 0, none, 0, 0, rfl, hdAt_zero w', hb, fun y h => (by cases h), fun y h => (by cases h)⟩
theorem blk_seven {w : World} {g : Nat} {t : TypeId} {a0 a1 a2 a3 a4 a5 a6 : Value} (h : Blk w g t [a0, a1, a2, a3, a4, a5, a6]) (b0 b1 b2 b3 b4 b5 b6 : Value) :
    Blk (((((((w.setCell ⟨g, 0, none⟩ b0).setCell ⟨g, 1, none⟩ b1).setCell ⟨g, 2, none⟩ b2).setCell ⟨g, 3, none⟩ b3).setCell ⟨g, 4, none⟩ b4).setCell ⟨g, 5, none⟩ b5).setCell ⟨g, 6, none⟩ b6) g t [b0, b1, b2, b3, b4, b5, b6] :=
  ((((((h.set 0 b0).set 1 b1).set 2 b2).set 3 b3).set 4 b4).set 5 b5).set 6 b6
theorem grown_seven (w : World) (g : Nat) (b0 b1 b2 b3 b4 b5 b6 : Value) :
    w.grownBy (((((((w.setCell ⟨g, 0, none⟩ b0).setCell ⟨g, 1, none⟩ b1).setCell ⟨g, 2, none⟩ b2).setCell ⟨g, 3, none⟩ b3).setCell ⟨g, 4, none⟩ b4).setCell ⟨g, 5, none⟩ b5).setCell ⟨g, 6, none⟩ b6) (some g) :=
  grown_trans (grown_trans (grown_trans (grown_trans (grown_trans (grown_trans (grown_setCell _ _ _ _) (grown_setCell _ _ _ _)) (grown_setCell _ _ _ _)) (grown_setCell _ _ _ _)) (grown_setCell _ _ _ _)) (grown_setCell _ _ _ _)) (grown_setCell _ _ _ _)
theorem hdAt_kept {w w' : World} {h : Hd} {ar : Option Addr} {nr cr : Nat} {av : Option Addr} {nv cv : Nat} (H : HdAt w h ar nr cr av nv cv) {row : Option Nat} (hg : w.grownBy w' row) (h1 : ∀ y, ar = some y → row ≠ some y.block) (h2 : ∀ y, av = some y → row ≠ some y.block) : HdAt w' h ar nr cr av nv cv :=
  { H with
    recs := H.recs.kept hg (fun b e => by cases ar with
      | none => cases e
      | some y => cases e; exact h1 y rfl)
    voters := by
      refine ⟨H.voters.1, ?_⟩
      rcases H.voters.2 with h0 | ⟨b, off, ha, hc⟩
      · exact .inl h0
      · refine .inr ⟨b, off, ha, fun i hi => ?_⟩
        have hci := hc i hi
        rw [← hci]
        exact World.cell?_of_block (a := ⟨b, off + i, none⟩) (hg.block b (World.block_lt_of_cell? w _ hci) (fun e => h2 _ ha e.symm)) }
theorem own_four {w : World} {base : Nat} {a : Option Addr} {c : Nat} {x y z u : Int} (h : w.ownsRow base 3 1 (.slice a 4 c) 4 (i64s [x, y, z, u])) : ∃ g, a = some ⟨g, 0, none⟩ ∧ base ≤ g ∧ g < w.heap.size ∧ w.cell? ⟨g, 0, none⟩ = some (.int .i64 x) ∧ w.cell? ⟨g, 1, none⟩ = some (.int .i64 y) ∧ w.cell? ⟨g, 2, none⟩ = some (.int .i64 z) ∧ w.cell? ⟨g, 3, none⟩ = some (.int .i64 u) := by
  obtain ⟨a', n', c', he, hsl, hfr, -⟩ := own_slice h
  cases he
  rcases hsl.2 with h0 | ⟨b, off, rfl, hc⟩
  · have := congrArg List.length h0; simp [i64s] at this
  · rcases h.2 with ⟨hv, -⟩ | ⟨g, cap, cur, hv, hb, hh, -⟩
    · cases hv
    · cases hv
      exact ⟨b, rfl, hb, lt_of_block hh, hc 0 (by simp [i64s]), hc 1 (by simp [i64s]), hc 2 (by simp [i64s]), hc 3 (by simp [i64s])⟩
/-- The elements of a list value, as they lie, with their rooms. -/
theorem elemsV2 {w : World} {S : Nat → Prop} {va : Option Addr} {vl : List V} (hall : VAll w S va 0 vl) (h : 0 < vl.length) : ∃ b o, va = some ⟨b, o, none⟩ ∧ S b ∧ ∀ k (hk : k < vl.length), ∃ a c, (vl[k].l.length ≤ c ∧ (a = none → c = 0)) ∧ VAll w S a 0 vl[k].l ∧
    w.cell? ⟨b, o + k * 4, none⟩ = some (.int .i64 vl[k].k) ∧ w.cell? ⟨b, o + k * 4 + 1, none⟩ = some (.int .i64 vl[k].n) ∧ w.cell? ⟨b, o + k * 4 + 2, none⟩ = some (.string vl[k].s) ∧ w.cell? ⟨b, o + k * 4 + 3, none⟩ = some (.slice a vl[k].l.length c) := by
  obtain ⟨b, o, cs, ha, hS, -, -⟩ := hall.at 0 vl 0 h
  refine ⟨b, o, ha, hS, fun k hk => ?_⟩
  obtain ⟨b', o', cs', ha', -, hat, hc⟩ := hall.at 0 vl k hk
  rw [ha] at ha'
  obtain ⟨rfl, rfl⟩ : b = b' ∧ o = o' := by have := Option.some.inj ha'; exact ⟨congrArg Addr.block this, congrArg Addr.off this⟩
  generalize vl[k] = x at *
  obtain ⟨xk, xn, xs, xl⟩ := x
  simp only [V.At] at hat
  obtain ⟨a, c, rfl, h3, h4, h5⟩ := hat
  rw [Nat.zero_add] at hc
  exact ⟨a, c, ⟨h3, h4⟩, h5, hc 0 _ rfl, hc 1 _ rfl, hc 2 _ rfl, hc 3 _ rfl⟩
theorem list_of7 {α : Type} {l : List α} (h : l.length = 7) : ∃ a b c d e f g, l = [a, b, c, d, e, f, g] := by
  match l, h with
  | [a, b, c, d, e, f, g], _ => exact ⟨a, b, c, d, e, f, g, rfl⟩
theorem cl63 (n : Int) : in63 (cl n) := by unfold in63 cl; omega
set_option maxRecDepth 100000 in
set_option maxHeartbeats 1000000 in
theorem wget_bad (s : ByteArray) (w : World) (hm : s.size ≤ 9223372036854775807) (hbad : (getL s).bad ≠ 0) : Calls Tryd.prog 18 #[.string s] w (RetH w (Hd.zero, (getL s).bad)) := by
  have HG := Lib.hid (get_any s (w.alloc (.cells #[.int .i64 0, .int .i64 0, .int .i64 0, .int .i64 0, .slice none 0 0, .string ⟨#[]⟩, .slice none 0 0] 42)) hm)
  have HB0 := Lib.hid ((Below.refl w.heap.size w).alloc (Nat.le_refl _) (.cells #[.int .i64 0, .int .i64 0, .int .i64 0, .int .i64 0, .slice none 0 0, .string ⟨#[]⟩, .slice none 0 0] 42))
  have HR0 : Hid (Blk (w.alloc (.cells #[.int .i64 0, .int .i64 0, .int .i64 0, .int .i64 0, .slice none 0 0, .string ⟨#[]⟩, .slice none 0 0] 42)) w.heap.size 42 [.int .i64 0, .int .i64 0, .int .i64 0, .int .i64 0, .slice none 0 0, .string ⟨#[]⟩, .slice none 0 0]) := Lib.hid (heap_alloc_new w _)
  obtain ⟨b, hb⟩ : ∃ b, b = (getL s).bad := ⟨_, rfl⟩
  have p1 : (b != 0) = true := by rw [hb]; simpa using hbad
  have HBE := Lib.hid hb
  clear hbad
  go_enter Tryd.func18, Tryd.ntmps18
  go_wp2_with fail
  refine HG.out.mono ?_
  rintro e w1 ⟨cs, rfl, hat, hb1⟩
  dsimp only
  rw [← hb]
  clear hb
  obtain ⟨v, hv⟩ : ∃ v, v = (getL s).v := ⟨_, rfl⟩
  rw [← hv] at hat
  clear hv
  obtain ⟨vk, vn, vt, vl⟩ := v
  simp only [V.At] at hat
  obtain ⟨va, vc, rfl, -, -, -⟩ := hat
  have HB1 := Lib.hid (below_then HB0.out hb1 HB0.out.size)
  have HR1 := Lib.hid (HR0.out.keep hb1)
  have HB2 := Lib.hid (HB1.out.alloc HB1.out.size (.cells #[.int .i64 vk, .int .i64 vn, .string vt, .slice va vl.length vc] 58))
  have HR2 := Lib.hid (HR1.out.alloc (.cells #[.int .i64 vk, .int .i64 vn, .string vt, .slice va vl.length vc] 58))
  have q0 := HR2.out.cell (j := 0) rfl
  have f0 := HR2.out.free 0
  have q1 := HR2.out.cell (j := 1) rfl
  have f1 := HR2.out.free 1
  have q2 := HR2.out.cell (j := 2) rfl
  have f2 := HR2.out.free 2
  have q3 := HR2.out.cell (j := 3) rfl
  have f3 := HR2.out.free 3
  have q4 := HR2.out.cell (j := 4) rfl
  have f4 := HR2.out.free 4
  have q5 := HR2.out.cell (j := 5) rfl
  have f5 := HR2.out.free 5
  have q6 := HR2.out.cell (j := 6) rfl
  have f6 := HR2.out.free 6
  clear HG HB0 HR0 HR1 hb1
  go_wp2_with fail
  (try simp only [Exit.inBlock, Exit.then])
  have hz9 := blk_seven HR2.out (.int .i64 0) (.int .i64 0) (.int .i64 0) (.int .i64 0) (.slice none 0 0) (.string ⟨#[]⟩) (.slice none 0 0)
  have hg9 := grown_seven (w1.alloc (.cells #[.int .i64 vk, .int .i64 vn, .string vt, .slice va vl.length vc] 58)) w.heap.size (.int .i64 0) (.int .i64 0) (.int .i64 0) (.int .i64 0) (.slice none 0 0) (.string ⟨#[]⟩) (.slice none 0 0)
  have HB9 := Lib.hid (HB2.out.grown hg9 HB2.out.size (fun q e => by have := Option.some.inj e; omega))
  refine bodyPost_ret (v := .tuple #[.agg #[.int .i64 0, .int .i64 0, .int .i64 0, .int .i64 0, .slice none 0 0, .string ⟨#[]⟩, .slice none 0 0], .int .i64 b]) ?_ rfl ?_
  · exact results_row_tmp (p := 2) (u := 3) rfl _ _ w.heap.size 42 _ (0, 0) _ rfl hz9 Tryd.underlying42 rfl (by kernel_rfl)
  · rw [HBE.out]; exact retH_zero _ HB9.out
set_option maxRecDepth 100000 in
set_option maxHeartbeats 3000000 in
theorem wget_go (s : ByteArray) (w : World) (hm : s.size ≤ 9223372036854775807) (htab : Lib.TabIs Tryd.prog w "internal/strconv.uint64pow10" .u64 Lib.pow10Tab) (hbad : (getL s).bad = 0) (v : V) (hv : (getL s).v = v) (x : Hd × Int) (hx : Hid (x = readHN v)) : Calls Tryd.prog 18 #[.string s] w (RetH w x) := by
  have HG := Lib.hid (get_any s (w.alloc (.cells #[.int .i64 0, .int .i64 0, .int .i64 0, .int .i64 0, .slice none 0 0, .string ⟨#[]⟩, .slice none 0 0] 42)) hm)
  have HB0 := Lib.hid ((Below.refl w.heap.size w).alloc (Nat.le_refl _) (.cells #[.int .i64 0, .int .i64 0, .int .i64 0, .int .i64 0, .slice none 0 0, .string ⟨#[]⟩, .slice none 0 0] 42))
  have HR0 : Hid (Blk (w.alloc (.cells #[.int .i64 0, .int .i64 0, .int .i64 0, .int .i64 0, .slice none 0 0, .string ⟨#[]⟩, .slice none 0 0] 42)) w.heap.size 42 [.int .i64 0, .int .i64 0, .int .i64 0, .int .i64 0, .slice none 0 0, .string ⟨#[]⟩, .slice none 0 0]) := Lib.hid (heap_alloc_new w _)
  have HT := Lib.hid (Lib.tabBelow_of_tabIs htab)
  obtain ⟨at_, hat_⟩ : ∃ b, b = (getL s).at_ := ⟨_, rfl⟩
  have HA_ := Lib.hid hat_
  have HBA := Lib.hid hbad
  have HHV := Lib.hid hv
  clear hbad hv hat_ htab
  go_enter Tryd.func18, Tryd.ntmps18
  go_wp2_with fail
  refine HG.out.mono ?_
  rintro e w1 ⟨cs, rfl, hat, hb1⟩
  dsimp only
  rw [HBA.out, ← HA_.out]
  rw [HHV.out] at hat
  obtain ⟨vk, vn, vt, vl⟩ := v
  simp only [V.At] at hat
  obtain ⟨va, vc, rfl, hvc, hv0, hall⟩ := hat
  have HB1 := Lib.hid (below_then HB0.out hb1 HB0.out.size)
  have HR1 := Lib.hid (HR0.out.keep hb1)
  have hb2 : Below w1.heap.size w1 (w1.alloc (.cells #[.int .i64 vk, .int .i64 vn, .string vt, .slice va vl.length vc] 58)) := (Below.refl w1.heap.size w1).alloc (Nat.le_refl _) _
  have HB2 := Lib.hid (HB1.out.alloc HB1.out.size (.cells #[.int .i64 vk, .int .i64 vn, .string vt, .slice va vl.length vc] 58))
  have HR2 := Lib.hid (HR1.out.alloc (.cells #[.int .i64 vk, .int .i64 vn, .string vt, .slice va vl.length vc] 58))
  have HV2 : Hid ((w1.alloc (.cells #[.int .i64 vk, .int .i64 vn, .string vt, .slice va vl.length vc] 58)).heap[w1.heap.size]? = some (.cells #[.int .i64 vk, .int .i64 vn, .string vt, .slice va vl.length vc] 58 (0, 0))) := Lib.hid (heap_alloc_new w1 _)
  have HALL := Lib.hid (VAll.move (w' := w1.alloc (.cells #[.int .i64 vk, .int .i64 vn, .string vt, .slice va vl.length vc] 58)) (T := fun p => p < w1.heap.size) (fun _ h => h.2) (fun p hp => hb2.block p hp.2) _ _ _ hall)
  have HW1 : Hid (w.heap.size < w1.heap.size) := Lib.hid (lt_of_block HR1.out)
  have HS2 : Hid ((w1.alloc (.cells #[.int .i64 vk, .int .i64 vn, .string vt, .slice va vl.length vc] 58)).heap.size = w1.heap.size + 1) := Lib.hid (by simp)
  have HLL : Hid (∀ y ∈ vl, y.l.length ≤ 4000) := Lib.hid (fun y hy => by
    have h := getL_ok s HBA.out
    rw [HHV.out] at h
    obtain ⟨j, hj, rfl⟩ := List.getElem_of_mem hy
    exact fld_few h.2.2.1 j hj (by rw [List.getD_eq_getElem?_getD, List.getElem?_eq_getElem hj]; rfl))
  have HVLN : Hid (vl.length ≤ 4000) := Lib.hid (by
    have h := (getL_ok s HBA.out).2.2.1
    rw [HHV.out, V.cnt] at h
    have := cntAll_ge vl
    omega)
  have HTX : Hid (∀ y ∈ vl, (putL y).length ≤ 131072 ∨ vk ≠ 3) := Lib.hid (fun y hy => by
    by_cases h3 : vk = 3
    · subst h3
      have hp := (getL_ok s HBA.out).2.2.2.2
      rw [HHV.out] at hp
      exact .inl (Nat.le_trans (mem_len hy) (Nat.le_trans (all_len (V.mk 3 vn vt vl) rfl) hp))
    · exact .inr h3)
  clear hall hb1 hb2 HG HB0 HR0 HR1
  go_upto_region 2 with fail
  generalize (w1.alloc (.cells #[.int .i64 vk, .int .i64 vn, .string vt, .slice va vl.length vc] 58)) = w2 at *
  have hs2 := HS2.out
  have v0 := (Lib.cell_of_heap HV2.out 0).trans (show _ = some (Value.int .i64 vk) from rfl)
  have v1 := (Lib.cell_of_heap HV2.out 1).trans (show _ = some (Value.int .i64 vn) from rfl)
  have v2 := (Lib.cell_of_heap HV2.out 2).trans (show _ = some (Value.string vt) from rfl)
  have v3 := (Lib.cell_of_heap HV2.out 3).trans (show _ = some (Value.slice va vl.length vc) from rfl)
  have hcall := Lib.hid (wnums_any vk vn vt va vl vc 4 w2 _ HALL.out hvc hv0 (by decide) _ (Lib.hid rfl))
  go_wp2_with fail
  refine hcall.out.mono ?_
  rintro e w3 ⟨hb3, hcase⟩
  have HK3 := Lib.hid hb3
  have HB3 := Lib.hid (below_then HB2.out hb3 HB2.out.size)
  have HR3 := Lib.hid (HR2.out.keep hb3)
  have HV3 := Lib.hid ((hb3.block _ (lt_of_block HV2.out)).trans HV2.out)
  have hs3 : w2.heap.size ≤ w3.heap.size := hb3.size
  clear v0 v1 v2 v3 hcall hb3
  rcases hcase with ⟨hbf, fa, fn', fc, rfl⟩ | ⟨hbt, na, nc, rfl, hnums⟩
  · have HZ9 : Hid (x = (Hd.zero, 1)) := Lib.hid (by
      rw [hx.out]; unfold readHN; rw [if_neg]
      rintro ⟨⟨h1, h2, -, -, -⟩, h3, -⟩
      have h1 : vk = 3 := h1
      have h2 : vl.length = 7 := h2
      obtain ⟨g0, g1, g2, g3, g4, g5, g6, rfl⟩ := list_of7 h2
      obtain ⟨k0, k1, k2, k3⟩ := h3
      have k0 : g0.k = 1 := k0
      have k1 : g1.k = 1 := k1
      have k2 : g2.k = 1 := k2
      have k3 : g3.k = 1 := k3
      rw [decide_eq_true (⟨h1, by simp⟩ : vk = 3 ∧ 4 ≤ [g0, g1, g2, g3, g4, g5, g6].length)] at hbf
      simp [isNum, k0, k1, k2, k3] at hbf)
    clear hbf hx HLL HTX
    have q0 := HR3.out.cell (j := 0) rfl
    have f0 := HR3.out.free 0
    have q1 := HR3.out.cell (j := 1) rfl
    have f1 := HR3.out.free 1
    have q2 := HR3.out.cell (j := 2) rfl
    have f2 := HR3.out.free 2
    have q3 := HR3.out.cell (j := 3) rfl
    have f3 := HR3.out.free 3
    have q4 := HR3.out.cell (j := 4) rfl
    have f4 := HR3.out.free 4
    have q5 := HR3.out.cell (j := 5) rfl
    have f5 := HR3.out.free 5
    have q6 := HR3.out.cell (j := 6) rfl
    have f6 := HR3.out.free 6
    go_wp2_with fail
    (try simp only [Exit.inBlock, Exit.then])
    have hz9 := blk_seven HR3.out (.int .i64 0) (.int .i64 0) (.int .i64 0) (.int .i64 0) (.slice none 0 0) (.string ⟨#[]⟩) (.slice none 0 0)
    have hg9 := grown_seven w3 w.heap.size (.int .i64 0) (.int .i64 0) (.int .i64 0) (.int .i64 0) (.slice none 0 0) (.string ⟨#[]⟩) (.slice none 0 0)
    have HB9 := Lib.hid (HB3.out.grown hg9 HB3.out.size (fun q e => by have := Option.some.inj e; omega))
    refine bodyPost_ret (v := .tuple #[.agg #[.int .i64 0, .int .i64 0, .int .i64 0, .int .i64 0, .slice none 0 0, .string ⟨#[]⟩, .slice none 0 0], .int .i64 1]) ?_ rfl ?_
    · exact results_row_tmp (p := 2) (u := 3) rfl _ _ w.heap.size 42 _ (0, 0) _ rfl hz9 Tryd.underlying42 rfl (by kernel_rfl)
    · rw [HZ9.out]; exact retH_zero _ HB9.out
  · rw [Bool.and_eq_true, decide_eq_true_eq, List.all_eq_true] at hbt
    obtain ⟨⟨rfl, h4l⟩, hnm⟩ := hbt
    have v3 := (Lib.cell_of_heap HV3.out 3).trans (show _ = some (Value.slice va vl.length vc) from rfl)
    by_cases hl7 : vl.length = 7
    · obtain ⟨b, o, rfl, hSb, hel⟩ := elemsV2 HALL.out (by omega)
      obtain ⟨g0, g1, g2, g3, g4, g5, g6, rfl⟩ := list_of7 hl7
      obtain ⟨a4, c4, -, -, e40, e41, e42, e43⟩ := hel 4 (by simp)
      obtain ⟨a5, c5, ⟨hc5, h05⟩, r5, e50, e51, e52, e53⟩ := hel 5 (by simp)
      obtain ⟨a6, c6, ⟨hc6, h06⟩, r6, e60, e61, e62, e63⟩ := hel 6 (by simp)
      simp only [Nat.reduceMul, Nat.add_assoc, Nat.reduceAdd, List.getElem_cons_succ, List.getElem_cons_zero] at e40 e42 e50 e51 e52 e53 e60 e61 e62 e63 hc5 hc6 r5 r6
      have hb3 : b < w2.heap.size := by omega
      have HL5 := Lib.hid (HLL.out g5 (by simp))
      have HL6 := Lib.hid (HLL.out g6 (by simp))
      have HT4 := Lib.hid ((HTX.out g4 (by simp)).resolve_right (fun h => h rfl))
      have HT6 := Lib.hid ((HTX.out g6 (by simp)).resolve_right (fun h => h rfl))
      have HNM : Hid (g0.k = 1 ∧ g1.k = 1 ∧ g2.k = 1 ∧ g3.k = 1) := Lib.hid ⟨of_decide_eq_true (hnm g0 (by simp)), of_decide_eq_true (hnm g1 (by simp)), of_decide_eq_true (hnm g2 (by simp)), of_decide_eq_true (hnm g3 (by simp))⟩
      obtain ⟨nb, rfl, hnb0, hnb, hn0, hn1, hn2, hn3⟩ := own_four (x := cl g0.n) (y := cl g1.n) (z := cl g2.n) (u := cl g3.n) hnums
      have HNB := Lib.hid (And.intro hnb (And.intro hn0 (And.intro hn1 (And.intro hn2 hn3))))
      change w3.cell? ⟨w1.heap.size, 3, none⟩ = some (.slice (some ⟨b, o, none⟩) 7 vc) at v3
      have y4 := cell_keep HK3.out e40
      have y5 := cell_keep HK3.out e50
      clear hel hnums hnm hnb hn0 hn1 hn2 hn3 hnb0 hl7 h4l e41 HLL HTX HALL hvc hv0 HVLN
      by_cases hc : g4.k = 2 ∧ g5.k = 3
      · obtain ⟨hk4, hk5⟩ := hc
        rw [hk4] at y4
        rw [hk5] at y5
        have HK45 := Lib.hid (And.intro hk4 hk5)
        have HE : Hid (w3.cell? ⟨b, o + 18, none⟩ = some (.string g4.s) ∧ w3.cell? ⟨b, o + 20, none⟩ = some (.int .i64 g5.k) ∧ w3.cell? ⟨b, o + 21, none⟩ = some (.int .i64 g5.n) ∧ w3.cell? ⟨b, o + 22, none⟩ = some (.string g5.s) ∧ w3.cell? ⟨b, o + 23, none⟩ = some (.slice a5 g5.l.length c5)) := Lib.hid ⟨cell_keep HK3.out e42, cell_keep HK3.out e50, cell_keep HK3.out e51, cell_keep HK3.out e52, cell_keep HK3.out e53⟩
        have HE6 := Lib.hid (And.intro e60 (And.intro e61 (And.intro e62 e63)))
        have HR5 := Lib.hid r5
        have HR6 := Lib.hid r6
        have HH5 := Lib.hid (And.intro hc5 h05)
        clear hk4 hk5 e40 e42 e50 e51 e52 e53 e60 e61 e62 e63 r5 r6 hc5 h05 hc6 h06
        obtain ⟨B, hBe⟩ : ∃ B, B = g5.l.all isNum := ⟨_, rfl⟩
        have HBE := Lib.hid hBe
        have HCN : Hid (∀ W, Below w3.heap.size w3 W → Calls Tryd.prog 46 #[.agg #[.int .i64 g5.k, .int .i64 g5.n, .string g5.s, .slice a5 g5.l.length c5], .int .i64 (g5.l.length : Int)] W (NumsP W B (g5.l.map (fun x => cl x.n)))) := Lib.hid (fun W hW => by
          have h := wnums_any g5.k g5.n g5.s a5 g5.l c5 g5.l.length W _ (VAll.move (w' := W) (fun _ h => h) (fun p hp => (hW.block p (by omega)).trans (HK3.out.block p (by omega))) _ _ _ HR5.out) HH5.out.1 HH5.out.2 HL5.out B (Lib.hid (by rw [List.take_length, decide_eq_true ⟨HK45.out.2, Nat.le_refl _⟩, Bool.true_and]; exact HBE.out))
          rw [List.take_length] at h
          exact h)
        clear hBe
        go_wp2_with fail
        clear y4 y5 v3
        refine wp_region_set (regOf Tryd.f18 7) [some 54, some 55, some 56, some 57, some 58, some 59, some 60, some 61, some 62, some 63, some 64, some 53, some 65, some 66, some 9, some 8] (wgnT w1.heap.size b o vn vt vc g5.k g5.n g5.s a5 g5.l c5 B w3) (fun w' => Below w3.heap.size w3 w') wgnD (by kernel_rfl) (by kernel_rfl) (by kernel_rfl) (by kernel_rfl) (by kernel_rfl) ((Below.refl _ _).drew)
          (wgn_steps w1.heap.size b o vn vt vc g5.k g5.n g5.s a5 g5.l c5 B w3 (by omega) HV3.out HE.out.2.1 HE.out.2.2.1 HE.out.2.2.2.1 HE.out.2.2.2.2 HCN.out (by kernel_rfl) (by kernel_rfl)) ?_
        intro vs w4 hn hCw4 hT
        replace hn : vs.length = 16 := hn
        obtain ⟨v0, vs1, rfl, hn1⟩ := len_cons hn
        obtain ⟨v1, vs2, rfl, hn2⟩ := len_cons hn1
        obtain ⟨v2, vs3, rfl, hn3⟩ := len_cons hn2
        obtain ⟨v3, vs4, rfl, hn4⟩ := len_cons hn3
        obtain ⟨v4, vs5, rfl, hn5⟩ := len_cons hn4
        obtain ⟨v5, vs6, rfl, hn6⟩ := len_cons hn5
        obtain ⟨v6, vs7, rfl, hn7⟩ := len_cons hn6
        obtain ⟨v7, vs8, rfl, hn8⟩ := len_cons hn7
        obtain ⟨v8, vs9, rfl, hn9⟩ := len_cons hn8
        obtain ⟨v9, vs10, rfl, hn10⟩ := len_cons hn9
        obtain ⟨v10, vs11, rfl, hn11⟩ := len_cons hn10
        obtain ⟨v11, vs12, rfl, hn12⟩ := len_cons hn11
        obtain ⟨v12, vs13, rfl, hn13⟩ := len_cons hn12
        obtain ⟨v13, vs14, rfl, hn14⟩ := len_cons hn13
        obtain ⟨v14, vs15, rfl, hn15⟩ := len_cons hn14
        obtain ⟨v15, vs16, rfl, hn16⟩ := len_cons hn15
        obtain rfl := List.eq_nil_of_length_eq_zero hn16
        clear hn hn1 hn2 hn3 hn4 hn5 hn6 hn7 hn8 hn9 hn10 hn11 hn12 hn13 hn14 hn15 hn16
        obtain rfl : v0 = .pointer (some ⟨w1.heap.size, 3, none⟩) := hT 0 v0 rfl (by kernel_rfl)
        obtain rfl : v1 = .slice (some ⟨b, o, none⟩) 7 vc := hT 1 v1 rfl (by kernel_rfl)
        obtain rfl : v2 = .pointer (some ⟨b, o + 20, none⟩) := hT 2 v2 rfl (by kernel_rfl)
        obtain rfl : v3 = .agg #[.int .i64 g5.k, .int .i64 g5.n, .string g5.s, .slice a5 g5.l.length c5] := hT 3 v3 rfl (by kernel_rfl)
        obtain rfl : v4 = .pointer (some ⟨w1.heap.size, 3, none⟩) := hT 4 v4 rfl (by kernel_rfl)
        obtain rfl : v5 = .slice (some ⟨b, o, none⟩) 7 vc := hT 5 v5 rfl (by kernel_rfl)
        obtain rfl : v6 = .pointer (some ⟨b, o + 20, none⟩) := hT 6 v6 rfl (by kernel_rfl)
        obtain rfl : v7 = .pointer (some ⟨b, o + 23, none⟩) := hT 7 v7 rfl (by kernel_rfl)
        obtain rfl : v8 = .slice a5 g5.l.length c5 := hT 8 v8 rfl (by kernel_rfl)
        obtain rfl : v9 = .int .i64 (g5.l.length : Int) := hT 9 v9 rfl (by kernel_rfl)
        have t10 := Lib.hid (hT 10 v10 rfl (by kernel_rfl))
        have t11 := Lib.hid (hT 11 v11 rfl (by kernel_rfl))
        have t12 := Lib.hid (hT 12 v12 rfl (by kernel_rfl))
        obtain rfl : v13 = .bool B := hT 13 v13 rfl (by kernel_rfl)
        have t14 := Lib.hid (hT 14 v14 rfl (by kernel_rfl))
        obtain rfl : v15 = .bool B := hT 15 v15 rfl (by kernel_rfl)
        clear hT
        simp only [puts, Act.put, List.setIfInBounds_toArray, List.set_cons_succ, List.set_cons_zero]
        obtain ⟨va5, vm5, vc5, rfl, hvo⟩ := t14.out
        have HVO := Lib.hid hvo
        have HKA := Lib.hid hCw4
        have HBA4 := Lib.hid (below_then HB3.out hCw4 HB3.out.size)
        have HRA := Lib.hid (HR3.out.keep hCw4)
        have HVA := Lib.hid ((hCw4.block _ (lt_of_block HV3.out)).trans HV3.out)
        have hs4 : w3.heap.size ≤ w4.heap.size := hCw4.size
        have v3 := (Lib.cell_of_heap HVA.out 3).trans (show _ = some (Value.slice (some ⟨b, o, none⟩) 7 vc) from rfl)
        have y0 := cell_keep HKA.out (cell_keep HK3.out HE6.out.1)
        have y1 := cell_keep HKA.out (cell_keep HK3.out HE6.out.2.1)
        have y2 := cell_keep HKA.out (cell_keep HK3.out HE6.out.2.2.1)
        have y3 := cell_keep HKA.out (cell_keep HK3.out HE6.out.2.2.2)
        have hcall := Lib.hid (wreadRecs_any g6.k g6.n g6.s a6 g6.l c6 w4 _ (fun p (hp : p < w1.heap.size) => by omega) (VAll.move (w' := w4) (fun _ h => h) (fun p hp => (HKA.out.block p (by omega)).trans (HK3.out.block p (by omega))) _ _ _ HR6.out) HL6.out _ (Lib.hid rfl))
        clear hvo t10 t11 t12 t14 hCw4 HCN HR5 HH5
        go_wp2_with fail
        refine hcall.out.mono ?_
        rintro e w5 ⟨hb5, hcase⟩
        have HK5 := Lib.hid (HKA.out.trans (Below.lower hb5 HKA.out.size))
        have HB5 := Lib.hid (below_then HBA4.out hb5 HBA4.out.size)
        have HR5 := Lib.hid (HRA.out.keep hb5)
        have HV5 := Lib.hid ((hb5.block _ (lt_of_block HVA.out)).trans HVA.out)
        have hs5 : w4.heap.size ≤ w5.heap.size := hb5.size
        have HVO5 := Lib.hid (fun hB => (show vm5 = _ ∧ _ from ⟨(HVO.out hB).1, own_under (HVO.out hB).2 hb5⟩))
        obtain ⟨B3, hB3⟩ : ∃ B3, B3 = (decide (g6.k = 3) && g6.l.all recAllB) := ⟨_, rfl⟩
        rw [← hB3] at hcase
        have HB3E := Lib.hid hB3
        have key : ∃ ra rn rc, e = .returned (.tuple #[.slice ra rn rc, .bool B3]) ∧ (B3 = true → rn = (g6.l.map recCut).length ∧ w5.ownsRow w4.heap.size 52 3 (.slice ra rn rc) rn (rcE.cells (g6.l.map recCut))) := by
          rcases hcase with ⟨rfl, a, n, c, rfl⟩ | ⟨rfl, a, c, rfl, hown⟩
          · exact ⟨a, n, c, rfl, fun h => by cases h⟩
          · exact ⟨a, _, c, rfl, fun _ => ⟨rfl, hown⟩⟩
        clear hcase hB3
        obtain ⟨ra, rn, rc, rfl, hro⟩ := key
        have HRO := Lib.hid hro
        clear hro hb5 v3 y0 y1 y2 y3 hcall HVO HVA HRA HBA4 HKA
        dsimp only
        go_wp2_with fail
        obtain ⟨N0, hN0⟩ : ∃ y, y = cl g0.n := ⟨_, rfl⟩
        obtain ⟨N1, hN1⟩ : ∃ y, y = cl g1.n := ⟨_, rfl⟩
        obtain ⟨N2, hN2⟩ : ∃ y, y = cl g2.n := ⟨_, rfl⟩
        obtain ⟨N3, hN3⟩ : ∃ y, y = cl g3.n := ⟨_, rfl⟩
        obtain ⟨S4, hS4⟩ : ∃ y, y = g4.s := ⟨_, rfl⟩
        have HNN := Lib.hid (And.intro hN0 (And.intro hN1 (And.intro hN2 hN3)))
        have HS4 := Lib.hid hS4
        have hnb := HNB.out.1
        have hm0 := cell_keep HK5.out (show w3.cell? ⟨nb, 0, none⟩ = some (.int .i64 N0) from by rw [hN0]; exact HNB.out.2.1)
        have hm1 := cell_keep HK5.out (show w3.cell? ⟨nb, 1, none⟩ = some (.int .i64 N1) from by rw [hN1]; exact HNB.out.2.2.1)
        have hm2 := cell_keep HK5.out (show w3.cell? ⟨nb, 2, none⟩ = some (.int .i64 N2) from by rw [hN2]; exact HNB.out.2.2.2.1)
        have hm3 := cell_keep HK5.out (show w3.cell? ⟨nb, 3, none⟩ = some (.int .i64 N3) from by rw [hN3]; exact HNB.out.2.2.2.2)
        have hs4' := cell_keep HK5.out (show w3.cell? ⟨b, o + 18, none⟩ = some (.string S4) from by rw [hS4]; exact HE.out.1)
        clear hN0 hN1 hN2 hN3 hS4
        refine wp_region_last (regOf Tryd.f18 9) [some 75, some 76, some 77, some 78, some 79, some 80, some 81, some 82, some 83, some 84, some 85, some 86, some 87, some 88, some 89, some 90, some 91, some 92, some 93, some 94, some 95, some 12] 22 (wgbT w1.heap.size b o nb nc vn vt vc N0 N1 N2 N3 S4 ra rn rc va5 vm5 vc5 w5) (fun w' => Below w5.heap.size w5 w') wgbD (by kernel_rfl) (by kernel_rfl) (by kernel_rfl) (by kernel_rfl) (by kernel_rfl) (by kernel_rfl) (by kernel_rfl) ((Below.refl _ _).drew)
          (wgb_steps w1.heap.size b o nb nc vn vt vc N0 N1 N2 N3 S4 ra rn rc va5 vm5 vc5 w5 (by omega) HV5.out (by omega) hm0 hm1 hm2 hm3 hs4' (by kernel_rfl) (by kernel_rfl) (by kernel_rfl) (by kernel_rfl) (by kernel_rfl)) ?_
        intro oL hoL vs w9 hn hCw9 hT KL hKL
        replace hn : vs.length = 22 := hn
        obtain ⟨v0, vs1, rfl, hn1⟩ := len_cons hn
        obtain ⟨v1, vs2, rfl, hn2⟩ := len_cons hn1
        obtain ⟨v2, vs3, rfl, hn3⟩ := len_cons hn2
        obtain ⟨v3, vs4, rfl, hn4⟩ := len_cons hn3
        obtain ⟨v4, vs5, rfl, hn5⟩ := len_cons hn4
        obtain ⟨v5, vs6, rfl, hn6⟩ := len_cons hn5
        obtain ⟨v6, vs7, rfl, hn7⟩ := len_cons hn6
        obtain ⟨v7, vs8, rfl, hn8⟩ := len_cons hn7
        obtain ⟨v8, vs9, rfl, hn9⟩ := len_cons hn8
        obtain ⟨v9, vs10, rfl, hn10⟩ := len_cons hn9
        obtain ⟨v10, vs11, rfl, hn11⟩ := len_cons hn10
        obtain ⟨v11, vs12, rfl, hn12⟩ := len_cons hn11
        obtain ⟨v12, vs13, rfl, hn13⟩ := len_cons hn12
        obtain ⟨v13, vs14, rfl, hn14⟩ := len_cons hn13
        obtain ⟨v14, vs15, rfl, hn15⟩ := len_cons hn14
        obtain ⟨v15, vs16, rfl, hn16⟩ := len_cons hn15
        obtain ⟨v16, vs17, rfl, hn17⟩ := len_cons hn16
        obtain ⟨v17, vs18, rfl, hn18⟩ := len_cons hn17
        obtain ⟨v18, vs19, rfl, hn19⟩ := len_cons hn18
        obtain ⟨v19, vs20, rfl, hn20⟩ := len_cons hn19
        obtain ⟨v20, vs21, rfl, hn21⟩ := len_cons hn20
        obtain ⟨v21, vs22, rfl, hn22⟩ := len_cons hn21
        obtain rfl := List.eq_nil_of_length_eq_zero hn22
        clear hn hn1 hn2 hn3 hn4 hn5 hn6 hn7 hn8 hn9 hn10 hn11 hn12 hn13 hn14 hn15 hn16 hn17 hn18 hn19 hn20 hn21 hn22
        obtain rfl : v0 = .slice (some ⟨nb, 0, none⟩) 4 nc := hT 0 v0 rfl (by kernel_rfl)
        obtain rfl : v1 = .pointer (some ⟨nb, 0, none⟩) := hT 1 v1 rfl (by kernel_rfl)
        obtain rfl : v2 = .int .i64 N0 := hT 2 v2 rfl (by kernel_rfl)
        obtain rfl : v3 = .slice (some ⟨nb, 0, none⟩) 4 nc := hT 3 v3 rfl (by kernel_rfl)
        obtain rfl : v4 = .pointer (some ⟨nb, 1, none⟩) := hT 4 v4 rfl (by kernel_rfl)
        obtain rfl : v5 = .int .i64 N1 := hT 5 v5 rfl (by kernel_rfl)
        obtain rfl : v6 = .slice (some ⟨nb, 0, none⟩) 4 nc := hT 6 v6 rfl (by kernel_rfl)
        obtain rfl : v7 = .pointer (some ⟨nb, 2, none⟩) := hT 7 v7 rfl (by kernel_rfl)
        obtain rfl : v8 = .int .i64 N2 := hT 8 v8 rfl (by kernel_rfl)
        obtain rfl : v9 = .slice (some ⟨nb, 0, none⟩) 4 nc := hT 9 v9 rfl (by kernel_rfl)
        obtain rfl : v10 = .pointer (some ⟨nb, 3, none⟩) := hT 10 v10 rfl (by kernel_rfl)
        obtain rfl : v11 = .int .i64 N3 := hT 11 v11 rfl (by kernel_rfl)
        obtain rfl : v12 = .slice ra rn rc := hT 12 v12 rfl (by kernel_rfl)
        obtain rfl : v13 = .agg #[.int .i64 N2, .int .i64 N3, .slice ra rn rc] := hT 13 v13 rfl (by kernel_rfl)
        obtain rfl : v14 = .pointer (some ⟨w1.heap.size, 3, none⟩) := hT 14 v14 rfl (by kernel_rfl)
        obtain rfl : v15 = .slice (some ⟨b, o, none⟩) 7 vc := hT 15 v15 rfl (by kernel_rfl)
        obtain rfl : v16 = .pointer (some ⟨b, o + 16, none⟩) := hT 16 v16 rfl (by kernel_rfl)
        obtain rfl : v17 = .pointer (some ⟨b, o + 18, none⟩) := hT 17 v17 rfl (by kernel_rfl)
        obtain rfl : v18 = .string S4 := hT 18 v18 rfl (by kernel_rfl)
        obtain rfl : v19 = .slice va5 vm5 vc5 := hT 19 v19 rfl (by kernel_rfl)
        obtain rfl : v20 = .agg #[.int .i64 N0, .int .i64 N1, .int .i64 N2, .int .i64 N3, .slice ra rn rc, .string S4, .slice va5 vm5 vc5] := hT 20 v20 rfl (by kernel_rfl)
        have t21 := Lib.hid (hT 21 v21 rfl (by kernel_rfl))
        clear hT
        have hoL1 := opIs hoL (p := .store 42 (.tmp 12) (.tmp 95)) (by kernel_rfl)
        have hgL := guardIs hoL (p := none) (by kernel_rfl)
        have hdL : oL.dst = none := by have := (show ((regOf Tryd.f18 9)[22]?).map (·.dst) = some (none) by kernel_rfl); rw [hoL] at this; simpa using this
        rw [if_pos (wanted_free hgL)]
        rw [hdL] at hKL
        simp only [puts, Act.put, List.setIfInBounds_toArray, List.set_cons_succ, List.set_cons_zero] at hKL ⊢
        obtain ⟨g, rfl, hgl, hgb⟩ := t21.out
        have HBK : Blk w9 g 42 [.int .i64 0, .int .i64 0, .int .i64 0, .int .i64 0, .slice none 0 0, .string ⟨#[]⟩, .slice none 0 0] := hgb
        have q0 := HBK.cell (j := 0) rfl
        have f0 := HBK.free 0
        have q1 := HBK.cell (j := 1) rfl
        have f1 := HBK.free 1
        have q2 := HBK.cell (j := 2) rfl
        have f2 := HBK.free 2
        have q3 := HBK.cell (j := 3) rfl
        have f3 := HBK.free 3
        have q4 := HBK.cell (j := 4) rfl
        have f4 := HBK.free 4
        have q5 := HBK.cell (j := 5) rfl
        have f5 := HBK.free 5
        have q6 := HBK.cell (j := 6) rfl
        have f6 := HBK.free 6
        unfold Oper.wp
        rw [show (execOp _ oL).run Tryd.prog w9 = .ok .skip (((((((w9.setCell ⟨g, 0, none⟩ (.int .i64 N0)).setCell ⟨g, 1, none⟩ (.int .i64 N1)).setCell ⟨g, 2, none⟩ (.int .i64 N2)).setCell ⟨g, 3, none⟩ (.int .i64 N3)).setCell ⟨g, 4, none⟩ (.slice ra rn rc)).setCell ⟨g, 5, none⟩ (.string S4)).setCell ⟨g, 6, none⟩ (.slice va5 vm5 vc5)) by unfold execOp; simp only [hoL1]; simp [go_sem, q0, q1, q2, q3, q4, q5, q6, f0, f1, f2, f3, f4, f5, f6]]
        show KL (Act.put _ oL.dst undef) _
        rw [hdL]
        refine hKL undef _ ?_
        have HM6 := Lib.hid (blk_seven HBK (.int .i64 N0) (.int .i64 N1) (.int .i64 N2) (.int .i64 N3) (.slice ra rn rc) (.string S4) (.slice va5 vm5 vc5))
        have hg5 := grown_seven w9 g (.int .i64 N0) (.int .i64 N1) (.int .i64 N2) (.int .i64 N3) (.slice ra rn rc) (.string S4) (.slice va5 vm5 vc5)
        have HKB := Lib.hid (hCw9.grown hg5 hCw9.size (fun q e => by have := Option.some.inj e; omega))
        have HG1 := Lib.hid hgl
        clear q0 q1 q2 q3 q4 q5 q6 f0 f1 f2 f3 f4 f5 f6 hg5 hgl hgb HBK t21 hoL hoL1 hgL hdL hCw9 hm0 hm1 hm2 hm3 hs4'
        generalize (((((((w9.setCell ⟨g, 0, none⟩ (.int .i64 N0)).setCell ⟨g, 1, none⟩ (.int .i64 N1)).setCell ⟨g, 2, none⟩ (.int .i64 N2)).setCell ⟨g, 3, none⟩ (.int .i64 N3)).setCell ⟨g, 4, none⟩ (.slice ra rn rc)).setCell ⟨g, 5, none⟩ (.string S4)).setCell ⟨g, 6, none⟩ (.slice va5 vm5 vc5)) = w6 at *
        have HB6 := Lib.hid (below_then HB5.out HKB.out HB5.out.size)
        have HR6' := Lib.hid (HR5.out.keep HKB.out)
        have hs6 := HKB.out.size
        clear HR5 HB5
        have HCUT : Hid (hdCut (V.mk 3 vn vt [g0, g1, g2, g3, g4, g5, g6]) = (⟨N0, N1, N2, N3, g6.l.map recCut, S4, g5.l.map (fun x => cl x.n)⟩ : Hd)) := Lib.hid (by rw [HNN.out.1, HNN.out.2.1, HNN.out.2.2.1, HNN.out.2.2.2, HS4.out]; rfl)
        have HNUM : Hid (hdNum (V.mk 3 vn vt [g0, g1, g2, g3, g4, g5, g6]) ↔ (B = true ∧ B3 = true ∧ rightH (⟨N0, N1, N2, N3, g6.l.map recCut, S4, g5.l.map (fun x => cl x.n)⟩ : Hd) = true)) := Lib.hid (by
          have h1 : B = true ↔ ∀ y ∈ g5.l, y.k = 1 := by rw [HBE.out, List.all_eq_true]; simp [isNum]
          have h2 : B3 = true ↔ (g6.k = 3 ∧ ∀ y ∈ g6.l, recAll y) := by rw [HB3E.out, Bool.and_eq_true, decide_eq_true_eq, List.all_eq_true]; simp [recAllB]
          rw [h1, h2]
          unfold hdNum
          rw [HCUT.out]
          constructor
          · rintro ⟨q1, q2, q3, q4, q5⟩
            exact ⟨q3, ⟨q1.2.2.2.2, q4⟩, q5⟩
          · rintro ⟨q3, ⟨q6, q4⟩, q5⟩
            exact ⟨⟨rfl, rfl, HK45.out.1, HK45.out.2, q6⟩, HNM.out, q3, q4, q5⟩)
        cases B with
        | false =>
          have HZ9 : Hid (x = (Hd.zero, 1)) := Lib.hid (by rw [hx.out]; unfold readHN; rw [if_neg (fun h => by have := (HNUM.out.1 h).1; cases this)])
          clear hx HNUM HCUT
          have q0 := HR6'.out.cell (j := 0) rfl
          have f0 := HR6'.out.free 0
          have q1 := HR6'.out.cell (j := 1) rfl
          have f1 := HR6'.out.free 1
          have q2 := HR6'.out.cell (j := 2) rfl
          have f2 := HR6'.out.free 2
          have q3 := HR6'.out.cell (j := 3) rfl
          have f3 := HR6'.out.free 3
          have q4 := HR6'.out.cell (j := 4) rfl
          have f4 := HR6'.out.free 4
          have q5 := HR6'.out.cell (j := 5) rfl
          have f5 := HR6'.out.free 5
          have q6 := HR6'.out.cell (j := 6) rfl
          have f6 := HR6'.out.free 6
          go_wp2_with fail
          (try simp only [Exit.inBlock, Exit.then])
          have hz9 := blk_seven HR6'.out (.int .i64 0) (.int .i64 0) (.int .i64 0) (.int .i64 0) (.slice none 0 0) (.string ⟨#[]⟩) (.slice none 0 0)
          have hg9 := grown_seven w6 w.heap.size (.int .i64 0) (.int .i64 0) (.int .i64 0) (.int .i64 0) (.slice none 0 0) (.string ⟨#[]⟩) (.slice none 0 0)
          have HB9 := Lib.hid (HB6.out.grown hg9 HB6.out.size (fun q e => by have := Option.some.inj e; omega))
          refine bodyPost_ret (v := .tuple #[.agg #[.int .i64 0, .int .i64 0, .int .i64 0, .int .i64 0, .slice none 0 0, .string ⟨#[]⟩, .slice none 0 0], .int .i64 1]) ?_ rfl ?_
          · exact results_row_tmp (p := 2) (u := 3) rfl _ _ w.heap.size 42 _ (0, 0) _ rfl hz9 Tryd.underlying42 rfl (by kernel_rfl)
          · rw [HZ9.out]; exact retH_zero _ HB9.out
        | true =>
          cases B3 with
          | false =>
            have HZ9 : Hid (x = (Hd.zero, 1)) := Lib.hid (by rw [hx.out]; unfold readHN; rw [if_neg (fun h => by have := (HNUM.out.1 h).2.1; cases this)])
            clear hx HNUM HCUT
            have q0 := HR6'.out.cell (j := 0) rfl
            have f0 := HR6'.out.free 0
            have q1 := HR6'.out.cell (j := 1) rfl
            have f1 := HR6'.out.free 1
            have q2 := HR6'.out.cell (j := 2) rfl
            have f2 := HR6'.out.free 2
            have q3 := HR6'.out.cell (j := 3) rfl
            have f3 := HR6'.out.free 3
            have q4 := HR6'.out.cell (j := 4) rfl
            have f4 := HR6'.out.free 4
            have q5 := HR6'.out.cell (j := 5) rfl
            have f5 := HR6'.out.free 5
            have q6 := HR6'.out.cell (j := 6) rfl
            have f6 := HR6'.out.free 6
            go_wp2_with fail
            (try simp only [Exit.inBlock, Exit.then])
            have hz9 := blk_seven HR6'.out (.int .i64 0) (.int .i64 0) (.int .i64 0) (.int .i64 0) (.slice none 0 0) (.string ⟨#[]⟩) (.slice none 0 0)
            have hg9 := grown_seven w6 w.heap.size (.int .i64 0) (.int .i64 0) (.int .i64 0) (.int .i64 0) (.slice none 0 0) (.string ⟨#[]⟩) (.slice none 0 0)
            have HB9 := Lib.hid (HB6.out.grown hg9 HB6.out.size (fun q e => by have := Option.some.inj e; omega))
            refine bodyPost_ret (v := .tuple #[.agg #[.int .i64 0, .int .i64 0, .int .i64 0, .int .i64 0, .slice none 0 0, .string ⟨#[]⟩, .slice none 0 0], .int .i64 1]) ?_ rfl ?_
            · exact results_row_tmp (p := 2) (u := 3) rfl _ _ w.heap.size 42 _ (0, 0) _ rfl hz9 Tryd.underlying42 rfl (by kernel_rfl)
            · rw [HZ9.out]; exact retH_zero _ HB9.out
          | true =>
            have HXR : Hid (x = if rightH (⟨N0, N1, N2, N3, g6.l.map recCut, S4, g5.l.map (fun x => cl x.n)⟩ : Hd) = true then ((⟨N0, N1, N2, N3, g6.l.map recCut, S4, g5.l.map (fun x => cl x.n)⟩ : Hd), 0) else (Hd.zero, 1)) := Lib.hid (by
              rw [hx.out]
              unfold readHN
              by_cases hq : rightH (⟨N0, N1, N2, N3, g6.l.map recCut, S4, g5.l.map (fun x => cl x.n)⟩ : Hd) = true
              · rw [if_pos hq, if_pos (HNUM.out.2 ⟨rfl, rfl, hq⟩), HCUT.out]
              · rw [if_neg hq, if_neg (fun h => hq (HNUM.out.1 h).2.2)])
            obtain ⟨rfl, hro⟩ := HRO.out (by trivial)
            obtain ⟨rfl, hvo⟩ := HVO5.out (by trivial)
            replace HRO := Lib.hid hro
            replace HVO5 := Lib.hid hvo
            have HK6 : Hid (g6.k = 3) := Lib.hid (by have h := HB3E.out.symm; rw [Bool.and_eq_true, decide_eq_true_eq] at h; exact h.1)
            have HRA : Hid (g6.l.all recAllB = true) := Lib.hid (by have h := HB3E.out.symm; rw [Bool.and_eq_true] at h; exact h.2)
            have HC63 : Hid (in63 N0 ∧ in63 N1 ∧ in63 N2 ∧ in63 N3) := Lib.hid (by rw [HNN.out.1, HNN.out.2.1, HNN.out.2.2.1, HNN.out.2.2.2]; exact ⟨cl63 _, cl63 _, cl63 _, cl63 _⟩)
            clear hx HNUM HCUT hro hvo HNN HNM HNB HE HE6 HR6 HBE HB3E
            have HHD : Hid (HdAt w6 (⟨N0, N1, N2, N3, g6.l.map recCut, S4, g5.l.map (fun x => cl x.n)⟩ : Hd) ra (g6.l.map recCut).length rc va5 (g5.l.map (fun x => cl x.n)).length vc5) := Lib.hid (by
              obtain ⟨a, c, he, hn, hsl, -, -, -⟩ := Enc.own_sl (E := rcE) (own_under HRO.out HKB.out)
              cases he
              refine ⟨hsl, SlAt.ofOwn (own_under HVO5.out HKB.out), ?_, ?_, ?_, ?_, ?_, ?_⟩
              · rw [List.length_map]; have := HL6.out; omega
              · rw [List.length_map]; have := HL5.out; omega
              · intro r hr
                obtain ⟨y, hy, rfl⟩ := List.mem_map.1 hr
                have hn := of_decide_eq_true (List.all_eq_true.1 HRA.out y hy)
                have h1 := txt_len (fld y 2) hn.2.2.2.2
                have h2 := mem_len (fld_mem (v := y) (i := 2) (by rw [hn.2.1]; decide))
                have h3 := all_len y hn.1
                have h4 := mem_len hy
                have h5 := all_len g6 HK6.out
                have h6 := HT6.out
                have hsz : (fld y 2).s.size ≤ 140737488355328 := by omega
                exact ⟨hsz, cl63 _, cl63 _⟩
              · have h1 := txt_len g4 HK45.out.1
                have h2 := HT4.out
                show S4.size ≤ _
                rw [HS4.out]
                omega
              · exact ⟨HC63.out.1, HC63.out.2.1, HC63.out.2.2.1, HC63.out.2.2.2⟩
              · intro z hz
                obtain ⟨y, hy, rfl⟩ := List.mem_map.1 hz
                exact cl63 _)
            have HAR : Hid (∀ y, ra = some y → w.heap.size ≤ y.block ∧ w1.heap.size ≤ y.block) := Lib.hid (fun y hy => by
              obtain ⟨a, c, he, hn, -, hsl, -, -⟩ := Enc.own_sl (E := rcE) HRO.out
              cases he
              have h1 := hsl y hy
              have := HW1.out
              exact ⟨by omega, by omega⟩)
            have HAV : Hid (∀ y, va5 = some y → w.heap.size ≤ y.block ∧ w1.heap.size ≤ y.block) := Lib.hid (fun y hy => by
              obtain ⟨a, n, c, he, -, hsl, -⟩ := own_slice HVO5.out
              cases he
              have h1 := hsl y hy
              have := HW1.out
              exact ⟨by omega, by omega⟩)
            have hright := Lib.hid (show Calls Tryd.prog 21 #[.agg #[.int .i64 N0, .int .i64 N1, .int .i64 N2, .int .i64 N3, .slice ra (g6.l.map recCut).length rc, .string S4, .slice va5 (g5.l.map (fun x => cl x.n)).length vc5]] w6 _ from wright_any (⟨N0, N1, N2, N3, g6.l.map recCut, S4, g5.l.map (fun x => cl x.n)⟩ : Hd) ra _ rc va5 _ vc5 w6 HHD.out (HT.out _ HB6.out) _ (Lib.hid rfl))
            generalize (g6.l.map recCut).length = rn' at *
            generalize (g5.l.map (fun x => cl x.n)).length = vm' at *
            have x0 := HM6.out.cell (j := 0) rfl
            have x1 := HM6.out.cell (j := 1) rfl
            have x2 := HM6.out.cell (j := 2) rfl
            have x3 := HM6.out.cell (j := 3) rfl
            have x4 := HM6.out.cell (j := 4) rfl
            have x5 := HM6.out.cell (j := 5) rfl
            have x6 := HM6.out.cell (j := 6) rfl
            go_wp2_with fail
            refine hright.out.mono ?_
            rintro e w7 ⟨rfl, hb7⟩
            have HB7 := Lib.hid (below_then HB6.out hb7 HB6.out.size)
            have HR7 := Lib.hid (HR6'.out.keep hb7)
            have HM7 := Lib.hid (HM6.out.keep hb7)
            have HHD7 := Lib.hid (HHD.out.keep hb7)
            have hs7 := hb7.size
            have hw1 := HW1.out
            clear x0 x1 x2 x3 x4 x5 x6 hb7 hright HR6' HM6 HHD HB6
            cases hr : rightH (⟨N0, N1, N2, N3, g6.l.map recCut, S4, g5.l.map (fun x => cl x.n)⟩ : Hd) with
            | false =>
              have HZ9 : Hid (x = (Hd.zero, 1)) := Lib.hid (by rw [HXR.out, hr]; rfl)
              clear HXR hr
              have q0 := HR7.out.cell (j := 0) rfl
              have f0 := HR7.out.free 0
              have q1 := HR7.out.cell (j := 1) rfl
              have f1 := HR7.out.free 1
              have q2 := HR7.out.cell (j := 2) rfl
              have f2 := HR7.out.free 2
              have q3 := HR7.out.cell (j := 3) rfl
              have f3 := HR7.out.free 3
              have q4 := HR7.out.cell (j := 4) rfl
              have f4 := HR7.out.free 4
              have q5 := HR7.out.cell (j := 5) rfl
              have f5 := HR7.out.free 5
              have q6 := HR7.out.cell (j := 6) rfl
              have f6 := HR7.out.free 6
              go_wp2_with fail
              (try simp only [Exit.inBlock, Exit.then])
              have hz9 := blk_seven HR7.out (.int .i64 0) (.int .i64 0) (.int .i64 0) (.int .i64 0) (.slice none 0 0) (.string ⟨#[]⟩) (.slice none 0 0)
              have hg9 := grown_seven w7 w.heap.size (.int .i64 0) (.int .i64 0) (.int .i64 0) (.int .i64 0) (.slice none 0 0) (.string ⟨#[]⟩) (.slice none 0 0)
              have HB9 := Lib.hid (HB7.out.grown hg9 HB7.out.size (fun q e => by have := Option.some.inj e; omega))
              refine bodyPost_ret (v := .tuple #[.agg #[.int .i64 0, .int .i64 0, .int .i64 0, .int .i64 0, .slice none 0 0, .string ⟨#[]⟩, .slice none 0 0], .int .i64 1]) ?_ rfl ?_
              · exact results_row_tmp (p := 2) (u := 3) rfl _ _ w.heap.size 42 _ (0, 0) _ rfl hz9 Tryd.underlying42 rfl (by kernel_rfl)
              · rw [HZ9.out]; exact retH_zero _ HB9.out
            | true =>
              have HZ9 : Hid (x = ((⟨N0, N1, N2, N3, g6.l.map recCut, S4, g5.l.map (fun x => cl x.n)⟩ : Hd), 0)) := Lib.hid (by rw [HXR.out, hr]; rfl)
              clear HXR hr
              have x0 := HM7.out.cell (j := 0) rfl
              have x1 := HM7.out.cell (j := 1) rfl
              have x2 := HM7.out.cell (j := 2) rfl
              have x3 := HM7.out.cell (j := 3) rfl
              have x4 := HM7.out.cell (j := 4) rfl
              have x5 := HM7.out.cell (j := 5) rfl
              have x6 := HM7.out.cell (j := 6) rfl
              have q0 := HR7.out.cell (j := 0) rfl
              have f0 := HR7.out.free 0
              have q1 := HR7.out.cell (j := 1) rfl
              have f1 := HR7.out.free 1
              have q2 := HR7.out.cell (j := 2) rfl
              have f2 := HR7.out.free 2
              have q3 := HR7.out.cell (j := 3) rfl
              have f3 := HR7.out.free 3
              have q4 := HR7.out.cell (j := 4) rfl
              have f4 := HR7.out.free 4
              have q5 := HR7.out.cell (j := 5) rfl
              have f5 := HR7.out.free 5
              have q6 := HR7.out.cell (j := 6) rfl
              have f6 := HR7.out.free 6
              go_wp2_with fail
              clear x0 x1 x2 x3 x4 x5 x6
              (try simp only [Exit.inBlock, Exit.then])
              have hz9 := blk_seven HR7.out (.int .i64 N0) (.int .i64 N1) (.int .i64 N2) (.int .i64 N3) (.slice ra rn' rc) (.string S4) (.slice va5 vm' vc5)
              have hg9 := grown_seven w7 w.heap.size (.int .i64 N0) (.int .i64 N1) (.int .i64 N2) (.int .i64 N3) (.slice ra rn' rc) (.string S4) (.slice va5 vm' vc5)
              have HB9 := Lib.hid (HB7.out.grown hg9 HB7.out.size (fun q e => by have := Option.some.inj e; omega))
              refine bodyPost_ret (v := .tuple #[.agg #[.int .i64 N0, .int .i64 N1, .int .i64 N2, .int .i64 N3, .slice ra rn' rc, .string S4, .slice va5 vm' vc5], .int .i64 0]) ?_ rfl ?_
              · exact results_row_tmp (p := 2) (u := 3) rfl _ _ w.heap.size 42 _ (0, 0) _ rfl hz9 Tryd.underlying42 rfl (by kernel_rfl)
              · rw [HZ9.out]; exact ⟨ra, rn', rc, va5, vm', vc5, rfl, hdAt_kept HHD7.out hg9 (fun y e he => by have := (HAR.out y e).2; have := Option.some.inj he; omega) (fun y e he => by have := (HAV.out y e).2; have := Option.some.inj he; omega), HB9.out, fun y e => (HAR.out y e).1, fun y e => (HAV.out y e).1⟩
      · have HZ9 : Hid (x = (Hd.zero, 1)) := Lib.hid (by
          rw [hx.out]; unfold readHN; rw [if_neg]
          rintro ⟨⟨-, -, h1, h2, -⟩, -⟩
          exact hc ⟨h1, h2⟩)
        have HCC := Lib.hid hc
        generalize g4.k = k4 at *
        generalize g5.k = k5 at *
        clear hx hc r5 r6 e40 e42 e50 e51 e52 e53 e60 e61 e62 e63 HNB HNM
        have q0 := HR3.out.cell (j := 0) rfl
        have f0 := HR3.out.free 0
        have q1 := HR3.out.cell (j := 1) rfl
        have f1 := HR3.out.free 1
        have q2 := HR3.out.cell (j := 2) rfl
        have f2 := HR3.out.free 2
        have q3 := HR3.out.cell (j := 3) rfl
        have f3 := HR3.out.free 3
        have q4 := HR3.out.cell (j := 4) rfl
        have f4 := HR3.out.free 4
        have q5 := HR3.out.cell (j := 5) rfl
        have f5 := HR3.out.free 5
        have q6 := HR3.out.cell (j := 6) rfl
        have f6 := HR3.out.free 6
        go_wp2_with fail
        all_goals first
          | (exfalso; have hk := HCC.out; (try simp only [bne_eq_false_iff_eq] at *); omega)
          | (
            (try simp only [Exit.inBlock, Exit.then])
            have hz9 := blk_seven HR3.out (.int .i64 0) (.int .i64 0) (.int .i64 0) (.int .i64 0) (.slice none 0 0) (.string ⟨#[]⟩) (.slice none 0 0)
            have hg9 := grown_seven w3 w.heap.size (.int .i64 0) (.int .i64 0) (.int .i64 0) (.int .i64 0) (.slice none 0 0) (.string ⟨#[]⟩) (.slice none 0 0)
            have HB9 := Lib.hid (HB3.out.grown hg9 HB3.out.size (fun q e => by have := Option.some.inj e; omega))
            refine bodyPost_ret (v := .tuple #[.agg #[.int .i64 0, .int .i64 0, .int .i64 0, .int .i64 0, .slice none 0 0, .string ⟨#[]⟩, .slice none 0 0], .int .i64 1]) ?_ rfl ?_
            · exact results_row_tmp (p := 2) (u := 3) rfl _ _ w.heap.size 42 _ (0, 0) _ rfl hz9 Tryd.underlying42 rfl (by kernel_rfl)
            · rw [HZ9.out]; exact retH_zero _ HB9.out
            )
    · have HZ9 : Hid (x = (Hd.zero, 1)) := Lib.hid (by
        rw [hx.out]; unfold readHN; rw [if_neg]
        rintro ⟨⟨-, h2, -⟩, -⟩
        exact hl7 h2)
      have hl7b : ((vl.length : Int) != 7) = true := by simp; omega
      clear hx hl7 hnm hnums
      have q0 := HR3.out.cell (j := 0) rfl
      have f0 := HR3.out.free 0
      have q1 := HR3.out.cell (j := 1) rfl
      have f1 := HR3.out.free 1
      have q2 := HR3.out.cell (j := 2) rfl
      have f2 := HR3.out.free 2
      have q3 := HR3.out.cell (j := 3) rfl
      have f3 := HR3.out.free 3
      have q4 := HR3.out.cell (j := 4) rfl
      have f4 := HR3.out.free 4
      have q5 := HR3.out.cell (j := 5) rfl
      have f5 := HR3.out.free 5
      have q6 := HR3.out.cell (j := 6) rfl
      have f6 := HR3.out.free 6
      go_wp2_with fail
      (try simp only [Exit.inBlock, Exit.then])
      have hz9 := blk_seven HR3.out (.int .i64 0) (.int .i64 0) (.int .i64 0) (.int .i64 0) (.slice none 0 0) (.string ⟨#[]⟩) (.slice none 0 0)
      have hg9 := grown_seven w3 w.heap.size (.int .i64 0) (.int .i64 0) (.int .i64 0) (.int .i64 0) (.slice none 0 0) (.string ⟨#[]⟩) (.slice none 0 0)
      have HB9 := Lib.hid (HB3.out.grown hg9 HB3.out.size (fun q e => by have := Option.some.inj e; omega))
      refine bodyPost_ret (v := .tuple #[.agg #[.int .i64 0, .int .i64 0, .int .i64 0, .int .i64 0, .slice none 0 0, .string ⟨#[]⟩, .slice none 0 0], .int .i64 1]) ?_ rfl ?_
      · exact results_row_tmp (p := 2) (u := 3) rfl _ _ w.heap.size 42 _ (0, 0) _ rfl hz9 Tryd.underlying42 rfl (by kernel_rfl)
      · rw [HZ9.out]; exact retH_zero _ HB9.out
theorem wget_any (s : ByteArray) (w : World) (hm : s.size ≤ 9223372036854775807) (htab : Lib.TabIs Tryd.prog w "internal/strconv.uint64pow10" .u64 Lib.pow10Tab) : Calls Tryd.prog 18 #[.string s] w (RetH w (getH s)) := by
  unfold getH
  by_cases hb : (getL s).bad ≠ 0
  · rw [if_pos hb]
    exact wget_bad s w hm hb
  · rw [if_neg hb]
    have hb : (getL s).bad = 0 := Classical.byContradiction hb
    exact wget_go s w hm htab hb _ rfl _ (Lib.hid (readHN_eq _).symm)
end Go.Proofs.YtboohpkmllelgaaDoor
