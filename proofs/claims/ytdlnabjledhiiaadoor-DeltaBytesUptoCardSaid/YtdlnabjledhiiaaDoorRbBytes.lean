/-
  The walk of hornbookref07.Bytes: the bytes of any delta, or why it is refused, are those of delta.Bytes; as long as what is written has at most 2^47 bytes. (Written by wip/mkrbw.py.)
-/
import Derived.Test.YtdlnabjledhiiaaDoorRbReg
import Derived.Test.YtdlnabjledhiiaaDoorRpPut
namespace Go.Proofs.YtdlnabjledhiiaaDoor
open Go.RowKit
set_option linter.unusedVariables false

set_option maxRecDepth 20000 in
set_option maxHeartbeats 1000000 in
theorem rdbytes_any (a : Option Addr) (n c : Nat) (d : List DOp) (w : World) (h : OpsSl w a n d) (hn : n ≤ 9223372036854775807) (htab : Lib.TabIs Tryd.prog w "internal/strconv.uint64pow10" .u64 Lib.pow10Tab) (g : ByteArray × Int) (hg : Hid (g = bytesGot d)) :
    Calls Tryd.prog 13 #[.slice a n c] w (fun e w' => e = .returned (.tuple #[.string g.1, .int .i64 g.2]) ∧ Below w.heap.size w w') := by
  have hrt := Lib.hid (refRight_any a n c d w h hn (rightB d) (Lib.hid rfl))
  have H := Lib.hid h
  have HT := Lib.hid (Lib.tabBelow_of_tabIs htab)
  have HG := Lib.hid (show g = if rightB d = true then putGot (.mk 3 0 ⟨#[]⟩ (d.map opV)) else (⟨#[]⟩, 70) from hg.out)
  have HND := Lib.hid h.1
  clear h htab hg
  cases hr : rightB d with
  | false =>
    rw [hr] at hrt
    have HG2 : Hid (g = (⟨#[]⟩, 70)) := Lib.hid (by rw [HG.out, hr]; rfl)
    clear HG
    go_enter Tryd.func13, Tryd.ntmps13
    go_wp2_with fail
    refine hrt.out.mono ?_
    rintro e w1 ⟨rfl, hb⟩
    have HB := Lib.hid hb
    clear hb hrt
    go_wp2_with fail
    go_ret2
    exact ⟨by rw [HG2.out]; rfl, HB.out⟩
  | true =>
    rw [hr] at hrt
    have HG2 : Hid (g = putGot (.mk 3 0 ⟨#[]⟩ (d.map opV))) := Lib.hid (by rw [HG.out, hr]; rfl)
    have hall := Lib.hid (rightB_all hr)
    have hlen := rightB_len hr
    obtain ⟨i0, hi0, hz0, hz1, hz2⟩ := infoV
    have HI := Lib.hid hi0
    have HZ := Lib.hid (And.intro hz0 (And.intro hz1 hz2))
    clear HG hr hi0 hz0 hz1 hz2
    go_enter Tryd.func13, Tryd.ntmps13
    go_wp2_with fail
    refine hrt.out.mono ?_
    rintro e w1 ⟨rfl, hb⟩
    have HB2 := Lib.hid (hb.alloc hb.size (.cells #[.int .i64 3, .int .i64 0, .string ⟨#[]⟩, .slice none 0 0] 42))
    have HM2 := Lib.hid (Making.start w1.heap.size _ (Four.new w1 42 (.int .i64 3) (.int .i64 0) (.string ⟨#[]⟩) (.slice none 0 0)))
    have hsz := hb.size
    clear hb hrt
    go_wp2_with fail
    generalize (w1.alloc (.cells #[.int .i64 3, .int .i64 0, .string ⟨#[]⟩, .slice none 0 0] 42)) = w2 at *
    go_loopg [13] n (fun gk v wr => ∃ (i : Nat) (acc : List V) (va : Option Addr) (vc : Nat) (cells : List Value), i ≤ n ∧ gk = n - i ∧ v = .int .i64 (i : Int) ∧ Hid (acc = (d.take i).map opV) ∧ Hid (Making w1.heap.size acc va vc cells wr) ∧ Hid (Below w.heap.size w wr))
    case atStart => exact ⟨0, [], none, 0, [], Nat.zero_le _, rfl, rfl, Lib.hid rfl, HM2, HB2⟩
    case round =>
      clear HM2 HB2
      obtain ⟨i, acc, va, vc, cells, hi, rfl, rfl, HACC, hM, hW⟩ := hrel
      have HLI : Hid (acc.length = i) := Lib.hid (by rw [HACC.out, List.length_map, List.length_take]; have := HND.out; omega)
      by_cases hlt : i < n
      · have hlti : (i : Int) < (n : Int) := by omega
        have hid : i < d.length := by have := HND.out; omega
        obtain ⟨-, b, off, rfl, hcells⟩ := H.out.at (by omega)
        obtain ⟨c0, c1, c2⟩ := hcells i hid
        have e0 := cell_keep hW.out c0
        have e1 := cell_keep hW.out c1
        have e2 := cell_keep hW.out c2
        have hok := Lib.hid (hall.out d[i] (List.getElem_mem hid))
        have HMT : Hid (acc ++ [opV d[i]] = (d.take (i + 1)).map opV) := Lib.hid (by rw [HACC.out, List.take_add_one, List.getElem?_eq_getElem hid, List.map_append]; rfl)
        generalize d[i] = o at *
        obtain ⟨f, l, t⟩ := o
        dsimp only at e0 e1 e2
        have HA6 : Hid ((wr.alloc (.cells #[.int .i64 f, .int .i64 l, .string t] 32)).heap[wr.heap.size]? = some (.cells #[.int .i64 f, .int .i64 l, .string t] 32 (0, 0))) := Lib.hid (heap_alloc_new wr _)
        have HM6 := Lib.hid (hM.out.under ((Below.refl wr.heap.size wr).alloc (Nat.le_refl _) (.cells #[.int .i64 f, .int .i64 l, .string t] 32)))
        have HW6 := Lib.hid (hW.out.alloc hW.out.size (.cells #[.int .i64 f, .int .i64 l, .string t] 32))
        have hb4 := lt_of_block hM.out.box
        have HOL := Lib.hid hM.out.own.lt
        have m2 := (Lib.cell_of_heap HA6.out 2).trans (show _ = some (Value.string t) from rfl)
        have hs6 : (wr.alloc (.cells #[.int .i64 f, .int .i64 l, .string t] 32)).heap.size = wr.heap.size + 1 := by simp
        clear hcells c0 c1 c2 hM hW
        by_cases ht : t.size = 0
        · have hl := (ok_empty hok.out ht).1
          dsimp only at hl
          have HOV : Hid (opV ⟨f, l, t⟩ = .mk 3 0 ⟨#[]⟩ [.mk 1 f ⟨#[]⟩ [], .mk 1 l ⟨#[]⟩ []]) := Lib.hid (by unfold opV; dsimp only; rw [if_pos (by omega)])
          rw [HOV.out] at HMT
          clear HOV hl
          obtain rfl := size0 ht
          go_wp2_with fail
          have hli := HLI.out
          generalize hwq : (wr.alloc (.cells #[.int .i64 f, .int .i64 l, .string ⟨#[]⟩] 32)) = wq at *
          clear e0 e1 e2 m2
          refine wp_region_lastE (regOf Tryd.f13 8) [some 20, some 21, some 22, some 23, some 24, some 25, some 26, some 27, some 28, some 29, some 30, some 31, some 32] 13 (rbrT w1.heap.size wr.heap.size va vc acc cells f l ⟨#[]⟩ w wq) (fun e w' => (Below w.heap.size w w' ∧ wq.heap.size ≤ w'.heap.size ∧ w'.heap[wr.heap.size]? = some (.cells #[.int .i64 f, .int .i64 l, .string ⟨#[]⟩] 32 (0, 0))) ∧ (e 11 = none → Making w1.heap.size acc va vc cells w')) rbrD (by kernel_rfl) (by kernel_rfl) (by kernel_rfl) (by kernel_rfl) (by kernel_rfl) (by kernel_rfl) (by kernel_rfl) ⟨⟨HW6.out.drew, Nat.le_refl _, HA6.out⟩, fun _ => HM6.out.under ((Below.refl _ _).drew)⟩
            (rbr_steps w1.heap.size wr.heap.size va vc acc cells f l ⟨#[]⟩ w wq hsz hb4 (by omega) (fun k hk => (HOL.out k hk).2) (by omega) (by kernel_rfl) (by kernel_rfl) (by kernel_rfl) (by kernel_rfl)) ?_
          intro oL hoL eL vs w9 hn hallL hCw9 hT KL hKL
          replace hn : vs.length = 13 := hn
          obtain ⟨v0, vs1, rfl, hn1⟩ := len_cons hn
          obtain ⟨v1, vs2, rfl, hn2⟩ := len_cons hn1
          obtain ⟨v2, vs3, rfl, hn3⟩ := len_cons hn2
          obtain ⟨v3, vs4, rfl, hn4⟩ := len_cons hn3
          obtain ⟨v4, vs5, rfl, hn5⟩ := len_cons hn4
          obtain ⟨v5, vs6, rfl, hn6⟩ := len_cons hn5
          obtain ⟨v6, vs7, rfl, hn7⟩ := len_cons hn6
          obtain ⟨v7, vs8, rfl, hn8⟩ := len_cons hn7
          obtain ⟨v8, vs9, rfl, hn9⟩ := len_cons hn8
          obtain ⟨v9, vs10, rfl, hn10⟩ := len_cons hn9
          obtain ⟨v10, vs11, rfl, hn11⟩ := len_cons hn10
          obtain ⟨v11, vs12, rfl, hn12⟩ := len_cons hn11
          obtain ⟨v12, vs13, rfl, hn13⟩ := len_cons hn12
          obtain rfl := List.eq_nil_of_length_eq_zero hn13
          clear hn hn1 hn2 hn3 hn4 hn5 hn6 hn7 hn8 hn9 hn10 hn11 hn12 hn13
          obtain rfl : v0 = .pointer (some ⟨w1.heap.size, 3, none⟩) := hT 0 v0 rfl (by kernel_rfl)
          obtain rfl : v1 = .slice va acc.length vc := hT 1 v1 rfl (by kernel_rfl)
          obtain rfl : v2 = .pointer (some ⟨wr.heap.size, 0, none⟩) := hT 2 v2 rfl (by kernel_rfl)
          obtain rfl : v3 = .int .i64 f := hT 3 v3 rfl (by kernel_rfl)
          obtain rfl : v4 = .agg #[.int .i64 1, .int .i64 f, .string ⟨#[]⟩, .slice none 0 0] := hT 4 v4 rfl (by kernel_rfl)
          obtain rfl : v5 = .pointer (some ⟨wr.heap.size, 1, none⟩) := hT 5 v5 rfl (by kernel_rfl)
          obtain rfl : v6 = .int .i64 l := hT 6 v6 rfl (by kernel_rfl)
          obtain rfl : v7 = .agg #[.int .i64 1, .int .i64 l, .string ⟨#[]⟩, .slice none 0 0] := hT 7 v7 rfl (by kernel_rfl)
          have t8 := Lib.hid (hT 8 v8 rfl (by kernel_rfl))
          have t9 := Lib.hid (hT 9 v9 rfl (by kernel_rfl))
          have t11 := Lib.hid (hT 11 v11 rfl (by kernel_rfl))
          obtain rfl : v12 = .pointer (some ⟨w1.heap.size, 3, none⟩) := hT 12 v12 rfl (by kernel_rfl)
          clear hT
          have hoL1 := opIs hoL (p := .store 40 (.tmp 32) (.tmp 31)) (by kernel_rfl)
          have hgL := guardIs hoL (p := none) (by kernel_rfl)
          have hdL : oL.dst = none := by have := (show ((regOf Tryd.f13 8)[13]?).map (·.dst) = some (none) by kernel_rfl); rw [hoL] at this; simpa using this
          rw [if_pos (wanted_free hgL)]
          rw [hdL] at hKL
          simp only [puts, Act.put, List.setIfInBounds_toArray, List.set_cons_succ, List.set_cons_zero] at hKL ⊢

          obtain ⟨hC9, -⟩ := hCw9
          obtain ⟨a3, c3, cells3, e11, hmade⟩ := t11.out
          subst e11
          have e3 := hmade.box.c3
          have k3 := hmade.box.free 3
          unfold Oper.wp
          rw [show (execOp _ oL).run Tryd.prog w9 = .ok .skip (w9.setCell ⟨w1.heap.size, 3, none⟩ (.slice a3 (acc.length + 1) c3)) by unfold execOp; simp only [hoL1]; simp [go_sem, e3, k3]]
          show KL (Act.put _ oL.dst undef) _
          rw [hdL]
          refine hKL undef _ ?_
          have HMK := Lib.hid hmade.store
          have HW9 := Lib.hid (hC9.1.setCell (p := ⟨w1.heap.size, 3, none⟩) hsz (.slice a3 (acc.length + 1) c3))
          clear e3 k3 hmade t11 t8 t9 hC9 hKL HM6 HW6 HA6
          generalize w9.setCell ⟨w1.heap.size, 3, none⟩ (.slice a3 (acc.length + 1) c3) = w10 at *
          go_wp2_with fail
          go_roundg (n - (i + 1))
          case rel => exact ⟨i + 1, _, a3, c3, cells3, hlt, rfl, by go_num, HMT, HMK, HW9⟩
          case measure => omega
        · have hl := ok_text hok.out ht
          dsimp only at hl
          have HOV : Hid (opV ⟨f, l, t⟩ = .mk 2 0 t []) := Lib.hid (by unfold opV; dsimp only; rw [if_neg (by omega)])
          rw [HOV.out] at HMT
          have p1 := isEmpty_no ht
          have p2 := eqNil_no ht
          have e3 := HM6.out.box.c3
          have k3 := HM6.out.box.free 3
          clear HOV hl ht
          go_wp2_with (at_builtin; refine Stop.go ?_)
          unfold Stop
          have hli := HLI.out
          have HV9 : Hid (V.At ((wr.alloc (.cells #[.int .i64 f, .int .i64 l, .string t] 32)).alloc (.cells #[.int .i64 2, .int .i64 0, .string t, .slice none 0 0] 42)) (fun b => wr.heap.size + 1 ≤ b ∧ b < wr.heap.size + 1) (.mk 2 0 t []) [.int .i64 2, .int .i64 0, .string t, .slice none 0 0]) := Lib.hid (by simp only [V.At]; exact ⟨none, 0, rfl, Nat.le_refl _, fun _ => rfl, by simp only [VAll]⟩)
          refine wpList_app4 _ rfl _ _ 40 rfl (w1.heap.size + 1) 42 i0 _ 56 underV HI.out HZ.out.1 HZ.out.2.1 HZ.out.2.2 rfl _ acc.length cells HM6.out.own rfl _ _ _ _ _ (wr.heap.size + 1) (by simp) rfl HV9.out.four.2 (by unfold maxLen; omega) (by omega) (by omega) ?_
          intro v3 w3 ho3 hg3 hs3 hob
          have HV8 := Lib.hid (show V.At (wr.alloc (.cells #[.int .i64 f, .int .i64 l, .string t] 32)) (fun b => wr.heap.size ≤ b ∧ b < (wr.alloc (.cells #[.int .i64 f, .int .i64 l, .string t] 32)).heap.size) (.mk 2 0 t []) [.int .i64 2, .int .i64 0, .string t, .slice none 0 0] by simp only [V.At]; exact ⟨none, 0, rfl, Nat.le_refl _, fun _ => rfl, by simp only [VAll]⟩)
          have hlt2 := HM6.out.own.lt
          have hrow3 := row_snoc HM6.out.own HM6.out.row HV8.out (by omega) (fun k hk => (HOL.out k hk).2) hg3 (hob.imp id fun e => ⟨_, e, by omega⟩)
          have hlen : (acc ++ [V.mk 2 0 t []]).length = acc.length + 1 := by simp
          rw [← hlen] at ho3
          obtain ⟨a3, c3, rfl, -⟩ := own_vals ho3 hrow3
          have HB3 : Hid (Four w3 w1.heap.size 42 (.int .i64 3) (.int .i64 0) (.string ⟨#[]⟩) (.slice va acc.length vc)) := Lib.hid (HM6.out.box.kept hg3 (fun e => by have := (hlt2 _ e.symm).1; omega))
          have HW3 := Lib.hid (HW6.out.grown hg3 HW6.out.size (fun k e => by have := (hlt2 k e).1; omega))
          rw [hlen] at ho3 hrow3
          have HMD : Hid (Made w1.heap.size acc (.mk 2 0 t []) va vc a3 c3 _ w3) := Lib.hid ⟨HB3.out, ho3, hrow3⟩
          clear e0 e1 e2 e3 k3 m2 p1 p2 ho3 hrow3 hg3 hob hlt2 hs3 HM6 HW6 HV8 HV9 HA6 hlen hli
          have e3 := HB3.out.c3
          have k3 := HB3.out.free 3
          go_wp2_with fail
          have HMK := Lib.hid HMD.out.store
          have HW9 := Lib.hid (HW3.out.setCell (p := ⟨w1.heap.size, 3, none⟩) hsz (.slice a3 (acc.length + 1) c3))
          go_roundg (n - (i + 1))
          case rel => exact ⟨i + 1, _, a3, c3, _, hlt, rfl, by go_num, HMT, HMK, HW9⟩
          case measure => omega
      · obtain rfl : i = n := by omega
        have hacc : d.map opV = acc := by rw [HACC.out, HND.out, List.take_length]
        have hmc := map_cnt d
        have hmr := map_inR hall.out
        have hmp := map_put hall.out
        rw [hacc] at hmc hmr hmp
        have HG3 : Hid (g = putGot (.mk 3 0 ⟨#[]⟩ acc)) := Lib.hid (by rw [← hacc]; exact HG2.out)
        clear hacc HACC HG2
        have HA := hM.out.at
        have hcnt : V.cnt (.mk 3 0 ⟨#[]⟩ acc) ≤ 4611686018427387904 := by
          rw [V.cnt]
          exact Nat.le_trans (Nat.add_le_add_left hmc 1) (by omega)
        have hinr : V.InR (.mk 3 0 ⟨#[]⟩ acc) := by simp only [V.InR]; exact ⟨by omega, hmr⟩
        have hpl : (putL (.mk 3 0 ⟨#[]⟩ acc)).length ≤ 140737488355328 := by
          rw [putL_three]
          simp
          omega
        have hput := Lib.hid (rput_any _ _ _ wr (fun b (hb : _ ∧ _) => hb.2) HA hcnt hinr hpl (HT.out _ hW.out) g HG3)
        have n0 := hM.out.box.c0
        have n1 := hM.out.box.c1
        have n2 := hM.out.box.c2
        have n3 := hM.out.box.c3
        clear HA hcnt hinr hpl hmc hmr hmp
        go_wp2_with fail
        refine hput.out.mono ?_
        rintro e w5 ⟨rfl, hb5⟩
        have HB5 := Lib.hid (hW.out.trans (Below.lower hb5 hW.out.size))
        clear hput hb5 n0 n1 n2 n3
        go_wp2_with fail
        go_ret2
        exact ⟨rfl, HB5.out⟩
end Go.Proofs.YtdlnabjledhiiaaDoor
