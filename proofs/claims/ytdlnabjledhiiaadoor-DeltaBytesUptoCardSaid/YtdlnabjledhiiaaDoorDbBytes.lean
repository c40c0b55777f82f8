/-
  The walk of delta.Bytes: the bytes of any delta, or why it is refused; as long as what is written has at most 2^47 bytes.
-/
import Derived.Test.YtdlnabjledhiiaaDoorDbP
import Derived.Test.YtdlnabjledhiiaaDoorDlWalkB
import Derived.Test.YtdlnabjledhiiaaDoorOpsRow
import Derived.Test.YtdlnabjledhiiaaDoorCvValue
import Derived.Test.YtdlnabjledhiiaaDoorPvPut
namespace Go.Proofs.YtdlnabjledhiiaaDoor
open Go.RowKit
set_option linter.unusedVariables false

/-- A list value in the making: its box at b4, its row made since. -/
structure Making (b4 : Nat) (acc : List V) (va : Option Addr) (vc : Nat) (cells : List Value) (w : World) : Prop where
  box : Four w b4 42 (.int .i64 3) (.int .i64 0) (.string ⟨#[]⟩) (.slice va acc.length vc)
  own : w.ownsRow (b4 + 1) 42 4 (.slice va acc.length vc) acc.length cells
  row : RowOf w (InRow (b4 + 1) (.slice va acc.length vc) w) acc cells
theorem grown_of_below {w w' : World} (h : Below w.heap.size w w') (row : Option Nat) : w.grownBy w' row := ⟨h.os, h.tape, h.output, h.size, fun k hk _ => h.block k hk⟩
theorem Making.under {b4 : Nat} {acc : List V} {va : Option Addr} {vc : Nat} {cells : List Value} {w w' : World} (h : Making b4 acc va vc cells w) (hb : Below w.heap.size w w') : Making b4 acc va vc cells w' := by
  have hlt := lt_of_block h.box
  refine ⟨(hb.block _ hlt).trans h.box, h.own.kept (grown_of_below hb none) (by cases hv : (Value.slice va acc.length vc).ownBlock <;> simp), ?_⟩
  exact h.row.move (fun b hb2 => ⟨hb2.1, Nat.lt_of_lt_of_le hb2.2.1 hb.size, hb2.2.2⟩) (fun b hb2 => hb.block b hb2.2.1)
theorem Making.start (b4 : Nat) (w : World) (h : Four w b4 42 (.int .i64 3) (.int .i64 0) (.string ⟨#[]⟩) (.slice none 0 0)) : Making b4 [] none 0 [] w := ⟨h, World.ownsRow_nil _ _ _ _, .nil⟩
/-- The list, as a value. -/
theorem Making.at {b4 : Nat} {acc : List V} {va : Option Addr} {vc : Nat} {cells : List Value} {w : World} (h : Making b4 acc va vc cells w) :
    V.At w (fun b => b4 + 1 ≤ b ∧ b < w.heap.size) (.mk 3 0 ⟨#[]⟩ acc) [.int .i64 3, .int .i64 0, .string ⟨#[]⟩, .slice va acc.length vc] := by
  obtain ⟨a, c, h3, h4, h5, h6⟩ := own_vals h.own h.row
  cases h3
  simp only [V.At]
  exact ⟨va, vc, rfl, h4, h5, h6⟩

theorem rightB_len {d : List DOp} (h : rightB d = true) : d.length ≤ 2000 := by
  unfold rightB at h
  rw [Bool.and_eq_true] at h
  simpa using h.1
theorem opV_cnt (o : DOp) : (opV o).cnt ≤ 3 := by
  unfold opV
  split <;> simp [V.cnt, cntAll]
theorem map_cnt : ∀ (d : List DOp), cntAll (d.map opV) ≤ 3 * d.length
  | [] => by simp [cntAll]
  | o :: r => by
    have := opV_cnt o
    have := map_cnt r
    simp only [List.map_cons, cntAll, List.length_cons]
    omega
theorem dec_len (N : Nat) (h : N < 10000000000000000000) : (Lib.decDigits N).length ≤ 19 := by
  have key : ∀ (k N : Nat), N < 10 ^ (k + 1) → (Lib.decDigits N).length ≤ k + 1 := by
    intro k
    induction k with
    | zero => intro N h; rw [Lib.decDigits, dif_pos (by simpa using h)]; simp
    | succ k ih =>
      intro N h
      by_cases h1 : N < 10
      · rw [Lib.decDigits, dif_pos h1]; simp
      · rw [Lib.decDigits, dif_neg h1, List.length_append]
        have := ih (N / 10) (by rw [Nat.pow_succ] at h; omega)
        simp; omega
  exact key 18 N (Nat.lt_of_lt_of_le h (by decide))
theorem itoa_len {n : Int} (h0 : -9223372036854775808 ≤ n) (h1 : n ≤ 9223372036854775807) : (Lib.itoa n).length ≤ 20 := by
  unfold Lib.itoa
  split
  · have := dec_len n.natAbs (by omega); simp; omega
  · have := dec_len n.toNat (by omega); omega
theorem opV_put {o : DOp} (h : o.ok = true) : (putL (opV o)).length ≤ 131200 := by
  unfold opV
  by_cases h0 : o.t.size = 0
  · have := ok_empty h h0
    rw [if_pos (by omega)]
    have := itoa_len (n := o.f) (by omega) (by omega)
    have := itoa_len (n := o.l) (by omega) (by omega)
    simp [putL, putAll]
    omega
  · have := ok_text h h0
    rw [if_neg (by omega)]
    have := itoa_len (n := (o.t.size : Int)) (by omega) (by omega)
    simp [putL]
    omega
theorem map_put : ∀ {d : List DOp}, (∀ o ∈ d, o.ok = true) → (putAll (d.map opV)).length ≤ 131200 * d.length
  | [], _ => by simp [putAll]
  | o :: r, h => by
    have h1 := opV_put (h o (List.mem_cons_self ..))
    have h2 := map_put fun x hx => h x (List.mem_cons_of_mem _ hx)
    simp only [List.map_cons, putAll, List.length_append, List.length_cons]
    omega

set_option maxRecDepth 20000 in
set_option maxHeartbeats 1000000 in
theorem dbytes_any (a : Option Addr) (n c : Nat) (d : List DOp) (w : World) (h : OpsSl w a n d) (hn : n ≤ 9223372036854775807) (htab : Lib.TabIs Tryd.prog w "internal/strconv.uint64pow10" .u64 Lib.pow10Tab) (g : ByteArray × Int) (hg : Hid (g = bytesGot d)) :
    Calls Tryd.prog 9 #[.slice a n c] w (fun e w' => e = .returned (.tuple #[.string g.1, .int .i64 g.2]) ∧ Below w.heap.size w w') := by
  have hrt := Lib.hid (dright_any a n c d w h hn (rightB d) (Lib.hid rfl))
  have H := Lib.hid h
  have HT := Lib.hid (Lib.tabBelow_of_tabIs htab)
  have HG := Lib.hid (show g = if rightB d = true then putGot (.mk 3 0 ⟨#[]⟩ (d.map opV)) else (⟨#[]⟩, 70) from hg.out)
  have HND := Lib.hid h.1
  clear h htab hg
  cases hr : rightB d with
  | false =>
    rw [hr] at hrt
    have HG2 : Hid (g = (⟨#[]⟩, 70)) := Lib.hid (by rw [HG.out, hr]; rfl)
    clear HG
    go_enter Tryd.func9, Tryd.ntmps9
    go_wp2_with fail
    refine hrt.out.mono ?_
    rintro e w1 ⟨rfl, hb⟩
    have HB := Lib.hid hb
    clear hb hrt
    go_wp2_with fail
    go_ret2
    exact ⟨by rw [HG2.out]; rfl, HB.out⟩
  | true =>
    rw [hr] at hrt
    have HG2 : Hid (g = putGot (.mk 3 0 ⟨#[]⟩ (d.map opV))) := Lib.hid (by rw [HG.out, hr]; rfl)
    have hall := Lib.hid (rightB_all hr)
    have hlen := rightB_len hr
    obtain ⟨i0, hi0, hz0, hz1, hz2⟩ := infoV
    have HI := Lib.hid hi0
    have HZ := Lib.hid (And.intro hz0 (And.intro hz1 hz2))
    clear HG hr hi0 hz0 hz1 hz2
    go_enter Tryd.func9, Tryd.ntmps9
    go_wp2_with fail
    refine hrt.out.mono ?_
    rintro e w1 ⟨rfl, hb⟩
    have HB2 := Lib.hid (hb.alloc hb.size (.cells #[.int .i64 3, .int .i64 0, .string ⟨#[]⟩, .slice none 0 0] 42))
    have HM2 := Lib.hid (Making.start w1.heap.size _ (Four.new w1 42 (.int .i64 3) (.int .i64 0) (.string ⟨#[]⟩) (.slice none 0 0)))
    have hsz := hb.size
    clear hb hrt
    go_wp2_with fail
    generalize (w1.alloc (.cells #[.int .i64 3, .int .i64 0, .string ⟨#[]⟩, .slice none 0 0] 42)) = w2 at *
    go_loopg [14] n (fun gk v wr => ∃ (i : Nat) (acc : List V) (va : Option Addr) (vc : Nat) (cells : List Value), i ≤ n ∧ gk = n - i ∧ v = .int .i64 (i : Int) ∧ Hid (acc = (d.take i).map opV) ∧ Hid (Making w1.heap.size acc va vc cells wr) ∧ Hid (Below w.heap.size w wr))
    case atStart => exact ⟨0, [], none, 0, [], Nat.zero_le _, rfl, rfl, Lib.hid rfl, HM2, HB2⟩
    case round =>
      clear HM2 HB2
      obtain ⟨i, acc, va, vc, cells, hi, rfl, rfl, HACC, hM, hW⟩ := hrel
      have HLI : Hid (acc.length = i) := Lib.hid (by rw [HACC.out, List.length_map, List.length_take]; have := HND.out; omega)
      by_cases hlt : i < n
      · have hlti : (i : Int) < (n : Int) := by omega
        have hid : i < d.length := by have := HND.out; omega
        obtain ⟨-, b, off, rfl, hcells⟩ := H.out.at (by omega)
        obtain ⟨c0, c1, c2⟩ := hcells i hid
        have e0 := cell_keep hW.out c0
        have e1 := cell_keep hW.out c1
        have e2 := cell_keep hW.out c2
        have hok := Lib.hid (hall.out d[i] (List.getElem_mem hid))
        have HMT : Hid (acc ++ [opV d[i]] = (d.take (i + 1)).map opV) := Lib.hid (by rw [HACC.out, List.take_add_one, List.getElem?_eq_getElem hid, List.map_append]; rfl)
        generalize d[i] = o at *
        obtain ⟨f, l, t⟩ := o
        dsimp only at e0 e1 e2
        have hA6 : (wr.alloc (.cells #[.int .i64 f, .int .i64 l, .string t] 32)).heap[wr.heap.size]? = some (.cells #[.int .i64 f, .int .i64 l, .string t] 32 (0, 0)) := heap_alloc_new wr _
        have hA7 : ((wr.alloc (.cells #[.int .i64 f, .int .i64 l, .string t] 32)).alloc (.cells #[.int .i64 2, .int .i64 0, .string t, .slice none 0 0] 42)).heap[wr.heap.size]? = some (.cells #[.int .i64 f, .int .i64 l, .string t] 32 (0, 0)) := (heap_alloc_old _ _ (lt_of_block hA6)).trans hA6
        have hF7 : Four ((wr.alloc (.cells #[.int .i64 f, .int .i64 l, .string t] 32)).alloc (.cells #[.int .i64 2, .int .i64 0, .string t, .slice none 0 0] 42)) (wr.heap.size + 1) 42 (.int .i64 2) (.int .i64 0) (.string t) (.slice none 0 0) := by
          have := Four.new (wr.alloc (.cells #[.int .i64 f, .int .i64 l, .string t] 32)) 42 (.int .i64 2) (.int .i64 0) (.string t) (.slice none 0 0)
          rwa [World.size_alloc] at this
        have k2 := (Lib.cell_of_heap hA6 2).trans (show _ = some (Value.string t) from rfl)
        have m0 := (Lib.cell_of_heap hA7 0).trans (show _ = some (Value.int .i64 f) from rfl)
        have m1 := (Lib.cell_of_heap hA7 1).trans (show _ = some (Value.int .i64 l) from rfl)
        have m2 := (Lib.cell_of_heap hA7 2).trans (show _ = some (Value.string t) from rfl)
        have HA7 := Lib.hid hA7
        have HF7 := Lib.hid hF7
        have HB7 := Lib.hid (((Below.refl wr.heap.size wr).alloc (Nat.le_refl _) (.cells #[.int .i64 f, .int .i64 l, .string t] 32)).alloc (by simp) (.cells #[.int .i64 2, .int .i64 0, .string t, .slice none 0 0] 42))
        clear hA6 hA7 hF7 hcells c0 c1 c2
        go_wp2_with fail
        refine (copies_is f l t _ (decide (0 < l)) (Lib.hid rfl)).mono ?_
        rintro e w8 ⟨rfl, hb8⟩
        have hs7 : ((wr.alloc (.cells #[.int .i64 f, .int .i64 l, .string t] 32)).alloc (.cells #[.int .i64 2, .int .i64 0, .string t, .slice none 0 0] 42)).heap.size = wr.heap.size + 2 := by simp
        have HA8 : Hid (w8.heap[wr.heap.size]? = some (.cells #[.int .i64 f, .int .i64 l, .string t] 32 (0, 0))) := Lib.hid ((hb8.block _ (by omega)).trans HA7.out)
        have HF8 : Hid (Four w8 (wr.heap.size + 1) 42 (.int .i64 2) (.int .i64 0) (.string t) (.slice none 0 0)) := Lib.hid ((hb8.block _ (by omega)).trans HF7.out)
        have HB8 := Lib.hid (HB7.out.trans (Below.lower hb8 (by omega)))
        have hs8 : wr.heap.size + 2 ≤ w8.heap.size := by have := hb8.size; omega
        clear HA7 HF7 HB7 hb8 k2 m0 m1 m2 e0 e1 e2 hs7
        go_upto_if 22 with fail
        go_cut [] (fun w' => ∃ (k' n' : Int) (s' : ByteArray) (a' : Option Addr) (m' c' : Nat), Hid (Four w' (wr.heap.size + 1) 42 (.int .i64 k') (.int .i64 n') (.string s') (.slice a' m' c')) ∧ Hid (V.At w' (fun b => wr.heap.size ≤ b ∧ b < w'.heap.size) (opV ⟨f, l, t⟩) [.int .i64 k', .int .i64 n', .string s', .slice a' m' c']) ∧ Hid (Below wr.heap.size wr w'))
        case first =>
          have m0 := (Lib.cell_of_heap HA8.out 0).trans (show _ = some (Value.int .i64 f) from rfl)
          have m1 := (Lib.cell_of_heap HA8.out 1).trans (show _ = some (Value.int .i64 l) from rfl)
          by_cases hl : 0 < l
          · have HOV : Hid (opV ⟨f, l, t⟩ = .mk 3 0 ⟨#[]⟩ [.mk 1 f ⟨#[]⟩ [], .mk 1 l ⟨#[]⟩ []]) := Lib.hid (by unfold opV; dsimp only; rw [if_pos hl])
            have HF9 := Lib.hid (HF8.out.alloc (.cells #[.int .i64 1, .int .i64 f, .string ⟨#[]⟩, .slice none 0 0, .int .i64 1, .int .i64 l, .string ⟨#[]⟩, .slice none 0 0] 42))
            have b0 := HF9.out.c0
            have b1 := HF9.out.c1
            have b2 := HF9.out.c2
            have b3 := HF9.out.c3
            have g0 := HF9.out.free 0
            have g1 := HF9.out.free 1
            have g2 := HF9.out.free 2
            have g3 := HF9.out.free 3
            have HN9 : Hid ((w8.alloc (.cells #[.int .i64 1, .int .i64 f, .string ⟨#[]⟩, .slice none 0 0, .int .i64 1, .int .i64 l, .string ⟨#[]⟩, .slice none 0 0] 42)).heap[w8.heap.size]? = some (.cells #[.int .i64 1, .int .i64 f, .string ⟨#[]⟩, .slice none 0 0, .int .i64 1, .int .i64 l, .string ⟨#[]⟩, .slice none 0 0] 42 (0, 0))) := Lib.hid (heap_alloc_new w8 _)
            have HB9 := Lib.hid (HB8.out.alloc (by omega) (.cells #[.int .i64 1, .int .i64 f, .string ⟨#[]⟩, .slice none 0 0, .int .i64 1, .int .i64 l, .string ⟨#[]⟩, .slice none 0 0] 42))
            go_wp2_with fail
            go_meet
            have HS9 : (w8.alloc (.cells #[.int .i64 1, .int .i64 f, .string ⟨#[]⟩, .slice none 0 0, .int .i64 1, .int .i64 l, .string ⟨#[]⟩, .slice none 0 0] 42)).heap.size = w8.heap.size + 1 := by simp
            clear b0 b1 b2 b3 g0 g1 g2 g3 m0 m1
            generalize (w8.alloc (.cells #[.int .i64 1, .int .i64 f, .string ⟨#[]⟩, .slice none 0 0, .int .i64 1, .int .i64 l, .string ⟨#[]⟩, .slice none 0 0] 42)) = w9 at *
            have hgf := grown_four w9 (wr.heap.size + 1) (.int .i64 3) (.int .i64 0) (.string ⟨#[]⟩) (.slice (some ⟨w8.heap.size, 0, none⟩) 2 2)
            have hF := HF9.out.all (.int .i64 3) (.int .i64 0) (.string ⟨#[]⟩) (.slice (some ⟨w8.heap.size, 0, none⟩) 2 2)
            generalize ((((w9.setCell ⟨wr.heap.size + 1, 0, none⟩ (.int .i64 3)).setCell ⟨wr.heap.size + 1, 1, none⟩ (.int .i64 0)).setCell ⟨wr.heap.size + 1, 2, none⟩ (.string ⟨#[]⟩)).setCell ⟨wr.heap.size + 1, 3, none⟩ (.slice (some ⟨w8.heap.size, 0, none⟩) 2 2)) = w10 at *
            have hh := (hgf.block w8.heap.size (by omega) (by simp; omega)).trans HN9.out
            have hs10 := hgf.size
            refine ⟨3, 0, ⟨#[]⟩, some ⟨w8.heap.size, 0, none⟩, 2, 2, Lib.hid hF, Lib.hid ?_, Lib.hid (HB9.out.grown hgf (by omega) (fun k e => by cases e; omega))⟩
            rw [HOV.out]
            simp only [V.At, VAll]
            refine ⟨some ⟨w8.heap.size, 0, none⟩, 2, rfl, Nat.le_refl _, (fun e => by cases e), ⟨w8.heap.size, 0, [.int .i64 1, .int .i64 f, .string ⟨#[]⟩, .slice none 0 0], rfl, ⟨by omega, by omega⟩, ⟨none, 0, rfl, Nat.le_refl _, fun _ => rfl, trivial⟩, fun j u hj => ?_⟩, ⟨w8.heap.size, 0, [.int .i64 1, .int .i64 l, .string ⟨#[]⟩, .slice none 0 0], rfl, ⟨by omega, by omega⟩, ⟨none, 0, rfl, Nat.le_refl _, fun _ => rfl, trivial⟩, fun j u hj => ?_⟩, trivial⟩
            · match j, hj with
              | 0, hj => exact (Lib.cell_of_heap hh _).trans hj
              | 1, hj => exact (Lib.cell_of_heap hh _).trans hj
              | 2, hj => exact (Lib.cell_of_heap hh _).trans hj
              | 3, hj => exact (Lib.cell_of_heap hh _).trans hj
            · match j, hj with
              | 0, hj => exact (Lib.cell_of_heap hh _).trans hj
              | 1, hj => exact (Lib.cell_of_heap hh _).trans hj
              | 2, hj => exact (Lib.cell_of_heap hh _).trans hj
              | 3, hj => exact (Lib.cell_of_heap hh _).trans hj
          · have HOV : Hid (opV ⟨f, l, t⟩ = .mk 2 0 t []) := Lib.hid (by unfold opV; dsimp only; rw [if_neg hl])
            have hl2 : l ≤ 0 := by omega
            clear hl
            go_wp2_with fail
            go_meet
            exact ⟨2, 0, t, none, 0, 0, HF8, Lib.hid (by rw [HOV.out]; simp only [V.At]; exact ⟨none, 0, rfl, Nat.le_refl _, fun _ => rfl, by simp only [VAll]⟩), HB8⟩
        case rest =>
          clear HA8 HF8 HB8 hs8
          obtain ⟨k', n', s', a', m', c', HF9, HV9, HB9⟩ := hcut
          have HM9 := Lib.hid (hM.out.under HB9.out)
          have HW9 := Lib.hid (hW.out.trans (Below.lower HB9.out hW.out.size))
          have e3 := HM9.out.box.c3
          have k3 := HM9.out.box.free 3
          have n0 := HF9.out.c0
          have n1 := HF9.out.c1
          have n2 := HF9.out.c2
          have n3 := HF9.out.c3
          have H4 := Lib.hid (HV9.out.four.2)
          go_wp2_with (at_builtin; refine Stop.go ?_)
          unfold Stop
          rename_i wx _
          have hli := HLI.out
          refine wpList_app4 _ rfl _ _ 40 rfl (w1.heap.size + 1) 42 i0 _ 56 underV HI.out HZ.out.1 HZ.out.2.1 HZ.out.2.2 rfl _ acc.length cells HM9.out.own rfl _ _ _ _ _ _ rfl rfl H4.out (by unfold maxLen; omega) (by omega) (by have := lt_of_block HM9.out.box; omega) ?_
          intro v3 w3 ho3 hg3 hs3 hob
          have hlt2 := HM9.out.own.lt
          have hbase := lt_of_block hM.out.box
          have hrow3 := row_snoc HM9.out.own HM9.out.row HV9.out (by omega) (fun k hk => (hM.out.own.lt k hk).2) hg3 (hob.imp id fun e => ⟨_, e, by omega⟩)
          have hlen : (acc ++ [opV ⟨f, l, t⟩]).length = acc.length + 1 := by simp
          rw [← hlen] at ho3
          obtain ⟨a3, c3, rfl, -⟩ := own_vals ho3 hrow3
          have HB3 : Hid (Four w3 w1.heap.size 42 (.int .i64 3) (.int .i64 0) (.string ⟨#[]⟩) (.slice va acc.length vc)) := Lib.hid (HM9.out.box.kept hg3 (fun e => by have := (hlt2 _ e.symm).1; omega))
          have HW3 := Lib.hid (HW9.out.grown hg3 (by have := HW9.out.size; omega) (fun k e => by have := (hlt2 k e).1; omega))
          rw [hlen] at ho3 hrow3
          have HLEN := Lib.hid hlen
          have HO3 := Lib.hid ho3
          have HRow3 := Lib.hid hrow3
          clear e3 k3 n0 n1 n2 n3 ho3 hrow3 hg3 hob hlt2 hs3 H4 HM9 HW9 HF9 HV9 HB9 hM hW hlen hli
          have e3 := HB3.out.c3
          have k3 := HB3.out.free 3
          go_wp2_with fail
          go_roundg (n - (i + 1))
          case rel =>
            have hg4 := grown_setCell w3 w1.heap.size 3 (.slice a3 (acc.length + 1) c3)
            obtain ⟨h5, h6⟩ := row_kept HO3.out HRow3.out hg4 (by omega)
            have HMK : Making w1.heap.size (acc ++ [opV ⟨f, l, t⟩]) a3 c3 (cells ++ [.int .i64 k', .int .i64 n', .string s', .slice a' m' c']) (w3.setCell ⟨w1.heap.size, 3, none⟩ (.slice a3 (acc.length + 1) c3)) := by
              refine ⟨?_, ?_, ?_⟩
              · rw [HLEN.out]; exact HB3.out.set3 _
              · rw [HLEN.out]; exact h5
              · rw [HLEN.out]; exact h6
            exact ⟨i + 1, acc ++ [opV ⟨f, l, t⟩], a3, c3, _, hlt, rfl, by go_num, HMT, Lib.hid HMK, Lib.hid (HW3.out.setCell (p := ⟨w1.heap.size, 3, none⟩) hsz _)⟩
          case measure => omega
      · obtain rfl : i = n := by omega
        have hacc : d.map opV = acc := by rw [HACC.out, HND.out, List.take_length]
        have hmc := map_cnt d
        have hmr := map_inR hall.out
        have hmp := map_put hall.out
        rw [hacc] at hmc hmr hmp
        have HG3 : Hid (g = putGot (.mk 3 0 ⟨#[]⟩ acc)) := Lib.hid (by rw [← hacc]; exact HG2.out)
        clear hacc HACC HG2
        have HA := hM.out.at
        have hcnt : V.cnt (.mk 3 0 ⟨#[]⟩ acc) ≤ 4611686018427387904 := by
          rw [V.cnt]
          exact Nat.le_trans (Nat.add_le_add_left hmc 1) (by omega)
        have hinr : V.InR (.mk 3 0 ⟨#[]⟩ acc) := by simp only [V.InR]; exact ⟨by omega, hmr⟩
        have hpl : (putL (.mk 3 0 ⟨#[]⟩ acc)).length ≤ 140737488355328 := by
          rw [putL_three]
          simp
          omega
        have hput := Lib.hid (put_any _ _ _ wr (fun b (hb : _ ∧ _) => hb.2) HA hcnt hinr hpl (HT.out _ hW.out) g HG3)
        have n0 := hM.out.box.c0
        have n1 := hM.out.box.c1
        have n2 := hM.out.box.c2
        have n3 := hM.out.box.c3
        clear HA hcnt hinr hpl hmc hmr hmp
        go_wp2_with fail
        refine hput.out.mono ?_
        rintro e w5 ⟨rfl, hb5⟩
        have HB5 := Lib.hid (hW.out.trans (Below.lower hb5 hW.out.size))
        clear hput hb5 n0 n1 n2 n3
        go_wp2_with fail
        go_ret2
        exact ⟨rfl, HB5.out⟩
end Go.Proofs.YtdlnabjledhiiaaDoor
