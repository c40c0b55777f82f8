/-
  The walks of strings.Builder's copyCheck, WriteByte and WriteString over a builder that the call has made itself; as long as what is gathered has at most 2^47 bytes. (The shelf's own do not lay at this seat; these follow its steps.)
-/
import Derived.Test.YtdlnabjledhiiaaDoorMem
import Derived.Test.YtdlnabjledhiiaaDoorRows
import Derived.Lib.Builder
import Derived.Laws.Externs
import Derived.Lib.AppendStr
import Derived.Lib.FrozenHead2
import Derived.Lib.OthersKept
namespace Go.Proofs.YtdlnabjledhiiaaDoor
open Go.RowKit
set_option linter.unusedVariables false

theorem infoByte : (Tryd.prog.info? 5).map (fun i => (i.zero, i.size, i.bytes)) = some (some (.int .u8 0), 1, 1) := by kernel_rfl
theorem sizeBd : (Tryd.prog.info? 61).map (fun i => i.size) = some 2 := by kernel_rfl

set_option maxHeartbeats 1000000 in
set_option maxRecDepth 100000 in
theorem bdCheck_used (b : Nat) (w : World) (h0 : w.cell? ⟨b, 0, none⟩ = some (.pointer (some ⟨b, 0, none⟩))) :
    Calls Tryd.prog 52 #[.pointer (some ⟨b, 0, none⟩)] w fun e w' => e = .returned (.tuple #[]) ∧ w' = w := by
  obtain ⟨j, hj, _⟩ := Option.map_eq_some_iff.1 sizeBd
  have hsame := Lib.hid (Lib.run_neq_ptr_same w ⟨b, 0, none⟩ Tryd.underlying59 hj)
  go_enter Tryd.func52, Tryd.ntmps52
  go_wp2
  rw [hsame.out]
  go_wp2
  go_end0
  exact ⟨rfl, rfl⟩

theorem liesBd : liesAt Tryd.prog Tryd.prog.depth 61 (2 / Tryd.prog.cellsOf 61) 0 61 1 = true := by kernel_rfl

set_option maxHeartbeats 1000000 in
set_option maxRecDepth 100000 in
theorem bdCheck_new (b : Nat) (w : World) (h0 : w.cell? ⟨b, 0, none⟩ = some (.pointer none)) (hsh : w.shape? b = some (61, 2)) (hfz : w.frozen? ⟨b, 0, none⟩ = false) :
    Calls Tryd.prog 52 #[.pointer (some ⟨b, 0, none⟩)] w fun e w' => e = .returned (.tuple #[]) ∧ w' = w.setCell ⟨b, 0, none⟩ (.pointer (some ⟨b, 0, none⟩)) := by
  obtain ⟨j, hj, hjs⟩ := Option.map_eq_some_iff.1 sizeBd
  have to := Lib.hid (Lib.run_to_unsafe w ⟨b, 0, none⟩ Tryd.underlying59 Tryd.underlying92 hj (by rw [hjs]; decide) hsh (Nat.zero_lt_succ 1))
  have from_ := Lib.hid (Lib.run_from_unsafe w ⟨b, 0, none⟩ Tryd.underlying92 Tryd.underlying59 hj hsh liesBd)
  go_enter Tryd.func52, Tryd.ntmps52
  go_wp2
  rw [to.out, Result.andThen_ok, Oper.upon_value]
  go_wp2
  rw [run_callFunc_extern Tryd.func66 (by kernel_rfl) (by kernel_rfl) (by kernel_rfl) (e := Extern.AbiNoEscape.same) (by kernel_rfl), Lib.run_noEscape]
  simp only [Result.andThen_ok]
  rw [Oper.upon_value]
  go_wp2
  rw [from_.out, Result.andThen_ok, Oper.upon_value]
  go_wp2
  go_end0
  exact ⟨rfl, rfl⟩

/-- The builder at b, from the block B on, holds these bytes. -/
abbrev Bd (B b : Nat) (bs : List Value) (w : World) : Prop := Lib.IsBuilderF 61 5 B b bs w
/-- What a write to the builder leaves alone. -/
abbrev BdKept (b : Nat) (w w' : World) : Prop := Lib.OthersKept 5 (some b) w w'
theorem bdCheck_any (B b : Nat) (bs : List Value) (w : World) (h : Bd B b bs w) :
    Calls Tryd.prog 52 #[.pointer (some ⟨b, 0, none⟩)] w fun e w' => e = .returned (.tuple #[]) ∧ Lib.BuilderAtF 61 5 B b (.pointer (some ⟨b, 0, none⟩)) bs w' ∧ Below B w w' ∧ BdKept b w w' := by
  rcases h with h | h
  · refine (bdCheck_new b w h.cell0 h.shape h.frozen0).mono ?_
    rintro e w' ⟨rfl, rfl⟩
    exact ⟨rfl, h.used _, (Below.refl B w).setCell (p := ⟨b, 0, none⟩) h.1 _, (Lib.OthersKept.refl _ _ w).setCell ⟨b, 0, none⟩ rfl _⟩
  · refine (bdCheck_used b w h.cell0).mono ?_
    rintro e w' ⟨rfl, rfl⟩
    exact ⟨rfl, h, Below.refl B _, Lib.OthersKept.refl _ _ _⟩

set_option maxHeartbeats 2000000 in
set_option maxRecDepth 100000 in
theorem bdByte_any (B b : Nat) (bs : List Value) (c : Int) (w : World) (h : Bd B b bs w) (hlen : bs.length + 1 ≤ 140737488355328) (hBw : B ≤ w.heap.size) :
    Calls Tryd.prog 40 #[.pointer (some ⟨b, 0, none⟩), .int .u8 c] w fun e w' => e = .returned .nilIface ∧ Bd B b (bs ++ [.int .u8 c]) w' ∧ Below B w w' ∧ BdKept b w w' := by
  obtain ⟨i0, hi, hz0, hz1, hz2⟩ := info_parts infoByte
  have hck := Lib.hid (bdCheck_any B b bs w h)
  clear h
  go_enter Tryd.func40, Tryd.ntmps40
  go_wp2_with fail
  refine hck.out.mono ?_
  rintro e w1 ⟨rfl, ⟨hB, v, hbk, hown, hne⟩, hb1, hk1⟩
  have c0 : w1.cell? ⟨b, 0, none⟩ = some (.pointer (some ⟨b, 0, none⟩)) := by rw [Lib.cell_of_heap hbk]; rfl
  have c1 : w1.cell? ⟨b, 1, none⟩ = some v := by rw [Lib.cell_of_heap hbk]; rfl
  have HBK := Lib.hid hbk
  have HO := Lib.hid hown
  have HN := Lib.hid hne
  have HB1 := Lib.hid hb1
  have HK1 := Lib.hid hk1
  clear hbk hown hne hb1 hk1
  go_wp2_with (at_builtin; refine wpList_append_ownF _ rfl _ _ 51 rfl B 5 i0 (.int .u8 0) 1 1 Tryd.underlying51 hi hz0 hz1 hz2 rfl (by decide) _ _ _ rfl (HO.out.alloc _) ⟨w1.heap.size, 0, none⟩ 1 1 [.int .u8 c] rfl rfl ?c1 ?c2 ?c3 ?c4 ?c5 ?_)
  case c1 =>
    intro j u hj
    match j, hj with
    | 0, hj => simp at hj; subst hj; simp [Addr.add]
  case c2 => intro u hu; simp at hu; subst hu; rfl
  case c3 => unfold maxLen; omega
  case c4 => omega
  case c5 => have := HB1.out.size; simp; omega
  intro v' w2 hown' hgrow _
  have hbk := HBK.out
  have hlt : b < w1.heap.size := lt_of_block hbk
  have hb2 : w2.heap[b]? = some (.cells #[.pointer (some ⟨b, 0, none⟩), v] 61 (0, 0)) := by
    rw [hgrow.block b (by simp; omega) (fun e => HN.out e.symm), Lib.alloc_old w1 _ b hlt]
    exact hbk
  have d0 : w2.cell? ⟨b, 0, none⟩ = some (.pointer (some ⟨b, 0, none⟩)) := by rw [Lib.cell_of_heap hb2]; rfl
  have d1 : w2.cell? ⟨b, 1, none⟩ = some v := by rw [Lib.cell_of_heap hb2]; rfl
  have f1 : w2.frozen? ⟨b, 1, none⟩ = false := Lib.frozen_of_heap hb2 1
  have HB2 := Lib.hid hb2
  have HO' := Lib.hid hown'
  have HK2 := Lib.hid (((HK1.out.alloc (.cells #[.int .u8 c] 5)).grown hgrow (Lib.ownsRowF_kind (HO.out.alloc _))))
  have HG := Lib.hid (((HB1.out.alloc (by have := HB1.out.size; omega) (.cells #[.int .u8 c] 5)).grown hgrow (by have := HB1.out.size; simp; omega) (fun k hk => (HO.out.lt k hk).1)))
  obtain ⟨ao, n', cap, rfl⟩ : ∃ ao n' cap, v' = .slice ao n' cap := by
    rcases hown'.2 with ⟨hv, _⟩ | ⟨g, cap, cur, fz, hv, _⟩
    · exact ⟨_, _, _, hv⟩
    · exact ⟨_, _, _, hv⟩
  clear hb2 hown' hgrow hbk
  go_wp2
  go_ret
  refine ⟨rfl, .inr ?_, ?_, ?_⟩
  · exact Lib.BuilderAtF.put (T := 61) (e := 5) hB HB2.out (bs' := bs ++ [.int .u8 c]) (by have := HO'.out; simpa using this) (by decide)
  · exact HG.out.setCell (p := ⟨b, 1, none⟩) hB _
  · exact HK2.out.setCell ⟨b, 1, none⟩ rfl _

set_option maxHeartbeats 2000000 in
set_option maxRecDepth 100000 in
theorem bdWrite_any (B b : Nat) (bs : List Value) (s : ByteArray) (w : World) (h : Bd B b bs w) (hlen : bs.length + s.size ≤ 140737488355328) (hBw : B ≤ w.heap.size) :
    Calls Tryd.prog 37 #[.pointer (some ⟨b, 0, none⟩), .string s] w fun e w' => e = .returned (.tuple #[.int .i64 s.size, .nilIface]) ∧ Bd B b (bs ++ Lib.strCells s) w' ∧ Below B w w' ∧ BdKept b w w' := by
  obtain ⟨i0, hi, hz0, hz1, hz2⟩ := info_parts infoByte
  have hck := Lib.hid (bdCheck_any B b bs w h)
  clear h
  go_enter Tryd.func37, Tryd.ntmps37
  go_wp2_with fail
  refine hck.out.mono ?_
  rintro e w1 ⟨rfl, ⟨hB, v, hbk, hown, hne⟩, hb1, hk1⟩
  have hsz := hb1.size
  have k0 : w1.cell? ⟨b, 0, none⟩ = some (.pointer (some ⟨b, 0, none⟩)) := by rw [Lib.cell_of_heap hbk]; rfl
  have k1 : w1.cell? ⟨b, 1, none⟩ = some v := by rw [Lib.cell_of_heap hbk]; rfl
  have HBK := Lib.hid hbk
  have HO := Lib.hid hown
  have HN := Lib.hid hne
  have HB1 := Lib.hid hb1
  have HK1 := Lib.hid hk1
  clear hbk hown hne hb1 hk1
  go_wp2_with (at_builtin; refine Lib.wpList_append_own_stringF _ rfl _ _ 51 9 rfl B 5 i0 Tryd.underlying51 Tryd.underlying9 hi hz0 hz1 hz2 _ _ _ rfl HO.out s rfl ?c3 ?c4 ?c5 ?_)
  case c3 => unfold maxLen; omega
  case c4 => omega
  case c5 => omega
  intro v' w2 hown' hgrow _
  have hblk : w2.heap[b]? = some (.cells #[.pointer (some ⟨b, 0, none⟩), v] 61 (0, 0)) := by
    rw [hgrow.block b (lt_of_block HBK.out) (fun e => HN.out e.symm)]
    exact HBK.out
  have d0 : w2.cell? ⟨b, 0, none⟩ = some (.pointer (some ⟨b, 0, none⟩)) := by rw [Lib.cell_of_heap hblk]; rfl
  have d1 : w2.cell? ⟨b, 1, none⟩ = some v := by rw [Lib.cell_of_heap hblk]; rfl
  have f1 : w2.frozen? ⟨b, 1, none⟩ = false := Lib.frozen_of_heap hblk 1
  have HBL := Lib.hid hblk
  have HO' := Lib.hid hown'
  have HK2 := Lib.hid (HK1.out.grown hgrow (Lib.ownsRowF_kind HO.out))
  have HG := Lib.hid (HB1.out.grown hgrow (by omega) (fun k hk => (HO.out.lt k hk).1))
  obtain ⟨ao, n', cap, rfl⟩ : ∃ ao n' cap, v' = .slice ao n' cap := by
    rcases hown'.2 with ⟨hv, _⟩ | ⟨g, cap, cur, fz, hv, _⟩
    · exact ⟨_, _, _, hv⟩
    · exact ⟨_, _, _, hv⟩
  clear hblk hown' hgrow
  go_wp2
  go_ret2
  refine ⟨rfl, .inr ?_, ?_, ?_⟩
  · exact Lib.BuilderAtF.put (T := 61) (e := 5) hB HBL.out (bs' := bs ++ Lib.strCells s) (by have := HO'.out; simpa [Lib.strCells_length] using this) (by decide)
  · exact HG.out.setCell (p := ⟨b, 1, none⟩) hB _
  · exact HK2.out.setCell ⟨b, 1, none⟩ rfl _
end Go.Proofs.YtdlnabjledhiiaaDoor
