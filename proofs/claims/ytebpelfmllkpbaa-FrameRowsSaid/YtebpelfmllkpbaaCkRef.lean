/-
  The walks of the reference's Texts and Cuts: the same chunks and places, in slices of one's own; for texts of at most 20000 bytes.
-/
import Derived.Test.YtebpelfmllkpbaaCkTexts
import Derived.Test.YtebpelfmllkpbaaCkWalkA
namespace Go.Proofs.Ytebpelfmllkpbaa
open Go.RowKit
set_option linter.unusedVariables false

theorem reW_any (s : ByteArray) (w : World) (hs : s.size ≤ maxLen) (v : Int) (hv : Hid (v = W16 s.data.toList)) :
    Calls Try.prog 23 #[.string s] w fun e w' => e = .returned (.int .u32 v) ∧ w = w' := by
  rw [hv.out, W16, ← size_len]
  exact reWeight_any s w hs

theorem stopB_no (l : List UInt8) (n : Nat) (h1 : n < l.length) (h2 : n < 512) (h3 : ¬ (32 ≤ n ∧ W16 (l.take n) % 64 = 7)) : stopB l n = false := by
  have a : ¬ l.length ≤ n := by omega
  have b : ¬ 512 ≤ n := by omega
  simp only [stopB, decide_eq_false a, decide_eq_false b, Bool.false_or]
  simpa using h3
theorem stopB_yes (l : List UInt8) (n : Nat) (h : l.length ≤ n ∨ 512 ≤ n ∨ (32 ≤ n ∧ W16 (l.take n) % 64 = 7)) : stopB l n = true := by
  rcases h with h | h | ⟨h, h'⟩
  · simp [stopB, h]
  · simp [stopB, h]
  · simp [stopB, h, h']
theorem extract_head (t : ByteArray) (n : Nat) : t.extract 0 n = strOf (t.data.toList.take n) := by
  rw [extract_strOf]; simp
theorem extract_tail (t : ByteArray) (n : Nat) : t.extract n t.size = strOf (t.data.toList.drop n) := by
  rw [extract_strOf, List.take_of_length_le (by simp)]

/-- Behind n bytes of the text's rest. -/
structure RtI (l : List UInt8) (n : Nat) : Prop where
  one : 1 ≤ n
  le : n ≤ l.length
  le5 : n ≤ 512
  go : ∀ m, 1 ≤ m → m < n → stopB l m = false
theorem RtI.step {l : List UInt8} {n : Nat} (h : RtI l n) (h1 : n < l.length) (h2 : n < 512) (h3 : stopB l n = false) : RtI l (n + 1) :=
  ⟨by omega, by omega, by omega, fun m h4 h5 => by
    by_cases e : m = n
    · subst e; exact h3
    · exact h.go m h4 (by omega)⟩
theorem RtI.done {l : List UInt8} {n : Nat} (h : RtI l n) (hs : stopB l n = true) : chunkLen l = n := chunkLen_eq l n h.one hs h.go

/-- At the head of the reference's loop. -/
structure RtO (s : ByteArray) (B : Nat) (w wr : World) (r : List (List UInt8)) (k : Nat) (t : ByteArray) (v : Value) : Prop where
  cut : Cutting s.data.toList r k
  rest : t.data.toList = s.data.toList.drop k
  own : wr.ownsRow B 9 1 v r.length (strs (r.map strOf))
  bel : Below B w wr
  base : B ≤ wr.heap.size

theorem RtO.step {s : ByteArray} {B : Nat} {w wr w3 : World} {r : List (List UInt8)} {k j : Nat} {tt : ByteArray} {v v' : Value} {o : Obj} (h : RtO s B w wr r k tt v) (_hk : k ≤ s.size) (htt : tt.size = s.size - k) (hj : chunkLen (restOf s k) = j) (h0 : k < s.size)
    (hown : w3.ownsRow B 9 1 v' (r.length + 1) (strs (r.map strOf) ++ [.string (tt.extract 0 j)])) (hg : (wr.alloc o).grownBy w3 v.ownBlock) :
    RtO s B w w3 (r ++ [(restOf s k).take j]) (k + j) (tt.extract j tt.size) v' := by
  have hb := h.base
  refine ⟨?_, ?_, ?_, (h.bel.alloc (by omega) o).grown hg (by simp; omega) (fun b e => by have := h.own.lt b e; omega), by have := hg.size; simp at this; omega⟩
  · have := Cutting.step h.cut (show k < s.data.toList.length by simpa using h0)
    rw [show s.data.toList.drop k = restOf s k from rfl, hj] at this
    exact this
  · rw [extract_tail, strOf_list, h.rest, List.drop_drop]
  · rw [List.map_append, List.map_cons, List.map_nil, strs_snoc, List.length_append]
    have : tt.extract 0 j = strOf ((restOf s k).take j) := by rw [extract_head, h.rest]; rfl
    rw [← this]
    exact hown

set_option maxHeartbeats 2000000 in
set_option maxRecDepth 20000 in
theorem reTexts_any (s : ByteArray) (w : World) (hs : s.size ≤ 20000) (xs : List Value) (hxs : Hid (xs = strs (texts s))) :
    Calls Try.prog 29 #[.string s] w (RetSl w xs) := by
  obtain ⟨i0, hi, hz0, hz1, hz2⟩ := info_parts infoStr
  go_enter Try.func29, Try.ntmps29
  go_wp2_with fail
  go_loopg [0, 3, 4] s.size (fun gk t v n wr => ∃ (r : List (List UInt8)) (k : Nat) (tt : ByteArray), gk = s.size - k ∧ t = .string tt ∧ tt.size = s.size - k ∧ Hid (RtO s w.heap.size w wr r k tt v))
  case atStart => exact ⟨[], 0, s, rfl, rfl, rfl, Cutting.start, rfl, World.ownsRow_made w #[] 0 (Nat.le_refl _) (Nat.zero_le _) rfl, (Below.refl _ _).alloc (Nat.le_refl _) _, by simp⟩
  case round =>
    obtain ⟨r, k, tt, rfl, rfl, htt, hO⟩ := hrel
    have HTT := Lib.hid htt
    have HKL := Lib.hid (show k ≤ s.size by have := hO.out.cut.le; simpa using this)
    by_cases hlt : 0 < tt.size
    · have HS0 := hlt
      have htl : tt.size ≤ 20000 := by omega
      have hrl : Hid (tt.data.toList.length = tt.size) := Lib.hid (size_len tt).symm
      clear htt
      go_wp2_with fail
      go_loopg [4] (tt.size - 1) (fun gk n wx => wr = wx ∧ ∃ j : Nat, gk = tt.size - j ∧ n = .int .i64 j ∧ j ≤ tt.size ∧ 1 ≤ j ∧ j ≤ 512 ∧ Hid (RtI tt.data.toList j))
      case atStart => exact ⟨rfl, 1, by omega, rfl, by omega, by omega, by omega, ⟨Nat.le_refl _, by have := hrl.out; omega, by omega, fun m h1 h2 => by omega⟩⟩
      case round =>
        obtain ⟨rfl, j, rfl, rfl, hj, hj1, hj5, hI⟩ := hrel
        have hW := Lib.hid (W16_lo (tt.data.toList.take j))
        have hxe := Lib.hid (extract_head tt j)
        have hsz : Hid ((tt.extract 0 j).size ≤ maxLen) := Lib.hid (by have : (tt.extract 0 j).size ≤ tt.size := by simp; omega
                                                                       unfold maxLen; omega)
        have hstop : Hid (stopB tt.data.toList j = true) → Hid (chunkLen (restOf s k) = j) := fun h => by
          have := hI.out.done h.out
          rw [hO.out.rest] at this
          exact Lib.hid this
        by_cases d1 : j < tt.size
        · by_cases d2 : j < 512
          · by_cases d3 : 32 ≤ j
            · have hwv : ∀ w, Calls Try.prog 23 #[.string (tt.extract 0 j)] w fun e w' => e = .returned (.int .u32 (W16 (tt.data.toList.take j))) ∧ w = w' := fun w => reW_any _ w hsz.out _ (by rw [hxe.out]; rfl)
              have HWV := Lib.hid hwv
              have hW0 := hW.out
              by_cases d4 : W16 (tt.data.toList.take j) % 64 = 7
              · have HS := hstop (Lib.hid (stopB_yes _ _ (.inr (.inr ⟨d3, d4⟩))))
                clear hwv hstop
                generalize W16 (tt.data.toList.take j) = Wj at *
                have q : (Wj % 64 == 7) = true := beq_iff_eq.2 d4
                clear d4
                have hown := hO.out.own
                have hb63 : r.length + 1 ≤ maxLen := by have := hO.out.cut.count; have := HKL.out; unfold maxLen; omega
                have hb48 : (r.length + 1) * 16 ≤ 140737488355328 := by have := hO.out.cut.count; have := HKL.out; omega
                have hbase : w.heap.size ≤ (wr.alloc (.cells #[.string (tt.extract 0 j)] 9)).heap.size := by have := hO.out.base; simp; omega
                go_wp2_with (first | (go_at_call 23; refine (HWV.out _).mono ?_; rintro e w' ⟨rfl, rfl⟩) | (at_builtin; refine wpList_append_own _ rfl _ _ 31 rfl w.heap.size 9 i0 (.string ⟨#[]⟩) 1 16 Try.underlying31 hi hz0 hz1 hz2 rfl (by decide) _ _ _ rfl (hown.alloc _) ⟨wr.heap.size, 0, none⟩ 1 1 [.string (tt.extract 0 j)] rfl rfl (cell_one_new _ _ _) (by simp [Value.oneCell']) hb63 hb48 hbase ?_))
                intro v' w3 hown' hgrow _
                have HO2 := Lib.hid (hO.out.step (o := .cells #[.string (tt.extract 0 j)] 9) HKL.out HTT.out HS.out (by have := HS0; have := HTT.out; omega) hown' hgrow)
                clear hown' hgrow hown hb63 hb48 hbase
                go_wp2_with fail
                go_roundg (s.size - (k + j))
                case rel => exact ⟨_, k + j, tt.extract j tt.size, rfl, rfl, by have := HTT.out; simp; omega, HO2⟩
                case measure => have := HKL.out; have := HTT.out; omega
              · have HN := Lib.hid (hI.out.step (by have := hrl.out; omega) d2 (stopB_no _ _ (by have := hrl.out; omega) d2 (fun h => d4 h.2)))
                clear hwv hstop
                generalize W16 (tt.data.toList.take j) = Wj at *
                have q : (Wj % 64 == 7) = false := beq_eq_false_iff_ne.2 d4
                clear d4
                go_wp2_with (go_at_call 23; refine (HWV.out _).mono ?_; rintro e w' ⟨rfl, rfl⟩)
                go_roundg (tt.size - (j + 1))
                case rel => exact ⟨rfl, j + 1, rfl, by go_num, by omega, by omega, by omega, HN⟩
                case measure => omega
            · have HN := Lib.hid (hI.out.step (by have := hrl.out; omega) d2 (stopB_no _ _ (by have := hrl.out; omega) d2 (fun h => d3 h.1)))
              clear hstop
              go_wp2_with fail
              go_roundg (tt.size - (j + 1))
              case rel => exact ⟨rfl, j + 1, rfl, by go_num, by omega, by omega, by omega, HN⟩
              case measure => omega
          · have HS := hstop (Lib.hid (stopB_yes _ _ (.inr (.inl (by omega)))))
            clear hstop
            have hown := hO.out.own
            have hb63 : r.length + 1 ≤ maxLen := by have := hO.out.cut.count; have := HKL.out; unfold maxLen; omega
            have hb48 : (r.length + 1) * 16 ≤ 140737488355328 := by have := hO.out.cut.count; have := HKL.out; omega
            have hbase : w.heap.size ≤ (wr.alloc (.cells #[.string (tt.extract 0 j)] 9)).heap.size := by have := hO.out.base; simp; omega
            go_wp2_with (at_builtin; refine wpList_append_own _ rfl _ _ 31 rfl w.heap.size 9 i0 (.string ⟨#[]⟩) 1 16 Try.underlying31 hi hz0 hz1 hz2 rfl (by decide) _ _ _ rfl (hown.alloc _) ⟨wr.heap.size, 0, none⟩ 1 1 [.string (tt.extract 0 j)] rfl rfl (cell_one_new _ _ _) (by simp [Value.oneCell']) hb63 hb48 hbase ?_)
            intro v' w3 hown' hgrow _
            have HO2 := Lib.hid (hO.out.step (o := .cells #[.string (tt.extract 0 j)] 9) HKL.out HTT.out HS.out (by have := HS0; have := HTT.out; omega) hown' hgrow)
            clear hown' hgrow hown hb63 hb48 hbase
            go_wp2_with fail
            go_roundg (s.size - (k + j))
            case rel => exact ⟨_, k + j, tt.extract j tt.size, rfl, rfl, by have := HTT.out; simp; omega, HO2⟩
            case measure => have := HKL.out; have := HTT.out; omega
        · have HS := hstop (Lib.hid (stopB_yes _ _ (.inl (by have := hrl.out; omega))))
          clear hstop
          have hown := hO.out.own
          have hb63 : r.length + 1 ≤ maxLen := by have := hO.out.cut.count; have := HKL.out; unfold maxLen; omega
          have hb48 : (r.length + 1) * 16 ≤ 140737488355328 := by have := hO.out.cut.count; have := HKL.out; omega
          have hbase : w.heap.size ≤ (wr.alloc (.cells #[.string (tt.extract 0 j)] 9)).heap.size := by have := hO.out.base; simp; omega
          go_wp2_with (at_builtin; refine wpList_append_own _ rfl _ _ 31 rfl w.heap.size 9 i0 (.string ⟨#[]⟩) 1 16 Try.underlying31 hi hz0 hz1 hz2 rfl (by decide) _ _ _ rfl (hown.alloc _) ⟨wr.heap.size, 0, none⟩ 1 1 [.string (tt.extract 0 j)] rfl rfl (cell_one_new _ _ _) (by simp [Value.oneCell']) hb63 hb48 hbase ?_)
          intro v' w3 hown' hgrow _
          have HO2 := Lib.hid (hO.out.step (o := .cells #[.string (tt.extract 0 j)] 9) HKL.out HTT.out HS.out (by have := HS0; have := HTT.out; omega) hown' hgrow)
          clear hown' hgrow hown hb63 hb48 hbase
          go_wp2_with fail
          go_roundg (s.size - (k + j))
          case rel => exact ⟨_, k + j, tt.extract j tt.size, rfl, rfl, by have := HTT.out; simp; omega, HO2⟩
          case measure => have := HKL.out; have := HTT.out; omega
    · go_wp2_with fail
      go_ret
      have hall := hO.out.cut.done (by have := HTT.out; simp; omega)
      have hown := hO.out.own
      have hbe := hO.out.bel
      obtain ⟨a, n, c, hv, hsl, hfr, hnc⟩ := own_slice hown
      subst hv
      refine ⟨a, n, c, rfl, ?_, hbe, hfr, hnc⟩
      rw [hxs.out, texts, hall]
      exact hsl
end Go.Proofs.Ytebpelfmllkpbaa
