/-
  The walks of chunk.cutter and chunk.Cuts: the places of a text's cuts, in a slice of one's own; for texts of at most 20000 bytes.
-/
import Derived.Test.YtebpelfmllkpbaaCkCutter
import Derived.WalkSpells
import Derived.OwnWalk
import Derived.Test.YtebpelfmllkpbaaInfo
namespace Go.Proofs.Ytebpelfmllkpbaa
open Go.RowKit
set_option linter.unusedVariables false

theorem rp_16 : rp 16 = OUT16 := rfl

/-- What cutter leaves: the three captured variables. -/
structure CutterW (w w' : World) (B : Nat) (s : ByteArray) : Prop where
  bel : Below B w w'
  size : w'.heap.size = B + 3
  at0 : One w' (B + 2) 3 (.int .i64 0)
  text : One w' B 9 (.string s)
  out : One w' (B + 1) 22 (.int .u32 OUT16)

set_option maxHeartbeats 400000 in
theorem cutter_any (s : ByteArray) (w : World) (B : Nat) (hB : Hid (w.heap.size = B)) :
    Calls Try.prog 35 #[.string s] w fun e w' => e = .returned (.func (.func 41) #[] #[.pointer (some ⟨B + 2, 0, none⟩), .pointer (some ⟨B, 0, none⟩), .pointer (some ⟨B + 1, 0, none⟩)]) ∧ CutterW w w' B s := by
  have hB2 := hB.out
  subst hB2
  clear hB
  go_enter Try.func35, Try.ntmps35
  go_wp2
  go_loopg [5] 16 (fun gk i wr => ∃ k : Nat, k ≤ 16 ∧ gk = 16 - k ∧ i = .int .i64 k ∧ One wr (w.heap.size + 1) 22 (.int .u32 (rp k)) ∧ One wr w.heap.size 9 (.string s) ∧ wr.heap.size = w.heap.size + 2 ∧ Below w.heap.size w wr)
  case atStart => exact ⟨0, by omega, rfl, rfl, by have h := One.new (w.alloc (.cells #[.string s] 9)) 22 (.int .u32 1); rw [World.size_alloc] at h; exact h, (One.new w 9 (.string s)).alloc _, by simp, ((Below.refl _ _).alloc (Nat.le_refl _) _).alloc (by simp) _⟩
  case round =>
    obtain ⟨k, hk, rfl, rfl, h1, h2, h3, h4⟩ := hrel
    have H1 := Lib.hid h1
    have H2 := Lib.hid h2
    have H3 := Lib.hid h3
    have H4 := Lib.hid h4
    have hc := cell_of_one h1
    have hf := free_of_one h1
    clear h1 h2 h3 h4
    by_cases hlt : k < 16
    · go_wp2
      go_roundg (16 - (k + 1))
      case rel => exact ⟨k + 1, by omega, rfl, by go_num, by rw [rp_succ]; exact one_setCell H1.out, H2.out.other _ _ (by simp), by rw [World.size_setCell]; exact H3.out, H4.out.setCell (p := ⟨w.heap.size + 1, 0, none⟩) (by simp) _⟩
      case measure => omega
    · obtain rfl : k = 16 := by omega
      have h3 := H3.out
      go_wp2
      go_ret
      refine ⟨rfl, H4.out.alloc (by rw [H3.out]; omega) _, by rw [World.size_alloc, H3.out], ?_, H2.out.alloc _, by rw [← rp_16]; exact H1.out.alloc _⟩
      have h := One.new wr 3 (.int .i64 0)
      rw [H3.out] at h
      exact h


def natInts (l : List Nat) : List Int := l.map Int.ofNat
theorem natInts_snoc (l : List Nat) (n : Nat) : natInts (l ++ [n]) = natInts l ++ [(n : Int)] := by simp [natInts]
theorem natInts_length (l : List Nat) : (natInts l).length = l.length := by simp [natInts]

/-- At the head of Cuts' loop. -/
structure CutsI (s : ByteArray) (w : World) (B : Nat) (r : List (List UInt8)) (k : Nat) (v a : Value) (wr : World) : Prop where
  cut : Cutting s.data.toList r k
  own : wr.ownsRow (B + 3) 3 1 v r.length (i64s (natInts (places 0 r)))
  next : (k < s.size ∧ a = .int .i64 ((k + chunkLen (restOf s k) : Nat) : Int) ∧ One wr (B + 2) 3 (.int .i64 ((k + chunkLen (restOf s k) : Nat) : Int))) ∨ (s.size ≤ k ∧ a = .int .i64 (-1))
  text : One wr B 9 (.string s)
  out : One wr (B + 1) 22 (.int .u32 OUT16)
  bel : Below B w wr
  sz : B + 3 ≤ wr.heap.size
theorem rest_le (s : ByteArray) (k : Nat) (h : k < s.size) : k + chunkLen (restOf s k) ≤ s.size := by
  have := chunkLen_le (restOf s k) (by rw [restOf_length]; omega)
  rw [restOf_length] at this; omega
theorem rest_pos (s : ByteArray) (k : Nat) : 1 ≤ chunkLen (restOf s k) := (chunkLen_spec _).1

/-- What one call of the cutter makes, at the place k. -/
def NextP (s : ByteArray) (B k : Nat) (w : World) (e : Ending) (w' : World) : Prop :=
  ∃ a, e = .returned a ∧ ((k < s.size ∧ a = .int .i64 ((k + chunkLen (restOf s k) : Nat) : Int) ∧ One w' (B + 2) 3 (.int .i64 ((k + chunkLen (restOf s k) : Nat) : Int))) ∨ (s.size ≤ k ∧ a = .int .i64 (-1))) ∧ w.grownBy w' (some (B + 2))
theorem cutter_call (s : ByteArray) (B k : Nat) (w : World) (hs : s.size ≤ maxLen) (hk : k ≤ s.size) (h : One w (B + 2) 3 (.int .i64 k)) (hS : One w B 9 (.string s)) (hO : One w (B + 1) 22 (.int .u32 OUT16)) :
    Calls Try.prog 41 #[.pointer (some ⟨B + 2, 0, none⟩), .pointer (some ⟨B, 0, none⟩), .pointer (some ⟨B + 1, 0, none⟩)] w (NextP s B k w) := by
  by_cases hlt : k < s.size
  · refine (cutter_next s k (B + 2) B (B + 1) w hs (by omega) (by omega) hlt h (cell_of_one hS) (cell_of_one hO) _ rfl _ rfl).mono ?_
    rintro e w' ⟨rfl, hc⟩
    exact ⟨_, rfl, .inl ⟨hlt, rfl, hc.own⟩, hc.grown⟩
  · refine (cutter_end s k (B + 2) B (B + 1) w hs (by omega) (by unfold maxLen at hs; omega) h (cell_of_one hS)).mono ?_
    rintro e w' ⟨rfl, rfl⟩
    exact ⟨_, rfl, .inr ⟨by omega, rfl⟩, World.grownBy.refl _ _⟩
theorem grown_mono_below {B : Nat} {a w w' : World} (h : Below B a w) {b : Nat} (hg : w.grownBy w' (some b)) (hB : B ≤ w.heap.size) (hb : B ≤ b) : Below B a w' :=
  h.grown hg hB (fun k e => by cases e; exact hb)
/-- From what is owned and one call more: the loop's head again. -/
theorem CutsI.next' {s : ByteArray} {w w2 w3 : World} {B k : Nat} {r : List (List UInt8)} {v a : Value} (hc : Cutting s.data.toList r k)
    (own : w2.ownsRow (B + 3) 3 1 v r.length (i64s (natInts (places 0 r)))) (text : One w2 B 9 (.string s)) (out : One w2 (B + 1) 22 (.int .u32 OUT16)) (bel : Below B w w2) (sz : B + 3 ≤ w2.heap.size)
    (hn : (k < s.size ∧ a = .int .i64 ((k + chunkLen (restOf s k) : Nat) : Int) ∧ One w3 (B + 2) 3 (.int .i64 ((k + chunkLen (restOf s k) : Nat) : Int))) ∨ (s.size ≤ k ∧ a = .int .i64 (-1))) (hg : w2.grownBy w3 (some (B + 2))) :
    CutsI s w B r k v a w3 :=
  ⟨hc, own.kept hg (by
      cases hv : v.ownBlock with
      | none => exact .inl rfl
      | some g => right; intro e; have := own.lt g hv; simp at e; omega), hn, text.grown hg (by simp), out.grown hg (by simp), grown_mono_below bel hg (by omega) (by omega), Nat.le_trans sz hg.size⟩
theorem CutsI.round {s : ByteArray} {w wr w2 : World} {B k : Nat} {r : List (List UInt8)} {v v' : Value} {o : Obj} (own : wr.ownsRow (B + 3) 3 1 v r.length (i64s (natInts (places 0 r)))) (hat : One wr (B + 2) 3 (.int .i64 ((k + chunkLen (restOf s k) : Nat) : Int)))
    (hown : w2.ownsRow (B + 3) 3 1 v' (r.length + 1) (i64s (natInts (places 0 r)) ++ [.int .i64 ((k + chunkLen (restOf s k) : Nat) : Int)])) (hg : (wr.alloc o).grownBy w2 v.ownBlock) (hc : Cutting s.data.toList r k) (hk : k < s.size)
    (text : One wr B 9 (.string s)) (out : One wr (B + 1) 22 (.int .u32 OUT16)) (bel : Below B w wr) (sz : B + 3 ≤ wr.heap.size) :
    ∃ r2, Cutting s.data.toList r2 (k + chunkLen (restOf s k)) ∧ w2.ownsRow (B + 3) 3 1 v' r2.length (i64s (natInts (places 0 r2))) ∧ One w2 (B + 2) 3 (.int .i64 ((k + chunkLen (restOf s k) : Nat) : Int)) ∧
      One w2 B 9 (.string s) ∧ One w2 (B + 1) 22 (.int .u32 OUT16) ∧ Below B w w2 ∧ B + 3 ≤ w2.heap.size := by
  have hne : ∀ b, b < B + 3 → some b ≠ v.ownBlock := fun b hb e => by have := own.lt b e.symm; omega
  refine ⟨_, Cutting.step hc (by simpa using hk), ?_, (hat.alloc o).grown hg (hne _ (by omega)), (text.alloc o).grown hg (hne _ (by omega)), (out.alloc o).grown hg (hne _ (by omega)), ?_, ?_⟩
  · rw [places_snoc, natInts_snoc, i64s_snoc, List.length_append]
    have e : 0 + r.flatten.length + (List.take (chunkLen (List.drop k s.data.toList)) (List.drop k s.data.toList)).length = k + chunkLen (restOf s k) := by
      rw [hc.flatLen, List.length_take]
      have := rest_le s k hk
      rw [show List.drop k s.data.toList = restOf s k from rfl, restOf_length]; omega
    rw [e]
    exact hown
  · exact (bel.alloc (by omega) o).grown hg (by simp; omega) (fun b e => by have := own.lt b e; omega)
  · have := hg.size; simp at this; omega

set_option maxHeartbeats 1000000 in
theorem chCuts_any (s : ByteArray) (w : World) (hs : s.size ≤ 20000) (xs : List Value) (hxs : Hid (xs = i64s (natInts (cuts s.data.toList)))) :
    Calls Try.prog 26 #[.string s] w (RetSl w xs) := by
  obtain ⟨i0, hi, hz0, hz1, hz2⟩ := info_parts infoInt
  have hml0 : s.size ≤ maxLen := by unfold maxLen; omega
  have hml := Lib.hid hml0
  clear hml0
  obtain ⟨B, hB⟩ : ∃ B, w.heap.size = B := ⟨_, rfl⟩
  have HB := Lib.hid hB
  clear hB
  go_enter Try.func26, Try.ntmps26
  go_wp2_with fail
  refine (cutter_any s _ B HB).mono ?_
  rintro e w1 ⟨rfl, hcw⟩
  go_wp2_with fail
  refine (cutter_call s B 0 w1 hml.out (Nat.zero_le _) hcw.at0 hcw.text hcw.out).mono ?_
  rintro e w2 ⟨a, rfl, hn, hg⟩
  have hI := Lib.hid (CutsI.next' Cutting.start (World.ownsRow_nil w1 (B + 3) 3 1) hcw.text hcw.out hcw.bel (by rw [hcw.size]; omega) hn hg)
  clear hn hg hcw
  go_wp2_with fail
  go_loopg [3, 5] s.size (fun gk v a wr => ∃ (r : List (List UInt8)) (k : Nat), gk = s.size - k ∧ Hid (CutsI s w B r k v a wr))
  case atStart => exact ⟨[], 0, rfl, hI⟩
  case round =>
    obtain ⟨r, k, rfl, hC⟩ := hrel
    clear hI
    rcases hC.out.next with ⟨hk, rfl, hat⟩ | ⟨hk, rfl⟩
    · have hown := hC.out.own
      have hle := rest_le s k hk
      have hps := rest_pos s k
      have hcnt := hC.out.cut.count
      have hszB := hC.out.sz
      have HAT := Lib.hid hat
      have HOWN := Lib.hid hown
      clear hat
      have HK := Lib.hid hk
      have HLE := Lib.hid hle
      have HPS := Lib.hid hps
      obtain ⟨k2, hk2⟩ : ∃ k2, k2 = k + chunkLen (restOf s k) := ⟨_, rfl⟩
      rw [← hk2] at HAT HLE ⊢
      have HK2 := Lib.hid hk2
      clear hk2 hle hps
      go_wp2_with (at_builtin; refine wpList_append_own _ rfl _ _ 37 rfl (B + 3) 3 i0 (.int .i64 0) 1 8 Try.underlying37 hi hz0 hz1 hz2 rfl (by decide) _ _ _ rfl (hown.alloc _) ⟨wr.heap.size, 0, none⟩ 1 1 [.int .i64 (k2 : Int)] rfl rfl (cell_one_new _ _ _) (by simp [Value.oneCell']) ?c3 ?c4 ?c5 ?_)
      case c3 => unfold maxLen; omega
      case c4 => omega
      case c5 => simp; omega
      intro v' w3 hown' hgrow _
      obtain ⟨r2, hr1, hr2, hr3, hr4, hr5, hr6, hr7⟩ := CutsI.round (w := w) (o := .cells #[.int .i64 (k2 : Int)] 3) (s := s) (k := k) (r := r) HOWN.out (by rw [← HK2.out]; exact HAT.out) (by rw [← HK2.out]; exact hown') hgrow hC.out.cut HK.out hC.out.text hC.out.out hC.out.bel hC.out.sz
      rw [← HK2.out] at hr1 hr3
      have G1 := Lib.hid hr1
      have G2 := Lib.hid hr2
      have G3 := Lib.hid hr3
      have G4 := Lib.hid hr4
      have G5 := Lib.hid hr5
      have G6 := Lib.hid hr6
      have G7 := Lib.hid hr7
      clear hr1 hr2 hr3 hr4 hr5 hr6 hr7 hown' hgrow hown
      go_wp2_with fail
      refine (cutter_call s B k2 _ hml.out HLE.out G3.out G4.out G5.out).mono ?_
      rintro e w4 ⟨a, rfl, hn, hg⟩
      have hI := Lib.hid (CutsI.next' G1.out G2.out G4.out G5.out G6.out G7.out hn hg)
      clear hn hg
      go_wp2_with fail
      go_roundg (s.size - k2)
      case rel => exact ⟨r2, k2, rfl, hI⟩
      case measure => have := HK2.out; have := HPS.out; have := HK.out; omega
    · go_wp2_with fail
      have hown := hC.out.own
      go_ret
      have hd := hC.out.cut.done (by simpa using hk)
      obtain ⟨a, n, c, hv, hsl, hfr, hnc⟩ := own_slice hown
      subst hv
      refine ⟨a, n, c, rfl, ?_, by rw [HB.out]; exact hC.out.bel, fun x hx => by have := hfr x hx; rw [HB.out]; omega, hnc⟩
      rw [hxs.out, cuts, hd]
      exact hsl
end Go.Proofs.Ytebpelfmllkpbaa
