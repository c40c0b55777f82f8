/-
  The walk of the reference's Words: the words of any line of less than 2^32 - 15 bytes; new blocks alone are made.
-/
import Derived.Test.YtdlnabjledhiiaaDoorSwLine
import Derived.Test.YtdlnabjledhiiaaDoorSrc
import Derived.Lib.UnsafeStr
namespace Go.Proofs.YtdlnabjledhiiaaDoor
open Go.RowKit
set_option linter.unusedVariables false

theorem conv_own {P : Program} (w : World) (src dst e : TypeId) (base : Nat) (v : Value) (l : List UInt8) (n : Nat) (hs : P.underlying src = some (.slice e)) (he : P.underlying e = some (.int .u8)) (hd : P.underlying dst = some .string)
    (h : w.ownsRow base e 1 v n (Lib.byteCells l)) (hne : v ≠ .slice none 0 0) : (convert src dst v).run P w = .ok (.string (strOf l)) w := by
  rcases h.2 with ⟨hv, _⟩ | ⟨g, cap, cur, rfl, _⟩
  · exact absurd hv hne
  · have hn : n = l.length := by have := h.1; rw [Lib.byteCells_length] at this; omega
    subst hn
    refine run_convert_bytes_back w src dst e ⟨g, 0, none⟩ cap l hs he hd fun j hj => ?_
    have := h.cells (g := g) rfl j (.int .u8 (l[j].toNat : Int)) (by simp [Lib.byteCells, hj])
    exact this

/-- What a round of the reference's loop keeps. -/
structure WdI (s : ByteArray) (w0 wr : World) (outs : List ByteArray) (bs : List UInt8) (k : Nat) (v4 v5 : Value) : Prop where
  own4 : wr.ownsRow w0.heap.size 9 1 v4 outs.length (strs outs)
  own5 : wr.ownsRow w0.heap.size 5 1 v5 bs.length (Lib.byteCells bs)
  ne : v5 ≠ .slice none 0 0
  apart : ∀ g h, v4.ownBlock = some g → v5.ownBlock = some h → g ≠ h
  bel : Below w0.heap.size w0 wr
  le : outs.length ≤ 5
  lb : bs.length ≤ k
  says : outs ++ (wordsL (5 - outs.length) bs (s.data.toList.drop k)).map strOf = wordsB s

theorem made (w : World) (base : Nat) (e : TypeId) (h : base ≤ w.heap.size) : (w.alloc (.cells #[] e)).ownsRow base e 1 (.slice (some ⟨w.heap.size, 0, none⟩) 0 0) 0 [] := by
  have := World.ownsRow_made (e := e) (size := 1) w #[] 0 (Nat.le_refl _) (Nat.zero_le _) rfl
  exact ⟨this.1, this.2.imp id (fun ⟨g, cap, cur, e1, hb, r⟩ => ⟨g, cap, cur, e1, Nat.le_trans h hb, r⟩)⟩

theorem WdI.start (s : ByteArray) (w : World) : WdI s w ((w.alloc (.cells #[] 9)).alloc (.cells #[] 5)) [] [] 0 (.slice (some ⟨w.heap.size, 0, none⟩) 0 0) (.slice (some ⟨w.heap.size + 1, 0, none⟩) 0 0) := by
  have h1 := made (w.alloc (.cells #[] 9)) w.heap.size 5 (by simp)
  rw [World.size_alloc] at h1
  refine ⟨(made w w.heap.size 9 (Nat.le_refl _)).alloc _, h1, by simp, ?_, ?_, Nat.zero_le _, Nat.le_refl _, rfl⟩
  · intro g h e1 e2
    simp [Value.ownBlock] at e1 e2
    omega
  · exact ((Below.refl _ _).alloc (Nat.le_refl _) _).alloc (by simp) _
theorem words_at {s : ByteArray} {k : Nat} (h : k < s.size) : s.data.toList.drop k = s[k] :: s.data.toList.drop (k + 1) :=
  List.drop_eq_getElem_cons (by simpa using h)

theorem WdI.cut {s : ByteArray} {w0 wr w3 : World} {outs : List ByteArray} {bs : List UInt8} {k : Nat} {v4 v5 v' : Value} (h : WdI s w0 wr outs bs k v4 v5) (hk : k < s.size) (h5 : outs.length < 5) (hc : s[k] = 32)
    (hown : w3.ownsRow w0.heap.size 9 1 v' (outs.length + 1) (strs outs ++ [.string (strOf bs)])) (hg : wr.grownBy w3 v4.ownBlock) (hb : v'.ownBlock = v4.ownBlock ∨ v'.ownBlock = some (wr.heap.size + 1)) :
    WdI s w0 (w3.alloc (.cells #[] 5)) (outs ++ [strOf bs]) [] (k + 1) v' (.slice (some ⟨w3.heap.size, 0, none⟩) 0 0) := by
  have hb3 : Below w0.heap.size w0 w3 := h.bel.grown hg h.bel.size (fun x e => (h.own4.lt x e).1)
  have hlt : ∀ g, v'.ownBlock = some g → g < w3.heap.size := fun g e => (hown.lt g e).2
  refine ⟨?_, made w3 w0.heap.size 5 hb3.size, by simp, ?_, hb3.alloc hb3.size _, ?_, Nat.zero_le _, ?_⟩
  · have := hown.alloc (.cells #[] 5)
    rw [strs_snoc, List.length_append]
    exact this
  · intro g h e1 e2
    simp [Value.ownBlock] at e2
    have := hlt g e1
    omega
  · rw [List.length_append]; simp; omega
  · have hs := h.says
    rw [words_at hk, wordsL, if_pos ⟨hc, by omega⟩] at hs
    rw [List.map_cons] at hs
    rw [List.length_append, List.append_assoc]
    exact hs

theorem WdI.byte {s : ByteArray} {w0 wr w3 : World} {outs : List ByteArray} {bs : List UInt8} {k : Nat} {v4 v5 v' : Value} (h : WdI s w0 wr outs bs k v4 v5) (hk : k < s.size) (hc : ¬ (s[k] = 32 ∧ outs.length < 5))
    (hown : w3.ownsRow w0.heap.size 5 1 v' (bs.length + 1) (Lib.byteCells bs ++ [.int .u8 (s[k].toNat : Int)])) (hg : wr.grownBy w3 v5.ownBlock) (hb : v'.ownBlock = v5.ownBlock ∨ v'.ownBlock = some (wr.heap.size + 1)) :
    WdI s w0 w3 outs (bs ++ [s[k]]) (k + 1) v4 v' := by
  have hb3 : Below w0.heap.size w0 w3 := h.bel.grown hg h.bel.size (fun x e => (h.own5.lt x e).1)
  have hlt : ∀ g, v4.ownBlock = some g → g < wr.heap.size := fun g e => (h.own4.lt g e).2
  have hne : v4.ownBlock = none ∨ v4.ownBlock ≠ v5.ownBlock := by
    cases e4 : v4.ownBlock with
    | none => exact .inl rfl
    | some g => exact .inr (fun e => h.apart g g e4 e.symm rfl)
  refine ⟨h.own4.kept hg hne, ?_, ?_, ?_, hb3, h.le, ?_, ?_⟩
  · rw [Lib.byteCells_append, List.length_append]
    exact hown
  · rintro rfl
    rcases hown.2 with ⟨_, e⟩ | ⟨g, cap, cur, e, _⟩
    · exact absurd e (Nat.succ_ne_zero _)
    · cases e
  · intro g g' e1 e2
    rcases hb with hb | hb
    · rw [hb] at e2; exact h.apart g g' e1 e2
    · rw [hb] at e2; cases e2
      have := hlt g e1
      omega
  · rw [List.length_append]; have := h.lb; simp; omega
  · have hs := h.says
    rw [words_at hk, wordsL, if_neg (fun e => hc ⟨e.1, by omega⟩)] at hs
    exact hs

theorem WdI.stop {s : ByteArray} {w0 wr w3 : World} {outs : List ByteArray} {bs : List UInt8} {k : Nat} {v4 v5 v' : Value} (h : WdI s w0 wr outs bs k v4 v5) (hk : ¬ k < s.size)
    (hown : w3.ownsRow w0.heap.size 9 1 v' (outs.length + 1) (strs outs ++ [.string (strOf bs)])) (hg : wr.grownBy w3 v4.ownBlock) :
    ∃ a n c, v' = .slice a n c ∧ SlAt w3 a n (strs (wordsB s)) ∧ Below w0.heap.size w0 w3 := by
  have hb3 : Below w0.heap.size w0 w3 := h.bel.grown hg h.bel.size (fun x e => (h.own4.lt x e).1)
  obtain ⟨a, n, c, rfl, hsl, _, _⟩ := own_slice hown
  refine ⟨a, n, c, rfl, ?_, hb3⟩
  have hs := h.says
  have hd : s.data.toList.drop k = [] := List.drop_eq_nil_of_le (by simp; omega)
  rw [hd, wordsL] at hs
  rw [← hs, List.map_cons, List.map_nil, strs_snoc]
  exact hsl

set_option maxRecDepth 20000 in
set_option maxHeartbeats 4000000 in
theorem words_any (s : ByteArray) (w : World) (hs : s.size < 4294967281) :
    Calls Tryd.prog 16 #[.string s] w (LinePost s w) := by
  by_cases h0 : s.size = 0
  · obtain rfl := size0 h0
    have e0 := toList_nil
    clear h0 hs
    go_enter Tryd.func16, Tryd.ntmps16
    go_wp2_with fail
    go_ret2
    exact ⟨none, 0, 0, false, rfl, rfl, SlAt.nil _ _, Below.refl _ _⟩
  · have e1 := isEmpty_no h0
    have e2 := eqNil_no h0
    have hp : 0 < s.size := by omega
    have hpi : (0 : Int) < (s.size : Int) := by omega
    have hh := saysB_head s hp
    by_cases h35 : s[0] = 35
    · have hsay : saysB s = false := by rw [hh, h35]; rfl
      have h35' : (s[0].toNat : Int) = 35 := by rw [h35]; rfl
      have HS := Lib.hid hsay
      clear hh hs hsay h35
      go_enter Tryd.func16, Tryd.ntmps16
      go_wp2_with fail
      go_ret2
      exact ⟨none, 0, 0, false, rfl, HS.out.symm, by rw [lineW, HS.out]; exact SlAt.nil _ _, Below.refl _ _⟩
    · have hsay : saysB s = true := by rw [hh, bne_iff_ne]; exact h35
      have h35' : ((s[0].toNat : Int) == 35) = false := by
        rw [beq_eq_false_iff_ne]
        intro e
        exact h35 (UInt8.toNat_inj.1 (by show s[0].toNat = 35; omega))
      have HS := Lib.hid hsay
      clear hh hsay h35
      obtain ⟨i0, hi, hz0, hz1, hz2⟩ := info_parts infoStr
      obtain ⟨j0, ki, kz0, kz1, kz2⟩ := info_parts infoByte
      have HI := Lib.hid (And.intro hi (And.intro hz0 (And.intro hz1 hz2)))
      have KI := Lib.hid (And.intro ki (And.intro kz0 (And.intro kz1 kz2)))
      clear hi hz0 hz1 hz2 ki kz0 kz1 kz2
      have W0 := Lib.hid (WdI.start s w)
      have hsi : (s.size : Int) < 4294967281 := by omega
      go_enter Tryd.func16, Tryd.ntmps16
      go_wp2_with fail
      clear h35' e1 e2
      generalize ((w.alloc (.cells #[] 9)).alloc (.cells #[] 5)) = w2 at *
      go_loopg [4, 5, 6] s.size (fun gk v4 v5 i wr => ∃ (k n4 c4 n5 c5 : Nat) (a4 a5 : Option Addr) (outs : List ByteArray) (bs : List UInt8), k ≤ s.size ∧ gk = s.size - k ∧ i = .int .i64 (k : Int) ∧ v4 = .slice a4 n4 c4 ∧ n4 = outs.length ∧ v5 = .slice a5 n5 c5 ∧ Hid (WdI s w wr outs bs k (.slice a4 n4 c4) (.slice a5 n5 c5)))
      case atStart => exact ⟨0, 0, 0, 0, 0, _, _, [], [], Nat.zero_le _, rfl, rfl, rfl, rfl, rfl, W0⟩
      case round =>
        obtain ⟨k, n4, c4, n5, c5, a4, a5, outs, bs, hk, rfl, rfl, rfl, hn4, rfl, hW⟩ := hrel
        have HN4 := Lib.hid hn4
        have hlb := hW.out.lb
        have hl5 : n4 ≤ 5 := by rw [hn4]; exact hW.out.le
        have HB4 : Hid (wr.ownsRow w.heap.size 9 1 (.slice a4 n4 c4) n4 (strs outs)) := Lib.hid (by have := hW.out.own4; rw [← hn4] at this; exact this)
        have HB5 := Lib.hid hW.out.own5
        have hbase := Lib.hid hW.out.bel.size
        have hconv := conv_own wr 51 9 5 w.heap.size _ bs _ Tryd.underlying51 Tryd.underlying5 Tryd.underlying9 hW.out.own5 hW.out.ne
        clear hn4
        by_cases hlt : k < s.size
        · have hki : (k : Int) < (s.size : Int) := by omega
          by_cases hc : s[k] = 32
          · have hci : ((s[k].toNat : Int) == 32) = true := by rw [hc]; rfl
            have HC := Lib.hid hc
            clear hc
            by_cases h5 : n4 < 5
            · have h5i : (n4 : Int) < 5 := by omega
              go_wp2_with (at_builtin; refine wpList_app1 wr rfl _ _ 34 rfl w.heap.size 9 i0 (.string ⟨#[]⟩) 16 Tryd.underlying34 HI.out.1 HI.out.2.1 HI.out.2.2.1 HI.out.2.2.2 rfl _ _ _ HB4.out rfl (.string (strOf bs)) 9 rfl rfl ?c3 ?c4 ?c5 ?_)
              case c3 => unfold maxLen; omega
              case c4 => omega
              case c5 => exact hbase.out
              intro v' w3 hown' hgrow hblk
              rw [HN4.out] at hown'
              have HW2 := Lib.hid (hW.out.cut hlt (by rw [← HN4.out]; exact h5) HC.out hown' hgrow hblk)
              obtain ⟨a', n', c', rfl, -, -, -⟩ := own_slice hown'
              obtain rfl : n' = outs.length + 1 := by
                rcases hown'.2 with ⟨e, e'⟩ | ⟨g, cap, cur, e, _⟩
                · exact absurd e' (Nat.succ_ne_zero _)
                · cases e; rfl
              clear hown' hgrow hblk hconv
              go_wp2_with fail
              go_roundg (s.size - (k + 1))
              case rel => exact ⟨k + 1, _, _, _, _, _, _, _, _, by omega, rfl, by go_num, rfl, by simp, rfl, HW2⟩
              case measure => omega
            · have h5i : decide ((n4 : Int) < 5) = false := by rw [decide_eq_false_iff_not]; omega
              have H5 := Lib.hid h5
              clear h5 hl5
              go_wp2_with (at_builtin; refine wpList_app1 wr rfl _ _ 51 rfl w.heap.size 5 j0 (.int .u8 0) 1 Tryd.underlying51 KI.out.1 KI.out.2.1 KI.out.2.2.1 KI.out.2.2.2 rfl _ _ _ HB5.out rfl (.int .u8 (s[k].toNat : Int)) 5 rfl rfl ?c3 ?c4 ?c5 ?_)
              case c3 => unfold maxLen; omega
              case c4 => omega
              case c5 => exact hbase.out
              intro v' w3 hown' hgrow hblk
              have HW2 := Lib.hid (hW.out.byte hlt (fun e => H5.out (by rw [HN4.out]; exact e.2)) hown' hgrow hblk)
              obtain ⟨a', n', c', rfl, -, -, -⟩ := own_slice hown'
              clear hown' hgrow hblk hconv
              go_wp2_with fail
              go_roundg (s.size - (k + 1))
              case rel => exact ⟨k + 1, _, _, _, _, _, _, _, _, by omega, rfl, by go_num, rfl, HN4.out, rfl, HW2⟩
              case measure => omega
          · have hci : ((s[k].toNat : Int) == 32) = false := by
              rw [beq_eq_false_iff_ne]
              intro e
              exact hc (UInt8.toNat_inj.1 (by show s[k].toNat = 32; omega))
            go_wp2_with (at_builtin; refine wpList_app1 wr rfl _ _ 51 rfl w.heap.size 5 j0 (.int .u8 0) 1 Tryd.underlying51 KI.out.1 KI.out.2.1 KI.out.2.2.1 KI.out.2.2.2 rfl _ _ _ HB5.out rfl (.int .u8 (s[k].toNat : Int)) 5 rfl rfl ?c3 ?c4 ?c5 ?_)
            case c3 => unfold maxLen; omega
            case c4 => omega
            case c5 => exact hbase.out
            intro v' w3 hown' hgrow hblk
            have HW2 := Lib.hid (hW.out.byte hlt (fun e => hc e.1) hown' hgrow hblk)
            obtain ⟨a', n', c', rfl, -, -, -⟩ := own_slice hown'
            clear hown' hgrow hblk hconv
            go_wp2_with fail
            go_roundg (s.size - (k + 1))
            case rel => exact ⟨k + 1, _, _, _, _, _, _, _, _, by omega, rfl, by go_num, rfl, HN4.out, rfl, HW2⟩
            case measure => omega
        · have hki : (s.size : Int) ≤ (k : Int) := by omega
          go_wp2_with (at_builtin; refine wpList_app1 wr rfl _ _ 34 rfl w.heap.size 9 i0 (.string ⟨#[]⟩) 16 Tryd.underlying34 HI.out.1 HI.out.2.1 HI.out.2.2.1 HI.out.2.2.2 rfl _ _ _ HB4.out rfl (.string (strOf bs)) 9 rfl rfl ?c3 ?c4 ?c5 ?_)
          case c3 => unfold maxLen; omega
          case c4 => omega
          case c5 => exact hbase.out
          intro v' w3 hown' hgrow hblk
          rw [HN4.out] at hown'
          obtain ⟨a, n, c, rfl, hsl, hb⟩ := hW.out.stop hlt hown' hgrow
          have HSL := Lib.hid hsl
          have HB := Lib.hid hb
          clear hown' hgrow hblk hconv hsl hb
          go_wp2_with fail
          go_ret2
          exact ⟨a, n, c, true, rfl, HS.out.symm, by rw [lineW, HS.out]; exact HSL.out, HB.out⟩
end Go.Proofs.YtdlnabjledhiiaaDoor
