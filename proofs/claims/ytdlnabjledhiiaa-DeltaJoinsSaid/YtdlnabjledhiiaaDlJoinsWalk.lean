/-
  The walk of the law DeltaJoins: it returns true on any text and any two deltas; new blocks alone are made.
-/
import Derived.Test.YtdlnabjledhiiaaDlAppliesWalk
import Derived.Test.YtdlnabjledhiiaaDlP
import Derived.Test.YtdlnabjledhiiaaOpsRow
namespace Go.Proofs.Ytdlnabjledhiiaa
open Go.RowKit
set_option linter.unusedVariables false

theorem cell_pair0 (w : World) (u v : Value) (t : TypeId) : (w.alloc (.cells #[u, v] t)).cell? ⟨w.heap.size, 0, none⟩ = some u := by
  unfold World.cell?
  rw [show (w.alloc (.cells #[u, v] t)).heap[w.heap.size]? = _ from heap_alloc_new w _]
  rfl
theorem cell_pair1 (w : World) (u v : Value) (t : TypeId) : (w.alloc (.cells #[u, v] t)).cell? ⟨w.heap.size, 1, none⟩ = some v := by
  unfold World.cell?
  rw [show (w.alloc (.cells #[u, v] t)).heap[w.heap.size]? = _ from heap_alloc_new w _]
  rfl
theorem joinTwo (b : Nat) (x y : ByteArray) (w : World) (h0 : w.cell? ⟨b, 0, none⟩ = some (.string x)) (h1 : w.cell? ⟨b, 1, none⟩ = some (.string y)) (hl : x.size + y.size ≤ 140737488355328) (z : ByteArray) (hz : Hid (z = strOf (x.data.toList ++ y.data.toList))) :
    Calls Try.prog 21 #[.slice (some ⟨b, 0, none⟩) 2 2, .string ⟨#[]⟩] w fun e w' => e = .returned (.string z) ∧ Below w.heap.size w w' := by
  have e1 : Lib.join ([x, y].map (·.data.toList)) (⟨#[]⟩ : ByteArray).data.toList = x.data.toList ++ y.data.toList := by
    simp [Lib.join]
  refine (Try.strings_Join b 0 2 [x, y] ⟨#[]⟩ w ?_ (World.block_lt_of_cell? w _ h0) (by simp) (by simp) ?_).mono ?_
  · intro j s hj
    match j, hj with
    | 0, hj => simp at hj; subst hj; simpa using h0
    | 1, hj => simp at hj; subst hj; simpa using h1
  · rw [e1, List.length_append, ← size_len, ← size_len]; exact hl
  · rintro e w' ⟨rfl, hb⟩
    rw [e1, hz.out]
    exact ⟨rfl, hb⟩

set_option maxRecDepth 100000 in
set_option maxHeartbeats 4000000 in
theorem deltaJoins_main (old : ByteArray) (a : Option Addr) (n c : Nat) (d : List DOp) (a' : Option Addr) (n' c' : Nat) (d' : List DOp) (w : World) (h : OpsSl w a n d) (hn : n ≤ c) (hc : n ≤ 4398046511104) (ha : a = none → c = 0) (h' : OpsSl w a' n' d') (hn' : n' ≤ c') (hc' : n' ≤ 4398046511104) (ha' : a' = none → c' = 0) (ho : old.size ≤ maxLen) :
    Calls Try.prog 6 #[.string old, .slice a n c, .slice a' n' c'] w fun e w' => e = .returned (.bool true) ∧ Below w.heap.size w w' := by
  obtain ⟨i0, hi, hz0, hz1, hz2⟩ := info_parts infoOp
  have HI := Lib.hid hi
  have HZ := Lib.hid (And.intro hz0 (And.intro hz1 hz2))
  have hf := Lib.hid (few_any a n c d w h hn)
  have hf' := Lib.hid (few_any a' n' c' d' w h' hn')
  have HO := Lib.hid ho
  have HA := Lib.hid ha
  have HA' := Lib.hid ha'
  clear h h' ho ha ha' hi hz0 hz1 hz2
  go_enter Try.func6, Try.ntmps6
  go_wp2_with fail
  refine hf.out.mono ?_
  rintro e w' ⟨⟨k, rfl, h, hk⟩, rfl⟩
  have H := Lib.hid h
  clear h
  go_wp2_with fail
  refine hf'.out.mono ?_
  rintro e w' ⟨⟨k', rfl, h, hk'⟩, rfl⟩
  have H' := Lib.hid h
  clear hf hf' h
  generalize fewD d = d at *
  generalize fewD d' = d' at *
  have hk9 : k ≤ 9223372036854775807 := by omega
  have hk9' : k' ≤ 9223372036854775807 := by omega
  have hkc : k ≤ c := by omega
  have hkc' : k' ≤ c' := by omega
  have hlen : k = d.length := H.out.1
  have hlen' : k' = d'.length := H'.out.1
  have HL := Lib.hid hlen
  have HL' := Lib.hid hlen'
  clear hlen hlen'
  have hs1 : (k : Int) ≤ 4398046511104 := by omega
  have hs2 : (k' : Int) ≤ 4398046511104 := by omega
  by_cases hbig : 200 < k + k'
  · have e1 : (200 : Int) < (k : Int) + (k' : Int) := by omega
    go_wp2_with fail
    go_ret
    exact ⟨rfl, Below.refl _ _⟩
  · by_cases hold : 3000 < old.size
    · have e1 : (k : Int) + (k' : Int) ≤ 200 := by omega
      have e2 : (3000 : Int) < (old.size : Int) := by omega
      go_wp2_with fail
      go_ret
      exact ⟨rfl, Below.refl _ _⟩
    · have e1 : (k : Int) + (k' : Int) ≤ 200 := by omega
      have e2 : (old.size : Int) ≤ 3000 := by omega
      have h1 := Lib.hid (fun W (hb : Below w.heap.size w W) => apply_any old a k c d 1048576 W (H.out.keep hb) hk9 HO.out)
      have h2 := Lib.hid (fun W (hb : Below w.heap.size w W) => apply_any old a' k' c' d' 1048576 W (H'.out.keep hb) hk9' HO.out)
      have h3 := Lib.hid (fun (p : Option Addr) (q r : Nat) W (hsl : OpsSl W p q (d ++ d')) (hq : q ≤ 9223372036854775807) => apply_any old p q r (d ++ d') 1048576 W hsl hq HO.out)
      have P1 := Lib.hid (joins_bad (old := old.data.toList) (a := d) (b := d') (by have := HL.out; have := HL'.out; omega))
      have P2 := Lib.hid (joins_good (old := old.data.toList) (a := d) (b := d') (by have := HL.out; have := HL'.out; omega))
      have P3 := Lib.hid (applyAll_len (old := old.data.toList) (a := d))
      have P4 := Lib.hid (applyAll_len (old := old.data.toList) (a := d'))
      generalize applyAll old.data.toList d 1048576 = X at *
      generalize applyAll old.data.toList d' 1048576 = Y at *
      generalize applyAll old.data.toList (d ++ d') 1048576 = Z at *
      obtain ⟨x, e⟩ := X
      obtain ⟨y, f⟩ := Y
      obtain ⟨z, g⟩ := Z
      go_wp2_with fail
      refine (h1.out _ (Below.refl _ _)).mono ?_
      rintro en w1 ⟨rfl, hb1⟩
      have HB1 := Lib.hid hb1
      clear hb1
      go_wp2_with fail
      refine (h2.out _ HB1.out).mono ?_
      rintro en w2 ⟨rfl, hb2⟩
      have HB2 := Lib.hid (below_then HB1.out hb2 HB1.out.size)
      clear hb2 HB1
      have HO0 : Hid ((w2.alloc (.cells #[] 41)).ownsRow w.heap.size 41 3 (.slice (some ⟨w2.heap.size, 0, none⟩) 0 0) 0 (opsCells [])) := Lib.hid (by
        have := World.ownsRow_made (e := 41) (size := 3) w2 #[] 0 (Nat.le_refl _) (Nat.zero_le _) rfl
        exact row_base3 this HB2.out.size)
      have HBA := Lib.hid (HB2.out.alloc HB2.out.size (.cells #[] 41))
      go_wp2_with (at_builtin; refine wpList_appOps _ rfl _ _ 34 rfl w.heap.size 41 i0 _ 32 Try.underlying34 HI.out HZ.out.1 HZ.out.2.1 HZ.out.2.2 rfl _ 0 [] HO0.out rfl a k c d rfl (H.out.keep HBA.out) HA.out (by unfold maxLen; omega) (by omega) HBA.out.size ?_)
      intro v3 w3 ho3 hg3
      have HB3 := Lib.hid (HBA.out.grown hg3 HBA.out.size (fun q e => (HO0.out.lt q e).1))
      have HO3 : Hid (w3.ownsRow w.heap.size 41 3 v3 k (opsCells d)) := Lib.hid (by simpa using ho3)
      clear ho3 hg3
      go_wp2_with (at_builtin; refine wpList_appOps _ rfl _ _ 34 rfl w.heap.size 41 i0 _ 32 Try.underlying34 HI.out HZ.out.1 HZ.out.2.1 HZ.out.2.2 rfl _ k d HO3.out rfl a' k' c' d' rfl (H'.out.keep HB3.out) HA'.out (by unfold maxLen; omega) (by omega) HB3.out.size ?_)
      intro v4 w4 ho4 hg4
      have HB4 := Lib.hid (HB3.out.grown hg4 HB3.out.size (fun q e => (HO3.out.lt q e).1))
      obtain ⟨a4, c4, rfl, -, hsl4, -, -, -⟩ := own_ops ho4
      have HS4 := Lib.hid hsl4
      clear ho4 hg4 hsl4
      go_wp2_with fail
      refine (h3.out a4 (k + k') c4 _ HS4.out (by omega)).mono ?_
      rintro en w5 ⟨rfl, hb5⟩
      have HB5 := Lib.hid (below_then HB4.out hb5 HB4.out.size)
      clear hb5 HB4 HB3 HBA HB2
      have hse : (strOf []).toList = [] := toList_nil
      by_cases hbad : e ≠ 0 ∨ f ≠ 0
      · obtain ⟨q1, q2⟩ := P1.out hbad
        have q2 : z = [] := q2
        have q1 : g ≠ 0 := q1
        subst q2
        have q3 : (g != 0) = true := by simpa using q1
        clear q1 P1 P2
        by_cases he : e = 0
        · subst he
          have hf : (f != 0) = true := by simpa using hbad
          clear hbad
          go_wp2_with fail
          go_ret
          exact ⟨by first | rfl | simp, HB5.out⟩
        · have hf : (e != 0) = true := by simpa using he
          clear hbad he
          go_wp2_with fail
          go_ret
          exact ⟨rfl, HB5.out⟩
      · have he : e = 0 := by omega
        have hf : f = 0 := by omega
        subst he hf
        have q := P2.out rfl rfl
        have l1 : (x.length : Int) ≤ 1048576 := Int.ofNat_le.2 (P3.out rfl)
        have l2 : (y.length : Int) ≤ 1048576 := Int.ofNat_le.2 (P4.out rfl)
        clear P1 P2 P3 P4 hbad
        have sx : (strOf x).size = x.length := strOf_size x
        have sy : (strOf y).size = y.length := strOf_size y
        by_cases hlong : 1048576 < x.length + y.length
        · rw [if_pos hlong] at q
          cases q
          have l3 : ((strOf x).size : Int) ≤ 1048576 := by omega
          have l4 : ((strOf y).size : Int) ≤ 1048576 := by omega
          have hl : (1048576 : Int) < ((strOf x).size : Int) + ((strOf y).size : Int) := by omega
          clear sx sy hlong
          generalize strOf x = tx at *
          generalize strOf y = ty at *
          go_wp2_with fail
          go_ret
          exact ⟨rfl, HB5.out⟩
        · rw [if_neg hlong] at q
          cases q
          have l3 : ((strOf x).size : Int) ≤ 1048576 := by omega
          have l4 : ((strOf y).size : Int) ≤ 1048576 := by omega
          have hl : ((strOf x).size : Int) + ((strOf y).size : Int) ≤ 1048576 := by omega
          have hl2 : Hid ((strOf x).size + (strOf y).size ≤ 140737488355328) := Lib.hid (by omega)
          have hz : Hid (strOf (x ++ y) = strOf ((strOf x).data.toList ++ (strOf y).data.toList)) := Lib.hid rfl
          clear sx sy hlong
          generalize strOf (x ++ y) = tz at *
          generalize strOf x = tx at *
          generalize strOf y = ty at *
          have hzz : (tz.toList == tz.toList) = true := by simp
          have J := Lib.hid (fun b W h0 h1 => joinTwo b tx ty W h0 h1 hl2.out tz hz)
          have C0 := Lib.hid (cell_pair0 w5 (.string tx) (.string ty) 9)
          have C1 := Lib.hid (cell_pair1 w5 (.string tx) (.string ty) 9)
          have HBX := Lib.hid (HB5.out.alloc HB5.out.size (.cells #[.string tx, .string ty] 9))
          go_wp2_with fail
          refine (J.out _ _ C0.out C1.out).mono ?_
          rintro en w6 ⟨rfl, hb6⟩
          have HB6 := Lib.hid (below_then HBX.out hb6 HBX.out.size)
          clear hb6
          go_wp2_with fail
          refine (rightOne _ _).mono ?_
          rintro en w8 ⟨rfl, hb8⟩
          have HB8 := Lib.hid (below_then HB6.out hb8 HB6.out.size)
          clear hb8
          go_wp2_with fail
          go_ret
          exact ⟨rfl, HB8.out⟩

theorem deltaJoins_walk (old : ByteArray) (a : Option Addr) (n c : Nat) (d : List DOp) (a' : Option Addr) (n' c' : Nat) (d' : List DOp) (w : World) (ho : old.size ≤ maxLen)
    (h : OpsSl w a n d ∧ n ≤ c ∧ c ≤ maxLen ∧ (a = none → c = 0) ∧ ∀ o ∈ d, o.wf) (h' : OpsSl w a' n' d' ∧ n' ≤ c' ∧ c' ≤ maxLen ∧ (a' = none → c' = 0) ∧ ∀ o ∈ d', o.wf) (hz : n ≤ 4398046511104) (hz' : n' ≤ 4398046511104) :
    Calls Try.prog 6 #[.string old, .slice a n c, .slice a' n' c'] w fun e w' => e = .returned (.bool true) ∧ Below w.heap.size w w' :=
  deltaJoins_main old a n c d a' n' c' d' w h.1 h.2.1 hz h.2.2.2.1 h'.1 h'.2.1 hz' h'.2.2.2.1 ho
end Go.Proofs.Ytdlnabjledhiiaa
