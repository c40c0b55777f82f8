/-
  The walks of find, ready and of what they call, and of the reference's At: new blocks alone are made; the texts within reach.
-/
import Derived.Test.YtjppommhamaibaaDkC
import Derived.Test.YtjppommhamaibaaSl
namespace Go.Proofs.Ytjppommhamaibaa
open Go.RowKit Go.BigFrame
set_option linter.unusedVariables false

theorem not_ret {v b : Bool} (h : v = !b) : Ending.returned (.bool (!b)) = Ending.returned (.bool v) := by rw [h]
set_option maxHeartbeats 400000 in
theorem notName_any (s : ByteArray) (hs : s.size ≤ maxLen) (w : World) (v : Bool) (hv : Hid (v = !nmOk s)) :
    Calls Try.prog 47 #[.string s] w fun e w' => e = .returned (.bool v) ∧ w = w' := by
  have H := Lib.hid (isName_any s hs w (!v) (Lib.hid (by rw [hv.out, Bool.not_not])))
  clear hv
  go_enter Try.func47, Try.ntmps47
  go_wp2_with fail
  refine H.out.mono ?_
  rintro e w1 ⟨rfl, rfl⟩
  go_wp2_with fail
  go_ret
  exact ⟨ret_bool (by simp), rfl⟩

theorem names_upto {nms : List ByteArray} (h : ∀ j (h : j < nms.length), nmOk nms[j] = true) : nms.all nmOk = true := by
  rw [List.all_eq_true]
  intro o ho
  obtain ⟨i, hi, rfl⟩ := List.getElem_of_mem ho
  exact h i hi
theorem names_not {nms : List ByteArray} {k : Nat} (hk : k < nms.length) (h : nmOk nms[k] = false) : nms.all nmOk = false := by
  rw [List.all_eq_false]
  exact ⟨nms[k], List.getElem_mem hk, by rw [h]; decide⟩
theorem SlAt.at' {w : World} {a : Option Addr} {n : Nat} {nms : List ByteArray} (h : SlAt w a n (nms.map Value.string)) : n = nms.length ∧ (0 < n → ∃ b off, a = some ⟨b, off, none⟩ ∧ ∀ i (h : i < nms.length), w.cell? ⟨b, off + i, none⟩ = some (.string nms[i])) := by
  have hl : n = nms.length := by have := h.1; rwa [List.length_map] at this
  refine ⟨hl, fun h0 => ?_⟩
  rcases h.2 with h1 | ⟨b, off, h2, h3⟩
  · have := congrArg List.length h1; simp at this; subst this; simp at hl; omega
  · exact ⟨b, off, h2, fun i hi => by have := h3 i (by simpa using hi); simpa using this⟩

set_option maxHeartbeats 1000000 in
theorem namesIdx_any (a : Option Addr) (n c : Nat) (nms : List ByteArray) (w : World) (h : SlAt w a n (nms.map Value.string)) (hn : n ≤ 9223372036854775807) (hs : ∀ s ∈ nms, s.size ≤ maxLen) :
    Calls Try.prog 57 #[.slice a n c, .func (.func 47) #[] #[]] w fun e w' => ∃ r : Int, e = .returned (.int .i64 r) ∧ ((r = -1 ∧ nms.all nmOk = true) ∨ (0 ≤ r ∧ nms.all nmOk = false)) ∧ w = w' := by
  obtain ⟨hnl, hat⟩ := h.at'
  have HN := Lib.hid hnl
  have HAT := Lib.hid hat
  have HS := Lib.hid hs
  clear h hnl hat hs
  go_enter Try.func57, Try.ntmps57
  go_wp2
  go_loopg [5, 8] n (fun gk v5 i wr => ∃ (k : Nat), k ≤ n ∧ gk = n - k ∧ i = .int .i64 (k : Int) ∧ w = wr ∧ Hid (∀ j (h : j < nms.length), j < k → nmOk nms[j] = true))
  case atStart => exact ⟨0, Nat.zero_le _, rfl, rfl, rfl, Lib.hid (fun j h hj => absurd hj (Nat.not_lt_zero _))⟩
  case round =>
    obtain ⟨k, hk, rfl, rfl, rfl, hall⟩ := hrel
    by_cases hlt : k < n
    · have hkd : k < nms.length := by rw [← HN.out]; exact hlt
      obtain ⟨b, off, rfl, hcells⟩ := HAT.out (by omega)
      have c0 := hcells k hkd
      have hki : (k : Int) < (n : Int) := by omega
      have hop := Lib.hid (fun (v : Bool) (hv : Hid (v = !nmOk nms[k])) => notName_any nms[k] (HS.out _ (List.getElem_mem hkd)) w v hv)
      clear hcells
      cases hok : nmOk nms[k] with
      | true =>
        have hc := Lib.hid (hop.out false (Lib.hid (by rw [hok]; rfl)))
        have hall2 : Hid (∀ j (h : j < nms.length), j < k + 1 → nmOk nms[j] = true) := Lib.hid fun j h hj => by
          by_cases hjk : j = k
          · subst hjk; exact hok
          · exact hall.out j h (by omega)
        clear hop hall hok
        generalize nms[k] = o at *
        go_wp2_with fail
        refine hc.out.mono ?_
        rintro e w1 ⟨rfl, rfl⟩
        go_wp2_with fail
        go_roundg (n - (k + 1))
        case rel => exact ⟨k + 1, by omega, rfl, by go_num, rfl, hall2⟩
        case measure => omega
      | false =>
        have hfin := Lib.hid (names_not hkd hok)
        have hc := Lib.hid (hop.out true (Lib.hid (by rw [hok]; rfl)))
        clear hop hall hok
        generalize nms[k] = o at *
        go_wp2_with fail
        refine hc.out.mono ?_
        rintro e w1 ⟨rfl, rfl⟩
        go_wp2_with fail
        go_ret
        exact ⟨k, rfl, .inr ⟨by omega, hfin.out⟩, rfl⟩
    · have hfin := Lib.hid (names_upto (nms := nms) (fun j h => hall.out j h (by have := HN.out; omega)))
      have hki : (n : Int) ≤ (k : Int) := by omega
      go_wp2_with fail
      go_ret
      exact ⟨-1, rfl, .inl ⟨rfl, hfin.out⟩, rfl⟩

set_option maxHeartbeats 400000 in
theorem badName_any (a : Option Addr) (n c : Nat) (nms : List ByteArray) (w : World) (h : SlAt w a n (nms.map Value.string)) (hn : n ≤ 9223372036854775807) (hs : ∀ s ∈ nms, s.size ≤ maxLen) (v : Bool) (hv : Hid (v = !nms.all nmOk)) :
    Calls Try.prog 46 #[.slice a n c, .func (.func 47) #[] #[]] w fun e w' => e = .returned (.bool v) ∧ w = w' := by
  have H := Lib.hid (namesIdx_any a n c nms w h hn hs)
  clear h hn hs
  go_enter Try.func46, Try.ntmps46
  go_wp2_with fail
  refine H.out.mono ?_
  rintro e w1 ⟨r, rfl, hr, rfl⟩
  rcases hr with ⟨rfl, hall⟩ | ⟨hr, hall⟩
  · have HV := Lib.hid (show v = false by rw [hv.out, hall]; rfl)
    clear hall hv
    go_wp2_with fail
    go_ret
    exact ⟨ret_bool (by rw [HV.out]), rfl⟩
  · have HV := Lib.hid (show v = true by rw [hv.out, hall]; rfl)
    clear hall hv
    go_wp2_with fail
    go_ret
    exact ⟨ret_bool (by rw [HV.out]), rfl⟩

/-! find -/
theorem toList_yes {a b : ByteArray} (h : a = b) : (a.toList == b.toList) = true := by subst h; simp
set_option maxHeartbeats 400000 in
theorem isFile_any (f : Fl) (nm : ByteArray) (B : Nat) (w : World) (hB : w.cell? ⟨B, 0, none⟩ = some (.string nm)) (v : Bool) (hv : Hid ((f.nm.toList == nm.toList) = v)) :
    Calls Try.prog 49 #[.agg #[.string f.nm, .string f.sy, .string f.ta], .pointer (some ⟨B, 0, none⟩)] w fun e w' => e = .returned (.bool v) ∧ Below w.heap.size w w' := by
  obtain ⟨x, y, z⟩ := f
  have hv : (x.toList == nm.toList) = v := hv.out
  have g := cell_keep ((Below.refl w.heap.size w).alloc (Nat.le_refl _) (.cells #[.string x, .string y, .string z] 32)) hB
  have hne : B ≠ w.heap.size := fun e => by
    subst e
    unfold World.cell? at hB
    simp at hB
  go_enter Try.func49, Try.ntmps49
  go_wp2
  go_ret
  exact ⟨rfl, (Below.refl _ _).alloc (Nat.le_refl _) _⟩

theorem atL_hit {l : List Fl} {nm : ByteArray} {k : Nat} (hk : k < l.length) (h : l[k].nm = nm) (hj : ∀ j (h : j < l.length), j < k → l[j].nm ≠ nm) : (k : Int) = atL l nm := by
  rcases atL_cases l nm with ⟨i, hi, h1, h2, h3⟩ | ⟨h1, h2⟩
  · rw [h3]
    have : ¬ i < k := fun e => hj i hi e h1
    have : ¬ k < i := fun e => h2 k hk e h
    omega
  · exact absurd h (h1 _ (List.getElem_mem hk))
theorem atL_miss {l : List Fl} {nm : ByteArray} (h : ∀ j (h : j < l.length), l[j].nm ≠ nm) : -1 = atL l nm := by
  rcases atL_cases l nm with ⟨i, hi, h1, h2, h3⟩ | ⟨h1, h2⟩
  · exact absurd h1 (h i hi)
  · exact h2.symm

set_option maxHeartbeats 1000000 in
theorem filesIdx_any (a : Option Addr) (n c : Nat) (l : List Fl) (nm : ByteArray) (B : Nat) (w : World) (h : flE.Sl w a n l) (hn : n ≤ 4398046511104) (hB : w.cell? ⟨B, 0, none⟩ = some (.string nm)) :
    Calls Try.prog 48 #[.slice a n c, .func (.func 49) #[] #[.pointer (some ⟨B, 0, none⟩)]] w fun e w' => e = .returned (.int .i64 (atL l nm)) ∧ Below w.heap.size w w' := by
  have hlen : n = l.length := h.1
  have HN := Lib.hid hlen
  have HSL := Lib.hid h
  have HCB := Lib.hid hB
  obtain ⟨r, hr⟩ : ∃ r, r = atL l nm := ⟨_, rfl⟩
  rw [← hr]
  have HR := Lib.hid hr
  clear h hlen hB hr
  go_enter Try.func48, Try.ntmps48
  go_wp2
  go_loopg [5, 8] n (fun gk v5 i wr => ∃ (k : Nat), k ≤ n ∧ gk = n - k ∧ i = .int .i64 (k : Int) ∧ Hid (Below w.heap.size w wr) ∧ Hid (∀ j (h : j < l.length), j < k → l[j].nm ≠ nm))
  case atStart => exact ⟨0, Nat.zero_le _, rfl, rfl, Lib.hid (Below.refl _ _), Lib.hid (fun j h hj => absurd hj (Nat.not_lt_zero _))⟩
  case round =>
    obtain ⟨k, hk, rfl, rfl, hW, hall⟩ := hrel
    by_cases hlt : k < n
    · have hkd : k < l.length := by rw [← HN.out]; exact hlt
      obtain ⟨-, b, off, rfl, hcells⟩ := fl_at (HSL.out.keep hW.out) (by omega)
      obtain ⟨c0, c1, c2⟩ := hcells k hkd
      have hki : (k : Int) < (n : Int) := by omega
      have hop := Lib.hid (fun (v : Bool) (hv : Hid ((l[k].nm.toList == nm.toList) = v)) => isFile_any l[k] nm B wr (cell_keep hW.out HCB.out) v hv)
      clear hcells
      by_cases hq : l[k].nm = nm
      · have HV := Lib.hid (atL_hit hkd hq hall.out)
        have hc := Lib.hid (hop.out true (Lib.hid (toList_yes hq)))
        clear hop hall hq
        generalize l[k] = o at *
        obtain ⟨o0, o1, o2⟩ := o
        go_wp2_with fail
        refine hc.out.mono ?_
        rintro e w1 ⟨rfl, hb1⟩
        have HB := Lib.hid (below_then hW.out hb1 hW.out.size)
        clear hb1
        go_wp2_with fail
        go_ret
        exact ⟨ret_int (by rw [HR.out, HV.out]), HB.out⟩
      · have hc := Lib.hid (hop.out false (Lib.hid (toList_ne hq)))
        have hall2 : Hid (∀ j (h : j < l.length), j < k + 1 → l[j].nm ≠ nm) := Lib.hid fun j h hj => by
          by_cases hjk : j = k
          · subst hjk; exact hq
          · exact hall.out j h (by omega)
        clear hop hall hq
        generalize l[k] = o at *
        obtain ⟨o0, o1, o2⟩ := o
        go_wp2_with fail
        refine hc.out.mono ?_
        rintro e w1 ⟨rfl, hb1⟩
        have HB := Lib.hid (below_then hW.out hb1 hW.out.size)
        clear hb1
        go_wp2_with fail
        go_roundg (n - (k + 1))
        case rel => exact ⟨k + 1, by omega, rfl, by go_num, HB, hall2⟩
        case measure => omega
    · have HV := Lib.hid (atL_miss (l := l) (nm := nm) (fun j h => hall.out j h (by have := HN.out; omega)))
      have hki : (n : Int) ≤ (k : Int) := by omega
      clear hall
      go_wp2_with fail
      go_ret
      exact ⟨ret_int (by rw [HR.out, ← HV.out]), hW.out⟩

set_option maxHeartbeats 400000 in
theorem find_any (a : Option Addr) (n c : Nat) (l : List Fl) (nm : ByteArray) (w : World) (h : flE.Sl w a n l) (hn : n ≤ 4398046511104) (v : Int) (hv : Hid (v = atL l nm)) :
    Calls Try.prog 28 #[.slice a n c, .string nm] w fun e w' => e = .returned (.int .i64 v) ∧ Below w.heap.size w w' := by
  have hA : Below w.heap.size w (w.alloc (.cells #[.string nm] 9)) := (Below.refl _ w).alloc (Nat.le_refl _) _
  have H := Lib.hid (filesIdx_any a n c l nm w.heap.size (w.alloc (.cells #[.string nm] 9)) (h.keep hA) hn (cell_new (cs := #[.string nm]) 0 (v := .string nm) rfl))
  have HA := Lib.hid hA
  rw [← hv.out] at H
  clear h hn hA hv
  go_enter Try.func28, Try.ntmps28
  go_wp2_with fail
  refine H.out.mono ?_
  rintro e w1 ⟨rfl, hb1⟩
  have HB := Lib.hid (below_then HA.out hb1 HA.out.size)
  clear hb1
  go_wp2_with fail
  go_ret
  exact ⟨rfl, HB.out⟩

set_option maxHeartbeats 1000000 in
theorem refAt_any (a : Option Addr) (n c : Nat) (d : Dk) (nm : ByteArray) (w : World) (h : DkAt w a n c d) (v : Int) (hv : Hid (v = atL d.files nm)) :
    Calls Try.prog 17 #[d.val a n c, .string nm] w fun e w' => e = .returned (.int .i64 v) ∧ Below w.heap.size w w' := by
  obtain ⟨r, l, lf, dn⟩ := d
  have hsl : flE.Sl w a n l := h.sl
  have hnb := h.nb
  have hlen : n = l.length := h.sl.1
  have HN := Lib.hid hlen
  have HSL := Lib.hid hsl
  have hv : v = atL l nm := hv.out
  have HR := Lib.hid hv
  unfold Dk.val
  dsimp only
  have hA : Below w.heap.size w (w.alloc (.cells #[.int .i64 r, .slice a n c, .int .i64 lf, .bool dn] 24)) := (Below.refl _ w).alloc (Nat.le_refl _) _
  have HA := Lib.hid hA
  clear h hsl hlen hv hA
  go_enter Try.func17, Try.ntmps17
  go_wp2
  go_loopg [5, 6, 10] n (fun gk v5 v6 i wr => ∃ (k : Nat), k ≤ n ∧ gk = n - k ∧ i = .int .i64 (k : Int) ∧ Hid (Below w.heap.size w wr) ∧ Hid (∀ j (h : j < l.length), j < k → l[j].nm ≠ nm))
  case atStart => exact ⟨0, Nat.zero_le _, rfl, rfl, HA, Lib.hid (fun j h hj => absurd hj (Nat.not_lt_zero _))⟩
  case round =>
    obtain ⟨k, hk, rfl, rfl, hW, hall⟩ := hrel
    by_cases hlt : k < n
    · have hkd : k < l.length := by rw [← HN.out]; exact hlt
      obtain ⟨-, b, off, rfl, hcells⟩ := fl_at (HSL.out.keep hW.out) (by omega)
      obtain ⟨c0, c1, c2⟩ := hcells k hkd
      have hki : (k : Int) < (n : Int) := by omega
      have HB := Lib.hid (hW.out.alloc hW.out.size (.cells #[.string l[k].nm, .string l[k].sy, .string l[k].ta] 32))
      clear hcells
      by_cases hq : l[k].nm = nm
      · have HV := Lib.hid (atL_hit hkd hq hall.out)
        have hq2 := toList_yes hq
        clear hall hq
        generalize l[k] = o at *
        obtain ⟨o0, o1, o2⟩ := o
        have hq2 : (o0.toList == nm.toList) = true := hq2
        go_wp2_with fail
        go_ret
        exact ⟨ret_int (by rw [HR.out, HV.out]), HB.out⟩
      · have hq2 := toList_ne hq
        have hall2 : Hid (∀ j (h : j < l.length), j < k + 1 → l[j].nm ≠ nm) := Lib.hid fun j h hj => by
          by_cases hjk : j = k
          · subst hjk; exact hq
          · exact hall.out j h (by omega)
        clear hall hq
        generalize l[k] = o at *
        obtain ⟨o0, o1, o2⟩ := o
        have hq2 : (o0.toList == nm.toList) = false := hq2
        go_wp2_with fail
        go_roundg (n - (k + 1))
        case rel => exact ⟨k + 1, by omega, rfl, by go_num, HB, hall2⟩
        case measure => omega
    · have HV := Lib.hid (atL_miss (l := l) (nm := nm) (fun j h => hall.out j h (by have := HN.out; omega)))
      have hki : (n : Int) ≤ (k : Int) := by omega
      clear hall
      go_wp2_with fail
      go_ret
      exact ⟨ret_int (by rw [HR.out, ← HV.out]), hW.out⟩
end Go.Proofs.Ytjppommhamaibaa
