/-
  The walks of slices.IndexFunc and ContainsFunc over ops, of Right, Size (delta's and the reference's), and of the law's few; new blocks alone are made.
-/
import Derived.Test.YtdlnabjledhiiaaDoorDlWalkA
import Derived.Deep.LoopGhost
namespace Go.Proofs.YtdlnabjledhiiaaDoor
open Go.RowKit
set_option linter.unusedVariables false

/-- -1, if all ops may be; else some place. -/
def IdxIs (d : List DOp) (w : World) (e : Ending) (w' : World) : Prop := ∃ r : Int, e = .returned (.int .i64 r) ∧ ((r = -1 ∧ d.all DOp.ok = true) ∨ (0 ≤ r ∧ d.all DOp.ok = false)) ∧ Below w.heap.size w w'
theorem all_upto {d : List DOp} (h : ∀ j (h : j < d.length), d[j].ok = true) : d.all DOp.ok = true := by
  rw [List.all_eq_true]
  intro o ho
  obtain ⟨i, hi, rfl⟩ := List.getElem_of_mem ho
  exact h i hi
theorem all_not {d : List DOp} {k : Nat} (hk : k < d.length) (h : d[k].ok = false) : d.all DOp.ok = false := by
  rw [List.all_eq_false]
  exact ⟨d[k], List.getElem_mem hk, by rw [h]; decide⟩

set_option maxHeartbeats 1000000 in
theorem indexFunc_any (a : Option Addr) (n c : Nat) (d : List DOp) (w : World) (h : OpsSl w a n d) (hn : n ≤ 9223372036854775807) :
    Calls Tryd.prog 44 #[.slice a n c, .func (.func 26) #[] #[]] w (IdxIs d w) := by
  by_cases h0 : n = 0
  · subst h0
    have hd : d = [] := List.eq_nil_of_length_eq_zero h.1.symm
    subst hd
    go_enter Tryd.func44, Tryd.ntmps44
    go_wp2
    go_loop [8] (fun i => i = .int .i64 0) (fun _ => 0)
    case atStart => rfl
    case round =>
      obtain rfl := hrel
      go_wp2
      go_ret
      exact ⟨-1, rfl, .inl ⟨rfl, rfl⟩, Below.refl _ _⟩
  · obtain ⟨hnd, b, off, rfl, hcells⟩ := h.at (by omega)
    have HN := Lib.hid hnd
    have HC := Lib.hid hcells
    clear h hnd hcells
    go_enter Tryd.func44, Tryd.ntmps44
    go_wp2
    go_loopg [5, 8] n (fun gk v5 i wr => ∃ (k : Nat), k ≤ n ∧ gk = n - k ∧ i = .int .i64 (k : Int) ∧ Hid (Below w.heap.size w wr) ∧ Hid (∀ j (h : j < d.length), j < k → d[j].ok = true))
    case atStart => exact ⟨0, Nat.zero_le _, rfl, rfl, Lib.hid (Below.refl _ _), Lib.hid (fun j h hj => absurd hj (Nat.not_lt_zero _))⟩
    case round =>
      obtain ⟨k, hk, rfl, rfl, hB, hall⟩ := hrel
      by_cases hlt : k < n
      · have hkd : k < d.length := by rw [← HN.out]; exact hlt
        obtain ⟨q0, q1, q2⟩ := HC.out k hkd
        have c0 := cell_keep hB.out q0
        have c1 := cell_keep hB.out q1
        have c2 := cell_keep hB.out q2
        have hki : (k : Int) < (n : Int) := by omega
        have hop := Lib.hid (fun (v : Bool) (hv : Hid (v = !d[k].ok)) (W : World) => notRight_any d[k] W v hv)
        have HKD := Lib.hid hkd
        clear q0 q1 q2
        by_cases hok : d[k].ok = true
        · have hc := Lib.hid (hop.out false (Lib.hid (congrArg Bool.not hok).symm))
          have hall2 : Hid (∀ j (h : j < d.length), j < k + 1 → d[j].ok = true) := Lib.hid fun j h hj => by
            by_cases hjk : j = k
            · subst hjk; exact hok
            · exact hall.out j h (by omega)
          clear hop hall hok
          generalize d[k] = o at *
          obtain ⟨of, ol, ot⟩ := o
          go_wp2_with fail
          refine (hc.out _).mono ?_
          rintro e w1 ⟨rfl, hb1⟩
          have HB := Lib.hid (below_then hB.out hb1 hB.out.size)
          clear hb1
          go_wp2_with fail
          go_roundg (n - (k + 1))
          case rel => exact ⟨k + 1, by omega, rfl, by go_num, HB, hall2⟩
          case measure => omega
        · have hno : d[k].ok = false := by simpa using hok
          have hfin := Lib.hid (all_not hkd hno)
          have hc := Lib.hid (hop.out true (Lib.hid (congrArg Bool.not hno).symm))
          clear hop hall hok hno
          generalize d[k] = o at *
          obtain ⟨of, ol, ot⟩ := o
          go_wp2_with fail
          refine (hc.out _).mono ?_
          rintro e w1 ⟨rfl, hb1⟩
          have HB := Lib.hid (below_then hB.out hb1 hB.out.size)
          clear hb1
          go_wp2_with fail
          go_ret
          exact ⟨k, rfl, .inr ⟨by omega, hfin.out⟩, HB.out⟩
      · have hfin := Lib.hid (all_upto (d := d) (fun j h => hall.out j h (by have := HN.out; omega)))
        have hki : (n : Int) ≤ (k : Int) := by omega
        go_wp2_with fail
        go_ret
        exact ⟨-1, rfl, .inl ⟨rfl, hfin.out⟩, hB.out⟩

set_option maxHeartbeats 400000 in
theorem containsFunc_any (a : Option Addr) (n c : Nat) (d : List DOp) (w : World) (h : OpsSl w a n d) (hn : n ≤ 9223372036854775807) (v : Bool) (hv : Hid (v = !d.all DOp.ok)) :
    Calls Tryd.prog 25 #[.slice a n c, .func (.func 26) #[] #[]] w fun e w' => e = .returned (.bool v) ∧ Below w.heap.size w w' := by
  have H := Lib.hid (indexFunc_any a n c d w h hn)
  clear h hn
  go_enter Tryd.func25, Tryd.ntmps25
  go_wp2_with fail
  refine H.out.mono ?_
  rintro e w1 ⟨r, rfl, hr, hb⟩
  have HB := Lib.hid hb
  clear hb
  rcases hr with ⟨rfl, hall⟩ | ⟨hr, hall⟩
  · have HV := Lib.hid (show v = false by rw [hv.out, hall]; rfl)
    clear hall hv
    go_wp2_with fail
    go_ret
    exact ⟨ret_bool (by rw [HV.out]), HB.out⟩
  · have HV := Lib.hid (show v = true by rw [hv.out, hall]; rfl)
    clear hall hv
    go_wp2_with fail
    go_ret
    exact ⟨ret_bool (by rw [HV.out]), HB.out⟩

set_option maxHeartbeats 400000 in
theorem dright_any (a : Option Addr) (n c : Nat) (d : List DOp) (w : World) (h : OpsSl w a n d) (hn : n ≤ 9223372036854775807) (v : Bool) (hv : Hid (v = rightB d)) :
    Calls Tryd.prog 12 #[.slice a n c] w fun e w' => e = .returned (.bool v) ∧ Below w.heap.size w w' := by
  have hnd := h.1
  by_cases h2 : n ≤ 2000
  · have hi : (n : Int) ≤ 2000 := by omega
    have hfin := Lib.hid (show v = d.all DOp.ok by rw [hv.out]; unfold rightB; rw [← hnd]; simp [h2])
    have H := Lib.hid (containsFunc_any a n c d w h hn (!d.all DOp.ok) (Lib.hid rfl))
    clear h hnd hv
    generalize d.all DOp.ok = x at *
    go_enter Tryd.func12, Tryd.ntmps12
    go_wp2_with fail
    refine H.out.mono ?_
    rintro e w1 ⟨rfl, hb⟩
    have HB := Lib.hid hb
    clear hb
    go_wp2_with fail
    go_ret
    exact ⟨ret_bool (by first | rw [hfin.out] | (rw [hfin.out]; simp)), HB.out⟩
  · have hi : (2000 : Int) < (n : Int) := by omega
    have hfin := Lib.hid (show v = false by rw [hv.out]; unfold rightB; rw [← hnd]; simp [h2])
    clear h hnd hv
    go_enter Tryd.func12, Tryd.ntmps12
    go_wp2_with fail
    go_ret
    exact ⟨ret_bool (by rw [hfin.out]), Below.refl _ _⟩

set_option maxHeartbeats 1000000 in
theorem refRight_any (a : Option Addr) (n c : Nat) (d : List DOp) (w : World) (h : OpsSl w a n d) (hn : n ≤ 9223372036854775807) (v : Bool) (hv : Hid (v = rightB d)) :
    Calls Tryd.prog 28 #[.slice a n c] w fun e w' => e = .returned (.bool v) ∧ Below w.heap.size w w' := by
  by_cases h0 : n = 0
  · subst h0
    have hd : d = [] := List.eq_nil_of_length_eq_zero h.1.symm
    subst hd
    have hfin := Lib.hid (show v = true by rw [hv.out]; rfl)
    clear hv h
    go_enter Tryd.func28, Tryd.ntmps28
    go_wp2
    go_loop [7] (fun i => i = .int .i64 0) (fun _ => 0)
    case atStart => rfl
    case round =>
      obtain rfl := hrel
      go_wp2
      go_ret
      exact ⟨ret_bool (by rw [hfin.out]), Below.refl _ _⟩
  · obtain ⟨hnd, b, off, rfl, hcells⟩ := h.at (by omega)
    have HN := Lib.hid hnd
    have HC := Lib.hid hcells
    clear h hnd hcells
    go_enter Tryd.func28, Tryd.ntmps28
    go_wp2
    go_loopg [4, 7] n (fun gk v5 i wr => ∃ (k : Nat), k ≤ n ∧ gk = n - k ∧ i = .int .i64 (k : Int) ∧ Hid (Below w.heap.size w wr) ∧ Hid (∀ j (h : j < d.length), j < k → d[j].ok = true))
    case atStart => exact ⟨0, Nat.zero_le _, rfl, rfl, Lib.hid (Below.refl _ _), Lib.hid (fun j h hj => absurd hj (Nat.not_lt_zero _))⟩
    case round =>
      obtain ⟨k, hk, rfl, rfl, hB, hall⟩ := hrel
      by_cases hlt : k < n
      · have hkd : k < d.length := by rw [← HN.out]; exact hlt
        obtain ⟨q0, q1, q2⟩ := HC.out k hkd
        have c0 := cell_keep hB.out q0
        have c1 := cell_keep hB.out q1
        have c2 := cell_keep hB.out q2
        have hki : (k : Int) < (n : Int) := by omega
        have hop := Lib.hid (fun (v : Bool) (hv : Hid (v = d[k].ok)) (W : World) => refOp_any d[k] W v hv)
        have HKD := Lib.hid hkd
        clear q0 q1 q2
        by_cases hok : d[k].ok = true
        · have hc := Lib.hid (hop.out true (Lib.hid hok.symm))
          have hall2 : Hid (∀ j (h : j < d.length), j < k + 1 → d[j].ok = true) := Lib.hid fun j h hj => by
            by_cases hjk : j = k
            · subst hjk; exact hok
            · exact hall.out j h (by omega)
          clear hop hall hok
          generalize d[k] = o at *
          obtain ⟨of, ol, ot⟩ := o
          go_wp2_with fail
          refine (hc.out _).mono ?_
          rintro e w1 ⟨rfl, hb1⟩
          have HB := Lib.hid (Below.trans (hB.out.alloc hB.out.size _) (hb1.mono (by have := hB.out.size; simp; omega)))
          clear hb1
          go_wp2_with fail
          go_roundg (n - (k + 1))
          case rel => exact ⟨k + 1, by omega, rfl, by go_num, HB, hall2⟩
          case measure => omega
        · have hno : d[k].ok = false := by simpa using hok
          have hfin := Lib.hid (show v = false by rw [hv.out]; unfold rightB; rw [all_not hkd hno]; simp)
          have hc := Lib.hid (hop.out false (Lib.hid hno.symm))
          clear hop hall hok hno hv
          generalize d[k] = o at *
          obtain ⟨of, ol, ot⟩ := o
          go_wp2_with fail
          refine (hc.out _).mono ?_
          rintro e w1 ⟨rfl, hb1⟩
          have HB := Lib.hid (Below.trans (hB.out.alloc hB.out.size _) (hb1.mono (by have := hB.out.size; simp; omega)))
          clear hb1
          go_wp2_with fail
          go_ret
          exact ⟨ret_bool (by rw [hfin.out]), HB.out⟩
      · have hfin := Lib.hid (show v = decide (n ≤ 2000) by rw [hv.out]; unfold rightB; rw [all_upto (d := d) (fun j h => hall.out j h (by have := HN.out; omega)), ← HN.out]; simp)
        have hki : (n : Int) ≤ (k : Int) := by omega
        clear hv
        by_cases h2 : n ≤ 2000
        · have h2i : (n : Int) ≤ 2000 := by omega
          go_wp2_with fail
          go_ret
          exact ⟨ret_bool (by rw [hfin.out]; simp [h2]), hB.out⟩
        · have h2i : (2000 : Int) < (n : Int) := by omega
          go_wp2_with fail
          go_ret
          exact ⟨ret_bool (by rw [hfin.out]; simp [h2]; omega), hB.out⟩

/-- few: of more than 60 ops, and not too many, the first 60. -/
def fewD (d : List DOp) : List DOp := if 60 < d.length ∧ d.length ≤ 2000 then d.take 60 else d
set_option maxHeartbeats 400000 in
theorem few_any (a : Option Addr) (n c : Nat) (d : List DOp) (w : World) (h : OpsSl w a n d) (hc : n ≤ c) :
    Calls Tryd.prog 8 #[.slice a n c] w fun e w' => (∃ m, e = .returned (.slice a m c) ∧ OpsSl w a m (fewD d) ∧ m ≤ n) ∧ w = w' := by
  by_cases hh : 60 < n ∧ n ≤ 2000
  · have h1 : (60 : Int) < (n : Int) := by omega
    have h2 : (n : Int) ≤ 2000 := by omega
    have h3 : (60 : Int) ≤ (c : Int) := by omega
    have hT := Lib.hid (h.take (m := 60) (by omega))
    have hf : fewD d = d.take 60 := by unfold fewD; rw [if_pos (by rw [← h.1]; exact hh)]
    have HF := Lib.hid hf
    clear h hf
    go_enter Tryd.func8, Tryd.ntmps8
    go_wp2
    go_ret
    exact ⟨⟨60, rfl, by rw [HF.out]; exact hT.out, by omega⟩, rfl⟩
  · have hf : fewD d = d := by unfold fewD; rw [if_neg (by rw [← h.1]; exact hh)]
    have HF := Lib.hid hf
    have H := Lib.hid h
    clear h hf
    by_cases h1 : 60 < n
    · have h1i : (60 : Int) < (n : Int) := by omega
      have h2i : (2000 : Int) < (n : Int) := by omega
      go_enter Tryd.func8, Tryd.ntmps8
      go_wp2
      go_ret
      exact ⟨⟨n, rfl, by rw [HF.out]; exact H.out, Nat.le_refl _⟩, rfl⟩
    · have h1i : (n : Int) ≤ 60 := by omega
      go_enter Tryd.func8, Tryd.ntmps8
      go_wp2
      go_ret
      exact ⟨⟨n, rfl, by rw [HF.out]; exact H.out, Nat.le_refl _⟩, rfl⟩
end Go.Proofs.YtdlnabjledhiiaaDoor
