/-
  The walks of size and of the reference's Size: new blocks alone are made; the texts within reach.
-/
import Derived.Test.YtjppommhamaibaaDkA
namespace Go.Proofs.Ytjppommhamaibaa
open Go.RowKit
set_option linter.unusedVariables false

/-- The cells of the files of a slice that is not empty. -/
def FlC (w : World) (b off : Nat) (l : List Fl) : Prop := ∀ k (h : k < l.length), w.cell? ⟨b, off + k * 3, none⟩ = some (.string l[k].nm) ∧ w.cell? ⟨b, off + k * 3 + 1, none⟩ = some (.string l[k].sy) ∧ w.cell? ⟨b, off + k * 3 + 2, none⟩ = some (.string l[k].ta)
theorem fl_at {w : World} {a : Option Addr} {n : Nat} {l : List Fl} (h : flE.Sl w a n l) (h0 : 0 < n) : n = l.length ∧ ∃ b off, a = some ⟨b, off, none⟩ ∧ FlC w b off l := by
  obtain ⟨h1, b, off, h2, h3⟩ := h.at h0
  exact ⟨h1, b, off, h2, fun k hk => ⟨h3 k hk 0 _ rfl, h3 k hk 1 _ rfl, h3 k hk 2 _ rfl⟩⟩
theorem FlC.keep {w w' : World} {b off : Nat} {l : List Fl} (h : FlC w b off l) (hb : Below w.heap.size w w') : FlC w' b off l :=
  fun k hk => ⟨cell_keep hb (h k hk).1, cell_keep hb (h k hk).2.1, cell_keep hb (h k hk).2.2⟩

theorem addTo_stop {n k : Nat} (h : 1048576 < n) : addTo n k = n := if_neg (by omega)
theorem szTo_stop {n : Nat} (f : Fl) (h : 1048576 < n) : szTo n f = n := by unfold szTo; rw [addTo_stop h, addTo_stop h]
theorem szFold_stop : ∀ (l : List Fl) {n : Nat}, 1048576 < n → l.foldl szTo n = n
  | [], n, _ => rfl
  | f :: r, n, h => by rw [List.foldl_cons, szTo_stop f h]; exact szFold_stop r h
theorem szL_step {l : List Fl} {k x : Nat} (hk : k < l.length) (h : szL l = (l.drop k).foldl szTo x) : szL l = (l.drop (k + 1)).foldl szTo (szTo x l[k]) := by
  rw [h, List.drop_eq_getElem_cons hk, List.foldl_cons]
theorem szL_done {l : List Fl} {k x : Nat} (hk : k < l.length) (h : szL l = (l.drop k).foldl szTo x) (hx : 1048576 < szTo x l[k]) : szL l = szTo x l[k] := by
  rw [szL_step hk h, szFold_stop _ hx]

set_option maxHeartbeats 1000000 in
theorem size_any (a : Option Addr) (n c : Nat) (l : List Fl) (w : World) (h : flE.Sl w a n l) (hn : n ≤ 4398046511104) (hs : ∀ f ∈ l, f.small) (v : Nat) (hv : Hid (v = szL l)) :
    Calls Try.prog 25 #[.slice a n c] w fun e w' => e = .returned (.int .i64 (v : Int)) ∧ Below w.heap.size w w' := by
  by_cases h0 : n = 0
  · subst h0
    have hd : l = [] := List.eq_nil_of_length_eq_zero h.1.symm
    subst hd
    have hfin := Lib.hid (show v = 0 by rw [hv.out]; rfl)
    clear hv h hs
    go_enter Try.func25, Try.ntmps25
    go_wp2
    go_loop [3, 8] (fun x i => x = .int .i64 0 ∧ i = .int .i64 0) (fun _ _ => 0)
    case atStart => exact ⟨rfl, rfl⟩
    case round =>
      obtain ⟨rfl, rfl⟩ := hrel
      go_wp2
      go_ret
      exact ⟨ret_int (by rw [hfin.out]; rfl), Below.refl _ _⟩
  · obtain ⟨hnd, b, off, rfl, hcells⟩ := fl_at h (by omega)
    have HN := Lib.hid hnd
    have HC := Lib.hid hcells
    have HS := Lib.hid hs
    clear h hnd hcells hs
    go_enter Try.func25, Try.ntmps25
    go_wp2
    go_loopg [3, 5, 8] n (fun gk sv v5 i wr => ∃ (k x : Nat), k ≤ n ∧ gk = n - k ∧ i = .int .i64 (k : Int) ∧ sv = .int .i64 (x : Int) ∧ x ≤ 1048576 ∧ Hid (Below w.heap.size w wr) ∧ Hid (szL l = (l.drop k).foldl szTo x))
    case atStart => exact ⟨0, 0, Nat.zero_le _, rfl, rfl, rfl, Nat.zero_le _, Lib.hid (Below.refl _ _), Lib.hid rfl⟩
    case round =>
      obtain ⟨k, x, hk, rfl, rfl, rfl, hxk, hB, hx⟩ := hrel
      by_cases hlt : k < n
      · have hkd : k < l.length := by rw [← HN.out]; exact hlt
        obtain ⟨q0, q1, q2⟩ := HC.out k hkd
        have c0 := cell_keep hB.out q0
        have c1 := cell_keep hB.out q1
        have c2 := cell_keep hB.out q2
        have hki : (k : Int) < (n : Int) := by omega
        obtain ⟨s0, s1, s2⟩ := HS.out l[k] (List.getElem_mem hkd)
        have hst := szL_step hkd hx.out
        have hdn := szL_done hkd hx.out
        have hB2 := hB.out.alloc hB.out.size (.cells #[.string l[k].nm, .string l[k].sy, .string l[k].ta] 32)
        have HB2 := Lib.hid hB2
        clear q0 q1 q2 hB2 hx hB
        generalize l[k] = o at *
        obtain ⟨o0, o1, o2⟩ := o
        have s1 : o1.size ≤ 140737488355328 := s1
        have s2 : o2.size ≤ 140737488355328 := s2
        have hxi : (x : Int) ≤ 1048576 := by omega
        unfold szTo addTo at hst hdn
        dsimp only at hst hdn
        rw [if_pos hxk] at hst hdn
        by_cases h1 : x + o1.size ≤ 1048576
        · rw [if_pos h1] at hst hdn
          have h1i : (x : Int) + (o1.size : Int) ≤ 1048576 := by omega
          by_cases h2 : x + o1.size + o2.size ≤ 1048576
          · have h2i : (x : Int) + (o1.size : Int) + (o2.size : Int) ≤ 1048576 := by omega
            have HST := Lib.hid hst
            clear hst hdn h1 h2 hv
            go_wp2_with fail
            go_roundg (n - (k + 1))
            case rel => exact ⟨k + 1, x + o1.size + o2.size, by omega, rfl, by go_num, by go_num, by omega, HB2, HST⟩
            case measure => omega
          · have h2i : (1048576 : Int) < (x : Int) + (o1.size : Int) + (o2.size : Int) := by omega
            have HST := Lib.hid (hv.out.trans (hdn (by omega)))
            clear hst hdn h1 h2 hv
            go_wp2_with fail
            go_ret
            exact ⟨ret_int (by rw [HST.out]; omega), HB2.out⟩
        · have h1i : (1048576 : Int) < (x : Int) + (o1.size : Int) := by omega
          rw [if_neg h1] at hst hdn
          have HST := Lib.hid (hv.out.trans (hdn (by omega)))
          clear hst hdn h1 hv
          go_wp2_with fail
          go_ret
          exact ⟨ret_int (by rw [HST.out]; omega), HB2.out⟩
      · have hki : (n : Int) ≤ (k : Int) := by omega
        have hfin := Lib.hid (show v = x by rw [hv.out, hx.out, List.drop_eq_nil_of_le (by have := HN.out; omega)]; rfl)
        clear hv
        go_wp2_with fail
        go_ret
        exact ⟨ret_int (by rw [hfin.out]), hB.out⟩

set_option maxHeartbeats 1000000 in
theorem refSize_any (a : Option Addr) (n c : Nat) (l : List Fl) (w : World) (h : flE.Sl w a n l) (hn : n ≤ 4398046511104) (hs : ∀ f ∈ l, f.small) (v : Nat) (hv : Hid (v = szL l)) :
    Calls Try.prog 30 #[.slice a n c] w fun e w' => e = .returned (.int .i64 (v : Int)) ∧ Below w.heap.size w w' := by
  by_cases h0 : n = 0
  · subst h0
    have hd : l = [] := List.eq_nil_of_length_eq_zero h.1.symm
    subst hd
    have hfin := Lib.hid (show v = 0 by rw [hv.out]; rfl)
    clear hv h hs
    go_enter Try.func30, Try.ntmps30
    go_wp2
    go_loop [3, 8] (fun x i => x = .int .i64 0 ∧ i = .int .i64 0) (fun _ _ => 0)
    case atStart => exact ⟨rfl, rfl⟩
    case round =>
      obtain ⟨rfl, rfl⟩ := hrel
      go_wp2
      go_ret
      exact ⟨ret_int (by rw [hfin.out]; rfl), Below.refl _ _⟩
  · obtain ⟨hnd, b, off, rfl, hcells⟩ := fl_at h (by omega)
    have HN := Lib.hid hnd
    have HC := Lib.hid hcells
    have HS := Lib.hid hs
    clear h hnd hcells hs
    go_enter Try.func30, Try.ntmps30
    go_wp2
    go_loopg [3, 5, 8] n (fun gk sv v5 i wr => ∃ (k x : Nat), k ≤ n ∧ gk = n - k ∧ i = .int .i64 (k : Int) ∧ sv = .int .i64 (x : Int) ∧ x ≤ 140737489403904 ∧ Hid (Below w.heap.size w wr) ∧ Hid (szL l = (l.drop k).foldl szTo x))
    case atStart => exact ⟨0, 0, Nat.zero_le _, rfl, rfl, rfl, Nat.zero_le _, Lib.hid (Below.refl _ _), Lib.hid rfl⟩
    case round =>
      obtain ⟨k, x, hk, rfl, rfl, rfl, hxk, hB, hx⟩ := hrel
      by_cases hlt : k < n
      · have hkd : k < l.length := by rw [← HN.out]; exact hlt
        obtain ⟨q0, q1, q2⟩ := HC.out k hkd
        have c0 := cell_keep hB.out q0
        have c1 := cell_keep hB.out q1
        have c2 := cell_keep hB.out q2
        have hki : (k : Int) < (n : Int) := by omega
        obtain ⟨s0, s1, s2⟩ := HS.out l[k] (List.getElem_mem hkd)
        have hst := szL_step hkd hx.out
        have hB2 := hB.out.alloc hB.out.size (.cells #[.string l[k].nm, .string l[k].sy, .string l[k].ta] 32)
        have HB2 := Lib.hid hB2
        clear q0 q1 q2 hB2 hx hB
        generalize l[k] = o at *
        obtain ⟨o0, o1, o2⟩ := o
        have s1 : o1.size ≤ 140737488355328 := s1
        have s2 : o2.size ≤ 140737488355328 := s2
        unfold szTo addTo at hst
        dsimp only at hst
        by_cases hx1 : x ≤ 1048576
        · rw [if_pos hx1] at hst
          have hxi : (x : Int) ≤ 1048576 := by omega
          by_cases h1 : x + o1.size ≤ 1048576
          · rw [if_pos h1] at hst
            have h1i : (x : Int) + (o1.size : Int) ≤ 1048576 := by omega
            have HST := Lib.hid hst
            clear hst h1 hv
            go_wp2_with fail
            go_roundg (n - (k + 1))
            case rel => exact ⟨k + 1, x + o1.size + o2.size, by omega, rfl, by go_num, by go_num, by omega, HB2, HST⟩
            case measure => omega
          · have h1i : (1048576 : Int) < (x : Int) + (o1.size : Int) := by omega
            rw [if_neg h1] at hst
            have HST := Lib.hid hst
            clear hst h1 hv
            go_wp2_with fail
            go_roundg (n - (k + 1))
            case rel => exact ⟨k + 1, x + o1.size, by omega, rfl, by go_num, by go_num, by omega, HB2, HST⟩
            case measure => omega
        · rw [if_neg hx1, if_neg hx1] at hst
          have hxi : (1048576 : Int) < (x : Int) := by omega
          have HST := Lib.hid hst
          clear hst hx1 hv
          go_wp2_with fail
          go_roundg (n - (k + 1))
          case rel => exact ⟨k + 1, x, by omega, rfl, by go_num, by go_num, by omega, HB2, HST⟩
          case measure => omega
      · have hki : (n : Int) ≤ (k : Int) := by omega
        have hfin := Lib.hid (show v = x by rw [hv.out, hx.out, List.drop_eq_nil_of_le (by have := HN.out; omega)]; rfl)
        clear hv
        go_wp2_with fail
        go_ret
        exact ⟨ret_int (by rw [hfin.out]), hB.out⟩
end Go.Proofs.Ytjppommhamaibaa
