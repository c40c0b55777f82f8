/-
  The walk of the reference's Like: it tells whether two lists are one; only reads.
-/
import Derived.Test.YtjppommhamaibaaDoorSl
import Derived.Test.YtjppommhamaibaaDoorRows
import Derived.WalkKit
import Derived.WalkSpells
import Derived.WalkLawsBesides
namespace Go.Proofs.YtjppommhamaibaaDoor
open Go.RowKit
set_option linter.unusedVariables false

set_option maxHeartbeats 400000 in
theorem like_uneq (a b : Option Addr) (n m c d : Nat) (w : World) (h : n ≠ m) :
    Calls Tryd.prog 13 #[.slice a n c, .slice b m d] w fun e w' => e = .returned (.bool false) ∧ ∃ k, w' = w.drewN k := by
  have hne : ((n : Int) != (m : Int)) = true := by rw [bne_iff_ne]; omega
  go_enter Tryd.func13, Tryd.ntmps13
  go_wp2
  go_ret
  exact ⟨rfl, 0, rfl⟩

set_option maxHeartbeats 400000 in
theorem like_eq (a b : Option Addr) (n c d : Nat) (xs ys : List ByteArray) (w : World) (h1 : SlAt w a n (strs xs)) (h2 : SlAt w b n (strs ys)) (hn : n ≤ 9223372036854775807) (v : Bool) (hv : Hid (v = likeB xs ys)) :
    Calls Tryd.prog 13 #[.slice a n c, .slice b n d] w fun e w' => e = .returned (.bool v) ∧ ∃ k, w' = w.drewN k := by
  by_cases h0 : n = 0
  · subst h0
    have hx : xs = [] := by have := h1.1; rw [strs_length] at this; exact List.eq_nil_of_length_eq_zero this.symm
    have hy : ys = [] := by have := h2.1; rw [strs_length] at this; exact List.eq_nil_of_length_eq_zero this.symm
    subst hx hy
    go_enter Tryd.func13, Tryd.ntmps13
    go_wp2
    go_loop [5, 13] (fun _ i => i = .int .i64 0) (fun _ _ => 0)
    case atStart => rfl
    case round =>
      obtain rfl := hrel
      go_wp2
      go_ret
      exact ⟨ret_bool (by rw [hv.out, likeB_yes rfl]), 0, rfl⟩
  · obtain ⟨hnx, b1, o1, rfl, hc1⟩ := h1.str (by omega)
    obtain ⟨hny, b2, o2, rfl, hc2⟩ := h2.str (by omega)
    have HX := Lib.hid hnx
    have HY := Lib.hid hny
    have HC1 := Lib.hid hc1
    have HC2 := Lib.hid hc2
    clear hnx hny hc1 hc2 h1 h2
    have hne : ((n : Int) != (n : Int)) = false := by simp
    go_enter Tryd.func13, Tryd.ntmps13
    go_wp2
    go_loopw [5, 13] (fun _ i wr => ∃ k m : Nat, k ≤ n ∧ i = .int .i64 k ∧ wr = w.drewN m ∧ ∀ j (h1 : j < xs.length) (h2 : j < ys.length), j < k → xs[j] = ys[j]) (fun _ i _ => n - (intOf i).toNat)
    case atStart => exact ⟨0, 0, Nat.zero_le _, rfl, rfl, fun j _ _ h => absurd h (Nat.not_lt_zero _)⟩
    case round =>
      obtain ⟨k, m, hk, rfl, rfl, hall⟩ := hrel
      have HA := Lib.hid hall
      clear hall
      by_cases hlt : k < n
      · have hkx : k < xs.length := by have := HX.out; omega
        have hky : k < ys.length := by have := HY.out; omega
        have hcx := HC1.out k hkx
        have hcy := HC2.out k hky
        have hi1 : (k : Int) < (n : Int) := by omega
        by_cases he : xs[k] = ys[k]
        · have hall2 : Hid (∀ j (h1 : j < xs.length) (h2 : j < ys.length), j < k + 1 → xs[j] = ys[j]) := Lib.hid fun j h1 h2 hj => by
            by_cases hjk : j = k
            · subst hjk; exact he
            · exact HA.out j h1 h2 (by omega)
          rw [he] at hcx
          clear he
          generalize ys[k] = t at *
          have htt : (t.toList != t.toList) = false := by simp
          go_wp2
          go_quiet (fail)
          go_wp2
          go_roundw
          case rel => exact ⟨k + 1, _, by omega, by go_num, by first | rfl | exact World.drewN_drewN _ _ _, hall2.out⟩
          case measure => simp [intOf]; omega
        · have hfin : likeB xs ys = false := likeB_no (fun e => he (by subst e; rfl))
          have HF := Lib.hid hfin
          have htt : (xs[k].toList == ys[k].toList) = false := toList_ne he
          clear hfin he
          generalize ys[k] = t at *
          generalize xs[k] = s at *
          go_wp2
          go_quiet (fail)
          go_wp2
          go_ret
          exact ⟨ret_bool (by rw [hv.out, HF.out]), _, by first | rfl | exact World.drewN_drewN _ _ _⟩
      · have hfin : likeB xs ys = true := likeB_yes (list_ext_upto xs ys (by rw [← HX.out, ← HY.out]) fun j h1 h2 => HA.out j h1 h2 (by have := HX.out; omega))
        have HF := Lib.hid hfin
        clear hfin
        go_wp2
        go_ret
        exact ⟨ret_bool (by rw [hv.out, HF.out]), _, rfl⟩

theorem like_any (a b : Option Addr) (n m c d : Nat) (xs ys : List ByteArray) (w : World) (h1 : SlAt w a n (strs xs)) (h2 : SlAt w b m (strs ys)) (hn : n ≤ 9223372036854775807) :
    Calls Tryd.prog 13 #[.slice a n c, .slice b m d] w fun e w' => e = .returned (.bool (likeB xs ys)) ∧ ∃ k, w' = w.drewN k := by
  by_cases h : n = m
  · subst h; exact like_eq a b n c d xs ys w h1 h2 hn _ rfl
  · have : likeB xs ys = false := likeB_no (fun e => h (by subst e; rw [h1.1, h2.1]))
    rw [this]
    exact like_uneq a b n m c d w h
theorem like_same (a b : Option Addr) (n m c d : Nat) (xs : List ByteArray) (w : World) (h1 : SlAt w a n (strs xs)) (h2 : SlAt w b m (strs xs)) (hn : xs.length ≤ 9223372036854775807) :
    Calls Tryd.prog 13 #[.slice a n c, .slice b m d] w fun e w' => e = .returned (.bool true) ∧ ∃ k, w' = w.drewN k := by
  have h := like_any a b n m c d xs xs w h1 h2 (by rw [h1.1, strs_length]; exact hn)
  rwa [likeB_yes rfl] at h
end Go.Proofs.YtjppommhamaibaaDoor
