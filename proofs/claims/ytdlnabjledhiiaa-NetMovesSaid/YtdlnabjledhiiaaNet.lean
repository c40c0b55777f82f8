/-
  The walks of slices.Clone at texts and of net.Send, Take and Twice.
-/
import Derived.Test.YtdlnabjledhiiaaConcat
namespace Go.Proofs.Ytdlnabjledhiiaa
open Go.RowKit
set_option linter.unusedVariables false

theorem Src.le {w : World} {a : Option Addr} {n c : Nat} {xs : List Value} (h : Src w (.slice a n c) xs) : n = xs.length ∧ n ≤ c := by
  rcases h with ⟨e, rfl⟩ | ⟨ad, n', c', e, hn, hc, hx⟩
  · cases e; exact ⟨rfl, Nat.le_refl _⟩
  · cases e; exact ⟨hn, hc⟩
theorem Src.take {w : World} {a : Option Addr} {n c m : Nat} {xs : List Value} (h : Src w (.slice a n c) xs) (hm : m ≤ n) : Src w (.slice a m c) (xs.take m) := by
  rcases h with ⟨e, rfl⟩ | ⟨ad', n', c', e, hn, hc, hx⟩
  · cases e
    obtain rfl : m = 0 := by omega
    exact .inl ⟨rfl, by simp⟩
  · cases e
    refine .inr ⟨ad', m, c, rfl, by rw [List.length_take]; omega, by omega, fun j u hj => hx j u ?_⟩
    rw [List.getElem?_take] at hj
    split at hj
    · exact hj
    · cases hj
theorem strs_take (l : List ByteArray) (n : Nat) : (strs l).take n = strs (l.take n) := by simp [strs]
theorem cell_two0 (w : World) (u v : Value) (t : TypeId) : (w.alloc (.cells #[u, v] t)).cell? ⟨w.heap.size, 0, none⟩ = some u := by
  unfold World.cell?
  rw [show (w.alloc (.cells #[u, v] t)).heap[w.heap.size]? = _ from heap_alloc_new w _]
  rfl
theorem cell_two1 (w : World) (u v : Value) (t : TypeId) : (w.alloc (.cells #[u, v] t)).cell? ⟨w.heap.size, 1, none⟩ = some v := by
  unfold World.cell?
  rw [show (w.alloc (.cells #[u, v] t)).heap[w.heap.size]? = _ from heap_alloc_new w _]
  rfl

set_option maxHeartbeats 1000000 in
theorem clone_any (v : Value) (xs : List ByteArray) (w : World) (h : Src w v (strs xs)) (hn : xs.length ≤ 1000000) :
    Calls Try.prog 25 #[v] w fun e w' => ∃ v', e = .returned v' ∧ w'.ownsRow w.heap.size 9 1 v' xs.length (strs xs) ∧ Below w.heap.size w w' := by
  obtain ⟨i0, hi, hz0, hz1, hz2⟩ := info_parts infoStr
  have q : ∀ (w : World) (a : Option Addr) (n c n' c' : Nat), (binOp .eql 22 (.slice a n c) (.slice none n' c')).run Try.prog w = .ok (.bool a.isNone) w := fun w a n c n' c' => Lib.run_eql_slice_nil w _ _ a n c n' c' Try.underlying22
  rcases h with ⟨rfl, hx⟩ | ⟨ad, n, c, rfl, hl, hc, hx⟩
  · have hx0 : xs = [] := by cases xs with | nil => rfl | cons x l => cases hx
    subst hx0
    clear hx
    go_enter Try.func25, Try.ntmps25
    go_wp2
    go_ret
    exact ⟨_, rfl, World.ownsRow_nil _ _ _ _, Below.refl _ _⟩
  · have HS : Hid (Src w (.slice (some ad) n c) (strs xs)) := Lib.hid (.inr ⟨ad, n, c, rfl, hl, hc, hx⟩)
    have hne : xs.length ≤ 1000000 := hn
    have HN : Hid (n = xs.length) := Lib.hid (by rw [hl, strs_length])
    have HXL : Hid (xs.length ≤ 1000000) := Lib.hid hn
    clear hx hl hn hne
    go_enter Try.func25, Try.ntmps25
    go_wp2_with (at_builtin; refine wpList_appS _ rfl _ _ 22 rfl w.heap.size 9 i0 (.string ⟨#[]⟩) 16 Try.underlying22 hi hz0 hz1 hz2 rfl _ _ _ (World.ownsRow_made w #[] 0 (Nat.le_refl _) (Nat.zero_le _) rfl) rfl _ _ rfl (HS.out.keep ((Below.refl _ _).alloc (Nat.le_refl _) _)) (strs_one _) ?c3 ?c4 ?c5 ?_)
    case c3 => have := HXL.out; rw [strs_length]; unfold maxLen; omega
    case c4 => have := HXL.out; rw [strs_length]; omega
    case c5 => simp
    intro v' w3 hown' hgrow
    go_wp2
    go_ret
    refine ⟨_, rfl, by simpa [strs_length] using hown', ((Below.refl _ w).alloc (Nat.le_refl _) _).grown hgrow (by simp) (by intro k hk; simp [Value.ownBlock] at hk; omega)⟩

/-- How many packets find room. -/
def roomOf (n m : Nat) : Nat := min (300 - n) m
theorem roomOf_le (n m : Nat) : roomOf n m ≤ m := Nat.min_le_right _ _
set_option maxHeartbeats 1000000 in
theorem send_any (vw vp : Value) (xs ys : List ByteArray) (w : World) (h1 : Src w vw (strs xs)) (h2 : Src w vp (strs ys)) (hx : xs.length ≤ 1000) (hy : ys.length ≤ 1000) :
    Calls Try.prog 9 #[vw, vp] w fun e w' => ∃ a n c, e = .returned (.tuple #[.slice a n c, .int .i64 ((ys.length - roomOf xs.length ys.length : Nat) : Int)]) ∧ SlAt w' a n (strs (xs ++ ys.take (roomOf xs.length ys.length))) ∧ Below w.heap.size w w' ∧ (∀ x, a = some x → w.heap.size ≤ x.block) ∧ n ≤ c := by
  obtain ⟨a1, c1, rfl⟩ := h1.shape
  obtain ⟨a2, c2, rfl⟩ := h2.shape
  rw [strs_length] at h1 h2 ⊢
  rw [strs_length]
  obtain ⟨N1, hN1⟩ : ∃ N1, N1 = xs.length := ⟨_, rfl⟩
  obtain ⟨N2, hN2⟩ : ∃ N2, N2 = ys.length := ⟨_, rfl⟩
  rw [← hN1] at h1 hx ⊢
  rw [← hN2] at h2 hy ⊢
  obtain ⟨R, hR⟩ : ∃ R, R = roomOf N1 N2 := ⟨_, rfl⟩
  rw [← hR]
  have hRle : R ≤ N2 := by rw [hR]; exact roomOf_le _ _
  have hRdef : R = min (300 - N1) N2 := hR
  have H1 := Lib.hid h1
  have H2 := Lib.hid h2
  have HN1 := Lib.hid hN1
  have HN2 := Lib.hid hN2
  clear h1 h2 hN1 hN2 hR
  have hcat : Hid (∀ t, Calls Try.prog 24 #[.slice (some ⟨w.heap.size, 0, none⟩) 2 2] (w.alloc (.cells #[.slice a1 N1 c1, .slice a2 R c2] t)) (RetSl (w.alloc (.cells #[.slice a1 N1 c1, .slice a2 R c2] t)) (strs (xs ++ ys.take R)))) := Lib.hid fun t =>
    concat_any w.heap.size _ _ xs (ys.take R) _ (cell_two0 _ _ _ _) (cell_two1 _ _ _ _) (H1.out.keep ((Below.refl _ w).alloc (Nat.le_refl _) _)) (by rw [← strs_take]; exact (H2.out.take hRle).keep ((Below.refl _ w).alloc (Nat.le_refl _) _)) (by have := HN1.out; have := HN2.out; rw [List.length_take]; omega)
  have hc2 : (R : Int) ≤ (c2 : Int) := by have := H2.out.le.2; omega
  have hR0 : (0 : Int) ≤ (R : Int) := by omega
  have hRN : ((N2 - R : Nat) : Int) = (N2 : Int) - (R : Int) := by omega
  rw [hRN]
  clear hRN
  by_cases hA : 300 < N1
  · have hAi : (300 : Int) - (N1 : Int) < 0 := by omega
    obtain rfl : R = 0 := by omega
    clear hRdef hRle
    go_enter Try.func9, Try.ntmps9
    go_wp2_with fail
    refine (hcat.out _).mono ?_
    rintro e w1 ⟨a, n, c, rfl, hsl, hb, hfr, hnc⟩
    have hsl2 := Lib.hid hsl
    have hb2 := Lib.hid hb
    have hfr2 := Lib.hid hfr
    have hnc2 := Lib.hid hnc
    clear hsl hb hfr hnc
    go_wp2
    go_ret2
    exact ⟨a, n, c, rfl, hsl2.out, below_then ((Below.refl _ w).alloc (Nat.le_refl _) _) hb2.out (by simp), fun x e => by have := hfr2.out x e; simp at this; omega, hnc2.out⟩
  · by_cases hB : 300 - N1 ≤ N2
    · have hAi : (300 : Int) - (N1 : Int) = (R : Int) := by omega
      have hBi : (R : Int) ≤ (N2 : Int) := by omega
      clear hRdef hRle
      go_enter Try.func9, Try.ntmps9
      go_wp2_with fail
      refine (hcat.out _).mono ?_
      rintro e w1 ⟨a, n, c, rfl, hsl, hb, hfr, hnc⟩
      have hsl2 := Lib.hid hsl
      have hb2 := Lib.hid hb
      have hfr2 := Lib.hid hfr
      have hnc2 := Lib.hid hnc
      clear hsl hb hfr hnc
      go_wp2
      go_ret2
      exact ⟨a, n, c, rfl, hsl2.out, below_then ((Below.refl _ w).alloc (Nat.le_refl _) _) hb2.out (by simp), fun x e => by have := hfr2.out x e; simp at this; omega, hnc2.out⟩
    · obtain rfl : R = N2 := by omega
      have hAi : (R : Int) < (300 : Int) - (N1 : Int) := by omega
      clear hRdef hRle
      go_enter Try.func9, Try.ntmps9
      go_wp2_with fail
      refine (hcat.out _).mono ?_
      rintro e w1 ⟨a, n, c, rfl, hsl, hb, hfr, hnc⟩
      have hsl2 := Lib.hid hsl
      have hb2 := Lib.hid hb
      have hfr2 := Lib.hid hfr
      have hnc2 := Lib.hid hnc
      clear hsl hb hfr hnc
      go_wp2
      go_ret2
      exact ⟨a, n, c, by rw [Int.sub_self]; rfl, hsl2.out, below_then ((Below.refl _ w).alloc (Nat.le_refl _) _) hb2.out (by simp), fun x e => by have := hfr2.out x e; simp at this; omega, hnc2.out⟩

set_option maxHeartbeats 1000000 in
theorem take_bad (vw : Value) (xs : List ByteArray) (i : Int) (w : World) (h1 : Src w vw (strs xs)) (hb : i < 0 ∨ (xs.length : Int) ≤ i) :
    Calls Try.prog 11 #[vw, .int .i64 i] w fun e w' => e = .returned (.tuple #[.slice none 0 0, .string ⟨#[]⟩, .int .i64 60]) ∧ w' = w := by
  obtain ⟨a1, c1, rfl⟩ := h1.shape
  rw [strs_length]
  clear h1
  generalize xs.length = N1 at *
  by_cases h0 : i < 0
  · clear hb
    go_enter Try.func11, Try.ntmps11
    go_wp2
    refine bodyPost_ret (results_tmp3 rfl _ _ _) rfl ?_
    exact ⟨rfl, rfl⟩
  · have hge : (N1 : Int) ≤ i := by omega
    clear hb
    go_enter Try.func11, Try.ntmps11
    go_wp2
    refine bodyPost_ret (results_tmp3 rfl _ _ _) rfl ?_
    exact ⟨rfl, rfl⟩
theorem twice_bad (vw : Value) (xs : List ByteArray) (i : Int) (w : World) (h1 : Src w vw (strs xs)) (hb : i < 0 ∨ (xs.length : Int) ≤ i) :
    Calls Try.prog 12 #[vw, .int .i64 i] w fun e w' => e = .returned (.tuple #[.slice none 0 0, .int .i64 60]) ∧ w' = w := by
  obtain ⟨a1, c1, rfl⟩ := h1.shape
  rw [strs_length]
  clear h1
  generalize xs.length = N1 at *
  by_cases h0 : i < 0
  · clear hb
    go_enter Try.func12, Try.ntmps12
    go_wp2
    go_ret2
    exact ⟨rfl, rfl⟩
  · have hge : (N1 : Int) ≤ i := by omega
    clear hb
    go_enter Try.func12, Try.ntmps12
    go_wp2
    go_ret2
    exact ⟨rfl, rfl⟩
theorem twice_full (vw : Value) (xs : List ByteArray) (k : Nat) (w : World) (h1 : Src w vw (strs xs)) (hb : k < xs.length) (hf : 300 ≤ xs.length) :
    Calls Try.prog 12 #[vw, .int .i64 (k : Int)] w fun e w' => e = .returned (.tuple #[.slice none 0 0, .int .i64 130]) ∧ w' = w := by
  obtain ⟨a1, c1, rfl⟩ := h1.shape
  rw [strs_length]
  clear h1
  generalize xs.length = N1 at *
  have hki : ¬ (k : Int) < 0 := by omega
  have hkn : (k : Int) < (N1 : Int) := by omega
  have hfn : (300 : Int) ≤ (N1 : Int) := by omega
  go_enter Try.func12, Try.ntmps12
  go_wp2
  go_ret2
  exact ⟨rfl, rfl⟩
end Go.Proofs.Ytdlnabjledhiiaa
