/-
  code.reader's value, whole.
-/
import Derived.Test.YtdlnabjledhiiaaDoorCvValL
namespace Go.Proofs.YtdlnabjledhiiaaDoor
open Go.RowKit
set_option linter.unusedVariables false

theorem value_text (r : Nat) (s : ByteArray) (k : Int) (a m : Nat) (w : World) (h : RdAt w r s a m 0) (hs : s.size ≤ 131072) (h1 : a < s.size) (hb : 48 ≤ s[a].toNat ∧ s[a].toNat ≤ 57) (hk : k < 30) (hm : m < 4000) :
    Calls Tryd.prog 33 #[.pointer (some ⟨r, 0, none⟩), .int .i64 k] w (ValPost r s w (rdText s a (m + 1))) := by
  unfold rdText
  have hok := digitsL_ok s 131072 a (by decide) (s.size + 1 - a) 0 a (Nat.le_refl _) (Nat.zero_le _)
  have hx : Hid (digitsL s 131072 a (s.size + 1 - a) 0 a = digitsL s 131072 a (s.size + 1 - a) 0 a) := Lib.hid rfl
  generalize hg : digitsL s 131072 a (s.size + 1 - a) 0 a = x at *
  rw [← hg] at hx
  obtain ⟨x1, x2, x3, x4⟩ := x
  dsimp only at *
  cases x2 with
  | false => exact value_text_a r s k a m w h hs h1 hb hk hm x1 x3 x4 (Lib.hid hg.symm)
  | true =>
    rw [if_pos rfl]
    obtain ⟨hx4, hx1, -, hx3⟩ := hok rfl
    subst hx4
    have hma := mustL_at s x3 58
    have hmo := mustL_ok s x3 58
    generalize hh : mustL s x3 58 = y at *
    obtain ⟨y1, y2, y3⟩ := y
    dsimp only at *
    cases y1 with
    | false => exact value_text_b r s k a m w h hs h1 hb hk hm x1 x3 (Lib.hid hg.symm) y2 y3 (Lib.hid hh.symm)
    | true =>
      rw [if_pos rfl]
      obtain ⟨hy2, hy3⟩ := hma rfl
      have hy4 := hmo rfl
      subst hy4
      by_cases hn : s.size - y2 < x1
      · rw [if_pos hn]
        exact value_text_c r s k a m w h hs h1 hb hk hm x1 x3 (Lib.hid hg.symm) y2 (Lib.hid hh.symm) (by omega) hx1 hn
      · rw [if_neg hn]
        exact value_text_d r s k a m w h hs h1 hb hk hm x1 x3 (Lib.hid hg.symm) y2 (Lib.hid hh.symm) (by omega) hx1 (by omega)
theorem value_any (r : Nat) (s : ByteArray) (hs : s.size ≤ 131072) : ∀ (d : Nat) (k : Int), k + (d : Int) = 30 → 0 ≤ k → ∀ (a m : Nat) (w : World), RdAt w r s a m 0 → a ≤ s.size → m ≤ 4000 →
    Calls Tryd.prog 33 #[.pointer (some ⟨r, 0, none⟩), .int .i64 k] w (ValPost r s w (rdValue s d a m))
  | 0, k, hk, hk0, a, m, w, h, ha, hm => by
    rw [rdValue]
    by_cases h1 : a < s.size
    · rw [at_lt h1]
      dsimp only
      cases hb : begins s[a] with
      | true => rw [if_pos rfl]; exact value_deep r s k a m w h hs h1 hb (by omega)
      | false => exact value_byte r s k a m w h hs h1 hb
    · rw [at_ge h1]; exact value_end r s k a m w h hs h1
  | d + 1, k, hk, hk0, a, m, w, h, ha, hm => by
    rw [rdValue]
    by_cases h1 : a < s.size
    · rw [at_lt h1]
      dsimp only
      cases hb : begins s[a] with
      | false => exact value_byte r s k a m w h hs h1 hb
      | true =>
        rw [if_pos rfl]
        by_cases h2 : 4000 ≤ m
        · rw [if_pos h2]; exact value_long r s k a m w h hs h1 hb (by omega) h2
        · rw [if_neg h2]
          by_cases h3 : s[a] = 105
          · rw [if_pos h3]; exact value_number r s k a m w h hs h1 h3 (by omega) (by omega)
          · rw [if_neg h3]
            by_cases h4 : s[a] = 108
            · rw [if_pos h4]
              exact value_list r s k a m w h hs h1 h4 (by omega) hk0 (by omega) (rdValue s d) (Lib.hid (rdValue_good s d)) (Lib.hid (value_any r s hs d (k + 1) (by omega) (by omega))) _ (Lib.hid rfl)
            · rw [if_neg h4]
              refine value_text r s k a m w h hs h1 ?_ (by omega) (by omega)
              unfold begins at hb
              simpa [h3, h4] using hb
    · rw [at_ge h1]; exact value_end r s k a m w h hs h1
end Go.Proofs.YtdlnabjledhiiaaDoor
