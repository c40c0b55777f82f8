/-
  The walk of chunk.Texts: a text's chunks, in a slice of one's own; for texts of at most 20000 bytes.
-/
import Derived.Test.YtebpelfmllkpbaaCkCuts
namespace Go.Proofs.Ytebpelfmllkpbaa
open Go.RowKit
set_option linter.unusedVariables false

theorem extract_piece (s : ByteArray) (k n : Nat) : s.extract k (k + n) = strOf ((restOf s k).take n) := by
  rw [extract_strOf, Nat.add_sub_cancel_left]; rfl
def texts (s : ByteArray) : List ByteArray := (chunks s.data.toList).map strOf

theorem cuts_split {l : List UInt8} {r : List (List UInt8)} {k : Nat} (h : Cutting l r k) : cuts l = places 0 r ++ places k (chunks (l.drop k)) := by
  have h1 : ∀ (a : Nat) (x y : List (List UInt8)), places a (x ++ y) = places a x ++ places (a + x.flatten.length) y := by
    intro a x y
    induction x generalizing a with
    | nil => simp [places]
    | cons t x ih => simp only [List.cons_append, places, ih, List.flatten_cons, List.length_append, Nat.add_assoc]
  rw [cuts, h.chunks, h1, h.flatLen, Nat.zero_add]
theorem cuts_more {s : ByteArray} {r : List (List UInt8)} {k : Nat} (h : Cutting s.data.toList r k) (hi : r.length < (cuts s.data.toList).length) :
    k < s.size ∧ (cuts s.data.toList)[r.length] = k + chunkLen (restOf s k) := by
  have hk : k < s.size := by
    rcases Nat.lt_or_ge k s.size with h1 | h1
    · exact h1
    · have := h.done (by simpa using h1)
      rw [cuts, this, places_length] at hi; omega
  refine ⟨hk, ?_⟩
  have hs := cuts_split h
  have hne : s.data.toList.drop k ≠ [] := by intro e; have := congrArg List.length e; simp at this; omega
  rw [chunks_cons _ hne] at hs
  have hlen : (places 0 r).length = r.length := places_length 0 r
  have : (cuts s.data.toList)[r.length]? = some (k + chunkLen (restOf s k)) := by
    rw [hs, List.getElem?_append_right (by omega), hlen, Nat.sub_self]
    simp only [places, List.getElem?_cons_zero, List.length_take]
    have := rest_le s k hk
    have hl := restOf_length s k
    rw [show s.data.toList.drop k = restOf s k from rfl]
    congr 1; omega
  exact (List.getElem?_eq_some_iff.1 this).2
theorem cuts_length (l : List UInt8) : (cuts l).length = (chunks l).length := places_length 0 _

set_option maxHeartbeats 1000000 in
theorem chTexts_any (s : ByteArray) (w : World) (hs : s.size ≤ 20000) (xs : List Value) (hxs : Hid (xs = strs (texts s))) :
    Calls Try.prog 28 #[.string s] w (RetSl w xs) := by
  obtain ⟨i0, hi, hz0, hz1, hz2⟩ := info_parts infoStr
  go_enter Try.func28, Try.ntmps28
  go_wp2_with fail
  refine (chCuts_any s w hs _ rfl).mono ?_
  rintro e w1 ⟨a, n, c, rfl, hsl, hb, _⟩
  have hn := hsl.1
  rw [i64s_length, natInts_length] at hn
  have hnle : n ≤ s.size := by
    rw [hn, cuts_length]
    have h1 : ∀ l : List UInt8, (chunks l).length ≤ l.length := by
      intro l
      have : ∀ f (l : List UInt8), (txs f l).length ≤ f := by
        intro f
        induction f with
        | zero => intro l; simp [txs]
        | succ f ih => intro l; simp only [txs]; split <;> simp [ih]
      exact this _ _
    have := h1 s.data.toList
    simpa using this
  have HN := Lib.hid hn
  have HSL := Lib.hid hsl
  have HB := Lib.hid hb
  clear hn hsl hb
  go_wp2_with fail
  go_loopg [3, 4, 10] n (fun gk v f i wr => ∃ (r : List (List UInt8)) (k : Nat), r.length ≤ n ∧ gk = n - r.length ∧ f = .int .i64 k ∧ i = .int .i64 (r.length : Int) ∧
    Hid (Cutting s.data.toList r k) ∧ Hid (wr.ownsRow w1.heap.size 9 1 v r.length (strs (r.map strOf))) ∧ Hid (Below w1.heap.size w1 wr))
  case atStart => exact ⟨[], 0, Nat.zero_le _, rfl, rfl, rfl, Cutting.start, World.ownsRow_nil _ _ _ _, Below.refl _ _⟩
  case round =>
    obtain ⟨r, k, hr, rfl, rfl, rfl, hC, hO, hW⟩ := hrel
    by_cases hlt : r.length < n
    · have hlt2 : r.length < (cuts s.data.toList).length := by rw [← HN.out]; exact hlt
      obtain ⟨hk, hcut⟩ := cuts_more hC.out hlt2
      obtain ⟨-, b, off, rfl, hcell⟩ := (HSL.out.keep hW.out).i64 (by omega)
      have hc := hcell r.length (by rw [natInts_length]; exact hlt2)
      have hv : (natInts (cuts s.data.toList))[r.length]'(by rw [natInts_length]; exact hlt2) = ((k + chunkLen (restOf s k) : Nat) : Int) := by
        simp only [natInts, List.getElem_map, hcut]; rfl
      rw [hv] at hc
      clear hv hcell hcut hlt2
      have hle := rest_le s k hk
      have hps := rest_pos s k
      have hown := hO.out
      have hszw := hW.out.size
      have hbel2 := HB.out.size
      have hpiece := Lib.hid (extract_piece s k (chunkLen (restOf s k)))
      have HK := Lib.hid hk
      have HST := Lib.hid (Cutting.step hC.out (show k < s.data.toList.length by simpa using hk))
      have HSS := Lib.hid (show Cutting s.data.toList (r ++ [(restOf s k).take (chunkLen (restOf s k))]) (k + chunkLen (restOf s k)) from HST.out)
      clear HST
      generalize chunkLen (restOf s k) = cl at *
      go_wp2_with (at_builtin; refine wpList_append_own _ rfl _ _ 31 rfl w1.heap.size 9 i0 (.string ⟨#[]⟩) 1 16 Try.underlying31 hi hz0 hz1 hz2 rfl (by decide) _ _ _ rfl (hown.alloc _) ⟨wr.heap.size, 0, none⟩ 1 1 [.string (s.extract k (k + cl))] rfl rfl (cell_one_new _ _ _) (by simp [Value.oneCell']) ?c3 ?c4 ?c5 ?_)
      case c3 => unfold maxLen; omega
      case c4 => omega
      case c5 => simp; omega
      intro v' w3 hown' hgrow _
      have ho2 : w3.ownsRow w1.heap.size 9 1 v' (r ++ [(restOf s k).take cl]).length (strs ((r ++ [(restOf s k).take cl]).map strOf)) := by
        rw [List.map_append, List.map_cons, List.map_nil, strs_snoc, ← hpiece.out, List.length_append]
        exact hown'
      have HO2 := Lib.hid ho2
      have hb2 : Below w1.heap.size w1 w3 := (hW.out.alloc (by omega) _).grown hgrow (by simp; omega) (fun b e => by have := hown.lt b e; omega)
      have HB2 := Lib.hid hb2
      clear ho2 hb2 hown' hgrow hown
      go_wp2_with fail
      go_roundg (n - (r.length + 1))
      case rel => exact ⟨_, k + cl, by simp; omega, by simp, by go_num, by simp, HSS, HO2, HB2⟩
      case measure => omega
    · go_wp2_with fail
      go_ret
      have hall : Go.Proofs.Ytebpelfmllkpbaa.chunks s.data.toList = r := by
        have h1 := hC.out.chunks
        have h2 : (Go.Proofs.Ytebpelfmllkpbaa.chunks s.data.toList).length = r.length := by have := HN.out; rw [cuts_length] at this; omega
        rw [h1, List.length_append] at h2
        rw [h1, List.eq_nil_of_length_eq_zero (show (Go.Proofs.Ytebpelfmllkpbaa.chunks (s.data.toList.drop k)).length = 0 by omega), List.append_nil]
      have hown := hO.out
      have hbe : Below w.heap.size w wr := HB.out.trans (hW.out.mono HB.out.size)
      obtain ⟨a, n, c, hv, hsl, hfr, hnc⟩ := own_slice hown
      subst hv
      refine ⟨a, n, c, rfl, ?_, hbe, fun x hx => by have := hfr x hx; have := HB.out.size; omega, hnc⟩
      rw [hxs.out, texts, hall]
      exact hsl
end Go.Proofs.Ytebpelfmllkpbaa
