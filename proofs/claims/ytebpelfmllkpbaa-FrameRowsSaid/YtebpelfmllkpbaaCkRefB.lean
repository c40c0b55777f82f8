/-
  The walk of the reference's Cuts, and of the laws' short: for texts of at most 20000 bytes, any text.
-/
import Derived.Test.YtebpelfmllkpbaaCkRef
import Derived.Test.YtebpelfmllkpbaaCkLike
import Derived.Test.YtebpelfmllkpbaaApp
namespace Go.Proofs.Ytebpelfmllkpbaa
open Go.RowKit
set_option linter.unusedVariables false

theorem texts_length (s : ByteArray) : (texts s).length = (chunks s.data.toList).length := by simp [texts]
theorem chunks_count (l : List UInt8) : (chunks l).length ≤ l.length := by
  have : ∀ f (l : List UInt8), (txs f l).length ≤ f := by
    intro f
    induction f with
    | zero => intro l; simp [txs]
    | succ f ih => intro l; simp only [txs]; split <;> simp [ih]
  exact this _ _
theorem texts_count (s : ByteArray) : (texts s).length ≤ s.size := by
  rw [texts_length]; have := chunks_count s.data.toList; simpa using this

/-- The sum of the first i lengths. -/
def sumLen (l : List (List UInt8)) (i : Nat) : Nat := (l.take i).flatten.length
theorem sumLen_succ (l : List (List UInt8)) (i : Nat) (h : i < l.length) : sumLen l (i + 1) = sumLen l i + l[i].length := by
  unfold sumLen; rw [List.take_succ_eq_append_getElem h, List.flatten_append, List.length_append]; simp
theorem sumLen_le (l : List (List UInt8)) (i : Nat) : sumLen l i ≤ l.flatten.length := by
  unfold sumLen
  have h : l.flatten = (l.take i).flatten ++ (l.drop i).flatten := by rw [← List.flatten_append, List.take_append_drop]
  rw [h, List.length_append]; omega
theorem places_take (l : List (List UInt8)) (i : Nat) (h : i < l.length) : (places 0 l).take (i + 1) = (places 0 l).take i ++ [sumLen l (i + 1)] := by
  rw [List.take_succ_eq_append_getElem (by rw [places_length]; exact h)]
  congr 1
  have h1 : l = l.take i ++ l[i] :: l.drop (i + 1) := by rw [← List.drop_eq_getElem_cons h, List.take_append_drop]
  have h2 : ∀ (a : Nat) (x y : List (List UInt8)), places a (x ++ y) = places a x ++ places (a + x.flatten.length) y := by
    intro a x y
    induction x generalizing a with
    | nil => simp [places]
    | cons t x ih => simp only [List.cons_append, places, ih, List.flatten_cons, List.length_append, Nat.add_assoc]
  have h3 : (places 0 l)[i]? = some (sumLen l (i + 1)) := by
    rw [sumLen_succ l i h]
    conv => lhs; rw [h1, h2]
    rw [List.getElem?_append_right (by rw [places_length, List.length_take]; omega), places_length, List.length_take, Nat.min_eq_left (by omega), Nat.sub_self]
    simp [places, sumLen]
  rw [(List.getElem?_eq_some_iff.1 h3).2]

theorem own_ne {v : Value} {B C : Nat} (h : v.ownBlock = some B ∨ ∀ g, v.ownBlock = some g → C ≤ g) : ∀ r, v.ownBlock = some r → r = B ∨ C ≤ r := fun r hr => by
  rcases h with h | h
  · rw [h] at hr; cases hr; exact .inl rfl
  · exact .inr (h r hr)
set_option maxHeartbeats 1000000 in
theorem reCuts_any (s : ByteArray) (w : World) (hs : s.size ≤ 20000) (xs : List Value) (hxs : Hid (xs = i64s (natInts (cuts s.data.toList)))) :
    Calls Try.prog 27 #[.string s] w (RetSl w xs) := by
  obtain ⟨i0, hi, hz0, hz1, hz2⟩ := info_parts infoInt
  go_enter Try.func27, Try.ntmps27
  go_wp2_with fail
  refine (reTexts_any s _ hs _ rfl).mono ?_
  rintro e w1 ⟨a, n, c, rfl, hsl, hb, hfr, _⟩
  have hn := hsl.1
  rw [strs_length] at hn
  have hnle : n ≤ s.size := by rw [hn]; exact texts_count s
  have hbs := hb.size
  rw [World.size_alloc] at hbs hfr
  have hb0 : Below w.heap.size w w1 := ((Below.refl _ _).alloc (Nat.le_refl _) _).trans (hb.mono (by simp))
  have HB := Lib.hid hb0
  have hrow0 : w1.ownsRow w.heap.size 3 1 (.slice (some ⟨w.heap.size, 0, none⟩) 0 0) 0 [] :=
    World.ownsRow.kept (row := none) (World.ownsRow_made w #[] 0 (Nat.le_refl _) (Nat.zero_le _) rfl) (grown_below hb none) (.inr (by simp [Value.ownBlock]))
  have HR := Lib.hid hrow0
  have HN := Lib.hid hn
  have HSL := Lib.hid hsl
  have HLT : Hid (∀ x, a = some x → 0 < n → x.block < w1.heap.size) := Lib.hid fun x hx h0 => by
    obtain ⟨-, b, off, ha, hc⟩ := hsl.str h0
    have h1 := World.block_lt_of_cell? w1 _ (hc 0 (by omega))
    rw [ha] at hx; cases hx; exact h1
  have HFR := Lib.hid hfr
  have HBS := Lib.hid hbs
  clear hn hsl hb hb0 hrow0 hfr hbs
  go_wp2_with fail
  go_loopg [3, 4, 11] n (fun gk v f i wr => ∃ k : Nat, k ≤ n ∧ gk = n - k ∧ f = .int .i64 (sumLen (chunks s.data.toList) k : Int) ∧ i = .int .i64 (k : Int) ∧
    Hid (wr.ownsRow w.heap.size 3 1 v k (i64s (natInts ((cuts s.data.toList).take k)))) ∧ Hid (SlAt wr a n (strs (texts s))) ∧ Hid (Below w.heap.size w wr) ∧ Hid (v.ownBlock = some w.heap.size ∨ ∀ g, v.ownBlock = some g → w1.heap.size ≤ g) ∧ Hid (w1.heap.size ≤ wr.heap.size))
  case atStart => exact ⟨0, Nat.zero_le _, rfl, rfl, rfl, HR, HSL, HB, Or.inl rfl, Nat.le_refl _⟩
  case round =>
    obtain ⟨k, hk, rfl, rfl, rfl, hO, hS, hW, hV, hZ⟩ := hrel
    by_cases hlt : k < n
    · obtain ⟨-, b, off, rfl, hcell⟩ := hS.out.str (by omega)
      have hkt : k < (texts s).length := by rw [← HN.out]; exact hlt
      have hkc : k < (chunks s.data.toList).length := by rw [← texts_length]; exact hkt
      have hc := hcell k hkt
      have hlen : ((texts s)[k]).size = ((chunks s.data.toList)[k]).length := by simp only [texts, List.getElem_map, strOf_size]
      have hsum := sumLen_succ (chunks s.data.toList) k hkc
      have htk := Lib.hid (places_take (chunks s.data.toList) k hkc)
      have hbd : Hid (sumLen (chunks s.data.toList) (k + 1) ≤ s.size) := Lib.hid (by
        have h1 := sumLen_le (chunks s.data.toList) (k + 1)
        rw [chunks_flat] at h1
        simpa using h1)
      have HH := Lib.hid hcell
      have HLEN := Lib.hid hlen
      have HSUM := Lib.hid hsum
      have hown := hO.out
      have hsz : ((texts s)[k]).size ≤ s.size := by rw [hlen]; have := hbd.out; omega
      have hs0 : sumLen (chunks s.data.toList) k ≤ s.size := by have := hbd.out; omega
      have hs1 : sumLen (chunks s.data.toList) k + ((texts s)[k]).size ≤ s.size := by have := hbd.out; omega
      have hzz := hZ.out
      have hbz := HBS.out
      clear hcell hlen hsum
      have HTX : Hid (((sumLen (chunks s.data.toList) k : Int) + ((texts s)[k].size : Int)) = ((sumLen (chunks s.data.toList) (k + 1) : Nat) : Int)) := Lib.hid (by have := HSUM.out; have := HLEN.out; omega)
      generalize (texts s)[k] = tk at *
      generalize sumLen (chunks s.data.toList) k = sk at *
      go_wp2_with (at_builtin; refine wpList_app1 wr rfl _ _ 37 rfl w.heap.size 3 i0 (.int .i64 0) 8 Try.underlying37 hi hz0 hz1 hz2 rfl _ _ _ hown rfl (.int .i64 ((sk : Int) + (tk.size : Int))) 3 rfl rfl ?c3 ?c4 ?c5 ?_)
      case c3 => unfold maxLen; omega
      case c4 => omega
      case c5 => omega
      intro v' w3 hown' hgrow hblk
      rw [HTX.out] at hown'
      have hne := own_ne hV.out
      have hb1 : b < w1.heap.size := HLT.out _ rfl (by omega)
      have hb2 : w.heap.size + 1 ≤ b := HFR.out _ rfl
      have ho2 : w3.ownsRow w.heap.size 3 1 v' (k + 1) (i64s (natInts ((cuts s.data.toList).take (k + 1)))) := by
        rw [cuts, htk.out, natInts_snoc, i64s_snoc]; exact hown'
      have HO2 := Lib.hid ho2
      have HS2 : Hid (SlAt w3 (some ⟨b, off, none⟩) n (strs (texts s))) := Lib.hid (hS.out.kept hgrow (fun x hx e => by
        simp at hx; subst hx
        rcases hne _ e with h | h <;> omega))
      have HW2 : Hid (Below w.heap.size w w3) := Lib.hid (hW.out.grown hgrow (by omega) (fun x e => by rcases hne _ e with h | h <;> omega))
      have HZ2 : Hid (w1.heap.size ≤ w3.heap.size) := Lib.hid (by have := hgrow.size; omega)
      have HV2 : Hid (v'.ownBlock = some w.heap.size ∨ ∀ g, v'.ownBlock = some g → w1.heap.size ≤ g) := Lib.hid (by
        rcases hblk with h | h
        · rw [h]; exact hV.out
        · exact .inr (fun g e => by rw [h] at e; cases e; omega))
      clear hown' hgrow hown ho2
      go_wp2_with fail
      go_roundg (n - (k + 1))
      case rel => exact ⟨k + 1, by omega, rfl, by exact val_int HTX.out, by go_num, HO2, HS2, HW2, HV2, HZ2⟩
      case measure => omega
    · obtain rfl : k = n := by omega
      go_wp2_with fail
      go_ret
      obtain ⟨a', n', c', hv, hsl, hfr, hnc⟩ := own_slice hO.out
      subst hv
      refine ⟨a', n', c', rfl, ?_, hW.out, hfr, hnc⟩
      rw [hxs.out]
      rw [List.take_of_length_le (by rw [cuts_length, ← texts_length, ← HN.out]; exact Nat.le_refl _)] at hsl
      exact hsl
end Go.Proofs.Ytebpelfmllkpbaa
