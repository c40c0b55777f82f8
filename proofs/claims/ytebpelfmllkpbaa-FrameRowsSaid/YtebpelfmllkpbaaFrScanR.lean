/-
  The walk of the reference's Scan: the bodies of all frames of a text of at most 200000 bytes, in a slice of one's own, and the place where the last frame ends.
-/
import Derived.Test.YtebpelfmllkpbaaFrWalkC
import Derived.Deep.LoopGhost
namespace Go.Proofs.Ytebpelfmllkpbaa
open Go.RowKit
set_option linter.unusedVariables false

/-- What a scan hands back. -/
def ScanP (w : World) (l : List UInt8) (e : Ending) (w' : World) : Prop :=
  ∃ a n c, e = .returned (.tuple #[.slice a n c, .int .i64 (taken (bodies l) : Int)]) ∧ SlAt w' a n (strs ((bodies l).map strOf)) ∧ Below w.heap.size w w' ∧ (∀ x, a = some x → w.heap.size ≤ x.block) ∧ n ≤ c

set_option maxHeartbeats 1000000 in
theorem reScan_any (s : ByteArray) (w : World) (hs : s.size ≤ 200000) (l : List UInt8) (hl : Hid (l = s.data.toList)) :
    Calls Try.prog 20 #[.string s] w (ScanP w l) := by
  obtain ⟨i0, hi, hz0, hz1, hz2⟩ := info_parts infoStr
  go_enter Try.func20, Try.ntmps20
  go_wp2_with fail
  go_loopg [4, 5] s.size (fun gk v i wr => ∃ (r : List (List UInt8)) (k : Nat), gk = s.size - k ∧ i = .int .i64 k ∧ k ≤ s.size ∧ Hid (Told l r k) ∧ Hid (wr.ownsRow w.heap.size 9 1 v r.length (strs (r.map strOf))) ∧ Hid (Below w.heap.size w wr))
  case atStart => exact ⟨[], 0, rfl, rfl, Nat.zero_le _, Told.start, World.ownsRow_made w #[] 0 (Nat.le_refl _) (Nat.zero_le _) rfl, (Below.refl _ _).alloc (Nat.le_refl _) _⟩
  case round =>
    obtain ⟨r, k, rfl, rfl, hk, hT, hO, hW⟩ := hrel
    have hone := Lib.hid (one_any (s.extract k s.size))
    have hsz : (s.extract k s.size).size ≤ 9000000000000000000 := by simp; omega
    have hli : Hid ((s.extract k s.size).data.toList = l.drop k) := Lib.hid (by rw [hl.out]; exact Lib.extract_to_end s k)
    have HSZ := Lib.hid hsz
    have hcnt := hT.out.count
    clear hsz
    go_wp2_with fail
    refine (hone.out _ HSZ.out).mono ?_
    rintro e w1 ⟨t, b, rfl, hb, hbel⟩
    have HB := Lib.hid (below_then hW.out hbel hW.out.size)
    have HO := Lib.hid (World.ownsRow.kept (row := none) hO.out (grown_below hbel none) (by cases hv : Value.ownBlock _ <;> simp))
    clear hbel
    rcases hb with ⟨rfl, ho⟩ | ⟨rfl, ho⟩
    · rw [hli.out] at ho
      have hst := Told.step hT.out ho
      obtain ⟨o1, o2, -⟩ := oneL_some ho
      have HST := Lib.hid hst
      have ht : t.size + k + 12 ≤ s.size := by rw [← size_len] at o2; have := hl.out; subst this; simp at o2; omega
      have hbz := HB.out.size
      have hown := HO.out
      clear ho hst o1 o2
      have hE : Hid (strOf t.data.toList = t) := Lib.hid (strOf_self t)
      go_wp2_with (at_builtin; refine wpList_app1 w1 rfl _ _ 31 rfl w.heap.size 9 i0 (.string ⟨#[]⟩) 16 Try.underlying31 hi hz0 hz1 hz2 rfl _ _ _ hown rfl (.string t) 9 rfl rfl ?c3 ?c4 ?c5 ?_)
      case c3 => unfold maxLen; omega
      case c4 => omega
      case c5 => omega
      intro v' w3 hown' hgrow hblk
      have ho2 : w3.ownsRow w.heap.size 9 1 v' (r ++ [t.data.toList]).length (strs ((r ++ [t.data.toList]).map strOf)) := by
        rw [List.map_append, List.map_cons, List.map_nil, strs_snoc, hE.out, List.length_append]; exact hown'
      have HO2 := Lib.hid ho2
      have HW2 : Hid (Below w.heap.size w w3) := Lib.hid (HB.out.grown hgrow hbz (fun x e => (hown.lt x e).1))
      have HST2 : Hid (Told l (r ++ [t.data.toList]) (k + t.size + 12)) := Lib.hid (by have := HST.out; rw [← size_len] at this; exact this)
      clear hown' hgrow hown ho2 hblk
      go_wp2_with fail
      go_roundg (s.size - (k + t.size + 12))
      case rel => exact ⟨_, k + t.size + 12, rfl, by go_num, by omega, HST2, HO2, HW2⟩
      case measure => omega
    · rw [hli.out] at ho
      obtain ⟨d1, d2⟩ := hT.out.done ho
      have D1 := Lib.hid d1
      have D2 := Lib.hid d2
      clear d1 d2 ho
      go_wp2_with fail
      go_ret2
      obtain ⟨a, n, c, hv, hsl, hfr, hnc⟩ := own_slice HO.out
      subst hv
      refine ⟨a, n, c, ?_, ?_, HB.out, hfr, hnc⟩
      · rw [D2.out]; rfl
      · rw [D1.out]; exact hsl
end Go.Proofs.Ytebpelfmllkpbaa
