/-
  The walk of delta.Make where the new text does not stand in the old one as a whole: the places, the copies and inserts; new blocks alone are made.
-/
import Derived.Test.YtdlnabjledhiiaaMkWalkA
import Derived.Maps.Own
import Derived.Maps.OwnOps
import Derived.Maps.OwnSet
import Derived.Deep.DeepCutAuto
import Derived.IntWalk
import Derived.Deep.CutBlock
namespace Go.Proofs.Ytdlnabjledhiiaa
open Go.RowKit Go.Maps Go.WideMaps
set_option linter.unusedVariables false

theorem lawStr : Keyed Try.prog 9 := string_keyed Try.underlying9
theorem zeroInt (w : World) : (zeroValue 3).run Try.prog w = .ok (.int .i64 0) w := by kernel_rfl
/-- Block b is a map of places. -/
def PlacesAt (old : List UInt8) (w : World) (b n : Nat) : Prop := ∃ D : DataW PUnit, w.ownsMap Try.prog 9 (plainElem Try.prog 3) b n D ∧ Places old D
theorem PlacesAt.keep {old : List UInt8} {w w' : World} {b n : Nat} (h : PlacesAt old w b n) (hb : Below w.heap.size w w') : PlacesAt old w' b n := by
  obtain ⟨D, ⟨es, clock, hh, F, hs, hD⟩, hp⟩ := h
  exact ⟨D, ⟨es, clock, (hb.block b (by rcases Nat.lt_or_ge b w.heap.size with h1 | h1; exact h1; rw [Array.getElem?_eq_none h1] at hh; cases hh)).trans hh, F, hs, hD⟩, hp⟩

/-- Block b holds the one op that inserts the whole text. -/
def WholeAt (now : ByteArray) (w : World) (b : Nat) : Prop := w.cell? ⟨b, 0, none⟩ = some (.int .i64 0) ∧ w.cell? ⟨b, 1, none⟩ = some (.int .i64 0) ∧ w.cell? ⟨b, 2, none⟩ = some (.string now)
theorem WholeAt.keep {now : ByteArray} {w w' : World} {b : Nat} (h : WholeAt now w b) (hb : Below w.heap.size w w') : WholeAt now w' b := ⟨cell_keep hb h.1, cell_keep hb h.2.1, cell_keep hb h.2.2⟩
theorem WholeAt.kept {now : ByteArray} {w w' : World} {b g : Nat} (h : WholeAt now w b) (hg : w.grownBy w' (some g)) (hne : b ≠ g) : WholeAt now w' b :=
  ⟨hg.cell h.1 (fun e => hne (by injection e)), hg.cell h.2.1 (fun e => hne (by injection e)), hg.cell h.2.2 (fun e => hne (by injection e))⟩
theorem WholeAt.sl {now : ByteArray} {w : World} {b : Nat} (h : WholeAt now w b) : OpsSl w (some ⟨b, 0, none⟩) 1 [textOp now] :=
  ⟨rfl, .inr ⟨b, 0, rfl, fun i hi => by
    have : i = 0 := by simp at hi; omega
    subst this
    exact h⟩⟩

set_option maxRecDepth 100000 in
set_option maxHeartbeats 8000000 in
theorem make_search (old now : ByteArray) (m : Int) (w : World) (hm : w.cell? ⟨0, 0, none⟩ = some (.int .i64 m)) (h : old.size ≤ 131072) (hn : now.size ≤ 131072) (h16 : 16 ≤ now.size) (hp : Lib.index old.data.toList now.data.toList = -1) :
    Calls Try.prog 22 #[.string old, .string now] w (MkPost old now w) := by
  obtain ⟨i0, hi, hz0, hz1, hz2⟩ := info_parts infoOp
  have HI := Lib.hid hi
  have HZ := Lib.hid (And.intro hz0 (And.intro hz1 hz2))
  have h1 : (old.size : Int) ≤ 131072 := by omega
  have h2 : (now.size : Int) ≤ 131072 := by omega
  have h3 : (16 : Int) ≤ (now.size : Int) := by omega
  have h0 : now.size ≠ 0 := by omega
  have e1 := isEmpty_no h0
  have e2 := eqNil_no h0
  have HWG := Lib.hid (MkGood.whole old.data.toList now h0 hn)
  have HNL := Lib.hid (show now.data.toList.length = now.size from (size_len now).symm)
  have HOL := Lib.hid (show old.data.toList.length = old.size from (size_len old).symm)
  have hix := Lib.hid (fun W (hb : Below w.heap.size w W) => Try.strings_Index old now m W (by omega) (cell_keep hb hm))
  rw [hp] at hix
  have HB0 := Lib.hid ((Below.refl _ w).alloc (Nat.le_refl _) (.cells #[.int .i64 0, .int .i64 0, .string now] 41))
  have HWS := Lib.hid (textOp_sl w now 41)
  have hmm := @run_makeMap Try.prog
  obtain ⟨K, hK⟩ : ∃ K, K = old.size + 1 - 16 := ⟨_, rfl⟩
  have hKv : max ((old.size : Int) - 16 + 1) 0 = (K : Int) := by omega
  have hKi : (K : Int) ≤ 131072 := by omega
  have hKo : K ≠ 0 → (K : Int) + 15 = (old.size : Int) := by omega
  have HKO := Lib.hid hKo
  clear h0 hp hm hi hz0 hz1 hz2 hK hKo
  go_enter Try.func22, Try.ntmps22
  go_wp2_with fail
  refine (hix.out _ HB0.out).mono ?_
  rintro e w1 ⟨rfl, rfl⟩
  have WA : Hid (WholeAt now (w.alloc (.cells #[.int .i64 0, .int .i64 0, .string now] 41)) w.heap.size) := Lib.hid ⟨cell_three0 w _ _ _ _, cell_three1 w _ _ _ _, cell_three2 w _ _ _ _⟩
  have hsz1 : (w.alloc (.cells #[.int .i64 0, .int .i64 0, .string now] 41)).heap.size = w.heap.size + 1 := World.size_alloc _ _
  have PA := World.ownsMap_made (H := PUnit) (w.alloc (.cells #[.int .i64 0, .int .i64 0, .string now] 41)) Try.prog 9 (plainElem Try.prog 3)
  rw [hsz1] at PA
  have hba : Below (w.alloc (.cells #[.int .i64 0, .int .i64 0, .string now] 41)).heap.size (w.alloc (.cells #[.int .i64 0, .int .i64 0, .string now] 41)) ((w.alloc (.cells #[.int .i64 0, .int .i64 0, .string now] 41)).alloc (.map #[] 0)) := (Below.refl _ _).alloc (Nat.le_refl _) _
  have WB := Lib.hid (WA.out.keep hba)
  have HB1 := Lib.hid (below_then HB0.out hba (by rw [hsz1]; omega))
  have PB : Hid (PlacesAt old.data.toList ((w.alloc (.cells #[.int .i64 0, .int .i64 0, .string now] 41)).alloc (.map #[] 0)) (w.heap.size + 1) 0) := Lib.hid ⟨_, PA, Places.nil _⟩
  have hlt1 : w.heap.size + 1 < ((w.alloc (.cells #[.int .i64 0, .int .i64 0, .string now] 41)).alloc (.map #[] 0)).heap.size := by rw [World.size_alloc, World.size_alloc]; omega
  clear PA hba hix HWS WA HB0 hsz1
  go_wp2_with fail
  generalize ((w.alloc (.cells #[.int .i64 0, .int .i64 0, .string now] 41)).alloc (.map #[] 0)) = wB at *
  obtain ⟨bw, hbw⟩ : ∃ bw, bw = w.heap.size := ⟨_, rfl⟩
  rw [← hbw] at WB PB hlt1 ⊢
  have HBW := Lib.hid hbw
  clear hbw hmm
  go_loopg [9, 10, 11, 53] K (fun gk v9 v10 v11 i wr => ∃ k : Nat, k ≤ K ∧ gk = K - k ∧ i = .int .i64 (k : Int) ∧ Hid (PlacesAt old.data.toList wr (bw + 1) k) ∧ Hid (WholeAt now wr bw) ∧ Hid (Below w.heap.size w wr) ∧ bw + 1 < wr.heap.size)
  case atStart => exact ⟨0, Nat.zero_le _, rfl, rfl, PB, WB, HB1, hlt1⟩
  case round =>
    obtain ⟨k, hk, rfl, rfl, hP, hW, hB, hlt⟩ := hrel
    by_cases hkK : k < K
    · have hki : (k : Int) < (K : Int) := by omega
      have hko : (k : Int) + 16 ≤ (old.size : Int) := by have := HKO.out (by omega); omega
      have hkn : k + 16 ≤ old.data.toList.length := by have := HOL.out; omega
      obtain ⟨D, hown, hpl⟩ := hP.out
      obtain ⟨ks, hks⟩ : ∃ ks, ks = (old.data.toList.drop k).take 16 := ⟨_, rfl⟩
      have hex : old.extract k (k + 16) = strOf ks := by rw [extract_strOf, hks]; congr 2; omega
      have hsz : (old.extract k (k + 16)).size ≤ maxLen := by rw [hex, strOf_size, hks, List.length_take]; unfold maxLen; omega
      have hkey : keyOf Try.prog 9 (.string (old.extract k (k + 16))) = some (.string ks) := by
        have := keyOf_string_mk Try.underlying9 hsz
        rw [hex] at this ⊢; exact this
      have HO := Lib.hid hown
      have HK := Lib.hid hkey
      have HPL := Lib.hid hpl
      have HKS := Lib.hid hks
      have hkm : k < maxLen := by unfold maxLen; omega
      clear hown hpl hkey hsz hex hks
      cases hhas : Maps.has D (.string ks) with
      | true =>
        have hnot : Hid (PlacesAt old.data.toList wr (bw + 1) (k + 1)) := Lib.hid ⟨D, HO.out.mono (Nat.le_succ _), HPL.out⟩
        go_wp2_with (at_lookup; refine wpList_lookup_own_ok_int _ rfl _ _ 66 rfl 9 3 .i64 lawStr Try.underlying66 Try.underlying3 (zeroInt _) (bw + 1) k D rfl HO.out _ (.string ks) rfl HK.out ?_; intro c hat hwc; have hat := Lib.hid hat; clear hwc)
        go_roundg (K - (k + 1))
        case rel => exact ⟨k + 1, by omega, rfl, by go_num, hnot, hW, hB, hlt⟩
        case measure => omega
      | false =>
        have WF : (Lit.int .i64 (k : Int)).wf = true := WalkArith.wf_i64 (by omega)
        have HT := Lib.hid (HO.out.tidy lawStr)
        go_wp2_with (first | (at_lookup; refine wpList_lookup_own_ok_int _ rfl _ _ 66 rfl 9 3 .i64 lawStr Try.underlying66 Try.underlying3 (zeroInt _) (bw + 1) k D rfl HO.out _ (.string ks) rfl HK.out ?_; intro c hat hwc; have hat := Lib.hid hat; clear hwc) | (at_mapUpdate; refine wpList_mapUpdate_own _ rfl _ _ _ 66 rfl 9 3 lawStr Try.underlying66 _ (bw + 1) k D rfl HO.out hkm _ _ _ rfl rfl HK.out _ [] (plainElem_int Try.underlying3 WF) ?_; intro w1 hown1 hgrow1; have HO1 := Lib.hid hown1; have HG1 := Lib.hid hgrow1; clear hown1 hgrow1))
        go_roundg (K - (k + 1))
        case rel =>
          refine ⟨k + 1, by omega, rfl, by go_num, Lib.hid ⟨_, HO1.out, HPL.out.put HT.out.isMap k hkn ks HKS.out⟩, Lib.hid (hW.out.kept HG1.out (by omega)), Lib.hid (hB.out.grown HG1.out hB.out.size (fun j hj => by cases hj; have := HBW.out; omega)), ?_⟩
          exact Nat.lt_of_lt_of_le hlt HG1.out.size
        case measure => omega
    · have hki : (K : Int) ≤ (k : Int) := by omega
      obtain ⟨wC, hwC⟩ : ∃ wC, wC = wr := ⟨_, rfl⟩
      rw [← hwC] at hP hW hB hlt ⊢
      clear hwC
      have HOWN0 : Hid (wC.ownsRow wC.heap.size 41 3 (.slice none 0 0) 0 (opsCells [])) := Lib.hid (World.ownsRow_nil _ _ _ _)
      go_wp2_with fail
      go_loopg [12, 13, 14, 15, 16, 17] now.size (fun gk v12 v13 v14 v15 v16 v17 w2 => ∃ (at_ fr q : Nat) (d : List DOp), at_ ≤ now.size ∧ fr ≤ at_ ∧ gk = now.size - at_ ∧ v13 = .int .i64 (fr : Int) ∧ v14 = .int .i64 (at_ : Int) ∧ q ≤ fr ∧ Hid (w2.ownsRow wC.heap.size 41 3 v12 q (opsCells d)) ∧ Hid (MkSo old.data.toList now.data.toList fr d) ∧ Hid (endsCopy d) ∧ Hid (Below wC.heap.size wC w2))
      case atStart => exact ⟨0, 0, 0, [], Nat.zero_le _, Nat.le_refl _, rfl, rfl, rfl, Nat.le_refl _, HOWN0, Lib.hid (MkSo.nil _ _), Lib.hid endsCopy_nil, Lib.hid (Below.refl _ _)⟩
      case round =>
        obtain ⟨at_, fr, q, d, hat, hfr, rfl, rfl, rfl, hq, hO, hS, hE, hC⟩ := hrel
        obtain ⟨w2, hw2⟩ : ∃ w2, w2 = wr := ⟨_, rfl⟩
        rw [← hw2] at hO hC ⊢
        clear hw2
        by_cases hend : at_ < now.size
        · have hai : (at_ : Int) < (now.size : Int) := by omega
          by_cases hroom : at_ + 16 ≤ now.size
          · have hri : (at_ : Int) + 16 ≤ (now.size : Int) := by omega
            obtain ⟨D, hown, hpl⟩ := (hP.out.keep hC.out)
            obtain ⟨ks, hks⟩ : ∃ ks, ks = (now.data.toList.drop at_).take 16 := ⟨_, rfl⟩
            have hex : now.extract at_ (at_ + 16) = strOf ks := by rw [extract_strOf, hks]; congr 2; omega
            have hsz : (now.extract at_ (at_ + 16)).size ≤ maxLen := by rw [hex, strOf_size, hks, List.length_take]; unfold maxLen; omega
            have hkey : keyOf Try.prog 9 (.string (now.extract at_ (at_ + 16))) = some (.string ks) := by
              have := keyOf_string_mk Try.underlying9 hsz
              rw [hex] at this ⊢; exact this
            have HD := Lib.hid hown
            have HK := Lib.hid hkey
            have HPL := Lib.hid hpl
            have HKS := Lib.hid hks
            clear hown hpl hkey hsz hex hks
            cases hhas : Maps.has D (.string ks) with
            | false =>
              go_wp2_with (at_lookup; refine wpList_lookup_own_ok_int _ rfl _ _ 66 rfl 9 3 .i64 lawStr Try.underlying66 Try.underlying3 (zeroInt _) (bw + 1) k D rfl HD.out _ (.string ks) rfl HK.out ?_; intro c hat hwc; have hat := Lib.hid hat; clear hwc)
              go_roundg (now.size - (at_ + 1))
              case rel => exact ⟨at_ + 1, fr, q, d, by omega, by omega, rfl, rfl, by go_num, hq, hO, hS, hE, hC⟩
              case measure => omega
            | true =>
              have HH := Lib.hid hhas
              go_upto_block 5 with (at_lookup; refine wpList_lookup_own_ok_int _ rfl _ _ 66 rfl 9 3 .i64 lawStr Try.underlying66 Try.underlying3 (zeroInt _) (bw + 1) k D rfl HD.out _ (.string ks) rfl HK.out ?_; intro c hatk hwc; have hpp := Lib.hid (HPL.out ks c HH.out hatk); clear hatk hwc)
              obtain ⟨p, rfl⟩ : ∃ p : Nat, c = (p : Int) := ⟨c.toNat, by have := hpp.out.1; omega⟩
              have hp16 : p + 16 ≤ old.size := by have := hpp.out.2.1; rw [HOL.out] at this; simpa using this
              have hm16 : Hid ((old.data.toList.drop p).take 16 = (now.data.toList.drop at_).take 16) := Lib.hid (by have := hpp.out.2.2; rw [HKS.out] at this; simpa using this)
              have hpi : (p : Int) + 16 ≤ (old.size : Int) := by omega
              clear hpp hhas
              go_cut [17] (fun v w' => ∃ n x : Nat, v = .int .i64 (n : Int) ∧ 16 ≤ n ∧ at_ + n ≤ now.size ∧ p + n ≤ old.size ∧ Hid ((old.data.toList.drop p).take n = (now.data.toList.drop at_).take n) ∧ w2.drewN x = w')
              case first =>
                go_wp2_with fail
                go_loopg [17] (now.size - 16) (fun gk v w3 => ∃ n x : Nat, v = .int .i64 (n : Int) ∧ 16 ≤ n ∧ at_ + n ≤ now.size ∧ p + n ≤ old.size ∧ gk = now.size - n ∧ Hid ((old.data.toList.drop p).take n = (now.data.toList.drop at_).take n) ∧ w2.drewN x = w3)
                case atStart => exact ⟨16, 0, rfl, Nat.le_refl _, hroom, hp16, rfl, hm16, rfl⟩
                case round =>
                  obtain ⟨n, x, rfl, hn16, hn1, hn2, rfl, hmt, rfl⟩ := hrel
                  have wr1 : IntKind.i64.wrap ((at_ : Int) + (n : Int)) = (at_ : Int) + (n : Int) := by rw [IntWalk.i64_in _ (by omega)]
                  have wr2 : IntKind.i64.wrap ((p : Int) + (n : Int)) = (p : Int) + (n : Int) := by rw [IntWalk.i64_in _ (by omega)]
                  by_cases g1 : at_ + n < now.size
                  · have g1d : decide ((at_ : Int) + (n : Int) < (now.size : Int)) = true := by simp; omega
                    have g1i : (at_ : Int) + (n : Int) < (now.size : Int) := by omega
                    have g10 : (0 : Int) ≤ (at_ : Int) + (n : Int) := by omega
                    have g1t : ((at_ : Int) + (n : Int)).toNat = at_ + n := by omega
                    by_cases g2 : p + n < old.size
                    · have g2d : decide ((p : Int) + (n : Int) < (old.size : Int)) = true := by simp; omega
                      have g2i : (p : Int) + (n : Int) < (old.size : Int) := by omega
                      have g20 : (0 : Int) ≤ (p : Int) + (n : Int) := by omega
                      have g2t : ((p : Int) + (n : Int)).toNat = p + n := by omega
                      have hmore := fun he => match_more hmt.out (p := p) (a := at_) (n := n) (by rw [HOL.out]; exact g2) (by rw [HNL.out]; exact g1) he
                      have b1 : now.data.toList[at_ + n]'(by rw [HNL.out]; exact g1) = now[at_ + n] := rfl
                      have b2 : old.data.toList[p + n]'(by rw [HOL.out]; exact g2) = old[p + n] := rfl
                      rw [b1, b2] at hmore
                      by_cases hby : now[at_ + n] = old[p + n]
                      · have hmn := Lib.hid (hmore hby)
                        have hbq : ((now[at_ + n].toNat : Int) == (old[p + n].toNat : Int)) = true := by rw [hby]; simp
                        clear hmore b1 b2 hby
                        go_wp2_with fail
                        go_quiet (fail)
                        go_wp2_with fail
                        go_roundg (now.size - (n + 1))
                        case rel => exact ⟨n + 1, _, by go_num, by omega, by omega, by omega, rfl, hmn, rfl⟩
                        case measure => omega
                      · have hbq : ((now[at_ + n].toNat : Int) == (old[p + n].toNat : Int)) = false := by
                          rw [beq_eq_false_iff_ne]
                          intro e
                          exact hby (UInt8.toNat_inj.1 (by omega))
                        clear hmore b1 b2 hby
                        go_wp2_with fail
                        go_quiet (fail)
                        go_wp2_with fail
                        go_meet
                        exact ⟨n, _, rfl, hn16, hn1, hn2, hmt, by first | rfl | exact (World.drewN_drewN _ _ _).symm⟩
                    · have g2d : decide ((p : Int) + (n : Int) < (old.size : Int)) = false := by simp; omega
                      go_wp2_with fail
                      go_quiet (fail)
                      go_wp2_with fail
                      go_meet
                      exact ⟨n, _, rfl, hn16, hn1, hn2, hmt, by first | rfl | exact (World.drewN_drewN _ _ _).symm⟩
                  · have g1d : decide ((at_ : Int) + (n : Int) < (now.size : Int)) = false := by simp; omega
                    go_wp2_with fail
                    go_quiet (fail)
                    go_wp2_with fail
                    go_meet
                    exact ⟨n, _, rfl, hn16, hn1, hn2, hmt, by first | rfl | exact (World.drewN_drewN _ _ _).symm⟩
              case rest =>
                obtain ⟨n, x, rfl, hn16, hn1, hn2, hmt, rfl⟩ := hcut
                have HO := Lib.hid (hO.out)
                have hni : (at_ : Int) + (n : Int) ≤ (now.size : Int) := by omega
                have hC2 := Lib.hid (below_drewN hC.out x)
                have hO2 : Hid ((w2.drewN x).ownsRow wC.heap.size 41 3 u12 q (opsCells d)) := Lib.hid hO.out
                have hwn : (n : Int) ≤ 131072 := by omega
                clear hm16 HD HK HPL HKS HH hO hC
                by_cases hlt2 : fr < at_
                · have hl2 : (fr : Int) < (at_ : Int) := by omega
                  have htx : (now.extract fr at_).data.toList = (now.data.toList.take at_).drop fr := by
                    rw [extract_strOf, strOf_list, List.drop_take]
                  have hS2 := Lib.hid (hS.out.text hE.out hlt2 (by rw [HNL.out]; omega) _ htx)
                  have hsrc := Lib.hid (textOp_sl (w2.drewN x) (now.extract fr at_) 41)
                  clear htx
                  go_wp2_with (at_builtin; refine wpList_appOps _ rfl _ _ 34 rfl wC.heap.size 41 i0 _ 32 Try.underlying34 HI.out HZ.out.1 HZ.out.2.1 HZ.out.2.2 rfl _ q d (hO2.out.alloc _) rfl _ 1 1 _ rfl (hsrc.out) (fun e => by cases e) (by unfold maxLen; omega) (by omega) (Nat.le_trans hC2.out.size (by simp)) ?_)
                  intro v3 w3 ho3 hg3
                  have hO3 := Lib.hid ho3
                  have hC3 := Lib.hid ((hC2.out.alloc hC2.out.size _).grown hg3 (Nat.le_trans hC2.out.size (by simp)) (fun j e => (hO2.out.lt j e).1))
                  have hsrc3 := Lib.hid (copyOp_sl w3 p n 41)
                  have hq3 : q + 1 ≤ at_ := by omega
                  have hS4 := Lib.hid (hS2.out.copy (n := n) (by omega) (by rw [HOL.out]; exact hn2) (by rw [HNL.out]; exact hn1) hmt.out)
                  have hE4 := Lib.hid (endsCopy_snoc (d ++ [textOp (now.extract fr at_)]) (copyOp p n) (by simp [copyOp]; omega))
                  clear ho3 hg3 hsrc
                  go_wp2_with (at_builtin; refine wpList_appOps _ rfl _ _ 34 rfl wC.heap.size 41 i0 _ 32 Try.underlying34 HI.out HZ.out.1 HZ.out.2.1 HZ.out.2.2 rfl _ (q + 1) (d ++ [textOp (now.extract fr at_)]) (hO3.out.alloc _) rfl _ 1 1 _ rfl (hsrc3.out) (fun e => by cases e) (by unfold maxLen; omega) (by omega) (Nat.le_trans hC3.out.size (by simp)) ?_)
                  intro v4 w4 ho4 hg4
                  have hO4 := Lib.hid ho4
                  have hC4 := Lib.hid ((hC3.out.alloc hC3.out.size _).grown hg4 (Nat.le_trans hC3.out.size (by simp)) (fun j e => (hO3.out.lt j e).1))
                  clear ho4 hg4 hsrc3
                  go_wp2_with fail
                  go_roundg (now.size - (at_ + n))
                  case rel => exact ⟨at_ + n, at_ + n, q + 1 + 1, _, hn1, Nat.le_refl _, rfl, by go_num, by go_num, by omega, hO4, Lib.hid (by have := hS4.out; rw [List.append_assoc] at this; exact this), Lib.hid (by have := hE4.out; rw [List.append_assoc] at this; exact this), hC4⟩
                  case measure => omega
                · obtain rfl : fr = at_ := by omega
                  have hsrc3 := Lib.hid (copyOp_sl (w2.drewN x) p n 41)
                  have hS4 := Lib.hid (hS.out.copy (n := n) (by omega) (by rw [HOL.out]; exact hn2) (by rw [HNL.out]; exact hn1) hmt.out)
                  have hE4 := Lib.hid (endsCopy_snoc d (copyOp p n) (by simp [copyOp]; omega))
                  go_wp2_with (at_builtin; refine wpList_appOps _ rfl _ _ 34 rfl wC.heap.size 41 i0 _ 32 Try.underlying34 HI.out HZ.out.1 HZ.out.2.1 HZ.out.2.2 rfl _ q d (hO2.out.alloc _) rfl _ 1 1 _ rfl (hsrc3.out) (fun e => by cases e) (by unfold maxLen; omega) (by omega) (Nat.le_trans hC2.out.size (by simp)) ?_)
                  intro v4 w4 ho4 hg4
                  have hO4 := Lib.hid ho4
                  have hC4 := Lib.hid ((hC2.out.alloc hC2.out.size _).grown hg4 (Nat.le_trans hC2.out.size (by simp)) (fun j e => (hO2.out.lt j e).1))
                  clear ho4 hg4 hsrc3
                  go_wp2_with fail
                  go_roundg (now.size - (fr + n))
                  case rel => exact ⟨fr + n, fr + n, q + 1, _, hn1, Nat.le_refl _, rfl, by go_num, by go_num, by omega, hO4, hS4, hE4, hC4⟩
                  case measure => omega
          · have hri : (now.size : Int) < (at_ : Int) + 16 := by omega
            go_wp2_with fail
            go_roundg (now.size - (at_ + 1))
            case rel => exact ⟨at_ + 1, fr, q, d, by omega, by omega, rfl, rfl, by go_num, hq, hO, hS, hE, hC⟩
            case measure => omega
        · obtain rfl : at_ = now.size := by omega
          have hei : (now.size : Int) ≤ (now.size : Int) := Int.le_refl _
          go_upto_if 152 with fail
          go_cut [12] (fun v w' => ∃ (q : Nat) (d : List DOp), Hid (w'.ownsRow wC.heap.size 41 3 v q (opsCells d)) ∧ Hid (MkSo old.data.toList now.data.toList now.size d) ∧ Hid (Below wC.heap.size wC w') ∧ q ≤ now.size)
          case first =>
            by_cases hlt2 : fr < now.size
            · have hl2 : (fr : Int) < (now.size : Int) := by omega
              have htx : (now.extract fr now.size).data.toList = (now.data.toList.take now.size).drop fr := by
                rw [extract_strOf, strOf_list, List.drop_take]
              have hS2 := Lib.hid (hS.out.text hE.out hlt2 (by rw [HNL.out]; omega) _ htx)
              have hsrc := Lib.hid (textOp_sl w2 (now.extract fr now.size) 41)
              clear htx
              go_wp2_with (at_builtin; refine wpList_appOps _ rfl _ _ 34 rfl wC.heap.size 41 i0 _ 32 Try.underlying34 HI.out HZ.out.1 HZ.out.2.1 HZ.out.2.2 rfl _ q d (hO.out.alloc _) rfl _ 1 1 _ rfl (hsrc.out) (fun e => by cases e) (by unfold maxLen; omega) (by omega) (Nat.le_trans hC.out.size (by simp)) ?_)
              intro v3 w3 ho3 hg3
              have hO3 := Lib.hid ho3
              have hC3 := Lib.hid ((hC.out.alloc hC.out.size _).grown hg3 (Nat.le_trans hC.out.size (by simp)) (fun j e => (hO.out.lt j e).1))
              clear ho3 hg3 hsrc
              go_wp2_with fail
              go_meet
              exact ⟨q + 1, _, hO3, hS2, hC3, by omega⟩
            · obtain rfl : fr = now.size := by omega
              go_wp2_with fail
              go_meet
              exact ⟨q, d, hO, hS, hC, hq⟩
          case rest =>
            obtain ⟨q2, d2, hO2, hS2, hC2, hq2⟩ := hcut
            obtain ⟨a4, c4, hv4, -, hsl4, -, hqc, -⟩ := own_ops hO2.out
            subst hv4
            have HSL := Lib.hid hsl4
            have HBC := Lib.hid (below_then hB.out hC2.out hB.out.size)
            have HWC := Lib.hid (hW.out.keep hC2.out)
            have HL9 : q2 ≤ 9223372036854775807 := by omega
            have HRW := Lib.hid HWG.out.right
            have HWW : Hid (((now.size : Int) + 8) = if rightB [textOp now] = true then (weigh [textOp now] : Int) else 0) := Lib.hid (by rw [if_pos HRW.out, weigh_one]; simp [textOp]; omega)
            clear hsl4 hO hO2 hC2 hS hE hC hW hP hend hat hfr hq
            by_cases hr : rightB d2 = true
            · have hr1 := Lib.hid (right_any a4 q2 c4 d2 _ HSL.out HL9 true (Lib.hid hr.symm))
              have HWD : Hid ((weigh d2 : Int) = if rightB d2 = true then (weigh d2 : Int) else 0) := Lib.hid (by rw [if_pos hr])
              have HR := Lib.hid hr
              clear hr
              go_wp2_with fail
              refine hr1.out.mono ?_
              rintro e w5 ⟨rfl, hb5⟩
              have HB5 := Lib.hid (below_then HBC.out hb5 HBC.out.size)
              have HSL5 := Lib.hid (HSL.out.keep hb5)
              have HW5 := Lib.hid (HWC.out.keep hb5)
              clear hb5 hr1 HSL HBC HWC
              by_cases hwt : weigh d2 ≤ now.size + 8
              · have HG : Hid (MkGood old.data.toList now.data.toList d2) := Lib.hid (by
                  have h1 := hS2.out
                  rw [← HNL.out] at h1
                  exact h1.good HR.out (by rw [HNL.out]; exact hwt))
                have hwi : (weigh d2 : Int) ≤ (now.size : Int) + 8 := by omega
                clear hwt hS2
                obtain ⟨wd, hwd⟩ : ∃ wd : Int, wd = (weigh d2 : Int) := ⟨_, rfl⟩
                rw [← hwd] at hwi
                have HWD : Hid (wd = if rightB d2 = true then (weigh d2 : Int) else 0) := Lib.hid (hwd.trans HWD.out)
                clear hwd
                go_wp2_with fail
                refine (size_any a4 q2 c4 d2 _ HSL5.out HL9 _ HWD).mono ?_
                rintro e w6 ⟨rfl, hb6⟩
                have HB6 := Lib.hid (below_then HB5.out hb6 HB5.out.size)
                have HSL6 := Lib.hid (HSL5.out.keep hb6)
                have HW6 := Lib.hid (HW5.out.keep hb6)
                clear hb6
                go_wp2_with fail
                refine (size_any _ 1 1 [textOp now] _ HW6.out.sl (by decide) _ HWW).mono ?_
                rintro e w7 ⟨rfl, hb7⟩
                have HB7 := Lib.hid (below_then HB6.out hb7 HB6.out.size)
                have HSL7 := Lib.hid (HSL6.out.keep hb7)
                clear hb7
                go_wp2_with fail
                go_ret2
                exact ⟨_, q2, c4, d2, rfl, HSL7.out, hqc, HG.out, HB7.out⟩
              · have hwi : (now.size : Int) + 8 < (weigh d2 : Int) := by omega
                clear hwt hS2
                obtain ⟨wd, hwd⟩ : ∃ wd : Int, wd = (weigh d2 : Int) := ⟨_, rfl⟩
                rw [← hwd] at hwi
                have HWD : Hid (wd = if rightB d2 = true then (weigh d2 : Int) else 0) := Lib.hid (hwd.trans HWD.out)
                clear hwd
                go_wp2_with fail
                refine (size_any a4 q2 c4 d2 _ HSL5.out HL9 _ HWD).mono ?_
                rintro e w6 ⟨rfl, hb6⟩
                have HB6 := Lib.hid (below_then HB5.out hb6 HB5.out.size)
                have HW6 := Lib.hid (HW5.out.keep hb6)
                clear hb6
                go_wp2_with fail
                refine (size_any _ 1 1 [textOp now] _ HW6.out.sl (by decide) _ HWW).mono ?_
                rintro e w7 ⟨rfl, hb7⟩
                have HB7 := Lib.hid (below_then HB6.out hb7 HB6.out.size)
                have HW7 := Lib.hid (HW6.out.keep hb7)
                clear hb7
                go_wp2_with fail
                go_ret2
                exact ⟨_, 1, 1, _, rfl, HW7.out.sl, Nat.le_refl _, HWG.out, HB7.out⟩
            · have hr1 := Lib.hid (right_any a4 q2 c4 d2 _ HSL.out HL9 false (Lib.hid (by simpa using hr)))
              clear hr
              go_wp2_with fail
              refine hr1.out.mono ?_
              rintro e w5 ⟨rfl, hb5⟩
              have HB5 := Lib.hid (below_then HBC.out hb5 HBC.out.size)
              have HW5 := Lib.hid (HWC.out.keep hb5)
              clear hb5
              go_wp2_with fail
              go_ret2
              exact ⟨_, 1, 1, _, rfl, HW5.out.sl, Nat.le_refl _, HWG.out, HB5.out⟩

/-- delta.Make of two texts that are not too long. -/
theorem make_any (old now : ByteArray) (m : Int) (w : World) (hm : w.cell? ⟨0, 0, none⟩ = some (.int .i64 m)) (h : old.size ≤ 131072) (hn : now.size ≤ 131072) :
    Calls Try.prog 22 #[.string old, .string now] w fun e w' => ∃ a n c d, e = .returned (.tuple #[.slice a n c, .int .i64 0]) ∧ OpsSl w' a n d ∧ n ≤ c ∧ MkGood old.data.toList now.data.toList d ∧ Below w.heap.size w w' ∧ (now.size = 0 → d = []) := by
  by_cases h0 : now.size = 0
  · obtain rfl := size0 h0
    refine (make_none old w h).mono ?_
    rintro e w' ⟨rfl, rfl⟩
    exact ⟨_, 0, 0, [], rfl, ⟨rfl, .inl rfl⟩, Nat.le_refl _, MkGood.nil _, Below.refl _ _, fun _ => rfl⟩
  · by_cases h16 : now.size < 16
    · refine (make_short old now w h h0 h16).mono ?_
      rintro e w' ⟨a, n, c, d, rfl, hs, hc, hg, hb⟩
      exact ⟨a, n, c, d, rfl, hs, hc, hg, hb, fun h => absurd h h0⟩
    · by_cases hix : Lib.index old.data.toList now.data.toList = -1
      · refine (make_search old now m w hm h hn (by omega) hix).mono ?_
        rintro e w' ⟨a, n, c, d, rfl, hs, hc, hg, hb⟩
        exact ⟨a, n, c, d, rfl, hs, hc, hg, hb, fun h => absurd h h0⟩
      · have hge := Lib.index_ge old.data.toList now.data.toList
        obtain ⟨p, hp⟩ : ∃ p : Nat, Lib.index old.data.toList now.data.toList = (p : Int) := ⟨(Lib.index old.data.toList now.data.toList).toNat, by omega⟩
        refine (make_found old now m w hm h hn (by omega) p hp).mono ?_
        rintro e w' ⟨b, rfl, hs, hg, hb⟩
        exact ⟨_, 1, 1, _, rfl, hs, Nat.le_refl _, hg, hb, fun h => absurd h h0⟩
end Go.Proofs.Ytdlnabjledhiiaa
