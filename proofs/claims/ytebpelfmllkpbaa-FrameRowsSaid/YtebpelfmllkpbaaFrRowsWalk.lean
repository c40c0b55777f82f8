/-
  The walk of the law FrameRows: it returns true on all lists of texts; new blocks alone are made.
-/
import Derived.Test.YtebpelfmllkpbaaFrOnceWalk
namespace Go.Proofs.Ytebpelfmllkpbaa
open Go.RowKit
set_option linter.unusedVariables false

theorem SlAt.take {w : World} {a : Option Addr} {n m : Nat} {xs : List Value} (h : SlAt w a n xs) (hm : m ≤ n) : SlAt w a m (xs.take m) := by
  refine ⟨by have := h.1; rw [List.length_take]; omega, ?_⟩
  rcases h.2 with h0 | ⟨b, off, ha, hc⟩
  · exact .inl (by rw [h0, List.take_nil])
  · refine .inr ⟨b, off, ha, fun i hi => ?_⟩
    have hi' : i < xs.length := by rw [List.length_take] at hi; omega
    rw [hc i hi']
    simp
theorem IsStrs.at {w : World} {a : Option Addr} {len cap : Nat} {zs : List ByteArray} (h : IsStrs w a len cap zs) {k : Nat} (hk : k < len) :
    ∃ x, a = some x ∧ w.cell? (x.add k) = some (.string (zs.getD k ByteArray.empty)) := by
  rcases h with ⟨_, h, _, _⟩ | ⟨x, rfl, h, _, hl, hc, _⟩
  · omega
  · exact ⟨x, rfl, hc k (by omega)⟩
theorem IsStrs.size {w : World} {a : Option Addr} {len cap : Nat} {zs : List ByteArray} (h : IsStrs w a len cap zs) {k : Nat} (hk : k < len) : (zs.getD k ByteArray.empty).size ≤ maxLen := by
  rcases h with ⟨_, h, _, _⟩ | ⟨x, rfl, h, _, hl, hc, hs⟩
  · omega
  · rw [List.getD_eq_getElem?_getD, List.getElem?_eq_getElem (by omega)]
    exact hs _ (List.getElem_mem _)
theorem strs_append (a b : List ByteArray) : strs (a ++ b) = strs a ++ strs b := by simp [strs]

set_option maxHeartbeats 4000000 in
theorem frameRows_main (a : Option Addr) (len cap : Nat) (zs : List ByteArray) (more mo : ByteArray) (w : World) (hz : IsStrs w a len cap zs) (hm : more.size ≤ maxLen) (hcut : cut2 more = mo) :
    Calls Try.prog 6 #[.slice a len cap, .string more] w fun e w' => e = .returned (.bool true) ∧ Below w.heap.size w w' := by
  obtain ⟨i0, hi, hz0, hz1, hz2⟩ := info_parts infoStr
  have hsm : Hid (∀ w, Calls Try.prog 14 #[.string more] w fun e w' => e = .returned (.string mo) ∧ w = w') := Lib.hid fun w => by rw [← hcut]; exact short2_any more w hm
  have hmo : Hid (mo.size ≤ 20000) := Lib.hid (by rw [← hcut]; exact cut2_le more)
  have hlen : len ≤ 9223372036854775807 := by
    rcases hz with ⟨_, h, _, _⟩ | ⟨_, _, h, h2, _⟩
    · omega
    · unfold maxLen at h2; omega
  have HZ := Lib.hid hz
  clear hz hm hcut
  go_enter Try.func6, Try.ntmps6
  go_wp2_with fail
  go_loopg [5, 6, 15] len (fun gk rv pv iv wr => ∃ (k : Nat) (row : ByteArray) (bs : List ByteArray), gk = len - k ∧ iv = .int .i64 k ∧ rv = .string row ∧ k ≤ len ∧ Hid (bs.length = k ∧ k ≤ 20) ∧ Hid (∀ b ∈ bs, b.size ≤ 20000) ∧ row.size ≤ 41000 ∧ Hid (row.data.toList = ((bs.map (·.data.toList)).map frameL).flatten) ∧ Hid (wr.ownsRow w.heap.size 9 1 pv bs.length (strs bs)) ∧ Hid (Below w.heap.size w wr))
  case atStart => exact ⟨0, ⟨#[]⟩, [], rfl, rfl, rfl, Nat.zero_le _, Lib.hid ⟨rfl, by omega⟩, Lib.hid (by intro b hb; cases hb), by decide, Lib.hid rfl, Lib.hid (World.ownsRow_nil _ _ _ _), Lib.hid (Below.refl _ _)⟩
  case round =>
    obtain ⟨k, row, bs, rfl, rfl, rfl, hk, hkb, hbs, hrs, hR, hO, hB⟩ := hrel
    have hk20 := hkb.out.2
    by_cases hlt : k < len
    · by_cases h20 : 20 ≤ k
      · have h20i : (20 : Int) ≤ (k : Int) := by omega
        have hki : (k : Int) < (len : Int) := by omega
        obtain ⟨x, rfl, hc⟩ := IsStrs.at HZ.out hlt
        have hcx := cell_keep hB.out hc
        clear hc
        generalize zs.getD k ByteArray.empty = z at *
        have hfin : ∃ x, bodies (row ++ mo).data.toList = bs.map (·.data.toList) ++ x := by
          rw [ba_app, hR.out]
          exact told_frames _ (by intro b hb; obtain ⟨c, hc, rfl⟩ := List.mem_map.1 hb; have := hbs.out c hc; rw [← size_len]; omega) _
        obtain ⟨x, hx⟩ := hfin
        have hmos := hmo.out
        have hl9 : Hid ((row ++ mo).size ≤ 200000) := Lib.hid (by rw [ByteArray.size_append]; omega)
        have hT : Hid (row.size ≤ taken (bodies (row ++ mo).data.toList)) := Lib.hid (by
          rw [hx, taken_append, taken_frames, ← hR.out, ← size_len]; omega)
        have hT2 : Hid (taken (bodies (row ++ mo).data.toList) ≤ 200000) := Lib.hid (by
          refine Nat.le_trans (bodies_told _).1.le ?_; rw [← size_len]; exact hl9.out)
        have hE : Hid ((bodies (row ++ mo).data.toList).map strOf = bs ++ x.map strOf) := Lib.hid (by
          rw [hx, List.map_append, List.map_map]; congr 1; exact (List.map_congr_left fun c _ => strOf_self c).trans (List.map_id _))
        have HX := Lib.hid hx
        obtain ⟨a6, n6, c6, hv6, hsl6, hfr6, hnc6⟩ := own_slice hO.out
        subst hv6
        have hn6 : n6 = bs.length := by have := hsl6.1; rw [strs_length] at this; exact this
        have HS6 := Lib.hid hsl6
        have HN6 := Lib.hid hn6
        clear hx hsl6 hn6 hfr6
        go_wp2_with fail
        refine (hsm.out _).mono ?_
        rintro e w' ⟨rfl, rfl⟩
        go_wp2_with fail
        refine (frScan_any (row ++ mo) _ hl9.out _ (Lib.hid rfl)).mono ?_
        rintro e w3 ⟨a3, n3, c3, rfl, hs3, hb3, hfr3, hnc3⟩
        rw [hE.out] at hs3
        have hn3 : n6 ≤ n3 := by have := hs3.1; rw [strs_length, List.length_append] at this; have := HN6.out; omega
        have hs3' : SlAt w3 a3 n6 (strs bs) := by
          have := hs3.take hn3
          rw [HN6.out, strs_append, List.take_left' (strs_length _)] at this
          rw [HN6.out]; exact this
        have HS3 := Lib.hid hs3'
        have HS6 := Lib.hid (HS6.out.keep hb3)
        have HB3 := Lib.hid (below_then hB.out hb3 hB.out.size)
        have hc9 : bs.length ≤ 9223372036854775807 := by have := hkb.out; omega
        have HC9 := Lib.hid hc9
        have hn3i : (n6 : Int) ≤ (n3 : Int) := by omega
        have hnc3i : (n6 : Int) ≤ (c3 : Int) := by omega
        have hTi : (row.size : Int) ≤ ((taken (bodies (row ++ mo).data.toList) : Nat) : Int) := by have := hT.out; omega
        clear hs3 hs3' hb3 hfr3 hc9
        generalize taken (bodies (row ++ mo).data.toList) = T at *
        go_wp2_with fail
        refine (frSum_const _ _ _ sumI_a (by decide)).mono ?_
        rintro e w' ⟨rfl, rfl⟩
        go_wp2_with fail
        refine (like_same _ _ _ _ _ _ bs _ HS3.out HS6.out HC9.out).mono ?_
        rintro e w8 ⟨rfl, m8, rfl⟩
        go_wp2
        go_ret
        exact ⟨rfl, below_drewN HB3.out m8⟩
      · by_cases hrow : 20000 < row.size
        · have hrowi : (20000 : Int) < (row.size : Int) := by omega
          have h20i : (k : Int) < (20 : Int) := by omega
          obtain ⟨x, rfl, hc⟩ := IsStrs.at HZ.out hlt
          have hki : (k : Int) < (len : Int) := by omega
          have hcx := cell_keep hB.out hc
          clear hc
          generalize zs.getD k ByteArray.empty = z at *
          have hfin : ∃ x, bodies (row ++ mo).data.toList = bs.map (·.data.toList) ++ x := by
            rw [ba_app, hR.out]
            exact told_frames _ (by intro b hb; obtain ⟨c, hc, rfl⟩ := List.mem_map.1 hb; have := hbs.out c hc; rw [← size_len]; omega) _
          obtain ⟨x, hx⟩ := hfin
          have hmos := hmo.out
          have hl9 : Hid ((row ++ mo).size ≤ 200000) := Lib.hid (by rw [ByteArray.size_append]; omega)
          have hT : Hid (row.size ≤ taken (bodies (row ++ mo).data.toList)) := Lib.hid (by
            rw [hx, taken_append, taken_frames, ← hR.out, ← size_len]; omega)
          have hT2 : Hid (taken (bodies (row ++ mo).data.toList) ≤ 200000) := Lib.hid (by
            refine Nat.le_trans (bodies_told _).1.le ?_; rw [← size_len]; exact hl9.out)
          have hE : Hid ((bodies (row ++ mo).data.toList).map strOf = bs ++ x.map strOf) := Lib.hid (by
            rw [hx, List.map_append, List.map_map]; congr 1; exact (List.map_congr_left fun c _ => strOf_self c).trans (List.map_id _))
          have HX := Lib.hid hx
          obtain ⟨a6, n6, c6, hv6, hsl6, hfr6, hnc6⟩ := own_slice hO.out
          subst hv6
          have hn6 : n6 = bs.length := by have := hsl6.1; rw [strs_length] at this; exact this
          have HS6 := Lib.hid hsl6
          have HN6 := Lib.hid hn6
          clear hx hsl6 hn6 hfr6
          go_wp2_with fail
          refine (hsm.out _).mono ?_
          rintro e w' ⟨rfl, rfl⟩
          go_wp2_with fail
          refine (frScan_any (row ++ mo) _ hl9.out _ (Lib.hid rfl)).mono ?_
          rintro e w3 ⟨a3, n3, c3, rfl, hs3, hb3, hfr3, hnc3⟩
          rw [hE.out] at hs3
          have hn3 : n6 ≤ n3 := by have := hs3.1; rw [strs_length, List.length_append] at this; have := HN6.out; omega
          have hs3' : SlAt w3 a3 n6 (strs bs) := by
            have := hs3.take hn3
            rw [HN6.out, strs_append, List.take_left' (strs_length _)] at this
            rw [HN6.out]; exact this
          have HS3 := Lib.hid hs3'
          have HS6 := Lib.hid (HS6.out.keep hb3)
          have HB3 := Lib.hid (below_then hB.out hb3 hB.out.size)
          have hc9 : bs.length ≤ 9223372036854775807 := by have := hkb.out; omega
          have HC9 := Lib.hid hc9
          have hn3i : (n6 : Int) ≤ (n3 : Int) := by omega
          have hnc3i : (n6 : Int) ≤ (c3 : Int) := by omega
          have hTi : (row.size : Int) ≤ ((taken (bodies (row ++ mo).data.toList) : Nat) : Int) := by have := hT.out; omega
          clear hs3 hs3' hb3 hfr3 hc9
          generalize taken (bodies (row ++ mo).data.toList) = T at *
          go_wp2_with fail
          refine (frSum_const _ _ _ sumI_a (by decide)).mono ?_
          rintro e w' ⟨rfl, rfl⟩
          go_wp2_with fail
          refine (like_same _ _ _ _ _ _ bs _ HS3.out HS6.out HC9.out).mono ?_
          rintro e w8 ⟨rfl, m8, rfl⟩
          go_wp2
          go_ret
          exact ⟨rfl, below_drewN HB3.out m8⟩
        · obtain ⟨x, rfl, hc⟩ := IsStrs.at HZ.out hlt
          have hzm := Lib.hid (IsStrs.size HZ.out hlt)
          have hki : (k : Int) < (len : Int) := by omega
          have hrowi : ¬ (20000 : Int) < (row.size : Int) := by omega
          have h20i : (k : Int) < (20 : Int) := by omega
          have hcx := cell_keep hB.out hc
          clear hc
          generalize zs.getD k ByteArray.empty = z at *
          have hsb : Hid (∀ w, Calls Try.prog 14 #[.string z] w fun e w' => e = .returned (.string (cut2 z)) ∧ w = w') := Lib.hid fun w => short2_any z w hzm.out
          have hbl := Lib.hid (cut2_le z)
          generalize cut2 z = b at *
          have hsz := frameOf_size b
          have HSZ := Lib.hid hsz
          have hfi : (12 : Int) ≤ ((frameOf b).size : Int) := by omega
          have hfi2 : ((frameOf b).size : Int) ≤ 20012 := by have := hbl.out; omega
          have hfn2 : (frameOf b).size ≤ 20012 := by have := hbl.out; omega
          have hfl := Lib.hid (frameOf_list b)
          have hb65 : Hid (b.size ≤ 65536) := Lib.hid (by have := hbl.out; omega)
          have hput := Lib.hid (fun w => frPut_any b w hb65.out)
          clear hsz
          generalize frameOf b = f at *
          go_wp2_with fail
          refine (hsb.out _).mono ?_
          rintro e w' ⟨rfl, rfl⟩
          go_wp2_with fail
          refine (hput.out _).mono ?_
          rintro e w2 ⟨rfl, hb2⟩
          have HO2 := Lib.hid (World.ownsRow.kept (row := none) hO.out (grown_below hb2 none) (by cases hv : Value.ownBlock _ <;> simp))
          have HB2 := Lib.hid (below_then hB.out hb2 hB.out.size)
          clear hb2 hcx
          go_wp2_with fail
          refine (hsb.out _).mono ?_
          rintro e w' ⟨rfl, rfl⟩
          have hown := HO2.out
          have hbz := HB2.out.size
          have hbk := hkb.out.1
          go_wp2_with (at_builtin; refine wpList_app1 w2 rfl _ _ 31 rfl w.heap.size 9 i0 (.string ⟨#[]⟩) 16 Try.underlying31 hi hz0 hz1 hz2 rfl _ _ _ hown rfl (.string b) 9 rfl rfl ?c3 ?c4 ?c5 ?_)
          case c3 => unfold maxLen; omega
          case c4 => omega
          case c5 => omega
          intro v' w3 hown' hgrow hblk
          have ho2 : w3.ownsRow w.heap.size 9 1 v' (bs ++ [b]).length (strs (bs ++ [b])) := by
            rw [strs_snoc, List.length_append, hkb.out.1]; exact hown'
          have HO3 := Lib.hid ho2
          have HB3 : Hid (Below w.heap.size w w3) := Lib.hid (HB2.out.grown hgrow hbz (fun x e => (hown.lt x e).1))
          have HR3 : Hid ((row ++ f).data.toList = (((bs ++ [b]).map (·.data.toList)).map frameL).flatten) := Lib.hid (by
            rw [ba_app, hR.out, hfl.out]; simp)
          have HK3 : Hid ((bs ++ [b]).length = k + 1 ∧ k + 1 ≤ 20) := Lib.hid ⟨by rw [List.length_append, hbk]; rfl, by omega⟩
          have HS3 : Hid (∀ c ∈ bs ++ [b], c.size ≤ 20000) := Lib.hid (by
            intro c hc
            rcases List.mem_append.1 hc with hc | hc
            · exact hbs.out c hc
            · obtain rfl := List.mem_singleton.1 hc; exact hbl.out)
          have hrs3 : (row ++ f).size ≤ 41000 := by rw [ByteArray.size_append]; omega
          clear hown' hgrow hown ho2 hblk hbk
          go_wp2_with fail
          go_roundg (len - (k + 1))
          case rel => exact ⟨k + 1, row ++ f, bs ++ [b], rfl, by go_num, rfl, by omega, HK3, HS3, hrs3, HR3, HO3, HB3⟩
          case measure => omega
    · have hki : ¬ (k : Int) < (len : Int) := by omega
      have hfin : ∃ x, bodies (row ++ mo).data.toList = bs.map (·.data.toList) ++ x := by
        rw [ba_app, hR.out]
        exact told_frames _ (by intro b hb; obtain ⟨c, hc, rfl⟩ := List.mem_map.1 hb; have := hbs.out c hc; rw [← size_len]; omega) _
      obtain ⟨x, hx⟩ := hfin
      have hmos := hmo.out
      have hl9 : Hid ((row ++ mo).size ≤ 200000) := Lib.hid (by rw [ByteArray.size_append]; omega)
      have hT : Hid (row.size ≤ taken (bodies (row ++ mo).data.toList)) := Lib.hid (by
        rw [hx, taken_append, taken_frames, ← hR.out, ← size_len]; omega)
      have hT2 : Hid (taken (bodies (row ++ mo).data.toList) ≤ 200000) := Lib.hid (by
        refine Nat.le_trans (bodies_told _).1.le ?_; rw [← size_len]; exact hl9.out)
      have hE : Hid ((bodies (row ++ mo).data.toList).map strOf = bs ++ x.map strOf) := Lib.hid (by
        rw [hx, List.map_append, List.map_map]; congr 1; exact (List.map_congr_left fun c _ => strOf_self c).trans (List.map_id _))
      have HX := Lib.hid hx
      obtain ⟨a6, n6, c6, hv6, hsl6, hfr6, hnc6⟩ := own_slice hO.out
      subst hv6
      have hn6 : n6 = bs.length := by have := hsl6.1; rw [strs_length] at this; exact this
      have HS6 := Lib.hid hsl6
      have HN6 := Lib.hid hn6
      clear hx hsl6 hn6 hfr6
      go_wp2_with fail
      refine (hsm.out _).mono ?_
      rintro e w' ⟨rfl, rfl⟩
      go_wp2_with fail
      refine (frScan_any (row ++ mo) _ hl9.out _ (Lib.hid rfl)).mono ?_
      rintro e w3 ⟨a3, n3, c3, rfl, hs3, hb3, hfr3, hnc3⟩
      rw [hE.out] at hs3
      have hn3 : n6 ≤ n3 := by have := hs3.1; rw [strs_length, List.length_append] at this; have := HN6.out; omega
      have hs3' : SlAt w3 a3 n6 (strs bs) := by
        have := hs3.take hn3
        rw [HN6.out, strs_append, List.take_left' (strs_length _)] at this
        rw [HN6.out]; exact this
      have HS3 := Lib.hid hs3'
      have HS6 := Lib.hid (HS6.out.keep hb3)
      have HB3 := Lib.hid (below_then hB.out hb3 hB.out.size)
      have hc9 : bs.length ≤ 9223372036854775807 := by have := hkb.out; omega
      have HC9 := Lib.hid hc9
      have hn3i : (n6 : Int) ≤ (n3 : Int) := by omega
      have hnc3i : (n6 : Int) ≤ (c3 : Int) := by omega
      have hTi : (row.size : Int) ≤ ((taken (bodies (row ++ mo).data.toList) : Nat) : Int) := by have := hT.out; omega
      clear hs3 hs3' hb3 hfr3 hc9
      generalize taken (bodies (row ++ mo).data.toList) = T at *
      go_wp2_with fail
      refine (frSum_const _ _ _ sumI_a (by decide)).mono ?_
      rintro e w' ⟨rfl, rfl⟩
      go_wp2_with fail
      refine (like_same _ _ _ _ _ _ bs _ HS3.out HS6.out HC9.out).mono ?_
      rintro e w8 ⟨rfl, m8, rfl⟩
      go_wp2
      go_ret
      exact ⟨rfl, below_drewN HB3.out m8⟩
theorem frameRows_walk (a : Option Addr) (len cap : Nat) (zs : List ByteArray) (more : ByteArray) (w : World) (hz : IsStrs w a len cap zs) (hm : more.size ≤ maxLen) :
    Calls Try.prog 6 #[.slice a len cap, .string more] w fun e w' => e = .returned (.bool true) ∧ Below w.heap.size w w' := frameRows_main a len cap zs more _ w hz hm rfl
end Go.Proofs.Ytebpelfmllkpbaa
