/-
  The walk of the law WalBytes: it returns true. (Written by wip/mkwalbytes.py.)
-/
import Derived.Test.YtboohpkmllelgaaDoorWaL
import Derived.Test.YtboohpkmllelgaaDoorWpB
import Derived.Test.YtboohpkmllelgaaDoorWhC
namespace Go.Proofs.YtboohpkmllelgaaDoor
open Go.RowKit
set_option linter.unusedVariables false
theorem putH_two (h : Hd) : (putH h).2 = 0 ∨ putH h = (⟨#[]⟩, 1) := by
  unfold putH
  split
  · split
    · exact .inr rfl
    · rename_i hn
      exact .inl (Classical.byContradiction hn)
  · exact .inr rfl

set_option maxRecDepth 100000 in
set_option maxHeartbeats 4000000 in
theorem walBytes_walk (h : Hd) (ar : Option Addr) (nr cr : Nat) (av : Option Addr) (nv cv : Nat) (s : ByteArray) (w : World) (H : HdAt w h ar nr cr av nv cv) (hm : s.size ≤ 9223372036854775807) (htab : Lib.TabIs Tryd.prog w "internal/strconv.uint64pow10" .u64 Lib.pow10Tab) :
    Calls Tryd.prog 6 #[h.val ar nr cr av nv cv, .string s] w (fun e w' => e = .returned (.bool true) ∧ Below w.heap.size w w') := by
  have HT := Lib.hid (Lib.tabBelow_of_tabIs htab)
  obtain ⟨g, hg⟩ : ∃ g, g = putH h := ⟨_, rfl⟩
  obtain ⟨x, hx⟩ : ∃ x, x = getH s := ⟨_, rfl⟩
  obtain ⟨q, hq⟩ : ∃ q, q = decide (g.2 = 0) := ⟨_, rfl⟩
  have HG := Lib.hid (show g.2 = 0 ∧ q = true ∨ g = (⟨#[]⟩, 1) ∧ q = false by
    rw [hq, hg]
    rcases putH_two h with h0 | h1
    · exact .inl ⟨h0, decide_eq_true h0⟩
    · exact .inr ⟨h1, by rw [h1]; rfl⟩)
  have HGB := Lib.hid (show (g.1, q) = bytesH h by rw [bytesH_put, hq, hg])
  have HGR := Lib.hid (show q = rightH h by rw [hq, hg]; rfl)
  have HG2 := Lib.hid hg
  have HWG : Hid (∀ W, Below w.heap.size w W → Calls Tryd.prog 18 #[.string s] W (RetH W x)) := Lib.hid (fun W hb => by rw [hx]; exact wget_any s W hm (HT.out _ hb))
  have HRG : Hid (∀ W, Below w.heap.size w W → Calls Tryd.prog 19 #[.string s] W (RetH W x)) := Lib.hid (fun W hb => by rw [hx]; exact rget14_any s W hm (HT.out _ hb))
  have HAL : Hid (∀ W, Below w.heap.size w W → Calls Tryd.prog 20 #[] W fun e w' => e = .returned (.bool true) ∧ Below W.heap.size W w') := Lib.hid (fun W hb => alive14_any W (HT.out _ hb))
  have HSM : Hid (∀ W, Below w.heap.size w W → Calls Tryd.prog 15 #[h.val ar nr cr av nv cv] W fun e w' => (∃ b, e = .returned (.bool b)) ∧ Below W.heap.size W w') := Lib.hid (fun W hb => small14_any h ar nr cr av nv cv W (H.keep hb))
  have HPUT : Hid (∀ W, Below w.heap.size w W → Calls Tryd.prog 16 #[h.val ar nr cr av nv cv] W fun e w' => e = .returned (.tuple #[.string g.1, .int .i64 g.2]) ∧ Below W.heap.size W w') := Lib.hid (fun W hb => wput_any h ar nr cr av nv cv W (H.keep hb) (HT.out _ hb) g HG2)
  have HBYT : Hid (∀ W, Below w.heap.size w W → Calls Tryd.prog 17 #[h.val ar nr cr av nv cv] W fun e w' => e = .returned (.tuple #[.string g.1, .bool q]) ∧ Below W.heap.size W w') := Lib.hid (fun W hb => r14bytes_any h ar nr cr av nv cv W (H.keep hb) (HT.out _ hb) (g.1, q) HGB)
  have HRIG : Hid (∀ W, Below w.heap.size w W → Calls Tryd.prog 21 #[h.val ar nr cr av nv cv] W fun e w' => e = .returned (.bool q) ∧ Below W.heap.size W w') := Lib.hid (fun W hb => wright_any h ar nr cr av nv cv W (H.keep hb) (HT.out _ hb) q HGR)
  have HNR := H.nr
  clear hg hx hq htab HG2 HGB HGR H
  obtain ⟨tm, vt, bs, bt, rs, sn, vs⟩ := h
  unfold Hd.val at HSM HPUT HBYT HRIG ⊢
  dsimp only at *
  have HB0 := Lib.hid ((Below.refl w.heap.size w).alloc (Nat.le_refl _) (.cells #[.int .i64 tm, .int .i64 vt, .int .i64 bs, .int .i64 bt, .slice ar nr cr, .string sn, .slice av nv cv] 42))
  have HK0 : Hid (Blk (w.alloc (.cells #[.int .i64 tm, .int .i64 vt, .int .i64 bs, .int .i64 bt, .slice ar nr cr, .string sn, .slice av nv cv] 42)) w.heap.size 42 [.int .i64 tm, .int .i64 vt, .int .i64 bs, .int .i64 bt, .slice ar nr cr, .string sn, .slice av nv cv]) := Lib.hid (heap_alloc_new w _)
  obtain ⟨g1, g2⟩ := g
  dsimp only at *
  have x0 := HK0.out.cell (j := 0) rfl
  have x1 := HK0.out.cell (j := 1) rfl
  have x2 := HK0.out.cell (j := 2) rfl
  have x3 := HK0.out.cell (j := 3) rfl
  have x4 := HK0.out.cell (j := 4) rfl
  have x5 := HK0.out.cell (j := 5) rfl
  have x6 := HK0.out.cell (j := 6) rfl
  go_enter Tryd.func6, Tryd.ntmps6
  go_wp2_with fail
  refine (HSM.out _ HB0.out).mono ?_
  rintro e w1 ⟨⟨b, rfl⟩, hb1⟩
  dsimp only
  have HB1 := Lib.hid (below_then HB0.out hb1 HB0.out.size)
  have HK1 := Lib.hid (HK0.out.keep hb1)
  clear x0 x1 x2 x3 x4 x5 x6 hb1 HB0 HK0 HSM
  cases b with
  | true =>
    have x0 := HK1.out.cell (j := 0) rfl
    have x1 := HK1.out.cell (j := 1) rfl
    have x2 := HK1.out.cell (j := 2) rfl
    have x3 := HK1.out.cell (j := 3) rfl
    have x4 := HK1.out.cell (j := 4) rfl
    have x5 := HK1.out.cell (j := 5) rfl
    have x6 := HK1.out.cell (j := 6) rfl
    go_wp2_with fail
    refine (HPUT.out w1 HB1.out).mono ?_
    rintro e w2 ⟨rfl, hb2⟩
    dsimp only
    have HB2 := Lib.hid (below_then HB1.out hb2 HB1.out.size)
    have HK2 := Lib.hid (HK1.out.keep hb2)
    clear x0 x1 x2 x3 x4 x5 x6 hb2 HB1 HK1 HPUT
    have x0 := HK2.out.cell (j := 0) rfl
    have x1 := HK2.out.cell (j := 1) rfl
    have x2 := HK2.out.cell (j := 2) rfl
    have x3 := HK2.out.cell (j := 3) rfl
    have x4 := HK2.out.cell (j := 4) rfl
    have x5 := HK2.out.cell (j := 5) rfl
    have x6 := HK2.out.cell (j := 6) rfl
    go_wp2_with fail
    refine (HBYT.out w2 HB2.out).mono ?_
    rintro e w3 ⟨rfl, hb3⟩
    dsimp only
    have HB3 := Lib.hid (below_then HB2.out hb3 HB2.out.size)
    have HK3 := Lib.hid (HK2.out.keep hb3)
    clear x0 x1 x2 x3 x4 x5 x6 hb3 HB2 HK2 HBYT
    go_wp2_with fail
    refine (HWG.out w3 HB3.out).mono ?_
    rintro e w4 ⟨ar4, nr4, cr4, av4, nv4, cv4, rfl, hms4, hb4, -, -⟩
    obtain ⟨y, y2⟩ := x
    unfold Hd.val
    dsimp only at *
    have HB4 := Lib.hid (below_then HB3.out hb4 HB3.out.size)
    have HK4 := Lib.hid (HK3.out.keep hb4)
    have HMU4 := Lib.hid hms4
    clear hb4 hms4 HB3 HK3 HWG
    go_upto_region 6 with fail
    have HB41 := Lib.hid (HB4.out.alloc HB4.out.size (.cells #[.int .i64 y.term, .int .i64 y.vote, .int .i64 y.base, .int .i64 y.bt, .slice ar4 nr4 cr4, .string y.snap, .slice av4 nv4 cv4] 42))
    have HK41 := Lib.hid (HK4.out.alloc (.cells #[.int .i64 y.term, .int .i64 y.vote, .int .i64 y.base, .int .i64 y.bt, .slice ar4 nr4 cr4, .string y.snap, .slice av4 nv4 cv4] 42))
    have HU41 := Lib.hid (show Blk (w4.alloc (.cells #[.int .i64 y.term, .int .i64 y.vote, .int .i64 y.base, .int .i64 y.bt, .slice ar4 nr4 cr4, .string y.snap, .slice av4 nv4 cv4] 42)) w4.heap.size 42 [.int .i64 y.term, .int .i64 y.vote, .int .i64 y.base, .int .i64 y.bt, .slice ar4 nr4 cr4, .string y.snap, .slice av4 nv4 cv4] from heap_alloc_new w4 _)
    have HMU41 := Lib.hid (HMU4.out.keep ((Below.refl _ w4).alloc (Nat.le_refl _) (.cells #[.int .i64 y.term, .int .i64 y.vote, .int .i64 y.base, .int .i64 y.bt, .slice ar4 nr4 cr4, .string y.snap, .slice av4 nv4 cv4] 42)))
    clear HB4 HK4 HMU4
    generalize w4.alloc (.cells #[.int .i64 y.term, .int .i64 y.vote, .int .i64 y.base, .int .i64 y.bt, .slice ar4 nr4 cr4, .string y.snap, .slice av4 nv4 cv4] 42) = w41 at *
    go_wp2_with fail
    refine (HRG.out w41 HB41.out).mono ?_
    rintro e w5 ⟨ar5, nr5, cr5, av5, nv5, cv5, rfl, hms5, hb5, -, -⟩
    unfold Hd.val
    dsimp only
    have HB5 := Lib.hid (below_then HB41.out hb5 HB41.out.size)
    have HK5 := Lib.hid (HK41.out.keep hb5)
    have HU5 := Lib.hid (HU41.out.keep hb5)
    have HMU5 := Lib.hid (HMU41.out.keep hb5)
    have HMV5 := Lib.hid hms5
    clear hb5 hms5 HB41 HK41 HRG HU41 HMU41
    go_upto_region 7 with fail
    have HB6 := Lib.hid (HB5.out.alloc HB5.out.size (.cells #[.int .i64 y.term, .int .i64 y.vote, .int .i64 y.base, .int .i64 y.bt, .slice ar5 nr5 cr5, .string y.snap, .slice av5 nv5 cv5] 42))
    have HK6 := Lib.hid (HK5.out.alloc (.cells #[.int .i64 y.term, .int .i64 y.vote, .int .i64 y.base, .int .i64 y.bt, .slice ar5 nr5 cr5, .string y.snap, .slice av5 nv5 cv5] 42))
    have HV6 := Lib.hid (show Blk (w5.alloc (.cells #[.int .i64 y.term, .int .i64 y.vote, .int .i64 y.base, .int .i64 y.bt, .slice ar5 nr5 cr5, .string y.snap, .slice av5 nv5 cv5] 42)) w5.heap.size 42 [.int .i64 y.term, .int .i64 y.vote, .int .i64 y.base, .int .i64 y.bt, .slice ar5 nr5 cr5, .string y.snap, .slice av5 nv5 cv5] from heap_alloc_new w5 _)
    have HMU6 := Lib.hid (HMU5.out.keep ((Below.refl _ w5).alloc (Nat.le_refl _) (.cells #[.int .i64 y.term, .int .i64 y.vote, .int .i64 y.base, .int .i64 y.bt, .slice ar5 nr5 cr5, .string y.snap, .slice av5 nv5 cv5] 42)))
    have HMV6 := Lib.hid (HMV5.out.keep ((Below.refl _ w5).alloc (Nat.le_refl _) (.cells #[.int .i64 y.term, .int .i64 y.vote, .int .i64 y.base, .int .i64 y.bt, .slice ar5 nr5 cr5, .string y.snap, .slice av5 nv5 cv5] 42)))
    have HU6 := Lib.hid (HU5.out.alloc (.cells #[.int .i64 y.term, .int .i64 y.vote, .int .i64 y.base, .int .i64 y.bt, .slice ar5 nr5 cr5, .string y.snap, .slice av5 nv5 cv5] 42))
    clear HB5 HK5 HU5 HMU5 HMV5
    generalize w5.alloc (.cells #[.int .i64 y.term, .int .i64 y.vote, .int .i64 y.base, .int .i64 y.bt, .slice ar5 nr5 cr5, .string y.snap, .slice av5 nv5 cv5] 42) = w6 at *
    rcases HG.out with ⟨h0, hq⟩ | ⟨h0, hq⟩
    · skip
      subst h0 hq
      clear HG
      go_wp2_with fail
      refine (HAL.out w6 HB6.out).mono ?_
      rintro e w7 ⟨rfl, hb7⟩
      dsimp only
      have HB7 := Lib.hid (below_then HB6.out hb7 HB6.out.size)
      have HK7 := Lib.hid (HK6.out.keep hb7)
      have HU7 := Lib.hid (HU6.out.keep hb7)
      have HV7 := Lib.hid (HV6.out.keep hb7)
      have HMU7 := Lib.hid (HMU6.out.keep hb7)
      have HMV7 := Lib.hid (HMV6.out.keep hb7)
      clear hb7 HU6 HV6 HMU6 HMV6 HB6 HK6 HAL
      have x0 := HK7.out.cell (j := 0) rfl
      have x1 := HK7.out.cell (j := 1) rfl
      have x2 := HK7.out.cell (j := 2) rfl
      have x3 := HK7.out.cell (j := 3) rfl
      have x4 := HK7.out.cell (j := 4) rfl
      have x5 := HK7.out.cell (j := 5) rfl
      have x6 := HK7.out.cell (j := 6) rfl
      go_wp2_with fail
      refine (HRIG.out w7 HB7.out).mono ?_
      rintro e w8 ⟨rfl, hb8⟩
      dsimp only
      have HB8 := Lib.hid (below_then HB7.out hb8 HB7.out.size)
      have HK8 := Lib.hid (HK7.out.keep hb8)
      have HU8 := Lib.hid (HU7.out.keep hb8)
      have HV8 := Lib.hid (HV7.out.keep hb8)
      have HMU8 := HMU7.out.keep hb8
      have HMV8 := HMV7.out.keep hb8
      have hlk : Hid (Calls Tryd.prog 22 #[.agg #[.int .i64 y.term, .int .i64 y.vote, .int .i64 y.base, .int .i64 y.bt, .slice ar4 nr4 cr4, .string y.snap, .slice av4 nv4 cv4], .agg #[.int .i64 y.term, .int .i64 y.vote, .int .i64 y.base, .int .i64 y.bt, .slice ar5 nr5 cr5, .string y.snap, .slice av5 nv5 cv5]] w8 _) := Lib.hid (like14_same y ar4 nr4 cr4 av4 nv4 cv4 ar5 nr5 cr5 av5 nv5 cv5 w8 HMU8 HMV8)
      clear x0 x1 x2 x3 x4 x5 x6 hb8 HU7 HV7 HMU7 HMV7 HB7 HK7 HRIG HMU8 HMV8
      have u0 := HU8.out.cell (j := 0) rfl
      have u1 := HU8.out.cell (j := 1) rfl
      have u2 := HU8.out.cell (j := 2) rfl
      have u3 := HU8.out.cell (j := 3) rfl
      have u4 := HU8.out.cell (j := 4) rfl
      have u5 := HU8.out.cell (j := 5) rfl
      have u6 := HU8.out.cell (j := 6) rfl
      have v0 := HV8.out.cell (j := 0) rfl
      have v1 := HV8.out.cell (j := 1) rfl
      have v2 := HV8.out.cell (j := 2) rfl
      have v3 := HV8.out.cell (j := 3) rfl
      have v4 := HV8.out.cell (j := 4) rfl
      have v5 := HV8.out.cell (j := 5) rfl
      have v6 := HV8.out.cell (j := 6) rfl
      have ess : (g1.toList == g1.toList) = true := by simp
      have eyy : (y2 == y2) = true := by simp
      go_wp2_with fail
      refine hlk.out.mono ?_
      rintro e w9 ⟨rfl, hb9⟩
      dsimp only
      have HB9 := Lib.hid (below_then HB8.out hb9 HB8.out.size)
      clear u0 u1 u2 u3 u4 u5 u6 hlk HU8 HB8 HK8 hb9
      clear v0 v1 v2 v3 v4 v5 v6 HV8
      go_wp2_with fail
      go_ret
      exact ⟨rfl, HB9.out⟩
    · skip
      obtain ⟨rfl, rfl⟩ := Prod.mk.inj h0
      subst hq
      clear h0
      clear HG
      go_wp2_with fail
      refine (HAL.out w6 HB6.out).mono ?_
      rintro e w7 ⟨rfl, hb7⟩
      dsimp only
      have HB7 := Lib.hid (below_then HB6.out hb7 HB6.out.size)
      have HK7 := Lib.hid (HK6.out.keep hb7)
      have HU7 := Lib.hid (HU6.out.keep hb7)
      have HV7 := Lib.hid (HV6.out.keep hb7)
      have HMU7 := Lib.hid (HMU6.out.keep hb7)
      have HMV7 := Lib.hid (HMV6.out.keep hb7)
      clear hb7 HU6 HV6 HMU6 HMV6 HB6 HK6 HAL
      have x0 := HK7.out.cell (j := 0) rfl
      have x1 := HK7.out.cell (j := 1) rfl
      have x2 := HK7.out.cell (j := 2) rfl
      have x3 := HK7.out.cell (j := 3) rfl
      have x4 := HK7.out.cell (j := 4) rfl
      have x5 := HK7.out.cell (j := 5) rfl
      have x6 := HK7.out.cell (j := 6) rfl
      go_wp2_with fail
      refine (HRIG.out w7 HB7.out).mono ?_
      rintro e w8 ⟨rfl, hb8⟩
      dsimp only
      have HB8 := Lib.hid (below_then HB7.out hb8 HB7.out.size)
      have HK8 := Lib.hid (HK7.out.keep hb8)
      have HU8 := Lib.hid (HU7.out.keep hb8)
      have HV8 := Lib.hid (HV7.out.keep hb8)
      have HMU8 := HMU7.out.keep hb8
      have HMV8 := HMV7.out.keep hb8
      have hlk : Hid (Calls Tryd.prog 22 #[.agg #[.int .i64 y.term, .int .i64 y.vote, .int .i64 y.base, .int .i64 y.bt, .slice ar4 nr4 cr4, .string y.snap, .slice av4 nv4 cv4], .agg #[.int .i64 y.term, .int .i64 y.vote, .int .i64 y.base, .int .i64 y.bt, .slice ar5 nr5 cr5, .string y.snap, .slice av5 nv5 cv5]] w8 _) := Lib.hid (like14_same y ar4 nr4 cr4 av4 nv4 cv4 ar5 nr5 cr5 av5 nv5 cv5 w8 HMU8 HMV8)
      clear x0 x1 x2 x3 x4 x5 x6 hb8 HU7 HV7 HMU7 HMV7 HB7 HK7 HRIG HMU8 HMV8
      have u0 := HU8.out.cell (j := 0) rfl
      have u1 := HU8.out.cell (j := 1) rfl
      have u2 := HU8.out.cell (j := 2) rfl
      have u3 := HU8.out.cell (j := 3) rfl
      have u4 := HU8.out.cell (j := 4) rfl
      have u5 := HU8.out.cell (j := 5) rfl
      have u6 := HU8.out.cell (j := 6) rfl
      have v0 := HV8.out.cell (j := 0) rfl
      have v1 := HV8.out.cell (j := 1) rfl
      have v2 := HV8.out.cell (j := 2) rfl
      have v3 := HV8.out.cell (j := 3) rfl
      have v4 := HV8.out.cell (j := 4) rfl
      have v5 := HV8.out.cell (j := 5) rfl
      have v6 := HV8.out.cell (j := 6) rfl
      skip
      have eyy : (y2 == y2) = true := by simp
      go_wp2_with fail
      refine hlk.out.mono ?_
      rintro e w9 ⟨rfl, hb9⟩
      dsimp only
      have HB9 := Lib.hid (below_then HB8.out hb9 HB8.out.size)
      clear u0 u1 u2 u3 u4 u5 u6 hlk HU8 HB8 HK8 hb9
      clear v0 v1 v2 v3 v4 v5 v6 HV8
      go_wp2_with fail
      go_ret
      exact ⟨rfl, HB9.out⟩
  | false =>
    have z4 := HK1.out.cell (j := 4) rfl
    by_cases hn : nr ≤ 200
    · have hni : (nr : Int) ≤ 200 := by omega
      go_wp2_with fail
      go_ret
      exact ⟨rfl, HB1.out⟩
    · have hni : (200 : Int) < (nr : Int) := by omega
      go_upto_region 3 with fail
      clear z4 hn hni
      have x0 := HK1.out.cell (j := 0) rfl
      have x1 := HK1.out.cell (j := 1) rfl
      have x2 := HK1.out.cell (j := 2) rfl
      have x3 := HK1.out.cell (j := 3) rfl
      have x4 := HK1.out.cell (j := 4) rfl
      have x5 := HK1.out.cell (j := 5) rfl
      have x6 := HK1.out.cell (j := 6) rfl
      go_wp2_with fail
      refine (HPUT.out w1 HB1.out).mono ?_
      rintro e w2 ⟨rfl, hb2⟩
      dsimp only
      have HB2 := Lib.hid (below_then HB1.out hb2 HB1.out.size)
      have HK2 := Lib.hid (HK1.out.keep hb2)
      clear x0 x1 x2 x3 x4 x5 x6 hb2 HB1 HK1 HPUT
      have x0 := HK2.out.cell (j := 0) rfl
      have x1 := HK2.out.cell (j := 1) rfl
      have x2 := HK2.out.cell (j := 2) rfl
      have x3 := HK2.out.cell (j := 3) rfl
      have x4 := HK2.out.cell (j := 4) rfl
      have x5 := HK2.out.cell (j := 5) rfl
      have x6 := HK2.out.cell (j := 6) rfl
      go_wp2_with fail
      refine (HBYT.out w2 HB2.out).mono ?_
      rintro e w3 ⟨rfl, hb3⟩
      dsimp only
      have HB3 := Lib.hid (below_then HB2.out hb3 HB2.out.size)
      have HK3 := Lib.hid (HK2.out.keep hb3)
      clear x0 x1 x2 x3 x4 x5 x6 hb3 HB2 HK2 HBYT
      go_wp2_with fail
      refine (HWG.out w3 HB3.out).mono ?_
      rintro e w4 ⟨ar4, nr4, cr4, av4, nv4, cv4, rfl, hms4, hb4, -, -⟩
      obtain ⟨y, y2⟩ := x
      unfold Hd.val
      dsimp only at *
      have HB4 := Lib.hid (below_then HB3.out hb4 HB3.out.size)
      have HK4 := Lib.hid (HK3.out.keep hb4)
      have HMU4 := Lib.hid hms4
      clear hb4 hms4 HB3 HK3 HWG
      go_upto_region 6 with fail
      have HB41 := Lib.hid (HB4.out.alloc HB4.out.size (.cells #[.int .i64 y.term, .int .i64 y.vote, .int .i64 y.base, .int .i64 y.bt, .slice ar4 nr4 cr4, .string y.snap, .slice av4 nv4 cv4] 42))
      have HK41 := Lib.hid (HK4.out.alloc (.cells #[.int .i64 y.term, .int .i64 y.vote, .int .i64 y.base, .int .i64 y.bt, .slice ar4 nr4 cr4, .string y.snap, .slice av4 nv4 cv4] 42))
      have HU41 := Lib.hid (show Blk (w4.alloc (.cells #[.int .i64 y.term, .int .i64 y.vote, .int .i64 y.base, .int .i64 y.bt, .slice ar4 nr4 cr4, .string y.snap, .slice av4 nv4 cv4] 42)) w4.heap.size 42 [.int .i64 y.term, .int .i64 y.vote, .int .i64 y.base, .int .i64 y.bt, .slice ar4 nr4 cr4, .string y.snap, .slice av4 nv4 cv4] from heap_alloc_new w4 _)
      have HMU41 := Lib.hid (HMU4.out.keep ((Below.refl _ w4).alloc (Nat.le_refl _) (.cells #[.int .i64 y.term, .int .i64 y.vote, .int .i64 y.base, .int .i64 y.bt, .slice ar4 nr4 cr4, .string y.snap, .slice av4 nv4 cv4] 42)))
      clear HB4 HK4 HMU4
      generalize w4.alloc (.cells #[.int .i64 y.term, .int .i64 y.vote, .int .i64 y.base, .int .i64 y.bt, .slice ar4 nr4 cr4, .string y.snap, .slice av4 nv4 cv4] 42) = w41 at *
      go_wp2_with fail
      refine (HRG.out w41 HB41.out).mono ?_
      rintro e w5 ⟨ar5, nr5, cr5, av5, nv5, cv5, rfl, hms5, hb5, -, -⟩
      unfold Hd.val
      dsimp only
      have HB5 := Lib.hid (below_then HB41.out hb5 HB41.out.size)
      have HK5 := Lib.hid (HK41.out.keep hb5)
      have HU5 := Lib.hid (HU41.out.keep hb5)
      have HMU5 := Lib.hid (HMU41.out.keep hb5)
      have HMV5 := Lib.hid hms5
      clear hb5 hms5 HB41 HK41 HRG HU41 HMU41
      go_upto_region 7 with fail
      have HB6 := Lib.hid (HB5.out.alloc HB5.out.size (.cells #[.int .i64 y.term, .int .i64 y.vote, .int .i64 y.base, .int .i64 y.bt, .slice ar5 nr5 cr5, .string y.snap, .slice av5 nv5 cv5] 42))
      have HK6 := Lib.hid (HK5.out.alloc (.cells #[.int .i64 y.term, .int .i64 y.vote, .int .i64 y.base, .int .i64 y.bt, .slice ar5 nr5 cr5, .string y.snap, .slice av5 nv5 cv5] 42))
      have HV6 := Lib.hid (show Blk (w5.alloc (.cells #[.int .i64 y.term, .int .i64 y.vote, .int .i64 y.base, .int .i64 y.bt, .slice ar5 nr5 cr5, .string y.snap, .slice av5 nv5 cv5] 42)) w5.heap.size 42 [.int .i64 y.term, .int .i64 y.vote, .int .i64 y.base, .int .i64 y.bt, .slice ar5 nr5 cr5, .string y.snap, .slice av5 nv5 cv5] from heap_alloc_new w5 _)
      have HMU6 := Lib.hid (HMU5.out.keep ((Below.refl _ w5).alloc (Nat.le_refl _) (.cells #[.int .i64 y.term, .int .i64 y.vote, .int .i64 y.base, .int .i64 y.bt, .slice ar5 nr5 cr5, .string y.snap, .slice av5 nv5 cv5] 42)))
      have HMV6 := Lib.hid (HMV5.out.keep ((Below.refl _ w5).alloc (Nat.le_refl _) (.cells #[.int .i64 y.term, .int .i64 y.vote, .int .i64 y.base, .int .i64 y.bt, .slice ar5 nr5 cr5, .string y.snap, .slice av5 nv5 cv5] 42)))
      have HU6 := Lib.hid (HU5.out.alloc (.cells #[.int .i64 y.term, .int .i64 y.vote, .int .i64 y.base, .int .i64 y.bt, .slice ar5 nr5 cr5, .string y.snap, .slice av5 nv5 cv5] 42))
      clear HB5 HK5 HU5 HMU5 HMV5
      generalize w5.alloc (.cells #[.int .i64 y.term, .int .i64 y.vote, .int .i64 y.base, .int .i64 y.bt, .slice ar5 nr5 cr5, .string y.snap, .slice av5 nv5 cv5] 42) = w6 at *
      rcases HG.out with ⟨h0, hq⟩ | ⟨h0, hq⟩
      · skip
        subst h0 hq
        clear HG
        go_wp2_with fail
        refine (HAL.out w6 HB6.out).mono ?_
        rintro e w7 ⟨rfl, hb7⟩
        dsimp only
        have HB7 := Lib.hid (below_then HB6.out hb7 HB6.out.size)
        have HK7 := Lib.hid (HK6.out.keep hb7)
        have HU7 := Lib.hid (HU6.out.keep hb7)
        have HV7 := Lib.hid (HV6.out.keep hb7)
        have HMU7 := Lib.hid (HMU6.out.keep hb7)
        have HMV7 := Lib.hid (HMV6.out.keep hb7)
        clear hb7 HU6 HV6 HMU6 HMV6 HB6 HK6 HAL
        have x0 := HK7.out.cell (j := 0) rfl
        have x1 := HK7.out.cell (j := 1) rfl
        have x2 := HK7.out.cell (j := 2) rfl
        have x3 := HK7.out.cell (j := 3) rfl
        have x4 := HK7.out.cell (j := 4) rfl
        have x5 := HK7.out.cell (j := 5) rfl
        have x6 := HK7.out.cell (j := 6) rfl
        go_wp2_with fail
        refine (HRIG.out w7 HB7.out).mono ?_
        rintro e w8 ⟨rfl, hb8⟩
        dsimp only
        have HB8 := Lib.hid (below_then HB7.out hb8 HB7.out.size)
        have HK8 := Lib.hid (HK7.out.keep hb8)
        have HU8 := Lib.hid (HU7.out.keep hb8)
        have HV8 := Lib.hid (HV7.out.keep hb8)
        have HMU8 := HMU7.out.keep hb8
        have HMV8 := HMV7.out.keep hb8
        have hlk : Hid (Calls Tryd.prog 22 #[.agg #[.int .i64 y.term, .int .i64 y.vote, .int .i64 y.base, .int .i64 y.bt, .slice ar4 nr4 cr4, .string y.snap, .slice av4 nv4 cv4], .agg #[.int .i64 y.term, .int .i64 y.vote, .int .i64 y.base, .int .i64 y.bt, .slice ar5 nr5 cr5, .string y.snap, .slice av5 nv5 cv5]] w8 _) := Lib.hid (like14_same y ar4 nr4 cr4 av4 nv4 cv4 ar5 nr5 cr5 av5 nv5 cv5 w8 HMU8 HMV8)
        clear x0 x1 x2 x3 x4 x5 x6 hb8 HU7 HV7 HMU7 HMV7 HB7 HK7 HRIG HMU8 HMV8
        have u0 := HU8.out.cell (j := 0) rfl
        have u1 := HU8.out.cell (j := 1) rfl
        have u2 := HU8.out.cell (j := 2) rfl
        have u3 := HU8.out.cell (j := 3) rfl
        have u4 := HU8.out.cell (j := 4) rfl
        have u5 := HU8.out.cell (j := 5) rfl
        have u6 := HU8.out.cell (j := 6) rfl
        have v0 := HV8.out.cell (j := 0) rfl
        have v1 := HV8.out.cell (j := 1) rfl
        have v2 := HV8.out.cell (j := 2) rfl
        have v3 := HV8.out.cell (j := 3) rfl
        have v4 := HV8.out.cell (j := 4) rfl
        have v5 := HV8.out.cell (j := 5) rfl
        have v6 := HV8.out.cell (j := 6) rfl
        have ess : (g1.toList == g1.toList) = true := by simp
        have eyy : (y2 == y2) = true := by simp
        go_wp2_with fail
        refine hlk.out.mono ?_
        rintro e w9 ⟨rfl, hb9⟩
        dsimp only
        have HB9 := Lib.hid (below_then HB8.out hb9 HB8.out.size)
        clear u0 u1 u2 u3 u4 u5 u6 hlk HU8 HB8 HK8 hb9
        clear v0 v1 v2 v3 v4 v5 v6 HV8
        go_wp2_with fail
        go_ret
        exact ⟨rfl, HB9.out⟩
      · skip
        obtain ⟨rfl, rfl⟩ := Prod.mk.inj h0
        subst hq
        clear h0
        clear HG
        go_wp2_with fail
        refine (HAL.out w6 HB6.out).mono ?_
        rintro e w7 ⟨rfl, hb7⟩
        dsimp only
        have HB7 := Lib.hid (below_then HB6.out hb7 HB6.out.size)
        have HK7 := Lib.hid (HK6.out.keep hb7)
        have HU7 := Lib.hid (HU6.out.keep hb7)
        have HV7 := Lib.hid (HV6.out.keep hb7)
        have HMU7 := Lib.hid (HMU6.out.keep hb7)
        have HMV7 := Lib.hid (HMV6.out.keep hb7)
        clear hb7 HU6 HV6 HMU6 HMV6 HB6 HK6 HAL
        have x0 := HK7.out.cell (j := 0) rfl
        have x1 := HK7.out.cell (j := 1) rfl
        have x2 := HK7.out.cell (j := 2) rfl
        have x3 := HK7.out.cell (j := 3) rfl
        have x4 := HK7.out.cell (j := 4) rfl
        have x5 := HK7.out.cell (j := 5) rfl
        have x6 := HK7.out.cell (j := 6) rfl
        go_wp2_with fail
        refine (HRIG.out w7 HB7.out).mono ?_
        rintro e w8 ⟨rfl, hb8⟩
        dsimp only
        have HB8 := Lib.hid (below_then HB7.out hb8 HB7.out.size)
        have HK8 := Lib.hid (HK7.out.keep hb8)
        have HU8 := Lib.hid (HU7.out.keep hb8)
        have HV8 := Lib.hid (HV7.out.keep hb8)
        have HMU8 := HMU7.out.keep hb8
        have HMV8 := HMV7.out.keep hb8
        have hlk : Hid (Calls Tryd.prog 22 #[.agg #[.int .i64 y.term, .int .i64 y.vote, .int .i64 y.base, .int .i64 y.bt, .slice ar4 nr4 cr4, .string y.snap, .slice av4 nv4 cv4], .agg #[.int .i64 y.term, .int .i64 y.vote, .int .i64 y.base, .int .i64 y.bt, .slice ar5 nr5 cr5, .string y.snap, .slice av5 nv5 cv5]] w8 _) := Lib.hid (like14_same y ar4 nr4 cr4 av4 nv4 cv4 ar5 nr5 cr5 av5 nv5 cv5 w8 HMU8 HMV8)
        clear x0 x1 x2 x3 x4 x5 x6 hb8 HU7 HV7 HMU7 HMV7 HB7 HK7 HRIG HMU8 HMV8
        have u0 := HU8.out.cell (j := 0) rfl
        have u1 := HU8.out.cell (j := 1) rfl
        have u2 := HU8.out.cell (j := 2) rfl
        have u3 := HU8.out.cell (j := 3) rfl
        have u4 := HU8.out.cell (j := 4) rfl
        have u5 := HU8.out.cell (j := 5) rfl
        have u6 := HU8.out.cell (j := 6) rfl
        have v0 := HV8.out.cell (j := 0) rfl
        have v1 := HV8.out.cell (j := 1) rfl
        have v2 := HV8.out.cell (j := 2) rfl
        have v3 := HV8.out.cell (j := 3) rfl
        have v4 := HV8.out.cell (j := 4) rfl
        have v5 := HV8.out.cell (j := 5) rfl
        have v6 := HV8.out.cell (j := 6) rfl
        skip
        have eyy : (y2 == y2) = true := by simp
        go_wp2_with fail
        refine hlk.out.mono ?_
        rintro e w9 ⟨rfl, hb9⟩
        dsimp only
        have HB9 := Lib.hid (below_then HB8.out hb9 HB8.out.size)
        clear u0 u1 u2 u3 u4 u5 u6 hlk HU8 HB8 HK8 hb9
        clear v0 v1 v2 v3 v4 v5 v6 HV8
        go_wp2_with fail
        go_ret
        exact ⟨rfl, HB9.out⟩
end Go.Proofs.YtboohpkmllelgaaDoor
