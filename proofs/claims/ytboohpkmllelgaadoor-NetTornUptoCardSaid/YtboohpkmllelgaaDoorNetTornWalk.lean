/-
  The walk of the law NetTorn: it returns true. (Written by wip/mkntorn.py.)
-/
import Derived.Test.YtboohpkmllelgaaDoorNoA
import Derived.Test.YtboohpkmllelgaaDoorNsA
import Derived.Test.YtboohpkmllelgaaDoorNaL
namespace Go.Proofs.YtboohpkmllelgaaDoor
open Go.RowKit
set_option linter.unusedVariables false

theorem torn_place (f : Int) (n : Nat) (h0 : 0 < n) : ∃ F : Nat, F < n ∧ (f < 0 → -((f + 1).tmod (n : Int)) = (F : Int)) ∧ (¬ f < 0 → f % (n : Int) = (F : Int)) := by
  have hm : (0 : Int) < (n : Int) := by omega
  by_cases hneg : f < 0
  · refine ⟨((-(f + 1)) % (n : Int)).toNat, ?_, ?_, fun h => absurd hneg h⟩
    · have h1 := Int.emod_nonneg (-(f + 1)) (by omega : (n : Int) ≠ 0)
      have h2 := Int.emod_lt_of_pos (-(f + 1)) hm
      omega
    · intro _
      rw [← Int.neg_tmod, Int.tmod_eq_emod_of_nonneg (by omega)]
      have h1 := Int.emod_nonneg (-(f + 1)) (by omega : (n : Int) ≠ 0)
      omega
  · refine ⟨(f % (n : Int)).toNat, ?_, fun h => absurd h hneg, ?_⟩
    · have h1 := Int.emod_nonneg f (by omega : (n : Int) ≠ 0)
      have h2 := Int.emod_lt_of_pos f hm
      omega
    · intro _
      have h1 := Int.emod_nonneg f (by omega : (n : Int) ≠ 0)
      omega
/-- A packet that is cut off, or of which one byte was changed, is refused. -/
theorem torn_cut {m : Ms} {s : ByteArray} (h : sealM m = (s, 0)) (k : Nat) (hk : k < s.size) : openM (s.extract 0 k) = (Ms.zero, 61) := by
  obtain ⟨-, h2, h3⟩ := seal_ok h
  have hl : s.data.toList = frameL (putM m).1.data.toList := by rw [h3]; exact frameOf_list _
  have hb : (putM m).1.data.toList.length ≤ 65536 := (by have h9 : (putM m).1.data.toList.length = (putM m).1.size := (by simp); omega)
  have hsz : s.size = (putM m).1.data.toList.length + 12 := by
    have h4 := congrArg List.length hl
    rw [frameL_length] at h4
    have : s.data.toList.length = s.size := by simp
    omega
  have hw := cut_none (putM m).1.data.toList hb k (by omega)
  unfold openM
  rw [if_neg]
  rw [extract_strOf, strOf_list, hl, List.drop_zero, Nat.sub_zero]
  exact hw
theorem torn_byte {m : Ms} {s : ByteArray} (h : sealM m = (s, 0)) (k : Nat) (hk : k < s.data.toList.length) (x : UInt8) (hx : x ≠ 0) : openM ⟨(s.data.toList.set k (s.data.toList[k] ^^^ x)).toArray⟩ = (Ms.zero, 61) := by
  obtain ⟨-, h2, h3⟩ := seal_ok h
  have hl : s.data.toList = frameL (putM m).1.data.toList := by rw [h3]; exact frameOf_list _
  have hb : (putM m).1.data.toList.length ≤ 65536 := (by have h9 : (putM m).1.data.toList.length = (putM m).1.size := (by simp); omega)
  have hw := torn_none (putM m).1.data.toList hb k (by rw [← hl]; exact hk) x hx
  unfold openM
  rw [if_neg]
  show ¬ wholeB (s.data.toList.set k (s.data.toList[k] ^^^ x))
  simp only [hl]
  exact hw
theorem torn_same {m : Ms} {s : ByteArray} (h : sealM m = (s, 0)) (k : Nat) (hk : k < s.data.toList.length) : openM ⟨(s.data.toList.set k (s.data.toList[k] ^^^ 0)).toArray⟩ = (m, 0) := by
  have e : s.data.toList.set k (s.data.toList[k] ^^^ 0) = s.data.toList := by
    rw [UInt8.xor_zero]; exact List.set_getElem_self hk
  rw [e, bytes_self]
  exact seal_open h
theorem ofInt8_nat (a : Nat) (ha : a < 256) : (BitVec.ofInt 8 (a : Int)).toNat = a := by
  rw [BitVec.ofInt_natCast, BitVec.toNat_ofNat]; exact Nat.mod_eq_of_lt (by omega)
theorem bits_xor_u8 (a b : UInt8) : bits .xor .u8 (a.toNat : Int) (b.toNat : Int) = ((a ^^^ b).toNat : Int) := by
  have h1 := byte_lt a; have h2 := byte_lt b; have h3 := byte_lt (a ^^^ b)
  show IntKind.u8.wrap ((BitVec.ofInt 8 (a.toNat : Int) ^^^ BitVec.ofInt 8 (b.toNat : Int)).toNat : Int) = _
  rw [BitVec.toNat_xor, ofInt8_nat _ h1, ofInt8_nat _ h2, ← UInt8.toNat_xor, IntKind.wrap_u8]
  omega
theorem mask_of (mask : Int) (h0 : 0 ≤ mask) (h1 : mask ≤ 255) : ∃ x : UInt8, mask = (x.toNat : Int) := by
  refine ⟨UInt8.ofNat mask.toNat, ?_⟩
  rw [UInt8.toNat_ofNat_of_lt' (by show mask.toNat < 256; omega)]
  omega

set_option maxRecDepth 100000 in
set_option maxHeartbeats 4000000 in
theorem netTorn_walk (m : Ms) (ar : Option Addr) (nr cr : Nat) (av : Option Addr) (nv cv : Nat) (f : Int) (mask : Int) (w : World) (h : MsAt w m ar nr cr av nv cv) (hsn : m.snap.size ≤ 140737488355328) (hd : ∀ r ∈ m.recs, r.data.size ≤ 140737488355328) (hf1 : -9223372036854775808 ≤ f ∧ f ≤ 9223372036854775807) (hm1 : 0 ≤ mask ∧ mask ≤ 255) (htab : Lib.TabIs Tryd.prog w "internal/strconv.uint64pow10" .u64 Lib.pow10Tab) :
    Calls Tryd.prog 4 #[m.val ar nr cr av nv cv, .int .i64 f, .int .u8 mask] w (fun e w' => e = .returned (.bool true) ∧ Below w.heap.size w w') := by
  have HT := Lib.hid (Lib.tabBelow_of_tabIs htab)
  obtain ⟨x, rfl⟩ := mask_of mask hm1.1 hm1.2
  obtain ⟨hf1, hf2⟩ := hf1
  obtain ⟨q, hq⟩ : ∃ q, q = sealM m := ⟨_, rfl⟩
  have HQZ : Hid (q.2 = 0 → 12 ≤ q.1.size ∧ q.1.size ≤ 65548) := Lib.hid (fun h => seal_some (m := m) (s := q.1) (by rw [← hq]; exact Prod.ext rfl h))
  have HQB : Hid (q.2 ≠ 0 → q.1 = ⟨#[]⟩) := Lib.hid (fun h => seal_bad (m := m) (e := q.2) (by rw [← hq]) h)
  have HCUT : Hid (q.2 = 0 → ∀ k, k < q.1.size → openM (q.1.extract 0 k) = (Ms.zero, 61)) := Lib.hid (fun h k hk => torn_cut (m := m) (by rw [← hq]; exact Prod.ext rfl h) k hk)
  have HTB : Hid (q.2 = 0 → x ≠ 0 → ∀ k (hk : k < q.1.data.toList.length), openM ⟨(q.1.data.toList.set k (q.1.data.toList[k] ^^^ x)).toArray⟩ = (Ms.zero, 61)) := Lib.hid (fun h hx k hk => torn_byte (m := m) (by rw [← hq]; exact Prod.ext rfl h) k hk x hx)
  have HTS : Hid (q.2 = 0 → x = 0 → ∀ k (hk : k < q.1.data.toList.length), openM ⟨(q.1.data.toList.set k (q.1.data.toList[k] ^^^ x)).toArray⟩ = (m, 0)) := Lib.hid (fun h hx k hk => by rw [hx]; exact torn_same (m := m) (by rw [← hq]; exact Prod.ext rfl h) k hk)
  have HAL := Lib.hid alive_any
  have HQ2 := Lib.hid hq
  clear hq htab hm1
  obtain ⟨kd, fr, ds, tm, ok, ix, lt, rs, cm, sn, vs⟩ := m
  have HSM : Hid (∀ W, Below w.heap.size w W → Calls Tryd.prog 7 #[.agg #[.int .i64 kd, .int .i64 fr, .int .i64 ds, .int .i64 tm, .bool ok, .int .i64 ix, .int .i64 lt, .slice ar nr cr, .int .i64 cm, .string sn, .slice av nv cv]] W fun e w' => (∃ b, e = .returned (.bool b)) ∧ Below W.heap.size W w') := Lib.hid (fun W hb => small_any ⟨kd, fr, ds, tm, ok, ix, lt, rs, cm, sn, vs⟩ ar nr cr av nv cv W (h.keep hb) hsn hd)
  have HSEAL : Hid (∀ W, Below w.heap.size w W → Calls Tryd.prog 10 #[.agg #[.int .i64 kd, .int .i64 fr, .int .i64 ds, .int .i64 tm, .bool ok, .int .i64 ix, .int .i64 lt, .slice ar nr cr, .int .i64 cm, .string sn, .slice av nv cv]] W fun e w' => e = .returned (.tuple #[.string q.1, .int .i64 q.2]) ∧ Below W.heap.size W w') := Lib.hid (fun W hb => nseal_any ⟨kd, fr, ds, tm, ok, ix, lt, rs, cm, sn, vs⟩ ar nr cr av nv cv W (h.keep hb) (HT.out _ hb) q HQ2)
  have HB0 := Lib.hid ((Below.refl w.heap.size w).alloc (Nat.le_refl _) (.cells #[.int .i64 kd, .int .i64 fr, .int .i64 ds, .int .i64 tm, .bool ok, .int .i64 ix, .int .i64 lt, .slice ar nr cr, .int .i64 cm, .string sn, .slice av nv cv] 25))
  have HK0 : Hid (Blk (w.alloc (.cells #[.int .i64 kd, .int .i64 fr, .int .i64 ds, .int .i64 tm, .bool ok, .int .i64 ix, .int .i64 lt, .slice ar nr cr, .int .i64 cm, .string sn, .slice av nv cv] 25)) w.heap.size 25 [.int .i64 kd, .int .i64 fr, .int .i64 ds, .int .i64 tm, .bool ok, .int .i64 ix, .int .i64 lt, .slice ar nr cr, .int .i64 cm, .string sn, .slice av nv cv]) := Lib.hid (heap_alloc_new w _)
  unfold Ms.val
  dsimp only
  clear h hsn hd HQ2
  obtain ⟨q1, q2⟩ := q
  dsimp only at *
  have x0 := HK0.out.cell (j := 0) rfl
  have x1 := HK0.out.cell (j := 1) rfl
  have x2 := HK0.out.cell (j := 2) rfl
  have x3 := HK0.out.cell (j := 3) rfl
  have x4 := HK0.out.cell (j := 4) rfl
  have x5 := HK0.out.cell (j := 5) rfl
  have x6 := HK0.out.cell (j := 6) rfl
  have x7 := HK0.out.cell (j := 7) rfl
  have x8 := HK0.out.cell (j := 8) rfl
  have x9 := HK0.out.cell (j := 9) rfl
  have x10 := HK0.out.cell (j := 10) rfl
  go_enter Tryd.func4, Tryd.ntmps4
  go_wp2_with fail
  refine (HSM.out _ HB0.out).mono ?_
  rintro e w1 ⟨⟨b, rfl⟩, hb1⟩
  have HB1 := Lib.hid (below_then HB0.out hb1 HB0.out.size)
  have HK1 := Lib.hid (HK0.out.keep hb1)
  clear x0 x1 x2 x3 x4 x5 x6 x7 x8 x9 x10 hb1 HB0 HK0 HSM
  cases b
  · go_wp2_with fail
    refine (HAL.out w1).mono ?_
    rintro e w2 ⟨rfl, hb2⟩
    have HB2 := Lib.hid (below_then HB1.out hb2 HB1.out.size)
    go_wp2_with fail
    go_ret
    exact ⟨rfl, HB2.out⟩
  · go_wp2_with fail
    refine (HAL.out w1).mono ?_
    rintro e w2 ⟨rfl, hb2⟩
    have HB2 := Lib.hid (below_then HB1.out hb2 HB1.out.size)
    have HK2 := Lib.hid (HK1.out.keep hb2)
    clear hb2 HB1 HK1
    have x0 := HK2.out.cell (j := 0) rfl
    have x1 := HK2.out.cell (j := 1) rfl
    have x2 := HK2.out.cell (j := 2) rfl
    have x3 := HK2.out.cell (j := 3) rfl
    have x4 := HK2.out.cell (j := 4) rfl
    have x5 := HK2.out.cell (j := 5) rfl
    have x6 := HK2.out.cell (j := 6) rfl
    have x7 := HK2.out.cell (j := 7) rfl
    have x8 := HK2.out.cell (j := 8) rfl
    have x9 := HK2.out.cell (j := 9) rfl
    have x10 := HK2.out.cell (j := 10) rfl
    go_wp2_with fail
    refine (HSEAL.out w2 HB2.out).mono ?_
    rintro e w3 ⟨rfl, hb3⟩
    have HB3 := Lib.hid (below_then HB2.out hb3 HB2.out.size)
    clear x0 x1 x2 x3 x4 x5 x6 x7 x8 x9 x10 hb3 HB2 HK2 HSEAL
    dsimp only
    by_cases hq : q2 = 0
    · subst hq
      obtain ⟨hz1, hz2⟩ := HQZ.out rfl
      have hcut := HCUT.out rfl
      have htb := HTB.out rfl
      have hts := HTS.out rfl
      (try dsimp only at hcut htb hts)
      have HTB2 := Lib.hid htb
      have HTS2 := Lib.hid hts
      clear HQB HCUT HTB HTS HQZ htb hts
      have hem : q1.toList.isEmpty = false := by
        rw [Lib.toList_data]
        cases hqe : q1.data.toList with
        | nil => have h8 : q1.data.toList.length = q1.size := (by simp); rw [hqe] at h8; simp at h8; omega
        | cons a b => rfl
      obtain ⟨F, hF, hFn, hFp⟩ := torn_place f q1.size (by omega)
      have hop := Lib.hid (nopen_any (q1.extract 0 F) w3 (by rw [ByteArray.size_extract]; omega))
      rw [hcut F hF] at hop
      have HFL := Lib.hid hF
      clear hcut
      have hFi : (F : Int) ≤ (q1.size : Int) := by omega
      by_cases hneg : f < 0
      · have hX := hFn hneg
        clear hFn hFp
        go_upto_region 11 with fail
        try rw [hX]
        clear hX
        go_wp2_with fail
        refine hop.out.mono ?_
        rintro e w5 ⟨ar5, nr5, cr5, av5, nv5, cv5, rfl, -, hb5, -, -⟩
        unfold Ms.val Ms.zero
        dsimp only
        have HB5 := Lib.hid (below_then HB3.out hb5 HB3.out.size)
        clear hb5 hop HB3
        go_upto_region 12 with fail
        have HB6 := Lib.hid (HB5.out.alloc HB5.out.size (.cells #[.int .i64 0, .int .i64 0, .int .i64 0, .int .i64 0, .bool false, .int .i64 0, .int .i64 0, .slice ar5 nr5 cr5, .int .i64 0, .string ⟨#[]⟩, .slice av5 nv5 cv5] 25))
        generalize w5.alloc (.cells #[.int .i64 0, .int .i64 0, .int .i64 0, .int .i64 0, .bool false, .int .i64 0, .int .i64 0, .slice ar5 nr5 cr5, .int .i64 0, .string ⟨#[]⟩, .slice av5 nv5 cv5] 25) = w6 at *
        obtain ⟨cap, w7, hcv, hb7, hby⟩ := conv_bytes (P := Tryd.prog) w6 9 36 5 q1 Tryd.underlying9 Tryd.underlying36 Tryd.underlying5
        have HB7 := Lib.hid (below_then HB6.out hb7 HB6.out.size)
        obtain ⟨B, hB⟩ : ∃ B, B = w6.heap.size := ⟨_, rfl⟩
        rw [← hB] at hcv hby
        have HBZ := Lib.hid hB
        have hlen : q1.data.toList.length = q1.size := by simp
        obtain ⟨l, hl⟩ : ∃ l, l = q1.data.toList := ⟨_, rfl⟩
        rw [← hl] at hby hlen
        have HL := Lib.hid hl
        have hFl : F < l.length := by rw [hlen]; exact HFL.out
        have hcell := hby.cell _ hFl
        have hfree := hby.free _ hFl
        have HBY := Lib.hid hby
        have HLEN := Lib.hid hlen
        have hFi2 : (F : Int) < (q1.size : Int) := by have := HFL.out; omega
        have hs6 := HB6.out.size
        clear hb7 hby hB hl hlen HB6
        go_upto_region 14 with fail
        have HBY8 := Lib.hid (HBY.out.set F hFl (l[F] ^^^ x) (bits .xor .u8 (l[F].toNat : Int) (x.toNat : Int)) (bits_xor_u8 l[F] x))
        have HB8 := Lib.hid (HB7.out.setCell (p := ⟨B, F, none⟩) (by show w.heap.size ≤ B; rw [HBZ.out]; exact hs6) (.int .u8 (bits .xor .u8 (l[F].toNat : Int) (x.toNat : Int))))
        clear hcell hfree hcv
        generalize w7.setCell ⟨B, F, none⟩ (.int .u8 (bits .xor .u8 (l[F].toNat : Int) (x.toNat : Int))) = w8 at *
        have hback := conv_back w8 36 9 5 B cap q1.size (l.set F (l[F] ^^^ x)) Tryd.underlying36 Tryd.underlying5 Tryd.underlying9 HBY8.out (by rw [List.length_set]; exact HLEN.out.symm)
        have hsz8 : ByteArray.size ⟨(l.set F (l[F] ^^^ x)).toArray⟩ ≤ 200000 := by show (l.set F (l[F] ^^^ x)).toArray.size ≤ _; simp; rw [HLEN.out]; omega
        have hop2 := Lib.hid (nopen_any ⟨(l.set F (l[F] ^^^ x)).toArray⟩ w8 hsz8)
        by_cases hx : x = 0
        · skip
          have ho : openM ⟨(l.set F (l[F] ^^^ x)).toArray⟩ = (⟨kd, fr, ds, tm, ok, ix, lt, rs, cm, sn, vs⟩, 0) := by have h1 := HTS2.out hx F (by rw [← HL.out]; exact hFl); simp only [← HL.out] at h1; exact h1
          rw [ho] at hop2
          subst hx
          have hx0 : (((0 : UInt8).toNat : Int) != 0) = false := by decide
          clear ho
          generalize (⟨(l.set F (l[F] ^^^ _)).toArray⟩ : ByteArray) = t at *
          go_wp2_with fail
          refine hop2.out.mono ?_
          rintro e w9 ⟨ar9, nr9, cr9, av9, nv9, cv9, rfl, -, hb9, -, -⟩
          unfold Ms.val
          dsimp only
          have HB9 := Lib.hid ((below_then HB8.out hb9 HB8.out.size))
          have HB10 := Lib.hid (HB9.out.alloc HB9.out.size (.cells #[.int .i64 kd, .int .i64 fr, .int .i64 ds, .int .i64 tm, .bool ok, .int .i64 ix, .int .i64 lt, .slice ar9 nr9 cr9, .int .i64 cm, .string sn, .slice av9 nv9 cv9] 25))
          go_wp2_with fail
          go_ret
          exact ⟨rfl, HB10.out⟩
        · skip
          have ho : openM ⟨(l.set F (l[F] ^^^ x)).toArray⟩ = (Ms.zero, 61) := by have h1 := HTB2.out hx F (by rw [← HL.out]; exact hFl); simp only [← HL.out] at h1; exact h1
          rw [ho] at hop2
          have hx0 : ((x.toNat : Int) != 0) = true := by
            rw [bne_iff_ne]
            intro h
            exact hx (UInt8.toNat.inj (by show x.toNat = 0; omega))
          clear ho hx
          generalize (⟨(l.set F (l[F] ^^^ _)).toArray⟩ : ByteArray) = t at *
          go_wp2_with fail
          refine hop2.out.mono ?_
          rintro e w9 ⟨ar9, nr9, cr9, av9, nv9, cv9, rfl, -, hb9, -, -⟩
          unfold Ms.val
          dsimp only
          have HB9 := Lib.hid ((below_then HB8.out hb9 HB8.out.size))
          have HB10 := Lib.hid (HB9.out.alloc HB9.out.size (.cells #[.int .i64 0, .int .i64 0, .int .i64 0, .int .i64 0, .bool false, .int .i64 0, .int .i64 0, .slice ar9 nr9 cr9, .int .i64 0, .string ⟨#[]⟩, .slice av9 nv9 cv9] 25))
          go_wp2_with fail
          go_ret
          exact ⟨rfl, HB10.out⟩
      · have hX := hFp hneg
        have hd0 : decide (f < 0) = false := decide_eq_false hneg
        clear hFn hFp
        go_upto_region 11 with fail
        try rw [hX]
        clear hX
        go_wp2_with fail
        refine hop.out.mono ?_
        rintro e w5 ⟨ar5, nr5, cr5, av5, nv5, cv5, rfl, -, hb5, -, -⟩
        unfold Ms.val Ms.zero
        dsimp only
        have HB5 := Lib.hid (below_then HB3.out hb5 HB3.out.size)
        clear hb5 hop HB3
        go_upto_region 12 with fail
        have HB6 := Lib.hid (HB5.out.alloc HB5.out.size (.cells #[.int .i64 0, .int .i64 0, .int .i64 0, .int .i64 0, .bool false, .int .i64 0, .int .i64 0, .slice ar5 nr5 cr5, .int .i64 0, .string ⟨#[]⟩, .slice av5 nv5 cv5] 25))
        generalize w5.alloc (.cells #[.int .i64 0, .int .i64 0, .int .i64 0, .int .i64 0, .bool false, .int .i64 0, .int .i64 0, .slice ar5 nr5 cr5, .int .i64 0, .string ⟨#[]⟩, .slice av5 nv5 cv5] 25) = w6 at *
        obtain ⟨cap, w7, hcv, hb7, hby⟩ := conv_bytes (P := Tryd.prog) w6 9 36 5 q1 Tryd.underlying9 Tryd.underlying36 Tryd.underlying5
        have HB7 := Lib.hid (below_then HB6.out hb7 HB6.out.size)
        obtain ⟨B, hB⟩ : ∃ B, B = w6.heap.size := ⟨_, rfl⟩
        rw [← hB] at hcv hby
        have HBZ := Lib.hid hB
        have hlen : q1.data.toList.length = q1.size := by simp
        obtain ⟨l, hl⟩ : ∃ l, l = q1.data.toList := ⟨_, rfl⟩
        rw [← hl] at hby hlen
        have HL := Lib.hid hl
        have hFl : F < l.length := by rw [hlen]; exact HFL.out
        have hcell := hby.cell _ hFl
        have hfree := hby.free _ hFl
        have HBY := Lib.hid hby
        have HLEN := Lib.hid hlen
        have hFi2 : (F : Int) < (q1.size : Int) := by have := HFL.out; omega
        have hs6 := HB6.out.size
        clear hb7 hby hB hl hlen HB6
        go_upto_region 14 with fail
        have HBY8 := Lib.hid (HBY.out.set F hFl (l[F] ^^^ x) (bits .xor .u8 (l[F].toNat : Int) (x.toNat : Int)) (bits_xor_u8 l[F] x))
        have HB8 := Lib.hid (HB7.out.setCell (p := ⟨B, F, none⟩) (by show w.heap.size ≤ B; rw [HBZ.out]; exact hs6) (.int .u8 (bits .xor .u8 (l[F].toNat : Int) (x.toNat : Int))))
        clear hcell hfree hcv
        generalize w7.setCell ⟨B, F, none⟩ (.int .u8 (bits .xor .u8 (l[F].toNat : Int) (x.toNat : Int))) = w8 at *
        have hback := conv_back w8 36 9 5 B cap q1.size (l.set F (l[F] ^^^ x)) Tryd.underlying36 Tryd.underlying5 Tryd.underlying9 HBY8.out (by rw [List.length_set]; exact HLEN.out.symm)
        have hsz8 : ByteArray.size ⟨(l.set F (l[F] ^^^ x)).toArray⟩ ≤ 200000 := by show (l.set F (l[F] ^^^ x)).toArray.size ≤ _; simp; rw [HLEN.out]; omega
        have hop2 := Lib.hid (nopen_any ⟨(l.set F (l[F] ^^^ x)).toArray⟩ w8 hsz8)
        by_cases hx : x = 0
        · skip
          have ho : openM ⟨(l.set F (l[F] ^^^ x)).toArray⟩ = (⟨kd, fr, ds, tm, ok, ix, lt, rs, cm, sn, vs⟩, 0) := by have h1 := HTS2.out hx F (by rw [← HL.out]; exact hFl); simp only [← HL.out] at h1; exact h1
          rw [ho] at hop2
          subst hx
          have hx0 : (((0 : UInt8).toNat : Int) != 0) = false := by decide
          clear ho
          generalize (⟨(l.set F (l[F] ^^^ _)).toArray⟩ : ByteArray) = t at *
          go_wp2_with fail
          refine hop2.out.mono ?_
          rintro e w9 ⟨ar9, nr9, cr9, av9, nv9, cv9, rfl, -, hb9, -, -⟩
          unfold Ms.val
          dsimp only
          have HB9 := Lib.hid ((below_then HB8.out hb9 HB8.out.size))
          have HB10 := Lib.hid (HB9.out.alloc HB9.out.size (.cells #[.int .i64 kd, .int .i64 fr, .int .i64 ds, .int .i64 tm, .bool ok, .int .i64 ix, .int .i64 lt, .slice ar9 nr9 cr9, .int .i64 cm, .string sn, .slice av9 nv9 cv9] 25))
          go_wp2_with fail
          go_ret
          exact ⟨rfl, HB10.out⟩
        · skip
          have ho : openM ⟨(l.set F (l[F] ^^^ x)).toArray⟩ = (Ms.zero, 61) := by have h1 := HTB2.out hx F (by rw [← HL.out]; exact hFl); simp only [← HL.out] at h1; exact h1
          rw [ho] at hop2
          have hx0 : ((x.toNat : Int) != 0) = true := by
            rw [bne_iff_ne]
            intro h
            exact hx (UInt8.toNat.inj (by show x.toNat = 0; omega))
          clear ho hx
          generalize (⟨(l.set F (l[F] ^^^ _)).toArray⟩ : ByteArray) = t at *
          go_wp2_with fail
          refine hop2.out.mono ?_
          rintro e w9 ⟨ar9, nr9, cr9, av9, nv9, cv9, rfl, -, hb9, -, -⟩
          unfold Ms.val
          dsimp only
          have HB9 := Lib.hid ((below_then HB8.out hb9 HB8.out.size))
          have HB10 := Lib.hid (HB9.out.alloc HB9.out.size (.cells #[.int .i64 0, .int .i64 0, .int .i64 0, .int .i64 0, .bool false, .int .i64 0, .int .i64 0, .slice ar9 nr9 cr9, .int .i64 0, .string ⟨#[]⟩, .slice av9 nv9 cv9] 25))
          go_wp2_with fail
          go_ret
          exact ⟨rfl, HB10.out⟩
    · have q3 : (q2 != 0) = true := by simpa using hq
      have hz := HQB.out hq
      (try dsimp only at hz)
      subst hz
      have hem : ((⟨#[]⟩ : ByteArray).toList.isEmpty) = true := by rw [Lib.toList_data]; rfl
      go_wp2_with fail
      go_ret
      exact ⟨rfl, HB3.out⟩
end Go.Proofs.YtboohpkmllelgaaDoor
