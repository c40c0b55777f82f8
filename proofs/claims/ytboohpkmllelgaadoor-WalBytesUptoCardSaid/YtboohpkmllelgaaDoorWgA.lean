/-
  The walks of wal.whole, wal.numbers and of the reference's small, smalls: numbers read out of a list value; lists of at most 4000. (Written by wip/mkwg.py.)
-/
import Derived.Test.YtboohpkmllelgaaDoorWkA
import Derived.Test.YtboohpkmllelgaaDoorNgB
namespace Go.Proofs.YtboohpkmllelgaaDoor
open Go.RowKit
set_option linter.unusedVariables false

set_option maxRecDepth 100000 in
set_option maxHeartbeats 1000000 in
theorem wwhole_any (k n : Int) (s : ByteArray) (a : Option Addr) (l c : Nat) (w : World) (v : Int) (hv : Hid (v = cl n)) (b : Bool) (hb : Hid (b = decide (k = 1))) :
    Calls Tryd.prog 77 #[.agg #[.int .i64 k, .int .i64 n, .string s, .slice a l c]] w (fun e w' => e = .returned (.tuple #[.int .i64 v, .bool b]) ∧ Below w.heap.size w w') := by
  have HB := Lib.hid ((Below.refl w.heap.size w).alloc (Nat.le_refl _) (.cells #[.int .i64 k, .int .i64 n, .string s, .slice a l c] 58))
  have HF := Lib.hid (Four.new w 58 (.int .i64 k) (.int .i64 n) (.string s) (.slice a l c))
  have n0 := HF.out.c0
  have n1 := HF.out.c1
  go_enter Tryd.func77, Tryd.ntmps77
  go_wp2_with fail
  go_region
  go_wp2_with fail
  have e1 : max (min n 1073741825) (-1) = v := hv.out.symm
  have e2 : (k == 1) = b := by rw [hb.out]; by_cases h : k = 1 <;> simp [h]
  rw [e1, e2]
  go_ret2
  exact ⟨rfl, HB.out.drew⟩
set_option maxRecDepth 100000 in
set_option maxHeartbeats 1000000 in
theorem rsmall14_any (k n : Int) (s : ByteArray) (a : Option Addr) (l c : Nat) (w : World) (v : Bool) (hv : Hid (v = decide (k = 1 ∧ 0 ≤ n ∧ n ≤ 1073741824))) :
    Calls Tryd.prog 79 #[.agg #[.int .i64 k, .int .i64 n, .string s, .slice a l c]] w (fun e w' => e = .returned (.tuple #[.int .i64 (if v = true then n else 0), .bool v]) ∧ Below w.heap.size w w') := by
  have HB := Lib.hid ((Below.refl w.heap.size w).alloc (Nat.le_refl _) (.cells #[.int .i64 k, .int .i64 n, .string s, .slice a l c] 58))
  have HF := Lib.hid (Four.new w 58 (.int .i64 k) (.int .i64 n) (.string s) (.slice a l c))
  have n0 := HF.out.c0
  have n1 := HF.out.c1
  by_cases hk : k = 1
  · subst hk
    by_cases h0 : 0 ≤ n
    · by_cases h1 : n ≤ 1073741824
      · obtain rfl : v = true := by rw [hv.out]; simp [h0, h1]
        rw [if_pos rfl]
        go_enter Tryd.func79, Tryd.ntmps79
        go_wp2_with fail
        go_ret2
        exact ⟨rfl, HB.out⟩
      · have h2 : 1073741824 < n := by omega
        obtain rfl : v = false := by rw [hv.out]; simp [h0, h1]
        rw [if_neg (by decide)]
        go_enter Tryd.func79, Tryd.ntmps79
        go_wp2_with fail
        go_ret2
        exact ⟨rfl, HB.out⟩
    · have h2 : n < 0 := by omega
      obtain rfl : v = false := by rw [hv.out]; simp [h0]
      rw [if_neg (by decide)]
      go_enter Tryd.func79, Tryd.ntmps79
      go_wp2_with fail
      go_ret2
      exact ⟨rfl, HB.out⟩
  · have hk2 : (k != 1) = true := by simpa using hk
    obtain rfl : v = false := by rw [hv.out]; simp [hk]
    rw [if_neg (by decide)]
    go_enter Tryd.func79, Tryd.ntmps79
    go_wp2_with fail
    go_ret2
    exact ⟨rfl, HB.out⟩
/-- What numbers answers: so many, in a new row; or none. -/
def NumsP (w : World) (b : Bool) (xs : List Int) (e : Ending) (w' : World) : Prop :=
  Below w.heap.size w w' ∧ ((b = false ∧ ∃ a n c, e = .returned (.tuple #[.slice a n c, .bool false])) ∨ (b = true ∧ ∃ a c, e = .returned (.tuple #[.slice a xs.length c, .bool true]) ∧ w'.ownsRow w.heap.size 3 1 (.slice a xs.length c) xs.length (i64s xs)))
def smallB (x : V) : Bool := decide (smallN x)
set_option maxRecDepth 100000 in
set_option maxHeartbeats 2000000 in
theorem wnums_any (k n : Int) (s : ByteArray) (a : Option Addr) (l : List V) (c m : Nat) (w : World) (S : Nat → Prop) (hall : VAll w S a 0 l) (hc : l.length ≤ c) (h0 : a = none → c = 0) (hm : m ≤ 4000) (b : Bool) (hb : Hid (b = (decide (k = 3 ∧ m ≤ l.length) && (l.take m).all isNum))) :
    Calls Tryd.prog 46 #[.agg #[.int .i64 k, .int .i64 n, .string s, .slice a l.length c], .int .i64 (m : Int)] w (NumsP w b ((l.take m).map (fun x => cl x.n))) := by
  have HB0 := Lib.hid ((Below.refl w.heap.size w).alloc (Nat.le_refl _) (.cells #[.int .i64 k, .int .i64 n, .string s, .slice a l.length c] 58))
  have HF0 := Lib.hid (Four.new w 58 (.int .i64 k) (.int .i64 n) (.string s) (.slice a l.length c))
  have v0 := HF0.out.c0
  have v3 := HF0.out.c3
  have HALL := Lib.hid hall
  clear hall
  obtain ⟨N, hN⟩ : ∃ N, N = l.length := ⟨_, rfl⟩
  have HN := Lib.hid hN
  rw [← hN] at HB0 HF0 v0 v3 hc hb ⊢
  clear hN
  by_cases hk : k = 3
  · subst hk
    by_cases hml : m ≤ N
    · have hmi : (m : Int) ≤ (N : Int) := by omega
      have HV : Hid (b = (l.take m).all isNum) := Lib.hid (by rw [hb.out, decide_eq_true ⟨rfl, hml⟩, Bool.true_and])
      have HML : Hid ((l.take m).length = m) := Lib.hid (by rw [List.length_take]; have := HN.out; omega)
      obtain ⟨i0, hi0, hz0, hz1, hz2⟩ := infoI
      have HI0 := Lib.hid hi0
      have HZZ := Lib.hid (And.intro hz0 (And.intro hz1 hz2))
      clear hi0 hz0 hz1 hz2 hb
      have hmc : (m : Int) ≤ (c : Int) := by omega
      by_cases hz : N = 0
      · subst hz
        obtain rfl : m = 0 := by omega
        obtain rfl : b = true := by rw [HV.out, List.take_zero]; rfl
        go_enter Tryd.func46, Tryd.ntmps46
        cases a with
        | none =>
          obtain rfl := h0 rfl
          go_wp2_with fail
          go_loopg [6, 26] 0 (fun gk vo v wr => gk = 0 ∧ v = .int .i64 0 ∧ vo = .slice none 0 0 ∧ Hid (Below w.heap.size w wr))
          case atStart => exact ⟨rfl, rfl, rfl, HB0⟩
          case round =>
            obtain ⟨rfl, rfl, rfl, hB⟩ := hrel
            go_wp2_with fail
            go_ret2
            exact ⟨hB.out, .inr ⟨rfl, none, 0, rfl, World.ownsRow_nil _ _ _ _⟩⟩
        | some ad =>
          go_wp2_with fail
          go_loopg [6, 26] 0 (fun gk vo v wr => gk = 0 ∧ v = .int .i64 0 ∧ vo = .slice none 0 0 ∧ Hid (Below w.heap.size w wr))
          case atStart => exact ⟨rfl, rfl, rfl, HB0⟩
          case round =>
            obtain ⟨rfl, rfl, rfl, hB⟩ := hrel
            go_wp2_with fail
            go_ret2
            exact ⟨hB.out, .inr ⟨rfl, none, 0, rfl, World.ownsRow_nil _ _ _ _⟩⟩
      · obtain ⟨b0, o0, -, rfl, -⟩ := HALL.out.at 0 l 0 (by have := HN.out; omega)
        obtain rfl : N = l.length := HN.out
        clear hz
        go_enter Tryd.func46, Tryd.ntmps46
        go_wp2_with fail
        clear v0 v3
        go_loopg [6, 26] m (fun gk vo v wr => ∃ (j : Nat) (va : Option Addr) (vc : Nat), j ≤ m ∧ gk = m - j ∧ v = .int .i64 (j : Int) ∧ vo = .slice va j vc ∧ Hid (∀ y ∈ l.take j, isNum y = true) ∧ Hid (wr.ownsRow w.heap.size 3 1 (.slice va j vc) j (i64s ((l.take j).map (fun x => cl x.n)))) ∧ Hid (Below w.heap.size w wr))
        case atStart => exact ⟨0, none, 0, Nat.zero_le _, rfl, rfl, rfl, Lib.hid (fun y hy => by simp at hy), Lib.hid (World.ownsRow_nil _ _ _ _), HB0⟩
        case round =>
          obtain ⟨j, va, vc, hj, rfl, rfl, rfl, HG, hO, hB⟩ := hrel
          by_cases hjn : j < m
          · have hji : (j : Int) < (m : Int) := by omega
            have HJN := Lib.hid hjn
            have hjl : j < l.length := by omega
            obtain ⟨b9, o9, cs9, hae, hSb, hat9, hc9⟩ := HALL.out.at 0 l j hjl
            rw [Nat.zero_add] at hc9
            obtain ⟨rfl, rfl⟩ : b0 = b9 ∧ o0 = o9 := by have := Option.some.inj hae; exact ⟨congrArg Addr.block this, congrArg Addr.off this⟩
            have HLT : Hid (∀ n, (fun x => cl x.n) l[j] = n → i64s ((l.take j).map (fun x => cl x.n)) ++ [.int .i64 n] = i64s ((l.take (j + 1)).map (fun x => cl x.n))) := Lib.hid (fun n hn => by rw [← hn, List.take_add_one, List.getElem?_eq_getElem hjl, List.map_append]; exact (i64s_snoc _ _).symm)
            have HG2 : Hid (isNum l[j] = true → ∀ y ∈ l.take (j + 1), isNum y = true) := Lib.hid (fun h y hy => by
              rw [List.take_add_one, List.getElem?_eq_getElem hjl, List.mem_append] at hy
              rcases hy with hy | hy
              · exact HG.out y hy
              · rw [Option.toList_some, List.mem_singleton] at hy; rw [hy]; exact h)
            have HFS : Hid (isNum l[j] = false → b = false) := Lib.hid (fun h => (by rw [HV.out]; rw [List.all_eq_false]; exact ⟨_, List.mem_take_iff_getElem.2 ⟨j, by omega, rfl⟩, by rw [h]; decide⟩))
            generalize l[j] = x9 at *
            obtain ⟨xk, xn, xs, xl⟩ := x9
            simp only [V.At] at hat9
            obtain ⟨xa, xc, rfl, -, -, -⟩ := hat9
            have y0 := cell_keep hB.out (hc9 0 _ rfl)
            have y1 := cell_keep hB.out (hc9 1 _ rfl)
            have y2 := cell_keep hB.out (hc9 2 _ rfl)
            have y3 := cell_keep hB.out (hc9 3 _ rfl)
            simp only [Nat.add_zero] at y0
            clear hc9 hae
            have hbq : Below wr.heap.size wr (wr.alloc (.cells #[.int .i64 xk, .int .i64 xn, .string xs, .slice xa xl.length xc] 58)) := (Below.refl _ wr).alloc (Nat.le_refl _) _
            have HOq := Lib.hid (own_under hO.out hbq)
            have HBq := Lib.hid (hB.out.trans (Below.lower hbq hB.out.size))
            have HXq : Hid (Blk (wr.alloc (.cells #[.int .i64 xk, .int .i64 xn, .string xs, .slice xa xl.length xc] 58)) wr.heap.size 58 [.int .i64 xk, .int .i64 xn, .string xs, .slice xa xl.length xc]) := Lib.hid (heap_alloc_new wr _)
            clear hbq hO hB HG
            go_upto_region 7 with fail
            clear y0 y1 y2 y3
            generalize (wr.alloc (.cells #[.int .i64 xk, .int .i64 xn, .string xs, .slice xa xl.length xc] 58)) = wq at *
            have x0 := HXq.out.cell (j := 0) rfl
            have x1 := HXq.out.cell (j := 1) rfl
            have x2 := HXq.out.cell (j := 2) rfl
            have x3 := HXq.out.cell (j := 3) rfl
            go_wp2_with fail
            refine (wwhole_any xk xn xs xa xl.length xc wq (cl xn) (Lib.hid rfl) (decide (xk = 1)) (Lib.hid rfl)).mono ?_
            rintro e wz ⟨rfl, hbz⟩
            have HOz := Lib.hid (own_under HOq.out hbz)
            have HBz := Lib.hid (below_then HBq.out hbz HBq.out.size)
            clear x0 x1 x2 x3 hbz HOq HBq HXq
            dsimp only
            cases hgood : isNum (.mk xk xn xs xl) with
            | true =>
              have HG3 := Lib.hid (HG2.out hgood)
              have hk1 : xk = 1 := by unfold isNum at hgood; exact of_decide_eq_true hgood
              obtain ⟨rn, hrn⟩ : ∃ rn, rn = cl xn := ⟨_, rfl⟩
              have HRN : Hid (cl (V.mk xk xn xs xl).n = rn) := Lib.hid (by rw [hrn]; rfl)
              have hd1 : decide (xk = 1) = true := decide_eq_true hk1
              rw [hd1, ← hrn]
              clear hrn hk1 hd1
              have hown := HOz.out
              have hi0 := HI0.out
              obtain ⟨hz0, hz1, hz2⟩ := HZZ.out
              have hsz := HBz.out.size
              clear HG2 HFS hgood
              go_wp2_with (at_builtin; refine wpList_app1 wz rfl _ _ 23 rfl w.heap.size 3 i0 (.int .i64 0) 8 Tryd.underlying23 hi0 hz0 hz1 hz2 rfl _ _ _ hown rfl (.int .i64 rn) 3 rfl rfl ?c3 ?c4 ?c5 ?_)
              case c3 => unfold maxLen; omega
              case c4 => omega
              case c5 => omega
              intro v' w8 hown' hgrow hblk
              obtain ⟨a3, c3, rfl⟩ := own_sliceN hown'
              have HB8 := Lib.hid (HBz.out.grown hgrow HBz.out.size (fun q e => by have := (hown.lt q e).1; omega))
              have HO8 := Lib.hid (show w8.ownsRow w.heap.size 3 1 (.slice a3 (j + 1) c3) (j + 1) (i64s ((l.take (j + 1)).map (fun x => cl x.n))) from by rw [← HLT.out rn HRN.out, List.map_take]; exact hown')
              clear hown hi0 hz0 hz1 hz2 hown' hgrow hblk hsz HOz HBz
              go_wp2_with fail
              have hjn9 := HJN.out
              go_roundg (m - (j + 1))
              case rel => exact ⟨j + 1, a3, c3, hjn9, rfl, by go_num, rfl, HG3, HO8, HB8⟩
              case measure => omega
            | false =>
              have HZ9 := Lib.hid (HFS.out hgood)
              have hk1 : xk ≠ 1 := by unfold isNum at hgood; exact of_decide_eq_false hgood
              have hd1 : decide (xk = 1) = false := decide_eq_false hk1
              rw [hd1]
              clear hk1 hd1
              clear HG2 HFS hgood HOz
              go_wp2_with fail
              go_ret2
              exact ⟨HBz.out, .inl ⟨HZ9.out, _, _, _, rfl⟩⟩
          · obtain rfl : j = m := by omega
            have HG9 := HG.out
            have hbt : b = true := by rw [HV.out]; exact List.all_eq_true.2 HG9
            subst hbt
            have hML := HML.out
            go_wp2_with fail
            go_ret2
            refine ⟨hB.out, .inr ⟨rfl, va, vc, ?_, ?_⟩⟩
            · rw [List.length_map, hML]; rfl
            · rw [List.length_map, hML]; exact hO.out
    · have hml2 : (N : Int) < (m : Int) := by omega
      obtain rfl : b = false := by rw [hb.out, decide_eq_false (fun h => hml h.2), Bool.false_and]
      go_enter Tryd.func46, Tryd.ntmps46
      go_wp2_with fail
      go_ret2
      exact ⟨HB0.out, .inl ⟨rfl, _, _, _, rfl⟩⟩
  · have hk2 : (k != 3) = true := by simpa using hk
    obtain rfl : b = false := by rw [hb.out, decide_eq_false (fun h => hk h.1), Bool.false_and]
    go_enter Tryd.func46, Tryd.ntmps46
    go_wp2_with fail
    go_ret2
    exact ⟨HB0.out, .inl ⟨rfl, _, _, _, rfl⟩⟩
set_option maxRecDepth 100000 in
set_option maxHeartbeats 2000000 in
theorem rsmalls_any (a : Option Addr) (l : List V) (c : Nat) (w : World) (S : Nat → Prop) (hall : VAll w S a 0 l) (hm : l.length ≤ 4000) (b : Bool) (hb : Hid (b = l.all smallB)) :
    Calls Tryd.prog 49 #[.slice a l.length c] w (NumsP w b (l.map V.n)) := by
  have HALL := Lib.hid hall
  have HV := hb
  clear hall
  obtain ⟨i0, hi0, hz0, hz1, hz2⟩ := infoI
  have HI0 := Lib.hid hi0
  have HZZ := Lib.hid (And.intro hz0 (And.intro hz1 hz2))
  clear hi0 hz0 hz1 hz2
  have HB0 := Lib.hid ((Below.refl w.heap.size w).alloc (Nat.le_refl _) (.cells #[] 3))
  have HO0 := Lib.hid (World.ownsRow_made (e := 3) (size := 1) (base := w.heap.size) w #[] 0 (Nat.le_refl _) (Nat.zero_le _) rfl)
  obtain ⟨N, hN⟩ : ∃ N, N = l.length := ⟨_, rfl⟩
  rw [← hN]
  by_cases hz : N = 0
  · subst hz
    obtain rfl := List.eq_nil_of_length_eq_zero hN.symm
    obtain rfl : b = true := by rw [HV.out]; rfl
    clear hN hb HV
    go_enter Tryd.func49, Tryd.ntmps49
    go_wp2_with fail
    go_loopg [4, 12] 0 (fun gk vo v wr => gk = 0 ∧ v = .int .i64 0 ∧ vo = .slice (some ⟨w.heap.size, 0, none⟩) 0 0 ∧ Hid (Below w.heap.size w wr) ∧ Hid (wr.ownsRow w.heap.size 3 1 (.slice (some ⟨w.heap.size, 0, none⟩) 0 0) 0 []))
    case atStart => exact ⟨rfl, rfl, rfl, HB0, HO0⟩
    case round =>
      obtain ⟨rfl, rfl, rfl, hB, hO⟩ := hrel
      go_wp2_with fail
      go_ret2
      exact ⟨hB.out, .inr ⟨rfl, _, _, rfl, hO.out⟩⟩
  · obtain ⟨b0, o0, -, rfl, -⟩ := HALL.out.at 0 l 0 (by omega)
    have hNe := hN
    subst hNe
    clear hN
    go_enter Tryd.func49, Tryd.ntmps49
    go_wp2_with fail
    go_loopg [4, 12] l.length (fun gk vo v wr => ∃ (j : Nat) (va : Option Addr) (vc : Nat), j ≤ l.length ∧ gk = l.length - j ∧ v = .int .i64 (j : Int) ∧ vo = .slice va j vc ∧ Hid (∀ y ∈ l.take j, smallB y = true) ∧ Hid (wr.ownsRow w.heap.size 3 1 (.slice va j vc) j (i64s ((l.take j).map V.n))) ∧ Hid (Below w.heap.size w wr))
    case atStart => exact ⟨0, _, _, Nat.zero_le _, rfl, rfl, rfl, Lib.hid (fun y hy => by simp at hy), HO0, HB0⟩
    case round =>
      obtain ⟨j, va, vc, hj, rfl, rfl, rfl, HG, hO, hB⟩ := hrel
      by_cases hjn : j < l.length
      · have hji : (j : Int) < (l.length : Int) := by omega
        have HJN := Lib.hid hjn
        have hjl : j < l.length := by omega
        obtain ⟨b9, o9, cs9, hae, hSb, hat9, hc9⟩ := HALL.out.at 0 l j hjl
        rw [Nat.zero_add] at hc9
        obtain ⟨rfl, rfl⟩ : b0 = b9 ∧ o0 = o9 := by have := Option.some.inj hae; exact ⟨congrArg Addr.block this, congrArg Addr.off this⟩
        have HLT : Hid (∀ n, V.n l[j] = n → i64s ((l.take j).map V.n) ++ [.int .i64 n] = i64s ((l.take (j + 1)).map V.n)) := Lib.hid (fun n hn => by rw [← hn, List.take_add_one, List.getElem?_eq_getElem hjl, List.map_append]; exact (i64s_snoc _ _).symm)
        have HG2 : Hid (smallB l[j] = true → ∀ y ∈ l.take (j + 1), smallB y = true) := Lib.hid (fun h y hy => by
          rw [List.take_add_one, List.getElem?_eq_getElem hjl, List.mem_append] at hy
          rcases hy with hy | hy
          · exact HG.out y hy
          · rw [Option.toList_some, List.mem_singleton] at hy; rw [hy]; exact h)
        have HFS : Hid (smallB l[j] = false → b = false) := Lib.hid (fun h => (by rw [HV.out, List.all_eq_false]; exact ⟨_, List.getElem_mem hjl, by rw [h]; decide⟩))
        generalize l[j] = x9 at *
        obtain ⟨xk, xn, xs, xl⟩ := x9
        simp only [V.At] at hat9
        obtain ⟨xa, xc, rfl, -, -, -⟩ := hat9
        have y0 := cell_keep hB.out (hc9 0 _ rfl)
        have y1 := cell_keep hB.out (hc9 1 _ rfl)
        have y2 := cell_keep hB.out (hc9 2 _ rfl)
        have y3 := cell_keep hB.out (hc9 3 _ rfl)
        simp only [Nat.add_zero] at y0
        clear hc9 hae
        have hbq : Below wr.heap.size wr (wr.alloc (.cells #[.int .i64 xk, .int .i64 xn, .string xs, .slice xa xl.length xc] 58)) := (Below.refl _ wr).alloc (Nat.le_refl _) _
        have HOq := Lib.hid (own_under hO.out hbq)
        have HBq := Lib.hid (hB.out.trans (Below.lower hbq hB.out.size))
        have HXq : Hid (Blk (wr.alloc (.cells #[.int .i64 xk, .int .i64 xn, .string xs, .slice xa xl.length xc] 58)) wr.heap.size 58 [.int .i64 xk, .int .i64 xn, .string xs, .slice xa xl.length xc]) := Lib.hid (heap_alloc_new wr _)
        clear hbq hO hB HG
        go_upto_region 5 with fail
        clear y0 y1 y2 y3
        generalize (wr.alloc (.cells #[.int .i64 xk, .int .i64 xn, .string xs, .slice xa xl.length xc] 58)) = wq at *
        have x0 := HXq.out.cell (j := 0) rfl
        have x1 := HXq.out.cell (j := 1) rfl
        have x2 := HXq.out.cell (j := 2) rfl
        have x3 := HXq.out.cell (j := 3) rfl
        go_wp2_with fail
        refine (rsmall14_any xk xn xs xa xl.length xc wq (decide (smallN (.mk xk xn xs xl))) (Lib.hid rfl)).mono ?_
        rintro e wz ⟨rfl, hbz⟩
        have HOz := Lib.hid (own_under HOq.out hbz)
        have HBz := Lib.hid (below_then HBq.out hbz HBq.out.size)
        clear x0 x1 x2 x3 hbz HOq HBq HXq
        dsimp only
        cases hgood : smallB (.mk xk xn xs xl) with
        | true =>
          have HG3 := Lib.hid (HG2.out hgood)
          have hk1 : smallN (V.mk xk xn xs xl) := by unfold smallB at hgood; exact of_decide_eq_true hgood
          obtain ⟨rn, hrn⟩ : ∃ rn, rn = xn := ⟨_, rfl⟩
          have HRN : Hid (V.n (V.mk xk xn xs xl) = rn) := Lib.hid (by rw [hrn]; rfl)
          have hd1 : decide (smallN (V.mk xk xn xs xl)) = true := decide_eq_true hk1
          rw [hd1, if_pos rfl, ← hrn]
          clear hrn hk1 hd1
          have hown := HOz.out
          have hi0 := HI0.out
          obtain ⟨hz0, hz1, hz2⟩ := HZZ.out
          have hsz := HBz.out.size
          clear HG2 HFS hgood
          go_wp2_with (at_builtin; refine wpList_app1 wz rfl _ _ 23 rfl w.heap.size 3 i0 (.int .i64 0) 8 Tryd.underlying23 hi0 hz0 hz1 hz2 rfl _ _ _ hown rfl (.int .i64 rn) 3 rfl rfl ?c3 ?c4 ?c5 ?_)
          case c3 => unfold maxLen; omega
          case c4 => omega
          case c5 => omega
          intro v' w8 hown' hgrow hblk
          obtain ⟨a3, c3, rfl⟩ := own_sliceN hown'
          have HB8 := Lib.hid (HBz.out.grown hgrow HBz.out.size (fun q e => by have := (hown.lt q e).1; omega))
          have HO8 := Lib.hid (show w8.ownsRow w.heap.size 3 1 (.slice a3 (j + 1) c3) (j + 1) (i64s ((l.take (j + 1)).map V.n)) from by rw [← HLT.out rn HRN.out, List.map_take]; exact hown')
          clear hown hi0 hz0 hz1 hz2 hown' hgrow hblk hsz HOz HBz
          go_wp2_with fail
          have hjn9 := HJN.out
          go_roundg (l.length - (j + 1))
          case rel => exact ⟨j + 1, a3, c3, hjn9, rfl, by go_num, rfl, HG3, HO8, HB8⟩
          case measure => omega
        | false =>
          have HZ9 := Lib.hid (HFS.out hgood)
          have hk1 : ¬ smallN (V.mk xk xn xs xl) := by unfold smallB at hgood; exact of_decide_eq_false hgood
          have hd1 : decide (smallN (V.mk xk xn xs xl)) = false := decide_eq_false hk1
          rw [hd1, if_neg (by decide)]
          clear hk1 hd1
          clear HG2 HFS hgood HOz
          go_wp2_with fail
          go_ret2
          exact ⟨HBz.out, .inl ⟨HZ9.out, _, _, _, rfl⟩⟩
      · obtain rfl : j = l.length := by omega
        have HG9 := HG.out
        rw [List.take_length] at HG9
        have hbt : b = true := by rw [HV.out]; exact List.all_eq_true.2 HG9
        subst hbt
        have hO9 := hO.out
        rw [List.take_length] at hO9
        have HO9 := Lib.hid hO9
        clear hO9
        go_wp2_with fail
        go_ret2
        refine ⟨hB.out, .inr ⟨rfl, va, vc, ?_, ?_⟩⟩
        · rw [List.length_map]; rfl
        · rw [List.length_map]; exact HO9.out
end Go.Proofs.YtboohpkmllelgaaDoor
