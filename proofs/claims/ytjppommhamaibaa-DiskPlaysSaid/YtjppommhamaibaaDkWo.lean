/-
  The walks of the reference's Without and With: rows of one's own; the texts within reach.
-/
import Derived.Test.YtjppommhamaibaaDkV
import Derived.Test.YtjppommhamaibaaDkZ
import Derived.Test.YtjppommhamaibaaApp
namespace Go.Proofs.Ytjppommhamaibaa
open Go.RowKit Go.BigFrame
set_option linter.unusedVariables false

/-- append(v, x) of one struct: the row's block is the old one, or a new one. -/
theorem wpList_appB {α : Type} {E : Enc α} {P : Program} (w : World) {ops : Array Oper} {rest : List Oper} {o : Oper} {a : Act} {Q : Exit → Act → World → Prop} (hgd : o.guard = none) (s x : Operand) (t : TypeId)
    (ho : o.op = .call { callee := .builtin .append, args := #[s, x], argTypes := #[t, t] })
    (base : Nat) (e : TypeId) (i : TypeInfo) (z : Value) (bytes : Nat) (ht : P.underlying t = some (.slice e)) (hi : P.info? e = some i) (hz : i.zero = some z)
    (hsize : i.size = E.k) (hby : i.bytes = bytes) (hzs : z.cells.size = E.k)
    (v : Value) (n : Nat) (d : List α) (hown : w.ownsRow base e E.k v n (E.cells d)) (hs : a.eval s = v)
    (b off c : Nat) (y : α) (hx : a.eval x = .slice (some ⟨b, off, none⟩) 1 c) (hsl : E.Sl w (some ⟨b, off, none⟩) 1 [y])
    (h63 : n + 1 ≤ maxLen) (hbytes : (n + 1) * bytes ≤ 140737488355328) (hbase : base ≤ w.heap.size)
    (h : ∀ v' w', w'.ownsRow base e E.k v' (n + 1) (E.cells (d ++ [y])) → w.grownBy w' v.ownBlock → (v'.ownBlock = v.ownBlock ∨ v'.ownBlock = some w.heap.size) → wpList P ops Q rest (a.put o.dst v') w') :
    wpList P ops Q (o :: rest) a w := by
  refine wpList_plain hgd fun _ hK => ?_
  have hl : (E.cells [y]).length = 1 * E.k := by rw [E.cells_length]; rfl
  obtain ⟨v', w', hr, h2, h3, h4⟩ := run_append_own (P := P) w base t o.type e i z E.k bytes ht hi hz hsize hby hzs E.pos v n (E.cells d) hown ⟨b, off, none⟩ 1 c (E.cells [y]) hl hsl.flat (E.cells_one [y]) h63 hbytes hbase
  have h5 := append_block (P := P) w base t o.type e i z E.k bytes ht hi hz hsize hby v n (E.cells d) hown ⟨b, off, none⟩ 1 c (E.cells [y]) hl hsl.flat (E.cells_one [y]) (by decide) h63 hbytes hr
  unfold Oper.wp execOp
  simp only [ho, resolve, invoke, builtin, Sem.run_bind, Sem.run_pure, Result.andThen_ok, List.map_toArray, List.map_cons, List.map_nil, hs, hx, hr]
  exact hK _ _ (h v' w' (by rw [E.cells_append]; exact h2) h3 h5)
theorem without_no {l : List Fl} {nm : ByteArray} {k : Nat} (hk : k < l.length) (h : l[k].nm = nm) : without (l.take (k + 1)) nm = without (l.take k) nm := by
  unfold without
  rw [List.take_succ_eq_append_getElem hk, List.filter_append]
  simp [h]
theorem without_yes {l : List Fl} {nm : ByteArray} {k : Nat} (hk : k < l.length) (h : l[k].nm ≠ nm) : without (l.take (k + 1)) nm = without (l.take k) nm ++ [l[k]] := by
  unfold without
  rw [List.take_succ_eq_append_getElem hk, List.filter_append]
  simp [h]
theorem neq_bool {a b : ByteArray} (h : a ≠ b) : (a.toList != b.toList) = true := by rw [bne, toList_ne h]; rfl
theorem eq_bool {a b : ByteArray} (h : a = b) : (a.toList != b.toList) = false := by rw [bne, toList_yes h]; rfl
set_option maxHeartbeats 1000000 in
theorem refWithout_any (a : Option Addr) (n c : Nat) (l : List Fl) (nm : ByteArray) (w : World) (h : flE.Sl w a n l) (hn : n ≤ 1000000) :
    Calls Try.prog 33 #[.slice a n c, .string nm] w fun e w' => ∃ v, e = .returned v ∧ OwnFs w w' (without l nm) v := by
  obtain ⟨i0, hi, hz0, hz1, hz2⟩ := info_parts infoFile
  have HI := Lib.hid hi
  have HZ := Lib.hid (And.intro hz0 (And.intro hz1 hz2))
  clear hi hz0 hz1 hz2
  have HN := Lib.hid h.1
  have HSL := Lib.hid h
  have HR0 : Hid ((w.alloc (.cells #[] 32)).ownsRow w.heap.size 32 3 (.slice (some ⟨w.heap.size, 0, none⟩) 0 0) (without (l.take 0) nm).length (flE.cells (without (l.take 0) nm))) := Lib.hid (Enc.row_lit0 w w.heap.size (Nat.le_refl _) _ _)
  have HB0 := Lib.hid ((Below.refl w.heap.size w).alloc (Nat.le_refl _) (.cells #[] 32))
  clear h
  go_enter Try.func33, Try.ntmps33
  go_wp2_with fail
  go_loopg [5, 7, 11] n (fun gk v5 v7 i wr => ∃ (k m : Nat), k ≤ n ∧ gk = n - k ∧ i = .int .i64 (k : Int) ∧ m ≤ k ∧ Hid (m = (without (l.take k) nm).length) ∧ Hid (Below w.heap.size w wr) ∧ Hid (wr.ownsRow w.heap.size 32 3 v5 m (flE.cells (without (l.take k) nm))))
  case atStart => exact ⟨0, 0, Nat.zero_le _, rfl, rfl, Nat.le_refl _, Lib.hid rfl, HB0, HR0⟩
  case round =>
    obtain ⟨k, m, hk, rfl, rfl, hmk, hml, hB, hM⟩ := hrel
    clear HR0 HB0
    by_cases hlt : k < n
    · have hkl : k < l.length := by rw [← HN.out]; exact hlt
      obtain ⟨-, b, off, rfl, hcells⟩ := fl_at (HSL.out.keep hB.out) (by omega)
      obtain ⟨c0, c1, c2⟩ := hcells k hkl
      have hki : (k : Int) < (n : Int) := by omega
      clear hcells
      by_cases hq : l[k].nm = nm
      · have hb := toList_yes hq
        have HE := Lib.hid (without_no hkl hq)
        clear hq
        generalize l[k] = o at *
        obtain ⟨o0, o1, o2⟩ := o
        dsimp only at *
        have HB2 := Lib.hid (hB.out.alloc hB.out.size (.cells #[.string o0, .string o1, .string o2] 32))
        have HM2 := Lib.hid (hM.out.alloc (.cells #[.string o0, .string o1, .string o2] 32))
        go_wp2_with fail
        go_roundg (n - (k + 1))
        case rel => exact ⟨k + 1, m, by omega, rfl, by go_num, by omega, by rw [HE.out]; exact hml, HB2, by rw [HE.out]; exact HM2⟩
        case measure => omega
      · have hb := toList_ne hq
        have HE := Lib.hid (without_yes hkl hq)
        clear hq
        generalize l[k] = o at *
        obtain ⟨o0, o1, o2⟩ := o
        dsimp only at *
        have hB2 := hB.out.alloc hB.out.size (.cells #[.string o0, .string o1, .string o2] 32)
        have HB2 := Lib.hid (hB2.alloc hB2.size (.cells #[.string o0, .string o1, .string o2] 32))
        have HM2 := Lib.hid ((hM.out.alloc (.cells #[.string o0, .string o1, .string o2] 32)).alloc (.cells #[.string o0, .string o1, .string o2] 32))
        have HSR : Hid (flE.Sl ((wr.alloc (.cells #[.string o0, .string o1, .string o2] 32)).alloc (.cells #[.string o0, .string o1, .string o2] 32)) (some ⟨wr.heap.size + 1, 0, none⟩) 1 [⟨o0, o1, o2⟩]) := Lib.hid (by
          have h1 := Enc.Sl.one (E := flE) (wr.alloc (.cells #[.string o0, .string o1, .string o2] 32)) ⟨o0, o1, o2⟩ 32 #[.string o0, .string o1, .string o2] rfl
          simpa using h1)
        clear hB2
        go_wp2_with (at_builtin; refine Enc.wpList_app (E := flE) _ rfl _ _ 22 rfl w.heap.size 32 i0 _ 48 Try.underlying22 HI.out HZ.out.1 HZ.out.2.1 HZ.out.2.2 rfl _ m _ HM2.out rfl (some ⟨wr.heap.size + 1, 0, none⟩) 1 1 [⟨o0, o1, o2⟩] rfl HSR.out (fun e => by cases e) (by unfold maxLen; omega) (by omega) HB2.out.size ?_)
        intro v6 w6 ho6 hg6
        have HB6 := Lib.hid (HB2.out.grown hg6 HB2.out.size (fun q e => (HM2.out.lt q e).1))
        rw [← HE.out] at ho6
        have HM6 := Lib.hid ho6
        clear ho6 hg6
        go_wp2_with fail
        go_roundg (n - (k + 1))
        case rel => exact ⟨k + 1, m + 1, by omega, rfl, by go_num, by omega, Lib.hid (by rw [HE.out, List.length_append, ← hml.out]; rfl), HB6, HM6⟩
        case measure => omega
    · have hki : (n : Int) ≤ (k : Int) := by omega
      have hfin : Hid (without (l.take k) nm = without l nm) := Lib.hid (by rw [List.take_of_length_le (by have := HN.out; omega)])
      go_wp2_with fail
      go_ret
      refine ⟨_, rfl, ?_, hB.out⟩
      have h1 := hM.out
      rw [hml.out, hfin.out] at h1
      exact h1

/-- With's list on its way: the first k of W are laid, x among them if 'put'. -/
def WithAt (W : List Fl) (x : Fl) (k : Nat) (put : Bool) (L : List Fl) : Prop :=
  (put = false ∧ L = W.take k ∧ ∀ j (h : j < W.length), j < k → ltN x.nm W[j].nm = false) ∨ (put = true ∧ ∃ T, L = T ∧ insF x W = T ++ W.drop k)
theorem withAt_zero (W : List Fl) (x : Fl) : WithAt W x 0 false [] := .inl ⟨rfl, rfl, fun j _ h => absurd h (Nat.not_lt_zero _)⟩
theorem withAt_put {W : List Fl} {x : Fl} {k : Nat} {L : List Fl} (hk : k < W.length) (h : WithAt W x k true L) : WithAt W x (k + 1) true (L ++ [W[k]]) := by
  rcases h with ⟨h, _⟩ | ⟨_, T, rfl, h2⟩
  · cases h
  · exact .inr ⟨rfl, _, rfl, by rw [h2, List.drop_eq_getElem_cons hk]; simp⟩
theorem withAt_now {W : List Fl} {x : Fl} {k : Nat} {L : List Fl} (hk : k < W.length) (h : WithAt W x k false L) (hx : ltN x.nm W[k].nm = true) : WithAt W x k true (L ++ [x]) := by
  rcases h with ⟨_, rfl, h2⟩ | ⟨h, _⟩
  · exact .inr ⟨rfl, _, rfl, by rw [insF_at (by omega) h2 (fun _ => hx)]; simp⟩
  · cases h
theorem withAt_not {W : List Fl} {x : Fl} {k : Nat} {L : List Fl} (hk : k < W.length) (h : WithAt W x k false L) (hx : ltN x.nm W[k].nm = false) : WithAt W x (k + 1) false (L ++ [W[k]]) := by
  rcases h with ⟨_, rfl, h2⟩ | ⟨h, _⟩
  · refine .inl ⟨rfl, (List.take_succ_eq_append_getElem hk).symm, fun j hj hjk => ?_⟩
    by_cases he : j = k
    · subst he; exact hx
    · exact h2 j hj (by omega)
  · cases h
theorem withAt_done {W : List Fl} {x : Fl} {L : List Fl} (h : WithAt W x W.length true L) : L = insF x W := by
  rcases h with ⟨h, _⟩ | ⟨_, T, rfl, h2⟩
  · cases h
  · rw [h2, List.drop_of_length_le (Nat.le_refl _), List.append_nil]
theorem withAt_end {W : List Fl} {x : Fl} {L : List Fl} (h : WithAt W x W.length false L) : L ++ [x] = insF x W := by
  rcases h with ⟨_, rfl, h2⟩ | ⟨h, _⟩
  · rw [insF_at (Nat.le_refl _) h2 (fun h => absurd h (Nat.lt_irrefl _)), List.drop_of_length_le (Nat.le_refl _)]
  · cases h

/-- What With holds in a round. -/
structure WithSt (w wr : World) (aw : Option Addr) (q : Nat) (Ws : List Fl) (x : Fl) (v5 : Value) (m : Nat) (L : List Fl) : Prop where
  below : Below w.heap.size w wr
  sl : flE.Sl wr aw q Ws
  box : Three wr w.heap.size (.string x.nm) (.string x.sy) (.string x.ta)
  row : wr.ownsRow w.heap.size 32 3 v5 m (flE.cells L)
  len : m = L.length
  far : ∀ b, v5.ownBlock = some b → b ≠ w.heap.size ∧ ∀ p, aw = some p → p.block ≠ b
  lt : ∀ p, aw = some p → p.block < wr.heap.size
theorem WithSt.alloc {w wr : World} {aw : Option Addr} {q m : Nat} {Ws L : List Fl} {x : Fl} {v5 : Value} (h : WithSt w wr aw q Ws x v5 m L) (o : Obj) : WithSt w (wr.alloc o) aw q Ws x v5 m L :=
  ⟨h.below.alloc h.below.size o, h.sl.keep ((Below.refl _ _).alloc (Nat.le_refl _) _), (Below.heap_alloc wr o _ (lt_of_block h.box)).trans h.box, h.row.alloc o, h.len, h.far, fun p hp => by have := h.lt p hp; simp; omega⟩
theorem WithSt.app {w wr w' : World} {aw : Option Addr} {q m : Nat} {Ws L L' : List Fl} {x : Fl} {v5 v' : Value} (h : WithSt w wr aw q Ws x v5 m L) (ho : w'.ownsRow w.heap.size 32 3 v' (m + 1) (flE.cells L')) (hg : wr.grownBy w' v5.ownBlock) (hb : v'.ownBlock = v5.ownBlock ∨ v'.ownBlock = some wr.heap.size) (hl : L'.length = L.length + 1) : WithSt w w' aw q Ws x v' (m + 1) L' := by
  refine ⟨h.below.grown hg h.below.size (fun k e => (h.row.lt k e).1), h.sl.kept hg (fun b hb2 e => ?_), (hg.block _ (lt_of_block h.box) (fun e => (h.far _ e.symm).1 rfl)).trans h.box, ho, by rw [hl, h.len], fun b hb2 => ?_, fun p hp => Nat.lt_of_lt_of_le (h.lt p hp) hg.size⟩
  · cases aw with
    | none => cases hb2
    | some p =>
      simp at hb2
      exact (h.far b e).2 p rfl hb2
  · rcases hb with hb | hb
    · exact h.far b (hb ▸ hb2)
    · rw [hb] at hb2
      cases hb2
      exact ⟨fun e => by have := lt_of_block h.box; omega, fun p hp e => by have := h.lt p hp; omega⟩

set_option maxRecDepth 20000 in
set_option maxHeartbeats 2000000 in
theorem refWith_any (a : Option Addr) (n c : Nat) (l : List Fl) (x : Fl) (w : World) (h : flE.Sl w a n l) (hn : n ≤ 1000000) :
    Calls Try.prog 32 #[.slice a n c, flVal x] w fun e w' => ∃ v, e = .returned v ∧ OwnFs w w' (withF l x) v := by
  obtain ⟨i0, hi, hz0, hz1, hz2⟩ := info_parts infoFile
  have HI := Lib.hid hi
  have HZ := Lib.hid (And.intro hz0 (And.intro hz1 hz2))
  clear hi hz0 hz1 hz2
  obtain ⟨Ws, hW⟩ : ∃ Ws, Ws = without l x.nm := ⟨_, rfl⟩
  have hres : withF l x = insF x Ws := by unfold withF; rw [hW]
  have hne : ∀ f ∈ Ws, f.nm ≠ x.nm := by rw [hW]; exact without_ne
  have hlen : Ws.length ≤ n := by rw [hW, h.1]; exact len_without_le _ _
  rw [hres]
  have hb1 : Below w.heap.size w (w.alloc (.cells #[.string x.nm, .string x.sy, .string x.ta] 32)) := (Below.refl _ w).alloc (Nat.le_refl _) _
  have hb2 := hb1.alloc hb1.size (.cells #[] 32)
  have hwo := Lib.hid (refWithout_any a n c l x.nm _ (h.keep hb2) hn)
  rw [← hW] at hwo
  have HX0 := Lib.hid ((Three.new w (.string x.nm) (.string x.sy) (.string x.ta)))
  have HR0 : Hid (((w.alloc (.cells #[.string x.nm, .string x.sy, .string x.ta] 32)).alloc (.cells #[] 32)).ownsRow w.heap.size 32 3 (.slice (some ⟨w.heap.size + 1, 0, none⟩) 0 0) 0 (flE.cells [])) := Lib.hid (by
    have h1 := Enc.row_lit0 (w.alloc (.cells #[.string x.nm, .string x.sy, .string x.ta] 32)) w.heap.size (by simp) 32 3
    rw [World.size_alloc] at h1
    exact h1)
  have HB0 := Lib.hid hb2
  have HNE := Lib.hid hne
  have f0 := HX0.out.c0
  clear h hW hres hne hb1 hb2
  obtain ⟨x0, x1, x2⟩ := x
  unfold flVal
  dsimp only at *
  have hxa : ((w.alloc (.cells #[.string x0, .string x1, .string x2] 32)).alloc (.cells #[] 32)).cell? ⟨w.heap.size, 0, none⟩ = some (.string x0) := cell_keep ((Below.refl _ _).alloc (Nat.le_refl _) _) f0
  clear f0
  go_enter Try.func32, Try.ntmps32
  go_wp2_with fail
  refine hwo.out.mono ?_
  rintro e w1 ⟨v, rfl, hown⟩
  obtain ⟨aw, cw, rfl⟩ := own_shape hown.1
  obtain ⟨_, _, he, -, hsl, -⟩ := Enc.own_sl (E := flE) hown.1
  cases he
  have HSL := Lib.hid hsl
  obtain ⟨q, hq⟩ : ∃ q, q = Ws.length := ⟨_, rfl⟩
  have HQ := Lib.hid hq
  have hz0 : w.heap.size + 2 ≤ w1.heap.size := by have := hown.2.size; simp at this; omega
  have ST0 : Hid (WithSt w w1 aw q Ws ⟨x0, x1, x2⟩ (.slice (some ⟨w.heap.size + 1, 0, none⟩) 0 0) 0 []) := Lib.hid ⟨below_then HB0.out hown.2 HB0.out.size, by rw [hq]; exact hsl,
    (hown.2.block _ (by simp; omega)).trans ((Below.heap_alloc (w.alloc (.cells #[.string x0, .string x1, .string x2] 32)) (.cells #[] 32) w.heap.size (by simp)).trans HX0.out), Enc.row_under HR0.out hown.2, rfl,
    fun b hb => by
      cases hb
      refine ⟨by simp, fun p hp e => ?_⟩
      have h1 := (hown.1.lt p.block (by rw [hp]; rfl)).1
      change p.block = w.heap.size + 1 at e
      simp at h1
      omega,
    fun p hp => (hown.1.lt p.block (by rw [hp]; rfl)).2⟩
  rw [← hq] at hlen ⊢
  clear hown hsl hwo hxa hq HX0 HR0 HB0
  go_wp2_with fail
  go_loopg [5, 6, 8, 15] q (fun gk v5 v6 v8 i wr => ∃ (k m : Nat) (put : Bool) (L : List Fl), k ≤ q ∧ gk = q - k ∧ i = .int .i64 (k : Int) ∧ v6 = .bool put ∧ m ≤ k + 1 ∧ Hid (WithAt Ws ⟨x0, x1, x2⟩ k put L) ∧ Hid (WithSt w wr aw q Ws ⟨x0, x1, x2⟩ v5 m L))
  case atStart => exact ⟨0, 0, false, [], Nat.zero_le _, rfl, rfl, rfl, by omega, Lib.hid (withAt_zero _ _), ST0⟩
  case round =>
    obtain ⟨k, m, put, L, hk, rfl, rfl, rfl, hmk, hwa, hST⟩ := hrel
    clear ST0
    by_cases hlt : k < q
    · have hkl : k < Ws.length := by rw [← HQ.out]; exact hlt
      obtain ⟨-, b, off, rfl, hcells⟩ := fl_at hST.out.sl (by omega)
      obtain ⟨c0, c1, c2⟩ := hcells k hkl
      have hki : (k : Int) < (q : Int) := by omega
      have hnx := HNE.out Ws[k] (List.getElem_mem hkl)
      try dsimp only at hnx
      have HWP := Lib.hid (fun (h : WithAt Ws ⟨x0, x1, x2⟩ k true L) => withAt_put hkl h)
      have HWP2 := Lib.hid (fun (L : List Fl) (h : WithAt Ws ⟨x0, x1, x2⟩ k true L) => withAt_put hkl h)
      have HWN := Lib.hid (fun (h : WithAt Ws ⟨x0, x1, x2⟩ k false L) hx => withAt_now hkl h hx)
      have HWO := Lib.hid (fun (h : WithAt Ws ⟨x0, x1, x2⟩ k false L) hx => withAt_not hkl h hx)
      clear hcells
      generalize Ws[k] = y at *
      obtain ⟨y0, y1, y2⟩ := y
      dsimp only at *
      have STa := Lib.hid (hST.out.alloc (.cells #[.string y0, .string y1, .string y2] 32))
      have n0 := cell_new (w := wr) (cs := #[.string y0, .string y1, .string y2]) (T := 32) 0 (v := .string y0) rfl
      have n1 := cell_new (w := wr) (cs := #[.string y0, .string y1, .string y2]) (T := 32) 1 (v := .string y1) rfl
      have n2 := cell_new (w := wr) (cs := #[.string y0, .string y1, .string y2]) (T := 32) 2 (v := .string y2) rfl
      have HNW := Lib.hid (Three.new wr (.string y0) (.string y1) (.string y2))
      cases put with
      | true =>
        clear HWN HWO
        have ST_y := Lib.hid (STa.out.alloc (.cells #[.string y0, .string y1, .string y2] 32))
        have HS_y : Hid (flE.Sl ((wr.alloc (.cells #[.string y0, .string y1, .string y2] 32)).alloc (.cells #[.string y0, .string y1, .string y2] 32)) (some ⟨wr.heap.size + 1, 0, none⟩) 1 [⟨y0, y1, y2⟩]) := Lib.hid (by
          have h1 := Enc.Sl.one (E := flE) (wr.alloc (.cells #[.string y0, .string y1, .string y2] 32)) ⟨y0, y1, y2⟩ 32 #[.string y0, .string y1, .string y2] rfl
          simpa using h1)
        go_wp2_with (at_builtin; refine wpList_appB (E := flE) _ rfl _ _ 22 rfl w.heap.size 32 i0 _ 48 Try.underlying22 HI.out HZ.out.1 HZ.out.2.1 HZ.out.2.2 rfl _ m L ST_y.out.row rfl (wr.heap.size + 1) 0 1 ⟨y0, y1, y2⟩ rfl HS_y.out (by unfold maxLen; omega) (by omega) ST_y.out.below.size ?_)
        intro v7 w7 ho7 hg7 hb7
        have ST7 := Lib.hid (ST_y.out.app ho7 hg7 (by simpa using hb7) (by simp))
        clear ho7 hg7 hb7 ST_y HS_y
        go_wp2_with fail
        go_roundg (q - (k + 1))
        case rel => exact ⟨k + 1, m + 1, true, L ++ [⟨y0, y1, y2⟩], by omega, rfl, by go_num, rfl, by omega, Lib.hid (HWP.out hwa.out), ST7⟩
        case measure => omega
      | false =>
        have hmk0 : m ≤ k := by
          have h1 := hST.out.len
          rcases hwa.out with ⟨_, h2, _⟩ | ⟨h, _⟩
          · rw [h1, h2, List.length_take]; omega
          · cases h
        have g0 := STa.out.box.c0
        have g1 := STa.out.box.c1
        have g2 := STa.out.box.c2
        dsimp only at g0 g1 g2
        cases hq : ltN x0 y0 with
        | true =>
          have hb1 : Op.bytesLess y0.toList x0.toList = false := ltN_asymm hq
          have hb2 := toList_ne hnx
          have HW9 := Lib.hid (HWN.out hwa.out hq)
          clear hq HWN HWO HWP hnx
          have ST_x := Lib.hid (STa.out.alloc (.cells #[.string x0, .string x1, .string x2] 32))
          have HS_x : Hid (flE.Sl ((wr.alloc (.cells #[.string y0, .string y1, .string y2] 32)).alloc (.cells #[.string x0, .string x1, .string x2] 32)) (some ⟨wr.heap.size + 1, 0, none⟩) 1 [⟨x0, x1, x2⟩]) := Lib.hid (by
            have h1 := Enc.Sl.one (E := flE) (wr.alloc (.cells #[.string y0, .string y1, .string y2] 32)) ⟨x0, x1, x2⟩ 32 #[.string x0, .string x1, .string x2] rfl
            simpa using h1)
          go_wp2_with (at_builtin; refine wpList_appB (E := flE) _ rfl _ _ 22 rfl w.heap.size 32 i0 _ 48 Try.underlying22 HI.out HZ.out.1 HZ.out.2.1 HZ.out.2.2 rfl _ m L ST_x.out.row rfl (wr.heap.size + 1) 0 1 ⟨x0, x1, x2⟩ rfl HS_x.out (by unfold maxLen; omega) (by omega) ST_x.out.below.size ?_)
          intro v6 w6 ho6 hg6 hb6
          have ST6 := Lib.hid (ST_x.out.app ho6 hg6 (by simpa using hb6) (by simp))
          have hN6 : Three w6 wr.heap.size (.string y0) (.string y1) (.string y2) := (hg6.block _ (by simp; omega) (fun e => by have := (hST.out.row.lt _ e.symm).2; omega)).trans ((Below.heap_alloc (wr.alloc (.cells #[.string y0, .string y1, .string y2] 32)) (.cells #[.string x0, .string x1, .string x2] 32) wr.heap.size (by simp)).trans HNW.out)
          have hwr6 : wr.heap.size < w6.heap.size := lt_of_block hN6
          clear n0 n1 n2 g0 g1 g2
          have n0 := hN6.c0; have n1 := hN6.c1; have n2 := hN6.c2
          clear ho6 hg6 hb6 ST_x HS_x c0 c1 c2 hN6
          have ST_y := Lib.hid (ST6.out.alloc (.cells #[.string y0, .string y1, .string y2] 32))
          have HS_y : Hid (flE.Sl (w6.alloc (.cells #[.string y0, .string y1, .string y2] 32)) (some ⟨w6.heap.size, 0, none⟩) 1 [⟨y0, y1, y2⟩]) := Lib.hid (by
            have h1 := Enc.Sl.one (E := flE) w6 ⟨y0, y1, y2⟩ 32 #[.string y0, .string y1, .string y2] rfl
            simpa using h1)
          go_wp2_with (at_builtin; refine wpList_appB (E := flE) _ rfl _ _ 22 rfl w.heap.size 32 i0 _ 48 Try.underlying22 HI.out HZ.out.1 HZ.out.2.1 HZ.out.2.2 rfl _ (m + 1) (L ++ [(⟨x0, x1, x2⟩ : Fl)]) ST_y.out.row rfl w6.heap.size 0 1 ⟨y0, y1, y2⟩ rfl HS_y.out (by unfold maxLen; omega) (by omega) ST_y.out.below.size ?_)
          intro v7 w7 ho7 hg7 hb7
          have ST7 := Lib.hid (ST_y.out.app ho7 hg7 (by simpa using hb7) (by simp))
          clear ho7 hg7 hb7 ST_y HS_y
          go_wp2_with fail
          go_roundg (q - (k + 1))
          case rel => exact ⟨k + 1, m + 1 + 1, true, L ++ [(⟨x0, x1, x2⟩ : Fl), ⟨y0, y1, y2⟩], by omega, rfl, by go_num, rfl, by omega, Lib.hid (by have h1 := HWP2.out _ HW9.out; simpa using h1), by simpa using ST7⟩
          case measure => omega
        | false =>
          have hb1 : Op.bytesLess y0.toList x0.toList = true := ltN_total (fun e => hnx e.symm) hq
          have HW9 := Lib.hid (HWO.out hwa.out hq)
          clear hq HWN HWO HWP HWP2 hnx
          have ST_y := Lib.hid (STa.out.alloc (.cells #[.string y0, .string y1, .string y2] 32))
          have HS_y : Hid (flE.Sl ((wr.alloc (.cells #[.string y0, .string y1, .string y2] 32)).alloc (.cells #[.string y0, .string y1, .string y2] 32)) (some ⟨wr.heap.size + 1, 0, none⟩) 1 [⟨y0, y1, y2⟩]) := Lib.hid (by
            have h1 := Enc.Sl.one (E := flE) (wr.alloc (.cells #[.string y0, .string y1, .string y2] 32)) ⟨y0, y1, y2⟩ 32 #[.string y0, .string y1, .string y2] rfl
            simpa using h1)
          go_wp2_with (at_builtin; refine wpList_appB (E := flE) _ rfl _ _ 22 rfl w.heap.size 32 i0 _ 48 Try.underlying22 HI.out HZ.out.1 HZ.out.2.1 HZ.out.2.2 rfl _ m L ST_y.out.row rfl (wr.heap.size + 1) 0 1 ⟨y0, y1, y2⟩ rfl HS_y.out (by unfold maxLen; omega) (by omega) ST_y.out.below.size ?_)
          intro v7 w7 ho7 hg7 hb7
          have ST7 := Lib.hid (ST_y.out.app ho7 hg7 (by simpa using hb7) (by simp))
          clear ho7 hg7 hb7 ST_y HS_y
          go_wp2_with fail
          go_roundg (q - (k + 1))
          case rel => exact ⟨k + 1, m + 1, false, L ++ [⟨y0, y1, y2⟩], by omega, rfl, by go_num, rfl, by omega, HW9, ST7⟩
          case measure => omega
    · have hki : (q : Int) ≤ (k : Int) := by omega
      obtain rfl : k = q := by omega
      cases put with
      | true =>
        have hfin := Lib.hid (withAt_done (HQ.out ▸ hwa.out))
        go_wp2_with fail
        go_ret
        refine ⟨_, rfl, ?_, hST.out.below⟩
        have h1 := hST.out.row
        rw [hST.out.len, hfin.out] at h1
        exact h1
      | false =>
        have hfin := Lib.hid (withAt_end (HQ.out ▸ hwa.out))
        have g0 := hST.out.box.c0
        have g1 := hST.out.box.c1
        have g2 := hST.out.box.c2
        dsimp only at g0 g1 g2
        have ST_x := Lib.hid (hST.out.alloc (.cells #[.string x0, .string x1, .string x2] 32))
        have HS_x : Hid (flE.Sl (wr.alloc (.cells #[.string x0, .string x1, .string x2] 32)) (some ⟨wr.heap.size, 0, none⟩) 1 [⟨x0, x1, x2⟩]) := Lib.hid (by
          have h1 := Enc.Sl.one (E := flE) wr ⟨x0, x1, x2⟩ 32 #[.string x0, .string x1, .string x2] rfl
          simpa using h1)
        go_wp2_with (at_builtin; refine wpList_appB (E := flE) _ rfl _ _ 22 rfl w.heap.size 32 i0 _ 48 Try.underlying22 HI.out HZ.out.1 HZ.out.2.1 HZ.out.2.2 rfl _ m L ST_x.out.row rfl wr.heap.size 0 1 ⟨x0, x1, x2⟩ rfl HS_x.out (by unfold maxLen; omega) (by omega) ST_x.out.below.size ?_)
        intro v6 w6 ho6 hg6 hb6
        have ST6 := Lib.hid (ST_x.out.app ho6 hg6 (by simpa using hb6) (by simp))
        clear ho6 hg6 hb6 ST_x HS_x g0 g1 g2
        go_wp2_with fail
        go_ret
        refine ⟨_, rfl, ?_, ST6.out.below⟩
        have h1 := ST6.out.row
        rw [ST6.out.len, hfin.out] at h1
        exact h1
end Go.Proofs.Ytjppommhamaibaa
