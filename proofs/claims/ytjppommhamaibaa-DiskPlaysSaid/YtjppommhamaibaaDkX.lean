/-
  The walks of slices.IndexFunc and slices.DeleteFunc of files, whatever is asked of each: a row of one's own is rewritten in place; the texts within reach.
-/
import Derived.Test.YtjppommhamaibaaDkO
namespace Go.Proofs.Ytjppommhamaibaa
open Go.RowKit Go.BigFrame
set_option linter.unusedVariables false

/-- The first place of which p holds; -1: there is none. -/
def idxFrom (p : Fl → Bool) : List Fl → Nat → Int
  | [], _ => -1
  | f :: r, i => if p f = true then (i : Int) else idxFrom p r (i + 1)
theorem idxFrom_cases (p : Fl → Bool) : ∀ (l : List Fl) (i : Nat), (∃ (k : Nat) (h : k < l.length), p l[k] = true ∧ (∀ j (hj : j < l.length), j < k → p l[j] = false) ∧ idxFrom p l i = ((i + k : Nat) : Int)) ∨ ((∀ f ∈ l, p f = false) ∧ idxFrom p l i = -1)
  | [], i => .inr ⟨fun f h => (by cases h), rfl⟩
  | f :: r, i => by
    cases hf : p f with
    | true => exact .inl ⟨0, by simp, hf, fun j _ hj => absurd hj (Nat.not_lt_zero _), by rw [idxFrom, if_pos hf]; rfl⟩
    | false =>
      have hn : ¬ p f = true := by rw [hf]; simp
      rcases idxFrom_cases p r (i + 1) with ⟨k, hk, h1, h2, h3⟩ | ⟨h1, h2⟩
      · refine .inl ⟨k + 1, by simpa using hk, by simpa using h1, fun j hj hjk => ?_, by rw [idxFrom, if_neg hn, h3]; congr 1; omega⟩
        cases j with
        | zero => exact hf
        | succ j => simpa using h2 j (by simpa using hj) (by omega)
      · refine .inr ⟨fun g hg => ?_, by rw [idxFrom, if_neg hn, h2]⟩
        rcases List.mem_cons.1 hg with rfl | hg
        · exact hf
        · exact h1 g hg
theorem idx_hit {p : Fl → Bool} {l : List Fl} {k : Nat} (hk : k < l.length) (h : p l[k] = true) (hj : ∀ j (h : j < l.length), j < k → p l[j] = false) : idxFrom p l 0 = (k : Int) := by
  rcases idxFrom_cases p l 0 with ⟨i, hi, h1, h2, h3⟩ | ⟨h1, h2⟩
  · rw [h3]
    have : ¬ i < k := fun e => by have := hj i hi e; rw [h1] at this; cases this
    have : ¬ k < i := fun e => by have := h2 k hk e; rw [h] at this; cases this
    congr 1; omega
  · have := h1 _ (List.getElem_mem hk); rw [h] at this; cases this
theorem idx_miss {p : Fl → Bool} {l : List Fl} (h : ∀ j (h : j < l.length), p l[j] = false) : idxFrom p l 0 = -1 := by
  rcases idxFrom_cases p l 0 with ⟨i, hi, h1, h2, h3⟩ | ⟨h1, h2⟩
  · have := h i hi; rw [h1] at this; cases this
  · exact h2
/-- What is asked of a function that asks of a file. -/
def AskFn (g : Nat) (cb : Array Value) (p : Fl → Bool) (l : List Fl) (w : World) : Prop := ∀ f ∈ l, ∀ W, Below w.heap.size w W → Calls Try.prog g (#[flVal f] ++ cb) W fun e w' => e = .returned (.bool (p f)) ∧ Below W.heap.size W w'
set_option maxHeartbeats 1000000 in
theorem filesIdxG (g : Nat) (cb : Array Value) (p : Fl → Bool) (hg : ∀ args w, (callFunc g args).run Try.prog w = .ok (.enter g args) w) (a : Option Addr) (n c : Nat) (l : List Fl) (w : World) (h : flE.Sl w a n l) (hn : n ≤ 4398046511104) (hp : AskFn g cb p l w) :
    Calls Try.prog 48 #[.slice a n c, .func (.func g) #[] cb] w fun e w' => e = .returned (.int .i64 (idxFrom p l 0)) ∧ Below w.heap.size w w' := by
  have hlen : n = l.length := h.1
  have HN := Lib.hid hlen
  have HSL := Lib.hid h
  have HP := Lib.hid hp
  obtain ⟨r, hr⟩ : ∃ r, r = idxFrom p l 0 := ⟨_, rfl⟩
  rw [← hr]
  have HR := Lib.hid hr
  clear h hlen hp hr
  go_enter Try.func48, Try.ntmps48
  go_wp2
  go_loopg [5, 8] n (fun gk v5 i wr => ∃ (k : Nat), k ≤ n ∧ gk = n - k ∧ i = .int .i64 (k : Int) ∧ Hid (Below w.heap.size w wr) ∧ Hid (∀ j (h : j < l.length), j < k → p l[j] = false))
  case atStart => exact ⟨0, Nat.zero_le _, rfl, rfl, Lib.hid (Below.refl _ _), Lib.hid (fun j h hj => absurd hj (Nat.not_lt_zero _))⟩
  case round =>
    obtain ⟨k, hk, rfl, rfl, hW, hall⟩ := hrel
    by_cases hlt : k < n
    · have hkd : k < l.length := by rw [← HN.out]; exact hlt
      obtain ⟨-, b, off, rfl, hcells⟩ := fl_at (HSL.out.keep hW.out) (by omega)
      obtain ⟨c0, c1, c2⟩ := hcells k hkd
      have hki : (k : Int) < (n : Int) := by omega
      have hc := Lib.hid (HP.out l[k] (List.getElem_mem hkd) wr hW.out)
      clear hcells
      cases hq : p l[k] with
      | true =>
        have HV := Lib.hid (idx_hit hkd hq hall.out)
        rw [hq] at hc
        clear hall hq
        unfold flVal at hc
        generalize l[k] = o at *
        obtain ⟨o0, o1, o2⟩ := o
        go_wp2_with fail
        refine hc.out.mono ?_
        rintro e w1 ⟨rfl, hb1⟩
        have HB := Lib.hid (below_then hW.out hb1 hW.out.size)
        clear hb1
        go_wp2_with fail
        go_ret
        exact ⟨ret_int (by rw [HR.out, HV.out]), HB.out⟩
      | false =>
        have hall2 : Hid (∀ j (h : j < l.length), j < k + 1 → p l[j] = false) := Lib.hid fun j h hj => by
          by_cases hjk : j = k
          · subst hjk; exact hq
          · exact hall.out j h (by omega)
        rw [hq] at hc
        clear hall hq
        unfold flVal at hc
        generalize l[k] = o at *
        obtain ⟨o0, o1, o2⟩ := o
        go_wp2_with fail
        refine hc.out.mono ?_
        rintro e w1 ⟨rfl, hb1⟩
        have HB := Lib.hid (below_then hW.out hb1 hW.out.size)
        clear hb1
        go_wp2_with fail
        go_roundg (n - (k + 1))
        case rel => exact ⟨k + 1, by omega, rfl, by go_num, HB, hall2⟩
        case measure => omega
    · have HV := Lib.hid (idx_miss (p := p) (l := l) (fun j h => hall.out j h (by have := HN.out; omega)))
      have hki : (n : Int) ≤ (k : Int) := by omega
      clear hall
      go_wp2_with fail
      go_ret
      exact ⟨ret_int (by rw [HR.out, HV.out]), hW.out⟩

theorem fl_store3 {w : World} {base g n c : Nat} {L : List Fl} {k : Nat} (h : w.ownsRow base 32 3 (.slice (some ⟨g, 0, none⟩) n c) n (flE.cells L)) (hk : k < L.length) (r s t : ByteArray) :
    (((w.setCell ⟨g, k * 3, none⟩ (.string r)).setCell ⟨g, k * 3 + 1, none⟩ (.string s)).setCell ⟨g, k * 3 + 2, none⟩ (.string t)).ownsRow base 32 3 (.slice (some ⟨g, 0, none⟩) n c) n (flE.cells (L.set k ⟨r, s, t⟩)) ∧
    w.grownBy (((w.setCell ⟨g, k * 3, none⟩ (.string r)).setCell ⟨g, k * 3 + 1, none⟩ (.string s)).setCell ⟨g, k * 3 + 2, none⟩ (.string t)) (some g) := by
  obtain ⟨h1, g1⟩ := h.stored (k * 3) (.string r)
  have e1 : (flE.cells L).set (k * 3) (.string r) = flE.cells (L.set k ⟨r, L[k].sy, L[k].ta⟩) := Enc.cells_set flE (j := 0) (by decide) L k hk rfl
  rw [e1] at h1
  obtain ⟨h2, g2⟩ := fl_store2 h1 (by simpa using hk) s t
  refine ⟨?_, grown_trans g1 g2⟩
  rw [List.set_set] at h2
  simpa using h2
/-- How DeleteFunc goes on: what is kept so far stands in front, what was not looked at behind. -/
structure DelAt (p : Fl → Bool) (l L : List Fl) (i j : Nat) : Prop where
  len : L.length = l.length
  ij : i < j
  jl : j ≤ l.length
  front : L.take i = (l.take j).filter fun f => !p f
  behind : L.drop j = l.drop j
theorem DelAt.start {p : Fl → Bool} {l : List Fl} {k : Nat} (hk : k < l.length) (h : p l[k] = true) (hj : ∀ j (h : j < l.length), j < k → p l[j] = false) : DelAt p l l k (k + 1) := by
  refine ⟨rfl, by omega, hk, ?_, rfl⟩
  rw [List.take_succ_eq_append_getElem hk, List.filter_append]
  have h1 : (l.take k).filter (fun f => !p f) = l.take k := by
    rw [List.filter_eq_self]
    intro f hf
    obtain ⟨j, hj2, rfl⟩ := List.getElem_of_mem hf
    rw [List.length_take] at hj2
    rw [List.getElem_take, hj j (by omega) (by omega)]; rfl
  rw [h1]
  simp [h]
theorem DelAt.at_ {p : Fl → Bool} {l L : List Fl} {i j : Nat} (h : DelAt p l L i j) (hj : j < l.length) : L[j]'(by rw [h.len]; exact hj) = l[j] := by
  have h1 := congrArg (fun x => x[0]?) h.behind
  simp only [List.getElem?_drop, Nat.add_zero] at h1
  rw [List.getElem?_eq_getElem (by rw [h.len]; exact hj), List.getElem?_eq_getElem hj] at h1
  exact Option.some.inj h1
theorem DelAt.drop {p : Fl → Bool} {l L : List Fl} {i j : Nat} (h : DelAt p l L i j) (hj : j < l.length) (hp : p l[j] = true) : DelAt p l L i (j + 1) := by
  refine ⟨h.len, by have := h.ij; omega, hj, ?_, ?_⟩
  · rw [List.take_succ_eq_append_getElem hj, List.filter_append, ← h.front]; simp [hp]
  · have := congrArg (List.drop 1) h.behind
    rwa [List.drop_drop, List.drop_drop] at this
theorem DelAt.keep {p : Fl → Bool} {l L : List Fl} {i j : Nat} (h : DelAt p l L i j) (hj : j < l.length) (hp : p l[j] = false) : DelAt p l (L.set i l[j]) (i + 1) (j + 1) := by
  have hij := h.ij
  have hiL : i < L.length := by rw [h.len]; omega
  refine ⟨by rw [List.length_set, h.len], by omega, hj, ?_, ?_⟩
  · rw [List.take_succ_eq_append_getElem (by rw [List.length_set]; exact hiL), List.getElem_set_self, List.take_set_of_le (Nat.le_refl _), h.front, List.take_succ_eq_append_getElem hj, List.filter_append]
    simp [hp]
  · rw [List.drop_set_of_lt (by omega)]
    have := congrArg (List.drop 1) h.behind
    rwa [List.drop_drop, List.drop_drop] at this
theorem DelAt.done {p : Fl → Bool} {l L : List Fl} {i : Nat} (h : DelAt p l L i l.length) : L.take i = l.filter fun f => !p f := by rw [h.front, List.take_of_length_le (Nat.le_refl _)]
theorem zero_len (n : Nat) : (Builtin.zeroCells (Value.agg #[.string ⟨#[]⟩, .string ⟨#[]⟩, .string ⟨#[]⟩]).cells n).toList.length = n * 3 := by rw [Array.length_toList, size_zeroCells]; rfl
theorem zero_one (n : Nat) : ∀ u ∈ (Builtin.zeroCells (Value.agg #[.string ⟨#[]⟩, .string ⟨#[]⟩, .string ⟨#[]⟩]).cells n).toList, u.oneCell' = true := by
  intro u hu
  unfold Builtin.zeroCells at hu
  simp only [Array.toList_map, List.mem_map, Array.mem_toList_iff, Array.mem_range] at hu
  obtain ⟨i, _, rfl⟩ := hu
  have e : (Value.agg #[.string ⟨#[]⟩, .string ⟨#[]⟩, .string ⟨#[]⟩]).cells = #[.string ⟨#[]⟩, .string ⟨#[]⟩, .string ⟨#[]⟩] := by kernel_rfl
  rw [e]
  show ((#[Value.string ⟨#[]⟩, .string ⟨#[]⟩, .string ⟨#[]⟩])[i % 3]!).oneCell' = true
  have : i % 3 < 3 := Nat.mod_lt _ (by decide)
  match i % 3, this with
  | 0, _ => rfl
  | 1, _ => rfl
  | 2, _ => rfl

set_option maxRecDepth 20000 in
set_option maxHeartbeats 2000000 in
theorem delFunc_any (fg : Nat) (cb : Array Value) (p : Fl → Bool) (hfg : ∀ args w, (callFunc fg args).run Try.prog w = .ok (.enter fg args) w) (g n c base : Nat) (l : List Fl) (S : Nat → Prop) (w : World) (h : w.ownsRow base 32 3 (.slice (some ⟨g, 0, none⟩) n c) n (flE.cells l)) (hn : n ≤ 1000000) (hbase : base ≤ w.heap.size)
    (hp : ∀ f ∈ l, ∀ W, But (fun i => i = g) w W → Calls Try.prog fg (#[flVal f] ++ cb) W fun e w' => e = .returned (.bool (p f)) ∧ Below W.heap.size W w') (hex : ∃ f ∈ l, p f = true) :
    Calls Try.prog 40 #[.slice (some ⟨g, 0, none⟩) n c, .func (.func fg) #[] cb] w fun e w' =>
      ∃ m, e = .returned (.slice (some ⟨g, 0, none⟩) m c) ∧ w'.ownsRow base 32 3 (.slice (some ⟨g, 0, none⟩) m c) m (flE.cells (l.filter fun f => !p f)) ∧ But (fun i => i = g) w w' := by
  have hln : l.length = n := by have h1 := h.1; rw [len_cells] at h1; omega
  obtain ⟨cs0, hb0, _, _, hbg, hnc, hcm, -⟩ := own_blk h
  have hglt := hb0.lt
  have hidx := Lib.hid (filesIdxG fg cb p hfg (some ⟨g, 0, none⟩) n c l w (by
    obtain ⟨a', c', he, h1, h2, _⟩ := Enc.own_sl (E := flE) h
    cases he; exact h2) (by omega) (fun f hf W hb => hp f hf W (But.ofBelow hb)))
  have hcase : ∃ (k : Nat) (h : k < l.length), idxFrom p l 0 = (k : Int) ∧ DelAt p l l k (k + 1) := by
    rcases idxFrom_cases p l 0 with ⟨k, hk, h1, h2, h3⟩ | ⟨h1, _⟩
    · exact ⟨k, hk, by rw [h3]; congr 1; omega, DelAt.start hk h1 h2⟩
    · obtain ⟨f, hf, hpf⟩ := hex
      rw [h1 f hf] at hpf; cases hpf
  obtain ⟨k0, hk0, hi0, hd0⟩ := hcase
  rw [hi0] at hidx
  have HN := Lib.hid hln
  have HR := Lib.hid h
  have HP := Lib.hid hp
  have HD0 := Lib.hid hd0
  have hk0n : k0 < n := by omega
  clear h hb0 hp hex hi0 hd0 hln hk0
  have hne1 : ((k0 : Int) == -1) = false := beq_eq_false_iff_ne.2 (by omega)
  unfold maxLen at hcm
  go_enter Try.func40, Try.ntmps40
  go_wp2_with fail
  refine hidx.out.mono ?_
  rintro e w1 ⟨rfl, hb1⟩
  have HB1 : Hid (But (fun i => i = g) w w1) := Lib.hid (But.ofBelow hb1)
  have HR1 := Lib.hid (Enc.row_under HR.out hb1)
  clear hb1 hidx HR
  go_wp2_with fail
  go_loopg [5, 6, 7] (n - (k0 + 1)) (fun gk vi vj v7 wr => ∃ (i j : Nat) (L : List Fl), gk = n - j ∧ j ≤ n ∧ i < j ∧ vi = .int .i64 (i : Int) ∧ vj = .int .i64 (j : Int) ∧ Hid (But (fun i => i = g) w wr) ∧ Hid (wr.ownsRow base 32 3 (.slice (some ⟨g, 0, none⟩) n c) n (flE.cells L)) ∧ Hid (DelAt p l L i j))
  case atStart => exact ⟨k0, k0 + 1, l, rfl, by omega, by omega, rfl, by go_num, HB1, HR1, HD0⟩
  case round =>
    obtain ⟨i, j, L, rfl, hj, hij, rfl, rfl, hB, hM, hD⟩ := hrel
    clear HB1 HR1
    by_cases hlt : j < n
    · have hjl : j < l.length := by rw [HN.out]; exact hlt
      have hLl : L.length = n := by rw [hD.out.len, HN.out]
      have hrow : wr.ownsRow base 32 3 (.slice (some ⟨g, 0, none⟩) L.length c) L.length (flE.cells L) := by rw [hLl]; exact hM.out
      obtain ⟨c0, c1, c2, hz⟩ := own_file hrow (k := j) (by rw [hLl]; exact hlt)
      rw [hD.out.at_ hjl] at c0 c1 c2
      have hji : (j : Int) < (n : Int) := by omega
      have hglt2 : g < wr.heap.size := (hM.out.lt g rfl).2
      have hB2 : But (fun i => i = g) w (wr.alloc (.cells #[.string l[j].nm, .string l[j].sy, .string l[j].ta] 32)) := hB.out.trans (But.ofBelow ((Below.refl _ wr).alloc (Nat.le_refl _) _))
      have hc := Lib.hid (HP.out l[j] (List.getElem_mem hjl) _ hB2)
      have hM2 := hM.out.alloc (.cells #[.string l[j].nm, .string l[j].sy, .string l[j].ta] 32)
      have HB2 := Lib.hid hB2
      have HM2 := Lib.hid hM2
      have n0 := cell_new (w := wr) (cs := #[.string l[j].nm, .string l[j].sy, .string l[j].ta]) (T := 32) 0 (v := .string l[j].nm) rfl
      have n1 := cell_new (w := wr) (cs := #[.string l[j].nm, .string l[j].sy, .string l[j].ta]) (T := 32) 1 (v := .string l[j].sy) rfl
      have n2 := cell_new (w := wr) (cs := #[.string l[j].nm, .string l[j].sy, .string l[j].ta]) (T := 32) 2 (v := .string l[j].ta) rfl
      have HNW := Lib.hid (And.intro n0 (And.intro n1 n2))
      clear hrow hz hB2 hM2
      unfold flVal at hc
      cases hq : p l[j] with
      | true =>
        have HD2 := Lib.hid (hD.out.drop hjl hq)
        rw [hq] at hc
        clear hq
        generalize l[j] = o at *
        obtain ⟨o0, o1, o2⟩ := o
        dsimp only at *
        go_wp2_with fail
        refine hc.out.mono ?_
        rintro e w5 ⟨rfl, hb5⟩
        have HB5 := Lib.hid (HB2.out.trans (But.ofBelow hb5))
        have HM5 := Lib.hid (Enc.row_under HM2.out hb5)
        clear hb5
        go_wp2_with fail
        go_roundg (n - (j + 1))
        case rel => exact ⟨i, j + 1, L, rfl, by omega, by omega, rfl, by go_num, HB5, HM5, HD2⟩
        case measure => omega
      | false =>
        have hiL : i < L.length := by rw [hLl]; omega
        have HD2 := Lib.hid (hD.out.keep hjl hq)
        have hLN := Lib.hid hLl
        rw [hq] at hc
        clear hq
        generalize l[j] = o at *
        obtain ⟨o0, o1, o2⟩ := o
        dsimp only at *
        go_wp2_with fail
        refine hc.out.mono ?_
        rintro e w5 ⟨rfl, hb5⟩
        obtain ⟨n0, n1, n2⟩ := HNW.out
        have f0 := cell_keep hb5 n0
        have f1 := cell_keep hb5 n1
        have f2 := cell_keep hb5 n2
        have HB5 := Lib.hid (HB2.out.trans (But.ofBelow hb5))
        have HM5 := Lib.hid (Enc.row_under HM2.out hb5)
        have hrow5 : w5.ownsRow base 32 3 (.slice (some ⟨g, 0, none⟩) L.length c) L.length (flE.cells L) := by rw [hLN.out]; exact HM5.out
        obtain ⟨d0, d1, d2, hz⟩ := own_file hrow5 hiL
        have z0 := hz (i * 3)
        have z1 := hz (i * 3 + 1)
        have z2 := hz (i * 3 + 2)
        have hst := fl_store3 hrow5 hiL o0 o1 o2
        rw [hLN.out] at hst
        have HST := Lib.hid hst
        have hin : (i : Int) < (n : Int) := by omega
        have hgl5 : g < w5.heap.size := (HM5.out.lt g rfl).2
        obtain ⟨N8, hN8⟩ : ∃ N8, N8 = wr.heap.size := ⟨_, rfl⟩
        clear hb5 hrow5 hz hst n0 n1 n2 c0 c1 c2 hLl
        go_wp2_with fail
        rw [← hN8] at f0 f1 f2 ⊢
        clear hN8
        go_roundg (n - (j + 1))
        case rel => exact ⟨i + 1, j + 1, L.set i ⟨o0, o1, o2⟩, rfl, by omega, by omega, by go_num, by go_num, Lib.hid (HB5.out.trans ((But.ofGrown HST.out.2).mono (fun i _ e => by cases e; rfl))), Lib.hid HST.out.1, HD2⟩
        case measure => omega
    · have hji : (n : Int) ≤ (j : Int) := by omega
      obtain rfl : j = n := by omega
      obtain ⟨cs, hb, hcl, htk, -⟩ := own_blk hM.out
      have hcr := run_clear_blk (P := Try.prog) (w := wr) 22 0 32 _ _ Try.underlying22 zeroFile (g := g) (off := i * 3) (n := j - i) (c := c - i) hb (by omega) rfl (zero_one _) (by rw [zero_len, hcl]; omega)
      have hb3 := Lib.hid (hb.row (splice cs (i * 3) (Builtin.zeroCells (Value.agg #[.string ⟨#[]⟩, .string ⟨#[]⟩, .string ⟨#[]⟩]).cells (j - i)).toList))
      have HCL := Lib.hid (And.intro hcl htk)
      generalize wr.setRow g (splice cs (i * 3) (Builtin.zeroCells (Value.agg #[.string ⟨#[]⟩, .string ⟨#[]⟩, .string ⟨#[]⟩]).cells (j - i)).toList).toArray = w3 at hcr hb3
      have hci : ¬ c = i := by omega
      have hic : i ≤ c := by omega
      have hij2 : (i : Int) ≤ (j : Int) := by omega
      have hij3 : i ≤ j := by omega
      clear hb hcl htk hlt
      go_wp2_with fail
      go_ret
      refine ⟨i, rfl, blk_own hb3.out.1 ?_ hbg (by omega) (by unfold maxLen; omega) ?_, ?_⟩
      · rw [length_splice _ _ _ (by rw [zero_len, HCL.out.1]; omega), HCL.out.1]
      · have hdn := hD.out
        rw [show j = l.length from HN.out.symm] at hdn
        rw [splice_before _ _ _ _ (Nat.le_refl _) (by rw [HCL.out.1]; omega), ← hdn.done, ← cells_take, ← HCL.out.2, List.take_take, Nat.min_eq_left (by omega)]
      · exact hB.out.trans ((But.ofGrown hb3.out.2).mono (fun i _ e => by cases e; rfl))
end Go.Proofs.Ytjppommhamaibaa
