/-
  Disks in memory: a file's three cells, a disk's value, a parameter that is a disk; a region that draws its order, whose callees make new blocks alone. Without a condition but for the sizes.
-/
import Derived.Test.YtjppommhamaibaaDkQ
import Derived.Test.YtjppommhamaibaaRows
import Derived.Lib.SmallJoins
import Derived.Deep.Quiet
import Derived.SizedLaws
namespace Go.Proofs.Ytjppommhamaibaa
open Go.RowKit Go.ChangeShapes Go.WideShapes Go.Deep Go.Joins
set_option linter.unusedVariables false

/-- A world that holds all that w holds, and new blocks. -/
structure Bel (w : World) where
  val : World
  bel : Below w.heap.size w val
instance (w : World) : Inhabited (Bel w) := ⟨⟨w, Below.refl _ w⟩⟩
theorem Bel.cell {w : World} {a : Addr} {v : Value} (h : w.cell? a = some v) (p : Bel w) : p.val.cell? a = some v := cell_keep p.bel h
theorem Bel.size {w : World} (p : Bel w) : w.heap.size ≤ p.val.heap.size := p.bel.size
theorem wp_region_bel {P : Program} {id : Nat} {Q : Exit → Act → World → Prop} {a : Act} {w : World} {l : List Oper} (hm : P.follows .mixedOrders = true) (hB : Region.lexB .any l.toArray = true)
    (h : wpQuiet P l.toArray (fun w' => ∃ p : Bel w, w' = p.val) (fun a' => ∀ w', (∃ p : Bel w, w' = p.val) → Q .normal a' w') l a) : (Code.region id l.toArray true).wp P Q a w :=
  wp_region_quiet (C := fun w' => ∃ p : Bel w, w' = p.val) hm hB ⟨⟨w.drew, (Below.refl _ w).drew⟩, rfl⟩ (by simpa using h)
/-- A callee's contract, met in a world of the class. -/
theorem bel_of {P : Program} {f : FuncId} {args : Array Value} {w : World} {p : Bel w} {v : Value} (h : Calls P f args p.val fun e w' => e = .returned v ∧ Below p.val.heap.size p.val w') :
    Calls P f args p.val fun e w'' => e = .returned v ∧ ∃ q : Bel w, w'' = q.val :=
  h.mono fun _ w'' ⟨he, hb⟩ => ⟨he, ⟨w'', below_then p.bel hb p.bel.size⟩, rfl⟩
theorem bel_same {P : Program} {f : FuncId} {args : Array Value} {w : World} {p : Bel w} {v : Value} (h : Calls P f args p.val fun e w' => e = .returned v ∧ p.val = w') :
    Calls P f args p.val fun e w'' => e = .returned v ∧ ∃ q : Bel w, w'' = q.val :=
  h.mono fun _ w'' ⟨he, hb⟩ => ⟨he, p, hb.symm⟩

/-- How a file lies. -/
def flE : Enc Fl where
  k := 3
  enc f := [.string f.nm, .string f.sy, .string f.ta]
  len _ := rfl
  one f u hu := by
    simp at hu
    rcases hu with rfl | rfl | rfl <;> rfl
  pos := by decide
theorem flE_k : flE.k = 3 := rfl
/-- The disk's value. -/
def Dk.val (d : Dk) (a : Option Addr) (n c : Nat) : Value := .agg #[.int .i64 d.room, .slice a n c, .int .i64 d.left, .bool d.down]
/-- Texts that are in reach. -/
def Fl.small (f : Fl) : Prop := f.nm.size ≤ 140737488355328 ∧ f.sy.size ≤ 140737488355328 ∧ f.ta.size ≤ 140737488355328
/-- A disk that lies in a world: its slice, and what it reads. -/
structure DkAt (w : World) (a : Option Addr) (n c : Nat) (d : Dk) : Prop where
  sl : flE.Sl w a n d.files
  nc : n ≤ c
  cm : c ≤ maxLen
  cn : a = none → c = 0
  nb : n ≤ 4398046511104
  small : ∀ f ∈ d.files, f.small
  rw : -9223372036854775808 ≤ d.room ∧ d.room ≤ 9223372036854775807
  lw : -9223372036854775808 ≤ d.left ∧ d.left ≤ 9223372036854775807
theorem DkAt.keep {w w' : World} {a : Option Addr} {n c : Nat} {d : Dk} (h : DkAt w a n c d) (hb : Below w.heap.size w w') : DkAt w' a n c d := { h with sl := h.sl.keep hb }
theorem DkAt.len {w : World} {a : Option Addr} {n c : Nat} {d : Dk} (h : DkAt w a n c d) : d.files.length = n := h.sl.1.symm

/-! What came in -/
section
variable {H : Type} {enc : TypeId × Value → H} {P : Program} {w : World} {base : Nat} {spare : Nat → Bool} {held : Bool}
def Small (P : Program) (t : TypeId) (x : DataW H) : Prop := ∀ n ∈ x.weights P t, n ≤ reachBytes
theorem weights_each : ∀ {ts : List TypeId} {ds : List (DataW H)}, (∀ n ∈ DataW.weightsEach P ts ds, n ≤ reachBytes) → ∀ (j : Nat) (t : TypeId) (d : DataW H), ts[j]? = some t → ds[j]? = some d → Small P t d :=
  fun h _ _ _ ht hd n hn => h n (DataW.weights_mem_each ht hd n hn)
theorem small_each {ts : List TypeId} {ds : List (DataW H)} (hs : (DataW.weightsEach P ts ds).all (· ≤ reachBytes) = true) (j : Nat) {t : TypeId} {d : DataW H} (ht : ts[j]? = some t) (hd : ds[j]? = some d) : Small P t d :=
  weights_each (fun n hn => by simpa using List.all_eq_true.1 hs n hn) j t d ht hd
theorem weightsAll_mem {e : TypeId} : ∀ {l : List (DataW H)} {d : DataW H}, d ∈ l → ∀ n ∈ d.weights P e, n ∈ DataW.weightsAll P e l
  | x :: r, d, hd, n, hn => by
    rw [DataW.weightsAll, List.mem_append]
    rcases List.mem_cons.1 hd with rfl | hd
    · exact .inl hn
    · exact .inr (weightsAll_mem hd n hn)
theorem small_elem {t e : TypeId} {el sp : List (DataW H)} (ht : P.underlying t = some (.slice e)) (h : Small P t (.slice el sp)) : ((el.length + sp.length) * P.bytesOf e ≤ reachBytes) ∧ ∀ d ∈ el, Small P e d := by
  unfold Small at h
  rw [DataW.weights, ht] at h
  dsimp only at h
  refine ⟨h _ (List.mem_cons_self ..), fun d hd n hn => h n (List.mem_cons_of_mem _ (List.mem_append_left _ (weightsAll_mem hd n hn)))⟩
theorem small_agg {t : TypeId} {fs : Array Field} {parts : List (DataW H)} (ht : P.underlying t = some (.struct fs)) (h : Small P t (.agg parts)) (i : Nat) {ti : TypeId} {d : DataW H} (hti : (fs.toList.map (·.type))[i]? = some ti) (hd : parts[i]? = some d) : Small P ti d := by
  unfold Small at h
  rw [DataW.weights, ht] at h
  exact weights_each h i ti d hti hd
theorem small_str {t : TypeId} {s : ByteArray} (h : Small P t (.lit (.string s.data.toList) : DataW H)) : s.size ≤ 140737488355328 := by
  have h1 := h s.data.toList.length (by simp [DataW.weights])
  have h2 := reachBytes_lt
  have h3 : s.size = s.data.toList.length := by rw [Array.length_toList]; rfl
  omega

/-- A slice that came in, whatever its elements are read as. -/
theorem open_rows_small {α : Type} (E : Enc α) (wf : α → Prop) {ts te : TypeId} (ht : P.underlying ts = some (.slice te)) (hce : P.cellsOf te = E.k)
    (hread : ∀ n cs y, DataW.trod enc P w base spare held n te cs = some y → cs.length = E.k → Small P te y.1 → ∃ x, cs = E.enc x ∧ wf x)
    {a : Option Addr} {len cap : Nat} {x : DataW H} {p : List MemPlace} {fuel : Nat}
    (hf : DataW.trod enc P w base spare held fuel ts [.slice a len cap] = some (x, p)) (hsm : Small P ts x) : len * P.bytesOf te ≤ reachBytes ∧ ∃ d : List α, E.Sl w a len d ∧ len ≤ cap ∧ cap ≤ maxLen ∧ (a = none → cap = 0) ∧ ∀ o ∈ d, wf o := by
  rcases open_slice ht hf with ⟨hcs, _⟩ | ⟨ad, l, c, m, n, D, Pl, hcs, _, hl, hm, hmm, hx, hi⟩
  · simp at hcs
    obtain ⟨rfl, rfl, rfl⟩ := hcs
    exact ⟨by simp, [], Enc.Sl.nil _ _, Nat.le_refl _, Nat.zero_le _, fun _ => rfl, fun o ho => by cases ho⟩
  · simp at hcs
    obtain ⟨rfl, rfl, rfl⟩ := hcs
    obtain ⟨rfl, -⟩ := Prod.mk.inj hx
    obtain ⟨hb, hel⟩ := small_elem ht hsm
    have hlm : len ≤ m := by rw [hmm]; split <;> omega
    have each : ∀ i, i < len → ∃ o : α, (∀ j u, (E.enc o)[j]? = some u → w.cell? ((ad.add (i * E.k)).add j) = some u) ∧ wf o := by
      intro i hil
      obtain ⟨cs', h1, h2⟩ := hi i (by omega)
      rw [hce] at h1
      obtain ⟨_, hln, hat⟩ := World.cells?_some h1
      obtain ⟨o, rfl, hwf⟩ := hread _ _ _ h2 hln (hel _ (List.mem_map.2 ⟨i, List.mem_range.2 hil, rfl⟩))
      refine ⟨o, fun j u hu => ?_, hwf⟩
      have hj : j < E.k := by have := (List.getElem?_eq_some_iff.1 hu).1; rwa [E.len] at this
      have := hat j hj
      rw [hu] at this
      by_cases hj0 : j = 0
      · subst hj0; simpa [Addr.add] using this
      · exact this
    clear hi
    refine ⟨Nat.le_trans (Nat.mul_le_mul_right _ (by simp)) hb, ?_⟩
    by_cases h0 : len = 0
    · subst h0
      exact ⟨[], Enc.Sl.nil _ _, hl, hm, (fun e => by cases e), fun o ho => by cases ho⟩
    · obtain ⟨b, off, rfl⟩ : ∃ b off, ad = ⟨b, off, none⟩ := by
        obtain ⟨o, h1, _⟩ := each 0 (by omega)
        have hlt : 0 < (E.enc o).length := by rw [E.len]; exact E.pos
        have hsp := spot_none (h1 0 _ (List.getElem?_eq_getElem hlt))
        rw [Nat.zero_mul] at hsp
        exact ⟨ad.block, ad.off, by simpa [Addr.add] using hsp⟩
      obtain ⟨pick, hpick⟩ : ∃ pick : (i : Nat) → i < len → α, ∀ i (hi : i < len), (∀ j u, (E.enc (pick i hi))[j]? = some u → w.cell? (((⟨b, off, none⟩ : Addr).add (i * E.k)).add j) = some u) ∧ wf (pick i hi) :=
        ⟨fun i hi => Classical.choose (each i hi), fun i hi => Classical.choose_spec (each i hi)⟩
      refine ⟨List.ofFn fun i : Fin len => pick i.1 i.2, ⟨by simp, .inr ⟨b, off, rfl, fun i hi j u hu => ?_⟩⟩, hl, hm, (fun e => by cases e), fun o ho => ?_⟩
      · have hil : i < len := by simpa using hi
        simp only [List.getElem_ofFn] at hu
        have h3 := (hpick i hil).1 j u hu
        simp only [Enc.add_is] at h3
        exact h3
      · obtain ⟨i, hi, rfl⟩ := List.getElem_of_mem ho
        simp only [List.getElem_ofFn]
        exact (hpick i (by simpa using hi)).2
end

theorem bounds_i64' {n : Int} (h : (Lit.int .i64 n).wf = true) : -9223372036854775808 ≤ n ∧ n ≤ 9223372036854775807 := bounds_i64 h
theorem flStruct : structOf Try.prog 32 = some [(9, 0), (9, 1), (9, 2)] := by kernel_rfl
theorem cellsStr : Try.prog.cellsOf 9 = 1 := by kernel_rfl
theorem cellsInt : Try.prog.cellsOf 3 = 1 := by kernel_rfl
theorem read_file {H : Type} {enc : TypeId × Value → H} {w : World} {base : Nat} {spare : Nat → Bool} {held : Bool} (n : Nat) (cs : List Value) (y : DataW H × List MemPlace)
    (h : DataW.trod enc Try.prog w base spare held n 32 cs = some y) (hl : cs.length = flE.k) (hs : Small Try.prog 32 y.1) : ∃ x, cs = flE.enc x ∧ x.small := by
  obtain ⟨y0, y1, y2, n, rfl, _, t0, t1, t2⟩ := trod_struct3 Try.underlying32 h
  have hl : cs.length = 3 := hl
  dsimp only at t0 t1 t2
  rw [cellsStr, one_of (by omega)] at t0 t1 t2
  obtain ⟨s0, e0, rfl, _⟩ := DataW.trod_string Try.underlying9 t0
  obtain ⟨s1, e1, rfl, _⟩ := DataW.trod_string Try.underlying9 t1
  obtain ⟨s2, e2, rfl, _⟩ := DataW.trod_string Try.underlying9 t2
  have z0 := small_str (small_agg Try.underlying32 hs 0 rfl rfl)
  have z1 := small_str (small_agg Try.underlying32 hs 1 rfl rfl)
  have z2 := small_str (small_agg Try.underlying32 hs 2 rfl rfl)
  simp only [List.cons.injEq, and_true] at e0 e1 e2
  refine ⟨⟨s0, s1, s2⟩, ?_, z0, z1, z2⟩
  match cs, hl with
  | [c0, c1, c2], _ => simp at e0 e1 e2; subst e0 e1 e2; rfl
theorem open_disk {H : Type} {enc : TypeId × Value → H} {w : World} {base b0 : Nat} {spare : Nat → Bool} {held : Bool} {r : Reach} {v : Value} {x : DataW H} {p : List MemPlace}
    (hv : Value.okWide Try.prog w r b0 24 v) (h : DataW.Trod enc Try.prog w base spare held 24 v x p) (hs : Small Try.prog 24 x) : ∃ a n c d, v = Dk.val d a n c ∧ DkAt w a n c d := by
  obtain ⟨v0, v1, v2, v3, y0, y1, y2, y3, m, rfl, rfl, rfl, t0, t1, t2, t3⟩ := open_agg4 Try.underlying24 (by kernel_rfl) (by kernel_rfl) hv h
  dsimp only at t0 t1 t2 t3
  obtain ⟨m0, e0, _, w0⟩ := DataW.trod_int Try.underlying3 t0
  obtain ⟨m2, e2, _, w2⟩ := DataW.trod_int Try.underlying3 t2
  obtain ⟨b, e3, _⟩ := DataW.trod_bool Try.underlying4 t3
  simp only [List.cons.injEq, and_true] at e0 e2 e3
  subst e0 e2 e3
  have hs1 := small_agg Try.underlying24 hs 1 rfl rfl
  obtain ⟨a, n, c, rfl⟩ : ∃ a n c, v1 = .slice a n c := by
    rcases open_slice Try.underlying22 t1 with ⟨hcs, _⟩ | ⟨ad, l, c, _, _, _, _, hcs, _⟩ <;> · simp at hcs; exact ⟨_, _, _, hcs⟩
  obtain ⟨hb, l, h1, h2, h3, h4, h5⟩ := open_rows_small flE Fl.small Try.underlying22 (by kernel_rfl) read_file t1 hs1
  rw [show Try.prog.bytesOf 32 = 48 from by kernel_rfl] at hb
  have := reachBytes_lt
  exact ⟨a, n, c, ⟨m0, l, m2, b⟩, rfl, ⟨h1, h2, h3, h4, by omega, h5, bounds_i64 w0, bounds_i64 w2⟩⟩
end Go.Proofs.Ytjppommhamaibaa
