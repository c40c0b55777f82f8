/-
  A region that draws its order, met operation by operation, each ONCE, whatever order is drawn: each operation is shown to go well behind those that it waits for, and to leave what the others have told. Without a condition.
  A region that draws its order, whose last operation waits for all others: the others met one by one, each once; the last one behind them, alone. Without a condition.
  A region that draws its order, whose last operations stand in one forced order (each waits for all ahead of it): the others met one by one, each once; the last ones behind them, as a list. Without a condition.
-/
import Derived.RegionTactic
import Derived.BigRegion
import Derived.Below
import Derived.Tactics
namespace Go.Proofs.Ytjppommhamaibaa
open Go.RowKit
set_option linter.unusedVariables false

/-- What the operations have yielded so far. -/
abbrev Vals := Nat → Option Value
def Vals.set (e : Vals) (i : Nat) (v : Value) : Vals := fun j => if j = i then some v else e j
theorem Vals.set_same (e : Vals) (i : Nat) (v : Value) : (e.set i v) i = some v := by simp [Vals.set]
theorem Vals.set_other (e : Vals) {i j : Nat} (v : Value) (h : j ≠ i) : (e.set i v) j = e j := by simp [Vals.set, h]

def dstOf (ops : Array Oper) (j : Nat) : Option Nat := (ops[j]?).bind (·.dst)
/-- Which operation yields into slot t. -/
def whose (ops : Array Oper) (t : Nat) : Option Nat := (List.range ops.size).find? fun j => dstOf ops j == some t
/-- No two operations yield into one slot. -/
def loneB (ops : Array Oper) : Bool := (List.range ops.size).all fun i => (List.range ops.size).all fun j => i == j || match dstOf ops i with | some d => dstOf ops j != some d | none => true
/-- Which operations operation i waits for. -/
def waits (ops : Array Oper) (i : Nat) : List Nat := match ops[i]? with | some o => (o.after.toList.filter fun e => Region.binds .any e).map (·.on) | none => []
/-- Each waits for earlier ones alone. -/
def backB (ops : Array Oper) : Bool := (List.range ops.size).all fun i => (waits ops i).all fun j => decide (j < i)
def filled (ops : Array Oper) (e : Vals) (a : Act) : Act := { a with tmps := a.tmps.mapIdx fun t x => ((whose ops t).bind e).getD x }
/-- The same, one behind the other. -/
def putFrom (ops : Array Oper) : Nat → List Value → Act → Act
  | _, [], a => a
  | k, v :: r, a => putFrom ops (k + 1) r (a.put (dstOf ops k) v)

section
variable {P : Program} {ops : Array Oper} {Q : Exit → Act → World → Prop} {e : Vals} {a A : Act}

theorem whose_some {t j : Nat} (h : whose ops t = some j) : dstOf ops j = some t := by
  have := List.find?_some h
  simpa using this
theorem dstOf_lt {j d : Nat} (h : dstOf ops j = some d) : j < ops.size := by
  rcases Nat.lt_or_ge j ops.size with h1 | h1
  · exact h1
  · unfold dstOf at h; rw [Array.getElem?_eq_none h1] at h; cases h
theorem lone_eq (hl : loneB ops = true) {i j d : Nat} (hi : dstOf ops i = some d) (hj : dstOf ops j = some d) : i = j := by
  have h1 := List.all_eq_true.1 hl i (List.mem_range.2 (dstOf_lt hi))
  have h2 := List.all_eq_true.1 h1 j (List.mem_range.2 (dstOf_lt hj))
  rw [hi] at h2
  simp [hj] at h2
  exact h2
theorem whose_of (hl : loneB ops = true) {i d : Nat} (hi : dstOf ops i = some d) : whose ops d = some i := by
  cases hw : whose ops d with
  | none =>
    have := List.find?_eq_none.1 hw i (List.mem_range.2 (dstOf_lt hi))
    simp [hi] at this
  | some j => rw [lone_eq hl (whose_some hw) hi]

theorem Act.ext' {a b : Act} (h1 : a.tmps = b.tmps) (h2 : a.defers = b.defers) : a = b := by cases a; cases b; simp_all
theorem filled_none (ops : Array Oper) (a : Act) : filled ops (fun _ => none) a = a := by
  refine Act.ext' ?_ rfl
  refine Array.ext_getElem? fun t => ?_
  simp only [filled, Array.getElem?_mapIdx]
  cases a.tmps[t]? <;> cases whose ops t <;> simp
theorem filled_put (hl : loneB ops = true) (i : Nat) (v : Value) : (filled ops e a).put (dstOf ops i) v = filled ops (e.set i v) a := by
  cases hd : dstOf ops i with
  | none =>
    refine Act.ext' ?_ rfl
    refine Array.ext_getElem? fun t => ?_
    simp only [Act.put, filled, Array.getElem?_mapIdx]
    cases hw : whose ops t with
    | none => simp
    | some j =>
      have : j ≠ i := fun he => by subst he; rw [whose_some hw] at hd; cases hd
      simp [Vals.set_other e v this]
  | some d =>
    refine Act.ext' ?_ rfl
    refine Array.ext_getElem? fun t => ?_
    simp only [Act.put, filled, Array.getElem?_mapIdx]
    by_cases ht : d = t
    · subst ht
      rw [Array.getElem?_setIfInBounds_self, whose_of hl hd]
      simp [Vals.set_same]
      by_cases hs : d < a.tmps.size
      · simp [hs]
      · simp [hs]
    · rw [Array.getElem?_setIfInBounds_ne ht, Array.getElem?_mapIdx]
      cases hw : whose ops t with
      | none => simp
      | some j =>
        have : j ≠ i := fun he => by subst he; rw [whose_some hw] at hd; cases hd; exact ht rfl
        simp [Vals.set_other e v this]
theorem filled_tmp {t j : Nat} {v : Value} (hA : A = filled ops e a) (h : whose ops t = some j) (he : e j = some v) (hs : t < a.tmps.size) : A.eval (.tmp t) = v := by
  subst hA
  simp [Act.eval, filled, Array.getD_eq_getD_getElem?, h, he, hs]
theorem filled_base {t : Nat} {v : Value} (hA : A = filled ops e a) (h : whose ops t = none) (hv : a.eval (.tmp t) = v) : A.eval (.tmp t) = v := by
  subst hA
  rw [← hv]
  simp only [Act.eval, filled, Array.getD_eq_getD_getElem?, Array.getElem?_mapIdx, h]
  cases a.tmps[t]? <;> simp
theorem yielded_at {g d : Nat} {b : Bool} (hl : loneB ops = true) (hA : A = filled ops e a) (hd : dstOf ops g = some d) (he : e g = some (.bool b)) (hs : d < a.tmps.size) : yielded ops A.tmps g = some b := by
  have h1 := filled_tmp hA (whose_of hl hd) he hs
  have hs' : d < A.tmps.size := by rw [hA]; simpa [filled] using hs
  unfold yielded
  show (match (dstOf ops g).bind (fun t => A.tmps[t]?) with | some (.bool b) => some b | _ => none) = some b
  rw [hd]
  have h2 : A.tmps[d]? = some (.bool b) := by
    simp only [Act.eval, Array.getD_eq_getD_getElem?] at h1
    rw [Array.getElem?_eq_getElem hs'] at h1 ⊢
    simpa using h1
  simp [h2]
theorem yielded_undef {g d : Nat} (hl : loneB ops = true) (hA : A = filled ops e a) (hd : dstOf ops g = some d) (he : e g = some undef) (hs : d < a.tmps.size) : yielded ops A.tmps g = none := by
  have h1 := filled_tmp hA (whose_of hl hd) he hs
  have hs' : d < A.tmps.size := by rw [hA]; simpa [filled] using hs
  unfold yielded
  show (match (dstOf ops g).bind (fun t => A.tmps[t]?) with | some (.bool b) => some b | _ => none) = none
  rw [hd]
  have h2 : A.tmps[d]? = some undef := by
    simp only [Act.eval, Array.getD_eq_getD_getElem?] at h1
    rw [Array.getElem?_eq_getElem hs'] at h1 ⊢
    simpa using h1
  simp [h2, undef]
theorem wanted_yes {o : Oper} {g : Nat} {b : Bool} {tmps : Array Value} (hg : o.guard = some (g, b)) (hy : yielded ops tmps g = some b) : Region.wanted o (yielded ops tmps) = true := by
  simp [Region.wanted, hg, hy]
theorem wanted_not {o : Oper} {g : Nat} {b : Bool} {tmps : Array Value} (hg : o.guard = some (g, b)) (hy : yielded ops tmps g ≠ some b) : Region.wanted o (yielded ops tmps) = false := by
  simp [Region.wanted, hg, hy]

/-- All that the operations have yielded, put one behind the other. -/
theorem filled_putFrom (hl : loneB ops = true) : ∀ (l : List Value) (k : Nat) (e0 : Vals) (a : Act), putFrom ops k l (filled ops e0 a) = filled ops (fun j => if k ≤ j ∧ j < k + l.length then l[j - k]? else e0 j) a
  | [], k, e0, a => by
    simp only [putFrom]
    congr 1
    funext j
    have : ¬ (k ≤ j ∧ j < k + ([] : List Value).length) := by simp
    rw [if_neg this]
  | v :: r, k, e0, a => by
    rw [putFrom, filled_put hl, filled_putFrom hl r (k + 1) (e0.set k v) a]
    congr 1
    funext j
    by_cases hj : j = k
    · subst hj
      rw [if_neg (by omega), Vals.set_same, if_pos ⟨Nat.le_refl _, by simp⟩]
      simp
    · by_cases hr : k + 1 ≤ j ∧ j < k + 1 + r.length
      · rw [if_pos hr, if_pos ⟨by omega, by simp; omega⟩]
        have : j - k = (j - (k + 1)) + 1 := by omega
        rw [this]; simp
      · rw [if_neg hr, Vals.set_other _ _ hj, if_neg (by simp; omega)]
theorem filled_is (hl : loneB ops = true) (l : List Value) (hn : l.length = ops.size) (h : ∀ j (hj : j < l.length), e j = some l[j]) (a : Act) : filled ops e a = putFrom ops 0 l a := by
  have h1 := filled_putFrom hl l 0 (fun _ => none) a
  rw [filled_none] at h1
  rw [h1]
  refine Act.ext' ?_ rfl
  refine Array.ext_getElem? fun t => ?_
  simp only [filled, Array.getElem?_mapIdx]
  cases hw : whose ops t with
  | none => simp
  | some j =>
    have hj : j < l.length := by rw [hn]; exact dstOf_lt (whose_some hw)
    simp only [Option.bind_some]
    rw [h j hj, if_pos ⟨Nat.zero_le _, by omega⟩, Nat.sub_zero, List.getElem?_eq_getElem hj]

/-- How many are still to come. -/
def missing (n : Nat) (listed : Array Bool) : List Nat := (List.range n).filter fun i => !listed.getD i true
theorem missing_set {n i : Nat} {listed : Array Bool} (hi : i < listed.size) (hn : i < n) (h : listed.getD i true = false) : (missing n (listed.setIfInBounds i true)).length < (missing n listed).length := by
  have h1 : missing n (listed.setIfInBounds i true) = (missing n listed).filter fun j => decide (j ≠ i) := by
    unfold missing
    rw [List.filter_filter]
    refine List.filter_congr fun j _ => ?_
    by_cases hj : j = i
    · subst hj
      simp [hi]
    · rw [getD_set_ne true (Ne.symm hj)]; simp [hj]
  rw [h1]
  exact List.length_filter_lt_length_iff_exists.2 ⟨i, List.mem_filter.2 ⟨List.mem_range.2 hn, by simp [h]⟩, by simp⟩

theorem waits_mem {i : Nat} {o : Oper} (ho : ops[i]? = some o) {x : Edge} (hx : x ∈ o.after) (hb : Region.binds .any x = true) : x.on ∈ waits ops i := by
  unfold waits
  rw [ho]
  exact List.mem_map.2 ⟨x, List.mem_filter.2 ⟨by simpa using hx, hb⟩, rfl⟩
theorem ready_exists (hb : backB ops = true) {listed : Array Bool} (hsz : listed.size = ops.size) : ∀ i, i < ops.size → listed.getD i true = false → Region.ready .any ops listed ≠ [] := by
  intro i
  induction i using Nat.strongRecOn with
  | _ i ih =>
    intro hi hu
    have ho : ops[i]? = some ops[i] := Array.getElem?_eq_getElem hi
    by_cases hall : ∀ e ∈ ops[i].after, Region.binds .any e = true → listed.getD e.on false = true
    · intro h0
      have : i ∈ Region.ready .any ops listed := mem_ready.2 ⟨hu, _, ho, hall⟩
      rw [h0] at this; cases this
    · have ⟨x, hx⟩ := Classical.not_forall.1 hall
      have ⟨hx1, hx2⟩ := Classical.not_imp.1 hx
      have ⟨hx3, hx4⟩ := Classical.not_imp.1 hx2
      have h1 := List.all_eq_true.1 hb i (List.mem_range.2 hi)
      have h2 := List.all_eq_true.1 h1 x.on (waits_mem ho hx1 hx3)
      have hlt : x.on < i := by simpa using h2
      refine ih x.on hlt (by omega) ?_
      have hls : x.on < listed.size := by omega
      cases hc : listed.getD x.on true with
      | false => rfl
      | true =>
        exfalso
        apply hx4
        simp [hls] at hc ⊢
        exact hc

theorem wpAny_vals (hl : loneB ops = true) (hb : backB ops = true) (I : Vals → World → Prop) (a : Act)
    (hstep : ∀ i o, ops[i]? = some o → ∀ e w, I e w → e i = none → (∀ j ∈ waits ops i, (e j).isSome = true) → wpOp P ops Q i (fun a' w' => ∃ v, a' = filled ops (e.set i v) a ∧ I (e.set i v) w') (filled ops e a) w)
    (hend : ∀ e w, I e w → (∀ i, i < ops.size → (e i).isSome = true) → Q .normal (filled ops e a) w) :
    ∀ (fuel : Nat) (listed : Array Bool) (e : Vals) (w : World), listed.size = ops.size → (∀ i, i < ops.size → listed.getD i true = (e i).isSome) → (missing ops.size listed).length ≤ fuel → I e w → wpAny P .any ops Q fuel listed (filled ops e a) w := by
  intro fuel
  have hdone : ∀ (listed : Array Bool) (e : Vals) (w : World), listed.size = ops.size → (∀ i, i < ops.size → listed.getD i true = (e i).isSome) → Region.ready .any ops listed = [] → I e w → Q .normal (filled ops e a) w := by
    intro listed e w hsz hle hr hI
    refine hend e w hI fun i hi => ?_
    rw [← hle i hi]
    cases hc : listed.getD i true with
    | true => rfl
    | false => exact absurd hr (ready_exists hb hsz i hi hc)
  induction fuel with
  | zero =>
    intro listed e w hsz hle hm hI
    have hr : Region.ready .any ops listed = [] := by
      have h0 : missing ops.size listed = [] := List.eq_nil_of_length_eq_zero (by omega)
      cases hc : Region.ready .any ops listed with
      | nil => rfl
      | cons i r =>
        have hmem : i ∈ Region.ready .any ops listed := by rw [hc]; simp
        obtain ⟨hu, o, ho, _⟩ := mem_ready.1 hmem
        have hi : i < ops.size := (Array.getElem?_eq_some_iff.1 ho).1
        have : i ∈ missing ops.size listed := List.mem_filter.2 ⟨List.mem_range.2 hi, by simp [hu]⟩
        rw [h0] at this; cases this
    exact ⟨hr, hdone listed e w hsz hle hr hI⟩
  | succ fuel ih =>
    intro listed e w hsz hle hm hI
    refine ⟨fun hr => hdone listed e w hsz hle hr hI, fun i hi => ?_⟩
    obtain ⟨hu, o, ho, hall⟩ := mem_ready.1 hi
    have hin : i < ops.size := (Array.getElem?_eq_some_iff.1 ho).1
    have hei : e i = none := by
      have := hle i hin
      rw [hu] at this
      cases hc : e i with
      | none => rfl
      | some v => rw [hc] at this; cases this
    have hw : ∀ j ∈ waits ops i, (e j).isSome = true := by
      intro j hj
      unfold waits at hj
      rw [ho] at hj
      obtain ⟨x, hx, rfl⟩ := List.mem_map.1 hj
      obtain ⟨hx1, hx2⟩ := List.mem_filter.1 hx
      have h1 := hall x (by simpa using hx1) hx2
      have hlt : x.on < ops.size := by
        have h2 := List.all_eq_true.1 hb i (List.mem_range.2 hin)
        have h3 := List.all_eq_true.1 h2 x.on (waits_mem ho (by simpa using hx1) hx2)
        have : x.on < i := by simpa using h3
        omega
      rw [← hle x.on hlt]
      have hls : x.on < listed.size := by omega
      simp [hls] at h1 ⊢
      exact h1
    refine wpOp_mono (fun a' w' h => ?_) (hstep i o ho e w hI hei hw)
    obtain ⟨v, rfl, hI'⟩ := h
    refine ih _ _ w' (by simpa using hsz) (fun j hj => ?_) ?_ hI'
    · by_cases hji : j = i
      · subst hji
        have hls : j < listed.size := by omega
        simp [Vals.set_same, hls]
      · rw [getD_set_ne true (Ne.symm hji), Vals.set_other e v hji]
        exact hle j hj
    · have := missing_set (n := ops.size) (i := i) (listed := listed) (by omega) hin hu
      omega

theorem missing_le (n : Nat) (listed : Array Bool) : (missing n listed).length ≤ n := by
  have := List.length_filter_le (fun i => !listed.getD i true) (List.range n)
  rw [List.length_range] at this
  exact this

/-- The operations of a body's region. -/
def regOps (id : Nat) : Code → Option (Array Oper)
  | .region i ops _ => if i = id then some ops else none
  | .seq a b => match regOps id a with
    | some x => some x
    | none => regOps id b
  | .cond _ a b => match regOps id a with
    | some x => some x
    | none => regOps id b
  | .block _ a => regOps id a
  | .loop a => regOps id a
  | .rangeFunc _ _ a b => match regOps id a with
    | some x => some x
    | none => regOps id b
  | .scope a => regOps id a
  | _ => none
noncomputable def regOf (f : Func) (id : Nat) : Array Oper := (f.body.bind (regOps id)).getD #[]

def noQ : Exit → Act → World → Prop := fun _ _ _ => False
theorem wp_noQ {o : Oper} {a : Act} {w : World} {K : Act → World → Prop} (h : o.wp P a w K noQ) : o.wp P a w K Q := by
  unfold Oper.wp at *
  generalize (execOp a.eval o).run P w = r at *
  cases r with
  | ok n w' =>
    cases n <;> simp only [Oper.upon] at h ⊢ <;>
      first
        | exact h
        | exact Calls.mono h (fun e w'' he => by cases e with
            | returned v => exact he
            | panicked c => exact he.elim
            | outgrown => obtain ⟨_, _, hh⟩ := he; exact hh.elim)
  | halt x w' => cases x <;> simp only [Oper.upon] at h ⊢ <;> exact h.elim

/-- What follows an operation: told T i, the others' words kept. -/
def Next (ops : Array Oper) (C : World → Prop) (T : Nat → Value → World → Prop) (drops : Nat → List Nat) (i : Nat) (e : Vals) (A : Act) (w : World) (dst : Option Tmp) (K : Act → World → Prop) : Prop :=
  ∀ v w', T i v w' → C w' → (∀ j u, e j = some u → j ≠ i → (waits ops j).contains i = false → (∀ k, k < ops.size → (drops k).contains j = true → k ≠ i ∧ e k = none) → T j u w → T j u w') → K (A.put dst v) w'
/-- Nobody but i drops what j told. -/
def held (ops : Array Oper) (drops : Nat → List Nat) (i j : Nat) : Bool := (List.range ops.size).all fun k => !(drops k).contains j || k == i
/-- What operation i must show: behind those that it waits for (what each has told holds, if nobody has dropped it), it goes well, tells T i, and what the others have told holds on, but for what it drops. -/
def StepOk (P : Program) (ops : Array Oper) (a : Act) (C : World → Prop) (T : Nat → Value → World → Prop) (drops : Nat → List Nat) (i : Nat) (o : Oper) : Prop :=
  ∀ (e : Vals) (A : Act) (w : World), A = filled ops e a → C w → (∀ j, (waits ops i).contains j = true → ∃ v, e j = some v ∧ (held ops drops i j = true → T j v w)) →
    ∀ K : Act → World → Prop, Next ops C T drops i e A w o.dst K →
      if Region.wanted o (yielded ops A.tmps) = true then Oper.wp P o A w K noQ else K (A.put o.dst undef) w

def dropped (ops : Array Oper) (drops : Nat → List Nat) (j : Nat) : Bool := (List.range ops.size).any fun i => (drops i).contains j
def puts : List (Option Nat) → List Value → Act → Act
  | d :: ds, v :: vs, a => puts ds vs (a.put d v)
  | _, _, a => a
theorem putFrom_puts : ∀ (vs : List Value) (k : Nat) (ds : List (Option Nat)), (∀ j, j < vs.length → ds[j]? = some (dstOf ops (k + j))) → ∀ (a : Act), putFrom ops k vs a = puts ds vs a
  | [], k, ds, _, a => by cases ds <;> rfl
  | v :: vs, k, [], h, a => by have := h 0 (by simp); cases this
  | v :: vs, k, d :: ds, h, a => by
    have h0 := h 0 (by simp)
    simp at h0
    rw [putFrom, puts, h0]
    refine putFrom_puts vs (k + 1) ds (fun j hj => ?_) _
    have := h (j + 1) (by simp; omega)
    rw [show k + 1 + j = k + (j + 1) from by omega]
    simpa using this

theorem wp_region_set {id : Nat} {opsG : Array Oper} {w : World} (ops : Array Oper) (ds : List (Option Nat)) (T : Nat → Value → World → Prop) (C : World → Prop) (drops : Nat → List Nat)
    (hops : opsG = ops) (hds : ops.toList.map (·.dst) = ds) (hm : P.follows .mixedOrders = true) (hl : loneB ops = true) (hb : backB ops = true)
    (h0 : C w.drew) (hstep : ∀ i o, ops[i]? = some o → StepOk P ops a C T drops i o)
    (hend : ∀ (vs : List Value) w', vs.length = ops.size → C w' → (∀ j v, vs[j]? = some v → dropped ops drops j = false → T j v w') → Q .normal (puts ds vs a) w') :
    (Code.region id opsG true).wp P Q a w := by
  subst hops
  refine wp_region_any hm ?_
  have key := wpAny_vals (P := P) (ops := opsG) (Q := Q) hl hb (fun e w => C w ∧ (∀ j v, e j = some v → ∀ k, (waits opsG j).contains k = true → (e k).isSome = true) ∧ ∀ j v, e j = some v → (∃ i, i < opsG.size ∧ (e i).isSome = true ∧ (drops i).contains j = true) ∨ T j v w) a ?_ ?_
  · have h := key opsG.size (Array.replicate opsG.size false) (fun _ => none) w.drew (by simp) (fun i hi => by simp [hi]) (missing_le _ _) ⟨h0, (fun j v h => by cases h), fun j v h => by cases h⟩
    rw [filled_none] at h
    exact h
  · intro i o ho e w1 ⟨hC, hcl, hT⟩ hei hw
    have hin : i < opsG.size := (Array.getElem?_eq_some_iff.1 ho).1
    refine wpOp_step ho fun K hK => ?_
    have hdi : dstOf opsG i = o.dst := by unfold dstOf; rw [ho]; rfl
    have hgo := hstep i o ho e _ w1 rfl hC (fun j hj => ?_) K (fun v w' hv hC' hk => ?_)
    · split
      · rename_i hwt; rw [if_pos hwt] at hgo; exact wp_noQ hgo
      · rename_i hwt; rw [if_neg hwt] at hgo; exact hgo
    · have h1 := hw j (by simpa using hj)
      cases hc : e j with
      | none => rw [hc] at h1; cases h1
      | some v =>
        refine ⟨v, rfl, fun hh => ?_⟩
        rcases hT j v hc with ⟨k, hk, hke, hkd⟩ | h
        · exfalso
          have h2 := List.all_eq_true.1 hh k (List.mem_range.2 hk)
          have hne : k ≠ i := fun he => by subst he; rw [hei] at hke; cases hke
          rw [hkd] at h2
          simp [hne] at h2
        · exact h
    · refine hK _ _ ⟨v, by rw [← hdi, filled_put hl], hC', fun j u hj k hk2 => ?_, fun j u hj => ?_⟩
      · by_cases hki : k = i
        · subst hki; rw [Vals.set_same]; rfl
        · rw [Vals.set_other e v hki]
          by_cases hji : j = i
          · subst hji; exact hw k (by simpa using hk2)
          · rw [Vals.set_other e v hji] at hj; exact hcl j u hj k hk2
      · by_cases hji : j = i
        · subst hji
          rw [Vals.set_same] at hj
          cases hj
          exact .inr hv
        · rw [Vals.set_other e v hji] at hj
          rcases hT j u hj with ⟨k, hk, hke, hkd⟩ | h
          · refine .inl ⟨k, hk, ?_, hkd⟩
            by_cases hki : k = i
            · subst hki; rw [Vals.set_same]; rfl
            · rw [Vals.set_other e v hki]; exact hke
          · by_cases hdr : ∃ k, k < opsG.size ∧ ((e.set i v) k).isSome = true ∧ (drops k).contains j = true
            · exact .inl hdr
            · refine .inr (hk j u hj hji ?_ (fun k hks hkd => ?_) h)
              rotate_left
              · have hki : k ≠ i := fun he => hdr ⟨k, hks, by subst he; rw [Vals.set_same]; rfl, hkd⟩
                refine ⟨hki, ?_⟩
                cases hc : e k with
                | none => rfl
                | some x => exact absurd ⟨k, hks, by rw [Vals.set_other e v hki, hc]; rfl, hkd⟩ hdr
              cases hcw : (waits opsG j).contains i with
              | false => rfl
              | true =>
                have := hcl j u hj i hcw
                rw [hei] at this; cases this
  · intro e w1 ⟨hC, _, hT⟩ hall
    have hval : ∀ j, j < opsG.size → e j = some ((e j).getD undef) := fun j hj => by
      have h1 := hall j hj
      cases hc : e j with
      | none => rw [hc] at h1; cases h1
      | some v => rfl
    have h1 := hend ((List.range opsG.size).map fun j => (e j).getD undef) w1 (by simp) hC (fun j v hj hno => ?_)
    · rw [← putFrom_puts (ops := opsG) _ 0 ds (fun j hj => ?_), ← filled_is hl _ (by simp) (fun j hj => ?_) a] at h1
      · exact h1
      · simp at hj ⊢; exact hval j hj
      · simp at hj
        rw [← hds, Nat.zero_add]
        unfold dstOf
        simp [hj]
    · obtain ⟨hj1, hj2⟩ := List.getElem?_eq_some_iff.1 hj
      simp at hj1 hj2
      have := hval j hj1
      rw [hj2] at this
      rcases hT j v this with ⟨k, hk, _, hkd⟩ | h
      · have : dropped opsG drops j = true := List.any_eq_true.2 ⟨k, List.mem_range.2 hk, hkd⟩
        rw [this] at hno; cases hno
      · exact h

/-- One by one. -/
def AllFrom (p : Nat → Oper → Prop) : Nat → List Oper → Prop
  | _, [] => True
  | k, o :: r => p k o ∧ AllFrom p (k + 1) r
theorem AllFrom.get {p : Nat → Oper → Prop} : ∀ (l : List Oper) (k : Nat), AllFrom p k l → ∀ i o, l[i]? = some o → p (k + i) o
  | [], _, _, i, o, h => by simp at h
  | x :: r, k, h, 0, o, ho => by simp at ho; subst ho; exact h.1
  | x :: r, k, h, i + 1, o, ho => by
    have := AllFrom.get r (k + 1) h.2 i o (by simpa using ho)
    rw [show k + (i + 1) = k + 1 + i from by omega]; exact this
theorem allFrom_get {p : Nat → Oper → Prop} {ops : Array Oper} (l : List Oper) (hl : ops = l.toArray) (h : AllFrom p 0 l) (i : Nat) (o : Oper) (ho : ops[i]? = some o) : p i o := by
  have := AllFrom.get l 0 h i o (by rw [hl] at ho; simpa using ho)
  rwa [Nat.zero_add] at this
theorem of_index {p : Nat → Oper → Prop} {ops : Array Oper} (n : Nat) (hn : ops.size = n) (h : ∀ i, i < n → ∀ o, ops[i]? = some o → p i o) (i : Nat) (o : Oper) (ho : ops[i]? = some o) : p i o :=
  h i (by rw [← hn]; exact (Array.getElem?_eq_some_iff.1 ho).1) o ho

section
variable {C : World → Prop} {T : Nat → Value → World → Prop} {drops : Nat → List Nat} {i : Nat} {w w' : World} {o : Oper} {K : Act → World → Prop}
/-- What operation j told of what it yielded into slot t. -/
theorem op_tmp (hA : A = filled ops e a) (hp : ∀ j, (waits ops i).contains j = true → ∃ v, e j = some v ∧ (held ops drops i j = true → T j v w)) (t j : Nat) (hw : whose ops t = some j) (hwt : (waits ops i).contains j = true) (hh : held ops drops i j = true) (hs : Nat.blt t a.tmps.size = true) : T j (A.eval (.tmp t)) w := by
  obtain ⟨v, he, ht⟩ := hp j hwt
  rw [filled_tmp hA hw he (by simpa [Nat.blt_eq] using hs)]
  exact ht hh
theorem wanted_tmp {g d : Nat} {b : Bool} (hg : o.guard = some (g, b)) (hd : dstOf ops g = some d) {c : Bool} (hv : A.eval (.tmp d) = .bool c) (hc : c = b) : Region.wanted o (yielded ops A.tmps) = true := by
  subst hc
  refine wanted_yes hg ?_
  unfold yielded
  show (match (dstOf ops g).bind (fun t => A.tmps[t]?) with | some (.bool b) => some b | _ => none) = some c
  rw [hd]
  simp only [Act.eval, Array.getD_eq_getD_getElem?] at hv
  cases hx : A.tmps[d]? with
  | none => rw [hx] at hv; cases hv
  | some x => rw [hx] at hv; simp at hv; simp [hv, hx]
theorem unwanted_tmp {g d : Nat} {b : Bool} (hg : o.guard = some (g, b)) (hd : dstOf ops g = some d) {c : Bool} (hv : A.eval (.tmp d) = .bool c) (hc : c ≠ b) : Region.wanted o (yielded ops A.tmps) = false := by
  refine wanted_not hg ?_
  unfold yielded
  show (match (dstOf ops g).bind (fun t => A.tmps[t]?) with | some (.bool b) => some b | _ => none) ≠ some b
  rw [hd]
  simp only [Act.eval, Array.getD_eq_getD_getElem?] at hv
  cases hx : A.tmps[d]? with
  | none => rw [hx] at hv; cases hv
  | some x => rw [hx] at hv; simp at hv; simp [hv, hx, hc]
theorem unwanted_undef {g d : Nat} {b : Bool} (hg : o.guard = some (g, b)) (hd : dstOf ops g = some d) (hv : A.eval (.tmp d) = undef) : Region.wanted o (yielded ops A.tmps) = false := by
  refine wanted_not hg ?_
  unfold yielded
  show (match (dstOf ops g).bind (fun t => A.tmps[t]?) with | some (.bool b) => some b | _ => none) ≠ some b
  rw [hd]
  simp only [Act.eval, Array.getD_eq_getD_getElem?] at hv
  cases hx : A.tmps[d]? with
  | none => simp [hx]
  | some x => rw [hx] at hv; simp at hv; simp [hv, hx, undef]
theorem wanted_free {o : Oper} {y : Nat → Option Bool} (hg : o.guard = none) : Region.wanted o y = true := by simp [Region.wanted, hg]

/-- An operation that yields v and leaves the world alone. -/
theorem step_pure {v : Value} (hk : Next ops C T drops i e A w o.dst K) (hC : C w) (hw : Region.wanted o (yielded ops A.tmps) = true) (hr : (execOp A.eval o).run P w = .ok (.value v) w) (ht : T i v w) :
    if Region.wanted o (yielded ops A.tmps) = true then Oper.wp P o A w K noQ else K (A.put o.dst undef) w := by
  rw [if_pos hw]
  unfold Oper.wp
  rw [hr]
  exact hk v w ht hC (fun _ _ _ _ _ _ h => h)
/-- One that is passed over. -/
theorem step_past (hk : Next ops C T drops i e A w o.dst K) (hC : C w) (hw : Region.wanted o (yielded ops A.tmps) = false) (ht : T i undef w) :
    if Region.wanted o (yielded ops A.tmps) = true then Oper.wp P o A w K noQ else K (A.put o.dst undef) w := by
  rw [if_neg (by rw [hw]; exact Bool.false_ne_true)]
  exact hk undef w ht hC (fun _ _ _ _ _ _ h => h)
/-- One that makes of w the world w'. -/
theorem step_value {v : Value} (hk : Next ops C T drops i e A w o.dst K) (hw : Region.wanted o (yielded ops A.tmps) = true) (hr : (execOp A.eval o).run P w = .ok (.value v) w') (ht : T i v w') (hC : C w')
    (hkeep : ∀ j u, e j = some u → j ≠ i → (waits ops j).contains i = false → (∀ k, k < ops.size → (drops k).contains j = true → k ≠ i ∧ e k = none) → T j u w → T j u w') :
    if Region.wanted o (yielded ops A.tmps) = true then Oper.wp P o A w K noQ else K (A.put o.dst undef) w := by
  rw [if_pos hw]
  unfold Oper.wp
  rw [hr]
  exact hk v w' ht hC hkeep
/-- A call. -/
theorem step_call {f : FuncId} {args : Array Value} (hk : Next ops C T drops i e A w o.dst K) (hw : Region.wanted o (yielded ops A.tmps) = true) (hr : (execOp A.eval o).run P w = .ok (.enter f args) w)
    (h : Calls P f args w fun en w' => ∃ v, en = .returned v ∧ T i v w' ∧ C w' ∧ (∀ j u, e j = some u → j ≠ i → (waits ops j).contains i = false → (∀ k, k < ops.size → (drops k).contains j = true → k ≠ i ∧ e k = none) → T j u w → T j u w')) :
    if Region.wanted o (yielded ops A.tmps) = true then Oper.wp P o A w K noQ else K (A.put o.dst undef) w := by
  rw [if_pos hw]
  unfold Oper.wp
  rw [hr]
  refine Calls.mono h ?_
  rintro en w'' ⟨v, rfl, h1, h2, h3⟩
  exact hk v w'' h1 h2 h3

theorem run_move {ρ : Operand → Value} {x : Operand} {v : Value} (h : o.op = .move x) (hx : ρ x = v) (w : World) : (execOp ρ o).run P w = .ok (.value v) w := by
  subst hx; unfold execOp; rw [h]; rfl
theorem run_assign {ρ : Operand → Value} {x : Operand} {v : Value} (h : o.op = .assign x) (hx : ρ x = v) (w : World) : (execOp ρ o).run P w = .ok (.value v) w := by
  subst hx; unfold execOp; rw [h]; rfl
theorem run_pick {ρ : Operand → Value} {c x y : Operand} {b : Bool} {v : Value} (h : o.op = .pick c x y) (hc : ρ c = .bool b) (hv : (if b = true then ρ x else ρ y) = v) (w : World) : (execOp ρ o).run P w = .ok (.value v) w := by
  subst hv; unfold execOp; rw [h]; simp only [hc]; cases b <;> rfl
theorem run_extract {ρ : Operand → Value} {x : Operand} {n : Nat} {vs : Array Value} {v : Value} (h : o.op = .extract x n) (hx : ρ x = .tuple vs) (hv : vs[n]? = some v) (w : World) : (execOp ρ o).run P w = .ok (.value v) w := by
  unfold execOp; rw [h]; simp only [hx, Instr.extract]; simp [hv]
end
end
theorem opIs {ops : Array Oper} {i : Nat} {o : Oper} {p : Op} (ho : ops[i]? = some o) (h : (ops[i]?).map (·.op) = some p) : o.op = p := by
  rw [ho] at h; simpa using h
theorem guardIs {ops : Array Oper} {i : Nat} {o : Oper} {p : Option (Nat × Bool)} (ho : ops[i]? = some o) (h : (ops[i]?).map (·.guard) = some p) : o.guard = p := by
  rw [ho] at h; simpa using h
theorem len_cons {α : Type} {l : List α} {n : Nat} (h : l.length = n + 1) : ∃ x r, l = x :: r ∧ r.length = n := by
  cases l with
  | nil => cases h
  | cons x r => exact ⟨x, r, rfl, by simpa using h⟩
end Go.Proofs.Ytjppommhamaibaa

namespace Go.Proofs.Ytjppommhamaibaa
open Go.RowKit
set_option linter.unusedVariables false

/-- Whatever those of S wait for, and S. -/
def upS (ops : Array Oper) : Nat → List Nat → List Nat
  | 0, S => S
  | k + 1, S => upS ops k (if S.contains k then S ++ waits ops k else S)
/-- Does operation n wait for all others? -/
def lastB (ops : Array Oper) (n : Nat) : Bool := (List.range n).all fun j => (upS ops (n + 1) [n]).contains j
theorem upS_some {ops : Array Oper} {e : Vals} (hc : ∀ j, (e j).isSome = true → ∀ k, (waits ops j).contains k = true → (e k).isSome = true) : ∀ (k : Nat) (S : List Nat), (∀ j ∈ S, (e j).isSome = true) → ∀ j ∈ upS ops k S, (e j).isSome = true
  | 0, S, h => h
  | k + 1, S, h => by
    rw [upS]
    refine upS_some hc k _ ?_
    split
    · rename_i hk
      intro j hj
      rcases List.mem_append.1 hj with hj | hj
      · exact h j hj
      · exact hc k (h k (by simpa using hk)) j (by simpa using hj)
    · exact h
theorem lastB_some {ops : Array Oper} {e : Vals} {n : Nat} (hl : lastB ops n = true) (hc : ∀ j, (e j).isSome = true → ∀ k, (waits ops j).contains k = true → (e k).isSome = true) (hn : (e n).isSome = true) (j : Nat) (hj : j < n) : (e j).isSome = true := by
  have h := List.all_eq_true.1 hl j (List.mem_range.2 hj)
  exact upS_some hc (n + 1) [n] (fun i hi => by simp at hi; subst hi; exact hn) j (by simpa using h)

theorem filled_is' {ops : Array Oper} {e : Vals} (hl : loneB ops = true) (l : List Value) (n : Nat) (hn : l.length = n) (hs : ops.size = n + 1) (h : ∀ j (hj : j < l.length), e j = some l[j]) (h0 : e n = none) (a : Act) : filled ops e a = putFrom ops 0 l a := by
  have h1 := filled_putFrom hl l 0 (fun _ => none) a
  rw [filled_none] at h1
  rw [h1]
  refine Act.ext' ?_ rfl
  refine Array.ext_getElem? fun t => ?_
  simp only [filled, Array.getElem?_mapIdx]
  cases hw : whose ops t with
  | none => simp
  | some j =>
    have hj : j < n + 1 := by rw [← hs]; exact dstOf_lt (whose_some hw)
    simp only [Option.bind_some]
    by_cases hjn : j = n
    · subst hjn
      rw [h0, if_neg (by omega)]
    · rw [h j (by omega), if_pos ⟨Nat.zero_le _, by omega⟩, Nat.sub_zero, List.getElem?_eq_getElem (by omega)]

section
variable {P : Program} {Q : Exit → Act → World → Prop} {a : Act}
theorem wp_region_last {id : Nat} {opsG : Array Oper} {w : World} (ops : Array Oper) (ds : List (Option Nat)) (n : Nat) (T : Nat → Value → World → Prop) (C : World → Prop) (drops : Nat → List Nat)
    (hops : opsG = ops) (hds : (ops.toList.map (·.dst)).take n = ds) (hn : ops.size = n + 1) (hm : P.follows .mixedOrders = true) (hl : loneB ops = true) (hb : backB ops = true) (hlast : lastB ops n = true)
    (h0 : C w.drew) (hstep : ∀ i o, i < n → ops[i]? = some o → StepOk P ops a C T drops i o)
    (hfin : ∀ o, ops[n]? = some o → ∀ (vs : List Value) w', vs.length = n → C w' → (∀ j v, vs[j]? = some v → dropped ops drops j = false → T j v w') →
      ∀ K : Act → World → Prop, (∀ v w, Q .normal ((puts ds vs a).put o.dst v) w → K ((puts ds vs a).put o.dst v) w) → if Region.wanted o (yielded ops (puts ds vs a).tmps) = true then Oper.wp P o (puts ds vs a) w' K Q else K ((puts ds vs a).put o.dst undef) w') :
    (Code.region id opsG true).wp P Q a w := by
  subst hops
  subst hds
  refine wp_region_any hm ?_
  have key := wpAny_vals (P := P) (ops := opsG) (Q := Q) hl hb (fun e w => (∀ j, (e j).isSome = true → ∀ k, (waits opsG j).contains k = true → (e k).isSome = true) ∧ (∀ v, e n = some v → Q .normal (filled opsG e a) w) ∧
    (e n = none → C w ∧ ∀ j v, e j = some v → (∃ i, i < opsG.size ∧ (e i).isSome = true ∧ (drops i).contains j = true) ∨ T j v w)) a ?_ ?_
  · have h := key opsG.size (Array.replicate opsG.size false) (fun _ => none) w.drew (by simp) (fun i hi => by simp [hi]) (missing_le _ _) ⟨(fun j h => by cases h), (fun v h => by cases h), fun _ => ⟨h0, fun j v h => by cases h⟩⟩
    rw [filled_none] at h
    exact h
  · intro i o ho e w1 ⟨hcl, hq, hI⟩ hei hw
    have hin : i < opsG.size := (Array.getElem?_eq_some_iff.1 ho).1
    have hclose : ∀ v, ∀ j, ((e.set i v) j).isSome = true → ∀ k, (waits opsG j).contains k = true → ((e.set i v) k).isSome = true := by
      intro v j hj k hk2
      by_cases hki : k = i
      · subst hki; rw [Vals.set_same]; rfl
      · rw [Vals.set_other e v hki]
        by_cases hji : j = i
        · subst hji; exact hw k (by simpa using hk2)
        · rw [Vals.set_other e v hji] at hj; exact hcl j hj k hk2
    have hen : e n = none := by
      cases hc : e n with
      | none => rfl
      | some v =>
        by_cases hni : i = n
        · subst hni; rw [hei] at hc; cases hc
        · have := lastB_some hlast hcl (by rw [hc]; rfl) i (by omega)
          rw [hei] at this; cases this
    obtain ⟨hC, hT⟩ := hI hen
    refine wpOp_step ho fun K hK => ?_
    have hdi : dstOf opsG i = o.dst := by unfold dstOf; rw [ho]; rfl
    by_cases hni : i = n
    · subst hni
      -- the last one
      have hall : ∀ j, j < i → (e j).isSome = true := by
        intro j hj
        have h1 := lastB_some (e := e.set i undef) hlast (hclose undef) (by rw [Vals.set_same]; rfl) j hj
        rwa [Vals.set_other e undef (by omega)] at h1
      have hval : ∀ j, j < i → e j = some ((e j).getD undef) := fun j hj => by
        have h1 := hall j hj
        cases hc : e j with
        | none => rw [hc] at h1; cases h1
        | some v => rfl
      have hfill : filled opsG e a = puts ((opsG.toList.map (·.dst)).take i) ((List.range i).map fun j => (e j).getD undef) a := by
        rw [← putFrom_puts (ops := opsG) _ 0 _ (fun j hj => ?_) a]
        · exact filled_is' hl _ i (by simp) hn (fun j hj => by rw [hval j (by simpa using hj)]; simp) hei a
        · rw [List.length_map, List.length_range] at hj
          rw [Nat.zero_add, List.getElem?_take_of_lt hj]
          unfold dstOf
          rw [List.getElem?_map, Array.getElem?_toList, Array.getElem?_eq_getElem (by omega)]
          rfl
      rw [hfill]
      refine hfin o ho ((List.range i).map fun j => (e j).getD undef) w1 (by simp) hC (fun j v hj hd => ?_) K (fun v w hA => ?_)
      · have hji : j < i := by have := (List.getElem?_eq_some_iff.1 hj).1; simpa using this
        have hjv : e j = some v := by
          rw [List.getElem?_map, List.getElem?_range hji] at hj
          rw [hval j hji]
          simpa using hj
        rcases hT j v hjv with ⟨k, hk, hke, hkd⟩ | h
        · exfalso
          have : dropped opsG drops j = true := List.any_eq_true.2 ⟨k, List.mem_range.2 hk, hkd⟩
          rw [hd] at this; cases this
        · exact h
      · rw [← hfill] at hA ⊢
        refine hK _ _ ⟨v, by rw [← hdi, filled_put hl], hclose v, (fun u hu => by rw [← filled_put hl, hdi]; exact hA), fun h => by rw [Vals.set_same] at h; cases h⟩
    · have hil : i < n := by omega
      have hgo := hstep i o hil ho e _ w1 rfl hC (fun j hj => ?_) K (fun v w' hv hC' hk => ?_)
      · split
        · rename_i hwt; rw [if_pos hwt] at hgo; exact wp_noQ hgo
        · rename_i hwt; rw [if_neg hwt] at hgo; exact hgo
      · have h1 := hw j (by simpa using hj)
        cases hc : e j with
        | none => rw [hc] at h1; cases h1
        | some v =>
          refine ⟨v, rfl, fun hh => ?_⟩
          rcases hT j v hc with ⟨k, hk, hke, hkd⟩ | h
          · exfalso
            have h2 := List.all_eq_true.1 hh k (List.mem_range.2 hk)
            have hne : k ≠ i := fun he => by subst he; rw [hei] at hke; cases hke
            rw [hkd] at h2
            simp [hne] at h2
          · exact h
      · refine hK _ _ ⟨v, by rw [← hdi, filled_put hl], hclose v, (fun u hu => by rw [Vals.set_other e v (Ne.symm hni), hen] at hu; cases hu), fun _ => ⟨hC', fun j u hj => ?_⟩⟩
        by_cases hji : j = i
        · subst hji
          rw [Vals.set_same] at hj
          cases hj
          exact .inr hv
        · rw [Vals.set_other e v hji] at hj
          rcases hT j u hj with ⟨k, hk, hke, hkd⟩ | h
          · refine .inl ⟨k, hk, ?_, hkd⟩
            by_cases hki : k = i
            · subst hki; rw [Vals.set_same]; rfl
            · rw [Vals.set_other e v hki]; exact hke
          · by_cases hdr : ∃ k, k < opsG.size ∧ ((e.set i v) k).isSome = true ∧ (drops k).contains j = true
            · exact .inl hdr
            · refine .inr (hk j u hj hji ?_ (fun k hks hkd => ?_) h)
              rotate_left
              · have hki : k ≠ i := fun he => hdr ⟨k, hks, by subst he; rw [Vals.set_same]; rfl, hkd⟩
                refine ⟨hki, ?_⟩
                cases hc : e k with
                | none => rfl
                | some x => exact absurd ⟨k, hks, by rw [Vals.set_other e v hki, hc]; rfl, hkd⟩ hdr
              cases hcw : (waits opsG j).contains i with
              | false => rfl
              | true =>
                have := hcl j (by rw [hj]; rfl) i hcw
                rw [hei] at this; cases this
  · intro e w1 ⟨hcl, hq, hI⟩ hall
    have h1 := hall n (by omega)
    cases hc : e n with
    | none => rw [hc] at h1; cases h1
    | some v => exact hq v hc
end
end Go.Proofs.Ytjppommhamaibaa

namespace Go.Proofs.Ytjppommhamaibaa
open Go.RowKit
set_option linter.unusedVariables false

section
variable {P : Program} {Q : Exit → Act → World → Prop} {a : Act}
/-- Behind an operation K, and Q wherever it does not go on. -/
def Qn (Q : Exit → Act → World → Prop) (K : Act → World → Prop) : Exit → Act → World → Prop
  | .normal, a, w => K a w
  | x, a, w => Q x a w
theorem Qn.out {Q : Exit → Act → World → Prop} {K : Act → World → Prop} (h : LetsOut (Qn Q K)) : LetsOut Q := h
theorem wp_qn {o : Oper} {a : Act} {w : World} {K : Act → World → Prop} (h : o.wp P a w K (Qn Q K)) : o.wp P a w K Q := by
  unfold Oper.wp at *
  generalize (execOp a.eval o).run P w = r at *
  cases r with
  | ok n w' =>
    cases n <;> simp only [Oper.upon] at h ⊢ <;>
      first
        | exact h
        | exact Calls.mono h (fun e w'' he => by cases e with
            | returned v => exact he
            | panicked c => exact he
            | outgrown => exact he)
  | halt x w' => cases x <;> simp only [Oper.upon] at h ⊢ <;> exact h
/-- The last operations, one behind the other. -/
def tailWp (P : Program) (ops : Array Oper) (Q : Exit → Act → World → Prop) : List Oper → Act → World → Prop
  | [], a, w => Q .normal a w
  | o :: r, a, w => ∀ K : Act → World → Prop, (∀ v w', tailWp P ops Q r (a.put o.dst v) w' → K (a.put o.dst v) w') → wpList P ops (Qn Q K) [o] a w
/-- What operation i, ahead of the tail, must show. -/
def StepOkT (P : Program) (ops : Array Oper) (n : Nat) (a : Act) (C : World → Prop) (T : Nat → Value → World → Prop) (drops : Nat → List Nat) (i : Nat) (o : Oper) : Prop :=
  ∀ (e : Vals) (A : Act) (w : World), A = filled ops e a → C w → (∀ j, (waits ops i).contains j = true → ∃ v, e j = some v ∧ (held ops drops i j = true → T j v w)) → (∀ j, n ≤ j → e j = none) →
    ∀ K : Act → World → Prop, Next ops C T drops i e A w o.dst K →
      if Region.wanted o (yielded ops A.tmps) = true then Oper.wp P o A w K noQ else K (A.put o.dst undef) w
theorem filled_base2 {ops : Array Oper} {e : Vals} {a A : Act} {t j : Nat} {v : Value} (hA : A = filled ops e a) (h : whose ops t = some j) (he : e j = none) (hv : a.eval (.tmp t) = v) : A.eval (.tmp t) = v := by
  subst hA
  subst hv
  simp only [Act.eval, filled, Array.getD_eq_getD_getElem?, Array.getElem?_mapIdx, h, Option.bind_some, he, Option.getD_none]
  cases a.tmps[t]? <;> simp
theorem wp_region_tail {id : Nat} {opsG : Array Oper} {w : World} (ops : Array Oper) (ds : List (Option Nat)) (n : Nat) (T : Nat → Value → World → Prop) (C : World → Prop) (drops : Nat → List Nat)
    (hops : opsG = ops) (hds : (ops.toList.map (·.dst)).take n = ds) (hn : Nat.blt n ops.size = true) (hm : P.follows .mixedOrders = true) (hl : loneB ops = true) (hb : backB ops = true) (hlast : ((List.range ops.size).all fun k => Nat.blt k n || lastB ops k) = true)
    (h0 : C w.drew) (hstep : ∀ i o, i < n → ops[i]? = some o → StepOkT P ops n a C T drops i o)
    (hfin : ∀ (vs : List Value) w', vs.length = n → C w' → (∀ j v, vs[j]? = some v → dropped ops drops j = false → T j v w') → tailWp P ops Q (ops.toList.drop n) (puts ds vs a) w') :
    (Code.region id opsG true).wp P Q a w := by
  subst hops
  subst hds
  have hns : n < opsG.size := Nat.blt_eq ▸ hn
  have hla : ∀ k, n ≤ k → k < opsG.size → lastB opsG k = true := by
    intro k hk hk2
    have h := List.all_eq_true.1 hlast k (List.mem_range.2 hk2)
    rw [Bool.or_eq_true] at h
    rcases h with h | h
    · have : k < n := Nat.blt_eq ▸ h
      omega
    · exact h
  refine wp_region_any hm ?_
  have key := wpAny_vals (P := P) (ops := opsG) (Q := Q) hl hb (fun e w => (∀ j, (e j).isSome = true → ∀ k, (waits opsG j).contains k = true → (e k).isSome = true) ∧ (∀ j, (e j).isSome = true → j < opsG.size) ∧
    (e n = none → C w ∧ ∀ j v, e j = some v → (∃ i, i < opsG.size ∧ (e i).isSome = true ∧ (drops i).contains j = true) ∨ T j v w) ∧
    ((e n).isSome = true → ∃ m, n < m ∧ m ≤ opsG.size ∧ (∀ j, (e j).isSome = true ↔ j < m) ∧ tailWp P opsG Q (opsG.toList.drop m) (filled opsG e a) w)) a ?_ ?_
  · have h := key opsG.size (Array.replicate opsG.size false) (fun _ => none) w.drew (by simp) (fun i hi => by simp [hi]) (missing_le _ _) ⟨(fun j h => by cases h), (fun j h => by cases h), (fun _ => ⟨h0, fun j v h => by cases h⟩), fun h => by cases h⟩
    rw [filled_none] at h
    exact h
  · intro i o ho e w1 ⟨hcl, hbd, hI, hW⟩ hei hw
    have hin : i < opsG.size := (Array.getElem?_eq_some_iff.1 ho).1
    have hclose : ∀ v, ∀ j, ((e.set i v) j).isSome = true → ∀ k, (waits opsG j).contains k = true → ((e.set i v) k).isSome = true := by
      intro v j hj k hk2
      by_cases hki : k = i
      · subst hki; rw [Vals.set_same]; rfl
      · rw [Vals.set_other e v hki]
        by_cases hji : j = i
        · subst hji; exact hw k (by simpa using hk2)
        · rw [Vals.set_other e v hji] at hj; exact hcl j hj k hk2
    have hbound : ∀ v, ∀ j, ((e.set i v) j).isSome = true → j < opsG.size := by
      intro v j hj
      by_cases hji : j = i
      · omega
      · rw [Vals.set_other e v hji] at hj; exact hbd j hj
    have hbefore : n ≤ i → ∀ j, j < i → (e j).isSome = true := by
      intro hni j hj
      have h1 := lastB_some (e := e.set i undef) (hla i hni hin) (hclose undef) (by rw [Vals.set_same]; rfl) j hj
      rwa [Vals.set_other e undef (by omega)] at h1
    have hdi : dstOf opsG i = o.dst := by unfold dstOf; rw [ho]; rfl
    by_cases hil : i < n
    · -- ahead of the tail
      have hen : e n = none := by
        cases hc : e n with
        | none => rfl
        | some v =>
          have := lastB_some (hla n (Nat.le_refl _) hns) hcl (by rw [hc]; rfl) i hil
          rw [hei] at this; cases this
      have hni : i ≠ n := by omega
      have hnone : ∀ j, n ≤ j → e j = none := by
        intro j hj
        cases hc : e j with
        | none => rfl
        | some v =>
          by_cases hjn : j = n
          · subst hjn; rw [hen] at hc; cases hc
          · have := lastB_some (hla j hj (hbd j (by rw [hc]; rfl))) hcl (by rw [hc]; rfl) n (by omega)
            rw [hen] at this; cases this
      obtain ⟨hC, hT⟩ := hI hen
      refine wpOp_step ho fun K hK => ?_
      have hgo := hstep i o hil ho e _ w1 rfl hC (fun j hj => ?_) hnone K (fun v w' hv hC' hk => ?_)
      · split
        · rename_i hwt; rw [if_pos hwt] at hgo; exact wp_noQ hgo
        · rename_i hwt; rw [if_neg hwt] at hgo; exact hgo
      · have h1 := hw j (by simpa using hj)
        cases hc : e j with
        | none => rw [hc] at h1; cases h1
        | some v =>
          refine ⟨v, rfl, fun hh => ?_⟩
          rcases hT j v hc with ⟨k, hk, hke, hkd⟩ | h
          · exfalso
            have h2 := List.all_eq_true.1 hh k (List.mem_range.2 hk)
            have hne : k ≠ i := fun he => by subst he; rw [hei] at hke; cases hke
            rw [hkd] at h2
            simp [hne] at h2
          · exact h
      · refine hK _ _ ⟨v, by rw [← hdi, filled_put hl], hclose v, hbound v, (fun _ => ⟨hC', fun j u hj => ?_⟩), fun hu => by rw [Vals.set_other e v (Ne.symm hni), hen] at hu; cases hu⟩
        by_cases hji : j = i
        · subst hji
          rw [Vals.set_same] at hj
          cases hj
          exact .inr hv
        · rw [Vals.set_other e v hji] at hj
          rcases hT j u hj with ⟨k, hk, hke, hkd⟩ | h
          · refine .inl ⟨k, hk, ?_, hkd⟩
            by_cases hki : k = i
            · subst hki; rw [Vals.set_same]; rfl
            · rw [Vals.set_other e v hki]; exact hke
          · by_cases hdr : ∃ k, k < opsG.size ∧ ((e.set i v) k).isSome = true ∧ (drops k).contains j = true
            · exact .inl hdr
            · refine .inr (hk j u hj hji ?_ (fun k hks hkd => ?_) h)
              rotate_left
              · have hki : k ≠ i := fun he => hdr ⟨k, hks, by subst he; rw [Vals.set_same]; rfl, hkd⟩
                refine ⟨hki, ?_⟩
                cases hc : e k with
                | none => rfl
                | some x => exact absurd ⟨k, hks, by rw [Vals.set_other e v hki, hc]; rfl, hkd⟩ hdr
              cases hcw : (waits opsG j).contains i with
              | false => rfl
              | true =>
                have := hcl j (by rw [hj]; rfl) i hcw
                rw [hei] at this; cases this
    · -- in the tail
      have hall := hbefore (by omega)
      have hiff : ∀ j, (e j).isSome = true ↔ j < i := by
        intro j
        refine ⟨fun hj => ?_, hall j⟩
        rcases Nat.lt_trichotomy j i with h | h | h
        · exact h
        · subst h; rw [hei] at hj; cases hj
        · have := lastB_some (hla j (by omega) (hbd j hj)) hcl hj i h
          rw [hei] at this; cases this
      have hL : tailWp P opsG Q (opsG.toList.drop i) (filled opsG e a) w1 := by
        by_cases hni : i = n
        · subst hni
          obtain ⟨hC, hT⟩ := hI hei
          have hval : ∀ j, j < i → e j = some ((e j).getD undef) := fun j hj => by
            have h1 := hall j hj
            cases hc : e j with
            | none => rw [hc] at h1; cases h1
            | some v => rfl
          have hfill : filled opsG e a = puts ((opsG.toList.map (·.dst)).take i) ((List.range i).map fun j => (e j).getD undef) a := by
            rw [← putFrom_puts (ops := opsG) _ 0 _ (fun j hj => ?_) a]
            · have h1 := filled_putFrom hl ((List.range i).map fun j => (e j).getD undef) 0 (fun _ => none) a
              rw [filled_none] at h1
              rw [h1]
              congr 1
              funext j
              by_cases hj : j < i
              · rw [if_pos ⟨Nat.zero_le _, by simpa using hj⟩, hval j hj]; simp [hj]
              · rw [if_neg (by simp; omega)]
                cases hc : e j with
                | none => rfl
                | some v => exact absurd ((hiff j).1 (by rw [hc]; rfl)) hj
            · rw [List.length_map, List.length_range] at hj
              rw [Nat.zero_add, List.getElem?_take_of_lt hj]
              unfold dstOf
              rw [List.getElem?_map, Array.getElem?_toList, Array.getElem?_eq_getElem (by omega)]
              rfl
          rw [hfill]
          refine hfin ((List.range i).map fun j => (e j).getD undef) w1 (by simp) hC fun j v hj hd => ?_
          have hji : j < i := by have := (List.getElem?_eq_some_iff.1 hj).1; simpa using this
          have hjv : e j = some v := by
            rw [List.getElem?_map, List.getElem?_range hji] at hj
            rw [hval j hji]
            simpa using hj
          rcases hT j v hjv with ⟨k, hk, hke, hkd⟩ | h
          · exfalso
            have : dropped opsG drops j = true := List.any_eq_true.2 ⟨k, List.mem_range.2 hk, hkd⟩
            rw [hd] at this; cases this
          · exact h
        · obtain ⟨m, h1, h2, h3, h4⟩ := hW (hall n (by omega))
          have : m = i := by
            have ha : ¬ (e m).isSome = true := fun h => Nat.lt_irrefl m ((h3 m).1 h)
            have hb2 : ¬ i < m := fun h => by have := (h3 i).2 h; rw [hei] at this; cases this
            rcases Nat.lt_trichotomy m i with h | h | h
            · exact absurd (hall m h) ha
            · exact h
            · exact absurd h hb2
          subst this
          exact h4
      have hdrop : opsG.toList.drop i = o :: opsG.toList.drop (i + 1) := by
        rw [List.drop_eq_getElem_cons (by simpa using hin)]
        congr 1
        have := (Array.getElem?_eq_some_iff.1 ho).2
        simpa using this
      rw [hdrop] at hL
      have hnew : ∀ v w', tailWp P opsG Q (opsG.toList.drop (i + 1)) ((filled opsG e a).put o.dst v) w' → ∃ v', (filled opsG e a).put o.dst v = filled opsG (e.set i v') a ∧ ((∀ j, ((e.set i v') j).isSome = true → ∀ k, (waits opsG j).contains k = true → ((e.set i v') k).isSome = true) ∧ (∀ j, ((e.set i v') j).isSome = true → j < opsG.size) ∧
          ((e.set i v') n = none → C w' ∧ ∀ j u, (e.set i v') j = some u → (∃ k, k < opsG.size ∧ ((e.set i v') k).isSome = true ∧ (drops k).contains j = true) ∨ T j u w') ∧
          (((e.set i v') n).isSome = true → ∃ m, n < m ∧ m ≤ opsG.size ∧ (∀ j, ((e.set i v') j).isSome = true ↔ j < m) ∧ tailWp P opsG Q (opsG.toList.drop m) (filled opsG (e.set i v') a) w')) := by
        intro v w' h
        refine ⟨v, by rw [← hdi, filled_put hl], hclose v, hbound v, fun h2 => ?_, fun _ => ⟨i + 1, by omega, hin, fun j => ?_, by rw [← filled_put hl, hdi]; exact h⟩⟩
        · exfalso
          by_cases hni : n = i
          · subst hni; rw [Vals.set_same] at h2; cases h2
          · rw [Vals.set_other e v hni] at h2
            have := hall n (by omega)
            rw [h2] at this; cases this
        · by_cases hji : j = i
          · subst hji; rw [Vals.set_same]; simp
          · rw [Vals.set_other e v hji, hiff j]; omega
      have key2 : ∀ K : Act → World → Prop, (∀ v w', tailWp P opsG Q (opsG.toList.drop (i + 1)) ((filled opsG e a).put o.dst v) w' → K ((filled opsG e a).put o.dst v) w') →
          (if Region.wanted o (yielded opsG (filled opsG e a).tmps) = true then o.wp P (filled opsG e a) w1 K Q ∨ (o.asks P (filled opsG e a) w1 ∧ LetsOut Q) else K ((filled opsG e a).put o.dst undef) w1) := by
        intro K hK
        have h1 := hL K hK
        unfold wpList at h1
        split
        · rename_i hwt
          rw [if_pos hwt] at h1
          rcases h1 with h1 | h1
          · exact .inl (wp_qn h1)
          · exact .inr ⟨h1.1, Qn.out h1.2⟩
        · rename_i hwt
          rw [if_neg hwt] at h1
          exact h1
      unfold wpOp
      rw [ho]
      refine key2 _ ?_
      exact hnew
  · intro e w1 ⟨hcl, hbd, hI, hW⟩ hall
    obtain ⟨m, h1, h2, h3, h4⟩ := hW (hall n hns)
    have : m = opsG.size := by
      have ha : ¬ (e m).isSome = true := fun h => Nat.lt_irrefl m ((h3 m).1 h)
      rcases Nat.lt_or_ge m opsG.size with h | h
      · exact absurd (hall m h) ha
      · omega
    subst this
    rw [List.drop_eq_nil_of_le (by simp)] at h4
    exact h4
end
theorem drop_tail {ops : Array Oper} {n : Nat} {x y : Oper} (hs : ops.size = n + 2) (hx : ops[n]? = some x) (hy : ops[n + 1]? = some y) : ops.toList.drop n = [x, y] := by
  obtain ⟨h1, h2⟩ := Array.getElem?_eq_some_iff.1 hx
  obtain ⟨h3, h4⟩ := Array.getElem?_eq_some_iff.1 hy
  rw [List.drop_eq_getElem_cons (by simpa using h1), List.drop_eq_getElem_cons (by simpa using h3), List.drop_eq_nil_of_le (by simp; omega)]
  simp [h2, h4]
end Go.Proofs.Ytjppommhamaibaa
