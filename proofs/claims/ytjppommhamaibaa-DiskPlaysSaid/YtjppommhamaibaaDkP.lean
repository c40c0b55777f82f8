/-
  Disks in plain Lean: which may be, what a call makes of one, what a crash leaves; without a condition.
-/
import Derived.Test.YtjppommhamaibaaKRow
namespace Go.Proofs.Ytjppommhamaibaa
open Go.RowKit
set_option linter.unusedVariables false

/-- A file: its name, what lasts, what may not. -/
structure Fl where
  nm : ByteArray
  sy : ByteArray
  ta : ByteArray
instance : Inhabited Fl := ⟨⟨⟨#[]⟩, ⟨#[]⟩, ⟨#[]⟩⟩⟩
/-- A disk. -/
structure Dk where
  room : Int
  files : List Fl
  left : Int
  down : Bool
def Dk.zero : Dk := ⟨0, [], 0, false⟩
def okc (c : UInt8) : Bool := (decide (97 ≤ c.toNat) && decide (c.toNat ≤ 122)) || (decide (48 ≤ c.toNat) && decide (c.toNat ≤ 57)) || c == 46
def onlyB (s : ByteArray) : Bool := s.data.toList.all okc
def nmOk (s : ByteArray) : Bool := onlyB s && decide (1 ≤ s.size) && decide (s.size ≤ 16)
def ltN (a b : ByteArray) : Bool := Op.bytesLess a.toList b.toList
def addTo (n k : Nat) : Nat := if n ≤ 1048576 then n + k else n
def szTo (n : Nat) (f : Fl) : Nat := addTo (addTo n f.sy.size) f.ta.size
def szL (l : List Fl) : Nat := l.foldl szTo 0
/-- The file at a place may stand there: its name may be one, and is above the one ahead. -/
def goodAt (l : List Fl) (i : Nat) : Bool := match l[i]? with
  | none => true
  | some f => nmOk f.nm && (match i with
    | 0 => true
    | j + 1 => match l[j]? with
      | none => true
      | some g => ltN g.nm f.nm)
def rightFs (l : List Fl) : Bool := (List.range l.length).all (goodAt l)
def numsOk (d : Dk) : Bool := decide (0 ≤ d.room) && decide (d.room ≤ 1048576) && decide (d.files.length ≤ 8) && decide (-1 ≤ d.left) && decide (d.left ≤ 1073741824)
def rightD (d : Dk) : Bool := numsOk d && decide ((szL d.files : Int) ≤ d.room) && rightFs d.files
/-- The place of a file; -1: it is not there. -/
def atFrom (nm : ByteArray) : List Fl → Nat → Int
  | [], _ => -1
  | f :: r, i => if f.nm = nm then (i : Int) else atFrom nm r (i + 1)
def atL (l : List Fl) (nm : ByteArray) : Int := atFrom nm l 0
def without (l : List Fl) (nm : ByteArray) : List Fl := l.filter fun f => decide (f.nm ≠ nm)
def insF (x : Fl) : List Fl → List Fl
  | [] => [x]
  | f :: r => if ltN x.nm f.nm = true then x :: f :: r else f :: insF x r
def withF (l : List Fl) (x : Fl) : List Fl := insF x (without l x.nm)

theorem bytesLess_lt : ∀ (x y : List UInt8), Op.bytesLess x y = decide (x < y)
  | [], [] => by simp [Op.bytesLess]
  | _ :: _, [] => by simp [Op.bytesLess]
  | [], _ :: _ => by simp [Op.bytesLess]
  | a :: x, b :: y => by
    rw [Op.bytesLess, bytesLess_lt x y]
    simp only [List.cons_lt_cons_iff]
    by_cases h1 : a < b <;> by_cases h2 : a = b <;> by_cases h3 : x < y <;> simp [h1, h2, h3]
theorem ltN_is (a b : ByteArray) : ltN a b = decide (a.data.toList < b.data.toList) := by
  unfold ltN
  rw [bytesLess_lt, ByteArray.toList_eq, ByteArray.toList_eq]
theorem lt_irr (l : List UInt8) : ¬ l < l := List.lt_irrefl l
theorem ltN_irrefl (a : ByteArray) : ltN a a = false := by
  rw [ltN_is]; exact decide_eq_false (lt_irr _)
theorem ltN_trans {a b c : ByteArray} (h : ltN a b = true) (k : ltN b c = true) : ltN a c = true := by
  rw [ltN_is] at *
  exact decide_eq_true (List.lt_trans (of_decide_eq_true h) (of_decide_eq_true k))
theorem ltN_asymm {a b : ByteArray} (h : ltN a b = true) : ltN b a = false := by
  cases hb : ltN b a with
  | false => rfl
  | true => have := ltN_trans h hb; rw [ltN_irrefl] at this; cases this
theorem ltN_ne {a b : ByteArray} (h : ltN a b = true) : a ≠ b := fun e => by subst e; rw [ltN_irrefl] at h; cases h
theorem ba_ext {a b : ByteArray} (h : a.data.toList = b.data.toList) : a = b := by
  obtain ⟨⟨a⟩⟩ := a; obtain ⟨⟨b⟩⟩ := b
  simp at h; rw [h]
theorem ltN_total {a b : ByteArray} (h : a ≠ b) (k : ltN a b = false) : ltN b a = true := by
  rw [ltN_is] at *
  refine decide_eq_true ?_
  have h1 : ¬ a.data.toList < b.data.toList := of_decide_eq_false k
  have h2 : b.data.toList ≤ a.data.toList := List.not_lt.1 h1
  by_cases h3 : b.data.toList < a.data.toList
  · exact h3
  · exact absurd (ba_ext (List.le_antisymm (List.not_lt.1 h3) h2)) h

/-- Names rising. -/
def Rising (l : List Fl) : Prop := l.Pairwise fun f g => ltN f.nm g.nm = true
theorem goodAt_is (l : List Fl) (i : Nat) (h : i < l.length) : goodAt l i = (nmOk l[i].nm && (decide (i = 0) || ltN (l[i - 1]'(by omega)).nm l[i].nm)) := by
  unfold goodAt
  rw [List.getElem?_eq_getElem h]
  cases i with
  | zero => simp
  | succ j => simp [List.getElem?_eq_getElem (show j < l.length by omega)]
theorem rightFs_iff (l : List Fl) : rightFs l = true ↔ (∀ f ∈ l, nmOk f.nm = true) ∧ Rising l := by
  unfold rightFs
  rw [List.all_eq_true]
  constructor
  · intro h
    have hg : ∀ i (hi : i < l.length), nmOk l[i].nm = true ∧ (0 < i → ltN (l[i - 1]'(by omega)).nm l[i].nm = true) := by
      intro i hi
      have := h i (List.mem_range.2 hi)
      rw [goodAt_is l i hi, Bool.and_eq_true, Bool.or_eq_true, decide_eq_true_eq] at this
      exact ⟨this.1, fun h0 => this.2.resolve_left (by omega)⟩
    refine ⟨fun f hf => ?_, List.pairwise_iff_getElem.2 fun i j hi hj hij => ?_⟩
    · obtain ⟨i, hi, rfl⟩ := List.getElem_of_mem hf
      exact (hg i hi).1
    · have key : ∀ d j (hj : j < l.length), j = i + 1 + d → ltN l[i].nm l[j].nm = true := by
        intro d
        induction d with
        | zero => intro j hj e; subst e; exact (hg (i + 1) hj).2 (by omega)
        | succ d ih =>
          intro j hj e
          have h1 := ih (i + 1 + d) (by omega) rfl
          have h2 := (hg j hj).2 (by omega)
          have e2 : j - 1 = i + 1 + d := by omega
          simp only [e2] at h2
          exact ltN_trans h1 h2
      exact key (j - (i + 1)) j hj (by omega)
  · intro ⟨h1, h2⟩ i hi
    have hi := List.mem_range.1 hi
    rw [goodAt_is l i hi, Bool.and_eq_true, Bool.or_eq_true, decide_eq_true_eq]
    refine ⟨h1 _ (List.getElem_mem hi), ?_⟩
    by_cases h0 : i = 0
    · exact .inl h0
    · exact .inr (List.pairwise_iff_getElem.1 h2 (i - 1) i (by omega) hi (by omega))

theorem atFrom_some (nm : ByteArray) : ∀ (l : List Fl) (i : Nat), (∃ (k : Nat) (h : k < l.length), l[k].nm = nm ∧ (∀ j (hj : j < l.length), j < k → l[j].nm ≠ nm) ∧ atFrom nm l i = ((i + k : Nat) : Int)) ∨ ((∀ f ∈ l, f.nm ≠ nm) ∧ atFrom nm l i = -1)
  | [], i => .inr ⟨fun f h => (by cases h), rfl⟩
  | f :: r, i => by
    by_cases hf : f.nm = nm
    · exact .inl ⟨0, by simp, hf, fun j _ hj => absurd hj (Nat.not_lt_zero _), by rw [atFrom, if_pos hf]; rfl⟩
    · rcases atFrom_some nm r (i + 1) with ⟨k, hk, h1, h2, h3⟩ | ⟨h1, h2⟩
      · refine .inl ⟨k + 1, by simpa using hk, by simpa using h1, fun j hj hjk => ?_, by rw [atFrom, if_neg hf, h3]; congr 1; omega⟩
        cases j with
        | zero => exact hf
        | succ j => simpa using h2 j (by simpa using hj) (by omega)
      · refine .inr ⟨fun g hg => ?_, by rw [atFrom, if_neg hf, h2]⟩
        rcases List.mem_cons.1 hg with rfl | hg
        · exact hf
        · exact h1 g hg
theorem atL_cases (l : List Fl) (nm : ByteArray) : (∃ (k : Nat) (h : k < l.length), l[k].nm = nm ∧ (∀ j (hj : j < l.length), j < k → l[j].nm ≠ nm) ∧ atL l nm = (k : Int)) ∨ ((∀ f ∈ l, f.nm ≠ nm) ∧ atL l nm = -1) := by
  have := atFrom_some nm l 0
  simpa [atL] using this

theorem without_none {l : List Fl} {nm : ByteArray} (h : ∀ f ∈ l, f.nm ≠ nm) : without l nm = l := by
  unfold without
  rw [List.filter_eq_self]
  intro f hf
  simpa using h f hf
theorem rising_ne {l : List Fl} (h : Rising l) {i j : Nat} (hi : i < l.length) (hj : j < l.length) (hij : i ≠ j) : l[i].nm ≠ l[j].nm := by
  rcases Nat.lt_or_gt_of_ne hij with h1 | h1
  · exact ltN_ne (List.pairwise_iff_getElem.1 h i j hi hj h1)
  · exact (ltN_ne (List.pairwise_iff_getElem.1 h j i hj hi h1)).symm
theorem without_at {l : List Fl} (h : Rising l) {k : Nat} (hk : k < l.length) : without l l[k].nm = l.take k ++ l.drop (k + 1) := by
  unfold without
  have e : l = l.take k ++ l[k] :: l.drop (k + 1) := by rw [← List.drop_eq_getElem_cons hk, List.take_append_drop]
  have h1 : ∀ f ∈ l.take k, f.nm ≠ l[k].nm := by
    intro f hf
    obtain ⟨j, hj, rfl⟩ := List.getElem_of_mem hf
    rw [List.getElem_take]
    rw [List.length_take] at hj
    exact rising_ne h (by omega) hk (by omega)
  have h2 : ∀ f ∈ l.drop (k + 1), f.nm ≠ l[k].nm := by
    intro f hf
    obtain ⟨j, hj, rfl⟩ := List.getElem_of_mem hf
    rw [List.getElem_drop]
    rw [List.length_drop] at hj
    exact rising_ne h (by omega) hk (by omega)
  generalize hx : l[k] = x at *
  generalize l.take k = a at *
  generalize l.drop (k + 1) = b at *
  subst e
  rw [List.filter_append, List.filter_cons, List.filter_eq_self.2 fun f hf => by simpa using h1 f hf, List.filter_eq_self.2 fun f hf => by simpa using h2 f hf]
  simp
theorem insF_at {x : Fl} : ∀ {l : List Fl} {k : Nat}, k ≤ l.length → (∀ j (hj : j < l.length), j < k → ltN x.nm l[j].nm = false) → (∀ (hk : k < l.length), ltN x.nm l[k].nm = true) → insF x l = l.take k ++ x :: l.drop k
  | [], k, hk, _, _ => by
    have : k = 0 := by simpa using hk
    subst this
    rfl
  | f :: r, 0, _, _, h => by
    have := h (by simp)
    rw [insF, if_pos (by simpa using this)]
    rfl
  | f :: r, k + 1, hk, h1, h2 => by
    have h0 := h1 0 (by simp) (by omega)
    rw [insF, if_neg (by simp at h0; simp [h0])]
    have ih := insF_at (x := x) (l := r) (k := k) (by simpa using hk) (fun j hj hjk => h1 (j + 1) (by simpa using hj) (by omega)) (fun hk2 => h2 (by simpa using hk2))
    rw [ih]
    rfl
/-- A file that stands there, laid anew. -/
theorem withF_set {l : List Fl} (h : Rising l) {k : Nat} (hk : k < l.length) {x : Fl} (hx : x.nm = l[k].nm) : withF l x = l.set k x := by
  unfold withF
  rw [hx, without_at h hk]
  have hl : (l.take k).length = k := by rw [List.length_take]; omega
  rw [insF_at (k := k) (by rw [List.length_append, hl]; omega) (fun j hj hjk => ?_) (fun hk2 => ?_)]
  · rw [List.take_append_of_le_length (by omega), List.drop_append_of_le_length (by omega), List.take_of_length_le (by omega), List.drop_of_length_le (by omega), List.nil_append, List.set_eq_take_append_cons_drop, if_pos hk]
  · rw [List.getElem_append_left (by omega), List.getElem_take, hx]
    exact ltN_asymm (List.pairwise_iff_getElem.1 h j k (by omega) hk hjk)
  · rw [List.getElem_append_right (by omega), List.getElem_drop, hx]
    rw [List.length_append, hl, List.length_drop] at hk2
    exact List.pairwise_iff_getElem.1 h k _ hk (by omega) (by omega)
theorem insF_mem {x f : Fl} : ∀ {l : List Fl}, f ∈ insF x l ↔ f = x ∨ f ∈ l
  | [] => by simp [insF]
  | g :: r => by
    rw [insF]
    split
    · simp
    · rw [List.mem_cons, insF_mem, List.mem_cons]
      constructor
      · rintro (h | h | h)
        · exact .inr (.inl h)
        · exact .inl h
        · exact .inr (.inr h)
      · rintro (h | h | h)
        · exact .inr (.inl h)
        · exact .inl h
        · exact .inr (.inr h)
theorem insF_rising {x : Fl} : ∀ {l : List Fl}, Rising l → (∀ f ∈ l, f.nm ≠ x.nm) → Rising (insF x l)
  | [], _, _ => by simp [insF, Rising]
  | g :: r, h, hn => by
    unfold Rising at h
    rw [List.pairwise_cons] at h
    rw [insF]
    split
    · rename_i hlt
      unfold Rising
      rw [List.pairwise_cons, List.pairwise_cons]
      refine ⟨fun f hf => ?_, h⟩
      rcases List.mem_cons.1 hf with rfl | hf
      · exact hlt
      · exact ltN_trans hlt (h.1 f hf)
    · rename_i hlt
      have hg : ltN g.nm x.nm = true := ltN_total (fun e => hn g (List.mem_cons_self ..) e.symm) (by simpa using hlt)
      unfold Rising
      rw [List.pairwise_cons]
      refine ⟨fun f hf => ?_, insF_rising h.2 fun f hf => hn f (List.mem_cons_of_mem _ hf)⟩
      rcases insF_mem.1 hf with rfl | hf
      · exact hg
      · exact h.1 f hf
theorem without_rising {l : List Fl} (h : Rising l) (nm : ByteArray) : Rising (without l nm) := h.sublist (List.filter_sublist ..)
theorem without_ne {l : List Fl} {nm : ByteArray} : ∀ f ∈ without l nm, f.nm ≠ nm := by
  intro f hf
  have := (List.mem_filter.1 hf).2
  simpa using this
theorem withF_rising {l : List Fl} (h : Rising l) (x : Fl) : Rising (withF l x) := insF_rising (without_rising h _) without_ne
theorem insF_perm (x : Fl) : ∀ l : List Fl, (insF x l).Perm (x :: l)
  | [] => by simp [insF]
  | g :: r => by
    rw [insF]
    split
    · exact List.Perm.refl _
    · exact ((insF_perm x r).cons g).trans (List.Perm.swap x g r)
/-- Two risings of one stock are one. -/
theorem rising_unique {a b : List Fl} (ha : Rising a) (hb : Rising b) (h : a.Perm b) : a = b := by
  refine List.Perm.eq_of_pairwise (le := fun (f g : Fl) => ltN f.nm g.nm = true) (fun f g _ _ h1 h2 => ?_) ha hb h
  have := ltN_asymm h1
  rw [h2] at this
  cases this

theorem addTo_ge (n k : Nat) : n ≤ addTo n k := by unfold addTo; split <;> omega
theorem addTo_sum {n k : Nat} (h : addTo n k ≤ 1048576) : addTo n k = n + k := by
  unfold addTo at *
  by_cases hn : n ≤ 1048576
  · rw [if_pos hn]
  · rw [if_neg hn] at h; omega
theorem addTo_of {n k : Nat} (h : n + k ≤ 1048576) : addTo n k = n + k := if_pos (by omega)
theorem szFold_ge : ∀ (l : List Fl) (n : Nat), n ≤ l.foldl szTo n
  | [], n => Nat.le_refl _
  | f :: r, n => by
    rw [List.foldl_cons]
    exact Nat.le_trans (Nat.le_trans (addTo_ge _ _) (addTo_ge _ _)) (szFold_ge r _)
def szS (l : List Fl) : Nat := (l.map fun f => f.sy.size + f.ta.size).sum
theorem szS_cons (f : Fl) (r : List Fl) : szS (f :: r) = f.sy.size + f.ta.size + szS r := by simp [szS]
theorem szFold_sum : ∀ (l : List Fl) (n : Nat), l.foldl szTo n ≤ 1048576 → l.foldl szTo n = n + szS l
  | [], n, _ => by simp [szS]
  | f :: r, n, h => by
    rw [List.foldl_cons] at h ⊢
    have h1 := Nat.le_trans (szFold_ge r (szTo n f)) h
    rw [szFold_sum r _ h, szS_cons]
    unfold szTo at h1 ⊢
    have h2 := Nat.le_trans (addTo_ge _ _) h1
    rw [addTo_sum h1, addTo_sum h2]
    omega
theorem szFold_of : ∀ (l : List Fl) (n : Nat), n + szS l ≤ 1048576 → l.foldl szTo n = n + szS l
  | [], n, _ => by simp [szS]
  | f :: r, n, h => by
    rw [szS_cons] at h ⊢
    rw [List.foldl_cons]
    have h1 : szTo n f = n + (f.sy.size + f.ta.size) := by
      unfold szTo
      rw [addTo_of (show n + f.sy.size ≤ 1048576 by omega), addTo_of (by omega)]
      omega
    rw [h1, szFold_of r _ (by omega)]
    omega
theorem szL_sum {l : List Fl} (h : szL l ≤ 1048576) : szL l = szS l := by
  unfold szL at *
  rw [szFold_sum l 0 h, Nat.zero_add]
theorem szL_of {l : List Fl} (h : szS l ≤ 1048576) : szL l = szS l := by
  unfold szL
  rw [szFold_of l 0 (by omega), Nat.zero_add]
end Go.Proofs.Ytjppommhamaibaa
