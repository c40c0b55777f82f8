/-
  The plain side of delta.Make: what a good delta is; how it grows; where a text is found; what the places tell. Without a condition.
-/
import Derived.Test.YtdlnabjledhiiaaDlP
import Derived.Lib.Index
import Derived.Maps.Views
import Derived.Maps.OwnSet
namespace Go.Proofs.Ytdlnabjledhiiaa
set_option linter.unusedVariables false
open Go.Maps

/-- No two inserts side by side. -/
def noAdj : List DOp → Prop
  | o :: o' :: r => ¬ (o.l = 0 ∧ o'.l = 0) ∧ noAdj (o' :: r)
  | _ => True
/-- Nothing, or a copy at the end. -/
def endsCopy (d : List DOp) : Prop := ∀ o, d.getLast? = some o → o.l ≠ 0
theorem noAdj_snoc : ∀ (d : List DOp) (o : DOp), noAdj d → (endsCopy d ∨ o.l ≠ 0) → noAdj (d ++ [o])
  | [], o, _, _ => trivial
  | [x], o, _, h => by
    refine ⟨fun hh => ?_, trivial⟩
    rcases h with h | h
    · exact h x rfl hh.1
    · exact h hh.2
  | x :: y :: r, o, hd, h => by
    refine ⟨hd.1, noAdj_snoc (y :: r) o hd.2 ?_⟩
    rcases h with h | h
    · exact .inl fun z hz => h z (by simpa [List.getLast?_cons_cons] using hz)
    · exact .inr h
theorem endsCopy_nil : endsCopy [] := fun o h => by cases h
theorem endsCopy_snoc (d : List DOp) (o : DOp) (h : o.l ≠ 0) : endsCopy (d ++ [o]) := fun x hx => by
  rw [List.getLast?_append] at hx
  simp at hx
  subst hx; exact h
theorem noAdj_get : ∀ (d : List DOp) (i : Nat) (h : i + 1 < d.length), noAdj d → ¬ (d[i].l = 0 ∧ d[i + 1].l = 0)
  | x :: y :: r, 0, _, hd => hd.1
  | x :: y :: r, i + 1, h, hd => noAdj_get (y :: r) i (by simpa using h) hd.2
  | [], i, h, _ => by simp at h
  | [x], i, h, _ => by simp at h

def textOp (t : ByteArray) : DOp := ⟨0, 0, t⟩
def copyOp (p n : Nat) : DOp := ⟨(p : Int), (n : Int), ⟨#[]⟩⟩
/-- What has been laid out so far: it makes the first 'from' bytes. -/
structure MkSo (old now : List UInt8) (fr : Nat) (d : List DOp) : Prop where
  fit : fitD old.length d = true
  cat : catD old d = now.take fr
  adj : noAdj d
  len : d.length ≤ fr
theorem MkSo.nil (old now : List UInt8) : MkSo old now 0 [] := ⟨rfl, rfl, trivial, Nat.le_refl _⟩
theorem MkSo.text {old now : List UInt8} {fr at_ : Nat} {d : List DOp} (h : MkSo old now fr d) (he : endsCopy d) (hlt : fr < at_) (hat : at_ ≤ now.length) (t : ByteArray) (ht : t.data.toList = (now.take at_).drop fr) : MkSo old now at_ (d ++ [textOp t]) := by
  have hs : t.size ≠ 0 := by
    have : t.size = t.data.toList.length := by simp
    rw [this, ht, List.length_drop, List.length_take]; omega
  refine ⟨?_, ?_, noAdj_snoc _ _ h.adj (.inl he), by have := h.len; simp; omega⟩
  · rw [fitD_append, h.fit]; simp [fitD, DOp.fits, textOp, hs]
  · rw [catD_append, h.cat]
    have : catD old [textOp t] = t.data.toList := by simp [catD, DOp.piece, textOp, hs]
    rw [this, ht]
    have h1 : now.take fr = (now.take at_).take fr := by rw [List.take_take, Nat.min_eq_left (by omega)]
    rw [h1, List.take_append_drop]
theorem MkSo.copy {old now : List UInt8} {fr p n : Nat} {d : List DOp} (h : MkSo old now fr d) (hn : 0 < n) (hp : p + n ≤ old.length) (hf : fr + n ≤ now.length) (hm : (old.drop p).take n = (now.drop fr).take n) : MkSo old now (fr + n) (d ++ [copyOp p n]) := by
  refine ⟨?_, ?_, noAdj_snoc _ _ h.adj (.inr (by simp [copyOp]; omega)), by have := h.len; simp; omega⟩
  · rw [fitD_append, h.fit]; simp [fitD, DOp.fits, copyOp]; omega
  · rw [catD_append, h.cat]
    have : catD old [copyOp p n] = (old.drop p).take n := by simp [catD, DOp.piece, copyOp, ByteArray.size]
    rw [this, hm, List.take_add]
/-- A good delta of two texts. -/
structure MkGood (old now : List UInt8) (d : List DOp) : Prop where
  right : rightB d = true
  fit : fitD old.length d = true
  cat : catD old d = now
  adj : noAdj d
  small : weigh d ≤ now.length + 8
theorem MkGood.nil (old : List UInt8) : MkGood old [] [] := ⟨rfl, rfl, rfl, trivial, Nat.zero_le _⟩
theorem right_one {o : DOp} (h : o.ok = true) : rightB [o] = true := by unfold rightB; simp [h]
theorem weigh_one (o : DOp) : weigh [o] = 8 + o.t.size := by simp [weigh]
theorem MkGood.whole (old : List UInt8) (now : ByteArray) (h0 : now.size ≠ 0) (hl : now.size ≤ 131072) : MkGood old now.data.toList [textOp now] := by
  have hl' : now.data.toList.length = now.size := by simp
  have hok : (textOp now).ok = true := by unfold DOp.ok textOp; rw [if_neg h0]; simp [hl]
  refine ⟨right_one hok, ?_, ?_, trivial, ?_⟩
  · simp [fitD, DOp.fits, textOp, h0]
  · simp [catD, DOp.piece, textOp, h0]
  · rw [weigh_one, hl']; simp [textOp]; omega
theorem MkGood.one (old now : List UInt8) (p : Nat) (h0 : 0 < now.length) (hl : now.length ≤ 131072) (hp : p + now.length ≤ old.length) (ho : old.length ≤ 131072) (hm : (old.drop p).take now.length = now) : MkGood old now [copyOp p now.length] := by
  have hok : (copyOp p now.length).ok = true := by unfold DOp.ok copyOp; simp [ByteArray.size]; omega
  refine ⟨right_one hok, ?_, ?_, trivial, ?_⟩
  · simp [fitD, DOp.fits, copyOp]; omega
  · simp [catD, DOp.piece, copyOp, ByteArray.size]
    exact hm
  · rw [weigh_one]; simp [copyOp, ByteArray.size]
theorem MkSo.good {old now : List UInt8} {d : List DOp} (h : MkSo old now now.length d) (hr : rightB d = true) (hw : weigh d ≤ now.length + 8) : MkGood old now d :=
  ⟨hr, h.fit, by rw [h.cat, List.take_length], h.adj, hw⟩
theorem MkGood.applied {old now : List UInt8} {d : List DOp} (h : MkGood old now d) (hn : now.length ≤ 1048576) : applyAll old d (now.length : Int) = (now, 0) := by
  unfold applyAll
  rw [if_pos h.right]
  have hc : clampM (now.length : Int) = now.length := by unfold clampM; omega
  rw [hc, applyD_good d [] h.fit (by rw [h.cat]; simp), h.cat]; rfl

/-- Where it is found it stands. -/
theorem index_at : ∀ (s sub : List UInt8) (i : Nat), Lib.index s sub = (i : Int) → i + sub.length ≤ s.length ∧ (s.drop i).take sub.length = sub
  | [], sub, i, h => by
    unfold Lib.index at h
    split at h
    · rename_i he
      have : sub = [] := by simpa using he
      subst this
      have : i = 0 := by omega
      subst this; simp
    · omega
  | b :: l, sub, i, h => by
    unfold Lib.index at h
    split at h
    · rename_i hp
      have : i = 0 := by omega
      subst this
      have hp' := List.isPrefixOf_iff_prefix.1 hp
      exact ⟨by have := hp'.length_le; omega, by rw [List.drop_zero]; exact (List.prefix_iff_eq_take.1 hp').symm⟩
    · split at h
      · omega
      · rename_i hne
        have hge := Lib.index_ge l sub
        have hne' : Lib.index l sub ≠ -1 := by simpa using hne
        obtain ⟨j, hj⟩ : ∃ j : Nat, Lib.index l sub = (j : Int) := ⟨(Lib.index l sub).toNat, by omega⟩
        have : i = j + 1 := by omega
        subst this
        have ih := index_at l sub j hj
        exact ⟨by simp; omega, by simpa using ih.2⟩
theorem index_found (s sub : List UInt8) (k : Nat) (h : k + sub.length ≤ s.length) (hm : (s.drop k).take sub.length = sub) : 0 ≤ Lib.index s sub := by
  induction s generalizing k with
  | nil =>
    have : sub = [] := List.eq_nil_of_length_eq_zero (by rw [List.length_nil] at h; omega)
    subst this; simp [Lib.index]
  | cons b l ih =>
    unfold Lib.index
    split
    · decide
    · rename_i hp
      cases k with
      | zero =>
        exfalso; apply hp
        rw [List.drop_zero] at hm
        exact List.isPrefixOf_iff_prefix.2 (List.prefix_iff_eq_take.2 hm.symm)
      | succ k =>
        have := ih k (by rw [List.length_cons] at h; omega) (by simpa using hm)
        split
        · rename_i he
          have : Lib.index l sub = -1 := by simpa using he
          omega
        · omega

/-- What the places tell: there the key stands. -/
def Places (old : List UInt8) (D : DataW PUnit) : Prop :=
  ∀ (key : List UInt8) (c : Int), Maps.has D (.string key) = true → D.atKey (.string key) (.lit (.int .i64 0)) = .lit (.int .i64 c) → 0 ≤ c ∧ c.toNat + 16 ≤ old.length ∧ (old.drop c.toNat).take 16 = key
theorem Places.nil (old : List UInt8) : Places old (.map []) := fun key c h _ => by cases h
theorem Places.put {old : List UInt8} {D : DataW PUnit} (h : Places old D) (hm : IsMap D) (i : Nat) (hi : i + 16 ≤ old.length) (key : List UInt8) (hk : key = (old.drop i).take 16) : Places old (D.put (.string key) (.lit (.int .i64 (i : Int)))) := by
  intro k c hh ha
  by_cases he : k = key
  · subst he
    rw [atKey_put_same hm (by trivial)] at ha
    simp at ha
    subst ha
    exact ⟨by omega, by simpa using hi, by simpa using hk.symm⟩
  · have hne : (Lit.string k) ≠ Lit.string key := fun e => he (by injection e)
    rw [has_put_other hne] at hh
    rw [atKey_put_other hne] at ha
    exact h k c hh ha
theorem match_more {old now : List UInt8} {p a n : Nat} (h : (old.drop p).take n = (now.drop a).take n) (h1 : p + n < old.length) (h2 : a + n < now.length) (he : now[a + n] = old[p + n]) : (old.drop p).take (n + 1) = (now.drop a).take (n + 1) := by
  rw [List.take_succ_eq_append_getElem (by rw [List.length_drop]; omega), List.take_succ_eq_append_getElem (by rw [List.length_drop]; omega), h]
  simp [he]
end Go.Proofs.Ytdlnabjledhiiaa
