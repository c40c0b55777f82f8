/-
  What delta.Bytes writes and delta.Parse reads, by definition, and that each undoes the other; without a condition.
-/
import Derived.Test.YtdlnabjledhiiaaDoorPvBack
import Derived.Test.YtdlnabjledhiiaaDoorDl
namespace Go.Proofs.YtdlnabjledhiiaaDoor
open Go.RowKit
set_option linter.unusedVariables false

/-- An op as a value. -/
def opV (o : DOp) : V := if 0 < o.l then .mk 3 0 ⟨#[]⟩ [.mk 1 o.f ⟨#[]⟩ [], .mk 1 o.l ⟨#[]⟩ []] else .mk 2 0 o.t []
/-- A value as an op. -/
def vCopy : List V → Option DOp
  | [.mk k0 n0 _ _, .mk k1 n1 _ _] => if k0 = 1 ∧ k1 = 1 ∧ 0 < n1 then some ⟨n0, n1, ⟨#[]⟩⟩ else none
  | _ => none
def vOp : V → Option DOp
  | .mk k _ s l => if k = 2 then some ⟨0, 0, s⟩ else if k = 3 then vCopy l else none
def vOps : List V → Option (List DOp)
  | [] => some []
  | x :: r => match vOp x with
    | none => none
    | some o => (vOps r).map (o :: ·)
def bytesGot (d : List DOp) : ByteArray × Int := if rightB d = true then putGot (.mk 3 0 ⟨#[]⟩ (d.map opV)) else (⟨#[]⟩, 70)
/-- What a reading of a value tells as a delta. -/
def opsOf (v : V) : List DOp × Int := match v with
  | .mk k _ _ l => if k = 3 then (match vOps l with
    | none => ([], 70)
    | some d => if rightB d = true then (d, 0) else ([], 70)) else ([], 70)
def parseGot (s : ByteArray) : List DOp × Int := if (getL s).bad = 0 then opsOf (getL s).v else ([], (getL s).bad)

theorem vOp_opV {o : DOp} (h : o.ok = true) : vOp (opV o) = some o := by
  obtain ⟨f, l, t⟩ := o
  unfold opV
  by_cases h0 : t.size = 0
  · have := ok_empty h h0
    dsimp only at this ⊢
    rw [if_pos (by omega)]
    rw [vOp, if_neg (by decide), if_pos rfl, vCopy, if_pos ⟨rfl, rfl, by omega⟩, size0 h0]
  · have := ok_text h h0
    dsimp only at this ⊢
    rw [if_neg (by omega), vOp, if_pos rfl, this.1, this.2.1]
theorem vOps_map {d : List DOp} (h : ∀ o ∈ d, o.ok = true) : vOps (d.map opV) = some d := by
  induction d with
  | nil => rfl
  | cons o r ih =>
    rw [List.map_cons, vOps, vOp_opV (h o (List.mem_cons_self ..)), ih fun x hx => h x (List.mem_cons_of_mem _ hx)]
    rfl
theorem opV_inR {o : DOp} (h : (-9223372036854775808 ≤ o.f ∧ o.f ≤ 9223372036854775807) ∧ (-9223372036854775808 ≤ o.l ∧ o.l ≤ 9223372036854775807)) : (opV o).InR := by
  unfold opV
  split
  · simp only [V.InR, allInR]
    exact ⟨by omega, ⟨h.1, trivial⟩, ⟨h.2, trivial⟩, trivial⟩
  · simp only [V.InR, allInR]
    exact ⟨by omega, trivial⟩
theorem ok_inR {o : DOp} (h : o.ok = true) : (opV o).InR := by
  refine opV_inR ?_
  by_cases h0 : o.t.size = 0
  · have := ok_empty h h0; omega
  · have := ok_text h h0; omega
theorem map_inR : ∀ {d : List DOp}, (∀ o ∈ d, o.ok = true) → allInR (d.map opV)
  | [], _ => by simp [allInR]
  | o :: r, h => by
    simp only [List.map_cons, allInR]
    exact ⟨ok_inR (h o (List.mem_cons_self ..)), map_inR fun x hx => h x (List.mem_cons_of_mem _ hx)⟩
/-- What is written is parsed again. -/
theorem bytes_back {d : List DOp} {s : ByteArray} (h : bytesGot d = (s, 0)) : parseGot s = (d, 0) := by
  unfold bytesGot at h
  by_cases hr : rightB d = true
  · rw [if_pos hr] at h
    have hall := rightB_all hr
    have hin : V.InR (.mk 3 0 ⟨#[]⟩ (d.map opV)) := by simp only [V.InR]; exact ⟨by omega, map_inR hall⟩
    obtain ⟨h1, -⟩ := put_back hin h
    unfold parseGot
    rw [h1, if_pos rfl]
    unfold opsOf
    dsimp only
    rw [if_pos rfl, vOps_map hall]
    dsimp only
    rw [if_pos hr]
  · rw [if_neg hr] at h
    have := congrArg Prod.snd h
    simp at this

theorem opV_vOp {d : Nat} {x : V} {o : DOp} (hx : RightTo d x) (h : vOp x = some o) : opV o = x := by
  obtain ⟨k, n, s, l⟩ := x
  cases d with
  | zero => simp only [RightTo] at hx
  | succ d =>
    simp only [RightTo] at hx
    rcases right_forms hx.1 with ⟨rfl, rfl, rfl⟩ | ⟨rfl, rfl, rfl⟩ | ⟨rfl, rfl, rfl⟩
    · rw [vOp, if_neg (by decide), if_neg (by decide)] at h
      cases h
    · rw [vOp, if_pos rfl] at h
      cases h
      simp [opV]
    · rw [vOp, if_neg (by decide), if_pos rfl] at h
      unfold vCopy at h
      split at h
      · rename_i k0 n0 s0 l0 k1 n1 s1 l1
        split at h
        · rename_i hk
          obtain ⟨rfl, rfl, hn⟩ := hk
          cases h
          have h0 := hx.2 (.mk 1 n0 s0 l0) (by simp)
          have h1 := hx.2 (.mk 1 n1 s1 l1) (by simp)
          cases d with
          | zero => simp only [RightTo] at h0
          | succ d =>
            simp only [RightTo] at h0 h1
            obtain ⟨rfl, rfl⟩ : s0 = ⟨#[]⟩ ∧ l0 = [] := by
              rcases right_forms h0.1 with h | h | h
              · exact h.2
              · exact absurd h.1 (by decide)
              · exact absurd h.1 (by decide)
            obtain ⟨rfl, rfl⟩ : s1 = ⟨#[]⟩ ∧ l1 = [] := by
              rcases right_forms h1.1 with h | h | h
              · exact h.2
              · exact absurd h.1 (by decide)
              · exact absurd h.1 (by decide)
            unfold opV
            dsimp only
            rw [if_pos hn]
        · cases h
      · cases h
theorem map_vOps : ∀ {d : Nat} {l : List V} {r : List DOp}, (∀ y ∈ l, RightTo d y) → vOps l = some r → r.map opV = l
  | d, [], r, _, h => by simp [vOps] at h; subst h; rfl
  | d, x :: l, r, hl, h => by
    rw [vOps] at h
    cases hx : vOp x with
    | none => rw [hx] at h; cases h
    | some o =>
      rw [hx] at h
      dsimp only at h
      cases hr : vOps l with
      | none => rw [hr] at h; cases h
      | some q =>
        rw [hr] at h
        cases h
        rw [List.map_cons, opV_vOp (hl x (List.mem_cons_self ..)) hx, map_vOps (fun y hy => hl y (List.mem_cons_of_mem _ hy)) hr]
/-- What is parsed, written again, is the bytes. -/
theorem parse_back {s : ByteArray} {d : List DOp} (h : parseGot s = (d, 0)) : bytesGot d = (s, 0) := by
  unfold parseGot at h
  by_cases hb : (getL s).bad = 0
  · rw [if_pos hb] at h
    obtain ⟨-, h2, -, h4, -⟩ := getL_ok s hb
    obtain ⟨-, h5, -⟩ := put_back h4 h2
    generalize (getL s).v = v at *
    obtain ⟨k, n, t, l⟩ := v
    simp only [RightTo] at h5
    unfold opsOf at h
    dsimp only at h
    split at h
    · rename_i hk
      subst hk
      obtain ⟨rfl, rfl⟩ : n = 0 ∧ t = ⟨#[]⟩ := by
        rcases right_forms h5.1 with h | h | h
        · exact absurd h.1 (by decide)
        · exact absurd h.1 (by decide)
        · exact h.2
      cases hv : vOps l with
      | none => rw [hv] at h; have := congrArg Prod.snd h; simp at this
      | some q =>
        rw [hv] at h
        dsimp only at h
        split at h
        · rename_i hr
          cases h
          unfold bytesGot
          rw [if_pos hr, map_vOps h5.2 hv]
          exact h2
        · have := congrArg Prod.snd h; simp at this
    · have := congrArg Prod.snd h; simp at this
  · rw [if_neg hb] at h
    exact absurd (congrArg Prod.snd h) hb
theorem parse_bad {s : ByteArray} (h : (parseGot s).2 ≠ 0) : (parseGot s).1 = [] := by
  unfold parseGot at *
  split
  · rename_i hb
    rw [if_pos hb] at h
    generalize (getL s).v = v at *
    obtain ⟨k, n, t, l⟩ := v
    unfold opsOf at *
    dsimp only at *
    split
    · rename_i hk
      rw [if_pos hk] at h
      cases hv : vOps l with
      | none => rfl
      | some q =>
        rw [hv] at h
        dsimp only at h ⊢
        split
        · rename_i hr; rw [if_pos hr] at h; exact absurd rfl h
        · rfl
    · rfl
  · rfl
theorem bytes_bad {d : List DOp} (h : (bytesGot d).2 ≠ 0) : (bytesGot d).1 = ⟨#[]⟩ := by
  unfold bytesGot at *
  split
  · rename_i hr
    rw [if_pos hr] at h
    unfold putGot at *
    split
    · rfl
    · rename_i h1
      rw [if_neg h1] at h
      split
      · rfl
      · rename_i h2; rw [if_neg h2] at h; exact absurd rfl h
  · rfl
end Go.Proofs.YtdlnabjledhiiaaDoor
