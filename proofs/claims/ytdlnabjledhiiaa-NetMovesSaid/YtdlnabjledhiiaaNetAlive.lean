/-
  The walk of hornbooklaw21's alive; and append as one step of a region that draws, guarded or not, from whatever slice.
-/
import Derived.Test.YtdlnabjledhiiaaNetTwice
import Derived.Test.YtdlnabjledhiiaaLike
namespace Go.Proofs.Ytdlnabjledhiiaa
open Go.RowKit
set_option linter.unusedVariables false

set_option maxHeartbeats 1000000 in
theorem alive_any (w : World) : Calls Try.prog 13 #[] w fun e w' => e = .returned (.bool true) ∧ Below w.heap.size w w' := by
  have hsrc : Src (w.alloc (.cells #[.string ⟨#[97]⟩] 9)) (.slice (some ⟨w.heap.size, 0, none⟩) 1 1) (strs [⟨#[97]⟩]) :=
    .inr ⟨_, 1, 1, rfl, rfl, Nat.le_refl _, cell_one_new w _ _⟩
  have hs := Lib.hid (send_any (.slice none 0 0) _ [] [⟨#[97]⟩] _ (.inl ⟨rfl, rfl⟩) hsrc (by decide) (by decide))
  clear hsrc
  have e1 : (([⟨#[97]⟩] : List ByteArray).length - roomOf ([] : List ByteArray).length ([⟨#[97]⟩] : List ByteArray).length : Nat) = 0 := by decide
  have e2 : ([] ++ ([⟨#[97]⟩] : List ByteArray).take (roomOf ([] : List ByteArray).length ([⟨#[97]⟩] : List ByteArray).length)) = [⟨#[97]⟩] := by rfl
  rw [e1, e2] at hs
  clear e1 e2
  go_enter Try.func13, Try.ntmps13
  go_wp2_with fail
  refine hs.out.mono ?_
  rintro e w1 ⟨a, n, c, rfl, hsl, hb, hfr, hnc⟩
  obtain rfl : n = 1 := hsl.1
  have HB := Lib.hid (below_then ((Below.refl _ w).alloc (Nat.le_refl _) _) hb (by simp))
  clear hsl hb hfr hnc
  go_wp2
  go_ret
  exact ⟨rfl, HB.out⟩

theorem step_appS {P : Program} (w : World) {ops : Array Oper} {o : Oper} {a : Act} {K : Act → World → Prop} {Q : Exit → Act → World → Prop} {E : Prop} (hw : Region.wanted o (yielded ops a.tmps) = true) (s x : Operand) (t : TypeId)
    (ho : o.op = .call { callee := .builtin .append, args := #[s, x], argTypes := #[t, t] })
    (base : Nat) (e : TypeId) (i : TypeInfo) (z : Value) (bytes : Nat) (ht : P.underlying t = some (.slice e)) (hi : P.info? e = some i) (hz : i.zero = some z)
    (hsize : i.size = 1) (hby : i.bytes = bytes) (hzs : z.cells.size = 1)
    (v : Value) (n : Nat) (xs : List Value) (hown : w.ownsRow base e 1 v n xs) (hs : a.eval s = v)
    (u : Value) (ys : List Value) (hx : a.eval x = u) (hsrc : Src w u ys) (h1 : ∀ y ∈ ys, y.oneCell' = true)
    (h63 : n + ys.length ≤ maxLen) (hbytes : (n + ys.length) * bytes ≤ 140737488355328) (hbase : base ≤ w.heap.size)
    (h : ∀ v' w', w'.ownsRow base e 1 v' (n + ys.length) (xs ++ ys) → w.grownBy w' v.ownBlock → K (a.put o.dst v') w') :
    if Region.wanted o (yielded ops a.tmps) = true then Oper.wp P o a w K Q else E := by
  rw [if_pos hw]
  rcases hsrc with ⟨rfl, rfl⟩ | ⟨ad, m, c, rfl, hm, hc, hcell⟩
  · have hrun := run_append_owned_none (P := P) (w := w) base t o.type e i 1 ht hi v n xs hown
    unfold Oper.wp
    simp [execOp, ho, resolve, invoke, builtin, hs, hx, hrun, Result.andThen]
    exact h v w (by simpa using hown) ⟨rfl, rfl, rfl, Nat.le_refl _, fun _ _ _ => rfl⟩
  · exact wp_append_own w s x t ho base e i z 1 bytes ht hi hz hsize hby hzs (by decide) v n xs hs hown ad m c ys hx (by omega) hcell h1 (by omega) (by rw [hm]; exact hbytes) hbase (fun v' w' h2 h3 _ => h v' w' (by rw [← hm]; exact h2) h3)
end Go.Proofs.Ytdlnabjledhiiaa
