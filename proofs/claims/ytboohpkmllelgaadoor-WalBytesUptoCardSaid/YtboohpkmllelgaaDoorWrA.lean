/-
  The walks of wal.readRecords and of the reference's getRecs: records read out of a list value; lists of at most 4000. (Written by wip/mkwr.py.)
-/
import Derived.Test.YtboohpkmllelgaaDoorWgA
import Derived.Test.YtboohpkmllelgaaDoorNgK
namespace Go.Proofs.YtboohpkmllelgaaDoor
open Go.RowKit
set_option linter.unusedVariables false

/-- What readRecords answers: so many, in a new row; or none. -/
def RecsP (w : World) (b : Bool) (rs : List Rc) (e : Ending) (w' : World) : Prop :=
  Below w.heap.size w w' ∧ ((b = false ∧ ∃ a n c, e = .returned (.tuple #[.slice a n c, .bool false])) ∨ (b = true ∧ ∃ a c, e = .returned (.tuple #[.slice a rs.length c, .bool true]) ∧ w'.ownsRow w.heap.size 52 3 (.slice a rs.length c) rs.length (rcE.cells rs)))
def recAllB (x : V) : Bool := decide (recAll x)
def recIsB (x : V) : Bool := decide (recIs x)
theorem own_base {w : World} {base b0 n size : Nat} {e : TypeId} {v : Value} {xs : List Value} (h : w.ownsRow base e size v n xs) (hb : b0 ≤ base) : w.ownsRow b0 e size v n xs :=
  ⟨h.1, h.2.imp id (fun ⟨g, cap, cur, e1, h1, r⟩ => ⟨g, cap, cur, e1, Nat.le_trans hb h1, r⟩)⟩
theorem own_two {w : World} {base : Nat} {a : Option Addr} {c : Nat} {x y : Int} (h : w.ownsRow base 3 1 (.slice a 2 c) 2 (i64s [x, y])) : ∃ g, a = some ⟨g, 0, none⟩ ∧ base ≤ g ∧ g < w.heap.size ∧ w.cell? ⟨g, 0, none⟩ = some (.int .i64 x) ∧ w.cell? ⟨g, 1, none⟩ = some (.int .i64 y) := by
  obtain ⟨a', n', c', he, hsl, hfr, -⟩ := own_slice h
  cases he
  rcases hsl.2 with h0 | ⟨b, off, rfl, hc⟩
  · have := congrArg List.length h0; simp [i64s] at this
  · rcases h.2 with ⟨hv, -⟩ | ⟨g, cap, cur, hv, hb, hh, -⟩
    · cases hv
    · cases hv
      exact ⟨b, rfl, hb, lt_of_block hh, hc 0 (by simp [i64s]), hc 1 (by simp [i64s])⟩
/-- What each operation of the region yields. -/
def wrrdT (BX b of nb nc : Nat) (xk xn : Int) (xs : ByteArray) (xc : Nat) (n0 n1 : Int) (sd : ByteArray) (va : Option Addr) (vc : Nat) (l : List Rc) (w3 w1 : World) : Nat → Value → World → Prop
  | 0, v, w => v = .slice va l.length vc
  | 1, v, w => v = .slice (some ⟨nb, 0, none⟩) 2 nc
  | 2, v, w => v = .pointer (some ⟨nb, 0, none⟩)
  | 3, v, w => v = .int .i64 n0
  | 4, v, w => v = .slice (some ⟨nb, 0, none⟩) 2 nc
  | 5, v, w => v = .pointer (some ⟨nb, 1, none⟩)
  | 6, v, w => v = .int .i64 n1
  | 7, v, w => v = .pointer (some ⟨BX, 3, none⟩)
  | 8, v, w => v = .slice (some ⟨b, of, none⟩) 3 xc
  | 9, v, w => v = .pointer (some ⟨b, of + 8, none⟩)
  | 10, v, w => v = .pointer (some ⟨b, of + 10, none⟩)
  | 11, v, w => v = .string sd
  | 12, v, w => v = .agg #[.int .i64 n0, .int .i64 n1, .string sd]
  | 13, v, w => ∃ c, v = .slice (some ⟨c, 0, none⟩) 1 1 ∧ w1.heap.size ≤ c ∧ w.heap[c]? = some (.cells #[.int .i64 n0, .int .i64 n1, .string sd] 52 (0, 0))
  | 14, v, w => ∃ a3 c3, v = .slice a3 (l.length + 1) c3 ∧ w.ownsRow w3.heap.size 52 3 (.slice a3 (l.length + 1) c3) (l.length + 1) (rcE.cells (l ++ [⟨n0, n1, sd⟩]))
  | _, _, _ => True
def wrrdD : Nat → List Nat
  | 14 => [13]
  | _ => []
theorem wrrd_keep (BX b of nb nc : Nat) (xk xn : Int) (xs : ByteArray) (xc : Nat) (n0 n1 : Int) (sd : ByteArray) (va : Option Addr) (vc : Nat) (l : List Rc) (w3 w1 : World) : ∀ (j : Nat) (u : Value) (w w' : World), Below w.heap.size w w' → (wrrdT BX b of nb nc xk xn xs xc n0 n1 sd va vc l w3 w1) j u w → (wrrdT BX b of nb nc xk xn xs xc n0 n1 sd va vc l w3 w1) j u w'
  | 13, u, w, w', hb, h => by obtain ⟨c, rfl, h0, h1⟩ := h; exact ⟨c, rfl, h0, (hb.block _ (lt_of_block h1)).trans h1⟩
  | 14, u, w, w', hb, h => by obtain ⟨a3, c3, rfl, h1⟩ := h; exact ⟨a3, c3, rfl, own_under h1 hb⟩
  | 0, u, w, w', hb, h => h
  | 1, u, w, w', hb, h => h
  | 2, u, w, w', hb, h => h
  | 3, u, w, w', hb, h => h
  | 4, u, w, w', hb, h => h
  | 5, u, w, w', hb, h => h
  | 6, u, w, w', hb, h => h
  | 7, u, w, w', hb, h => h
  | 8, u, w, w', hb, h => h
  | 9, u, w, w', hb, h => h
  | 10, u, w, w', hb, h => h
  | 11, u, w, w', hb, h => h
  | 12, u, w, w', hb, h => h
  | _ + 15, u, w, w', hb, h => trivial
theorem wrrd_free (BX b of nb nc : Nat) (xk xn : Int) (xs : ByteArray) (xc : Nat) (n0 n1 : Int) (sd : ByteArray) (va : Option Addr) (vc : Nat) (l : List Rc) (w3 w1 : World) : ∀ (j : Nat) (u : Value) (w w' : World), [13, 14].contains j = false → (wrrdT BX b of nb nc xk xn xs xc n0 n1 sd va vc l w3 w1) j u w → (wrrdT BX b of nb nc xk xn xs xc n0 n1 sd va vc l w3 w1) j u w'
  | 13, u, w, w', hb, h => by cases hb
  | 14, u, w, w', hb, h => by cases hb
  | 0, u, w, w', hb, h => h
  | 1, u, w, w', hb, h => h
  | 2, u, w, w', hb, h => h
  | 3, u, w, w', hb, h => h
  | 4, u, w, w', hb, h => h
  | 5, u, w, w', hb, h => h
  | 6, u, w, w', hb, h => h
  | 7, u, w, w', hb, h => h
  | 8, u, w, w', hb, h => h
  | 9, u, w, w', hb, h => h
  | 10, u, w, w', hb, h => h
  | 11, u, w, w', hb, h => h
  | 12, u, w, w', hb, h => h
  | _ + 15, u, w, w', hb, h => trivial
set_option maxHeartbeats 4000000 in
theorem wrrd_steps (BX b of nb nc : Nat) (xk xn : Int) (xs : ByteArray) (xc : Nat) (n0 n1 : Int) (sd : ByteArray) (va : Option Addr) (vc : Nat) (l : List Rc) (w3 w1 : World) (hXb : BX < w1.heap.size) (hnb : nb < w1.heap.size) (hbw : w3.heap.size ≤ w1.heap.size) (hXn : some BX ≠ (Value.slice va l.length vc).ownBlock) (hNn : some nb ≠ (Value.slice va l.length vc).ownBlock) (hn : l.length ≤ 1000000) (hb3 : b < w3.heap.size) (hn0 : w1.cell? ⟨nb, 0, none⟩ = some (.int .i64 n0)) (hn1 : w1.cell? ⟨nb, 1, none⟩ = some (.int .i64 n1)) (hc10 : w3.cell? ⟨b, of + 10, none⟩ = some (.string sd)) (hV : Tryd.prog.underlying 22 = some (.slice 52)) {a : Act} (hs : a.tmps.size = 57) (b4 : a.eval (.tmp 4) = .slice va l.length vc) (b7 : a.eval (.tmp 7) = .slice (some ⟨nb, 0, none⟩) 2 nc) (b6 : a.eval (.tmp 6) = .pointer (some ⟨BX, 0, none⟩)) : ∀ i o, i < 15 → (regOf Tryd.f47 10)[i]? = some o → StepOkE Tryd.prog (regOf Tryd.f47 10) a (fun e w => (fun w => Below w3.heap.size w3 w ∧ w1.heap.size ≤ w.heap.size ∧ Blk w BX 58 [.int .i64 xk, .int .i64 xn, .string xs, .slice (some ⟨b, of, none⟩) 3 xc] ∧ w.heap[nb]? = w1.heap[nb]?) w ∧ (e 14 = none → (fun w => w.ownsRow w3.heap.size 52 3 (.slice va l.length vc) l.length (rcE.cells l)) w)) (wrrdT BX b of nb nc xk xn xs xc n0 n1 sd va vc l w3 w1) wrrdD i o := by
  have hz : ∀ t, Nat.blt t 57 = true → Nat.blt t a.tmps.size = true := fun t h => by rw [hs]; exact h
  have hsz : (regOf Tryd.f47 10).size = 16 := by kernel_rfl
  intro i o hii ho
  match i, hii with
  | 0, _ =>
    have ho1 := opIs ho (p := .move (.tmp 4)) (by kernel_rfl)
    have hg := guardIs ho (p := none) (by kernel_rfl)
    intro e A w hA hC hp hup K hk
    have hM := hC.2 (hup 14 (by kernel_rfl))
    replace hC := hC.1
    replace hk : Next (regOf Tryd.f47 10) (fun w => (fun w => Below w3.heap.size w3 w ∧ w1.heap.size ≤ w.heap.size ∧ Blk w BX 58 [.int .i64 xk, .int .i64 xn, .string xs, .slice (some ⟨b, of, none⟩) 3 xc] ∧ w.heap[nb]? = w1.heap[nb]?) w ∧ (fun w => w.ownsRow w3.heap.size 52 3 (.slice va l.length vc) l.length (rcE.cells l)) w) (wrrdT BX b of nb nc xk xn xs xc n0 n1 sd va vc l w3 w1) wrrdD 0 e A w o.dst K := hk.next fun v w h => ⟨h.1, fun _ => h.2⟩
    have hCM := And.intro hC hM
    have x4 : A.eval (.tmp 4) = .slice va l.length vc := filled_base2 hA (by kernel_rfl) (hup 15 (by kernel_rfl)) b4
    have hw : Region.wanted o (yielded (regOf Tryd.f47 10) A.tmps) = true := wanted_free hg
    exact step_pure hk hCM hw (run_move ho1 x4 w) rfl
  | 1, _ =>
    have ho1 := opIs ho (p := .move (.tmp 7)) (by kernel_rfl)
    have hg := guardIs ho (p := none) (by kernel_rfl)
    intro e A w hA hC hp hup K hk
    have hM := hC.2 (hup 14 (by kernel_rfl))
    replace hC := hC.1
    replace hk : Next (regOf Tryd.f47 10) (fun w => (fun w => Below w3.heap.size w3 w ∧ w1.heap.size ≤ w.heap.size ∧ Blk w BX 58 [.int .i64 xk, .int .i64 xn, .string xs, .slice (some ⟨b, of, none⟩) 3 xc] ∧ w.heap[nb]? = w1.heap[nb]?) w ∧ (fun w => w.ownsRow w3.heap.size 52 3 (.slice va l.length vc) l.length (rcE.cells l)) w) (wrrdT BX b of nb nc xk xn xs xc n0 n1 sd va vc l w3 w1) wrrdD 1 e A w o.dst K := hk.next fun v w h => ⟨h.1, fun _ => h.2⟩
    have hCM := And.intro hC hM
    have x7 : A.eval (.tmp 7) = .slice (some ⟨nb, 0, none⟩) 2 nc := filled_base hA (by kernel_rfl) b7
    have hw : Region.wanted o (yielded (regOf Tryd.f47 10) A.tmps) = true := wanted_free hg
    exact step_pure hk hCM hw (run_move ho1 x7 w) rfl
  | 2, _ =>
    have ho1 := opIs ho (p := .indexAddr 23 (.tmp 41) (.const (.int .i64 0))) (by kernel_rfl)
    have hg := guardIs ho (p := none) (by kernel_rfl)
    intro e A w hA hC hp hup K hk
    have hM := hC.2 (hup 14 (by kernel_rfl))
    replace hC := hC.1
    replace hk : Next (regOf Tryd.f47 10) (fun w => (fun w => Below w3.heap.size w3 w ∧ w1.heap.size ≤ w.heap.size ∧ Blk w BX 58 [.int .i64 xk, .int .i64 xn, .string xs, .slice (some ⟨b, of, none⟩) 3 xc] ∧ w.heap[nb]? = w1.heap[nb]?) w ∧ (fun w => w.ownsRow w3.heap.size 52 3 (.slice va l.length vc) l.length (rcE.cells l)) w) (wrrdT BX b of nb nc xk xn xs xc n0 n1 sd va vc l w3 w1) wrrdD 2 e A w o.dst K := hk.next fun v w h => ⟨h.1, fun _ => h.2⟩
    have hCM := And.intro hC hM
    have x41 : A.eval (.tmp 41) = .slice (some ⟨nb, 0, none⟩) 2 nc := op_tmp hA hp 41 1 (by kernel_rfl) (by kernel_rfl) (by kernel_rfl) (hz _ rfl)
    have hw : Region.wanted o (yielded (regOf Tryd.f47 10) A.tmps) = true := wanted_free hg
    refine step_pure (v := .pointer (some ⟨nb, 0, none⟩)) hk hCM hw ?_ rfl
    unfold execOp
    simp only [ho1]
    have xc : ∀ v, A.eval (.const v) = v := fun _ => rfl
    generalize A.eval = ρ at x41 xc ⊢
    simp [go_sem, x41, xc]
  | 3, _ =>
    have ho1 := opIs ho (p := .load 3 (.tmp 42)) (by kernel_rfl)
    have hg := guardIs ho (p := none) (by kernel_rfl)
    intro e A w hA hC hp hup K hk
    have hM := hC.2 (hup 14 (by kernel_rfl))
    replace hC := hC.1
    replace hk : Next (regOf Tryd.f47 10) (fun w => (fun w => Below w3.heap.size w3 w ∧ w1.heap.size ≤ w.heap.size ∧ Blk w BX 58 [.int .i64 xk, .int .i64 xn, .string xs, .slice (some ⟨b, of, none⟩) 3 xc] ∧ w.heap[nb]? = w1.heap[nb]?) w ∧ (fun w => w.ownsRow w3.heap.size 52 3 (.slice va l.length vc) l.length (rcE.cells l)) w) (wrrdT BX b of nb nc xk xn xs xc n0 n1 sd va vc l w3 w1) wrrdD 3 e A w o.dst K := hk.next fun v w h => ⟨h.1, fun _ => h.2⟩
    have hCM := And.intro hC hM
    have x42 : A.eval (.tmp 42) = .pointer (some ⟨nb, 0, none⟩) := op_tmp hA hp 42 2 (by kernel_rfl) (by kernel_rfl) (by kernel_rfl) (hz _ rfl)
    have hw : Region.wanted o (yielded (regOf Tryd.f47 10) A.tmps) = true := wanted_free hg
    have e0 := (World.cell?_of_block (a := ⟨nb, 0, none⟩) hC.2.2.2).trans hn0
    refine step_pure (v := .int .i64 n0) hk hCM hw ?_ rfl
    unfold execOp
    simp only [ho1]
    skip
    generalize A.eval = ρ at x42 ⊢
    simp [go_sem, x42, e0]
  | 4, _ =>
    have ho1 := opIs ho (p := .move (.tmp 7)) (by kernel_rfl)
    have hg := guardIs ho (p := none) (by kernel_rfl)
    intro e A w hA hC hp hup K hk
    have hM := hC.2 (hup 14 (by kernel_rfl))
    replace hC := hC.1
    replace hk : Next (regOf Tryd.f47 10) (fun w => (fun w => Below w3.heap.size w3 w ∧ w1.heap.size ≤ w.heap.size ∧ Blk w BX 58 [.int .i64 xk, .int .i64 xn, .string xs, .slice (some ⟨b, of, none⟩) 3 xc] ∧ w.heap[nb]? = w1.heap[nb]?) w ∧ (fun w => w.ownsRow w3.heap.size 52 3 (.slice va l.length vc) l.length (rcE.cells l)) w) (wrrdT BX b of nb nc xk xn xs xc n0 n1 sd va vc l w3 w1) wrrdD 4 e A w o.dst K := hk.next fun v w h => ⟨h.1, fun _ => h.2⟩
    have hCM := And.intro hC hM
    have x7 : A.eval (.tmp 7) = .slice (some ⟨nb, 0, none⟩) 2 nc := filled_base hA (by kernel_rfl) b7
    have hw : Region.wanted o (yielded (regOf Tryd.f47 10) A.tmps) = true := wanted_free hg
    exact step_pure hk hCM hw (run_move ho1 x7 w) rfl
  | 5, _ =>
    have ho1 := opIs ho (p := .indexAddr 23 (.tmp 44) (.const (.int .i64 1))) (by kernel_rfl)
    have hg := guardIs ho (p := none) (by kernel_rfl)
    intro e A w hA hC hp hup K hk
    have hM := hC.2 (hup 14 (by kernel_rfl))
    replace hC := hC.1
    replace hk : Next (regOf Tryd.f47 10) (fun w => (fun w => Below w3.heap.size w3 w ∧ w1.heap.size ≤ w.heap.size ∧ Blk w BX 58 [.int .i64 xk, .int .i64 xn, .string xs, .slice (some ⟨b, of, none⟩) 3 xc] ∧ w.heap[nb]? = w1.heap[nb]?) w ∧ (fun w => w.ownsRow w3.heap.size 52 3 (.slice va l.length vc) l.length (rcE.cells l)) w) (wrrdT BX b of nb nc xk xn xs xc n0 n1 sd va vc l w3 w1) wrrdD 5 e A w o.dst K := hk.next fun v w h => ⟨h.1, fun _ => h.2⟩
    have hCM := And.intro hC hM
    have x44 : A.eval (.tmp 44) = .slice (some ⟨nb, 0, none⟩) 2 nc := op_tmp hA hp 44 4 (by kernel_rfl) (by kernel_rfl) (by kernel_rfl) (hz _ rfl)
    have hw : Region.wanted o (yielded (regOf Tryd.f47 10) A.tmps) = true := wanted_free hg
    refine step_pure (v := .pointer (some ⟨nb, 1, none⟩)) hk hCM hw ?_ rfl
    unfold execOp
    simp only [ho1]
    have xc : ∀ v, A.eval (.const v) = v := fun _ => rfl
    generalize A.eval = ρ at x44 xc ⊢
    simp [go_sem, x44, xc]
  | 6, _ =>
    have ho1 := opIs ho (p := .load 3 (.tmp 45)) (by kernel_rfl)
    have hg := guardIs ho (p := none) (by kernel_rfl)
    intro e A w hA hC hp hup K hk
    have hM := hC.2 (hup 14 (by kernel_rfl))
    replace hC := hC.1
    replace hk : Next (regOf Tryd.f47 10) (fun w => (fun w => Below w3.heap.size w3 w ∧ w1.heap.size ≤ w.heap.size ∧ Blk w BX 58 [.int .i64 xk, .int .i64 xn, .string xs, .slice (some ⟨b, of, none⟩) 3 xc] ∧ w.heap[nb]? = w1.heap[nb]?) w ∧ (fun w => w.ownsRow w3.heap.size 52 3 (.slice va l.length vc) l.length (rcE.cells l)) w) (wrrdT BX b of nb nc xk xn xs xc n0 n1 sd va vc l w3 w1) wrrdD 6 e A w o.dst K := hk.next fun v w h => ⟨h.1, fun _ => h.2⟩
    have hCM := And.intro hC hM
    have x45 : A.eval (.tmp 45) = .pointer (some ⟨nb, 1, none⟩) := op_tmp hA hp 45 5 (by kernel_rfl) (by kernel_rfl) (by kernel_rfl) (hz _ rfl)
    have hw : Region.wanted o (yielded (regOf Tryd.f47 10) A.tmps) = true := wanted_free hg
    have e0 := (World.cell?_of_block (a := ⟨nb, 1, none⟩) hC.2.2.2).trans hn1
    refine step_pure (v := .int .i64 n1) hk hCM hw ?_ rfl
    unfold execOp
    simp only [ho1]
    skip
    generalize A.eval = ρ at x45 ⊢
    simp [go_sem, x45, e0]
  | 7, _ =>
    have ho1 := opIs ho (p := .fieldAddr 58 (.tmp 6) 3) (by kernel_rfl)
    have hg := guardIs ho (p := none) (by kernel_rfl)
    intro e A w hA hC hp hup K hk
    have hM := hC.2 (hup 14 (by kernel_rfl))
    replace hC := hC.1
    replace hk : Next (regOf Tryd.f47 10) (fun w => (fun w => Below w3.heap.size w3 w ∧ w1.heap.size ≤ w.heap.size ∧ Blk w BX 58 [.int .i64 xk, .int .i64 xn, .string xs, .slice (some ⟨b, of, none⟩) 3 xc] ∧ w.heap[nb]? = w1.heap[nb]?) w ∧ (fun w => w.ownsRow w3.heap.size 52 3 (.slice va l.length vc) l.length (rcE.cells l)) w) (wrrdT BX b of nb nc xk xn xs xc n0 n1 sd va vc l w3 w1) wrrdD 7 e A w o.dst K := hk.next fun v w h => ⟨h.1, fun _ => h.2⟩
    have hCM := And.intro hC hM
    have x6 : A.eval (.tmp 6) = .pointer (some ⟨BX, 0, none⟩) := filled_base hA (by kernel_rfl) b6
    have hw : Region.wanted o (yielded (regOf Tryd.f47 10) A.tmps) = true := wanted_free hg
    refine step_pure (v := .pointer (some ⟨BX, 3, none⟩)) hk hCM hw ?_ rfl
    unfold execOp
    simp only [ho1]
    generalize A.eval = ρ at x6 ⊢
    simp [go_sem, x6]
  | 8, _ =>
    have ho1 := opIs ho (p := .load 56 (.tmp 47)) (by kernel_rfl)
    have hg := guardIs ho (p := none) (by kernel_rfl)
    intro e A w hA hC hp hup K hk
    have hM := hC.2 (hup 14 (by kernel_rfl))
    replace hC := hC.1
    replace hk : Next (regOf Tryd.f47 10) (fun w => (fun w => Below w3.heap.size w3 w ∧ w1.heap.size ≤ w.heap.size ∧ Blk w BX 58 [.int .i64 xk, .int .i64 xn, .string xs, .slice (some ⟨b, of, none⟩) 3 xc] ∧ w.heap[nb]? = w1.heap[nb]?) w ∧ (fun w => w.ownsRow w3.heap.size 52 3 (.slice va l.length vc) l.length (rcE.cells l)) w) (wrrdT BX b of nb nc xk xn xs xc n0 n1 sd va vc l w3 w1) wrrdD 8 e A w o.dst K := hk.next fun v w h => ⟨h.1, fun _ => h.2⟩
    have hCM := And.intro hC hM
    have x47 : A.eval (.tmp 47) = .pointer (some ⟨BX, 3, none⟩) := op_tmp hA hp 47 7 (by kernel_rfl) (by kernel_rfl) (by kernel_rfl) (hz _ rfl)
    have hw : Region.wanted o (yielded (regOf Tryd.f47 10) A.tmps) = true := wanted_free hg
    have e1 := Blk.cell (j := 3) hC.2.2.1 rfl
    refine step_pure (v := .slice (some ⟨b, of, none⟩) 3 xc) hk hCM hw ?_ rfl
    unfold execOp
    simp only [ho1]
    skip
    generalize A.eval = ρ at x47 ⊢
    simp [go_sem, x47, e1]
  | 9, _ =>
    have ho1 := opIs ho (p := .indexAddr 56 (.tmp 48) (.const (.int .i64 2))) (by kernel_rfl)
    have hg := guardIs ho (p := none) (by kernel_rfl)
    intro e A w hA hC hp hup K hk
    have hM := hC.2 (hup 14 (by kernel_rfl))
    replace hC := hC.1
    replace hk : Next (regOf Tryd.f47 10) (fun w => (fun w => Below w3.heap.size w3 w ∧ w1.heap.size ≤ w.heap.size ∧ Blk w BX 58 [.int .i64 xk, .int .i64 xn, .string xs, .slice (some ⟨b, of, none⟩) 3 xc] ∧ w.heap[nb]? = w1.heap[nb]?) w ∧ (fun w => w.ownsRow w3.heap.size 52 3 (.slice va l.length vc) l.length (rcE.cells l)) w) (wrrdT BX b of nb nc xk xn xs xc n0 n1 sd va vc l w3 w1) wrrdD 9 e A w o.dst K := hk.next fun v w h => ⟨h.1, fun _ => h.2⟩
    have hCM := And.intro hC hM
    have x48 : A.eval (.tmp 48) = .slice (some ⟨b, of, none⟩) 3 xc := op_tmp hA hp 48 8 (by kernel_rfl) (by kernel_rfl) (by kernel_rfl) (hz _ rfl)
    have hw : Region.wanted o (yielded (regOf Tryd.f47 10) A.tmps) = true := wanted_free hg
    refine step_pure (v := .pointer (some ⟨b, of + 8, none⟩)) hk hCM hw ?_ rfl
    unfold execOp
    simp only [ho1]
    have xc : ∀ v, A.eval (.const v) = v := fun _ => rfl
    generalize A.eval = ρ at x48 xc ⊢
    simp [go_sem, x48, xc]
  | 10, _ =>
    have ho1 := opIs ho (p := .fieldAddr 58 (.tmp 49) 2) (by kernel_rfl)
    have hg := guardIs ho (p := none) (by kernel_rfl)
    intro e A w hA hC hp hup K hk
    have hM := hC.2 (hup 14 (by kernel_rfl))
    replace hC := hC.1
    replace hk : Next (regOf Tryd.f47 10) (fun w => (fun w => Below w3.heap.size w3 w ∧ w1.heap.size ≤ w.heap.size ∧ Blk w BX 58 [.int .i64 xk, .int .i64 xn, .string xs, .slice (some ⟨b, of, none⟩) 3 xc] ∧ w.heap[nb]? = w1.heap[nb]?) w ∧ (fun w => w.ownsRow w3.heap.size 52 3 (.slice va l.length vc) l.length (rcE.cells l)) w) (wrrdT BX b of nb nc xk xn xs xc n0 n1 sd va vc l w3 w1) wrrdD 10 e A w o.dst K := hk.next fun v w h => ⟨h.1, fun _ => h.2⟩
    have hCM := And.intro hC hM
    have x49 : A.eval (.tmp 49) = .pointer (some ⟨b, of + 8, none⟩) := op_tmp hA hp 49 9 (by kernel_rfl) (by kernel_rfl) (by kernel_rfl) (hz _ rfl)
    have hw : Region.wanted o (yielded (regOf Tryd.f47 10) A.tmps) = true := wanted_free hg
    refine step_pure (v := .pointer (some ⟨b, of + 10, none⟩)) hk hCM hw ?_ rfl
    unfold execOp
    simp only [ho1]
    skip
    generalize A.eval = ρ at x49 ⊢
    simp [go_sem, x49]
  | 11, _ =>
    have ho1 := opIs ho (p := .load 9 (.tmp 50)) (by kernel_rfl)
    have hg := guardIs ho (p := none) (by kernel_rfl)
    intro e A w hA hC hp hup K hk
    have hM := hC.2 (hup 14 (by kernel_rfl))
    replace hC := hC.1
    replace hk : Next (regOf Tryd.f47 10) (fun w => (fun w => Below w3.heap.size w3 w ∧ w1.heap.size ≤ w.heap.size ∧ Blk w BX 58 [.int .i64 xk, .int .i64 xn, .string xs, .slice (some ⟨b, of, none⟩) 3 xc] ∧ w.heap[nb]? = w1.heap[nb]?) w ∧ (fun w => w.ownsRow w3.heap.size 52 3 (.slice va l.length vc) l.length (rcE.cells l)) w) (wrrdT BX b of nb nc xk xn xs xc n0 n1 sd va vc l w3 w1) wrrdD 11 e A w o.dst K := hk.next fun v w h => ⟨h.1, fun _ => h.2⟩
    have hCM := And.intro hC hM
    have x50 : A.eval (.tmp 50) = .pointer (some ⟨b, of + 10, none⟩) := op_tmp hA hp 50 10 (by kernel_rfl) (by kernel_rfl) (by kernel_rfl) (hz _ rfl)
    have hw : Region.wanted o (yielded (regOf Tryd.f47 10) A.tmps) = true := wanted_free hg
    have e0 := (World.cell?_of_block (a := ⟨b, of + 10, none⟩) (hC.1.block b hb3)).trans hc10
    refine step_pure (v := .string sd) hk hCM hw ?_ rfl
    unfold execOp
    simp only [ho1]
    skip
    generalize A.eval = ρ at x50 ⊢
    simp [go_sem, x50, e0]
  | 12, _ =>
    have ho1 := opIs ho (p := .build 52 #[(0, (.tmp 43)), (1, (.tmp 46)), (2, (.tmp 51))]) (by kernel_rfl)
    have hg := guardIs ho (p := none) (by kernel_rfl)
    intro e A w hA hC hp hup K hk
    have hM := hC.2 (hup 14 (by kernel_rfl))
    replace hC := hC.1
    replace hk : Next (regOf Tryd.f47 10) (fun w => (fun w => Below w3.heap.size w3 w ∧ w1.heap.size ≤ w.heap.size ∧ Blk w BX 58 [.int .i64 xk, .int .i64 xn, .string xs, .slice (some ⟨b, of, none⟩) 3 xc] ∧ w.heap[nb]? = w1.heap[nb]?) w ∧ (fun w => w.ownsRow w3.heap.size 52 3 (.slice va l.length vc) l.length (rcE.cells l)) w) (wrrdT BX b of nb nc xk xn xs xc n0 n1 sd va vc l w3 w1) wrrdD 12 e A w o.dst K := hk.next fun v w h => ⟨h.1, fun _ => h.2⟩
    have hCM := And.intro hC hM
    have x43 : A.eval (.tmp 43) = .int .i64 n0 := op_tmp hA hp 43 3 (by kernel_rfl) (by kernel_rfl) (by kernel_rfl) (hz _ rfl)
    have x46 : A.eval (.tmp 46) = .int .i64 n1 := op_tmp hA hp 46 6 (by kernel_rfl) (by kernel_rfl) (by kernel_rfl) (hz _ rfl)
    have x51 : A.eval (.tmp 51) = .string sd := op_tmp hA hp 51 11 (by kernel_rfl) (by kernel_rfl) (by kernel_rfl) (hz _ rfl)
    have hw : Region.wanted o (yielded (regOf Tryd.f47 10) A.tmps) = true := wanted_free hg
    refine step_pure (v := .agg #[.int .i64 n0, .int .i64 n1, .string sd]) hk hCM hw ?_ rfl
    unfold execOp
    simp only [ho1]
    skip
    generalize A.eval = ρ at x43 x46 x51 ⊢
    simp [go_sem, x43, x46, x51]
  | 13, _ =>
    have ho1 := opIs ho (p := .buildSlice 22 1 #[(0, (.tmp 52))]) (by kernel_rfl)
    have hg := guardIs ho (p := none) (by kernel_rfl)
    intro e A w hA hC hp hup K hk
    have hM := hC.2 (hup 14 (by kernel_rfl))
    replace hC := hC.1
    replace hk : Next (regOf Tryd.f47 10) (fun w => (fun w => Below w3.heap.size w3 w ∧ w1.heap.size ≤ w.heap.size ∧ Blk w BX 58 [.int .i64 xk, .int .i64 xn, .string xs, .slice (some ⟨b, of, none⟩) 3 xc] ∧ w.heap[nb]? = w1.heap[nb]?) w ∧ (fun w => w.ownsRow w3.heap.size 52 3 (.slice va l.length vc) l.length (rcE.cells l)) w) (wrrdT BX b of nb nc xk xn xs xc n0 n1 sd va vc l w3 w1) wrrdD 13 e A w o.dst K := hk.next fun v w h => ⟨h.1, fun _ => h.2⟩
    have hCM := And.intro hC hM
    have x52 : A.eval (.tmp 52) = .agg #[.int .i64 n0, .int .i64 n1, .string sd] := op_tmp hA hp 52 12 (by kernel_rfl) (by kernel_rfl) (by kernel_rfl) (hz _ rfl)
    have hw : Region.wanted o (yielded (regOf Tryd.f47 10) A.tmps) = true := wanted_free hg
    refine step_value (v := .slice (some ⟨w.heap.size, 0, none⟩) 1 1) (w' := w.alloc (.cells #[.int .i64 n0, .int .i64 n1, .string sd] 52)) hk hw ?_ ?_ ?_ ?_
    · unfold execOp
      simp only [ho1]
      generalize A.eval = ρ at x52 ⊢
      simp [go_sem, x52]
    · exact ⟨w.heap.size, rfl, hC.2.1, heap_alloc_new w _⟩
    · exact ⟨⟨hC.1.alloc hC.1.size _, by have := hC.2.1; simp; omega, hC.2.2.1.alloc _, (heap_alloc_old w _ (by have := hC.2.1; omega)).trans hC.2.2.2⟩, own_under hM ((Below.refl _ w).alloc (Nat.le_refl _) _)⟩
    · intro j u _ _ _ _ h
      exact wrrd_keep BX b of nb nc xk xn xs xc n0 n1 sd va vc l w3 w1 j u w _ ((Below.refl _ w).alloc (Nat.le_refl _) _) h
  | 14, _ =>
    have ho1 := opIs ho (p := .call { callee := (.builtin .append), args := #[(.tmp 40), (.tmp 53)], argTypes := #[22, 22] }) (by kernel_rfl)
    have hg := guardIs ho (p := none) (by kernel_rfl)
    intro e A w hA hC hp hup K hk
    have hM := hC.2 (hup 14 (by kernel_rfl))
    have x40 : A.eval (.tmp 40) = .slice va l.length vc := op_tmp hA hp 40 0 (by kernel_rfl) (by kernel_rfl) (by kernel_rfl) (hz _ rfl)
    have x53 := op_tmp hA hp 53 13 (by kernel_rfl) (by kernel_rfl) (by kernel_rfl) (hz _ rfl)
    have hw : Region.wanted o (yielded (regOf Tryd.f47 10) A.tmps) = true := wanted_free hg
    obtain ⟨c, x53, hc0', h3⟩ := x53
    have hle := hC.1.2.1
    obtain ⟨i0, hi0, hz0, hz1, hz2⟩ := infoR
    obtain ⟨a3, c3, w', hr, ho, hg⟩ := rowApp i0 hi0 hz0 hz1 hz2 rfl (by decide) hM c [.int .i64 n0, .int .i64 n1, .string sd] _ 22 o.type hV h3 rfl (by intro u hu; simp at hu; rcases hu with rfl | rfl | rfl <;> rfl) hn (by decide) (Nat.le_trans hbw hle)
    have hO : ∀ p, p < w3.heap.size → some p ≠ (Value.slice va l.length vc).ownBlock := fun p hp e => by have := (hM.lt _ e.symm).1; omega
    rw [if_pos hw]
    unfold Oper.wp
    rw [show (execOp A.eval o).run Tryd.prog w = .ok (.value (.slice a3 (l.length + 1) c3)) w' by
      unfold execOp
      simp only [ho1, resolve, invoke, builtin, Sem.run_bind, Sem.run_pure, Result.andThen_ok, List.map_toArray, List.map_cons, List.map_nil, x40, x53, hr]]
    obtain ⟨⟨h1, h2, h4, h9⟩, -⟩ := hC
    refine hk _ _ ⟨a3, c3, rfl, by rw [rcE.cells_append]; exact ho⟩ ⟨⟨h1.grown hg h1.size (fun q e => by have := (hM.lt q e).1; omega), Nat.le_trans h2 hg.size, h4.kept hg hXn, (hg.block nb (by omega) hNn).trans h9⟩, fun h => by rw [Vals.set_same] at h; cases h⟩ ?_
    intro j u hj hji _ hd h
    match j, h with
    | 0, h => exact h
    | 1, h => exact h
    | 2, h => exact h
    | 3, h => exact h
    | 4, h => exact h
    | 5, h => exact h
    | 6, h => exact h
    | 7, h => exact h
    | 8, h => exact h
    | 9, h => exact h
    | 10, h => exact h
    | 11, h => exact h
    | 12, h => exact h
    | 13, h => exact absurd rfl (hd 14 (by rw [hsz]; decide) rfl).1
    | 14, h => exact absurd rfl hji
    | _ + 15, h => trivial
  | _ + 15, h => exact absurd h (by omega)
/-- What each operation of the region yields. -/
def rrrdT (BX b of nb nc : Nat) (xk xn : Int) (xs : ByteArray) (xc : Nat) (n0 n1 : Int) (sd : ByteArray) (va : Option Addr) (vc : Nat) (l : List Rc) (w3 w1 : World) : Nat → Value → World → Prop
  | 0, v, w => v = .slice va l.length vc
  | 1, v, w => v = .slice (some ⟨nb, 0, none⟩) 2 nc
  | 2, v, w => v = .pointer (some ⟨nb, 0, none⟩)
  | 3, v, w => v = .int .i64 n0
  | 4, v, w => v = .slice (some ⟨nb, 0, none⟩) 2 nc
  | 5, v, w => v = .pointer (some ⟨nb, 1, none⟩)
  | 6, v, w => v = .int .i64 n1
  | 7, v, w => v = .pointer (some ⟨BX, 3, none⟩)
  | 8, v, w => v = .slice (some ⟨b, of, none⟩) 3 xc
  | 9, v, w => v = .pointer (some ⟨b, of + 8, none⟩)
  | 10, v, w => v = .pointer (some ⟨b, of + 10, none⟩)
  | 11, v, w => v = .string sd
  | 12, v, w => v = .agg #[.int .i64 n0, .int .i64 n1, .string sd]
  | 13, v, w => ∃ c, v = .slice (some ⟨c, 0, none⟩) 1 1 ∧ w1.heap.size ≤ c ∧ w.heap[c]? = some (.cells #[.int .i64 n0, .int .i64 n1, .string sd] 52 (0, 0))
  | 14, v, w => ∃ a3 c3, v = .slice a3 (l.length + 1) c3 ∧ w.ownsRow w3.heap.size 52 3 (.slice a3 (l.length + 1) c3) (l.length + 1) (rcE.cells (l ++ [⟨n0, n1, sd⟩]))
  | _, _, _ => True
def rrrdD : Nat → List Nat
  | 14 => [13]
  | _ => []
theorem rrrd_keep (BX b of nb nc : Nat) (xk xn : Int) (xs : ByteArray) (xc : Nat) (n0 n1 : Int) (sd : ByteArray) (va : Option Addr) (vc : Nat) (l : List Rc) (w3 w1 : World) : ∀ (j : Nat) (u : Value) (w w' : World), Below w.heap.size w w' → (rrrdT BX b of nb nc xk xn xs xc n0 n1 sd va vc l w3 w1) j u w → (rrrdT BX b of nb nc xk xn xs xc n0 n1 sd va vc l w3 w1) j u w'
  | 13, u, w, w', hb, h => by obtain ⟨c, rfl, h0, h1⟩ := h; exact ⟨c, rfl, h0, (hb.block _ (lt_of_block h1)).trans h1⟩
  | 14, u, w, w', hb, h => by obtain ⟨a3, c3, rfl, h1⟩ := h; exact ⟨a3, c3, rfl, own_under h1 hb⟩
  | 0, u, w, w', hb, h => h
  | 1, u, w, w', hb, h => h
  | 2, u, w, w', hb, h => h
  | 3, u, w, w', hb, h => h
  | 4, u, w, w', hb, h => h
  | 5, u, w, w', hb, h => h
  | 6, u, w, w', hb, h => h
  | 7, u, w, w', hb, h => h
  | 8, u, w, w', hb, h => h
  | 9, u, w, w', hb, h => h
  | 10, u, w, w', hb, h => h
  | 11, u, w, w', hb, h => h
  | 12, u, w, w', hb, h => h
  | _ + 15, u, w, w', hb, h => trivial
theorem rrrd_free (BX b of nb nc : Nat) (xk xn : Int) (xs : ByteArray) (xc : Nat) (n0 n1 : Int) (sd : ByteArray) (va : Option Addr) (vc : Nat) (l : List Rc) (w3 w1 : World) : ∀ (j : Nat) (u : Value) (w w' : World), [13, 14].contains j = false → (rrrdT BX b of nb nc xk xn xs xc n0 n1 sd va vc l w3 w1) j u w → (rrrdT BX b of nb nc xk xn xs xc n0 n1 sd va vc l w3 w1) j u w'
  | 13, u, w, w', hb, h => by cases hb
  | 14, u, w, w', hb, h => by cases hb
  | 0, u, w, w', hb, h => h
  | 1, u, w, w', hb, h => h
  | 2, u, w, w', hb, h => h
  | 3, u, w, w', hb, h => h
  | 4, u, w, w', hb, h => h
  | 5, u, w, w', hb, h => h
  | 6, u, w, w', hb, h => h
  | 7, u, w, w', hb, h => h
  | 8, u, w, w', hb, h => h
  | 9, u, w, w', hb, h => h
  | 10, u, w, w', hb, h => h
  | 11, u, w, w', hb, h => h
  | 12, u, w, w', hb, h => h
  | _ + 15, u, w, w', hb, h => trivial
set_option maxHeartbeats 4000000 in
theorem rrrd_steps (BX b of nb nc : Nat) (xk xn : Int) (xs : ByteArray) (xc : Nat) (n0 n1 : Int) (sd : ByteArray) (va : Option Addr) (vc : Nat) (l : List Rc) (w3 w1 : World) (hXb : BX < w1.heap.size) (hnb : nb < w1.heap.size) (hbw : w3.heap.size ≤ w1.heap.size) (hXn : some BX ≠ (Value.slice va l.length vc).ownBlock) (hNn : some nb ≠ (Value.slice va l.length vc).ownBlock) (hn : l.length ≤ 1000000) (hb3 : b < w3.heap.size) (hn0 : w1.cell? ⟨nb, 0, none⟩ = some (.int .i64 n0)) (hn1 : w1.cell? ⟨nb, 1, none⟩ = some (.int .i64 n1)) (hc10 : w3.cell? ⟨b, of + 10, none⟩ = some (.string sd)) (hV : Tryd.prog.underlying 22 = some (.slice 52)) {a : Act} (hs : a.tmps.size = 63) (b4 : a.eval (.tmp 4) = .slice va l.length vc) (b7 : a.eval (.tmp 7) = .slice (some ⟨nb, 0, none⟩) 2 nc) (b6 : a.eval (.tmp 6) = .pointer (some ⟨BX, 0, none⟩)) : ∀ i o, i < 15 → (regOf Tryd.f50 10)[i]? = some o → StepOkE Tryd.prog (regOf Tryd.f50 10) a (fun e w => (fun w => Below w3.heap.size w3 w ∧ w1.heap.size ≤ w.heap.size ∧ Blk w BX 58 [.int .i64 xk, .int .i64 xn, .string xs, .slice (some ⟨b, of, none⟩) 3 xc] ∧ w.heap[nb]? = w1.heap[nb]?) w ∧ (e 14 = none → (fun w => w.ownsRow w3.heap.size 52 3 (.slice va l.length vc) l.length (rcE.cells l)) w)) (rrrdT BX b of nb nc xk xn xs xc n0 n1 sd va vc l w3 w1) rrrdD i o := by
  have hz : ∀ t, Nat.blt t 63 = true → Nat.blt t a.tmps.size = true := fun t h => by rw [hs]; exact h
  have hsz : (regOf Tryd.f50 10).size = 16 := by kernel_rfl
  intro i o hii ho
  match i, hii with
  | 0, _ =>
    have ho1 := opIs ho (p := .move (.tmp 4)) (by kernel_rfl)
    have hg := guardIs ho (p := none) (by kernel_rfl)
    intro e A w hA hC hp hup K hk
    have hM := hC.2 (hup 14 (by kernel_rfl))
    replace hC := hC.1
    replace hk : Next (regOf Tryd.f50 10) (fun w => (fun w => Below w3.heap.size w3 w ∧ w1.heap.size ≤ w.heap.size ∧ Blk w BX 58 [.int .i64 xk, .int .i64 xn, .string xs, .slice (some ⟨b, of, none⟩) 3 xc] ∧ w.heap[nb]? = w1.heap[nb]?) w ∧ (fun w => w.ownsRow w3.heap.size 52 3 (.slice va l.length vc) l.length (rcE.cells l)) w) (rrrdT BX b of nb nc xk xn xs xc n0 n1 sd va vc l w3 w1) rrrdD 0 e A w o.dst K := hk.next fun v w h => ⟨h.1, fun _ => h.2⟩
    have hCM := And.intro hC hM
    have x4 : A.eval (.tmp 4) = .slice va l.length vc := filled_base2 hA (by kernel_rfl) (hup 15 (by kernel_rfl)) b4
    have hw : Region.wanted o (yielded (regOf Tryd.f50 10) A.tmps) = true := wanted_free hg
    exact step_pure hk hCM hw (run_move ho1 x4 w) rfl
  | 1, _ =>
    have ho1 := opIs ho (p := .move (.tmp 7)) (by kernel_rfl)
    have hg := guardIs ho (p := none) (by kernel_rfl)
    intro e A w hA hC hp hup K hk
    have hM := hC.2 (hup 14 (by kernel_rfl))
    replace hC := hC.1
    replace hk : Next (regOf Tryd.f50 10) (fun w => (fun w => Below w3.heap.size w3 w ∧ w1.heap.size ≤ w.heap.size ∧ Blk w BX 58 [.int .i64 xk, .int .i64 xn, .string xs, .slice (some ⟨b, of, none⟩) 3 xc] ∧ w.heap[nb]? = w1.heap[nb]?) w ∧ (fun w => w.ownsRow w3.heap.size 52 3 (.slice va l.length vc) l.length (rcE.cells l)) w) (rrrdT BX b of nb nc xk xn xs xc n0 n1 sd va vc l w3 w1) rrrdD 1 e A w o.dst K := hk.next fun v w h => ⟨h.1, fun _ => h.2⟩
    have hCM := And.intro hC hM
    have x7 : A.eval (.tmp 7) = .slice (some ⟨nb, 0, none⟩) 2 nc := filled_base hA (by kernel_rfl) b7
    have hw : Region.wanted o (yielded (regOf Tryd.f50 10) A.tmps) = true := wanted_free hg
    exact step_pure hk hCM hw (run_move ho1 x7 w) rfl
  | 2, _ =>
    have ho1 := opIs ho (p := .indexAddr 23 (.tmp 44) (.const (.int .i64 0))) (by kernel_rfl)
    have hg := guardIs ho (p := none) (by kernel_rfl)
    intro e A w hA hC hp hup K hk
    have hM := hC.2 (hup 14 (by kernel_rfl))
    replace hC := hC.1
    replace hk : Next (regOf Tryd.f50 10) (fun w => (fun w => Below w3.heap.size w3 w ∧ w1.heap.size ≤ w.heap.size ∧ Blk w BX 58 [.int .i64 xk, .int .i64 xn, .string xs, .slice (some ⟨b, of, none⟩) 3 xc] ∧ w.heap[nb]? = w1.heap[nb]?) w ∧ (fun w => w.ownsRow w3.heap.size 52 3 (.slice va l.length vc) l.length (rcE.cells l)) w) (rrrdT BX b of nb nc xk xn xs xc n0 n1 sd va vc l w3 w1) rrrdD 2 e A w o.dst K := hk.next fun v w h => ⟨h.1, fun _ => h.2⟩
    have hCM := And.intro hC hM
    have x44 : A.eval (.tmp 44) = .slice (some ⟨nb, 0, none⟩) 2 nc := op_tmp hA hp 44 1 (by kernel_rfl) (by kernel_rfl) (by kernel_rfl) (hz _ rfl)
    have hw : Region.wanted o (yielded (regOf Tryd.f50 10) A.tmps) = true := wanted_free hg
    refine step_pure (v := .pointer (some ⟨nb, 0, none⟩)) hk hCM hw ?_ rfl
    unfold execOp
    simp only [ho1]
    have xc : ∀ v, A.eval (.const v) = v := fun _ => rfl
    generalize A.eval = ρ at x44 xc ⊢
    simp [go_sem, x44, xc]
  | 3, _ =>
    have ho1 := opIs ho (p := .load 3 (.tmp 45)) (by kernel_rfl)
    have hg := guardIs ho (p := none) (by kernel_rfl)
    intro e A w hA hC hp hup K hk
    have hM := hC.2 (hup 14 (by kernel_rfl))
    replace hC := hC.1
    replace hk : Next (regOf Tryd.f50 10) (fun w => (fun w => Below w3.heap.size w3 w ∧ w1.heap.size ≤ w.heap.size ∧ Blk w BX 58 [.int .i64 xk, .int .i64 xn, .string xs, .slice (some ⟨b, of, none⟩) 3 xc] ∧ w.heap[nb]? = w1.heap[nb]?) w ∧ (fun w => w.ownsRow w3.heap.size 52 3 (.slice va l.length vc) l.length (rcE.cells l)) w) (rrrdT BX b of nb nc xk xn xs xc n0 n1 sd va vc l w3 w1) rrrdD 3 e A w o.dst K := hk.next fun v w h => ⟨h.1, fun _ => h.2⟩
    have hCM := And.intro hC hM
    have x45 : A.eval (.tmp 45) = .pointer (some ⟨nb, 0, none⟩) := op_tmp hA hp 45 2 (by kernel_rfl) (by kernel_rfl) (by kernel_rfl) (hz _ rfl)
    have hw : Region.wanted o (yielded (regOf Tryd.f50 10) A.tmps) = true := wanted_free hg
    have e0 := (World.cell?_of_block (a := ⟨nb, 0, none⟩) hC.2.2.2).trans hn0
    refine step_pure (v := .int .i64 n0) hk hCM hw ?_ rfl
    unfold execOp
    simp only [ho1]
    skip
    generalize A.eval = ρ at x45 ⊢
    simp [go_sem, x45, e0]
  | 4, _ =>
    have ho1 := opIs ho (p := .move (.tmp 7)) (by kernel_rfl)
    have hg := guardIs ho (p := none) (by kernel_rfl)
    intro e A w hA hC hp hup K hk
    have hM := hC.2 (hup 14 (by kernel_rfl))
    replace hC := hC.1
    replace hk : Next (regOf Tryd.f50 10) (fun w => (fun w => Below w3.heap.size w3 w ∧ w1.heap.size ≤ w.heap.size ∧ Blk w BX 58 [.int .i64 xk, .int .i64 xn, .string xs, .slice (some ⟨b, of, none⟩) 3 xc] ∧ w.heap[nb]? = w1.heap[nb]?) w ∧ (fun w => w.ownsRow w3.heap.size 52 3 (.slice va l.length vc) l.length (rcE.cells l)) w) (rrrdT BX b of nb nc xk xn xs xc n0 n1 sd va vc l w3 w1) rrrdD 4 e A w o.dst K := hk.next fun v w h => ⟨h.1, fun _ => h.2⟩
    have hCM := And.intro hC hM
    have x7 : A.eval (.tmp 7) = .slice (some ⟨nb, 0, none⟩) 2 nc := filled_base hA (by kernel_rfl) b7
    have hw : Region.wanted o (yielded (regOf Tryd.f50 10) A.tmps) = true := wanted_free hg
    exact step_pure hk hCM hw (run_move ho1 x7 w) rfl
  | 5, _ =>
    have ho1 := opIs ho (p := .indexAddr 23 (.tmp 47) (.const (.int .i64 1))) (by kernel_rfl)
    have hg := guardIs ho (p := none) (by kernel_rfl)
    intro e A w hA hC hp hup K hk
    have hM := hC.2 (hup 14 (by kernel_rfl))
    replace hC := hC.1
    replace hk : Next (regOf Tryd.f50 10) (fun w => (fun w => Below w3.heap.size w3 w ∧ w1.heap.size ≤ w.heap.size ∧ Blk w BX 58 [.int .i64 xk, .int .i64 xn, .string xs, .slice (some ⟨b, of, none⟩) 3 xc] ∧ w.heap[nb]? = w1.heap[nb]?) w ∧ (fun w => w.ownsRow w3.heap.size 52 3 (.slice va l.length vc) l.length (rcE.cells l)) w) (rrrdT BX b of nb nc xk xn xs xc n0 n1 sd va vc l w3 w1) rrrdD 5 e A w o.dst K := hk.next fun v w h => ⟨h.1, fun _ => h.2⟩
    have hCM := And.intro hC hM
    have x47 : A.eval (.tmp 47) = .slice (some ⟨nb, 0, none⟩) 2 nc := op_tmp hA hp 47 4 (by kernel_rfl) (by kernel_rfl) (by kernel_rfl) (hz _ rfl)
    have hw : Region.wanted o (yielded (regOf Tryd.f50 10) A.tmps) = true := wanted_free hg
    refine step_pure (v := .pointer (some ⟨nb, 1, none⟩)) hk hCM hw ?_ rfl
    unfold execOp
    simp only [ho1]
    have xc : ∀ v, A.eval (.const v) = v := fun _ => rfl
    generalize A.eval = ρ at x47 xc ⊢
    simp [go_sem, x47, xc]
  | 6, _ =>
    have ho1 := opIs ho (p := .load 3 (.tmp 48)) (by kernel_rfl)
    have hg := guardIs ho (p := none) (by kernel_rfl)
    intro e A w hA hC hp hup K hk
    have hM := hC.2 (hup 14 (by kernel_rfl))
    replace hC := hC.1
    replace hk : Next (regOf Tryd.f50 10) (fun w => (fun w => Below w3.heap.size w3 w ∧ w1.heap.size ≤ w.heap.size ∧ Blk w BX 58 [.int .i64 xk, .int .i64 xn, .string xs, .slice (some ⟨b, of, none⟩) 3 xc] ∧ w.heap[nb]? = w1.heap[nb]?) w ∧ (fun w => w.ownsRow w3.heap.size 52 3 (.slice va l.length vc) l.length (rcE.cells l)) w) (rrrdT BX b of nb nc xk xn xs xc n0 n1 sd va vc l w3 w1) rrrdD 6 e A w o.dst K := hk.next fun v w h => ⟨h.1, fun _ => h.2⟩
    have hCM := And.intro hC hM
    have x48 : A.eval (.tmp 48) = .pointer (some ⟨nb, 1, none⟩) := op_tmp hA hp 48 5 (by kernel_rfl) (by kernel_rfl) (by kernel_rfl) (hz _ rfl)
    have hw : Region.wanted o (yielded (regOf Tryd.f50 10) A.tmps) = true := wanted_free hg
    have e0 := (World.cell?_of_block (a := ⟨nb, 1, none⟩) hC.2.2.2).trans hn1
    refine step_pure (v := .int .i64 n1) hk hCM hw ?_ rfl
    unfold execOp
    simp only [ho1]
    skip
    generalize A.eval = ρ at x48 ⊢
    simp [go_sem, x48, e0]
  | 7, _ =>
    have ho1 := opIs ho (p := .fieldAddr 58 (.tmp 6) 3) (by kernel_rfl)
    have hg := guardIs ho (p := none) (by kernel_rfl)
    intro e A w hA hC hp hup K hk
    have hM := hC.2 (hup 14 (by kernel_rfl))
    replace hC := hC.1
    replace hk : Next (regOf Tryd.f50 10) (fun w => (fun w => Below w3.heap.size w3 w ∧ w1.heap.size ≤ w.heap.size ∧ Blk w BX 58 [.int .i64 xk, .int .i64 xn, .string xs, .slice (some ⟨b, of, none⟩) 3 xc] ∧ w.heap[nb]? = w1.heap[nb]?) w ∧ (fun w => w.ownsRow w3.heap.size 52 3 (.slice va l.length vc) l.length (rcE.cells l)) w) (rrrdT BX b of nb nc xk xn xs xc n0 n1 sd va vc l w3 w1) rrrdD 7 e A w o.dst K := hk.next fun v w h => ⟨h.1, fun _ => h.2⟩
    have hCM := And.intro hC hM
    have x6 : A.eval (.tmp 6) = .pointer (some ⟨BX, 0, none⟩) := filled_base hA (by kernel_rfl) b6
    have hw : Region.wanted o (yielded (regOf Tryd.f50 10) A.tmps) = true := wanted_free hg
    refine step_pure (v := .pointer (some ⟨BX, 3, none⟩)) hk hCM hw ?_ rfl
    unfold execOp
    simp only [ho1]
    generalize A.eval = ρ at x6 ⊢
    simp [go_sem, x6]
  | 8, _ =>
    have ho1 := opIs ho (p := .load 56 (.tmp 50)) (by kernel_rfl)
    have hg := guardIs ho (p := none) (by kernel_rfl)
    intro e A w hA hC hp hup K hk
    have hM := hC.2 (hup 14 (by kernel_rfl))
    replace hC := hC.1
    replace hk : Next (regOf Tryd.f50 10) (fun w => (fun w => Below w3.heap.size w3 w ∧ w1.heap.size ≤ w.heap.size ∧ Blk w BX 58 [.int .i64 xk, .int .i64 xn, .string xs, .slice (some ⟨b, of, none⟩) 3 xc] ∧ w.heap[nb]? = w1.heap[nb]?) w ∧ (fun w => w.ownsRow w3.heap.size 52 3 (.slice va l.length vc) l.length (rcE.cells l)) w) (rrrdT BX b of nb nc xk xn xs xc n0 n1 sd va vc l w3 w1) rrrdD 8 e A w o.dst K := hk.next fun v w h => ⟨h.1, fun _ => h.2⟩
    have hCM := And.intro hC hM
    have x50 : A.eval (.tmp 50) = .pointer (some ⟨BX, 3, none⟩) := op_tmp hA hp 50 7 (by kernel_rfl) (by kernel_rfl) (by kernel_rfl) (hz _ rfl)
    have hw : Region.wanted o (yielded (regOf Tryd.f50 10) A.tmps) = true := wanted_free hg
    have e1 := Blk.cell (j := 3) hC.2.2.1 rfl
    refine step_pure (v := .slice (some ⟨b, of, none⟩) 3 xc) hk hCM hw ?_ rfl
    unfold execOp
    simp only [ho1]
    skip
    generalize A.eval = ρ at x50 ⊢
    simp [go_sem, x50, e1]
  | 9, _ =>
    have ho1 := opIs ho (p := .indexAddr 56 (.tmp 51) (.const (.int .i64 2))) (by kernel_rfl)
    have hg := guardIs ho (p := none) (by kernel_rfl)
    intro e A w hA hC hp hup K hk
    have hM := hC.2 (hup 14 (by kernel_rfl))
    replace hC := hC.1
    replace hk : Next (regOf Tryd.f50 10) (fun w => (fun w => Below w3.heap.size w3 w ∧ w1.heap.size ≤ w.heap.size ∧ Blk w BX 58 [.int .i64 xk, .int .i64 xn, .string xs, .slice (some ⟨b, of, none⟩) 3 xc] ∧ w.heap[nb]? = w1.heap[nb]?) w ∧ (fun w => w.ownsRow w3.heap.size 52 3 (.slice va l.length vc) l.length (rcE.cells l)) w) (rrrdT BX b of nb nc xk xn xs xc n0 n1 sd va vc l w3 w1) rrrdD 9 e A w o.dst K := hk.next fun v w h => ⟨h.1, fun _ => h.2⟩
    have hCM := And.intro hC hM
    have x51 : A.eval (.tmp 51) = .slice (some ⟨b, of, none⟩) 3 xc := op_tmp hA hp 51 8 (by kernel_rfl) (by kernel_rfl) (by kernel_rfl) (hz _ rfl)
    have hw : Region.wanted o (yielded (regOf Tryd.f50 10) A.tmps) = true := wanted_free hg
    refine step_pure (v := .pointer (some ⟨b, of + 8, none⟩)) hk hCM hw ?_ rfl
    unfold execOp
    simp only [ho1]
    have xc : ∀ v, A.eval (.const v) = v := fun _ => rfl
    generalize A.eval = ρ at x51 xc ⊢
    simp [go_sem, x51, xc]
  | 10, _ =>
    have ho1 := opIs ho (p := .fieldAddr 58 (.tmp 52) 2) (by kernel_rfl)
    have hg := guardIs ho (p := none) (by kernel_rfl)
    intro e A w hA hC hp hup K hk
    have hM := hC.2 (hup 14 (by kernel_rfl))
    replace hC := hC.1
    replace hk : Next (regOf Tryd.f50 10) (fun w => (fun w => Below w3.heap.size w3 w ∧ w1.heap.size ≤ w.heap.size ∧ Blk w BX 58 [.int .i64 xk, .int .i64 xn, .string xs, .slice (some ⟨b, of, none⟩) 3 xc] ∧ w.heap[nb]? = w1.heap[nb]?) w ∧ (fun w => w.ownsRow w3.heap.size 52 3 (.slice va l.length vc) l.length (rcE.cells l)) w) (rrrdT BX b of nb nc xk xn xs xc n0 n1 sd va vc l w3 w1) rrrdD 10 e A w o.dst K := hk.next fun v w h => ⟨h.1, fun _ => h.2⟩
    have hCM := And.intro hC hM
    have x52 : A.eval (.tmp 52) = .pointer (some ⟨b, of + 8, none⟩) := op_tmp hA hp 52 9 (by kernel_rfl) (by kernel_rfl) (by kernel_rfl) (hz _ rfl)
    have hw : Region.wanted o (yielded (regOf Tryd.f50 10) A.tmps) = true := wanted_free hg
    refine step_pure (v := .pointer (some ⟨b, of + 10, none⟩)) hk hCM hw ?_ rfl
    unfold execOp
    simp only [ho1]
    skip
    generalize A.eval = ρ at x52 ⊢
    simp [go_sem, x52]
  | 11, _ =>
    have ho1 := opIs ho (p := .load 9 (.tmp 53)) (by kernel_rfl)
    have hg := guardIs ho (p := none) (by kernel_rfl)
    intro e A w hA hC hp hup K hk
    have hM := hC.2 (hup 14 (by kernel_rfl))
    replace hC := hC.1
    replace hk : Next (regOf Tryd.f50 10) (fun w => (fun w => Below w3.heap.size w3 w ∧ w1.heap.size ≤ w.heap.size ∧ Blk w BX 58 [.int .i64 xk, .int .i64 xn, .string xs, .slice (some ⟨b, of, none⟩) 3 xc] ∧ w.heap[nb]? = w1.heap[nb]?) w ∧ (fun w => w.ownsRow w3.heap.size 52 3 (.slice va l.length vc) l.length (rcE.cells l)) w) (rrrdT BX b of nb nc xk xn xs xc n0 n1 sd va vc l w3 w1) rrrdD 11 e A w o.dst K := hk.next fun v w h => ⟨h.1, fun _ => h.2⟩
    have hCM := And.intro hC hM
    have x53 : A.eval (.tmp 53) = .pointer (some ⟨b, of + 10, none⟩) := op_tmp hA hp 53 10 (by kernel_rfl) (by kernel_rfl) (by kernel_rfl) (hz _ rfl)
    have hw : Region.wanted o (yielded (regOf Tryd.f50 10) A.tmps) = true := wanted_free hg
    have e0 := (World.cell?_of_block (a := ⟨b, of + 10, none⟩) (hC.1.block b hb3)).trans hc10
    refine step_pure (v := .string sd) hk hCM hw ?_ rfl
    unfold execOp
    simp only [ho1]
    skip
    generalize A.eval = ρ at x53 ⊢
    simp [go_sem, x53, e0]
  | 12, _ =>
    have ho1 := opIs ho (p := .build 52 #[(0, (.tmp 46)), (1, (.tmp 49)), (2, (.tmp 54))]) (by kernel_rfl)
    have hg := guardIs ho (p := none) (by kernel_rfl)
    intro e A w hA hC hp hup K hk
    have hM := hC.2 (hup 14 (by kernel_rfl))
    replace hC := hC.1
    replace hk : Next (regOf Tryd.f50 10) (fun w => (fun w => Below w3.heap.size w3 w ∧ w1.heap.size ≤ w.heap.size ∧ Blk w BX 58 [.int .i64 xk, .int .i64 xn, .string xs, .slice (some ⟨b, of, none⟩) 3 xc] ∧ w.heap[nb]? = w1.heap[nb]?) w ∧ (fun w => w.ownsRow w3.heap.size 52 3 (.slice va l.length vc) l.length (rcE.cells l)) w) (rrrdT BX b of nb nc xk xn xs xc n0 n1 sd va vc l w3 w1) rrrdD 12 e A w o.dst K := hk.next fun v w h => ⟨h.1, fun _ => h.2⟩
    have hCM := And.intro hC hM
    have x46 : A.eval (.tmp 46) = .int .i64 n0 := op_tmp hA hp 46 3 (by kernel_rfl) (by kernel_rfl) (by kernel_rfl) (hz _ rfl)
    have x49 : A.eval (.tmp 49) = .int .i64 n1 := op_tmp hA hp 49 6 (by kernel_rfl) (by kernel_rfl) (by kernel_rfl) (hz _ rfl)
    have x54 : A.eval (.tmp 54) = .string sd := op_tmp hA hp 54 11 (by kernel_rfl) (by kernel_rfl) (by kernel_rfl) (hz _ rfl)
    have hw : Region.wanted o (yielded (regOf Tryd.f50 10) A.tmps) = true := wanted_free hg
    refine step_pure (v := .agg #[.int .i64 n0, .int .i64 n1, .string sd]) hk hCM hw ?_ rfl
    unfold execOp
    simp only [ho1]
    skip
    generalize A.eval = ρ at x46 x49 x54 ⊢
    simp [go_sem, x46, x49, x54]
  | 13, _ =>
    have ho1 := opIs ho (p := .buildSlice 22 1 #[(0, (.tmp 55))]) (by kernel_rfl)
    have hg := guardIs ho (p := none) (by kernel_rfl)
    intro e A w hA hC hp hup K hk
    have hM := hC.2 (hup 14 (by kernel_rfl))
    replace hC := hC.1
    replace hk : Next (regOf Tryd.f50 10) (fun w => (fun w => Below w3.heap.size w3 w ∧ w1.heap.size ≤ w.heap.size ∧ Blk w BX 58 [.int .i64 xk, .int .i64 xn, .string xs, .slice (some ⟨b, of, none⟩) 3 xc] ∧ w.heap[nb]? = w1.heap[nb]?) w ∧ (fun w => w.ownsRow w3.heap.size 52 3 (.slice va l.length vc) l.length (rcE.cells l)) w) (rrrdT BX b of nb nc xk xn xs xc n0 n1 sd va vc l w3 w1) rrrdD 13 e A w o.dst K := hk.next fun v w h => ⟨h.1, fun _ => h.2⟩
    have hCM := And.intro hC hM
    have x55 : A.eval (.tmp 55) = .agg #[.int .i64 n0, .int .i64 n1, .string sd] := op_tmp hA hp 55 12 (by kernel_rfl) (by kernel_rfl) (by kernel_rfl) (hz _ rfl)
    have hw : Region.wanted o (yielded (regOf Tryd.f50 10) A.tmps) = true := wanted_free hg
    refine step_value (v := .slice (some ⟨w.heap.size, 0, none⟩) 1 1) (w' := w.alloc (.cells #[.int .i64 n0, .int .i64 n1, .string sd] 52)) hk hw ?_ ?_ ?_ ?_
    · unfold execOp
      simp only [ho1]
      generalize A.eval = ρ at x55 ⊢
      simp [go_sem, x55]
    · exact ⟨w.heap.size, rfl, hC.2.1, heap_alloc_new w _⟩
    · exact ⟨⟨hC.1.alloc hC.1.size _, by have := hC.2.1; simp; omega, hC.2.2.1.alloc _, (heap_alloc_old w _ (by have := hC.2.1; omega)).trans hC.2.2.2⟩, own_under hM ((Below.refl _ w).alloc (Nat.le_refl _) _)⟩
    · intro j u _ _ _ _ h
      exact rrrd_keep BX b of nb nc xk xn xs xc n0 n1 sd va vc l w3 w1 j u w _ ((Below.refl _ w).alloc (Nat.le_refl _) _) h
  | 14, _ =>
    have ho1 := opIs ho (p := .call { callee := (.builtin .append), args := #[(.tmp 43), (.tmp 56)], argTypes := #[22, 22] }) (by kernel_rfl)
    have hg := guardIs ho (p := none) (by kernel_rfl)
    intro e A w hA hC hp hup K hk
    have hM := hC.2 (hup 14 (by kernel_rfl))
    have x43 : A.eval (.tmp 43) = .slice va l.length vc := op_tmp hA hp 43 0 (by kernel_rfl) (by kernel_rfl) (by kernel_rfl) (hz _ rfl)
    have x56 := op_tmp hA hp 56 13 (by kernel_rfl) (by kernel_rfl) (by kernel_rfl) (hz _ rfl)
    have hw : Region.wanted o (yielded (regOf Tryd.f50 10) A.tmps) = true := wanted_free hg
    obtain ⟨c, x56, hc0', h3⟩ := x56
    have hle := hC.1.2.1
    obtain ⟨i0, hi0, hz0, hz1, hz2⟩ := infoR
    obtain ⟨a3, c3, w', hr, ho, hg⟩ := rowApp i0 hi0 hz0 hz1 hz2 rfl (by decide) hM c [.int .i64 n0, .int .i64 n1, .string sd] _ 22 o.type hV h3 rfl (by intro u hu; simp at hu; rcases hu with rfl | rfl | rfl <;> rfl) hn (by decide) (Nat.le_trans hbw hle)
    have hO : ∀ p, p < w3.heap.size → some p ≠ (Value.slice va l.length vc).ownBlock := fun p hp e => by have := (hM.lt _ e.symm).1; omega
    rw [if_pos hw]
    unfold Oper.wp
    rw [show (execOp A.eval o).run Tryd.prog w = .ok (.value (.slice a3 (l.length + 1) c3)) w' by
      unfold execOp
      simp only [ho1, resolve, invoke, builtin, Sem.run_bind, Sem.run_pure, Result.andThen_ok, List.map_toArray, List.map_cons, List.map_nil, x43, x56, hr]]
    obtain ⟨⟨h1, h2, h4, h9⟩, -⟩ := hC
    refine hk _ _ ⟨a3, c3, rfl, by rw [rcE.cells_append]; exact ho⟩ ⟨⟨h1.grown hg h1.size (fun q e => by have := (hM.lt q e).1; omega), Nat.le_trans h2 hg.size, h4.kept hg hXn, (hg.block nb (by omega) hNn).trans h9⟩, fun h => by rw [Vals.set_same] at h; cases h⟩ ?_
    intro j u hj hji _ hd h
    match j, h with
    | 0, h => exact h
    | 1, h => exact h
    | 2, h => exact h
    | 3, h => exact h
    | 4, h => exact h
    | 5, h => exact h
    | 6, h => exact h
    | 7, h => exact h
    | 8, h => exact h
    | 9, h => exact h
    | 10, h => exact h
    | 11, h => exact h
    | 12, h => exact h
    | 13, h => exact absurd rfl (hd 14 (by rw [hsz]; decide) rfl).1
    | 14, h => exact absurd rfl hji
    | _ + 15, h => trivial
  | _ + 15, h => exact absurd h (by omega)
set_option maxRecDepth 100000 in
set_option maxHeartbeats 2000000 in
theorem wreadRecs_any (k n : Int) (s : ByteArray) (a : Option Addr) (l : List V) (c : Nat) (w : World) (S : Nat → Prop) (hS : ∀ p, S p → p < w.heap.size) (hall : VAll w S a 0 l) (hm : l.length ≤ 4000) (b : Bool) (hb : Hid (b = (decide (k = 3) && l.all recAllB))) :
    Calls Tryd.prog 47 #[.agg #[.int .i64 k, .int .i64 n, .string s, .slice a l.length c]] w (RecsP w b (l.map recCut)) := by
  have HB0 := Lib.hid ((Below.refl w.heap.size w).alloc (Nat.le_refl _) (.cells #[.int .i64 k, .int .i64 n, .string s, .slice a l.length c] 58))
  have HF0 := Lib.hid (Four.new w 58 (.int .i64 k) (.int .i64 n) (.string s) (.slice a l.length c))
  have HS0 : Hid ((w.alloc (.cells #[.int .i64 k, .int .i64 n, .string s, .slice a l.length c] 58)).heap.size = w.heap.size + 1) := Lib.hid (by simp)
  have HALL := Lib.hid (VAll.move (w' := w.alloc (.cells #[.int .i64 k, .int .i64 n, .string s, .slice a l.length c] 58)) (fun _ h => h) (fun p hp => HB0.out.block p (hS p hp)) _ _ _ hall)
  have HSP := Lib.hid (fun p (hp : S p) => show p < (w.alloc (.cells #[.int .i64 k, .int .i64 n, .string s, .slice a l.length c] 58)).heap.size from Nat.lt_of_lt_of_le (hS p hp) HB0.out.size)
  clear hall hS
  go_enter Tryd.func47, Tryd.ntmps47
  go_upto_region 1 with fail
  generalize (w.alloc (.cells #[.int .i64 k, .int .i64 n, .string s, .slice a l.length c] 58)) = w0 at *
  have v0 := HF0.out.c0
  have v3 := HF0.out.c3
  by_cases hk : k = 3
  · subst hk
    have HV : Hid (b = l.all recAllB) := Lib.hid (by rw [hb.out]; simp)
    clear hb
    go_wp2_with fail
    clear v0 v3
    go_loopg [4, 15] l.length (fun gk vo v wr => ∃ (j : Nat) (va : Option Addr) (vc : Nat) (l3 : List Rc), j ≤ l.length ∧ gk = l.length - j ∧ v = .int .i64 (j : Int) ∧ vo = .slice va l3.length vc ∧ Hid (l3 = (l.take j).map recCut) ∧ Hid (∀ y ∈ l.take j, recAllB y = true) ∧ Hid (wr.ownsRow w0.heap.size 52 3 (.slice va l3.length vc) l3.length (rcE.cells l3)) ∧ Hid (Below w0.heap.size w0 wr))
    case atStart => exact ⟨0, none, 0, [], Nat.zero_le _, rfl, rfl, rfl, Lib.hid rfl, Lib.hid (fun y hy => by simp at hy), Lib.hid (World.ownsRow_nil _ _ _ _), Lib.hid (Below.refl _ _)⟩
    case round =>
      obtain ⟨j, va, vc, l3, hj, rfl, rfl, rfl, HL3, HG, hO, hB⟩ := hrel
      by_cases hjn : j < l.length
      · have hji : (j : Int) < (l.length : Int) := by omega
        have HJN := Lib.hid hjn
        have hjl : j < l.length := by omega
        obtain ⟨b9, o9, cs9, rfl, hSb, hat9, hc9⟩ := HALL.out.at 0 l j hjl
        rw [Nat.zero_add] at hc9
        have HLT : Hid (l3 ++ [recCut l[j]] = (l.take (j + 1)).map recCut) := Lib.hid (by rw [HL3.out, List.take_add_one, List.getElem?_eq_getElem hjl, List.map_append]; rfl)
        have HG2 : Hid (recAllB l[j] = true → ∀ y ∈ l.take (j + 1), recAllB y = true) := Lib.hid (fun h y hy => by
          rw [List.take_add_one, List.getElem?_eq_getElem hjl, List.mem_append] at hy
          rcases hy with hy | hy
          · exact HG.out y hy
          · rw [Option.toList_some, List.mem_singleton] at hy; rw [hy]; exact h)
        have HFS : Hid (recAllB l[j] = false → b = false) := Lib.hid (fun h => (by rw [HV.out, List.all_eq_false]; exact ⟨_, List.getElem_mem hjl, by rw [h]; decide⟩))
        have HN3 : Hid (l3.length ≤ 1000000) := Lib.hid (by rw [HL3.out, List.length_map, List.length_take]; omega)
        generalize l[j] = x9 at *
        obtain ⟨xk, xn, xs, xl⟩ := x9
        simp only [V.At] at hat9
        obtain ⟨xa, xc, rfl, hxc, hx0, hall9⟩ := hat9
        have y0 := cell_keep hB.out (hc9 0 _ rfl)
        have y1 := cell_keep hB.out (hc9 1 _ rfl)
        have y2 := cell_keep hB.out (hc9 2 _ rfl)
        have y3 := cell_keep hB.out (hc9 3 _ rfl)
        simp only [Nat.add_zero] at y0
        clear hc9 HL3
        have hbq : Below wr.heap.size wr (wr.alloc (.cells #[.int .i64 xk, .int .i64 xn, .string xs, .slice xa xl.length xc] 58)) := (Below.refl _ wr).alloc (Nat.le_refl _) _
        have HOq := Lib.hid (own_under hO.out hbq)
        have HBq := Lib.hid (hB.out.trans (Below.lower hbq hB.out.size))
        have HXq : Hid (Blk (wr.alloc (.cells #[.int .i64 xk, .int .i64 xn, .string xs, .slice xa xl.length xc] 58)) wr.heap.size 58 [.int .i64 xk, .int .i64 xn, .string xs, .slice xa xl.length xc]) := Lib.hid (heap_alloc_new wr _)
        have HSq : Hid ((wr.alloc (.cells #[.int .i64 xk, .int .i64 xn, .string xs, .slice xa xl.length xc] 58)).heap.size = wr.heap.size + 1) := Lib.hid (by simp)
        have HOL := Lib.hid hO.out.lt
        have HALX := Lib.hid hall9
        have hsr := hB.out.size
        clear hbq hO hB HG hall9 hSb
        go_upto_region 7 with fail
        clear y0 y1 y2 y3
        generalize (wr.alloc (.cells #[.int .i64 xk, .int .i64 xn, .string xs, .slice xa xl.length xc] 58)) = wq at *
        have hsq := HSq.out
        have HALQ := Lib.hid (VAll.move (w' := wq) (fun _ h => h) (fun p hp => HBq.out.block p (HSP.out p hp)) _ _ _ HALX.out)
        have x0 := HXq.out.cell (j := 0) rfl
        have x1 := HXq.out.cell (j := 1) rfl
        have x2 := HXq.out.cell (j := 2) rfl
        have x3 := HXq.out.cell (j := 3) rfl
        have hcall := Lib.hid (wnums_any xk xn xs xa xl xc 2 wq S HALQ.out hxc hx0 (by decide) _ (Lib.hid rfl))
        go_wp2_with fail
        refine hcall.out.mono ?_
        rintro e wz ⟨hbz, hcase⟩
        have HBz := Lib.hid (below_then HBq.out hbz HBq.out.size)
        have HOz := Lib.hid (own_under HOq.out hbz)
        have HXz := Lib.hid (HXq.out.keep hbz)
        have HBW := Lib.hid (HB0.out.trans (Below.lower HBz.out HB0.out.size))
        have hsz : wq.heap.size ≤ wz.heap.size := hbz.size
        clear x0 x1 x2 x3 hbz HOq HBq HXq HALQ hcall
        rcases hcase with ⟨hbf, fa, fn', fc, rfl⟩ | ⟨hbt, na, nc, rfl, hnums⟩
        · have HZ9 := Lib.hid (HFS.out (by
            unfold recAllB
            rw [decide_eq_false_iff_not]
            intro h
            obtain ⟨h1, h2, h3, h4, -⟩ := h
            have h1 : xk = 3 := h1
            have h2 : xl.length = 3 := h2
            obtain ⟨p, q, r, rfl⟩ : ∃ p q r, xl = [p, q, r] := by
              match xl, h2 with
              | [p, q, r], _ => exact ⟨p, q, r, rfl⟩
            have h3 : p.k = 1 := h3
            have h4 : q.k = 1 := h4
            have : (decide (xk = 3 ∧ 2 ≤ [p, q, r].length) && ([p, q, r].take 2).all isNum) = true := by
              rw [decide_eq_true (⟨h1, by simp⟩ : xk = 3 ∧ 2 ≤ [p, q, r].length), Bool.true_and]
              simp [isNum, h3, h4]
            rw [this] at hbf
            cases hbf))
          clear hbf HFS HG2 HOz HXz
          go_wp2_with fail
          go_ret2
          exact ⟨HBW.out, .inl ⟨HZ9.out, _, _, _, rfl⟩⟩
        · rw [Bool.and_eq_true, decide_eq_true_eq, List.all_eq_true] at hbt
          obtain ⟨⟨rfl, hx2⟩, hnm⟩ := hbt
          have x3 := HXz.out.cell (j := 3) rfl
          by_cases hl3 : xl.length = 3
          · obtain ⟨b8, o8, rfl, hS8, hel⟩ := elemsV HALX.out (by rw [hl3]; decide)
            have hb8 : b8 < w0.heap.size := HSP.out _ hS8
            obtain ⟨za2, zc2, -, m8, m9, m10, m11⟩ := hel 2 (by rw [hl3]; decide)
            simp only [Nat.reduceMul, Nat.add_assoc, Nat.reduceAdd] at m8 m9 m10 m11
            clear hel
            obtain ⟨G0, G1, G2, rfl⟩ : ∃ p q r, xl = [p, q, r] := by
              match xl, hl3 with
              | [p, q, r], _ => exact ⟨p, q, r, rfl⟩
            change w0.cell? ⟨b8, o8 + 8, none⟩ = some (.int .i64 G2.k) at m8
            change w0.cell? ⟨b8, o8 + 10, none⟩ = some (.string G2.s) at m10
            have hnum0 : G0.k = 1 := of_decide_eq_true (hnm G0 (by simp))
            have hnum1 : G1.k = 1 := of_decide_eq_true (hnm G1 (by simp))
            have HREC : Hid (recAllB (V.mk 3 xn xs [G0, G1, G2]) = decide (G2.k = 2)) := Lib.hid (by
              unfold recAllB
              exact decide_eq_decide.2 ⟨fun h => h.2.2.2.2, fun h => ⟨rfl, rfl, hnum0, hnum1, h⟩⟩)
            have HRC : Hid (recCut (V.mk 3 xn xs [G0, G1, G2]) = ⟨cl G0.n, cl G1.n, G2.s⟩) := Lib.hid rfl
            obtain ⟨nb, rfl, hnb0, hnb, hn0, hn1⟩ := own_two (x := cl G0.n) (y := cl G1.n) hnums
            change wz.cell? ⟨wr.heap.size, 3, none⟩ = some (.slice (some ⟨b8, o8, none⟩) 3 xc) at x3
            have y8 := cell_keep HBz.out m8
            by_cases hk2 : G2.k = 2
            · rw [hk2] at y8
              have HG3 := Lib.hid (HG2.out (by rw [HREC.out, decide_eq_true hk2]))
              have hc10 := m10
              clear HREC HFS HG2 hk2 hnums hnm hnum0 hnum1 m8 m9 m10 m11 hl3 HALX hxc hx0 hx2
              generalize cl G0.n = n0 at *
              generalize cl G1.n = n1 at *
              generalize G2.s = sd at *
              replace HXz := Lib.hid (show Blk wz wr.heap.size 58 [.int .i64 3, .int .i64 xn, .string xs, .slice (some ⟨b8, o8, none⟩) 3 xc] from HXz.out)
              go_wp2_with fail
              clear x3 y8
              refine wp_region_lastE (regOf Tryd.f47 10) [some 40, some 41, some 42, some 43, some 44, some 45, some 46, some 47, some 48, some 49, some 50, some 51, some 52, some 53, some 54] 15 (wrrdT wr.heap.size b8 o8 nb nc 3 xn xs xc n0 n1 sd va vc l3 w0 wz) (fun e w' => (Below w0.heap.size w0 w' ∧ wz.heap.size ≤ w'.heap.size ∧ Blk w' wr.heap.size 58 [.int .i64 3, .int .i64 xn, .string xs, .slice (some ⟨b8, o8, none⟩) 3 xc] ∧ w'.heap[nb]? = wz.heap[nb]?) ∧ (e 14 = none → w'.ownsRow w0.heap.size 52 3 (.slice va l3.length vc) l3.length (rcE.cells l3))) wrrdD (by kernel_rfl) (by kernel_rfl) (by kernel_rfl) (by kernel_rfl) (by kernel_rfl) (by kernel_rfl) (by kernel_rfl) ⟨⟨HBz.out.drew, Nat.le_refl _, HXz.out, rfl⟩, fun _ => own_under HOz.out ((Below.refl _ _).drew)⟩
                (wrrd_steps wr.heap.size b8 o8 nb nc 3 xn xs xc n0 n1 sd va vc l3 w0 wz (by omega) hnb (by omega) (fun e => by have := (HOL.out _ e.symm).2; omega) (fun e => by have := (HOL.out _ e.symm).2; omega) HN3.out hb8 hn0 hn1 hc10 (by kernel_rfl) (by kernel_rfl) (by kernel_rfl) (by kernel_rfl) (by kernel_rfl)) ?_
              intro oL hoL eL vs w9 hn hallL hCw9 hT KL hKL
              replace hn : vs.length = 15 := hn
              obtain ⟨v0, vs1, rfl, hn1⟩ := len_cons hn
              obtain ⟨v1, vs2, rfl, hn2⟩ := len_cons hn1
              obtain ⟨v2, vs3, rfl, hn3⟩ := len_cons hn2
              obtain ⟨v3, vs4, rfl, hn4⟩ := len_cons hn3
              obtain ⟨v4, vs5, rfl, hn5⟩ := len_cons hn4
              obtain ⟨v5, vs6, rfl, hn6⟩ := len_cons hn5
              obtain ⟨v6, vs7, rfl, hn7⟩ := len_cons hn6
              obtain ⟨v7, vs8, rfl, hn8⟩ := len_cons hn7
              obtain ⟨v8, vs9, rfl, hn9⟩ := len_cons hn8
              obtain ⟨v9, vs10, rfl, hn10⟩ := len_cons hn9
              obtain ⟨v10, vs11, rfl, hn11⟩ := len_cons hn10
              obtain ⟨v11, vs12, rfl, hn12⟩ := len_cons hn11
              obtain ⟨v12, vs13, rfl, hn13⟩ := len_cons hn12
              obtain ⟨v13, vs14, rfl, hn14⟩ := len_cons hn13
              obtain ⟨v14, vs15, rfl, hn15⟩ := len_cons hn14
              obtain rfl := List.eq_nil_of_length_eq_zero hn15
              clear hn hn1 hn2 hn3 hn4 hn5 hn6 hn7 hn8 hn9 hn10 hn11 hn12 hn13 hn14 hn15
              obtain rfl : v0 = .slice va l3.length vc := hT 0 v0 rfl (by kernel_rfl)
              obtain rfl : v1 = .slice (some ⟨nb, 0, none⟩) 2 nc := hT 1 v1 rfl (by kernel_rfl)
              obtain rfl : v2 = .pointer (some ⟨nb, 0, none⟩) := hT 2 v2 rfl (by kernel_rfl)
              obtain rfl : v3 = .int .i64 n0 := hT 3 v3 rfl (by kernel_rfl)
              obtain rfl : v4 = .slice (some ⟨nb, 0, none⟩) 2 nc := hT 4 v4 rfl (by kernel_rfl)
              obtain rfl : v5 = .pointer (some ⟨nb, 1, none⟩) := hT 5 v5 rfl (by kernel_rfl)
              obtain rfl : v6 = .int .i64 n1 := hT 6 v6 rfl (by kernel_rfl)
              obtain rfl : v7 = .pointer (some ⟨wr.heap.size, 3, none⟩) := hT 7 v7 rfl (by kernel_rfl)
              obtain rfl : v8 = .slice (some ⟨b8, o8, none⟩) 3 xc := hT 8 v8 rfl (by kernel_rfl)
              obtain rfl : v9 = .pointer (some ⟨b8, o8 + 8, none⟩) := hT 9 v9 rfl (by kernel_rfl)
              obtain rfl : v10 = .pointer (some ⟨b8, o8 + 10, none⟩) := hT 10 v10 rfl (by kernel_rfl)
              obtain rfl : v11 = .string sd := hT 11 v11 rfl (by kernel_rfl)
              obtain rfl : v12 = .agg #[.int .i64 n0, .int .i64 n1, .string sd] := hT 12 v12 rfl (by kernel_rfl)
              have t14 := Lib.hid (hT 14 v14 rfl (by kernel_rfl))
              clear hT
              have hoL1 := opIs hoL (p := .assign (.tmp 54)) (by kernel_rfl)
              have hgL := guardIs hoL (p := none) (by kernel_rfl)
              have hdL : oL.dst = some 4 := by have := (show ((regOf Tryd.f47 10)[15]?).map (·.dst) = some (some 4) by kernel_rfl); rw [hoL] at this; simpa using this
              rw [if_pos (wanted_free hgL)]
              rw [hdL] at hKL
              simp only [puts, Act.put, List.setIfInBounds_toArray, List.set_cons_succ, List.set_cons_zero] at hKL ⊢
              obtain ⟨hC9, -⟩ := hCw9
              obtain ⟨a3, c3, e11, hown⟩ := t14.out
              subst e11
              obtain ⟨hB9, hS9, -, -⟩ := hC9
              unfold Oper.wp
              rw [show (execOp _ oL).run Tryd.prog w9 = .ok (.value (.slice a3 (l3.length + 1) c3)) w9 by unfold execOp; simp only [hoL1]; simp [go_sem]]
              show KL (Act.put _ oL.dst (.slice a3 (l3.length + 1) c3)) _
              rw [hdL]
              refine hKL _ _ ?_
              obtain ⟨l4, hl4⟩ : ∃ l4, l4 = l3 ++ [⟨n0, n1, sd⟩] := ⟨_, rfl⟩
              have hll : l3.length + 1 = l4.length := by rw [hl4]; simp
              rw [← hl4] at hown
              rw [hll] at hown ⊢
              have HO10 := Lib.hid hown
              have HB10 := Lib.hid hB9
              have HL4 := Lib.hid hl4
              clear hown t14 hKL hoL hoL1 hgL hdL hallL hB9 hS9 hll hl4 HOz HBz HXz HOL hn0 hn1 hc10 hnb hb8
              go_wp2_with fail
              have hjn9 := HJN.out
              go_roundg (l.length - (j + 1))
              case rel => exact ⟨j + 1, a3, c3, l4, hjn9, rfl, by go_num, rfl, Lib.hid (by rw [HL4.out, ← HLT.out, HRC.out]), HG3, HO10, HB10⟩
              case measure => omega
            · have HZ9 := Lib.hid (HFS.out (by rw [HREC.out, decide_eq_false hk2]))
              have hkb : (G2.k != 2) = true := by simpa using hk2
              generalize G2.k = g2 at *
              clear HREC HFS HG2 hk2 hnums HOz HXz hnm hnum0 hnum1 m9 m10 m11 hl3 HALX hxc hx0 hx2 HRC
              go_wp2_with fail
              go_ret2
              exact ⟨HBW.out, .inl ⟨HZ9.out, _, _, _, rfl⟩⟩
          · have HZ9 := Lib.hid (HFS.out (by unfold recAllB; rw [decide_eq_false_iff_not]; intro h; exact hl3 h.2.1))
            have hxl : ((xl.length : Int) != 3) = true := by simp; omega
            clear hl3 HFS HG2 HOz hnums hnm HXz HALX hxc hx0 hx2
            go_wp2_with fail
            go_ret2
            exact ⟨HBW.out, .inl ⟨HZ9.out, _, _, _, rfl⟩⟩
      · obtain rfl : j = l.length := by omega
        have hG9 := HG.out
        rw [List.take_length] at hG9
        have hL9 : l3 = l.map recCut := by rw [HL3.out, List.take_length]
        have HL9 := Lib.hid hL9
        have HLEN : Hid (l3.length = (l.map recCut).length) := Lib.hid (by rw [← hL9])
        have HBW := Lib.hid (HB0.out.trans (Below.lower hB.out HB0.out.size))
        have hs0 := HS0.out
        clear hL9
        obtain rfl : b = true := by rw [HV.out]; exact List.all_eq_true.2 hG9
        clear hG9 HG
        go_wp2_with fail
        go_ret2
        refine ⟨HBW.out, .inr ⟨rfl, va, vc, ?_, ?_⟩⟩
        · rw [← HLEN.out]; rfl
        · rw [← HL9.out]; exact own_base hO.out (by omega)
  · have hk2 : (k != 3) = true := by simpa using hk
    obtain rfl : b = false := by rw [hb.out, decide_eq_false hk, Bool.false_and]
    go_wp2_with fail
    go_ret2
    exact ⟨HB0.out, .inl ⟨rfl, _, _, _, rfl⟩⟩
set_option maxRecDepth 100000 in
set_option maxHeartbeats 2000000 in
theorem rgetRecs_any (k n : Int) (s : ByteArray) (a : Option Addr) (l : List V) (c : Nat) (w : World) (S : Nat → Prop) (hS : ∀ p, S p → p < w.heap.size) (hall : VAll w S a 0 l) (hm : l.length ≤ 4000) (b : Bool) (hb : Hid (b = (decide (k = 3) && l.all recIsB))) :
    Calls Tryd.prog 50 #[.agg #[.int .i64 k, .int .i64 n, .string s, .slice a l.length c]] w (RecsP w b (l.map recRead)) := by
  have HB0 := Lib.hid ((Below.refl w.heap.size w).alloc (Nat.le_refl _) (.cells #[.int .i64 k, .int .i64 n, .string s, .slice a l.length c] 58))
  have HF0 := Lib.hid (Four.new w 58 (.int .i64 k) (.int .i64 n) (.string s) (.slice a l.length c))
  have HS0 : Hid ((w.alloc (.cells #[.int .i64 k, .int .i64 n, .string s, .slice a l.length c] 58)).heap.size = w.heap.size + 1) := Lib.hid (by simp)
  have HALL := Lib.hid (VAll.move (w' := w.alloc (.cells #[.int .i64 k, .int .i64 n, .string s, .slice a l.length c] 58)) (fun _ h => h) (fun p hp => HB0.out.block p (hS p hp)) _ _ _ hall)
  have HSP := Lib.hid (fun p (hp : S p) => show p < (w.alloc (.cells #[.int .i64 k, .int .i64 n, .string s, .slice a l.length c] 58)).heap.size from Nat.lt_of_lt_of_le (hS p hp) HB0.out.size)
  clear hall hS
  go_enter Tryd.func50, Tryd.ntmps50
  go_upto_region 1 with fail
  generalize (w.alloc (.cells #[.int .i64 k, .int .i64 n, .string s, .slice a l.length c] 58)) = w0 at *
  have v0 := HF0.out.c0
  have v3 := HF0.out.c3
  have HB1 := Lib.hid ((Below.refl w0.heap.size w0).alloc (Nat.le_refl _) (.cells #[] 52))
  have HO1 := Lib.hid (World.ownsRow_made (e := 52) (size := 3) (base := w0.heap.size) w0 #[] 0 (Nat.le_refl _) (Nat.zero_le _) rfl)
  have v3' := (show Four _ w.heap.size _ _ _ _ _ from (HB1.out.block _ (by have := HS0.out; omega)).trans HF0.out).c3
  go_wp2_with fail
  clear v0 v3 v3'
  go_loopg [4, 13] l.length (fun gk vo v wr => ∃ (j : Nat) (va : Option Addr) (vc : Nat) (l3 : List Rc), j ≤ l.length ∧ gk = l.length - j ∧ v = .int .i64 (j : Int) ∧ vo = .slice va l3.length vc ∧ Hid (l3 = (l.take j).map recRead) ∧ Hid (∀ y ∈ l.take j, recIsB y = true) ∧ Hid (wr.ownsRow w0.heap.size 52 3 (.slice va l3.length vc) l3.length (rcE.cells l3)) ∧ Hid (Below w0.heap.size w0 wr))
  case atStart => exact ⟨0, _, _, [], Nat.zero_le _, rfl, rfl, rfl, Lib.hid rfl, Lib.hid (fun y hy => by simp at hy), HO1, HB1⟩
  case round =>
    obtain ⟨j, va, vc, l3, hj, rfl, rfl, rfl, HL3, HG, hO, hB⟩ := hrel
    by_cases hjn : j < l.length
    · have hji : (j : Int) < (l.length : Int) := by omega
      have HJN := Lib.hid hjn
      have hjl : j < l.length := by omega
      obtain ⟨b9, o9, cs9, rfl, hSb, hat9, hc9⟩ := HALL.out.at 0 l j hjl
      rw [Nat.zero_add] at hc9
      have HLT : Hid (l3 ++ [recRead l[j]] = (l.take (j + 1)).map recRead) := Lib.hid (by rw [HL3.out, List.take_add_one, List.getElem?_eq_getElem hjl, List.map_append]; rfl)
      have HG2 : Hid (recIsB l[j] = true → ∀ y ∈ l.take (j + 1), recIsB y = true) := Lib.hid (fun h y hy => by
        rw [List.take_add_one, List.getElem?_eq_getElem hjl, List.mem_append] at hy
        rcases hy with hy | hy
        · exact HG.out y hy
        · rw [Option.toList_some, List.mem_singleton] at hy; rw [hy]; exact h)
      have HFS : Hid (recIsB l[j] = false → b = false) := Lib.hid (fun h => (by rw [hb.out]; have : l.all recIsB = false := (by rw [List.all_eq_false]; exact ⟨_, List.getElem_mem hjl, by rw [h]; decide⟩); rw [this, Bool.and_false]))
      have HN3 : Hid (l3.length ≤ 1000000) := Lib.hid (by rw [HL3.out, List.length_map, List.length_take]; omega)
      generalize l[j] = x9 at *
      obtain ⟨xk, xn, xs, xl⟩ := x9
      simp only [V.At] at hat9
      obtain ⟨xa, xc, rfl, hxc, hx0, hall9⟩ := hat9
      have y0 := cell_keep hB.out (hc9 0 _ rfl)
      have y1 := cell_keep hB.out (hc9 1 _ rfl)
      have y2 := cell_keep hB.out (hc9 2 _ rfl)
      have y3 := cell_keep hB.out (hc9 3 _ rfl)
      simp only [Nat.add_zero] at y0
      clear hc9 HL3
      have hbq : Below wr.heap.size wr (wr.alloc (.cells #[.int .i64 xk, .int .i64 xn, .string xs, .slice xa xl.length xc] 58)) := (Below.refl _ wr).alloc (Nat.le_refl _) _
      have HOq := Lib.hid (own_under hO.out hbq)
      have HBq := Lib.hid (hB.out.trans (Below.lower hbq hB.out.size))
      have HXq : Hid (Blk (wr.alloc (.cells #[.int .i64 xk, .int .i64 xn, .string xs, .slice xa xl.length xc] 58)) wr.heap.size 58 [.int .i64 xk, .int .i64 xn, .string xs, .slice xa xl.length xc]) := Lib.hid (heap_alloc_new wr _)
      have HSq : Hid ((wr.alloc (.cells #[.int .i64 xk, .int .i64 xn, .string xs, .slice xa xl.length xc] 58)).heap.size = wr.heap.size + 1) := Lib.hid (by simp)
      have HOL := Lib.hid hO.out.lt
      have HALX := Lib.hid hall9
      have hsr := hB.out.size
      clear hbq hO hB HG hall9 hSb
      go_upto_region 5 with fail
      clear y0 y1 y2 y3
      generalize (wr.alloc (.cells #[.int .i64 xk, .int .i64 xn, .string xs, .slice xa xl.length xc] 58)) = wq at *
      have hsq := HSq.out
      have HALQ := Lib.hid (VAll.move (w' := wq) (fun _ h => h) (fun p hp => HBq.out.block p (HSP.out p hp)) _ _ _ HALX.out)
      have x0 := HXq.out.cell (j := 0) rfl
      have x3 := HXq.out.cell (j := 3) rfl
      have HBWq := Lib.hid (HB0.out.trans (Below.lower HBq.out HB0.out.size))
      by_cases hk3 : xk = 3
      · subst hk3
        by_cases hl3 : xl.length = 3
        · obtain ⟨b8, o8, rfl, hS8, hel⟩ := elemsV HALX.out (by rw [hl3]; decide)
          have hb8 : b8 < w0.heap.size := HSP.out _ hS8
          obtain ⟨za2, zc2, -, m8, m9, m10, m11⟩ := hel 2 (by rw [hl3]; decide)
          simp only [Nat.reduceMul, Nat.add_assoc, Nat.reduceAdd] at m8 m9 m10 m11
          clear hel
          obtain ⟨G0, G1, G2, rfl⟩ : ∃ p q r, xl = [p, q, r] := by
            match xl, hl3 with
            | [p, q, r], _ => exact ⟨p, q, r, rfl⟩
          have hxc : 3 ≤ xc := hxc
          change w0.cell? ⟨b8, o8 + 8, none⟩ = some (.int .i64 G2.k) at m8
          change w0.cell? ⟨b8, o8 + 10, none⟩ = some (.string G2.s) at m10
          change wq.cell? ⟨wr.heap.size, 3, none⟩ = some (.slice (some ⟨b8, o8, none⟩) 3 xc) at x3
          have hxci : (2 : Int) ≤ (xc : Int) := by omega
          have y8 := cell_keep HBq.out m8
          have HREC : Hid (recIsB (V.mk 3 xn xs [G0, G1, G2]) = (decide (G2.k = 2) && [G0, G1].all smallB)) := Lib.hid (by
            unfold recIsB
            rw [Bool.eq_iff_iff, Bool.and_eq_true, decide_eq_true_eq, decide_eq_true_eq]
            simp only [List.all_cons, List.all_nil, Bool.and_true, Bool.and_eq_true, smallB, decide_eq_true_eq]
            exact ⟨fun h => ⟨h.2.2.2.2, h.2.2.1, h.2.2.2.1⟩, fun h => ⟨rfl, rfl, h.2.1, h.2.2, h.1⟩⟩)
          have HRC : Hid (recRead (V.mk 3 xn xs [G0, G1, G2]) = ⟨G0.n, G1.n, G2.s⟩) := Lib.hid rfl
          have HALT : Hid (VAll wq S (some ⟨b8, o8, none⟩) 0 [G0, G1]) := Lib.hid (by
            have h := HALQ.out
            simp only [VAll] at h ⊢
            exact ⟨h.1, h.2.1, trivial⟩)
          by_cases hk2 : G2.k = 2
          · rw [hk2] at y8
            have hcall := Lib.hid (show Calls Tryd.prog 49 #[.slice (some ⟨b8, o8, none⟩) 2 xc] wq _ from rsmalls_any (some ⟨b8, o8, none⟩) [G0, G1] xc wq S HALT.out (by simp) _ (Lib.hid rfl))
            have hc10 := m10
            have HK2 := Lib.hid hk2
            clear hk2 m8 m9 m10 m11 hl3 HALX HALQ HALT hxc hx0
            go_wp2_with fail
            refine hcall.out.mono ?_
            rintro e wz ⟨hbz, hcase⟩
            have HBz := Lib.hid (below_then HBq.out hbz HBq.out.size)
            have HOz := Lib.hid (own_under HOq.out hbz)
            have HXz := Lib.hid (HXq.out.keep hbz)
            have HBW := Lib.hid (HB0.out.trans (Below.lower HBz.out HB0.out.size))
            have hsz : wq.heap.size ≤ wz.heap.size := hbz.size
            clear x0 x3 y8 hbz HOq HBq HXq hcall HBWq
            rcases hcase with ⟨hbf, fa, fn', fc, rfl⟩ | ⟨hbt, na, nc, rfl, hnums⟩
            · have HZ9 := Lib.hid (HFS.out (by rw [HREC.out, hbf, Bool.and_false]))
              clear hbf HFS HG2 HOz HXz HREC
              go_wp2_with fail
              go_ret2
              exact ⟨HBW.out, .inl ⟨HZ9.out, _, _, _, rfl⟩⟩
            · have HG3 := Lib.hid (HG2.out (by rw [HREC.out, hbt, decide_eq_true HK2.out]; rfl))
              obtain ⟨nb, rfl, hnb0, hnb, hn0, hn1⟩ := own_two (x := G0.n) (y := G1.n) hnums
              clear HREC HFS HG2 hnums hbt HK2
              generalize G0.n = n0 at *
              generalize G1.n = n1 at *
              generalize G2.s = sd at *
              replace HXz := Lib.hid (show Blk wz wr.heap.size 58 [.int .i64 3, .int .i64 xn, .string xs, .slice (some ⟨b8, o8, none⟩) 3 xc] from HXz.out)
              go_wp2_with fail
              refine wp_region_lastE (regOf Tryd.f50 10) [some 43, some 44, some 45, some 46, some 47, some 48, some 49, some 50, some 51, some 52, some 53, some 54, some 55, some 56, some 57] 15 (rrrdT wr.heap.size b8 o8 nb nc 3 xn xs xc n0 n1 sd va vc l3 w0 wz) (fun e w' => (Below w0.heap.size w0 w' ∧ wz.heap.size ≤ w'.heap.size ∧ Blk w' wr.heap.size 58 [.int .i64 3, .int .i64 xn, .string xs, .slice (some ⟨b8, o8, none⟩) 3 xc] ∧ w'.heap[nb]? = wz.heap[nb]?) ∧ (e 14 = none → w'.ownsRow w0.heap.size 52 3 (.slice va l3.length vc) l3.length (rcE.cells l3))) rrrdD (by kernel_rfl) (by kernel_rfl) (by kernel_rfl) (by kernel_rfl) (by kernel_rfl) (by kernel_rfl) (by kernel_rfl) ⟨⟨HBz.out.drew, Nat.le_refl _, HXz.out, rfl⟩, fun _ => own_under HOz.out ((Below.refl _ _).drew)⟩
                (rrrd_steps wr.heap.size b8 o8 nb nc 3 xn xs xc n0 n1 sd va vc l3 w0 wz (by omega) hnb (by omega) (fun e => by have := (HOL.out _ e.symm).2; omega) (fun e => by have := (HOL.out _ e.symm).2; omega) HN3.out hb8 hn0 hn1 hc10 (by kernel_rfl) (by kernel_rfl) (by kernel_rfl) (by kernel_rfl) (by kernel_rfl)) ?_
              intro oL hoL eL vs w9 hn hallL hCw9 hT KL hKL
              replace hn : vs.length = 15 := hn
              obtain ⟨v0, vs1, rfl, hn1⟩ := len_cons hn
              obtain ⟨v1, vs2, rfl, hn2⟩ := len_cons hn1
              obtain ⟨v2, vs3, rfl, hn3⟩ := len_cons hn2
              obtain ⟨v3, vs4, rfl, hn4⟩ := len_cons hn3
              obtain ⟨v4, vs5, rfl, hn5⟩ := len_cons hn4
              obtain ⟨v5, vs6, rfl, hn6⟩ := len_cons hn5
              obtain ⟨v6, vs7, rfl, hn7⟩ := len_cons hn6
              obtain ⟨v7, vs8, rfl, hn8⟩ := len_cons hn7
              obtain ⟨v8, vs9, rfl, hn9⟩ := len_cons hn8
              obtain ⟨v9, vs10, rfl, hn10⟩ := len_cons hn9
              obtain ⟨v10, vs11, rfl, hn11⟩ := len_cons hn10
              obtain ⟨v11, vs12, rfl, hn12⟩ := len_cons hn11
              obtain ⟨v12, vs13, rfl, hn13⟩ := len_cons hn12
              obtain ⟨v13, vs14, rfl, hn14⟩ := len_cons hn13
              obtain ⟨v14, vs15, rfl, hn15⟩ := len_cons hn14
              obtain rfl := List.eq_nil_of_length_eq_zero hn15
              clear hn hn1 hn2 hn3 hn4 hn5 hn6 hn7 hn8 hn9 hn10 hn11 hn12 hn13 hn14 hn15
              obtain rfl : v0 = .slice va l3.length vc := hT 0 v0 rfl (by kernel_rfl)
              obtain rfl : v1 = .slice (some ⟨nb, 0, none⟩) 2 nc := hT 1 v1 rfl (by kernel_rfl)
              obtain rfl : v2 = .pointer (some ⟨nb, 0, none⟩) := hT 2 v2 rfl (by kernel_rfl)
              obtain rfl : v3 = .int .i64 n0 := hT 3 v3 rfl (by kernel_rfl)
              obtain rfl : v4 = .slice (some ⟨nb, 0, none⟩) 2 nc := hT 4 v4 rfl (by kernel_rfl)
              obtain rfl : v5 = .pointer (some ⟨nb, 1, none⟩) := hT 5 v5 rfl (by kernel_rfl)
              obtain rfl : v6 = .int .i64 n1 := hT 6 v6 rfl (by kernel_rfl)
              obtain rfl : v7 = .pointer (some ⟨wr.heap.size, 3, none⟩) := hT 7 v7 rfl (by kernel_rfl)
              obtain rfl : v8 = .slice (some ⟨b8, o8, none⟩) 3 xc := hT 8 v8 rfl (by kernel_rfl)
              obtain rfl : v9 = .pointer (some ⟨b8, o8 + 8, none⟩) := hT 9 v9 rfl (by kernel_rfl)
              obtain rfl : v10 = .pointer (some ⟨b8, o8 + 10, none⟩) := hT 10 v10 rfl (by kernel_rfl)
              obtain rfl : v11 = .string sd := hT 11 v11 rfl (by kernel_rfl)
              obtain rfl : v12 = .agg #[.int .i64 n0, .int .i64 n1, .string sd] := hT 12 v12 rfl (by kernel_rfl)
              have t14 := Lib.hid (hT 14 v14 rfl (by kernel_rfl))
              clear hT
              have hoL1 := opIs hoL (p := .assign (.tmp 57)) (by kernel_rfl)
              have hgL := guardIs hoL (p := none) (by kernel_rfl)
              have hdL : oL.dst = some 4 := by have := (show ((regOf Tryd.f50 10)[15]?).map (·.dst) = some (some 4) by kernel_rfl); rw [hoL] at this; simpa using this
              rw [if_pos (wanted_free hgL)]
              rw [hdL] at hKL
              simp only [puts, Act.put, List.setIfInBounds_toArray, List.set_cons_succ, List.set_cons_zero] at hKL ⊢
              obtain ⟨hC9, -⟩ := hCw9
              obtain ⟨a3, c3, e11, hown⟩ := t14.out
              subst e11
              obtain ⟨hB9, hS9, -, -⟩ := hC9
              unfold Oper.wp
              rw [show (execOp _ oL).run Tryd.prog w9 = .ok (.value (.slice a3 (l3.length + 1) c3)) w9 by unfold execOp; simp only [hoL1]; simp [go_sem]]
              show KL (Act.put _ oL.dst (.slice a3 (l3.length + 1) c3)) _
              rw [hdL]
              refine hKL _ _ ?_
              obtain ⟨l4, hl4⟩ : ∃ l4, l4 = l3 ++ [⟨n0, n1, sd⟩] := ⟨_, rfl⟩
              have hll : l3.length + 1 = l4.length := by rw [hl4]; simp
              rw [← hl4] at hown
              rw [hll] at hown ⊢
              have HO10 := Lib.hid hown
              have HB10 := Lib.hid hB9
              have HL4 := Lib.hid hl4
              clear hown t14 hKL hoL hoL1 hgL hdL hallL hB9 hS9 hll hl4 HOz HBz HXz HOL hn0 hn1 hc10 hnb hb8
              go_wp2_with fail
              have hjn9 := HJN.out
              go_roundg (l.length - (j + 1))
              case rel => exact ⟨j + 1, a3, c3, l4, hjn9, rfl, by go_num, rfl, Lib.hid (by rw [HL4.out, ← HLT.out, HRC.out]), HG3, HO10, HB10⟩
              case measure => omega
          · have HZ9 := Lib.hid (HFS.out (by rw [HREC.out, decide_eq_false hk2, Bool.false_and]))
            have hkb : (G2.k != 2) = true := by simpa using hk2
            generalize G2.k = g2 at *
            clear HREC HFS HG2 hk2 HOq HXq m9 m10 m11 hl3 HALX HALQ HALT hxc hx0 HRC hxci
            go_wp2_with fail
            go_ret2
            exact ⟨HBWq.out, .inl ⟨HZ9.out, _, _, _, rfl⟩⟩
        · have HZ9 := Lib.hid (HFS.out (by unfold recIsB; rw [decide_eq_false_iff_not]; intro h; exact hl3 h.2.1))
          have hxl : ((xl.length : Int) != 3) = true := by simp; omega
          clear hl3 HFS HG2 HOq HXq HALX HALQ hxc hx0
          go_wp2_with fail
          go_ret2
          exact ⟨HBWq.out, .inl ⟨HZ9.out, _, _, _, rfl⟩⟩
      · have HZ9 := Lib.hid (HFS.out (by unfold recIsB; rw [decide_eq_false_iff_not]; intro h; exact hk3 h.1))
        have hxk : (xk != 3) = true := by simpa using hk3
        clear hk3 HFS HG2 HOq HXq HALX HALQ hxc hx0
        go_wp2_with fail
        go_ret2
        exact ⟨HBWq.out, .inl ⟨HZ9.out, _, _, _, rfl⟩⟩
    · obtain rfl : j = l.length := by omega
      have hG9 := HG.out
      rw [List.take_length] at hG9
      have hL9 : l3 = l.map recRead := by rw [HL3.out, List.take_length]
      have HL9 := Lib.hid hL9
      have HLEN : Hid (l3.length = (l.map recRead).length) := Lib.hid (by rw [← hL9])
      have HBW := Lib.hid (HB0.out.trans (Below.lower hB.out HB0.out.size))
      have hs0 := HS0.out
      clear hL9
      have hv : b = (k == 3) := by rw [hb.out, List.all_eq_true.2 hG9, Bool.and_true]; by_cases h : k = 3 <;> simp [h]
      have HVB := Lib.hid hv
      have v0 := (show Four wr w.heap.size _ _ _ _ _ from (hB.out.block _ (by omega)).trans HF0.out).c0
      clear hG9 HG hv
      go_wp2_with fail
      go_region
      go_wp2_with fail
      go_ret2
      cases hb3 : (k == 3) with
      | false => exact ⟨HBW.out.drew, .inl ⟨by rw [HVB.out, hb3], _, _, _, rfl⟩⟩
      | true =>
        refine ⟨HBW.out.drew, .inr ⟨by rw [HVB.out, hb3], va, vc, ?_, ?_⟩⟩
        · rw [← HLEN.out]; rfl
        · rw [← HL9.out]; exact own_base (own_under hO.out (Below.refl _ _).drew) (by omega)
end Go.Proofs.YtboohpkmllelgaaDoor
