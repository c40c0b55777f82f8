/-
  The walks of the reference's Like at disks that are one, and of its Crash: new blocks alone are made; the texts within reach.
-/
import Derived.Test.YtjppommhamaibaaDkU
import Derived.Laws.StructEq
namespace Go.Proofs.Ytjppommhamaibaa
open Go.RowKit Go.BigFrame
set_option linter.unusedVariables false

theorem neqFile (x y z : ByteArray) (w : World) : (binOp .neq 32 (.agg #[.string x, .string y, .string z]) (.agg #[.string x, .string y, .string z])).run Try.prog w = .ok (.bool false) w := by
  have u3 := Try.underlying9
  have hS : Try.prog.underlying 32 = some (.struct (Try.prog.fieldsOf 32)) := by kernel_rfl
  have hp : Try.prog.stoodInHeld 32 = false := by kernel_rfl
  rw [run_neq_struct, show (10000 : Nat) = 9999 + 1 from rfl, run_equalIn_agg w 9999 32 _ _ hS hp]
  simp only [Program.fieldsOf, Try.underlying32]
  go_simp
set_option maxRecDepth 20000 in
set_option maxHeartbeats 1000000 in
theorem refLike_same (a : Option Addr) (n c : Nat) (a' : Option Addr) (n' c' : Nat) (d : Dk) (w : World) (h : DkAt w a n c d) (h' : DkAt w a' n' c' d) :
    Calls Try.prog 15 #[d.val a n c, d.val a' n' c'] w fun e w' => e = .returned (.bool true) ∧ Below w.heap.size w w' := by
  obtain rfl : n = n' := h.len.symm.trans h'.len
  have hnb := h.nb
  have HN := Lib.hid h.len
  have hx := (DkBox.new w d a n c).alloc (.cells #[.int .i64 d.room, .slice a' n c', .int .i64 d.left, .bool d.down] 24)
  have hy := DkBox.new (w.alloc (.cells #[.int .i64 d.room, .slice a n c, .int .i64 d.left, .bool d.down] 24)) d a' n c'
  have hb : Below w.heap.size w ((w.alloc (.cells #[.int .i64 d.room, .slice a n c, .int .i64 d.left, .bool d.down] 24)).alloc (.cells #[.int .i64 d.room, .slice a' n c', .int .i64 d.left, .bool d.down] 24)) := ((Below.refl _ w).alloc (Nat.le_refl _) _).alloc (by simp) _
  rw [World.size_alloc] at hy
  have HX := Lib.hid hx
  have HY := Lib.hid hy
  have HB := Lib.hid hb
  have H1 := Lib.hid (h.sl.keep hb)
  have H2 := Lib.hid (h'.sl.keep hb)
  clear h h' hx hy hb
  obtain ⟨rm, l, lf, dn⟩ := d
  unfold Dk.val
  dsimp only at *
  have hnf := neqFile
  have b1 : (rm != rm) = false := by simp
  have b2 : (lf != lf) = false := by simp
  have b4 : ((n : Int) != (n : Int)) = false := by simp
  go_enter Try.func15, Try.ntmps15
  go_wp2_with fail
  generalize (w.alloc (.cells #[.int .i64 rm, .slice a n c, .int .i64 lf, .bool dn] 24)).alloc (.cells #[.int .i64 rm, .slice a' n c', .int .i64 lf, .bool dn] 24) = W at *
  go_loopg [5, 37] n (fun gk v5 i wr => ∃ k : Nat, k ≤ n ∧ gk = n - k ∧ i = .int .i64 (k : Int) ∧ Hid (Below W.heap.size W wr))
  case atStart => exact ⟨0, Nat.zero_le _, rfl, rfl, Lib.hid (Below.refl _ _)⟩
  case round =>
    obtain ⟨k, hk, rfl, rfl, hW⟩ := hrel
    by_cases hlt : k < n
    · have hkl : k < l.length := by rw [HN.out]; exact hlt
      obtain ⟨-, b, off, rfl, hc1⟩ := fl_at (H1.out.keep hW.out) (by omega)
      obtain ⟨-, b', off', rfl, hc2⟩ := fl_at (H2.out.keep hW.out) (by omega)
      obtain ⟨c0, c1, c2⟩ := hc1 k hkl
      obtain ⟨d0, d1, d2⟩ := hc2 k hkl
      have hki : (k : Int) < (n : Int) := by omega
      have x1 := (Four.keep HX.out hW.out).c1
      have y1 := (Four.keep HY.out hW.out).c1
      clear hc1 hc2
      generalize l[k] = o at *
      obtain ⟨o0, o1, o2⟩ := o
      dsimp only at *
      go_wp2_with fail
      go_quiet (fail)
      go_wp2_with fail
      go_roundg (n - (k + 1))
      case rel => exact ⟨k + 1, by omega, rfl, by go_num, Lib.hid (below_drewN hW.out _)⟩
      case measure => omega
    · have hki : (n : Int) ≤ (k : Int) := by omega
      go_wp2_with fail
      go_ret
      exact ⟨rfl, below_then HB.out hW.out HB.out.size⟩
end Go.Proofs.Ytjppommhamaibaa
