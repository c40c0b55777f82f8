/-
  The walks of slices.Clone of files, and of Read: new blocks alone are made; the texts within reach.
-/
import Derived.Test.YtjppommhamaibaaDkE
import Derived.Test.YtjppommhamaibaaFour
namespace Go.Proofs.Ytjppommhamaibaa
open Go.RowKit Go.BigFrame
set_option linter.unusedVariables false

theorem infoFile : (Try.prog.info? 32).map (fun i => (i.zero, i.size, i.bytes)) = some (some (.agg #[.string ⟨#[]⟩, .string ⟨#[]⟩, .string ⟨#[]⟩]), 3, 48) := by kernel_rfl
theorem row_mono {w : World} {B base : Nat} {e : TypeId} {size k : Nat} {v : Value} {xs : List Value} (h : w.ownsRow base e size v k xs) (hB : B ≤ base) : w.ownsRow B e size v k xs := Enc.row_down h hB
/-- A slice of files of one's own. -/
def OwnFs (w w' : World) (l : List Fl) (v : Value) : Prop := w'.ownsRow w.heap.size 32 3 v l.length (flE.cells l) ∧ Below w.heap.size w w'
set_option maxHeartbeats 1000000 in
theorem clone_any (a : Option Addr) (n c : Nat) (l : List Fl) (w : World) (h : flE.Sl w a n l) (hn : n ≤ 1000000) (hcn : a = none → c = 0) :
    Calls Try.prog 24 #[.slice a n c] w fun e w' => ∃ v, e = .returned v ∧ OwnFs w w' l v := by
  obtain ⟨i0, hi, hz0, hz1, hz2⟩ := info_parts infoFile
  have HI := Lib.hid hi
  have HZ := Lib.hid (And.intro hz0 (And.intro hz1 hz2))
  clear hi hz0 hz1 hz2
  have hl : n = l.length := h.1
  have q : ∀ (w : World) (a : Option Addr) (n c n' c' : Nat), (binOp .eql 22 (.slice a n c) (.slice none n' c')).run Try.prog w = .ok (.bool a.isNone) w := fun w a n c n' c' => Lib.run_eql_slice_nil w _ _ a n c n' c' Try.underlying22
  cases a with
  | none =>
    obtain rfl := hcn rfl
    have hl0 : l = [] := by
      rcases h.2 with h1 | ⟨b, off, e, _⟩
      · exact h1
      · cases e
    subst hl0
    have hn0 : n = 0 := hl
    clear hl
    subst hn0
    clear h hcn hn
    go_enter Try.func24, Try.ntmps24
    go_wp2
    go_ret
    exact ⟨_, rfl, World.ownsRow_nil _ _ _ _, Below.refl _ _⟩
  | some x =>
    have HL := Lib.hid hl
    have HO0 : Hid ((w.alloc (.cells #[] 32)).ownsRow w.heap.size 32 3 (.slice (some ⟨w.heap.size, 0, none⟩) 0 0) 0 (flE.cells [])) := Lib.hid (Enc.row_lit0 w w.heap.size (Nat.le_refl _) _ _)
    have HBA := Lib.hid ((Below.refl w.heap.size w).alloc (Nat.le_refl _) (.cells #[] 32))
    have HS := Lib.hid (h.keep HBA.out)
    clear h hl hcn
    go_enter Try.func24, Try.ntmps24
    go_wp2_with (at_builtin; refine Enc.wpList_app (E := flE) _ rfl _ _ 22 rfl w.heap.size 32 i0 _ 48 Try.underlying22 HI.out HZ.out.1 HZ.out.2.1 HZ.out.2.2 rfl _ 0 [] HO0.out rfl (some x) n c l rfl HS.out (fun e => by cases e) (by unfold maxLen; omega) (by omega) HBA.out.size ?_)
    intro v3 w3 ho3 hg3
    have HB3 := Lib.hid (HBA.out.grown hg3 HBA.out.size (fun q e => (HO0.out.lt q e).1))
    have HO3 : Hid (w3.ownsRow w.heap.size 32 3 v3 l.length (flE.cells l)) := Lib.hid (by rw [← HL.out]; exact ho3)
    clear ho3 hg3
    go_wp2_with fail
    go_ret
    exact ⟨_, rfl, HO3.out, HB3.out⟩

theorem Four.keep {w w' : World} {b : Nat} {t : TypeId} {v0 v1 v2 v3 : Value} (h : Four w b t v0 v1 v2 v3) (hb : Below w.heap.size w w') : Four w' b t v0 v1 v2 v3 := (hb.block b (lt_of_block h)).trans h
/-- The disk, boxed. -/
def DkBox (w : World) (b : Nat) (d : Dk) (a : Option Addr) (n c : Nat) : Prop := Four w b 24 (.int .i64 d.room) (.slice a n c) (.int .i64 d.left) (.bool d.down)
theorem DkBox.keep {w w' : World} {b : Nat} {d : Dk} {a : Option Addr} {n c : Nat} (h : DkBox w b d a n c) (hb : Below w.heap.size w w') : DkBox w' b d a n c := Four.keep h hb
theorem DkBox.new (w : World) (d : Dk) (a : Option Addr) (n c : Nat) : DkBox (w.alloc (.cells #[.int .i64 d.room, .slice a n c, .int .i64 d.left, .bool d.down] 24)) w.heap.size d a n c := Four.new ..
theorem slAt_one (w : World) (s : ByteArray) : SlAt (w.alloc (.cells #[.string s] 9)) (some ⟨w.heap.size, 0, none⟩) 1 ([s].map Value.string) :=
  ⟨rfl, .inr ⟨w.heap.size, 0, rfl, fun i hi => by
    have : i = 0 := by simpa using hi
    subst this
    exact cell_new (cs := #[.string s]) 0 (v := .string s) rfl⟩⟩
theorem slAt_two (w : World) (s t : ByteArray) : SlAt (w.alloc (.cells #[.string s, .string t] 9)) (some ⟨w.heap.size, 0, none⟩) 2 ([s, t].map Value.string) :=
  ⟨rfl, .inr ⟨w.heap.size, 0, rfl, fun i hi => by
    have : i < 2 := by simpa using hi
    match i, this with
    | 0, _ => exact cell_new (cs := #[.string s, .string t]) 0 (v := .string s) rfl
    | 1, _ => exact cell_new (cs := #[.string s, .string t]) 1 (v := .string t) rfl⟩⟩
theorem readyD_cases (d : Dk) (nms : List ByteArray) : readyD d nms = 0 ∨ readyD d nms = 1 ∨ readyD d nms = 132 := by
  unfold readyD; split
  · exact .inr (.inl rfl)
  · split
    · exact .inr (.inr rfl)
    · exact .inl rfl
theorem ready_one (a : Option Addr) (n c : Nat) (d : Dk) (nm : ByteArray) (w W : World) (h : DkAt w a n c d) (hb : Below w.heap.size w W) (hs : nm.size ≤ maxLen) (B : Nat) (hB : B = W.heap.size) (v : Int) (hv : Hid (v = readyD d [nm])) :
    Calls Try.prog 27 #[d.val a n c, .slice (some ⟨B, 0, none⟩) 1 1] (W.alloc (.cells #[.string nm] 9)) fun e w' => e = .returned (.int .i64 v) ∧ Below W.heap.size W w' := by
  subst hB
  exact (ready_any a n c d _ 1 1 [nm] _ (h.keep (hb.alloc hb.size _)) (slAt_one W nm) (by decide) (fun s hs' => by rw [List.mem_singleton.1 hs']; exact hs) v hv).mono fun e w' ⟨he, hb2⟩ =>
    ⟨he, below_then ((Below.refl _ W).alloc (Nat.le_refl _) _) hb2 (by simp)⟩
theorem ready_two (a : Option Addr) (n c : Nat) (d : Dk) (nm to : ByteArray) (w W : World) (h : DkAt w a n c d) (hb : Below w.heap.size w W) (hs : nm.size ≤ maxLen) (hs2 : to.size ≤ maxLen) (B : Nat) (hB : B = W.heap.size) (v : Int) (hv : Hid (v = readyD d [nm, to])) :
    Calls Try.prog 27 #[d.val a n c, .slice (some ⟨B, 0, none⟩) 2 2] (W.alloc (.cells #[.string nm, .string to] 9)) fun e w' => e = .returned (.int .i64 v) ∧ Below W.heap.size W w' := by
  subst hB
  exact (ready_any a n c d _ 2 2 [nm, to] _ (h.keep (hb.alloc hb.size _)) (slAt_two W nm to) (by decide) (fun s hs' => by
    rcases List.mem_cons.1 hs' with rfl | hs'
    · exact hs
    · rw [List.mem_singleton.1 hs']; exact hs2) v hv).mono fun e w' ⟨he, hb2⟩ =>
    ⟨he, below_then ((Below.refl _ W).alloc (Nat.le_refl _) _) hb2 (by simp)⟩

set_option maxHeartbeats 1000000 in
theorem read_any (a : Option Addr) (n c : Nat) (d : Dk) (nm : ByteArray) (w : World) (h : DkAt w a n c d) (hs : nm.size ≤ maxLen) (v : ByteArray) (x : Int) (hv : Hid ((v, x) = readD d nm)) :
    Calls Try.prog 11 #[d.val a n c, .string nm] w fun e w' => e = .returned (.tuple #[.string v, .int .i64 x]) ∧ Below w.heap.size w w' := by
  have hA : Below w.heap.size w (w.alloc (.cells #[.int .i64 d.room, .slice a n c, .int .i64 d.left, .bool d.down] 24)) := (Below.refl _ w).alloc (Nat.le_refl _) _
  have HA := Lib.hid hA
  have HBX := Lib.hid (DkBox.new w d a n c)
  have H := Lib.hid h
  have hnb := h.nb
  obtain ⟨r0, hr0⟩ : ∃ r0, r0 = readyD d [nm] := ⟨_, rfl⟩
  have hr := Lib.hid (ready_one a n c d nm w _ h hA hs (w.heap.size + 1) (by simp) r0 (Lib.hid hr0))
  obtain ⟨k0, hk0⟩ : ∃ k0, k0 = atL d.files nm := ⟨_, rfl⟩
  have hf := Lib.hid (fun (W : World) (hb : Below w.heap.size w W) => find_any a n c d.files nm W (h.sl.keep hb) hnb k0 (Lib.hid hk0))
  clear hA h
  by_cases hz : r0 = 0
  · subst hz
    have hv2 : (v, x) = if k0 < 0 then (⟨#[]⟩, 60) else ((fileOf d.files nm).sy ++ (fileOf d.files nm).ta, 0) := by rw [hv.out]; unfold readD; rw [← hr0, if_neg (by simp), ← hk0]
    clear hv
    by_cases hk : k0 < 0
    · rw [if_pos hk] at hv2
      obtain ⟨rfl, rfl⟩ := Prod.mk.inj hv2
      clear hv2 hr0 hk0
      obtain ⟨rm, l, lf, dn⟩ := d
      unfold Dk.val at *
      dsimp only at *
      go_enter Try.func11, Try.ntmps11
      go_wp2_with fail
      refine hr.out.mono ?_
      rintro e w1 ⟨rfl, hb1⟩
      have HB1 := Lib.hid (below_then HA.out hb1 HA.out.size)
      have hB1 := HBX.out.keep hb1
      clear hb1
      obtain e0 := hB1.c0; have e1 := hB1.c1; have e2 := hB1.c2; have e3 := hB1.c3
      clear hB1
      go_wp2_with fail
      refine (hf.out w1 HB1.out).mono ?_
      rintro e w2 ⟨rfl, hb2⟩
      have HB2 := Lib.hid (below_then HB1.out hb2 HB1.out.size)
      clear hb2
      go_wp2_with fail
      go_ret2
      exact ⟨rfl, HB2.out⟩
    · rw [if_neg hk] at hv2
      obtain ⟨rfl, rfl⟩ := Prod.mk.inj hv2
      rw [hk0] at hk
      obtain ⟨j, hj, hj1, hj2, hj3⟩ := atL_lt hk
      rw [hj1] at hk0
      subst hk0
      rw [hj3]
      have hjn : (j : Int) < (n : Int) := by have := H.out.len; omega
      have HJ := Lib.hid hj
      clear hv2 hr0 hk hj1 hj2 hj3
      have hfl : Hid (∀ (W : World), Below w.heap.size w W → ∃ b off, a = some ⟨b, off, none⟩ ∧ w.cell? ⟨b, off + j * 3, none⟩ = some (.string d.files[j].nm) ∧ W.cell? ⟨b, off + j * 3 + 1, none⟩ = some (.string d.files[j].sy) ∧ W.cell? ⟨b, off + j * 3 + 2, none⟩ = some (.string d.files[j].ta)) := Lib.hid fun W hb => by
        obtain ⟨b, off, he, hc⟩ := (fl_at H.out.sl (by omega)).2
        exact ⟨b, off, he, (hc j hj).1, (hc.keep hb j hj).2.1, (hc.keep hb j hj).2.2⟩
      obtain ⟨s0, s1, s2⟩ := H.out.small (d.files[j]) (List.getElem_mem _)
      generalize d.files[j] = o at *
      obtain ⟨o0, o1, o2⟩ := o
      have s1 : o1.size ≤ 140737488355328 := s1
      have s2 : o2.size ≤ 140737488355328 := s2
      dsimp only at *
      obtain ⟨rm, l, lf, dn⟩ := d
      unfold Dk.val at *
      dsimp only at *
      go_enter Try.func11, Try.ntmps11
      go_wp2_with fail
      refine hr.out.mono ?_
      rintro e w1 ⟨rfl, hb1⟩
      have HB1 := Lib.hid (below_then HA.out hb1 HA.out.size)
      have hB1 := HBX.out.keep hb1
      clear hb1
      obtain e0 := hB1.c0; have e1 := hB1.c1; have e2 := hB1.c2; have e3 := hB1.c3
      go_wp2_with fail
      refine (hf.out w1 HB1.out).mono ?_
      rintro e w2 ⟨rfl, hb2⟩
      have HB2 := Lib.hid (below_then HB1.out hb2 HB1.out.size)
      have hB2 := hB1.keep hb2
      clear hb2 hB1 e0 e1 e2 e3
      obtain ⟨b, off, rfl, -, c1, c2⟩ := hfl.out w2 HB2.out
      have e0 := hB2.c0; have e1 := hB2.c1; have e2 := hB2.c2; have e3 := hB2.c3
      clear hB2
      go_wp2_with fail
      go_quiet (fail)
      go_wp2_with fail
      go_ret2
      exact ⟨rfl, below_drewN HB2.out _⟩
  · have hv2 : v = ⟨#[]⟩ ∧ x = r0 := by have := hv.out; unfold readD at this; rw [← hr0, if_pos hz] at this; exact Prod.mk.inj this
    obtain ⟨rfl, rfl⟩ := hv2
    have hne : (x != 0) = true := bne_iff_ne.2 hz
    clear hv hr0 hk0 hf hz
    obtain ⟨rm, l, lf, dn⟩ := d
    unfold Dk.val at *
    dsimp only at *
    go_enter Try.func11, Try.ntmps11
    go_wp2_with fail
    refine hr.out.mono ?_
    rintro e w1 ⟨rfl, hb1⟩
    have HB1 := Lib.hid (below_then HA.out hb1 HA.out.size)
    clear hb1
    go_wp2_with fail
    go_ret2
    exact ⟨rfl, HB1.out⟩
end Go.Proofs.Ytjppommhamaibaa
