/-
  Disks in plain Lean: what is written, synced, renamed and read behind a crash; without a condition.
-/
import Derived.Test.YtjppommhamaibaaDkR
namespace Go.Proofs.Ytjppommhamaibaa
open Go.RowKit
set_option linter.unusedVariables false

theorem fileOf_memS {l : List Fl} (h : Rising l) {x : Fl} (hx : x ∈ l) : ¬ atL l x.nm < 0 ∧ fileOf l x.nm = x := by
  obtain ⟨k, hk, rfl⟩ := List.getElem_of_mem hx
  refine ⟨?_, fileOf_of h hk⟩
  rw [atL_of h hk]
  omega
theorem with_memS (l : List Fl) (x : Fl) : x ∈ withF l x := insF_mem.2 (.inl rfl)
theorem nil_appendS (a : ByteArray) : (⟨#[]⟩ : ByteArray) ++ a = a := by
  apply ba_ext
  simp
theorem extract_nilS (k : Nat) : (⟨#[]⟩ : ByteArray).extract 0 k = ⟨#[]⟩ := by
  apply ba_ext
  simp
theorem ready_okS {d : Dk} (hr : rightD d = true) (hd : d.down = false) {nms : List ByteArray} (hn : nms.all nmOk = true) : readyD d nms = 0 := by
  unfold readyD
  rw [if_neg (by rw [hr, hn]; simp), if_neg (by rw [hd]; simp)]
theorem write_fresh {d : Dk} {nm more : ByteArray} (hr : rightD d = true) (hd : d.down = false) (hl : d.left < 0) (ha : atL d.files nm < 0) :
    (writeD d nm more).2 = 1 ∨ (writeD d nm more).2 = 130 ∨ ((writeD d nm more).2 = 0 ∧ nmOk nm = true ∧ (writeD d nm more).1.down = false ∧ (writeD d nm more).1.left < 0 ∧ (⟨nm, ⟨#[]⟩, more⟩ : Fl) ∈ (writeD d nm more).1.files) := by
  cases hn : nmOk nm with
  | false =>
    have e : readyD d [nm] = 1 := by
      unfold readyD
      rw [if_pos (.inr (by simp [hn]))]
    left
    unfold writeD
    rw [e, if_pos (by decide)]
  | true =>
    have e : readyD d [nm] = 0 := ready_okS hr hd (by simp [hn])
    right
    unfold writeD
    rw [e, if_neg (by simp)]
    split
    · exact .inl rfl
    · right
      unfold doneD
      rw [if_neg (by omega)]
      refine ⟨rfl, rfl, hd, ?_, ?_⟩
      · show leftD d < 0
        unfold leftD
        rw [if_neg (by omega)]
        exact hl
      · show _ ∈ wrote d.files nm more
        unfold wrote
        rw [(atL_no ha).2.1]
        dsimp only
        rw [nil_appendS]
        exact with_memS _ _
theorem sync_fresh {d : Dk} {nm more : ByteArray} (hr : rightD d = true) (hd : d.down = false) (hl : d.left < 0) (hm : (⟨nm, ⟨#[]⟩, more⟩ : Fl) ∈ d.files) :
    (syncD d nm).2 = 0 ∧ (syncD d nm).1.down = false ∧ (syncD d nm).1.left < 0 ∧ (⟨nm, more, ⟨#[]⟩⟩ : Fl) ∈ (syncD d nm).1.files := by
  obtain ⟨h4, h5⟩ := rightD_fs hr
  have hn : nmOk nm = true := h4 _ hm
  obtain ⟨h1, h2⟩ := fileOf_memS h5 hm
  dsimp only at h1 h2
  unfold syncD
  rw [ready_okS hr hd (by simp [hn]), if_neg (by simp), if_neg h1]
  unfold doneD
  rw [if_neg (by omega)]
  refine ⟨rfl, hd, ?_, ?_⟩
  · show leftD d < 0
    unfold leftD
    rw [if_neg (by omega)]
    exact hl
  · show _ ∈ synced d.files nm
    unfold synced
    rw [h2]
    dsimp only
    rw [nil_appendS]
    exact with_memS _ _
theorem read_keptS {d : Dk} {nm more : ByteArray} (hr : rightD d = true) (hm : (⟨nm, more, ⟨#[]⟩⟩ : Fl) ∈ d.files) (keep : List Int) : readD (crashed d keep) nm = (more, 0) := by
  obtain ⟨k, hk, e⟩ := List.getElem_of_mem hm
  have h := read_crashed hr keep hk
  rw [e] at h
  dsimp only at h
  rw [extract_nilS, append_nil] at h
  exact h
theorem read_goneS {d : Dk} {nm : ByteArray} (hr : rightD d = true) (hn : nmOk nm = true) (hm : ∀ f ∈ d.files, f.nm ≠ nm) (keep : List Int) : (readD (crashed d keep) nm).2 = 60 := by
  have hr2 := crash_right hr keep
  unfold readD
  rw [ready_okS hr2 rfl (by simp [hn]), if_neg (by simp)]
  have ha : atL (crashed d keep).files nm < 0 := by
    rcases atL_cases (crashed d keep).files nm with ⟨k, hk, h1, _, _⟩ | ⟨_, h2⟩
    · exfalso
      have hk2 : k < d.files.length := by rw [crashed_len] at hk; exact hk
      rw [crashed_at d keep hk2] at h1
      exact hm _ (List.getElem_mem hk2) h1
    · rw [h2]; decide
  rw [if_pos ha]
theorem right_cutS {d : Dk} (h : rightD d = true) : rightD ⟨d.room, d.files, 0, d.down⟩ = true := by
  obtain ⟨⟨a0, a1⟩, h8, b0, b1⟩ := rightD_nums h
  obtain ⟨h4, h5⟩ := rightD_fs h
  exact rightD_mk a0 a1 h8 (by show (-1 : Int) ≤ 0; decide) (by show (0 : Int) ≤ 1073741824; decide) (rightD_size h).2 h4 h5
theorem renames_law {d : Dk} {nm to more : ByteArray} (hr : rightD d = true) (hd : d.down = false) (hl : d.left < 0) (hne : nm ≠ to) (ha : atL d.files nm < 0) (keep : List Int) :
    (writeD d nm more).2 = 1 ∨ (writeD d nm more).2 = 130 ∨ ((writeD d nm more).2 = 0 ∧ (syncD (writeD d nm more).1 nm).2 = 0 ∧
      ((cutD (syncD (writeD d nm more).1 nm).1 0).2 = 0 ∧ ((renameD (cutD (syncD (writeD d nm more).1 nm).1 0).1 nm to).2 = 1 ∨
        ((renameD (cutD (syncD (writeD d nm more).1 nm).1 0).1 nm to).2 = 132 ∧ (crashD (renameD (cutD (syncD (writeD d nm more).1 nm).1 0).1 nm to).1 keep).2 = 0 ∧ readD (crashD (renameD (cutD (syncD (writeD d nm more).1 nm).1 0).1 nm to).1 keep).1 nm = (more, 0)))) ∧
      ((renameD (syncD (writeD d nm more).1 nm).1 nm to).2 = 1 ∨
        ((renameD (syncD (writeD d nm more).1 nm).1 nm to).2 = 0 ∧ (crashD (renameD (syncD (writeD d nm more).1 nm).1 nm to).1 keep).2 = 0 ∧ readD (crashD (renameD (syncD (writeD d nm more).1 nm).1 nm to).1 keep).1 to = (more, 0) ∧ (readD (crashD (renameD (syncD (writeD d nm more).1 nm).1 nm to).1 keep).1 nm).2 = 60))) := by
  rcases write_fresh (more := more) hr hd hl ha with h | h | ⟨w0, w1, w2, w3, w4⟩
  · exact .inl h
  · exact .inr (.inl h)
  · refine .inr (.inr ?_)
    have hrw : rightD (writeD d nm more).1 = true := write_right
    generalize writeD d nm more = A at *
    obtain ⟨s0, s1, s2, s3⟩ := sync_fresh hrw w2 w3 w4
    have hrs : rightD (syncD A.1 nm).1 = true := sync_right
    generalize syncD A.1 nm = B at *
    refine ⟨w0, s0, ?_, ?_⟩
    · have hc : cutD B.1 0 = (⟨B.1.room, B.1.files, 0, B.1.down⟩, 0) := by
        unfold cutD
        rw [if_neg (by rw [hrs]; simp), if_neg (by rw [s1]; simp)]
      rw [hc]
      refine ⟨rfl, ?_⟩
      dsimp only
      have hrc := right_cutS hrs
      obtain ⟨h4, h5⟩ := rightD_fs hrs
      obtain ⟨f1, f2⟩ := fileOf_memS h5 s3
      dsimp only at f1 f2
      cases hto : nmOk to with
      | false =>
        left
        unfold renameD
        have e : readyD ⟨B.1.room, B.1.files, 0, B.1.down⟩ [nm, to] = 1 := by
          unfold readyD
          rw [if_pos (.inr (by simp [hto]))]
        rw [e, if_pos (by decide)]
      | true =>
        right
        have e : renameD ⟨B.1.room, B.1.files, 0, B.1.down⟩ nm to = (⟨B.1.room, B.1.files, 0, true⟩, 132) := by
          unfold renameD
          rw [ready_okS hrc s1 (by simp [w1, hto]), if_neg (by simp)]
          dsimp only
          rw [if_neg f1, f2, if_neg (fun e => e rfl)]
          rfl
        have hre : rightD ⟨B.1.room, B.1.files, 0, true⟩ = true := hrc
        rw [e]
        unfold crashD
        dsimp only
        rw [if_neg (by rw [hre]; simp)]
        exact ⟨rfl, rfl, read_keptS hre s3 keep⟩
    · obtain ⟨h4, h5⟩ := rightD_fs hrs
      obtain ⟨f1, f2⟩ := fileOf_memS h5 s3
      dsimp only at f1 f2
      cases hto : nmOk to with
      | false =>
        left
        unfold renameD
        have e : readyD B.1 [nm, to] = 1 := by
          unfold readyD
          rw [if_pos (.inr (by simp [hto]))]
        rw [e, if_pos (by decide)]
      | true =>
        right
        have hrr : rightD (renameD B.1 nm to).1 = true := rename_right
        have e : renameD B.1 nm to = (⟨B.1.room, renamed B.1.files nm to, leftD B.1, B.1.down⟩, 0) := by
          unfold renameD
          rw [ready_okS hrs s1 (by simp [w1, hto]), if_neg (by simp)]
          rw [if_neg f1, f2, if_neg (fun e => e rfl)]
          unfold doneD
          rw [if_neg (by omega)]
        rw [e] at hrr ⊢
        unfold crashD
        dsimp only at hrr ⊢
        rw [if_neg (by rw [hrr]; simp)]
        refine ⟨rfl, rfl, read_keptS hrr ?_ keep, read_goneS hrr w1 ?_ keep⟩
        · show _ ∈ renamed B.1.files nm to
          unfold renamed
          rw [f2]
          exact with_memS _ _
        · show ∀ f ∈ renamed B.1.files nm to, f.nm ≠ nm
          unfold renamed
          intro f hf
          rcases mem_with hf with rfl | hf
          · exact fun e => hne e.symm
          · exact without_ne f hf
end Go.Proofs.Ytjppommhamaibaa
