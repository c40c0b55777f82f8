/-
  Disks in plain Lean: what is read behind a crash; without a condition.
-/
import Derived.Test.YtjppommhamaibaaDkQ
namespace Go.Proofs.Ytjppommhamaibaa
open Go.RowKit
set_option linter.unusedVariables false

theorem atL_of {l : List Fl} (h : Rising l) {k : Nat} (hk : k < l.length) : atL l l[k].nm = (k : Int) := by
  rcases atL_cases l l[k].nm with ⟨j, hj, h1, _, h3⟩ | ⟨h1, _⟩
  · by_cases hjk : j = k
    · subst hjk; exact h3
    · exact absurd h1 (rising_ne h hj hk hjk)
  · exact absurd rfl (h1 l[k] (List.getElem_mem hk))
theorem fileOf_of {l : List Fl} (h : Rising l) {k : Nat} (hk : k < l.length) : fileOf l l[k].nm = l[k] := by
  unfold fileOf
  rw [atL_of h hk, if_pos (by omega)]
  simp [hk]
theorem readD_of {d : Dk} (h : rightD d = true) (hd : d.down = false) {k : Nat} (hk : k < d.files.length) : readD d d.files[k].nm = (d.files[k].sy ++ d.files[k].ta, 0) := by
  obtain ⟨h4, h5⟩ := rightD_fs h
  have hr : readyD d [d.files[k].nm] = 0 := by
    unfold readyD
    rw [if_neg (by rw [h]; simp [h4 _ (List.getElem_mem hk)]), if_neg (by rw [hd]; simp)]
  unfold readD
  rw [hr, if_neg (by simp), atL_of h5 hk, if_neg (by omega), fileOf_of h5 hk]
theorem crashed_len (d : Dk) (keep : List Int) : (crashed d keep).files.length = d.files.length := crashF_length keep 0 d.files
theorem crashed_at (d : Dk) (keep : List Int) {k : Nat} (hk : k < d.files.length) : (crashed d keep).files[k]'(by rw [crashed_len]; exact hk) = ⟨d.files[k].nm, d.files[k].sy ++ d.files[k].ta.extract 0 (keepN keep k d.files[k]), ⟨#[]⟩⟩ := by
  have h := crashF_get keep 0 d.files k hk
  rw [Nat.zero_add] at h
  exact (List.getElem?_eq_some_iff.1 h).2
theorem append_nil (a : ByteArray) : a ++ (⟨#[]⟩ : ByteArray) = a := by
  apply ba_ext
  simp
theorem read_crashed {d : Dk} (h : rightD d = true) (keep : List Int) {k : Nat} (hk : k < d.files.length) :
    readD (crashed d keep) d.files[k].nm = (d.files[k].sy ++ d.files[k].ta.extract 0 (keepN keep k d.files[k]), 0) := by
  have hr := crash_right h keep
  have hk2 : k < (crashed d keep).files.length := by rw [crashed_len]; exact hk
  have h1 := readD_of hr rfl hk2
  rw [crashed_at d keep hk] at h1
  rw [h1, append_nil]
end Go.Proofs.Ytjppommhamaibaa
