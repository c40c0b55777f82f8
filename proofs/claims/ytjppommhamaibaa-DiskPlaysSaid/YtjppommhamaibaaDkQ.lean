/-
  Disks in plain Lean: the calls, the crash, and that what they leave may be; without a condition.
-/
import Derived.Test.YtjppommhamaibaaDkP
namespace Go.Proofs.Ytjppommhamaibaa
open Go.RowKit
set_option linter.unusedVariables false

/-- The file of a name; a new one, where there is none. -/
def fileOf (l : List Fl) (nm : ByteArray) : Fl := if 0 ≤ atL l nm then l.getD (atL l nm).toNat default else ⟨nm, ⟨#[]⟩, ⟨#[]⟩⟩
def wrote (l : List Fl) (nm more : ByteArray) : List Fl := withF l ⟨nm, (fileOf l nm).sy, (fileOf l nm).ta ++ more⟩
def synced (l : List Fl) (nm : ByteArray) : List Fl := withF l ⟨nm, (fileOf l nm).sy ++ (fileOf l nm).ta, ⟨#[]⟩⟩
def renamed (l : List Fl) (nm to : ByteArray) : List Fl := withF (without l nm) ⟨to, (fileOf l nm).sy, (fileOf l nm).ta⟩
def leftD (d : Dk) : Int := if 0 < d.left then d.left - 1 else d.left
/-- A call that can be done: now, if the power stays; or then, if it goes. -/
def doneD (d : Dk) (now thn : List Fl) : Dk × Int := if d.left = 0 then (⟨d.room, thn, 0, true⟩, 132) else (⟨d.room, now, leftD d, d.down⟩, 0)
def readyD (d : Dk) (nms : List ByteArray) : Int := if rightD d = false ∨ nms.all nmOk = false then 1 else if d.down = true then 132 else 0
def writeD (d : Dk) (nm more : ByteArray) : Dk × Int :=
  if readyD d [nm] ≠ 0 then (Dk.zero, readyD d [nm])
  else if (atL d.files nm < 0 ∧ 8 ≤ d.files.length) ∨ d.room - (szL d.files : Int) < (more.size : Int) then (Dk.zero, 130)
  else doneD d (wrote d.files nm more) (wrote d.files nm more)
def syncD (d : Dk) (nm : ByteArray) : Dk × Int :=
  if readyD d [nm] ≠ 0 then (Dk.zero, readyD d [nm])
  else if atL d.files nm < 0 then (Dk.zero, 60)
  else doneD d (synced d.files nm) d.files
def renameD (d : Dk) (nm to : ByteArray) : Dk × Int :=
  if readyD d [nm, to] ≠ 0 then (Dk.zero, readyD d [nm, to])
  else if atL d.files nm < 0 then (Dk.zero, 60)
  else if (fileOf d.files nm).ta.size ≠ 0 then (Dk.zero, 131)
  else doneD d (renamed d.files nm to) d.files
def removeD (d : Dk) (nm : ByteArray) : Dk × Int :=
  if readyD d [nm] ≠ 0 then (Dk.zero, readyD d [nm])
  else if atL d.files nm < 0 then (Dk.zero, 60)
  else doneD d (without d.files nm) d.files
def readD (d : Dk) (nm : ByteArray) : ByteArray × Int :=
  if readyD d [nm] ≠ 0 then (⟨#[]⟩, readyD d [nm])
  else if atL d.files nm < 0 then (⟨#[]⟩, 60)
  else ((fileOf d.files nm).sy ++ (fileOf d.files nm).ta, 0)
def cutD (d : Dk) (left : Int) : Dk × Int :=
  if rightD d = false ∨ left < -1 ∨ 1073741824 < left then (Dk.zero, 1)
  else if d.down = true then (Dk.zero, 132)
  else (⟨d.room, d.files, left, d.down⟩, 0)
/-- How many bytes of a Tail stay. -/
def keepN (keep : List Int) (i : Nat) (f : Fl) : Nat := match keep[i]? with
  | none => 0
  | some k => min k.toNat f.ta.size
def crashF (keep : List Int) : Nat → List Fl → List Fl
  | _, [] => []
  | i, f :: r => ⟨f.nm, f.sy ++ f.ta.extract 0 (keepN keep i f), ⟨#[]⟩⟩ :: crashF keep (i + 1) r
def crashed (d : Dk) (keep : List Int) : Dk := ⟨d.room, crashF keep 0 d.files, -1, false⟩
def crashD (d : Dk) (keep : List Int) : Dk × Int := if rightD d = false then (Dk.zero, 1) else (crashed d keep, 0)

theorem rightD_nums {d : Dk} (h : rightD d = true) : (0 ≤ d.room ∧ d.room ≤ 1048576) ∧ d.files.length ≤ 8 ∧ (-1 ≤ d.left ∧ d.left ≤ 1073741824) := by
  unfold rightD numsOk at h
  simp only [Bool.and_eq_true, decide_eq_true_eq] at h
  exact ⟨⟨h.1.1.1.1.1.1, h.1.1.1.1.1.2⟩, h.1.1.1.1.2, h.1.1.1.2, h.1.1.2⟩
theorem rightD_fs {d : Dk} (h : rightD d = true) : (∀ f ∈ d.files, nmOk f.nm = true) ∧ Rising d.files := by
  unfold rightD at h
  rw [Bool.and_eq_true] at h
  exact (rightFs_iff _).1 h.2
theorem rightD_size {d : Dk} (h : rightD d = true) : szL d.files = szS d.files ∧ (szS d.files : Int) ≤ d.room := by
  have h1 := rightD_nums h
  unfold rightD at h
  simp only [Bool.and_eq_true, decide_eq_true_eq] at h
  have h2 : szL d.files = szS d.files := szL_sum (by omega)
  exact ⟨h2, by omega⟩
theorem rightD_mk {d : Dk} (h0 : 0 ≤ d.room) (h1 : d.room ≤ 1048576) (h2 : d.files.length ≤ 8) (h3 : -1 ≤ d.left) (h4 : d.left ≤ 1073741824) (h5 : (szS d.files : Int) ≤ d.room) (h6 : ∀ f ∈ d.files, nmOk f.nm = true) (h7 : Rising d.files) : rightD d = true := by
  unfold rightD numsOk
  rw [szL_of (by omega)]
  simp only [Bool.and_eq_true, decide_eq_true_eq]
  exact ⟨⟨⟨⟨⟨⟨h0, h1⟩, h2⟩, h3⟩, h4⟩, h5⟩, (rightFs_iff _).2 ⟨h6, h7⟩⟩

theorem atL_lt {l : List Fl} {nm : ByteArray} (h : ¬ atL l nm < 0) : ∃ (k : Nat) (hk : k < l.length), atL l nm = (k : Int) ∧ l[k].nm = nm ∧ fileOf l nm = l[k] := by
  rcases atL_cases l nm with ⟨k, hk, h1, _, h3⟩ | ⟨_, h2⟩
  · refine ⟨k, hk, h3, h1, ?_⟩
    unfold fileOf
    rw [if_pos (by omega), h3]
    simp [hk]
  · rw [h2] at h; exact absurd (by decide) h
theorem atL_no {l : List Fl} {nm : ByteArray} (h : atL l nm < 0) : (∀ f ∈ l, f.nm ≠ nm) ∧ fileOf l nm = ⟨nm, ⟨#[]⟩, ⟨#[]⟩⟩ ∧ without l nm = l := by
  rcases atL_cases l nm with ⟨k, hk, h1, _, h3⟩ | ⟨h1, h2⟩
  · rw [h3] at h; omega
  · refine ⟨h1, ?_, without_none h1⟩
    unfold fileOf
    rw [if_neg (by omega)]
theorem szS_append (a b : List Fl) : szS (a ++ b) = szS a + szS b := by simp [szS]
theorem szS_perm {a b : List Fl} (h : a.Perm b) : szS a = szS b := (h.map _).sum_nat
theorem szS_split {l : List Fl} {k : Nat} (hk : k < l.length) : szS l = szS (l.take k ++ l.drop (k + 1)) + (l[k].sy.size + l[k].ta.size) := by
  have e : l = l.take k ++ l[k] :: l.drop (k + 1) := by rw [← List.drop_eq_getElem_cons hk, List.take_append_drop]
  have := congrArg szS e
  rw [szS_append, szS_cons] at this
  rw [szS_append]
  omega
theorem szS_without {l : List Fl} (h : Rising l) {k : Nat} (hk : k < l.length) : szS (without l l[k].nm) + (l[k].sy.size + l[k].ta.size) = szS l := by
  rw [without_at h hk, ← szS_split hk]
theorem szS_with (l : List Fl) (x : Fl) : szS (withF l x) = szS (without l x.nm) + (x.sy.size + x.ta.size) := by
  rw [withF, szS_perm (insF_perm x _), szS_cons]
  omega
theorem szS_without_le (l : List Fl) (nm : ByteArray) : szS (without l nm) ≤ szS l := by
  induction l with
  | nil => exact Nat.le_refl _
  | cons f r ih =>
    unfold without at *
    rw [List.filter_cons, szS_cons]
    split
    · rw [szS_cons]; omega
    · omega
theorem len_with (l : List Fl) (x : Fl) : (withF l x).length = (without l x.nm).length + 1 := by
  rw [withF, (insF_perm x _).length_eq, List.length_cons]
theorem len_without {l : List Fl} (h : Rising l) {k : Nat} (hk : k < l.length) : (without l l[k].nm).length + 1 = l.length := by
  rw [without_at h hk, List.length_append, List.length_take, List.length_drop]
  omega
theorem len_without_le (l : List Fl) (nm : ByteArray) : (without l nm).length ≤ l.length := List.length_filter_le ..
theorem mem_with {l : List Fl} {x f : Fl} (h : f ∈ withF l x) : f = x ∨ f ∈ l := by
  rcases insF_mem.1 h with h | h
  · exact .inl h
  · exact .inr (List.mem_filter.1 h).1

/-- What a call leaves may be. -/
theorem done_right {d : Dk} (h : rightD d = true) {now thn : List Fl} (h1 : ∀ fs, fs = now ∨ fs = thn → fs.length ≤ 8 ∧ (szS fs : Int) ≤ d.room ∧ (∀ f ∈ fs, nmOk f.nm = true) ∧ Rising fs) : rightD (doneD d now thn).1 = true := by
  obtain ⟨⟨a0, a1⟩, -, b0, b1⟩ := rightD_nums h
  unfold doneD
  split
  · obtain ⟨c1, c2, c3, c4⟩ := h1 thn (.inr rfl)
    exact rightD_mk a0 a1 c1 (by show (-1 : Int) ≤ 0; decide) (by show (0 : Int) ≤ 1073741824; decide) c2 c3 c4
  · obtain ⟨c1, c2, c3, c4⟩ := h1 now (.inl rfl)
    refine rightD_mk a0 a1 c1 ?_ ?_ c2 c3 c4
    · show -1 ≤ leftD d; unfold leftD; split <;> omega
    · show leftD d ≤ 1073741824; unfold leftD; split <;> omega
theorem ready_parts {d : Dk} {nms : List ByteArray} (h : readyD d nms = 0) : rightD d = true ∧ nms.all nmOk = true ∧ d.down = false := by
  unfold readyD at h
  split at h
  · exact absurd h (by decide)
  · rename_i h1
    split at h
    · exact absurd h (by decide)
    · rename_i h2
      refine ⟨?_, ?_, by simpa using h2⟩
      · cases hr : rightD d
        · exact absurd (.inl hr) h1
        · rfl
      · cases hr : nms.all nmOk
        · exact absurd (.inr hr) h1
        · rfl
theorem zero_right : rightD Dk.zero = true := by decide +kernel
theorem append_size (a b : ByteArray) : (a ++ b).size = a.size + b.size := ByteArray.size_append
theorem write_right {d : Dk} {nm more : ByteArray} : rightD (writeD d nm more).1 = true := by
  unfold writeD
  split
  · exact zero_right
  · rename_i hr
    obtain ⟨h, h2, h3⟩ := ready_parts (by simpa using hr)
    split
    · exact zero_right
    · rename_i hf
      obtain ⟨h4, h5⟩ := rightD_fs h
      obtain ⟨h6, h7⟩ := rightD_size h
      obtain ⟨-, h8, -⟩ := rightD_nums h
      refine done_right h fun fs hfs => ?_
      have hfs : fs = wrote d.files nm more := by rcases hfs with h | h <;> exact h
      subst hfs
      unfold wrote
      have hnm : nmOk nm = true := by simpa using h2
      have hroom : (szS d.files : Int) + (more.size : Int) ≤ d.room := by
        have : ¬ d.room - (szL d.files : Int) < (more.size : Int) := fun e => hf (.inr e)
        omega
      refine ⟨?_, ?_, fun f hm => ?_, withF_rising h5 _⟩
      · rw [len_with]
        by_cases ha : atL d.files nm < 0
        · have : ¬ 8 ≤ d.files.length := fun e => hf (.inl ⟨ha, e⟩)
          have := len_without_le d.files nm
          dsimp only
          omega
        · obtain ⟨k, hk, _, he, _⟩ := atL_lt ha
          have := len_without h5 hk
          rw [he] at this
          dsimp only
          omega
      · rw [szS_with]
        dsimp only
        rw [append_size]
        by_cases ha : atL d.files nm < 0
        · obtain ⟨_, hn, hw⟩ := atL_no ha
          rw [hn, hw]
          dsimp only
          have : (⟨#[]⟩ : ByteArray).size = 0 := rfl
          omega
        · obtain ⟨k, hk, _, he, hn⟩ := atL_lt ha
          have := szS_without h5 hk
          rw [he] at this
          rw [hn]
          omega
      · rcases mem_with hm with rfl | hm
        · exact hnm
        · exact h4 f hm
theorem sync_right {d : Dk} {nm : ByteArray} : rightD (syncD d nm).1 = true := by
  unfold syncD
  split
  · exact zero_right
  · rename_i hr
    obtain ⟨h, h2, h3⟩ := ready_parts (by simpa using hr)
    split
    · exact zero_right
    · rename_i ha
      obtain ⟨h4, h5⟩ := rightD_fs h
      obtain ⟨h6, h7⟩ := rightD_size h
      obtain ⟨-, h8, -⟩ := rightD_nums h
      obtain ⟨k, hk, _, he, hn⟩ := atL_lt ha
      refine done_right h fun fs hfs => ?_
      rcases hfs with rfl | rfl
      · unfold synced
        refine ⟨?_, ?_, fun f hm => ?_, withF_rising h5 _⟩
        · rw [len_with]
          have := len_without h5 hk
          rw [he] at this
          dsimp only
          omega
        · rw [szS_with]
          dsimp only
          rw [append_size, hn]
          have := szS_without h5 hk
          rw [he] at this
          have : (⟨#[]⟩ : ByteArray).size = 0 := rfl
          omega
        · rcases mem_with hm with rfl | hm
          · simpa using h2
          · exact h4 f hm
      · exact ⟨h8, h7, h4, h5⟩
theorem rename_right {d : Dk} {nm to : ByteArray} : rightD (renameD d nm to).1 = true := by
  unfold renameD
  split
  · exact zero_right
  · rename_i hr
    obtain ⟨h, h2, h3⟩ := ready_parts (by simpa using hr)
    split
    · exact zero_right
    · rename_i ha
      split
      · exact zero_right
      · obtain ⟨h4, h5⟩ := rightD_fs h
        obtain ⟨h6, h7⟩ := rightD_size h
        obtain ⟨-, h8, -⟩ := rightD_nums h
        obtain ⟨k, hk, _, he, hn⟩ := atL_lt ha
        have hto : nmOk to = true := by
          simp only [List.all_cons, List.all_nil, Bool.and_true, Bool.and_eq_true] at h2
          exact h2.2
        refine done_right h fun fs hfs => ?_
        rcases hfs with rfl | rfl
        · unfold renamed
          refine ⟨?_, ?_, fun f hm => ?_, withF_rising (without_rising h5 _) _⟩
          · rw [len_with]
            have := len_without h5 hk
            rw [he] at this
            have := len_without_le (without d.files nm) to
            dsimp only
            omega
          · rw [szS_with]
            dsimp only
            rw [hn]
            have := szS_without h5 hk
            rw [he] at this
            have := szS_without_le (without d.files nm) to
            omega
          · rcases mem_with hm with rfl | hm
            · exact hto
            · exact h4 f (List.mem_filter.1 hm).1
        · exact ⟨h8, h7, h4, h5⟩
theorem remove_right {d : Dk} {nm : ByteArray} : rightD (removeD d nm).1 = true := by
  unfold removeD
  split
  · exact zero_right
  · rename_i hr
    obtain ⟨h, h2, h3⟩ := ready_parts (by simpa using hr)
    split
    · exact zero_right
    · obtain ⟨h4, h5⟩ := rightD_fs h
      obtain ⟨h6, h7⟩ := rightD_size h
      obtain ⟨-, h8, -⟩ := rightD_nums h
      refine done_right h fun fs hfs => ?_
      rcases hfs with rfl | rfl
      · refine ⟨?_, ?_, fun f hm => h4 f (List.mem_filter.1 hm).1, without_rising h5 _⟩
        · have := len_without_le d.files nm; omega
        · have := szS_without_le d.files nm; omega
      · exact ⟨h8, h7, h4, h5⟩
theorem crashF_length (keep : List Int) : ∀ (i : Nat) (l : List Fl), (crashF keep i l).length = l.length
  | _, [] => rfl
  | i, f :: r => by rw [crashF, List.length_cons, List.length_cons, crashF_length]
theorem crashF_get (keep : List Int) : ∀ (i : Nat) (l : List Fl) (j : Nat) (h : j < l.length), (crashF keep i l)[j]? = some ⟨l[j].nm, l[j].sy ++ l[j].ta.extract 0 (keepN keep (i + j) l[j]), ⟨#[]⟩⟩
  | i, f :: r, 0, _ => rfl
  | i, f :: r, j + 1, h => by
    rw [crashF, List.getElem?_cons_succ, crashF_get keep (i + 1) r j (by simpa using h)]
    simp only [List.getElem_cons_succ]
    rw [show i + 1 + j = i + (j + 1) by omega]
theorem crashF_size (keep : List Int) : ∀ (i : Nat) (l : List Fl), szS (crashF keep i l) ≤ szS l
  | _, [] => Nat.le_refl _
  | i, f :: r => by
    rw [crashF, szS_cons, szS_cons]
    have := crashF_size keep (i + 1) r
    dsimp only
    rw [append_size, ByteArray.size_extract]
    have h0 : (⟨#[]⟩ : ByteArray).size = 0 := rfl
    rw [h0]
    have : min (keepN keep i f) f.ta.size ≤ f.ta.size := Nat.min_le_right _ _
    omega
theorem crashF_nm (keep : List Int) : ∀ (i : Nat) (l : List Fl), (crashF keep i l).map (·.nm) = l.map (·.nm)
  | _, [] => rfl
  | i, f :: r => by rw [crashF, List.map_cons, List.map_cons, crashF_nm]
theorem rising_nm {a b : List Fl} (h : a.map (·.nm) = b.map (·.nm)) (hb : Rising b) : Rising a := by
  unfold Rising at *
  rw [← List.pairwise_map (f := fun f : Fl => f.nm) (R := fun x y => ltN x y = true)] at hb ⊢
  rw [h]
  exact hb
theorem crash_right {d : Dk} (h : rightD d = true) (keep : List Int) : rightD (crashed d keep) = true := by
  obtain ⟨⟨a0, a1⟩, h8, b0, b1⟩ := rightD_nums h
  obtain ⟨h4, h5⟩ := rightD_fs h
  obtain ⟨h6, h7⟩ := rightD_size h
  have hs := crashF_size keep 0 d.files
  refine rightD_mk a0 a1 (by show (crashF keep 0 d.files).length ≤ 8; rw [crashF_length]; exact h8) (by show (-1 : Int) ≤ -1; decide) (by show (-1 : Int) ≤ 1073741824; decide) ?_ (fun f hf => ?_) (rising_nm (crashF_nm keep 0 d.files) h5)
  · show (szS (crashF keep 0 d.files) : Int) ≤ d.room
    omega
  · have h1 : f.nm ∈ (crashF keep 0 d.files).map (·.nm) := List.mem_map_of_mem hf
    rw [crashF_nm] at h1
    obtain ⟨g, hg, he⟩ := List.mem_map.1 h1
    rw [← he]
    exact h4 g hg
end Go.Proofs.Ytjppommhamaibaa
