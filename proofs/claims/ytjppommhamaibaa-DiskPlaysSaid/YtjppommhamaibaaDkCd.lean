/-
  The reference's Call, whole. (Its arms: XDkCb, XDkCc.)
-/
import Derived.Test.YtjppommhamaibaaDkCc
namespace Go.Proofs.Ytjppommhamaibaa
open Go.RowKit Go.BigFrame
set_option linter.unusedVariables false

theorem ready_bad {d : Dk} {nms : List ByteArray} (h : rightD d = false ∨ nms.all nmOk = false) : readyD d nms = 1 := by unfold readyD; rw [if_pos h]
theorem ready_off {d : Dk} {nms : List ByteArray} (h : rightD d = true) (h2 : nms.all nmOk = true) (h3 : d.down = true) : readyD d nms = 132 := by unfold readyD; rw [if_neg (by simp [h, h2]), if_pos h3]
theorem call1_any (a : Option Addr) (n c : Nat) (d : Dk) (nm more : ByteArray) (w : World) (h : DkAt w a n c d) (hs : nm.size ≤ maxLen) (hs2 : more.size ≤ 2097152) :
    Calls Try.prog 20 #[d.val a n c, .int .i64 1, .string nm, .string more] w (RetDk w (writeD d nm more)) := by
  have hs3 : more.size ≤ maxLen := by unfold maxLen; omega
  have hno : ∀ x, readyD d [nm] = x → x ≠ 0 → writeD d nm more = (Dk.zero, x) := fun x h1 h2 => by unfold writeD; rw [h1, if_pos h2]
  cases hr : rightD d with
  | false => rw [hno 1 (ready_bad (.inl hr)) (by decide)]; exact call1_wrong a n c d nm more w h hs hs3 hr
  | true =>
    cases hn : nmOk nm with
    | false => rw [hno 1 (ready_bad (.inr (by simp [hn]))) (by decide)]; exact call1_name a n c d nm more w h hs hs3 hr hn
    | true =>
      cases hd : d.down with
      | true => rw [hno 132 (ready_off hr (by simp [hn]) hd) (by decide)]; exact call1_down a n c d nm more w h hs hs3 hr hn hd
      | false => exact call1_go a n c d nm more w h hs hs2 (by unfold readyD; rw [if_neg (by simp [hr, hn]), if_neg (by simp [hd])])
theorem call2_any (a : Option Addr) (n c : Nat) (d : Dk) (nm more : ByteArray) (w : World) (h : DkAt w a n c d) (hs : nm.size ≤ maxLen) (hs2 : more.size ≤ 2097152) :
    Calls Try.prog 20 #[d.val a n c, .int .i64 2, .string nm, .string more] w (RetDk w (syncD d nm)) := by
  have hs3 : more.size ≤ maxLen := by unfold maxLen; omega
  have hno : ∀ x, readyD d [nm] = x → x ≠ 0 → syncD d nm = (Dk.zero, x) := fun x h1 h2 => by unfold syncD; rw [h1, if_pos h2]
  cases hr : rightD d with
  | false => rw [hno 1 (ready_bad (.inl hr)) (by decide)]; exact call2_wrong a n c d nm more w h hs hs3 hr
  | true =>
    cases hn : nmOk nm with
    | false => rw [hno 1 (ready_bad (.inr (by simp [hn]))) (by decide)]; exact call2_name a n c d nm more w h hs hs3 hr hn
    | true =>
      cases hd : d.down with
      | true => rw [hno 132 (ready_off hr (by simp [hn]) hd) (by decide)]; exact call2_down a n c d nm more w h hs hs3 hr hn hd
      | false => exact call2_go a n c d nm more w h hs hs2 (by unfold readyD; rw [if_neg (by simp [hr, hn]), if_neg (by simp [hd])])
theorem call3_any (a : Option Addr) (n c : Nat) (d : Dk) (nm more : ByteArray) (w : World) (h : DkAt w a n c d) (hs : nm.size ≤ maxLen) (hs2 : more.size ≤ 2097152) :
    Calls Try.prog 20 #[d.val a n c, .int .i64 3, .string nm, .string more] w (RetDk w (renameD d nm more)) := by
  have hs3 : more.size ≤ maxLen := by unfold maxLen; omega
  have hno : ∀ x, readyD d [nm, more] = x → x ≠ 0 → renameD d nm more = (Dk.zero, x) := fun x h1 h2 => by unfold renameD; rw [h1, if_pos h2]
  cases hr : rightD d with
  | false => rw [hno 1 (ready_bad (.inl hr)) (by decide)]; exact call3_wrong a n c d nm more w h hs hs3 hr
  | true =>
    cases hn : nmOk nm with
    | false => rw [hno 1 (ready_bad (.inr (by simp [hn]))) (by decide)]; exact call3_name a n c d nm more w h hs hs3 hr hn
    | true =>
      cases hm : nmOk more with
      | false => rw [hno 1 (ready_bad (.inr (by simp [hn, hm]))) (by decide)]; exact call3_more a n c d nm more w h hs hs3 hr hn hm
      | true =>
        cases hd : d.down with
        | true => rw [hno 132 (ready_off hr (by simp [hn, hm]) hd) (by decide)]; exact call3_down a n c d nm more w h hs hs3 hr hn hm hd
        | false => exact call3_go a n c d nm more w h hs hs2 (by unfold readyD; rw [if_neg (by simp [hr, hn, hm]), if_neg (by simp [hd])])
theorem call4_any (a : Option Addr) (n c : Nat) (d : Dk) (nm more : ByteArray) (w : World) (h : DkAt w a n c d) (hs : nm.size ≤ maxLen) (hs2 : more.size ≤ 2097152) :
    Calls Try.prog 20 #[d.val a n c, .int .i64 4, .string nm, .string more] w (RetDk w (removeD d nm)) := by
  have hs3 : more.size ≤ maxLen := by unfold maxLen; omega
  have hno : ∀ x, readyD d [nm] = x → x ≠ 0 → removeD d nm = (Dk.zero, x) := fun x h1 h2 => by unfold removeD; rw [h1, if_pos h2]
  cases hr : rightD d with
  | false => rw [hno 1 (ready_bad (.inl hr)) (by decide)]; exact call4_wrong a n c d nm more w h hs hs3 hr
  | true =>
    cases hn : nmOk nm with
    | false => rw [hno 1 (ready_bad (.inr (by simp [hn]))) (by decide)]; exact call4_name a n c d nm more w h hs hs3 hr hn
    | true =>
      cases hd : d.down with
      | true => rw [hno 132 (ready_off hr (by simp [hn]) hd) (by decide)]; exact call4_down a n c d nm more w h hs hs3 hr hn hd
      | false => exact call4_go a n c d nm more w h hs hs2 (by unfold readyD; rw [if_neg (by simp [hr, hn]), if_neg (by simp [hd])])
theorem refCall_any (a : Option Addr) (n c : Nat) (d : Dk) (what : Int) (nm more : ByteArray) (w : World) (h : DkAt w a n c d) (hw : 1 ≤ what ∧ what ≤ 4) (hs : nm.size ≤ maxLen) (hs2 : more.size ≤ 2097152) :
    Calls Try.prog 20 #[d.val a n c, .int .i64 what, .string nm, .string more] w (RetDk w (callD d what nm more)) := by
  obtain rfl | rfl | rfl | rfl : what = 1 ∨ what = 2 ∨ what = 3 ∨ what = 4 := by omega
  · exact call1_any a n c d nm more w h hs hs2
  · exact call2_any a n c d nm more w h hs hs2
  · exact call3_any a n c d nm more w h hs hs2
  · exact call4_any a n c d nm more w h hs hs2
end Go.Proofs.Ytjppommhamaibaa
