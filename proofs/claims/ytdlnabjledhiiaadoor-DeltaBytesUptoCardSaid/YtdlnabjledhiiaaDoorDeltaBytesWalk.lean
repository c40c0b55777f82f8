/-
  The walk of the law DeltaBytes: it returns true.
-/
import Derived.Test.YtdlnabjledhiiaaDoorRbBytes
import Derived.Test.YtdlnabjledhiiaaDoorRbParse
import Derived.Test.YtdlnabjledhiiaaDoorDeltaBackWalk
namespace Go.Proofs.YtdlnabjledhiiaaDoor
open Go.RowKit
set_option linter.unusedVariables false

theorem parse_len (s : ByteArray) : (parseGot s).1.length ≤ 2000 := by
  unfold parseGot
  split
  · generalize (getL s).v = v
    obtain ⟨k, n, t, l⟩ := v
    rw [opsOf_is]
    split
    · cases rOps l with
      | none => exact Nat.zero_le _
      | some d =>
        dsimp only
        split
        · assumption
        · exact Nat.zero_le _
    · exact Nat.zero_le _
  · exact Nat.zero_le _

set_option maxRecDepth 20000 in
set_option maxHeartbeats 1000000 in
theorem deltaBytes_walk (a : Option Addr) (n c : Nat) (d : List DOp) (s : ByteArray) (w : World) (h : OpsSl w a n d) (hc : n ≤ c) (hn : n ≤ 9223372036854775807) (hm : s.size ≤ 9223372036854775807) (htab : Lib.TabIs Tryd.prog w "internal/strconv.uint64pow10" .u64 Lib.pow10Tab) :
    Calls Tryd.prog 4 #[.slice a n c, .string s] w (fun e w' => e = .returned (.bool true) ∧ Below w.heap.size w w') := by
  have HT := Lib.hid (Lib.tabBelow_of_tabIs htab)
  have hfew := Lib.hid (few_any a n c d w h hc)
  clear h htab
  go_enter Tryd.func4, Tryd.ntmps4
  go_wp2_with fail
  refine hfew.out.mono ?_
  rintro e w1 ⟨⟨m, rfl, hsl, hmn⟩, rfl⟩
  generalize fewD d = d1 at *
  have hbt := Lib.hid (dbytes_any a m c d1 w hsl (by omega) HT.out.here (bytesGot d1) (Lib.hid rfl))
  have HSL := Lib.hid hsl
  clear hfew hsl
  go_wp2_with fail
  refine hbt.out.mono ?_
  rintro e w2 ⟨rfl, hb2⟩
  have HB2 := Lib.hid hb2
  have hbr := Lib.hid (rdbytes_any a m c d1 w2 (HSL.out.keep hb2) (by omega) (HT.out _ hb2) (bytesGot d1) (Lib.hid rfl))
  clear hbt hb2 HSL
  generalize bytesGot d1 = g at *
  obtain ⟨g1, g2⟩ := g
  dsimp only at *
  go_wp2_with fail
  refine hbr.out.mono ?_
  rintro e w3 ⟨rfl, hb3⟩
  have HB3 := Lib.hid (HB2.out.trans (Below.lower hb3 HB2.out.size))
  clear hbr hb3 HB2
  have HPS : Hid (∀ w1, Calls Tryd.prog 10 #[.string s] w1 (ParsePost w1 (parseGot s))) := Lib.hid fun w1 => parse_any s w1 hm _ (Lib.hid rfl)
  have HPR : Hid (∀ w1, Calls Tryd.prog 14 #[.string s] w1 (ParsePost w1 (parseGot s))) := Lib.hid fun w1 => rparse_any s w1 hm _ (Lib.hid rfl)
  have hpl := Lib.hid (parse_len s)
  generalize parseGot s = p at *
  obtain ⟨p1, p2⟩ := p
  go_wp2_with fail
  refine (HPS.out _).mono ?_
  rintro e w4 ⟨a4, n4, c4, rfl, hsl4, hnc4, hb4⟩
  have HB4 := Lib.hid (HB3.out.trans (Below.lower hb4 HB3.out.size))
  have HSL4 := Lib.hid hsl4
  clear HPS hsl4 hb4 HB3
  dsimp only
  go_wp2_with fail
  refine (HPR.out _).mono ?_
  rintro e w5 ⟨a5, n5, c5, rfl, hsl5, hnc5, hb5⟩
  have HB5 := Lib.hid (HB4.out.trans (Below.lower hb5 HB4.out.size))
  obtain rfl : n4 = n5 := by rw [HSL4.out.1, hsl5.1]
  have hlk := Lib.hid (dlike_any a4 a5 n4 c4 c5 p1 w5 (HSL4.out.keep hb5) hsl5 (by have := hpl.out; have := hsl5.1; dsimp only at *; omega))
  clear HPR hsl5 hb5 HB4
  dsimp only
  go_wp2_with fail
  refine hlk.out.mono ?_
  rintro e w6 ⟨rfl, hb6⟩
  have HB6 := Lib.hid (HB5.out.trans (Below.lower hb6 HB5.out.size))
  clear hlk hb6 HB5
  have hrt := Lib.hid (dright_any _ 1 1 [⟨0, 1, ⟨#[]⟩⟩] _ (opsSl_one w6 ⟨0, 1, ⟨#[]⟩⟩ 32) (by decide) true (Lib.hid (by decide)))
  go_wp2_with fail
  refine hrt.out.mono ?_
  rintro e w8 ⟨rfl, hb8⟩
  have HB8 := Lib.hid ((HB6.out.alloc HB6.out.size (.cells #[.int .i64 0, .int .i64 1, .string ⟨#[]⟩] 32)).trans (Below.lower hb8 (by have := HB6.out.size; simp; omega)))
  clear hb8 hrt
  go_wp2_with fail
  go_ret
  exact ⟨rfl, HB8.out⟩
end Go.Proofs.YtdlnabjledhiiaaDoor
