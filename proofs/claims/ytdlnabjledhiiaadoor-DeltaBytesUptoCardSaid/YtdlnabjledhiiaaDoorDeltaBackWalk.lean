/-
  The walk of the law DeltaBack: it returns true.
-/
import Derived.Test.YtdlnabjledhiiaaDoorDbParse
import Derived.Test.YtdlnabjledhiiaaDoorDbBytes
import Derived.Test.YtdlnabjledhiiaaDoorDbLike
namespace Go.Proofs.YtdlnabjledhiiaaDoor
open Go.RowKit
set_option linter.unusedVariables false

theorem bytes_size (d : List DOp) : (bytesGot d).1.size ≤ 131072 := by
  unfold bytesGot
  split
  · unfold putGot
    split
    · exact Nat.zero_le _
    · split
      · exact Nat.zero_le _
      · rename_i h; simp [ByteArray.size]; omega
  · exact Nat.zero_le _
theorem bytes_len {d : List DOp} {s : ByteArray} (h : bytesGot d = (s, 0)) : d.length ≤ 2000 := by
  unfold bytesGot at h
  by_cases hr : rightB d = true
  · exact rightB_len hr
  · rw [if_neg hr] at h; have := congrArg Prod.snd h; simp at this

set_option maxRecDepth 20000 in
set_option maxHeartbeats 1000000 in
/-- The second half: what is parsed, written again. -/
theorem deltaBack_walk (a : Option Addr) (n c : Nat) (d : List DOp) (s : ByteArray) (w : World) (h : OpsSl w a n d) (hc : n ≤ c) (hn : n ≤ 9223372036854775807) (hm : s.size ≤ 9223372036854775807) (htab : Lib.TabIs Tryd.prog w "internal/strconv.uint64pow10" .u64 Lib.pow10Tab) :
    Calls Tryd.prog 3 #[.slice a n c, .string s] w (fun e w' => e = .returned (.bool true) ∧ Below w.heap.size w w') := by
  have HT := Lib.hid (Lib.tabBelow_of_tabIs htab)
  have hfew := Lib.hid (few_any a n c d w h hc)
  clear h htab
  go_enter Tryd.func3, Tryd.ntmps3
  go_wp2_with fail
  refine hfew.out.mono ?_
  rintro e w1 ⟨⟨m, rfl, hsl, hmn⟩, rfl⟩
  generalize fewD d = d1 at *
  have hbt := Lib.hid (dbytes_any a m c d1 w hsl (by omega) HT.out.here (bytesGot d1) (Lib.hid rfl))
  have HSL := Lib.hid hsl
  have hbb := Lib.hid (fun (t : ByteArray) (h : bytesGot d1 = (t, 0)) => bytes_back h)
  have hbd := Lib.hid (fun (h : (bytesGot d1).2 ≠ 0) => bytes_bad h)
  have hbs := Lib.hid (bytes_size d1)
  clear hfew hsl
  go_wp2_with fail
  refine hbt.out.mono ?_
  rintro e w2 ⟨rfl, hb2⟩
  have HB2 := Lib.hid hb2
  have HSL2 := Lib.hid (HSL.out.keep hb2)
  clear hbt hb2 HSL
  generalize bytesGot d1 = g at *
  obtain ⟨g1, g2⟩ := g
  dsimp only
  have HPS : Hid (∀ w1, Calls Tryd.prog 10 #[.string s] w1 (ParsePost w1 (parseGot s))) := Lib.hid fun w1 => parse_any s w1 hm _ (Lib.hid rfl)
  have hpb := Lib.hid (fun (d : List DOp) (h : parseGot s = (d, 0)) => parse_back h)
  have hpd := Lib.hid (fun (h : (parseGot s).2 ≠ 0) => parse_bad h)
  generalize parseGot s = p at *
  obtain ⟨p1, p2⟩ := p
  have HRD : Hid (∀ w5, Below w.heap.size w w5 → Calls Tryd.prog 12 #[.slice (some ⟨w5.heap.size, 0, none⟩) 1 1] (w5.alloc (.cells #[.int .i64 0, .int .i64 1, .string ⟨#[]⟩] 32)) (fun e w' => e = .returned (.bool true) ∧ Below (w5.alloc (.cells #[.int .i64 0, .int .i64 1, .string ⟨#[]⟩] 32)).heap.size (w5.alloc (.cells #[.int .i64 0, .int .i64 1, .string ⟨#[]⟩] 32)) w')) :=
    Lib.hid fun w5 _ => dright_any _ 1 1 [⟨0, 1, ⟨#[]⟩⟩] _ (opsSl_one w5 ⟨0, 1, ⟨#[]⟩⟩ _) (by decide) true (Lib.hid (by decide))
  by_cases hg : g2 = 0
  · subst hg
    have hbk := hbb.out g1 rfl
    dsimp only at hbs
    have hps := Lib.hid (parse_any g1 w2 (by have := hbs.out; omega) (d1, 0) (Lib.hid hbk.symm))
    clear hbk hbb hbd hbs
    go_wp2_with fail
    refine hps.out.mono ?_
    rintro e w3 ⟨a3, n3, c3, rfl, hsl3, hnc3, hb3⟩
    obtain rfl : n3 = m := by rw [hsl3.1, HSL2.out.1]
    have hlk := Lib.hid (dlike_any a3 a n3 c3 c d1 w3 hsl3 (HSL2.out.keep hb3) (by omega))
    have HB3 := Lib.hid (HB2.out.trans (Below.lower hb3 HB2.out.size))
    clear hps hsl3 hb3 HSL2 HB2
    go_wp2_with fail
    refine hlk.out.mono ?_
    rintro e w4 ⟨rfl, hb4⟩
    have HB4 := Lib.hid (HB3.out.trans (Below.lower hb4 HB3.out.size))
    clear hlk hb4 HB3
    go_wp2_with fail
    refine (HPS.out w4).mono ?_
    rintro e w7 ⟨ay, ny, cy, rfl, hsly, hncy, hby⟩
    have HBY := Lib.hid (HB4.out.trans (Below.lower hby HB4.out.size))
    have HSLY := Lib.hid hsly
    clear hby hsly HPS HB4
    dsimp only
    by_cases hp : p2 = 0
    · subst hp
      have hbk := hpb.out p1 rfl
      have hlen := bytes_len hbk
      have hbt2 := Lib.hid (dbytes_any ay ny cy p1 w7 HSLY.out (by have h1 : ny = p1.length := HSLY.out.1; omega) (HT.out _ HBY.out) (s, 0) (Lib.hid hbk.symm))
      clear hbk hpb hpd HRD
      go_wp2_with fail
      refine hbt2.out.mono ?_
      rintro e w8 ⟨rfl, hb8⟩
      have HB8 := Lib.hid (HBY.out.trans (Below.lower hb8 HBY.out.size))
      clear hbt2 hb8
      go_wp2_with fail
      go_ret
      exact ⟨rfl, HB8.out⟩
    · have q1 : (p2 != 0) = true := by simpa using hp
      have q2 : (p2 == 0) = false := by simpa using hp
      have hp1 := hpd.out hp
      (try dsimp only at hp1)
      subst hp1
      obtain rfl : ny = 0 := HSLY.out.1
      clear hpb hpd hp
      go_wp2_with fail
      refine (HRD.out w7 HBY.out).mono ?_
      rintro e w8 ⟨rfl, hb8⟩
      have HB8 := Lib.hid ((HBY.out.alloc HBY.out.size (.cells #[.int .i64 0, .int .i64 1, .string ⟨#[]⟩] 32)).trans (Below.lower hb8 (by have := HBY.out.size; simp; omega)))
      clear hb8
      go_wp2_with fail
      go_ret
      exact ⟨rfl, HB8.out⟩
  · have r1 : (g2 != 0) = true := by simpa using hg
    have r2 : (g2 == 0) = false := by simpa using hg
    have hg1 := hbd.out hg
    dsimp only at hg1
    subst hg1
    clear hbb hbd hbs hg HSL2
    go_wp2_with fail
    refine (HPS.out w2).mono ?_
    rintro e w7 ⟨ay, ny, cy, rfl, hsly, hncy, hby⟩
    have HBY := Lib.hid (HB2.out.trans (Below.lower hby HB2.out.size))
    have HSLY := Lib.hid hsly
    clear hby hsly HPS HB2
    dsimp only
    by_cases hp : p2 = 0
    · subst hp
      have hbk := hpb.out p1 rfl
      have hlen := bytes_len hbk
      have hbt2 := Lib.hid (dbytes_any ay ny cy p1 w7 HSLY.out (by have h1 : ny = p1.length := HSLY.out.1; omega) (HT.out _ HBY.out) (s, 0) (Lib.hid hbk.symm))
      clear hbk hpb hpd HRD
      go_wp2_with fail
      refine hbt2.out.mono ?_
      rintro e w8 ⟨rfl, hb8⟩
      have HB8 := Lib.hid (HBY.out.trans (Below.lower hb8 HBY.out.size))
      clear hbt2 hb8
      go_wp2_with fail
      go_ret
      exact ⟨rfl, HB8.out⟩
    · have q1 : (p2 != 0) = true := by simpa using hp
      have q2 : (p2 == 0) = false := by simpa using hp
      have hp1 := hpd.out hp
      (try dsimp only at hp1)
      subst hp1
      obtain rfl : ny = 0 := HSLY.out.1
      clear hpb hpd hp
      go_wp2_with fail
      refine (HRD.out w7 HBY.out).mono ?_
      rintro e w8 ⟨rfl, hb8⟩
      have HB8 := Lib.hid ((HBY.out.alloc HBY.out.size (.cells #[.int .i64 0, .int .i64 1, .string ⟨#[]⟩] 32)).trans (Below.lower hb8 (by have := HBY.out.size; simp; omega)))
      clear hb8
      go_wp2_with fail
      go_ret
      exact ⟨rfl, HB8.out⟩
end Go.Proofs.YtdlnabjledhiiaaDoor
