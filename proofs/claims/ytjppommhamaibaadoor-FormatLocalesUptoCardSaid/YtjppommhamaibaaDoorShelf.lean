/-
  The contracts of the library functions that this seat calls, laid over this seat's numbers; each with the conditions that it states.
-/
import Derived.Shelf.Strings.Builder1
import Derived.Shelf.Strings.Trim
import Derived.Shelf.Small.Utf8
import Derived.Shelf.Small.Strs
import Derived.Shelf.Strings.BuilderF
import Derived.Shelf.Strings.BuilderK
import Derived.Shelf.Utf8.RuneCount
import Derived.Shelf.Strconv.Atoi
import Derived.Shelf.Strconv.Itoa0
import Derived.Shelf.Strconv.Itoa1
import Derived.Shelf.LaysM
import Derived.Shelf.Strconv.Itoa2
import Derived.Shelf.Strconv.Itoa3
import Derived.Shelf.Strconv.Itoa4
import Derived.Shelf.Strconv.AtoiErrFast
import Derived.Shelf.Strconv.ParseIntEmpty
import Derived.Shelf.Strconv.AtoiFail
import Derived.Shelf.Strconv.Clone
import Derived.Shelf.Strconv.SyntaxError
import Derived.Shelf.LaysC
import Derived.Shelf.Strconv.ToError
import Derived.Shelf.Strconv.Lower
import Derived.Shelf.Strconv.ParseUint10
import Derived.Shelf.Strconv.ParseUint10Empty
import Derived.Shelf.Strconv.ParseUint10Any
import Derived.Shelf.Strconv.ParseInt10
import Derived.Shelf.Strconv.AtoiLong
import Derived.Shelf.Strconv.AtoiInnerAll
import Derived.Shelf.Strconv.RangeError
import Derived.Shelf.Strconv.ToErrorRange
import Derived.Shelf.Strconv.AtoiAll
import Derived.Shelf.Strconv.ErrVarAll
import Derived.Shelf.Strconv.ParseUintEmpty
import Derived.Shelf.Strconv.ParseUint10b64
import Derived.Shelf.Strconv.ParseUint10b32
import Derived.Shelf.Strconv.ParseUint10b16
import Derived.Shelf.Strconv.ParseUint10b8
import Derived.Shelf.Strconv.ParseUint10At
import Derived.Shelf.Strconv.ParseInt10At64
import Derived.Shelf.Strconv.ParseInt10At32
import Derived.Shelf.Strconv.ParseInt10At16
import Derived.Shelf.Strconv.ParseInt10At8
import Derived.Shelf.Strconv.ParseInt10All
import Derived.Shelf.Strconv.ParseIntPublic10
import Derived.Shelf.Strconv.ErrVarParseInt
import Derived.Shelf.Strings.Search1
import Derived.Shelf.Strings.Search2
import Derived.Shelf.Strings.Search3
import Derived.Shelf.Strings.Cut
import Derived.Shelf.Strings.Count
import Derived.Shelf.Strings.Shaped
import Derived.Shelf.Strings.LastIndex
import Derived.Shelf.Strings.Split
import Derived.Shelf.Strings.SplitShaped
import Derived.Shelf.Unicode.Decode
import Derived.Shelf.Strings.Runes
import Derived.Shelf.Strings.RuneCount
import Derived.Shelf.Strings.AsciiSet
import Derived.Shelf.Strings.Explode
import Derived.Shelf.Unicode.DecodeSlow
import Derived.Shelf.Unicode.DecodeAny
import Derived.Shelf.Unicode.DecodeLast
import Derived.Shelf.Strings.BuilderCap
import Derived.Ground.PaProg
import Derived.Shelf.Path.Small
import Derived.Test.YtjppommhamaibaaDoorProg
namespace Go.Proofs
open Go.Shelf
def Tryd.lays170_ren : Go.Shelf.Ren := ⟨fun | 170 => 86 | n => n, fun | 70 => 105 | 3 => 3 | 0 => 0 | 72 => 107 | 37 => 41 | 5 => 5 | n => n, fun | n => n⟩
theorem Tryd.lays170 : Go.Proofs.Lays.n170 Tryd.prog Tryd.lays170_ren := {
  mixed := by kernel_rfl
  f170 := Tryd.func86.trans (congrArg some (by kernel_rfl))
  t0 := Tryd.underlying0
  a0 := Tryd.isAgg0
  z0 := Tryd.sizeOf0
  v0 := Tryd.zeroValue0
  t3 := Tryd.underlying3
  a3 := Tryd.isAgg3
  z3 := Tryd.sizeOf3
  v3 := Tryd.zeroValue3
  t37 := Tryd.underlying41
  a37 := Tryd.isAgg41
  z37 := Tryd.sizeOf41
  v37 := Tryd.zeroValue41
  t70 := Tryd.underlying105
  a70 := Tryd.isAgg105
  z70 := Tryd.sizeOf105
  v70 := Tryd.zeroValue105
  t72 := Tryd.underlying107
  a72 := Tryd.isAgg107
  z72 := Tryd.sizeOf107
  v72 := Tryd.zeroValue107 }
open Go.RowKit in
theorem Tryd.Builder_Len (B b : Nat) (bs : List Value) (w : World) (h : Lib.IsBuilder 107 5 B b bs w) :
    Calls Tryd.prog 86 #[.pointer (some ⟨b, 0, none⟩)] w fun e w' => e = .returned (.int .i64 bs.length) ∧ w' = w := Any.Builder_Len Tryd.lays170 B b bs w h
def Tryd.lays169_ren : Go.Shelf.Ren := ⟨fun | 169 => 87 | n => n, fun | 70 => 105 | 9 => 9 | 0 => 0 | 72 => 107 | 37 => 41 | 127 => 144 | 3 => 3 | 5 => 5 | n => n, fun | n => n⟩
theorem Tryd.lays169 : Go.Proofs.Lays.n169 Tryd.prog Tryd.lays169_ren := {
  mixed := by kernel_rfl
  f169 := Tryd.func87.trans (congrArg some (by kernel_rfl))
  t0 := Tryd.underlying0
  a0 := Tryd.isAgg0
  z0 := Tryd.sizeOf0
  v0 := Tryd.zeroValue0
  t3 := Tryd.underlying3
  a3 := Tryd.isAgg3
  z3 := Tryd.sizeOf3
  v3 := Tryd.zeroValue3
  t9 := Tryd.underlying9
  a9 := Tryd.isAgg9
  z9 := Tryd.sizeOf9
  v9 := Tryd.zeroValue9
  t37 := Tryd.underlying41
  a37 := Tryd.isAgg41
  z37 := Tryd.sizeOf41
  v37 := Tryd.zeroValue41
  t70 := Tryd.underlying105
  a70 := Tryd.isAgg105
  z70 := Tryd.sizeOf105
  v70 := Tryd.zeroValue105
  t72 := Tryd.underlying107
  a72 := Tryd.isAgg107
  z72 := Tryd.sizeOf107
  v72 := Tryd.zeroValue107
  t127 := Tryd.underlying144
  a127 := Tryd.isAgg144
  z127 := Tryd.sizeOf144
  v127 := Tryd.zeroValue144 }
theorem Tryd.Builder_Extra_169 : Builder.Extra Tryd.prog Tryd.lays169_ren := {
  sizeBuilder := by kernel_rfl
  liesBuilder := by kernel_rfl
  t5 := Tryd.underlying5
  a5 := Tryd.isAgg5
  z5 := Tryd.sizeOf5
  v5 := Tryd.zeroValue5
  infoByte := by kernel_rfl
  cellsByte := by kernel_rfl
  sizeByte := by kernel_rfl
  neB5 := by decide }
open Go.RowKit in
theorem Tryd.Builder_String (B b : Nat) (l : List UInt8) (w : World) (h : Lib.IsBuilder 107 5 B b (Lib.byteCells l) w) (h0 : l ≠ []) :
    Calls Tryd.prog 87 #[.pointer (some ⟨b, 0, none⟩)] w fun e w' => e = .returned (.string ⟨l.toArray⟩) ∧ Below B w w' := Any.Builder_String Tryd.lays169 Tryd.Builder_Extra_169 B b l w h h0
open Go.RowKit in
theorem Tryd.Builder_String_empty (B b : Nat) (w : World) (h : Lib.IsBuilder 107 5 B b [] w) (hBw : B ≤ w.heap.size) :
    Calls Tryd.prog 87 #[.pointer (some ⟨b, 0, none⟩)] w fun e w' => e = .returned (.string ⟨#[]⟩) ∧ Below B w w' := Any.Builder_String_empty Tryd.lays169 Tryd.Builder_Extra_169 B b w h hBw
open Go.RowKit in
theorem Tryd.Builder_String_any (B b : Nat) (l : List UInt8) (w : World) (h : Lib.IsBuilder 107 5 B b (Lib.byteCells l) w) (hBw : B ≤ w.heap.size) :
    Calls Tryd.prog 87 #[.pointer (some ⟨b, 0, none⟩)] w fun e w' => e = .returned (.string ⟨l.toArray⟩) ∧ Below B w w' := Any.Builder_String_any Tryd.lays169 Tryd.Builder_Extra_169 B b l w h hBw
def Tryd.lays231_ren : Go.Shelf.Ren := ⟨fun | 231 => 67 | n => n, fun | 9 => 9 | 5 => 5 | 3 => 3 | 4 => 4 | n => n, fun | n => n⟩
theorem Tryd.lays231 : Go.Proofs.Lays.n231 Tryd.prog Tryd.lays231_ren := {
  mixed := by kernel_rfl
  f231 := Tryd.func67.trans (congrArg some (by kernel_rfl))
  t3 := Tryd.underlying3
  a3 := Tryd.isAgg3
  z3 := Tryd.sizeOf3
  v3 := Tryd.zeroValue3
  t4 := Tryd.underlying4
  a4 := Tryd.isAgg4
  z4 := Tryd.sizeOf4
  v4 := Tryd.zeroValue4
  t5 := Tryd.underlying5
  a5 := Tryd.isAgg5
  z5 := Tryd.sizeOf5
  v5 := Tryd.zeroValue5
  t9 := Tryd.underlying9
  a9 := Tryd.isAgg9
  z9 := Tryd.sizeOf9
  v9 := Tryd.zeroValue9 }
open Go.RowKit in
theorem Tryd.strings_trimLeftByte (s : ByteArray) (c : UInt8) (w : World) :
    Calls Tryd.prog 67 #[.string s, .int .u8 c.toNat] w fun e w' => e = .returned (.string ⟨(Lib.trimLeftB s.data.toList c).toArray⟩) ∧ w' = w := Any.strings_trimLeftByte Tryd.lays231 s c w
def Tryd.lays232_ren : Go.Shelf.Ren := ⟨fun | 232 => 68 | n => n, fun | 9 => 9 | 5 => 5 | 3 => 3 | 4 => 4 | n => n, fun | n => n⟩
theorem Tryd.lays232 : Go.Proofs.Lays.n232 Tryd.prog Tryd.lays232_ren := {
  mixed := by kernel_rfl
  f232 := Tryd.func68.trans (congrArg some (by kernel_rfl))
  t3 := Tryd.underlying3
  a3 := Tryd.isAgg3
  z3 := Tryd.sizeOf3
  v3 := Tryd.zeroValue3
  t4 := Tryd.underlying4
  a4 := Tryd.isAgg4
  z4 := Tryd.sizeOf4
  v4 := Tryd.zeroValue4
  t5 := Tryd.underlying5
  a5 := Tryd.isAgg5
  z5 := Tryd.sizeOf5
  v5 := Tryd.zeroValue5
  t9 := Tryd.underlying9
  a9 := Tryd.isAgg9
  z9 := Tryd.sizeOf9
  v9 := Tryd.zeroValue9 }
open Go.RowKit in
theorem Tryd.strings_trimRightByte (s : ByteArray) (c : UInt8) (w : World) (hs : s.size ≤ 9223372036854775807) :
    Calls Tryd.prog 68 #[.string s, .int .u8 c.toNat] w fun e w' => e = .returned (.string ⟨(Lib.trimRightB s.data.toList c).toArray⟩) ∧ w' = w := Any.strings_trimRightByte Tryd.lays232 s c w hs
def Tryd.lays160_ren : Go.Shelf.Ren := ⟨fun | 160 => 33 | 232 => 68 | 231 => 67 | 227 => 69 | 234 => 71 | 233 => 70 | 236 => 73 | 235 => 72 | 228 => 107 | 271 => 110 | 151 => 109 | 197 => 108 | 120 => 139 | 152 => 138 | 260 => 137 | 137 => 156 | 119 => 157 | 224 => 142 | 225 => 141 | 217 => 140 | 266 => 158 | n => n, fun | 9 => 9 | 4 => 4 | 3 => 3 | 5 => 5 | 117 => 98 | 116 => 97 | 0 => 0 | 124 => 101 | 21 => 21 | 105 => 138 | 46 => 145 | 119 => 168 | 139 => 171 | 138 => 170 | n => n, fun | 3 => 1 | 4 => 2 | n => n⟩
theorem Tryd.lays160 : Go.Proofs.Lays.n160 Tryd.prog Tryd.lays160_ren := {
  mixed := by kernel_rfl
  f119 := Tryd.func157.trans (congrArg some (by kernel_rfl))
  f120 := Tryd.func139.trans (congrArg some (by kernel_rfl))
  f137 := Tryd.func156.trans (congrArg some (by kernel_rfl))
  f151 := Tryd.func109.trans (congrArg some (by kernel_rfl))
  f152 := Tryd.func138.trans (congrArg some (by kernel_rfl))
  f160 := Tryd.func33.trans (congrArg some (by kernel_rfl))
  f197 := Tryd.func108.trans (congrArg some (by kernel_rfl))
  f217 := Tryd.func140.trans (congrArg some (by kernel_rfl))
  f224 := Tryd.func142.trans (congrArg some (by kernel_rfl))
  f225 := Tryd.func141.trans (congrArg some (by kernel_rfl))
  f227 := Tryd.func69.trans (congrArg some (by kernel_rfl))
  f228 := Tryd.func107.trans (congrArg some (by kernel_rfl))
  f231 := Tryd.func67.trans (congrArg some (by kernel_rfl))
  f232 := Tryd.func68.trans (congrArg some (by kernel_rfl))
  f233 := Tryd.func70.trans (congrArg some (by kernel_rfl))
  f234 := Tryd.func71.trans (congrArg some (by kernel_rfl))
  f235 := Tryd.func72.trans (congrArg some (by kernel_rfl))
  f236 := Tryd.func73.trans (congrArg some (by kernel_rfl))
  f260 := Tryd.func137.trans (congrArg some (by kernel_rfl))
  f266 := Tryd.func158.trans (congrArg some (by kernel_rfl))
  f271 := Tryd.func110.trans (congrArg some (by kernel_rfl))
  t0 := Tryd.underlying0
  a0 := Tryd.isAgg0
  z0 := Tryd.sizeOf0
  v0 := Tryd.zeroValue0
  t3 := Tryd.underlying3
  a3 := Tryd.isAgg3
  z3 := Tryd.sizeOf3
  v3 := Tryd.zeroValue3
  t4 := Tryd.underlying4
  a4 := Tryd.isAgg4
  z4 := Tryd.sizeOf4
  v4 := Tryd.zeroValue4
  t5 := Tryd.underlying5
  a5 := Tryd.isAgg5
  z5 := Tryd.sizeOf5
  v5 := Tryd.zeroValue5
  t9 := Tryd.underlying9
  a9 := Tryd.isAgg9
  z9 := Tryd.sizeOf9
  v9 := Tryd.zeroValue9
  t21 := Tryd.underlying21
  a21 := Tryd.isAgg21
  z21 := Tryd.sizeOf21
  v21 := Tryd.zeroValue21
  t46 := Tryd.underlying145
  a46 := Tryd.isAgg145
  z46 := Tryd.sizeOf145
  v46 := Tryd.zeroValue145
  t105 := Tryd.underlying138
  a105 := Tryd.isAgg138
  z105 := Tryd.sizeOf138
  v105 := Tryd.zeroValue138
  t116 := Tryd.underlying97
  a116 := Tryd.isAgg97
  z116 := Tryd.sizeOf97
  t117 := Tryd.underlying98
  a117 := Tryd.isAgg98
  z117 := Tryd.sizeOf98
  v117 := Tryd.zeroValue98
  t119 := Tryd.underlying168
  a119 := Tryd.isAgg168
  z119 := Tryd.sizeOf168
  t124 := Tryd.underlying101
  a124 := Tryd.isAgg101
  z124 := Tryd.sizeOf101
  v124 := Tryd.zeroValue101
  t138 := Tryd.underlying170
  a138 := Tryd.isAgg170
  z138 := Tryd.sizeOf170
  v138 := Tryd.zeroValue170
  t139 := Tryd.underlying171
  a139 := Tryd.isAgg171
  z139 := Tryd.sizeOf171
  v139 := Tryd.zeroValue171
  g3 := by kernel_rfl
  g4 := by kernel_rfl }
open Go.RowKit in
theorem Tryd.strings_Trim_one (s : ByteArray) (c : UInt8) (hc : c.toNat < 128) (w : World) (hs : s.size ≤ 9223372036854775807) :
    Calls Tryd.prog 33 #[.string s, .string ⟨#[c]⟩] w fun e w' => e = .returned (.string ⟨(Lib.trimB s.data.toList c).toArray⟩) ∧ (w' = w ∨ w' = w.drew) := Any.strings_Trim_one Tryd.lays160 s c hc w hs
def Tryd.lays119_ren : Go.Shelf.Ren := ⟨fun | 119 => 157 | n => n, fun | 21 => 21 | 4 => 4 | n => n, fun | n => n⟩
theorem Tryd.lays119 : Go.Proofs.Lays.n119 Tryd.prog Tryd.lays119_ren := {
  mixed := by kernel_rfl
  f119 := Tryd.func157.trans (congrArg some (by kernel_rfl))
  t4 := Tryd.underlying4
  a4 := Tryd.isAgg4
  z4 := Tryd.sizeOf4
  v4 := Tryd.zeroValue4
  t21 := Tryd.underlying21
  a21 := Tryd.isAgg21
  z21 := Tryd.sizeOf21
  v21 := Tryd.zeroValue21 }
theorem Tryd.utf8_ValidRune (r : Int) (w : World) :
    Calls Tryd.prog 157 #[.int .i32 r] w fun e w' => e = .returned (.bool (Lib.validRune r)) ∧ w' = w := Any.utf8_ValidRune Tryd.lays119 r w
def Tryd.lays120_ren : Go.Shelf.Ren := ⟨fun | 120 => 139 | n => n, fun | 5 => 5 | 4 => 4 | n => n, fun | n => n⟩
theorem Tryd.lays120 : Go.Proofs.Lays.n120 Tryd.prog Tryd.lays120_ren := {
  mixed := by kernel_rfl
  f120 := Tryd.func139.trans (congrArg some (by kernel_rfl))
  t4 := Tryd.underlying4
  a4 := Tryd.isAgg4
  z4 := Tryd.sizeOf4
  v4 := Tryd.zeroValue4
  t5 := Tryd.underlying5
  a5 := Tryd.isAgg5
  z5 := Tryd.sizeOf5
  v5 := Tryd.zeroValue5 }
theorem Tryd.utf8_RuneStart (b : Int) (w : World) (h0 : 0 ≤ b) (h1 : b < 256) :
    Calls Tryd.prog 139 #[.int .u8 b] w fun e w' => e = .returned (.bool (Lib.runeStart b)) ∧ w' = w := Any.utf8_RuneStart Tryd.lays120 b w h0 h1
def Tryd.lays137_ren : Go.Shelf.Ren := ⟨fun | 137 => 156 | 217 => 140 | 266 => 158 | n => n, fun | 9 => 9 | 5 => 5 | 3 => 3 | n => n, fun | n => n⟩
theorem Tryd.lays137 : Go.Proofs.Lays.n137 Tryd.prog Tryd.lays137_ren := {
  mixed := by kernel_rfl
  f137 := Tryd.func156.trans (congrArg some (by kernel_rfl))
  f217 := Tryd.func140.trans (congrArg some (by kernel_rfl))
  f266 := Tryd.func158.trans (congrArg some (by kernel_rfl))
  t3 := Tryd.underlying3
  a3 := Tryd.isAgg3
  z3 := Tryd.sizeOf3
  v3 := Tryd.zeroValue3
  t5 := Tryd.underlying5
  a5 := Tryd.isAgg5
  z5 := Tryd.sizeOf5
  v5 := Tryd.zeroValue5
  t9 := Tryd.underlying9
  a9 := Tryd.isAgg9
  z9 := Tryd.sizeOf9
  v9 := Tryd.zeroValue9 }
open Go.RowKit in
theorem Tryd.strings_IndexByte (s : ByteArray) (c : Int) (w : World) :
    Calls Tryd.prog 156 #[.string s, .int .u8 c] w fun e w' => e = .returned (.int .i64 (Lib.indexByte s.data.toList c.toNat.toUInt8)) ∧ w' = w := Any.strings_IndexByte Tryd.lays137 s c w
open Go.RowKit in
theorem Tryd.Builder_Len_f (B b : Nat) (bs : List Value) (w : World) (h : Lib.IsBuilderF 107 5 B b bs w) :
    Calls Tryd.prog 86 #[.pointer (some ⟨b, 0, none⟩)] w fun e w' => e = .returned (.int .i64 bs.length) ∧ w' = w := Any.Builder_Len_f Tryd.lays170 B b bs w h
open Go.RowKit in
theorem Tryd.Builder_String_f (B b : Nat) (l : List UInt8) (w : World) (h : Lib.IsBuilderF 107 5 B b (Lib.byteCells l) w) (h0 : l ≠ []) :
    Calls Tryd.prog 87 #[.pointer (some ⟨b, 0, none⟩)] w fun e w' => e = .returned (.string ⟨l.toArray⟩) ∧ (Lib.IsBuilderF 107 5 B b (Lib.byteCells l) w' ∧ Below B w w') := Any.Builder_String_f Tryd.lays169 Tryd.Builder_Extra_169 B b l w h h0
open Go.RowKit in
theorem Tryd.Builder_String_empty_f (B b : Nat) (w : World) (h : Lib.IsBuilderF 107 5 B b [] w) (hBw : B ≤ w.heap.size) :
    Calls Tryd.prog 87 #[.pointer (some ⟨b, 0, none⟩)] w fun e w' => e = .returned (.string ⟨#[]⟩) ∧ (Lib.IsBuilderF 107 5 B b [] w' ∧ Below B w w') := Any.Builder_String_empty_f Tryd.lays169 Tryd.Builder_Extra_169 B b w h hBw
open Go.RowKit in
theorem Tryd.Builder_String_any_f (B b : Nat) (l : List UInt8) (w : World) (h : Lib.IsBuilderF 107 5 B b (Lib.byteCells l) w) (hBw : B ≤ w.heap.size) :
    Calls Tryd.prog 87 #[.pointer (some ⟨b, 0, none⟩)] w fun e w' => e = .returned (.string ⟨l.toArray⟩) ∧ (Lib.IsBuilderF 107 5 B b (Lib.byteCells l) w' ∧ Below B w w') := Any.Builder_String_any_f Tryd.lays169 Tryd.Builder_Extra_169 B b l w h hBw
open Go.RowKit in
theorem Tryd.Builder_String_k (B b : Nat) (l : List UInt8) (w : World) (h : Lib.IsBuilderF 107 5 B b (Lib.byteCells l) w) (h0 : l ≠ []) :
    Calls Tryd.prog 87 #[.pointer (some ⟨b, 0, none⟩)] w fun e w' => e = .returned (.string ⟨l.toArray⟩) ∧ (Lib.IsBuilderF 107 5 B b (Lib.byteCells l) w' ∧ Below B w w' ∧ Lib.OthersKept 5 (some b) w w') := Any.Builder_String_k Tryd.lays169 Tryd.Builder_Extra_169 B b l w h h0
open Go.RowKit in
theorem Tryd.Builder_String_empty_k (B b : Nat) (w : World) (h : Lib.IsBuilderF 107 5 B b [] w) (hBw : B ≤ w.heap.size) :
    Calls Tryd.prog 87 #[.pointer (some ⟨b, 0, none⟩)] w fun e w' => e = .returned (.string ⟨#[]⟩) ∧ (Lib.IsBuilderF 107 5 B b [] w' ∧ Below B w w' ∧ Lib.OthersKept 5 (some b) w w') := Any.Builder_String_empty_k Tryd.lays169 Tryd.Builder_Extra_169 B b w h hBw
open Go.RowKit in
theorem Tryd.Builder_String_any_k (B b : Nat) (l : List UInt8) (w : World) (h : Lib.IsBuilderF 107 5 B b (Lib.byteCells l) w) (hBw : B ≤ w.heap.size) :
    Calls Tryd.prog 87 #[.pointer (some ⟨b, 0, none⟩)] w fun e w' => e = .returned (.string ⟨l.toArray⟩) ∧ (Lib.IsBuilderF 107 5 B b (Lib.byteCells l) w' ∧ Below B w w' ∧ Lib.OthersKept 5 (some b) w w') := Any.Builder_String_any_k Tryd.lays169 Tryd.Builder_Extra_169 B b l w h hBw
def Tryd.lays195_ren : Go.Shelf.Ren := ⟨fun | 195 => 135 | n => n, fun | 9 => 9 | 3 => 3 | 0 => 0 | 4 => 4 | n => n, fun | n => n⟩
theorem Tryd.lays195 : Go.Proofs.Lays.n195 Tryd.prog Tryd.lays195_ren := {
  mixed := by kernel_rfl
  f195 := Tryd.func135.trans (congrArg some (by kernel_rfl))
  t0 := Tryd.underlying0
  a0 := Tryd.isAgg0
  z0 := Tryd.sizeOf0
  v0 := Tryd.zeroValue0
  t3 := Tryd.underlying3
  a3 := Tryd.isAgg3
  z3 := Tryd.sizeOf3
  v3 := Tryd.zeroValue3
  t4 := Tryd.underlying4
  a4 := Tryd.isAgg4
  z4 := Tryd.sizeOf4
  v4 := Tryd.zeroValue4
  t9 := Tryd.underlying9
  a9 := Tryd.isAgg9
  z9 := Tryd.sizeOf9
  v9 := Tryd.zeroValue9 }
open Go.RowKit in
theorem Tryd.utf8_RuneCountInString (s : ByteArray) (w : World) (hs : s.size < 9223372036854775807) :
    Calls Tryd.prog 135 #[.string s] w fun e w' => e = .returned (.int .i64 (Lib.runeCount s)) ∧ ∃ pos, w' = w.iter s pos := Any.utf8_RuneCountInString Tryd.lays195 s w hs
def Tryd.lays244_ren : Go.Shelf.Ren := ⟨fun | 244 => 168 | 247 => 166 | 287 => 171 | 321 => 176 | 322 => 177 | n => n, fun | 9 => 9 | 3 => 3 | 75 => 110 | 4 => 4 | 5 => 5 | 167 => 182 | 37 => 41 | 0 => 0 | 85 => 166 | 2 => 2 | 53 => 148 | 175 => 183 | 46 => 145 | 21 => 21 | 80 => 117 | n => n, fun | n => n⟩
theorem Tryd.lays244 : Go.Proofs.Lays.n244 Tryd.prog Tryd.lays244_ren := {
  mixed := by kernel_rfl
  f244 := Tryd.func168.trans (congrArg some (by kernel_rfl))
  f247 := Tryd.func166.trans (congrArg some (by kernel_rfl))
  f287 := Tryd.func171.trans (congrArg some (by kernel_rfl))
  f321 := Tryd.func176.trans (congrArg some (by kernel_rfl))
  f322 := Tryd.func177.trans (congrArg some (by kernel_rfl))
  t0 := Tryd.underlying0
  a0 := Tryd.isAgg0
  z0 := Tryd.sizeOf0
  v0 := Tryd.zeroValue0
  t2 := Tryd.underlying2
  a2 := Tryd.isAgg2
  z2 := Tryd.sizeOf2
  v2 := Tryd.zeroValue2
  t3 := Tryd.underlying3
  a3 := Tryd.isAgg3
  z3 := Tryd.sizeOf3
  v3 := Tryd.zeroValue3
  t4 := Tryd.underlying4
  a4 := Tryd.isAgg4
  z4 := Tryd.sizeOf4
  v4 := Tryd.zeroValue4
  t5 := Tryd.underlying5
  a5 := Tryd.isAgg5
  z5 := Tryd.sizeOf5
  v5 := Tryd.zeroValue5
  t9 := Tryd.underlying9
  a9 := Tryd.isAgg9
  z9 := Tryd.sizeOf9
  v9 := Tryd.zeroValue9
  t21 := Tryd.underlying21
  a21 := Tryd.isAgg21
  z21 := Tryd.sizeOf21
  v21 := Tryd.zeroValue21
  t37 := Tryd.underlying41
  a37 := Tryd.isAgg41
  z37 := Tryd.sizeOf41
  v37 := Tryd.zeroValue41
  t46 := Tryd.underlying145
  a46 := Tryd.isAgg145
  z46 := Tryd.sizeOf145
  v46 := Tryd.zeroValue145
  t53 := Tryd.underlying148
  a53 := Tryd.isAgg148
  z53 := Tryd.sizeOf148
  v53 := Tryd.zeroValue148
  t75 := Tryd.underlying110
  a75 := Tryd.isAgg110
  z75 := Tryd.sizeOf110
  v75 := Tryd.zeroValue110
  t85 := Tryd.underlying166
  a85 := Tryd.isAgg166
  z85 := Tryd.sizeOf166
  v85 := Tryd.zeroValue166
  t167 := Tryd.underlying182
  a167 := Tryd.isAgg182
  z167 := Tryd.sizeOf182
  v167 := Tryd.zeroValue182
  t175 := Tryd.underlying183
  a175 := Tryd.isAgg183
  z175 := Tryd.sizeOf183
  v175 := Tryd.zeroValue183 }
open Go.RowKit in
theorem Tryd.internal_strconv_Atoi (s : ByteArray) (n : Int) (hl : s.size ≤ 18) (h : Lib.atoi s.data.toList = some n) (w : World) :
    Calls Tryd.prog 168 #[.string s] w fun e w' => e = .returned (.tuple #[.int .i64 n, .nilIface]) ∧ ∃ t, w' = Lib.bytesWorld w 5 t := Any.internal_strconv_Atoi Tryd.lays244 s n hl h w
def Tryd.lays172_ren : Go.Shelf.Ren := ⟨fun | 172 => 155 | 244 => 168 | 245 => 167 | 247 => 166 | 279 => 172 | 280 => 173 | 281 => 174 | 282 => 175 | 287 => 171 | 316 => 178 | 171 => 84 | 205 => 179 | 321 => 176 | 322 => 177 | 243 => 117 | 246 => 116 | 283 => 145 | 284 => 146 | 285 => 147 | 286 => 148 | 129 => 161 | 317 => 160 | 318 => 162 | 319 => 163 | 320 => 164 | 337 => 169 | 338 => 170 | n => n, fun | 9 => 9 | 3 => 3 | 75 => 110 | 76 => 111 | 4 => 4 | 5 => 5 | 167 => 182 | 37 => 41 | 0 => 0 | 85 => 166 | 2 => 2 | 168 => 185 | 53 => 148 | 175 => 183 | 46 => 145 | 210 => 192 | 127 => 144 | 145 => 196 | 143 => 194 | 21 => 21 | 171 => 160 | 173 => 163 | 212 => 176 | 51 => 119 | 20 => 20 | 213 => 177 | 232 => 188 | 233 => 189 | 80 => 117 | n => n, fun | 15 => 6 | 16 => 7 | 17 => 3 | 18 => 4 | 19 => 5 | n => n⟩
theorem Tryd.lays172 : Go.Proofs.Lays.n172 Tryd.prog Tryd.lays172_ren := {
  mixed := by kernel_rfl
  f129 := Tryd.func161.trans (congrArg some (by kernel_rfl))
  f171 := Tryd.func84.trans (congrArg some (by kernel_rfl))
  f172 := Tryd.func155.trans (congrArg some (by kernel_rfl))
  f205 := Tryd.func179.trans (congrArg some (by kernel_rfl))
  f243 := Tryd.func117.trans (congrArg some (by kernel_rfl))
  f244 := Tryd.func168.trans (congrArg some (by kernel_rfl))
  f245 := Tryd.func167.trans (congrArg some (by kernel_rfl))
  f246 := Tryd.func116.trans (congrArg some (by kernel_rfl))
  f247 := Tryd.func166.trans (congrArg some (by kernel_rfl))
  f279 := Tryd.func172.trans (congrArg some (by kernel_rfl))
  f280 := Tryd.func173.trans (congrArg some (by kernel_rfl))
  f281 := Tryd.func174.trans (congrArg some (by kernel_rfl))
  f282 := Tryd.func175.trans (congrArg some (by kernel_rfl))
  f283 := Tryd.func145.trans (congrArg some (by kernel_rfl))
  f284 := Tryd.func146.trans (congrArg some (by kernel_rfl))
  f285 := Tryd.func147.trans (congrArg some (by kernel_rfl))
  f286 := Tryd.func148.trans (congrArg some (by kernel_rfl))
  f287 := Tryd.func171.trans (congrArg some (by kernel_rfl))
  f316 := Tryd.func178.trans (congrArg some (by kernel_rfl))
  f317 := Tryd.func160.trans (congrArg some (by kernel_rfl))
  f318 := Tryd.func162.trans (congrArg some (by kernel_rfl))
  f319 := Tryd.func163.trans (congrArg some (by kernel_rfl))
  f320 := Tryd.func164.trans (congrArg some (by kernel_rfl))
  f321 := Tryd.func176.trans (congrArg some (by kernel_rfl))
  f322 := Tryd.func177.trans (congrArg some (by kernel_rfl))
  f337 := Tryd.func169.trans (congrArg some (by kernel_rfl))
  f338 := Tryd.func170.trans (congrArg some (by kernel_rfl))
  t0 := Tryd.underlying0
  a0 := Tryd.isAgg0
  z0 := Tryd.sizeOf0
  v0 := Tryd.zeroValue0
  t2 := Tryd.underlying2
  a2 := Tryd.isAgg2
  z2 := Tryd.sizeOf2
  v2 := Tryd.zeroValue2
  t3 := Tryd.underlying3
  a3 := Tryd.isAgg3
  z3 := Tryd.sizeOf3
  v3 := Tryd.zeroValue3
  t4 := Tryd.underlying4
  a4 := Tryd.isAgg4
  z4 := Tryd.sizeOf4
  v4 := Tryd.zeroValue4
  t5 := Tryd.underlying5
  a5 := Tryd.isAgg5
  z5 := Tryd.sizeOf5
  v5 := Tryd.zeroValue5
  t9 := Tryd.underlying9
  a9 := Tryd.isAgg9
  z9 := Tryd.sizeOf9
  v9 := Tryd.zeroValue9
  t20 := Tryd.underlying20
  a20 := Tryd.isAgg20
  z20 := Tryd.sizeOf20
  v20 := Tryd.zeroValue20
  t21 := Tryd.underlying21
  a21 := Tryd.isAgg21
  z21 := Tryd.sizeOf21
  v21 := Tryd.zeroValue21
  t37 := Tryd.underlying41
  a37 := Tryd.isAgg41
  z37 := Tryd.sizeOf41
  v37 := Tryd.zeroValue41
  t46 := Tryd.underlying145
  a46 := Tryd.isAgg145
  z46 := Tryd.sizeOf145
  v46 := Tryd.zeroValue145
  t51 := Tryd.underlying119
  a51 := Tryd.isAgg119
  z51 := Tryd.sizeOf119
  v51 := Tryd.zeroValue119
  t53 := Tryd.underlying148
  a53 := Tryd.isAgg148
  z53 := Tryd.sizeOf148
  v53 := Tryd.zeroValue148
  t75 := Tryd.underlying110
  a75 := Tryd.isAgg110
  z75 := Tryd.sizeOf110
  v75 := Tryd.zeroValue110
  t76 := Tryd.underlying111
  a76 := Tryd.isAgg111
  z76 := Tryd.sizeOf111
  v76 := Tryd.zeroValue111
  t85 := Tryd.underlying166
  a85 := Tryd.isAgg166
  z85 := Tryd.sizeOf166
  v85 := Tryd.zeroValue166
  t127 := Tryd.underlying144
  a127 := Tryd.isAgg144
  z127 := Tryd.sizeOf144
  v127 := Tryd.zeroValue144
  t143 := Tryd.underlying194
  a143 := Tryd.isAgg194
  z143 := Tryd.sizeOf194
  v143 := Tryd.zeroValue194
  t145 := Tryd.underlying196
  a145 := Tryd.isAgg196
  z145 := Tryd.sizeOf196
  v145 := Tryd.zeroValue196
  t167 := Tryd.underlying182
  a167 := Tryd.isAgg182
  z167 := Tryd.sizeOf182
  v167 := Tryd.zeroValue182
  t168 := Tryd.underlying185
  a168 := Tryd.isAgg185
  z168 := Tryd.sizeOf185
  v168 := Tryd.zeroValue185
  t171 := Tryd.underlying160
  a171 := Tryd.isAgg160
  z171 := Tryd.sizeOf160
  v171 := Tryd.zeroValue160
  t173 := Tryd.underlying163
  a173 := Tryd.isAgg163
  z173 := Tryd.sizeOf163
  v173 := Tryd.zeroValue163
  t175 := Tryd.underlying183
  a175 := Tryd.isAgg183
  z175 := Tryd.sizeOf183
  v175 := Tryd.zeroValue183
  t210 := Tryd.underlying192
  a210 := Tryd.isAgg192
  z210 := Tryd.sizeOf192
  v210 := Tryd.zeroValue192
  t212 := Tryd.underlying176
  a212 := Tryd.isAgg176
  z212 := Tryd.sizeOf176
  v212 := Tryd.zeroValue176
  t213 := Tryd.underlying177
  a213 := Tryd.isAgg177
  z213 := Tryd.sizeOf177
  t232 := Tryd.underlying188
  a232 := Tryd.isAgg188
  z232 := Tryd.sizeOf188
  v232 := Tryd.zeroValue188
  t233 := Tryd.underlying189
  a233 := Tryd.isAgg189
  z233 := Tryd.sizeOf189
  v233 := Tryd.zeroValue189
  g15 := by kernel_rfl
  g16 := by kernel_rfl
  g17 := by kernel_rfl
  g18 := by kernel_rfl
  g19 := by kernel_rfl }
open Go.RowKit in
theorem Tryd.strconv_Atoi (s : ByteArray) (n : Int) (hl : s.size ≤ 18) (h : Lib.atoi s.data.toList = some n) (w : World) :
    Calls Tryd.prog 155 #[.string s] w fun e w' => e = .returned (.tuple #[.int .i64 n, .nilIface]) ∧ ∃ t, w' = Lib.bytesWorld w 5 t := Any.strconv_Atoi Tryd.lays172 s n hl h w
def Tryd.lays129_ren : Go.Shelf.Ren := ⟨fun | 129 => 161 | n => n, fun | 53 => 148 | 3 => 3 | 4 => 4 | 46 => 145 | 5 => 5 | 9 => 9 | n => n, fun | n => n⟩
theorem Tryd.lays129 : Go.Proofs.Lays.n129 Tryd.prog Tryd.lays129_ren := {
  mixed := by kernel_rfl
  f129 := Tryd.func161.trans (congrArg some (by kernel_rfl))
  t3 := Tryd.underlying3
  a3 := Tryd.isAgg3
  z3 := Tryd.sizeOf3
  v3 := Tryd.zeroValue3
  t4 := Tryd.underlying4
  a4 := Tryd.isAgg4
  z4 := Tryd.sizeOf4
  v4 := Tryd.zeroValue4
  t5 := Tryd.underlying5
  a5 := Tryd.isAgg5
  z5 := Tryd.sizeOf5
  v5 := Tryd.zeroValue5
  t9 := Tryd.underlying9
  a9 := Tryd.isAgg9
  z9 := Tryd.sizeOf9
  v9 := Tryd.zeroValue9
  t46 := Tryd.underlying145
  a46 := Tryd.isAgg145
  z46 := Tryd.sizeOf145
  v46 := Tryd.zeroValue145
  t53 := Tryd.underlying148
  a53 := Tryd.isAgg148
  z53 := Tryd.sizeOf148
  v53 := Tryd.zeroValue148 }
theorem Tryd.bits_Len64 (x : Int) (w : World) (h0 : 0 ≤ x) (h1 : x ≤ 18446744073709551615) :
    Calls Tryd.prog 161 #[.int .u64 x] w fun e w' => e = .returned (.int .i64 (Lib.bitLen x.toNat)) ∧ w' = w := Any.bits_Len64 Tryd.lays129 x w h0 h1
def Tryd.lays317_ren : Go.Shelf.Ren := ⟨fun | 317 => 160 | n => n, fun | 3 => 3 | 46 => 145 | n => n, fun | n => n⟩
theorem Tryd.lays317 : Go.Proofs.Lays.n317 Tryd.prog Tryd.lays317_ren := {
  mixed := by kernel_rfl
  f317 := Tryd.func160.trans (congrArg some (by kernel_rfl))
  t3 := Tryd.underlying3
  a3 := Tryd.isAgg3
  z3 := Tryd.sizeOf3
  v3 := Tryd.zeroValue3
  t46 := Tryd.underlying145
  a46 := Tryd.isAgg145
  z46 := Tryd.sizeOf145
  v46 := Tryd.zeroValue145 }
open Go.Lib in
theorem Tryd.internal_strconv_log10Pow2 (x : Nat) (h : x ≤ 64) (w : World) :
    Calls Tryd.prog 160 #[.int .i64 x] w fun e w' => e = .returned (.int .i64 (Lib.l10 x)) ∧ w' = w := Any.internal_strconv_log10Pow2 Tryd.lays317 x h w
def Tryd.lays318_ren : Go.Shelf.Ren := ⟨fun | 318 => 162 | n => n, fun | 3 => 3 | 4 => 4 | n => n, fun | n => n⟩
theorem Tryd.lays318 : Go.Proofs.Lays.n318 Tryd.prog Tryd.lays318_ren := {
  mixed := by kernel_rfl
  f318 := Tryd.func162.trans (congrArg some (by kernel_rfl))
  t3 := Tryd.underlying3
  a3 := Tryd.isAgg3
  z3 := Tryd.sizeOf3
  v3 := Tryd.zeroValue3
  t4 := Tryd.underlying4
  a4 := Tryd.isAgg4
  z4 := Tryd.sizeOf4
  v4 := Tryd.zeroValue4 }
open Go.Lib in
theorem Tryd.internal_strconv_bool2_int (b : Bool) (w : World) :
    Calls Tryd.prog 162 #[.bool b] w fun e w' => e = .returned (.int .i64 (if b then 1 else 0)) ∧ w' = w := Any.internal_strconv_bool2_int Tryd.lays318 b w
def Tryd.lays283_ren : Go.Shelf.Ren := ⟨fun | 283 => 145 | n => n, fun | 3 => 3 | 9 => 9 | 4 => 4 | n => n, fun | n => n⟩
theorem Tryd.lays283 : Go.Proofs.Lays.n283 Tryd.prog Tryd.lays283_ren := {
  mixed := by kernel_rfl
  f283 := Tryd.func145.trans (congrArg some (by kernel_rfl))
  t3 := Tryd.underlying3
  a3 := Tryd.isAgg3
  z3 := Tryd.sizeOf3
  v3 := Tryd.zeroValue3
  t4 := Tryd.underlying4
  a4 := Tryd.isAgg4
  z4 := Tryd.sizeOf4
  v4 := Tryd.zeroValue4
  t9 := Tryd.underlying9
  a9 := Tryd.isAgg9
  z9 := Tryd.sizeOf9
  v9 := Tryd.zeroValue9 }
open Go.Lib in
theorem Tryd.internal_strconv_small (i : Nat) (h : i < 100) (w : World) :
    Calls Tryd.prog 145 #[.int .i64 i] w fun e w' => e = .returned (.string ⟨(Lib.decDigits i).toArray⟩) ∧ w' = w := Any.internal_strconv_small Tryd.lays283 i h w
def Tryd.laysM284_ren : Go.Shelf.Ren := ⟨fun | 284 => 146 | 129 => 161 | 317 => 160 | 318 => 162 | n => n, fun | 53 => 148 | 3 => 3 | 212 => 176 | 0 => 0 | 4 => 4 | 46 => 145 | 5 => 5 | 9 => 9 | n => n, fun | 17 => 3 | n => n⟩
theorem Tryd.laysM284 : Go.Proofs.LaysM.n284 Tryd.prog Tryd.laysM284_ren := {
  mixed := by kernel_rfl
  f129 := Tryd.func161.trans (congrArg some (by kernel_rfl))
  f284 := Tryd.func146.trans (congrArg some (by kernel_rfl))
  f317 := Tryd.func160.trans (congrArg some (by kernel_rfl))
  f318 := Tryd.func162.trans (congrArg some (by kernel_rfl))
  t0 := Tryd.underlying0
  a0 := Tryd.isAgg0
  z0 := Tryd.sizeOf0
  v0 := Tryd.zeroValue0
  t3 := Tryd.underlying3
  a3 := Tryd.isAgg3
  z3 := Tryd.sizeOf3
  v3 := Tryd.zeroValue3
  t4 := Tryd.underlying4
  a4 := Tryd.isAgg4
  z4 := Tryd.sizeOf4
  v4 := Tryd.zeroValue4
  t5 := Tryd.underlying5
  a5 := Tryd.isAgg5
  z5 := Tryd.sizeOf5
  v5 := Tryd.zeroValue5
  t9 := Tryd.underlying9
  a9 := Tryd.isAgg9
  z9 := Tryd.sizeOf9
  v9 := Tryd.zeroValue9
  t46 := Tryd.underlying145
  a46 := Tryd.isAgg145
  z46 := Tryd.sizeOf145
  v46 := Tryd.zeroValue145
  t53 := Tryd.underlying148
  a53 := Tryd.isAgg148
  z53 := Tryd.sizeOf148
  v53 := Tryd.zeroValue148
  t212 := Tryd.underlying176
  a212 := Tryd.isAgg176
  z212 := Tryd.sizeOf176
  v212 := Tryd.zeroValue176
  g17 := by kernel_rfl
  i0 := by kernel_rfl
  i3 := by kernel_rfl
  i4 := by kernel_rfl
  i5 := by kernel_rfl
  i9 := by kernel_rfl
  i46 := by kernel_rfl
  i53 := by kernel_rfl
  i212 := by kernel_rfl
  m17 := by kernel_rfl }
open Go.Lib in
theorem Tryd.internal_strconv_numDigits (u : Nat) (h1 : 1 ≤ u) (h2 : u < 18446744073709551616) (w : World) (htab : Lib.TabIs Tryd.prog w "internal/strconv.uint64pow10" .u64 Lib.pow10Tab) :
    Calls Tryd.prog 146 #[.int .u64 u] w fun e w' => e = .returned (.int .i64 (Lib.nDigits u)) ∧ w' = w := Any.internal_strconv_numDigits Tryd.laysM284 u h1 h2 w htab
def Tryd.lays285_ren : Go.Shelf.Ren := ⟨fun | 285 => 147 | n => n, fun | 37 => 41 | 53 => 148 | 3 => 3 | 4 => 4 | 51 => 119 | 9 => 9 | 5 => 5 | 0 => 0 | n => n, fun | n => n⟩
theorem Tryd.lays285 : Go.Proofs.Lays.n285 Tryd.prog Tryd.lays285_ren := {
  mixed := by kernel_rfl
  f285 := Tryd.func147.trans (congrArg some (by kernel_rfl))
  t0 := Tryd.underlying0
  a0 := Tryd.isAgg0
  z0 := Tryd.sizeOf0
  v0 := Tryd.zeroValue0
  t3 := Tryd.underlying3
  a3 := Tryd.isAgg3
  z3 := Tryd.sizeOf3
  v3 := Tryd.zeroValue3
  t4 := Tryd.underlying4
  a4 := Tryd.isAgg4
  z4 := Tryd.sizeOf4
  v4 := Tryd.zeroValue4
  t5 := Tryd.underlying5
  a5 := Tryd.isAgg5
  z5 := Tryd.sizeOf5
  v5 := Tryd.zeroValue5
  t9 := Tryd.underlying9
  a9 := Tryd.isAgg9
  z9 := Tryd.sizeOf9
  v9 := Tryd.zeroValue9
  t37 := Tryd.underlying41
  a37 := Tryd.isAgg41
  z37 := Tryd.sizeOf41
  v37 := Tryd.zeroValue41
  t51 := Tryd.underlying119
  a51 := Tryd.isAgg119
  z51 := Tryd.sizeOf119
  v51 := Tryd.zeroValue119
  t53 := Tryd.underlying148
  a53 := Tryd.isAgg148
  z53 := Tryd.sizeOf148
  v53 := Tryd.zeroValue148 }
open Go.RowKit Go.Sort Go.Lib in
theorem Tryd.internal_strconv_formatBase10 (blk off cap : Nat) (u : Nat) (d : Array UInt8) (w : World) (hH : Holds (fun (b : UInt8) => Value.int .u8 (b.toNat : Int)) w blk off d) (hu : u < 10 ^ d.size) (hu64 : u < 18446744073709551616) (hsz : d.size < 4611686018427387904) :
    Calls Tryd.prog 147 #[.slice (some ⟨blk, off, none⟩) d.size cap, .int .u64 u] w fun e w' =>
      e = .returned (.tuple #[]) ∧ ∃ (n v' : Nat) (dk : Array UInt8), w' = (putRow (fun (b : UInt8) => Value.int .u8 (b.toNat : Int)) w blk off dk).drewN n ∧ FmtInv d.size u 0 v' dk := Any.internal_strconv_formatBase10 Tryd.lays285 blk off cap u d w hH hu hu64 hsz
def Tryd.laysM246_ren : Go.Shelf.Ren := ⟨fun | 246 => 116 | 283 => 145 | 284 => 146 | 285 => 147 | 286 => 148 | 129 => 161 | 317 => 160 | 318 => 162 | 319 => 163 | 320 => 164 | 337 => 169 | 338 => 170 | n => n, fun | 2 => 2 | 3 => 3 | 9 => 9 | 4 => 4 | 171 => 160 | 0 => 0 | 53 => 148 | 37 => 41 | 5 => 5 | 173 => 163 | 212 => 176 | 51 => 119 | 20 => 20 | 213 => 177 | 46 => 145 | 232 => 188 | 233 => 189 | n => n, fun | 17 => 3 | 18 => 4 | 19 => 5 | n => n⟩
theorem Tryd.laysM246 : Go.Proofs.LaysM.n246 Tryd.prog Tryd.laysM246_ren := {
  mixed := by kernel_rfl
  f129 := Tryd.func161.trans (congrArg some (by kernel_rfl))
  f246 := Tryd.func116.trans (congrArg some (by kernel_rfl))
  f283 := Tryd.func145.trans (congrArg some (by kernel_rfl))
  f284 := Tryd.func146.trans (congrArg some (by kernel_rfl))
  f285 := Tryd.func147.trans (congrArg some (by kernel_rfl))
  f286 := Tryd.func148.trans (congrArg some (by kernel_rfl))
  f317 := Tryd.func160.trans (congrArg some (by kernel_rfl))
  f318 := Tryd.func162.trans (congrArg some (by kernel_rfl))
  f319 := Tryd.func163.trans (congrArg some (by kernel_rfl))
  f320 := Tryd.func164.trans (congrArg some (by kernel_rfl))
  f337 := Tryd.func169.trans (congrArg some (by kernel_rfl))
  f338 := Tryd.func170.trans (congrArg some (by kernel_rfl))
  t0 := Tryd.underlying0
  a0 := Tryd.isAgg0
  z0 := Tryd.sizeOf0
  v0 := Tryd.zeroValue0
  t2 := Tryd.underlying2
  a2 := Tryd.isAgg2
  z2 := Tryd.sizeOf2
  v2 := Tryd.zeroValue2
  t3 := Tryd.underlying3
  a3 := Tryd.isAgg3
  z3 := Tryd.sizeOf3
  v3 := Tryd.zeroValue3
  t4 := Tryd.underlying4
  a4 := Tryd.isAgg4
  z4 := Tryd.sizeOf4
  v4 := Tryd.zeroValue4
  t5 := Tryd.underlying5
  a5 := Tryd.isAgg5
  z5 := Tryd.sizeOf5
  v5 := Tryd.zeroValue5
  t9 := Tryd.underlying9
  a9 := Tryd.isAgg9
  z9 := Tryd.sizeOf9
  v9 := Tryd.zeroValue9
  t20 := Tryd.underlying20
  a20 := Tryd.isAgg20
  z20 := Tryd.sizeOf20
  v20 := Tryd.zeroValue20
  t37 := Tryd.underlying41
  a37 := Tryd.isAgg41
  z37 := Tryd.sizeOf41
  v37 := Tryd.zeroValue41
  t46 := Tryd.underlying145
  a46 := Tryd.isAgg145
  z46 := Tryd.sizeOf145
  v46 := Tryd.zeroValue145
  t51 := Tryd.underlying119
  a51 := Tryd.isAgg119
  z51 := Tryd.sizeOf119
  v51 := Tryd.zeroValue119
  t53 := Tryd.underlying148
  a53 := Tryd.isAgg148
  z53 := Tryd.sizeOf148
  v53 := Tryd.zeroValue148
  t171 := Tryd.underlying160
  a171 := Tryd.isAgg160
  z171 := Tryd.sizeOf160
  v171 := Tryd.zeroValue160
  t173 := Tryd.underlying163
  a173 := Tryd.isAgg163
  z173 := Tryd.sizeOf163
  v173 := Tryd.zeroValue163
  t212 := Tryd.underlying176
  a212 := Tryd.isAgg176
  z212 := Tryd.sizeOf176
  v212 := Tryd.zeroValue176
  t213 := Tryd.underlying177
  a213 := Tryd.isAgg177
  z213 := Tryd.sizeOf177
  t232 := Tryd.underlying188
  a232 := Tryd.isAgg188
  z232 := Tryd.sizeOf188
  v232 := Tryd.zeroValue188
  t233 := Tryd.underlying189
  a233 := Tryd.isAgg189
  z233 := Tryd.sizeOf189
  v233 := Tryd.zeroValue189
  g17 := by kernel_rfl
  g18 := by kernel_rfl
  g19 := by kernel_rfl
  i0 := by kernel_rfl
  i2 := by kernel_rfl
  i3 := by kernel_rfl
  i4 := by kernel_rfl
  i5 := by kernel_rfl
  i9 := by kernel_rfl
  i20 := by kernel_rfl
  i37 := by kernel_rfl
  i46 := by kernel_rfl
  i51 := by kernel_rfl
  i53 := by kernel_rfl
  i171 := by kernel_rfl
  i173 := by kernel_rfl
  i212 := by kernel_rfl
  i232 := by kernel_rfl
  i233 := by kernel_rfl
  m17 := by kernel_rfl
  m18 := by kernel_rfl
  m19 := by kernel_rfl }
open Go.RowKit Go.Sort Go.Lib in
theorem Tryd.internal_strconv_FormatInt_10 (n : Int) (h0 : -9223372036854775808 ≤ n) (h1 : n ≤ 9223372036854775807) (w : World) (htab : Lib.TabIs Tryd.prog w "internal/strconv.uint64pow10" .u64 Lib.pow10Tab) :
    Calls Tryd.prog 116 #[.int .i64 n, .int .i64 10] w fun e w' => e = .returned (.string ⟨(Lib.itoa n).toArray⟩) ∧ ∃ k os, w' = grow (w.drewN k) os := Any.internal_strconv_FormatInt_10 Tryd.laysM246 n h0 h1 w htab
def Tryd.lays246_ren : Go.Shelf.Ren := ⟨fun | 246 => 116 | 283 => 145 | 284 => 146 | 285 => 147 | 286 => 148 | 129 => 161 | 317 => 160 | 318 => 162 | 319 => 163 | 320 => 164 | 337 => 169 | 338 => 170 | n => n, fun | 2 => 2 | 3 => 3 | 9 => 9 | 4 => 4 | 171 => 160 | 0 => 0 | 53 => 148 | 37 => 41 | 5 => 5 | 173 => 163 | 212 => 176 | 51 => 119 | 20 => 20 | 213 => 177 | 46 => 145 | 232 => 188 | 233 => 189 | n => n, fun | 17 => 3 | 18 => 4 | 19 => 5 | n => n⟩
theorem Tryd.lays246 : Go.Proofs.Lays.n246 Tryd.prog Tryd.lays246_ren := {
  mixed := by kernel_rfl
  f129 := Tryd.func161.trans (congrArg some (by kernel_rfl))
  f246 := Tryd.func116.trans (congrArg some (by kernel_rfl))
  f283 := Tryd.func145.trans (congrArg some (by kernel_rfl))
  f284 := Tryd.func146.trans (congrArg some (by kernel_rfl))
  f285 := Tryd.func147.trans (congrArg some (by kernel_rfl))
  f286 := Tryd.func148.trans (congrArg some (by kernel_rfl))
  f317 := Tryd.func160.trans (congrArg some (by kernel_rfl))
  f318 := Tryd.func162.trans (congrArg some (by kernel_rfl))
  f319 := Tryd.func163.trans (congrArg some (by kernel_rfl))
  f320 := Tryd.func164.trans (congrArg some (by kernel_rfl))
  f337 := Tryd.func169.trans (congrArg some (by kernel_rfl))
  f338 := Tryd.func170.trans (congrArg some (by kernel_rfl))
  t0 := Tryd.underlying0
  a0 := Tryd.isAgg0
  z0 := Tryd.sizeOf0
  v0 := Tryd.zeroValue0
  t2 := Tryd.underlying2
  a2 := Tryd.isAgg2
  z2 := Tryd.sizeOf2
  v2 := Tryd.zeroValue2
  t3 := Tryd.underlying3
  a3 := Tryd.isAgg3
  z3 := Tryd.sizeOf3
  v3 := Tryd.zeroValue3
  t4 := Tryd.underlying4
  a4 := Tryd.isAgg4
  z4 := Tryd.sizeOf4
  v4 := Tryd.zeroValue4
  t5 := Tryd.underlying5
  a5 := Tryd.isAgg5
  z5 := Tryd.sizeOf5
  v5 := Tryd.zeroValue5
  t9 := Tryd.underlying9
  a9 := Tryd.isAgg9
  z9 := Tryd.sizeOf9
  v9 := Tryd.zeroValue9
  t20 := Tryd.underlying20
  a20 := Tryd.isAgg20
  z20 := Tryd.sizeOf20
  v20 := Tryd.zeroValue20
  t37 := Tryd.underlying41
  a37 := Tryd.isAgg41
  z37 := Tryd.sizeOf41
  v37 := Tryd.zeroValue41
  t46 := Tryd.underlying145
  a46 := Tryd.isAgg145
  z46 := Tryd.sizeOf145
  v46 := Tryd.zeroValue145
  t51 := Tryd.underlying119
  a51 := Tryd.isAgg119
  z51 := Tryd.sizeOf119
  v51 := Tryd.zeroValue119
  t53 := Tryd.underlying148
  a53 := Tryd.isAgg148
  z53 := Tryd.sizeOf148
  v53 := Tryd.zeroValue148
  t171 := Tryd.underlying160
  a171 := Tryd.isAgg160
  z171 := Tryd.sizeOf160
  v171 := Tryd.zeroValue160
  t173 := Tryd.underlying163
  a173 := Tryd.isAgg163
  z173 := Tryd.sizeOf163
  v173 := Tryd.zeroValue163
  t212 := Tryd.underlying176
  a212 := Tryd.isAgg176
  z212 := Tryd.sizeOf176
  v212 := Tryd.zeroValue176
  t213 := Tryd.underlying177
  a213 := Tryd.isAgg177
  z213 := Tryd.sizeOf177
  t232 := Tryd.underlying188
  a232 := Tryd.isAgg188
  z232 := Tryd.sizeOf188
  v232 := Tryd.zeroValue188
  t233 := Tryd.underlying189
  a233 := Tryd.isAgg189
  z233 := Tryd.sizeOf189
  v233 := Tryd.zeroValue189
  g17 := by kernel_rfl
  g18 := by kernel_rfl
  g19 := by kernel_rfl }
open Go.RowKit Go.Sort Go.Lib in
theorem Tryd.internal_strconv_FormatInt_10_small (i : Nat) (hi : i < 100) (w : World) :
    Calls Tryd.prog 116 #[.int .i64 i, .int .i64 10] w fun e w' => e = .returned (.string ⟨(Lib.decDigits i).toArray⟩) ∧ w' = w := Any.internal_strconv_FormatInt_10_small Tryd.lays246 i hi w
def Tryd.laysM243_ren : Go.Shelf.Ren := ⟨fun | 243 => 117 | 246 => 116 | 283 => 145 | 284 => 146 | 285 => 147 | 286 => 148 | 129 => 161 | 317 => 160 | 318 => 162 | 319 => 163 | 320 => 164 | 337 => 169 | 338 => 170 | n => n, fun | 3 => 3 | 9 => 9 | 2 => 2 | 4 => 4 | 171 => 160 | 0 => 0 | 53 => 148 | 37 => 41 | 5 => 5 | 173 => 163 | 212 => 176 | 51 => 119 | 20 => 20 | 213 => 177 | 46 => 145 | 232 => 188 | 233 => 189 | n => n, fun | 17 => 3 | 18 => 4 | 19 => 5 | n => n⟩
theorem Tryd.laysM243 : Go.Proofs.LaysM.n243 Tryd.prog Tryd.laysM243_ren := {
  mixed := by kernel_rfl
  f129 := Tryd.func161.trans (congrArg some (by kernel_rfl))
  f243 := Tryd.func117.trans (congrArg some (by kernel_rfl))
  f246 := Tryd.func116.trans (congrArg some (by kernel_rfl))
  f283 := Tryd.func145.trans (congrArg some (by kernel_rfl))
  f284 := Tryd.func146.trans (congrArg some (by kernel_rfl))
  f285 := Tryd.func147.trans (congrArg some (by kernel_rfl))
  f286 := Tryd.func148.trans (congrArg some (by kernel_rfl))
  f317 := Tryd.func160.trans (congrArg some (by kernel_rfl))
  f318 := Tryd.func162.trans (congrArg some (by kernel_rfl))
  f319 := Tryd.func163.trans (congrArg some (by kernel_rfl))
  f320 := Tryd.func164.trans (congrArg some (by kernel_rfl))
  f337 := Tryd.func169.trans (congrArg some (by kernel_rfl))
  f338 := Tryd.func170.trans (congrArg some (by kernel_rfl))
  t0 := Tryd.underlying0
  a0 := Tryd.isAgg0
  z0 := Tryd.sizeOf0
  v0 := Tryd.zeroValue0
  t2 := Tryd.underlying2
  a2 := Tryd.isAgg2
  z2 := Tryd.sizeOf2
  v2 := Tryd.zeroValue2
  t3 := Tryd.underlying3
  a3 := Tryd.isAgg3
  z3 := Tryd.sizeOf3
  v3 := Tryd.zeroValue3
  t4 := Tryd.underlying4
  a4 := Tryd.isAgg4
  z4 := Tryd.sizeOf4
  v4 := Tryd.zeroValue4
  t5 := Tryd.underlying5
  a5 := Tryd.isAgg5
  z5 := Tryd.sizeOf5
  v5 := Tryd.zeroValue5
  t9 := Tryd.underlying9
  a9 := Tryd.isAgg9
  z9 := Tryd.sizeOf9
  v9 := Tryd.zeroValue9
  t20 := Tryd.underlying20
  a20 := Tryd.isAgg20
  z20 := Tryd.sizeOf20
  v20 := Tryd.zeroValue20
  t37 := Tryd.underlying41
  a37 := Tryd.isAgg41
  z37 := Tryd.sizeOf41
  v37 := Tryd.zeroValue41
  t46 := Tryd.underlying145
  a46 := Tryd.isAgg145
  z46 := Tryd.sizeOf145
  v46 := Tryd.zeroValue145
  t51 := Tryd.underlying119
  a51 := Tryd.isAgg119
  z51 := Tryd.sizeOf119
  v51 := Tryd.zeroValue119
  t53 := Tryd.underlying148
  a53 := Tryd.isAgg148
  z53 := Tryd.sizeOf148
  v53 := Tryd.zeroValue148
  t171 := Tryd.underlying160
  a171 := Tryd.isAgg160
  z171 := Tryd.sizeOf160
  v171 := Tryd.zeroValue160
  t173 := Tryd.underlying163
  a173 := Tryd.isAgg163
  z173 := Tryd.sizeOf163
  v173 := Tryd.zeroValue163
  t212 := Tryd.underlying176
  a212 := Tryd.isAgg176
  z212 := Tryd.sizeOf176
  v212 := Tryd.zeroValue176
  t213 := Tryd.underlying177
  a213 := Tryd.isAgg177
  z213 := Tryd.sizeOf177
  t232 := Tryd.underlying188
  a232 := Tryd.isAgg188
  z232 := Tryd.sizeOf188
  v232 := Tryd.zeroValue188
  t233 := Tryd.underlying189
  a233 := Tryd.isAgg189
  z233 := Tryd.sizeOf189
  v233 := Tryd.zeroValue189
  g17 := by kernel_rfl
  g18 := by kernel_rfl
  g19 := by kernel_rfl
  i0 := by kernel_rfl
  i2 := by kernel_rfl
  i3 := by kernel_rfl
  i4 := by kernel_rfl
  i5 := by kernel_rfl
  i9 := by kernel_rfl
  i20 := by kernel_rfl
  i37 := by kernel_rfl
  i46 := by kernel_rfl
  i51 := by kernel_rfl
  i53 := by kernel_rfl
  i171 := by kernel_rfl
  i173 := by kernel_rfl
  i212 := by kernel_rfl
  i232 := by kernel_rfl
  i233 := by kernel_rfl
  m17 := by kernel_rfl
  m18 := by kernel_rfl
  m19 := by kernel_rfl }
open Go.RowKit Go.Sort Go.Lib in
theorem Tryd.internal_strconv_Itoa (n : Int) (h0 : -9223372036854775808 ≤ n) (h1 : n ≤ 9223372036854775807) (w : World) (htab : Lib.TabIs Tryd.prog w "internal/strconv.uint64pow10" .u64 Lib.pow10Tab) :
    Calls Tryd.prog 117 #[.int .i64 n] w fun e w' => e = .returned (.string ⟨(Lib.itoa n).toArray⟩) ∧ ∃ k os, w' = grow (w.drewN k) os := Any.internal_strconv_Itoa Tryd.laysM243 n h0 h1 w htab
def Tryd.lays243_ren : Go.Shelf.Ren := ⟨fun | 243 => 117 | 246 => 116 | 283 => 145 | 284 => 146 | 285 => 147 | 286 => 148 | 129 => 161 | 317 => 160 | 318 => 162 | 319 => 163 | 320 => 164 | 337 => 169 | 338 => 170 | n => n, fun | 3 => 3 | 9 => 9 | 2 => 2 | 4 => 4 | 171 => 160 | 0 => 0 | 53 => 148 | 37 => 41 | 5 => 5 | 173 => 163 | 212 => 176 | 51 => 119 | 20 => 20 | 213 => 177 | 46 => 145 | 232 => 188 | 233 => 189 | n => n, fun | 17 => 3 | 18 => 4 | 19 => 5 | n => n⟩
theorem Tryd.lays243 : Go.Proofs.Lays.n243 Tryd.prog Tryd.lays243_ren := {
  mixed := by kernel_rfl
  f129 := Tryd.func161.trans (congrArg some (by kernel_rfl))
  f243 := Tryd.func117.trans (congrArg some (by kernel_rfl))
  f246 := Tryd.func116.trans (congrArg some (by kernel_rfl))
  f283 := Tryd.func145.trans (congrArg some (by kernel_rfl))
  f284 := Tryd.func146.trans (congrArg some (by kernel_rfl))
  f285 := Tryd.func147.trans (congrArg some (by kernel_rfl))
  f286 := Tryd.func148.trans (congrArg some (by kernel_rfl))
  f317 := Tryd.func160.trans (congrArg some (by kernel_rfl))
  f318 := Tryd.func162.trans (congrArg some (by kernel_rfl))
  f319 := Tryd.func163.trans (congrArg some (by kernel_rfl))
  f320 := Tryd.func164.trans (congrArg some (by kernel_rfl))
  f337 := Tryd.func169.trans (congrArg some (by kernel_rfl))
  f338 := Tryd.func170.trans (congrArg some (by kernel_rfl))
  t0 := Tryd.underlying0
  a0 := Tryd.isAgg0
  z0 := Tryd.sizeOf0
  v0 := Tryd.zeroValue0
  t2 := Tryd.underlying2
  a2 := Tryd.isAgg2
  z2 := Tryd.sizeOf2
  v2 := Tryd.zeroValue2
  t3 := Tryd.underlying3
  a3 := Tryd.isAgg3
  z3 := Tryd.sizeOf3
  v3 := Tryd.zeroValue3
  t4 := Tryd.underlying4
  a4 := Tryd.isAgg4
  z4 := Tryd.sizeOf4
  v4 := Tryd.zeroValue4
  t5 := Tryd.underlying5
  a5 := Tryd.isAgg5
  z5 := Tryd.sizeOf5
  v5 := Tryd.zeroValue5
  t9 := Tryd.underlying9
  a9 := Tryd.isAgg9
  z9 := Tryd.sizeOf9
  v9 := Tryd.zeroValue9
  t20 := Tryd.underlying20
  a20 := Tryd.isAgg20
  z20 := Tryd.sizeOf20
  v20 := Tryd.zeroValue20
  t37 := Tryd.underlying41
  a37 := Tryd.isAgg41
  z37 := Tryd.sizeOf41
  v37 := Tryd.zeroValue41
  t46 := Tryd.underlying145
  a46 := Tryd.isAgg145
  z46 := Tryd.sizeOf145
  v46 := Tryd.zeroValue145
  t51 := Tryd.underlying119
  a51 := Tryd.isAgg119
  z51 := Tryd.sizeOf119
  v51 := Tryd.zeroValue119
  t53 := Tryd.underlying148
  a53 := Tryd.isAgg148
  z53 := Tryd.sizeOf148
  v53 := Tryd.zeroValue148
  t171 := Tryd.underlying160
  a171 := Tryd.isAgg160
  z171 := Tryd.sizeOf160
  v171 := Tryd.zeroValue160
  t173 := Tryd.underlying163
  a173 := Tryd.isAgg163
  z173 := Tryd.sizeOf163
  v173 := Tryd.zeroValue163
  t212 := Tryd.underlying176
  a212 := Tryd.isAgg176
  z212 := Tryd.sizeOf176
  v212 := Tryd.zeroValue176
  t213 := Tryd.underlying177
  a213 := Tryd.isAgg177
  z213 := Tryd.sizeOf177
  t232 := Tryd.underlying188
  a232 := Tryd.isAgg188
  z232 := Tryd.sizeOf188
  v232 := Tryd.zeroValue188
  t233 := Tryd.underlying189
  a233 := Tryd.isAgg189
  z233 := Tryd.sizeOf189
  v233 := Tryd.zeroValue189
  g17 := by kernel_rfl
  g18 := by kernel_rfl
  g19 := by kernel_rfl }
open Go.RowKit Go.Sort Go.Lib in
theorem Tryd.internal_strconv_Itoa_small (i : Nat) (hi : i < 100) (w : World) :
    Calls Tryd.prog 117 #[.int .i64 i] w fun e w' => e = .returned (.string ⟨(Lib.decDigits i).toArray⟩) ∧ w' = w := Any.internal_strconv_Itoa_small Tryd.lays243 i hi w
def Tryd.laysM171_ren : Go.Shelf.Ren := ⟨fun | 171 => 84 | 243 => 117 | 246 => 116 | 283 => 145 | 284 => 146 | 285 => 147 | 286 => 148 | 129 => 161 | 317 => 160 | 318 => 162 | 319 => 163 | 320 => 164 | 337 => 169 | 338 => 170 | n => n, fun | 3 => 3 | 9 => 9 | 2 => 2 | 4 => 4 | 171 => 160 | 0 => 0 | 53 => 148 | 37 => 41 | 5 => 5 | 173 => 163 | 212 => 176 | 51 => 119 | 20 => 20 | 213 => 177 | 46 => 145 | 232 => 188 | 233 => 189 | n => n, fun | 17 => 3 | 18 => 4 | 19 => 5 | n => n⟩
theorem Tryd.laysM171 : Go.Proofs.LaysM.n171 Tryd.prog Tryd.laysM171_ren := {
  mixed := by kernel_rfl
  f129 := Tryd.func161.trans (congrArg some (by kernel_rfl))
  f171 := Tryd.func84.trans (congrArg some (by kernel_rfl))
  f243 := Tryd.func117.trans (congrArg some (by kernel_rfl))
  f246 := Tryd.func116.trans (congrArg some (by kernel_rfl))
  f283 := Tryd.func145.trans (congrArg some (by kernel_rfl))
  f284 := Tryd.func146.trans (congrArg some (by kernel_rfl))
  f285 := Tryd.func147.trans (congrArg some (by kernel_rfl))
  f286 := Tryd.func148.trans (congrArg some (by kernel_rfl))
  f317 := Tryd.func160.trans (congrArg some (by kernel_rfl))
  f318 := Tryd.func162.trans (congrArg some (by kernel_rfl))
  f319 := Tryd.func163.trans (congrArg some (by kernel_rfl))
  f320 := Tryd.func164.trans (congrArg some (by kernel_rfl))
  f337 := Tryd.func169.trans (congrArg some (by kernel_rfl))
  f338 := Tryd.func170.trans (congrArg some (by kernel_rfl))
  t0 := Tryd.underlying0
  a0 := Tryd.isAgg0
  z0 := Tryd.sizeOf0
  v0 := Tryd.zeroValue0
  t2 := Tryd.underlying2
  a2 := Tryd.isAgg2
  z2 := Tryd.sizeOf2
  v2 := Tryd.zeroValue2
  t3 := Tryd.underlying3
  a3 := Tryd.isAgg3
  z3 := Tryd.sizeOf3
  v3 := Tryd.zeroValue3
  t4 := Tryd.underlying4
  a4 := Tryd.isAgg4
  z4 := Tryd.sizeOf4
  v4 := Tryd.zeroValue4
  t5 := Tryd.underlying5
  a5 := Tryd.isAgg5
  z5 := Tryd.sizeOf5
  v5 := Tryd.zeroValue5
  t9 := Tryd.underlying9
  a9 := Tryd.isAgg9
  z9 := Tryd.sizeOf9
  v9 := Tryd.zeroValue9
  t20 := Tryd.underlying20
  a20 := Tryd.isAgg20
  z20 := Tryd.sizeOf20
  v20 := Tryd.zeroValue20
  t37 := Tryd.underlying41
  a37 := Tryd.isAgg41
  z37 := Tryd.sizeOf41
  v37 := Tryd.zeroValue41
  t46 := Tryd.underlying145
  a46 := Tryd.isAgg145
  z46 := Tryd.sizeOf145
  v46 := Tryd.zeroValue145
  t51 := Tryd.underlying119
  a51 := Tryd.isAgg119
  z51 := Tryd.sizeOf119
  v51 := Tryd.zeroValue119
  t53 := Tryd.underlying148
  a53 := Tryd.isAgg148
  z53 := Tryd.sizeOf148
  v53 := Tryd.zeroValue148
  t171 := Tryd.underlying160
  a171 := Tryd.isAgg160
  z171 := Tryd.sizeOf160
  v171 := Tryd.zeroValue160
  t173 := Tryd.underlying163
  a173 := Tryd.isAgg163
  z173 := Tryd.sizeOf163
  v173 := Tryd.zeroValue163
  t212 := Tryd.underlying176
  a212 := Tryd.isAgg176
  z212 := Tryd.sizeOf176
  v212 := Tryd.zeroValue176
  t213 := Tryd.underlying177
  a213 := Tryd.isAgg177
  z213 := Tryd.sizeOf177
  t232 := Tryd.underlying188
  a232 := Tryd.isAgg188
  z232 := Tryd.sizeOf188
  v232 := Tryd.zeroValue188
  t233 := Tryd.underlying189
  a233 := Tryd.isAgg189
  z233 := Tryd.sizeOf189
  v233 := Tryd.zeroValue189
  g17 := by kernel_rfl
  g18 := by kernel_rfl
  g19 := by kernel_rfl
  i0 := by kernel_rfl
  i2 := by kernel_rfl
  i3 := by kernel_rfl
  i4 := by kernel_rfl
  i5 := by kernel_rfl
  i9 := by kernel_rfl
  i20 := by kernel_rfl
  i37 := by kernel_rfl
  i46 := by kernel_rfl
  i51 := by kernel_rfl
  i53 := by kernel_rfl
  i171 := by kernel_rfl
  i173 := by kernel_rfl
  i212 := by kernel_rfl
  i232 := by kernel_rfl
  i233 := by kernel_rfl
  m17 := by kernel_rfl
  m18 := by kernel_rfl
  m19 := by kernel_rfl }
open Go.RowKit Go.Sort Go.Lib in
theorem Tryd.strconv_Itoa (n : Int) (h0 : -9223372036854775808 ≤ n) (h1 : n ≤ 9223372036854775807) (w : World) (htab : Lib.TabIs Tryd.prog w "internal/strconv.uint64pow10" .u64 Lib.pow10Tab) :
    Calls Tryd.prog 84 #[.int .i64 n] w fun e w' => e = .returned (.string ⟨(Lib.itoa n).toArray⟩) ∧ ∃ k os, w' = grow (w.drewN k) os := Any.strconv_Itoa Tryd.laysM171 n h0 h1 w htab
def Tryd.lays171_ren : Go.Shelf.Ren := ⟨fun | 171 => 84 | 243 => 117 | 246 => 116 | 283 => 145 | 284 => 146 | 285 => 147 | 286 => 148 | 129 => 161 | 317 => 160 | 318 => 162 | 319 => 163 | 320 => 164 | 337 => 169 | 338 => 170 | n => n, fun | 3 => 3 | 9 => 9 | 2 => 2 | 4 => 4 | 171 => 160 | 0 => 0 | 53 => 148 | 37 => 41 | 5 => 5 | 173 => 163 | 212 => 176 | 51 => 119 | 20 => 20 | 213 => 177 | 46 => 145 | 232 => 188 | 233 => 189 | n => n, fun | 17 => 3 | 18 => 4 | 19 => 5 | n => n⟩
theorem Tryd.lays171 : Go.Proofs.Lays.n171 Tryd.prog Tryd.lays171_ren := {
  mixed := by kernel_rfl
  f129 := Tryd.func161.trans (congrArg some (by kernel_rfl))
  f171 := Tryd.func84.trans (congrArg some (by kernel_rfl))
  f243 := Tryd.func117.trans (congrArg some (by kernel_rfl))
  f246 := Tryd.func116.trans (congrArg some (by kernel_rfl))
  f283 := Tryd.func145.trans (congrArg some (by kernel_rfl))
  f284 := Tryd.func146.trans (congrArg some (by kernel_rfl))
  f285 := Tryd.func147.trans (congrArg some (by kernel_rfl))
  f286 := Tryd.func148.trans (congrArg some (by kernel_rfl))
  f317 := Tryd.func160.trans (congrArg some (by kernel_rfl))
  f318 := Tryd.func162.trans (congrArg some (by kernel_rfl))
  f319 := Tryd.func163.trans (congrArg some (by kernel_rfl))
  f320 := Tryd.func164.trans (congrArg some (by kernel_rfl))
  f337 := Tryd.func169.trans (congrArg some (by kernel_rfl))
  f338 := Tryd.func170.trans (congrArg some (by kernel_rfl))
  t0 := Tryd.underlying0
  a0 := Tryd.isAgg0
  z0 := Tryd.sizeOf0
  v0 := Tryd.zeroValue0
  t2 := Tryd.underlying2
  a2 := Tryd.isAgg2
  z2 := Tryd.sizeOf2
  v2 := Tryd.zeroValue2
  t3 := Tryd.underlying3
  a3 := Tryd.isAgg3
  z3 := Tryd.sizeOf3
  v3 := Tryd.zeroValue3
  t4 := Tryd.underlying4
  a4 := Tryd.isAgg4
  z4 := Tryd.sizeOf4
  v4 := Tryd.zeroValue4
  t5 := Tryd.underlying5
  a5 := Tryd.isAgg5
  z5 := Tryd.sizeOf5
  v5 := Tryd.zeroValue5
  t9 := Tryd.underlying9
  a9 := Tryd.isAgg9
  z9 := Tryd.sizeOf9
  v9 := Tryd.zeroValue9
  t20 := Tryd.underlying20
  a20 := Tryd.isAgg20
  z20 := Tryd.sizeOf20
  v20 := Tryd.zeroValue20
  t37 := Tryd.underlying41
  a37 := Tryd.isAgg41
  z37 := Tryd.sizeOf41
  v37 := Tryd.zeroValue41
  t46 := Tryd.underlying145
  a46 := Tryd.isAgg145
  z46 := Tryd.sizeOf145
  v46 := Tryd.zeroValue145
  t51 := Tryd.underlying119
  a51 := Tryd.isAgg119
  z51 := Tryd.sizeOf119
  v51 := Tryd.zeroValue119
  t53 := Tryd.underlying148
  a53 := Tryd.isAgg148
  z53 := Tryd.sizeOf148
  v53 := Tryd.zeroValue148
  t171 := Tryd.underlying160
  a171 := Tryd.isAgg160
  z171 := Tryd.sizeOf160
  v171 := Tryd.zeroValue160
  t173 := Tryd.underlying163
  a173 := Tryd.isAgg163
  z173 := Tryd.sizeOf163
  v173 := Tryd.zeroValue163
  t212 := Tryd.underlying176
  a212 := Tryd.isAgg176
  z212 := Tryd.sizeOf176
  v212 := Tryd.zeroValue176
  t213 := Tryd.underlying177
  a213 := Tryd.isAgg177
  z213 := Tryd.sizeOf177
  t232 := Tryd.underlying188
  a232 := Tryd.isAgg188
  z232 := Tryd.sizeOf188
  v232 := Tryd.zeroValue188
  t233 := Tryd.underlying189
  a233 := Tryd.isAgg189
  z233 := Tryd.sizeOf189
  v233 := Tryd.zeroValue189
  g17 := by kernel_rfl
  g18 := by kernel_rfl
  g19 := by kernel_rfl }
open Go.RowKit Go.Sort Go.Lib in
theorem Tryd.strconv_Itoa_small (i : Nat) (hi : i < 100) (w : World) :
    Calls Tryd.prog 84 #[.int .i64 i] w fun e w' => e = .returned (.string ⟨(Lib.decDigits i).toArray⟩) ∧ w' = w := Any.strconv_Itoa_small Tryd.lays171 i hi w
def Tryd.laysM173_ren : Go.Shelf.Ren := ⟨fun | 173 => 83 | 246 => 116 | 283 => 145 | 284 => 146 | 285 => 147 | 286 => 148 | 129 => 161 | 317 => 160 | 318 => 162 | 319 => 163 | 320 => 164 | 337 => 169 | 338 => 170 | n => n, fun | 2 => 2 | 3 => 3 | 9 => 9 | 4 => 4 | 171 => 160 | 0 => 0 | 53 => 148 | 37 => 41 | 5 => 5 | 173 => 163 | 212 => 176 | 51 => 119 | 20 => 20 | 213 => 177 | 46 => 145 | 232 => 188 | 233 => 189 | n => n, fun | 17 => 3 | 18 => 4 | 19 => 5 | n => n⟩
theorem Tryd.laysM173 : Go.Proofs.LaysM.n173 Tryd.prog Tryd.laysM173_ren := {
  mixed := by kernel_rfl
  f129 := Tryd.func161.trans (congrArg some (by kernel_rfl))
  f173 := Tryd.func83.trans (congrArg some (by kernel_rfl))
  f246 := Tryd.func116.trans (congrArg some (by kernel_rfl))
  f283 := Tryd.func145.trans (congrArg some (by kernel_rfl))
  f284 := Tryd.func146.trans (congrArg some (by kernel_rfl))
  f285 := Tryd.func147.trans (congrArg some (by kernel_rfl))
  f286 := Tryd.func148.trans (congrArg some (by kernel_rfl))
  f317 := Tryd.func160.trans (congrArg some (by kernel_rfl))
  f318 := Tryd.func162.trans (congrArg some (by kernel_rfl))
  f319 := Tryd.func163.trans (congrArg some (by kernel_rfl))
  f320 := Tryd.func164.trans (congrArg some (by kernel_rfl))
  f337 := Tryd.func169.trans (congrArg some (by kernel_rfl))
  f338 := Tryd.func170.trans (congrArg some (by kernel_rfl))
  t0 := Tryd.underlying0
  a0 := Tryd.isAgg0
  z0 := Tryd.sizeOf0
  v0 := Tryd.zeroValue0
  t2 := Tryd.underlying2
  a2 := Tryd.isAgg2
  z2 := Tryd.sizeOf2
  v2 := Tryd.zeroValue2
  t3 := Tryd.underlying3
  a3 := Tryd.isAgg3
  z3 := Tryd.sizeOf3
  v3 := Tryd.zeroValue3
  t4 := Tryd.underlying4
  a4 := Tryd.isAgg4
  z4 := Tryd.sizeOf4
  v4 := Tryd.zeroValue4
  t5 := Tryd.underlying5
  a5 := Tryd.isAgg5
  z5 := Tryd.sizeOf5
  v5 := Tryd.zeroValue5
  t9 := Tryd.underlying9
  a9 := Tryd.isAgg9
  z9 := Tryd.sizeOf9
  v9 := Tryd.zeroValue9
  t20 := Tryd.underlying20
  a20 := Tryd.isAgg20
  z20 := Tryd.sizeOf20
  v20 := Tryd.zeroValue20
  t37 := Tryd.underlying41
  a37 := Tryd.isAgg41
  z37 := Tryd.sizeOf41
  v37 := Tryd.zeroValue41
  t46 := Tryd.underlying145
  a46 := Tryd.isAgg145
  z46 := Tryd.sizeOf145
  v46 := Tryd.zeroValue145
  t51 := Tryd.underlying119
  a51 := Tryd.isAgg119
  z51 := Tryd.sizeOf119
  v51 := Tryd.zeroValue119
  t53 := Tryd.underlying148
  a53 := Tryd.isAgg148
  z53 := Tryd.sizeOf148
  v53 := Tryd.zeroValue148
  t171 := Tryd.underlying160
  a171 := Tryd.isAgg160
  z171 := Tryd.sizeOf160
  v171 := Tryd.zeroValue160
  t173 := Tryd.underlying163
  a173 := Tryd.isAgg163
  z173 := Tryd.sizeOf163
  v173 := Tryd.zeroValue163
  t212 := Tryd.underlying176
  a212 := Tryd.isAgg176
  z212 := Tryd.sizeOf176
  v212 := Tryd.zeroValue176
  t213 := Tryd.underlying177
  a213 := Tryd.isAgg177
  z213 := Tryd.sizeOf177
  t232 := Tryd.underlying188
  a232 := Tryd.isAgg188
  z232 := Tryd.sizeOf188
  v232 := Tryd.zeroValue188
  t233 := Tryd.underlying189
  a233 := Tryd.isAgg189
  z233 := Tryd.sizeOf189
  v233 := Tryd.zeroValue189
  g17 := by kernel_rfl
  g18 := by kernel_rfl
  g19 := by kernel_rfl
  i0 := by kernel_rfl
  i2 := by kernel_rfl
  i3 := by kernel_rfl
  i4 := by kernel_rfl
  i5 := by kernel_rfl
  i9 := by kernel_rfl
  i20 := by kernel_rfl
  i37 := by kernel_rfl
  i46 := by kernel_rfl
  i51 := by kernel_rfl
  i53 := by kernel_rfl
  i171 := by kernel_rfl
  i173 := by kernel_rfl
  i212 := by kernel_rfl
  i232 := by kernel_rfl
  i233 := by kernel_rfl
  m17 := by kernel_rfl
  m18 := by kernel_rfl
  m19 := by kernel_rfl }
open Go.RowKit Go.Sort Go.Lib in
theorem Tryd.strconv_FormatInt_10 (n : Int) (h0 : -9223372036854775808 ≤ n) (h1 : n ≤ 9223372036854775807) (w : World) (htab : Lib.TabIs Tryd.prog w "internal/strconv.uint64pow10" .u64 Lib.pow10Tab) :
    Calls Tryd.prog 83 #[.int .i64 n, .int .i64 10] w fun e w' => e = .returned (.string ⟨(Lib.itoa n).toArray⟩) ∧ ∃ k os, w' = grow (w.drewN k) os := Any.strconv_FormatInt_10 Tryd.laysM173 n h0 h1 w htab
def Tryd.lays173_ren : Go.Shelf.Ren := ⟨fun | 173 => 83 | 246 => 116 | 283 => 145 | 284 => 146 | 285 => 147 | 286 => 148 | 129 => 161 | 317 => 160 | 318 => 162 | 319 => 163 | 320 => 164 | 337 => 169 | 338 => 170 | n => n, fun | 2 => 2 | 3 => 3 | 9 => 9 | 4 => 4 | 171 => 160 | 0 => 0 | 53 => 148 | 37 => 41 | 5 => 5 | 173 => 163 | 212 => 176 | 51 => 119 | 20 => 20 | 213 => 177 | 46 => 145 | 232 => 188 | 233 => 189 | n => n, fun | 17 => 3 | 18 => 4 | 19 => 5 | n => n⟩
theorem Tryd.lays173 : Go.Proofs.Lays.n173 Tryd.prog Tryd.lays173_ren := {
  mixed := by kernel_rfl
  f129 := Tryd.func161.trans (congrArg some (by kernel_rfl))
  f173 := Tryd.func83.trans (congrArg some (by kernel_rfl))
  f246 := Tryd.func116.trans (congrArg some (by kernel_rfl))
  f283 := Tryd.func145.trans (congrArg some (by kernel_rfl))
  f284 := Tryd.func146.trans (congrArg some (by kernel_rfl))
  f285 := Tryd.func147.trans (congrArg some (by kernel_rfl))
  f286 := Tryd.func148.trans (congrArg some (by kernel_rfl))
  f317 := Tryd.func160.trans (congrArg some (by kernel_rfl))
  f318 := Tryd.func162.trans (congrArg some (by kernel_rfl))
  f319 := Tryd.func163.trans (congrArg some (by kernel_rfl))
  f320 := Tryd.func164.trans (congrArg some (by kernel_rfl))
  f337 := Tryd.func169.trans (congrArg some (by kernel_rfl))
  f338 := Tryd.func170.trans (congrArg some (by kernel_rfl))
  t0 := Tryd.underlying0
  a0 := Tryd.isAgg0
  z0 := Tryd.sizeOf0
  v0 := Tryd.zeroValue0
  t2 := Tryd.underlying2
  a2 := Tryd.isAgg2
  z2 := Tryd.sizeOf2
  v2 := Tryd.zeroValue2
  t3 := Tryd.underlying3
  a3 := Tryd.isAgg3
  z3 := Tryd.sizeOf3
  v3 := Tryd.zeroValue3
  t4 := Tryd.underlying4
  a4 := Tryd.isAgg4
  z4 := Tryd.sizeOf4
  v4 := Tryd.zeroValue4
  t5 := Tryd.underlying5
  a5 := Tryd.isAgg5
  z5 := Tryd.sizeOf5
  v5 := Tryd.zeroValue5
  t9 := Tryd.underlying9
  a9 := Tryd.isAgg9
  z9 := Tryd.sizeOf9
  v9 := Tryd.zeroValue9
  t20 := Tryd.underlying20
  a20 := Tryd.isAgg20
  z20 := Tryd.sizeOf20
  v20 := Tryd.zeroValue20
  t37 := Tryd.underlying41
  a37 := Tryd.isAgg41
  z37 := Tryd.sizeOf41
  v37 := Tryd.zeroValue41
  t46 := Tryd.underlying145
  a46 := Tryd.isAgg145
  z46 := Tryd.sizeOf145
  v46 := Tryd.zeroValue145
  t51 := Tryd.underlying119
  a51 := Tryd.isAgg119
  z51 := Tryd.sizeOf119
  v51 := Tryd.zeroValue119
  t53 := Tryd.underlying148
  a53 := Tryd.isAgg148
  z53 := Tryd.sizeOf148
  v53 := Tryd.zeroValue148
  t171 := Tryd.underlying160
  a171 := Tryd.isAgg160
  z171 := Tryd.sizeOf160
  v171 := Tryd.zeroValue160
  t173 := Tryd.underlying163
  a173 := Tryd.isAgg163
  z173 := Tryd.sizeOf163
  v173 := Tryd.zeroValue163
  t212 := Tryd.underlying176
  a212 := Tryd.isAgg176
  z212 := Tryd.sizeOf176
  v212 := Tryd.zeroValue176
  t213 := Tryd.underlying177
  a213 := Tryd.isAgg177
  z213 := Tryd.sizeOf177
  t232 := Tryd.underlying188
  a232 := Tryd.isAgg188
  z232 := Tryd.sizeOf188
  v232 := Tryd.zeroValue188
  t233 := Tryd.underlying189
  a233 := Tryd.isAgg189
  z233 := Tryd.sizeOf189
  v233 := Tryd.zeroValue189
  g17 := by kernel_rfl
  g18 := by kernel_rfl
  g19 := by kernel_rfl }
open Go.RowKit Go.Sort Go.Lib in
theorem Tryd.strconv_FormatInt_10_small (i : Nat) (hi : i < 100) (w : World) :
    Calls Tryd.prog 83 #[.int .i64 i, .int .i64 10] w fun e w' => e = .returned (.string ⟨(Lib.decDigits i).toArray⟩) ∧ w' = w := Any.strconv_FormatInt_10_small Tryd.lays173 i hi w
open Go.RowKit in
theorem Tryd.internal_strconv_Atoi_err (s : ByteArray) (hl0 : 1 ≤ s.size) (hl : s.size ≤ 18) (h : Lib.atoi s.data.toList = none) (w : World) :
    Calls Tryd.prog 168 #[.string s] w fun e w' => e = .returned (.tuple #[.int .i64 0, (.iface 182 (.int .i64 2))]) ∧ (w' = w ∨ ∃ t, w' = Lib.bytesWorld w 5 t) := Any.internal_strconv_Atoi_err Tryd.lays244 s hl0 hl h w
def Tryd.lays247_ren : Go.Shelf.Ren := ⟨fun | 247 => 166 | 287 => 171 | 321 => 176 | 322 => 177 | n => n, fun | 9 => 9 | 3 => 3 | 2 => 2 | 75 => 110 | 4 => 4 | 167 => 182 | 5 => 5 | 53 => 148 | 175 => 183 | 46 => 145 | 37 => 41 | 0 => 0 | 21 => 21 | 80 => 117 | n => n, fun | n => n⟩
theorem Tryd.lays247 : Go.Proofs.Lays.n247 Tryd.prog Tryd.lays247_ren := {
  mixed := by kernel_rfl
  f247 := Tryd.func166.trans (congrArg some (by kernel_rfl))
  f287 := Tryd.func171.trans (congrArg some (by kernel_rfl))
  f321 := Tryd.func176.trans (congrArg some (by kernel_rfl))
  f322 := Tryd.func177.trans (congrArg some (by kernel_rfl))
  t0 := Tryd.underlying0
  a0 := Tryd.isAgg0
  z0 := Tryd.sizeOf0
  v0 := Tryd.zeroValue0
  t2 := Tryd.underlying2
  a2 := Tryd.isAgg2
  z2 := Tryd.sizeOf2
  v2 := Tryd.zeroValue2
  t3 := Tryd.underlying3
  a3 := Tryd.isAgg3
  z3 := Tryd.sizeOf3
  v3 := Tryd.zeroValue3
  t4 := Tryd.underlying4
  a4 := Tryd.isAgg4
  z4 := Tryd.sizeOf4
  v4 := Tryd.zeroValue4
  t5 := Tryd.underlying5
  a5 := Tryd.isAgg5
  z5 := Tryd.sizeOf5
  v5 := Tryd.zeroValue5
  t9 := Tryd.underlying9
  a9 := Tryd.isAgg9
  z9 := Tryd.sizeOf9
  v9 := Tryd.zeroValue9
  t21 := Tryd.underlying21
  a21 := Tryd.isAgg21
  z21 := Tryd.sizeOf21
  v21 := Tryd.zeroValue21
  t37 := Tryd.underlying41
  a37 := Tryd.isAgg41
  z37 := Tryd.sizeOf41
  v37 := Tryd.zeroValue41
  t46 := Tryd.underlying145
  a46 := Tryd.isAgg145
  z46 := Tryd.sizeOf145
  v46 := Tryd.zeroValue145
  t53 := Tryd.underlying148
  a53 := Tryd.isAgg148
  z53 := Tryd.sizeOf148
  v53 := Tryd.zeroValue148
  t75 := Tryd.underlying110
  a75 := Tryd.isAgg110
  z75 := Tryd.sizeOf110
  v75 := Tryd.zeroValue110
  t167 := Tryd.underlying182
  a167 := Tryd.isAgg182
  z167 := Tryd.sizeOf182
  v167 := Tryd.zeroValue182
  t175 := Tryd.underlying183
  a175 := Tryd.isAgg183
  z175 := Tryd.sizeOf183
  v175 := Tryd.zeroValue183 }
open Go.RowKit in
theorem Tryd.internal_strconv_ParseInt_empty (base bits : Int) (w : World) :
    Calls Tryd.prog 166 #[.string ⟨#[]⟩, .int .i64 base, .int .i64 bits] w fun e w' => e = .returned (.tuple #[.int .i64 0, (.iface 182 (.int .i64 2))]) ∧ w' = w := Any.internal_strconv_ParseInt_empty Tryd.lays247 base bits w
open Go.RowKit in
theorem Tryd.internal_strconv_Atoi_empty (w : World) :
    Calls Tryd.prog 168 #[.string ⟨#[]⟩] w fun e w' => e = .returned (.tuple #[.int .i64 0, (.iface 182 (.int .i64 2))]) ∧ w' = w := Any.internal_strconv_Atoi_empty Tryd.lays244 w
open Go.RowKit in
theorem Tryd.internal_strconv_Atoi_fail (s : ByteArray) (hl : s.size ≤ 18) (h : Lib.atoi s.data.toList = none) (w : World) :
    Calls Tryd.prog 168 #[.string s] w fun e w' => e = .returned (.tuple #[.int .i64 0, (.iface 182 (.int .i64 2))]) ∧ (w' = w ∨ ∃ t, w' = Lib.bytesWorld w 5 t) := Any.internal_strconv_Atoi_fail Tryd.lays244 s hl h w
def Tryd.laysM316_ren : Go.Shelf.Ren := ⟨fun | 316 => 178 | n => n, fun | 9 => 9 | 3 => 3 | 4 => 4 | 37 => 41 | 0 => 0 | 127 => 144 | 5 => 5 | n => n, fun | n => n⟩
theorem Tryd.laysM316 : Go.Proofs.LaysM.n316 Tryd.prog Tryd.laysM316_ren := {
  mixed := by kernel_rfl
  f316 := Tryd.func178.trans (congrArg some (by kernel_rfl))
  t0 := Tryd.underlying0
  a0 := Tryd.isAgg0
  z0 := Tryd.sizeOf0
  v0 := Tryd.zeroValue0
  t3 := Tryd.underlying3
  a3 := Tryd.isAgg3
  z3 := Tryd.sizeOf3
  v3 := Tryd.zeroValue3
  t4 := Tryd.underlying4
  a4 := Tryd.isAgg4
  z4 := Tryd.sizeOf4
  v4 := Tryd.zeroValue4
  t9 := Tryd.underlying9
  a9 := Tryd.isAgg9
  z9 := Tryd.sizeOf9
  v9 := Tryd.zeroValue9
  t37 := Tryd.underlying41
  a37 := Tryd.isAgg41
  z37 := Tryd.sizeOf41
  v37 := Tryd.zeroValue41
  t127 := Tryd.underlying144
  a127 := Tryd.isAgg144
  z127 := Tryd.sizeOf144
  v127 := Tryd.zeroValue144
  t5 := Tryd.underlying5
  a5 := Tryd.isAgg5
  z5 := Tryd.sizeOf5
  v5 := Tryd.zeroValue5
  i0 := by kernel_rfl
  i3 := by kernel_rfl
  i4 := by kernel_rfl
  i5 := by kernel_rfl
  i9 := by kernel_rfl
  i37 := by kernel_rfl
  i127 := by kernel_rfl }
open Go.RowKit in
theorem Tryd.stringslite_Clone (s : ByteArray) (w : World) (hlim : s.size ≤ 281474976710656) :
    Calls Tryd.prog 178 #[.string s] w fun e w' => e = .returned (.string s) ∧ Below w.heap.size w w' := Any.stringslite_Clone Tryd.laysM316 s w hlim
def Tryd.laysM279_ren : Go.Shelf.Ren := ⟨fun | 279 => 172 | 316 => 178 | n => n, fun | 9 => 9 | 168 => 185 | 75 => 110 | 210 => 192 | 3 => 3 | 4 => 4 | 37 => 41 | 0 => 0 | 127 => 144 | 80 => 117 | 5 => 5 | n => n, fun | 15 => 6 | n => n⟩
theorem Tryd.laysM279 : Go.Proofs.LaysM.n279 Tryd.prog Tryd.laysM279_ren := {
  mixed := by kernel_rfl
  f279 := Tryd.func172.trans (congrArg some (by kernel_rfl))
  f316 := Tryd.func178.trans (congrArg some (by kernel_rfl))
  t0 := Tryd.underlying0
  a0 := Tryd.isAgg0
  z0 := Tryd.sizeOf0
  v0 := Tryd.zeroValue0
  t3 := Tryd.underlying3
  a3 := Tryd.isAgg3
  z3 := Tryd.sizeOf3
  v3 := Tryd.zeroValue3
  t4 := Tryd.underlying4
  a4 := Tryd.isAgg4
  z4 := Tryd.sizeOf4
  v4 := Tryd.zeroValue4
  t9 := Tryd.underlying9
  a9 := Tryd.isAgg9
  z9 := Tryd.sizeOf9
  v9 := Tryd.zeroValue9
  t37 := Tryd.underlying41
  a37 := Tryd.isAgg41
  z37 := Tryd.sizeOf41
  v37 := Tryd.zeroValue41
  t75 := Tryd.underlying110
  a75 := Tryd.isAgg110
  z75 := Tryd.sizeOf110
  v75 := Tryd.zeroValue110
  t127 := Tryd.underlying144
  a127 := Tryd.isAgg144
  z127 := Tryd.sizeOf144
  v127 := Tryd.zeroValue144
  t168 := Tryd.underlying185
  a168 := Tryd.isAgg185
  z168 := Tryd.sizeOf185
  v168 := Tryd.zeroValue185
  t210 := Tryd.underlying192
  a210 := Tryd.isAgg192
  z210 := Tryd.sizeOf192
  v210 := Tryd.zeroValue192
  g15 := by kernel_rfl
  t5 := Tryd.underlying5
  a5 := Tryd.isAgg5
  z5 := Tryd.sizeOf5
  v5 := Tryd.zeroValue5
  t80 := Tryd.underlying117
  a80 := Tryd.isAgg117
  z80 := Tryd.sizeOf117
  v80 := Tryd.zeroValue117
  i0 := by kernel_rfl
  i3 := by kernel_rfl
  i4 := by kernel_rfl
  i5 := by kernel_rfl
  i9 := by kernel_rfl
  i37 := by kernel_rfl
  i75 := by kernel_rfl
  i80 := by kernel_rfl
  i127 := by kernel_rfl
  i168 := by kernel_rfl
  i210 := by kernel_rfl
  m15 := by kernel_rfl }
open Go.RowKit in
theorem Tryd.strconv_syntaxError (fn s : ByteArray) (ev : Value) (w : World) (hlim : s.size ≤ 281474976710656) (hv : w.cell? ⟨6, 0, none⟩ = some ev) (hev : ev = .nilIface ∨ ∃ te pe, ev = .iface te pe) :
    Calls Tryd.prog 172 #[.string fn, .string s] w fun e w' => ∃ N, e = .returned (.pointer (some ⟨N, 0, none⟩)) ∧ w.heap.size ≤ N ∧ w'.heap[N]? = some (.cells #[.string fn, .string s, ev] 192 (0, 0)) ∧ Below w.heap.size w w' := Any.strconv_syntaxError Tryd.laysM279 fn s ev w hlim hv hev
def Tryd.laysC245_ren : Go.Shelf.Ren := ⟨fun | 245 => 167 | 279 => 172 | 280 => 173 | 281 => 174 | 282 => 175 | 316 => 178 | 171 => 84 | 205 => 179 | 243 => 117 | 246 => 116 | 283 => 145 | 284 => 146 | 285 => 147 | 286 => 148 | 129 => 161 | 317 => 160 | 318 => 162 | 319 => 163 | 320 => 164 | 337 => 169 | 338 => 170 | n => n, fun | 9 => 9 | 3 => 3 | 75 => 110 | 167 => 182 | 4 => 4 | 168 => 185 | 210 => 192 | 37 => 41 | 0 => 0 | 127 => 144 | 145 => 196 | 143 => 194 | 2 => 2 | 171 => 160 | 53 => 148 | 5 => 5 | 173 => 163 | 212 => 176 | 51 => 119 | 20 => 20 | 213 => 177 | 46 => 145 | 232 => 188 | 233 => 189 | 80 => 117 | n => n, fun | 15 => 6 | 16 => 7 | 17 => 3 | 18 => 4 | 19 => 5 | n => n⟩
theorem Tryd.laysC245 : Go.Proofs.LaysC.n245 Tryd.prog Tryd.laysC245_ren := {
  mixed := by kernel_rfl
  f129 := Tryd.func161.trans (congrArg some (by kernel_rfl))
  f171 := Tryd.func84.trans (congrArg some (by kernel_rfl))
  f205 := Tryd.func179.trans (congrArg some (by kernel_rfl))
  f243 := Tryd.func117.trans (congrArg some (by kernel_rfl))
  f245 := Tryd.func167.trans (congrArg some (by kernel_rfl))
  f246 := Tryd.func116.trans (congrArg some (by kernel_rfl))
  f279 := Tryd.func172.trans (congrArg some (by kernel_rfl))
  f280 := Tryd.func173.trans (congrArg some (by kernel_rfl))
  f281 := Tryd.func174.trans (congrArg some (by kernel_rfl))
  f282 := Tryd.func175.trans (congrArg some (by kernel_rfl))
  f283 := Tryd.func145.trans (congrArg some (by kernel_rfl))
  f284 := Tryd.func146.trans (congrArg some (by kernel_rfl))
  f285 := Tryd.func147.trans (congrArg some (by kernel_rfl))
  f286 := Tryd.func148.trans (congrArg some (by kernel_rfl))
  f316 := Tryd.func178.trans (congrArg some (by kernel_rfl))
  f317 := Tryd.func160.trans (congrArg some (by kernel_rfl))
  f318 := Tryd.func162.trans (congrArg some (by kernel_rfl))
  f319 := Tryd.func163.trans (congrArg some (by kernel_rfl))
  f320 := Tryd.func164.trans (congrArg some (by kernel_rfl))
  f337 := Tryd.func169.trans (congrArg some (by kernel_rfl))
  f338 := Tryd.func170.trans (congrArg some (by kernel_rfl))
  t0 := Tryd.underlying0
  a0 := Tryd.isAgg0
  z0 := Tryd.sizeOf0
  v0 := Tryd.zeroValue0
  t2 := Tryd.underlying2
  a2 := Tryd.isAgg2
  z2 := Tryd.sizeOf2
  v2 := Tryd.zeroValue2
  t3 := Tryd.underlying3
  a3 := Tryd.isAgg3
  z3 := Tryd.sizeOf3
  v3 := Tryd.zeroValue3
  t4 := Tryd.underlying4
  a4 := Tryd.isAgg4
  z4 := Tryd.sizeOf4
  v4 := Tryd.zeroValue4
  t5 := Tryd.underlying5
  a5 := Tryd.isAgg5
  z5 := Tryd.sizeOf5
  v5 := Tryd.zeroValue5
  t9 := Tryd.underlying9
  a9 := Tryd.isAgg9
  z9 := Tryd.sizeOf9
  v9 := Tryd.zeroValue9
  t20 := Tryd.underlying20
  a20 := Tryd.isAgg20
  z20 := Tryd.sizeOf20
  v20 := Tryd.zeroValue20
  t37 := Tryd.underlying41
  a37 := Tryd.isAgg41
  z37 := Tryd.sizeOf41
  v37 := Tryd.zeroValue41
  t46 := Tryd.underlying145
  a46 := Tryd.isAgg145
  z46 := Tryd.sizeOf145
  v46 := Tryd.zeroValue145
  t51 := Tryd.underlying119
  a51 := Tryd.isAgg119
  z51 := Tryd.sizeOf119
  v51 := Tryd.zeroValue119
  t53 := Tryd.underlying148
  a53 := Tryd.isAgg148
  z53 := Tryd.sizeOf148
  v53 := Tryd.zeroValue148
  t75 := Tryd.underlying110
  a75 := Tryd.isAgg110
  z75 := Tryd.sizeOf110
  v75 := Tryd.zeroValue110
  t127 := Tryd.underlying144
  a127 := Tryd.isAgg144
  z127 := Tryd.sizeOf144
  v127 := Tryd.zeroValue144
  t143 := Tryd.underlying194
  a143 := Tryd.isAgg194
  z143 := Tryd.sizeOf194
  v143 := Tryd.zeroValue194
  t145 := Tryd.underlying196
  a145 := Tryd.isAgg196
  z145 := Tryd.sizeOf196
  v145 := Tryd.zeroValue196
  t167 := Tryd.underlying182
  a167 := Tryd.isAgg182
  z167 := Tryd.sizeOf182
  v167 := Tryd.zeroValue182
  t168 := Tryd.underlying185
  a168 := Tryd.isAgg185
  z168 := Tryd.sizeOf185
  v168 := Tryd.zeroValue185
  t171 := Tryd.underlying160
  a171 := Tryd.isAgg160
  z171 := Tryd.sizeOf160
  v171 := Tryd.zeroValue160
  t173 := Tryd.underlying163
  a173 := Tryd.isAgg163
  z173 := Tryd.sizeOf163
  v173 := Tryd.zeroValue163
  t210 := Tryd.underlying192
  a210 := Tryd.isAgg192
  z210 := Tryd.sizeOf192
  v210 := Tryd.zeroValue192
  t212 := Tryd.underlying176
  a212 := Tryd.isAgg176
  z212 := Tryd.sizeOf176
  v212 := Tryd.zeroValue176
  t213 := Tryd.underlying177
  a213 := Tryd.isAgg177
  z213 := Tryd.sizeOf177
  t232 := Tryd.underlying188
  a232 := Tryd.isAgg188
  z232 := Tryd.sizeOf188
  v232 := Tryd.zeroValue188
  t233 := Tryd.underlying189
  a233 := Tryd.isAgg189
  z233 := Tryd.sizeOf189
  v233 := Tryd.zeroValue189
  g15 := by kernel_rfl
  g16 := by kernel_rfl
  g17 := by kernel_rfl
  g18 := by kernel_rfl
  g19 := by kernel_rfl
  t80 := Tryd.underlying117
  a80 := Tryd.isAgg117
  z80 := Tryd.sizeOf117
  v80 := Tryd.zeroValue117
  i0 := by kernel_rfl
  i2 := by kernel_rfl
  i3 := by kernel_rfl
  i4 := by kernel_rfl
  i5 := by kernel_rfl
  i9 := by kernel_rfl
  i20 := by kernel_rfl
  i37 := by kernel_rfl
  i46 := by kernel_rfl
  i51 := by kernel_rfl
  i53 := by kernel_rfl
  i75 := by kernel_rfl
  i80 := by kernel_rfl
  i127 := by kernel_rfl
  i143 := by kernel_rfl
  i145 := by kernel_rfl
  i167 := by kernel_rfl
  i168 := by kernel_rfl
  i171 := by kernel_rfl
  i173 := by kernel_rfl
  i210 := by kernel_rfl
  i212 := by kernel_rfl
  i232 := by kernel_rfl
  i233 := by kernel_rfl
  m15 := by kernel_rfl
  m16 := by kernel_rfl
  m17 := by kernel_rfl
  m18 := by kernel_rfl
  m19 := by kernel_rfl
  c0 := by kernel_rfl
  c2 := by kernel_rfl
  c3 := by kernel_rfl
  c4 := by kernel_rfl
  c5 := by kernel_rfl
  c9 := by kernel_rfl
  c20 := by kernel_rfl
  c37 := by kernel_rfl
  c46 := by kernel_rfl
  c51 := by kernel_rfl
  c53 := by kernel_rfl
  c75 := by kernel_rfl
  c80 := by kernel_rfl
  c127 := by kernel_rfl
  c143 := by kernel_rfl
  c145 := by kernel_rfl
  c167 := by kernel_rfl
  c168 := by kernel_rfl
  c171 := by kernel_rfl
  c173 := by kernel_rfl
  c210 := by kernel_rfl
  c212 := by kernel_rfl
  c213 := by kernel_rfl
  c232 := by kernel_rfl
  c233 := by kernel_rfl }
open Go.RowKit in
theorem Tryd.strconv_toError_syntax (fn s : ByteArray) (base bits : Int) (ev : Value) (w : World) (hlim : s.size ≤ 281474976710656) (hv : w.cell? ⟨6, 0, none⟩ = some ev) (hev : ev = .nilIface ∨ ∃ te pe, ev = .iface te pe) :
    Calls Tryd.prog 167 #[.string fn, .string s, .int .i64 base, .int .i64 bits, .iface 182 (.int .i64 2)] w fun e w' => ∃ N, e = .returned (.iface 185 (.pointer (some ⟨N, 0, none⟩))) ∧ w.heap.size ≤ N ∧ w'.heap[N]? = some (.cells #[.string fn, .string s, ev] 192 (0, 0)) ∧ Below w.heap.size w w' := Any.strconv_toError_syntax Tryd.laysC245 fn s base bits ev w hlim hv hev
def Tryd.lays321_ren : Go.Shelf.Ren := ⟨fun | 321 => 176 | n => n, fun | 5 => 5 | n => n, fun | n => n⟩
theorem Tryd.lays321 : Go.Proofs.Lays.n321 Tryd.prog Tryd.lays321_ren := {
  mixed := by kernel_rfl
  f321 := Tryd.func176.trans (congrArg some (by kernel_rfl))
  t5 := Tryd.underlying5
  a5 := Tryd.isAgg5
  z5 := Tryd.sizeOf5
  v5 := Tryd.zeroValue5 }
open Go.RowKit in
theorem Tryd.internal_strconv_lower (c : Int) (w : World) :
    Calls Tryd.prog 176 #[.int .u8 c] w fun e w' => e = .returned (.int .u8 (bits .or .u8 c 32)) ∧ w' = w := Any.internal_strconv_lower Tryd.lays321 c w
def Tryd.lays287_ren : Go.Shelf.Ren := ⟨fun | 287 => 171 | 321 => 176 | 322 => 177 | n => n, fun | 9 => 9 | 3 => 3 | 53 => 148 | 75 => 110 | 4 => 4 | 167 => 182 | 5 => 5 | 46 => 145 | 37 => 41 | 0 => 0 | 21 => 21 | 80 => 117 | n => n, fun | n => n⟩
theorem Tryd.lays287 : Go.Proofs.Lays.n287 Tryd.prog Tryd.lays287_ren := {
  mixed := by kernel_rfl
  f287 := Tryd.func171.trans (congrArg some (by kernel_rfl))
  f321 := Tryd.func176.trans (congrArg some (by kernel_rfl))
  f322 := Tryd.func177.trans (congrArg some (by kernel_rfl))
  t0 := Tryd.underlying0
  a0 := Tryd.isAgg0
  z0 := Tryd.sizeOf0
  v0 := Tryd.zeroValue0
  t3 := Tryd.underlying3
  a3 := Tryd.isAgg3
  z3 := Tryd.sizeOf3
  v3 := Tryd.zeroValue3
  t4 := Tryd.underlying4
  a4 := Tryd.isAgg4
  z4 := Tryd.sizeOf4
  v4 := Tryd.zeroValue4
  t5 := Tryd.underlying5
  a5 := Tryd.isAgg5
  z5 := Tryd.sizeOf5
  v5 := Tryd.zeroValue5
  t9 := Tryd.underlying9
  a9 := Tryd.isAgg9
  z9 := Tryd.sizeOf9
  v9 := Tryd.zeroValue9
  t21 := Tryd.underlying21
  a21 := Tryd.isAgg21
  z21 := Tryd.sizeOf21
  v21 := Tryd.zeroValue21
  t37 := Tryd.underlying41
  a37 := Tryd.isAgg41
  z37 := Tryd.sizeOf41
  v37 := Tryd.zeroValue41
  t46 := Tryd.underlying145
  a46 := Tryd.isAgg145
  z46 := Tryd.sizeOf145
  v46 := Tryd.zeroValue145
  t53 := Tryd.underlying148
  a53 := Tryd.isAgg148
  z53 := Tryd.sizeOf148
  v53 := Tryd.zeroValue148
  t75 := Tryd.underlying110
  a75 := Tryd.isAgg110
  z75 := Tryd.sizeOf110
  v75 := Tryd.zeroValue110
  t167 := Tryd.underlying182
  a167 := Tryd.isAgg182
  z167 := Tryd.sizeOf182
  v167 := Tryd.zeroValue182 }
open Go.RowKit in
theorem Tryd.internal_strconv_ParseUint_10 (t : ByteArray) (hne : t.size ≠ 0) (hmax : t.size ≤ 9223372036854775806) (w : World) :
    Calls Tryd.prog 171 #[.string t, .int .i64 10, .int .i64 0] w fun e w' => e = .returned (Lib.uintTuple 182 (Lib.parseUint10 0 t.data.toList)) ∧ w' = Lib.bytesWorld w 5 t := Any.internal_strconv_ParseUint_10 Tryd.lays287 t hne hmax w
open Go.RowKit in
theorem Tryd.internal_strconv_ParseUint_10_any (t : ByteArray) (hmax : t.size ≤ 9223372036854775806) (w : World) :
    Calls Tryd.prog 171 #[.string t, .int .i64 10, .int .i64 0] w fun e w' => e = .returned (Lib.uintTuple 182 (Lib.parseMag t.data.toList)) ∧ (w' = w ∨ w' = Lib.bytesWorld w 5 t) := Any.internal_strconv_ParseUint_10_any Tryd.lays287 t hmax w
def Tryd.laysC247_ren : Go.Shelf.Ren := ⟨fun | 247 => 166 | 287 => 171 | 321 => 176 | 322 => 177 | n => n, fun | 9 => 9 | 3 => 3 | 2 => 2 | 75 => 110 | 4 => 4 | 167 => 182 | 5 => 5 | 53 => 148 | 175 => 183 | 46 => 145 | 37 => 41 | 0 => 0 | 21 => 21 | 80 => 117 | n => n, fun | n => n⟩
theorem Tryd.laysC247 : Go.Proofs.LaysC.n247 Tryd.prog Tryd.laysC247_ren := {
  mixed := by kernel_rfl
  f247 := Tryd.func166.trans (congrArg some (by kernel_rfl))
  f287 := Tryd.func171.trans (congrArg some (by kernel_rfl))
  f321 := Tryd.func176.trans (congrArg some (by kernel_rfl))
  f322 := Tryd.func177.trans (congrArg some (by kernel_rfl))
  t0 := Tryd.underlying0
  a0 := Tryd.isAgg0
  z0 := Tryd.sizeOf0
  v0 := Tryd.zeroValue0
  t2 := Tryd.underlying2
  a2 := Tryd.isAgg2
  z2 := Tryd.sizeOf2
  v2 := Tryd.zeroValue2
  t3 := Tryd.underlying3
  a3 := Tryd.isAgg3
  z3 := Tryd.sizeOf3
  v3 := Tryd.zeroValue3
  t4 := Tryd.underlying4
  a4 := Tryd.isAgg4
  z4 := Tryd.sizeOf4
  v4 := Tryd.zeroValue4
  t5 := Tryd.underlying5
  a5 := Tryd.isAgg5
  z5 := Tryd.sizeOf5
  v5 := Tryd.zeroValue5
  t9 := Tryd.underlying9
  a9 := Tryd.isAgg9
  z9 := Tryd.sizeOf9
  v9 := Tryd.zeroValue9
  t21 := Tryd.underlying21
  a21 := Tryd.isAgg21
  z21 := Tryd.sizeOf21
  v21 := Tryd.zeroValue21
  t37 := Tryd.underlying41
  a37 := Tryd.isAgg41
  z37 := Tryd.sizeOf41
  v37 := Tryd.zeroValue41
  t46 := Tryd.underlying145
  a46 := Tryd.isAgg145
  z46 := Tryd.sizeOf145
  v46 := Tryd.zeroValue145
  t53 := Tryd.underlying148
  a53 := Tryd.isAgg148
  z53 := Tryd.sizeOf148
  v53 := Tryd.zeroValue148
  t75 := Tryd.underlying110
  a75 := Tryd.isAgg110
  z75 := Tryd.sizeOf110
  v75 := Tryd.zeroValue110
  t167 := Tryd.underlying182
  a167 := Tryd.isAgg182
  z167 := Tryd.sizeOf182
  v167 := Tryd.zeroValue182
  t175 := Tryd.underlying183
  a175 := Tryd.isAgg183
  z175 := Tryd.sizeOf183
  v175 := Tryd.zeroValue183
  t80 := Tryd.underlying117
  a80 := Tryd.isAgg117
  z80 := Tryd.sizeOf117
  v80 := Tryd.zeroValue117
  i0 := by kernel_rfl
  i2 := by kernel_rfl
  i3 := by kernel_rfl
  i4 := by kernel_rfl
  i5 := by kernel_rfl
  i9 := by kernel_rfl
  i21 := by kernel_rfl
  i37 := by kernel_rfl
  i46 := by kernel_rfl
  i53 := by kernel_rfl
  i75 := by kernel_rfl
  i80 := by kernel_rfl
  i167 := by kernel_rfl
  i175 := by kernel_rfl
  c0 := by kernel_rfl
  c2 := by kernel_rfl
  c3 := by kernel_rfl
  c4 := by kernel_rfl
  c5 := by kernel_rfl
  c9 := by kernel_rfl
  c21 := by kernel_rfl
  c37 := by kernel_rfl
  c46 := by kernel_rfl
  c53 := by kernel_rfl
  c75 := by kernel_rfl
  c80 := by kernel_rfl
  c167 := by kernel_rfl
  c175 := by kernel_rfl }
open Go.RowKit in
theorem Tryd.internal_strconv_ParseInt_10 (s : ByteArray) (hne : s.size ≠ 0) (hmax : s.size ≤ 9223372036854775806) (w : World) :
    Calls Tryd.prog 166 #[.string s, .int .i64 10, .int .i64 0] w fun e w' => e = .returned (Lib.intTuple 182 (Lib.atoiSat s.data.toList) (Lib.atoiAll s.data.toList)) ∧ (w' = w ∨ ∃ t, w' = Lib.bytesWorld w 5 t) := Any.internal_strconv_ParseInt_10 Tryd.laysC247 s hne hmax w
def Tryd.laysC244_ren : Go.Shelf.Ren := ⟨fun | 244 => 168 | 247 => 166 | 287 => 171 | 321 => 176 | 322 => 177 | n => n, fun | 9 => 9 | 3 => 3 | 75 => 110 | 4 => 4 | 5 => 5 | 167 => 182 | 37 => 41 | 0 => 0 | 85 => 166 | 2 => 2 | 53 => 148 | 175 => 183 | 46 => 145 | 21 => 21 | 80 => 117 | n => n, fun | n => n⟩
theorem Tryd.laysC244 : Go.Proofs.LaysC.n244 Tryd.prog Tryd.laysC244_ren := {
  mixed := by kernel_rfl
  f244 := Tryd.func168.trans (congrArg some (by kernel_rfl))
  f247 := Tryd.func166.trans (congrArg some (by kernel_rfl))
  f287 := Tryd.func171.trans (congrArg some (by kernel_rfl))
  f321 := Tryd.func176.trans (congrArg some (by kernel_rfl))
  f322 := Tryd.func177.trans (congrArg some (by kernel_rfl))
  t0 := Tryd.underlying0
  a0 := Tryd.isAgg0
  z0 := Tryd.sizeOf0
  v0 := Tryd.zeroValue0
  t2 := Tryd.underlying2
  a2 := Tryd.isAgg2
  z2 := Tryd.sizeOf2
  v2 := Tryd.zeroValue2
  t3 := Tryd.underlying3
  a3 := Tryd.isAgg3
  z3 := Tryd.sizeOf3
  v3 := Tryd.zeroValue3
  t4 := Tryd.underlying4
  a4 := Tryd.isAgg4
  z4 := Tryd.sizeOf4
  v4 := Tryd.zeroValue4
  t5 := Tryd.underlying5
  a5 := Tryd.isAgg5
  z5 := Tryd.sizeOf5
  v5 := Tryd.zeroValue5
  t9 := Tryd.underlying9
  a9 := Tryd.isAgg9
  z9 := Tryd.sizeOf9
  v9 := Tryd.zeroValue9
  t21 := Tryd.underlying21
  a21 := Tryd.isAgg21
  z21 := Tryd.sizeOf21
  v21 := Tryd.zeroValue21
  t37 := Tryd.underlying41
  a37 := Tryd.isAgg41
  z37 := Tryd.sizeOf41
  v37 := Tryd.zeroValue41
  t46 := Tryd.underlying145
  a46 := Tryd.isAgg145
  z46 := Tryd.sizeOf145
  v46 := Tryd.zeroValue145
  t53 := Tryd.underlying148
  a53 := Tryd.isAgg148
  z53 := Tryd.sizeOf148
  v53 := Tryd.zeroValue148
  t75 := Tryd.underlying110
  a75 := Tryd.isAgg110
  z75 := Tryd.sizeOf110
  v75 := Tryd.zeroValue110
  t85 := Tryd.underlying166
  a85 := Tryd.isAgg166
  z85 := Tryd.sizeOf166
  v85 := Tryd.zeroValue166
  t167 := Tryd.underlying182
  a167 := Tryd.isAgg182
  z167 := Tryd.sizeOf182
  v167 := Tryd.zeroValue182
  t175 := Tryd.underlying183
  a175 := Tryd.isAgg183
  z175 := Tryd.sizeOf183
  v175 := Tryd.zeroValue183
  t80 := Tryd.underlying117
  a80 := Tryd.isAgg117
  z80 := Tryd.sizeOf117
  v80 := Tryd.zeroValue117
  i0 := by kernel_rfl
  i2 := by kernel_rfl
  i3 := by kernel_rfl
  i4 := by kernel_rfl
  i5 := by kernel_rfl
  i9 := by kernel_rfl
  i21 := by kernel_rfl
  i37 := by kernel_rfl
  i46 := by kernel_rfl
  i53 := by kernel_rfl
  i75 := by kernel_rfl
  i80 := by kernel_rfl
  i85 := by kernel_rfl
  i167 := by kernel_rfl
  i175 := by kernel_rfl
  c0 := by kernel_rfl
  c2 := by kernel_rfl
  c3 := by kernel_rfl
  c4 := by kernel_rfl
  c5 := by kernel_rfl
  c9 := by kernel_rfl
  c21 := by kernel_rfl
  c37 := by kernel_rfl
  c46 := by kernel_rfl
  c53 := by kernel_rfl
  c75 := by kernel_rfl
  c80 := by kernel_rfl
  c85 := by kernel_rfl
  c167 := by kernel_rfl
  c175 := by kernel_rfl }
open Go.RowKit in
theorem Tryd.internal_strconv_Atoi_long (s : ByteArray) (h19 : 19 ≤ s.size) (hmax : s.size ≤ 9223372036854775806) (w : World) :
    Calls Tryd.prog 168 #[.string s] w fun e w' => e = .returned (Lib.intTuple 182 (Lib.atoiSat s.data.toList) (Lib.atoiAll s.data.toList)) ∧ (w' = w ∨ ∃ t, w' = Lib.bytesWorld w 5 t) := Any.internal_strconv_Atoi_long Tryd.laysC244 s h19 hmax w
open Go.RowKit in
theorem Tryd.internal_strconv_Atoi_all (s : ByteArray) (hmax : s.size ≤ 9223372036854775806) (w : World) :
    Calls Tryd.prog 168 #[.string s] w fun e w' => e = .returned (Lib.intTuple 182 (Lib.atoiSat s.data.toList) (Lib.atoiAll s.data.toList)) ∧ (w' = w ∨ ∃ t, w' = Lib.bytesWorld w 5 t) := Any.internal_strconv_Atoi_all Tryd.laysC244 s hmax w
def Tryd.laysM280_ren : Go.Shelf.Ren := ⟨fun | 280 => 173 | 316 => 178 | n => n, fun | 9 => 9 | 168 => 185 | 75 => 110 | 210 => 192 | 3 => 3 | 4 => 4 | 37 => 41 | 0 => 0 | 127 => 144 | 80 => 117 | 5 => 5 | n => n, fun | 16 => 7 | n => n⟩
theorem Tryd.laysM280 : Go.Proofs.LaysM.n280 Tryd.prog Tryd.laysM280_ren := {
  mixed := by kernel_rfl
  f280 := Tryd.func173.trans (congrArg some (by kernel_rfl))
  f316 := Tryd.func178.trans (congrArg some (by kernel_rfl))
  t0 := Tryd.underlying0
  a0 := Tryd.isAgg0
  z0 := Tryd.sizeOf0
  v0 := Tryd.zeroValue0
  t3 := Tryd.underlying3
  a3 := Tryd.isAgg3
  z3 := Tryd.sizeOf3
  v3 := Tryd.zeroValue3
  t4 := Tryd.underlying4
  a4 := Tryd.isAgg4
  z4 := Tryd.sizeOf4
  v4 := Tryd.zeroValue4
  t9 := Tryd.underlying9
  a9 := Tryd.isAgg9
  z9 := Tryd.sizeOf9
  v9 := Tryd.zeroValue9
  t37 := Tryd.underlying41
  a37 := Tryd.isAgg41
  z37 := Tryd.sizeOf41
  v37 := Tryd.zeroValue41
  t75 := Tryd.underlying110
  a75 := Tryd.isAgg110
  z75 := Tryd.sizeOf110
  v75 := Tryd.zeroValue110
  t127 := Tryd.underlying144
  a127 := Tryd.isAgg144
  z127 := Tryd.sizeOf144
  v127 := Tryd.zeroValue144
  t168 := Tryd.underlying185
  a168 := Tryd.isAgg185
  z168 := Tryd.sizeOf185
  v168 := Tryd.zeroValue185
  t210 := Tryd.underlying192
  a210 := Tryd.isAgg192
  z210 := Tryd.sizeOf192
  v210 := Tryd.zeroValue192
  g16 := by kernel_rfl
  t5 := Tryd.underlying5
  a5 := Tryd.isAgg5
  z5 := Tryd.sizeOf5
  v5 := Tryd.zeroValue5
  t80 := Tryd.underlying117
  a80 := Tryd.isAgg117
  z80 := Tryd.sizeOf117
  v80 := Tryd.zeroValue117
  i0 := by kernel_rfl
  i3 := by kernel_rfl
  i4 := by kernel_rfl
  i5 := by kernel_rfl
  i9 := by kernel_rfl
  i37 := by kernel_rfl
  i75 := by kernel_rfl
  i80 := by kernel_rfl
  i127 := by kernel_rfl
  i168 := by kernel_rfl
  i210 := by kernel_rfl
  m16 := by kernel_rfl }
open Go.RowKit in
theorem Tryd.strconv_rangeError (fn s : ByteArray) (ev : Value) (w : World) (hlim : s.size ≤ 281474976710656) (hv : w.cell? ⟨7, 0, none⟩ = some ev) (hev : ev = .nilIface ∨ ∃ te pe, ev = .iface te pe) :
    Calls Tryd.prog 173 #[.string fn, .string s] w fun e w' => ∃ N, e = .returned (.pointer (some ⟨N, 0, none⟩)) ∧ w.heap.size ≤ N ∧ w'.heap[N]? = some (.cells #[.string fn, .string s, ev] 192 (0, 0)) ∧ Below w.heap.size w w' := Any.strconv_rangeError Tryd.laysM280 fn s ev w hlim hv hev
open Go.RowKit in
theorem Tryd.strconv_toError_range (fn s : ByteArray) (base bits : Int) (ev : Value) (w : World) (hlim : s.size ≤ 281474976710656) (hv : w.cell? ⟨7, 0, none⟩ = some ev) (hev : ev = .nilIface ∨ ∃ te pe, ev = .iface te pe) :
    Calls Tryd.prog 167 #[.string fn, .string s, .int .i64 base, .int .i64 bits, .iface 182 (.int .i64 1)] w fun e w' => ∃ N, e = .returned (.iface 185 (.pointer (some ⟨N, 0, none⟩))) ∧ w.heap.size ≤ N ∧ w'.heap[N]? = some (.cells #[.string fn, .string s, ev] 192 (0, 0)) ∧ Below w.heap.size w w' := Any.strconv_toError_range Tryd.laysC245 fn s base bits ev w hlim hv hev
def Tryd.laysC172_ren : Go.Shelf.Ren := ⟨fun | 172 => 155 | 244 => 168 | 245 => 167 | 247 => 166 | 279 => 172 | 280 => 173 | 281 => 174 | 282 => 175 | 287 => 171 | 316 => 178 | 171 => 84 | 205 => 179 | 321 => 176 | 322 => 177 | 243 => 117 | 246 => 116 | 283 => 145 | 284 => 146 | 285 => 147 | 286 => 148 | 129 => 161 | 317 => 160 | 318 => 162 | 319 => 163 | 320 => 164 | 337 => 169 | 338 => 170 | n => n, fun | 9 => 9 | 3 => 3 | 75 => 110 | 76 => 111 | 4 => 4 | 5 => 5 | 167 => 182 | 37 => 41 | 0 => 0 | 85 => 166 | 2 => 2 | 168 => 185 | 53 => 148 | 175 => 183 | 46 => 145 | 210 => 192 | 127 => 144 | 145 => 196 | 143 => 194 | 21 => 21 | 171 => 160 | 173 => 163 | 212 => 176 | 51 => 119 | 20 => 20 | 213 => 177 | 232 => 188 | 233 => 189 | 80 => 117 | n => n, fun | 15 => 6 | 16 => 7 | 17 => 3 | 18 => 4 | 19 => 5 | n => n⟩
theorem Tryd.laysC172 : Go.Proofs.LaysC.n172 Tryd.prog Tryd.laysC172_ren := {
  mixed := by kernel_rfl
  f129 := Tryd.func161.trans (congrArg some (by kernel_rfl))
  f171 := Tryd.func84.trans (congrArg some (by kernel_rfl))
  f172 := Tryd.func155.trans (congrArg some (by kernel_rfl))
  f205 := Tryd.func179.trans (congrArg some (by kernel_rfl))
  f243 := Tryd.func117.trans (congrArg some (by kernel_rfl))
  f244 := Tryd.func168.trans (congrArg some (by kernel_rfl))
  f245 := Tryd.func167.trans (congrArg some (by kernel_rfl))
  f246 := Tryd.func116.trans (congrArg some (by kernel_rfl))
  f247 := Tryd.func166.trans (congrArg some (by kernel_rfl))
  f279 := Tryd.func172.trans (congrArg some (by kernel_rfl))
  f280 := Tryd.func173.trans (congrArg some (by kernel_rfl))
  f281 := Tryd.func174.trans (congrArg some (by kernel_rfl))
  f282 := Tryd.func175.trans (congrArg some (by kernel_rfl))
  f283 := Tryd.func145.trans (congrArg some (by kernel_rfl))
  f284 := Tryd.func146.trans (congrArg some (by kernel_rfl))
  f285 := Tryd.func147.trans (congrArg some (by kernel_rfl))
  f286 := Tryd.func148.trans (congrArg some (by kernel_rfl))
  f287 := Tryd.func171.trans (congrArg some (by kernel_rfl))
  f316 := Tryd.func178.trans (congrArg some (by kernel_rfl))
  f317 := Tryd.func160.trans (congrArg some (by kernel_rfl))
  f318 := Tryd.func162.trans (congrArg some (by kernel_rfl))
  f319 := Tryd.func163.trans (congrArg some (by kernel_rfl))
  f320 := Tryd.func164.trans (congrArg some (by kernel_rfl))
  f321 := Tryd.func176.trans (congrArg some (by kernel_rfl))
  f322 := Tryd.func177.trans (congrArg some (by kernel_rfl))
  f337 := Tryd.func169.trans (congrArg some (by kernel_rfl))
  f338 := Tryd.func170.trans (congrArg some (by kernel_rfl))
  t0 := Tryd.underlying0
  a0 := Tryd.isAgg0
  z0 := Tryd.sizeOf0
  v0 := Tryd.zeroValue0
  t2 := Tryd.underlying2
  a2 := Tryd.isAgg2
  z2 := Tryd.sizeOf2
  v2 := Tryd.zeroValue2
  t3 := Tryd.underlying3
  a3 := Tryd.isAgg3
  z3 := Tryd.sizeOf3
  v3 := Tryd.zeroValue3
  t4 := Tryd.underlying4
  a4 := Tryd.isAgg4
  z4 := Tryd.sizeOf4
  v4 := Tryd.zeroValue4
  t5 := Tryd.underlying5
  a5 := Tryd.isAgg5
  z5 := Tryd.sizeOf5
  v5 := Tryd.zeroValue5
  t9 := Tryd.underlying9
  a9 := Tryd.isAgg9
  z9 := Tryd.sizeOf9
  v9 := Tryd.zeroValue9
  t20 := Tryd.underlying20
  a20 := Tryd.isAgg20
  z20 := Tryd.sizeOf20
  v20 := Tryd.zeroValue20
  t21 := Tryd.underlying21
  a21 := Tryd.isAgg21
  z21 := Tryd.sizeOf21
  v21 := Tryd.zeroValue21
  t37 := Tryd.underlying41
  a37 := Tryd.isAgg41
  z37 := Tryd.sizeOf41
  v37 := Tryd.zeroValue41
  t46 := Tryd.underlying145
  a46 := Tryd.isAgg145
  z46 := Tryd.sizeOf145
  v46 := Tryd.zeroValue145
  t51 := Tryd.underlying119
  a51 := Tryd.isAgg119
  z51 := Tryd.sizeOf119
  v51 := Tryd.zeroValue119
  t53 := Tryd.underlying148
  a53 := Tryd.isAgg148
  z53 := Tryd.sizeOf148
  v53 := Tryd.zeroValue148
  t75 := Tryd.underlying110
  a75 := Tryd.isAgg110
  z75 := Tryd.sizeOf110
  v75 := Tryd.zeroValue110
  t76 := Tryd.underlying111
  a76 := Tryd.isAgg111
  z76 := Tryd.sizeOf111
  v76 := Tryd.zeroValue111
  t85 := Tryd.underlying166
  a85 := Tryd.isAgg166
  z85 := Tryd.sizeOf166
  v85 := Tryd.zeroValue166
  t127 := Tryd.underlying144
  a127 := Tryd.isAgg144
  z127 := Tryd.sizeOf144
  v127 := Tryd.zeroValue144
  t143 := Tryd.underlying194
  a143 := Tryd.isAgg194
  z143 := Tryd.sizeOf194
  v143 := Tryd.zeroValue194
  t145 := Tryd.underlying196
  a145 := Tryd.isAgg196
  z145 := Tryd.sizeOf196
  v145 := Tryd.zeroValue196
  t167 := Tryd.underlying182
  a167 := Tryd.isAgg182
  z167 := Tryd.sizeOf182
  v167 := Tryd.zeroValue182
  t168 := Tryd.underlying185
  a168 := Tryd.isAgg185
  z168 := Tryd.sizeOf185
  v168 := Tryd.zeroValue185
  t171 := Tryd.underlying160
  a171 := Tryd.isAgg160
  z171 := Tryd.sizeOf160
  v171 := Tryd.zeroValue160
  t173 := Tryd.underlying163
  a173 := Tryd.isAgg163
  z173 := Tryd.sizeOf163
  v173 := Tryd.zeroValue163
  t175 := Tryd.underlying183
  a175 := Tryd.isAgg183
  z175 := Tryd.sizeOf183
  v175 := Tryd.zeroValue183
  t210 := Tryd.underlying192
  a210 := Tryd.isAgg192
  z210 := Tryd.sizeOf192
  v210 := Tryd.zeroValue192
  t212 := Tryd.underlying176
  a212 := Tryd.isAgg176
  z212 := Tryd.sizeOf176
  v212 := Tryd.zeroValue176
  t213 := Tryd.underlying177
  a213 := Tryd.isAgg177
  z213 := Tryd.sizeOf177
  t232 := Tryd.underlying188
  a232 := Tryd.isAgg188
  z232 := Tryd.sizeOf188
  v232 := Tryd.zeroValue188
  t233 := Tryd.underlying189
  a233 := Tryd.isAgg189
  z233 := Tryd.sizeOf189
  v233 := Tryd.zeroValue189
  g15 := by kernel_rfl
  g16 := by kernel_rfl
  g17 := by kernel_rfl
  g18 := by kernel_rfl
  g19 := by kernel_rfl
  t80 := Tryd.underlying117
  a80 := Tryd.isAgg117
  z80 := Tryd.sizeOf117
  v80 := Tryd.zeroValue117
  i0 := by kernel_rfl
  i2 := by kernel_rfl
  i3 := by kernel_rfl
  i4 := by kernel_rfl
  i5 := by kernel_rfl
  i9 := by kernel_rfl
  i20 := by kernel_rfl
  i21 := by kernel_rfl
  i37 := by kernel_rfl
  i46 := by kernel_rfl
  i51 := by kernel_rfl
  i53 := by kernel_rfl
  i75 := by kernel_rfl
  i76 := by kernel_rfl
  i80 := by kernel_rfl
  i85 := by kernel_rfl
  i127 := by kernel_rfl
  i143 := by kernel_rfl
  i145 := by kernel_rfl
  i167 := by kernel_rfl
  i168 := by kernel_rfl
  i171 := by kernel_rfl
  i173 := by kernel_rfl
  i175 := by kernel_rfl
  i210 := by kernel_rfl
  i212 := by kernel_rfl
  i232 := by kernel_rfl
  i233 := by kernel_rfl
  m15 := by kernel_rfl
  m16 := by kernel_rfl
  m17 := by kernel_rfl
  m18 := by kernel_rfl
  m19 := by kernel_rfl
  c0 := by kernel_rfl
  c2 := by kernel_rfl
  c3 := by kernel_rfl
  c4 := by kernel_rfl
  c5 := by kernel_rfl
  c9 := by kernel_rfl
  c20 := by kernel_rfl
  c21 := by kernel_rfl
  c37 := by kernel_rfl
  c46 := by kernel_rfl
  c51 := by kernel_rfl
  c53 := by kernel_rfl
  c75 := by kernel_rfl
  c76 := by kernel_rfl
  c80 := by kernel_rfl
  c85 := by kernel_rfl
  c127 := by kernel_rfl
  c143 := by kernel_rfl
  c145 := by kernel_rfl
  c167 := by kernel_rfl
  c168 := by kernel_rfl
  c171 := by kernel_rfl
  c173 := by kernel_rfl
  c175 := by kernel_rfl
  c210 := by kernel_rfl
  c212 := by kernel_rfl
  c213 := by kernel_rfl
  c232 := by kernel_rfl
  c233 := by kernel_rfl }
open Go.RowKit in
theorem Tryd.strconv_Atoi_ok (s : ByteArray) (hmax : s.size ≤ 9223372036854775806) (v : Int) (h : Lib.atoiAll s.data.toList = .ok v) (w : World) :
    Calls Tryd.prog 155 #[.string s] w fun e w' => e = .returned (.tuple #[.int .i64 v, .nilIface]) ∧ (w' = w ∨ ∃ t, w' = Lib.bytesWorld w 5 t) := Any.strconv_Atoi_ok Tryd.laysC172 s hmax v h w
open Go.RowKit in
theorem Tryd.strconv_Atoi_range (s : ByteArray) (hlim : s.size ≤ 281474976710656) (h : Lib.atoiAll s.data.toList = .range) (ev : Value) (w : World) (hv : w.cell? ⟨7, 0, none⟩ = some ev) (hev : ev = .nilIface ∨ ∃ te pe, ev = .iface te pe) :
    Calls Tryd.prog 155 #[.string s] w fun e w' => ∃ N, e = .returned (.tuple #[.int .i64 (Lib.atoiSat s.data.toList), .iface 185 (.pointer (some ⟨N, 0, none⟩))]) ∧ w.heap.size ≤ N ∧ w'.heap[N]? = some (.cells #[.string ⟨#[65, 116, 111, 105]⟩, .string s, ev] 192 (0, 0)) ∧ Below w.heap.size w w' := Any.strconv_Atoi_range Tryd.laysC172 s hlim h ev w hv hev
open Go.RowKit in
theorem Tryd.strconv_Atoi_range_var (s : ByteArray) (hlim : s.size ≤ 281474976710656) (h : Lib.atoiAll s.data.toList = .range) (tp : TypeId) (p : Value) (w : World) (hvar : w.var? Tryd.prog "strconv.ErrRange" = some #[.iface tp p]) :
    Calls Tryd.prog 155 #[.string s] w fun e w' => ∃ N, e = .returned (.tuple #[.int .i64 (Lib.atoiSat s.data.toList), .iface 185 (.pointer (some ⟨N, 0, none⟩))]) ∧ w.heap.size ≤ N ∧ w'.heap[N]? = some (.cells #[.string ⟨#[65, 116, 111, 105]⟩, .string s, .iface tp p] 192 (0, 0)) ∧ Below w.heap.size w w' := Any.strconv_Atoi_range_var Tryd.laysC172 s hlim h tp p w hvar
open Go.RowKit in
theorem Tryd.internal_strconv_ParseUint_empty (base bits : Int) (w : World) :
    Calls Tryd.prog 171 #[.string ⟨#[]⟩, .int .i64 base, .int .i64 bits] w fun e w' => e = .returned (.tuple #[.int .u64 0, .iface 182 (.int .i64 2)]) ∧ w' = w := Any.internal_strconv_ParseUint_empty Tryd.lays287 base bits w
open Go.RowKit in
theorem Tryd.internal_strconv_ParseUint_10_b64 (t : ByteArray) (hne : t.size ≠ 0) (hmax : t.size ≤ 9223372036854775806) (w : World) :
    Calls Tryd.prog 171 #[.string t, .int .i64 10, .int .i64 64] w fun e w' => e = .returned (Lib.uintTuple 182 (Lib.parseUint10 0 t.data.toList)) ∧ w' = Lib.bytesWorld w 5 t := Any.internal_strconv_ParseUint_10_b64 Tryd.lays287 t hne hmax w
open Go.RowKit in
theorem Tryd.internal_strconv_ParseUint_10_b32 (t : ByteArray) (hne : t.size ≠ 0) (hmax : t.size ≤ 9223372036854775806) (w : World) :
    Calls Tryd.prog 171 #[.string t, .int .i64 10, .int .i64 32] w fun e w' => e = .returned (Lib.uintTupleM 182 4294967295 (Lib.parseUintM 4294967295 0 t.data.toList)) ∧ w' = Lib.bytesWorld w 5 t := Any.internal_strconv_ParseUint_10_b32 Tryd.lays287 t hne hmax w
open Go.RowKit in
theorem Tryd.internal_strconv_ParseUint_10_b16 (t : ByteArray) (hne : t.size ≠ 0) (hmax : t.size ≤ 9223372036854775806) (w : World) :
    Calls Tryd.prog 171 #[.string t, .int .i64 10, .int .i64 16] w fun e w' => e = .returned (Lib.uintTupleM 182 65535 (Lib.parseUintM 65535 0 t.data.toList)) ∧ w' = Lib.bytesWorld w 5 t := Any.internal_strconv_ParseUint_10_b16 Tryd.lays287 t hne hmax w
open Go.RowKit in
theorem Tryd.internal_strconv_ParseUint_10_b8 (t : ByteArray) (hne : t.size ≠ 0) (hmax : t.size ≤ 9223372036854775806) (w : World) :
    Calls Tryd.prog 171 #[.string t, .int .i64 10, .int .i64 8] w fun e w' => e = .returned (Lib.uintTupleM 182 255 (Lib.parseUintM 255 0 t.data.toList)) ∧ w' = Lib.bytesWorld w 5 t := Any.internal_strconv_ParseUint_10_b8 Tryd.lays287 t hne hmax w
open Go.RowKit in
theorem Tryd.internal_strconv_ParseUint_10_at0 (t : ByteArray) (hmax : t.size ≤ 9223372036854775806) (w : World) :
    Calls Tryd.prog 171 #[.string t, .int .i64 10, .int .i64 0] w fun e w' => e = .returned (Lib.uintTupleM 182 18446744073709551615 (Lib.parseUintB 64 t.data.toList)) ∧ (w' = w ∨ w' = Lib.bytesWorld w 5 t) := Any.internal_strconv_ParseUint_10_at0 Tryd.lays287 t hmax w
open Go.RowKit in
theorem Tryd.internal_strconv_ParseUint_10_at64 (t : ByteArray) (hmax : t.size ≤ 9223372036854775806) (w : World) :
    Calls Tryd.prog 171 #[.string t, .int .i64 10, .int .i64 64] w fun e w' => e = .returned (Lib.uintTupleM 182 18446744073709551615 (Lib.parseUintB 64 t.data.toList)) ∧ (w' = w ∨ w' = Lib.bytesWorld w 5 t) := Any.internal_strconv_ParseUint_10_at64 Tryd.lays287 t hmax w
open Go.RowKit in
theorem Tryd.internal_strconv_ParseUint_10_at32 (t : ByteArray) (hmax : t.size ≤ 9223372036854775806) (w : World) :
    Calls Tryd.prog 171 #[.string t, .int .i64 10, .int .i64 32] w fun e w' => e = .returned (Lib.uintTupleM 182 4294967295 (Lib.parseUintB 32 t.data.toList)) ∧ (w' = w ∨ w' = Lib.bytesWorld w 5 t) := Any.internal_strconv_ParseUint_10_at32 Tryd.lays287 t hmax w
open Go.RowKit in
theorem Tryd.internal_strconv_ParseUint_10_at16 (t : ByteArray) (hmax : t.size ≤ 9223372036854775806) (w : World) :
    Calls Tryd.prog 171 #[.string t, .int .i64 10, .int .i64 16] w fun e w' => e = .returned (Lib.uintTupleM 182 65535 (Lib.parseUintB 16 t.data.toList)) ∧ (w' = w ∨ w' = Lib.bytesWorld w 5 t) := Any.internal_strconv_ParseUint_10_at16 Tryd.lays287 t hmax w
open Go.RowKit in
theorem Tryd.internal_strconv_ParseUint_10_at8 (t : ByteArray) (hmax : t.size ≤ 9223372036854775806) (w : World) :
    Calls Tryd.prog 171 #[.string t, .int .i64 10, .int .i64 8] w fun e w' => e = .returned (Lib.uintTupleM 182 255 (Lib.parseUintB 8 t.data.toList)) ∧ (w' = w ∨ w' = Lib.bytesWorld w 5 t) := Any.internal_strconv_ParseUint_10_at8 Tryd.lays287 t hmax w
open Go.RowKit in
theorem Tryd.internal_strconv_ParseInt_10_at64 (s : ByteArray) (hne : s.size ≠ 0) (hmax : s.size ≤ 9223372036854775806) (w : World) :
    Calls Tryd.prog 166 #[.string s, .int .i64 10, .int .i64 64] w fun e w' => e = .returned (Lib.intTuple 182 (Lib.intSat 64 s.data.toList) (Lib.parseIntB 64 s.data.toList)) ∧ (w' = w ∨ ∃ t, w' = Lib.bytesWorld w 5 t) := Any.internal_strconv_ParseInt_10_at64 Tryd.laysC247 s hne hmax w
open Go.RowKit in
theorem Tryd.internal_strconv_ParseInt_10_at32 (s : ByteArray) (hne : s.size ≠ 0) (hmax : s.size ≤ 9223372036854775806) (w : World) :
    Calls Tryd.prog 166 #[.string s, .int .i64 10, .int .i64 32] w fun e w' => e = .returned (Lib.intTuple 182 (Lib.intSat 32 s.data.toList) (Lib.parseIntB 32 s.data.toList)) ∧ (w' = w ∨ ∃ t, w' = Lib.bytesWorld w 5 t) := Any.internal_strconv_ParseInt_10_at32 Tryd.laysC247 s hne hmax w
open Go.RowKit in
theorem Tryd.internal_strconv_ParseInt_10_at16 (s : ByteArray) (hne : s.size ≠ 0) (hmax : s.size ≤ 9223372036854775806) (w : World) :
    Calls Tryd.prog 166 #[.string s, .int .i64 10, .int .i64 16] w fun e w' => e = .returned (Lib.intTuple 182 (Lib.intSat 16 s.data.toList) (Lib.parseIntB 16 s.data.toList)) ∧ (w' = w ∨ ∃ t, w' = Lib.bytesWorld w 5 t) := Any.internal_strconv_ParseInt_10_at16 Tryd.laysC247 s hne hmax w
open Go.RowKit in
theorem Tryd.internal_strconv_ParseInt_10_at8 (s : ByteArray) (hne : s.size ≠ 0) (hmax : s.size ≤ 9223372036854775806) (w : World) :
    Calls Tryd.prog 166 #[.string s, .int .i64 10, .int .i64 8] w fun e w' => e = .returned (Lib.intTuple 182 (Lib.intSat 8 s.data.toList) (Lib.parseIntB 8 s.data.toList)) ∧ (w' = w ∨ ∃ t, w' = Lib.bytesWorld w 5 t) := Any.internal_strconv_ParseInt_10_at8 Tryd.laysC247 s hne hmax w
open Go.RowKit in
theorem Tryd.internal_strconv_ParseInt_10_all0 (s : ByteArray) (hmax : s.size ≤ 9223372036854775806) (w : World) :
    Calls Tryd.prog 166 #[.string s, .int .i64 10, .int .i64 0] w fun e w' => e = .returned (Lib.intTuple 182 (Lib.intSat 64 s.data.toList) (Lib.parseIntB 64 s.data.toList)) ∧ (w' = w ∨ ∃ t, w' = Lib.bytesWorld w 5 t) := Any.internal_strconv_ParseInt_10_all0 Tryd.laysC247 s hmax w
open Go.RowKit in
theorem Tryd.internal_strconv_ParseInt_10_all64 (s : ByteArray) (hmax : s.size ≤ 9223372036854775806) (w : World) :
    Calls Tryd.prog 166 #[.string s, .int .i64 10, .int .i64 64] w fun e w' => e = .returned (Lib.intTuple 182 (Lib.intSat 64 s.data.toList) (Lib.parseIntB 64 s.data.toList)) ∧ (w' = w ∨ ∃ t, w' = Lib.bytesWorld w 5 t) := Any.internal_strconv_ParseInt_10_all64 Tryd.laysC247 s hmax w
open Go.RowKit in
theorem Tryd.internal_strconv_ParseInt_10_all32 (s : ByteArray) (hmax : s.size ≤ 9223372036854775806) (w : World) :
    Calls Tryd.prog 166 #[.string s, .int .i64 10, .int .i64 32] w fun e w' => e = .returned (Lib.intTuple 182 (Lib.intSat 32 s.data.toList) (Lib.parseIntB 32 s.data.toList)) ∧ (w' = w ∨ ∃ t, w' = Lib.bytesWorld w 5 t) := Any.internal_strconv_ParseInt_10_all32 Tryd.laysC247 s hmax w
open Go.RowKit in
theorem Tryd.internal_strconv_ParseInt_10_all16 (s : ByteArray) (hmax : s.size ≤ 9223372036854775806) (w : World) :
    Calls Tryd.prog 166 #[.string s, .int .i64 10, .int .i64 16] w fun e w' => e = .returned (Lib.intTuple 182 (Lib.intSat 16 s.data.toList) (Lib.parseIntB 16 s.data.toList)) ∧ (w' = w ∨ ∃ t, w' = Lib.bytesWorld w 5 t) := Any.internal_strconv_ParseInt_10_all16 Tryd.laysC247 s hmax w
open Go.RowKit in
theorem Tryd.internal_strconv_ParseInt_10_all8 (s : ByteArray) (hmax : s.size ≤ 9223372036854775806) (w : World) :
    Calls Tryd.prog 166 #[.string s, .int .i64 10, .int .i64 8] w fun e w' => e = .returned (Lib.intTuple 182 (Lib.intSat 8 s.data.toList) (Lib.parseIntB 8 s.data.toList)) ∧ (w' = w ∨ ∃ t, w' = Lib.bytesWorld w 5 t) := Any.internal_strconv_ParseInt_10_all8 Tryd.laysC247 s hmax w
def Tryd.laysC174_ren : Go.Shelf.Ren := ⟨fun | 174 => 154 | 247 => 166 | 245 => 167 | 287 => 171 | 279 => 172 | 280 => 173 | 281 => 174 | 282 => 175 | 321 => 176 | 322 => 177 | 316 => 178 | 171 => 84 | 205 => 179 | 243 => 117 | 246 => 116 | 283 => 145 | 284 => 146 | 285 => 147 | 286 => 148 | 129 => 161 | 317 => 160 | 318 => 162 | 319 => 163 | 320 => 164 | 337 => 169 | 338 => 170 | n => n, fun | 9 => 9 | 3 => 3 | 2 => 2 | 75 => 110 | 85 => 166 | 4 => 4 | 167 => 182 | 5 => 5 | 53 => 148 | 175 => 183 | 46 => 145 | 168 => 185 | 37 => 41 | 0 => 0 | 210 => 192 | 21 => 21 | 127 => 144 | 145 => 196 | 143 => 194 | 171 => 160 | 173 => 163 | 212 => 176 | 51 => 119 | 20 => 20 | 213 => 177 | 232 => 188 | 233 => 189 | 80 => 117 | n => n, fun | 15 => 6 | 16 => 7 | 17 => 3 | 18 => 4 | 19 => 5 | n => n⟩
theorem Tryd.laysC174 : Go.Proofs.LaysC.n174 Tryd.prog Tryd.laysC174_ren := {
  mixed := by kernel_rfl
  f129 := Tryd.func161.trans (congrArg some (by kernel_rfl))
  f171 := Tryd.func84.trans (congrArg some (by kernel_rfl))
  f174 := Tryd.func154.trans (congrArg some (by kernel_rfl))
  f205 := Tryd.func179.trans (congrArg some (by kernel_rfl))
  f243 := Tryd.func117.trans (congrArg some (by kernel_rfl))
  f245 := Tryd.func167.trans (congrArg some (by kernel_rfl))
  f246 := Tryd.func116.trans (congrArg some (by kernel_rfl))
  f247 := Tryd.func166.trans (congrArg some (by kernel_rfl))
  f279 := Tryd.func172.trans (congrArg some (by kernel_rfl))
  f280 := Tryd.func173.trans (congrArg some (by kernel_rfl))
  f281 := Tryd.func174.trans (congrArg some (by kernel_rfl))
  f282 := Tryd.func175.trans (congrArg some (by kernel_rfl))
  f283 := Tryd.func145.trans (congrArg some (by kernel_rfl))
  f284 := Tryd.func146.trans (congrArg some (by kernel_rfl))
  f285 := Tryd.func147.trans (congrArg some (by kernel_rfl))
  f286 := Tryd.func148.trans (congrArg some (by kernel_rfl))
  f287 := Tryd.func171.trans (congrArg some (by kernel_rfl))
  f316 := Tryd.func178.trans (congrArg some (by kernel_rfl))
  f317 := Tryd.func160.trans (congrArg some (by kernel_rfl))
  f318 := Tryd.func162.trans (congrArg some (by kernel_rfl))
  f319 := Tryd.func163.trans (congrArg some (by kernel_rfl))
  f320 := Tryd.func164.trans (congrArg some (by kernel_rfl))
  f321 := Tryd.func176.trans (congrArg some (by kernel_rfl))
  f322 := Tryd.func177.trans (congrArg some (by kernel_rfl))
  f337 := Tryd.func169.trans (congrArg some (by kernel_rfl))
  f338 := Tryd.func170.trans (congrArg some (by kernel_rfl))
  t0 := Tryd.underlying0
  a0 := Tryd.isAgg0
  z0 := Tryd.sizeOf0
  v0 := Tryd.zeroValue0
  t2 := Tryd.underlying2
  a2 := Tryd.isAgg2
  z2 := Tryd.sizeOf2
  v2 := Tryd.zeroValue2
  t3 := Tryd.underlying3
  a3 := Tryd.isAgg3
  z3 := Tryd.sizeOf3
  v3 := Tryd.zeroValue3
  t4 := Tryd.underlying4
  a4 := Tryd.isAgg4
  z4 := Tryd.sizeOf4
  v4 := Tryd.zeroValue4
  t5 := Tryd.underlying5
  a5 := Tryd.isAgg5
  z5 := Tryd.sizeOf5
  v5 := Tryd.zeroValue5
  t9 := Tryd.underlying9
  a9 := Tryd.isAgg9
  z9 := Tryd.sizeOf9
  v9 := Tryd.zeroValue9
  t20 := Tryd.underlying20
  a20 := Tryd.isAgg20
  z20 := Tryd.sizeOf20
  v20 := Tryd.zeroValue20
  t21 := Tryd.underlying21
  a21 := Tryd.isAgg21
  z21 := Tryd.sizeOf21
  v21 := Tryd.zeroValue21
  t37 := Tryd.underlying41
  a37 := Tryd.isAgg41
  z37 := Tryd.sizeOf41
  v37 := Tryd.zeroValue41
  t46 := Tryd.underlying145
  a46 := Tryd.isAgg145
  z46 := Tryd.sizeOf145
  v46 := Tryd.zeroValue145
  t51 := Tryd.underlying119
  a51 := Tryd.isAgg119
  z51 := Tryd.sizeOf119
  v51 := Tryd.zeroValue119
  t53 := Tryd.underlying148
  a53 := Tryd.isAgg148
  z53 := Tryd.sizeOf148
  v53 := Tryd.zeroValue148
  t75 := Tryd.underlying110
  a75 := Tryd.isAgg110
  z75 := Tryd.sizeOf110
  v75 := Tryd.zeroValue110
  t85 := Tryd.underlying166
  a85 := Tryd.isAgg166
  z85 := Tryd.sizeOf166
  v85 := Tryd.zeroValue166
  t127 := Tryd.underlying144
  a127 := Tryd.isAgg144
  z127 := Tryd.sizeOf144
  v127 := Tryd.zeroValue144
  t143 := Tryd.underlying194
  a143 := Tryd.isAgg194
  z143 := Tryd.sizeOf194
  v143 := Tryd.zeroValue194
  t145 := Tryd.underlying196
  a145 := Tryd.isAgg196
  z145 := Tryd.sizeOf196
  v145 := Tryd.zeroValue196
  t167 := Tryd.underlying182
  a167 := Tryd.isAgg182
  z167 := Tryd.sizeOf182
  v167 := Tryd.zeroValue182
  t168 := Tryd.underlying185
  a168 := Tryd.isAgg185
  z168 := Tryd.sizeOf185
  v168 := Tryd.zeroValue185
  t171 := Tryd.underlying160
  a171 := Tryd.isAgg160
  z171 := Tryd.sizeOf160
  v171 := Tryd.zeroValue160
  t173 := Tryd.underlying163
  a173 := Tryd.isAgg163
  z173 := Tryd.sizeOf163
  v173 := Tryd.zeroValue163
  t175 := Tryd.underlying183
  a175 := Tryd.isAgg183
  z175 := Tryd.sizeOf183
  v175 := Tryd.zeroValue183
  t210 := Tryd.underlying192
  a210 := Tryd.isAgg192
  z210 := Tryd.sizeOf192
  v210 := Tryd.zeroValue192
  t212 := Tryd.underlying176
  a212 := Tryd.isAgg176
  z212 := Tryd.sizeOf176
  v212 := Tryd.zeroValue176
  t213 := Tryd.underlying177
  a213 := Tryd.isAgg177
  z213 := Tryd.sizeOf177
  t232 := Tryd.underlying188
  a232 := Tryd.isAgg188
  z232 := Tryd.sizeOf188
  v232 := Tryd.zeroValue188
  t233 := Tryd.underlying189
  a233 := Tryd.isAgg189
  z233 := Tryd.sizeOf189
  v233 := Tryd.zeroValue189
  g15 := by kernel_rfl
  g16 := by kernel_rfl
  g17 := by kernel_rfl
  g18 := by kernel_rfl
  g19 := by kernel_rfl
  t80 := Tryd.underlying117
  a80 := Tryd.isAgg117
  z80 := Tryd.sizeOf117
  v80 := Tryd.zeroValue117
  i0 := by kernel_rfl
  i2 := by kernel_rfl
  i3 := by kernel_rfl
  i4 := by kernel_rfl
  i5 := by kernel_rfl
  i9 := by kernel_rfl
  i20 := by kernel_rfl
  i21 := by kernel_rfl
  i37 := by kernel_rfl
  i46 := by kernel_rfl
  i51 := by kernel_rfl
  i53 := by kernel_rfl
  i75 := by kernel_rfl
  i80 := by kernel_rfl
  i85 := by kernel_rfl
  i127 := by kernel_rfl
  i143 := by kernel_rfl
  i145 := by kernel_rfl
  i167 := by kernel_rfl
  i168 := by kernel_rfl
  i171 := by kernel_rfl
  i173 := by kernel_rfl
  i175 := by kernel_rfl
  i210 := by kernel_rfl
  i212 := by kernel_rfl
  i232 := by kernel_rfl
  i233 := by kernel_rfl
  m15 := by kernel_rfl
  m16 := by kernel_rfl
  m17 := by kernel_rfl
  m18 := by kernel_rfl
  m19 := by kernel_rfl
  c0 := by kernel_rfl
  c2 := by kernel_rfl
  c3 := by kernel_rfl
  c4 := by kernel_rfl
  c5 := by kernel_rfl
  c9 := by kernel_rfl
  c20 := by kernel_rfl
  c21 := by kernel_rfl
  c37 := by kernel_rfl
  c46 := by kernel_rfl
  c51 := by kernel_rfl
  c53 := by kernel_rfl
  c75 := by kernel_rfl
  c80 := by kernel_rfl
  c85 := by kernel_rfl
  c127 := by kernel_rfl
  c143 := by kernel_rfl
  c145 := by kernel_rfl
  c167 := by kernel_rfl
  c168 := by kernel_rfl
  c171 := by kernel_rfl
  c173 := by kernel_rfl
  c175 := by kernel_rfl
  c210 := by kernel_rfl
  c212 := by kernel_rfl
  c213 := by kernel_rfl
  c232 := by kernel_rfl
  c233 := by kernel_rfl }
open Go.RowKit in
theorem Tryd.strconv_ParseInt_10_at0_ok (s : ByteArray) (hmax : s.size ≤ 9223372036854775806) (v : Int) (h : Lib.parseIntB 64 s.data.toList = .ok v) (w : World) :
    Calls Tryd.prog 154 #[.string s, .int .i64 10, .int .i64 0] w fun e w' => e = .returned (.tuple #[.int .i64 v, .nilIface]) ∧ (w' = w ∨ ∃ t, w' = Lib.bytesWorld w 5 t) := Any.strconv_ParseInt_10_at0_ok Tryd.laysC174 s hmax v h w
open Go.RowKit in
theorem Tryd.strconv_ParseInt_10_at0_range (s : ByteArray) (hlim : s.size ≤ 281474976710656) (h : Lib.parseIntB 64 s.data.toList = .range) (ev : Value) (w : World) (hv : w.cell? ⟨7, 0, none⟩ = some ev) (hev : ev = .nilIface ∨ ∃ te pe, ev = .iface te pe) :
    Calls Tryd.prog 154 #[.string s, .int .i64 10, .int .i64 0] w fun e w' => ∃ N, e = .returned (.tuple #[.int .i64 (Lib.intSat 64 s.data.toList), .iface 185 (.pointer (some ⟨N, 0, none⟩))]) ∧ w.heap.size ≤ N ∧ w'.heap[N]? = some (.cells #[.string ⟨#[80, 97, 114, 115, 101, 73, 110, 116]⟩, .string s, ev] 192 (0, 0)) ∧ Below w.heap.size w w' := Any.strconv_ParseInt_10_at0_range Tryd.laysC174 s hlim h ev w hv hev
open Go.RowKit in
theorem Tryd.strconv_ParseInt_10_at64_ok (s : ByteArray) (hmax : s.size ≤ 9223372036854775806) (v : Int) (h : Lib.parseIntB 64 s.data.toList = .ok v) (w : World) :
    Calls Tryd.prog 154 #[.string s, .int .i64 10, .int .i64 64] w fun e w' => e = .returned (.tuple #[.int .i64 v, .nilIface]) ∧ (w' = w ∨ ∃ t, w' = Lib.bytesWorld w 5 t) := Any.strconv_ParseInt_10_at64_ok Tryd.laysC174 s hmax v h w
open Go.RowKit in
theorem Tryd.strconv_ParseInt_10_at64_range (s : ByteArray) (hlim : s.size ≤ 281474976710656) (h : Lib.parseIntB 64 s.data.toList = .range) (ev : Value) (w : World) (hv : w.cell? ⟨7, 0, none⟩ = some ev) (hev : ev = .nilIface ∨ ∃ te pe, ev = .iface te pe) :
    Calls Tryd.prog 154 #[.string s, .int .i64 10, .int .i64 64] w fun e w' => ∃ N, e = .returned (.tuple #[.int .i64 (Lib.intSat 64 s.data.toList), .iface 185 (.pointer (some ⟨N, 0, none⟩))]) ∧ w.heap.size ≤ N ∧ w'.heap[N]? = some (.cells #[.string ⟨#[80, 97, 114, 115, 101, 73, 110, 116]⟩, .string s, ev] 192 (0, 0)) ∧ Below w.heap.size w w' := Any.strconv_ParseInt_10_at64_range Tryd.laysC174 s hlim h ev w hv hev
open Go.RowKit in
theorem Tryd.strconv_ParseInt_10_at32_ok (s : ByteArray) (hmax : s.size ≤ 9223372036854775806) (v : Int) (h : Lib.parseIntB 32 s.data.toList = .ok v) (w : World) :
    Calls Tryd.prog 154 #[.string s, .int .i64 10, .int .i64 32] w fun e w' => e = .returned (.tuple #[.int .i64 v, .nilIface]) ∧ (w' = w ∨ ∃ t, w' = Lib.bytesWorld w 5 t) := Any.strconv_ParseInt_10_at32_ok Tryd.laysC174 s hmax v h w
open Go.RowKit in
theorem Tryd.strconv_ParseInt_10_at32_range (s : ByteArray) (hlim : s.size ≤ 281474976710656) (h : Lib.parseIntB 32 s.data.toList = .range) (ev : Value) (w : World) (hv : w.cell? ⟨7, 0, none⟩ = some ev) (hev : ev = .nilIface ∨ ∃ te pe, ev = .iface te pe) :
    Calls Tryd.prog 154 #[.string s, .int .i64 10, .int .i64 32] w fun e w' => ∃ N, e = .returned (.tuple #[.int .i64 (Lib.intSat 32 s.data.toList), .iface 185 (.pointer (some ⟨N, 0, none⟩))]) ∧ w.heap.size ≤ N ∧ w'.heap[N]? = some (.cells #[.string ⟨#[80, 97, 114, 115, 101, 73, 110, 116]⟩, .string s, ev] 192 (0, 0)) ∧ Below w.heap.size w w' := Any.strconv_ParseInt_10_at32_range Tryd.laysC174 s hlim h ev w hv hev
open Go.RowKit in
theorem Tryd.strconv_ParseInt_10_at16_ok (s : ByteArray) (hmax : s.size ≤ 9223372036854775806) (v : Int) (h : Lib.parseIntB 16 s.data.toList = .ok v) (w : World) :
    Calls Tryd.prog 154 #[.string s, .int .i64 10, .int .i64 16] w fun e w' => e = .returned (.tuple #[.int .i64 v, .nilIface]) ∧ (w' = w ∨ ∃ t, w' = Lib.bytesWorld w 5 t) := Any.strconv_ParseInt_10_at16_ok Tryd.laysC174 s hmax v h w
open Go.RowKit in
theorem Tryd.strconv_ParseInt_10_at16_range (s : ByteArray) (hlim : s.size ≤ 281474976710656) (h : Lib.parseIntB 16 s.data.toList = .range) (ev : Value) (w : World) (hv : w.cell? ⟨7, 0, none⟩ = some ev) (hev : ev = .nilIface ∨ ∃ te pe, ev = .iface te pe) :
    Calls Tryd.prog 154 #[.string s, .int .i64 10, .int .i64 16] w fun e w' => ∃ N, e = .returned (.tuple #[.int .i64 (Lib.intSat 16 s.data.toList), .iface 185 (.pointer (some ⟨N, 0, none⟩))]) ∧ w.heap.size ≤ N ∧ w'.heap[N]? = some (.cells #[.string ⟨#[80, 97, 114, 115, 101, 73, 110, 116]⟩, .string s, ev] 192 (0, 0)) ∧ Below w.heap.size w w' := Any.strconv_ParseInt_10_at16_range Tryd.laysC174 s hlim h ev w hv hev
open Go.RowKit in
theorem Tryd.strconv_ParseInt_10_at8_ok (s : ByteArray) (hmax : s.size ≤ 9223372036854775806) (v : Int) (h : Lib.parseIntB 8 s.data.toList = .ok v) (w : World) :
    Calls Tryd.prog 154 #[.string s, .int .i64 10, .int .i64 8] w fun e w' => e = .returned (.tuple #[.int .i64 v, .nilIface]) ∧ (w' = w ∨ ∃ t, w' = Lib.bytesWorld w 5 t) := Any.strconv_ParseInt_10_at8_ok Tryd.laysC174 s hmax v h w
open Go.RowKit in
theorem Tryd.strconv_ParseInt_10_at8_range (s : ByteArray) (hlim : s.size ≤ 281474976710656) (h : Lib.parseIntB 8 s.data.toList = .range) (ev : Value) (w : World) (hv : w.cell? ⟨7, 0, none⟩ = some ev) (hev : ev = .nilIface ∨ ∃ te pe, ev = .iface te pe) :
    Calls Tryd.prog 154 #[.string s, .int .i64 10, .int .i64 8] w fun e w' => ∃ N, e = .returned (.tuple #[.int .i64 (Lib.intSat 8 s.data.toList), .iface 185 (.pointer (some ⟨N, 0, none⟩))]) ∧ w.heap.size ≤ N ∧ w'.heap[N]? = some (.cells #[.string ⟨#[80, 97, 114, 115, 101, 73, 110, 116]⟩, .string s, ev] 192 (0, 0)) ∧ Below w.heap.size w w' := Any.strconv_ParseInt_10_at8_range Tryd.laysC174 s hlim h ev w hv hev
open Go.RowKit in
theorem Tryd.strconv_ParseInt_10_at0_range_var (s : ByteArray) (hlim : s.size ≤ 281474976710656) (h : Lib.parseIntB 64 s.data.toList = .range) (tp : TypeId) (p : Value) (w : World) (hvar : w.var? Tryd.prog "strconv.ErrRange" = some #[.iface tp p]) :
    Calls Tryd.prog 154 #[.string s, .int .i64 10, .int .i64 0] w fun e w' => ∃ N, e = .returned (.tuple #[.int .i64 (Lib.intSat 64 s.data.toList), .iface 185 (.pointer (some ⟨N, 0, none⟩))]) ∧ w.heap.size ≤ N ∧ w'.heap[N]? = some (.cells #[.string ⟨#[80, 97, 114, 115, 101, 73, 110, 116]⟩, .string s, .iface tp p] 192 (0, 0)) ∧ Below w.heap.size w w' := Any.strconv_ParseInt_10_at0_range_var Tryd.laysC174 s hlim h tp p w hvar
open Go.RowKit in
theorem Tryd.strconv_ParseInt_10_at64_range_var (s : ByteArray) (hlim : s.size ≤ 281474976710656) (h : Lib.parseIntB 64 s.data.toList = .range) (tp : TypeId) (p : Value) (w : World) (hvar : w.var? Tryd.prog "strconv.ErrRange" = some #[.iface tp p]) :
    Calls Tryd.prog 154 #[.string s, .int .i64 10, .int .i64 64] w fun e w' => ∃ N, e = .returned (.tuple #[.int .i64 (Lib.intSat 64 s.data.toList), .iface 185 (.pointer (some ⟨N, 0, none⟩))]) ∧ w.heap.size ≤ N ∧ w'.heap[N]? = some (.cells #[.string ⟨#[80, 97, 114, 115, 101, 73, 110, 116]⟩, .string s, .iface tp p] 192 (0, 0)) ∧ Below w.heap.size w w' := Any.strconv_ParseInt_10_at64_range_var Tryd.laysC174 s hlim h tp p w hvar
open Go.RowKit in
theorem Tryd.strconv_ParseInt_10_at32_range_var (s : ByteArray) (hlim : s.size ≤ 281474976710656) (h : Lib.parseIntB 32 s.data.toList = .range) (tp : TypeId) (p : Value) (w : World) (hvar : w.var? Tryd.prog "strconv.ErrRange" = some #[.iface tp p]) :
    Calls Tryd.prog 154 #[.string s, .int .i64 10, .int .i64 32] w fun e w' => ∃ N, e = .returned (.tuple #[.int .i64 (Lib.intSat 32 s.data.toList), .iface 185 (.pointer (some ⟨N, 0, none⟩))]) ∧ w.heap.size ≤ N ∧ w'.heap[N]? = some (.cells #[.string ⟨#[80, 97, 114, 115, 101, 73, 110, 116]⟩, .string s, .iface tp p] 192 (0, 0)) ∧ Below w.heap.size w w' := Any.strconv_ParseInt_10_at32_range_var Tryd.laysC174 s hlim h tp p w hvar
open Go.RowKit in
theorem Tryd.strconv_ParseInt_10_at16_range_var (s : ByteArray) (hlim : s.size ≤ 281474976710656) (h : Lib.parseIntB 16 s.data.toList = .range) (tp : TypeId) (p : Value) (w : World) (hvar : w.var? Tryd.prog "strconv.ErrRange" = some #[.iface tp p]) :
    Calls Tryd.prog 154 #[.string s, .int .i64 10, .int .i64 16] w fun e w' => ∃ N, e = .returned (.tuple #[.int .i64 (Lib.intSat 16 s.data.toList), .iface 185 (.pointer (some ⟨N, 0, none⟩))]) ∧ w.heap.size ≤ N ∧ w'.heap[N]? = some (.cells #[.string ⟨#[80, 97, 114, 115, 101, 73, 110, 116]⟩, .string s, .iface tp p] 192 (0, 0)) ∧ Below w.heap.size w w' := Any.strconv_ParseInt_10_at16_range_var Tryd.laysC174 s hlim h tp p w hvar
open Go.RowKit in
theorem Tryd.strconv_ParseInt_10_at8_range_var (s : ByteArray) (hlim : s.size ≤ 281474976710656) (h : Lib.parseIntB 8 s.data.toList = .range) (tp : TypeId) (p : Value) (w : World) (hvar : w.var? Tryd.prog "strconv.ErrRange" = some #[.iface tp p]) :
    Calls Tryd.prog 154 #[.string s, .int .i64 10, .int .i64 8] w fun e w' => ∃ N, e = .returned (.tuple #[.int .i64 (Lib.intSat 8 s.data.toList), .iface 185 (.pointer (some ⟨N, 0, none⟩))]) ∧ w.heap.size ≤ N ∧ w'.heap[N]? = some (.cells #[.string ⟨#[80, 97, 114, 115, 101, 73, 110, 116]⟩, .string s, .iface tp p] 192 (0, 0)) ∧ Below w.heap.size w w' := Any.strconv_ParseInt_10_at8_range_var Tryd.laysC174 s hlim h tp p w hvar
def Tryd.lays217_ren : Go.Shelf.Ren := ⟨fun | 217 => 140 | 266 => 158 | n => n, fun | 9 => 9 | 5 => 5 | 3 => 3 | n => n, fun | n => n⟩
theorem Tryd.lays217 : Go.Proofs.Lays.n217 Tryd.prog Tryd.lays217_ren := {
  mixed := by kernel_rfl
  f217 := Tryd.func140.trans (congrArg some (by kernel_rfl))
  f266 := Tryd.func158.trans (congrArg some (by kernel_rfl))
  t3 := Tryd.underlying3
  a3 := Tryd.isAgg3
  z3 := Tryd.sizeOf3
  v3 := Tryd.zeroValue3
  t5 := Tryd.underlying5
  a5 := Tryd.isAgg5
  z5 := Tryd.sizeOf5
  v5 := Tryd.zeroValue5
  t9 := Tryd.underlying9
  a9 := Tryd.isAgg9
  z9 := Tryd.sizeOf9
  v9 := Tryd.zeroValue9 }
open Go.RowKit Go.Lib in
theorem Tryd.stringslite_IndexByte (s : ByteArray) (c : Int) (w : World) :
    Calls Tryd.prog 140 #[.string s, .int .u8 c] w fun e w' => e = .returned (.int .i64 (Lib.indexByte s.data.toList c.toNat.toUInt8)) ∧ w' = w := Any.stringslite_IndexByte Tryd.lays217 s c w
def Tryd.lays224_ren : Go.Shelf.Ren := ⟨fun | 224 => 142 | n => n, fun | 3 => 3 | n => n, fun | n => n⟩
theorem Tryd.lays224 : Go.Proofs.Lays.n224 Tryd.prog Tryd.lays224_ren := {
  mixed := by kernel_rfl
  f224 := Tryd.func142.trans (congrArg some (by kernel_rfl))
  t3 := Tryd.underlying3
  a3 := Tryd.isAgg3
  z3 := Tryd.sizeOf3
  v3 := Tryd.zeroValue3 }
open Go.RowKit Go.Lib in
theorem Tryd.bytealg_Cutover (n : Int) (h0 : 0 ≤ n) (h1 : n < 4611686018427387904) (w : World) :
    Calls Tryd.prog 142 #[.int .i64 n] w fun e w' => e = .returned (.int .i64 ((n + 16) / 8)) ∧ w' = w := Any.bytealg_Cutover Tryd.lays224 n h0 h1 w
def Tryd.lays314_ren : Go.Shelf.Ren := ⟨fun | 314 => 159 | n => n, fun | 9 => 9 | 51 => 119 | 3 => 3 | 4 => 4 | 5 => 5 | 46 => 145 | n => n, fun | n => n⟩
theorem Tryd.lays314 : Go.Proofs.Lays.n314 Tryd.prog Tryd.lays314_ren := {
  mixed := by kernel_rfl
  f314 := Tryd.func159.trans (congrArg some (by kernel_rfl))
  t3 := Tryd.underlying3
  a3 := Tryd.isAgg3
  z3 := Tryd.sizeOf3
  v3 := Tryd.zeroValue3
  t4 := Tryd.underlying4
  a4 := Tryd.isAgg4
  z4 := Tryd.sizeOf4
  v4 := Tryd.zeroValue4
  t5 := Tryd.underlying5
  a5 := Tryd.isAgg5
  z5 := Tryd.sizeOf5
  v5 := Tryd.zeroValue5
  t9 := Tryd.underlying9
  a9 := Tryd.isAgg9
  z9 := Tryd.sizeOf9
  v9 := Tryd.zeroValue9
  t46 := Tryd.underlying145
  a46 := Tryd.isAgg145
  z46 := Tryd.sizeOf145
  v46 := Tryd.zeroValue145
  t51 := Tryd.underlying119
  a51 := Tryd.isAgg119
  z51 := Tryd.sizeOf119
  v51 := Tryd.zeroValue119 }
open Go.RowKit Go.Lib in
theorem Tryd.bytealg_hashStr (sep : ByteArray) (hs : sep.size < 4294967281) (w : World) :
    Calls Tryd.prog 159 #[.string sep] w fun e w' => e = .returned (.tuple #[.int .u32 (RK.H sep.data.toList % 4294967296), .int .u32 (16777619 ^ sep.size % 4294967296)]) ∧ w' = w := Any.bytealg_hashStr Tryd.lays314 sep hs w
def Tryd.lays267_ren : Go.Shelf.Ren := ⟨fun | 267 => 143 | 314 => 159 | n => n, fun | 9 => 9 | 3 => 3 | 146 => 173 | 51 => 119 | 4 => 4 | 5 => 5 | 46 => 145 | n => n, fun | n => n⟩
theorem Tryd.lays267 : Go.Proofs.Lays.n267 Tryd.prog Tryd.lays267_ren := {
  mixed := by kernel_rfl
  f267 := Tryd.func143.trans (congrArg some (by kernel_rfl))
  f314 := Tryd.func159.trans (congrArg some (by kernel_rfl))
  t3 := Tryd.underlying3
  a3 := Tryd.isAgg3
  z3 := Tryd.sizeOf3
  v3 := Tryd.zeroValue3
  t4 := Tryd.underlying4
  a4 := Tryd.isAgg4
  z4 := Tryd.sizeOf4
  v4 := Tryd.zeroValue4
  t5 := Tryd.underlying5
  a5 := Tryd.isAgg5
  z5 := Tryd.sizeOf5
  v5 := Tryd.zeroValue5
  t9 := Tryd.underlying9
  a9 := Tryd.isAgg9
  z9 := Tryd.sizeOf9
  v9 := Tryd.zeroValue9
  t46 := Tryd.underlying145
  a46 := Tryd.isAgg145
  z46 := Tryd.sizeOf145
  v46 := Tryd.zeroValue145
  t51 := Tryd.underlying119
  a51 := Tryd.isAgg119
  z51 := Tryd.sizeOf119
  v51 := Tryd.zeroValue119
  t146 := Tryd.underlying173
  a146 := Tryd.isAgg173
  z146 := Tryd.sizeOf173
  v146 := Tryd.zeroValue173 }
open Go.RowKit Go.Lib in
theorem Tryd.bytealg_IndexRabinKarp (s sep : ByteArray) (h1 : 1 ≤ sep.size) (h2 : sep.size ≤ s.size) (hs : s.size < 4294967281) (w : World) :
    Calls Tryd.prog 143 #[.string s, .string sep] w fun e w' => e = .returned (.int .i64 (Lib.index s.data.toList sep.data.toList)) ∧ w' = w := Any.bytealg_IndexRabinKarp Tryd.lays267 s sep h1 h2 hs w
def Tryd.lays219_ren : Go.Shelf.Ren := ⟨fun | 219 => 111 | 217 => 140 | 225 => 141 | 224 => 142 | 267 => 143 | 266 => 158 | 314 => 159 | n => n, fun | 9 => 9 | 3 => 3 | 4 => 4 | 5 => 5 | 46 => 145 | 146 => 173 | 51 => 119 | n => n, fun | 1 => 0 | n => n⟩
theorem Tryd.lays219 : Go.Proofs.Lays.n219 Tryd.prog Tryd.lays219_ren := {
  mixed := by kernel_rfl
  f217 := Tryd.func140.trans (congrArg some (by kernel_rfl))
  f219 := Tryd.func111.trans (congrArg some (by kernel_rfl))
  f224 := Tryd.func142.trans (congrArg some (by kernel_rfl))
  f225 := Tryd.func141.trans (congrArg some (by kernel_rfl))
  f266 := Tryd.func158.trans (congrArg some (by kernel_rfl))
  f267 := Tryd.func143.trans (congrArg some (by kernel_rfl))
  f314 := Tryd.func159.trans (congrArg some (by kernel_rfl))
  t3 := Tryd.underlying3
  a3 := Tryd.isAgg3
  z3 := Tryd.sizeOf3
  v3 := Tryd.zeroValue3
  t4 := Tryd.underlying4
  a4 := Tryd.isAgg4
  z4 := Tryd.sizeOf4
  v4 := Tryd.zeroValue4
  t5 := Tryd.underlying5
  a5 := Tryd.isAgg5
  z5 := Tryd.sizeOf5
  v5 := Tryd.zeroValue5
  t9 := Tryd.underlying9
  a9 := Tryd.isAgg9
  z9 := Tryd.sizeOf9
  v9 := Tryd.zeroValue9
  t46 := Tryd.underlying145
  a46 := Tryd.isAgg145
  z46 := Tryd.sizeOf145
  v46 := Tryd.zeroValue145
  t51 := Tryd.underlying119
  a51 := Tryd.isAgg119
  z51 := Tryd.sizeOf119
  v51 := Tryd.zeroValue119
  t146 := Tryd.underlying173
  a146 := Tryd.isAgg173
  z146 := Tryd.sizeOf173
  v146 := Tryd.zeroValue173
  g1 := by kernel_rfl }
open Go.RowKit Go.Lib in
theorem Tryd.stringslite_Index_one (s : ByteArray) (c : UInt8) (w : World) :
    Calls Tryd.prog 111 #[.string s, .string ⟨#[c]⟩] w fun e w' => e = .returned (.int .i64 (Lib.indexByte s.data.toList c)) ∧ w' = w := Any.stringslite_Index_one Tryd.lays219 s c w
open Go.RowKit Go.Lib in
theorem Tryd.stringslite_Index (s sub : ByteArray) (m : Int) (w : World) (hs : s.size < 4294967281) (hm : w.cell? ⟨0, 0, none⟩ = some (.int .i64 m)) :
    Calls Tryd.prog 111 #[.string s, .string sub] w fun e w' => e = .returned (.int .i64 (Lib.index s.data.toList sub.data.toList)) ∧ w' = w := Any.stringslite_Index Tryd.lays219 s sub m w hs hm
def Tryd.lays143_ren : Go.Shelf.Ren := ⟨fun | 143 => 106 | 219 => 111 | 217 => 140 | 225 => 141 | 224 => 142 | 267 => 143 | 266 => 158 | 314 => 159 | n => n, fun | 9 => 9 | 3 => 3 | 4 => 4 | 5 => 5 | 46 => 145 | 146 => 173 | 51 => 119 | n => n, fun | 1 => 0 | n => n⟩
theorem Tryd.lays143 : Go.Proofs.Lays.n143 Tryd.prog Tryd.lays143_ren := {
  mixed := by kernel_rfl
  f143 := Tryd.func106.trans (congrArg some (by kernel_rfl))
  f217 := Tryd.func140.trans (congrArg some (by kernel_rfl))
  f219 := Tryd.func111.trans (congrArg some (by kernel_rfl))
  f224 := Tryd.func142.trans (congrArg some (by kernel_rfl))
  f225 := Tryd.func141.trans (congrArg some (by kernel_rfl))
  f266 := Tryd.func158.trans (congrArg some (by kernel_rfl))
  f267 := Tryd.func143.trans (congrArg some (by kernel_rfl))
  f314 := Tryd.func159.trans (congrArg some (by kernel_rfl))
  t3 := Tryd.underlying3
  a3 := Tryd.isAgg3
  z3 := Tryd.sizeOf3
  v3 := Tryd.zeroValue3
  t4 := Tryd.underlying4
  a4 := Tryd.isAgg4
  z4 := Tryd.sizeOf4
  v4 := Tryd.zeroValue4
  t5 := Tryd.underlying5
  a5 := Tryd.isAgg5
  z5 := Tryd.sizeOf5
  v5 := Tryd.zeroValue5
  t9 := Tryd.underlying9
  a9 := Tryd.isAgg9
  z9 := Tryd.sizeOf9
  v9 := Tryd.zeroValue9
  t46 := Tryd.underlying145
  a46 := Tryd.isAgg145
  z46 := Tryd.sizeOf145
  v46 := Tryd.zeroValue145
  t51 := Tryd.underlying119
  a51 := Tryd.isAgg119
  z51 := Tryd.sizeOf119
  v51 := Tryd.zeroValue119
  t146 := Tryd.underlying173
  a146 := Tryd.isAgg173
  z146 := Tryd.sizeOf173
  v146 := Tryd.zeroValue173
  g1 := by kernel_rfl }
open Go.RowKit Go.Lib in
theorem Tryd.strings_Index_one (s : ByteArray) (c : UInt8) (w : World) :
    Calls Tryd.prog 106 #[.string s, .string ⟨#[c]⟩] w fun e w' => e = .returned (.int .i64 (Lib.indexByte s.data.toList c)) ∧ w' = w := Any.strings_Index_one Tryd.lays143 s c w
open Go.RowKit Go.Lib in
theorem Tryd.strings_Index (s sub : ByteArray) (m : Int) (w : World) (hs : s.size < 4294967281) (hm : w.cell? ⟨0, 0, none⟩ = some (.int .i64 m)) :
    Calls Tryd.prog 106 #[.string s, .string sub] w fun e w' => e = .returned (.int .i64 (Lib.index s.data.toList sub.data.toList)) ∧ w' = w := Any.strings_Index Tryd.lays143 s sub m w hs hm
def Tryd.lays220_ren : Go.Shelf.Ren := ⟨fun | 220 => 74 | 219 => 111 | 217 => 140 | 225 => 141 | 224 => 142 | 267 => 143 | 266 => 158 | 314 => 159 | n => n, fun | 9 => 9 | 4 => 4 | 3 => 3 | 5 => 5 | 46 => 145 | 146 => 173 | 51 => 119 | n => n, fun | 1 => 0 | n => n⟩
theorem Tryd.lays220 : Go.Proofs.Lays.n220 Tryd.prog Tryd.lays220_ren := {
  mixed := by kernel_rfl
  f217 := Tryd.func140.trans (congrArg some (by kernel_rfl))
  f219 := Tryd.func111.trans (congrArg some (by kernel_rfl))
  f220 := Tryd.func74.trans (congrArg some (by kernel_rfl))
  f224 := Tryd.func142.trans (congrArg some (by kernel_rfl))
  f225 := Tryd.func141.trans (congrArg some (by kernel_rfl))
  f266 := Tryd.func158.trans (congrArg some (by kernel_rfl))
  f267 := Tryd.func143.trans (congrArg some (by kernel_rfl))
  f314 := Tryd.func159.trans (congrArg some (by kernel_rfl))
  t3 := Tryd.underlying3
  a3 := Tryd.isAgg3
  z3 := Tryd.sizeOf3
  v3 := Tryd.zeroValue3
  t4 := Tryd.underlying4
  a4 := Tryd.isAgg4
  z4 := Tryd.sizeOf4
  v4 := Tryd.zeroValue4
  t5 := Tryd.underlying5
  a5 := Tryd.isAgg5
  z5 := Tryd.sizeOf5
  v5 := Tryd.zeroValue5
  t9 := Tryd.underlying9
  a9 := Tryd.isAgg9
  z9 := Tryd.sizeOf9
  v9 := Tryd.zeroValue9
  t46 := Tryd.underlying145
  a46 := Tryd.isAgg145
  z46 := Tryd.sizeOf145
  v46 := Tryd.zeroValue145
  t51 := Tryd.underlying119
  a51 := Tryd.isAgg119
  z51 := Tryd.sizeOf119
  v51 := Tryd.zeroValue119
  t146 := Tryd.underlying173
  a146 := Tryd.isAgg173
  z146 := Tryd.sizeOf173
  v146 := Tryd.zeroValue173
  g1 := by kernel_rfl }
open Go.RowKit Go.Lib in
theorem Tryd.stringslite_Cut (s sep : ByteArray) (m : Int) (w : World) (hs : s.size < 4294967281) (hm : w.cell? ⟨0, 0, none⟩ = some (.int .i64 m)) :
    Calls Tryd.prog 74 #[.string s, .string sep] w fun e w' => e = .returned (.tuple #[.string ⟨(Lib.cut s.data.toList sep.data.toList).1.toArray⟩, .string ⟨(Lib.cut s.data.toList sep.data.toList).2.1.toArray⟩, .bool (Lib.cut s.data.toList sep.data.toList).2.2]) ∧ ∃ n, w' = w.drewN n := Any.stringslite_Cut Tryd.lays220 s sep m w hs hm
def Tryd.lays145_ren : Go.Shelf.Ren := ⟨fun | 145 => 35 | 220 => 74 | 219 => 111 | 217 => 140 | 225 => 141 | 224 => 142 | 267 => 143 | 266 => 158 | 314 => 159 | n => n, fun | 9 => 9 | 4 => 4 | 59 => 58 | 3 => 3 | 5 => 5 | 46 => 145 | 146 => 173 | 51 => 119 | n => n, fun | 1 => 0 | n => n⟩
theorem Tryd.lays145 : Go.Proofs.Lays.n145 Tryd.prog Tryd.lays145_ren := {
  mixed := by kernel_rfl
  f145 := Tryd.func35.trans (congrArg some (by kernel_rfl))
  f217 := Tryd.func140.trans (congrArg some (by kernel_rfl))
  f219 := Tryd.func111.trans (congrArg some (by kernel_rfl))
  f220 := Tryd.func74.trans (congrArg some (by kernel_rfl))
  f224 := Tryd.func142.trans (congrArg some (by kernel_rfl))
  f225 := Tryd.func141.trans (congrArg some (by kernel_rfl))
  f266 := Tryd.func158.trans (congrArg some (by kernel_rfl))
  f267 := Tryd.func143.trans (congrArg some (by kernel_rfl))
  f314 := Tryd.func159.trans (congrArg some (by kernel_rfl))
  t3 := Tryd.underlying3
  a3 := Tryd.isAgg3
  z3 := Tryd.sizeOf3
  v3 := Tryd.zeroValue3
  t4 := Tryd.underlying4
  a4 := Tryd.isAgg4
  z4 := Tryd.sizeOf4
  v4 := Tryd.zeroValue4
  t5 := Tryd.underlying5
  a5 := Tryd.isAgg5
  z5 := Tryd.sizeOf5
  v5 := Tryd.zeroValue5
  t9 := Tryd.underlying9
  a9 := Tryd.isAgg9
  z9 := Tryd.sizeOf9
  v9 := Tryd.zeroValue9
  t46 := Tryd.underlying145
  a46 := Tryd.isAgg145
  z46 := Tryd.sizeOf145
  v46 := Tryd.zeroValue145
  t51 := Tryd.underlying119
  a51 := Tryd.isAgg119
  z51 := Tryd.sizeOf119
  v51 := Tryd.zeroValue119
  t59 := Tryd.underlying58
  a59 := Tryd.isAgg58
  z59 := Tryd.sizeOf58
  v59 := Tryd.zeroValue58
  t146 := Tryd.underlying173
  a146 := Tryd.isAgg173
  z146 := Tryd.sizeOf173
  v146 := Tryd.zeroValue173
  g1 := by kernel_rfl }
open Go.RowKit Go.Lib in
theorem Tryd.strings_Cut (s sep : ByteArray) (m : Int) (w : World) (hs : s.size < 4294967281) (hm : w.cell? ⟨0, 0, none⟩ = some (.int .i64 m)) :
    Calls Tryd.prog 35 #[.string s, .string sep] w fun e w' => e = .returned (.tuple #[.string ⟨(Lib.cut s.data.toList sep.data.toList).1.toArray⟩, .string ⟨(Lib.cut s.data.toList sep.data.toList).2.1.toArray⟩, .bool (Lib.cut s.data.toList sep.data.toList).2.2]) ∧ ∃ n, w' = w.drewN n := Any.strings_Cut Tryd.lays145 s sep m w hs hm
def Tryd.lays138_ren : Go.Shelf.Ren := ⟨fun | 138 => 105 | 195 => 135 | 218 => 136 | 143 => 106 | 219 => 111 | 217 => 140 | 225 => 141 | 224 => 142 | 267 => 143 | 266 => 158 | 314 => 159 | n => n, fun | 9 => 9 | 3 => 3 | 4 => 4 | 5 => 5 | 0 => 0 | 46 => 145 | 146 => 173 | 51 => 119 | n => n, fun | 1 => 0 | n => n⟩
theorem Tryd.lays138 : Go.Proofs.Lays.n138 Tryd.prog Tryd.lays138_ren := {
  mixed := by kernel_rfl
  f138 := Tryd.func105.trans (congrArg some (by kernel_rfl))
  f143 := Tryd.func106.trans (congrArg some (by kernel_rfl))
  f195 := Tryd.func135.trans (congrArg some (by kernel_rfl))
  f217 := Tryd.func140.trans (congrArg some (by kernel_rfl))
  f218 := Tryd.func136.trans (congrArg some (by kernel_rfl))
  f219 := Tryd.func111.trans (congrArg some (by kernel_rfl))
  f224 := Tryd.func142.trans (congrArg some (by kernel_rfl))
  f225 := Tryd.func141.trans (congrArg some (by kernel_rfl))
  f266 := Tryd.func158.trans (congrArg some (by kernel_rfl))
  f267 := Tryd.func143.trans (congrArg some (by kernel_rfl))
  f314 := Tryd.func159.trans (congrArg some (by kernel_rfl))
  t0 := Tryd.underlying0
  a0 := Tryd.isAgg0
  z0 := Tryd.sizeOf0
  v0 := Tryd.zeroValue0
  t3 := Tryd.underlying3
  a3 := Tryd.isAgg3
  z3 := Tryd.sizeOf3
  v3 := Tryd.zeroValue3
  t4 := Tryd.underlying4
  a4 := Tryd.isAgg4
  z4 := Tryd.sizeOf4
  v4 := Tryd.zeroValue4
  t5 := Tryd.underlying5
  a5 := Tryd.isAgg5
  z5 := Tryd.sizeOf5
  v5 := Tryd.zeroValue5
  t9 := Tryd.underlying9
  a9 := Tryd.isAgg9
  z9 := Tryd.sizeOf9
  v9 := Tryd.zeroValue9
  t46 := Tryd.underlying145
  a46 := Tryd.isAgg145
  z46 := Tryd.sizeOf145
  v46 := Tryd.zeroValue145
  t51 := Tryd.underlying119
  a51 := Tryd.isAgg119
  z51 := Tryd.sizeOf119
  v51 := Tryd.zeroValue119
  t146 := Tryd.underlying173
  a146 := Tryd.isAgg173
  z146 := Tryd.sizeOf173
  v146 := Tryd.zeroValue173
  g1 := by kernel_rfl }
open Go.RowKit Go.Lib in
theorem Tryd.strings_Count_one (s : ByteArray) (c : UInt8) (w : World) :
    Calls Tryd.prog 105 #[.string s, .string ⟨#[c]⟩] w fun e w' => e = .returned (.int .i64 (Lib.countByte s.data.toList c)) ∧ w' = w := Any.strings_Count_one Tryd.lays138 s c w
open Go.RowKit Go.Lib in
theorem Tryd.strings_Count (s sub : ByteArray) (m : Int) (w : World) (hs : s.size < 4294967281) (hm : w.cell? ⟨0, 0, none⟩ = some (.int .i64 m)) (h2 : 2 ≤ sub.size) :
    Calls Tryd.prog 105 #[.string s, .string sub] w fun e w' => e = .returned (.int .i64 (Lib.countB s sub)) ∧ w' = w := Any.strings_Count Tryd.lays138 s sub m w hs hm h2
def Tryd.laysM219_ren : Go.Shelf.Ren := ⟨fun | 219 => 111 | 217 => 140 | 225 => 141 | 224 => 142 | 267 => 143 | 266 => 158 | 314 => 159 | n => n, fun | 9 => 9 | 3 => 3 | 4 => 4 | 5 => 5 | 46 => 145 | 146 => 173 | 51 => 119 | n => n, fun | 1 => 0 | n => n⟩
theorem Tryd.laysM219 : Go.Proofs.LaysM.n219 Tryd.prog Tryd.laysM219_ren := {
  mixed := by kernel_rfl
  f217 := Tryd.func140.trans (congrArg some (by kernel_rfl))
  f219 := Tryd.func111.trans (congrArg some (by kernel_rfl))
  f224 := Tryd.func142.trans (congrArg some (by kernel_rfl))
  f225 := Tryd.func141.trans (congrArg some (by kernel_rfl))
  f266 := Tryd.func158.trans (congrArg some (by kernel_rfl))
  f267 := Tryd.func143.trans (congrArg some (by kernel_rfl))
  f314 := Tryd.func159.trans (congrArg some (by kernel_rfl))
  t3 := Tryd.underlying3
  a3 := Tryd.isAgg3
  z3 := Tryd.sizeOf3
  v3 := Tryd.zeroValue3
  t4 := Tryd.underlying4
  a4 := Tryd.isAgg4
  z4 := Tryd.sizeOf4
  v4 := Tryd.zeroValue4
  t5 := Tryd.underlying5
  a5 := Tryd.isAgg5
  z5 := Tryd.sizeOf5
  v5 := Tryd.zeroValue5
  t9 := Tryd.underlying9
  a9 := Tryd.isAgg9
  z9 := Tryd.sizeOf9
  v9 := Tryd.zeroValue9
  t46 := Tryd.underlying145
  a46 := Tryd.isAgg145
  z46 := Tryd.sizeOf145
  v46 := Tryd.zeroValue145
  t51 := Tryd.underlying119
  a51 := Tryd.isAgg119
  z51 := Tryd.sizeOf119
  v51 := Tryd.zeroValue119
  t146 := Tryd.underlying173
  a146 := Tryd.isAgg173
  z146 := Tryd.sizeOf173
  v146 := Tryd.zeroValue173
  g1 := by kernel_rfl
  i3 := by kernel_rfl
  i4 := by kernel_rfl
  i5 := by kernel_rfl
  i9 := by kernel_rfl
  i46 := by kernel_rfl
  i51 := by kernel_rfl
  i146 := by kernel_rfl
  m1 := by kernel_rfl
  s1_3 := fun w h => Go.Proofs.cell_of_shapedOpen_int (zero := #[.int .i64 0]) (t := 3) h (of_decide_eq_true (by kernel_rfl)) (by kernel_rfl) rfl (by kernel_rfl) (by kernel_rfl) Tryd.underlying3 }
open Go.RowKit Go.Lib in
theorem Tryd.stringslite_Index_shaped (s sub : ByteArray) (w : World) (h : w.ShapedOpen Tryd.prog) (hs : s.size < 4294967281) :
    Calls Tryd.prog 111 #[.string s, .string sub] w fun e w' => e = .returned (.int .i64 (Lib.index s.data.toList sub.data.toList)) ∧ w' = w := Any.stringslite_Index_shaped Tryd.laysM219 s sub w h hs
def Tryd.laysM143_ren : Go.Shelf.Ren := ⟨fun | 143 => 106 | 219 => 111 | 217 => 140 | 225 => 141 | 224 => 142 | 267 => 143 | 266 => 158 | 314 => 159 | n => n, fun | 9 => 9 | 3 => 3 | 4 => 4 | 5 => 5 | 46 => 145 | 146 => 173 | 51 => 119 | n => n, fun | 1 => 0 | n => n⟩
theorem Tryd.laysM143 : Go.Proofs.LaysM.n143 Tryd.prog Tryd.laysM143_ren := {
  mixed := by kernel_rfl
  f143 := Tryd.func106.trans (congrArg some (by kernel_rfl))
  f217 := Tryd.func140.trans (congrArg some (by kernel_rfl))
  f219 := Tryd.func111.trans (congrArg some (by kernel_rfl))
  f224 := Tryd.func142.trans (congrArg some (by kernel_rfl))
  f225 := Tryd.func141.trans (congrArg some (by kernel_rfl))
  f266 := Tryd.func158.trans (congrArg some (by kernel_rfl))
  f267 := Tryd.func143.trans (congrArg some (by kernel_rfl))
  f314 := Tryd.func159.trans (congrArg some (by kernel_rfl))
  t3 := Tryd.underlying3
  a3 := Tryd.isAgg3
  z3 := Tryd.sizeOf3
  v3 := Tryd.zeroValue3
  t4 := Tryd.underlying4
  a4 := Tryd.isAgg4
  z4 := Tryd.sizeOf4
  v4 := Tryd.zeroValue4
  t5 := Tryd.underlying5
  a5 := Tryd.isAgg5
  z5 := Tryd.sizeOf5
  v5 := Tryd.zeroValue5
  t9 := Tryd.underlying9
  a9 := Tryd.isAgg9
  z9 := Tryd.sizeOf9
  v9 := Tryd.zeroValue9
  t46 := Tryd.underlying145
  a46 := Tryd.isAgg145
  z46 := Tryd.sizeOf145
  v46 := Tryd.zeroValue145
  t51 := Tryd.underlying119
  a51 := Tryd.isAgg119
  z51 := Tryd.sizeOf119
  v51 := Tryd.zeroValue119
  t146 := Tryd.underlying173
  a146 := Tryd.isAgg173
  z146 := Tryd.sizeOf173
  v146 := Tryd.zeroValue173
  g1 := by kernel_rfl
  i3 := by kernel_rfl
  i4 := by kernel_rfl
  i5 := by kernel_rfl
  i9 := by kernel_rfl
  i46 := by kernel_rfl
  i51 := by kernel_rfl
  i146 := by kernel_rfl
  m1 := by kernel_rfl
  s1_3 := fun w h => Go.Proofs.cell_of_shapedOpen_int (zero := #[.int .i64 0]) (t := 3) h (of_decide_eq_true (by kernel_rfl)) (by kernel_rfl) rfl (by kernel_rfl) (by kernel_rfl) Tryd.underlying3 }
open Go.RowKit Go.Lib in
theorem Tryd.strings_Index_shaped (s sub : ByteArray) (w : World) (h : w.ShapedOpen Tryd.prog) (hs : s.size < 4294967281) :
    Calls Tryd.prog 106 #[.string s, .string sub] w fun e w' => e = .returned (.int .i64 (Lib.index s.data.toList sub.data.toList)) ∧ w' = w := Any.strings_Index_shaped Tryd.laysM143 s sub w h hs
def Tryd.laysM220_ren : Go.Shelf.Ren := ⟨fun | 220 => 74 | 219 => 111 | 217 => 140 | 225 => 141 | 224 => 142 | 267 => 143 | 266 => 158 | 314 => 159 | n => n, fun | 9 => 9 | 4 => 4 | 3 => 3 | 5 => 5 | 46 => 145 | 146 => 173 | 51 => 119 | n => n, fun | 1 => 0 | n => n⟩
theorem Tryd.laysM220 : Go.Proofs.LaysM.n220 Tryd.prog Tryd.laysM220_ren := {
  mixed := by kernel_rfl
  f217 := Tryd.func140.trans (congrArg some (by kernel_rfl))
  f219 := Tryd.func111.trans (congrArg some (by kernel_rfl))
  f220 := Tryd.func74.trans (congrArg some (by kernel_rfl))
  f224 := Tryd.func142.trans (congrArg some (by kernel_rfl))
  f225 := Tryd.func141.trans (congrArg some (by kernel_rfl))
  f266 := Tryd.func158.trans (congrArg some (by kernel_rfl))
  f267 := Tryd.func143.trans (congrArg some (by kernel_rfl))
  f314 := Tryd.func159.trans (congrArg some (by kernel_rfl))
  t3 := Tryd.underlying3
  a3 := Tryd.isAgg3
  z3 := Tryd.sizeOf3
  v3 := Tryd.zeroValue3
  t4 := Tryd.underlying4
  a4 := Tryd.isAgg4
  z4 := Tryd.sizeOf4
  v4 := Tryd.zeroValue4
  t5 := Tryd.underlying5
  a5 := Tryd.isAgg5
  z5 := Tryd.sizeOf5
  v5 := Tryd.zeroValue5
  t9 := Tryd.underlying9
  a9 := Tryd.isAgg9
  z9 := Tryd.sizeOf9
  v9 := Tryd.zeroValue9
  t46 := Tryd.underlying145
  a46 := Tryd.isAgg145
  z46 := Tryd.sizeOf145
  v46 := Tryd.zeroValue145
  t51 := Tryd.underlying119
  a51 := Tryd.isAgg119
  z51 := Tryd.sizeOf119
  v51 := Tryd.zeroValue119
  t146 := Tryd.underlying173
  a146 := Tryd.isAgg173
  z146 := Tryd.sizeOf173
  v146 := Tryd.zeroValue173
  g1 := by kernel_rfl
  i3 := by kernel_rfl
  i4 := by kernel_rfl
  i5 := by kernel_rfl
  i9 := by kernel_rfl
  i46 := by kernel_rfl
  i51 := by kernel_rfl
  i146 := by kernel_rfl
  m1 := by kernel_rfl
  s1_3 := fun w h => Go.Proofs.cell_of_shapedOpen_int (zero := #[.int .i64 0]) (t := 3) h (of_decide_eq_true (by kernel_rfl)) (by kernel_rfl) rfl (by kernel_rfl) (by kernel_rfl) Tryd.underlying3 }
open Go.RowKit Go.Lib in
theorem Tryd.stringslite_Cut_shaped (s sep : ByteArray) (w : World) (h : w.ShapedOpen Tryd.prog) (hs : s.size < 4294967281) :
    Calls Tryd.prog 74 #[.string s, .string sep] w fun e w' => e = .returned (.tuple #[.string ⟨(Lib.cut s.data.toList sep.data.toList).1.toArray⟩, .string ⟨(Lib.cut s.data.toList sep.data.toList).2.1.toArray⟩, .bool (Lib.cut s.data.toList sep.data.toList).2.2]) ∧ ∃ n, w' = w.drewN n := Any.stringslite_Cut_shaped Tryd.laysM220 s sep w h hs
def Tryd.laysM145_ren : Go.Shelf.Ren := ⟨fun | 145 => 35 | 220 => 74 | 219 => 111 | 217 => 140 | 225 => 141 | 224 => 142 | 267 => 143 | 266 => 158 | 314 => 159 | n => n, fun | 9 => 9 | 4 => 4 | 59 => 58 | 3 => 3 | 5 => 5 | 46 => 145 | 146 => 173 | 51 => 119 | n => n, fun | 1 => 0 | n => n⟩
theorem Tryd.laysM145 : Go.Proofs.LaysM.n145 Tryd.prog Tryd.laysM145_ren := {
  mixed := by kernel_rfl
  f145 := Tryd.func35.trans (congrArg some (by kernel_rfl))
  f217 := Tryd.func140.trans (congrArg some (by kernel_rfl))
  f219 := Tryd.func111.trans (congrArg some (by kernel_rfl))
  f220 := Tryd.func74.trans (congrArg some (by kernel_rfl))
  f224 := Tryd.func142.trans (congrArg some (by kernel_rfl))
  f225 := Tryd.func141.trans (congrArg some (by kernel_rfl))
  f266 := Tryd.func158.trans (congrArg some (by kernel_rfl))
  f267 := Tryd.func143.trans (congrArg some (by kernel_rfl))
  f314 := Tryd.func159.trans (congrArg some (by kernel_rfl))
  t3 := Tryd.underlying3
  a3 := Tryd.isAgg3
  z3 := Tryd.sizeOf3
  v3 := Tryd.zeroValue3
  t4 := Tryd.underlying4
  a4 := Tryd.isAgg4
  z4 := Tryd.sizeOf4
  v4 := Tryd.zeroValue4
  t5 := Tryd.underlying5
  a5 := Tryd.isAgg5
  z5 := Tryd.sizeOf5
  v5 := Tryd.zeroValue5
  t9 := Tryd.underlying9
  a9 := Tryd.isAgg9
  z9 := Tryd.sizeOf9
  v9 := Tryd.zeroValue9
  t46 := Tryd.underlying145
  a46 := Tryd.isAgg145
  z46 := Tryd.sizeOf145
  v46 := Tryd.zeroValue145
  t51 := Tryd.underlying119
  a51 := Tryd.isAgg119
  z51 := Tryd.sizeOf119
  v51 := Tryd.zeroValue119
  t59 := Tryd.underlying58
  a59 := Tryd.isAgg58
  z59 := Tryd.sizeOf58
  v59 := Tryd.zeroValue58
  t146 := Tryd.underlying173
  a146 := Tryd.isAgg173
  z146 := Tryd.sizeOf173
  v146 := Tryd.zeroValue173
  g1 := by kernel_rfl
  i3 := by kernel_rfl
  i4 := by kernel_rfl
  i5 := by kernel_rfl
  i9 := by kernel_rfl
  i46 := by kernel_rfl
  i51 := by kernel_rfl
  i59 := by kernel_rfl
  i146 := by kernel_rfl
  m1 := by kernel_rfl
  s1_3 := fun w h => Go.Proofs.cell_of_shapedOpen_int (zero := #[.int .i64 0]) (t := 3) h (of_decide_eq_true (by kernel_rfl)) (by kernel_rfl) rfl (by kernel_rfl) (by kernel_rfl) Tryd.underlying3 }
open Go.RowKit Go.Lib in
theorem Tryd.strings_Cut_shaped (s sep : ByteArray) (w : World) (h : w.ShapedOpen Tryd.prog) (hs : s.size < 4294967281) :
    Calls Tryd.prog 35 #[.string s, .string sep] w fun e w' => e = .returned (.tuple #[.string ⟨(Lib.cut s.data.toList sep.data.toList).1.toArray⟩, .string ⟨(Lib.cut s.data.toList sep.data.toList).2.1.toArray⟩, .bool (Lib.cut s.data.toList sep.data.toList).2.2]) ∧ ∃ n, w' = w.drewN n := Any.strings_Cut_shaped Tryd.laysM145 s sep w h hs
def Tryd.laysM138_ren : Go.Shelf.Ren := ⟨fun | 138 => 105 | 195 => 135 | 218 => 136 | 143 => 106 | 219 => 111 | 217 => 140 | 225 => 141 | 224 => 142 | 267 => 143 | 266 => 158 | 314 => 159 | n => n, fun | 9 => 9 | 3 => 3 | 4 => 4 | 5 => 5 | 0 => 0 | 46 => 145 | 146 => 173 | 51 => 119 | n => n, fun | 1 => 0 | n => n⟩
theorem Tryd.laysM138 : Go.Proofs.LaysM.n138 Tryd.prog Tryd.laysM138_ren := {
  mixed := by kernel_rfl
  f138 := Tryd.func105.trans (congrArg some (by kernel_rfl))
  f143 := Tryd.func106.trans (congrArg some (by kernel_rfl))
  f195 := Tryd.func135.trans (congrArg some (by kernel_rfl))
  f217 := Tryd.func140.trans (congrArg some (by kernel_rfl))
  f218 := Tryd.func136.trans (congrArg some (by kernel_rfl))
  f219 := Tryd.func111.trans (congrArg some (by kernel_rfl))
  f224 := Tryd.func142.trans (congrArg some (by kernel_rfl))
  f225 := Tryd.func141.trans (congrArg some (by kernel_rfl))
  f266 := Tryd.func158.trans (congrArg some (by kernel_rfl))
  f267 := Tryd.func143.trans (congrArg some (by kernel_rfl))
  f314 := Tryd.func159.trans (congrArg some (by kernel_rfl))
  t0 := Tryd.underlying0
  a0 := Tryd.isAgg0
  z0 := Tryd.sizeOf0
  v0 := Tryd.zeroValue0
  t3 := Tryd.underlying3
  a3 := Tryd.isAgg3
  z3 := Tryd.sizeOf3
  v3 := Tryd.zeroValue3
  t4 := Tryd.underlying4
  a4 := Tryd.isAgg4
  z4 := Tryd.sizeOf4
  v4 := Tryd.zeroValue4
  t5 := Tryd.underlying5
  a5 := Tryd.isAgg5
  z5 := Tryd.sizeOf5
  v5 := Tryd.zeroValue5
  t9 := Tryd.underlying9
  a9 := Tryd.isAgg9
  z9 := Tryd.sizeOf9
  v9 := Tryd.zeroValue9
  t46 := Tryd.underlying145
  a46 := Tryd.isAgg145
  z46 := Tryd.sizeOf145
  v46 := Tryd.zeroValue145
  t51 := Tryd.underlying119
  a51 := Tryd.isAgg119
  z51 := Tryd.sizeOf119
  v51 := Tryd.zeroValue119
  t146 := Tryd.underlying173
  a146 := Tryd.isAgg173
  z146 := Tryd.sizeOf173
  v146 := Tryd.zeroValue173
  g1 := by kernel_rfl
  i0 := by kernel_rfl
  i3 := by kernel_rfl
  i4 := by kernel_rfl
  i5 := by kernel_rfl
  i9 := by kernel_rfl
  i46 := by kernel_rfl
  i51 := by kernel_rfl
  i146 := by kernel_rfl
  m1 := by kernel_rfl
  s1_3 := fun w h => Go.Proofs.cell_of_shapedOpen_int (zero := #[.int .i64 0]) (t := 3) h (of_decide_eq_true (by kernel_rfl)) (by kernel_rfl) rfl (by kernel_rfl) (by kernel_rfl) Tryd.underlying3 }
open Go.RowKit Go.Lib in
theorem Tryd.strings_Count_shaped (s sub : ByteArray) (w : World) (h : w.ShapedOpen Tryd.prog) (hs : s.size < 4294967281) (h2 : 2 ≤ sub.size) :
    Calls Tryd.prog 105 #[.string s, .string sub] w fun e w' => e = .returned (.int .i64 (Lib.countB s sub)) ∧ w' = w := Any.strings_Count_shaped Tryd.laysM138 s sub w h hs h2
def Tryd.lays222_ren : Go.Shelf.Ren := ⟨fun | 222 => 75 | n => n, fun | 9 => 9 | 5 => 5 | 3 => 3 | 4 => 4 | n => n, fun | n => n⟩
theorem Tryd.lays222 : Go.Proofs.Lays.n222 Tryd.prog Tryd.lays222_ren := {
  mixed := by kernel_rfl
  f222 := Tryd.func75.trans (congrArg some (by kernel_rfl))
  t3 := Tryd.underlying3
  a3 := Tryd.isAgg3
  z3 := Tryd.sizeOf3
  v3 := Tryd.zeroValue3
  t4 := Tryd.underlying4
  a4 := Tryd.isAgg4
  z4 := Tryd.sizeOf4
  v4 := Tryd.zeroValue4
  t5 := Tryd.underlying5
  a5 := Tryd.isAgg5
  z5 := Tryd.sizeOf5
  v5 := Tryd.zeroValue5
  t9 := Tryd.underlying9
  a9 := Tryd.isAgg9
  z9 := Tryd.sizeOf9
  v9 := Tryd.zeroValue9 }
open Go.RowKit Go.Lib in
theorem Tryd.bytealg_LastIndexByteString_nm (s : ByteArray) (c : Int) (hs : s.size < 4611686018427387904) (w : World) :
    Calls Tryd.prog 75 #[.string s, .int .u8 c] w fun e w' => e = .returned (.int .i64 (Lib.lastIndexByte s c)) ∧ w' = w := Any.bytealg_LastIndexByteString_nm Tryd.lays222 s c hs w
def Tryd.lays149_ren : Go.Shelf.Ren := ⟨fun | 149 => 36 | 222 => 75 | n => n, fun | 9 => 9 | 5 => 5 | 3 => 3 | 4 => 4 | n => n, fun | n => n⟩
theorem Tryd.lays149 : Go.Proofs.Lays.n149 Tryd.prog Tryd.lays149_ren := {
  mixed := by kernel_rfl
  f149 := Tryd.func36.trans (congrArg some (by kernel_rfl))
  f222 := Tryd.func75.trans (congrArg some (by kernel_rfl))
  t3 := Tryd.underlying3
  a3 := Tryd.isAgg3
  z3 := Tryd.sizeOf3
  v3 := Tryd.zeroValue3
  t4 := Tryd.underlying4
  a4 := Tryd.isAgg4
  z4 := Tryd.sizeOf4
  v4 := Tryd.zeroValue4
  t5 := Tryd.underlying5
  a5 := Tryd.isAgg5
  z5 := Tryd.sizeOf5
  v5 := Tryd.zeroValue5
  t9 := Tryd.underlying9
  a9 := Tryd.isAgg9
  z9 := Tryd.sizeOf9
  v9 := Tryd.zeroValue9 }
open Go.RowKit Go.Lib in
theorem Tryd.strings_LastIndexByte (s : ByteArray) (c : Int) (hs : s.size < 4611686018427387904) (w : World) :
    Calls Tryd.prog 36 #[.string s, .int .u8 c] w fun e w' => e = .returned (.int .i64 (Lib.lastIndexByte s c)) ∧ w' = w := Any.strings_LastIndexByte Tryd.lays149 s c hs w
open Go.RowKit Go.Lib in
theorem Tryd.strings_Count_any (s sep : ByteArray) (m : Int) (w : World) (hs : s.size < 4294967281) (hm : w.cell? ⟨0, 0, none⟩ = some (.int .i64 m)) (h1 : 1 ≤ sep.size) :
    Calls Tryd.prog 105 #[.string s, .string sep] w fun e w' => e = .returned (.int .i64 (Lib.countB s sep)) ∧ w' = w := Any.strings_Count_any Tryd.lays138 s sep m w hs hm h1
def Tryd.lays221_ren : Go.Shelf.Ren := ⟨fun | 221 => 66 | 268 => 104 | 138 => 105 | 143 => 106 | 195 => 135 | 197 => 108 | 218 => 136 | 219 => 111 | 260 => 137 | 217 => 140 | 225 => 141 | 224 => 142 | 267 => 143 | 266 => 158 | 314 => 159 | n => n, fun | 9 => 9 | 3 => 3 | 31 => 26 | 4 => 4 | 0 => 0 | 105 => 138 | 21 => 21 | 5 => 5 | 46 => 145 | 119 => 168 | 139 => 171 | 138 => 170 | 146 => 173 | 51 => 119 | n => n, fun | 1 => 0 | 3 => 1 | 4 => 2 | n => n⟩
theorem Tryd.lays221 : Go.Proofs.Lays.n221 Tryd.prog Tryd.lays221_ren := {
  mixed := by kernel_rfl
  f138 := Tryd.func105.trans (congrArg some (by kernel_rfl))
  f143 := Tryd.func106.trans (congrArg some (by kernel_rfl))
  f195 := Tryd.func135.trans (congrArg some (by kernel_rfl))
  f197 := Tryd.func108.trans (congrArg some (by kernel_rfl))
  f217 := Tryd.func140.trans (congrArg some (by kernel_rfl))
  f218 := Tryd.func136.trans (congrArg some (by kernel_rfl))
  f219 := Tryd.func111.trans (congrArg some (by kernel_rfl))
  f221 := Tryd.func66.trans (congrArg some (by kernel_rfl))
  f224 := Tryd.func142.trans (congrArg some (by kernel_rfl))
  f225 := Tryd.func141.trans (congrArg some (by kernel_rfl))
  f260 := Tryd.func137.trans (congrArg some (by kernel_rfl))
  f266 := Tryd.func158.trans (congrArg some (by kernel_rfl))
  f267 := Tryd.func143.trans (congrArg some (by kernel_rfl))
  f268 := Tryd.func104.trans (congrArg some (by kernel_rfl))
  f314 := Tryd.func159.trans (congrArg some (by kernel_rfl))
  t0 := Tryd.underlying0
  a0 := Tryd.isAgg0
  z0 := Tryd.sizeOf0
  v0 := Tryd.zeroValue0
  t3 := Tryd.underlying3
  a3 := Tryd.isAgg3
  z3 := Tryd.sizeOf3
  v3 := Tryd.zeroValue3
  t4 := Tryd.underlying4
  a4 := Tryd.isAgg4
  z4 := Tryd.sizeOf4
  v4 := Tryd.zeroValue4
  t5 := Tryd.underlying5
  a5 := Tryd.isAgg5
  z5 := Tryd.sizeOf5
  v5 := Tryd.zeroValue5
  t9 := Tryd.underlying9
  a9 := Tryd.isAgg9
  z9 := Tryd.sizeOf9
  v9 := Tryd.zeroValue9
  t21 := Tryd.underlying21
  a21 := Tryd.isAgg21
  z21 := Tryd.sizeOf21
  v21 := Tryd.zeroValue21
  t31 := Tryd.underlying26
  a31 := Tryd.isAgg26
  z31 := Tryd.sizeOf26
  v31 := Tryd.zeroValue26
  t46 := Tryd.underlying145
  a46 := Tryd.isAgg145
  z46 := Tryd.sizeOf145
  v46 := Tryd.zeroValue145
  t51 := Tryd.underlying119
  a51 := Tryd.isAgg119
  z51 := Tryd.sizeOf119
  v51 := Tryd.zeroValue119
  t105 := Tryd.underlying138
  a105 := Tryd.isAgg138
  z105 := Tryd.sizeOf138
  v105 := Tryd.zeroValue138
  t119 := Tryd.underlying168
  a119 := Tryd.isAgg168
  z119 := Tryd.sizeOf168
  t138 := Tryd.underlying170
  a138 := Tryd.isAgg170
  z138 := Tryd.sizeOf170
  v138 := Tryd.zeroValue170
  t139 := Tryd.underlying171
  a139 := Tryd.isAgg171
  z139 := Tryd.sizeOf171
  v139 := Tryd.zeroValue171
  t146 := Tryd.underlying173
  a146 := Tryd.isAgg173
  z146 := Tryd.sizeOf173
  v146 := Tryd.zeroValue173
  g1 := by kernel_rfl
  g3 := by kernel_rfl
  g4 := by kernel_rfl }
open Go.RowKit Go.Lib in
theorem Tryd.strings_genSplit (s sep : ByteArray) (sv : Nat) (n : Int) (N : Nat) (m : Int) (w : World) (hs : s.size < 4294967281) (hm : w.cell? ⟨0, 0, none⟩ = some (.int .i64 m)) (h1 : 1 ≤ sep.size) (hsv : sv ≤ sep.size) (hn0 : n ≠ 0) (hn63 : n ≤ 9223372036854775807) (hN : (N : Int) = min (if n < 0 then (Lib.countB s sep : Int) + 1 else n) ((s.size : Int) + 1)) :
    Calls Tryd.prog 66 #[.string s, .string sep, .int .i64 sv, .int .i64 n] w fun e w' =>
      e = .returned (.slice (some ⟨w.heap.size, 0, none⟩) (Lib.splitB sep sv (N - 1) s).length N) ∧ w' = w.alloc (.cells (Lib.cellsOf (Lib.splitB sep sv (N - 1) s) N) 9) := Any.strings_genSplit Tryd.lays221 (by kernel_rfl) s sep sv n N m w hs hm h1 hsv hn0 hn63 hN
def Tryd.lays146_ren : Go.Shelf.Ren := ⟨fun | 146 => 32 | 221 => 66 | 268 => 104 | 138 => 105 | 143 => 106 | 195 => 135 | 197 => 108 | 218 => 136 | 219 => 111 | 260 => 137 | 217 => 140 | 225 => 141 | 224 => 142 | 267 => 143 | 266 => 158 | 314 => 159 | n => n, fun | 9 => 9 | 31 => 26 | 3 => 3 | 4 => 4 | 0 => 0 | 105 => 138 | 21 => 21 | 5 => 5 | 46 => 145 | 119 => 168 | 139 => 171 | 138 => 170 | 146 => 173 | 51 => 119 | n => n, fun | 1 => 0 | 3 => 1 | 4 => 2 | n => n⟩
theorem Tryd.lays146 : Go.Proofs.Lays.n146 Tryd.prog Tryd.lays146_ren := {
  mixed := by kernel_rfl
  f138 := Tryd.func105.trans (congrArg some (by kernel_rfl))
  f143 := Tryd.func106.trans (congrArg some (by kernel_rfl))
  f146 := Tryd.func32.trans (congrArg some (by kernel_rfl))
  f195 := Tryd.func135.trans (congrArg some (by kernel_rfl))
  f197 := Tryd.func108.trans (congrArg some (by kernel_rfl))
  f217 := Tryd.func140.trans (congrArg some (by kernel_rfl))
  f218 := Tryd.func136.trans (congrArg some (by kernel_rfl))
  f219 := Tryd.func111.trans (congrArg some (by kernel_rfl))
  f221 := Tryd.func66.trans (congrArg some (by kernel_rfl))
  f224 := Tryd.func142.trans (congrArg some (by kernel_rfl))
  f225 := Tryd.func141.trans (congrArg some (by kernel_rfl))
  f260 := Tryd.func137.trans (congrArg some (by kernel_rfl))
  f266 := Tryd.func158.trans (congrArg some (by kernel_rfl))
  f267 := Tryd.func143.trans (congrArg some (by kernel_rfl))
  f268 := Tryd.func104.trans (congrArg some (by kernel_rfl))
  f314 := Tryd.func159.trans (congrArg some (by kernel_rfl))
  t0 := Tryd.underlying0
  a0 := Tryd.isAgg0
  z0 := Tryd.sizeOf0
  v0 := Tryd.zeroValue0
  t3 := Tryd.underlying3
  a3 := Tryd.isAgg3
  z3 := Tryd.sizeOf3
  v3 := Tryd.zeroValue3
  t4 := Tryd.underlying4
  a4 := Tryd.isAgg4
  z4 := Tryd.sizeOf4
  v4 := Tryd.zeroValue4
  t5 := Tryd.underlying5
  a5 := Tryd.isAgg5
  z5 := Tryd.sizeOf5
  v5 := Tryd.zeroValue5
  t9 := Tryd.underlying9
  a9 := Tryd.isAgg9
  z9 := Tryd.sizeOf9
  v9 := Tryd.zeroValue9
  t21 := Tryd.underlying21
  a21 := Tryd.isAgg21
  z21 := Tryd.sizeOf21
  v21 := Tryd.zeroValue21
  t31 := Tryd.underlying26
  a31 := Tryd.isAgg26
  z31 := Tryd.sizeOf26
  v31 := Tryd.zeroValue26
  t46 := Tryd.underlying145
  a46 := Tryd.isAgg145
  z46 := Tryd.sizeOf145
  v46 := Tryd.zeroValue145
  t51 := Tryd.underlying119
  a51 := Tryd.isAgg119
  z51 := Tryd.sizeOf119
  v51 := Tryd.zeroValue119
  t105 := Tryd.underlying138
  a105 := Tryd.isAgg138
  z105 := Tryd.sizeOf138
  v105 := Tryd.zeroValue138
  t119 := Tryd.underlying168
  a119 := Tryd.isAgg168
  z119 := Tryd.sizeOf168
  t138 := Tryd.underlying170
  a138 := Tryd.isAgg170
  z138 := Tryd.sizeOf170
  v138 := Tryd.zeroValue170
  t139 := Tryd.underlying171
  a139 := Tryd.isAgg171
  z139 := Tryd.sizeOf171
  v139 := Tryd.zeroValue171
  t146 := Tryd.underlying173
  a146 := Tryd.isAgg173
  z146 := Tryd.sizeOf173
  v146 := Tryd.zeroValue173
  g1 := by kernel_rfl
  g3 := by kernel_rfl
  g4 := by kernel_rfl }
open Go.RowKit Go.Lib in
theorem Tryd.strings_Split (s sep : ByteArray) (m : Int) (w : World) (hs : s.size < 4294967281) (hm : w.cell? ⟨0, 0, none⟩ = some (.int .i64 m)) (h1 : 1 ≤ sep.size) :
    Calls Tryd.prog 32 #[.string s, .string sep] w fun e w' =>
      e = .returned (.slice (some ⟨w.heap.size, 0, none⟩) (Lib.countB s sep + 1) (Lib.countB s sep + 1)) ∧ w' = w.alloc (.cells ((Lib.splitB sep 0 (Lib.countB s sep) s).map Value.string).toArray 9) := Any.strings_Split Tryd.lays146 (by kernel_rfl) s sep m w hs hm h1
def Tryd.laysM146_ren : Go.Shelf.Ren := ⟨fun | 146 => 32 | 221 => 66 | 268 => 104 | 138 => 105 | 143 => 106 | 195 => 135 | 197 => 108 | 218 => 136 | 219 => 111 | 260 => 137 | 217 => 140 | 225 => 141 | 224 => 142 | 267 => 143 | 266 => 158 | 314 => 159 | n => n, fun | 9 => 9 | 31 => 26 | 3 => 3 | 4 => 4 | 0 => 0 | 105 => 138 | 21 => 21 | 5 => 5 | 46 => 145 | 119 => 168 | 139 => 171 | 138 => 170 | 146 => 173 | 51 => 119 | n => n, fun | 1 => 0 | 3 => 1 | 4 => 2 | n => n⟩
theorem Tryd.laysM146 : Go.Proofs.LaysM.n146 Tryd.prog Tryd.laysM146_ren := {
  mixed := by kernel_rfl
  f138 := Tryd.func105.trans (congrArg some (by kernel_rfl))
  f143 := Tryd.func106.trans (congrArg some (by kernel_rfl))
  f146 := Tryd.func32.trans (congrArg some (by kernel_rfl))
  f195 := Tryd.func135.trans (congrArg some (by kernel_rfl))
  f197 := Tryd.func108.trans (congrArg some (by kernel_rfl))
  f217 := Tryd.func140.trans (congrArg some (by kernel_rfl))
  f218 := Tryd.func136.trans (congrArg some (by kernel_rfl))
  f219 := Tryd.func111.trans (congrArg some (by kernel_rfl))
  f221 := Tryd.func66.trans (congrArg some (by kernel_rfl))
  f224 := Tryd.func142.trans (congrArg some (by kernel_rfl))
  f225 := Tryd.func141.trans (congrArg some (by kernel_rfl))
  f260 := Tryd.func137.trans (congrArg some (by kernel_rfl))
  f266 := Tryd.func158.trans (congrArg some (by kernel_rfl))
  f267 := Tryd.func143.trans (congrArg some (by kernel_rfl))
  f268 := Tryd.func104.trans (congrArg some (by kernel_rfl))
  f314 := Tryd.func159.trans (congrArg some (by kernel_rfl))
  t0 := Tryd.underlying0
  a0 := Tryd.isAgg0
  z0 := Tryd.sizeOf0
  v0 := Tryd.zeroValue0
  t3 := Tryd.underlying3
  a3 := Tryd.isAgg3
  z3 := Tryd.sizeOf3
  v3 := Tryd.zeroValue3
  t4 := Tryd.underlying4
  a4 := Tryd.isAgg4
  z4 := Tryd.sizeOf4
  v4 := Tryd.zeroValue4
  t5 := Tryd.underlying5
  a5 := Tryd.isAgg5
  z5 := Tryd.sizeOf5
  v5 := Tryd.zeroValue5
  t9 := Tryd.underlying9
  a9 := Tryd.isAgg9
  z9 := Tryd.sizeOf9
  v9 := Tryd.zeroValue9
  t21 := Tryd.underlying21
  a21 := Tryd.isAgg21
  z21 := Tryd.sizeOf21
  v21 := Tryd.zeroValue21
  t31 := Tryd.underlying26
  a31 := Tryd.isAgg26
  z31 := Tryd.sizeOf26
  v31 := Tryd.zeroValue26
  t46 := Tryd.underlying145
  a46 := Tryd.isAgg145
  z46 := Tryd.sizeOf145
  v46 := Tryd.zeroValue145
  t51 := Tryd.underlying119
  a51 := Tryd.isAgg119
  z51 := Tryd.sizeOf119
  v51 := Tryd.zeroValue119
  t105 := Tryd.underlying138
  a105 := Tryd.isAgg138
  z105 := Tryd.sizeOf138
  v105 := Tryd.zeroValue138
  t119 := Tryd.underlying168
  a119 := Tryd.isAgg168
  z119 := Tryd.sizeOf168
  t138 := Tryd.underlying170
  a138 := Tryd.isAgg170
  z138 := Tryd.sizeOf170
  v138 := Tryd.zeroValue170
  t139 := Tryd.underlying171
  a139 := Tryd.isAgg171
  z139 := Tryd.sizeOf171
  v139 := Tryd.zeroValue171
  t146 := Tryd.underlying173
  a146 := Tryd.isAgg173
  z146 := Tryd.sizeOf173
  v146 := Tryd.zeroValue173
  g1 := by kernel_rfl
  g3 := by kernel_rfl
  g4 := by kernel_rfl
  i0 := by kernel_rfl
  i3 := by kernel_rfl
  i4 := by kernel_rfl
  i5 := by kernel_rfl
  i9 := by kernel_rfl
  i21 := by kernel_rfl
  i31 := by kernel_rfl
  i46 := by kernel_rfl
  i51 := by kernel_rfl
  i105 := by kernel_rfl
  i138 := by kernel_rfl
  i139 := by kernel_rfl
  i146 := by kernel_rfl
  m1 := by kernel_rfl
  s1_3 := fun w h => Go.Proofs.cell_of_shapedOpen_int (zero := #[.int .i64 0]) (t := 3) h (of_decide_eq_true (by kernel_rfl)) (by kernel_rfl) rfl (by kernel_rfl) (by kernel_rfl) Tryd.underlying3
  m3 := by kernel_rfl
  m4 := by kernel_rfl }
open Go.RowKit Go.Lib in
theorem Tryd.strings_Split_shaped (s sep : ByteArray) (w : World) (h : w.ShapedOpen Tryd.prog) (hs : s.size < 4294967281) (h1 : 1 ≤ sep.size) :
    Calls Tryd.prog 32 #[.string s, .string sep] w fun e w' =>
      e = .returned (.slice (some ⟨w.heap.size, 0, none⟩) (Lib.countB s sep + 1) (Lib.countB s sep + 1)) ∧ w' = w.alloc (.cells ((Lib.splitB sep 0 (Lib.countB s sep) s).map Value.string).toArray 9) := Any.strings_Split_shaped Tryd.laysM146 s sep w h hs h1
def Tryd.lays197_ren : Go.Shelf.Ren := ⟨fun | 197 => 108 | 260 => 137 | n => n, fun | 9 => 9 | 21 => 21 | 3 => 3 | 4 => 4 | 5 => 5 | 105 => 138 | 119 => 168 | 0 => 0 | 46 => 145 | 139 => 171 | 138 => 170 | n => n, fun | 3 => 1 | 4 => 2 | n => n⟩
theorem Tryd.lays197 : Go.Proofs.Lays.n197 Tryd.prog Tryd.lays197_ren := {
  mixed := by kernel_rfl
  f197 := Tryd.func108.trans (congrArg some (by kernel_rfl))
  f260 := Tryd.func137.trans (congrArg some (by kernel_rfl))
  t0 := Tryd.underlying0
  a0 := Tryd.isAgg0
  z0 := Tryd.sizeOf0
  v0 := Tryd.zeroValue0
  t3 := Tryd.underlying3
  a3 := Tryd.isAgg3
  z3 := Tryd.sizeOf3
  v3 := Tryd.zeroValue3
  t4 := Tryd.underlying4
  a4 := Tryd.isAgg4
  z4 := Tryd.sizeOf4
  v4 := Tryd.zeroValue4
  t5 := Tryd.underlying5
  a5 := Tryd.isAgg5
  z5 := Tryd.sizeOf5
  v5 := Tryd.zeroValue5
  t9 := Tryd.underlying9
  a9 := Tryd.isAgg9
  z9 := Tryd.sizeOf9
  v9 := Tryd.zeroValue9
  t21 := Tryd.underlying21
  a21 := Tryd.isAgg21
  z21 := Tryd.sizeOf21
  v21 := Tryd.zeroValue21
  t46 := Tryd.underlying145
  a46 := Tryd.isAgg145
  z46 := Tryd.sizeOf145
  v46 := Tryd.zeroValue145
  t105 := Tryd.underlying138
  a105 := Tryd.isAgg138
  z105 := Tryd.sizeOf138
  v105 := Tryd.zeroValue138
  t119 := Tryd.underlying168
  a119 := Tryd.isAgg168
  z119 := Tryd.sizeOf168
  t138 := Tryd.underlying170
  a138 := Tryd.isAgg170
  z138 := Tryd.sizeOf170
  v138 := Tryd.zeroValue170
  t139 := Tryd.underlying171
  a139 := Tryd.isAgg171
  z139 := Tryd.sizeOf171
  v139 := Tryd.zeroValue171
  g3 := by kernel_rfl
  g4 := by kernel_rfl }
open Go.RowKit Go.Lib in
theorem Tryd.utf8_DecodeRuneInString_ascii (s : ByteArray) (x : UInt8) (w : World) (h0 : s.data.toList[0]? = some x) (hx : x.toNat < 128) :
    Calls Tryd.prog 108 #[.string s] w fun e w' => e = .returned (.tuple #[.int .i32 x.toNat, .int .i64 1]) ∧ w' = w := Any.utf8_DecodeRuneInString_ascii Tryd.lays197 s x w h0 hx
def Tryd.lays152_ren : Go.Shelf.Ren := ⟨fun | 152 => 138 | 137 => 156 | 119 => 157 | 224 => 142 | 225 => 141 | 217 => 140 | 266 => 158 | n => n, fun | 9 => 9 | 21 => 21 | 3 => 3 | 4 => 4 | 5 => 5 | 0 => 0 | 46 => 145 | n => n, fun | n => n⟩
theorem Tryd.lays152 : Go.Proofs.Lays.n152 Tryd.prog Tryd.lays152_ren := {
  mixed := by kernel_rfl
  f119 := Tryd.func157.trans (congrArg some (by kernel_rfl))
  f137 := Tryd.func156.trans (congrArg some (by kernel_rfl))
  f152 := Tryd.func138.trans (congrArg some (by kernel_rfl))
  f217 := Tryd.func140.trans (congrArg some (by kernel_rfl))
  f224 := Tryd.func142.trans (congrArg some (by kernel_rfl))
  f225 := Tryd.func141.trans (congrArg some (by kernel_rfl))
  f266 := Tryd.func158.trans (congrArg some (by kernel_rfl))
  t0 := Tryd.underlying0
  a0 := Tryd.isAgg0
  z0 := Tryd.sizeOf0
  v0 := Tryd.zeroValue0
  t3 := Tryd.underlying3
  a3 := Tryd.isAgg3
  z3 := Tryd.sizeOf3
  v3 := Tryd.zeroValue3
  t4 := Tryd.underlying4
  a4 := Tryd.isAgg4
  z4 := Tryd.sizeOf4
  v4 := Tryd.zeroValue4
  t5 := Tryd.underlying5
  a5 := Tryd.isAgg5
  z5 := Tryd.sizeOf5
  v5 := Tryd.zeroValue5
  t9 := Tryd.underlying9
  a9 := Tryd.isAgg9
  z9 := Tryd.sizeOf9
  v9 := Tryd.zeroValue9
  t21 := Tryd.underlying21
  a21 := Tryd.isAgg21
  z21 := Tryd.sizeOf21
  v21 := Tryd.zeroValue21
  t46 := Tryd.underlying145
  a46 := Tryd.isAgg145
  z46 := Tryd.sizeOf145
  v46 := Tryd.zeroValue145 }
open Go.RowKit Go.Lib in
theorem Tryd.strings_IndexRune_ascii (s : ByteArray) (r : Int) (w : World) (h0 : 0 ≤ r) (h1 : r < 128) :
    Calls Tryd.prog 138 #[.string s, .int .i32 r] w fun e w' => e = .returned (.int .i64 (Lib.indexByte s.data.toList r.toNat.toUInt8)) ∧ w' = w := Any.strings_IndexRune_ascii Tryd.lays152 s r w h0 h1
def Tryd.lays151_ren : Go.Shelf.Ren := ⟨fun | 151 => 109 | 152 => 138 | 137 => 156 | 119 => 157 | 224 => 142 | 225 => 141 | 217 => 140 | 266 => 158 | n => n, fun | 9 => 9 | 21 => 21 | 4 => 4 | 3 => 3 | 5 => 5 | 0 => 0 | 46 => 145 | n => n, fun | n => n⟩
theorem Tryd.lays151 : Go.Proofs.Lays.n151 Tryd.prog Tryd.lays151_ren := {
  mixed := by kernel_rfl
  f119 := Tryd.func157.trans (congrArg some (by kernel_rfl))
  f137 := Tryd.func156.trans (congrArg some (by kernel_rfl))
  f151 := Tryd.func109.trans (congrArg some (by kernel_rfl))
  f152 := Tryd.func138.trans (congrArg some (by kernel_rfl))
  f217 := Tryd.func140.trans (congrArg some (by kernel_rfl))
  f224 := Tryd.func142.trans (congrArg some (by kernel_rfl))
  f225 := Tryd.func141.trans (congrArg some (by kernel_rfl))
  f266 := Tryd.func158.trans (congrArg some (by kernel_rfl))
  t0 := Tryd.underlying0
  a0 := Tryd.isAgg0
  z0 := Tryd.sizeOf0
  v0 := Tryd.zeroValue0
  t3 := Tryd.underlying3
  a3 := Tryd.isAgg3
  z3 := Tryd.sizeOf3
  v3 := Tryd.zeroValue3
  t4 := Tryd.underlying4
  a4 := Tryd.isAgg4
  z4 := Tryd.sizeOf4
  v4 := Tryd.zeroValue4
  t5 := Tryd.underlying5
  a5 := Tryd.isAgg5
  z5 := Tryd.sizeOf5
  v5 := Tryd.zeroValue5
  t9 := Tryd.underlying9
  a9 := Tryd.isAgg9
  z9 := Tryd.sizeOf9
  v9 := Tryd.zeroValue9
  t21 := Tryd.underlying21
  a21 := Tryd.isAgg21
  z21 := Tryd.sizeOf21
  v21 := Tryd.zeroValue21
  t46 := Tryd.underlying145
  a46 := Tryd.isAgg145
  z46 := Tryd.sizeOf145
  v46 := Tryd.zeroValue145 }
open Go.RowKit Go.Lib in
theorem Tryd.strings_ContainsRune_ascii (s : ByteArray) (r : Int) (w : World) (h0 : 0 ≤ r) (h1 : r < 128) :
    Calls Tryd.prog 109 #[.string s, .int .i32 r] w fun e w' => e = .returned (.bool (decide (0 ≤ Lib.indexByte s.data.toList r.toNat.toUInt8))) ∧ w' = w := Any.strings_ContainsRune_ascii Tryd.lays151 s r w h0 h1
open Go.RowKit Go.Lib in
theorem Tryd.utf8_RuneCountInString_ascii (s : ByteArray) (w : World) (hs : s.size < 4294967281) (hascii : ∀ (j : Nat) b, s.data.toList[j]? = some b → b.toNat < 128) :
    Calls Tryd.prog 135 #[.string s] w fun e w' => e = .returned (.int .i64 s.size) ∧ w' = w.iter s s.size := Any.utf8_RuneCountInString_ascii Tryd.lays195 s w hs hascii
def Tryd.lays227_ren : Go.Shelf.Ren := ⟨fun | 227 => 69 | n => n, fun | 9 => 9 | 116 => 97 | 4 => 4 | 0 => 0 | 3 => 3 | 5 => 5 | n => n, fun | n => n⟩
theorem Tryd.lays227 : Go.Proofs.Lays.n227 Tryd.prog Tryd.lays227_ren := {
  mixed := by kernel_rfl
  f227 := Tryd.func69.trans (congrArg some (by kernel_rfl))
  t0 := Tryd.underlying0
  a0 := Tryd.isAgg0
  z0 := Tryd.sizeOf0
  v0 := Tryd.zeroValue0
  t3 := Tryd.underlying3
  a3 := Tryd.isAgg3
  z3 := Tryd.sizeOf3
  v3 := Tryd.zeroValue3
  t4 := Tryd.underlying4
  a4 := Tryd.isAgg4
  z4 := Tryd.sizeOf4
  v4 := Tryd.zeroValue4
  t5 := Tryd.underlying5
  a5 := Tryd.isAgg5
  z5 := Tryd.sizeOf5
  v5 := Tryd.zeroValue5
  t9 := Tryd.underlying9
  a9 := Tryd.isAgg9
  z9 := Tryd.sizeOf9
  v9 := Tryd.zeroValue9
  t116 := Tryd.underlying97
  a116 := Tryd.isAgg97
  z116 := Tryd.sizeOf97 }
open Go.RowKit Go.Lib in
theorem Tryd.strings_makeASCIISet (hv116 : ∀ w, (zeroValue 97).run Tryd.prog w = .ok (.agg (Array.replicate 256 (.bool false))) w) (chars : ByteArray) (w : World) (hs : chars.size < 4294967281) (hascii : ∀ (j : Nat) b, chars.data.toList[j]? = some b → b.toNat < 128) :
    Calls Tryd.prog 69 #[.string chars] w fun e w' => e = .returned (.tuple #[.agg (Lib.setCells chars.data.toList), .bool true]) ∧ w' = w.alloc (.cells (Lib.setCells chars.data.toList) 97) := Any.strings_makeASCIISet Tryd.lays227 hv116 (by kernel_rfl) chars w hs hascii
def Tryd.lays228_ren : Go.Shelf.Ren := ⟨fun | 228 => 107 | n => n, fun | 124 => 101 | 5 => 5 | 4 => 4 | 0 => 0 | 116 => 97 | n => n, fun | n => n⟩
theorem Tryd.lays228 : Go.Proofs.Lays.n228 Tryd.prog Tryd.lays228_ren := {
  mixed := by kernel_rfl
  f228 := Tryd.func107.trans (congrArg some (by kernel_rfl))
  t0 := Tryd.underlying0
  a0 := Tryd.isAgg0
  z0 := Tryd.sizeOf0
  v0 := Tryd.zeroValue0
  t4 := Tryd.underlying4
  a4 := Tryd.isAgg4
  z4 := Tryd.sizeOf4
  v4 := Tryd.zeroValue4
  t5 := Tryd.underlying5
  a5 := Tryd.isAgg5
  z5 := Tryd.sizeOf5
  v5 := Tryd.zeroValue5
  t116 := Tryd.underlying97
  a116 := Tryd.isAgg97
  z116 := Tryd.sizeOf97
  t124 := Tryd.underlying101
  a124 := Tryd.isAgg101
  z124 := Tryd.sizeOf101
  v124 := Tryd.zeroValue101 }
open Go.RowKit Go.Lib in
theorem Tryd.asciiSet_contains (b : Nat) (x : UInt8) (v : Bool) (w : World) (hc : w.cell? ⟨b, x.toNat, none⟩ = some (.bool v)) :
    Calls Tryd.prog 107 #[.pointer (some ⟨b, 0, none⟩), .int .u8 x.toNat] w fun e w' => e = .returned (.bool v) ∧ w' = w := Any.asciiSet_contains Tryd.lays228 b x v w hc
def Tryd.lays268_ren : Go.Shelf.Ren := ⟨fun | 268 => 104 | 195 => 135 | 197 => 108 | 260 => 137 | n => n, fun | 9 => 9 | 3 => 3 | 31 => 26 | 4 => 4 | 105 => 138 | 21 => 21 | 0 => 0 | 5 => 5 | 119 => 168 | 46 => 145 | 139 => 171 | 138 => 170 | n => n, fun | 3 => 1 | 4 => 2 | n => n⟩
theorem Tryd.lays268 : Go.Proofs.Lays.n268 Tryd.prog Tryd.lays268_ren := {
  mixed := by kernel_rfl
  f195 := Tryd.func135.trans (congrArg some (by kernel_rfl))
  f197 := Tryd.func108.trans (congrArg some (by kernel_rfl))
  f260 := Tryd.func137.trans (congrArg some (by kernel_rfl))
  f268 := Tryd.func104.trans (congrArg some (by kernel_rfl))
  t0 := Tryd.underlying0
  a0 := Tryd.isAgg0
  z0 := Tryd.sizeOf0
  v0 := Tryd.zeroValue0
  t3 := Tryd.underlying3
  a3 := Tryd.isAgg3
  z3 := Tryd.sizeOf3
  v3 := Tryd.zeroValue3
  t4 := Tryd.underlying4
  a4 := Tryd.isAgg4
  z4 := Tryd.sizeOf4
  v4 := Tryd.zeroValue4
  t5 := Tryd.underlying5
  a5 := Tryd.isAgg5
  z5 := Tryd.sizeOf5
  v5 := Tryd.zeroValue5
  t9 := Tryd.underlying9
  a9 := Tryd.isAgg9
  z9 := Tryd.sizeOf9
  v9 := Tryd.zeroValue9
  t21 := Tryd.underlying21
  a21 := Tryd.isAgg21
  z21 := Tryd.sizeOf21
  v21 := Tryd.zeroValue21
  t31 := Tryd.underlying26
  a31 := Tryd.isAgg26
  z31 := Tryd.sizeOf26
  v31 := Tryd.zeroValue26
  t46 := Tryd.underlying145
  a46 := Tryd.isAgg145
  z46 := Tryd.sizeOf145
  v46 := Tryd.zeroValue145
  t105 := Tryd.underlying138
  a105 := Tryd.isAgg138
  z105 := Tryd.sizeOf138
  v105 := Tryd.zeroValue138
  t119 := Tryd.underlying168
  a119 := Tryd.isAgg168
  z119 := Tryd.sizeOf168
  t138 := Tryd.underlying170
  a138 := Tryd.isAgg170
  z138 := Tryd.sizeOf170
  v138 := Tryd.zeroValue170
  t139 := Tryd.underlying171
  a139 := Tryd.isAgg171
  z139 := Tryd.sizeOf171
  v139 := Tryd.zeroValue171
  g3 := by kernel_rfl
  g4 := by kernel_rfl }
open Go.RowKit Go.Lib in
theorem Tryd.strings_explode_all (s : ByteArray) (n : Int) (w : World) (hn : n < 0) (hs : s.size < 4294967281) (hascii : ∀ (j : Nat) b, s.data.toList[j]? = some b → b.toNat < 128) :
    Calls Tryd.prog 104 #[.string s, .int .i64 n] w fun e w' =>
      e = .returned (.slice (some ⟨(w.iter s s.size).heap.size, 0, none⟩) s.size s.size) ∧ w' = (w.iter s s.size).alloc (.cells ((Lib.charsB s).map Value.string).toArray 9) := Any.strings_explode_all Tryd.lays268 (by kernel_rfl) s n w hn hs hascii
open Go.RowKit Go.Lib in
theorem Tryd.strings_genSplit_chars (s sep : ByteArray) (sv n : Int) (w : World) (h0 : sep.size = 0) (hn : n < 0) (hs : s.size < 4294967281) (hascii : ∀ (j : Nat) b, s.data.toList[j]? = some b → b.toNat < 128) :
    Calls Tryd.prog 66 #[.string s, .string sep, .int .i64 sv, .int .i64 n] w fun e w' =>
      e = .returned (.slice (some ⟨(w.iter s s.size).heap.size, 0, none⟩) s.size s.size) ∧ w' = (w.iter s s.size).alloc (.cells ((Lib.charsB s).map Value.string).toArray 9) := Any.strings_genSplit_chars Tryd.lays221 (by kernel_rfl) s sep sv n w h0 hn hs hascii
open Go.RowKit Go.Lib in
theorem Tryd.strings_Split_chars (s sep : ByteArray) (w : World) (h0 : sep.size = 0) (hs : s.size < 4294967281) (hascii : ∀ (j : Nat) b, s.data.toList[j]? = some b → b.toNat < 128) :
    Calls Tryd.prog 32 #[.string s, .string sep] w fun e w' =>
      e = .returned (.slice (some ⟨(w.iter s s.size).heap.size, 0, none⟩) s.size s.size) ∧ w' = (w.iter s s.size).alloc (.cells ((Lib.charsB s).map Value.string).toArray 9) := Any.strings_Split_chars Tryd.lays146 (by kernel_rfl) s sep w h0 hs hascii
def Tryd.lays260_ren : Go.Shelf.Ren := ⟨fun | 260 => 137 | n => n, fun | 9 => 9 | 21 => 21 | 3 => 3 | 4 => 4 | 5 => 5 | 119 => 168 | 0 => 0 | 46 => 145 | 139 => 171 | 138 => 170 | n => n, fun | 3 => 1 | 4 => 2 | n => n⟩
theorem Tryd.lays260 : Go.Proofs.Lays.n260 Tryd.prog Tryd.lays260_ren := {
  mixed := by kernel_rfl
  f260 := Tryd.func137.trans (congrArg some (by kernel_rfl))
  t0 := Tryd.underlying0
  a0 := Tryd.isAgg0
  z0 := Tryd.sizeOf0
  v0 := Tryd.zeroValue0
  t3 := Tryd.underlying3
  a3 := Tryd.isAgg3
  z3 := Tryd.sizeOf3
  v3 := Tryd.zeroValue3
  t4 := Tryd.underlying4
  a4 := Tryd.isAgg4
  z4 := Tryd.sizeOf4
  v4 := Tryd.zeroValue4
  t5 := Tryd.underlying5
  a5 := Tryd.isAgg5
  z5 := Tryd.sizeOf5
  v5 := Tryd.zeroValue5
  t9 := Tryd.underlying9
  a9 := Tryd.isAgg9
  z9 := Tryd.sizeOf9
  v9 := Tryd.zeroValue9
  t21 := Tryd.underlying21
  a21 := Tryd.isAgg21
  z21 := Tryd.sizeOf21
  v21 := Tryd.zeroValue21
  t46 := Tryd.underlying145
  a46 := Tryd.isAgg145
  z46 := Tryd.sizeOf145
  v46 := Tryd.zeroValue145
  t119 := Tryd.underlying168
  a119 := Tryd.isAgg168
  z119 := Tryd.sizeOf168
  t138 := Tryd.underlying170
  a138 := Tryd.isAgg170
  z138 := Tryd.sizeOf170
  v138 := Tryd.zeroValue170
  t139 := Tryd.underlying171
  a139 := Tryd.isAgg171
  z139 := Tryd.sizeOf171
  v139 := Tryd.zeroValue171
  g3 := by kernel_rfl
  g4 := by kernel_rfl }
open Go.RowKit Go.Lib in
theorem Tryd.utf8_decodeRuneInStringSlow (s : ByteArray) (w : World) (hT : Lib.Utf8Tabs 1 2 w) :
    Calls Tryd.prog 137 #[.string s] w fun e w' => e = .returned (.tuple #[.int .i32 (Lib.decodeGo s).1, .int .i64 (Lib.decodeGo s).2]) ∧ Below w.heap.size w w' := Any.utf8_decodeRuneInStringSlow Tryd.lays260 s w hT
open Go.RowKit Go.Lib in
theorem Tryd.utf8_DecodeRuneInString (s : ByteArray) (w : World) (hT : Lib.Utf8Tabs 1 2 w) :
    Calls Tryd.prog 108 #[.string s] w fun e w' => e = .returned (.tuple #[.int .i32 (Lib.decodeGo s).1, .int .i64 (Lib.decodeGo s).2]) ∧ Below w.heap.size w w' := Any.utf8_DecodeRuneInString Tryd.lays197 s w hT
def Tryd.lays271_ren : Go.Shelf.Ren := ⟨fun | 271 => 110 | 120 => 139 | 197 => 108 | 260 => 137 | n => n, fun | 9 => 9 | 21 => 21 | 3 => 3 | 4 => 4 | 5 => 5 | 105 => 138 | 119 => 168 | 0 => 0 | 46 => 145 | 139 => 171 | 138 => 170 | n => n, fun | 3 => 1 | 4 => 2 | n => n⟩
theorem Tryd.lays271 : Go.Proofs.Lays.n271 Tryd.prog Tryd.lays271_ren := {
  mixed := by kernel_rfl
  f120 := Tryd.func139.trans (congrArg some (by kernel_rfl))
  f197 := Tryd.func108.trans (congrArg some (by kernel_rfl))
  f260 := Tryd.func137.trans (congrArg some (by kernel_rfl))
  f271 := Tryd.func110.trans (congrArg some (by kernel_rfl))
  t0 := Tryd.underlying0
  a0 := Tryd.isAgg0
  z0 := Tryd.sizeOf0
  v0 := Tryd.zeroValue0
  t3 := Tryd.underlying3
  a3 := Tryd.isAgg3
  z3 := Tryd.sizeOf3
  v3 := Tryd.zeroValue3
  t4 := Tryd.underlying4
  a4 := Tryd.isAgg4
  z4 := Tryd.sizeOf4
  v4 := Tryd.zeroValue4
  t5 := Tryd.underlying5
  a5 := Tryd.isAgg5
  z5 := Tryd.sizeOf5
  v5 := Tryd.zeroValue5
  t9 := Tryd.underlying9
  a9 := Tryd.isAgg9
  z9 := Tryd.sizeOf9
  v9 := Tryd.zeroValue9
  t21 := Tryd.underlying21
  a21 := Tryd.isAgg21
  z21 := Tryd.sizeOf21
  v21 := Tryd.zeroValue21
  t46 := Tryd.underlying145
  a46 := Tryd.isAgg145
  z46 := Tryd.sizeOf145
  v46 := Tryd.zeroValue145
  t105 := Tryd.underlying138
  a105 := Tryd.isAgg138
  z105 := Tryd.sizeOf138
  v105 := Tryd.zeroValue138
  t119 := Tryd.underlying168
  a119 := Tryd.isAgg168
  z119 := Tryd.sizeOf168
  t138 := Tryd.underlying170
  a138 := Tryd.isAgg170
  z138 := Tryd.sizeOf170
  v138 := Tryd.zeroValue170
  t139 := Tryd.underlying171
  a139 := Tryd.isAgg171
  z139 := Tryd.sizeOf171
  v139 := Tryd.zeroValue171
  g3 := by kernel_rfl
  g4 := by kernel_rfl }
open Go.RowKit Go.Lib in
theorem Tryd.utf8_DecodeLastRuneInString (s : ByteArray) (w : World) (hs : s.size ≤ 9223372036854775807) (hT : Lib.Utf8Tabs 1 2 w) :
    Calls Tryd.prog 110 #[.string s] w fun e w' => e = .returned (.tuple #[.int .i32 (Lib.decodeLastL s.data.toList).1, .int .i64 (Lib.decodeLastL s.data.toList).2]) ∧ Below w.heap.size w w' := Any.utf8_DecodeLastRuneInString Tryd.lays271 s w hs hT
def Tryd.laysPa45_ren : Go.Shelf.Ren := ⟨fun | 45 => 75 | n => n, fun | 9 => 9 | 5 => 5 | 3 => 3 | 4 => 4 | n => n, fun | n => n⟩
theorem Tryd.laysPa45 : Go.Proofs.Lays.p45 Tryd.prog Tryd.laysPa45_ren := {
  mixed := by kernel_rfl
  f45 := Tryd.func75.trans (congrArg some (by kernel_rfl))
  t3 := Tryd.underlying3
  a3 := Tryd.isAgg3
  z3 := Tryd.sizeOf3
  v3 := Tryd.zeroValue3
  t4 := Tryd.underlying4
  a4 := Tryd.isAgg4
  z4 := Tryd.sizeOf4
  v4 := Tryd.zeroValue4
  t5 := Tryd.underlying5
  a5 := Tryd.isAgg5
  z5 := Tryd.sizeOf5
  v5 := Tryd.zeroValue5
  t9 := Tryd.underlying9
  a9 := Tryd.isAgg9
  z9 := Tryd.sizeOf9
  v9 := Tryd.zeroValue9 }
open Go.RowKit Go.Lib in
theorem Tryd.bytealg_LastIndexByteString (s : ByteArray) (c : UInt8) (w : World) (hs : s.size ≤ 9223372036854775807) :
    Calls Tryd.prog 75 #[.string s, .int .u8 c.toNat] w fun e w' => e = .returned (.int .i64 (Pa.lastIndexByte s.data.toList c)) ∧ w' = w := Any.bytealg_LastIndexByteString Tryd.laysPa45 s c w hs
end Go.Proofs
