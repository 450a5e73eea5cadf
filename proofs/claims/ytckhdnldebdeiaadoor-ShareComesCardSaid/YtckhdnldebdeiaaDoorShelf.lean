/-
  DERIVED: THE SHELF's CONTRACTS AT THIS DUMP, IN PLAIN WORDS (tools/lay-plain.mjs out of 'TrydShelf.lean', which tools/lay-shelf.mjs wrote): THE SAME DECLARATIONS UNDER THE SAME NAMES: 'import', 'namespace', 'open', 'def', 'theorem' AND NOTHING ELSE: no command of the shelf's: FOR A HAND-IN. Each laying: the table of numbers ('.._ren') and one theorem, a field a fact of the dump's own or the kernel's comparison; each contract: ONE APPLICATION.
-/
import Derived.Shelf.Strings.Trim
import Derived.Shelf.Small.Utf8
import Derived.Shelf.Small.Strs
import Derived.Shelf.Strings.Search1
import Derived.Shelf.Unicode.Decode
import Derived.Shelf.Strings.Runes
import Derived.Shelf.Strings.AsciiSet
import Derived.Shelf.Unicode.DecodeSlow
import Derived.Shelf.Unicode.DecodeAny
import Derived.Shelf.Unicode.DecodeLast
import Derived.Test.YtckhdnldebdeiaaDoorProg
namespace Go.Proofs
open Go.Shelf
def Tryd.lays160_ren : Go.Shelf.Ren := ⟨fun | 160 => 14 | 232 => 16 | 231 => 15 | 227 => 17 | 234 => 19 | 233 => 18 | 236 => 21 | 235 => 20 | 228 => 22 | 271 => 25 | 151 => 24 | 197 => 23 | 120 => 28 | 152 => 27 | 260 => 26 | 137 => 29 | 119 => 30 | 224 => 31 | 225 => 32 | 217 => 33 | 266 => 34 | n => n, fun | 9 => 9 | 4 => 4 | 3 => 3 | 5 => 5 | 117 => 43 | 116 => 42 | 0 => 0 | 124 => 46 | 21 => 21 | 105 => 48 | 46 => 53 | 119 => 52 | 139 => 56 | 138 => 55 | n => n, fun | 3 => 0 | 4 => 1 | n => n⟩
theorem Tryd.lays160 : Go.Proofs.Lays.n160 Tryd.prog Tryd.lays160_ren := {
  mixed := by kernel_rfl
  f119 := Tryd.func30.trans (congrArg some (by kernel_rfl))
  f120 := Tryd.func28.trans (congrArg some (by kernel_rfl))
  f137 := Tryd.func29.trans (congrArg some (by kernel_rfl))
  f151 := Tryd.func24.trans (congrArg some (by kernel_rfl))
  f152 := Tryd.func27.trans (congrArg some (by kernel_rfl))
  f160 := Tryd.func14.trans (congrArg some (by kernel_rfl))
  f197 := Tryd.func23.trans (congrArg some (by kernel_rfl))
  f217 := Tryd.func33.trans (congrArg some (by kernel_rfl))
  f224 := Tryd.func31.trans (congrArg some (by kernel_rfl))
  f225 := Tryd.func32.trans (congrArg some (by kernel_rfl))
  f227 := Tryd.func17.trans (congrArg some (by kernel_rfl))
  f228 := Tryd.func22.trans (congrArg some (by kernel_rfl))
  f231 := Tryd.func15.trans (congrArg some (by kernel_rfl))
  f232 := Tryd.func16.trans (congrArg some (by kernel_rfl))
  f233 := Tryd.func18.trans (congrArg some (by kernel_rfl))
  f234 := Tryd.func19.trans (congrArg some (by kernel_rfl))
  f235 := Tryd.func20.trans (congrArg some (by kernel_rfl))
  f236 := Tryd.func21.trans (congrArg some (by kernel_rfl))
  f260 := Tryd.func26.trans (congrArg some (by kernel_rfl))
  f266 := Tryd.func34.trans (congrArg some (by kernel_rfl))
  f271 := Tryd.func25.trans (congrArg some (by kernel_rfl))
  t0 := Tryd.underlying0
  a0 := Tryd.isAgg0
  z0 := Tryd.sizeOf0
  v0 := Tryd.zeroValue0
  t3 := Tryd.underlying3
  a3 := Tryd.isAgg3
  z3 := Tryd.sizeOf3
  v3 := Tryd.zeroValue3
  t4 := Tryd.underlying4
  a4 := Tryd.isAgg4
  z4 := Tryd.sizeOf4
  v4 := Tryd.zeroValue4
  t5 := Tryd.underlying5
  a5 := Tryd.isAgg5
  z5 := Tryd.sizeOf5
  v5 := Tryd.zeroValue5
  t9 := Tryd.underlying9
  a9 := Tryd.isAgg9
  z9 := Tryd.sizeOf9
  v9 := Tryd.zeroValue9
  t21 := Tryd.underlying21
  a21 := Tryd.isAgg21
  z21 := Tryd.sizeOf21
  v21 := Tryd.zeroValue21
  t46 := Tryd.underlying53
  a46 := Tryd.isAgg53
  z46 := Tryd.sizeOf53
  v46 := Tryd.zeroValue53
  t105 := Tryd.underlying48
  a105 := Tryd.isAgg48
  z105 := Tryd.sizeOf48
  v105 := Tryd.zeroValue48
  t116 := Tryd.underlying42
  a116 := Tryd.isAgg42
  z116 := Tryd.sizeOf42
  t117 := Tryd.underlying43
  a117 := Tryd.isAgg43
  z117 := Tryd.sizeOf43
  v117 := Tryd.zeroValue43
  t119 := Tryd.underlying52
  a119 := Tryd.isAgg52
  z119 := Tryd.sizeOf52
  t124 := Tryd.underlying46
  a124 := Tryd.isAgg46
  z124 := Tryd.sizeOf46
  v124 := Tryd.zeroValue46
  t138 := Tryd.underlying55
  a138 := Tryd.isAgg55
  z138 := Tryd.sizeOf55
  v138 := Tryd.zeroValue55
  t139 := Tryd.underlying56
  a139 := Tryd.isAgg56
  z139 := Tryd.sizeOf56
  v139 := Tryd.zeroValue56
  g3 := by kernel_rfl
  g4 := by kernel_rfl }
open Go.RowKit in
/-- strings.Trim: "Trim returns a slice of the string s with all leading and trailing Unicode code points contained in cutset removed.": AT A cutset OF ONE ASCII BYTE. THE WORLD BEHIND IT: as it was, or (where s is not empty) with ONE DRAW MORE off the tape: the statement 'return trimLeftByte(trimRightByte(s, c), c)' draws its order of evaluation. (LAID: no walk: one application.) -/
theorem Tryd.strings_Trim_one (s : ByteArray) (c : UInt8) (hc : c.toNat < 128) (w : World) (hs : s.size ≤ 9223372036854775807) :
    Calls Tryd.prog 14 #[.string s, .string ⟨#[c]⟩] w fun e w' => e = .returned (.string ⟨(Lib.trimB s.data.toList c).toArray⟩) ∧ (w' = w ∨ w' = w.drew) := Any.strings_Trim_one Tryd.lays160 s c hc w hs
end Go.Proofs
