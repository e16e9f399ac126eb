/-
  DERIVED: THE SHELF's CONTRACTS AT THIS DUMP, IN PLAIN WORDS (tools/lay-plain.mjs out of 'SymDevShelfYtfjloeemhiffgaa.lean', which tools/lay-shelf.mjs wrote): THE SAME DECLARATIONS UNDER THE SAME NAMES: 'import', 'namespace', 'open', 'def', 'theorem' AND NOTHING ELSE: no command of the shelf's: FOR A HAND-IN. Each laying: the table of numbers ('.._ren') and one theorem, a field a fact of the dump's own or the kernel's comparison; each contract: ONE APPLICATION.
-/
import Derived.Shelf.Strings.Builder1
import Derived.Shelf.Strings.Builder2
import Derived.Shelf.Small.Bits
import Derived.Shelf.Strings.BuilderF
import Derived.Shelf.Strconv.Itoa0
import Derived.Shelf.Strings.Prefix
import Derived.Shelf.Bits.Mul64
import Derived.Shelf.Strings.Repeat
import Derived.Test.YtfjloeemhiffgaaProg
namespace Go.Proofs
open Go.Shelf
def Try.lays105_ren : Go.Shelf.Ren := ⟨fun | 105 => 59 | 212 => 100 | 99 => 101 | 165 => 102 | 166 => 97 | 170 => 103 | 169 => 99 | 263 => 122 | 264 => 123 | 206 => 124 | 240 => 119 | 241 => 125 | 276 => 144 | 277 => 145 | n => n, fun | 9 => 9 | 3 => 3 | 4 => 4 | 20 => 20 | 0 => 0 | 46 => 145 | 109 => 146 | 5 => 5 | 72 => 135 | 76 => 141 | 51 => 170 | 146 => 171 | 53 => 22 | 148 => 173 | 70 => 132 | 37 => 133 | 75 => 140 | 127 => 169 | 164 => 188 | 80 => 144 | n => n, fun | n => n⟩
theorem Try.lays105 : Go.Proofs.Lays.n105 Try.prog Try.lays105_ren := {
  mixed := by kernel_rfl
  f99 := Try.func101.trans (congrArg some (by kernel_rfl))
  f105 := Try.func59.trans (congrArg some (by kernel_rfl))
  f165 := Try.func102.trans (congrArg some (by kernel_rfl))
  f166 := Try.func97.trans (congrArg some (by kernel_rfl))
  f169 := Try.func99.trans (congrArg some (by kernel_rfl))
  f170 := Try.func103.trans (congrArg some (by kernel_rfl))
  f206 := Try.func124.trans (congrArg some (by kernel_rfl))
  f212 := Try.func100.trans (congrArg some (by kernel_rfl))
  f240 := Try.func119.trans (congrArg some (by kernel_rfl))
  f241 := Try.func125.trans (congrArg some (by kernel_rfl))
  f263 := Try.func122.trans (congrArg some (by kernel_rfl))
  f264 := Try.func123.trans (congrArg some (by kernel_rfl))
  f276 := Try.func144.trans (congrArg some (by kernel_rfl))
  f277 := Try.func145.trans (congrArg some (by kernel_rfl))
  t0 := Try.underlying0
  a0 := Try.isAgg0
  z0 := Try.sizeOf0
  v0 := Try.zeroValue0
  t3 := Try.underlying3
  a3 := Try.isAgg3
  z3 := Try.sizeOf3
  v3 := Try.zeroValue3
  t4 := Try.underlying4
  a4 := Try.isAgg4
  z4 := Try.sizeOf4
  v4 := Try.zeroValue4
  t5 := Try.underlying5
  a5 := Try.isAgg5
  z5 := Try.sizeOf5
  v5 := Try.zeroValue5
  t9 := Try.underlying9
  a9 := Try.isAgg9
  z9 := Try.sizeOf9
  v9 := Try.zeroValue9
  t20 := Try.underlying20
  a20 := Try.isAgg20
  z20 := Try.sizeOf20
  v20 := Try.zeroValue20
  t37 := Try.underlying133
  a37 := Try.isAgg133
  z37 := Try.sizeOf133
  v37 := Try.zeroValue133
  t46 := Try.underlying145
  a46 := Try.isAgg145
  z46 := Try.sizeOf145
  v46 := Try.zeroValue145
  t51 := Try.underlying170
  a51 := Try.isAgg170
  z51 := Try.sizeOf170
  v51 := Try.zeroValue170
  t53 := Try.underlying22
  a53 := Try.isAgg22
  z53 := Try.sizeOf22
  v53 := Try.zeroValue22
  t70 := Try.underlying132
  a70 := Try.isAgg132
  z70 := Try.sizeOf132
  v70 := Try.zeroValue132
  t72 := Try.underlying135
  a72 := Try.isAgg135
  z72 := Try.sizeOf135
  v72 := Try.zeroValue135
  t75 := Try.underlying140
  a75 := Try.isAgg140
  z75 := Try.sizeOf140
  v75 := Try.zeroValue140
  t76 := Try.underlying141
  a76 := Try.isAgg141
  z76 := Try.sizeOf141
  v76 := Try.zeroValue141
  t109 := Try.underlying146
  a109 := Try.isAgg146
  z109 := Try.sizeOf146
  v109 := Try.zeroValue146
  t127 := Try.underlying169
  a127 := Try.isAgg169
  z127 := Try.sizeOf169
  v127 := Try.zeroValue169
  t146 := Try.underlying171
  a146 := Try.isAgg171
  z146 := Try.sizeOf171
  v146 := Try.zeroValue171
  t148 := Try.underlying173
  a148 := Try.isAgg173
  z148 := Try.sizeOf173
  v148 := Try.zeroValue173
  t164 := Try.underlying188
  a164 := Try.isAgg188
  z164 := Try.sizeOf188
  v164 := Try.zeroValue188 }
theorem Try.Builder_Extra_105 : Builder.Extra Try.prog Try.lays105_ren := {
  sizeBuilder := by kernel_rfl
  liesBuilder := by kernel_rfl
  t5 := Try.underlying5
  a5 := Try.isAgg5
  z5 := Try.sizeOf5
  v5 := Try.zeroValue5
  infoByte := by kernel_rfl
  cellsByte := by kernel_rfl
  sizeByte := by kernel_rfl
  neB5 := by decide }
end Go.Proofs
