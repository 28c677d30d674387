/- DERIVED: THE SHELF's CONTRACTS AT THIS DUMP, IN PLAIN WORDS (tools/lay-plain.mjs out of 'YtamcchdblglfoaaLyQ.lean', which tools/lay-shelf.mjs wrote): THE SAME DECLARATIONS UNDER THE SAME NAMES: 'import', 'namespace', 'open', 'def', 'theorem' AND NOTHING ELSE: no command of the shelf's: FOR A HAND-IN. Each laying: the table of numbers ('.._ren') and one theorem, a field a fact of the dump's own or the kernel's comparison; each contract: ONE APPLICATION. -/
import Derived.Ground.SlsfProg
import Derived.Shelf.SlGeneric
import Derived.Shelf.SlLaysF0
import Derived.Test.YtamcchdblglfoaaProg
namespace Go.Proofs
open Go.Shelf
def Try.layQ_ren : Go.Shelf.Ren := ⟨fun | 6 => 92 | 15 => 101 | 14 => 103 | 28 => 112 | 29 => 113 | 20 => 114 | 21 => 115 | 22 => 116 | 23 => 117 | 24 => 118 | 25 => 119 | 26 => 120 | 27 => 121 | 46 => 127 | 47 => 123 | 48 => 124 | 49 => 128 | 50 => 129 | 57 => 131 | n => n, fun | 22 => 26 | 24 => 44 | 25 => 45 | 3 => 3 | 39 => 176 | 0 => 0 | 53 => 187 | 55 => 41 | 4 => 4 | 46 => 181 | 45 => 180 | 50 => 49 | 5 => 5 | 9 => 9 | 66 => 194 | 70 => 198 | 76 => 202 | 77 => 203 | n => n, fun | n => n⟩
theorem Try.layQ : Go.Proofs.SlLaysF0.n6 Try.prog Try.layQ_ren := {
  mixed := by kernel_rfl
  f6 := ⟨Try.f92.name, by decide, Try.func92.trans (congrArg some (by kernel_rfl))⟩
  f14 := ⟨Try.f103.name, by decide, Try.func103.trans (congrArg some (by kernel_rfl))⟩
  f15 := Try.func101.trans (congrArg some (by kernel_rfl))
  f20 := ⟨Try.f114.name, by decide, Try.func114.trans (congrArg some (by kernel_rfl))⟩
  f21 := ⟨Try.f115.name, by decide, Try.func115.trans (congrArg some (by kernel_rfl))⟩
  f22 := ⟨Try.f116.name, by decide, Try.func116.trans (congrArg some (by kernel_rfl))⟩
  f23 := ⟨Try.f117.name, by decide, Try.func117.trans (congrArg some (by kernel_rfl))⟩
  f24 := ⟨Try.f118.name, by decide, Try.func118.trans (congrArg some (by kernel_rfl))⟩
  f25 := ⟨Try.f119.name, by decide, Try.func119.trans (congrArg some (by kernel_rfl))⟩
  f26 := ⟨Try.f120.name, by decide, Try.func120.trans (congrArg some (by kernel_rfl))⟩
  f27 := ⟨Try.f121.name, by decide, Try.func121.trans (congrArg some (by kernel_rfl))⟩
  f28 := Try.func112.trans (congrArg some (by kernel_rfl))
  f29 := Try.func113.trans (congrArg some (by kernel_rfl))
  f46 := ⟨Try.f127.name, by decide, Try.func127.trans (congrArg some (by kernel_rfl))⟩
  f47 := Try.func123.trans (congrArg some (by kernel_rfl))
  f48 := Try.func124.trans (congrArg some (by kernel_rfl))
  f49 := ⟨Try.f128.name, by decide, Try.func128.trans (congrArg some (by kernel_rfl))⟩
  f50 := ⟨Try.f129.name, by decide, Try.func129.trans (congrArg some (by kernel_rfl))⟩
  f57 := ⟨Try.f131.name, by decide, Try.func131.trans (congrArg some (by kernel_rfl))⟩
  t0 := Try.underlying0
  a0 := Try.isAgg0
  z0 := Try.sizeOf0
  v0 := Try.zeroValue0
  t3 := Try.underlying3
  a3 := Try.isAgg3
  z3 := Try.sizeOf3
  v3 := Try.zeroValue3
  t4 := Try.underlying4
  a4 := Try.isAgg4
  z4 := Try.sizeOf4
  v4 := Try.zeroValue4
  t5 := Try.underlying5
  a5 := Try.isAgg5
  z5 := Try.sizeOf5
  v5 := Try.zeroValue5
  t9 := Try.underlying9
  a9 := Try.isAgg9
  z9 := Try.sizeOf9
  v9 := Try.zeroValue9
  t22 := Try.underlying26
  a22 := Try.isAgg26
  z22 := Try.sizeOf26
  v22 := Try.zeroValue26
  t25 := Try.underlying45
  a25 := Try.isAgg45
  z25 := Try.sizeOf45
  v25 := Try.zeroValue45
  t39 := Try.underlying176
  a39 := Try.isAgg176
  z39 := Try.sizeOf176
  v39 := Try.zeroValue176
  t45 := Try.underlying180
  a45 := Try.isAgg180
  z45 := Try.sizeOf180
  v45 := Try.zeroValue180
  t46 := Try.underlying181
  a46 := Try.isAgg181
  z46 := Try.sizeOf181
  v46 := Try.zeroValue181
  t50 := Try.underlying49
  a50 := Try.isAgg49
  z50 := Try.sizeOf49
  v50 := Try.zeroValue49
  t53 := Try.underlying187
  a53 := Try.isAgg187
  z53 := Try.sizeOf187
  v53 := Try.zeroValue187
  t55 := Try.underlying41
  a55 := Try.isAgg41
  z55 := Try.sizeOf41
  v55 := Try.zeroValue41
  t66 := Try.underlying194
  a66 := Try.isAgg194
  z66 := Try.sizeOf194
  v66 := Try.zeroValue194
  t70 := Try.underlying198
  a70 := Try.isAgg198
  z70 := Try.sizeOf198
  v70 := Try.zeroValue198
  t76 := Try.underlying202
  a76 := Try.isAgg202
  z76 := Try.sizeOf202
  v76 := Try.zeroValue202
  t77 := Try.underlying203
  a77 := Try.isAgg203
  z77 := Try.sizeOf203
  v77 := Try.zeroValue203 }
end Go.Proofs
