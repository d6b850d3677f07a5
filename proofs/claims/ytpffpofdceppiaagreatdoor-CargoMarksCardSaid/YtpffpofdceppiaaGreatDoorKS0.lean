/- A part of the proof that laganlaw01.CargoMarks answers true at every input and leaves its arguments as they were; the conditions are those of the given row and card, nothing else. -/
import Derived.Shelf.SlSortCmp.WholeK
import Derived.Shelf.SlSortCmp.NoneTotal
import Derived.Ground.SlsfProg
import Derived.Test.YtpffpofdceppiaaGreatDoorProg
/-
  DERIVED: THE SHELF's CONTRACTS AT THIS DUMP, IN PLAIN WORDS (tools/lay-plain.mjs out of 'YtpffpofdceppiaaGreatDoorS0.lean', which tools/lay-shelf.mjs wrote): THE SAME DECLARATIONS UNDER THE SAME NAMES: 'import', 'namespace', 'open', 'def', 'theorem' AND NOTHING ELSE: no command of the shelf's: FOR A HAND-IN. Each laying: the table of numbers ('.._ren') and one theorem, a field a fact of the dump's own or the kernel's comparison; each contract: ONE APPLICATION.
-/
namespace Go.Proofs
open Go.Shelf
def Tryz.sortPapers_ren : Go.Shelf.Ren := ⟨fun | 6 => 191 | 15 => 211 | 14 => 210 | 28 => 234 | 29 => 216 | 20 => 226 | 21 => 227 | 22 => 228 | 23 => 229 | 24 => 230 | 25 => 231 | 26 => 232 | 27 => 233 | 46 => 250 | 47 => 251 | 48 => 252 | 49 => 253 | 50 => 254 | 57 => 260 | n => n, fun | 22 => 30 | 24 => 28 | 25 => 191 | 3 => 3 | 39 => 196 | 0 => 0 | 53 => 211 | 55 => 198 | 4 => 4 | 46 => 227 | 45 => 226 | 50 => 136 | 5 => 5 | 9 => 9 | 66 => 244 | 70 => 248 | 76 => 262 | 77 => 263 | n => n, fun | n => n⟩
theorem Tryz.sortPapers : Go.Proofs.SlLaysF0.n6 Tryz.prog Tryz.sortPapers_ren := {
  mixed := by kernel_rfl
  f6 := ⟨Tryz.f191.name, by decide, Tryz.func191.trans (congrArg some (by kernel_rfl))⟩
  f14 := ⟨Tryz.f210.name, by decide, Tryz.func210.trans (congrArg some (by kernel_rfl))⟩
  f15 := Tryz.func211.trans (congrArg some (by kernel_rfl))
  f20 := ⟨Tryz.f226.name, by decide, Tryz.func226.trans (congrArg some (by kernel_rfl))⟩
  f21 := ⟨Tryz.f227.name, by decide, Tryz.func227.trans (congrArg some (by kernel_rfl))⟩
  f22 := ⟨Tryz.f228.name, by decide, Tryz.func228.trans (congrArg some (by kernel_rfl))⟩
  f23 := ⟨Tryz.f229.name, by decide, Tryz.func229.trans (congrArg some (by kernel_rfl))⟩
  f24 := ⟨Tryz.f230.name, by decide, Tryz.func230.trans (congrArg some (by kernel_rfl))⟩
  f25 := ⟨Tryz.f231.name, by decide, Tryz.func231.trans (congrArg some (by kernel_rfl))⟩
  f26 := ⟨Tryz.f232.name, by decide, Tryz.func232.trans (congrArg some (by kernel_rfl))⟩
  f27 := ⟨Tryz.f233.name, by decide, Tryz.func233.trans (congrArg some (by kernel_rfl))⟩
  f28 := Tryz.func234.trans (congrArg some (by kernel_rfl))
  f29 := Tryz.func216.trans (congrArg some (by kernel_rfl))
  f46 := ⟨Tryz.f250.name, by decide, Tryz.func250.trans (congrArg some (by kernel_rfl))⟩
  f47 := Tryz.func251.trans (congrArg some (by kernel_rfl))
  f48 := Tryz.func252.trans (congrArg some (by kernel_rfl))
  f49 := ⟨Tryz.f253.name, by decide, Tryz.func253.trans (congrArg some (by kernel_rfl))⟩
  f50 := ⟨Tryz.f254.name, by decide, Tryz.func254.trans (congrArg some (by kernel_rfl))⟩
  f57 := ⟨Tryz.f260.name, by decide, Tryz.func260.trans (congrArg some (by kernel_rfl))⟩
  t0 := Tryz.underlying0
  a0 := Tryz.isAgg0
  z0 := Tryz.sizeOf0
  v0 := Tryz.zeroValue0
  t3 := Tryz.underlying3
  a3 := Tryz.isAgg3
  z3 := Tryz.sizeOf3
  v3 := Tryz.zeroValue3
  t4 := Tryz.underlying4
  a4 := Tryz.isAgg4
  z4 := Tryz.sizeOf4
  v4 := Tryz.zeroValue4
  t5 := Tryz.underlying5
  a5 := Tryz.isAgg5
  z5 := Tryz.sizeOf5
  v5 := Tryz.zeroValue5
  t9 := Tryz.underlying9
  a9 := Tryz.isAgg9
  z9 := Tryz.sizeOf9
  v9 := Tryz.zeroValue9
  t22 := Tryz.underlying30
  a22 := Tryz.isAgg30
  z22 := Tryz.sizeOf30
  v22 := Tryz.zeroValue30
  t25 := Tryz.underlying191
  a25 := Tryz.isAgg191
  z25 := Tryz.sizeOf191
  v25 := Tryz.zeroValue191
  t39 := Tryz.underlying196
  a39 := Tryz.isAgg196
  z39 := Tryz.sizeOf196
  v39 := Tryz.zeroValue196
  t45 := Tryz.underlying226
  a45 := Tryz.isAgg226
  z45 := Tryz.sizeOf226
  v45 := Tryz.zeroValue226
  t46 := Tryz.underlying227
  a46 := Tryz.isAgg227
  z46 := Tryz.sizeOf227
  v46 := Tryz.zeroValue227
  t50 := Tryz.underlying136
  a50 := Tryz.isAgg136
  z50 := Tryz.sizeOf136
  v50 := Tryz.zeroValue136
  t53 := Tryz.underlying211
  a53 := Tryz.isAgg211
  z53 := Tryz.sizeOf211
  v53 := Tryz.zeroValue211
  t55 := Tryz.underlying198
  a55 := Tryz.isAgg198
  z55 := Tryz.sizeOf198
  v55 := Tryz.zeroValue198
  t66 := Tryz.underlying244
  a66 := Tryz.isAgg244
  z66 := Tryz.sizeOf244
  v66 := Tryz.zeroValue244
  t70 := Tryz.underlying248
  a70 := Tryz.isAgg248
  z70 := Tryz.sizeOf248
  v70 := Tryz.zeroValue248
  t76 := Tryz.underlying262
  a76 := Tryz.isAgg262
  z76 := Tryz.sizeOf262
  v76 := Tryz.zeroValue262
  t77 := Tryz.underlying263
  a77 := Tryz.isAgg263
  z77 := Tryz.sizeOf263
  v77 := Tryz.zeroValue263 }
end Go.Proofs
