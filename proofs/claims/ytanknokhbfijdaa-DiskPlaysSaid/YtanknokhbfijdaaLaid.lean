/- Contracts of the library laid at this dump, in plain words (written by program). No conditions. -/
import Derived.Shelf.SlIter.Nil
import Derived.Shelf.SortM.Plain
import Derived.Shelf.SortM.SortNone
import Derived.Ground.GgzProg
import Derived.Ground.SlgmProg
import Derived.Test.YtanknokhbfijdaaProg
set_option linter.unusedVariables false
set_option linter.unusedSimpArgs false
/-
  DERIVED: THE SHELF's CONTRACTS AT THIS DUMP, IN PLAIN WORDS (tools/lay-plain.mjs out of 'TryShelf.lean', which tools/lay-shelf.mjs wrote): THE SAME DECLARATIONS UNDER THE SAME NAMES: 'import', 'namespace', 'open', 'def', 'theorem' AND NOTHING ELSE: no command of the shelf's: FOR A HAND-IN. Each laying: the table of numbers ('.._ren') and one theorem, a field a fact of the dump's own or the kernel's comparison; each contract: ONE APPLICATION.
-/
namespace Go.Proofs
open Go.Shelf
def Try.keys52_ren : Go.Shelf.Ren := ⟨fun | 7 => 52 | 10 => 72 | n => n, fun | 23 => 39 | 26 => 9 | 3 => 73 | 28 => 84 | 0 => 0 | 27 => 83 | 33 => 75 | 4 => 4 | n => n, fun | n => n⟩
theorem Try.keys52 : Go.Proofs.SlLaysZ.n7 Try.prog Try.keys52_ren := {
  mixed := by kernel_rfl
  f7 := ⟨Try.f52.name, by decide, Try.func52.trans (congrArg some (by kernel_rfl))⟩
  f10 := ⟨Try.f72.name, by decide, Try.func72.trans (congrArg some (by kernel_rfl))⟩
  t0 := Try.underlying0
  a0 := Try.isAgg0
  z0 := Try.sizeOf0
  v0 := Try.zeroValue0
  t4 := Try.underlying4
  a4 := Try.isAgg4
  z4 := Try.sizeOf4
  v4 := Try.zeroValue4
  t23 := Try.underlying39
  a23 := Try.isAgg39
  z23 := Try.sizeOf39
  v23 := Try.zeroValue39
  t26 := Try.underlying9
  a26 := Try.isAgg9
  z26 := Try.sizeOf9
  v26 := Try.zeroValue9
  t27 := Try.underlying83
  a27 := Try.isAgg83
  z27 := Try.sizeOf83
  v27 := Try.zeroValue83
  t28 := Try.underlying84
  a28 := Try.isAgg84
  z28 := Try.sizeOf84
  v28 := Try.zeroValue84
  t33 := Try.underlying75
  a33 := Try.isAgg75
  z33 := Try.sizeOf75
  v33 := Try.zeroValue75 }
def Try.sorted51_ren : Go.Shelf.Ren := ⟨fun | 6 => 51 | 8 => 70 | 9 => 71 | 11 => 77 | 13 => 79 | 12 => 78 | 23 => 90 | 24 => 91 | 14 => 81 | 15 => 82 | 16 => 83 | 17 => 84 | 18 => 85 | 19 => 86 | 20 => 87 | 21 => 88 | 22 => 89 | 25 => 92 | 26 => 93 | 27 => 94 | 28 => 95 | 29 => 96 | 30 => 97 | 31 => 98 | n => n, fun | 26 => 9 | 28 => 84 | 24 => 42 | 0 => 0 | 3 => 3 | 37 => 114 | 48 => 101 | 50 => 98 | 4 => 4 | 40 => 124 | 39 => 123 | 45 => 129 | 5 => 5 | 9 => 9 | 51 => 133 | 55 => 137 | 57 => 139 | 58 => 140 | 33 => 75 | n => n, fun | n => n⟩
theorem Try.sorted51 : Go.Proofs.SlLaysZ.n6 Try.prog Try.sorted51_ren := {
  mixed := by kernel_rfl
  f6 := ⟨Try.f51.name, by decide, Try.func51.trans (congrArg some (by kernel_rfl))⟩
  f8 := ⟨Try.f70.name, by decide, Try.func70.trans (congrArg some (by kernel_rfl))⟩
  f11 := ⟨Try.f77.name, by decide, Try.func77.trans (congrArg some (by kernel_rfl))⟩
  t0 := Try.underlying0
  a0 := Try.isAgg0
  z0 := Try.sizeOf0
  v0 := Try.zeroValue0
  t24 := Try.underlying42
  a24 := Try.isAgg42
  z24 := Try.sizeOf42
  v24 := Try.zeroValue42
  t26 := Try.underlying9
  a26 := Try.isAgg9
  z26 := Try.sizeOf9
  v26 := Try.zeroValue9
  t28 := Try.underlying84
  a28 := Try.isAgg84
  z28 := Try.sizeOf84
  v28 := Try.zeroValue84
  i26 := by kernel_rfl }
def Try.sort71_ren : Go.Shelf.Ren := ⟨fun | 6 => 71 | 8 => 79 | 9 => 78 | 19 => 90 | 20 => 91 | 21 => 81 | 22 => 82 | 23 => 83 | 24 => 84 | 25 => 85 | 26 => 86 | 27 => 87 | 28 => 88 | 29 => 89 | 36 => 92 | 31 => 93 | 32 => 94 | 37 => 95 | 38 => 96 | 39 => 97 | 41 => 98 | n => n, fun | 27 => 42 | 29 => 9 | 3 => 3 | 32 => 114 | 26 => 42 | 0 => 0 | 44 => 101 | 46 => 98 | 4 => 4 | 36 => 124 | 35 => 123 | 41 => 129 | 5 => 5 | 9 => 9 | 53 => 133 | 57 => 137 | 63 => 139 | 64 => 140 | n => n, fun | n => n⟩
theorem Try.sort71 : Go.Proofs.SlLaysM.n6 Try.prog Try.sort71_ren := {
  mixed := by kernel_rfl
  f6 := ⟨Try.f71.name, by decide, Try.func71.trans (congrArg some (by kernel_rfl))⟩
  f8 := Try.func79.trans (congrArg some (by kernel_rfl))
  f9 := ⟨Try.f78.name, by decide, Try.func78.trans (congrArg some (by kernel_rfl))⟩
  f19 := Try.func90.trans (congrArg some (by kernel_rfl))
  f20 := Try.func91.trans (congrArg some (by kernel_rfl))
  f21 := ⟨Try.f81.name, by decide, Try.func81.trans (congrArg some (by kernel_rfl))⟩
  f22 := ⟨Try.f82.name, by decide, Try.func82.trans (congrArg some (by kernel_rfl))⟩
  f23 := ⟨Try.f83.name, by decide, Try.func83.trans (congrArg some (by kernel_rfl))⟩
  f24 := ⟨Try.f84.name, by decide, Try.func84.trans (congrArg some (by kernel_rfl))⟩
  f25 := ⟨Try.f85.name, by decide, Try.func85.trans (congrArg some (by kernel_rfl))⟩
  f26 := ⟨Try.f86.name, by decide, Try.func86.trans (congrArg some (by kernel_rfl))⟩
  f27 := ⟨Try.f87.name, by decide, Try.func87.trans (congrArg some (by kernel_rfl))⟩
  f28 := ⟨Try.f88.name, by decide, Try.func88.trans (congrArg some (by kernel_rfl))⟩
  f29 := ⟨Try.f89.name, by decide, Try.func89.trans (congrArg some (by kernel_rfl))⟩
  f31 := Try.func93.trans (congrArg some (by kernel_rfl))
  f32 := Try.func94.trans (congrArg some (by kernel_rfl))
  f36 := ⟨Try.f92.name, by decide, Try.func92.trans (congrArg some (by kernel_rfl))⟩
  f37 := ⟨Try.f95.name, by decide, Try.func95.trans (congrArg some (by kernel_rfl))⟩
  f38 := ⟨Try.f96.name, by decide, Try.func96.trans (congrArg some (by kernel_rfl))⟩
  f39 := ⟨Try.f97.name, by decide, Try.func97.trans (congrArg some (by kernel_rfl))⟩
  f41 := ⟨Try.f98.name, by decide, Try.func98.trans (congrArg some (by kernel_rfl))⟩
  t0 := Try.underlying0
  a0 := Try.isAgg0
  z0 := Try.sizeOf0
  v0 := Try.zeroValue0
  t3 := Try.underlying3
  a3 := Try.isAgg3
  z3 := Try.sizeOf3
  v3 := Try.zeroValue3
  t4 := Try.underlying4
  a4 := Try.isAgg4
  z4 := Try.sizeOf4
  v4 := Try.zeroValue4
  t5 := Try.underlying5
  a5 := Try.isAgg5
  z5 := Try.sizeOf5
  v5 := Try.zeroValue5
  t9 := Try.underlying9
  a9 := Try.isAgg9
  z9 := Try.sizeOf9
  v9 := Try.zeroValue9
  t26 := Try.underlying42
  a26 := Try.isAgg42
  z26 := Try.sizeOf42
  v26 := Try.zeroValue42
  t27 := Try.underlying42
  a27 := Try.isAgg42
  z27 := Try.sizeOf42
  v27 := Try.zeroValue42
  t29 := Try.underlying9
  a29 := Try.isAgg9
  z29 := Try.sizeOf9
  v29 := Try.zeroValue9
  t32 := Try.underlying114
  a32 := Try.isAgg114
  z32 := Try.sizeOf114
  v32 := Try.zeroValue114
  t35 := Try.underlying123
  a35 := Try.isAgg123
  z35 := Try.sizeOf123
  v35 := Try.zeroValue123
  t36 := Try.underlying124
  a36 := Try.isAgg124
  z36 := Try.sizeOf124
  v36 := Try.zeroValue124
  t41 := Try.underlying129
  a41 := Try.isAgg129
  z41 := Try.sizeOf129
  v41 := Try.zeroValue129
  t44 := Try.underlying101
  a44 := Try.isAgg101
  z44 := Try.sizeOf101
  v44 := Try.zeroValue101
  t46 := Try.underlying98
  a46 := Try.isAgg98
  z46 := Try.sizeOf98
  v46 := Try.zeroValue98
  t53 := Try.underlying133
  a53 := Try.isAgg133
  z53 := Try.sizeOf133
  v53 := Try.zeroValue133
  t57 := Try.underlying137
  a57 := Try.isAgg137
  z57 := Try.sizeOf137
  v57 := Try.zeroValue137
  t63 := Try.underlying139
  a63 := Try.isAgg139
  z63 := Try.sizeOf139
  v63 := Try.zeroValue139
  t64 := Try.underlying140
  a64 := Try.isAgg140
  z64 := Try.sizeOf140
  v64 := Try.zeroValue140 }
end Go.Proofs
