/-
  DERIVED: THE SHELF's CONTRACTS AT THIS DUMP, IN PLAIN WORDS (tools/lay-plain.mjs out of 'TrydIter.lean', which tools/lay-shelf.mjs wrote): THE SAME DECLARATIONS UNDER THE SAME NAMES: 'import', 'namespace', 'open', 'def', 'theorem' AND NOTHING ELSE: no command of the shelf's: FOR A HAND-IN. Each laying: the table of numbers ('.._ren') and one theorem, a field a fact of the dump's own or the kernel's comparison; each contract: ONE APPLICATION.
-/
import Derived.Shelf.SlGeneric
import Derived.Shelf.SlIterI.Nil
import Derived.Ground.GgzProg
import Derived.Ground.SlgnProg
import Derived.Shelf.SlicesE.Clone
import Derived.Test.YtbgodajbdbgdfaaDoorProg
namespace Go.Proofs
open Go.Shelf
def Tryd.keysA_ren : Go.Shelf.Ren := ⟨fun | 7 => 60 | 10 => 68 | n => n, fun | 23 => 68 | 26 => 3 | 3 => 63 | 28 => 90 | 0 => 0 | 27 => 89 | 33 => 55 | 4 => 4 | n => n, fun | n => n⟩
theorem Tryd.keysA : Go.Proofs.SlLaysZI.n7 Tryd.prog Tryd.keysA_ren := {
  mixed := by kernel_rfl
  f7 := ⟨Tryd.f60.name, by decide, Tryd.func60.trans (congrArg some (by kernel_rfl))⟩
  f10 := ⟨Tryd.f68.name, by decide, Tryd.func68.trans (congrArg some (by kernel_rfl))⟩
  t0 := Tryd.underlying0
  a0 := Tryd.isAgg0
  z0 := Tryd.sizeOf0
  v0 := Tryd.zeroValue0
  t4 := Tryd.underlying4
  a4 := Tryd.isAgg4
  z4 := Tryd.sizeOf4
  v4 := Tryd.zeroValue4
  t23 := Tryd.underlying68
  a23 := Tryd.isAgg68
  z23 := Tryd.sizeOf68
  v23 := Tryd.zeroValue68
  t26 := Tryd.underlying3
  a26 := Tryd.isAgg3
  z26 := Tryd.sizeOf3
  v26 := Tryd.zeroValue3
  t27 := Tryd.underlying89
  a27 := Tryd.isAgg89
  z27 := Tryd.sizeOf89
  v27 := Tryd.zeroValue89
  t28 := Tryd.underlying90
  a28 := Tryd.isAgg90
  z28 := Tryd.sizeOf90
  v28 := Tryd.zeroValue90
  t33 := Tryd.underlying55
  a33 := Tryd.isAgg55
  z33 := Tryd.sizeOf55
  v33 := Tryd.zeroValue55 }
def Tryd.sortedA_ren : Go.Shelf.Ren := ⟨fun | 6 => 59 | 8 => 66 | 9 => 67 | 11 => 70 | 13 => 72 | 12 => 71 | 23 => 82 | 24 => 83 | 14 => 73 | 15 => 74 | 16 => 75 | 17 => 76 | 18 => 77 | 19 => 78 | 20 => 79 | 21 => 80 | 22 => 81 | 25 => 84 | 26 => 85 | 27 => 86 | 28 => 87 | 29 => 88 | 30 => 89 | 31 => 90 | n => n, fun | 26 => 3 | 28 => 90 | 24 => 36 | 0 => 0 | 3 => 3 | 37 => 101 | 48 => 25 | 50 => 93 | 4 => 4 | 40 => 107 | 39 => 106 | 45 => 32 | 5 => 5 | 9 => 9 | 51 => 113 | 55 => 117 | 57 => 119 | 58 => 120 | 33 => 55 | n => n, fun | n => n⟩
theorem Tryd.sortedA : Go.Proofs.SlLaysZI.n6 Tryd.prog Tryd.sortedA_ren := {
  mixed := by kernel_rfl
  f6 := ⟨Tryd.f59.name, by decide, Tryd.func59.trans (congrArg some (by kernel_rfl))⟩
  f8 := ⟨Tryd.f66.name, by decide, Tryd.func66.trans (congrArg some (by kernel_rfl))⟩
  f11 := ⟨Tryd.f70.name, by decide, Tryd.func70.trans (congrArg some (by kernel_rfl))⟩
  t0 := Tryd.underlying0
  a0 := Tryd.isAgg0
  z0 := Tryd.sizeOf0
  v0 := Tryd.zeroValue0
  t24 := Tryd.underlying36
  a24 := Tryd.isAgg36
  z24 := Tryd.sizeOf36
  v24 := Tryd.zeroValue36
  t26 := Tryd.underlying3
  a26 := Tryd.isAgg3
  z26 := Tryd.sizeOf3
  v26 := Tryd.zeroValue3
  t28 := Tryd.underlying90
  a28 := Tryd.isAgg90
  z28 := Tryd.sizeOf90
  v28 := Tryd.zeroValue90
  i26 := by kernel_rfl }
def Tryd.cloneA_ren : Go.Shelf.Ren := ⟨fun | 41 => 36 | n => n, fun | 22 => 34 | 23 => 73 | 4 => 4 | n => n, fun | n => n⟩
theorem Tryd.cloneA : Go.Proofs.SlLaysE0.n41 Tryd.prog Tryd.cloneA_ren := {
  mixed := by kernel_rfl
  f41 := ⟨Tryd.f36.name, by decide, Tryd.func36.trans (congrArg some (by kernel_rfl))⟩
  t4 := Tryd.underlying4
  a4 := Tryd.isAgg4
  z4 := Tryd.sizeOf4
  v4 := Tryd.zeroValue4
  t22 := Tryd.underlying34
  a22 := Tryd.isAgg34
  z22 := Tryd.sizeOf34
  v22 := Tryd.zeroValue34 }
end Go.Proofs
