/-
  DERIVED: THE SHELF's CONTRACTS AT THIS DUMP, IN PLAIN WORDS (tools/lay-plain.mjs out of 'TrydShelf.lean', which tools/lay-shelf.mjs wrote): THE SAME DECLARATIONS UNDER THE SAME NAMES: 'import', 'namespace', 'open', 'def', 'theorem' AND NOTHING ELSE: no command of the shelf's: FOR A HAND-IN. Each laying: the table of numbers ('.._ren') and one theorem, a field a fact of the dump's own or the kernel's comparison; each contract: ONE APPLICATION.
-/
import Derived.Shelf.SlGeneric
import Derived.Shelf.SlicesG.Turned
import Derived.Shelf.SlicesG.Cells
import Derived.Shelf.Spec.TrailingZeros
import Derived.Test.YtghefhmncpmflaaDoorProg
namespace Go.Proofs
open Go.Shelf
def Tryd.l29_ren : Go.Shelf.Ren := ⟨fun | 29 => 105 | n => n, fun | 22 => 153 | 23 => 3 | 3 => 3 | 0 => 0 | 4 => 4 | n => n, fun | n => n⟩
theorem Tryd.l29 : Go.Proofs.SlLaysN.n29 Tryd.prog Tryd.l29_ren := {
  mixed := by kernel_rfl
  f29 := ⟨Tryd.f105.name, by decide, Tryd.func105.trans (congrArg some (by kernel_rfl))⟩
  t0 := Tryd.underlying0
  a0 := Tryd.isAgg0
  z0 := Tryd.sizeOf0
  v0 := Tryd.zeroValue0
  t3 := Tryd.underlying3
  a3 := Tryd.isAgg3
  z3 := Tryd.sizeOf3
  v3 := Tryd.zeroValue3
  t4 := Tryd.underlying4
  a4 := Tryd.isAgg4
  z4 := Tryd.sizeOf4
  v4 := Tryd.zeroValue4
  t22 := Tryd.underlying153
  a22 := Tryd.isAgg153
  z22 := Tryd.sizeOf153
  v22 := Tryd.zeroValue153
  t23 := Tryd.underlying3
  a23 := Tryd.isAgg3
  z23 := Tryd.sizeOf3
  v23 := Tryd.zeroValue3 }
def Tryd.l31_ren : Go.Shelf.Ren := ⟨fun | 31 => 104 | 29 => 105 | n => n, fun | 22 => 153 | 23 => 3 | 4 => 4 | 3 => 3 | 0 => 0 | n => n, fun | n => n⟩
theorem Tryd.l31 : Go.Proofs.SlLaysN.n31 Tryd.prog Tryd.l31_ren := {
  mixed := by kernel_rfl
  f29 := ⟨Tryd.f105.name, by decide, Tryd.func105.trans (congrArg some (by kernel_rfl))⟩
  f31 := ⟨Tryd.f104.name, by decide, Tryd.func104.trans (congrArg some (by kernel_rfl))⟩
  t0 := Tryd.underlying0
  a0 := Tryd.isAgg0
  z0 := Tryd.sizeOf0
  v0 := Tryd.zeroValue0
  t3 := Tryd.underlying3
  a3 := Tryd.isAgg3
  z3 := Tryd.sizeOf3
  v3 := Tryd.zeroValue3
  t4 := Tryd.underlying4
  a4 := Tryd.isAgg4
  z4 := Tryd.sizeOf4
  v4 := Tryd.zeroValue4
  t22 := Tryd.underlying153
  a22 := Tryd.isAgg153
  z22 := Tryd.sizeOf153
  v22 := Tryd.zeroValue153
  t23 := Tryd.underlying3
  a23 := Tryd.isAgg3
  z23 := Tryd.sizeOf3
  v23 := Tryd.zeroValue3 }
def Tryd.l45_ren : Go.Shelf.Ren := ⟨fun | 45 => 106 | n => n, fun | 22 => 153 | 23 => 3 | 3 => 3 | 4 => 4 | 0 => 0 | n => n, fun | n => n⟩
theorem Tryd.l45 : Go.Proofs.SlLaysN.n45 Tryd.prog Tryd.l45_ren := {
  mixed := by kernel_rfl
  f45 := ⟨Tryd.f106.name, by decide, Tryd.func106.trans (congrArg some (by kernel_rfl))⟩
  t0 := Tryd.underlying0
  a0 := Tryd.isAgg0
  z0 := Tryd.sizeOf0
  v0 := Tryd.zeroValue0
  t3 := Tryd.underlying3
  a3 := Tryd.isAgg3
  z3 := Tryd.sizeOf3
  v3 := Tryd.zeroValue3
  t4 := Tryd.underlying4
  a4 := Tryd.isAgg4
  z4 := Tryd.sizeOf4
  v4 := Tryd.zeroValue4
  t22 := Tryd.underlying153
  a22 := Tryd.isAgg153
  z22 := Tryd.sizeOf153
  v22 := Tryd.zeroValue153
  t23 := Tryd.underlying3
  a23 := Tryd.isAgg3
  z23 := Tryd.sizeOf3
  v23 := Tryd.zeroValue3
  i23 := by kernel_rfl }
def Tryd.lays7n29_ren : Go.Shelf.Ren := ⟨fun | 29 => 91 | n => n, fun | 22 => 22 | 3 => 3 | 4 => 4 | 25 => 150 | 54 => 174 | 0 => 0 | 5 => 5 | n => n, fun | 1 => 1 | n => n⟩
theorem Tryd.lays7n29 : Go.Proofs.Lays7.n29 Tryd.prog Tryd.lays7n29_ren := {
  mixed := by kernel_rfl
  f29 := Tryd.func91.trans (congrArg some (by kernel_rfl))
  t0 := Tryd.underlying0
  a0 := Tryd.isAgg0
  z0 := Tryd.sizeOf0
  v0 := Tryd.zeroValue0
  i0 := by kernel_rfl
  t3 := Tryd.underlying3
  a3 := Tryd.isAgg3
  z3 := Tryd.sizeOf3
  v3 := Tryd.zeroValue3
  i3 := by kernel_rfl
  t4 := Tryd.underlying4
  a4 := Tryd.isAgg4
  z4 := Tryd.sizeOf4
  v4 := Tryd.zeroValue4
  i4 := by kernel_rfl
  t5 := Tryd.underlying5
  a5 := Tryd.isAgg5
  z5 := Tryd.sizeOf5
  v5 := Tryd.zeroValue5
  i5 := by kernel_rfl
  t22 := Tryd.underlying22
  a22 := Tryd.isAgg22
  z22 := Tryd.sizeOf22
  v22 := Tryd.zeroValue22
  i22 := by kernel_rfl
  t25 := Tryd.underlying150
  a25 := Tryd.isAgg150
  z25 := Tryd.sizeOf150
  v25 := Tryd.zeroValue150
  i25 := by kernel_rfl
  t54 := Tryd.underlying174
  a54 := Tryd.isAgg174
  z54 := Tryd.sizeOf174
  g1 := by kernel_rfl }
end Go.Proofs
