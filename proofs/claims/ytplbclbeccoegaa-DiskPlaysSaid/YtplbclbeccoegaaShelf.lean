/-
  DERIVED: THE SHELF's CONTRACTS AT THIS DUMP, IN PLAIN WORDS (tools/lay-plain.mjs out of 'TryDShelf.lean', which tools/lay-shelf.mjs wrote): THE SAME DECLARATIONS UNDER THE SAME NAMES: 'import', 'namespace', 'open', 'def', 'theorem' AND NOTHING ELSE: no command of the shelf's: FOR A HAND-IN. Each laying: the table of numbers ('.._ren') and one theorem, a field a fact of the dump's own or the kernel's comparison; each contract: ONE APPLICATION.
-/
import Derived.Ground.SlbCloneProg
import Derived.Shelf.Bytes.SlClone
import Derived.Ground.SlgmProg
import Derived.Shelf.SortM.Plain
import Derived.Shelf.SlIter.Nil
import Derived.Shelf.SortM.SortNone
import Derived.Ground.GgzProg
import Derived.Shelf.Spec.SlicesGrow
import Derived.Ground.Names8Prog
import Derived.Shelf.SlGeneric
import Derived.Test.YtplbclbeccoegaaProg
namespace Go.Proofs
open Go.Shelf
def Try.laysSlK4_ren : Go.Shelf.Ren := ⟨fun | 4 => 35 | n => n, fun | 22 => 33 | 4 => 4 | 5 => 5 | n => n, fun | n => n⟩
theorem Try.laysSlK4 : Go.Proofs.SlLaysK.n4 Try.prog Try.laysSlK4_ren := {
  mixed := by kernel_rfl
  f4 := Try.func35.trans (congrArg some (by kernel_rfl))
  t4 := Try.underlying4
  a4 := Try.isAgg4
  z4 := Try.sizeOf4
  v4 := Try.zeroValue4
  t22 := Try.underlying33
  a22 := Try.isAgg33
  z22 := Try.sizeOf33
  v22 := Try.zeroValue33
  t5 := Try.underlying5
  i5 := by kernel_rfl }
open Go.RowKit Go.Lib in
/-- bytes.Clone: "Clone returns a copy of b[:len(b)]. The result may have additional unused capacity.": OF A SLICE THAT IS NOT nil IT RETURNS A SLICE THAT IS NOT nil, OF THE SAME BYTES, IN MEMORY OF THE CALL's OWN: in the how-to's words (6f): 'w'.ownsRow B e 1 v' n cells' · 'Below B w w'', B the heap's size at the call. b AT WHATEVER ADDRESS, its cells as 'open_ints' hands them ('a.add i'; the numbers 'xs'). No byte: no cell is asked for. (LAID: no walk: one application.) -/
theorem Try.bytes_Clone_at (a : Addr) (n c : Nat) (xs : List Int) (w : World) (hx : xs.length = n) (hbig : n ≤ 140737488355328) (hc : ∀ i, i < n → w.cell? (a.add i) = some (.int .u8 (xs.getD i 0))) :
    Calls Try.prog 35 #[.slice (some a) n c] w fun e w' => ∃ v', e = .returned v' ∧ w'.ownsRow w.heap.size 5 1 v' n (xs.map (Value.int .u8)) ∧ v' ≠ .slice none 0 0 ∧ Below w.heap.size w w' := Any.bytes_Clone_at Try.laysSlK4 a n c xs w hx hbig hc
open Go.RowKit Go.Lib in
/-- "Clone(nil) returns nil.": the world is as it was. (LAID: no walk: one application.) -/
theorem Try.bytes_Clone_nil (n c : Nat) (w : World) :
    Calls Try.prog 35 #[.slice none n c] w fun e w' => e = .returned (.slice none 0 0) ∧ w' = w := Any.bytes_Clone_nil Try.laysSlK4 n c w
def Try.keys37_ren : Go.Shelf.Ren := ⟨fun | 7 => 37 | 10 => 46 | n => n, fun | 23 => 53 | 26 => 9 | 3 => 65 | 28 => 69 | 0 => 0 | 27 => 68 | 33 => 49 | 4 => 4 | n => n, fun | n => n⟩
theorem Try.keys37 : Go.Proofs.SlLaysZ.n7 Try.prog Try.keys37_ren := {
  mixed := by kernel_rfl
  f7 := ⟨Try.f37.name, by decide, Try.func37.trans (congrArg some (by kernel_rfl))⟩
  f10 := ⟨Try.f46.name, by decide, Try.func46.trans (congrArg some (by kernel_rfl))⟩
  t0 := Try.underlying0
  a0 := Try.isAgg0
  z0 := Try.sizeOf0
  v0 := Try.zeroValue0
  t4 := Try.underlying4
  a4 := Try.isAgg4
  z4 := Try.sizeOf4
  v4 := Try.zeroValue4
  t23 := Try.underlying53
  a23 := Try.isAgg53
  z23 := Try.sizeOf53
  v23 := Try.zeroValue53
  t26 := Try.underlying9
  a26 := Try.isAgg9
  z26 := Try.sizeOf9
  v26 := Try.zeroValue9
  t27 := Try.underlying68
  a27 := Try.isAgg68
  z27 := Try.sizeOf68
  v27 := Try.zeroValue68
  t28 := Try.underlying69
  a28 := Try.isAgg69
  z28 := Try.sizeOf69
  v28 := Try.zeroValue69
  t33 := Try.underlying49
  a33 := Try.isAgg49
  z33 := Try.sizeOf49
  v33 := Try.zeroValue49 }
def Try.sorted36_ren : Go.Shelf.Ren := ⟨fun | 6 => 36 | 8 => 44 | 9 => 45 | 11 => 48 | 13 => 50 | 12 => 49 | 23 => 60 | 24 => 61 | 14 => 51 | 15 => 52 | 16 => 53 | 17 => 54 | 18 => 55 | 19 => 56 | 20 => 57 | 21 => 58 | 22 => 59 | 25 => 62 | 26 => 63 | 27 => 64 | 28 => 65 | 29 => 66 | 30 => 67 | 31 => 68 | n => n, fun | 26 => 9 | 28 => 69 | 24 => 43 | 0 => 0 | 3 => 3 | 37 => 80 | 48 => 91 | 50 => 93 | 4 => 4 | 40 => 83 | 39 => 82 | 45 => 88 | 5 => 5 | 9 => 9 | 51 => 94 | 55 => 98 | 57 => 100 | 58 => 101 | 33 => 49 | n => n, fun | n => n⟩
theorem Try.sorted36 : Go.Proofs.SlLaysZ.n6 Try.prog Try.sorted36_ren := {
  mixed := by kernel_rfl
  f6 := ⟨Try.f36.name, by decide, Try.func36.trans (congrArg some (by kernel_rfl))⟩
  f8 := ⟨Try.f44.name, by decide, Try.func44.trans (congrArg some (by kernel_rfl))⟩
  f11 := ⟨Try.f48.name, by decide, Try.func48.trans (congrArg some (by kernel_rfl))⟩
  t0 := Try.underlying0
  a0 := Try.isAgg0
  z0 := Try.sizeOf0
  v0 := Try.zeroValue0
  t24 := Try.underlying43
  a24 := Try.isAgg43
  z24 := Try.sizeOf43
  v24 := Try.zeroValue43
  t26 := Try.underlying9
  a26 := Try.isAgg9
  z26 := Try.sizeOf9
  v26 := Try.zeroValue9
  t28 := Try.underlying69
  a28 := Try.isAgg69
  z28 := Try.sizeOf69
  v28 := Try.zeroValue69
  i26 := by kernel_rfl }
def Try.sort45_ren : Go.Shelf.Ren := ⟨fun | 6 => 45 | 8 => 50 | 9 => 49 | 19 => 60 | 20 => 61 | 21 => 51 | 22 => 52 | 23 => 53 | 24 => 54 | 25 => 55 | 26 => 56 | 27 => 57 | 28 => 58 | 29 => 59 | 36 => 62 | 31 => 63 | 32 => 64 | 37 => 65 | 38 => 66 | 39 => 67 | 41 => 68 | n => n, fun | 27 => 43 | 29 => 9 | 3 => 3 | 32 => 80 | 26 => 43 | 0 => 0 | 44 => 91 | 46 => 93 | 4 => 4 | 36 => 83 | 35 => 82 | 41 => 88 | 5 => 5 | 9 => 9 | 53 => 94 | 57 => 98 | 63 => 100 | 64 => 101 | n => n, fun | n => n⟩
theorem Try.sort45 : Go.Proofs.SlLaysM.n6 Try.prog Try.sort45_ren := {
  mixed := by kernel_rfl
  f6 := ⟨Try.f45.name, by decide, Try.func45.trans (congrArg some (by kernel_rfl))⟩
  f8 := Try.func50.trans (congrArg some (by kernel_rfl))
  f9 := ⟨Try.f49.name, by decide, Try.func49.trans (congrArg some (by kernel_rfl))⟩
  f19 := Try.func60.trans (congrArg some (by kernel_rfl))
  f20 := Try.func61.trans (congrArg some (by kernel_rfl))
  f21 := ⟨Try.f51.name, by decide, Try.func51.trans (congrArg some (by kernel_rfl))⟩
  f22 := ⟨Try.f52.name, by decide, Try.func52.trans (congrArg some (by kernel_rfl))⟩
  f23 := ⟨Try.f53.name, by decide, Try.func53.trans (congrArg some (by kernel_rfl))⟩
  f24 := ⟨Try.f54.name, by decide, Try.func54.trans (congrArg some (by kernel_rfl))⟩
  f25 := ⟨Try.f55.name, by decide, Try.func55.trans (congrArg some (by kernel_rfl))⟩
  f26 := ⟨Try.f56.name, by decide, Try.func56.trans (congrArg some (by kernel_rfl))⟩
  f27 := ⟨Try.f57.name, by decide, Try.func57.trans (congrArg some (by kernel_rfl))⟩
  f28 := ⟨Try.f58.name, by decide, Try.func58.trans (congrArg some (by kernel_rfl))⟩
  f29 := ⟨Try.f59.name, by decide, Try.func59.trans (congrArg some (by kernel_rfl))⟩
  f31 := Try.func63.trans (congrArg some (by kernel_rfl))
  f32 := Try.func64.trans (congrArg some (by kernel_rfl))
  f36 := ⟨Try.f62.name, by decide, Try.func62.trans (congrArg some (by kernel_rfl))⟩
  f37 := ⟨Try.f65.name, by decide, Try.func65.trans (congrArg some (by kernel_rfl))⟩
  f38 := ⟨Try.f66.name, by decide, Try.func66.trans (congrArg some (by kernel_rfl))⟩
  f39 := ⟨Try.f67.name, by decide, Try.func67.trans (congrArg some (by kernel_rfl))⟩
  f41 := ⟨Try.f68.name, by decide, Try.func68.trans (congrArg some (by kernel_rfl))⟩
  t0 := Try.underlying0
  a0 := Try.isAgg0
  z0 := Try.sizeOf0
  v0 := Try.zeroValue0
  t3 := Try.underlying3
  a3 := Try.isAgg3
  z3 := Try.sizeOf3
  v3 := Try.zeroValue3
  t4 := Try.underlying4
  a4 := Try.isAgg4
  z4 := Try.sizeOf4
  v4 := Try.zeroValue4
  t5 := Try.underlying5
  a5 := Try.isAgg5
  z5 := Try.sizeOf5
  v5 := Try.zeroValue5
  t9 := Try.underlying9
  a9 := Try.isAgg9
  z9 := Try.sizeOf9
  v9 := Try.zeroValue9
  t26 := Try.underlying43
  a26 := Try.isAgg43
  z26 := Try.sizeOf43
  v26 := Try.zeroValue43
  t27 := Try.underlying43
  a27 := Try.isAgg43
  z27 := Try.sizeOf43
  v27 := Try.zeroValue43
  t29 := Try.underlying9
  a29 := Try.isAgg9
  z29 := Try.sizeOf9
  v29 := Try.zeroValue9
  t32 := Try.underlying80
  a32 := Try.isAgg80
  z32 := Try.sizeOf80
  v32 := Try.zeroValue80
  t35 := Try.underlying82
  a35 := Try.isAgg82
  z35 := Try.sizeOf82
  v35 := Try.zeroValue82
  t36 := Try.underlying83
  a36 := Try.isAgg83
  z36 := Try.sizeOf83
  v36 := Try.zeroValue83
  t41 := Try.underlying88
  a41 := Try.isAgg88
  z41 := Try.sizeOf88
  v41 := Try.zeroValue88
  t44 := Try.underlying91
  a44 := Try.isAgg91
  z44 := Try.sizeOf91
  v44 := Try.zeroValue91
  t46 := Try.underlying93
  a46 := Try.isAgg93
  z46 := Try.sizeOf93
  v46 := Try.zeroValue93
  t53 := Try.underlying94
  a53 := Try.isAgg94
  z53 := Try.sizeOf94
  v53 := Try.zeroValue94
  t57 := Try.underlying98
  a57 := Try.isAgg98
  z57 := Try.sizeOf98
  v57 := Try.zeroValue98
  t63 := Try.underlying100
  a63 := Try.isAgg100
  z63 := Try.sizeOf100
  v63 := Try.zeroValue100
  t64 := Try.underlying101
  a64 := Try.isAgg101
  z64 := Try.sizeOf101
  v64 := Try.zeroValue101 }
def Try.grow47_ren : Go.Shelf.Ren := ⟨fun | 4 => 47 | n => n, fun | 22 => 33 | 25 => 5 | 3 => 3 | 4 => 4 | 9 => 9 | 20 => 20 | 0 => 0 | n => n, fun | n => n⟩
theorem Try.grow47 : Go.Proofs.Lays8.n4 Try.prog Try.grow47_ren := {
  mixed := by kernel_rfl
  f4 := ⟨Try.f47.name, by decide, Try.func47.trans (congrArg some (by kernel_rfl))⟩
  t0 := Try.underlying0
  a0 := Try.isAgg0
  z0 := Try.sizeOf0
  v0 := Try.zeroValue0
  t3 := Try.underlying3
  a3 := Try.isAgg3
  z3 := Try.sizeOf3
  v3 := Try.zeroValue3
  t4 := Try.underlying4
  a4 := Try.isAgg4
  z4 := Try.sizeOf4
  v4 := Try.zeroValue4
  t9 := Try.underlying9
  a9 := Try.isAgg9
  z9 := Try.sizeOf9
  v9 := Try.zeroValue9
  t20 := Try.underlying20
  a20 := Try.isAgg20
  z20 := Try.sizeOf20
  v20 := Try.zeroValue20
  t22 := Try.underlying33
  a22 := Try.isAgg33
  z22 := Try.sizeOf33
  v22 := Try.zeroValue33 }
end Go.Proofs
