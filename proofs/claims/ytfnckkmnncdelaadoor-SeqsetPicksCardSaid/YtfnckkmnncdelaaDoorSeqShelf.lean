/-
  DERIVED: THE SHELF's CONTRACTS AT THIS DUMP, IN PLAIN WORDS (tools/lay-plain.mjs out of 'TrydShelf.lean', which tools/lay-shelf.mjs wrote): THE SAME DECLARATIONS UNDER THE SAME NAMES: 'import', 'namespace', 'open', 'def', 'theorem' AND NOTHING ELSE: no command of the shelf's: FOR A HAND-IN. Each laying: the table of numbers ('.._ren') and one theorem, a field a fact of the dump's own or the kernel's comparison; each contract: ONE APPLICATION.
-/
import Derived.Shelf.Strings.Builder1
import Derived.Shelf.Strings.Builder2
import Derived.Shelf.Small.Utf8
import Derived.Shelf.Strconv.Itoa0
import Derived.Shelf.Strconv.Itoa1
import Derived.Shelf.LaysM
import Derived.Shelf.Strconv.Itoa2
import Derived.Shelf.Strconv.Itoa3
import Derived.Shelf.Strconv.Itoa4
import Derived.Ground.MpProg
import Derived.Shelf.Pu.ParseUintPublic10
import Derived.Shelf.Pu.ErrVarParseUint
import Derived.Shelf.Strings.Search1
import Derived.Shelf.Strings.Search2
import Derived.Shelf.Strings.Search3
import Derived.Shelf.Strings.Cut
import Derived.Shelf.Strings.Count
import Derived.Shelf.Strings.Shaped
import Derived.Shelf.Strings.Split
import Derived.Shelf.Strings.SplitShaped
import Derived.Shelf.Unicode.Latin
import Derived.Shelf.Unicode.DecodeSlow
import Derived.Shelf.Unicode.CaseLookup
import Derived.Shelf.Unicode.CaseConvert
import Derived.Shelf.Unicode.CaseTo
import Derived.Shelf.Unicode.CaseLaid
import Derived.Test.YtfnckkmnncdelaaDoorProg
namespace Go.Proofs
open Go.Shelf
def Tryd.lays283_ren : Go.Shelf.Ren := ⟨fun | 283 => 84 | n => n, fun | 3 => 3 | 9 => 9 | 4 => 4 | n => n, fun | n => n⟩
theorem Tryd.lays283 : Go.Proofs.Lays.n283 Tryd.prog Tryd.lays283_ren := {
  mixed := by kernel_rfl
  f283 := Tryd.func84.trans (congrArg some (by kernel_rfl))
  t3 := Tryd.underlying3
  a3 := Tryd.isAgg3
  z3 := Tryd.sizeOf3
  v3 := Tryd.zeroValue3
  t4 := Tryd.underlying4
  a4 := Tryd.isAgg4
  z4 := Tryd.sizeOf4
  v4 := Tryd.zeroValue4
  t9 := Tryd.underlying9
  a9 := Tryd.isAgg9
  z9 := Tryd.sizeOf9
  v9 := Tryd.zeroValue9 }
open Go.Lib in
/-- internal/strconv.small: "small returns the string for an i with 0 <= i < nSmalls.": i's decimal numeral. The world is as it was. (LAID: no walk: one application.) -/
theorem Tryd.internal_strconv_small (i : Nat) (h : i < 100) (w : World) :
    Calls Tryd.prog 84 #[.int .i64 i] w fun e w' => e = .returned (.string ⟨(Lib.decDigits i).toArray⟩) ∧ w' = w := Any.internal_strconv_small Tryd.lays283 i h w
def Tryd.laysM284_ren : Go.Shelf.Ren := ⟨fun | 284 => 85 | 129 => 100 | 317 => 99 | 318 => 101 | n => n, fun | 53 => 87 | 3 => 3 | 212 => 117 | 0 => 0 | 4 => 4 | 46 => 114 | 5 => 5 | 9 => 9 | n => n, fun | 17 => 2 | n => n⟩
theorem Tryd.laysM284 : Go.Proofs.LaysM.n284 Tryd.prog Tryd.laysM284_ren := {
  mixed := by kernel_rfl
  f129 := Tryd.func100.trans (congrArg some (by kernel_rfl))
  f284 := Tryd.func85.trans (congrArg some (by kernel_rfl))
  f317 := Tryd.func99.trans (congrArg some (by kernel_rfl))
  f318 := Tryd.func101.trans (congrArg some (by kernel_rfl))
  t0 := Tryd.underlying0
  a0 := Tryd.isAgg0
  z0 := Tryd.sizeOf0
  v0 := Tryd.zeroValue0
  t3 := Tryd.underlying3
  a3 := Tryd.isAgg3
  z3 := Tryd.sizeOf3
  v3 := Tryd.zeroValue3
  t4 := Tryd.underlying4
  a4 := Tryd.isAgg4
  z4 := Tryd.sizeOf4
  v4 := Tryd.zeroValue4
  t5 := Tryd.underlying5
  a5 := Tryd.isAgg5
  z5 := Tryd.sizeOf5
  v5 := Tryd.zeroValue5
  t9 := Tryd.underlying9
  a9 := Tryd.isAgg9
  z9 := Tryd.sizeOf9
  v9 := Tryd.zeroValue9
  t46 := Tryd.underlying114
  a46 := Tryd.isAgg114
  z46 := Tryd.sizeOf114
  v46 := Tryd.zeroValue114
  t53 := Tryd.underlying87
  a53 := Tryd.isAgg87
  z53 := Tryd.sizeOf87
  v53 := Tryd.zeroValue87
  t212 := Tryd.underlying117
  a212 := Tryd.isAgg117
  z212 := Tryd.sizeOf117
  v212 := Tryd.zeroValue117
  g17 := by kernel_rfl
  i0 := by kernel_rfl
  i3 := by kernel_rfl
  i4 := by kernel_rfl
  i5 := by kernel_rfl
  i9 := by kernel_rfl
  i46 := by kernel_rfl
  i53 := by kernel_rfl
  i212 := by kernel_rfl
  m17 := by kernel_rfl }
open Go.Lib in
/-- internal/strconv.numDigits, at a d that is not 0: THE NUMBER OF d's DECIMAL DIGITS. The world is as it was. (LAID: no walk: one application.) -/
theorem Tryd.internal_strconv_numDigits (u : Nat) (h1 : 1 ≤ u) (h2 : u < 18446744073709551616) (w : World) (htab : Lib.TabIs Tryd.prog w "internal/strconv.uint64pow10" .u64 Lib.pow10Tab) :
    Calls Tryd.prog 85 #[.int .u64 u] w fun e w' => e = .returned (.int .i64 (Lib.nDigits u)) ∧ w' = w := Any.internal_strconv_numDigits Tryd.laysM284 u h1 h2 w htab
def Tryd.lays285_ren : Go.Shelf.Ren := ⟨fun | 285 => 86 | n => n, fun | 37 => 31 | 53 => 87 | 3 => 3 | 4 => 4 | 51 => 41 | 9 => 9 | 5 => 5 | 0 => 0 | n => n, fun | n => n⟩
theorem Tryd.lays285 : Go.Proofs.Lays.n285 Tryd.prog Tryd.lays285_ren := {
  mixed := by kernel_rfl
  f285 := Tryd.func86.trans (congrArg some (by kernel_rfl))
  t0 := Tryd.underlying0
  a0 := Tryd.isAgg0
  z0 := Tryd.sizeOf0
  v0 := Tryd.zeroValue0
  t3 := Tryd.underlying3
  a3 := Tryd.isAgg3
  z3 := Tryd.sizeOf3
  v3 := Tryd.zeroValue3
  t4 := Tryd.underlying4
  a4 := Tryd.isAgg4
  z4 := Tryd.sizeOf4
  v4 := Tryd.zeroValue4
  t5 := Tryd.underlying5
  a5 := Tryd.isAgg5
  z5 := Tryd.sizeOf5
  v5 := Tryd.zeroValue5
  t9 := Tryd.underlying9
  a9 := Tryd.isAgg9
  z9 := Tryd.sizeOf9
  v9 := Tryd.zeroValue9
  t37 := Tryd.underlying31
  a37 := Tryd.isAgg31
  z37 := Tryd.sizeOf31
  v37 := Tryd.zeroValue31
  t51 := Tryd.underlying41
  a51 := Tryd.isAgg41
  z51 := Tryd.sizeOf41
  v51 := Tryd.zeroValue41
  t53 := Tryd.underlying87
  a53 := Tryd.isAgg87
  z53 := Tryd.sizeOf87
  v53 := Tryd.zeroValue87 }
open Go.RowKit Go.Sort Go.Lib in
/-- internal/strconv.formatBase10: "formatBase10 formats the decimal representation of u into a. The caller is responsible for ensuring that a is big enough to hold u. If a is too big, leading zeros will be filled in as needed.": THE ROW HOLDS u's DIGITS ('FmtInv .. 0 ..': every place t holds 'dg u (len - 1 - t)'); all else is as it was but for the count of draws. (LAID: no walk: one application.) -/
theorem Tryd.internal_strconv_formatBase10 (blk off cap : Nat) (u : Nat) (d : Array UInt8) (w : World) (hH : Holds (fun (b : UInt8) => Value.int .u8 (b.toNat : Int)) w blk off d) (hu : u < 10 ^ d.size) (hu64 : u < 18446744073709551616) (hsz : d.size < 4611686018427387904) :
    Calls Tryd.prog 86 #[.slice (some ⟨blk, off, none⟩) d.size cap, .int .u64 u] w fun e w' =>
      e = .returned (.tuple #[]) ∧ ∃ (n v' : Nat) (dk : Array UInt8), w' = (putRow (fun (b : UInt8) => Value.int .u8 (b.toNat : Int)) w blk off dk).drewN n ∧ FmtInv d.size u 0 v' dk := Any.internal_strconv_formatBase10 Tryd.lays285 blk off cap u d w hH hu hu64 hsz
def Tryd.laysPu14_ren : Go.Shelf.Ren := ⟨fun | 14 => 70 | 16 => 89 | 17 => 90 | 19 => 108 | 20 => 109 | 21 => 110 | 22 => 111 | 23 => 112 | 24 => 113 | 25 => 121 | 27 => 123 | 26 => 122 | 28 => 124 | 29 => 68 | 30 => 84 | 31 => 85 | 32 => 86 | 33 => 87 | 35 => 100 | 34 => 99 | 36 => 101 | 37 => 102 | 38 => 103 | 39 => 117 | 40 => 118 | n => n, fun | 9 => 9 | 3 => 3 | 22 => 87 | 24 => 77 | 25 => 88 | 4 => 4 | 34 => 121 | 5 => 5 | 36 => 114 | 37 => 31 | 0 => 0 | 39 => 122 | 21 => 21 | 44 => 134 | 47 => 92 | 50 => 144 | 48 => 142 | 2 => 2 | 52 => 101 | 55 => 104 | 59 => 117 | 60 => 41 | 20 => 20 | 61 => 118 | 65 => 140 | 66 => 141 | 67 => 81 | n => n, fun | 0 => 5 | 1 => 6 | 2 => 2 | 3 => 7 | 4 => 8 | n => n⟩
theorem Tryd.laysPu14 : Go.Proofs.LaysPu.n14 Tryd.prog Tryd.laysPu14_ren := {
  mixed := by kernel_rfl
  f14 := Tryd.func70.trans (congrArg some (by kernel_rfl))
  f16 := Tryd.func89.trans (congrArg some (by kernel_rfl))
  f17 := Tryd.func90.trans (congrArg some (by kernel_rfl))
  f19 := Tryd.func108.trans (congrArg some (by kernel_rfl))
  f20 := Tryd.func109.trans (congrArg some (by kernel_rfl))
  f21 := Tryd.func110.trans (congrArg some (by kernel_rfl))
  f22 := Tryd.func111.trans (congrArg some (by kernel_rfl))
  f23 := Tryd.func112.trans (congrArg some (by kernel_rfl))
  f24 := Tryd.func113.trans (congrArg some (by kernel_rfl))
  f25 := Tryd.func121.trans (congrArg some (by kernel_rfl))
  f26 := Tryd.func122.trans (congrArg some (by kernel_rfl))
  f27 := Tryd.func123.trans (congrArg some (by kernel_rfl))
  f28 := Tryd.func124.trans (congrArg some (by kernel_rfl))
  f29 := Tryd.func68.trans (congrArg some (by kernel_rfl))
  f30 := Tryd.func84.trans (congrArg some (by kernel_rfl))
  f31 := Tryd.func85.trans (congrArg some (by kernel_rfl))
  f32 := Tryd.func86.trans (congrArg some (by kernel_rfl))
  f33 := Tryd.func87.trans (congrArg some (by kernel_rfl))
  f34 := Tryd.func99.trans (congrArg some (by kernel_rfl))
  f35 := Tryd.func100.trans (congrArg some (by kernel_rfl))
  f36 := Tryd.func101.trans (congrArg some (by kernel_rfl))
  f37 := Tryd.func102.trans (congrArg some (by kernel_rfl))
  f38 := Tryd.func103.trans (congrArg some (by kernel_rfl))
  f39 := Tryd.func117.trans (congrArg some (by kernel_rfl))
  f40 := Tryd.func118.trans (congrArg some (by kernel_rfl))
  t0 := Tryd.underlying0
  a0 := Tryd.isAgg0
  z0 := Tryd.sizeOf0
  v0 := Tryd.zeroValue0
  i0 := by kernel_rfl
  t2 := Tryd.underlying2
  a2 := Tryd.isAgg2
  z2 := Tryd.sizeOf2
  v2 := Tryd.zeroValue2
  i2 := by kernel_rfl
  t3 := Tryd.underlying3
  a3 := Tryd.isAgg3
  z3 := Tryd.sizeOf3
  v3 := Tryd.zeroValue3
  i3 := by kernel_rfl
  t4 := Tryd.underlying4
  a4 := Tryd.isAgg4
  z4 := Tryd.sizeOf4
  v4 := Tryd.zeroValue4
  i4 := by kernel_rfl
  t5 := Tryd.underlying5
  a5 := Tryd.isAgg5
  z5 := Tryd.sizeOf5
  v5 := Tryd.zeroValue5
  i5 := by kernel_rfl
  t9 := Tryd.underlying9
  a9 := Tryd.isAgg9
  z9 := Tryd.sizeOf9
  v9 := Tryd.zeroValue9
  i9 := by kernel_rfl
  t20 := Tryd.underlying20
  a20 := Tryd.isAgg20
  z20 := Tryd.sizeOf20
  v20 := Tryd.zeroValue20
  i20 := by kernel_rfl
  t21 := Tryd.underlying21
  a21 := Tryd.isAgg21
  z21 := Tryd.sizeOf21
  v21 := Tryd.zeroValue21
  i21 := by kernel_rfl
  t22 := Tryd.underlying87
  a22 := Tryd.isAgg87
  z22 := Tryd.sizeOf87
  v22 := Tryd.zeroValue87
  i22 := by kernel_rfl
  t24 := Tryd.underlying77
  a24 := Tryd.isAgg77
  z24 := Tryd.sizeOf77
  v24 := Tryd.zeroValue77
  i24 := by kernel_rfl
  t25 := Tryd.underlying88
  a25 := Tryd.isAgg88
  z25 := Tryd.sizeOf88
  v25 := Tryd.zeroValue88
  i25 := by kernel_rfl
  t34 := Tryd.underlying121
  a34 := Tryd.isAgg121
  z34 := Tryd.sizeOf121
  v34 := Tryd.zeroValue121
  i34 := by kernel_rfl
  c34 := by kernel_rfl
  t36 := Tryd.underlying114
  a36 := Tryd.isAgg114
  z36 := Tryd.sizeOf114
  v36 := Tryd.zeroValue114
  i36 := by kernel_rfl
  t37 := Tryd.underlying31
  a37 := Tryd.isAgg31
  z37 := Tryd.sizeOf31
  v37 := Tryd.zeroValue31
  i37 := by kernel_rfl
  t39 := Tryd.underlying122
  a39 := Tryd.isAgg122
  z39 := Tryd.sizeOf122
  v39 := Tryd.zeroValue122
  i39 := by kernel_rfl
  t44 := Tryd.underlying134
  a44 := Tryd.isAgg134
  z44 := Tryd.sizeOf134
  v44 := Tryd.zeroValue134
  i44 := by kernel_rfl
  t47 := Tryd.underlying92
  a47 := Tryd.isAgg92
  z47 := Tryd.sizeOf92
  v47 := Tryd.zeroValue92
  i47 := by kernel_rfl
  t48 := Tryd.underlying142
  a48 := Tryd.isAgg142
  z48 := Tryd.sizeOf142
  v48 := Tryd.zeroValue142
  i48 := by kernel_rfl
  t50 := Tryd.underlying144
  a50 := Tryd.isAgg144
  z50 := Tryd.sizeOf144
  v50 := Tryd.zeroValue144
  i50 := by kernel_rfl
  t52 := Tryd.underlying101
  a52 := Tryd.isAgg101
  z52 := Tryd.sizeOf101
  v52 := Tryd.zeroValue101
  i52 := by kernel_rfl
  t55 := Tryd.underlying104
  a55 := Tryd.isAgg104
  z55 := Tryd.sizeOf104
  v55 := Tryd.zeroValue104
  i55 := by kernel_rfl
  t59 := Tryd.underlying117
  a59 := Tryd.isAgg117
  z59 := Tryd.sizeOf117
  v59 := Tryd.zeroValue117
  i59 := by kernel_rfl
  t60 := Tryd.underlying41
  a60 := Tryd.isAgg41
  z60 := Tryd.sizeOf41
  v60 := Tryd.zeroValue41
  i60 := by kernel_rfl
  t61 := Tryd.underlying118
  a61 := Tryd.isAgg118
  z61 := Tryd.sizeOf118
  t65 := Tryd.underlying140
  a65 := Tryd.isAgg140
  z65 := Tryd.sizeOf140
  v65 := Tryd.zeroValue140
  i65 := by kernel_rfl
  t66 := Tryd.underlying141
  a66 := Tryd.isAgg141
  z66 := Tryd.sizeOf141
  v66 := Tryd.zeroValue141
  i66 := by kernel_rfl
  t67 := Tryd.underlying81
  a67 := Tryd.isAgg81
  z67 := Tryd.sizeOf81
  v67 := Tryd.zeroValue81
  i67 := by kernel_rfl
  g0 := by kernel_rfl
  m0 := by kernel_rfl
  g1 := by kernel_rfl
  m1 := by kernel_rfl
  g2 := by kernel_rfl
  m2 := by kernel_rfl
  g3 := by kernel_rfl
  m3 := by kernel_rfl
  g4 := by kernel_rfl
  m4 := by kernel_rfl }
open Go.RowKit in
/-- strconv.ParseUint(s, 10, 32), AT EVERY STRING THAT SPELLS A uint32 ('Lib.parseUintB 32 s.data.toList = .ok u'): u, AND NO ERROR. (LAID: no walk: one application.) -/
theorem Tryd.strconv_ParseUint_10_at32_ok (s : ByteArray) (hmax : s.size ≤ 9223372036854775806) (u : Nat) (h : Lib.parseUintB 32 s.data.toList = .ok u) (w : World) :
    Calls Tryd.prog 70 #[.string s, .int .i64 10, .int .i64 32] w fun e w' => e = .returned (.tuple #[.int .u64 u, .nilIface]) ∧ (w' = w ∨ w' = Lib.bytesWorld w 5 s) := Any.strconv_ParseUint_10_at32_ok Tryd.laysPu14 s hmax u h w
def Tryd.lays145_ren : Go.Shelf.Ren := ⟨fun | 145 => 52 | 220 => 69 | 219 => 88 | 217 => 104 | 225 => 105 | 224 => 106 | 267 => 107 | 266 => 119 | 314 => 120 | n => n, fun | 9 => 9 | 4 => 4 | 59 => 65 | 3 => 3 | 5 => 5 | 46 => 114 | 146 => 99 | 51 => 41 | n => n, fun | 1 => 0 | n => n⟩
theorem Tryd.lays145 : Go.Proofs.Lays.n145 Tryd.prog Tryd.lays145_ren := {
  mixed := by kernel_rfl
  f145 := Tryd.func52.trans (congrArg some (by kernel_rfl))
  f217 := Tryd.func104.trans (congrArg some (by kernel_rfl))
  f219 := Tryd.func88.trans (congrArg some (by kernel_rfl))
  f220 := Tryd.func69.trans (congrArg some (by kernel_rfl))
  f224 := Tryd.func106.trans (congrArg some (by kernel_rfl))
  f225 := Tryd.func105.trans (congrArg some (by kernel_rfl))
  f266 := Tryd.func119.trans (congrArg some (by kernel_rfl))
  f267 := Tryd.func107.trans (congrArg some (by kernel_rfl))
  f314 := Tryd.func120.trans (congrArg some (by kernel_rfl))
  t3 := Tryd.underlying3
  a3 := Tryd.isAgg3
  z3 := Tryd.sizeOf3
  v3 := Tryd.zeroValue3
  t4 := Tryd.underlying4
  a4 := Tryd.isAgg4
  z4 := Tryd.sizeOf4
  v4 := Tryd.zeroValue4
  t5 := Tryd.underlying5
  a5 := Tryd.isAgg5
  z5 := Tryd.sizeOf5
  v5 := Tryd.zeroValue5
  t9 := Tryd.underlying9
  a9 := Tryd.isAgg9
  z9 := Tryd.sizeOf9
  v9 := Tryd.zeroValue9
  t46 := Tryd.underlying114
  a46 := Tryd.isAgg114
  z46 := Tryd.sizeOf114
  v46 := Tryd.zeroValue114
  t51 := Tryd.underlying41
  a51 := Tryd.isAgg41
  z51 := Tryd.sizeOf41
  v51 := Tryd.zeroValue41
  t59 := Tryd.underlying65
  a59 := Tryd.isAgg65
  z59 := Tryd.sizeOf65
  v59 := Tryd.zeroValue65
  t146 := Tryd.underlying99
  a146 := Tryd.isAgg99
  z146 := Tryd.sizeOf99
  v146 := Tryd.zeroValue99
  g1 := by kernel_rfl }
open Go.RowKit Go.Lib in
/-- strings.Cut: "Cut slices s around the first instance of sep, returning the text before and after sep. The found result reports whether sep appears in s. If sep does not appear in s, cut returns s, "", false.": IT RETURNS 'Lib.cut s sep'; the world is as it was but for the count of draws. (LAID: no walk: one application.) -/
theorem Tryd.strings_Cut (s sep : ByteArray) (m : Int) (w : World) (hs : s.size < 4294967281) (hm : w.cell? ⟨0, 0, none⟩ = some (.int .i64 m)) :
    Calls Tryd.prog 52 #[.string s, .string sep] w fun e w' => e = .returned (.tuple #[.string ⟨(Lib.cut s.data.toList sep.data.toList).1.toArray⟩, .string ⟨(Lib.cut s.data.toList sep.data.toList).2.1.toArray⟩, .bool (Lib.cut s.data.toList sep.data.toList).2.2]) ∧ ∃ n, w' = w.drewN n := Any.strings_Cut Tryd.lays145 s sep m w hs hm
def Tryd.lays146_ren : Go.Shelf.Ren := ⟨fun | 146 => 32 | 221 => 57 | 268 => 72 | 138 => 73 | 143 => 74 | 195 => 92 | 197 => 77 | 218 => 93 | 219 => 88 | 260 => 96 | 217 => 104 | 225 => 105 | 224 => 106 | 267 => 107 | 266 => 119 | 314 => 120 | n => n, fun | 9 => 9 | 31 => 52 | 3 => 3 | 4 => 4 | 0 => 0 | 105 => 93 | 21 => 21 | 5 => 5 | 46 => 114 | 119 => 125 | 139 => 128 | 138 => 127 | 146 => 99 | 51 => 41 | n => n, fun | 1 => 0 | 3 => 3 | 4 => 4 | n => n⟩
theorem Tryd.lays146 : Go.Proofs.Lays.n146 Tryd.prog Tryd.lays146_ren := {
  mixed := by kernel_rfl
  f138 := Tryd.func73.trans (congrArg some (by kernel_rfl))
  f143 := Tryd.func74.trans (congrArg some (by kernel_rfl))
  f146 := Tryd.func32.trans (congrArg some (by kernel_rfl))
  f195 := Tryd.func92.trans (congrArg some (by kernel_rfl))
  f197 := Tryd.func77.trans (congrArg some (by kernel_rfl))
  f217 := Tryd.func104.trans (congrArg some (by kernel_rfl))
  f218 := Tryd.func93.trans (congrArg some (by kernel_rfl))
  f219 := Tryd.func88.trans (congrArg some (by kernel_rfl))
  f221 := Tryd.func57.trans (congrArg some (by kernel_rfl))
  f224 := Tryd.func106.trans (congrArg some (by kernel_rfl))
  f225 := Tryd.func105.trans (congrArg some (by kernel_rfl))
  f260 := Tryd.func96.trans (congrArg some (by kernel_rfl))
  f266 := Tryd.func119.trans (congrArg some (by kernel_rfl))
  f267 := Tryd.func107.trans (congrArg some (by kernel_rfl))
  f268 := Tryd.func72.trans (congrArg some (by kernel_rfl))
  f314 := Tryd.func120.trans (congrArg some (by kernel_rfl))
  t0 := Tryd.underlying0
  a0 := Tryd.isAgg0
  z0 := Tryd.sizeOf0
  v0 := Tryd.zeroValue0
  t3 := Tryd.underlying3
  a3 := Tryd.isAgg3
  z3 := Tryd.sizeOf3
  v3 := Tryd.zeroValue3
  t4 := Tryd.underlying4
  a4 := Tryd.isAgg4
  z4 := Tryd.sizeOf4
  v4 := Tryd.zeroValue4
  t5 := Tryd.underlying5
  a5 := Tryd.isAgg5
  z5 := Tryd.sizeOf5
  v5 := Tryd.zeroValue5
  t9 := Tryd.underlying9
  a9 := Tryd.isAgg9
  z9 := Tryd.sizeOf9
  v9 := Tryd.zeroValue9
  t21 := Tryd.underlying21
  a21 := Tryd.isAgg21
  z21 := Tryd.sizeOf21
  v21 := Tryd.zeroValue21
  t31 := Tryd.underlying52
  a31 := Tryd.isAgg52
  z31 := Tryd.sizeOf52
  v31 := Tryd.zeroValue52
  t46 := Tryd.underlying114
  a46 := Tryd.isAgg114
  z46 := Tryd.sizeOf114
  v46 := Tryd.zeroValue114
  t51 := Tryd.underlying41
  a51 := Tryd.isAgg41
  z51 := Tryd.sizeOf41
  v51 := Tryd.zeroValue41
  t105 := Tryd.underlying93
  a105 := Tryd.isAgg93
  z105 := Tryd.sizeOf93
  v105 := Tryd.zeroValue93
  t119 := Tryd.underlying125
  a119 := Tryd.isAgg125
  z119 := Tryd.sizeOf125
  t138 := Tryd.underlying127
  a138 := Tryd.isAgg127
  z138 := Tryd.sizeOf127
  v138 := Tryd.zeroValue127
  t139 := Tryd.underlying128
  a139 := Tryd.isAgg128
  z139 := Tryd.sizeOf128
  v139 := Tryd.zeroValue128
  t146 := Tryd.underlying99
  a146 := Tryd.isAgg99
  z146 := Tryd.sizeOf99
  v146 := Tryd.zeroValue99
  g1 := by kernel_rfl
  g3 := by kernel_rfl
  g4 := by kernel_rfl }
open Go.RowKit Go.Lib in
/-- strings.Split. (LAID: no walk: one application.) -/
theorem Tryd.strings_Split (s sep : ByteArray) (m : Int) (w : World) (hs : s.size < 4294967281) (hm : w.cell? ⟨0, 0, none⟩ = some (.int .i64 m)) (h1 : 1 ≤ sep.size) :
    Calls Tryd.prog 32 #[.string s, .string sep] w fun e w' =>
      e = .returned (.slice (some ⟨w.heap.size, 0, none⟩) (Lib.countB s sep + 1) (Lib.countB s sep + 1)) ∧ w' = w.alloc (.cells ((Lib.splitB sep 0 (Lib.countB s sep) s).map Value.string).toArray 9) := Any.strings_Split Tryd.lays146 (by kernel_rfl) s sep m w hs hm h1
def Tryd.laysM146_ren : Go.Shelf.Ren := ⟨fun | 146 => 32 | 221 => 57 | 268 => 72 | 138 => 73 | 143 => 74 | 195 => 92 | 197 => 77 | 218 => 93 | 219 => 88 | 260 => 96 | 217 => 104 | 225 => 105 | 224 => 106 | 267 => 107 | 266 => 119 | 314 => 120 | n => n, fun | 9 => 9 | 31 => 52 | 3 => 3 | 4 => 4 | 0 => 0 | 105 => 93 | 21 => 21 | 5 => 5 | 46 => 114 | 119 => 125 | 139 => 128 | 138 => 127 | 146 => 99 | 51 => 41 | n => n, fun | 1 => 0 | 3 => 3 | 4 => 4 | n => n⟩
theorem Tryd.laysM146 : Go.Proofs.LaysM.n146 Tryd.prog Tryd.laysM146_ren := {
  mixed := by kernel_rfl
  f138 := Tryd.func73.trans (congrArg some (by kernel_rfl))
  f143 := Tryd.func74.trans (congrArg some (by kernel_rfl))
  f146 := Tryd.func32.trans (congrArg some (by kernel_rfl))
  f195 := Tryd.func92.trans (congrArg some (by kernel_rfl))
  f197 := Tryd.func77.trans (congrArg some (by kernel_rfl))
  f217 := Tryd.func104.trans (congrArg some (by kernel_rfl))
  f218 := Tryd.func93.trans (congrArg some (by kernel_rfl))
  f219 := Tryd.func88.trans (congrArg some (by kernel_rfl))
  f221 := Tryd.func57.trans (congrArg some (by kernel_rfl))
  f224 := Tryd.func106.trans (congrArg some (by kernel_rfl))
  f225 := Tryd.func105.trans (congrArg some (by kernel_rfl))
  f260 := Tryd.func96.trans (congrArg some (by kernel_rfl))
  f266 := Tryd.func119.trans (congrArg some (by kernel_rfl))
  f267 := Tryd.func107.trans (congrArg some (by kernel_rfl))
  f268 := Tryd.func72.trans (congrArg some (by kernel_rfl))
  f314 := Tryd.func120.trans (congrArg some (by kernel_rfl))
  t0 := Tryd.underlying0
  a0 := Tryd.isAgg0
  z0 := Tryd.sizeOf0
  v0 := Tryd.zeroValue0
  t3 := Tryd.underlying3
  a3 := Tryd.isAgg3
  z3 := Tryd.sizeOf3
  v3 := Tryd.zeroValue3
  t4 := Tryd.underlying4
  a4 := Tryd.isAgg4
  z4 := Tryd.sizeOf4
  v4 := Tryd.zeroValue4
  t5 := Tryd.underlying5
  a5 := Tryd.isAgg5
  z5 := Tryd.sizeOf5
  v5 := Tryd.zeroValue5
  t9 := Tryd.underlying9
  a9 := Tryd.isAgg9
  z9 := Tryd.sizeOf9
  v9 := Tryd.zeroValue9
  t21 := Tryd.underlying21
  a21 := Tryd.isAgg21
  z21 := Tryd.sizeOf21
  v21 := Tryd.zeroValue21
  t31 := Tryd.underlying52
  a31 := Tryd.isAgg52
  z31 := Tryd.sizeOf52
  v31 := Tryd.zeroValue52
  t46 := Tryd.underlying114
  a46 := Tryd.isAgg114
  z46 := Tryd.sizeOf114
  v46 := Tryd.zeroValue114
  t51 := Tryd.underlying41
  a51 := Tryd.isAgg41
  z51 := Tryd.sizeOf41
  v51 := Tryd.zeroValue41
  t105 := Tryd.underlying93
  a105 := Tryd.isAgg93
  z105 := Tryd.sizeOf93
  v105 := Tryd.zeroValue93
  t119 := Tryd.underlying125
  a119 := Tryd.isAgg125
  z119 := Tryd.sizeOf125
  t138 := Tryd.underlying127
  a138 := Tryd.isAgg127
  z138 := Tryd.sizeOf127
  v138 := Tryd.zeroValue127
  t139 := Tryd.underlying128
  a139 := Tryd.isAgg128
  z139 := Tryd.sizeOf128
  v139 := Tryd.zeroValue128
  t146 := Tryd.underlying99
  a146 := Tryd.isAgg99
  z146 := Tryd.sizeOf99
  v146 := Tryd.zeroValue99
  g1 := by kernel_rfl
  g3 := by kernel_rfl
  g4 := by kernel_rfl
  i0 := by kernel_rfl
  i3 := by kernel_rfl
  i4 := by kernel_rfl
  i5 := by kernel_rfl
  i9 := by kernel_rfl
  i21 := by kernel_rfl
  i31 := by kernel_rfl
  i46 := by kernel_rfl
  i51 := by kernel_rfl
  i105 := by kernel_rfl
  i138 := by kernel_rfl
  i139 := by kernel_rfl
  i146 := by kernel_rfl
  m1 := by kernel_rfl
  s1_3 := fun w h => Go.Proofs.cell_of_shapedOpen_int (zero := #[.int .i64 0]) (t := 3) h (of_decide_eq_true (by kernel_rfl)) (by kernel_rfl) rfl (by kernel_rfl) (by kernel_rfl) Tryd.underlying3
  m3 := by kernel_rfl
  m4 := by kernel_rfl }
open Go.RowKit Go.Lib in
/-- strings.Split, sep not empty. (LAID: no walk: one application.) -/
theorem Tryd.strings_Split_shaped (s sep : ByteArray) (w : World) (h : w.ShapedOpen Tryd.prog) (hs : s.size < 4294967281) (h1 : 1 ≤ sep.size) :
    Calls Tryd.prog 32 #[.string s, .string sep] w fun e w' =>
      e = .returned (.slice (some ⟨w.heap.size, 0, none⟩) (Lib.countB s sep + 1) (Lib.countB s sep + 1)) ∧ w' = w.alloc (.cells ((Lib.splitB sep 0 (Lib.countB s sep) s).map Value.string).toArray 9) := Any.strings_Split_shaped Tryd.laysM146 s sep w h hs h1
end Go.Proofs
