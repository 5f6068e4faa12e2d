/-
  CONTRACTS OF LIBRARY FUNCTIONS AT THIS TRANSLATION, laid in plain words by tools of the kit; the remarks struck.
-/
import Derived.Shelf.Sort.Plain
import Derived.Shelf.Strings.Fields
import Derived.Ground.Names2Prog
import Derived.Shelf.Slices.CompactI
import Derived.Shelf.Slices.In.SortNone
import Derived.Ground.SlgfProg
import Derived.Shelf.SlicesQ.IndexFunc
import Derived.Test.YtajblpopbipegaaDoorProg
namespace Go.Proofs
open Go.Shelf
def Tryd.lays189_ren : Go.Shelf.Ren := ⟨fun | 189 => 39 | 125 => 44 | 257 => 43 | 128 => 56 | 129 => 57 | 294 => 47 | 295 => 48 | 296 => 49 | 297 => 50 | 298 => 51 | 299 => 52 | 216 => 53 | 300 => 54 | 301 => 55 | 328 => 58 | 329 => 59 | 330 => 60 | 331 => 61 | 332 => 62 | 215 => 63 | 343 => 64 | n => n, fun | 28 => 32 | 3 => 3 | 46 => 72 | 0 => 0 | 51 => 66 | 53 => 94 | 4 => 4 | 183 => 86 | 182 => 85 | 131 => 90 | 5 => 5 | 9 => 9 | 218 => 97 | 222 => 101 | 228 => 103 | 229 => 104 | n => n, fun | n => n⟩
theorem Tryd.lays189 : Go.Proofs.Lays.n189 Tryd.prog Tryd.lays189_ren := {
  mixed := by kernel_rfl
  f125 := Tryd.func44.trans (congrArg some (by kernel_rfl))
  f128 := Tryd.func56.trans (congrArg some (by kernel_rfl))
  f129 := Tryd.func57.trans (congrArg some (by kernel_rfl))
  f189 := Tryd.func39.trans (congrArg some (by kernel_rfl))
  f215 := Tryd.func63.trans (congrArg some (by kernel_rfl))
  f216 := Tryd.func53.trans (congrArg some (by kernel_rfl))
  f257 := Tryd.func43.trans (congrArg some (by kernel_rfl))
  f294 := Tryd.func47.trans (congrArg some (by kernel_rfl))
  f295 := Tryd.func48.trans (congrArg some (by kernel_rfl))
  f296 := Tryd.func49.trans (congrArg some (by kernel_rfl))
  f297 := Tryd.func50.trans (congrArg some (by kernel_rfl))
  f298 := Tryd.func51.trans (congrArg some (by kernel_rfl))
  f299 := Tryd.func52.trans (congrArg some (by kernel_rfl))
  f300 := Tryd.func54.trans (congrArg some (by kernel_rfl))
  f301 := Tryd.func55.trans (congrArg some (by kernel_rfl))
  f328 := Tryd.func58.trans (congrArg some (by kernel_rfl))
  f329 := Tryd.func59.trans (congrArg some (by kernel_rfl))
  f330 := Tryd.func60.trans (congrArg some (by kernel_rfl))
  f331 := Tryd.func61.trans (congrArg some (by kernel_rfl))
  f332 := Tryd.func62.trans (congrArg some (by kernel_rfl))
  f343 := Tryd.func64.trans (congrArg some (by kernel_rfl))
  t0 := Tryd.underlying0
  a0 := Tryd.isAgg0
  z0 := Tryd.sizeOf0
  v0 := Tryd.zeroValue0
  t3 := Tryd.underlying3
  a3 := Tryd.isAgg3
  z3 := Tryd.sizeOf3
  v3 := Tryd.zeroValue3
  t4 := Tryd.underlying4
  a4 := Tryd.isAgg4
  z4 := Tryd.sizeOf4
  v4 := Tryd.zeroValue4
  t5 := Tryd.underlying5
  a5 := Tryd.isAgg5
  z5 := Tryd.sizeOf5
  v5 := Tryd.zeroValue5
  t9 := Tryd.underlying9
  a9 := Tryd.isAgg9
  z9 := Tryd.sizeOf9
  v9 := Tryd.zeroValue9
  t28 := Tryd.underlying32
  a28 := Tryd.isAgg32
  z28 := Tryd.sizeOf32
  v28 := Tryd.zeroValue32
  t46 := Tryd.underlying72
  a46 := Tryd.isAgg72
  z46 := Tryd.sizeOf72
  v46 := Tryd.zeroValue72
  t51 := Tryd.underlying66
  a51 := Tryd.isAgg66
  z51 := Tryd.sizeOf66
  v51 := Tryd.zeroValue66
  t53 := Tryd.underlying94
  a53 := Tryd.isAgg94
  z53 := Tryd.sizeOf94
  v53 := Tryd.zeroValue94
  t131 := Tryd.underlying90
  a131 := Tryd.isAgg90
  z131 := Tryd.sizeOf90
  v131 := Tryd.zeroValue90
  t182 := Tryd.underlying85
  a182 := Tryd.isAgg85
  z182 := Tryd.sizeOf85
  v182 := Tryd.zeroValue85
  t183 := Tryd.underlying86
  a183 := Tryd.isAgg86
  z183 := Tryd.sizeOf86
  v183 := Tryd.zeroValue86
  t218 := Tryd.underlying97
  a218 := Tryd.isAgg97
  z218 := Tryd.sizeOf97
  v218 := Tryd.zeroValue97
  t222 := Tryd.underlying101
  a222 := Tryd.isAgg101
  z222 := Tryd.sizeOf101
  v222 := Tryd.zeroValue101
  t228 := Tryd.underlying103
  a228 := Tryd.isAgg103
  z228 := Tryd.sizeOf103
  v228 := Tryd.zeroValue103
  t229 := Tryd.underlying104
  a229 := Tryd.isAgg104
  z229 := Tryd.sizeOf104
  v229 := Tryd.zeroValue104 }
open Go.Sort Go.RowKit in
theorem Tryd.slices_Sort_int (blk off cap : Nat) (zs : List Int) (w : World) (hH : Holds (Value.int .i64) w blk off zs.toArray) (hblk : blk < w.heap.size) (hsz : zs.length < 4611686018427387904) :
    Calls Tryd.prog 39 #[.slice (some ⟨blk, off, none⟩) zs.length cap] w fun e w' =>
      e = .returned (.tuple #[]) ∧ ∃ n os, w' = grow (putRow (Value.int .i64) (Sort.ahead w n) blk off (zs.mergeSort fun x y => decide (x ≤ y)).toArray) os := Any.slices_Sort_int Tryd.lays189 blk off cap zs w hH hblk hsz
def Tryd.lays157_ren : Go.Shelf.Ren := ⟨fun | 157 => 24 | 229 => 32 | 199 => 33 | 261 => 41 | 311 => 45 | 312 => 46 | n => n, fun | 9 => 9 | 31 => 46 | 3 => 3 | 5 => 5 | 4 => 4 | 119 => 55 | 0 => 0 | 40 => 57 | 152 => 63 | 21 => 21 | 154 => 65 | 51 => 66 | 141 => 68 | 196 => 76 | 193 => 73 | 198 => 79 | 49 => 77 | 194 => 74 | 201 => 82 | 226 => 95 | 46 => 72 | 227 => 96 | n => n, fun | 0 => 0 | 6 => 1 | n => n⟩
theorem Tryd.lays157 : Go.Proofs.Lays.n157 Tryd.prog Tryd.lays157_ren := {
  mixed := by kernel_rfl
  f157 := Tryd.func24.trans (congrArg some (by kernel_rfl))
  f199 := Tryd.func33.trans (congrArg some (by kernel_rfl))
  f229 := Tryd.func32.trans (congrArg some (by kernel_rfl))
  f261 := Tryd.func41.trans (congrArg some (by kernel_rfl))
  f311 := Tryd.func45.trans (congrArg some (by kernel_rfl))
  f312 := Tryd.func46.trans (congrArg some (by kernel_rfl))
  t0 := Tryd.underlying0
  a0 := Tryd.isAgg0
  z0 := Tryd.sizeOf0
  v0 := Tryd.zeroValue0
  t3 := Tryd.underlying3
  a3 := Tryd.isAgg3
  z3 := Tryd.sizeOf3
  v3 := Tryd.zeroValue3
  t4 := Tryd.underlying4
  a4 := Tryd.isAgg4
  z4 := Tryd.sizeOf4
  v4 := Tryd.zeroValue4
  t5 := Tryd.underlying5
  a5 := Tryd.isAgg5
  z5 := Tryd.sizeOf5
  v5 := Tryd.zeroValue5
  t9 := Tryd.underlying9
  a9 := Tryd.isAgg9
  z9 := Tryd.sizeOf9
  v9 := Tryd.zeroValue9
  t21 := Tryd.underlying21
  a21 := Tryd.isAgg21
  z21 := Tryd.sizeOf21
  v21 := Tryd.zeroValue21
  t31 := Tryd.underlying46
  a31 := Tryd.isAgg46
  z31 := Tryd.sizeOf46
  v31 := Tryd.zeroValue46
  t40 := Tryd.underlying57
  a40 := Tryd.isAgg57
  z40 := Tryd.sizeOf57
  v40 := Tryd.zeroValue57
  t46 := Tryd.underlying72
  a46 := Tryd.isAgg72
  z46 := Tryd.sizeOf72
  v46 := Tryd.zeroValue72
  t49 := Tryd.underlying77
  a49 := Tryd.isAgg77
  z49 := Tryd.sizeOf77
  v49 := Tryd.zeroValue77
  t51 := Tryd.underlying66
  a51 := Tryd.isAgg66
  z51 := Tryd.sizeOf66
  v51 := Tryd.zeroValue66
  t119 := Tryd.underlying55
  a119 := Tryd.isAgg55
  z119 := Tryd.sizeOf55
  t141 := Tryd.underlying68
  a141 := Tryd.isAgg68
  z141 := Tryd.sizeOf68
  v141 := Tryd.zeroValue68
  t152 := Tryd.underlying63
  a152 := Tryd.isAgg63
  z152 := Tryd.sizeOf63
  v152 := Tryd.zeroValue63
  t154 := Tryd.underlying65
  a154 := Tryd.isAgg65
  z154 := Tryd.sizeOf65
  v154 := Tryd.zeroValue65
  t193 := Tryd.underlying73
  a193 := Tryd.isAgg73
  z193 := Tryd.sizeOf73
  v193 := Tryd.zeroValue73
  t194 := Tryd.underlying74
  a194 := Tryd.isAgg74
  z194 := Tryd.sizeOf74
  v194 := Tryd.zeroValue74
  t196 := Tryd.underlying76
  a196 := Tryd.isAgg76
  z196 := Tryd.sizeOf76
  v196 := Tryd.zeroValue76
  t198 := Tryd.underlying79
  a198 := Tryd.isAgg79
  z198 := Tryd.sizeOf79
  v198 := Tryd.zeroValue79
  t201 := Tryd.underlying82
  a201 := Tryd.isAgg82
  z201 := Tryd.sizeOf82
  v201 := Tryd.zeroValue82
  t226 := Tryd.underlying95
  a226 := Tryd.isAgg95
  z226 := Tryd.sizeOf95
  v226 := Tryd.zeroValue95
  t227 := Tryd.underlying96
  a227 := Tryd.isAgg96
  z227 := Tryd.sizeOf96
  v227 := Tryd.zeroValue96
  g0 := by kernel_rfl
  g6 := by kernel_rfl }
open Go.RowKit Go.Lib in
theorem Tryd.strings_Fields (s : ByteArray) (w : World) (hs : s.size < 4294967281) (hascii : ∀ (j : Nat) b, s.data.toList[j]? = some b → b.toNat < 128) (htab : Lib.TabIs Tryd.prog w "strings.asciiSpace" .u8 Lib.asciiSpaceTab) :
    Calls Tryd.prog 24 #[.string s] w fun e w' =>
      e = .returned (.slice (some ⟨w.heap.size, 0, none⟩) (Lib.fields s.data.toList).length (Lib.fields s.data.toList).length) ∧ w' = w.alloc (.cells ((Lib.fields s.data.toList).map fun l => Value.string ⟨l.toArray⟩).toArray 9) := Any.strings_Fields Tryd.lays157 (by kernel_rfl) (by kernel_rfl) s w hs hascii htab
def Tryd.laysNm220_ren : Go.Shelf.Ren := ⟨fun | 20 => 40 | n => n, fun | 22 => 32 | 3 => 3 | 4 => 4 | 0 => 0 | n => n, fun | n => n⟩
theorem Tryd.laysNm220 : Go.Proofs.Lays2.n20 Tryd.prog Tryd.laysNm220_ren := {
  mixed := by kernel_rfl
  f20 := Tryd.func40.trans (congrArg some (by kernel_rfl))
  t0 := Tryd.underlying0
  a0 := Tryd.isAgg0
  z0 := Tryd.sizeOf0
  v0 := Tryd.zeroValue0
  t3 := Tryd.underlying3
  a3 := Tryd.isAgg3
  z3 := Tryd.sizeOf3
  v3 := Tryd.zeroValue3
  t4 := Tryd.underlying4
  a4 := Tryd.isAgg4
  z4 := Tryd.sizeOf4
  v4 := Tryd.zeroValue4
  t22 := Tryd.underlying32
  a22 := Tryd.isAgg32
  z22 := Tryd.sizeOf32
  v22 := Tryd.zeroValue32
  i3 := by kernel_rfl }
open Go.RowKit Go.Lib Go.Sort in
theorem Tryd.slices_Compact_int (blk off cap : Nat) (zs : List Int) (w : World) (hH : Holds (Value.int .i64) w blk off zs.toArray) (hsz : zs.length ≤ 9223372036854775807) (hcap : zs.length ≤ cap) :
    Calls Tryd.prog 40 #[.slice (some ⟨blk, off, none⟩) zs.length cap] w fun e w' => e = .returned (.slice (some ⟨blk, off, none⟩) (Lib.compact zs).length cap) ∧ ∃ q, w' = putRow (Value.int .i64) (Sort.ahead w q) blk off (Lib.compact zs ++ List.replicate (zs.length - (Lib.compact zs).length) 0).toArray := Any.slices_Compact_int Tryd.laysNm220 blk off cap zs w hH hsz hcap
open Go.RowKit Go.Lib Go.Sort in
theorem Tryd.slices_Compact_int_empty (a : Option Addr) (cap : Nat) (w : World) :
    Calls Tryd.prog 40 #[.slice a 0 cap] w fun e w' => e = .returned (.slice a 0 cap) ∧ w' = w := Any.slices_Compact_int_empty Tryd.laysNm220 a cap w
open Go.RowKit Go.Sort in
theorem Tryd.slices_Sort_int_none (p : Option Addr) (cap : Nat) (w : World) :
    Calls Tryd.prog 39 #[.slice p 0 cap] w fun e w' => e = .returned (.tuple #[]) ∧ w' = w := Any.slices_Sort_int_none Tryd.lays189 p cap w
def Tryd.cf21_ren : Go.Shelf.Ren := ⟨fun | 8 => 21 | 6 => 31 | n => n, fun | 22 => 29 | 23 => 36 | 25 => 43 | 4 => 4 | 3 => 3 | 0 => 0 | n => n, fun | n => n⟩
theorem Tryd.cf21 : Go.Proofs.SlLaysH0.n8 Tryd.prog Tryd.cf21_ren := {
  mixed := by kernel_rfl
  f6 := ⟨Tryd.f31.name, by decide, Tryd.func31.trans (congrArg some (by kernel_rfl))⟩
  f8 := ⟨Tryd.f21.name, by decide, Tryd.func21.trans (congrArg some (by kernel_rfl))⟩
  t0 := Tryd.underlying0
  a0 := Tryd.isAgg0
  z0 := Tryd.sizeOf0
  v0 := Tryd.zeroValue0
  t3 := Tryd.underlying3
  a3 := Tryd.isAgg3
  z3 := Tryd.sizeOf3
  v3 := Tryd.zeroValue3
  t4 := Tryd.underlying4
  a4 := Tryd.isAgg4
  z4 := Tryd.sizeOf4
  v4 := Tryd.zeroValue4
  t22 := Tryd.underlying29
  a22 := Tryd.isAgg29
  z22 := Tryd.sizeOf29
  v22 := Tryd.zeroValue29
  t25 := Tryd.underlying43
  a25 := Tryd.isAgg43
  z25 := Tryd.sizeOf43
  v25 := Tryd.zeroValue43 }
def Tryd.cf35_ren : Go.Shelf.Ren := ⟨fun | 8 => 35 | 6 => 42 | n => n, fun | 22 => 34 | 23 => 41 | 25 => 61 | 4 => 4 | 3 => 3 | 0 => 0 | n => n, fun | n => n⟩
theorem Tryd.cf35 : Go.Proofs.SlLaysH0.n8 Tryd.prog Tryd.cf35_ren := {
  mixed := by kernel_rfl
  f6 := ⟨Tryd.f42.name, by decide, Tryd.func42.trans (congrArg some (by kernel_rfl))⟩
  f8 := ⟨Tryd.f35.name, by decide, Tryd.func35.trans (congrArg some (by kernel_rfl))⟩
  t0 := Tryd.underlying0
  a0 := Tryd.isAgg0
  z0 := Tryd.sizeOf0
  v0 := Tryd.zeroValue0
  t3 := Tryd.underlying3
  a3 := Tryd.isAgg3
  z3 := Tryd.sizeOf3
  v3 := Tryd.zeroValue3
  t4 := Tryd.underlying4
  a4 := Tryd.isAgg4
  z4 := Tryd.sizeOf4
  v4 := Tryd.zeroValue4
  t22 := Tryd.underlying34
  a22 := Tryd.isAgg34
  z22 := Tryd.sizeOf34
  v22 := Tryd.zeroValue34
  t25 := Tryd.underlying61
  a25 := Tryd.isAgg61
  z25 := Tryd.sizeOf61
  v25 := Tryd.zeroValue61 }
end Go.Proofs
