/-
  Contracts off the shelf at this dump: strings.Trim, slices.Equal of texts, slices.Sort of none. Printed by lay-shelf.mjs and lay-plain.mjs, shortened.
-/
import Derived.Shelf.Strings.Trim
import Derived.Shelf.Strings.SlTrimAscii
import Derived.Shelf.Sort.Plain
import Derived.Shelf.Slices.Equal
import Derived.Shelf.Slices.In.SortNone
import Derived.Ground.Names2Prog
import Derived.Ground.SlgnProg
import Derived.Test.YtdfkdgnhpdgphaaGreatDoorProg
namespace Go.Proofs
open Go.Shelf
def Tryz.lays160_ren : Go.Shelf.Ren := ⟨fun | 160 => 231 | 232 => 302 | 231 => 301 | 227 => 303 | 234 => 305 | 233 => 304 | 236 => 307 | 235 => 306 | 228 => 339 | 271 => 342 | 151 => 341 | 197 => 340 | 120 => 362 | 152 => 361 | 260 => 360 | 137 => 370 | 119 => 371 | 224 => 372 | 225 => 373 | 217 => 375 | 266 => 376 | n => n, fun | 9 => 9 | 4 => 4 | 3 => 3 | 5 => 5 | 117 => 411 | 116 => 410 | 0 => 0 | 124 => 414 | 21 => 21 | 105 => 439 | 46 => 210 | 119 => 463 | 139 => 466 | 138 => 465 | n => n, fun | 3 => 1 | 4 => 2 | n => n⟩
set_option maxRecDepth 100000 in
theorem Tryz.lays160 : Go.Proofs.Lays.n160 Tryz.prog Tryz.lays160_ren := {
  mixed := by kernel_rfl
  f119 := Tryz.func371.trans (congrArg some (by kernel_rfl))
  f120 := Tryz.func362.trans (congrArg some (by kernel_rfl))
  f137 := Tryz.func370.trans (congrArg some (by kernel_rfl))
  f151 := Tryz.func341.trans (congrArg some (by kernel_rfl))
  f152 := Tryz.func361.trans (congrArg some (by kernel_rfl))
  f160 := Tryz.func231.trans (congrArg some (by kernel_rfl))
  f197 := Tryz.func340.trans (congrArg some (by kernel_rfl))
  f217 := Tryz.func375.trans (congrArg some (by kernel_rfl))
  f224 := Tryz.func372.trans (congrArg some (by kernel_rfl))
  f225 := Tryz.func373.trans (congrArg some (by kernel_rfl))
  f227 := Tryz.func303.trans (congrArg some (by kernel_rfl))
  f228 := Tryz.func339.trans (congrArg some (by kernel_rfl))
  f231 := Tryz.func301.trans (congrArg some (by kernel_rfl))
  f232 := Tryz.func302.trans (congrArg some (by kernel_rfl))
  f233 := Tryz.func304.trans (congrArg some (by kernel_rfl))
  f234 := Tryz.func305.trans (congrArg some (by kernel_rfl))
  f235 := Tryz.func306.trans (congrArg some (by kernel_rfl))
  f236 := Tryz.func307.trans (congrArg some (by kernel_rfl))
  f260 := Tryz.func360.trans (congrArg some (by kernel_rfl))
  f266 := Tryz.func376.trans (congrArg some (by kernel_rfl))
  f271 := Tryz.func342.trans (congrArg some (by kernel_rfl))
  t0 := Tryz.underlying0
  a0 := Tryz.isAgg0
  z0 := Tryz.sizeOf0
  v0 := Tryz.zeroValue0
  t3 := Tryz.underlying3
  a3 := Tryz.isAgg3
  z3 := Tryz.sizeOf3
  v3 := Tryz.zeroValue3
  t4 := Tryz.underlying4
  a4 := Tryz.isAgg4
  z4 := Tryz.sizeOf4
  v4 := Tryz.zeroValue4
  t5 := Tryz.underlying5
  a5 := Tryz.isAgg5
  z5 := Tryz.sizeOf5
  v5 := Tryz.zeroValue5
  t9 := Tryz.underlying9
  a9 := Tryz.isAgg9
  z9 := Tryz.sizeOf9
  v9 := Tryz.zeroValue9
  t21 := Tryz.underlying21
  a21 := Tryz.isAgg21
  z21 := Tryz.sizeOf21
  v21 := Tryz.zeroValue21
  t46 := Tryz.underlying210
  a46 := Tryz.isAgg210
  z46 := Tryz.sizeOf210
  v46 := Tryz.zeroValue210
  t105 := Tryz.underlying439
  a105 := Tryz.isAgg439
  z105 := Tryz.sizeOf439
  v105 := Tryz.zeroValue439
  t116 := Tryz.underlying410
  a116 := Tryz.isAgg410
  z116 := Tryz.sizeOf410
  t117 := Tryz.underlying411
  a117 := Tryz.isAgg411
  z117 := Tryz.sizeOf411
  v117 := Tryz.zeroValue411
  t119 := Tryz.underlying463
  a119 := Tryz.isAgg463
  z119 := Tryz.sizeOf463
  t124 := Tryz.underlying414
  a124 := Tryz.isAgg414
  z124 := Tryz.sizeOf414
  v124 := Tryz.zeroValue414
  t138 := Tryz.underlying465
  a138 := Tryz.isAgg465
  z138 := Tryz.sizeOf465
  v138 := Tryz.zeroValue465
  t139 := Tryz.underlying466
  a139 := Tryz.isAgg466
  z139 := Tryz.sizeOf466
  v139 := Tryz.zeroValue466
  g3 := by kernel_rfl
  g4 := by kernel_rfl }
open Go.RowKit in
set_option maxRecDepth 100000 in
theorem Tryz.strings_Trim_one (s : ByteArray) (c : UInt8) (hc : c.toNat < 128) (w : World) (hs : s.size ≤ 9223372036854775807) :
    Calls Tryz.prog 231 #[.string s, .string ⟨#[c]⟩] w fun e w' => e = .returned (.string ⟨(Lib.trimB s.data.toList c).toArray⟩) ∧ (w' = w ∨ w' = w.drew) := Any.strings_Trim_one Tryz.lays160 s c hc w hs
def Tryz.lays189_ren : Go.Shelf.Ren := ⟨fun | 189 => 279 | 125 => 327 | 257 => 326 | 128 => 355 | 129 => 356 | 294 => 346 | 295 => 347 | 296 => 348 | 297 => 349 | 298 => 350 | 299 => 351 | 216 => 352 | 300 => 353 | 301 => 354 | 328 => 365 | 329 => 366 | 330 => 367 | 331 => 368 | 332 => 369 | 215 => 343 | 343 => 374 | n => n, fun | 28 => 31 | 3 => 3 | 46 => 210 | 0 => 0 | 51 => 451 | 53 => 137 | 4 => 4 | 183 => 445 | 182 => 444 | 131 => 365 | 5 => 5 | 9 => 9 | 218 => 458 | 222 => 461 | 228 => 468 | 229 => 206 | n => n, fun | n => n⟩
set_option maxRecDepth 100000 in
theorem Tryz.lays189 : Go.Proofs.Lays.n189 Tryz.prog Tryz.lays189_ren := {
  mixed := by kernel_rfl
  f125 := Tryz.func327.trans (congrArg some (by kernel_rfl))
  f128 := Tryz.func355.trans (congrArg some (by kernel_rfl))
  f129 := Tryz.func356.trans (congrArg some (by kernel_rfl))
  f189 := Tryz.func279.trans (congrArg some (by kernel_rfl))
  f215 := Tryz.func343.trans (congrArg some (by kernel_rfl))
  f216 := Tryz.func352.trans (congrArg some (by kernel_rfl))
  f257 := Tryz.func326.trans (congrArg some (by kernel_rfl))
  f294 := Tryz.func346.trans (congrArg some (by kernel_rfl))
  f295 := Tryz.func347.trans (congrArg some (by kernel_rfl))
  f296 := Tryz.func348.trans (congrArg some (by kernel_rfl))
  f297 := Tryz.func349.trans (congrArg some (by kernel_rfl))
  f298 := Tryz.func350.trans (congrArg some (by kernel_rfl))
  f299 := Tryz.func351.trans (congrArg some (by kernel_rfl))
  f300 := Tryz.func353.trans (congrArg some (by kernel_rfl))
  f301 := Tryz.func354.trans (congrArg some (by kernel_rfl))
  f328 := Tryz.func365.trans (congrArg some (by kernel_rfl))
  f329 := Tryz.func366.trans (congrArg some (by kernel_rfl))
  f330 := Tryz.func367.trans (congrArg some (by kernel_rfl))
  f331 := Tryz.func368.trans (congrArg some (by kernel_rfl))
  f332 := Tryz.func369.trans (congrArg some (by kernel_rfl))
  f343 := Tryz.func374.trans (congrArg some (by kernel_rfl))
  t0 := Tryz.underlying0
  a0 := Tryz.isAgg0
  z0 := Tryz.sizeOf0
  v0 := Tryz.zeroValue0
  t3 := Tryz.underlying3
  a3 := Tryz.isAgg3
  z3 := Tryz.sizeOf3
  v3 := Tryz.zeroValue3
  t4 := Tryz.underlying4
  a4 := Tryz.isAgg4
  z4 := Tryz.sizeOf4
  v4 := Tryz.zeroValue4
  t5 := Tryz.underlying5
  a5 := Tryz.isAgg5
  z5 := Tryz.sizeOf5
  v5 := Tryz.zeroValue5
  t9 := Tryz.underlying9
  a9 := Tryz.isAgg9
  z9 := Tryz.sizeOf9
  v9 := Tryz.zeroValue9
  t28 := Tryz.underlying31
  a28 := Tryz.isAgg31
  z28 := Tryz.sizeOf31
  v28 := Tryz.zeroValue31
  t46 := Tryz.underlying210
  a46 := Tryz.isAgg210
  z46 := Tryz.sizeOf210
  v46 := Tryz.zeroValue210
  t51 := Tryz.underlying451
  a51 := Tryz.isAgg451
  z51 := Tryz.sizeOf451
  v51 := Tryz.zeroValue451
  t53 := Tryz.underlying137
  a53 := Tryz.isAgg137
  z53 := Tryz.sizeOf137
  v53 := Tryz.zeroValue137
  t131 := Tryz.underlying365
  a131 := Tryz.isAgg365
  z131 := Tryz.sizeOf365
  v131 := Tryz.zeroValue365
  t182 := Tryz.underlying444
  a182 := Tryz.isAgg444
  z182 := Tryz.sizeOf444
  v182 := Tryz.zeroValue444
  t183 := Tryz.underlying445
  a183 := Tryz.isAgg445
  z183 := Tryz.sizeOf445
  v183 := Tryz.zeroValue445
  t218 := Tryz.underlying458
  a218 := Tryz.isAgg458
  z218 := Tryz.sizeOf458
  v218 := Tryz.zeroValue458
  t222 := Tryz.underlying461
  a222 := Tryz.isAgg461
  z222 := Tryz.sizeOf461
  v222 := Tryz.zeroValue461
  t228 := Tryz.underlying468
  a228 := Tryz.isAgg468
  z228 := Tryz.sizeOf468
  v228 := Tryz.zeroValue468
  t229 := Tryz.underlying206
  a229 := Tryz.isAgg206
  z229 := Tryz.sizeOf206
  v229 := Tryz.zeroValue206 }
open Go.Sort Go.RowKit in
set_option maxRecDepth 100000 in
theorem Tryz.slices_Sort_int (blk off cap : Nat) (zs : List Int) (w : World) (hH : Holds (Value.int .i64) w blk off zs.toArray) (hblk : blk < w.heap.size) (hsz : zs.length < 4611686018427387904) :
    Calls Tryz.prog 279 #[.slice (some ⟨blk, off, none⟩) zs.length cap] w fun e w' =>
      e = .returned (.tuple #[]) ∧ ∃ n os, w' = grow (putRow (Value.int .i64) (Sort.ahead w n) blk off (zs.mergeSort fun x y => decide (x ≤ y)).toArray) os := Any.slices_Sort_int Tryz.lays189 blk off cap zs w hH hblk hsz
def Tryz.lays193_ren : Go.Shelf.Ren := ⟨fun | 193 => 321 | n => n, fun | 31 => 32 | 9 => 9 | 4 => 4 | 3 => 3 | 0 => 0 | n => n, fun | n => n⟩
set_option maxRecDepth 100000 in
theorem Tryz.lays193 : Go.Proofs.Lays.n193 Tryz.prog Tryz.lays193_ren := {
  mixed := by kernel_rfl
  f193 := Tryz.func321.trans (congrArg some (by kernel_rfl))
  t0 := Tryz.underlying0
  a0 := Tryz.isAgg0
  z0 := Tryz.sizeOf0
  v0 := Tryz.zeroValue0
  t3 := Tryz.underlying3
  a3 := Tryz.isAgg3
  z3 := Tryz.sizeOf3
  v3 := Tryz.zeroValue3
  t4 := Tryz.underlying4
  a4 := Tryz.isAgg4
  z4 := Tryz.sizeOf4
  v4 := Tryz.zeroValue4
  t9 := Tryz.underlying9
  a9 := Tryz.isAgg9
  z9 := Tryz.sizeOf9
  v9 := Tryz.zeroValue9
  t31 := Tryz.underlying32
  a31 := Tryz.isAgg32
  z31 := Tryz.sizeOf32
  v31 := Tryz.zeroValue32 }
open Go.RowKit Go.Lib in
set_option maxRecDepth 100000 in
theorem Tryz.slices_Equal_string (b1 o1 n c b2 o2 m d : Nat) (xs ys : List ByteArray) (w : World) (hx : n ≤ xs.length) (hy : m ≤ ys.length) (hbig : n ≤ 9223372036854775807) (hbig2 : m ≤ 9223372036854775807) (hc1 : ∀ j, j < xs.length → w.cell? ⟨b1, o1 + j, none⟩ = some (.string (xs.getD j ByteArray.empty))) (hc2 : ∀ j, j < ys.length → w.cell? ⟨b2, o2 + j, none⟩ = some (.string (ys.getD j ByteArray.empty))) :
    Calls Tryz.prog 321 #[.slice (some ⟨b1, o1, none⟩) n c, .slice (some ⟨b2, o2, none⟩) m d] w fun e w' => e = .returned (.bool (decide (xs.take n = ys.take m))) ∧ ∃ q, w' = w.drewN q := Any.slices_Equal_string Tryz.lays193 b1 o1 n c b2 o2 m d xs ys w hx hy hbig hbig2 hc1 hc2
open Go.RowKit Go.Lib in
set_option maxRecDepth 100000 in
theorem Tryz.slices_Equal_string_empty (a1 a2 : Option Addr) (c m d : Nat) (w : World) (hbig2 : m ≤ 9223372036854775807) :
    Calls Tryz.prog 321 #[.slice a1 0 c, .slice a2 m d] w fun e w' => e = .returned (.bool (decide (m = 0))) ∧ w' = w := Any.slices_Equal_string_empty Tryz.lays193 a1 a2 c m d w hbig2
open Go.RowKit Go.Sort in
set_option maxRecDepth 100000 in
theorem Tryz.slices_Sort_int_none (p : Option Addr) (cap : Nat) (w : World) :
    Calls Tryz.prog 279 #[.slice p 0 cap] w fun e w' => e = .returned (.tuple #[]) ∧ w' = w := Any.slices_Sort_int_none Tryz.lays189 p cap w
open Go.RowKit in
set_option maxRecDepth 100000 in
theorem Tryz.strings_Trim_laid (h116 : (Tryz.prog.info? (Tryz.lays160_ren.t 116)).map (fun i => (i.zero, i.size)) = some (some (.agg (Array.replicate 256 (.bool false))), 256)) (s cutset : ByteArray) (w : World) (hs : s.size ≤ 9223372036854775807) (hcs : cutset.size < 4294967281) (hascii : ∀ (j : Nat) b, cutset.data.toList[j]? = some b → b.toNat < 128) :
    Calls Tryz.prog 231 #[.string s, .string cutset] w fun e w' => e = .returned (.string ⟨(Lib.trimS s.data.toList cutset.data.toList).toArray⟩) ∧ Below w.heap.size w w' := Any.strings_Trim_laid Tryz.lays160 h116 s cutset w hs hcs hascii
end Go.Proofs
