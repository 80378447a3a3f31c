/-
  Chapter 15: syscalls' texts, plainly. (Plain definitions, and what the shelf gives.)
  Conditions: none.
-/
import Derived.Shelf.Strings.Builder1
import Derived.Shelf.Small.Strs
import Derived.Shelf.Utf8.RuneCount
import Derived.Shelf.Strconv.Atoi
import Derived.Shelf.Strconv.Itoa0
import Derived.Shelf.Strconv.Itoa1
import Derived.Shelf.LaysM
import Derived.Shelf.Strconv.Itoa2
import Derived.Shelf.Strconv.Itoa3
import Derived.Shelf.Strconv.AtoiErrFast
import Derived.Shelf.Strconv.ParseIntEmpty
import Derived.Shelf.Strconv.AtoiFail
import Derived.Shelf.Strconv.Clone
import Derived.Shelf.Strconv.SyntaxError
import Derived.Shelf.LaysC
import Derived.Shelf.Strconv.ToError
import Derived.Shelf.Strconv.Lower
import Derived.Shelf.Strconv.ParseUint10
import Derived.Shelf.Strconv.ParseUint10Empty
import Derived.Shelf.Strconv.ParseUint10Any
import Derived.Shelf.Strconv.ParseInt10
import Derived.Shelf.Strconv.AtoiLong
import Derived.Shelf.Strconv.AtoiInnerAll
import Derived.Shelf.Strconv.RangeError
import Derived.Shelf.Strconv.ToErrorRange
import Derived.Shelf.Strconv.AtoiAll
import Derived.Shelf.Strconv.ParseUintEmpty
import Derived.Shelf.Strings.Search1
import Derived.Shelf.Strings.Search2
import Derived.Shelf.Strings.Search3
import Derived.Shelf.Strings.Count
import Derived.Shelf.Strings.Shaped
import Derived.Shelf.Strings.Split
import Derived.Shelf.Strings.SplitShaped
import Derived.Shelf.Unicode.Decode
import Derived.Shelf.Strings.RuneCount
import Derived.Shelf.Strings.Explode
import Derived.Shelf.Unicode.DecodeSlow
import Derived.Shelf.Unicode.DecodeAny
import Derived.Test.YtkkhoflfhonlgaaDoorProg
import Derived.Test.YtkkhoflfhonlgaaDoorHz3
import Derived.Test.YtkkhoflfhonlgaaDoorHr
import Derived.Lib.SplitLaws
import Derived.Lib.IndexMore
import Derived.Lib.LaidTab
import Derived.Lib.AtoiErrMem
namespace Go.Proofs
open Go.Shelf
def Tryd.laysM171_ren : Go.Shelf.Ren := ⟨fun | 171 => 35 | 243 => 48 | 246 => 54 | 283 => 62 | 284 => 63 | 285 => 64 | 286 => 65 | 129 => 76 | 317 => 75 | 318 => 77 | 319 => 78 | 320 => 79 | 337 => 87 | 338 => 88 | n => n, fun | 3 => 3 | 9 => 9 | 2 => 2 | 4 => 4 | 171 => 99 | 0 => 0 | 53 => 100 | 37 => 66 | 5 => 5 | 173 => 103 | 212 => 116 | 51 => 117 | 20 => 20 | 213 => 118 | 46 => 119 | 232 => 138 | 233 => 139 | n => n, fun | 17 => 1 | 18 => 6 | 19 => 7 | n => n⟩
theorem Tryd.laysM171 : Go.Proofs.LaysM.n171 Tryd.prog Tryd.laysM171_ren := {
  mixed := by kernel_rfl
  f129 := Tryd.func76.trans (congrArg some (by kernel_rfl))
  f171 := Tryd.func35.trans (congrArg some (by kernel_rfl))
  f243 := Tryd.func48.trans (congrArg some (by kernel_rfl))
  f246 := Tryd.func54.trans (congrArg some (by kernel_rfl))
  f283 := Tryd.func62.trans (congrArg some (by kernel_rfl))
  f284 := Tryd.func63.trans (congrArg some (by kernel_rfl))
  f285 := Tryd.func64.trans (congrArg some (by kernel_rfl))
  f286 := Tryd.func65.trans (congrArg some (by kernel_rfl))
  f317 := Tryd.func75.trans (congrArg some (by kernel_rfl))
  f318 := Tryd.func77.trans (congrArg some (by kernel_rfl))
  f319 := Tryd.func78.trans (congrArg some (by kernel_rfl))
  f320 := Tryd.func79.trans (congrArg some (by kernel_rfl))
  f337 := Tryd.func87.trans (congrArg some (by kernel_rfl))
  f338 := Tryd.func88.trans (congrArg some (by kernel_rfl))
  t0 := Tryd.underlying0
  a0 := Tryd.isAgg0
  z0 := Tryd.sizeOf0
  v0 := Tryd.zeroValue0
  t2 := Tryd.underlying2
  a2 := Tryd.isAgg2
  z2 := Tryd.sizeOf2
  v2 := Tryd.zeroValue2
  t3 := Tryd.underlying3
  a3 := Tryd.isAgg3
  z3 := Tryd.sizeOf3
  v3 := Tryd.zeroValue3
  t4 := Tryd.underlying4
  a4 := Tryd.isAgg4
  z4 := Tryd.sizeOf4
  v4 := Tryd.zeroValue4
  t5 := Tryd.underlying5
  a5 := Tryd.isAgg5
  z5 := Tryd.sizeOf5
  v5 := Tryd.zeroValue5
  t9 := Tryd.underlying9
  a9 := Tryd.isAgg9
  z9 := Tryd.sizeOf9
  v9 := Tryd.zeroValue9
  t20 := Tryd.underlying20
  a20 := Tryd.isAgg20
  z20 := Tryd.sizeOf20
  v20 := Tryd.zeroValue20
  t37 := Tryd.underlying66
  a37 := Tryd.isAgg66
  z37 := Tryd.sizeOf66
  v37 := Tryd.zeroValue66
  t46 := Tryd.underlying119
  a46 := Tryd.isAgg119
  z46 := Tryd.sizeOf119
  v46 := Tryd.zeroValue119
  t51 := Tryd.underlying117
  a51 := Tryd.isAgg117
  z51 := Tryd.sizeOf117
  v51 := Tryd.zeroValue117
  t53 := Tryd.underlying100
  a53 := Tryd.isAgg100
  z53 := Tryd.sizeOf100
  v53 := Tryd.zeroValue100
  t171 := Tryd.underlying99
  a171 := Tryd.isAgg99
  z171 := Tryd.sizeOf99
  v171 := Tryd.zeroValue99
  t173 := Tryd.underlying103
  a173 := Tryd.isAgg103
  z173 := Tryd.sizeOf103
  v173 := Tryd.zeroValue103
  t212 := Tryd.underlying116
  a212 := Tryd.isAgg116
  z212 := Tryd.sizeOf116
  v212 := Tryd.zeroValue116
  t213 := Tryd.underlying118
  a213 := Tryd.isAgg118
  z213 := Tryd.sizeOf118
  t232 := Tryd.underlying138
  a232 := Tryd.isAgg138
  z232 := Tryd.sizeOf138
  v232 := Tryd.zeroValue138
  t233 := Tryd.underlying139
  a233 := Tryd.isAgg139
  z233 := Tryd.sizeOf139
  v233 := Tryd.zeroValue139
  g17 := by kernel_rfl
  g18 := by kernel_rfl
  g19 := by kernel_rfl
  i0 := by kernel_rfl
  i2 := by kernel_rfl
  i3 := by kernel_rfl
  i4 := by kernel_rfl
  i5 := by kernel_rfl
  i9 := by kernel_rfl
  i20 := by kernel_rfl
  i37 := by kernel_rfl
  i46 := by kernel_rfl
  i51 := by kernel_rfl
  i53 := by kernel_rfl
  i171 := by kernel_rfl
  i173 := by kernel_rfl
  i212 := by kernel_rfl
  i232 := by kernel_rfl
  i233 := by kernel_rfl
  m17 := by kernel_rfl
  m18 := by kernel_rfl
  m19 := by kernel_rfl }
open Go.RowKit Go.Sort Go.Lib in
/-- strconv.Itoa: "Itoa is equivalent to FormatInt(int64(i), 10).": i's DECIMAL NUMERAL ('Lib.itoa': a '-' where i is negative, then the digits), FOR EVERY int. The world behind the call: the world before it, new blocks behind the heap (the library's 'var a [24]byte'), draws. (LAID: no walk: one application.) -/
theorem Tryd.strconv_Itoa (n : Int) (h0 : -9223372036854775808 ≤ n) (h1 : n ≤ 9223372036854775807) (w : World) (htab : Lib.TabIs Tryd.prog w "internal/strconv.uint64pow10" .u64 Lib.pow10Tab) :
    Calls Tryd.prog 35 #[.int .i64 n] w fun e w' => e = .returned (.string ⟨(Lib.itoa n).toArray⟩) ∧ ∃ k os, w' = grow (w.drewN k) os := Any.strconv_Itoa Tryd.laysM171 n h0 h1 w htab
def Tryd.lays146_ren : Go.Shelf.Ren := ⟨fun | 146 => 42 | 221 => 51 | 268 => 57 | 138 => 58 | 143 => 59 | 195 => 66 | 197 => 67 | 218 => 68 | 219 => 69 | 260 => 80 | 217 => 49 | 225 => 81 | 224 => 82 | 267 => 83 | 266 => 55 | 314 => 89 | n => n, fun | 9 => 9 | 31 => 81 | 3 => 3 | 4 => 4 | 0 => 0 | 105 => 106 | 21 => 21 | 5 => 5 | 46 => 119 | 119 => 128 | 139 => 131 | 138 => 130 | 146 => 132 | 51 => 117 | n => n, fun | 1 => 0 | 3 => 4 | 4 => 5 | n => n⟩
theorem Tryd.lays146 : Go.Proofs.Lays.n146 Tryd.prog Tryd.lays146_ren := {
  mixed := by kernel_rfl
  f138 := Tryd.func58.trans (congrArg some (by kernel_rfl))
  f143 := Tryd.func59.trans (congrArg some (by kernel_rfl))
  f146 := Tryd.func42.trans (congrArg some (by kernel_rfl))
  f195 := Tryd.func66.trans (congrArg some (by kernel_rfl))
  f197 := Tryd.func67.trans (congrArg some (by kernel_rfl))
  f217 := Tryd.func49.trans (congrArg some (by kernel_rfl))
  f218 := Tryd.func68.trans (congrArg some (by kernel_rfl))
  f219 := Tryd.func69.trans (congrArg some (by kernel_rfl))
  f221 := Tryd.func51.trans (congrArg some (by kernel_rfl))
  f224 := Tryd.func82.trans (congrArg some (by kernel_rfl))
  f225 := Tryd.func81.trans (congrArg some (by kernel_rfl))
  f260 := Tryd.func80.trans (congrArg some (by kernel_rfl))
  f266 := Tryd.func55.trans (congrArg some (by kernel_rfl))
  f267 := Tryd.func83.trans (congrArg some (by kernel_rfl))
  f268 := Tryd.func57.trans (congrArg some (by kernel_rfl))
  f314 := Tryd.func89.trans (congrArg some (by kernel_rfl))
  t0 := Tryd.underlying0
  a0 := Tryd.isAgg0
  z0 := Tryd.sizeOf0
  v0 := Tryd.zeroValue0
  t3 := Tryd.underlying3
  a3 := Tryd.isAgg3
  z3 := Tryd.sizeOf3
  v3 := Tryd.zeroValue3
  t4 := Tryd.underlying4
  a4 := Tryd.isAgg4
  z4 := Tryd.sizeOf4
  v4 := Tryd.zeroValue4
  t5 := Tryd.underlying5
  a5 := Tryd.isAgg5
  z5 := Tryd.sizeOf5
  v5 := Tryd.zeroValue5
  t9 := Tryd.underlying9
  a9 := Tryd.isAgg9
  z9 := Tryd.sizeOf9
  v9 := Tryd.zeroValue9
  t21 := Tryd.underlying21
  a21 := Tryd.isAgg21
  z21 := Tryd.sizeOf21
  v21 := Tryd.zeroValue21
  t31 := Tryd.underlying81
  a31 := Tryd.isAgg81
  z31 := Tryd.sizeOf81
  v31 := Tryd.zeroValue81
  t46 := Tryd.underlying119
  a46 := Tryd.isAgg119
  z46 := Tryd.sizeOf119
  v46 := Tryd.zeroValue119
  t51 := Tryd.underlying117
  a51 := Tryd.isAgg117
  z51 := Tryd.sizeOf117
  v51 := Tryd.zeroValue117
  t105 := Tryd.underlying106
  a105 := Tryd.isAgg106
  z105 := Tryd.sizeOf106
  v105 := Tryd.zeroValue106
  t119 := Tryd.underlying128
  a119 := Tryd.isAgg128
  z119 := Tryd.sizeOf128
  t138 := Tryd.underlying130
  a138 := Tryd.isAgg130
  z138 := Tryd.sizeOf130
  v138 := Tryd.zeroValue130
  t139 := Tryd.underlying131
  a139 := Tryd.isAgg131
  z139 := Tryd.sizeOf131
  v139 := Tryd.zeroValue131
  t146 := Tryd.underlying132
  a146 := Tryd.isAgg132
  z146 := Tryd.sizeOf132
  v146 := Tryd.zeroValue132
  g1 := by kernel_rfl
  g3 := by kernel_rfl
  g4 := by kernel_rfl }
open Go.RowKit Go.Lib in
/-- strings.Split. (LAID: no walk: one application.) -/
theorem Tryd.strings_Split (s sep : ByteArray) (m : Int) (w : World) (hs : s.size < 4294967281) (hm : w.cell? ⟨0, 0, none⟩ = some (.int .i64 m)) (h1 : 1 ≤ sep.size) :
    Calls Tryd.prog 42 #[.string s, .string sep] w fun e w' =>
      e = .returned (.slice (some ⟨w.heap.size, 0, none⟩) (Lib.countB s sep + 1) (Lib.countB s sep + 1)) ∧ w' = w.alloc (.cells ((Lib.splitB sep 0 (Lib.countB s sep) s).map Value.string).toArray 9) := Any.strings_Split Tryd.lays146 (by kernel_rfl) s sep m w hs hm h1
def Tryd.laysC172_ren : Go.Shelf.Ren := ⟨fun | 172 => 52 | 244 => 60 | 245 => 61 | 247 => 70 | 279 => 71 | 280 => 72 | 281 => 73 | 282 => 74 | 287 => 84 | 316 => 85 | 171 => 35 | 205 => 86 | 321 => 90 | 322 => 91 | 243 => 48 | 246 => 54 | 283 => 62 | 284 => 63 | 285 => 64 | 286 => 65 | 129 => 76 | 317 => 75 | 318 => 77 | 319 => 78 | 320 => 79 | 337 => 87 | 338 => 88 | n => n, fun | 9 => 9 | 3 => 3 | 75 => 72 | 76 => 73 | 4 => 4 | 5 => 5 | 167 => 108 | 37 => 66 | 0 => 0 | 85 => 109 | 2 => 2 | 168 => 111 | 53 => 100 | 175 => 121 | 46 => 119 | 210 => 125 | 127 => 90 | 145 => 137 | 143 => 135 | 21 => 21 | 171 => 99 | 173 => 103 | 212 => 116 | 51 => 117 | 20 => 20 | 213 => 118 | 232 => 138 | 233 => 139 | 80 => 76 | n => n, fun | 15 => 2 | 16 => 3 | 17 => 1 | 18 => 6 | 19 => 7 | n => n⟩
theorem Tryd.laysC172 : Go.Proofs.LaysC.n172 Tryd.prog Tryd.laysC172_ren := {
  mixed := by kernel_rfl
  f129 := Tryd.func76.trans (congrArg some (by kernel_rfl))
  f171 := Tryd.func35.trans (congrArg some (by kernel_rfl))
  f172 := Tryd.func52.trans (congrArg some (by kernel_rfl))
  f205 := Tryd.func86.trans (congrArg some (by kernel_rfl))
  f243 := Tryd.func48.trans (congrArg some (by kernel_rfl))
  f244 := Tryd.func60.trans (congrArg some (by kernel_rfl))
  f245 := Tryd.func61.trans (congrArg some (by kernel_rfl))
  f246 := Tryd.func54.trans (congrArg some (by kernel_rfl))
  f247 := Tryd.func70.trans (congrArg some (by kernel_rfl))
  f279 := Tryd.func71.trans (congrArg some (by kernel_rfl))
  f280 := Tryd.func72.trans (congrArg some (by kernel_rfl))
  f281 := Tryd.func73.trans (congrArg some (by kernel_rfl))
  f282 := Tryd.func74.trans (congrArg some (by kernel_rfl))
  f283 := Tryd.func62.trans (congrArg some (by kernel_rfl))
  f284 := Tryd.func63.trans (congrArg some (by kernel_rfl))
  f285 := Tryd.func64.trans (congrArg some (by kernel_rfl))
  f286 := Tryd.func65.trans (congrArg some (by kernel_rfl))
  f287 := Tryd.func84.trans (congrArg some (by kernel_rfl))
  f316 := Tryd.func85.trans (congrArg some (by kernel_rfl))
  f317 := Tryd.func75.trans (congrArg some (by kernel_rfl))
  f318 := Tryd.func77.trans (congrArg some (by kernel_rfl))
  f319 := Tryd.func78.trans (congrArg some (by kernel_rfl))
  f320 := Tryd.func79.trans (congrArg some (by kernel_rfl))
  f321 := Tryd.func90.trans (congrArg some (by kernel_rfl))
  f322 := Tryd.func91.trans (congrArg some (by kernel_rfl))
  f337 := Tryd.func87.trans (congrArg some (by kernel_rfl))
  f338 := Tryd.func88.trans (congrArg some (by kernel_rfl))
  t0 := Tryd.underlying0
  a0 := Tryd.isAgg0
  z0 := Tryd.sizeOf0
  v0 := Tryd.zeroValue0
  t2 := Tryd.underlying2
  a2 := Tryd.isAgg2
  z2 := Tryd.sizeOf2
  v2 := Tryd.zeroValue2
  t3 := Tryd.underlying3
  a3 := Tryd.isAgg3
  z3 := Tryd.sizeOf3
  v3 := Tryd.zeroValue3
  t4 := Tryd.underlying4
  a4 := Tryd.isAgg4
  z4 := Tryd.sizeOf4
  v4 := Tryd.zeroValue4
  t5 := Tryd.underlying5
  a5 := Tryd.isAgg5
  z5 := Tryd.sizeOf5
  v5 := Tryd.zeroValue5
  t9 := Tryd.underlying9
  a9 := Tryd.isAgg9
  z9 := Tryd.sizeOf9
  v9 := Tryd.zeroValue9
  t20 := Tryd.underlying20
  a20 := Tryd.isAgg20
  z20 := Tryd.sizeOf20
  v20 := Tryd.zeroValue20
  t21 := Tryd.underlying21
  a21 := Tryd.isAgg21
  z21 := Tryd.sizeOf21
  v21 := Tryd.zeroValue21
  t37 := Tryd.underlying66
  a37 := Tryd.isAgg66
  z37 := Tryd.sizeOf66
  v37 := Tryd.zeroValue66
  t46 := Tryd.underlying119
  a46 := Tryd.isAgg119
  z46 := Tryd.sizeOf119
  v46 := Tryd.zeroValue119
  t51 := Tryd.underlying117
  a51 := Tryd.isAgg117
  z51 := Tryd.sizeOf117
  v51 := Tryd.zeroValue117
  t53 := Tryd.underlying100
  a53 := Tryd.isAgg100
  z53 := Tryd.sizeOf100
  v53 := Tryd.zeroValue100
  t75 := Tryd.underlying72
  a75 := Tryd.isAgg72
  z75 := Tryd.sizeOf72
  v75 := Tryd.zeroValue72
  t76 := Tryd.underlying73
  a76 := Tryd.isAgg73
  z76 := Tryd.sizeOf73
  v76 := Tryd.zeroValue73
  t85 := Tryd.underlying109
  a85 := Tryd.isAgg109
  z85 := Tryd.sizeOf109
  v85 := Tryd.zeroValue109
  t127 := Tryd.underlying90
  a127 := Tryd.isAgg90
  z127 := Tryd.sizeOf90
  v127 := Tryd.zeroValue90
  t143 := Tryd.underlying135
  a143 := Tryd.isAgg135
  z143 := Tryd.sizeOf135
  v143 := Tryd.zeroValue135
  t145 := Tryd.underlying137
  a145 := Tryd.isAgg137
  z145 := Tryd.sizeOf137
  v145 := Tryd.zeroValue137
  t167 := Tryd.underlying108
  a167 := Tryd.isAgg108
  z167 := Tryd.sizeOf108
  v167 := Tryd.zeroValue108
  t168 := Tryd.underlying111
  a168 := Tryd.isAgg111
  z168 := Tryd.sizeOf111
  v168 := Tryd.zeroValue111
  t171 := Tryd.underlying99
  a171 := Tryd.isAgg99
  z171 := Tryd.sizeOf99
  v171 := Tryd.zeroValue99
  t173 := Tryd.underlying103
  a173 := Tryd.isAgg103
  z173 := Tryd.sizeOf103
  v173 := Tryd.zeroValue103
  t175 := Tryd.underlying121
  a175 := Tryd.isAgg121
  z175 := Tryd.sizeOf121
  v175 := Tryd.zeroValue121
  t210 := Tryd.underlying125
  a210 := Tryd.isAgg125
  z210 := Tryd.sizeOf125
  v210 := Tryd.zeroValue125
  t212 := Tryd.underlying116
  a212 := Tryd.isAgg116
  z212 := Tryd.sizeOf116
  v212 := Tryd.zeroValue116
  t213 := Tryd.underlying118
  a213 := Tryd.isAgg118
  z213 := Tryd.sizeOf118
  t232 := Tryd.underlying138
  a232 := Tryd.isAgg138
  z232 := Tryd.sizeOf138
  v232 := Tryd.zeroValue138
  t233 := Tryd.underlying139
  a233 := Tryd.isAgg139
  z233 := Tryd.sizeOf139
  v233 := Tryd.zeroValue139
  g15 := by kernel_rfl
  g16 := by kernel_rfl
  g17 := by kernel_rfl
  g18 := by kernel_rfl
  g19 := by kernel_rfl
  t80 := Tryd.underlying76
  a80 := Tryd.isAgg76
  z80 := Tryd.sizeOf76
  v80 := Tryd.zeroValue76
  i0 := by kernel_rfl
  i2 := by kernel_rfl
  i3 := by kernel_rfl
  i4 := by kernel_rfl
  i5 := by kernel_rfl
  i9 := by kernel_rfl
  i20 := by kernel_rfl
  i21 := by kernel_rfl
  i37 := by kernel_rfl
  i46 := by kernel_rfl
  i51 := by kernel_rfl
  i53 := by kernel_rfl
  i75 := by kernel_rfl
  i76 := by kernel_rfl
  i80 := by kernel_rfl
  i85 := by kernel_rfl
  i127 := by kernel_rfl
  i143 := by kernel_rfl
  i145 := by kernel_rfl
  i167 := by kernel_rfl
  i168 := by kernel_rfl
  i171 := by kernel_rfl
  i173 := by kernel_rfl
  i175 := by kernel_rfl
  i210 := by kernel_rfl
  i212 := by kernel_rfl
  i232 := by kernel_rfl
  i233 := by kernel_rfl
  m15 := by kernel_rfl
  m16 := by kernel_rfl
  m17 := by kernel_rfl
  m18 := by kernel_rfl
  m19 := by kernel_rfl
  c0 := by kernel_rfl
  c2 := by kernel_rfl
  c3 := by kernel_rfl
  c4 := by kernel_rfl
  c5 := by kernel_rfl
  c9 := by kernel_rfl
  c20 := by kernel_rfl
  c21 := by kernel_rfl
  c37 := by kernel_rfl
  c46 := by kernel_rfl
  c51 := by kernel_rfl
  c53 := by kernel_rfl
  c75 := by kernel_rfl
  c76 := by kernel_rfl
  c80 := by kernel_rfl
  c85 := by kernel_rfl
  c127 := by kernel_rfl
  c143 := by kernel_rfl
  c145 := by kernel_rfl
  c167 := by kernel_rfl
  c168 := by kernel_rfl
  c171 := by kernel_rfl
  c173 := by kernel_rfl
  c175 := by kernel_rfl
  c210 := by kernel_rfl
  c212 := by kernel_rfl
  c213 := by kernel_rfl
  c232 := by kernel_rfl
  c233 := by kernel_rfl }
open Go.RowKit in
/-- strconv.Atoi, AT EVERY STRING THAT SPELLS AN int ('Lib.atoiAll .. = .ok v'; of whatever length: leading zeros count): v, AND NO ERROR. The world: as it was, or with the one new row that '[]byte(..)' lays. (LAID: no walk: one application.) -/
theorem Tryd.strconv_Atoi_ok (s : ByteArray) (hmax : s.size ≤ 9223372036854775806) (v : Int) (h : Lib.atoiAll s.data.toList = .ok v) (w : World) :
    Calls Tryd.prog 52 #[.string s] w fun e w' => e = .returned (.tuple #[.int .i64 v, .nilIface]) ∧ (w' = w ∨ ∃ t, w' = Lib.bytesWorld w 5 t) := Any.strconv_Atoi_ok Tryd.laysC172 s hmax v h w
open Go.RowKit in
/-- strconv.Atoi, AT EVERY STRING THAT IS NO DECIMAL NUMERAL ('.syntax'): 0, AND AN ERROR THAT IS NOT nil: a *NumError in a new block N: {Func: "Atoi", Num: s's bytes, Err: what the variable ErrSyntax holds}. Of what was there nothing has turned. (LAID: no walk: one application.) -/
theorem Tryd.strconv_Atoi_syntax (s : ByteArray) (hlim : s.size ≤ 281474976710656) (h : Lib.atoiAll s.data.toList = Go.Lib.NumEnd.syntax) (ev : Value) (w : World) (hv : w.cell? ⟨2, 0, none⟩ = some ev) (hev : ev = .nilIface ∨ ∃ te pe, ev = .iface te pe) :
    Calls Tryd.prog 52 #[.string s] w fun e w' => ∃ N, e = .returned (.tuple #[.int .i64 (0), .iface 111 (.pointer (some ⟨N, 0, none⟩))]) ∧ w.heap.size ≤ N ∧ w'.heap[N]? = some (.cells #[.string ⟨#[65, 116, 111, 105]⟩, .string s, ev] 125 (0, 0)) ∧ Below w.heap.size w w' := Any.strconv_Atoi_syntax Tryd.laysC172 s hlim h ev w hv hev
open Go.RowKit in
/-- strconv.Atoi, AT EVERY NUMERAL THAT NO int HOLDS ('.range'): THE GREATEST OR THE LEAST int, BY THE SIGN ('Lib.atoiSat'), AND AN ERROR THAT IS NOT nil: a *NumError in a new block N: {Func: "Atoi", Num: s's bytes, Err: what the variable ErrRange holds}. Of what was there nothing has turned. (LAID: no walk: one application.) -/
theorem Tryd.strconv_Atoi_range (s : ByteArray) (hlim : s.size ≤ 281474976710656) (h : Lib.atoiAll s.data.toList = .range) (ev : Value) (w : World) (hv : w.cell? ⟨3, 0, none⟩ = some ev) (hev : ev = .nilIface ∨ ∃ te pe, ev = .iface te pe) :
    Calls Tryd.prog 52 #[.string s] w fun e w' => ∃ N, e = .returned (.tuple #[.int .i64 (Lib.atoiSat s.data.toList), .iface 111 (.pointer (some ⟨N, 0, none⟩))]) ∧ w.heap.size ≤ N ∧ w'.heap[N]? = some (.cells #[.string ⟨#[65, 116, 111, 105]⟩, .string s, ev] 125 (0, 0)) ∧ Below w.heap.size w w' := Any.strconv_Atoi_range Tryd.laysC172 s hlim h ev w hv hev
end Go.Proofs
open Go Go.Proofs
namespace Go.Proofs.Hz
open Go.RowKit

/-! ### Plain: a number's text, a text in parts -/
/-- The decimal digits, from behind. -/
def digK : Nat → Nat → List UInt8 → List UInt8
  | 0, _, acc => acc
  | f + 1, u, acc => if u < 10 then UInt8.ofNat (48 + u) :: acc else digK f (u / 10) (UInt8.ofNat (48 + u % 10) :: acc)
def itoaK (n : Int) : List UInt8 := if n < 0 then 45 :: digK 20 n.natAbs [] else digK 20 n.toNat []
theorem digK_eq : ∀ (f u : Nat) (acc : List UInt8), u < 10 ^ (f + 1) → digK (f + 1) u acc = Lib.decDigits u ++ acc
  | 0, u, acc, h => by
    have h10 : u < 10 := by simpa using h
    unfold digK
    rw [Lib.decDigits, if_pos h10, dif_pos h10]; rfl
  | f + 1, u, acc, h => by
    unfold digK
    rw [Lib.decDigits]
    by_cases h10 : u < 10
    · rw [if_pos h10, dif_pos h10]; rfl
    · rw [if_neg h10, dif_neg h10, digK_eq f (u / 10) _ (by rw [Nat.pow_succ] at h; omega)]
      simp
theorem itoaK_eq {n : Int} (h0 : -9223372036854775808 ≤ n) (h1 : n ≤ 9223372036854775807) : itoaK n = Lib.itoa n := by
  unfold itoaK Lib.itoa
  split
  · rw [digK_eq 19 _ _ (by have : (10 : Nat) ^ (19 + 1) = 100000000000000000000 := by decide
                           omega)]
    simp
  · rw [digK_eq 19 _ _ (by have : (10 : Nat) ^ (19 + 1) = 100000000000000000000 := by decide
                           omega)]
    simp
def splitC (c : UInt8) : List UInt8 → List (List UInt8)
  | [] => [[]]
  | x :: l => if x = c then [] :: splitC c l else match splitC c l with
    | p :: ps => (x :: p) :: ps
    | [] => [[x]]
theorem splitC_ne (c : UInt8) : ∀ l, splitC c l ≠ []
  | [] => by simp [splitC]
  | x :: l => by
    unfold splitC
    split
    · simp
    · split <;> simp
theorem splitC_none {c : UInt8} : ∀ {l : List UInt8}, c ∉ l → splitC c l = [l]
  | [], _ => rfl
  | x :: l, h => by
    simp only [List.mem_cons, not_or] at h
    unfold splitC
    rw [if_neg (fun e => h.1 e.symm), splitC_none h.2]
theorem splitC_at {c : UInt8} : ∀ {p l : List UInt8}, c ∉ p → splitC c (p ++ c :: l) = p :: splitC c l
  | [], l, _ => by simp [splitC]
  | x :: p, l, h => by
    simp only [List.mem_cons, not_or] at h
    simp only [List.cons_append, splitC]
    rw [if_neg (fun e => h.1 e.symm), splitC_at h.2]
theorem index_one (c : UInt8) : ∀ l : List UInt8, Lib.index l [c] = Lib.indexByte l c
  | [] => rfl
  | b :: l => by
    simp only [Lib.index, Lib.indexByte, index_one c l]
    by_cases h : c = b
    · subst h; simp
    · have h2 : (b == c) = false := beq_eq_false_iff_ne.2 fun e => h e.symm
      have h1 : (c == b) = false := beq_eq_false_iff_ne.2 h
      simp [List.isPrefixOf, h1, h2]
theorem splitK_eq {c : UInt8} {sep : ByteArray} (hsep : sep.data.toList = [c]) : ∀ (k : Nat) (s : ByteArray), Lib.countB s sep = k → (Lib.splitB sep 0 k s).map (·.data.toList) = splitC c s.data.toList := by
  have h1 : sep.size = 1 := by rw [Lib.size_eq, hsep]; rfl
  have hix : ∀ s : ByteArray, Lib.indexB s sep = Lib.indexByte s.data.toList c := fun s => by
    show Lib.index _ _ = _
    rw [hsep, index_one]
  intro k
  induction k with
  | zero =>
    intro s hk
    have hm : Lib.indexB s sep = -1 := by
      rcases Lib.indexB_cases s sep with h | ⟨i, h, _⟩
      · exact h
      · have := Lib.countB_hit s sep i (by omega) h
        omega
    rw [hix] at hm
    have := Lib.indexByte_none hm
    rw [splitC_none fun hc => by
      obtain ⟨j, hj⟩ := List.getElem?_of_mem hc
      exact this j hj]
    rfl
  | succ k ih =>
    intro s hk
    rcases Lib.indexB_cases s sep with h | ⟨i, h, hroom⟩
    · rw [Lib.countB_miss s sep h] at hk; omega
    · have hc := Lib.countB_hit s sep i (by omega) h
      rw [Lib.splitB_hit sep 0 k s i h, List.map_cons, ih _ (by omega), Lib.extract_from_zero, Lib.extract_to_end, h1]
      rw [hix] at h
      obtain ⟨e1, e2⟩ := Lib.indexByte_some h
      have hl : s.data.toList = s.data.toList.take i ++ c :: s.data.toList.drop (i + 1) := by
        conv => lhs; rw [← List.take_append_drop i s.data.toList]
        congr 1
        obtain ⟨hlt, hv⟩ := List.getElem?_eq_some_iff.1 e1
        rw [← hv, List.drop_eq_getElem_cons hlt]
      conv => rhs; rw [hl]
      rw [splitC_at fun hm => by
        obtain ⟨j, hj⟩ := List.getElem?_of_mem hm
        rw [List.getElem?_take] at hj
        split at hj
        · rename_i hlt; exact e2 j hlt hj
        · cases hj]
      rfl

/-! ### The contracts, as what is known by other means -/
def kItoa : List AV → Option AV
  | [.int .i64 n] => if -9223372036854775808 ≤ n ∧ n ≤ 9223372036854775807 then some (.str (itoaK n)) else none
  | _ => none
def kSplit : List AV → Option AV
  | [.str s, .str [c]] => if s.length < 4294967281 then some (.im ((splitC c s).map fun p => [.str p]) true) else none
  | _ => none

section
variable {G : Gl} {P : Program} {D : Nat → Prop} {w w' : World}
theorem ext_below (h : Below w.heap.size w w') : Ext D Ren.none w Ids.none D Ren.none w' Ids.none where
  ids := fun _ h => h
  os := h.os
  tape := h.tape
  output := h.output
  size := h.size
  sub := fun _ h => h
  frame := fun b hb _ => h.block b hb
  shape := fun b real _ mk hb => ⟨real, mk, (h.block b (Array.getElem?_eq_some_iff.1 hb).1).trans hb, rfl⟩
  loops := fun b r hb => ⟨r, (h.block b (Array.getElem?_eq_some_iff.1 hb).1).trans hb, rfl⟩
  ren := fun _ _ _ h => h
  new := fun id _ h => .inl ⟨id, h⟩
  dnew := fun _ h => .inl h
theorem kok_calls {f : Nat} {k : List AV → Option AV} (hf : IsFn P f) (h : ∀ {args : List AV} {r : AV} {D : Nat → Prop} {w : World} {vals : List Value}, k args = some r → (∀ b, D b → b < w.heap.size) → GOk D w → RL D w Ids.none Ren.none args vals →
    Calls P f vals.toArray w fun e w' => ∃ val D', e = .returned val ∧ R D' w' Ids.none Ren.none r val ∧ Ext D Ren.none w Ids.none D' Ren.none w' Ids.none ∧ ∀ b, D' b → b < w'.heap.size) : KOk1 P f k :=
  fun hr db gl hR => ⟨hf, fun _ => callsIn_wide.2 (h hr db gl hR)⟩
end

/-- What is known of the variables beside what 'glT' tells. -/
def factX (D : Nat → Prop) (w : World) : Prop := ((D 1 ∧ Lib.TabIs Tryd.prog w "internal/strconv.uint64pow10" .u64 Lib.pow10Tab) ∧ D 0 ∧ ∃ m : Int, w.cell? ⟨0, 0, none⟩ = some (.int .i64 m)) ∧
  (D 2 ∧ ∃ u v, w.cell? ⟨2, 0, none⟩ = some (.iface u v)) ∧ D 3 ∧ ∃ u v, w.cell? ⟨3, 0, none⟩ = some (.iface u v)
theorem g1 : Tryd.prog.globalNamed "internal/strconv.uint64pow10" = some 1 := by kernel_rfl
theorem factX_ext {D D' : Nat → Prop} {w w' : World} (hs : ∀ b, D b → D' b) (hh : ∀ b, D b → w'.heap[b]? = w.heap[b]?) (h : factX D w) : factX D' w' := by
  obtain ⟨⟨⟨h1, h2⟩, h3, m, h4⟩, ⟨h5, u, v, h6⟩, h7, u', v', h8⟩ := h
  refine ⟨⟨⟨hs _ h1, ?_⟩, hs _ h3, m, by rw [cell_of_heap (hh _ h3)]; exact h4⟩, ⟨hs _ h5, u, v, by rw [cell_of_heap (hh _ h5)]; exact h6⟩, hs _ h7, u', v', by rw [cell_of_heap (hh _ h7)]; exact h8⟩
  unfold Lib.TabIs at h2 ⊢
  rw [← h2]
  unfold World.var?
  rw [g1]
  simp only [Option.bind_some, hh _ h1]
theorem isFn35 : IsFn Tryd.prog 35 := ⟨Tryd.f35, _, Tryd.func35, rfl, fun h => by cases (show (Tryd.f35.name == "runtime.NumGoroutine") = false by kernel_rfl).symm.trans (beq_iff_eq.2 h)⟩
theorem isFn42 : IsFn Tryd.prog 42 := ⟨Tryd.f42, _, Tryd.func42, rfl, fun h => by cases (show (Tryd.f42.name == "runtime.NumGoroutine") = false by kernel_rfl).symm.trans (beq_iff_eq.2 h)⟩
theorem str_data (s : ByteArray) : (⟨s.data.toList.toArray⟩ : ByteArray) = s := by cases s; simp
theorem itoa_k {G : Gl} (hG : ∀ D w, GOk D w → factX D w) : KOk1 Tryd.prog 35 kItoa := kok_calls isFn35 fun {args r D w vals} hr db gl hR => by
  unfold kItoa at hr
  split at hr
  · rename_i n
    split at hr
    · rename_i hn
      cases hr
      obtain ⟨v, us, rfl, h1, h2⟩ := hR.inv_cons
      obtain rfl := List.eq_nil_of_length_eq_zero h2.1.symm
      cases h1
      refine (Tryd.strconv_Itoa n hn.1 hn.2 w (hG D w gl).1.1.2).mono fun e w' ⟨he, q, os, hw⟩ => ?_
      subst hw
      have hb : Below w.heap.size w (Sort.grow (w.drewN q) os) := ⟨rfl, rfl, rfl, by show w.heap.size ≤ (w.heap ++ os).size; rw [Array.size_append]; omega, fun k hk => by show (w.heap ++ os)[k]? = _; exact Array.getElem?_append_left hk⟩
      exact ⟨_, D, he, .str _ (by rw [itoaK_eq hn.1 hn.2]), ext_below hb, fun b hb' => Nat.lt_of_lt_of_le (db b hb') hb.size⟩
    · cases hr
  · cases hr
theorem split_k {G : Gl} (hG : ∀ D w, GOk D w → factX D w) : KOk1 Tryd.prog 42 kSplit := kok_calls isFn42 fun {args r D w vals} hr db gl hR => by
  unfold kSplit at hr
  split at hr
  · rename_i s c
    split at hr
    · rename_i hn
      cases hr
      obtain ⟨v, us, rfl, h1, h2⟩ := hR.inv_cons
      obtain ⟨v2, us2, rfl, h3, h4⟩ := h2.inv_cons
      obtain rfl := List.eq_nil_of_length_eq_zero h4.1.symm
      cases h1 with
      | str bs hbs =>
        cases h3 with
        | str bc hbc =>
          obtain ⟨m, hm⟩ := (hG D w gl).1.2.2
          have hsz : bs.size = s.length := by rw [Lib.size_eq, ← hbs]
          have hsep : bc.size = 1 := by rw [Lib.size_eq, ← hbc]; rfl
          refine (Tryd.strings_Split bs bc m w (by omega) hm (by omega)).mono fun e w' ⟨he, hw⟩ => ?_
          subst hw
          have hb : Below w.heap.size w (w.alloc (.cells ((Lib.splitB bc 0 (Lib.countB bs bc) bs).map Value.string).toArray 9)) := ⟨rfl, rfl, rfl, by simp, fun k hk => heap_alloc_old' w _ k hk⟩
          have hmap := splitK_eq (c := c) (sep := bc) hbc.symm (Lib.countB bs bc) bs rfl
          rw [← hbs] at hmap
          have hlen := Lib.splitB_all bc (by omega) 0 (Lib.countB bs bc) bs rfl
          have hlen2 : (splitC c s).length = Lib.countB bs bc + 1 := by rw [← hmap, List.length_map, hlen]
          refine ⟨_, fun b => D b ∨ b = w.heap.size, he, ?_, ?_, fun b hb' => ?_⟩
          · have key : R (fun b => D b ∨ b = w.heap.size) (w.alloc (.cells ((Lib.splitB bc 0 (Lib.countB bs bc) bs).map Value.string).toArray 9)) Ids.none Ren.none (.im ((splitC c s).map fun p => [.str p]) true) (.slice (some ⟨w.heap.size, 0, none⟩) ((splitC c s).map fun p => [AV.str p]).length (Lib.countB bs bc + 1)) := by
              refine .im (b := w.heap.size) (o := 0) (sz := 1) (fun i _ => Value.string ((Lib.splitB bc 0 (Lib.countB bs bc) bs).getD i ⟨#[]⟩)) (by rw [List.length_map, hlen2]; exact Nat.le_refl _) (fun _ => by rw [List.length_map, hlen2]) (.inr rfl) (fun e he => ?_) (fun i j hi hj => ?_) fun i j e x hei hxj => ?_
              · obtain ⟨p, _, rfl⟩ := List.mem_map.1 he; rfl
              · have hj0 : j = 0 := by omega
                subst hj0
                rw [List.length_map, hlen2] at hi
                have hi' : i < (Lib.splitB bc 0 (Lib.countB bs bc) bs).length := by omega
                simp only [World.cell?, Nat.zero_add, Nat.mul_one, Nat.add_zero, heap_alloc_new']
                simp [hi']
              · rw [List.getElem?_map, Option.map_eq_some_iff] at hei
                obtain ⟨p, hp, rfl⟩ := hei
                have hj0 : j = 0 := by
                  have := (List.getElem?_eq_some_iff.1 hxj).1
                  simp at this; omega
                subst hj0
                cases hxj
                rw [← hmap, List.getElem?_map, Option.map_eq_some_iff] at hp
                obtain ⟨q, hq, rfl⟩ := hp
                rw [List.getD_eq_getElem?_getD, hq]
                exact .str _ rfl
            rw [List.length_map, hlen2] at key
            exact key
          · have e0 := ext_below (D := D) hb
            exact ⟨e0.ids, e0.os, e0.tape, e0.output, e0.size, fun _ h => .inl h, e0.frame, e0.shape, e0.loops, e0.ren, e0.new, fun b hb' => hb'.elim .inl fun h => .inr (.inr (by omega))⟩
          · rcases hb' with hb' | hb'
            · exact Nat.lt_of_lt_of_le (db b hb') hb.size
            · rw [hb']; simp
    · cases hr
  · cases hr
/-- Atoi: the number, and whether it failed. -/
def kAtoi : List AV → Option AV
  | [.str s] => if s.length ≤ 281474976710656 then (match Lib.atoiAll s with
    | .ok v => some (.tup [.int .i64 v, .nili])
    | Go.Lib.NumEnd.syntax => some (.tup [.int .i64 0, .ifv])
    | .range => some (.tup [.int .i64 (Lib.atoiSat s), .ifv])) else none
  | _ => none
theorem isFn52 : IsFn Tryd.prog 52 := ⟨Tryd.f52, _, Tryd.func52, rfl, fun h => by cases (show (Tryd.f52.name == "runtime.NumGoroutine") = false by kernel_rfl).symm.trans (beq_iff_eq.2 h)⟩
theorem R.pair {D : Nat → Prop} {w : World} {x y : AV} {a b : Value} (h1 : R D w Ids.none Ren.none x a) (h2 : R D w Ids.none Ren.none y b) : R D w Ids.none Ren.none (.tup [x, y]) (.tuple #[a, b]) :=
  .tup rfl fun j z v hz hv => by
    match j with
    | 0 => cases hz; cases hv; exact h1
    | 1 => cases hz; cases hv; exact h2
    | j + 2 => simp at hz
theorem atoi_k {G : Gl} (hG : ∀ D w, GOk D w → factX D w) : KOk1 Tryd.prog 52 kAtoi := kok_calls isFn52 fun {args r D w vals} hr db gl hR => by
  unfold kAtoi at hr
  split at hr
  · rename_i s
    split at hr
    · rename_i hn
      obtain ⟨v, us, rfl, h1, h2⟩ := hR.inv_cons
      obtain rfl := List.eq_nil_of_length_eq_zero h2.1.symm
      obtain ⟨_, ⟨_, e2⟩, _, e3⟩ := hG D w gl
      cases h1 with
      | str bs hbs =>
        have hsz : bs.size = s.length := by rw [Lib.size_eq, ← hbs]
        split at hr
        · rename_i n hq
          cases hr
          refine (Tryd.strconv_Atoi_ok bs (by omega) n (by rw [← hbs]; exact hq) w).mono fun e w' ⟨he, hw⟩ => ?_
          have hb : Below w.heap.size w w' := by
            rcases hw with rfl | ⟨t, rfl⟩
            · exact Below.refl _ _
            · exact Lib.bytesWorld_below _ _ _
          exact ⟨_, D, he, .pair (.int _ _) .nili, ext_below hb, fun b hb' => Nat.lt_of_lt_of_le (db b hb') hb.size⟩
        · rename_i hq
          cases hr
          obtain ⟨u, v, hc⟩ := e2
          refine (Tryd.strconv_Atoi_syntax bs (by omega) (by rw [← hbs]; exact hq) _ w hc (.inr ⟨_, _, rfl⟩)).mono fun e w' ⟨N, he, _, _, hb⟩ => ?_
          exact ⟨_, D, he, .pair (.int _ _) .ifv, ext_below hb, fun b hb' => Nat.lt_of_lt_of_le (db b hb') hb.size⟩
        · rename_i hq
          cases hr
          obtain ⟨u, v, hc⟩ := e3
          refine (Tryd.strconv_Atoi_range bs (by omega) (by rw [← hbs]; exact hq) _ w hc (.inr ⟨_, _, rfl⟩)).mono fun e w' ⟨N, he, _, _, hb⟩ => ?_
          rw [← hbs] at he
          exact ⟨_, D, he, .pair (.int _ _) .ifv, ext_below hb, fun b hb' => Nat.lt_of_lt_of_le (db b hb') hb.size⟩
    · cases hr
  · cases hr
end Go.Proofs.Hz
open Go Go.Proofs
namespace Go.Proofs.Hz
/-- Which functions are pure (1: with rows among their parameters, 2: without). -/
def puN (i : Nat) : Nat := [0, 0, 0, 2, 1, 1, 1, 2, 2, 1, 1, 2, 2, 2, 2, 2, 2, 2, 2, 1, 1, 1, 1, 1, 2, 2, 2, 2, 2, 0, 2, 2, 1, 2, 0, 2, 0, 2, 2, 0, 2, 2, 2, 0, 0, 2, 2, 0, 2, 2, 2, 2, 2, 0, 2, 2, 2, 0, 2, 2, 2, 2, 2, 2, 2, 2, 2, 2, 2, 2, 2, 0, 0, 0, 0, 2, 2, 2, 2, 2, 2, 2, 2, 2, 2, 2, 0, 2, 2, 2, 2, 2, 0, 0, 0, 0, 0, 0, 0, 0, 0, 0, 0, 0, 0, 0, 0, 0, 0, 0, 0, 0, 0, 0, 0, 0, 0, 0, 0, 0, 0, 0].getD i 0
/-- What the variables hold: the two errors. -/
def glT (g : Nat) : Option AV :=
  if g = 2 then some (.ip [.ifv] 0)
  else if g = 3 then some (.ip [.ifv] 0)
  else none
def glX (f : Nat) : Option (List AV → Option AV) :=
  if f = 35 then some kItoa
  else if f = 42 then some kSplit
  else if f = 52 then some kAtoi
  else none
instance gl15 : Gl where
  tab := glT
  X := glX
  fact := factX
  fact_ext := factX_ext
theorem hX15 : ∀ f k, Gl.X f = some k → KOk1 Tryd.prog f k := fun f k h => by
  have hG : ∀ D w, GOk D w → factX D w := fun _ _ h => h.fact
  simp only [Gl.X, glX] at h
  split at h
  · rename_i hf; subst hf; cases h; exact fun {_ _ _ _ _} => itoa_k hG
  · split at h
    · rename_i hf; subst hf; cases h; exact fun {_ _ _ _ _} => split_k hG
    · split at h
      · rename_i hf; subst hf; cases h; exact fun {_ _ _ _ _} => atoi_k hG
      · cases h
noncomputable def FF : Nat → Option AFn := compF Tryd.prog puN
structure Cl where
  no : Int
  a : Int
  b : Int
instance : Inhabited Cl := ⟨⟨0, 0, 0⟩⟩
def Cl.av (c : Cl) : AV := .agg [.int .i64 c.no, .int .i64 c.a, .int .i64 c.b]
/-- A syscall's cells. -/
def eC (c : Cl) : List AV := [.int .i64 c.no, .int .i64 c.a, .int .i64 c.b]
def portF (no : Int) : Bool := decide (0 ≤ no ∧ no ≤ 2)
def nameF (no : Int) : Bool := decide (3 ≤ no ∧ no ≤ 5)
def eventF (no : Int) : Bool := decide (6 ≤ no ∧ no ≤ 8)
def mayF (c : Cl) : Bool :=
  if (c.no = 0 ∨ c.no = 3) ∧ (c.b < -1099511627776 ∨ c.b > 1099511627776) then false
  else if 0 ≤ c.no ∧ c.no ≤ 2 then decide (0 ≤ c.a ∧ c.a ≤ 7)
  else if 3 ≤ c.no ∧ c.no ≤ 5 then decide (0 ≤ c.a ∧ c.a ≤ 65535)
  else if 6 ≤ c.no ∧ c.no ≤ 8 then decide (0 ≤ c.a ∧ c.a ≤ 15)
  else decide (c.no = 9)
/-- What kind of event it is. -/
def kindF (no e : Int) : Int :=
  if e = 0 then
    if no = 0 then 1 else if no = 1 ∨ no = 2 then 2 else if no = 3 then 4 else if no = 4 then 8 else if no = 5 then 6 else if 6 ≤ no ∧ no ≤ 8 then 4 + no else 0
  else if e = 3 then
    if no = 2 then 3 else if no = 4 ∨ no = 5 then 7 else 0
  else if e = 4 then
    if no = 3 then 5 else 0
  else 0
/-- What the ten syscalls are: word, op, how many, is B a value, events. -/
def kindsA : AV := .agg [(.str [115, 101, 110, 100]), (.int .i64 28), (.int .i64 8), (.bool true), (.int .i64 1), (.int .i64 0), (.int .i64 0), (.str [114, 101, 99, 118]), (.int .i64 29), (.int .i64 8), (.bool false), (.int .i64 2), (.int .i64 0), (.int .i64 0), (.str [116, 114, 121]), (.int .i64 10), (.int .i64 8), (.bool false), (.int .i64 2), (.int .i64 3), (.int .i64 0), (.str [112, 117, 116]), (.int .i64 16), (.int .i64 65536), (.bool true), (.int .i64 4), (.int .i64 0), (.int .i64 5), (.str [108, 111, 111, 107]), (.int .i64 17), (.int .i64 65536), (.bool false), (.int .i64 8), (.int .i64 7), (.int .i64 0), (.str [99, 117, 116]), (.int .i64 18), (.int .i64 65536), (.bool false), (.int .i64 6), (.int .i64 7), (.int .i64 0), (.str [115, 101, 116]), (.int .i64 19), (.int .i64 16), (.bool false), (.int .i64 10), (.int .i64 0), (.int .i64 0), (.str [114, 101, 115, 101, 116]), (.int .i64 20), (.int .i64 16), (.bool false), (.int .i64 11), (.int .i64 0), (.int .i64 0), (.str [116, 101, 115, 116]), (.int .i64 21), (.int .i64 16), (.bool false), (.int .i64 12), (.int .i64 0), (.int .i64 0), (.str [121, 105, 101, 108, 100]), (.int .i64 27), (.int .i64 0), (.bool false), (.int .i64 0), (.int .i64 0), (.int .i64 0)]
structure Kd where
  w : List UInt8
  op : Int
  most : Int
  value : Bool
  well : Int
  none : Int
  had : Int
def kdOf (no : Int) : Kd :=
  if no = 0 then ⟨[115, 101, 110, 100], 28, 8, true, 1, 0, 0⟩
  else if no = 1 then ⟨[114, 101, 99, 118], 29, 8, false, 2, 0, 0⟩
  else if no = 2 then ⟨[116, 114, 121], 10, 8, false, 2, 3, 0⟩
  else if no = 3 then ⟨[112, 117, 116], 16, 65536, true, 4, 0, 5⟩
  else if no = 4 then ⟨[108, 111, 111, 107], 17, 65536, false, 8, 7, 0⟩
  else if no = 5 then ⟨[99, 117, 116], 18, 65536, false, 6, 7, 0⟩
  else if no = 6 then ⟨[115, 101, 116], 19, 16, false, 10, 0, 0⟩
  else if no = 7 then ⟨[114, 101, 115, 101, 116], 20, 16, false, 11, 0, 0⟩
  else if no = 8 then ⟨[116, 101, 115, 116], 21, 16, false, 12, 0, 0⟩
  else if no = 9 then ⟨[121, 105, 101, 108, 100], 27, 0, false, 0, 0, 0⟩
  else ⟨[], 0, 0, false, 0, 0, 0⟩
def ofF (c : Cl) : Kd × Bool := (kdOf c.no, mayF c)
def Kd.av (k : Kd) : AV := .agg [.str k.w, .int .i64 k.op, .int .i64 k.most, .bool k.value, .int .i64 k.well, .int .i64 k.none, .int .i64 k.had]
/-- A syscall's op, registers, and whether it may be. -/
def decOp (c : Cl) : Int := if mayF c then (kdOf c.no).op else 0
def decR (c : Cl) (t id : Int) (i : Nat) : Int :=
  if mayF c then
    if c.no = 0 then [c.a, c.b, id].getD i 0
    else if c.no = 1 then [c.a, t, 0].getD i 0
    else if c.no = 9 then [t, id, 0].getD i 0
    else if c.no = 3 then [c.a, c.b, 0].getD i 0
    else [c.a, 0, 0].getD i 0
  else 0
def decE (c : Cl) : Int := if mayF c then 0 else 1

def decodesF (c : Cl) (t id op r0 r1 r2 : Int) : Bool := decide (decE c = 0 ∧ decOp c = op ∧ decR c t id 0 = r0 ∧ decR c t id 1 = r1 ∧ decR c t id 2 = r2)
theorem kinds_ok : Spec FF 33 [] kindsA := ⟨60, by kernel_rfl⟩
theorem shown_ok : Spec FF 11 [] (.bool true) := ⟨60, by kernel_rfl⟩
end Go.Proofs.Hz
open Go Go.Proofs
namespace Go.Proofs.Hz
theorem Cl.ext' {c d : Cl} (h1 : c.no = d.no) (h2 : c.a = d.a) (h3 : c.b = d.b) : c = d := by
  cases c; cases d
  simp only at h1 h2 h3
  subst h1; subst h2; subst h3; rfl
instance : DecidableEq Cl := fun c d =>
  if h : c.no = d.no ∧ c.a = d.a ∧ c.b = d.b then .isTrue (Cl.ext' h.1 h.2.1 h.2.2) else .isFalse fun e => h (e ▸ ⟨rfl, rfl, rfl⟩)
theorem eC_ok : Enc eC 3 := ⟨fun _ => rfl, fun _ => rfl, fun c => by simp [eC, beqL, AV.beq]⟩
/-- A syscall's word. -/
def wordK (no : Int) : List UInt8 := (kdOf no).w
def wordF (no : Int) : Option (List UInt8) := if 0 ≤ no ∧ no ≤ 9 then some (wordK no) else none
def inI (n : Int) : Bool := decide (-9223372036854775808 ≤ n ∧ n ≤ 9223372036854775807)
def inW (n : Int) : Bool := decide (-4611686018427387904 ≤ n ∧ n ≤ 4611686018427387904)
/-- A syscall's text. -/
def lineF (c : Cl) : List UInt8 := wordK c.no ++ [32] ++ itoaK c.a ++ [32] ++ itoaK c.b ++ [10]
def printF (l : List Cl) : List UInt8 := (l.map lineF).flatten
def writtenC (c : Cl) : Bool := decide (0 ≤ c.no ∧ c.no ≤ 9) && (inW c.a && inW c.b)
def writtenF (l : List Cl) : Bool := l.all writtenC
/-- Syscalls whose texts are made. -/
def okC (c : Cl) : Bool := decide (0 ≤ c.no ∧ c.no ≤ 9) && (inI c.a && inI c.b)
def okP (l : List Cl) : Bool := decide (l.length ≤ 100000) && l.all okC
def eqC (l m : List Cl) : Bool := decide (l = m)
theorem itoa_ok (n : Int) (h : -9223372036854775808 ≤ n ∧ n ≤ 9223372036854775807) : Spec FF 35 [.int .i64 n] (.str (itoaK n)) := ⟨1, by
  show kItoa [.int .i64 n] = _
  simp only [kItoa]
  rw [if_pos h]⟩
end Go.Proofs.Hz
