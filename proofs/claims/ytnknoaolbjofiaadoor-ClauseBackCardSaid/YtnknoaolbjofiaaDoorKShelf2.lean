/- For the statement of the row ClauseBack: what its proof needs of the text Shelf2. -/
import Derived.Shelf.Strings.Builder1
import Derived.Shelf.Small.Bits
import Derived.Shelf.Small.Wraps
import Derived.Shelf.Strings.BuilderF
import Derived.Shelf.Strings.BuilderK
import Derived.Shelf.Utf8.RuneCount
import Derived.Shelf.Strconv.Atoi
import Derived.Shelf.Strconv.Itoa0
import Derived.Shelf.Strconv.Itoa1
import Derived.Shelf.LaysM
import Derived.Shelf.Strconv.Itoa2
import Derived.Shelf.Strconv.Itoa3
import Derived.Shelf.Strconv.AtoiErrFast
import Derived.Shelf.Strconv.ParseIntEmpty
import Derived.Shelf.Strconv.AtoiFail
import Derived.Shelf.Strconv.Clone
import Derived.Shelf.Strconv.SyntaxError
import Derived.Shelf.LaysC
import Derived.Shelf.Strconv.ToError
import Derived.Shelf.Strconv.Lower
import Derived.Shelf.Strconv.ParseUint10
import Derived.Shelf.Strconv.ParseUint10Empty
import Derived.Shelf.Strconv.ParseUint10Any
import Derived.Shelf.Strconv.ParseInt10
import Derived.Shelf.Strconv.AtoiLong
import Derived.Shelf.Strconv.AtoiInnerAll
import Derived.Shelf.Strconv.RangeError
import Derived.Shelf.Strconv.ToErrorRange
import Derived.Shelf.Strconv.AtoiAll
import Derived.Shelf.Strconv.ErrVarAll
import Derived.Shelf.Strings.Search1
import Derived.Shelf.Strings.Search2
import Derived.Shelf.Strings.Search3
import Derived.Shelf.Strings.Count
import Derived.Shelf.Strings.Shaped
import Derived.Shelf.Strings.Split
import Derived.Shelf.Strings.SplitShaped
import Derived.Shelf.Unicode.Decode
import Derived.Shelf.Strings.RuneCount
import Derived.Shelf.Strings.Explode
import Derived.Shelf.Unicode.DecodeSlow
import Derived.Shelf.Unicode.DecodeAny
import Derived.Shelf.Strings.BuilderCap
import Derived.Ground.Names2Prog
import Derived.Shelf.Slices.SearchI
import Derived.Ground.SlsfProg
import Derived.Shelf.SlSortCmp.Insertion
import Derived.Shelf.SlSortCmp.SiftDown1
import Derived.Shelf.SlSortCmp.HeapSort1
import Derived.Shelf.SlSortCmp.Insertion1
import Derived.Shelf.SlSortCmp.Median1
import Derived.Shelf.SlSortCmp.Pivot1
import Derived.Shelf.SlSortCmp.ReverseRange1
import Derived.Shelf.SlSortCmp.PartialInsertion1
import Derived.Shelf.SlSortCmp.PartitionEqual1
import Derived.Shelf.SlSortCmp.Partition1
import Derived.Shelf.SlSortCmp.Pdq1
import Derived.Shelf.SlSortCmp.Whole1
import Derived.Shelf.SlSortCmp.NoneTotal
import Derived.Test.YtnknoaolbjofiaaDoorProg

namespace Go.Proofs
open Go.Shelf
def Tryd.lays146_ren : Go.Shelf.Ren := ⟨fun | 146 => 45 | 221 => 58 | 268 => 66 | 138 => 67 | 143 => 68 | 195 => 85 | 197 => 86 | 218 => 87 | 219 => 88 | 260 => 100 | 217 => 101 | 225 => 102 | 224 => 103 | 267 => 104 | 266 => 113 | 314 => 114 | n => n, fun | 9 => 9 | 31 => 73 | 3 => 3 | 4 => 4 | 0 => 0 | 105 => 114 | 21 => 21 | 5 => 5 | 46 => 91 | 119 => 136 | 139 => 139 | 138 => 138 | 146 => 140 | 51 => 107 | n => n, fun | 1 => 1 | 3 => 2 | 4 => 3 | n => n⟩
theorem Tryd.lays146 : Go.Proofs.Lays.n146 Tryd.prog Tryd.lays146_ren := {
  mixed := by kernel_rfl
  f138 := Tryd.func67.trans (congrArg some (by kernel_rfl))
  f143 := Tryd.func68.trans (congrArg some (by kernel_rfl))
  f146 := Tryd.func45.trans (congrArg some (by kernel_rfl))
  f195 := Tryd.func85.trans (congrArg some (by kernel_rfl))
  f197 := Tryd.func86.trans (congrArg some (by kernel_rfl))
  f217 := Tryd.func101.trans (congrArg some (by kernel_rfl))
  f218 := Tryd.func87.trans (congrArg some (by kernel_rfl))
  f219 := Tryd.func88.trans (congrArg some (by kernel_rfl))
  f221 := Tryd.func58.trans (congrArg some (by kernel_rfl))
  f224 := Tryd.func103.trans (congrArg some (by kernel_rfl))
  f225 := Tryd.func102.trans (congrArg some (by kernel_rfl))
  f260 := Tryd.func100.trans (congrArg some (by kernel_rfl))
  f266 := Tryd.func113.trans (congrArg some (by kernel_rfl))
  f267 := Tryd.func104.trans (congrArg some (by kernel_rfl))
  f268 := Tryd.func66.trans (congrArg some (by kernel_rfl))
  f314 := Tryd.func114.trans (congrArg some (by kernel_rfl))
  t0 := Tryd.underlying0
  a0 := Tryd.isAgg0
  z0 := Tryd.sizeOf0
  v0 := Tryd.zeroValue0
  t3 := Tryd.underlying3
  a3 := Tryd.isAgg3
  z3 := Tryd.sizeOf3
  v3 := Tryd.zeroValue3
  t4 := Tryd.underlying4
  a4 := Tryd.isAgg4
  z4 := Tryd.sizeOf4
  v4 := Tryd.zeroValue4
  t5 := Tryd.underlying5
  a5 := Tryd.isAgg5
  z5 := Tryd.sizeOf5
  v5 := Tryd.zeroValue5
  t9 := Tryd.underlying9
  a9 := Tryd.isAgg9
  z9 := Tryd.sizeOf9
  v9 := Tryd.zeroValue9
  t21 := Tryd.underlying21
  a21 := Tryd.isAgg21
  z21 := Tryd.sizeOf21
  v21 := Tryd.zeroValue21
  t31 := Tryd.underlying73
  a31 := Tryd.isAgg73
  z31 := Tryd.sizeOf73
  v31 := Tryd.zeroValue73
  t46 := Tryd.underlying91
  a46 := Tryd.isAgg91
  z46 := Tryd.sizeOf91
  v46 := Tryd.zeroValue91
  t51 := Tryd.underlying107
  a51 := Tryd.isAgg107
  z51 := Tryd.sizeOf107
  v51 := Tryd.zeroValue107
  t105 := Tryd.underlying114
  a105 := Tryd.isAgg114
  z105 := Tryd.sizeOf114
  v105 := Tryd.zeroValue114
  t119 := Tryd.underlying136
  a119 := Tryd.isAgg136
  z119 := Tryd.sizeOf136
  t138 := Tryd.underlying138
  a138 := Tryd.isAgg138
  z138 := Tryd.sizeOf138
  v138 := Tryd.zeroValue138
  t139 := Tryd.underlying139
  a139 := Tryd.isAgg139
  z139 := Tryd.sizeOf139
  v139 := Tryd.zeroValue139
  t146 := Tryd.underlying140
  a146 := Tryd.isAgg140
  z146 := Tryd.sizeOf140
  v146 := Tryd.zeroValue140
  g1 := by kernel_rfl
  g3 := by kernel_rfl
  g4 := by kernel_rfl }
open Go.RowKit Go.Lib in
/-- strings.Split. (LAID: no walk: one application.) -/
theorem Tryd.strings_Split (s sep : ByteArray) (m : Int) (w : World) (hs : s.size < 4294967281) (hm : w.cell? ⟨1, 0, none⟩ = some (.int .i64 m)) (h1 : 1 ≤ sep.size) :
    Calls Tryd.prog 45 #[.string s, .string sep] w fun e w' =>
      e = .returned (.slice (some ⟨w.heap.size, 0, none⟩) (Lib.countB s sep + 1) (Lib.countB s sep + 1)) ∧ w' = w.alloc (.cells ((Lib.splitB sep 0 (Lib.countB s sep) s).map Value.string).toArray 9) := Any.strings_Split Tryd.lays146 (by kernel_rfl) s sep m w hs hm h1
def Tryd.laysC172_ren : Go.Shelf.Ren := ⟨fun | 172 => 69 | 244 => 89 | 245 => 90 | 247 => 105 | 279 => 106 | 280 => 107 | 281 => 108 | 282 => 109 | 287 => 115 | 316 => 116 | 171 => 40 | 205 => 117 | 321 => 118 | 322 => 119 | 243 => 55 | 246 => 65 | 283 => 81 | 284 => 82 | 285 => 83 | 286 => 84 | 129 => 80 | 317 => 96 | 318 => 97 | 319 => 98 | 320 => 99 | 337 => 111 | 338 => 112 | n => n, fun | 9 => 9 | 3 => 3 | 75 => 67 | 76 => 68 | 4 => 4 | 5 => 5 | 167 => 127 | 37 => 63 | 0 => 0 | 85 => 128 | 2 => 2 | 168 => 130 | 53 => 84 | 175 => 142 | 46 => 91 | 210 => 146 | 127 => 82 | 145 => 153 | 143 => 151 | 21 => 21 | 171 => 109 | 173 => 111 | 212 => 125 | 51 => 107 | 20 => 20 | 213 => 126 | 232 => 148 | 233 => 149 | 80 => 71 | n => n, fun | 15 => 4 | 16 => 5 | 17 => 0 | 18 => 6 | 19 => 7 | n => n⟩
theorem Tryd.laysC172 : Go.Proofs.LaysC.n172 Tryd.prog Tryd.laysC172_ren := {
  mixed := by kernel_rfl
  f129 := Tryd.func80.trans (congrArg some (by kernel_rfl))
  f171 := Tryd.func40.trans (congrArg some (by kernel_rfl))
  f172 := Tryd.func69.trans (congrArg some (by kernel_rfl))
  f205 := Tryd.func117.trans (congrArg some (by kernel_rfl))
  f243 := Tryd.func55.trans (congrArg some (by kernel_rfl))
  f244 := Tryd.func89.trans (congrArg some (by kernel_rfl))
  f245 := Tryd.func90.trans (congrArg some (by kernel_rfl))
  f246 := Tryd.func65.trans (congrArg some (by kernel_rfl))
  f247 := Tryd.func105.trans (congrArg some (by kernel_rfl))
  f279 := Tryd.func106.trans (congrArg some (by kernel_rfl))
  f280 := Tryd.func107.trans (congrArg some (by kernel_rfl))
  f281 := Tryd.func108.trans (congrArg some (by kernel_rfl))
  f282 := Tryd.func109.trans (congrArg some (by kernel_rfl))
  f283 := Tryd.func81.trans (congrArg some (by kernel_rfl))
  f284 := Tryd.func82.trans (congrArg some (by kernel_rfl))
  f285 := Tryd.func83.trans (congrArg some (by kernel_rfl))
  f286 := Tryd.func84.trans (congrArg some (by kernel_rfl))
  f287 := Tryd.func115.trans (congrArg some (by kernel_rfl))
  f316 := Tryd.func116.trans (congrArg some (by kernel_rfl))
  f317 := Tryd.func96.trans (congrArg some (by kernel_rfl))
  f318 := Tryd.func97.trans (congrArg some (by kernel_rfl))
  f319 := Tryd.func98.trans (congrArg some (by kernel_rfl))
  f320 := Tryd.func99.trans (congrArg some (by kernel_rfl))
  f321 := Tryd.func118.trans (congrArg some (by kernel_rfl))
  f322 := Tryd.func119.trans (congrArg some (by kernel_rfl))
  f337 := Tryd.func111.trans (congrArg some (by kernel_rfl))
  f338 := Tryd.func112.trans (congrArg some (by kernel_rfl))
  t0 := Tryd.underlying0
  a0 := Tryd.isAgg0
  z0 := Tryd.sizeOf0
  v0 := Tryd.zeroValue0
  t2 := Tryd.underlying2
  a2 := Tryd.isAgg2
  z2 := Tryd.sizeOf2
  v2 := Tryd.zeroValue2
  t3 := Tryd.underlying3
  a3 := Tryd.isAgg3
  z3 := Tryd.sizeOf3
  v3 := Tryd.zeroValue3
  t4 := Tryd.underlying4
  a4 := Tryd.isAgg4
  z4 := Tryd.sizeOf4
  v4 := Tryd.zeroValue4
  t5 := Tryd.underlying5
  a5 := Tryd.isAgg5
  z5 := Tryd.sizeOf5
  v5 := Tryd.zeroValue5
  t9 := Tryd.underlying9
  a9 := Tryd.isAgg9
  z9 := Tryd.sizeOf9
  v9 := Tryd.zeroValue9
  t20 := Tryd.underlying20
  a20 := Tryd.isAgg20
  z20 := Tryd.sizeOf20
  v20 := Tryd.zeroValue20
  t21 := Tryd.underlying21
  a21 := Tryd.isAgg21
  z21 := Tryd.sizeOf21
  v21 := Tryd.zeroValue21
  t37 := Tryd.underlying63
  a37 := Tryd.isAgg63
  z37 := Tryd.sizeOf63
  v37 := Tryd.zeroValue63
  t46 := Tryd.underlying91
  a46 := Tryd.isAgg91
  z46 := Tryd.sizeOf91
  v46 := Tryd.zeroValue91
  t51 := Tryd.underlying107
  a51 := Tryd.isAgg107
  z51 := Tryd.sizeOf107
  v51 := Tryd.zeroValue107
  t53 := Tryd.underlying84
  a53 := Tryd.isAgg84
  z53 := Tryd.sizeOf84
  v53 := Tryd.zeroValue84
  t75 := Tryd.underlying67
  a75 := Tryd.isAgg67
  z75 := Tryd.sizeOf67
  v75 := Tryd.zeroValue67
  t76 := Tryd.underlying68
  a76 := Tryd.isAgg68
  z76 := Tryd.sizeOf68
  v76 := Tryd.zeroValue68
  t85 := Tryd.underlying128
  a85 := Tryd.isAgg128
  z85 := Tryd.sizeOf128
  v85 := Tryd.zeroValue128
  t127 := Tryd.underlying82
  a127 := Tryd.isAgg82
  z127 := Tryd.sizeOf82
  v127 := Tryd.zeroValue82
  t143 := Tryd.underlying151
  a143 := Tryd.isAgg151
  z143 := Tryd.sizeOf151
  v143 := Tryd.zeroValue151
  t145 := Tryd.underlying153
  a145 := Tryd.isAgg153
  z145 := Tryd.sizeOf153
  v145 := Tryd.zeroValue153
  t167 := Tryd.underlying127
  a167 := Tryd.isAgg127
  z167 := Tryd.sizeOf127
  v167 := Tryd.zeroValue127
  t168 := Tryd.underlying130
  a168 := Tryd.isAgg130
  z168 := Tryd.sizeOf130
  v168 := Tryd.zeroValue130
  t171 := Tryd.underlying109
  a171 := Tryd.isAgg109
  z171 := Tryd.sizeOf109
  v171 := Tryd.zeroValue109
  t173 := Tryd.underlying111
  a173 := Tryd.isAgg111
  z173 := Tryd.sizeOf111
  v173 := Tryd.zeroValue111
  t175 := Tryd.underlying142
  a175 := Tryd.isAgg142
  z175 := Tryd.sizeOf142
  v175 := Tryd.zeroValue142
  t210 := Tryd.underlying146
  a210 := Tryd.isAgg146
  z210 := Tryd.sizeOf146
  v210 := Tryd.zeroValue146
  t212 := Tryd.underlying125
  a212 := Tryd.isAgg125
  z212 := Tryd.sizeOf125
  v212 := Tryd.zeroValue125
  t213 := Tryd.underlying126
  a213 := Tryd.isAgg126
  z213 := Tryd.sizeOf126
  t232 := Tryd.underlying148
  a232 := Tryd.isAgg148
  z232 := Tryd.sizeOf148
  v232 := Tryd.zeroValue148
  t233 := Tryd.underlying149
  a233 := Tryd.isAgg149
  z233 := Tryd.sizeOf149
  v233 := Tryd.zeroValue149
  g15 := by kernel_rfl
  g16 := by kernel_rfl
  g17 := by kernel_rfl
  g18 := by kernel_rfl
  g19 := by kernel_rfl
  t80 := Tryd.underlying71
  a80 := Tryd.isAgg71
  z80 := Tryd.sizeOf71
  v80 := Tryd.zeroValue71
  i0 := by kernel_rfl
  i2 := by kernel_rfl
  i3 := by kernel_rfl
  i4 := by kernel_rfl
  i5 := by kernel_rfl
  i9 := by kernel_rfl
  i20 := by kernel_rfl
  i21 := by kernel_rfl
  i37 := by kernel_rfl
  i46 := by kernel_rfl
  i51 := by kernel_rfl
  i53 := by kernel_rfl
  i75 := by kernel_rfl
  i76 := by kernel_rfl
  i80 := by kernel_rfl
  i85 := by kernel_rfl
  i127 := by kernel_rfl
  i143 := by kernel_rfl
  i145 := by kernel_rfl
  i167 := by kernel_rfl
  i168 := by kernel_rfl
  i171 := by kernel_rfl
  i173 := by kernel_rfl
  i175 := by kernel_rfl
  i210 := by kernel_rfl
  i212 := by kernel_rfl
  i232 := by kernel_rfl
  i233 := by kernel_rfl
  m15 := by kernel_rfl
  m16 := by kernel_rfl
  m17 := by kernel_rfl
  m18 := by kernel_rfl
  m19 := by kernel_rfl
  c0 := by kernel_rfl
  c2 := by kernel_rfl
  c3 := by kernel_rfl
  c4 := by kernel_rfl
  c5 := by kernel_rfl
  c9 := by kernel_rfl
  c20 := by kernel_rfl
  c21 := by kernel_rfl
  c37 := by kernel_rfl
  c46 := by kernel_rfl
  c51 := by kernel_rfl
  c53 := by kernel_rfl
  c75 := by kernel_rfl
  c76 := by kernel_rfl
  c80 := by kernel_rfl
  c85 := by kernel_rfl
  c127 := by kernel_rfl
  c143 := by kernel_rfl
  c145 := by kernel_rfl
  c167 := by kernel_rfl
  c168 := by kernel_rfl
  c171 := by kernel_rfl
  c173 := by kernel_rfl
  c175 := by kernel_rfl
  c210 := by kernel_rfl
  c212 := by kernel_rfl
  c213 := by kernel_rfl
  c232 := by kernel_rfl
  c233 := by kernel_rfl }
open Go.RowKit in
/-- strconv.Atoi, AT EVERY STRING THAT SPELLS AN int ('Lib.atoiAll .. = .ok v'; of whatever length: leading zeros count): v, AND NO ERROR. The world: as it was, or with the one new row that '[]byte(..)' lays. (LAID: no walk: one application.) -/
theorem Tryd.strconv_Atoi_ok (s : ByteArray) (hmax : s.size ≤ 9223372036854775806) (v : Int) (h : Lib.atoiAll s.data.toList = .ok v) (w : World) :
    Calls Tryd.prog 69 #[.string s] w fun e w' => e = .returned (.tuple #[.int .i64 v, .nilIface]) ∧ (w' = w ∨ ∃ t, w' = Lib.bytesWorld w 5 t) := Any.strconv_Atoi_ok Tryd.laysC172 s hmax v h w
open Go.RowKit in
/-- strconv.Atoi, AT EVERY STRING THAT IS NO DECIMAL NUMERAL ('.syntax'): 0, AND AN ERROR THAT IS NOT nil: a *NumError in a new block N: {Func: "Atoi", Num: s's bytes, Err: what the variable ErrSyntax holds}. Of what was there nothing has turned. (LAID: no walk: one application.) -/
theorem Tryd.strconv_Atoi_syntax (s : ByteArray) (hlim : s.size ≤ 281474976710656) (hok : ∀ v, Lib.atoiAll s.data.toList ≠ .ok v) (hrg : Lib.atoiAll s.data.toList ≠ .range) (ev : Value) (w : World) (hv : w.cell? ⟨4, 0, none⟩ = some ev) (hev : ev = .nilIface ∨ ∃ te pe, ev = .iface te pe) :
    Calls Tryd.prog 69 #[.string s] w fun e w' => ∃ N, e = .returned (.tuple #[.int .i64 (0), .iface 130 (.pointer (some ⟨N, 0, none⟩))]) ∧ w.heap.size ≤ N ∧ w'.heap[N]? = some (.cells #[.string ⟨#[65, 116, 111, 105]⟩, .string s, ev] 146 (0, 0)) ∧ Below w.heap.size w w' := by
  cases h : Lib.atoiAll s.data.toList with
  | ok v => exact absurd h (hok v)
  | range => exact absurd h hrg
  | _ => exact Any.strconv_Atoi_syntax Tryd.laysC172 s hlim h ev w hv hev
open Go.RowKit in
/-- strconv.Atoi, AT EVERY NUMERAL THAT NO int HOLDS ('.range'): THE GREATEST OR THE LEAST int, BY THE SIGN ('Lib.atoiSat'), AND AN ERROR THAT IS NOT nil: a *NumError in a new block N: {Func: "Atoi", Num: s's bytes, Err: what the variable ErrRange holds}. Of what was there nothing has turned. (LAID: no walk: one application.) -/
theorem Tryd.strconv_Atoi_range (s : ByteArray) (hlim : s.size ≤ 281474976710656) (h : Lib.atoiAll s.data.toList = .range) (ev : Value) (w : World) (hv : w.cell? ⟨5, 0, none⟩ = some ev) (hev : ev = .nilIface ∨ ∃ te pe, ev = .iface te pe) :
    Calls Tryd.prog 69 #[.string s] w fun e w' => ∃ N, e = .returned (.tuple #[.int .i64 (Lib.atoiSat s.data.toList), .iface 130 (.pointer (some ⟨N, 0, none⟩))]) ∧ w.heap.size ≤ N ∧ w'.heap[N]? = some (.cells #[.string ⟨#[65, 116, 111, 105]⟩, .string s, ev] 146 (0, 0)) ∧ Below w.heap.size w w' := Any.strconv_Atoi_range Tryd.laysC172 s hlim h ev w hv hev
end Go.Proofs
