/- The shelf's contracts at this program. wordseq.Valid, unit.row: some answer. unit.KindName, unit.CanContain over the two tables. -/
import Derived.Shelf.Strings.Builder1
import Derived.Shelf.Strings.Builder2
import Derived.Shelf.Strings.OnBuilder
import Derived.Shelf.Strings.Trim
import Derived.Shelf.Small.Utf8
import Derived.Shelf.Small.Bits
import Derived.Shelf.Small.Strs
import Derived.Shelf.Small.Wraps
import Derived.Shelf.Strings.BuilderF
import Derived.Shelf.Strings.BuilderK
import Derived.Shelf.Strings.Builder2Cap
import Derived.Shelf.Strconv.Itoa0
import Derived.Shelf.Strings.Search1
import Derived.Shelf.GgClosure.StringsIndexFunc
import Derived.Ground.GgwProg
import Derived.Shelf.GgClosure.StringsIndexFuncTop
import Derived.Shelf.GgClosure.StringsRunes
import Derived.Shelf.Strings.Prefix
import Derived.Shelf.Strings.Runes
import Derived.Shelf.Strings.AsciiSet
import Derived.Shelf.Unicode.DecodeSlow
import Derived.Shelf.Unicode.DecodeAny
import Derived.Shelf.Unicode.DecodeLast
import Derived.Shelf.Strings.FieldsFuncAny
import Derived.Shelf.Strings.FuncGrows
import Derived.Shelf.Strings.FieldsFuncGrows
import Derived.Shelf.Strings.BuilderCap
import Derived.Ground.Names2Prog
import Derived.Shelf.Slices.CompactI
import Derived.Test.YtjhdamjbljafhaaGreatDoorProg
import Derived.Test.YtjhdamjbljafhaaGreatDoorP08
import Derived.Lib.ConvBytes
namespace Go.Proofs
open Go.Shelf
def Tryz.lays156_ren : Go.Shelf.Ren := ⟨fun | 156 => 143 | 165 => 174 | 166 => 175 | 169 => 176 | 240 => 191 | 241 => 192 | 276 => 199 | 277 => 200 | n => n, fun | 31 => 34 | 9 => 9 | 3 => 3 | 4 => 4 | 0 => 0 | 20 => 20 | 72 => 206 | 76 => 210 | 70 => 203 | 37 => 204 | 75 => 209 | 127 => 230 | 164 => 233 | 5 => 5 | 80 => 212 | n => n, fun | n => n⟩
theorem Tryz.lays156 : Go.Proofs.Lays.n156 Tryz.prog Tryz.lays156_ren := {
  mixed := by kernel_rfl
  f156 := Tryz.func143.trans (congrArg some (by kernel_rfl))
  f165 := Tryz.func174.trans (congrArg some (by kernel_rfl))
  f166 := Tryz.func175.trans (congrArg some (by kernel_rfl))
  f169 := Tryz.func176.trans (congrArg some (by kernel_rfl))
  f240 := Tryz.func191.trans (congrArg some (by kernel_rfl))
  f241 := Tryz.func192.trans (congrArg some (by kernel_rfl))
  f276 := Tryz.func199.trans (congrArg some (by kernel_rfl))
  f277 := Tryz.func200.trans (congrArg some (by kernel_rfl))
  t0 := Tryz.underlying0
  a0 := Tryz.isAgg0
  z0 := Tryz.sizeOf0
  v0 := Tryz.zeroValue0
  t3 := Tryz.underlying3
  a3 := Tryz.isAgg3
  z3 := Tryz.sizeOf3
  v3 := Tryz.zeroValue3
  t4 := Tryz.underlying4
  a4 := Tryz.isAgg4
  z4 := Tryz.sizeOf4
  v4 := Tryz.zeroValue4
  t9 := Tryz.underlying9
  a9 := Tryz.isAgg9
  z9 := Tryz.sizeOf9
  v9 := Tryz.zeroValue9
  t20 := Tryz.underlying20
  a20 := Tryz.isAgg20
  z20 := Tryz.sizeOf20
  v20 := Tryz.zeroValue20
  t31 := Tryz.underlying34
  a31 := Tryz.isAgg34
  z31 := Tryz.sizeOf34
  v31 := Tryz.zeroValue34
  t37 := Tryz.underlying204
  a37 := Tryz.isAgg204
  z37 := Tryz.sizeOf204
  v37 := Tryz.zeroValue204
  t70 := Tryz.underlying203
  a70 := Tryz.isAgg203
  z70 := Tryz.sizeOf203
  v70 := Tryz.zeroValue203
  t72 := Tryz.underlying206
  a72 := Tryz.isAgg206
  z72 := Tryz.sizeOf206
  v72 := Tryz.zeroValue206
  t75 := Tryz.underlying209
  a75 := Tryz.isAgg209
  z75 := Tryz.sizeOf209
  v75 := Tryz.zeroValue209
  t76 := Tryz.underlying210
  a76 := Tryz.isAgg210
  z76 := Tryz.sizeOf210
  v76 := Tryz.zeroValue210
  t127 := Tryz.underlying230
  a127 := Tryz.isAgg230
  z127 := Tryz.sizeOf230
  v127 := Tryz.zeroValue230
  t164 := Tryz.underlying233
  a164 := Tryz.isAgg233
  z164 := Tryz.sizeOf233
  v164 := Tryz.zeroValue233 }
theorem Tryz.Builder_Extra_156 : Builder.Extra Tryz.prog Tryz.lays156_ren := {
  sizeBuilder := by kernel_rfl
  liesBuilder := by kernel_rfl
  t5 := Tryz.underlying5
  a5 := Tryz.isAgg5
  z5 := Tryz.sizeOf5
  v5 := Tryz.zeroValue5
  infoByte := by kernel_rfl
  cellsByte := by kernel_rfl
  sizeByte := by kernel_rfl
  neB5 := by decide }
open Go.RowKit in

theorem Tryz.strings_Join_none (a : Option Addr) (c : Nat) (sep : ByteArray) (w : World) :
    Calls Tryz.prog 143 #[.slice a 0 c, .string sep] w fun e w' => e = .returned (.string ⟨#[]⟩) ∧ w' = w := Any.strings_Join_none Tryz.lays156 Tryz.Builder_Extra_156 a c sep w
open Go.RowKit in

theorem Tryz.strings_Join (bk o c : Nat) (xs : List ByteArray) (sep : ByteArray) (w : World) (hcells : ∀ (j : Nat) x, xs[j]? = some x → w.cell? ⟨bk, o + j, none⟩ = some (.string x)) (hbk : bk < w.heap.size) (hN : xs.length ≤ 140737488355328) (hcap : xs.length ≤ c) (hlen : (Lib.join (xs.map (·.data.toList)) sep.data.toList).length ≤ 140737488355328) :
    Calls Tryz.prog 143 #[.slice (some ⟨bk, o, none⟩) xs.length c, .string sep] w fun e w' => e = .returned (.string ⟨(Lib.join (xs.map (·.data.toList)) sep.data.toList).toArray⟩) ∧ Below w.heap.size w w' := Any.strings_Join Tryz.lays156 Tryz.Builder_Extra_156 bk o c xs sep w hcells hbk hN hcap hlen
def Tryz.lays161_ren : Go.Shelf.Ren := ⟨fun | 161 => 39 | 231 => 75 | 227 => 72 | 233 => 76 | 235 => 77 | 228 => 104 | 197 => 107 | 151 => 106 | 260 => 148 | 152 => 147 | 137 => 178 | 119 => 179 | 224 => 180 | 225 => 181 | 217 => 194 | 266 => 201 | n => n, fun | 9 => 9 | 4 => 4 | 3 => 3 | 5 => 5 | 117 => 120 | 116 => 119 | 0 => 0 | 124 => 123 | 105 => 147 | 21 => 21 | 119 => 216 | 46 => 127 | 139 => 219 | 138 => 218 | n => n, fun | 3 => 1 | 4 => 2 | n => n⟩
theorem Tryz.lays161 : Go.Proofs.Lays.n161 Tryz.prog Tryz.lays161_ren := {
  mixed := by kernel_rfl
  f119 := Tryz.func179.trans (congrArg some (by kernel_rfl))
  f137 := Tryz.func178.trans (congrArg some (by kernel_rfl))
  f151 := Tryz.func106.trans (congrArg some (by kernel_rfl))
  f152 := Tryz.func147.trans (congrArg some (by kernel_rfl))
  f161 := Tryz.func39.trans (congrArg some (by kernel_rfl))
  f197 := Tryz.func107.trans (congrArg some (by kernel_rfl))
  f217 := Tryz.func194.trans (congrArg some (by kernel_rfl))
  f224 := Tryz.func180.trans (congrArg some (by kernel_rfl))
  f225 := Tryz.func181.trans (congrArg some (by kernel_rfl))
  f227 := Tryz.func72.trans (congrArg some (by kernel_rfl))
  f228 := Tryz.func104.trans (congrArg some (by kernel_rfl))
  f231 := Tryz.func75.trans (congrArg some (by kernel_rfl))
  f233 := Tryz.func76.trans (congrArg some (by kernel_rfl))
  f235 := Tryz.func77.trans (congrArg some (by kernel_rfl))
  f260 := Tryz.func148.trans (congrArg some (by kernel_rfl))
  f266 := Tryz.func201.trans (congrArg some (by kernel_rfl))
  t0 := Tryz.underlying0
  a0 := Tryz.isAgg0
  z0 := Tryz.sizeOf0
  v0 := Tryz.zeroValue0
  t3 := Tryz.underlying3
  a3 := Tryz.isAgg3
  z3 := Tryz.sizeOf3
  v3 := Tryz.zeroValue3
  t4 := Tryz.underlying4
  a4 := Tryz.isAgg4
  z4 := Tryz.sizeOf4
  v4 := Tryz.zeroValue4
  t5 := Tryz.underlying5
  a5 := Tryz.isAgg5
  z5 := Tryz.sizeOf5
  v5 := Tryz.zeroValue5
  t9 := Tryz.underlying9
  a9 := Tryz.isAgg9
  z9 := Tryz.sizeOf9
  v9 := Tryz.zeroValue9
  t21 := Tryz.underlying21
  a21 := Tryz.isAgg21
  z21 := Tryz.sizeOf21
  v21 := Tryz.zeroValue21
  t46 := Tryz.underlying127
  a46 := Tryz.isAgg127
  z46 := Tryz.sizeOf127
  v46 := Tryz.zeroValue127
  t105 := Tryz.underlying147
  a105 := Tryz.isAgg147
  z105 := Tryz.sizeOf147
  v105 := Tryz.zeroValue147
  t116 := Tryz.underlying119
  a116 := Tryz.isAgg119
  z116 := Tryz.sizeOf119
  t117 := Tryz.underlying120
  a117 := Tryz.isAgg120
  z117 := Tryz.sizeOf120
  v117 := Tryz.zeroValue120
  t119 := Tryz.underlying216
  a119 := Tryz.isAgg216
  z119 := Tryz.sizeOf216
  t124 := Tryz.underlying123
  a124 := Tryz.isAgg123
  z124 := Tryz.sizeOf123
  v124 := Tryz.zeroValue123
  t138 := Tryz.underlying218
  a138 := Tryz.isAgg218
  z138 := Tryz.sizeOf218
  v138 := Tryz.zeroValue218
  t139 := Tryz.underlying219
  a139 := Tryz.isAgg219
  z139 := Tryz.sizeOf219
  v139 := Tryz.zeroValue219
  g3 := by kernel_rfl
  g4 := by kernel_rfl }
open Go.RowKit in

theorem Tryz.strings_TrimLeft_one (s : ByteArray) (c : UInt8) (hc : c.toNat < 128) (w : World) :
    Calls Tryz.prog 39 #[.string s, .string ⟨#[c]⟩] w fun e w' => e = .returned (.string ⟨(Lib.trimLeftB s.data.toList c).toArray⟩) ∧ w' = w := Any.strings_TrimLeft_one Tryz.lays161 s c hc w
def Tryz.lays162_ren : Go.Shelf.Ren := ⟨fun | 162 => 38 | 232 => 71 | 227 => 72 | 234 => 73 | 236 => 74 | 228 => 104 | 271 => 105 | 151 => 106 | 120 => 146 | 197 => 107 | 152 => 147 | 260 => 148 | 137 => 178 | 119 => 179 | 224 => 180 | 225 => 181 | 217 => 194 | 266 => 201 | n => n, fun | 9 => 9 | 4 => 4 | 3 => 3 | 5 => 5 | 117 => 120 | 116 => 119 | 0 => 0 | 124 => 123 | 21 => 21 | 105 => 147 | 46 => 127 | 119 => 216 | 139 => 219 | 138 => 218 | n => n, fun | 3 => 1 | 4 => 2 | n => n⟩
theorem Tryz.lays162 : Go.Proofs.Lays.n162 Tryz.prog Tryz.lays162_ren := {
  mixed := by kernel_rfl
  f119 := Tryz.func179.trans (congrArg some (by kernel_rfl))
  f120 := Tryz.func146.trans (congrArg some (by kernel_rfl))
  f137 := Tryz.func178.trans (congrArg some (by kernel_rfl))
  f151 := Tryz.func106.trans (congrArg some (by kernel_rfl))
  f152 := Tryz.func147.trans (congrArg some (by kernel_rfl))
  f162 := Tryz.func38.trans (congrArg some (by kernel_rfl))
  f197 := Tryz.func107.trans (congrArg some (by kernel_rfl))
  f217 := Tryz.func194.trans (congrArg some (by kernel_rfl))
  f224 := Tryz.func180.trans (congrArg some (by kernel_rfl))
  f225 := Tryz.func181.trans (congrArg some (by kernel_rfl))
  f227 := Tryz.func72.trans (congrArg some (by kernel_rfl))
  f228 := Tryz.func104.trans (congrArg some (by kernel_rfl))
  f232 := Tryz.func71.trans (congrArg some (by kernel_rfl))
  f234 := Tryz.func73.trans (congrArg some (by kernel_rfl))
  f236 := Tryz.func74.trans (congrArg some (by kernel_rfl))
  f260 := Tryz.func148.trans (congrArg some (by kernel_rfl))
  f266 := Tryz.func201.trans (congrArg some (by kernel_rfl))
  f271 := Tryz.func105.trans (congrArg some (by kernel_rfl))
  t0 := Tryz.underlying0
  a0 := Tryz.isAgg0
  z0 := Tryz.sizeOf0
  v0 := Tryz.zeroValue0
  t3 := Tryz.underlying3
  a3 := Tryz.isAgg3
  z3 := Tryz.sizeOf3
  v3 := Tryz.zeroValue3
  t4 := Tryz.underlying4
  a4 := Tryz.isAgg4
  z4 := Tryz.sizeOf4
  v4 := Tryz.zeroValue4
  t5 := Tryz.underlying5
  a5 := Tryz.isAgg5
  z5 := Tryz.sizeOf5
  v5 := Tryz.zeroValue5
  t9 := Tryz.underlying9
  a9 := Tryz.isAgg9
  z9 := Tryz.sizeOf9
  v9 := Tryz.zeroValue9
  t21 := Tryz.underlying21
  a21 := Tryz.isAgg21
  z21 := Tryz.sizeOf21
  v21 := Tryz.zeroValue21
  t46 := Tryz.underlying127
  a46 := Tryz.isAgg127
  z46 := Tryz.sizeOf127
  v46 := Tryz.zeroValue127
  t105 := Tryz.underlying147
  a105 := Tryz.isAgg147
  z105 := Tryz.sizeOf147
  v105 := Tryz.zeroValue147
  t116 := Tryz.underlying119
  a116 := Tryz.isAgg119
  z116 := Tryz.sizeOf119
  t117 := Tryz.underlying120
  a117 := Tryz.isAgg120
  z117 := Tryz.sizeOf120
  v117 := Tryz.zeroValue120
  t119 := Tryz.underlying216
  a119 := Tryz.isAgg216
  z119 := Tryz.sizeOf216
  t124 := Tryz.underlying123
  a124 := Tryz.isAgg123
  z124 := Tryz.sizeOf123
  v124 := Tryz.zeroValue123
  t138 := Tryz.underlying218
  a138 := Tryz.isAgg218
  z138 := Tryz.sizeOf218
  v138 := Tryz.zeroValue218
  t139 := Tryz.underlying219
  a139 := Tryz.isAgg219
  z139 := Tryz.sizeOf219
  v139 := Tryz.zeroValue219
  g3 := by kernel_rfl
  g4 := by kernel_rfl }
def Tryz.lays103_ren : Go.Shelf.Ren := ⟨fun | 103 => 97 | 210 => 134 | 206 => 168 | n => n, fun | 9 => 9 | 4 => 4 | 24 => 106 | 3 => 3 | n => n, fun | n => n⟩
theorem Tryz.lays103 : Go.Proofs.Lays.n103 Tryz.prog Tryz.lays103_ren := {
  mixed := by kernel_rfl
  f103 := Tryz.func97.trans (congrArg some (by kernel_rfl))
  f206 := Tryz.func168.trans (congrArg some (by kernel_rfl))
  f210 := Tryz.func134.trans (congrArg some (by kernel_rfl))
  t3 := Tryz.underlying3
  a3 := Tryz.isAgg3
  z3 := Tryz.sizeOf3
  v3 := Tryz.zeroValue3
  t4 := Tryz.underlying4
  a4 := Tryz.isAgg4
  z4 := Tryz.sizeOf4
  v4 := Tryz.zeroValue4
  t9 := Tryz.underlying9
  a9 := Tryz.isAgg9
  z9 := Tryz.sizeOf9
  v9 := Tryz.zeroValue9
  t24 := Tryz.underlying106
  a24 := Tryz.isAgg106
  z24 := Tryz.sizeOf106
  v24 := Tryz.zeroValue106 }
open Go.RowKit in

theorem Tryz.strings_CutPrefix (s p : ByteArray) (w : World) :
    Calls Tryz.prog 97 #[.string s, .string p] w fun e w' => e = .returned (.tuple #[.string ⟨(Lib.trimPrefix s.data.toList p.data.toList).toArray⟩, .bool (Lib.hasPrefix s.data.toList p.data.toList)]) ∧ w' = w := Any.strings_CutPrefix Tryz.lays103 s p w
def Tryz.laysGw15_ren : Go.Shelf.Ren := ⟨fun | 15 => 169 | 20 => 189 | n => n, fun | 9 => 9 | 23 => 58 | 3 => 3 | 4 => 4 | 0 => 0 | 21 => 21 | n => n, fun | n => n⟩
theorem Tryz.laysGw15 : Go.Proofs.LaysGw.n15 Tryz.prog Tryz.laysGw15_ren := {
  mixed := by kernel_rfl
  f15 := Tryz.func169.trans (congrArg some (by kernel_rfl))
  f20 := Tryz.func189.trans (congrArg some (by kernel_rfl))
  t0 := Tryz.underlying0
  a0 := Tryz.isAgg0
  z0 := Tryz.sizeOf0
  v0 := Tryz.zeroValue0
  i0 := by kernel_rfl
  t3 := Tryz.underlying3
  a3 := Tryz.isAgg3
  z3 := Tryz.sizeOf3
  v3 := Tryz.zeroValue3
  i3 := by kernel_rfl
  t4 := Tryz.underlying4
  a4 := Tryz.isAgg4
  z4 := Tryz.sizeOf4
  v4 := Tryz.zeroValue4
  i4 := by kernel_rfl
  t9 := Tryz.underlying9
  a9 := Tryz.isAgg9
  z9 := Tryz.sizeOf9
  v9 := Tryz.zeroValue9
  i9 := by kernel_rfl
  t21 := Tryz.underlying21
  a21 := Tryz.isAgg21
  z21 := Tryz.sizeOf21
  v21 := Tryz.zeroValue21
  i21 := by kernel_rfl
  t23 := Tryz.underlying58
  a23 := Tryz.isAgg58
  z23 := Tryz.sizeOf58
  v23 := Tryz.zeroValue58
  i23 := by kernel_rfl }
def Tryz.laysGw17_ren : Go.Shelf.Ren := ⟨fun | 17 => 137 | 15 => 169 | 20 => 189 | n => n, fun | 9 => 9 | 23 => 58 | 4 => 4 | 3 => 3 | 0 => 0 | 21 => 21 | n => n, fun | n => n⟩
theorem Tryz.laysGw17 : Go.Proofs.LaysGw.n17 Tryz.prog Tryz.laysGw17_ren := {
  mixed := by kernel_rfl
  f15 := Tryz.func169.trans (congrArg some (by kernel_rfl))
  f17 := Tryz.func137.trans (congrArg some (by kernel_rfl))
  f20 := Tryz.func189.trans (congrArg some (by kernel_rfl))
  t0 := Tryz.underlying0
  a0 := Tryz.isAgg0
  z0 := Tryz.sizeOf0
  v0 := Tryz.zeroValue0
  i0 := by kernel_rfl
  t3 := Tryz.underlying3
  a3 := Tryz.isAgg3
  z3 := Tryz.sizeOf3
  v3 := Tryz.zeroValue3
  i3 := by kernel_rfl
  t4 := Tryz.underlying4
  a4 := Tryz.isAgg4
  z4 := Tryz.sizeOf4
  v4 := Tryz.zeroValue4
  i4 := by kernel_rfl
  t9 := Tryz.underlying9
  a9 := Tryz.isAgg9
  z9 := Tryz.sizeOf9
  v9 := Tryz.zeroValue9
  i9 := by kernel_rfl
  t21 := Tryz.underlying21
  a21 := Tryz.isAgg21
  z21 := Tryz.sizeOf21
  v21 := Tryz.zeroValue21
  i21 := by kernel_rfl
  t23 := Tryz.underlying58
  a23 := Tryz.isAgg58
  z23 := Tryz.sizeOf58
  v23 := Tryz.zeroValue58
  i23 := by kernel_rfl }
def Tryz.lays229_ren : Go.Shelf.Ren := ⟨fun | 229 => 19 | n => n, fun | 9 => 9 | 40 => 58 | 31 => 34 | 152 => 78 | 3 => 3 | 0 => 0 | 4 => 4 | 21 => 21 | 154 => 80 | n => n, fun | n => n⟩
theorem Tryz.lays229 : Go.Proofs.Lays.n229 Tryz.prog Tryz.lays229_ren := {
  mixed := by kernel_rfl
  f229 := Tryz.func19.trans (congrArg some (by kernel_rfl))
  t0 := Tryz.underlying0
  a0 := Tryz.isAgg0
  z0 := Tryz.sizeOf0
  v0 := Tryz.zeroValue0
  t3 := Tryz.underlying3
  a3 := Tryz.isAgg3
  z3 := Tryz.sizeOf3
  v3 := Tryz.zeroValue3
  t4 := Tryz.underlying4
  a4 := Tryz.isAgg4
  z4 := Tryz.sizeOf4
  v4 := Tryz.zeroValue4
  t9 := Tryz.underlying9
  a9 := Tryz.isAgg9
  z9 := Tryz.sizeOf9
  v9 := Tryz.zeroValue9
  t21 := Tryz.underlying21
  a21 := Tryz.isAgg21
  z21 := Tryz.sizeOf21
  v21 := Tryz.zeroValue21
  t31 := Tryz.underlying34
  a31 := Tryz.isAgg34
  z31 := Tryz.sizeOf34
  v31 := Tryz.zeroValue34
  t40 := Tryz.underlying58
  a40 := Tryz.isAgg58
  z40 := Tryz.sizeOf58
  v40 := Tryz.zeroValue58
  t152 := Tryz.underlying78
  a152 := Tryz.isAgg78
  z152 := Tryz.sizeOf78
  v152 := Tryz.zeroValue78
  t154 := Tryz.underlying80
  a154 := Tryz.isAgg80
  z154 := Tryz.sizeOf80
  v154 := Tryz.zeroValue80 }
open Go.RowKit Go.Lib in

theorem Tryz.strings_FieldsFunc (g : Nat) (lb : Array Value) (eg : ∀ args w, (callFunc g args).run Tryz.prog w = .ok (.enter g args) w) (p : Nat → Bool) (s : ByteArray) (w : World) (hs : s.size ≤ 4294967296) (hp : PredAt Tryz.prog g lb encR p w) :
    Calls Tryz.prog 19 #[.string s, .func (.func g) #[] lb] w fun e w' => ∃ A, e = .returned (.slice (some ⟨A, 0, none⟩) (Lib.goFieldsP p s).length (Lib.goFieldsP p s).length) ∧ w.heap.size ≤ A ∧
      w'.ownsRow w.heap.size 9 1 (.slice (some ⟨A, 0, none⟩) (Lib.goFieldsP p s).length (Lib.goFieldsP p s).length) (Lib.goFieldsP p s).length ((Lib.goFieldsP p s).map Value.string) ∧ Below w.heap.size w w' := Any.strings_FieldsFunc Tryz.lays229 g lb eg p s w hs hp (by kernel_rfl) (by kernel_rfl)
open Go.RowKit Go.Lib in
theorem Tryz.strings_IndexFunc_grows (g : Nat) (lb : Array Value) (eg : ∀ args w, (callFunc g args).run Tryz.prog w = .ok (.enter g args) w) (p : Nat → Bool) (s : ByteArray) (w : World) (hp : PredGrows Tryz.prog g lb p w) :
    Calls Tryz.prog 169 #[.string s, .func (.func g) #[] lb] w fun e w' => e = .returned (.int .i64 (Lib.idxFunc p true s)) ∧ Below w.heap.size w w' := Any.strings_IndexFunc_grows Tryz.laysGw15 g lb eg p s w hp
open Go.RowKit Go.Lib in
theorem Tryz.strings_ContainsFunc_grows (g : Nat) (lb : Array Value) (eg : ∀ args w, (callFunc g args).run Tryz.prog w = .ok (.enter g args) w) (p : Nat → Bool) (s : ByteArray) (w : World) (hp : PredGrows Tryz.prog g lb p w) :
    Calls Tryz.prog 137 #[.string s, .func (.func g) #[] lb] w fun e w' => e = .returned (.bool (decide (0 ≤ Lib.idxFunc p true s))) ∧ Below w.heap.size w w' := Any.strings_ContainsFunc_grows Tryz.laysGw17 g lb eg p s w hp
def Tryz.laysNm220_ren : Go.Shelf.Ren := ⟨fun | 20 => 43 | n => n, fun | 22 => 40 | 3 => 3 | 4 => 4 | 0 => 0 | n => n, fun | n => n⟩
theorem Tryz.laysNm220 : Go.Proofs.Lays2.n20 Tryz.prog Tryz.laysNm220_ren := {
  mixed := by kernel_rfl
  f20 := Tryz.func43.trans (congrArg some (by kernel_rfl))
  t0 := Tryz.underlying0
  a0 := Tryz.isAgg0
  z0 := Tryz.sizeOf0
  v0 := Tryz.zeroValue0
  t3 := Tryz.underlying3
  a3 := Tryz.isAgg3
  z3 := Tryz.sizeOf3
  v3 := Tryz.zeroValue3
  t4 := Tryz.underlying4
  a4 := Tryz.isAgg4
  z4 := Tryz.sizeOf4
  v4 := Tryz.zeroValue4
  t22 := Tryz.underlying40
  a22 := Tryz.isAgg40
  z22 := Tryz.sizeOf40
  v22 := Tryz.zeroValue40
  i3 := by kernel_rfl }
open Go.RowKit Go.Lib Go.Sort in

theorem Tryz.slices_Compact_int (blk off cap : Nat) (zs : List Int) (w : World) (hH : Holds (Value.int .i64) w blk off zs.toArray) (hsz : zs.length ≤ 9223372036854775807) (hcap : zs.length ≤ cap) :
    Calls Tryz.prog 43 #[.slice (some ⟨blk, off, none⟩) zs.length cap] w fun e w' => e = .returned (.slice (some ⟨blk, off, none⟩) (Lib.compact zs).length cap) ∧ ∃ q, w' = putRow (Value.int .i64) (Sort.ahead w q) blk off (Lib.compact zs ++ List.replicate (zs.length - (Lib.compact zs).length) 0).toArray := Any.slices_Compact_int Tryz.laysNm220 blk off cap zs w hH hsz hcap
open Go.RowKit Go.Lib Go.Sort in

theorem Tryz.slices_Compact_int_empty (a : Option Addr) (cap : Nat) (w : World) :
    Calls Tryz.prog 43 #[.slice a 0 cap] w fun e w' => e = .returned (.slice a 0 cap) ∧ w' = w := Any.slices_Compact_int_empty Tryz.laysNm220 a cap w
end Go.Proofs
namespace Go.Proofs.YtjhdamjbljafhaaGreatDoor
open Go.RowKit
set_option maxHeartbeats 400000 in
theorem word1_any (x : Int) (w : World) : Calls Tryz.prog 202 #[.int .u8 x] w (RetB w) := by
  by_cases h1 : x < 33
  · have d1 : decide (x < 33) = true := decide_eq_true h1
    go_enter Tryz.func202, Tryz.ntmps202
    go_wp2
    go_ret
    exact ⟨_, rfl, Ext.refl _⟩
  · have d1 : decide (x < 33) = false := decide_eq_false h1
    go_enter Tryz.func202, Tryz.ntmps202
    go_wp2
    go_ret
    exact ⟨_, rfl, Ext.refl _⟩
set_option maxRecDepth 100000 in
set_option maxHeartbeats 1600000 in
theorem idx_byte (b c : Nat) (s : ByteArray) (w : World) (hb : b < w.heap.size) (hc : ∀ k, k < s.size → w.cell? ⟨b, k, none⟩ = some (.int .u8 ((s.data.toList.getD k 0).toNat : Int))) (hn : s.size ≤ 1000000) :
    Calls Tryz.prog 204 #[.slice (some ⟨b, 0, none⟩) s.size c, .func (.func 202) #[] #[]] w fun e w' => ∃ z : Int, e = .returned (.int .i64 z) ∧ Ext w w' := by
  go_enter Tryz.func204, Tryz.ntmps204
  go_wp2
  go_loopw [5, 8] (fun _ vk wr => ∃ k : Nat, k ≤ s.size ∧ vk = .int .i64 (k : Nat) ∧ Ext w wr) (fun _ vk _ => s.size - (intOf vk).toNat)
  case atStart => exact ⟨0, Nat.zero_le _, rfl, Ext.refl _⟩
  case round =>
    obtain ⟨k, hk, rfl, hext⟩ := hrel
    by_cases hlt : k < s.size
    · have u0 := (hext.cell (p := ⟨b, k, none⟩) hb).trans (hc k hlt)
      obtain ⟨x, hx⟩ : ∃ x : Int, ((s.data.toList.getD k 0).toNat : Int) = x := ⟨_, rfl⟩
      rw [hx] at u0
      have Hc2 := Lib.hid (word1_any x wr)
      have d1 : decide ((k : Int) < (s.size : Int)) = true := decide_eq_true (by omega)
      go_wp2_with fail
      refine (Hc2.out).mono ?_
      rintro e w2 ⟨bb, rfl, hx2⟩
      cases bb with
      | true =>
        go_wp2
        go_ret
        exact ⟨_, rfl, hext.trans hx2⟩
      | false =>
        go_wp2
        go_roundw
        case rel => exact ⟨k + 1, by omega, by go_num, hext.trans hx2⟩
        case measure => simp [intOf]; omega
    · have d1 : decide ((k : Int) < (s.size : Int)) = false := decide_eq_false (by omega)
      go_wp2
      go_ret
      exact ⟨_, rfl, hext⟩
set_option maxRecDepth 100000 in
set_option maxHeartbeats 800000 in
theorem has_byte (b c : Nat) (s : ByteArray) (w : World) (hb : b < w.heap.size) (hc : ∀ k, k < s.size → w.cell? ⟨b, k, none⟩ = some (.int .u8 ((s.data.toList.getD k 0).toNat : Int))) (hn : s.size ≤ 1000000) :
    Calls Tryz.prog 203 #[.slice (some ⟨b, 0, none⟩) s.size c, .func (.func 202) #[] #[]] w (RetB w) := by
  have Hi := Lib.hid (idx_byte b c s w hb hc hn)
  clear hb hc
  go_enter Tryz.func203, Tryz.ntmps203
  go_wp2_with fail
  refine (Hi.out).mono ?_
  rintro e w2 ⟨z, rfl, hx2⟩
  go_wp2
  go_ret
  exact ⟨_, rfl, hx2⟩
theorem bytesWorld_ext (w : World) (e : TypeId) (s : ByteArray) : Ext w (Lib.bytesWorld w e s) :=
  ⟨rfl, rfl, rfl, by rw [Lib.bytesWorld_size]; omega, fun k hk => Lib.bytesWorld_at_old w e s k hk⟩
theorem str_ne {s : ByteArray} (h : s ≠ ⟨#[]⟩) : (s.toList == (⟨#[]⟩ : ByteArray).toList) = false ∧ s.toList.isEmpty = false := by
  refine ⟨by rw [beq_bytes]; simp [h], ?_⟩
  cases h2 : s.toList with
  | nil => exact absurd (bytes_inj (by rw [h2, ByteArray.toList_eq])) h
  | cons => rfl
set_option maxRecDepth 100000 in
set_option maxHeartbeats 800000 in
theorem wsWord_any (s : ByteArray) (w : World) : Calls Tryz.prog 197 #[.string s] w (RetB w) := by
  by_cases he : s = ⟨#[]⟩
  · subst he
    go_enter Tryz.func197, Tryz.ntmps197
    go_wp2
    go_ret
    exact ⟨_, rfl, Ext.refl _⟩
  · obtain ⟨hne, hne2⟩ := str_ne he
    clear he
    by_cases h2 : s.size ≤ 24
    · have d2 : decide ((s.size : Int) ≤ 24) = true := decide_eq_true (by omega)
      have hconv := Lib.run_convert_string_bytes (P := Tryz.prog) w 9 204 5 s Tryz.underlying9 Tryz.underlying204 Tryz.underlying5
      have hx := bytesWorld_ext w 5 s
      have hc := Lib.bytesWorld_cell w 5 s
      have hb : w.heap.size < (Lib.bytesWorld w 5 s).heap.size := by rw [Lib.bytesWorld_size]; omega
      obtain ⟨wq, hwq⟩ : ∃ wq, Lib.bytesWorld w 5 s = wq := ⟨_, rfl⟩
      obtain ⟨cap, hcap⟩ : ∃ cap, grownCap w s.size 0 5 = cap := ⟨_, rfl⟩
      rw [hwq] at hconv hx hc hb
      rw [hcap] at hconv
      have Hi := Lib.hid (has_byte w.heap.size cap s wq hb hc (by omega))
      have Hx := Lib.hid hx
      clear hx hc hwq hcap
      go_enter Tryz.func197, Tryz.ntmps197
      go_wp2_with fail
      refine (Hi.out).mono ?_
      rintro e w2 ⟨z, rfl, hx2⟩
      go_wp2
      go_ret
      exact ⟨_, rfl, Hx.out.trans hx2⟩
    · have d2 : decide ((s.size : Int) ≤ 24) = false := decide_eq_false (by omega)
      go_enter Tryz.func197, Tryz.ntmps197
      go_wp2
      go_ret
      exact ⟨_, rfl, Ext.refl _⟩
set_option maxHeartbeats 400000 in
theorem wsValid1_any (s : ByteArray) (w : World) : Calls Tryz.prog 196 #[.string s] w (RetB w) := by
  have Hi := Lib.hid (wsWord_any s w)
  go_enter Tryz.func196, Tryz.ntmps196
  go_wp2_with fail
  refine (Hi.out).mono ?_
  rintro e w2 ⟨z, rfl, hx2⟩
  go_wp2
  go_ret
  exact ⟨_, rfl, hx2⟩
set_option maxRecDepth 100000 in
set_option maxHeartbeats 1600000 in
theorem idx_word (A : Option Addr) (c : Nat) (l : List ByteArray) (w : World) (hs : Sl strEl w A l) (hn : l.length ≤ 1000000) :
    Calls Tryz.prog 190 #[.slice A l.length c, .func (.func 196) #[] #[]] w fun e w' => ∃ z : Int, e = .returned (.int .i64 z) ∧ Ext w w' := by
  go_enter Tryz.func190, Tryz.ntmps190
  go_wp2
  go_loopw [5, 8] (fun _ vk wr => ∃ k : Nat, k ≤ l.length ∧ vk = .int .i64 (k : Nat) ∧ Ext w wr) (fun _ vk _ => l.length - (intOf vk).toNat)
  case atStart => exact ⟨0, Nat.zero_le _, rfl, Ext.refl _⟩
  case round =>
    obtain ⟨k, hk, rfl, hext⟩ := hrel
    by_cases hlt : k < l.length
    · obtain ⟨b, off, hAe, hb, u0⟩ := strAt (hs.ext hext) hlt
      subst hAe
      obtain ⟨x, hx⟩ : ∃ x, l[k] = x := ⟨_, rfl⟩
      rw [hx] at u0
      have Hc2 := Lib.hid (wsValid1_any x wr)
      have d1 : decide ((k : Int) < (l.length : Int)) = true := decide_eq_true (by omega)
      go_wp2_with fail
      refine (Hc2.out).mono ?_
      rintro e w2 ⟨bb, rfl, hx2⟩
      cases bb with
      | true =>
        go_wp2
        go_ret
        exact ⟨_, rfl, hext.trans hx2⟩
      | false =>
        go_wp2
        go_roundw
        case rel => exact ⟨k + 1, by omega, by go_num, hext.trans hx2⟩
        case measure => simp [intOf]; omega
    · have d1 : decide ((k : Int) < (l.length : Int)) = false := decide_eq_false (by omega)
      go_wp2
      go_ret
      exact ⟨_, rfl, hext⟩
set_option maxRecDepth 100000 in
set_option maxHeartbeats 800000 in
theorem has_word (A : Option Addr) (c : Nat) (l : List ByteArray) (w : World) (hs : Sl strEl w A l) (hn : l.length ≤ 1000000) :
    Calls Tryz.prog 173 #[.slice A l.length c, .func (.func 196) #[] #[]] w (RetB w) := by
  have Hi := Lib.hid (idx_word A c l w hs hn)
  clear hs
  go_enter Tryz.func173, Tryz.ntmps173
  go_wp2_with fail
  refine (Hi.out).mono ?_
  rintro e w2 ⟨z, rfl, hx2⟩
  go_wp2
  go_ret
  exact ⟨_, rfl, hx2⟩
set_option maxHeartbeats 400000 in
theorem wsValid_any (A : Option Addr) (c : Nat) (l : List ByteArray) (w : World) (hs : Sl strEl w A l) (hn : l.length ≤ 1000000) : Calls Tryz.prog 187 #[.slice A l.length c] w (RetB w) := by
  have Hi := Lib.hid (has_word A c l w hs hn)
  clear hs
  by_cases h2 : l.length ≤ 256
  · have d2 : decide ((l.length : Int) ≤ 256) = true := decide_eq_true (by omega)
    go_enter Tryz.func187, Tryz.ntmps187
    go_wp2_with fail
    refine (Hi.out).mono ?_
    rintro e w2 ⟨z, rfl, hx2⟩
    go_wp2
    go_ret
    exact ⟨_, rfl, hx2⟩
  · have d2 : decide ((l.length : Int) ≤ 256) = false := decide_eq_false (by omega)
    go_enter Tryz.func187, Tryz.ntmps187
    go_wp2
    go_ret
    exact ⟨_, rfl, Ext.refl _⟩
set_option maxRecDepth 100000 in
set_option maxHeartbeats 1600000 in
theorem uRow_any (A : Option Addr) (c : Nat) (l : List GWord) (w : World) (hs : Sl wordEl w A l) (hn : l.length ≤ 1000) : Calls Tryz.prog 165 #[.slice A l.length c] w (RetB w) := by
  have Hs := Lib.hid hs
  clear hs
  go_enter Tryz.func165, Tryz.ntmps165
  go_wp2
  go_loopw [3, 8] (fun vo vk wr => ∃ (k : Nat) (xs : List ByteArray), k ≤ l.length ∧ vk = .int .i64 (k : Nat) ∧ Hid (xs.length = k) ∧ Own strEl w.heap.size wr vo xs ∧ Ext w wr) (fun _ vk _ => l.length - (intOf vk).toNat)
  case atStart => exact ⟨0, [], Nat.zero_le _, rfl, Lib.hid rfl, Own.nil _, Ext.refl _⟩
  case round =>
    obtain ⟨k, xs, hk, rfl, Hxl, hown, hext⟩ := hrel
    have hxl : xs.length ≤ k := Nat.le_of_eq Hxl.out
    obtain ⟨Ao, co, rfl, -, hso⟩ := hown.form
    by_cases hlt : k < l.length
    · obtain ⟨q, hq⟩ : ∃ q, l[k] = q := ⟨_, rfl⟩
      obtain ⟨b, off, hAe, hb, u0, u1, u2, u3⟩ := wordAt (Hs.out.ext hext) hlt
      rw [hq] at u0 u1 u2 u3
      subst hAe
      have d1 : decide ((k : Int) < (l.length : Int)) = true := decide_eq_true (by omega)
      have hsz := hext.size
      have Hown := Lib.hid (hown.ext (((Ext.refl wr).alloc (.cells #[.string q.t, .int .i64 q.a, .int .i64 q.i, .int .i64 q.k] 105)).alloc (.cells #[.string q.t] 9)))
      have Hext := Lib.hid (hext.trans (((Ext.refl wr).alloc (.cells #[.string q.t, .int .i64 q.a, .int .i64 q.i, .int .i64 q.k] 105)).alloc (.cells #[.string q.t] 9)))
      clear hq hext hso hown
      go_wp2_with (at_builtin; go_loud (refine wpList_app strEl rfl (.tmp 12) (.tmp 15) rfl 1 rfl Hown.out (ys := [q.t]) rfl (Sl.new' strEl (by simp) rfl) (by simp; omega) (by simp; omega) ?_; intro v' w2 hown2 hext2 hg2; clear hg2))
      go_roundw
      case rel => exact ⟨k + 1, xs ++ [q.t], by omega, by go_num, Lib.hid (by have := Hxl.out; simp; omega), hown2, Hext.out.trans' hext2⟩
      case measure => simp [intOf]; omega
    · have d1 : decide ((k : Int) < (l.length : Int)) = false := decide_eq_false (by omega)
      have Hv := Lib.hid (wsValid_any Ao co xs wr hso (by omega))
      have hk2 : k = l.length := by omega
      by_cases h2 : l.length ≤ 256
      · have d2 : decide ((l.length : Int) ≤ 256) = true := decide_eq_true (by omega)
        clear hso hown hk2
        go_wp2_with fail
        refine (Hv.out).mono ?_
        rintro e w2 ⟨z, rfl, hx2⟩
        go_wp2
        go_ret
        exact ⟨_, rfl, hext.trans hx2⟩
      · have d2 : decide ((l.length : Int) ≤ 256) = false := decide_eq_false (by omega)
        clear hso hown hk2
        go_wp2
        go_ret
        exact ⟨_, rfl, hext⟩
end Go.Proofs.YtjhdamjbljafhaaGreatDoor
