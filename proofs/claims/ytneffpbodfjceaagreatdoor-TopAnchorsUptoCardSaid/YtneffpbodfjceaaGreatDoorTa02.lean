/- Texts laid together. -/
import Derived.Shelf.Strings.Builder1
import Derived.Shelf.Strings.Builder2
import Derived.Shelf.Strings.OnBuilder
import Derived.Shelf.Small.Bits
import Derived.Shelf.Small.Strs
import Derived.Shelf.Small.Wraps
import Derived.Shelf.Strings.BuilderF
import Derived.Shelf.Strings.BuilderK
import Derived.Shelf.Utf8.AppendRune
import Derived.Shelf.Utf8.AppendRunePlain
import Derived.Shelf.Utf8.RuneCount
import Derived.Shelf.Strings.Builder2Cap
import Derived.Shelf.Strconv.Itoa0
import Derived.Shelf.Strconv.Itoa1
import Derived.Shelf.LaysM
import Derived.Shelf.Strconv.Itoa2
import Derived.Shelf.Strconv.Itoa3
import Derived.Shelf.Strconv.Itoa4
import Derived.Shelf.Strconv.ParseIntEmpty
import Derived.Shelf.Strconv.Clone
import Derived.Shelf.Strconv.SyntaxError
import Derived.Shelf.LaysC
import Derived.Shelf.Strconv.ToError
import Derived.Shelf.Strconv.Lower
import Derived.Shelf.Strconv.ParseUint10
import Derived.Shelf.Strconv.ParseUint10Empty
import Derived.Shelf.Strconv.ParseUint10Any
import Derived.Shelf.Strconv.ParseInt10
import Derived.Shelf.Strconv.RangeError
import Derived.Shelf.Strconv.ToErrorRange
import Derived.Shelf.Strconv.ParseUintEmpty
import Derived.Shelf.Strconv.ParseUint10b64
import Derived.Shelf.Strconv.ParseUint10b32
import Derived.Shelf.Strconv.ParseUint10b16
import Derived.Shelf.Strconv.ParseUint10b8
import Derived.Shelf.Strconv.ParseUint10At
import Derived.Shelf.Strconv.ParseInt10At64
import Derived.Shelf.Strconv.ParseInt10At32
import Derived.Shelf.Strconv.ParseInt10At16
import Derived.Shelf.Strconv.ParseInt10At8
import Derived.Shelf.Strconv.ParseInt10All
import Derived.Shelf.Strconv.ParseIntPublic10
import Derived.Shelf.Strings.Search1
import Derived.Shelf.Strings.Search2
import Derived.Shelf.Strings.Search3
import Derived.Shelf.Strings.Count
import Derived.Shelf.Strings.Shaped
import Derived.Shelf.Sort.Plain
import Derived.Shelf.Strings.Prefix
import Derived.Shelf.Strings.Split
import Derived.Shelf.Strings.SplitShaped
import Derived.Shelf.Unicode.Decode
import Derived.Shelf.Strings.RuneCount
import Derived.Shelf.Strings.Explode
import Derived.Shelf.Unicode.DecodeSlow
import Derived.Shelf.Unicode.DecodeAny
import Derived.Shelf.Strings.BuilderCap
import Derived.Shelf.Slices.Turned
import Derived.Shelf.Slices.CompactS
import Derived.Shelf.Slices.Cells
import Derived.Shelf.Slices.In.SortNone
import Derived.Ground.SlgnProg
import Derived.Shelf.SlicesG.CompactI
import Derived.Shelf.SlicesG.SearchI
import Derived.Shelf.SlicesG.Cells
import Derived.Ground.SlgcProg
import Derived.Shelf.SlicesG.Cmp
import Derived.Shelf.Unicode.ValidAny
import Derived.Test.YtneffpbodfjceaaGreatDoorProg
import Derived.Test.YtneffpbodfjceaaGreatDoorTa01
import Derived.Lib.LaidU8T
import Derived.Deep.DeepHandedRow
import Derived.Lib.LaidTab
import Derived.Laws.RangeAny
import Derived.Lib.OthersKept
import Derived.Lib.Builder
import Derived.Lib.AppendStr
set_option linter.unusedVariables false
set_option linter.unusedSimpArgs false
set_option maxRecDepth 100000
set_option maxHeartbeats 16000000
namespace Go.Proofs.YtneffpbodfjceaaGreatDoor
end Go.Proofs.YtneffpbodfjceaaGreatDoor
namespace Go.Proofs
open Go.Shelf
def Tryz.laysValid_ren:Go.Shelf.Ren:=⟨fun | 196=>134 | 259=>203 | n=>n,fun | 9=>9 | 4=>4 | 3=>3 | 5=>5 | 12=>12 | 119=>297 | 0=>0 | 46=>58 | 139=>300 | 138=>299 | 53=>335 | n=>n,fun | 3=>0 | 4=>1 | n=>n⟩
theorem Tryz.laysValid:Go.Proofs.Lays.n196 Tryz.prog Tryz.laysValid_ren:=by constructor<;>first|kernel_rfl|(intro w;rfl)|(constructor<;>first|kernel_rfl|(intro w;rfl)|(constructor<;>first|kernel_rfl|(intro w;rfl)|(constructor<;>first|kernel_rfl|(intro w;rfl))))
def Tryz.lays169_ren:Go.Shelf.Ren:=⟨fun | 169=>92 | n=>n,fun | 70=>175 | 9=>9 | 0=>0 | 72=>178 | 37=>176 | 127=>266 | 3=>3 | 5=>5 | n=>n,fun | n=>n⟩
theorem Tryz.lays169:Go.Proofs.Lays.n169 Tryz.prog Tryz.lays169_ren:=by constructor<;>first|kernel_rfl|(intro w;rfl)|(constructor<;>first|kernel_rfl|(intro w;rfl)|(constructor<;>first|kernel_rfl|(intro w;rfl)|(constructor<;>first|kernel_rfl|(intro w;rfl))))
theorem Tryz.Builder_Extra_169:Builder.Extra Tryz.prog Tryz.lays169_ren:={
 sizeBuilder:=by kernel_rfl
 liesBuilder:=by kernel_rfl
 t5:=Tryz.underlying5
 a5:=Tryz.isAgg5
 z5:=Tryz.sizeOf5
 v5:=Tryz.zeroValue5
 infoByte:=by kernel_rfl
 cellsByte:=by kernel_rfl
 sizeByte:=by kernel_rfl
 neB5:=by decide }
open Go.RowKit in
theorem Tryz.Builder_String_any (B b:Nat) (l:List UInt8) (w:World) (h:Lib.IsBuilder 178 5 B b (Lib.byteCells l) w) (hBw:B<=w.heap.size) :
 Calls Tryz.prog 92 #[.pointer (some ⟨b,0,none⟩)] w fun e w'=>e = .returned (.string ⟨l.toArray⟩)/\Below B w w':=Any.Builder_String_any Tryz.lays169 Tryz.Builder_Extra_169 B b l w h hBw
def Tryz.lays156_ren:Go.Shelf.Ren:=⟨fun | 156=>71 | 165=>157 | 166=>91 | 169=>92 | 240=>177 | 241=>216 | 276=>228 | 277=>248 | n=>n,fun | 31=>129 | 9=>9 | 3=>3 | 4=>4 | 0=>0 | 20=>20 | 72=>178 | 76=>183 | 70=>175 | 37=>176 | 75=>182 | 127=>266 | 164=>327 | 5=>5 | 80=>141 | n=>n,fun | n=>n⟩
theorem Tryz.lays156:Go.Proofs.Lays.n156 Tryz.prog Tryz.lays156_ren:=by constructor<;>first|kernel_rfl|(intro w;rfl)|(constructor<;>first|kernel_rfl|(intro w;rfl)|(constructor<;>first|kernel_rfl|(intro w;rfl)|(constructor<;>first|kernel_rfl|(intro w;rfl))))
theorem Tryz.Builder_Extra_156:Builder.Extra Tryz.prog Tryz.lays156_ren:={
 sizeBuilder:=by kernel_rfl
 liesBuilder:=by kernel_rfl
 t5:=Tryz.underlying5
 a5:=Tryz.isAgg5
 z5:=Tryz.sizeOf5
 v5:=Tryz.zeroValue5
 infoByte:=by kernel_rfl
 cellsByte:=by kernel_rfl
 sizeByte:=by kernel_rfl
 neB5:=by decide }
open Go.RowKit in
theorem Tryz.strings_Join_none (a:Option Addr) (c:Nat) (sep:ByteArray) (w:World) :
 Calls Tryz.prog 71 #[.slice a 0 c,.string sep] w fun e w'=>e = .returned (.string ⟨#[]⟩)/\w'=w:=Any.strings_Join_none Tryz.lays156 Tryz.Builder_Extra_156 a c sep w
open Go.RowKit in
theorem Tryz.strings_Join (bk o c:Nat) (xs:List ByteArray) (sep:ByteArray) (w:World) (hcells:∀ (j:Nat) x,xs[j]?=some x->w.cell? ⟨bk,o+j,none⟩=some (.string x)) (hbk:bk<w.heap.size) (hN:xs.length<=140737488355328) (hcap:xs.length<=c) (hlen:(Lib.join (xs.map (·.data.toList)) sep.data.toList).length<=140737488355328) :
 Calls Tryz.prog 71 #[.slice (some ⟨bk,o,none⟩) xs.length c,.string sep] w fun e w'=>e = .returned (.string ⟨(Lib.join (xs.map (·.data.toList)) sep.data.toList).toArray⟩)/\Below w.heap.size w w':=Any.strings_Join Tryz.lays156 Tryz.Builder_Extra_156 bk o c xs sep w hcells hbk hN hcap hlen
def Tryz.lays125_ren:Go.Shelf.Ren:=⟨fun | 125=>221 | 128=>259 | 129=>260 | n=>n,fun | 46=>58 | 3=>3 | 51=>353 | 53=>335 | 4=>4 | 5=>5 | 9=>9 | n=>n,fun | n=>n⟩
theorem Tryz.lays125:Go.Proofs.Lays.n125 Tryz.prog Tryz.lays125_ren:=by constructor<;>first|kernel_rfl|(intro w;rfl)|(constructor<;>first|kernel_rfl|(intro w;rfl)|(constructor<;>first|kernel_rfl|(intro w;rfl)|(constructor<;>first|kernel_rfl|(intro w;rfl))))
theorem Tryz.bits_Len (x:Int) (w:World) (h0:0<=x) (h1:x<=18446744073709551615) :
 Calls Tryz.prog 221 #[.int .u64 x] w fun e w'=>e = .returned (.int .i64 (Lib.bitLen x.toNat))/\w'=w:=Any.bits_Len Tryz.lays125 x w h0 h1
def Tryz.lays210_ren:Go.Shelf.Ren:=⟨fun | 210=>244 | 206=>282 | n=>n,fun | 9=>9 | 4=>4 | 3=>3 | n=>n,fun | n=>n⟩
def Tryz.lays242_ren:Go.Shelf.Ren:=⟨fun | 242=>238 | 278=>278 | n=>n,fun | 37=>176 | 21=>21 | 51=>353 | 4=>4 | 5=>5 | 46=>58 | n=>n,fun | n=>n⟩
theorem Tryz.lays242:Go.Proofs.Lays.n242 Tryz.prog Tryz.lays242_ren:=by constructor<;>first|kernel_rfl|(intro w;rfl)|(constructor<;>first|kernel_rfl|(intro w;rfl)|(constructor<;>first|kernel_rfl|(intro w;rfl)|(constructor<;>first|kernel_rfl|(intro w;rfl))))
open Go.RowKit in
theorem Tryz.utf8_AppendRune_plain (B:Nat) (v:Value) (n:Nat) (xs:List Value) (r:Int) (hr0:-2147483648<=r) (hr1:r<=2147483647) (w:World) (hown:w.ownsRow B 5 1 v n xs) (hlen:n+4<=140737488355328) (hBw:B<=w.heap.size) :
 Calls Tryz.prog 238 #[v,.int .i32 r] w fun e w'=>∃ v',e = .returned v'/\w'.ownsRow B 5 1 v' (n+(Lib.runeCells r).length) (xs++Lib.runeCells r)/\∃ o,(w.alloc o).grownBy w' v.ownBlock:=Any.utf8_AppendRune_plain Tryz.lays242 (by kernel_rfl) B v n xs r hr0 hr1 w hown hlen hBw
def Tryz.lays195_ren:Go.Shelf.Ren:=⟨fun | 195=>202 | n=>n,fun | 9=>9 | 3=>3 | 0=>0 | 4=>4 | n=>n,fun | n=>n⟩
theorem Tryz.lays195:Go.Proofs.Lays.n195 Tryz.prog Tryz.lays195_ren:=by constructor<;>first|kernel_rfl|(intro w;rfl)|(constructor<;>first|kernel_rfl|(intro w;rfl)|(constructor<;>first|kernel_rfl|(intro w;rfl)|(constructor<;>first|kernel_rfl|(intro w;rfl))))
open Go.RowKit in
theorem Tryz.utf8_RuneCountInString (s:ByteArray) (w:World) (hs:s.size<9223372036854775807) :
 Calls Tryz.prog 202 #[.string s] w fun e w'=>e = .returned (.int .i64 (Lib.runeCount s))/\∃ pos,w'=w.iter s pos:=Any.utf8_RuneCountInString Tryz.lays195 s w hs
def Tryz.laysM246_ren:Go.Shelf.Ren:=⟨fun | 246=>227 | 283=>271 | 284=>272 | 285=>273 | 286=>274 | 129=>260 | 317=>297 | 318=>298 | 319=>299 | 320=>300 | 337=>313 | 338=>314 | n=>n,fun | 2=>2 | 3=>3 | 9=>9 | 4=>4 | 171=>363 | 0=>0 | 53=>335 | 37=>176 | 5=>5 | 173=>365 | 212=>389 | 51=>353 | 20=>20 | 213=>390 | 46=>58 | 232=>403 | 233=>404 | n=>n,fun | 17=>3 | 18=>6 | 19=>7 | n=>n⟩
theorem Tryz.laysM246:Go.Proofs.LaysM.n246 Tryz.prog Tryz.laysM246_ren:=by constructor<;>first|kernel_rfl|(intro w;rfl)|(constructor<;>first|kernel_rfl|(intro w;rfl)|(constructor<;>first|kernel_rfl|(intro w;rfl)|(constructor<;>first|kernel_rfl|(intro w;rfl))))
open Go.RowKit Go.Sort Go.Lib in
theorem Tryz.internal_strconv_FormatInt_10 (n : Int) (h0 : -9223372036854775808 ≤ n) (h1 : n ≤ 9223372036854775807) (w : World) (htab : Lib.TabIs Tryz.prog w "internal/strconv.uint64pow10" .u64 Lib.pow10Tab) :
 Calls Tryz.prog 227 #[.int .i64 n,.int .i64 10] w fun e w'=>e = .returned (.string ⟨(Lib.itoa n).toArray⟩)/\∃ k os,w'=grow (w.drewN k) os:=Any.internal_strconv_FormatInt_10 Tryz.laysM246 n h0 h1 w htab
def Tryz.laysC245_ren:Go.Shelf.Ren:=⟨fun | 245=>246 | 279=>284 | 280=>285 | 281=>286 | 282=>287 | 316=>308 | 171=>310 | 205=>309 | 243=>317 | 246=>227 | 283=>271 | 284=>272 | 285=>273 | 286=>274 | 129=>260 | 317=>297 | 318=>298 | 319=>299 | 320=>300 | 337=>313 | 338=>314 | n=>n,fun | 9=>9 | 3=>3 | 75=>182 | 167=>373 | 4=>4 | 168=>376 | 210=>393 | 37=>176 | 0=>0 | 127=>266 | 145=>402 | 143=>400 | 2=>2 | 171=>363 | 53=>335 | 5=>5 | 173=>365 | 212=>389 | 51=>353 | 20=>20 | 213=>390 | 46=>58 | 232=>403 | 233=>404 | 80=>141 | n=>n,fun | 15=>4 | 16=>5 | 17=>3 | 18=>6 | 19=>7 | n=>n⟩
def Tryz.laysC174_ren:Go.Shelf.Ren:=⟨fun | 174=>214 | 247=>245 | 245=>246 | 287=>283 | 279=>284 | 280=>285 | 281=>286 | 282=>287 | 321=>306 | 322=>307 | 316=>308 | 171=>310 | 205=>309 | 243=>317 | 246=>227 | 283=>271 | 284=>272 | 285=>273 | 286=>274 | 129=>260 | 317=>297 | 318=>298 | 319=>299 | 320=>300 | 337=>313 | 338=>314 | n=>n,fun | 9=>9 | 3=>3 | 2=>2 | 75=>182 | 85=>313 | 4=>4 | 167=>373 | 5=>5 | 53=>335 | 175=>374 | 46=>58 | 168=>376 | 37=>176 | 0=>0 | 210=>393 | 21=>21 | 127=>266 | 145=>402 | 143=>400 | 171=>363 | 173=>365 | 212=>389 | 51=>353 | 20=>20 | 213=>390 | 232=>403 | 233=>404 | 80=>141 | n=>n,fun | 15=>4 | 16=>5 | 17=>3 | 18=>6 | 19=>7 | n=>n⟩
theorem Tryz.laysC174:Go.Proofs.LaysC.n174 Tryz.prog Tryz.laysC174_ren:=by constructor<;>first|kernel_rfl|(intro w;rfl)|(constructor<;>first|kernel_rfl|(intro w;rfl)|(constructor<;>first|kernel_rfl|(intro w;rfl)|(constructor<;>first|kernel_rfl|(intro w;rfl))))
open Go.RowKit in
theorem Tryz.strconv_ParseInt_10_at64_ok (s:ByteArray) (hmax:s.size<=9223372036854775806) (v:Int) (h:Lib.parseIntB 64 s.data.toList = .ok v) (w:World) :
 Calls Tryz.prog 214 #[.string s,.int .i64 10,.int .i64 64] w fun e w'=>e = .returned (.tuple #[.int .i64 v,.nilIface])/\(w'=w\/∃ t,w'=Lib.bytesWorld w 5 t):=Any.strconv_ParseInt_10_at64_ok Tryz.laysC174 s hmax v h w
def Tryz.lays219_ren:Go.Shelf.Ren:=⟨fun | 219=>281 | 217=>215 | 225=>303 | 224=>304 | 267=>305 | 266=>247 | 314=>316 | n=>n,fun | 9=>9 | 3=>3 | 4=>4 | 5=>5 | 46=>58 | 146=>398 | 51=>353 | n=>n,fun | 1=>2 | n=>n⟩
def Tryz.lays144_ren:Go.Shelf.Ren:=⟨fun | 144=>232 | 143=>241 | 219=>281 | 217=>215 | 225=>303 | 224=>304 | 267=>305 | 266=>247 | 314=>316 | n=>n,fun | 9=>9 | 4=>4 | 3=>3 | 5=>5 | 46=>58 | 146=>398 | 51=>353 | n=>n,fun | 1=>2 | n=>n⟩
theorem Tryz.lays144:Go.Proofs.Lays.n144 Tryz.prog Tryz.lays144_ren:=by constructor<;>first|kernel_rfl|(intro w;rfl)|(constructor<;>first|kernel_rfl|(intro w;rfl)|(constructor<;>first|kernel_rfl|(intro w;rfl)|(constructor<;>first|kernel_rfl|(intro w;rfl))))
open Go.RowKit Go.Lib in
theorem Tryz.strings_Contains (s sub:ByteArray) (m:Int) (w:World) (hs:s.size<4294967281) (hm:w.cell? ⟨2,0,none⟩=some (.int .i64 m)) :
 Calls Tryz.prog 232 #[.string s,.string sub] w fun e w'=>e = .returned (.bool (Lib.contains s.data.toList sub.data.toList))/\w'=w:=Any.strings_Contains Tryz.lays144 s sub m w hs hm
def Tryz.lays190_ren:Go.Shelf.Ren:=⟨fun | 190=>168 | 125=>221 | 258=>220 | 128=>259 | 129=>260 | 302=>250 | 303=>251 | 304=>252 | 305=>253 | 306=>254 | 307=>255 | 308=>256 | 309=>257 | 310=>258 | 333=>288 | 329=>289 | 330=>290 | 334=>291 | 335=>292 | 336=>293 | 344=>311 | n=>n,fun | 31=>129 | 9=>9 | 3=>3 | 46=>58 | 0=>0 | 51=>353 | 53=>335 | 4=>4 | 183=>347 | 182=>346 | 131=>193 | 5=>5 | 218=>379 | 222=>383 | 228=>395 | 229=>105 | n=>n,fun | n=>n⟩
theorem Tryz.lays190:Go.Proofs.Lays.n190 Tryz.prog Tryz.lays190_ren:=by constructor<;>first|kernel_rfl|(intro w;rfl)|(constructor<;>first|kernel_rfl|(intro w;rfl)|(constructor<;>first|kernel_rfl|(intro w;rfl)|(constructor<;>first|kernel_rfl|(intro w;rfl))))
def Tryz.lays206_ren:Go.Shelf.Ren:=⟨fun | 206=>282 | n=>n,fun | 9=>9 | 4=>4 | 3=>3 | n=>n,fun | n=>n⟩
theorem Tryz.lays206:Go.Proofs.Lays.n206 Tryz.prog Tryz.lays206_ren:=by constructor<;>first|kernel_rfl|(intro w;rfl)|(constructor<;>first|kernel_rfl|(intro w;rfl)|(constructor<;>first|kernel_rfl|(intro w;rfl)|(constructor<;>first|kernel_rfl|(intro w;rfl))))
open Go.RowKit Go.Lib in
theorem Tryz.stringslite_HasPrefix (s p:ByteArray) (w:World) :
 Calls Tryz.prog 282 #[.string s,.string p] w fun e w'=>e = .returned (.bool (Lib.hasPrefix s.data.toList p.data.toList))/\w'=w:=Any.stringslite_HasPrefix Tryz.lays206 s p w
def Tryz.lays221_ren:Go.Shelf.Ren:=⟨fun | 221=>208 | 268=>239 | 138=>240 | 143=>241 | 195=>202 | 197=>279 | 218=>280 | 219=>281 | 260=>302 | 217=>215 | 225=>303 | 224=>304 | 267=>305 | 266=>247 | 314=>316 | n=>n,fun | 9=>9 | 3=>3 | 31=>129 | 4=>4 | 0=>0 | 105=>370 | 21=>21 | 5=>5 | 46=>58 | 119=>297 | 139=>300 | 138=>299 | 146=>398 | 51=>353 | n=>n,fun | 1=>2 | 3=>0 | 4=>1 | n=>n⟩
def Tryz.lays146_ren:Go.Shelf.Ren:=⟨fun | 146=>140 | 221=>208 | 268=>239 | 138=>240 | 143=>241 | 195=>202 | 197=>279 | 218=>280 | 219=>281 | 260=>302 | 217=>215 | 225=>303 | 224=>304 | 267=>305 | 266=>247 | 314=>316 | n=>n,fun | 9=>9 | 31=>129 | 3=>3 | 4=>4 | 0=>0 | 105=>370 | 21=>21 | 5=>5 | 46=>58 | 119=>297 | 139=>300 | 138=>299 | 146=>398 | 51=>353 | n=>n,fun | 1=>2 | 3=>0 | 4=>1 | n=>n⟩
theorem Tryz.lays146:Go.Proofs.Lays.n146 Tryz.prog Tryz.lays146_ren:=by constructor<;>first|kernel_rfl|(intro w;rfl)|(constructor<;>first|kernel_rfl|(intro w;rfl)|(constructor<;>first|kernel_rfl|(intro w;rfl)|(constructor<;>first|kernel_rfl|(intro w;rfl))))
open Go.RowKit Go.Lib in
theorem Tryz.strings_Split (s sep:ByteArray) (m:Int) (w:World) (hs:s.size<4294967281) (hm:w.cell? ⟨2,0,none⟩=some (.int .i64 m)) (h1:1<=sep.size) :
 Calls Tryz.prog 140 #[.string s,.string sep] w fun e w' =>
  e = .returned (.slice (some ⟨w.heap.size,0,none⟩) (Lib.countB s sep+1) (Lib.countB s sep+1))/\w'=w.alloc (.cells ((Lib.splitB sep 0 (Lib.countB s sep) s).map Value.string).toArray 9):=Any.strings_Split Tryz.lays146 (by kernel_rfl) s sep m w hs hm h1
def Tryz.lays110_ren:Go.Shelf.Ren:=⟨fun | 110=>142 | 109=>211 | n=>n,fun | 31=>129 | 9=>9 | 4=>4 | 3=>3 | 0=>0 | n=>n,fun | n=>n⟩
theorem Tryz.lays110:Go.Proofs.Lays.n110 Tryz.prog Tryz.lays110_ren:=by constructor<;>first|kernel_rfl|(intro w;rfl)|(constructor<;>first|kernel_rfl|(intro w;rfl)|(constructor<;>first|kernel_rfl|(intro w;rfl)|(constructor<;>first|kernel_rfl|(intro w;rfl))))
open Go.Lib in
theorem Tryz.slices_Contains_string (b off n c:Nat) (zs:List ByteArray) (x:ByteArray) (w:World) (hz:n<=zs.length) (hbig:n<=9223372036854775807) (hc:∀ j,j<zs.length->w.cell? ⟨b,off+j,none⟩=some (.string (zs.getD j ByteArray.empty))) :
 Calls Tryz.prog 142 #[.slice (some ⟨b,off,none⟩) n c,.string x] w fun e w'=>e = .returned (.bool (Lib.containsS (zs.take n) x))/\w'=w:=Any.slices_Contains_string Tryz.lays110 b off n c zs x w hz hbig hc
def Tryz.lays194_ren:Go.Shelf.Ren:=⟨fun | 194=>169 | n=>n,fun | 31=>129 | 9=>9 | 3=>3 | 4=>4 | 0=>0 | n=>n,fun | n=>n⟩
theorem Tryz.lays194:Go.Proofs.Lays.n194 Tryz.prog Tryz.lays194_ren:=by constructor<;>first|kernel_rfl|(intro w;rfl)|(constructor<;>first|kernel_rfl|(intro w;rfl)|(constructor<;>first|kernel_rfl|(intro w;rfl)|(constructor<;>first|kernel_rfl|(intro w;rfl))))
open Go.RowKit Go.Lib Go.Sort in
theorem Tryz.slices_Compact_string_empty (a:Option Addr) (cap:Nat) (w:World) :
 Calls Tryz.prog 169 #[.slice a 0 cap] w fun e w'=>e = .returned (.slice a 0 cap)/\w'=w:=Any.slices_Compact_string_empty Tryz.lays194 a cap w
end Go.Proofs
namespace Go.Proofs.YtneffpbodfjceaaGreatDoor
section
open Go.RowKit Go.ChangeShapes Go.WideShapes Go.ChangeAt
set_option maxRecDepth 100000
theorem qCy:Tryz.prog.cellsOf 9=1:=by kernel_rfl
theorem qFl:Tryz.prog.cellsOf 2=1:=by kernel_rfl
theorem qKd:Tryz.prog.cellsOf 3=1:=by kernel_rfl
theorem qIn:Tryz.prog.cellsOf 4=1:=by kernel_rfl
theorem qQd:Tryz.prog.cellsOf 38=2:=by kernel_rfl
theorem Sl.all {α:Type} {C:World->Nat->Nat->α->Prop} {w:World} {size n:Nat} {A:Option Addr} {l:List α} {p:α->Prop} (h:Sl w size C A n l) (k:∀ b o x,C w b o x->p x):∀ x∈l,p x:=by
 intro x hx;obtain ⟨i,hi⟩:=List.getElem?_of_mem hx;(have:i<n:=by rw [← h.1];exact (List.getElem?_eq_some_iff.1 hi).1);obtain ⟨b,off,_,hc⟩:=h.2 (by omega);exact k _ _ _ (hc i x hi)
theorem zHj (W:World):qCa Tryz.prog W 38 (fun cs (a:Int × Int)=>cs=[.int .i64 a.1,.int .i64 a.2]/\(-9223372036854775808<=a.1/\a.1<=9223372036854775807)/\(-9223372036854775808<=a.2/\a.2<=9223372036854775807)):=by
 intro H enc fuel cs x h hw;obtain ⟨hl,hf⟩:=qCa.fields Tryz.underlying38 h hw;rw [qQd] at hl;obtain ⟨v0,v1,rfl⟩:=qCm hl;obtain ⟨a0,h0,s0⟩:=hf 0 _ rfl (qCa.int Tryz.underlying2);obtain ⟨a1,h1,s1⟩:=hf 1 _ rfl (qCa.int Tryz.underlying2);simp [qFl] at h0 h1;subst h0 h1;exact ⟨(a0,a1),rfl,bounds_i64 s0,bounds_i64 s1⟩
theorem qLu {v:Value} {W:World} {t:TypeId} {fs:Array Field} {b:Nat} (ht:Tryz.prog.underlying t=some (.struct fs)) (hv:Value.okWide Tryz.prog W .any b t v):∃ cs,v = .agg cs:=by
 unfold Value.okWide at hv;rw [ht] at hv
 cases v<;>first | exact ⟨_,rfl⟩ | simp at hv
theorem zPj:U8Extra Tryz.prog Tryz.laysValid_ren:=⟨by kernel_rfl,by kernel_rfl,by kernel_rfl,by kernel_rfl,by kernel_rfl,by kernel_rfl,by kernel_rfl⟩
theorem zCk:Rows.laid_unicode_utf8_first=Lib.firstData:=by kernel_rfl
theorem qXd:(Rows.laid_unicode_utf8_acceptRanges:DataW Unit)=Lib.acceptData:=by kernel_rfl
theorem qSr:laidOutB Tryz.prog=true:=by kernel_rfl
theorem qOz {P:Program} (qSr:laidOutB P=true) {H:Type} {enc:TypeId × Value->H} {W W':World} (hx:Ext W W') {sp:Nat->Bool}:∀ {ts:List TypeId} {vs:List Value} {ds:List (DataW H)} {ps:List MemPlace},DataW.TrodAll enc P W 0 (fun _=>true) true ts vs ds ps ->
 (ts.all fun t=>P.readableRec t && decide (t<P.types.size))=true->(∀ x∈ps,x.block<W.heap.size)->(∀ x∈ps,sp x.block=true)->DataW.TrodAll enc P W' 0 sp true ts vs ds ps
 | [],_,_,_,h,_,_,_=>by
  obtain ⟨rfl,rfl,rfl⟩:=trodAll_nil h;exact rfl
 | t :: ts,_,_,_,h,ha,hlt,hsp=>by
  obtain ⟨v,vs1,d,ds1,a,b,rfl,rfl,rfl,h1,h2⟩:=trodAll_cons h;simp only [List.all_cons,Bool.and_eq_true,decide_eq_true_eq] at ha;refine ⟨a,b,WideElems.Trod_stays qSr ha.1.1 ha.1.2 h1 (fun x hx'=>Below.same hx (hlt x (List.mem_append_left _ hx'))) (fun x hx'=>hsp x (List.mem_append_left _ hx')),qOz qSr hx h2 ha.2 (fun x hx'=>hlt x (List.mem_append_right _ hx')) (fun x hx'=>hsp x (List.mem_append_right _ hx')),rfl⟩
theorem zHp {H:Type} {enc:TypeId × Value->H} {f:Func} {s:ChangeSpec} {fresh handsOn:Bool} {W W':World} {args:Array Value} {ds gs:List (DataW H)} {before:List MemPlace} (hW:DataW.Whole enc Tryz.prog f.params.toList s.vars false W args.toList ds gs before)
 (hv:s.vars=[]) (hr:f.resultTypes=#[4]) (hts:(f.params.toList.all fun t=>Tryz.prog.readableRec t && decide (t<Tryz.prog.types.size))=true) (hres:(s.fn H (ds++gs)).results=[.lit (.bool true)]) (hargs:(s.fn H (ds++gs)).args=ds) (hvars:(s.fn H (ds++gs)).vars=[])
 (hx:Ext W W'):s.post enc Tryz.prog f false fresh handsOn false W args (.bool true) W':=by
 have hlt:=hW.lt;obtain ⟨p,q,hA,hV,rfl,hfz,hnd⟩:=hW;rw [hv] at hV;obtain ⟨rfl,rfl⟩:=trodVars_none hV;(have hlt':∀ x∈p,x.block<W.heap.size:=fun x hx'=>hlt x (by simpa using hx'));have hA':DataW.TrodAll enc Tryz.prog W' 0 (fun b=>decide (b<W.heap.size)) true f.params.toList args.toList ds p:=qOz qSr hx hA hts hlt' (fun x hx'=>by simpa using hlt' x hx');refine ⟨ds,[],p++[],[],p,[],⟨p,[],hA,by rw [hv];exact rfl,rfl,hfz,hnd⟩,?_,by rw [hargs];exact hA',by rw [hv,hvars];exact rfl,Below.frame hx _,fun h=>by cases h⟩;rw [hr,hres];exact trodAll_cons_mk (shut_bool Tryz.underlying4 _) trodAll_mk0
def zKq:Obj->Obj
 | .cells _ t frozen=>.cells (Lib.firstTab.map fun z=>Value.int .u8 z).toArray t frozen
 | o=>o
def zGt:Obj->Obj
 | .cells _ t frozen=>.cells ((List.range 16).flatMap fun i=>[Value.int .u8 (Lib.accLo i:Int),Value.int .u8 (Lib.accHi i:Int)]).toArray t frozen
 | o=>o
theorem own:ownKnob Tryz.prog.godebug=none:=by kernel_rfl
end
section
theorem qGy (s:ByteArray) (pos:Nat) (h:pos<s.size):1<=(Utf8.decode s pos).2:=by
 by_cases ha:(s[pos]'h).toNat<128
 . rw [decode_ascii s pos h ha];exact Nat.le_refl _
 . exact (decode_high s pos h (by omega)).2
def qDi (s:ByteArray):Nat->Nat->List Int
 | 0,_=>[]
 | f+1,pos=>if pos<s.size then ((Utf8.decode s pos).1:Int) :: qDi s f (pos+(Utf8.decode s pos).2) else []
def qAo (s:ByteArray) (pos:Nat):List Int:=qDi s (s.size-pos) pos
theorem qMd (s:ByteArray):∀ (f g pos:Nat),s.size-pos<=f->s.size-pos<=g->qDi s f pos=qDi s g pos
 | 0,0,_,_,_=>rfl
 | 0,g+1,pos,h,_=>by simp only [qDi];rw [if_neg (by omega)]
 | f+1,0,pos,_,h=>by simp only [qDi];rw [if_neg (by omega)]
 | f+1,g+1,pos,hf,hg=>by
  simp only [qDi]
  by_cases h:pos<s.size
  . have hw:=qGy s pos h
    rw [if_pos h,if_pos h,qMd s f g _ (by omega) (by omega)]
  . rw [if_neg h,if_neg h]
theorem qDf (s:ByteArray) (pos:Nat) (h:pos<s.size):qAo s pos=((Utf8.decode s pos).1:Int) :: qAo s (pos+(Utf8.decode s pos).2):=by
 have hw:=qGy s pos h;obtain ⟨f,hf⟩:∃ f,s.size-pos=f+1:=⟨s.size-pos-1,by omega⟩;unfold qAo;rw [hf];simp only [qDi];rw [if_pos h,qMd s f (s.size-(pos+(Utf8.decode s pos).2)) _ (by omega) (Nat.le_refl _)]
theorem qEe (s:ByteArray) (pos:Nat) (h:¬ pos<s.size):qAo s pos=[]:=by
 unfold qAo;rw [Nat.sub_eq_zero_of_le (by omega)];rfl
def qJd (r:Int):List Int->Int->Int
 | [],_=>-1
 | x :: l,n=>if x=r then n else qJd r l (n+1)
end
section
open Go.RowKit
def zJh (s:ByteArray) (r:Int) (w:World) (n:Value) (wr:World):Prop :=
 ∃ pos k:Nat,k<=pos/\n = .int .i64 k/\wr=w.iter s pos/\qJd r (qAo s 0) 0=qJd r (qAo s pos) k
theorem qVy (s:ByteArray) (r:Int) (w:World) (hs:s.size<=9223372036854775807) :
 Calls Tryz.prog 204 #[.string s,.int .i32 r] w fun e w'=>e = .returned (.int .i64 (qJd r (qAo s 0) 0))/\Ext w w':=by
 go_enter Tryz.func204,Tryz.ntmps204;go_wp2
 go_loopw [5] (fun n wr=>zJh s r w n wr) (fun _ wr=>s.size-wr.iterPos w.heap.size)
 case atStart=>exact ⟨0,0,Nat.le_refl _,rfl,rfl,rfl⟩
 case round =>
  obtain ⟨pos,k,hk,rfl,rfl,hp⟩:=hrel;have HP:=gH hp;clear hp
  by_cases hlt:pos<s.size
  . have hn:=run_next_any (P:=Tryz.prog) w s pos
    have hstep:=gH (qDf s pos hlt);have hw:=qGy s pos hlt;go_wp2
    . go_ret
      (have he:((Utf8.decode s pos).1:Int)=r:=by simpa using ‹((((Utf8.decode s pos).1:Int)) == r)=true›);exact ⟨qAf (by rw [HP.out,hstep.out,qJd,if_pos he]),(Ext.refl w).iter s _⟩
    . have he:¬ ((Utf8.decode s pos).1:Int)=r:=by simpa using ‹((((Utf8.decode s pos).1:Int)) == r)=false›
      refine ⟨⟨pos+(Utf8.decode s pos).2,k+1,by omega,by go_num,rfl,?_⟩,by simp;omega⟩;rw [HP.out,hstep.out,qJd,if_neg he];rfl
  . have hn:=run_next_end (P:=Tryz.prog) w s pos
    have hend:=gH (qEe s pos hlt);go_wp2;go_ret;exact ⟨qAf (by rw [HP.out,hend.out];rfl),(Ext.refl w).iter s _⟩
def qMm:ByteArray:=⟨#[32,33,34,35,36,37,38,39,40,41,42,43,44,45,46,47,48,49,50,51,52,53,54,55,56,57,58,59,60,61,62,63,64,65,66,67,68,69,70,71,72,73,74,75,76,77,78,79,80,81,82,83,84,85,86,87,88,89,90,91,92,93,94,95,96,97,98,99,100,101,102,103,104,105,106,107,108,109,110,111,112,113,114,115,116,117,118,119,120,121,122,123,124,125,126,194,161,194,162,194,163,194,164,194,165,194,166,194,167,194,169,194,171,194,174,194,176,194,183,194,187,194,189,194,191,195,128,195,129,195,130,195,131,195,132,195,133,195,134,195,135,195,136,195,137,195,138,195,139,195,140,195,141,195,142,195,143,195,145,195,146,195,147,195,148,195,149,195,150,195,152,195,153,195,154,195,155,195,156,195,159,195,160,195,161,195,162,195,163,195,164,195,165,195,166,195,167,195,168,195,169,195,170,195,171,195,172,195,173,195,174,195,175,195,177,195,178,195,179,195,180,195,181,195,182,195,184,195,185,195,186,195,187,195,188,197,146,197,147,226,128,148,226,128,152,226,128,153,226,128,156,226,128,157,226,128,162,226,128,166,226,132,162,226,153,170]⟩
def idx (r:Int):Int:=if 32<=r/\r<=126 then r-32 else qJd r (qAo qMm 0) 0
theorem qUd (r:Int) (w:World):Calls Tryz.prog 135 #[.int .i32 r] w fun e w'=>e = .returned (.int .i64 (idx r))/\Ext w w':=by
 by_cases h1:32<=r
 . by_cases h2:r<=126
   . go_enter Tryz.func135,Tryz.ntmps135
     go_wp2_with fail;go_ret;exact ⟨qAf (by unfold idx;rw [if_pos ⟨h1,h2⟩]),Ext.refl _⟩
   . go_enter Tryz.func135,Tryz.ntmps135
     go_wp2_with fail;refine (qVy qMm r w (by decide)).mono ?_;rintro e w1 ⟨rfl,h1⟩;go_wp2_with fail;go_ret;exact ⟨qAf (by unfold idx;rw [if_neg (by omega)]),h1⟩
 . go_enter Tryz.func135,Tryz.ntmps135
   go_wp2_with fail;refine (qVy qMm r w (by decide)).mono ?_;rintro e w1 ⟨rfl,h1⟩;go_wp2_with fail;go_ret;exact ⟨qAf (by unfold idx;rw [if_neg (by omega)]),h1⟩
def vld (s:ByteArray):Bool:=Lib.validD s.data.toList && (qAo s 0).all fun r=>decide (0<=idx r)
theorem Ext.iterAt {w w1:World} (h:Ext w w1) {k:Nat} (hk:w.heap.size<=k) (s:ByteArray) (p:Nat):Ext w (w1.iterAt k s p):=Lib.below_iterAt h hk s p
theorem Ext.obj {w w1:World} {k:Nat} {o:Obj} (h:Ext w w1) (hk:w.heap[k]?=some o):w1.heap[k]?=some o :=
 (h.block k (Array.getElem?_eq_some_iff.1 hk).1).trans hk
theorem qHs (s:ByteArray) (w:World) (hE:Env w) (hs:s.size<=9223372036854775807) :
 Calls Tryz.prog 134 #[.string s] w fun e w'=>e = .returned (.bool (Lib.validD s.data.toList))/\Ext w w' :=
 Any.utf8_ValidString Tryz.laysValid s w hs hE.1
def zJl (s:ByteArray) (w:World) (g:Nat) (wr:World):Prop :=
 ∃ pos:Nat,wr.heap[g]?=some (.stringIter s pos)/\Ext w wr/\((qAo s 0).all fun r=>decide (0<=idx r))=((qAo s pos).all fun r=>decide (0<=idx r))
theorem qDj (s:ByteArray) (w:World) (hE:Env w) (hs:s.size<=9223372036854775807) :
 Calls Tryz.prog 49 #[.string s] w fun e w'=>e = .returned (.bool (vld s))/\Ext w w':=by
 cases hv:Lib.validD s.data.toList
 . have HV:=gH hv
   (have HF:Hid (vld s=false):=by unfold vld;rw [hv];rfl);go_enter Tryz.func49,Tryz.ntmps49;go_wp2_with fail;refine (qHs s w hE hs).mono ?_;rintro e w1 ⟨rfl,h1⟩;rw [HV.out];go_wp2_with fail;go_ret;exact ⟨by rw [HF.out];rfl,h1⟩
 . have HV:=gH hv
   (have HF:Hid (vld s=((qAo s 0).all fun r=>decide (0<=idx r))):=by unfold vld;rw [hv];rfl);clear hv;go_enter Tryz.func49,Tryz.ntmps49;go_wp2_with fail;refine (qHs s w hE hs).mono ?_;rintro e w1 ⟨rfl,h1⟩;rw [HV.out];go_wp2_with fail
   go_loopw [] (fun wr=>zJl s w w1.heap.size wr) (fun wr=>s.size-wr.iterPos w1.heap.size)
   case atStart=>exact ⟨0,w1.iter_heap s 0,h1.iter s 0,rfl⟩
   case round =>
    obtain ⟨pos,hk,hx,hp⟩:=hrel;have HP:=gH hp;have HK:=gH hk;clear hp
    by_cases hlt:pos<s.size
    . have hn:=fun ty=>Lib.run_next_any_at (P:=Tryz.prog) wr _ s pos ty hk hlt
      have hstep:=gH (qDf s pos hlt);have hw:=qGy s pos hlt;have hk2:=gH (Lib.iterAt_heap wr _ s pos (pos+(Utf8.decode s pos).2) hk);clear hk;go_wp2_with fail;refine (qUd _ _).mono ?_;rintro e w2 ⟨rfl,h2⟩;have hx2:Ext w w2:=(hx.iterAt h1.size s _).trans h2;have hk3:=gH (h2.obj hk2.out)
      by_cases hi:idx ((Utf8.decode s pos).1:Int)<0
      . go_wp2_with fail
        go_ret;exact ⟨by rw [HF.out,HP.out,hstep.out,List.all_cons,decide_eq_false (by omega)];rfl,hx2⟩
      . go_wp2_with fail
        refine ⟨⟨_,hk3.out,hx2,?_⟩,?_⟩
        . rw [HP.out,hstep.out,List.all_cons,decide_eq_true (by omega),Bool.true_and]
        . rw [iterPos_of hk3.out,iterPos_of HK.out];omega
    . have hn:=fun ty=>Lib.run_next_end_at (P:=Tryz.prog) wr _ s pos ty hk hlt
      have hend:=gH (qEe s pos hlt);clear hk;go_wp2_with fail;go_ret;exact ⟨by rw [HF.out,HP.out,hend.out];rfl,hx⟩
def clen (s:ByteArray):Int:=if vld s then (Lib.runeCount s:Int) else -1
theorem qRp (s:ByteArray) (w:World) (hs:s.size<9223372036854775807) :
 Calls Tryz.prog 202 #[.string s] w fun e w'=>e = .returned (.int .i64 (Lib.runeCount s))/\Ext w w' :=
 (Tryz.utf8_RuneCountInString s w hs).mono fun _ _ ⟨he,pos,hw⟩=>⟨he,by rw [hw];exact (Ext.refl w).iter s pos⟩
theorem qZg (s:ByteArray) (w:World) (hE:Env w) (hs:s.size<9223372036854775807) :
 Calls Tryz.prog 133 #[.string s] w fun e w'=>e = .returned (.int .i64 (clen s))/\Ext w w':=by
 cases hv:vld s
 . have HV:=gH hv
   clear hv;go_enter Tryz.func133,Tryz.ntmps133;go_wp2_with fail;refine (qDj s w hE (by omega)).mono ?_;rintro e w1 ⟨rfl,h1⟩;rw [HV.out];go_wp2_with fail;go_ret;exact ⟨qAf (by unfold clen;rw [HV.out];rfl),h1⟩
 . have HV:=gH hv
   clear hv;go_enter Tryz.func133,Tryz.ntmps133;go_wp2_with fail;refine (qDj s w hE (by omega)).mono ?_;rintro e w1 ⟨rfl,h1⟩;rw [HV.out];go_wp2_with fail;refine (qRp s w1 hs).mono ?_;rintro e w2 ⟨rfl,h2⟩;go_wp2_with fail;go_ret;exact ⟨qAf (by unfold clen;rw [HV.out];rfl),h1.trans h2⟩
theorem zGm:(Tryz.prog.info? 5).map (fun i=>(i.zero,i.size,i.bytes))=some (some (.int .u8 0),1,1):=by kernel_rfl
theorem qMh:(Tryz.prog.info? 178).map (·.size)=some 2:=by kernel_rfl
theorem qPi (b:Nat) (w:World) (h0:w.cell? ⟨b,0,none⟩=some (.pointer (some ⟨b,0,none⟩))) :
 Calls Tryz.prog 177 #[.pointer (some ⟨b,0,none⟩)] w fun e w'=>e = .returned (.tuple #[])/\w'=w:=by
 obtain ⟨j,hj,_⟩:=Option.map_eq_some_iff.1 qMh;go_enter Tryz.func177,Tryz.ntmps177;go_wp2;rw [Lib.run_neq_ptr_same w _ Tryz.underlying175 hj];go_wp2;go_end0;exact ⟨rfl,rfl⟩
theorem qNl (b:Nat) (w:World) (h0:w.cell? ⟨b,0,none⟩=some (.pointer none)) (hsh:w.shape? b=some (178,2)) (hfz:w.frozen? ⟨b,0,none⟩=false) :
 Calls Tryz.prog 177 #[.pointer (some ⟨b,0,none⟩)] w fun e w'=>e = .returned (.tuple #[])/\w'=w.setCell ⟨b,0,none⟩ (.pointer (some ⟨b,0,none⟩)):=by
 obtain ⟨j,hj,hjs⟩:=Option.map_eq_some_iff.1 qMh;go_enter Tryz.func177,Tryz.ntmps177;go_wp2;rw [Lib.run_to_unsafe w ⟨b,0,none⟩ Tryz.underlying175 Tryz.underlying327 hj (by rw [hjs];decide) hsh (Nat.zero_lt_succ 1)];simp only [Result.andThen];rw [Oper.upon_value];go_wp2;rw [run_callFunc_extern Tryz.func228 (by kernel_rfl) (by kernel_rfl) (by kernel_rfl) (e:=Extern.AbiNoEscape.same) (by kernel_rfl)];rw [Lib.run_noEscape];simp only [Result.andThen];rw [Oper.upon_value];go_wp2;rw [Lib.run_from_unsafe w ⟨b,0,none⟩ Tryz.underlying327 Tryz.underlying175 hj hsh (by kernel_rfl)];simp only [Result.andThen];rw [Oper.upon_value];go_wp2;go_end0;exact ⟨rfl,rfl⟩
theorem qSe (B b:Nat) (bs:List Value) (w:World) (h:Lib.IsBuilder 178 5 B b bs w) :
 Calls Tryz.prog 177 #[.pointer (some ⟨b,0,none⟩)] w fun e w'=>e = .returned (.tuple #[])/\(Lib.BuilderAt 178 5 B b (.pointer (some ⟨b,0,none⟩)) bs w'/\Below B w w'):=by
 rcases h with h | h
 . refine (qNl b w h.cell0 h.shape h.frozen0).mono ?_
   rintro e w' ⟨rfl,rfl⟩;exact ⟨rfl,h.used _,(Below.refl B w).setCell (p:=⟨b,0,none⟩) h.1 _⟩
 . refine (qPi b w h.cell0).mono ?_
   rintro e w' ⟨rfl,rfl⟩;exact ⟨rfl,h,Below.refl B _⟩
theorem qFk (B b:Nat) (bs:List Value) (s:ByteArray) (w:World) (h:Lib.IsBuilder 178 5 B b bs w) (hlen:bs.length+s.size<=140737488355328) (hBw:B<=w.heap.size) :
 Calls Tryz.prog 91 #[.pointer (some ⟨b,0,none⟩),.string s] w fun e w'=>e = .returned (.tuple #[.int .i64 s.size,.nilIface])/\(Lib.BuilderAt 178 5 B b (.pointer (some ⟨b,0,none⟩)) (bs++Lib.strCells s) w'/\Below B w w'):=by
 obtain ⟨i0,hi,hz0,hz1,hz2⟩:=info_parts zGm;go_enter Tryz.func91,Tryz.ntmps91;go_wp2_with fail;refine (qSe B b bs _ h).mono ?_;rintro e w1 ⟨rfl,h1,hb1⟩;obtain ⟨hB,v,hbk,hown,hne⟩:=h1;(have c0:w1.cell? ⟨b,0,none⟩=some (.pointer (some ⟨b,0,none⟩)):=by rw [Lib.cell_of_heap hbk];rfl);(have c1:w1.cell? ⟨b,1,none⟩=some v:=by rw [Lib.cell_of_heap hbk];rfl);go_wp2_with (at_builtin;refine Lib.wpList_append_own_string _ rfl _ _ 176 9 rfl B 5 i0 Tryz.underlying176 Tryz.underlying9 hi hz0 hz1 hz2 _ _ _ rfl hown s rfl ?c3 ?c4 ?c5 ?_)
 case c3=>unfold maxLen;omega
 case c4=>omega
 case c5=>have:=hb1.size;omega
 intro v' w2 hown' hgrow _;have hlt:b<w1.heap.size:=(Array.getElem?_eq_some_iff.1 hbk).1
 have hb2:w2.heap[b]?=some (.cells #[.pointer (some ⟨b,0,none⟩),v] 178 (0,0)):=by
  rw [hgrow.block b hlt (fun e=>hne e.symm)];exact hbk
 (have d0:w2.cell? ⟨b,0,none⟩=some (.pointer (some ⟨b,0,none⟩)):=by rw [Lib.cell_of_heap hb2];rfl);(have d1:w2.cell? ⟨b,1,none⟩=some v:=by rw [Lib.cell_of_heap hb2];rfl);have f1:w2.frozen? ⟨b,1,none⟩=false:=Lib.frozen_of_heap hb2 1
 obtain ⟨ao,n',cap,rfl⟩:∃ ao n' cap,v' = .slice ao n' cap:=by
  rcases hown'.2 with ⟨hv,_⟩ | ⟨g,cap,cur,hv,_⟩
  . exact ⟨_,_,_,hv⟩
  . exact ⟨_,_,_,hv⟩
 go_wp2;go_ret2;refine ⟨rfl,?_,?_⟩
 . exact Lib.BuilderAt.put (T:=178) (e:=5) hB hb2 (bs':=bs++Lib.strCells s) (by simpa [Lib.strCells_length] using hown') (by decide)
 . exact (hb1.grown hgrow (by have:=hb1.size;omega) (fun k hk=>(hown.lt k hk).1)).setCell (p:=⟨b,1,none⟩) hB _
def nbI (c:Int):Bool:=decide ((65<=c/\c<=90)\/(48<=c/\c<=57)\/c=95\/c=45)
def qCt (s:ByteArray):Bool:=decide (1<=s.size/\s.size<=16) && (s.data.toList.take 1).all (fun c=>decide (65<=(c.toNat:Int)/\(c.toNat:Int)<=90)) && s.data.toList.all (fun c=>nbI c.toNat)
theorem qKx (s:ByteArray) (k:Nat) (h:k<s.size):s.data.toList.take (k+1)=s.data.toList.take k++[s[k]]:=by
 rw [List.take_succ_eq_append_getElem (by simpa using h)];rfl
theorem qOh {s:ByteArray} (h:¬ (1<=s.size/\s.size<=16)):qCt s=false:=by unfold qCt;rw [decide_eq_false h];rfl
theorem qQo {s:ByteArray} (h:0<s.size) (hc:¬ ((65:Int)<=(s[0].toNat:Int)/\(s[0].toNat:Int)<=90)):qCt s=false:=by
 unfold qCt;have e:=qKx s 0 h;simp only [Nat.zero_add,List.take_zero,List.nil_append] at e;rw [e,List.all_cons,decide_eq_false hc];simp
theorem zKx {s:ByteArray} (k:Nat) (h:k<s.size) (hc:nbI (s[k].toNat:Int)=false):qCt s=false:=by
 unfold qCt
 have:(s.data.toList.all fun c=>nbI c.toNat)=false:=by
  rw [List.all_eq_false];exact ⟨s[k],by simp [ByteArray.getElem_eq_getElem_data],by rw [hc];simp⟩
 rw [this,Bool.and_false]
theorem zGy {s:ByteArray} (h:1<=s.size/\s.size<=16) (h0:0<s.size) (hc:(65:Int)<=(s[0].toNat:Int)/\(s[0].toNat:Int)<=90) (ha:(s.data.toList.take s.size).all (fun c=>nbI c.toNat)=true):qCt s=true:=by
 unfold qCt;have e:=qKx s 0 h0;simp only [Nat.zero_add,List.take_zero,List.nil_append] at e;rw [List.take_of_length_le (by simp)] at ha;rw [e,List.all_cons,decide_eq_true hc,decide_eq_true h,ha];rfl
def zNa (s:ByteArray) (i:Value):Prop:=∃ k:Nat,k<=s.size/\i = .int .i64 k/\(s.data.toList.take k).all (fun c=>nbI c.toNat)=true
theorem qDc (s:ByteArray) (w:World) (hs:s.size<=9223372036854775807) :
 Calls Tryz.prog 107 #[.string s] w fun e w'=>e = .returned (.bool (qCt s))/\w=w':=by
 by_cases h:1<=s.size
 . by_cases h':s.size<=16
   . have h1:(1:Int)<=(s.size:Int):=by omega
     (have h2:(s.size:Int)<=16:=by omega);(have h0:0<s.size:=by omega);have HS:=gH (And.intro h h')
     by_cases hc1:(65:Int)<=(s[0].toNat:Int)
     . by_cases hc2:(s[0].toNat:Int)<=90
       . go_enter Tryz.func107,Tryz.ntmps107
         go_wp2;go_loop [25] (fun i=>zNa s i) (fun i=>s.size-(intOf i).toNat)
         case atStart=>exact ⟨0,Nat.zero_le _,rfl,rfl⟩
         case round =>
          obtain ⟨k,hk,rfl,hall⟩:=hrel;have HA:=gH hall;clear hall
          by_cases hlt:k<s.size
          . by_cases hb:nbI (s[k].toNat:Int)=true
            . have HA':Hid ((s.data.toList.take (k+1)).all (fun c=>nbI c.toNat)=true):=by
               show (s.data.toList.take (k+1)).all (fun c=>nbI c.toNat)=true
               rw [qKx s k hlt,List.all_append,HA.out];simp [hb]
              have hb':((65:Int)<=(s[k].toNat:Int)/\(s[k].toNat:Int)<=90)\/((48:Int)<=(s[k].toNat:Int)/\(s[k].toNat:Int)<=57)\/(s[k].toNat:Int)=95\/(s[k].toNat:Int)=45:=of_decide_eq_true hb;clear hb;go_wp2
              all_goals first
               | exact ⟨⟨k+1,by omega,by go_num,HA'.out⟩,by simp [intOf];omega⟩
               | (exfalso;simp at *;omega)
            . have HB:=gH (zKx k hlt (by simpa using hb))
              (have hb':¬ (((65:Int)<=(s[k].toNat:Int)/\(s[k].toNat:Int)<=90)\/((48:Int)<=(s[k].toNat:Int)/\(s[k].toNat:Int)<=57)\/(s[k].toNat:Int)=95\/(s[k].toNat:Int)=45):=fun x=>hb (decide_eq_true x));clear hb;go_wp2
              all_goals first
               | (go_ret;exact ⟨by rw [HB.out];rfl,rfl⟩)
               | (exfalso;simp at *;omega)
          . have ek:k=s.size:=by omega
            subst ek;go_wp2;go_ret;exact ⟨by rw [zGy HS.out h0 ⟨hc1,hc2⟩ HA.out];rfl,rfl⟩
       . have HF:=gH (qQo h0 (by omega))
         go_enter Tryz.func107,Tryz.ntmps107;go_wp2;go_ret;exact ⟨by rw [HF.out];rfl,rfl⟩
     . have HF:=gH (qQo h0 (by omega))
       go_enter Tryz.func107,Tryz.ntmps107;go_wp2;go_ret;exact ⟨by rw [HF.out];rfl,rfl⟩
   . have HF:=gH (qOh (s:=s) (by omega))
     (have h1:(16:Int)<(s.size:Int):=by omega);go_enter Tryz.func107,Tryz.ntmps107;go_wp2;go_ret;exact ⟨by rw [HF.out];rfl,rfl⟩
 . have HF:=gH (qOh (s:=s) (by omega))
   (have h1:(s.size:Int)<1:=by omega);go_enter Tryz.func107,Tryz.ntmps107;go_wp2;go_ret;exact ⟨by rw [HF.out];rfl,rfl⟩
end
end Go.Proofs.YtneffpbodfjceaaGreatDoor