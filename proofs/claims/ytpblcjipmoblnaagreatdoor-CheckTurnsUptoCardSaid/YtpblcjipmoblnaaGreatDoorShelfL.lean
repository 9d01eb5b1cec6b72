import Derived.Shelf.Small.Bits
import Derived.Shelf.Utf8.RuneCount
import Derived.Shelf.Strconv.Itoa0
import Derived.Shelf.Strconv.Itoa1
import Derived.Shelf.LaysM
import Derived.Shelf.Strconv.Itoa2
import Derived.Shelf.Strconv.Itoa3
import Derived.Shelf.Strconv.Lower
import Derived.Shelf.Strconv.ParseUint10
import Derived.Shelf.Strconv.ParseUintEmpty
import Derived.Shelf.Strconv.ParseUint10b64
import Derived.Shelf.Strconv.ParseUint10b32
import Derived.Shelf.Strconv.ParseUint10b16
import Derived.Shelf.Strconv.ParseUint10b8
import Derived.Shelf.Strconv.ParseUint10At
import Derived.Ground.MpProg
import Derived.Shelf.Pu.ParseUintPublic10
import Derived.Shelf.Strings.Search1
import Derived.Shelf.Strings.Search2
import Derived.Shelf.Strings.Search3
import Derived.Shelf.Strings.Count
import Derived.Shelf.Strings.Shaped
import Derived.Shelf.GgClosure.StringsIndexFunc
import Derived.Ground.GgwProg
import Derived.Shelf.GgClosure.StringsIndexFuncTop
import Derived.Shelf.GgClosure.StringsRunes
import Derived.Shelf.Strings.Split
import Derived.Shelf.Strings.Fields
import Derived.Shelf.Strings.SplitShaped
import Derived.Shelf.Unicode.Latin
import Derived.Shelf.Unicode.Decode
import Derived.Shelf.Strings.RuneCount
import Derived.Shelf.Strings.Explode
import Derived.Shelf.Unicode.DecodeSlow
import Derived.Shelf.Unicode.DecodeAny
import Derived.Shelf.Unicode.Is16White
import Derived.Shelf.Unicode.IsSpaceAny
import Derived.Shelf.Unicode.Is16WhiteD
import Derived.Shelf.Unicode.IsSpaceAnyD
import Derived.Shelf.Strings.FieldsAny
import Derived.Shelf.Strings.FieldsFuncAny
import Derived.Shelf.Unicode.Is16Any
import Derived.Shelf.Unicode.Is32Any
import Derived.Shelf.Unicode.ExclAny
import Derived.Shelf.Strings.FuncGrows
import Derived.Shelf.Slices.Turned
import Derived.Ground.Names2Prog
import Derived.Shelf.Slices.SearchI
import Derived.Test.YtpblcjipmoblnaaGreatDoorProg
set_option maxRecDepth 100000
set_option maxHeartbeats 4000000
set_option linter.unusedVariables false
set_option linter.unusedSimpArgs false
set_option linter.unnecessarySimpa false
namespace Go.Proofs
open Go.Shelf
def Tryz.lays283_ren:Go.Shelf.Ren:=⟨fun|283=>174|n=>n,fun|3=>3|9=>9|4=>4|n=>n,fun|n=>n⟩
theorem Tryz.lays283:Go.Proofs.Lays.n283 Tryz.prog Tryz.lays283_ren:=by constructor<;>first|kernel_rfl|(intro;kernel_rfl)|(constructor<;>first|kernel_rfl|(intro;kernel_rfl))
open Go.Lib in
theorem Tryz.internal_strconv_small(i:Nat)(h:i<100)(w:World):
 Calls Tryz.prog 174 #[.int .i64 i] w fun e w'=>e=.returned (.string ⟨(Lib.decDigits i).toArray⟩)∧w'=w:=Any.internal_strconv_small Tryz.lays283 i h w
def Tryz.laysM284_ren:Go.Shelf.Ren:=⟨fun|284=>175|129=>187|317=>198|318=>199|n=>n,fun|53=>39|3=>3|212=>323|0=>0|4=>4|46=>209|5=>5|9=>9|n=>n,fun|17=>5|n=>n⟩
theorem Tryz.laysM284:Go.Proofs.LaysM.n284 Tryz.prog Tryz.laysM284_ren:=by constructor<;>first|kernel_rfl|(intro;kernel_rfl)|(constructor<;>first|kernel_rfl|(intro;kernel_rfl))
open Go.Lib in
theorem Tryz.internal_strconv_numDigits(u:Nat)(b:1≤u)(d:u<18446744073709551616)(w:World)(a:Lib.TabIs Tryz.prog w "internal/strconv.uint64pow10" .u64 Lib.pow10Tab):
 Calls Tryz.prog 175 #[.int .u64 u] w fun e w'=>e=.returned (.int .i64 (Lib.nDigits u))∧w'=w:=Any.internal_strconv_numDigits Tryz.laysM284 u b d w a
def Tryz.lays285_ren:Go.Shelf.Ren:=⟨fun|285=>176|n=>n,fun|37=>292|53=>39|3=>3|4=>4|51=>310|9=>9|5=>5|0=>0|n=>n,fun|n=>n⟩
theorem Tryz.lays285:Go.Proofs.Lays.n285 Tryz.prog Tryz.lays285_ren:=by constructor<;>first|kernel_rfl|(intro;kernel_rfl)|(constructor<;>first|kernel_rfl|(intro;kernel_rfl))
open Go.RowKit Go.Sort Go.Lib in
theorem Tryz.internal_strconv_formatBase10(a off cap:Nat)(u:Nat)(d:Array UInt8)(w:World)(j:Holds (fun(b:UInt8)=>Value.int .u8 (b.toNat:Int)) w a off d)(l:u<10 ^ d.size)(g:u<18446744073709551616)(h:d.size<4611686018427387904):
 Calls Tryz.prog 176 #[.slice (some ⟨a,off,none⟩) d.size cap,.int .u64 u] w fun e w' =>
  e=.returned (.tuple #[])∧∃(n p:Nat) (i:Array UInt8),w'=(putRow (fun(b:UInt8)=>Value.int .u8 (b.toNat:Int)) w a off i).drewN n∧FmtInv d.size u 0 p i:=Any.internal_strconv_formatBase10 Tryz.lays285 a off cap u d w j l g h
def Tryz.laysPu14_ren:Go.Shelf.Ren:=⟨fun|14=>142|16=>157|17=>158|19=>168|20=>169|21=>170|22=>171|23=>172|24=>173|25=>195|27=>197|26=>196|28=>213|29=>221|30=>174|31=>175|32=>176|33=>177|35=>187|34=>198|36=>199|37=>200|38=>201|39=>214|40=>215|n=>n,fun|9=>9|3=>3|22=>39|24=>111|25=>258|4=>4|34=>291|5=>5|36=>209|37=>292|0=>0|39=>293|21=>21|44=>319|47=>336|50=>339|48=>337|2=>2|52=>297|55=>299|59=>323|60=>310|20=>20|61=>324|65=>360|66=>361|67=>364|n=>n,fun|0=>3|1=>4|2=>5|3=>10|4=>11|n=>n⟩
theorem Tryz.laysPu14:Go.Proofs.LaysPu.n14 Tryz.prog Tryz.laysPu14_ren:=by constructor<;>first|kernel_rfl|(intro;kernel_rfl)|(constructor<;>first|kernel_rfl|(intro;kernel_rfl))
open Go.RowKit in
theorem Tryz.strconv_ParseUint_10_at64_ok(s:ByteArray)(a:s.size≤9223372036854775806)(u:Nat)(h:Lib.parseUintB 64 s.data.toList=.ok u)(w:World):
 Calls Tryz.prog 142 #[.string s,.int .i64 10,.int .i64 64] w fun e w'=>e=.returned (.tuple #[.int .u64 u,.nilIface])∧(w'=w∨w'=Lib.bytesWorld w 5 s):=Any.strconv_ParseUint_10_at64_ok Tryz.laysPu14 s a u h w
open Go.RowKit in
theorem Tryz.strconv_ParseUint_10_at64_range(s:ByteArray)(b:s.size≤281474976710656)(h:Lib.parseUintB 64 s.data.toList=.range)(a:Value)(w:World)(hv:w.cell? ⟨4,0,none⟩=some a)(d:a=.nilIface∨∃i g,a=.iface i g):
 Calls Tryz.prog 142 #[.string s,.int .i64 10,.int .i64 64] w fun e w'=>∃N,e=.returned (.tuple #[.int .u64 18446744073709551615,.iface 293 (.pointer (some ⟨N,0,none⟩))])∧w.heap.size≤N∧w'.heap[N]?=some (.cells #[.string ⟨#[80,97,114,115,101,85,105,110,116]⟩,.string s,a] 319 (0,0))∧Below w.heap.size w w':=Any.strconv_ParseUint_10_at64_range Tryz.laysPu14 s b h a w hv d
def Tryz.laysGw17_ren:Go.Shelf.Ren:=⟨fun|17=>154|15=>167|20=>194|n=>n,fun|9=>9|23=>277|4=>4|3=>3|0=>0|21=>21|n=>n,fun|n=>n⟩
theorem Tryz.laysGw17:Go.Proofs.LaysGw.n17 Tryz.prog Tryz.laysGw17_ren:=by constructor<;>first|kernel_rfl|(intro;kernel_rfl)|(constructor<;>first|kernel_rfl|(intro;kernel_rfl))
open Go.RowKit Go.Lib in
theorem Tryz.strings_ContainsFunc_runes(g:Nat)(lb:Array Value)(a:∀args w,(callFunc g args).run Tryz.prog w=.ok (.enter g args) w)(p:Nat→Bool)(s:ByteArray)(w:World)(b:PredAtRunes Tryz.prog g lb p w):
 Calls Tryz.prog 154 #[.string s,.func (.func g) #[] lb] w fun e w'=>e=.returned (.bool (decide (0≤Lib.idxFunc p true s)))∧Below w.heap.size w w':=Any.strings_ContainsFunc_runes Tryz.laysGw17 g lb a p s w b
def Tryz.lays146_ren:Go.Shelf.Ren:=⟨fun|146=>140|221=>151|268=>162|138=>163|143=>164|195=>188|197=>189|218=>190|219=>191|260=>207|217=>208|225=>209|224=>210|267=>211|266=>217|314=>218|n=>n,fun|9=>9|31=>124|3=>3|4=>4|0=>0|105=>311|21=>21|5=>5|46=>209|119=>314|139=>345|138=>344|146=>346|51=>310|n=>n,fun|1=>6|3=>8|4=>9|n=>n⟩
theorem Tryz.lays146:Go.Proofs.Lays.n146 Tryz.prog Tryz.lays146_ren:=by constructor<;>first|kernel_rfl|(intro;kernel_rfl)|(constructor<;>first|kernel_rfl|(intro;kernel_rfl))
open Go.RowKit Go.Lib in
theorem Tryz.strings_Split(s a:ByteArray)(m:Int)(w:World)(g:s.size<4294967281)(d:w.cell? ⟨6,0,none⟩=some (.int .i64 m))(b:1≤a.size):
 Calls Tryz.prog 140 #[.string s,.string a] w fun e w' =>
  e=.returned (.slice (some ⟨w.heap.size,0,none⟩) (Lib.countB s a+1) (Lib.countB s a+1))∧w'=w.alloc (.cells ((Lib.splitB a 0 (Lib.countB s a) s).map Value.string).toArray 9):=Any.strings_Split Tryz.lays146 (by kernel_rfl) s a m w g d b
def Tryz.lays157_ren:Go.Shelf.Ren:=⟨fun|157=>166|229=>192|199=>193|261=>212|311=>219|312=>220|n=>n,fun|9=>9|31=>124|3=>3|5=>5|4=>4|119=>314|0=>0|40=>277|152=>331|21=>21|154=>333|51=>310|141=>335|196=>351|193=>348|198=>354|49=>352|194=>349|201=>357|226=>362|46=>209|227=>363|n=>n,fun|0=>2|6=>7|n=>n⟩
theorem Tryz.lays157:Go.Proofs.Lays.n157 Tryz.prog Tryz.lays157_ren:=by constructor<;>first|kernel_rfl|(intro;kernel_rfl)|(constructor<;>first|kernel_rfl|(intro;kernel_rfl))
def Tryz.lays199_ren:Go.Shelf.Ren:=⟨fun|199=>193|261=>212|311=>219|312=>220|n=>n,fun|21=>21|4=>4|51=>310|141=>335|0=>0|196=>351|193=>348|3=>3|198=>354|49=>352|194=>349|201=>357|226=>362|46=>209|227=>363|n=>n,fun|6=>7|n=>n⟩
theorem Tryz.lays199:Go.Proofs.Lays.n199 Tryz.prog Tryz.lays199_ren:=by constructor<;>first|kernel_rfl|(intro;kernel_rfl)|(constructor<;>first|kernel_rfl|(intro;kernel_rfl))
open Go.RowKit Go.Lib in
theorem Tryz.strings_Fields_any(s:ByteArray)(w:World)(d:s.size<4294967281)(a:Lib.TabIs Tryz.prog w "strings.asciiSpace" .u8 Lib.asciiSpaceTab)(b:Lib.WhiteTab 7 w):
 Calls Tryz.prog 166 #[.string s] w fun e w'=>∃A,e=.returned (.slice (some ⟨A,0,none⟩) (Lib.fieldsD s.data.toList).length (Lib.fieldsD s.data.toList).length)∧w.heap.size≤A ∧
  w'.ownsRow w.heap.size 9 1 (.slice (some ⟨A,0,none⟩) (Lib.fieldsD s.data.toList).length (Lib.fieldsD s.data.toList).length) (Lib.fieldsD s.data.toList).length ((Lib.fieldsD s.data.toList).map fun x=>Value.string ⟨x.toArray⟩)∧Below w.heap.size w w':=Any.strings_Fields_any Tryz.lays157 (by kernel_rfl) (by kernel_rfl) (by kernel_rfl) s w d a b
def Tryz.lays109_ren:Go.Shelf.Ren:=⟨fun|109=>165|n=>n,fun|31=>124|9=>9|3=>3|0=>0|4=>4|n=>n,fun|n=>n⟩
theorem Tryz.lays109:Go.Proofs.Lays.n109 Tryz.prog Tryz.lays109_ren:=by constructor<;>first|kernel_rfl|(intro;kernel_rfl)|(constructor<;>first|kernel_rfl|(intro;kernel_rfl))
open Go.Lib in
theorem Tryz.slices_Index_string(b off n c:Nat)(d:List ByteArray)(x:ByteArray)(w:World)(h:n≤d.length)(a:n≤9223372036854775807)(g:∀j,j<d.length→w.cell? ⟨b,off+j,none⟩=some (.string (d.getD j ByteArray.empty))):
 Calls Tryz.prog 165 #[.slice (some ⟨b,off,none⟩) n c,.string x] w fun e w'=>e=.returned (.int .i64 (Lib.idxOfS (d.take n) x))∧w'=w:=Any.slices_Index_string Tryz.lays109 b off n c d x w h a g
end Go.Proofs
