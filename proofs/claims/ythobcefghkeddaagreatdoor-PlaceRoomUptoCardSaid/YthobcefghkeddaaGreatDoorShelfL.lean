import Derived.Test.YthobcefghkeddaaGreatDoorW
import Derived.Shelf.Utf8.RuneCount
import Derived.Shelf.Strconv.Itoa3
import Derived.Shelf.Strconv.ParseUint10At
import Derived.Shelf.Pu.ParseUintPublic10
import Derived.Shelf.Strings.Shaped
import Derived.Shelf.GgClosure.StringsRunes
import Derived.Shelf.Strings.SplitShaped
import Derived.Shelf.Strings.Explode
import Derived.Shelf.Strings.FieldsAny
import Derived.Shelf.Unicode.ExclAny
import Derived.Shelf.Strings.FuncGrows
import Derived.Shelf.Slices.Turned
import Derived.Shelf.Slices.SearchI
import Derived.Test.YthobcefghkeddaaGreatDoorProg
set_option maxRecDepth 100000
set_option linter.all false
set_option maxHeartbeats 4000000
namespace Go.Proofs
open Go.Shelf
def Tryz.lays283_ren:Go.Shelf.Ren:=⟨fun|283=>192|n=>n,fun|3=>3|9=>9|4=>4|n=>n,fun|n=>n⟩
theorem Tryz.lays283:Go.Proofs.Lays.n283 Tryz.prog Tryz.lays283_ren:=by constructor<;>first|kernel_rfl|(intro;kernel_rfl)|(constructor<;>first|kernel_rfl|(intro;kernel_rfl))
open Go.Lib in
theorem Tryz.internal_strconv_small(i:Nat)(h:i<100)(w:World):
 Calls Tryz.prog 192 #[.int .i64 i] w fun e w'=>e=.returned (.string ⟨(Lib.decDigits i).toArray⟩)∧w'=w:=Any.internal_strconv_small Tryz.lays283 i h w
def Tryz.laysM284_ren:Go.Shelf.Ren:=⟨fun|284=>193|129=>177|317=>211|318=>212|n=>n,fun|53=>41|3=>3|212=>341|0=>0|4=>4|46=>213|5=>5|9=>9|n=>n,fun|17=>5|n=>n⟩
theorem Tryz.laysM284:Go.Proofs.LaysM.n284 Tryz.prog Tryz.laysM284_ren:=by constructor<;>first|kernel_rfl|(intro;kernel_rfl)|(constructor<;>first|kernel_rfl|(intro;kernel_rfl))
open Go.Lib in
theorem Tryz.internal_strconv_numDigits(u:Nat)(g:1≤u)(h:u<18446744073709551616)(w:World)(d:Lib.TabIs Tryz.prog w "internal/strconv.uint64pow10" .u64 Lib.pow10Tab):
 Calls Tryz.prog 193 #[.int .u64 u] w fun e w'=>e=.returned (.int .i64 (Lib.nDigits u))∧w'=w:=Any.internal_strconv_numDigits Tryz.laysM284 u g h w d
def Tryz.lays285_ren:Go.Shelf.Ren:=⟨fun|285=>194|n=>n,fun|37=>313|53=>41|3=>3|4=>4|51=>299|9=>9|5=>5|0=>0|n=>n,fun|n=>n⟩
theorem Tryz.lays285:Go.Proofs.Lays.n285 Tryz.prog Tryz.lays285_ren:=by constructor<;>first|kernel_rfl|(intro;kernel_rfl)|(constructor<;>first|kernel_rfl|(intro;kernel_rfl))
open Go.RowKit Go.Sort Go.Lib in
theorem Tryz.internal_strconv_formatBase10(blk off g:Nat)(u:Nat)(d:Array UInt8)(w:World)(q:Holds (fun(b:UInt8)=>Value.int .u8 (b.toNat:Int)) w blk off d)(v:u<10 ^ d.size)(h:u<18446744073709551616)(j:d.size<4611686018427387904):
 Calls Tryz.prog 194 #[.slice (some ⟨blk,off,none⟩) d.size g,.int .u64 u] w fun e w' =>
  e=.returned (.tuple #[])∧∃(n x:Nat) (l:Array UInt8),w'=(putRow (fun(b:UInt8)=>Value.int .u8 (b.toNat:Int)) w blk off l).drewN n∧FmtInv d.size u 0 x l:=Any.internal_strconv_formatBase10 Tryz.lays285 blk off g u d w q v h j
def Tryz.laysPu14_ren:Go.Shelf.Ren:=⟨fun|14=>147|16=>165|17=>166|19=>186|20=>187|21=>188|22=>189|23=>190|24=>191|25=>208|27=>210|26=>209|28=>222|29=>229|30=>192|31=>193|32=>194|33=>195|35=>177|34=>211|36=>212|37=>213|38=>214|39=>223|40=>224|n=>n,fun|9=>9|3=>3|22=>41|24=>75|25=>256|4=>4|34=>312|5=>5|36=>213|37=>313|0=>0|39=>314|21=>21|44=>337|47=>351|50=>354|48=>352|2=>2|52=>318|55=>320|59=>341|60=>299|20=>20|61=>342|65=>372|66=>373|67=>376|n=>n,fun|0=>3|1=>4|2=>5|3=>10|4=>11|n=>n⟩
theorem Tryz.laysPu14:Go.Proofs.LaysPu.n14 Tryz.prog Tryz.laysPu14_ren:=by constructor<;>first|kernel_rfl|(intro;kernel_rfl)|(constructor<;>first|kernel_rfl|(intro;kernel_rfl))
open Go.RowKit in
theorem Tryz.strconv_ParseUint_10_at64_ok(s:ByteArray)(d:s.size≤9223372036854775806)(u:Nat)(h:Lib.parseUintB 64 s.data.toList=.ok u)(w:World):
 Calls Tryz.prog 147 #[.string s,.int .i64 10,.int .i64 64] w fun e w'=>e=.returned (.tuple #[.int .u64 u,.nilIface])∧(w'=w∨w'=Lib.bytesWorld w 5 s):=Any.strconv_ParseUint_10_at64_ok Tryz.laysPu14 s d u h w
open Go.RowKit in
theorem Tryz.strconv_ParseUint_10_at64_range(s:ByteArray)(d:s.size≤281474976710656)(h:Lib.parseUintB 64 s.data.toList=.range)(ev:Value)(w:World)(j:w.cell? ⟨4,0,none⟩=some ev)(g:ev=.nilIface∨∃te l,ev=.iface te l):
 Calls Tryz.prog 147 #[.string s,.int .i64 10,.int .i64 64] w fun e w'=>∃N,e=.returned (.tuple #[.int .u64 18446744073709551615,.iface 314 (.pointer (some ⟨N,0,none⟩))])∧w.heap.size≤N∧w'.heap[N]?=some (.cells #[.string ⟨#[80,97,114,115,101,85,105,110,116]⟩,.string s,ev] 337 (0,0))∧Below w.heap.size w w':=Any.strconv_ParseUint_10_at64_range Tryz.laysPu14 s d h ev w j g
def Tryz.laysGw17_ren:Go.Shelf.Ren:=⟨fun|17=>162|15=>185|20=>207|n=>n,fun|9=>9|23=>284|4=>4|3=>3|0=>0|21=>21|n=>n,fun|n=>n⟩
theorem Tryz.laysGw17:Go.Proofs.LaysGw.n17 Tryz.prog Tryz.laysGw17_ren:=by constructor<;>first|kernel_rfl|(intro;kernel_rfl)|(constructor<;>first|kernel_rfl|(intro;kernel_rfl))
open Go.RowKit Go.Lib in
theorem Tryz.strings_ContainsFunc_runes(g:Nat)(lb:Array Value)(d:∀args w,(callFunc g args).run Tryz.prog w=.ok (.enter g args) w)(p:Nat→Bool)(s:ByteArray)(w:World)(h:PredAtRunes Tryz.prog g lb p w):
 Calls Tryz.prog 162 #[.string s,.func (.func g) #[] lb] w fun e w'=>e=.returned (.bool (decide (0≤Lib.idxFunc p true s)))∧Below w.heap.size w w':=Any.strings_ContainsFunc_runes Tryz.laysGw17 g lb d p s w h
def Tryz.lays146_ren:Go.Shelf.Ren:=⟨fun|146=>145|221=>159|268=>180|138=>181|143=>182|195=>201|197=>202|218=>203|219=>204|260=>216|217=>217|225=>218|224=>219|267=>220|266=>225|314=>226|n=>n,fun|9=>9|31=>85|3=>3|4=>4|0=>0|105=>329|21=>21|5=>5|46=>213|119=>332|139=>357|138=>356|146=>358|51=>299|n=>n,fun|1=>6|3=>8|4=>9|n=>n⟩
theorem Tryz.lays146:Go.Proofs.Lays.n146 Tryz.prog Tryz.lays146_ren:=by constructor<;>first|kernel_rfl|(intro;kernel_rfl)|(constructor<;>first|kernel_rfl|(intro;kernel_rfl))
open Go.RowKit Go.Lib in
theorem Tryz.strings_Split(s d:ByteArray)(m:Int)(w:World)(j:s.size<4294967281)(h:w.cell? ⟨6,0,none⟩=some (.int .i64 m))(g:1≤d.size):
 Calls Tryz.prog 145 #[.string s,.string d] w fun e w' =>
  e=.returned (.slice (some ⟨w.heap.size,0,none⟩) (Lib.countB s d+1) (Lib.countB s d+1))∧w'=w.alloc (.cells ((Lib.splitB d 0 (Lib.countB s d) s).map Value.string).toArray 9):=Any.strings_Split Tryz.lays146 δ s d m w j h g
def Tryz.lays157_ren:Go.Shelf.Ren:=⟨fun|157=>184|229=>205|199=>206|261=>221|311=>227|312=>228|n=>n,fun|9=>9|31=>85|3=>3|5=>5|4=>4|119=>332|0=>0|40=>284|152=>346|21=>21|154=>348|51=>299|141=>350|196=>363|193=>360|198=>366|49=>364|194=>361|201=>369|226=>374|46=>213|227=>375|n=>n,fun|0=>2|6=>7|n=>n⟩
theorem Tryz.lays157:Go.Proofs.Lays.n157 Tryz.prog Tryz.lays157_ren:=by constructor<;>first|kernel_rfl|(intro;kernel_rfl)|(constructor<;>first|kernel_rfl|(intro;kernel_rfl))
def Tryz.lays199_ren:Go.Shelf.Ren:=⟨fun|199=>206|261=>221|311=>227|312=>228|n=>n,fun|21=>21|4=>4|51=>299|141=>350|0=>0|196=>363|193=>360|3=>3|198=>366|49=>364|194=>361|201=>369|226=>374|46=>213|227=>375|n=>n,fun|6=>7|n=>n⟩
theorem Tryz.lays199:Go.Proofs.Lays.n199 Tryz.prog Tryz.lays199_ren:=by constructor<;>first|kernel_rfl|(intro;kernel_rfl)|(constructor<;>first|kernel_rfl|(intro;kernel_rfl))
open Go.RowKit Go.Lib in
theorem Tryz.strings_Fields_any(s:ByteArray)(w:World)(h:s.size<4294967281)(d:Lib.TabIs Tryz.prog w "strings.asciiSpace" .u8 Lib.asciiSpaceTab)(g:Lib.WhiteTab 7 w):
 Calls Tryz.prog 184 #[.string s] w fun e w'=>∃A,e=.returned (.slice (some ⟨A,0,none⟩) (Lib.fieldsD s.data.toList).length (Lib.fieldsD s.data.toList).length)∧w.heap.size≤A ∧
  w'.ownsRow w.heap.size 9 1 (.slice (some ⟨A,0,none⟩) (Lib.fieldsD s.data.toList).length (Lib.fieldsD s.data.toList).length) (Lib.fieldsD s.data.toList).length ((Lib.fieldsD s.data.toList).map fun x=>Value.string ⟨x.toArray⟩)∧Below w.heap.size w w':=Any.strings_Fields_any Tryz.lays157 δ δ δ s w h d g
def Tryz.lays109_ren:Go.Shelf.Ren:=⟨fun|109=>183|n=>n,fun|31=>85|9=>9|3=>3|0=>0|4=>4|n=>n,fun|n=>n⟩
theorem Tryz.lays109:Go.Proofs.Lays.n109 Tryz.prog Tryz.lays109_ren:=by constructor<;>first|kernel_rfl|(intro;kernel_rfl)|(constructor<;>first|kernel_rfl|(intro;kernel_rfl))
open Go.Lib in
theorem Tryz.slices_Index_string(b off n c:Nat)(g:List ByteArray)(x:ByteArray)(w:World)(l:n≤g.length)(d:n≤9223372036854775807)(h:∀j,j<g.length→w.cell? ⟨b,off+j,none⟩=some (.string (g.getD j ByteArray.empty))):
 Calls Tryz.prog 183 #[.slice (some ⟨b,off,none⟩) n c,.string x] w fun e w'=>e=.returned (.int .i64 (Lib.idxOfS (g.take n) x))∧w'=w:=Any.slices_Index_string Tryz.lays109 b off n c g x w l d h
