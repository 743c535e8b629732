/- Contracts of the library at this program. No conditions. -/
import Derived.Shelf.Strings.OnBuilder
import Derived.Shelf.Small.Bits
import Derived.Shelf.Small.Wraps
import Derived.Shelf.Strconv.Itoa3
import Derived.Shelf.Sort.Plain
import Derived.Shelf.Bits.Mul64
import Derived.Shelf.Strings.BuilderCap
import Derived.Shelf.Slices.Equal
import Derived.Shelf.Slices.Clone
import Derived.Shelf.Slices.SearchI
import Derived.Shelf.Slices.Cells
import Derived.Shelf.Slices.In.SortNone
import Derived.Shelf.SlicesE.Clone
import Derived.Test.YtgmjilingndloaaGreatDoorProg
namespace Go.Proofs.Tryz
open Go.Shelf Go.RowKit Go.Lib Go.Sort
theorem fq{α}{a:Option α}{b c:α}(h:a=some b)(k:b=c:=by kernel_rfl):a=some c:=k▸h
def lays169_ren:Ren:=⟨fun|169=>148|n=>n,fun|70=>226|72=>228|37=>173|127=>311|n=>n,id⟩
theorem lays169:Lays.n169 prog lays169_ren:=⟨by kernel_rfl,fq func148,underlying0,isAgg0,sizeOf0,zeroValue0,underlying3,isAgg3,sizeOf3,zeroValue3,underlying9,isAgg9,sizeOf9,zeroValue9,underlying173,isAgg173,sizeOf173,zeroValue173,underlying226,isAgg226,sizeOf226,zeroValue226,underlying228,isAgg228,sizeOf228,zeroValue228,underlying311,isAgg311,sizeOf311,zeroValue311⟩
theorem Builder_Extra_169:Builder.Extra prog lays169_ren:={
 sizeBuilder:=by kernel_rfl
 liesBuilder:=by kernel_rfl
 t5:=underlying5
 a5:=isAgg5
 z5:=sizeOf5
 v5:=zeroValue5
 infoByte:=by kernel_rfl
 cellsByte:=by kernel_rfl
 sizeByte:=by kernel_rfl
 neB5:=by decide}
theorem Builder_String_any(B b:Nat)(l:List UInt8)(w:World)(h:Lib.IsBuilder 228 5 B b (Lib.byteCells l) w)(hBw:B<=w.heap.size):
 Calls prog 148 #[.pointer (some ⟨b,0,none⟩)] w fun e w'=>e=.returned (.string ⟨l.toArray⟩)/\Below B w w':=Any.Builder_String_any lays169 Builder_Extra_169 B b l w h hBw
def lays156_ren:Ren:=⟨fun|156=>201|165=>248|166=>146|169=>148|240=>198|241=>282|276=>246|277=>327|n=>n,fun|31=>216|72=>228|76=>230|70=>226|37=>173|75=>108|127=>311|164=>201|80=>88|n=>n,id⟩
theorem lays156:Lays.n156 prog lays156_ren:=⟨by kernel_rfl,fq func201,fq func248,fq func146,fq func148,fq func198,fq func282,fq func246,fq func327,underlying0,isAgg0,sizeOf0,zeroValue0,underlying3,isAgg3,sizeOf3,zeroValue3,underlying4,isAgg4,sizeOf4,zeroValue4,underlying9,isAgg9,sizeOf9,zeroValue9,underlying20,isAgg20,sizeOf20,zeroValue20,underlying216,isAgg216,sizeOf216,zeroValue216,underlying173,isAgg173,sizeOf173,zeroValue173,underlying226,isAgg226,sizeOf226,zeroValue226,underlying228,isAgg228,sizeOf228,zeroValue228,underlying108,isAgg108,sizeOf108,zeroValue108,underlying230,isAgg230,sizeOf230,zeroValue230,underlying311,isAgg311,sizeOf311,zeroValue311,underlying201,isAgg201,sizeOf201,zeroValue201⟩
theorem Builder_Extra_156:Builder.Extra prog lays156_ren:={
 sizeBuilder:=by kernel_rfl
 liesBuilder:=by kernel_rfl
 t5:=underlying5
 a5:=isAgg5
 z5:=sizeOf5
 v5:=zeroValue5
 infoByte:=by kernel_rfl
 cellsByte:=by kernel_rfl
 sizeByte:=by kernel_rfl
 neB5:=by decide}
theorem strings_Join(bk o c:Nat)(xs:List ByteArray)(sep:ByteArray)(w:World)(hcells:∀(j:Nat) x,xs[j]?=some x->w.cell? ⟨bk,o+j,none⟩=some (.string x))(hbk:bk<w.heap.size)(hN:xs.length<=140737488355328)(hcap:xs.length<=c)(hlen:(Lib.join (xs.map (·.data.toList)) sep.data.toList).length<=140737488355328):
 Calls prog 201 #[.slice (some ⟨bk,o,none⟩) xs.length c,.string sep] w fun e w'=>e=.returned (.string ⟨(Lib.join (xs.map (·.data.toList)) sep.data.toList).toArray⟩)/\Below w.heap.size w w':=Any.strings_Join lays156 Builder_Extra_156 bk o c xs sep w hcells hbk hN hcap hlen
def lays122_ren:Ren:=⟨fun|122=>79|215=>160|n=>n,id,id⟩
theorem lays122:Lays.n122 prog lays122_ren:=⟨by kernel_rfl,fq func79,fq func160,underlying3,isAgg3,sizeOf3,zeroValue3,underlying4,isAgg4,sizeOf4,zeroValue4⟩
theorem cmp_Compare_int(x y:Int)(w:World):
 Calls prog 79 #[.int .i64 x,.int .i64 y] w fun e w'=>e=.returned (.int .i64 (Lib.compareInt x y))/\w'=w:=Any.cmp_Compare_int lays122 x y w
def lays171_ren:Ren:=⟨fun|171=>199|243=>247|246=>281|283=>323|284=>324|285=>325|286=>326|129=>349|317=>348|318=>350|319=>351|320=>352|337=>368|338=>369|n=>n,fun|171=>451|53=>59|37=>173|173=>453|212=>475|51=>131|213=>476|46=>331|232=>489|233=>407|n=>n,fun|17=>1|18=>3|19=>4|n=>n⟩
theorem lays171:Lays.n171 prog lays171_ren:=⟨by kernel_rfl,fq func349,fq func199,fq func247,fq func281,fq func323,fq func324,fq func325,fq func326,fq func348,fq func350,fq func351,fq func352,fq func368,fq func369,underlying0,isAgg0,sizeOf0,zeroValue0,underlying2,isAgg2,sizeOf2,zeroValue2,underlying3,isAgg3,sizeOf3,zeroValue3,underlying4,isAgg4,sizeOf4,zeroValue4,underlying5,isAgg5,sizeOf5,zeroValue5,underlying9,isAgg9,sizeOf9,zeroValue9,underlying20,isAgg20,sizeOf20,zeroValue20,underlying173,isAgg173,sizeOf173,zeroValue173,underlying331,isAgg331,sizeOf331,zeroValue331,underlying131,isAgg131,sizeOf131,zeroValue131,underlying59,isAgg59,sizeOf59,zeroValue59,underlying451,isAgg451,sizeOf451,zeroValue451,underlying453,isAgg453,sizeOf453,zeroValue453,underlying475,isAgg475,sizeOf475,zeroValue475,underlying476,isAgg476,sizeOf476,underlying489,isAgg489,sizeOf489,zeroValue489,underlying407,isAgg407,sizeOf407,zeroValue407,by kernel_rfl,by kernel_rfl,by kernel_rfl⟩
theorem strconv_Itoa_small(i:Nat)(hi:i<100)(w:World):
 Calls prog 199 #[.int .i64 i] w fun e w'=>e=.returned (.string ⟨(Lib.decDigits i).toArray⟩)/\w'=w:=Any.strconv_Itoa_small lays171 i hi w
def lays189_ren:Ren:=⟨fun|189=>370|125=>377|257=>376|128=>387|129=>349|294=>378|295=>379|296=>380|297=>381|298=>382|299=>383|216=>384|300=>385|301=>386|328=>388|329=>389|330=>390|331=>391|332=>392|215=>160|343=>393|n=>n,fun|28=>22|46=>331|51=>131|53=>59|183=>493|182=>492|131=>266|218=>498|222=>290|228=>503|229=>346|n=>n,id⟩
theorem lays189:Lays.n189 prog lays189_ren:=⟨by kernel_rfl,fq func377,fq func387,fq func349,fq func370,fq func160,fq func384,fq func376,fq func378,fq func379,fq func380,fq func381,fq func382,fq func383,fq func385,fq func386,fq func388,fq func389,fq func390,fq func391,fq func392,fq func393,underlying0,isAgg0,sizeOf0,zeroValue0,underlying3,isAgg3,sizeOf3,zeroValue3,underlying4,isAgg4,sizeOf4,zeroValue4,underlying5,isAgg5,sizeOf5,zeroValue5,underlying9,isAgg9,sizeOf9,zeroValue9,underlying22,isAgg22,sizeOf22,zeroValue22,underlying331,isAgg331,sizeOf331,zeroValue331,underlying131,isAgg131,sizeOf131,zeroValue131,underlying59,isAgg59,sizeOf59,zeroValue59,underlying266,isAgg266,sizeOf266,zeroValue266,underlying492,isAgg492,sizeOf492,zeroValue492,underlying493,isAgg493,sizeOf493,zeroValue493,underlying498,isAgg498,sizeOf498,zeroValue498,underlying290,isAgg290,sizeOf290,zeroValue290,underlying503,isAgg503,sizeOf503,zeroValue503,underlying346,isAgg346,sizeOf346,zeroValue346⟩
theorem slices_Sort_int(blk off cap:Nat)(zs:List Int)(w:World)(hH:Holds (Value.int .i64) w blk off zs.toArray)(hblk:blk<w.heap.size)(hsz:zs.length<4611686018427387904):
 Calls prog 370 #[.slice (some ⟨blk,off,none⟩) zs.length cap] w fun e w'=>
  e=.returned (.tuple #[])/\∃n os,w'=grow (putRow (Value.int .i64) (Sort.ahead w n) blk off (zs.mergeSort fun x y=>decide (x<=y)).toArray) os:=Any.slices_Sort_int lays189 blk off cap zs w hH hblk hsz
def lays212_ren:Ren:=⟨fun|212=>322|263=>346|264=>347|n=>n,fun|46=>331|51=>131|146=>471|53=>59|148=>473|n=>n,id⟩
theorem lays212:Lays.n212 prog lays212_ren:=⟨by kernel_rfl,fq func322,fq func346,fq func347,underlying331,isAgg331,sizeOf331,zeroValue331,underlying131,isAgg131,sizeOf131,zeroValue131,underlying59,isAgg59,sizeOf59,zeroValue59,underlying471,isAgg471,sizeOf471,zeroValue471,underlying473,isAgg473,sizeOf473,zeroValue473⟩
theorem bits_Mul(x y:Nat)(hx:x<18446744073709551616)(hy:y<18446744073709551616)(w:World):
 Calls prog 322 #[.int .u64 x,.int .u64 y] w fun e w'=>e=.returned (.tuple #[.int .u64 ((x*y/18446744073709551616:Nat):Int),.int .u64 ((x*y%18446744073709551616:Nat):Int)])/\w'=w:=Any.bits_Mul lays212 x y hx hy w
def laysNm215_ren:Ren:=⟨fun|15=>263|n=>n,id,id⟩
theorem laysNm215:Lays2.n15 prog laysNm215_ren:=⟨by kernel_rfl,fq func263,underlying3,isAgg3,sizeOf3,zeroValue3,underlying4,isAgg4,sizeOf4,zeroValue4,underlying22,isAgg22,sizeOf22,zeroValue22,by kernel_rfl⟩
theorem slices_Clone_int(b off n c:Nat)(zs:List Int)(w:World)(hz:n<=zs.length)(hbig:n*8<=140737488355328)(hc:∀j,j<zs.length->w.cell? ⟨b,off+j,none⟩=some (.int .i64 (zs.getD j 0))):
 Calls prog 263 #[.slice (some ⟨b,off,none⟩) n c] w fun e w'=>∃v',e=.returned v'/\w'.ownsRow w.heap.size 3 1 v' n ((zs.take n).map (Value.int .i64))/\v'≠.slice none 0 0/\Below w.heap.size w w':=Any.slices_Clone_int laysNm215 b off n c zs w hz hbig hc
theorem slices_Clone_int_nil(n c:Nat)(w:World):
 Calls prog 263 #[.slice none n c] w fun e w'=>e=.returned (.slice none 0 0)/\w'=w:=Any.slices_Clone_int_nil laysNm215 n c w
theorem slices_Clone_int_zero(a:Addr)(c:Nat)(w:World):
 Calls prog 263 #[.slice (some a) 0 c] w fun e w'=>∃v',e=.returned v'/\w'.ownsRow w.heap.size 3 1 v' 0 []/\v'≠.slice none 0 0/\Below w.heap.size w w':=Any.slices_Clone_int_zero laysNm215 a c w
def laysNm220_ren:Ren:=⟨fun|20=>371|n=>n,id,id⟩
theorem laysNm220:Lays2.n20 prog laysNm220_ren:=⟨by kernel_rfl,fq func371,underlying0,isAgg0,sizeOf0,zeroValue0,underlying3,isAgg3,sizeOf3,zeroValue3,underlying4,isAgg4,sizeOf4,zeroValue4,underlying22,isAgg22,sizeOf22,zeroValue22,by kernel_rfl⟩
theorem slices_Compact_int(blk off cap:Nat)(zs:List Int)(w:World)(hH:Holds (Value.int .i64) w blk off zs.toArray)(hsz:zs.length<=9223372036854775807)(hcap:zs.length<=cap):
 Calls prog 371 #[.slice (some ⟨blk,off,none⟩) zs.length cap] w fun e w'=>e=.returned (.slice (some ⟨blk,off,none⟩) (Lib.compact zs).length cap)/\∃q,w'=putRow (Value.int .i64) (Sort.ahead w q) blk off (Lib.compact zs++List.replicate (zs.length-(Lib.compact zs).length) 0).toArray:=Any.slices_Compact_int laysNm220 blk off cap zs w hH hsz hcap
end Go.Proofs.Tryz
