/- Contracts of the library at this program. No conditions. -/
import Derived.Shelf.SlicesE.DeleteFunc
import Derived.Shelf.SlicesE.Clone
import Derived.Ground.SlgfProg
import Derived.Ground.SlgnProg
import Derived.Test.YtgmjilingndloaaGreatDoorProg
namespace Go.Proofs
open Go.Shelf
def Tryz.lDF_ren:Go.Shelf.Ren:=⟨fun|10=>372|6=>245|n=>n,fun|22=>22|23=>3|25=>252|3=>3|4=>4|0=>0|n=>n,fun|n=>n⟩
theorem Tryz.lDF:Go.Proofs.SlLaysH.n10 Tryz.prog Tryz.lDF_ren:={
 mixed:=by kernel_rfl
 f6:=⟨Tryz.f245.name,by decide,Tryz.func245.trans (congrArg some (by kernel_rfl))⟩
 f10:=⟨Tryz.f372.name,by decide,Tryz.func372.trans (congrArg some (by kernel_rfl))⟩
 t0:=Tryz.underlying0
 a0:=Tryz.isAgg0
 z0:=Tryz.sizeOf0
 v0:=Tryz.zeroValue0
 t3:=Tryz.underlying3
 a3:=Tryz.isAgg3
 z3:=Tryz.sizeOf3
 v3:=Tryz.zeroValue3
 t4:=Tryz.underlying4
 a4:=Tryz.isAgg4
 z4:=Tryz.sizeOf4
 v4:=Tryz.zeroValue4
 t22:=Tryz.underlying22
 a22:=Tryz.isAgg22
 z22:=Tryz.sizeOf22
 v22:=Tryz.zeroValue22
 a23:=Tryz.isAgg3
 z23:=Tryz.sizeOf3
 t25:=Tryz.underlying252
 a25:=Tryz.isAgg252
 z25:=Tryz.sizeOf252
 v25:=Tryz.zeroValue252}
def Tryz.lCN_ren:Go.Shelf.Ren:=⟨fun|41=>296|n=>n,fun|22=>23|23=>54|4=>4|n=>n,fun|n=>n⟩
theorem Tryz.lCN:Go.Proofs.SlLaysE0.n41 Tryz.prog Tryz.lCN_ren:={
 mixed:=by kernel_rfl
 f41:=⟨Tryz.f296.name,by decide,Tryz.func296.trans (congrArg some (by kernel_rfl))⟩
 t4:=Tryz.underlying4
 a4:=Tryz.isAgg4
 z4:=Tryz.sizeOf4
 v4:=Tryz.zeroValue4
 t22:=Tryz.underlying23
 a22:=Tryz.isAgg23
 z22:=Tryz.sizeOf23
 v22:=Tryz.zeroValue23}
end Go.Proofs
