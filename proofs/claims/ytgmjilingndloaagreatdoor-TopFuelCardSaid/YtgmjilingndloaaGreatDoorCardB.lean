/- TopFuel: what the card's own cells say of the program. No conditions. -/
import Derived.Test.YtgmjilingndloaaGreatDoorRows
import Derived.SevenTiedAt
import Derived.KernelRfl
namespace Go.Proofs.YtgmjilingndloaaGreatDoor.cardFuel
open Go
set_option maxRecDepth 100000
theorem named:Tryz.prog.funcNamed "offshoot/offshoottop.TopFuel" =some 3:=by kernel_rfl
theorem noGo:Tryz.prog.funcs.any Func.goes=false:=by kernel_rfl
theorem goes_none{P:Program}(h:P.funcs.any Func.goes=false)(f:FuncId):P.goes f=false:=by
 have h1:∀g:FuncId,(P.funcs[g]?).any Func.goes=false:=λg=>by
  cases hg:P.funcs[g]?with
  |none=>rfl
  |some fn=>rw[Array.any_eq_false]at h;obtain⟨i,hi⟩:=Array.getElem?_eq_some_iff.1 hg;have:=h g i;rw[hi]at this;simpa using this
 unfold Program.goes;rw[h,Bool.and_false,Bool.or_false,List.any_eq_false];intro g _;rw[h1 g];simp
theorem goes_not{P:Program}{c:OpenClaim}{f:FuncId}{s:Start}{n:String}(hs:c.start=s)(hf:c.func=n)(he:s=.entering)(hn:P.funcNamed n=some f)(h:P.funcs.any Func.goes=false):false=c.goesBy P:=by subst hf hs;unfold OpenClaim.goesBy Program.goesAt Program.goesFrom;rw[hn,he];simp[goes_none h]
theorem noGoes:false=Rows.topFuelRow.goesBy Tryz.prog:=goes_not rfl rfl rfl named noGo
theorem wf:Rows.topFuelRow.wfByText (OpenSpec.ofChange Rows.topFuelSpec)=true:=by kernel_rfl
theorem mainIs:Tryz.prog.mainIs=some (true,"6c86fafecea6cf7135f44186261f5fc2b3313bdb89d94a04f32b57df66918f7b".toList):=by kernel_rfl
theorem looks:true=Tryz.prog.looks []:=by kernel_rfl
theorem want1:Tryz.prog.wantsStandIn 25=false:=by kernel_rfl
theorem want2:Tryz.prog.wantsStandIn 26=false:=by kernel_rfl
theorem want3:Tryz.prog.wantsStandIn 3=false:=by kernel_rfl
end Go.Proofs.YtgmjilingndloaaGreatDoor.cardFuel
