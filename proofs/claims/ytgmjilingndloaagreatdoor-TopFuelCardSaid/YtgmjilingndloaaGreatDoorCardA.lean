/- TopFuel: what the row's closed cells say of the program, each by itself. No conditions. -/
import Derived.Test.YtgmjilingndloaaGreatDoorRows
import Derived.JoinedOf
import Derived.KernelRfl
namespace Go.Proofs.YtgmjilingndloaaGreatDoor.cardFuel
open Go
set_option maxRecDepth 100000
theorem l0:(Rows.topFuelRow.wf (OpenSpec.ofChange Rows.topFuelSpec))=true:=by kernel_rfl
theorem l1:(laidOutB Tryz.prog)=true:=by kernel_rfl
theorem l2:(mapsRowed Tryz.prog)=true:=by kernel_rfl
theorem l3:(Tryz.f3.params.all (Tryz.prog.readableRec ·))=true:=by kernel_rfl
theorem l4:(namedTie Tryz.prog Rows.topFuelRow.named Rows.topFuelSpec.vars)=true:=by kernel_rfl
theorem l5:(Rows.topFuelRow.stops==[])=true:=by kernel_rfl
theorem l6:(Tryz.prog.stops==[])=true:=by kernel_rfl
theorem l7:(Rows.topFuelRow.knobs==[])=true:=by kernel_rfl
theorem l8:(Tryz.prog.stopKnobs==[])=true:=by kernel_rfl
theorem l9:(Rows.topFuelRow.inPlace==Tryz.prog.inPlace 3)=true:=by kernel_rfl
theorem l10:(Rows.topFuelRow.unfollowed==Tryz.prog.unfollowed 3)=true:=by kernel_rfl
theorem l11:(Rows.topFuelRow.recurses==Tryz.prog.recurses 3)=true:=by kernel_rfl
theorem l12:(Rows.topFuelRow.named==Tryz.prog.varsNamed 3)=true:=by kernel_rfl
theorem l13:(Rows.topFuelRow.maps==(Tryz.f3.params.toList++Rows.topFuelSpec.plain.varTypes Tryz.prog).any (Tryz.prog.mapsRec ·))=true:=by kernel_rfl
theorem l14:(Rows.topFuelRow.ifaces==(Tryz.f3.params.toList++Rows.topFuelSpec.plain.varTypes Tryz.prog).any (Tryz.prog.ifacesRec ·))=true:=by kernel_rfl
theorem l15:(Rows.topFuelRow.mapsOut==Tryz.prog.mapsAmong Tryz.f3.resultTypes.toList)=true:=by kernel_rfl
theorem l16:(Rows.topFuelRow.loops==(Tryz.f3.params.toList++Rows.topFuelSpec.plain.varTypes Tryz.prog).any (Tryz.prog.loopsFrom ·))=true:=by kernel_rfl
theorem l17:(Rows.topFuelRow.wideKeys==(Tryz.f3.params.toList++Rows.topFuelSpec.plain.varTypes Tryz.prog++Tryz.f3.resultTypes.toList).any (Tryz.prog.wideKeysFrom ·))=true:=by kernel_rfl
theorem l18:(Rows.topFuelSpec.vars.all (Tryz.prog.varReadable ·))=true:=by kernel_rfl
theorem l19:(Tryz.f3.resultTypes.all (λt=>Tryz.prog.readableRec t&&decide (t<Tryz.prog.types.size)))=true:=by kernel_rfl
theorem l20:(Rows.topFuelRow.ifacesOut==Tryz.f3.resultTypes.toList.any (Tryz.prog.ifacesRec ·))=true:=by kernel_rfl
theorem l21:(Rows.topFuelRow.loopsOut==Tryz.f3.resultTypes.toList.any (Tryz.prog.loopsFrom ·))=true:=by kernel_rfl
theorem l22:(Rows.topFuelRow.plainKeys==Tryz.prog.plainKeys)=true:=by kernel_rfl
theorem l23:(Rows.topFuelRow.shortTexts.isNone)=true:=by kernel_rfl
theorem l24:(Tryz.prog.stopsHeard)=true:=by kernel_rfl
theorem l25:(Tryz.prog.mayEnter)=true:=by kernel_rfl
theorem l26:(Rows.topFuelRow.lifted==Tryz.prog.liftsFinal)=true:=by kernel_rfl
theorem l27:(Tryz.prog.make==some Rows.topFuelRow.make)=true:=by kernel_rfl
theorem l28:(Rows.topFuelRow.kinds==(if Rows.topFuelRow.domain.isEmpty then []else Tryz.f3.params.toList.map λt=>match Tryz.prog.underlying t with|some (.int k)=>some k|_=>none))=true:=by kernel_rfl
theorem l29:(Rows.topFuelRow.pinned==Rows.topFuelRow.pinnedBy)=true:=by kernel_rfl
theorem l30:(Rows.topFuelRow.veiled==(Tryz.f3.params.toList++Rows.topFuelSpec.plain.varTypes Tryz.prog++Tryz.f3.resultTypes.toList).any (Tryz.prog.veiledRec ·))=true:=by kernel_rfl
theorem l31:(Rows.topFuelRow.veiledFits Tryz.prog Tryz.f3.params.toList (Tryz.f3.params.toList++Rows.topFuelSpec.plain.varTypes Tryz.prog++Tryz.f3.resultTypes.toList))=true:=by kernel_rfl
theorem bt{a b:Bool}(h:a=true)(k:b=true):(a&&b)=true:=by rw[h,k];rfl
theorem closed:joinedFacts Tryz.prog 3 Tryz.f3 Rows.topFuelSpec Rows.topFuelRow=true:=
 bt (bt (bt (bt (bt (bt (bt (bt (bt (bt (bt (bt (bt (bt (bt (bt (bt (bt (bt (bt (bt (bt (bt (bt (bt (bt (bt (bt (bt (bt (bt l0 l1) l2) l3) l4) l5) l6) l7) l8) l9) l10) l11) l12) l13) l14) l15) l16) l17) l18) l19) l20) l21) l22) l23) l24) l25) l26) l27) l28) l29) l30) l31
end Go.Proofs.YtgmjilingndloaaGreatDoor.cardFuel
