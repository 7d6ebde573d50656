/- Lemmas. -/
import Derived.JoinedOf
import Derived.Test.YtnlhbdmeodbblaaGreatDoorMtaj
import Derived.Test.YtnlhbdmeodbblaaGreatDoorMtah
set_option maxRecDepth 100000
set_option maxHeartbeats 16000000
set_option linter.all false
open Go.Proofs.Tryz
open Option renaming some->Og
namespace Go.Proofs.YtnlhbdmeodbblaaGreatDoor
section
open Go Go.ChangeShapes Go.WideShapes Go.ChangeAt Go.WideElems Go.RowKit Go.Lib
theorem yl:(Rows.offlineNewerRow.wf (OpenSpec.ofChange Rows.offlineNewerSpec))=true:=mKr
theorem ym:(laidOutB prog)=true:=mKr
theorem yn:(mapsRowed prog)=true:=mKr
theorem yo:(f6.params.all (prog.readableRec ·))=true:=mKr
theorem yp:(namedTie prog Rows.offlineNewerRow.named Rows.offlineNewerSpec.vars)=true:=mKr
theorem yq:((Rows.offlineNewerRow.stops==[]))=true:=mKr
theorem yt:((prog.stops==[]))=true:=mKr
theorem yu:((Rows.offlineNewerRow.knobs==[]))=true:=mKr
theorem yv:((prog.stopKnobs==[]))=true:=mKr
theorem yw:((Rows.offlineNewerRow.inPlace==prog.inPlace 6))=true:=mKr
theorem wv:((Rows.offlineNewerRow.unfollowed==prog.unfollowed 6))=true:=mKr
theorem ww:((Rows.offlineNewerRow.recurses==prog.recurses 6))=true:=mKr
theorem wz:((Rows.offlineNewerRow.named==prog.varsNamed 6))=true:=mKr
theorem wA:((Rows.offlineNewerRow.maps==(f6.params.toList++Rows.offlineNewerSpec.plain.varTypes prog).any (prog.mapsRec ·)))=true:=mKr
theorem wB:((Rows.offlineNewerRow.ifaces==(f6.params.toList++Rows.offlineNewerSpec.plain.varTypes prog).any (prog.ifacesRec ·)))=true:=mKr
theorem wC:((Rows.offlineNewerRow.mapsOut==prog.mapsAmong f6.resultTypes.toList))=true:=mKr
theorem wD:((Rows.offlineNewerRow.loops==(f6.params.toList++Rows.offlineNewerSpec.plain.varTypes prog).any (prog.loopsFrom ·)))=true:=mKr
theorem wE:((Rows.offlineNewerRow.wideKeys==(f6.params.toList++Rows.offlineNewerSpec.plain.varTypes prog++f6.resultTypes.toList).any (prog.wideKeysFrom ·)))=true:=mKr
theorem wF:(Rows.offlineNewerSpec.vars.all (prog.varReadable ·))=true:=mKr
theorem wG:(f6.resultTypes.all (fun t=>prog.readableRec t&&decide (t<prog.types.size)))=true:=mKr
theorem wH:((Rows.offlineNewerRow.ifacesOut==f6.resultTypes.toList.any (prog.ifacesRec ·)))=true:=mKr
theorem wI:((Rows.offlineNewerRow.loopsOut==f6.resultTypes.toList.any (prog.loopsFrom ·)))=true:=mKr
theorem wJ:((Rows.offlineNewerRow.plainKeys==prog.plainKeys))=true:=mKr
theorem wK:(Rows.offlineNewerRow.shortTexts.isNone)=true:=mKr
theorem wM:(prog.stopsHeard)=true:=mKr
theorem wN:(prog.mayEnter)=true:=mKr
theorem wO:((Rows.offlineNewerRow.lifted==prog.liftsFinal))=true:=mKr
theorem wP:((prog.make==Og Rows.offlineNewerRow.make))=true:=mKr
theorem wQ:((Rows.offlineNewerRow.kinds==(if Rows.offlineNewerRow.domain.isEmpty then [] else f6.params.toList.map fun t=>match prog.underlying t with|some (.int k)=>some k|_=>none)))=true:=mKr
theorem wR:((Rows.offlineNewerRow.pinned==Rows.offlineNewerRow.pinnedBy))=true:=mKr
theorem wS:((Rows.offlineNewerRow.veiled==(f6.params.toList++Rows.offlineNewerSpec.plain.varTypes prog++f6.resultTypes.toList).any (prog.veiledRec ·)))=true:=mKr
theorem wT:(Rows.offlineNewerRow.veiledFits prog f6.params.toList (f6.params.toList++Rows.offlineNewerSpec.plain.varTypes prog++f6.resultTypes.toList))=true:=mKr
theorem uA:joinedFacts prog 6 f6 Rows.offlineNewerSpec Rows.offlineNewerRow=true:=by unfold joinedFacts;simp only[Bool.and_eq_true];exact⟨⟨⟨⟨⟨⟨⟨⟨⟨⟨⟨⟨⟨⟨⟨⟨⟨⟨⟨⟨⟨⟨⟨⟨⟨⟨⟨⟨⟨⟨⟨yl,ym⟩,yn⟩,yo⟩,yp⟩,yq⟩,yt⟩,yu⟩,yv⟩,yw⟩,wv⟩,ww⟩,wz⟩,wA⟩,wB⟩,wC⟩,wD⟩,wE⟩,wF⟩,wG⟩,wH⟩,wI⟩,wJ⟩,wK⟩,wM⟩,wN⟩,wO⟩,wP⟩,wQ⟩,wR⟩,wS⟩,wT⟩
