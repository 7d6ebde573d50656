/- Lemmas. -/
import Derived.JoinedOf
import Derived.Test.YtnlhbdmeodbblaaGreatDoorMiah
set_option maxRecDepth 100000
set_option maxHeartbeats 16000000
set_option linter.all false
open Go.Proofs.Tryz
open Option renaming some→JV
namespace Go.Proofs.YtnlhbdmeodbblaaGreatDoor
section
open Go Go.ChangeShapes Go.WideShapes Go.ChangeAt Go.WideElems Go.RowKit Go.Lib
theorem uC:(Rows.offlineTrueRow.wf (OpenSpec.ofChange Rows.offlineTrueSpec))=true:=mKr
theorem uD:(laidOutB prog)=true:=mKr
theorem uE:(mapsRowed prog)=true:=mKr
theorem uF:(f4.params.all (prog.readableRec ·))=true:=mKr
theorem uG:(namedTie prog Rows.offlineTrueRow.named Rows.offlineTrueSpec.vars)=true:=mKr
theorem uH:((Rows.offlineTrueRow.stops==[]))=true:=mKr
theorem uI:((prog.stops==[]))=true:=mKr
theorem uJ:((Rows.offlineTrueRow.knobs==[]))=true:=mKr
theorem uK:((prog.stopKnobs==[]))=true:=mKr
theorem uL:((Rows.offlineTrueRow.inPlace==prog.inPlace 4))=true:=mKr
theorem tc:((Rows.offlineTrueRow.unfollowed==prog.unfollowed 4))=true:=mKr
theorem td:((Rows.offlineTrueRow.recurses==prog.recurses 4))=true:=mKr
theorem tf:((Rows.offlineTrueRow.named==prog.varsNamed 4))=true:=mKr
theorem tg:((Rows.offlineTrueRow.maps==(f4.params.toList++Rows.offlineTrueSpec.plain.varTypes prog).any (prog.mapsRec ·)))=true:=mKr
theorem th:((Rows.offlineTrueRow.ifaces==(f4.params.toList++Rows.offlineTrueSpec.plain.varTypes prog).any (prog.ifacesRec ·)))=true:=mKr
theorem ti:((Rows.offlineTrueRow.mapsOut==prog.mapsAmong f4.resultTypes.toList))=true:=mKr
theorem tj:((Rows.offlineTrueRow.loops==(f4.params.toList++Rows.offlineTrueSpec.plain.varTypes prog).any (prog.loopsFrom ·)))=true:=mKr
theorem tm:((Rows.offlineTrueRow.wideKeys==(f4.params.toList++Rows.offlineTrueSpec.plain.varTypes prog++f4.resultTypes.toList).any (prog.wideKeysFrom ·)))=true:=mKr
theorem tt:(Rows.offlineTrueSpec.vars.all (prog.varReadable ·))=true:=mKr
theorem tu:(f4.resultTypes.all (fun t=>prog.readableRec t&&decide (t < prog.types.size)))=true:=mKr
theorem tv:((Rows.offlineTrueRow.ifacesOut==f4.resultTypes.toList.any (prog.ifacesRec ·)))=true:=mKr
theorem tA:((Rows.offlineTrueRow.loopsOut==f4.resultTypes.toList.any (prog.loopsFrom ·)))=true:=mKr
theorem tB:((Rows.offlineTrueRow.plainKeys==prog.plainKeys))=true:=mKr
theorem tC:(Rows.offlineTrueRow.shortTexts.isNone)=true:=mKr
theorem tD:(prog.stopsHeard)=true:=mKr
theorem tE:(prog.mayEnter)=true:=mKr
theorem tF:((Rows.offlineTrueRow.lifted==prog.liftsFinal))=true:=mKr
theorem tG:((prog.make==JV Rows.offlineTrueRow.make))=true:=mKr
theorem tH:((Rows.offlineTrueRow.kinds==(if Rows.offlineTrueRow.domain.isEmpty then [] else f4.params.toList.map fun t=>match prog.underlying t with | some (.int k)=>some k | _=>none)))=true:=mKr
theorem tI:((Rows.offlineTrueRow.pinned==Rows.offlineTrueRow.pinnedBy))=true:=mKr
theorem tJ:((Rows.offlineTrueRow.veiled==(f4.params.toList++Rows.offlineTrueSpec.plain.varTypes prog++f4.resultTypes.toList).any (prog.veiledRec ·)))=true:=mKr
theorem tK:(Rows.offlineTrueRow.veiledFits prog f4.params.toList (f4.params.toList++Rows.offlineTrueSpec.plain.varTypes prog++f4.resultTypes.toList))=true:=mKr
theorem rj:joinedFacts prog 4 f4 Rows.offlineTrueSpec Rows.offlineTrueRow=true:=by unfold joinedFacts;simp only [Bool.and_eq_true];exact ⟨⟨⟨⟨⟨⟨⟨⟨⟨⟨⟨⟨⟨⟨⟨⟨⟨⟨⟨⟨⟨⟨⟨⟨⟨⟨⟨⟨⟨⟨⟨uC,uD⟩,uE⟩,uF⟩,uG⟩,uH⟩,uI⟩,uJ⟩,uK⟩,uL⟩,tc⟩,td⟩,tf⟩,tg⟩,th⟩,ti⟩,tj⟩,tm⟩,tt⟩,tu⟩,tv⟩,tA⟩,tB⟩,tC⟩,tD⟩,tE⟩,tF⟩,tG⟩,tH⟩,tI⟩,tJ⟩,tK⟩
