/-
  A part of the proof of TopTexts. No conditions.
-/
import Derived.Test.YtebhflkemdlbkaaGreatDoorCards
import Derived.Test.YtebhflkemdlbkaaGreatDoorTie
import Derived.KernelRfl
import Derived.JoinedCond
import Derived.SevenTiedAt
open Go.OpenSpec renaming ofChange->Y
open Go.Proofs.Tryz renaming prog->V,f3->W
namespace Go.Proofs.YtebhflkemdlbkaaGreatDoor.topTexts
theorem jf0:(Rows.topTextsRow.wf (Y (Y Rows.topTextsSpec).bare))=true:=by kernel_rfl
theorem jf1:(laidOutB V)=true:=by kernel_rfl
theorem jf2:(mapsRowed V)=true:=by kernel_rfl
theorem jf3:(W.params.all (V.readableRec ·))=true:=by kernel_rfl
theorem jf4:(namedTie V Rows.topTextsRow.named (Y Rows.topTextsSpec).bare.vars)=true:=by kernel_rfl
theorem jf5:((Rows.topTextsRow.stops==[]))=true:=by kernel_rfl
theorem jf6:((V.stops==[]))=true:=by kernel_rfl
theorem jf7:((Rows.topTextsRow.knobs==[]))=true:=by kernel_rfl
theorem jf8:((V.stopKnobs==[]))=true:=by kernel_rfl
theorem jf9:((Rows.topTextsRow.inPlace==V.inPlace 3))=true:=by kernel_rfl
theorem Az8:((Rows.topTextsRow.unfollowed==V.unfollowed 3))=true:=by kernel_rfl
theorem Az7:((Rows.topTextsRow.recurses==V.recurses 3))=true:=by kernel_rfl
theorem Az6:((Rows.topTextsRow.named==V.varsNamed 3))=true:=by kernel_rfl
theorem Az5:((Rows.topTextsRow.maps==(W.params.toList++(Y Rows.topTextsSpec).bare.plain.varTypes V).any (V.mapsRec ·)))=true:=by kernel_rfl
theorem Az4:((Rows.topTextsRow.ifaces==(W.params.toList++(Y Rows.topTextsSpec).bare.plain.varTypes V).any (V.ifacesRec ·)))=true:=by kernel_rfl
theorem Az3:((Rows.topTextsRow.mapsOut==V.mapsAmong W.resultTypes.toList))=true:=by kernel_rfl
theorem Az2:((Rows.topTextsRow.loops==(W.params.toList++(Y Rows.topTextsSpec).bare.plain.varTypes V).any (V.loopsFrom ·)))=true:=by kernel_rfl
theorem Az1:((Rows.topTextsRow.wideKeys==(W.params.toList++(Y Rows.topTextsSpec).bare.plain.varTypes V++W.resultTypes.toList).any (V.wideKeysFrom ·)))=true:=by kernel_rfl
theorem Az0:((Y Rows.topTextsSpec).bare.vars.all (V.varReadable ·))=true:=by kernel_rfl
theorem Azz:(W.resultTypes.all (fun a=>V.readableRec a&&decide (a<V.types.size)))=true:=by kernel_rfl
theorem Azy:((Rows.topTextsRow.ifacesOut==W.resultTypes.toList.any (V.ifacesRec ·)))=true:=by kernel_rfl
theorem Azx:((Rows.topTextsRow.loopsOut==W.resultTypes.toList.any (V.loopsFrom ·)))=true:=by kernel_rfl
theorem Azw:((Rows.topTextsRow.plainKeys==V.plainKeys))=true:=by kernel_rfl
theorem Azv:(Rows.topTextsRow.shortTexts.isNone)=true:=by kernel_rfl
theorem Azu:(V.stopsHeard)=true:=by kernel_rfl
theorem Azt:(V.mayEnter)=true:=by kernel_rfl
theorem Azs:((Rows.topTextsRow.lifted==V.liftsFinal))=true:=by kernel_rfl
theorem Azr:((V.make==some Rows.topTextsRow.make))=true:=by kernel_rfl
theorem Azq:((Rows.topTextsRow.kinds==(if Rows.topTextsRow.domain.isEmpty then[]else W.params.toList.map fun a=>match V.underlying a with|some (.int b)=>some b|_=>none)))=true:=by kernel_rfl
theorem Azp:((Rows.topTextsRow.pinned==Rows.topTextsRow.pinnedBy))=true:=by kernel_rfl
theorem Azo:((Rows.topTextsRow.veiled==(W.params.toList++(Y Rows.topTextsSpec).bare.plain.varTypes V++W.resultTypes.toList).any (V.veiledRec ·)))=true:=by kernel_rfl
theorem Azn:(Rows.topTextsRow.veiledFits V W.params.toList (W.params.toList++(Y Rows.topTextsSpec).bare.plain.varTypes V++W.resultTypes.toList))=true:=by kernel_rfl
end Go.Proofs.YtebhflkemdlbkaaGreatDoor.topTexts
