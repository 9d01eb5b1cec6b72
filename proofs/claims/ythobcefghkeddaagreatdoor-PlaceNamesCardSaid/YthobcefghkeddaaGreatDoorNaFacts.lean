import Derived.Test.YthobcefghkeddaaGreatDoorW
import Derived.Test.YthobcefghkeddaaGreatDoorRows
import Derived.JoinedOf
set_option maxRecDepth 100000
set_option linter.all false
set_option maxHeartbeats 4000000
namespace Go.Proofs.YthobcefghkeddaaGreatDoor.placeNamesFacts
open Go
noncomputable abbrev P:=Tryz.pinned.checked.prog
abbrev f:Nat:=6
noncomputable abbrev fn:=Tryz.f6
noncomputable abbrev s:ChangeSpec:=(OpenSpec.ofChange Rows.placeNamesSpec).bare
noncomputable abbrev c:=Rows.placeNamesRow
theorem j0:(c.wf (OpenSpec.ofChange s))=true:=δ
theorem j1:(laidOutB P)=true:=δ
theorem j2:(mapsRowed P)=true:=δ
theorem j3:(fn.params.all (P.readableRec ·))=true:=δ
theorem j4:(namedTie P c.named s.vars)=true:=δ
theorem j5:((c.stops==[]))=true:=δ
theorem j6:((P.stops==[]))=true:=δ
theorem j7:((c.knobs==[]))=true:=δ
theorem j8:((P.stopKnobs==[]))=true:=δ
theorem j9:((c.inPlace==P.inPlace f))=true:=δ
theorem j10:((c.unfollowed==P.unfollowed f))=true:=δ
theorem j11:((c.recurses==P.recurses f))=true:=δ
theorem j12:((c.named==P.varsNamed f))=true:=δ
theorem j13:((c.maps==(fn.params.toList++s.plain.varTypes P).any (P.mapsRec ·)))=true:=δ
theorem j14:((c.ifaces==(fn.params.toList++s.plain.varTypes P).any (P.ifacesRec ·)))=true:=δ
theorem j15:((c.mapsOut==P.mapsAmong fn.resultTypes.toList))=true:=δ
theorem j16:((c.loops==(fn.params.toList++s.plain.varTypes P).any (P.loopsFrom ·)))=true:=δ
theorem j17:((c.wideKeys==(fn.params.toList++s.plain.varTypes P++fn.resultTypes.toList).any (P.wideKeysFrom ·)))=true:=δ
theorem j18:(s.vars.all (P.varReadable ·))=true:=δ
theorem j19:(fn.resultTypes.all (fun t=>P.readableRec t&&decide (t<P.types.size)))=true:=δ
theorem j20:((c.ifacesOut==fn.resultTypes.toList.any (P.ifacesRec ·)))=true:=δ
theorem j21:((c.loopsOut==fn.resultTypes.toList.any (P.loopsFrom ·)))=true:=δ
theorem j22:((c.plainKeys==P.plainKeys))=true:=δ
theorem j23:(c.shortTexts.isNone)=true:=δ
theorem j24:(P.stopsHeard)=true:=δ
theorem j25:(P.mayEnter)=true:=δ
theorem j26:((c.lifted==P.liftsFinal))=true:=δ
theorem j27:((P.make==some c.make))=true:=δ
theorem j28:((c.kinds==(if c.domain.isEmpty then[]else fn.params.toList.map fun t=>match P.underlying t with|some (.int k)=>some k|_=>none)))=true:=δ
theorem j29:((c.pinned==c.pinnedBy))=true:=δ
theorem j30:((c.veiled==(fn.params.toList++s.plain.varTypes P++fn.resultTypes.toList).any (P.veiledRec ·)))=true:=δ
theorem j31:(c.veiledFits P fn.params.toList (fn.params.toList++s.plain.varTypes P++fn.resultTypes.toList))=true:=δ
theorem dh{a b:Bool}(h:a=true)(k:b=true):(a&&b)=true:=by rw[h,k];rfl
