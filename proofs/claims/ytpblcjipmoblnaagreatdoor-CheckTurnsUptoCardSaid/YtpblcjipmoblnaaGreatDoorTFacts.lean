import Derived.Test.YtpblcjipmoblnaaGreatDoorRows
import Derived.JoinedOf
set_option maxRecDepth 100000
set_option maxHeartbeats 4000000
set_option linter.unusedVariables false
set_option linter.unusedSimpArgs false
set_option linter.unnecessarySimpa false
namespace Go.Proofs.YtpblcjipmoblnaaGreatDoor.checkTurnsUptoFacts
open Go
noncomputable abbrev P:=Tryz.pinned.checked.prog
abbrev f:Nat:=4
noncomputable abbrev fn:=Tryz.f4
noncomputable abbrev s:ChangeSpec:=(Rows.OpenSpec.upto Rows.checkTurnsSpec).bare
noncomputable abbrev c:=Rows.checkTurnsUptoRow
theorem j0:(c.wf (OpenSpec.ofChange s))=true:=by kernel_rfl
theorem j1:(laidOutB P)=true:=by kernel_rfl
theorem j2:(mapsRowed P)=true:=by kernel_rfl
theorem j3:(fn.params.all (P.readableRec ·))=true:=by kernel_rfl
theorem j4:(namedTie P c.named s.vars)=true:=by kernel_rfl
theorem j5:((c.stops==[]))=true:=by kernel_rfl
theorem j6:((P.stops==[]))=true:=by kernel_rfl
theorem j7:((c.knobs==[]))=true:=by kernel_rfl
theorem j8:((P.stopKnobs==[]))=true:=by kernel_rfl
theorem j9:((c.inPlace==P.inPlace f))=true:=by kernel_rfl
theorem j10:((c.unfollowed==P.unfollowed f))=true:=by kernel_rfl
theorem j11:((c.recurses==P.recurses f))=true:=by kernel_rfl
theorem j12:((c.named==P.varsNamed f))=true:=by kernel_rfl
theorem j13:((c.maps==(fn.params.toList++s.plain.varTypes P).any (P.mapsRec ·)))=true:=by kernel_rfl
theorem j14:((c.ifaces==(fn.params.toList++s.plain.varTypes P).any (P.ifacesRec ·)))=true:=by kernel_rfl
theorem j15:((c.mapsOut==P.mapsAmong fn.resultTypes.toList))=true:=by kernel_rfl
theorem j16:((c.loops==(fn.params.toList++s.plain.varTypes P).any (P.loopsFrom ·)))=true:=by kernel_rfl
theorem j17:((c.wideKeys==(fn.params.toList++s.plain.varTypes P++fn.resultTypes.toList).any (P.wideKeysFrom ·)))=true:=by kernel_rfl
theorem j18:(s.vars.all (P.varReadable ·))=true:=by kernel_rfl
theorem j19:(fn.resultTypes.all (fun t=>P.readableRec t&&decide (t<P.types.size)))=true:=by kernel_rfl
theorem j20:((c.ifacesOut==fn.resultTypes.toList.any (P.ifacesRec ·)))=true:=by kernel_rfl
theorem j21:((c.loopsOut==fn.resultTypes.toList.any (P.loopsFrom ·)))=true:=by kernel_rfl
theorem j22:((c.plainKeys==P.plainKeys))=true:=by kernel_rfl
theorem j23:(c.shortTexts.isNone)=true:=by kernel_rfl
theorem j24:(P.stopsHeard)=true:=by kernel_rfl
theorem j25:(P.mayEnter)=true:=by kernel_rfl
theorem j26:((c.lifted==P.liftsFinal))=true:=by kernel_rfl
theorem j27:((P.make==some c.make))=true:=by kernel_rfl
theorem j28:((c.kinds==(if c.domain.isEmpty then[]else fn.params.toList.map fun t=>match P.underlying t with|some (.int k)=>some k|_=>none)))=true:=by kernel_rfl
theorem j29:((c.pinned==c.pinnedBy))=true:=by kernel_rfl
theorem j30:((c.veiled==(fn.params.toList++s.plain.varTypes P++fn.resultTypes.toList).any (P.veiledRec ·)))=true:=by kernel_rfl
theorem j31:(c.veiledFits P fn.params.toList (fn.params.toList++s.plain.varTypes P++fn.resultTypes.toList))=true:=by kernel_rfl
theorem eK{a b:Bool}(h:a=true)(k:b=true):(a&&b)=true:=by rw[h,k];rfl
theorem closed:joinedFacts P f fn s c=true:=by
 unfold joinedFacts;exact(eK (eK (eK (eK (eK (eK (eK (eK (eK (eK (eK (eK (eK (eK (eK (eK (eK (eK (eK (eK (eK (eK (eK (eK (eK (eK (eK (eK (eK (eK (eK j0 j1) j2) j3) j4) j5) j6) j7) j8) j9) j10) j11) j12) j13) j14) j15) j16) j17) j18) j19) j20) j21) j22) j23) j24) j25) j26) j27) j28) j29) j30) j31)
end Go.Proofs.YtpblcjipmoblnaaGreatDoor.checkTurnsUptoFacts
