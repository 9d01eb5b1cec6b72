import Derived.Test.YtpblcjipmoblnaaGreatDoorW
import Derived.Shelf.SlSortCmp.NoneTotal
import Derived.Test.YtpblcjipmoblnaaGreatDoorProg
set_option maxRecDepth 100000
set_option linter.all false
set_option maxHeartbeats 4000000
namespace Go.Proofs
open Go.Shelf
def Tryz.sortSp_ren:Go.Shelf.Ren:=⟨fun|6=>145|15=>161|14=>160|28=>186|29=>187|20=>178|21=>179|22=>180|23=>181|24=>182|25=>183|26=>184|27=>185|46=>202|47=>203|48=>204|49=>205|50=>206|57=>216|n=>n,fun|22=>173|24=>180|25=>263|3=>3|39=>209|0=>0|53=>310|55=>39|4=>4|46=>303|45=>302|50=>307|5=>5|9=>9|66=>325|70=>329|76=>340|77=>341|n=>n,fun|n=>n⟩
theorem Tryz.sortSp:Go.Proofs.SlLaysF0.n6 Tryz.prog Tryz.sortSp_ren:={
 mixed:=δ
 f6:=⟨Tryz.f145.name,ψ,Tryz.func145.trans (congrArg some δ)⟩
 f14:=⟨Tryz.f160.name,ψ,Tryz.func160.trans (congrArg some δ)⟩
 f15:=Tryz.func161.trans (congrArg some δ)
 f20:=⟨Tryz.f178.name,ψ,Tryz.func178.trans (congrArg some δ)⟩
 f21:=⟨Tryz.f179.name,ψ,Tryz.func179.trans (congrArg some δ)⟩
 f22:=⟨Tryz.f180.name,ψ,Tryz.func180.trans (congrArg some δ)⟩
 f23:=⟨Tryz.f181.name,ψ,Tryz.func181.trans (congrArg some δ)⟩
 f24:=⟨Tryz.f182.name,ψ,Tryz.func182.trans (congrArg some δ)⟩
 f25:=⟨Tryz.f183.name,ψ,Tryz.func183.trans (congrArg some δ)⟩
 f26:=⟨Tryz.f184.name,ψ,Tryz.func184.trans (congrArg some δ)⟩
 f27:=⟨Tryz.f185.name,ψ,Tryz.func185.trans (congrArg some δ)⟩
 f28:=Tryz.func186.trans (congrArg some δ)
 f29:=Tryz.func187.trans (congrArg some δ)
 f46:=⟨Tryz.f202.name,ψ,Tryz.func202.trans (congrArg some δ)⟩
 f47:=Tryz.func203.trans (congrArg some δ)
 f48:=Tryz.func204.trans (congrArg some δ)
 f49:=⟨Tryz.f205.name,ψ,Tryz.func205.trans (congrArg some δ)⟩
 f50:=⟨Tryz.f206.name,ψ,Tryz.func206.trans (congrArg some δ)⟩
 f57:=⟨Tryz.f216.name,ψ,Tryz.func216.trans (congrArg some δ)⟩
 t0:=Tryz.underlying0
 a0:=Tryz.isAgg0
 z0:=Tryz.sizeOf0
 v0:=Tryz.zeroValue0
 t3:=Tryz.underlying3
 a3:=Tryz.isAgg3
 z3:=Tryz.sizeOf3
 v3:=Tryz.zeroValue3
 t4:=Tryz.underlying4
 a4:=Tryz.isAgg4
 z4:=Tryz.sizeOf4
 v4:=Tryz.zeroValue4
 t5:=Tryz.underlying5
 a5:=Tryz.isAgg5
 z5:=Tryz.sizeOf5
 v5:=Tryz.zeroValue5
 t9:=Tryz.underlying9
 a9:=Tryz.isAgg9
 z9:=Tryz.sizeOf9
 v9:=Tryz.zeroValue9
 t22:=Tryz.underlying173
 a22:=Tryz.isAgg173
 z22:=Tryz.sizeOf173
 v22:=Tryz.zeroValue173
 t25:=Tryz.underlying263
 a25:=Tryz.isAgg263
 z25:=Tryz.sizeOf263
 v25:=Tryz.zeroValue263
 t39:=Tryz.underlying209
 a39:=Tryz.isAgg209
 z39:=Tryz.sizeOf209
 v39:=Tryz.zeroValue209
 t45:=Tryz.underlying302
 a45:=Tryz.isAgg302
 z45:=Tryz.sizeOf302
 v45:=Tryz.zeroValue302
 t46:=Tryz.underlying303
 a46:=Tryz.isAgg303
 z46:=Tryz.sizeOf303
 v46:=Tryz.zeroValue303
 t50:=Tryz.underlying307
 a50:=Tryz.isAgg307
 z50:=Tryz.sizeOf307
 v50:=Tryz.zeroValue307
 t53:=Tryz.underlying310
 a53:=Tryz.isAgg310
 z53:=Tryz.sizeOf310
 v53:=Tryz.zeroValue310
 t55:=Tryz.underlying39
 a55:=Tryz.isAgg39
 z55:=Tryz.sizeOf39
 v55:=Tryz.zeroValue39
 t66:=Tryz.underlying325
 a66:=Tryz.isAgg325
 z66:=Tryz.sizeOf325
 v66:=Tryz.zeroValue325
 t70:=Tryz.underlying329
 a70:=Tryz.isAgg329
 z70:=Tryz.sizeOf329
 v70:=Tryz.zeroValue329
 t76:=Tryz.underlying340
 a76:=Tryz.isAgg340
 z76:=Tryz.sizeOf340
 v76:=Tryz.zeroValue340
 t77:=Tryz.underlying341
 a77:=Tryz.isAgg341
 z77:=Tryz.sizeOf341
 v77:=Tryz.zeroValue341 }
