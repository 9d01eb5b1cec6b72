import Derived.Test.YthobcefghkeddaaGreatDoorW
import Derived.Shelf.SlSortCmp.NoneTotal
import Derived.Test.YthobcefghkeddaaGreatDoorProg
set_option maxRecDepth 100000
set_option linter.all false
set_option maxHeartbeats 4000000
namespace Go.Proofs
open Go.Shelf
def Tryz.sortSp_ren:Go.Shelf.Ren:=⟨fun|6=>135|15=>154|14=>153|28=>176|29=>177|20=>168|21=>169|22=>170|23=>171|24=>172|25=>173|26=>174|27=>175|46=>196|47=>197|48=>198|49=>199|50=>200|57=>215|n=>n,fun|22=>117|24=>125|25=>247|3=>3|39=>213|0=>0|53=>299|55=>41|4=>4|46=>292|45=>291|50=>296|5=>5|9=>9|66=>322|70=>326|76=>343|77=>344|n=>n,fun|n=>n⟩
theorem Tryz.sortSp:Go.Proofs.SlLaysF0.n6 Tryz.prog Tryz.sortSp_ren:={
 mixed:=δ
 f6:=⟨Tryz.f135.name,ψ,Tryz.func135.trans (congrArg some δ)⟩
 f14:=⟨Tryz.f153.name,ψ,Tryz.func153.trans (congrArg some δ)⟩
 f15:=Tryz.func154.trans (congrArg some δ)
 f20:=⟨Tryz.f168.name,ψ,Tryz.func168.trans (congrArg some δ)⟩
 f21:=⟨Tryz.f169.name,ψ,Tryz.func169.trans (congrArg some δ)⟩
 f22:=⟨Tryz.f170.name,ψ,Tryz.func170.trans (congrArg some δ)⟩
 f23:=⟨Tryz.f171.name,ψ,Tryz.func171.trans (congrArg some δ)⟩
 f24:=⟨Tryz.f172.name,ψ,Tryz.func172.trans (congrArg some δ)⟩
 f25:=⟨Tryz.f173.name,ψ,Tryz.func173.trans (congrArg some δ)⟩
 f26:=⟨Tryz.f174.name,ψ,Tryz.func174.trans (congrArg some δ)⟩
 f27:=⟨Tryz.f175.name,ψ,Tryz.func175.trans (congrArg some δ)⟩
 f28:=Tryz.func176.trans (congrArg some δ)
 f29:=Tryz.func177.trans (congrArg some δ)
 f46:=⟨Tryz.f196.name,ψ,Tryz.func196.trans (congrArg some δ)⟩
 f47:=Tryz.func197.trans (congrArg some δ)
 f48:=Tryz.func198.trans (congrArg some δ)
 f49:=⟨Tryz.f199.name,ψ,Tryz.func199.trans (congrArg some δ)⟩
 f50:=⟨Tryz.f200.name,ψ,Tryz.func200.trans (congrArg some δ)⟩
 f57:=⟨Tryz.f215.name,ψ,Tryz.func215.trans (congrArg some δ)⟩
 t0:=Tryz.underlying0
 a0:=Tryz.isAgg0
 z0:=Tryz.sizeOf0
 v0:=Tryz.zeroValue0
 t3:=Tryz.underlying3
 a3:=Tryz.isAgg3
 z3:=Tryz.sizeOf3
 v3:=Tryz.zeroValue3
 t4:=Tryz.underlying4
 a4:=Tryz.isAgg4
 z4:=Tryz.sizeOf4
 v4:=Tryz.zeroValue4
 t5:=Tryz.underlying5
 a5:=Tryz.isAgg5
 z5:=Tryz.sizeOf5
 v5:=Tryz.zeroValue5
 t9:=Tryz.underlying9
 a9:=Tryz.isAgg9
 z9:=Tryz.sizeOf9
 v9:=Tryz.zeroValue9
 t22:=Tryz.underlying117
 a22:=Tryz.isAgg117
 z22:=Tryz.sizeOf117
 v22:=Tryz.zeroValue117
 t25:=Tryz.underlying247
 a25:=Tryz.isAgg247
 z25:=Tryz.sizeOf247
 v25:=Tryz.zeroValue247
 t39:=Tryz.underlying213
 a39:=Tryz.isAgg213
 z39:=Tryz.sizeOf213
 v39:=Tryz.zeroValue213
 t45:=Tryz.underlying291
 a45:=Tryz.isAgg291
 z45:=Tryz.sizeOf291
 v45:=Tryz.zeroValue291
 t46:=Tryz.underlying292
 a46:=Tryz.isAgg292
 z46:=Tryz.sizeOf292
 v46:=Tryz.zeroValue292
 t50:=Tryz.underlying296
 a50:=Tryz.isAgg296
 z50:=Tryz.sizeOf296
 v50:=Tryz.zeroValue296
 t53:=Tryz.underlying299
 a53:=Tryz.isAgg299
 z53:=Tryz.sizeOf299
 v53:=Tryz.zeroValue299
 t55:=Tryz.underlying41
 a55:=Tryz.isAgg41
 z55:=Tryz.sizeOf41
 v55:=Tryz.zeroValue41
 t66:=Tryz.underlying322
 a66:=Tryz.isAgg322
 z66:=Tryz.sizeOf322
 v66:=Tryz.zeroValue322
 t70:=Tryz.underlying326
 a70:=Tryz.isAgg326
 z70:=Tryz.sizeOf326
 v70:=Tryz.zeroValue326
 t76:=Tryz.underlying343
 a76:=Tryz.isAgg343
 z76:=Tryz.sizeOf343
 v76:=Tryz.zeroValue343
 t77:=Tryz.underlying344
 a77:=Tryz.isAgg344
 z77:=Tryz.sizeOf344
 v77:=Tryz.zeroValue344 }
