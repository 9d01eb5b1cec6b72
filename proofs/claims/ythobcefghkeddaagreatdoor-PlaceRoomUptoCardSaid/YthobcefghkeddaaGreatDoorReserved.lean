import Derived.Test.YthobcefghkeddaaGreatDoorScan2
import Derived.Test.YthobcefghkeddaaGreatDoorShelfL
set_option maxRecDepth 100000
set_option linter.all false
set_option maxHeartbeats 4000000
namespace Go.Proofs.YthobcefghkeddaaGreatDoor
open Go.RowKit Go.IntWalk Go.Lib
def DR:Operand→ByteArray
 | .const (.string s)=>s
 | _ =>.empty
def EX:Op→ByteArray
 | .call c=>((c.args[0]?).map DR).getD .empty
 | _ =>.empty
noncomputable def EY:Code→ByteArray
 | .region _ ops _=>((ops[0]?).map fun o=>EX o.op).getD .empty
 | _ =>.empty
noncomputable def jQ:ByteArray:=EY (ax Tryz.f161 [1,0,0])
theorem sL:decide (jQ.size<4294967281)=true:=δ
theorem sK:jQ.size<4294967281:=of_decide_eq_true sL
noncomputable def b9:List ByteArray:=(fieldsD jQ.data.toList).map fun x=>⟨x.toArray⟩
noncomputable def iO(s:ByteArray):Int:=if 0≤idxOfS b9 s then 30+idxOfS b9 s else 0
theorem vX(w:World)(y:TabIs Tryz.prog w "strings.asciiSpace" IntKind.u8 asciiSpaceTab)(B:WhiteTab 7 w):
 Calls Tryz.prog 184 #[.string jQ] w fun e w'=>∃A,e=.returned (.slice (some ⟨A,0,none⟩) b9.length b9.length)∧A<w'.heap.size ∧
  (∀j,j<b9.length→w'.cell? ⟨A,0+j,none⟩=some (.string (b9.getD j ByteArray.empty)))∧Below w.heap.size w w':=by
 refine(Tryz.strings_Fields_any jQ w sK y B).mono ?_;rintro e w' ⟨A,rfl,E,d,C⟩;have el:(fieldsD jQ.data.toList).length=b9.length:=by unfold b9;rw[List.length_map]
 refine⟨A,by rw[el],?_,fun j u=>?_,C⟩
 ·rcases ϑ (fieldsD jQ.data.toList).length with q|q
  ·rcases d.2 with⟨h,_⟩|⟨g,l,v,h,_,D,_⟩
   ·cases h
   ·cases h;exact(ϱ.1 D).1
  ·obtain⟨g,l,h,_,x⟩:=d.form q
   cases h;exact x
 ·rw[Nat.zero_add,d.cellAt j (by rw[el];omega),List.getElem?_map]
  rw[←el]at u;unfold b9;simp[Ez u,List.getD]
theorem qI:b9.length≤1000:=of_decide_eq_true (show decide (b9.length≤1000)=true from δ)
theorem ke:∀(d:List ByteArray) (x:ByteArray) (k:Nat), -1≤idxFromS d x k∧idxFromS d x k≤k+d.length
 | [],x,k=>by simp[idxFromS]<;>omega
 | z::t,x,k=>by
  have g:=ke t x (k+1);simp only[idxFromS,List.length_cons];split<;>omega
theorem uW{w:World}(A:Nat)(s:ByteArray)(d:∀j,j<b9.length→w.cell? ⟨A,0+j,none⟩=some (.string (b9.getD j ByteArray.empty))):
 Calls Tryz.prog 183 #[.slice (some ⟨A,0,none⟩) b9.length b9.length,.string s] w fun e w'=>e=.returned (.int .i64 (idxOfS b9 s))∧w'=w:=by
 have h:=Tryz.slices_Index_string A 0 b9.length b9.length b9 s w (Γ _) (by have:=qI;omega) d
 rwa[List.take_length]at h
theorem rH{s:ByteArray}{w:World}(hT:TabIs Tryz.prog w "strings.asciiSpace" IntKind.u8 asciiSpaceTab)(hW:WhiteTab 7 w):
 Calls Tryz.prog 161 #[.string s] w fun e w'=>e=.returned (.int .i64 (iO s))∧Below w.heap.size w w':=by
 have hF:=hh (vX w hT hW);clear hT hW;obtain⟨i,hi⟩:∃i,i=idxOfS b9 s:=⟨_,rfl⟩;have Y:=(ke b9 s 0).1;have Z:=(ke b9 s 0).2;have af:=qI;rw[show idxFromS b9 s 0=idxOfS b9 s from rfl,←hi]at Y Z;have hR:iO s=if 0≤i then 30+i else 0:=by rw[hi];rfl
 have HI:=hh hi;have HR:=hh hR;clear hi hR;refine bL Tryz.func161 Tryz.ntmps161 rfl ξ fun a ad ac j=>?_
 have h0:At a 0 (.string s):=j 0 _ rfl;clear j
 conv=>arg 2;whnf
 refine so (fun V O=>aE (fun i=>i==2) a V∧O=w) ?_ ?_
 ·obtain⟨T,d⟩:=a
  refine rl ?_;with_reducible refine st ?_;refine ln ?_
  refine⟨rfl,?_,rfl⟩;exact ag
 rintro V O ⟨y,rfl⟩;have L:=y.size.trans ad;have I:=y.defers.trans ac;have j0:=y.Q7 h0 rfl;refine wp_seq (wp_seq (Code.wp_only (R:=fun C W=>aE (fun i=>i==3||i==4||i==5||i==6) V C∧At C 3 (.int .i64 i)∧Below O.heap.size O W) ?_ ?_))
 ·obtain⟨T,d⟩:=V
  refine rl ?_;with_reducible refine Lz (fun K E=>?_)
  go_simp;refine(show Calls Tryz.prog 184 #[.string jQ] O _ from hF.out).mono ?_;rintro e W ⟨A,rfl,hA,hc,g⟩;have X:=uW A s hc;rw[←HI.out]at X;have HX:=hh X;have HB:=hh g;clear X hc g;with_reducible refine E _ _ ?_;clear E K;refine st ?_;refine Lz (fun K E=>?_)
  go_simp;refine HX.out.mono ?_;rintro e Q ⟨rfl,rfl⟩;with_reducible refine E _ _ ?_;clear E K;refine st ?_;refine ln ?_
  refine⟨rfl,ag,aq,HB.out⟩
 rintro C W ⟨D,k3,g⟩;have N:=D.size.trans L;have J:=D.defers.trans I;obtain⟨b,H⟩:∃b,b=decide (0≤i):=⟨_,rfl⟩;refine so (fun v Q=>aE (fun i=>i==7||i==8) C v∧At v 8 (.bool b)∧Q=W) ?_ ?_
 ·obtain⟨T,d⟩:=C
  refine rl ?_
  iterate 2 with_reducible refine st ?_
  with_reducible refine ln ?_
  refine⟨rfl,?_,?_,rfl⟩
  ·exact ag
  ·rw[H]
   exact aq
 rintro v Q ⟨B,k8,rfl⟩;have u:=B.size.trans N;have q:=B.defers.trans J;have e8:=k8.eval χ;have j3:=B.Q7 k3 rfl
 cases b
 ·refine wp_cond_false e8 (wp_skip ?_)
  repeat with_reducible apply bK
  have l:¬ 0≤i:=of_decide_eq_false H.symm;refine so (fun x U=>aE (fun i=>i==2) v x∧At x 2 (.int .i64 0)∧U=Q) ?_ ?_
  ·clear H
   obtain⟨T,d⟩:=v;refine rl ?_;with_reducible refine st ?_;refine ln ?_
   refine⟨rfl,ag,aq,rfl⟩
  rintro x U ⟨h,k2,rfl⟩;refine wp_ret ?_;refine br (t:=2) rfl k2 (by rw[h.size,u];decide) (h.defers.trans q) ⟨by rw[HR.out,if_neg l],g⟩
 ·refine wp_cond_true e8 ?_
  have l:0≤i:=of_decide_eq_true H.symm;have hw:IntKind.i64.wrap (30+i)=30+i:=i64_in _ χ;refine so (fun x U=>aE (fun i=>i==2||i==9||i==10) v x∧At x 2 (.int .i64 (30+i))∧U=Q) ?_ ?_
  ·clear H l
   obtain⟨T,d⟩:=v;refine rl ?_
   iterate 3 with_reducible refine st ?_
   with_reducible refine ln ?_
   refine⟨rfl,ag,aq,rfl⟩
  rintro x U ⟨h,k2,rfl⟩;refine wp_ret ?_
  repeat with_reducible apply bY
  refine br (t:=2) rfl k2 (by rw[h.size,u];decide) (h.defers.trans q) ⟨by rw[HR.out,if_pos l],g⟩
