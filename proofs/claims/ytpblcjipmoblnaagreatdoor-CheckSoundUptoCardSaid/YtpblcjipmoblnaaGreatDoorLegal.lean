import Derived.Test.YtpblcjipmoblnaaGreatDoorShelfL
import Derived.Test.YtpblcjipmoblnaaGreatDoorScan2
set_option maxRecDepth 100000
set_option linter.all false
set_option maxHeartbeats 4000000
namespace Go.Proofs.YtpblcjipmoblnaaGreatDoor
open Go.RowKit Go.IntWalk Go.Lib
variable {w:World}
def C0:Operand→ByteArray
 | .const (.string s)=>s
 | _ =>.empty
def Cf:Op→ByteArray
 | .call c=>((c.args[0]?).map C0).getD .empty
 | _ =>.empty
noncomputable def Cg:Code→ByteArray
 | .region _ ops _=>((ops[0]?).map fun o=>Cf o.op).getD .empty
 | _ =>.empty
noncomputable def jR:ByteArray:=Cg (bE Tryz.f153 [1,0,0])
theorem rX:decide (jR.size<4294967281)=true:=δ
theorem rW:jR.size<4294967281:=of_decide_eq_true rX
noncomputable def bK:List ByteArray:=(fieldsD jR.data.toList).map fun x=>⟨x.toArray⟩
noncomputable def iZ(s:ByteArray):Int:=if 0≤idxOfS bK s then 30+idxOfS bK s else 0
theorem uC(w:World)(v:TabIs Tryz.prog w "strings.asciiSpace" IntKind.u8 asciiSpaceTab)(x:WhiteTab 7 w):
 Calls Tryz.prog 166 #[.string jR] w fun e w'=>∃A,e=.returned (.slice (some ⟨A,0,none⟩) bK.length bK.length)∧A<w'.heap.size ∧
  (∀j,j<bK.length→w'.cell? ⟨A,0+j,none⟩=some (.string (bK.getD j ByteArray.empty)))∧Below w.heap.size w w':=by
 refine(Tryz.strings_Fields_any jR w rW v x).mono ?_;rintro e w' ⟨A,rfl,C,d,y⟩;have el:(fieldsD jR.data.toList).length=bK.length:=by unfold bK;rw[List.length_map]
 refine⟨A,by rw[el],?_,fun j q=>?_,y⟩
 ·rcases Nat.eq_zero_or_pos (fieldsD jR.data.toList).length with p|p
  ·rcases d.2 with⟨h,_⟩|⟨g,l,r,h,_,B,_⟩
   ·cases h
   ·cases h;exact(Array.getElem?_eq_some_iff.1 B).1
  ·obtain⟨g,l,h,_,u⟩:=d.form p
   cases h;exact u
 ·rw[Nat.zero_add,d.cellAt j (by rw[el];omega),List.getElem?_map]
  rw[←el]at q;unfold bK;simp[Ez q,List.getD]
theorem pY:bK.length≤1000:=of_decide_eq_true (show decide (bK.length≤1000)=true from δ)
theorem kg:∀(d:List ByteArray) (x:ByteArray) (k:Nat), -1≤idxFromS d x k∧idxFromS d x k≤k+d.length
 | [],x,k=>by simp[idxFromS]<;>omega
 | z::t,x,k=>by
  have g:=kg t x (k+1);simp only[idxFromS,List.length_cons];split<;>omega
theorem tE(A:Nat)(s:ByteArray)(d:∀j,j<bK.length→w.cell? ⟨A,0+j,none⟩=some (.string (bK.getD j ByteArray.empty))):
 Calls Tryz.prog 165 #[.slice (some ⟨A,0,none⟩) bK.length bK.length,.string s] w fun e w'=>e=.returned (.int .i64 (idxOfS bK s))∧w'=w:=by
 have h:=Tryz.slices_Index_string A 0 bK.length bK.length bK s w (Nat.le_refl _) (by have:=pY;omega) d
 rwa[List.take_length]at h
theorem qZ{s:ByteArray}(hT:TabIs Tryz.prog w "strings.asciiSpace" IntKind.u8 asciiSpaceTab)(hW:WhiteTab 7 w):
 Calls Tryz.prog 153 #[.string s] w fun e w'=>e=.returned (.int .i64 (iZ s))∧Below w.heap.size w w':=by
 have hF:=hh (uC w hT hW);clear hT hW;obtain⟨i,S⟩:∃i,i=idxOfS bK s:=⟨_,rfl⟩;have W:=(kg bK s 0).1;have X:=(kg bK s 0).2;have ac:=pY;rw[show idxFromS bK s 0=idxOfS bK s from rfl,←S]at W X;have hR:iZ s=if 0≤i then 30+i else 0:=by rw[S];rfl
 have HI:=hh S;have HR:=hh hR;clear S hR;refine b9 Tryz.func153 Tryz.ntmps153 rfl ξ fun a Z Y j=>?_
 have h0:At a 0 (.string s):=j 0 _ rfl;clear j
 conv=>arg 2;whnf
 refine so (fun Q L=>aA (fun i=>i==2) a Q∧L=w) ?_ ?_
 ·obtain⟨T,d⟩:=a
  refine rl ?_;with_reducible refine st ?_;refine ln ?_
  refine⟨rfl,?_,rfl⟩;exact ag
 rintro Q L ⟨v,rfl⟩;have I:=v.size.trans Z;have E:=v.defers.trans Y;have j0:=v.Q7 h0 rfl;refine wp_seq (wp_seq (Code.wp_only (R:=fun y U=>aA (fun i=>i==3||i==4||i==5||i==6) Q y∧At y 3 (.int .i64 i)∧Below L.heap.size L U) ?_ ?_))
 ·obtain⟨T,d⟩:=Q
  refine rl ?_;with_reducible refine Lz (fun K C=>?_)
  go_simp;refine(show Calls Tryz.prog 166 #[.string jR] L _ from hF.out).mono ?_;rintro e U ⟨A,rfl,hA,hc,g⟩;have V:=tE A s hc;rw[←HI.out]at V;have HX:=hh V;have HB:=hh g;clear V hc g;with_reducible refine C _ _ ?_;clear C K;refine st ?_;refine Lz (fun K C=>?_)
  go_simp;refine HX.out.mono ?_;rintro e N ⟨rfl,rfl⟩;with_reducible refine C _ _ ?_;clear C K;refine st ?_;refine ln ?_
  refine⟨rfl,ag,aq,HB.out⟩
 rintro y U ⟨B,k3,g⟩;have J:=B.size.trans I;have H:=B.defers.trans E;obtain⟨b,D⟩:∃b,b=decide (0≤i):=⟨_,rfl⟩;refine so (fun r N=>aA (fun i=>i==7||i==8) y r∧At r 8 (.bool b)∧N=U) ?_ ?_
 ·obtain⟨T,d⟩:=y
  refine rl ?_
  iterate 2 with_reducible refine st ?_
  with_reducible refine ln ?_
  refine⟨rfl,?_,?_,rfl⟩
  ·exact ag
  ·rw[D]
   exact aq
 rintro r N ⟨x,k8,rfl⟩;have q:=x.size.trans J;have p:=x.defers.trans H;have e8:=k8.eval χ;have j3:=x.Q7 k3 rfl
 cases b
 ·refine wp_cond_false e8 (wp_skip ?_)
  repeat with_reducible apply bu
  have l:¬ 0≤i:=of_decide_eq_false D.symm;refine so (fun u O=>aA (fun i=>i==2) r u∧At u 2 (.int .i64 0)∧O=N) ?_ ?_
  ·clear D
   obtain⟨T,d⟩:=r;refine rl ?_;with_reducible refine st ?_;refine ln ?_
   refine⟨rfl,ag,aq,rfl⟩
  rintro u O ⟨h,k2,rfl⟩;refine wp_ret ?_;refine bk (t:=2) rfl k2 (by rw[h.size,q];decide) (h.defers.trans p) ⟨by rw[HR.out,if_neg l],g⟩
 ·refine wp_cond_true e8 ?_
  have l:0≤i:=of_decide_eq_true D.symm;have hw:IntKind.i64.wrap (30+i)=30+i:=i64_in _ χ;refine so (fun u O=>aA (fun i=>i==2||i==9||i==10) r u∧At u 2 (.int .i64 (30+i))∧O=N) ?_ ?_
  ·clear D l
   obtain⟨T,d⟩:=r;refine rl ?_
   iterate 3 with_reducible refine st ?_
   with_reducible refine ln ?_
   refine⟨rfl,ag,aq,rfl⟩
  rintro u O ⟨h,k2,rfl⟩;refine wp_ret ?_
  repeat with_reducible apply bH
  refine bk (t:=2) rfl k2 (by rw[h.size,q];decide) (h.defers.trans p) ⟨by rw[HR.out,if_pos l],g⟩
def mt(s:ByteArray):Nat:=(s.data[0]?.getD 0).toNat
noncomputable def eT(QU:Nat→Nat)(s:ByteArray):Bool:=decide (s.size<1)||decide (32<s.size) || !decide (iv QU (mt s)=4) || !decide (iZ s=0)
noncomputable def gc(QU:Nat→Nat)(s:ByteArray):Bool := !eT QU s && !decide (0≤idxFunc (ku QU) true s)
theorem wT{QU:Nat→Nat}{s:ByteArray}(hC:∀w',Below w.heap.size w w'→oz QU w')(hT:TabIs Tryz.prog w "strings.asciiSpace" IntKind.u8 asciiSpaceTab)(hW:WhiteTab 7 w):
 Calls Tryz.prog 141 #[.string s] w fun e w'=>e=.returned (.bool (gc QU s))∧Below w.heap.size w w':=by
 have j:=hh (qZ (s:=s) hT hW);have a7:=hh (hC w (Below.refl _ _));have A:=hh (fun W (Q:Below w.heap.size w W)=>Tryz.strings_ContainsFunc_runes 155 #[] (enters_of Tryz.func155 δ rfl) (ku QU) s W (fun W' x hx bc=>(rO (hC W' (Q.trans (bc.mono Q.size))) x hx).mono fun e w' h=>⟨h.1,0,h.2⟩));clear hT hW hC;refine b9 Tryz.func141 Tryz.ntmps141 rfl ξ fun a be bd v=>?_
 have h0:At a 0 (.string s):=v 0 _ rfl;clear v
 conv=>arg 2;whnf
 refine so (fun O S=>aA (fun i=>i==2) a O∧S=w) ?_ ?_
 ·obtain⟨T,d⟩:=a
  refine rl ?_;with_reducible refine st ?_;refine ln ?_
  refine⟨rfl,?_,rfl⟩;exact ag
 rintro O S ⟨J,rfl⟩;have a0:=J.size.trans be;have af:=J.defers.trans bd;have j0:=J.Q7 h0 rfl;refine wp_seq (wp_seq (Code.wp_only (R:=fun H U=>aA (fun i=>rg 3 21 i) O H∧At H 21 (.bool (eT QU s))∧Below S.heap.size S U) ?_ ?_))
 ·have bf:=al
  by_cases b1:s.size<1
  ·have y:Hid (eT QU s=true):=hh (by simp[eT,b1])
   have a9:(s.size:Int)<1:=χ
   clear j A;obtain⟨T,d⟩:=O;refine rl ?_
   iterate 19 with_reducible refine st ?_
   with_reducible refine ln ?_
   refine⟨rfl,?_,?_,Below.refl _ _⟩
   ·exact ag
   ·rw[y.out]
    exact aq
  ·have a9:¬ (s.size:Int)<1:=χ
   by_cases b2:32<s.size
   ·have y:Hid (eT QU s=true):=hh (by simp[eT,b2])
    have ba:(32:Int)<(s.size:Int):=χ
    clear j A;obtain⟨T,d⟩:=O;refine rl ?_
    iterate 19 with_reducible refine st ?_
    with_reducible refine ln ?_
    refine⟨rfl,?_,?_,Below.refl _ _⟩
    ·exact ag
    ·rw[y.out]
     exact aq
   ·have ba:¬ (32:Int)<(s.size:Int):=χ
    have hp:0<s.size:=χ
    have hf:(s[0]'hp).toNat=mt s:=by
     unfold mt;rw[show s[0]'hp=s.data[0]'hp from rfl,Array.getElem?_eq_getElem hp];rfl
    have C:=qN a7.out (mt s) (by rw[←hf];exact(s[0]'hp).toNat_lt);rw[←hf]at C;obtain⟨c,hc⟩:∃c,c=iv QU (s[0]'hp).toNat:=⟨_,rfl⟩;rw[←hc]at C;rw[hf]at hc;have Z:=hh C;have Y:=hh hc;clear C hc hf;obtain⟨T,d⟩:=O;refine rl ?_
    by_cases b3:c=4
    ·obtain⟨r,hr⟩:∃r,r=iZ s:=⟨_,rfl⟩
     obtain⟨b4,g⟩:∃b,b=!decide (r=0):=⟨_,rfl⟩;have y:Hid (eT QU s=b4):=hh (by rw[g,hr];simp[eT,b1,b2,←Y.out,b3]);have e4:(r !=0)=b4:=by rw[g];exact Af _ _
     have l:=j;rw[←hr]at l;have a8:=hh l.out;have bb:((c:Int)!=4)=false:=by rw[b3];rfl
     subst b3;clear g hr j l
     iterate 11 with_reducible refine st ?_
     with_reducible refine Lz (fun K u=>?_)
     go_simp;refine Z.out.mono ?_;rintro e U ⟨rfl,rfl⟩;with_reducible refine u _ _ ?_;clear u K
     iterate 4 with_reducible refine st ?_
     with_reducible refine Lz (fun K u=>?_)
     go_simp;refine a8.out.mono ?_;rintro e w3 ⟨rfl,ad⟩;have a6:=hh ad;clear ad;with_reducible refine u _ _ ?_;clear u K
     iterate 2 with_reducible refine st ?_
     with_reducible refine ln ?_
     refine⟨rfl,?_,?_,a6.out⟩
     ·exact ag
     ·rw[y.out]
      exact aq
    ·have y:Hid (eT QU s=true):=hh (by simp[eT,b1,b2,←Y.out,b3])
     have bb:((c:Int)!=4)=true:=η
     clear j A b3
     iterate 11 with_reducible refine st ?_
     with_reducible refine Lz (fun K u=>?_)
     go_simp;refine Z.out.mono ?_;rintro e U ⟨rfl,rfl⟩;with_reducible refine u _ _ ?_;clear u K
     iterate 7 with_reducible refine st ?_
     with_reducible refine ln ?_
     refine⟨rfl,?_,?_,Below.refl _ _⟩
     ·exact ag
     ·rw[y.out]
      exact aq
 rintro H U ⟨L,a3,B⟩;have E:=L.size.trans a0;have D:=L.defers.trans af;have l0:=L.Q7 j0 rfl;obtain⟨b,Q⟩:∃b,b=eT QU s:=⟨_,rfl⟩;rw[←Q]at a3;have y:=hh Q;clear Q;have ac:=a3.eval χ
 cases b
 ·refine wp_cond_false ac (wp_skip ?_)
  repeat with_reducible apply bu
  have N:=A.out U B;obtain⟨q,hq⟩:∃q,q=decide (0≤idxFunc (ku QU) true s):=⟨_,rfl⟩;rw[←hq]at N;have HC:=hh N;have HQ:=hh hq;have X:=hh B;clear N hq B;refine so (fun I V=>aA (fun i=>i==2||i==22||i==23||i==24) H I∧At I 2 (.bool (!q))∧Below S.heap.size S V) ?_ ?_
  ·obtain⟨T,d⟩:=H
   refine rl ?_;with_reducible refine st ?_;refine Lz (fun K u=>?_)
   go_simp;refine HC.out.mono ?_;rintro e V ⟨rfl,g⟩;have a5:=hh g;clear g;with_reducible refine u _ _ ?_;clear u K
   iterate 2 with_reducible refine st ?_
   with_reducible refine ln ?_
   refine⟨rfl,ag,aq,X.out.trans (a5.out.mono X.out.size)⟩
  rintro I V ⟨p,k2,g⟩;refine wp_ret ?_;refine bk (t:=2) rfl k2 (by rw[p.size,E];decide) (p.defers.trans D) ⟨by unfold gc;rw[←y.out,←HQ.out];rfl,g⟩
 ·refine wp_cond_true ac ?_
  refine so (fun I V=>aA (fun i=>i==2) H I∧At I 2 (.bool false)∧V=U) ?_ ?_
  ·obtain⟨T,d⟩:=H
   refine rl ?_;with_reducible refine st ?_;refine ln ?_
   refine⟨rfl,ag,aq,rfl⟩
  rintro I V ⟨p,k2,rfl⟩;refine wp_ret ?_
  repeat with_reducible apply bH
  refine bk (t:=2) rfl k2 (by rw[p.size,E];decide) (p.defers.trans D) ⟨by unfold gc;rw[←y.out];rfl,B⟩
