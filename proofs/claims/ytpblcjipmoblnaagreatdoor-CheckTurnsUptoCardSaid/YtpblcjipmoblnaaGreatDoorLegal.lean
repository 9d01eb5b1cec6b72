import Derived.Test.YtpblcjipmoblnaaGreatDoorSmap
import Derived.Test.YtpblcjipmoblnaaGreatDoorShelfL
import Derived.Test.YtpblcjipmoblnaaGreatDoorWho
set_option maxRecDepth 100000
set_option maxHeartbeats 4000000
set_option linter.unusedVariables false
set_option linter.unusedSimpArgs false
set_option linter.unnecessarySimpa false
namespace Go.Proofs.YtpblcjipmoblnaaGreatDoor
open Go.RowKit Go.IntWalk Go.Lib
variable {w:World}
def yf:Operand→ByteArray
 | .const (.string s)=>s
 | _ =>.empty
def yx:Op→ByteArray
 | .call c=>((c.args[0]?).map yf).getD .empty
 | _ =>.empty
noncomputable def yy:Code→ByteArray
 | .region _ ops _=>((ops[0]?).map fun o=>yx o.op).getD .empty
 | _ =>.empty
noncomputable def ik:ByteArray:=yy (al Tryz.f153 [1,0,0])
theorem pk:decide (ik.size<4294967281)=true:=by kernel_rfl
theorem pj:ik.size<4294967281:=of_decide_eq_true pk
noncomputable def bP:List ByteArray:=(fieldsD ik.data.toList).map fun x=>⟨x.toArray⟩
noncomputable def i9(s:ByteArray):Int:=if 0≤idxOfS bP s then 30+idxOfS bP s else 0
theorem rx(w:World)(p:TabIs Tryz.prog w "strings.asciiSpace" IntKind.u8 asciiSpaceTab)(q:WhiteTab 7 w):
 Calls Tryz.prog 166 #[.string ik] w fun e w'=>∃A,e=.returned (.slice (some ⟨A,0,none⟩) bP.length bP.length)∧A<w'.heap.size ∧
  (∀j,j<bP.length→w'.cell? ⟨A,0+j,none⟩=some (.string (bP.getD j ByteArray.empty)))∧Below w.heap.size w w':=by
 refine(Tryz.strings_Fields_any ik w pj p q).mono ?_;rintro e w' ⟨A,rfl,v,a,r⟩;have d:(fieldsD ik.data.toList).length=bP.length:=by unfold bP;rw[List.length_map]
 refine⟨A,by rw[d],?_,fun j i=>?_,r⟩
 ·rcases Nat.eq_zero_or_pos (fieldsD ik.data.toList).length with h|h
  ·rcases a.2 with⟨b,_⟩|⟨g,cap,l,b,_,u,_⟩
   ·cases b
   ·cases b;exact(Array.getElem?_eq_some_iff.1 u).1
  ·obtain⟨g,cap,b,_,n⟩:=a.form h
   cases b;exact n
 ·rw[Nat.zero_add,a.cellAt j (by rw[d];omega),List.getElem?_map]
  rw[←d]at i;unfold bP;simp[Ez i,List.getD]
theorem ng:bP.length≤1000:=of_decide_eq_true (show decide (bP.length≤1000)=true from by kernel_rfl)
theorem ji:∀(a:List ByteArray) (x:ByteArray) (k:Nat), -1≤idxFromS a x k∧idxFromS a x k≤k+a.length
 | [],x,k=>by simp[idxFromS]<;>omega
 | z::t,x,k=>by
  have b:=ji t x (k+1);simp only[idxFromS,List.length_cons];split<;>omega
theorem rI(A:Nat)(s:ByteArray)(a:∀j,j<bP.length→w.cell? ⟨A,0+j,none⟩=some (.string (bP.getD j ByteArray.empty))):
 Calls Tryz.prog 165 #[.slice (some ⟨A,0,none⟩) bP.length bP.length,.string s] w fun e w'=>e=.returned (.int .i64 (idxOfS bP s))∧w'=w:=by
 have h:=Tryz.slices_Index_string A 0 bP.length bP.length bP s w (Nat.le_refl _) (by have:=ng;omega) a
 rwa[List.take_length]at h
theorem om{s:ByteArray}(hT:TabIs Tryz.prog w "strings.asciiSpace" IntKind.u8 asciiSpaceTab)(hW:WhiteTab 7 w):
 Calls Tryz.prog 153 #[.string s] w fun e w'=>e=.returned (.int .i64 (i9 s))∧Below w.heap.size w w':=by
 have hF:=hh (rx w hT hW);clear hT hW;obtain⟨i,N⟩:∃i,i=idxOfS bP s:=⟨_,rfl⟩;have S:=(ji bP s 0).1;have U:=(ji bP s 0).2;have ac:=ng;rw[show idxFromS bP s 0=idxOfS bP s from rfl,←N]at S U;have hR:i9 s=if 0≤i then 30+i else 0:=by rw[N];rfl
 have HI:=hh N;have Y:=hh hR;clear N hR;refine az Tryz.func153 Tryz.ntmps153 rfl (by simp) fun a W V j=>?_
 have h0:At a 0 (.string s):=j 0 _ rfl;clear j
 conv=>arg 2;whnf
 refine so (fun M I=>aA (fun i=>i==2) a M∧I=w) ?_ ?_
 ·obtain⟨T,d⟩:=a
  refine rl ?_;with_reducible refine st ?_;refine ln ?_
  refine⟨rfl,?_,rfl⟩;exact ag
 rintro M I ⟨u,rfl⟩;have G:=u.size.trans W;have D:=u.defers.trans V;have j0:=u.Q7 h0 rfl;refine wp_seq (wp_seq (Code.wp_only (R:=fun x O=>aA (fun i=>i==3||i==4||i==5||i==6) M x∧At x 3 (.int .i64 i)∧Below I.heap.size I O) ?_ ?_))
 ·obtain⟨T,d⟩:=M
  refine rl ?_;with_reducible refine Lz (fun K B=>?_)
  go_simp;refine(show Calls Tryz.prog 166 #[.string ik] I _ from hF.out).mono ?_;rintro e O ⟨A,rfl,hA,hc,g⟩;have Q:=rI A s hc;rw[←HI.out]at Q;have HX:=hh Q;have HB:=hh g;clear Q hc g;with_reducible refine B _ _ ?_;clear B K;refine st ?_;refine Lz (fun K B=>?_)
  go_simp;refine HX.out.mono ?_;rintro e J ⟨rfl,rfl⟩;with_reducible refine B _ _ ?_;clear B K;refine st ?_;refine ln ?_
  refine⟨rfl,ag,aq,HB.out⟩
 rintro x O ⟨y,k3,g⟩;have H:=y.size.trans G;have E:=y.defers.trans D;obtain⟨b,C⟩:∃b,b=decide (0≤i):=⟨_,rfl⟩;refine so (fun q J=>aA (fun i=>i==7||i==8) x q∧At q 8 (.bool b)∧J=O) ?_ ?_
 ·obtain⟨T,d⟩:=x
  refine rl ?_
  iterate 2 with_reducible refine st ?_
  with_reducible refine ln ?_
  refine⟨rfl,?_,?_,rfl⟩
  ·exact ag
  ·rw[C]
   exact aq
 rintro q J ⟨v,k8,rfl⟩;have p:=v.size.trans H;have n:=v.defers.trans E;have Z:=k8.eval (by omega);have j3:=v.Q7 k3 rfl
 cases b
 ·refine wp_cond_false Z (wp_skip ?_)
  repeat with_reducible apply aY
  have l:¬ 0≤i:=of_decide_eq_false C.symm;refine so (fun r L=>aA (fun i=>i==2) q r∧At r 2 (.int .i64 0)∧L=J) ?_ ?_
  ·clear C
   obtain⟨T,d⟩:=q;refine rl ?_;with_reducible refine st ?_;refine ln ?_
   refine⟨rfl,ag,aq,rfl⟩
  rintro r L ⟨h,X,rfl⟩;refine wp_ret ?_;refine b9 (t:=2) rfl X (by rw[h.size,p];decide) (h.defers.trans n) ⟨by rw[Y.out,if_neg l],g⟩
 ·refine wp_cond_true Z ?_
  have l:0≤i:=of_decide_eq_true C.symm;have hw:IntKind.i64.wrap (30+i)=30+i:=i64_in _ (by omega);refine so (fun r L=>aA (fun i=>i==2||i==9||i==10) q r∧At r 2 (.int .i64 (30+i))∧L=J) ?_ ?_
  ·clear C l
   obtain⟨T,d⟩:=q;refine rl ?_
   iterate 3 with_reducible refine st ?_
   with_reducible refine ln ?_
   refine⟨rfl,ag,aq,rfl⟩
  rintro r L ⟨h,X,rfl⟩;refine wp_ret ?_
  repeat with_reducible apply bG
  refine b9 (t:=2) rfl X (by rw[h.size,p];decide) (h.defers.trans n) ⟨by rw[Y.out,if_pos l],g⟩
def lL(s:ByteArray):Nat:=(s.data[0]?.getD 0).toNat
noncomputable def eV(QV:Nat→Nat)(s:ByteArray):Bool:=decide (s.size<1)||decide (32<s.size) || !decide (iP QV (lL s)=4) || !decide (i9 s=0)
noncomputable def gG(QV:Nat→Nat)(s:ByteArray):Bool := !eV QV s && !decide (0≤idxFunc (jo QV) true s)
theorem tr{QV:Nat→Nat}{s:ByteArray}(hC:∀w',Below w.heap.size w w'→mw QV w')(hT:TabIs Tryz.prog w "strings.asciiSpace" IntKind.u8 asciiSpaceTab)(hW:WhiteTab 7 w):
 Calls Tryz.prog 141 #[.string s] w fun e w'=>e=.returned (.bool (gG QV s))∧Below w.heap.size w w':=by
 have j:=hh (om (s:=s) hT hW);have an:=hh (hC w (Below.refl _ _));have y:=hh (fun W (M:Below w.heap.size w W)=>Tryz.strings_ContainsFunc_runes 155 #[] (enters_of Tryz.func155 (by kernel_rfl) rfl) (jo QV) s W (fun W' x hx a7=>(pZ (hC W' (M.trans (a7.mono M.size))) x hx).mono fun e w' h=>⟨h.1,0,h.2⟩));clear hT hW hC;refine az Tryz.func141 Tryz.ntmps141 rfl (by simp) fun a a9 a8 u=>?_
 have h0:At a 0 (.string s):=u 0 _ rfl;clear u
 conv=>arg 2;whnf
 refine so (fun L N=>aA (fun i=>i==2) a L∧N=w) ?_ ?_
 ·obtain⟨T,d⟩:=a
  refine rl ?_;with_reducible refine st ?_;refine ln ?_
  refine⟨rfl,?_,rfl⟩;exact ag
 rintro L N ⟨H,rfl⟩;have ac:=H.size.trans a9;have Z:=H.defers.trans a8;have j0:=H.Q7 h0 rfl;refine wp_seq (wp_seq (Code.wp_only (R:=fun E O=>aA (fun i=>rg 3 21 i) L E∧At E 21 (.bool (eV QV s))∧Below N.heap.size N O) ?_ ?_))
 ·have bb:=aJ
  by_cases b1:s.size<1
  ·have v:Hid (eV QV s=true):=hh (by simp[eV,b1])
   have a3:(s.size:Int)<1:=by omega
   clear j y;obtain⟨T,d⟩:=L;refine rl ?_
   iterate 19 with_reducible refine st ?_
   with_reducible refine ln ?_
   refine⟨rfl,?_,?_,Below.refl _ _⟩
   ·exact ag
   ·rw[v.out]
    exact aq
  ·have a3:¬ (s.size:Int)<1:=by omega
   by_cases b2:32<s.size
   ·have v:Hid (eV QV s=true):=hh (by simp[eV,b2])
    have a5:(32:Int)<(s.size:Int):=by omega
    clear j y;obtain⟨T,d⟩:=L;refine rl ?_
    iterate 19 with_reducible refine st ?_
    with_reducible refine ln ?_
    refine⟨rfl,?_,?_,Below.refl _ _⟩
    ·exact ag
    ·rw[v.out]
     exact aq
   ·have a5:¬ (32:Int)<(s.size:Int):=by omega
    have hp:0<s.size:=by omega
    have hf:(s[0]'hp).toNat=lL s:=by
     unfold lL;rw[show s[0]'hp=s.data[0]'hp from rfl,Array.getElem?_eq_getElem hp];rfl
    have B:=oP an.out (lL s) (by rw[←hf];exact(s[0]'hp).toNat_lt);rw[←hf]at B;obtain⟨c,hc⟩:∃c,c=iP QV (s[0]'hp).toNat:=⟨_,rfl⟩;rw[←hc]at B;rw[hf]at hc;have V:=hh B;have U:=hh hc;clear B hc hf;obtain⟨T,d⟩:=L;refine rl ?_
    by_cases b3:c=4
    ·obtain⟨r,hr⟩:∃r,r=i9 s:=⟨_,rfl⟩
     obtain⟨b4,g⟩:∃b,b=!decide (r=0):=⟨_,rfl⟩;have v:Hid (eV QV s=b4):=hh (by rw[g,hr];simp[eV,b1,b2,←U.out,b3]);have e4:(r !=0)=b4:=by rw[g];exact iJ _ _
     have l:=j;rw[←hr]at l;have a0:=hh l.out;have a6:((c:Int)!=4)=false:=by rw[b3];rfl
     subst b3;clear g hr j l
     iterate 11 with_reducible refine st ?_
     with_reducible refine Lz (fun K p=>?_)
     go_simp;refine V.out.mono ?_;rintro e O ⟨rfl,rfl⟩;with_reducible refine p _ _ ?_;clear p K
     iterate 4 with_reducible refine st ?_
     with_reducible refine Lz (fun K p=>?_)
     go_simp;refine a0.out.mono ?_;rintro e w3 ⟨rfl,Y⟩;have ah:=hh Y;clear Y;with_reducible refine p _ _ ?_;clear p K
     iterate 2 with_reducible refine st ?_
     with_reducible refine ln ?_
     refine⟨rfl,?_,?_,ah.out⟩
     ·exact ag
     ·rw[v.out]
      exact aq
    ·have v:Hid (eV QV s=true):=hh (by simp[eV,b1,b2,←U.out,b3])
     have a6:((c:Int)!=4)=true:=by simp;omega
     clear j y b3
     iterate 11 with_reducible refine st ?_
     with_reducible refine Lz (fun K p=>?_)
     go_simp;refine V.out.mono ?_;rintro e O ⟨rfl,rfl⟩;with_reducible refine p _ _ ?_;clear p K
     iterate 7 with_reducible refine st ?_
     with_reducible refine ln ?_
     refine⟨rfl,?_,?_,Below.refl _ _⟩
     ·exact ag
     ·rw[v.out]
      exact aq
 rintro E O ⟨I,ad,A⟩;have D:=I.size.trans ac;have C:=I.defers.trans Z;have l0:=I.Q7 j0 rfl;obtain⟨b,M⟩:∃b,b=eV QV s:=⟨_,rfl⟩;rw[←M]at ad;have v:=hh M;clear M;have X:=ad.eval (by omega)
 cases b
 ·refine wp_cond_false X (wp_skip ?_)
  repeat with_reducible apply aY
  have J:=y.out O A;obtain⟨q,hq⟩:∃q,q=decide (0≤idxFunc (jo QV) true s):=⟨_,rfl⟩;rw[←hq]at J;have HC:=hh J;have HQ:=hh hq;have S:=hh A;clear J hq A;refine so (fun G Q=>aA (fun i=>i==2||i==22||i==23||i==24) E G∧At G 2 (.bool (!q))∧Below N.heap.size N Q) ?_ ?_
  ·obtain⟨T,d⟩:=E
   refine rl ?_;with_reducible refine st ?_;refine Lz (fun K p=>?_)
   go_simp;refine HC.out.mono ?_;rintro e Q ⟨rfl,g⟩;have af:=hh g;clear g;with_reducible refine p _ _ ?_;clear p K
   iterate 2 with_reducible refine st ?_
   with_reducible refine ln ?_
   refine⟨rfl,ag,aq,S.out.trans (af.out.mono S.out.size)⟩
  rintro G Q ⟨n,k2,g⟩;refine wp_ret ?_;refine b9 (t:=2) rfl k2 (by rw[n.size,D];decide) (n.defers.trans C) ⟨by unfold gG;rw[←v.out,←HQ.out];rfl,g⟩
 ·refine wp_cond_true X ?_
  refine so (fun G Q=>aA (fun i=>i==2) E G∧At G 2 (.bool false)∧Q=O) ?_ ?_
  ·obtain⟨T,d⟩:=E
   refine rl ?_;with_reducible refine st ?_;refine ln ?_
   refine⟨rfl,ag,aq,rfl⟩
  rintro G Q ⟨n,k2,rfl⟩;refine wp_ret ?_
  repeat with_reducible apply bG
  refine b9 (t:=2) rfl k2 (by rw[n.size,D];decide) (n.defers.trans C) ⟨by unfold gG;rw[←v.out];rfl,A⟩
end Go.Proofs.YtpblcjipmoblnaaGreatDoor
