import Derived.Test.YthobcefghkeddaaGreatDoorScan2
import Derived.Test.YthobcefghkeddaaGreatDoorShelfL
set_option maxRecDepth 100000
set_option linter.all false
set_option maxHeartbeats 4000000
namespace Go.Proofs.YthobcefghkeddaaGreatDoor
open Go.RowKit Go.IntWalk Go.Lib
variable {w:World}
def Cg:Operand→ByteArray
 | .const (.string s)=>s
 | _ =>.empty
def Di:Op→ByteArray
 | .call c=>((c.args[0]?).map Cg).getD .empty
 | _ =>.empty
noncomputable def Dj:Code→ByteArray
 | .region _ ops _=>((ops[0]?).map fun o=>Di o.op).getD .empty
 | _ =>.empty
noncomputable def jA:ByteArray:=Dj (ay Tryz.f161 [1,0,0])
theorem rc:decide (jA.size<4294967281)=true:=δ
theorem rZ:jA.size<4294967281:=of_decide_eq_true rc
noncomputable def ax:List ByteArray:=(fieldsD jA.data.toList).map fun x=>⟨x.toArray⟩
noncomputable def hO(s:ByteArray):Int:=if 0≤idxOfS ax s then 30+idxOfS ax s else 0
theorem ua(w:World)(y:TabIs Tryz.prog w "strings.asciiSpace" IntKind.u8 asciiSpaceTab)(B:WhiteTab 7 w):
 Calls Tryz.prog 184 #[.string jA] w fun e w'=>∃A,e=.returned (.slice (some ⟨A,0,none⟩) ax.length ax.length)∧A<w'.heap.size ∧
  (∀j,j<ax.length→w'.cell? ⟨A,0+j,none⟩=some (.string (ax.getD j ByteArray.empty)))∧Below w.heap.size w w':=by
 refine(Tryz.strings_Fields_any jA w rZ y B).mono ?_;rintro e w' ⟨A,rfl,E,d,C⟩;have el:(fieldsD jA.data.toList).length=ax.length:=by unfold ax;rw[List.length_map]
 refine⟨A,by rw[el],?_,fun j u=>?_,C⟩
 ·rcases Nat.eq_zero_or_pos (fieldsD jA.data.toList).length with q|q
  ·rcases d.2 with⟨h,_⟩|⟨g,l,v,h,_,D,_⟩
   ·cases h
   ·cases h;exact(Array.getElem?_eq_some_iff.1 D).1
  ·obtain⟨g,l,h,_,x⟩:=d.form q
   cases h;exact x
 ·rw[Nat.zero_add,d.cellAt j (by rw[el];omega),List.getElem?_map]
  rw[←el]at u;unfold ax;simp[Ez u,List.getD]
theorem pc:ax.length≤1000:=of_decide_eq_true (show decide (ax.length≤1000)=true from δ)
theorem kL:∀(d:List ByteArray) (x:ByteArray) (k:Nat), -1≤idxFromS d x k∧idxFromS d x k≤k+d.length
 | [],x,k=>by simp[idxFromS]<;>omega
 | z::t,x,k=>by
  have g:=kL t x (k+1);simp only[idxFromS,List.length_cons];split<;>omega
theorem tU(A:Nat)(s:ByteArray)(d:∀j,j<ax.length→w.cell? ⟨A,0+j,none⟩=some (.string (ax.getD j ByteArray.empty))):
 Calls Tryz.prog 183 #[.slice (some ⟨A,0,none⟩) ax.length ax.length,.string s] w fun e w'=>e=.returned (.int .i64 (idxOfS ax s))∧w'=w:=by
 have h:=Tryz.slices_Index_string A 0 ax.length ax.length ax s w (Nat.le_refl _) (by have:=pc;omega) d
 rwa[List.take_length]at h
theorem qh{s:ByteArray}(hT:TabIs Tryz.prog w "strings.asciiSpace" IntKind.u8 asciiSpaceTab)(hW:WhiteTab 7 w):
 Calls Tryz.prog 161 #[.string s] w fun e w'=>e=.returned (.int .i64 (hO s))∧Below w.heap.size w w':=by
 have hF:=hh (ua w hT hW);clear hT hW;obtain⟨i,hi⟩:∃i,i=idxOfS ax s:=⟨_,rfl⟩;have Y:=(kL ax s 0).1;have Z:=(kL ax s 0).2;have af:=pc;rw[show idxFromS ax s 0=idxOfS ax s from rfl,←hi]at Y Z;have hR:hO s=if 0≤i then 30+i else 0:=by rw[hi];rfl
 have HI:=hh hi;have HR:=hh hR;clear hi hR;refine bK Tryz.func161 Tryz.ntmps161 rfl ξ fun a ad ac j=>?_
 have h0:At a 0 (.string s):=j 0 _ rfl;clear j
 conv=>arg 2;whnf
 refine so (fun V O=>aE (fun i=>i==2) a V∧O=w) ?_ ?_
 ·obtain⟨T,d⟩:=a
  refine rl ?_;with_reducible refine st ?_;refine ln ?_
  refine⟨rfl,?_,rfl⟩;exact ag
 rintro V O ⟨y,rfl⟩;have L:=y.size.trans ad;have I:=y.defers.trans ac;have j0:=y.Q7 h0 rfl;refine wp_seq (wp_seq (Code.wp_only (R:=fun C W=>aE (fun i=>i==3||i==4||i==5||i==6) V C∧At C 3 (.int .i64 i)∧Below O.heap.size O W) ?_ ?_))
 ·obtain⟨T,d⟩:=V
  refine rl ?_;with_reducible refine Lz (fun K E=>?_)
  go_simp;refine(show Calls Tryz.prog 184 #[.string jA] O _ from hF.out).mono ?_;rintro e W ⟨A,rfl,hA,hc,g⟩;have X:=tU A s hc;rw[←HI.out]at X;have HX:=hh X;have HB:=hh g;clear X hc g;with_reducible refine E _ _ ?_;clear E K;refine st ?_;refine Lz (fun K E=>?_)
  go_simp;refine HX.out.mono ?_;rintro e Q ⟨rfl,rfl⟩;with_reducible refine E _ _ ?_;clear E K;refine st ?_;refine ln ?_
  refine⟨rfl,ag,aq,HB.out⟩
 rintro C W ⟨D,k3,g⟩;have N:=D.size.trans L;have J:=D.defers.trans I;obtain⟨b,H⟩:∃b,b=decide (0≤i):=⟨_,rfl⟩;refine so (fun v Q=>aE (fun i=>i==7||i==8) C v∧At v 8 (.bool b)∧Q=W) ?_ ?_
 ·obtain⟨T,d⟩:=C
  refine rl ?_
  iterate 2 with_reducible refine st ?_
  with_reducible refine ln ?_
  refine⟨rfl,?_,?_,rfl⟩
  ·exact ag
  ·rw[H]
   exact aq
 rintro v Q ⟨B,k8,rfl⟩;have u:=B.size.trans N;have q:=B.defers.trans J;have e8:=k8.eval χ;have j3:=B.Q7 k3 rfl
 cases b
 ·refine wp_cond_false e8 (wp_skip ?_)
  repeat with_reducible apply bJ
  have l:¬ 0≤i:=of_decide_eq_false H.symm;refine so (fun x U=>aE (fun i=>i==2) v x∧At x 2 (.int .i64 0)∧U=Q) ?_ ?_
  ·clear H
   obtain⟨T,d⟩:=v;refine rl ?_;with_reducible refine st ?_;refine ln ?_
   refine⟨rfl,ag,aq,rfl⟩
  rintro x U ⟨h,k2,rfl⟩;refine wp_ret ?_;refine bk (t:=2) rfl k2 (by rw[h.size,u];decide) (h.defers.trans q) ⟨by rw[HR.out,if_neg l],g⟩
 ·refine wp_cond_true e8 ?_
  have l:0≤i:=of_decide_eq_true H.symm;have hw:IntKind.i64.wrap (30+i)=30+i:=i64_in _ χ;refine so (fun x U=>aE (fun i=>i==2||i==9||i==10) v x∧At x 2 (.int .i64 (30+i))∧U=Q) ?_ ?_
  ·clear H l
   obtain⟨T,d⟩:=v;refine rl ?_
   iterate 3 with_reducible refine st ?_
   with_reducible refine ln ?_
   refine⟨rfl,ag,aq,rfl⟩
  rintro x U ⟨h,k2,rfl⟩;refine wp_ret ?_
  repeat with_reducible apply ba
  refine bk (t:=2) rfl k2 (by rw[h.size,u];decide) (h.defers.trans q) ⟨by rw[HR.out,if_pos l],g⟩
def mr(s:ByteArray):Nat:=(s.data[0]?.getD 0).toNat
noncomputable def eC(QT:Nat→Nat)(s:ByteArray):Bool:=decide (s.size<1)||decide (32<s.size) || !decide (iN QT (mr s)=4) || !decide (hO s=0)
noncomputable def g8(QT:Nat→Nat)(s:ByteArray):Bool := !eC QT s && !decide (0≤idxFunc (kV QT) true s)
theorem xS{QT:Nat→Nat}{s:ByteArray}(hC:∀w',Below w.heap.size w w'→oy QT w')(hT:TabIs Tryz.prog w "strings.asciiSpace" IntKind.u8 asciiSpaceTab)(hW:WhiteTab 7 w):
 Calls Tryz.prog 146 #[.string s] w fun e w'=>e=.returned (.bool (g8 QT s))∧Below w.heap.size w w':=by
 have j:=hh (qh (s:=s) hT hW);have a8:=hh (hC w (Below.refl _ _));have C:=hh (fun W (V:Below w.heap.size w W)=>Tryz.strings_ContainsFunc_runes 163 #[] (enters_of Tryz.func163 δ rfl) (kV QT) s W (fun W' x hx be=>(rU (hC W' (V.trans (be.mono V.size))) x hx).mono fun e w' h=>⟨h.1,0,h.2⟩));clear hT hW hC;refine bK Tryz.func146 Tryz.ntmps146 rfl ξ fun a bg bf y=>?_
 have h0:At a 0 (.string s):=y 0 _ rfl;clear y
 conv=>arg 2;whnf
 refine so (fun U X=>aE (fun i=>i==2) a U∧X=w) ?_ ?_
 ·obtain⟨T,d⟩:=a
  refine rl ?_;with_reducible refine st ?_;refine ln ?_
  refine⟨rfl,?_,rfl⟩;exact ag
 rintro U X ⟨N,rfl⟩;have a3:=N.size.trans bg;have a0:=N.defers.trans bf;have j0:=N.Q7 h0 rfl;refine wp_seq (wp_seq (Code.wp_only (R:=fun J Y=>aE (fun i=>rg 3 21 i) U J∧At J 21 (.bool (eC QT s))∧Below X.heap.size X Y) ?_ ?_))
 ·have bl:=aU
  by_cases b1:s.size<1
  ·have B:Hid (eC QT s=true):=hh (by simp[eC,b1])
   have bb:(s.size:Int)<1:=χ
   clear j C;obtain⟨T,d⟩:=U;refine rl ?_
   iterate 19 with_reducible refine st ?_
   with_reducible refine ln ?_
   refine⟨rfl,?_,?_,Below.refl _ _⟩
   ·exact ag
   ·rw[B.out]
    exact aq
  ·have bb:¬ (s.size:Int)<1:=χ
   by_cases b2:32<s.size
   ·have B:Hid (eC QT s=true):=hh (by simp[eC,b2])
    have bc:(32:Int)<(s.size:Int):=χ
    clear j C;obtain⟨T,d⟩:=U;refine rl ?_
    iterate 19 with_reducible refine st ?_
    with_reducible refine ln ?_
    refine⟨rfl,?_,?_,Below.refl _ _⟩
    ·exact ag
    ·rw[B.out]
     exact aq
   ·have bc:¬ (32:Int)<(s.size:Int):=χ
    have hp:0<s.size:=χ
    have hf:(s[0]'hp).toNat=mr s:=by
     unfold mr;rw[show s[0]'hp=s.data[0]'hp from rfl,Array.getElem?_eq_getElem hp];rfl
    have E:=qP a8.out (mr s) (by rw[←hf];exact(s[0]'hp).toNat_lt);rw[←hf]at E;obtain⟨c,hc⟩:∃c,c=iN QT (s[0]'hp).toNat:=⟨_,rfl⟩;rw[←hc]at E;rw[hf]at hc;have af:=hh E;have ad:=hh hc;clear E hc hf;obtain⟨T,d⟩:=U;refine rl ?_
    by_cases b3:c=4
    ·obtain⟨r,hr⟩:∃r,r=hO s:=⟨_,rfl⟩
     obtain⟨b4,g⟩:∃b,b=!decide (r=0):=⟨_,rfl⟩;have B:Hid (eC QT s=b4):=hh (by rw[g,hr];simp[eC,b1,b2,←ad.out,b3]);have e4:(r !=0)=b4:=by rw[g];exact BS _ _
     have l:=j;rw[←hr]at l;have a9:=hh l.out;have bd:((c:Int)!=4)=false:=by rw[b3];rfl
     subst b3;clear g hr j l
     iterate 11 with_reducible refine st ?_
     with_reducible refine Lz (fun K v=>?_)
     go_simp;refine af.out.mono ?_;rintro e Y ⟨rfl,rfl⟩;with_reducible refine v _ _ ?_;clear v K
     iterate 4 with_reducible refine st ?_
     with_reducible refine Lz (fun K v=>?_)
     go_simp;refine a9.out.mono ?_;rintro e w3 ⟨rfl,an⟩;have a7:=hh an;clear an;with_reducible refine v _ _ ?_;clear v K
     iterate 2 with_reducible refine st ?_
     with_reducible refine ln ?_
     refine⟨rfl,?_,?_,a7.out⟩
     ·exact ag
     ·rw[B.out]
      exact aq
    ·have B:Hid (eC QT s=true):=hh (by simp[eC,b1,b2,←ad.out,b3])
     have bd:((c:Int)!=4)=true:=η
     clear j C b3
     iterate 11 with_reducible refine st ?_
     with_reducible refine Lz (fun K v=>?_)
     go_simp;refine af.out.mono ?_;rintro e Y ⟨rfl,rfl⟩;with_reducible refine v _ _ ?_;clear v K
     iterate 7 with_reducible refine st ?_
     with_reducible refine ln ?_
     refine⟨rfl,?_,?_,Below.refl _ _⟩
     ·exact ag
     ·rw[B.out]
      exact aq
 rintro J Y ⟨O,a5,D⟩;have I:=O.size.trans a3;have H:=O.defers.trans a0;have l0:=O.Q7 j0 rfl;obtain⟨b,V⟩:∃b,b=eC QT s:=⟨_,rfl⟩;rw[←V]at a5;have B:=hh V;clear V;have al:=a5.eval χ
 cases b
 ·refine wp_cond_false al (wp_skip ?_)
  repeat with_reducible apply bJ
  have Q:=C.out Y D;obtain⟨q,hq⟩:∃q,q=decide (0≤idxFunc (kV QT) true s):=⟨_,rfl⟩;rw[←hq]at Q;have HC:=hh Q;have HQ:=hh hq;have ac:=hh D;clear Q hq D;refine so (fun L Z=>aE (fun i=>i==2||i==22||i==23||i==24) J L∧At L 2 (.bool (!q))∧Below X.heap.size X Z) ?_ ?_
  ·obtain⟨T,d⟩:=J
   refine rl ?_;with_reducible refine st ?_;refine Lz (fun K v=>?_)
   go_simp;refine HC.out.mono ?_;rintro e Z ⟨rfl,g⟩;have a6:=hh g;clear g;with_reducible refine v _ _ ?_;clear v K
   iterate 2 with_reducible refine st ?_
   with_reducible refine ln ?_
   refine⟨rfl,ag,aq,ac.out.trans (a6.out.mono ac.out.size)⟩
  rintro L Z ⟨u,k2,g⟩;refine wp_ret ?_;refine bk (t:=2) rfl k2 (by rw[u.size,I];decide) (u.defers.trans H) ⟨by unfold g8;rw[←B.out,←HQ.out];rfl,g⟩
 ·refine wp_cond_true al ?_
  refine so (fun L Z=>aE (fun i=>i==2) J L∧At L 2 (.bool false)∧Z=Y) ?_ ?_
  ·obtain⟨T,d⟩:=J
   refine rl ?_;with_reducible refine st ?_;refine ln ?_
   refine⟨rfl,ag,aq,rfl⟩
  rintro L Z ⟨u,k2,rfl⟩;refine wp_ret ?_
  repeat with_reducible apply ba
  refine bk (t:=2) rfl k2 (by rw[u.size,I];decide) (u.defers.trans H) ⟨by unfold g8;rw[←B.out];rfl,D⟩
