import Derived.Test.YtpblcjipmoblnaaGreatDoorGreat
import Derived.Test.YtpblcjipmoblnaaGreatDoorPlansB
set_option maxRecDepth 100000
set_option linter.all false
set_option maxHeartbeats 4000000
namespace Go.Proofs.YtpblcjipmoblnaaGreatDoor.Rs
open Go.RowKit Go.Proofs.YtpblcjipmoblnaaGreatDoor Ck
variable {w:World}
theorem Now.elx{S:Sta}{E0:List (Nat×Nat×IE×Nat×Nat)}{κ:Kap}{N kk j z:Nat}{P:Program}{F:Fr}{M:Mm}{a:Act}{cl:List Cl}{vs:List Value}{g o:Nat}{H:Gh}{p:List Nat}(v:IE)(k:Nat)(q:v.den S=k)(h:Now S κ N P { EL:=E0 } H ⟨F,M,kk,p⟩ a w)(A:S.a j=some ⟨g,o,none⟩)(u:g<w.heap.size∧¬ H.T g)(hk:k<S.n j)(B:aL w g (o+k*z) vs)
 (hv:cl.map (Cl.den S fun _=>(0,0))=vs)(C:(St.sc ⟨F,M,kk,p⟩&&(cl.all (Cl.sc 0)&&E0.all fun x=>Nat.ble (x.2.2.2.2+1) kk))=true):
 ∃κ',eU kk κ κ'∧Now S κ' N P { EL:=(j,z,v,j,kk)::E0 } H ⟨F,(kk,cl)::M,kk+1,p⟩ a w:=by
 obtain⟨κ',D,n⟩:=h.elc k A u hk B hv C;refine⟨κ',D,n.has,n.mem,⟨ξ,fun y d=>?_,ξ,ξ,(fun _ _ _ _ r l h=>by cases h),ξ⟩,n.tb,n.gh⟩
 rcases List.mem_cons.1 d with d|d
 ·subst d
  have:=n.ctx.el (j,z,.c k,j,kk) (.head _);simp only[IE.den]at this⊢;rw[q];exact this
 ·exact n.ctx.el y (.tail _ d)
theorem Now.refr{S:Sta}{κ:Kap}{N:Nat}{P:Program}{C:Ctx}{H:Gh}{F:Fr}{M:Mm}{k:Nat}{e:List Nat}{a:Act}(h:Now S κ N P C H ⟨F,M,k,e⟩ a w)(F':Fr)(d:Re S κ F S κ F'):Now S κ N P C H ⟨F',M,k,e⟩ a w:=
 ⟨h.has.re d,h.mem,h.ctx,h.tb,h.gh⟩
def stS(P:aC):Sta where
 i _:=(pk P.QE).pos
 s _:=(pk P.QE).name
structure qy (P:aC):Prop where
 sta:P.QE.length=1
 start:(P.Q9.any fun x=>decide (x.name=(pk P.QE).name))=true
 lane:∀x∈P.Q9,∀y∈x.QH,(ax x.QM y).2.2=0∧y.QO≤3
 Qm:∀x∈P.Q9,∀(i j:Nat) (y z:Ck.cW),j<i→x.QH[i]?=some y→x.QH[j]?=some z→z.QO≠y.QO
 run:∀x∈P.Q9,∀y∈x.QH,∀r∈y.runs,r.QK=⟨#[]⟩∨∃(k:Nat) (z:aj),fR P r.QK=k∧P.Q3[k]?=some z∧z.QO=y.QO
 n:P.Q9.length≤16
 Qq:P.Q9.length<2∨P.QB.length=1
def pE:List (Nat×Nat×IE×Nat×Nat):=[(9,2,.c 0,9,1)]
def pF(l:Fr):Fr:=l++gF [(5,.one (.p 3 0)),(4,.one (.i .i64 (.x 32))),(3,.one (.b (.x 40)))]
def pM(l:Mm):Mm:=l++[(3,plC 40),(2,plC 40),(1,piC 24),(0,aa)]
theorem tQ{B:Nat}{v:aR}{P:aC}(h:ao B w v P)(hB:B≤w.heap.size)(hs:qy P):
 Calls Tryz.prog 29 #[.agg (v.cells P).toArray] w fun e w'=>e=.returned (.bool true)∧Kz w w':=by
 let S:=(cA v P).put 24 (stS P)
 have cs:Agr (lo 24) (cA v P) S:=aQ _ _ _;have s0:0<P.QE.length:=by rw[hs.sta];exact Nat.one_pos
 refine fnE S (fun _=>(0,0)) [.ag aa] Tryz.func29 Tryz.ntmps29 rfl
  (by rw[List.map_cons,b6 h cs];rfl) ψ H0 (fun _ h=>h.elim) trivial fun a hd hh=>?_
 refine am 3 (fun _=>true) ((4,.one (.i .i64 (.c 0)))::gF [(3,.one (.b (.c false)))]) [(0,aa)] 1 [] hPt δ hh fun κ1 a1 w1 n1 p1=>?_
 obtain⟨g,o,h1,h2,h3,h4⟩:=ai h.QE (aF _ _ _) hB p1.keep (mQ s0);obtain⟨κ2,hu,n2⟩:=n1.elc (j:=9) (cl:=piC 24) 0 h1 ⟨h2,id⟩ s0 h3 rfl δ;refine aM (sM pE n2 rfl P.Q9.length 32 4 7 (gF [(3,.one (.b (.x 33)))]) (fun _=>true) fl1 (fun k e _=>e=(P.Q9.take k).any fun x=>decide (x.name=(pk P.QE).name)) (fun _ _ _ _ _ h=>h) false hPt δ rfl (fC h.Q9) rfl (n2.has.re ⟨rfl,rfl,rfl,trivial⟩) ?_ ?_)
 ·intro k e a3 w3 hk n3 hA hK
  obtain⟨x,hx⟩:=ge hk;have xm:=List.mem_of_getElem? hx;have he:e=_:=n3.gh;have ad:=K3 p1.keep hK;obtain⟨g,o,h1,h2,v',h3,hm,_,cv,_⟩:=ai h.Q9 (dK B) hB ad hx;obtain⟨κ',c1,n4⟩:=n3.elem (j:=7) (x:=plS x v' (e||decide (x.name=(pk P.QE).name))) (cl:=plC 40) h1 ⟨h2,id⟩ hk h3
   (by show([.int .i64 x.pos,.string x.name,.int .u64 x.QM,.slice (vA v') x.QH.length (vC v')]:List Value)=_;rw[aU hm]) δ
  have n5:=n4.fa [(.x 33,e)] (fac rfl cS);refine aK (Cv 3 e (fun b=>{ EL:=(7,4,.x 32,7,2)::pE,FA:=[(.x 33,b)] }) (fun _=>true) (fun b=>(6,.one (.i .i64 (.c 0)))::gF [(5,.one (.p 3 0)),(4,.one (.i .i64 (.x 32))),(3,.one (.b (bif b then .c true else .seq (.x 40) (.x 24))))]) (pM []) 4 [] hPt δ δ n5 fun κ3 a4 w4 n6 p2=>?_);have n7:=(n6.fa [] cS).refr ((6,.one (.i .i64 (.c 0)))::pF []) ⟨rfl,rfl,rfl,rfl,by
   show Value.bool (BE.den _ (bif e then .c true else .seq (.x 40) (.x 24)))=.bool (e||decide (x.name=(pk P.QE).name))
   cases e with
   | true=>rfl
   | false=>exact congrArg Value.bool (aw x.name (pk P.QE).name),trivial⟩
  have cd:=Rs.K3 ad p2.keep;have bl:B≤w3.heap.size:=by have:=ad.size;omega
  refine aM (sM ((7,4,.x 32,7,2)::pE) n7 rfl x.QH.length 64 6 40 (pF []) (fun _=>true) (fun _:Unit=>{}) (fun _ _ _=>True) (fun _ _ _ _ _ h=>h) () hPt δ rfl (fC hm) trivial (n7.has.re ⟨rfl,rfl,rfl,rfl,rfl,trivial⟩) ?_ ?_)
  ·intro j e2 a5 w5 hj n8 Y C
   obtain⟨y,hy⟩:=ge hj;have ym:=List.mem_of_getElem? hy;obtain⟨f0,QO⟩:=hs.lane x xm y ym;have bo:=Rs.K3 cd C;obtain⟨g',o',b0,b4,A,cb,l,_⟩:=ai hm (cK B) bl (Rs.K3 p2.keep C) hy;obtain⟨κ4,c2,n9⟩:=n8.elem (j:=40) (x:=laS y A) (cl:=laC 72) b0 ⟨b4,id⟩ hj cb
    (by show([.int .i64 y.pos,.int .u64 y.QO,.bool y.needs,.slice (vA A) y.runs.length (vC A)]:List Value)=_;rw[aU l]) δ
   refine aK (am 1 (fun _=>true) (pF [(7,.one (.p 5 0)),(6,.one (.i .i64 (.x 64)))]) (pM [(5,laC 72),(4,laC 72)]) 6 [] hPt δ n9 fun κ5 a6 w6 c4 p3=>?_);have cf:=Rs.K3 bo p3.keep;have bm:B≤w5.heap.size:=by have:=bo.size;omega
   have cy:∀r∈y.runs,Run.Ok r:=bg l fun b o x hx=>hx.2
   refine tF 3 66 [.one (.i .u64 (.x 41)),.ag (laC 72)] (.tu [.v 88,.i .i64 (.x 89),.i .i64 (.c 0)]) 88 (fun _ _=>True) (fun _=>true) (pF [(10,.one (.i .i64 (.c 0))),(7,.one (.p 5 0)),(6,.one (.i .i64 (.x 64)))]) (pM [(5,laC 72),(4,laC 72)]) 6 δ c4 (fun w' K=>?_) fun κ6 a7 w7 d _ _ _ c5 p4=>?_
   ·have bp:=Rs.K3 p3.keep K
    have bt:=l.below (aF _ _ _) (bp.below bm fun _ _ e=>e);rw[←aU l]at bt;have hl:y.runs.length≤140737488351232:=by obtain⟨_,_,_,_,hl,_⟩:=l;unfold top at hl;omega
    refine(oK x.QM y.needs (vA A) (vC A) y.runs y.pos y.QO w' cv (fun r l=>(cy r l).2.imp_right And.left) hl (qX bt (by have:=bp.size;omega))).mono fun e c9 ⟨v3,he,_,hb⟩=>⟨{ o:=fun _=>v3,i:=fun _=>(Ln.co x.QM y.needs y.runs).2.1 },trivial,?_,aD.of_below hb fun i hi c8=>χ⟩
    subst he;have f1:(Ln.co x.QM y.needs y.runs).2.2=0:=f0;rw[f1];rfl
   have ci:=Rs.K3 cf p4.keep;have c6:=c5.fa [(.cmp .gtr (.x 73) (.c 3),false)] (fac (decide_eq_false (by show ¬ (y.QO:Int)>3;omega)) cS);refine am 3 (fun _=>true) (pF [(11,.one (.i .i64 (.c 0))),(7,.one (.p 5 0)),(6,.one (.i .i64 (.x 64)))]) (pM [(5,laC 72),(4,laC 72)]) 6 [] hPt δ c6 fun κ7 a8 w8 R p5=>?_
   have cm:=Rs.K3 ci p5.keep;have R:=R.downR (pF [(11,.one (.i .i64 (.c 0))),(7,.one (.p 5 0)),(6,.one (.i .i64 (.x 64)))]) ⟨rfl,rfl,rfl,rfl,rfl,rfl,rfl,trivial⟩ δ;refine aM (wd R j 96 11 (.x 64) (pF [(7,.one (.p 5 0)),(6,.one (.i .i64 (.x 64)))]) (fun _=>true) (fun _:Unit=>{}) (fun _ _ _=>True) (fun _ _ _ _ _ h=>h) () hPt δ rfl (by have:=fC hm;omega) trivial (R.has.re ⟨rfl,rfl,rfl,rfl,rfl,rfl,rfl,trivial⟩) ?_ ?_)
   ·intro i e3 a9 w9 hi af Z D
    obtain⟨z,hz⟩:=ge (show i<x.QH.length by omega);obtain⟨g2,o2,L,N,v3,O,Q,_⟩:=ai hm (cK B) bl (Rs.K3 (Rs.K3 (Rs.K3 (Rs.K3 (Rs.K3 p2.keep C) p3.keep) p4.keep) p5.keep) D) hz;obtain⟨κ8,J,a0⟩:=af.elem (j:=40) (x:=laS z v3) (cl:=laC 104) L ⟨N,id⟩ (show i<x.QH.length by omega) O
     (by show([.int .i64 z.pos,.int .u64 z.QO,.bool z.needs,.slice (vA v3) z.runs.length (vC v3)]:List Value)=_;rw[aU Q]) δ
    have U:=a0.fa [(.cmp .eql (.x 105) (.x 73),false)] (fac (by show((z.QO:Int)==(y.QO:Int))=false;rw[beq_eq_false_iff_ne];have:=hs.Qm x xm j i y z hi hy hz;omega) cS);refine aK (am 2 (fun _=>true) (fx 96 11 (pF [(7,.one (.p 5 0)),(6,.one (.i .i64 (.x 64)))])) [] 7 [] hPt δ U fun κ9 bc bx E V=>cI rfl ?_);exact⟨(),κ9,trivial,fun r l=>(V.upto r (by show r<7;omega)).trans (J r l),E.has.on (cG _ 96 _ _ _).symm δ,Z.trans V.agree (fun _ h=>h),Rs.K3 D V.keep⟩
   intro e3 a9 w9 af Z D;have a0:=af.downR (pF [(7,.one (.p 5 0)),(6,.one (.i .i64 (.x 64)))]) ⟨rfl,rfl,rfl,rfl,rfl,rfl,trivial⟩ δ;refine am 1 (fun _=>true) (pF [(12,.one (.i .i64 (.c 0))),(7,.one (.p 5 0)),(6,.one (.i .i64 (.x 64)))]) (pM [(5,laC 72),(4,laC 72)]) 6 [] hPt δ a0 fun κ8 bc bx U V=>?_
   have cp:=Rs.K3 (Rs.K3 cm D) V.keep;refine aM (gq U y.runs.length 96 12 72 (pF [(7,.one (.p 5 0)),(6,.one (.i .i64 (.x 64)))]) (fun _=>true) (fun _:Unit=>{}) (fun _ _ _=>True) (fun _ _ _ _ _ h=>h) () hPt δ rfl (fC l) trivial (U.has.re ⟨rfl,rfl,rfl,rfl,rfl,rfl,rfl,trivial⟩) ?_ ?_)
   ·intro i e4 bd bz hi E ac u
    obtain⟨r,Q⟩:=ge hi;have I:=Rs.K3 cp u;obtain⟨g2,o2,L,N,O,_⟩:=ai l (aF _ _ _) bm (Rs.K3 (Rs.K3 (Rs.K3 (Rs.K3 (Rs.K3 p3.keep p4.keep) p5.keep) D) V.keep) u) Q;have bw:∀{κ9 X:Kap} {d:Sta} {H:Act} {W:World} {kk:Nat},eU 6 κ8 κ9→6≤kk→kp H0.T κ9 X kk (fun _=>true) bd H bz W→Has (((S.put 32 (((fl1 e).put 8 (plS x v' (e||decide (x.name=(pk P.QE).name)))).cnt k)).put 64 ((Sta.put {} 8 (laS y A)).cnt j)).put 96 ((Sta.put {} 8 d).cnt i)) X 134 (fx 96 12 (pF [(7,.one (.p 5 0)),(6,.one (.i .i64 (.x 64)))])) H →
     gj ((S.put 32 (((fl1 e).put 8 (plS x v' (e||decide (x.name=(pk P.QE).name)))).cnt k)).put 64 ((Sta.put {} 8 (laS y A)).cnt j)) κ8 134 96 6 (fx 96 12 (pF [(7,.one (.p 5 0)),(6,.one (.i .i64 (.x 64)))])) (fun _=>true) (fun _:Unit=>{}) H0.T (fun _ _ _=>True) i bc bx H W:=
     fun u1 u2 p7 q2=>⟨(),_,trivial,fun r l=>(p7.upto r χ).trans (u1 r l),q2.on (cG _ 96 _ _ _).symm δ,ac.trans p7.agree (fun _ h=>h),Rs.K3 u p7.keep⟩
    have bf:∀d,Agr (lo 24) (cA v P) (((S.put 32 (((fl1 e).put 8 (plS x v' (e||decide (x.name=(pk P.QE).name)))).cnt k)).put 64 ((Sta.put {} 8 (laS y A)).cnt j)).put 96 d):=fun d=>((mj _ _ _).trans ((aQ _ 64 _).mono yj)).trans ((aQ _ 96 _).mono fun j hj=>Nat.ble_eq_true_of_le (Nat.le_trans (Nat.le_of_ble_eq_true (yj j hj)) ψ))
    rcases hs.run x xm y ym r (List.mem_of_getElem? Q)with er|⟨q,z,q1,q2,q3⟩
    ·obtain⟨κ9,J,a2⟩:=E.elem (j:=72) (x:=ruS r (fR P r.QK)) (cl:=ruC 104) L ⟨N,id⟩ hi O rfl δ
     have ba:=a2.more [(.seq (.x 104) (.c ⟨#[]⟩),true)] [(32,[.ag aa,.one (.s (.x 104))],.one (.i .i64 (.x 107)))] []
      (fac (bq (decide_eq_true er)) cS)
      (by
       intro q hq w' K;obtain rfl:=List.mem_singleton.1 hq;exact cn h hB (Rs.K3 I K) (bf _) r.QK rfl rfl)
      (fun i x hx=>by cases hx)
     exact aK (am 3 (fun _=>true) (fx 96 12 (pF [(7,.one (.p 5 0)),(6,.one (.i .i64 (.x 64)))])) [] 7 [] hPt δ ba fun X H W bb p7=>cI rfl (bw (kk:=7) J χ p7 bb.has))
    ·have cw:q<P.Q3.length:=(List.getElem?_eq_some_iff.1 q2).1
     obtain⟨g5,o5,b3,b5,v5,u5,cc,cu,cx,_⟩:=ai h.Q3 (bX B) hB I q2;obtain⟨κ9,J,a2⟩:=E.elem (j:=72) (x:=(ruS r (fR P r.QK)).put 8 (kV z v5 u5)) (cl:=ruC 104) L ⟨N,id⟩ hi O rfl δ;obtain⟨X,c3,ba⟩:=a2.elx (j:=3) (cl:=jQ 112) (.x 107) q (by exact q1) b3 ⟨b5,id⟩ cw cc
      (by show([.int .i64 z.pos,.string z.name,.int .u64 z.QO,.bool z.stopped,.slice (vA v5) z.QF.length (vC v5),.slice (vA u5) z.QN.length (vC u5)]:List Value)=_;rw[aU cu,aU cx]) δ
     obtain⟨be,ee⟩:∃b,decide (r.QK=⟨#[]⟩)=b:=⟨_,rfl⟩;have bb:=ba.more [(.seq (.x 104) (.c ⟨#[]⟩),be),(.cmp .lss (.x 107) (.c 0),false),(.cmp .neq (.x 113) (.x 73),false)] [(32,[.ag aa,.one (.s (.x 104))],.one (.i .i64 (.x 107)))] []
      (fac (bq ee) (fac (decide_eq_false (by show ¬ fR P r.QK<0;omega)) (fac (by show((z.QO:Int)!=(y.QO:Int))=false;rw[q3];simp) cS)))
      (by
       intro q hq w' K;obtain rfl:=List.mem_singleton.1 hq;exact cn h hB (Rs.K3 I K) (bf _) r.QK rfl rfl)
      (fun i x hx=>by cases hx)
     cases be<;>
      exact aK (am 3 (fun _=>true) (fx 96 12 (pF [(7,.one (.p 5 0)),(6,.one (.i .i64 (.x 64)))])) [] 8 [] hPt δ bb fun di H W c7 p7=>cI rfl (bw (kk:=8) (fun r l=>(c3 r χ).trans (J r l)) χ p7 c7.has))
   intro e4 bd bz E ac u;exact cI rfl ⟨(),κ8,trivial,fun r l=>(V.upto r (by show r<6;omega)).trans ((p5.upto r (by show r<6;omega)).trans ((p4.upto r (by show r<6;omega)).trans ((p3.upto r (by show r<5;omega)).trans (c2 r l)))),E.has.re ⟨rfl,rfl,rfl,rfl,rfl,trivial⟩,
    (((((Y.trans p3.agree (fun _ h=>h)).trans p4.agree (fun _ h=>h)).trans p5.agree (fun _ h=>h)).trans Z (fun _ h=>h)).trans V.agree (fun _ h=>h)).trans ac (fun _ h=>h),Rs.K3 (Rs.K3 (Rs.K3 (Rs.K3 (Rs.K3 (Rs.K3 C p3.keep) p4.keep) p5.keep) D) V.keep) u⟩
  ·intro e2 a5 w5 n8 Y C
   refine cI rfl ⟨e||decide (x.name=(pk P.QE).name),κ3,?_,fun r l=>(p2.upto r (by show r<3;omega)).trans (c1 r l),n8.has.re ⟨rfl,rfl,rfl,trivial⟩,(hA.trans p2.agree (fun _ h=>h)).trans Y (fun _ h=>h),Rs.K3 (Rs.K3 hK p2.keep) C⟩;show _=(P.Q9.take (k+1)).any _;rw[gJ hx,he]
 ·intro e a3 w3 n3 hA hK
  have he:e=_:=n3.gh;rw[List.take_length,hs.start]at he;subst he;obtain⟨b1,e1⟩:∃b,decide ((P.Q9.length:Int)<2)=b:=⟨_,rfl⟩;obtain⟨b2,e2⟩:∃b,((P.QB.length:Int)==1)=b:=⟨_,rfl⟩;have n4:=n3.fa [(.x 33,true),(.cmp .leq (.ln 7) (.c 16),true),(.cmp .lss (.ln 7) (.c 2),b1),(.cmp .eql (.ln 8) (.c 1),b2)] (fac rfl (fac (decide_eq_true (by show(P.Q9.length:Int)≤16;have:=hs.n;omega)) (fac e1 (fac e2 cS))));have hd:=hA.defers.trans (p1.agree.defers.trans hd)
  cases b1 with
  | true =>
   refine eJ 2 (fun _=>true) [(2,.one (.b (.c true)))] [] 2 [] hPt δ n4 fun κ3 a5 w5 n p=>?_
   exact fX 2 rfl n.has rfl (p.agree.defers.trans hd) ⟨rfl,Rs.K3 (K3 p1.keep hK) p.keep⟩
  | false =>
   obtain rfl:b2=true:=by rw[←e2,beq_iff_eq];have:=of_decide_eq_false e1;have:=hs.Qq;omega
   refine eJ 2 (fun _=>true) [(2,.one (.b (.cmp .eql (.ln 8) (.c 1))))] [] 2 [] hPt δ n4 fun κ3 a5 w5 n p=>?_
   refine fX 2 rfl n.has rfl (p.agree.defers.trans hd) ⟨?_,Rs.K3 (K3 p1.keep hK) p.keep⟩;show Ending.returned (.bool ((P.QB.length:Int)==1))=_;rw[e2]
end Go.Proofs.YtpblcjipmoblnaaGreatDoor.Rs
namespace Go.Proofs.YtpblcjipmoblnaaGreatDoor
open Go.RowKit Go.IntWalk Ck
variable {B:Nat} {w:World}
def bs(l:List UInt8):ByteArray:=⟨l.toArray⟩
def fT:aC:={
 pos:=0
 name:=bs [115]
 QG:=[⟨1,65536,65536⟩]
 Q4:=[]
 Q5:=[⟨2,bs [114],4096,false,0,false,false,0,false,ByteArray.empty⟩]
 Q3:=[⟨3,bs [97],0,false,[⟨4,bs [114],4096,true,false⟩],[]⟩]
 Q8:=[]
 QJ:=[]
 QC:=[]
 Q9:=[⟨5,bs [112],10,[⟨6,0,false,[⟨7,bs [97],10,0⟩]⟩]⟩]
 QB:=[]
 QE:=[⟨8,bs [112]⟩]
 QA:=[]
 QD:=[] }
def me:aC:=⟨3,ByteArray.empty,[],[],[],[],[],[],[],[],[],[],[],[]⟩
theorem bR{α:Type}{k:Nat}{R:World→Nat→Nat→α→Prop}:aJ B k R w (.slice none 0 0) []:=⟨none,0,rfl,Nat.le_refl _,by unfold top;simp,fun h=>by simp at h⟩
theorem db{α:Type}{k:Nat}{R:World→Nat→Nat→α→Prop}{b:Nat}{x:α}(g:b<B)(h:R w b 0 x):aJ B k R w (.slice (some ⟨b,0,none⟩) 1 1) [x]:=
 ⟨_,1,rfl,Nat.le_refl _,by unfold top;simp,fun _=>⟨b,0,rfl,g,fun i y d=>by
  match i,d with
  | 0,d=>obtain rfl:x=y:=Option.some.inj d;simpa using h
  | i+1,d=>simp at d⟩⟩
theorem dT{b:Nat}{l:List Value}{t:TypeId}(h:w.heap[b]?=some (.cells l.toArray t (0,0))):aL w b 0 l:=fun j v hv=>by
 rw[Nat.zero_add,cell_of_row _ _ _ _ _ _ h]
 simpa using hv
def v0(z:Nat):aR:={
 QG := .slice (some ⟨z+1,0,none⟩) 1 1
 Q4 := .slice none 0 0
 Q5 := .slice (some ⟨z+1+1,0,none⟩) 1 1
 Q3 := .slice (some ⟨z+1+1+1+1,0,none⟩) 1 1
 Q8 := .slice none 0 0
 QJ := .slice none 0 0
 QC := .slice none 0 0
 Q9 := .slice (some ⟨z+1+1+1+1+1+1+1,0,none⟩) 1 1
 QB := .slice none 0 0
 QE := .slice (some ⟨z+1+1+1+1+1+1+1+1,0,none⟩) 1 1
 QA := .slice none 0 0
 QD := .slice none 0 0 }
def vZ:aR:=⟨.slice none 0 0,.slice none 0 0,.slice none 0 0,.slice none 0 0,.slice none 0 0,.slice none 0 0,.slice none 0 0,.slice none 0 0,.slice none 0 0,.slice none 0 0,.slice none 0 0,.slice none 0 0⟩
theorem AK(B:Nat)(w:World):ao B w vZ me:=⟨bR,bR,bR,bR,bR,bR,bR,bR,bR,bR,bR,bR,by unfold dU me;simp,by unfold aX me;simp⟩
def jx(z:Nat):List Obj:=
 [.cells ((v0 z).cells fT).toArray 34,.cells (Ck.Ram.cells ⟨1,65536,65536⟩).toArray 41,.cells (Ck.Region.cells ⟨2,bs [114],4096,false,0,false,false,0,false,bs []⟩).toArray 48,
  .cells (Ck.Map.cells ⟨4,bs [114],4096,true,false⟩).toArray 71,.cells #[.int .i64 3,.string (bs [97]),.int .u64 0,.bool false,.slice (some ⟨z+1+1+1,0,none⟩) 1 1,.slice none 0 0] 52,
  .cells (Run.cells ⟨7,bs [97],10,0⟩).toArray 108,.cells #[.int .i64 6,.int .u64 0,.bool false,.slice (some ⟨z+1+1+1+1+1,0,none⟩) 1 1] 92,
  .cells #[.int .i64 5,.string (bs [112]),.int .u64 10,.slice (some ⟨z+1+1+1+1+1+1,0,none⟩) 1 1] 62,.cells (Ck.fY.cells ⟨8,bs [112]⟩).toArray 78]
theorem qP:∀(os:List Obj) (w:World),(os.foldl World.alloc w).heap.size=w.heap.size+os.length∧(∀i o,os[i]?=some o→(os.foldl World.alloc w).heap[w.heap.size+i]?=some o)∧Kz w (os.foldl World.alloc w)
 | [],w=>⟨rfl,fun i o h=>by simp at h,aD.refl _ _⟩
 | o::os,w=>by
  obtain⟨l,p,d⟩:=qP os (w.alloc o);have g:(w.alloc o).heap.size=w.heap.size+1:=ξ
  have j:(w.alloc o).heap[w.heap.size]?=some o:=heap_alloc_new _ _;refine⟨by rw[List.foldl_cons,l,g,List.length_cons];omega,fun i x hx=>?_,((aD.refl _ _).alloc _).trans d (fun _ _ e=>e)⟩
  cases i with
  | zero =>
   obtain rfl:o=x:=Option.some.inj hx;rw[List.foldl_cons,Nat.add_zero,d.block _ χ (fun e=>e)];exact j
  | succ i =>
   have:=p i x hx;rw[g,Nat.add_assoc,Nat.add_comm 1 i]at this;exact this
theorem ni{z:Nat}(h:∀i o,(jx z)[i]?=some o→w.heap[z+i]?=some o)(d:z+9≤B):ao B w (v0 z) fT:={
 QG:=db (b:=z+1) χ ⟨dT (h 1 _ rfl),by simp[Ck.Ram.Ok,dU,lim,ByteArray.size]⟩
 Q4:=bR
 Q5:=db (b:=z+1+1) χ ⟨dT (h 2 _ rfl),by simp[Ck.Region.Ok,dU,aX,bs,lim,ByteArray.size]⟩
 Q3:=db (b:=z+1+1+1+1) χ ⟨_,_,dT (h 4 _ rfl),db (b:=z+1+1+1) χ ⟨dT (h 3 _ rfl),by simp[Ck.Map.Ok,dU,aX,bs,lim,ByteArray.size]⟩,bR,by simp[dU,aX,bs,lim,ByteArray.size]⟩
 Q8:=bR
 QJ:=bR
 QC:=bR
 Q9:=db (b:=z+1+1+1+1+1+1+1) χ ⟨_,dT (h 7 _ rfl),db (b:=z+1+1+1+1+1+1) χ ⟨_,dT (h 6 _ rfl),
  db (b:=z+1+1+1+1+1) χ ⟨dT (h 5 _ rfl),by simp[Run.Ok,dU,aX,bs,lim,ByteArray.size]⟩,by simp[dU,lim,ByteArray.size]⟩,by simp[dU,aX,bs,lim,ByteArray.size]⟩
 QB:=bR
 QE:=db (b:=z+1+1+1+1+1+1+1+1) χ ⟨dT (h 8 _ rfl),by simp[Ck.fY.Ok,dU,aX,bs,lim,ByteArray.size]⟩
 QA:=bR
 QD:=bR
 pos:=by simp[fT,dU,lim,ByteArray.size]
 name:=by simp[fT,aX,bs,lim,ByteArray.size] }
theorem yF{fn:Func}{R:Ending→World→Prop}{a:Act}{t z:Nat}{v:aR}{P:aC}(h:fn.results = #[.cell t 34])(H:At a t (.pointer (some ⟨z,0,none⟩)))(E:t<a.tmps.size)(d:aL w z 0 (v.cells P))(D:a.defers=[])
 (q:R (.returned (.agg (v.cells P).toArray)) w):bodyPost Tryz.prog fn R .ret a w:=by
 refine bodyPost_ret (v := .agg (v.cells P).toArray) ?_ D q;have e:a.tmps.getD t undef=.pointer (some ⟨z,0,none⟩):=H.eval E;have c0:=d 0 _ rfl;have c1:=d 1 _ rfl;have c2:=d 2 _ rfl;have r:=d 3 _ rfl;have u:=d 4 _ rfl;have x:=d 5 _ rfl;have y:=d 6 _ rfl;have A:=d 7 _ rfl;have B:=d 8 _ rfl;have C:=d 9 _ rfl;have g:=d 10 _ rfl;have j:=d 11 _ rfl;have l:=d 12 _ rfl;have p:=d 13 _ rfl;simp only[Nat.zero_add]at c0 c1 c2 r u x y A B C g j l p;clear d q;unfold results;simp only[h];go_simp;rfl
theorem pv(w:World):Calls Tryz.prog 33 #[] w fun e w'=>∃z,e=.returned (.agg ((v0 z).cells fT).toArray)∧w.heap.size≤z∧z+9≤w'.heap.size∧(∀i o,(jx z)[i]?=some o→w'.heap[z+i]?=some o)∧Kz w w':=by
 obtain⟨g,h,j⟩:=qP (jx w.heap.size) w;have l:=hh g;have d:=hh h;have p:=hh j;clear g h j
 go_enter Tryz.func33,Tryz.ntmps33
 go_wp2
 exact yF (z:=w.heap.size) (t:=0) rfl (fun _=>rfl) (show(0:Nat)<18 by decide) (dT (d.out 0 _ rfl)) rfl ⟨w.heap.size,rfl,Nat.le_refl _,Nat.le_of_eq l.out.symm,d.out,p.out⟩
