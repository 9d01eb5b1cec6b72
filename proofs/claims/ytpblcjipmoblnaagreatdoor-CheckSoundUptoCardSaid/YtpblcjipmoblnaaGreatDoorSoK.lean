import Derived.Test.YtpblcjipmoblnaaGreatDoorSoQ
import Derived.Test.YtpblcjipmoblnaaGreatDoorNKnown
set_option maxRecDepth 100000
set_option linter.all false
set_option maxHeartbeats 4000000
namespace Go.Proofs.YtpblcjipmoblnaaGreatDoor
open Go.RowKit Ck
theorem fb.row{n0 z:Nat}{w:World}{v:aR}{P:aC}{old cs:Array Value}(j:fb (Dm n0 w) w v P)(p:w.heap[z]?=some (.cells old 34 (0,0)))(u:n0≤z):ao w.heap.size (w.setRow z cs) v P:=by
 have q:=l8 (cs:=cs) p;have r:cD w z=some 34:=by unfold cD;rw[p]
 have g:∀T b,Dm n0 w T b→b<w.heap.size:=fun T b d=>d.1
 have h:∀T,T≠34→ah (Dm n0 w T) w (w.setRow z cs):=fun T l=>ah.of_keep q fun b d=>⟨d.1,d.ne u r l⟩
 exact fb.below ⟨aH j.QG (fun b d=>g _ b d) (h _ ψ),bv.same j.Q4 (fun b d=>g _ b d) (h _ ψ) (fun T _ b d=>g T b d) (fun T l=>h T (by subst l;decide)),aH j.Q5 (fun b d=>g _ b d) (h _ ψ),bI.same j.Q3 (fun b d=>g _ b d) (h _ ψ) (fun T _ b d=>g T b d) (fun T l=>h T (by rcases l with rfl|rfl<;>decide)),aH j.Q8 (fun b d=>g _ b d) (h _ ψ),aH j.QJ (fun b d=>g _ b d) (h _ ψ),aH j.QC (fun b d=>g _ b d) (h _ ψ),cE.same j.Q9 (fun b d=>g _ b d) (h _ ψ) (fun T _ b d=>g T b d) (fun T l=>h T (by rcases l with rfl|rfl<;>decide)),aH j.QB (fun b d=>g _ b d) (h _ ψ),aH j.QE (fun b d=>g _ b d) (h _ ψ),aH j.QA (fun b d=>g _ b d) (h _ ψ),aH j.QD (fun b d=>g _ b d) (h _ ψ),j.pos,j.name⟩
end Go.Proofs.YtpblcjipmoblnaaGreatDoor
namespace Go.Proofs.YtpblcjipmoblnaaGreatDoor.Rs
open Go.RowKit Go.Proofs.YtpblcjipmoblnaaGreatDoor Ck
theorem yq{B:Nat}{w w':World}{S:Sta}{κ:Kap}(d:jI B w)(h:B≤w.heap.size)(hk:Kz w w'):
 Calls Tryz.prog 8 (([]:List SV).map (SV.den S κ)).toArray w' fun e g=>e=.returned ((SV.one (.b (.c true))).den S κ)∧Kz w' g:=
 tq ((d.below (hk.below (B:=B) h fun _ _ e=>e)).mono (Nat.le_trans h hk.size))
def skS(P:aC)(a x:Int):Sta where
 i j:=match j with|0=>a|1=>x|_=>pages ax P
theorem vk{B:Nat}{w:World}{v:aR}{P:aC}(hp:ao B w v P)(cb:jI B w)(hB:B≤w.heap.size):
 Calls Tryz.prog 6 #[.agg (v.cells P).toArray] w fun e w'=>e=.returned (.bool true)∧Kz w w':=by
 refine b9 Tryz.func6 Tryz.ntmps6 rfl (by show 1≤140;decide) fun a cf hd h=>aK ?_
 have h0:At a 0 (.agg (v.cells P).toArray):=h 0 _ rfl;clear h;refine aM (Code.wp_only (R:=fun a1 w1=>aA (fun i=>i==1||i==2) a a1∧At a1 1 (.pointer (some ⟨w.heap.size,0,none⟩))∧w1=w.alloc (.cells (v.cells P).toArray 34)) ?_ ?_)
 ·conv=>arg 2;whnf
  have cy:aA (fun i=>i==1||i==2) a a:=aA.refl _ _;have h0:At a 0 (.agg #[.int .i64 P.pos,.string P.name,v.QG,v.Q4,v.Q5,v.Q3,v.Q8,v.QJ,v.QC,v.Q9,v.QB,v.QE,v.QA,v.QD]):=h0;obtain⟨T,d⟩:=a;refine rl ?_
  iterate 2 with_reducible refine st ?_
  refine ln ⟨rfl,ag,aq,rfl⟩
 rintro a1 w1 ⟨bm,h1,rfl⟩;have I:(w.alloc (.cells (v.cells P).toArray 34)).heap[w.heap.size]?=some (.cells (v.cells P).toArray 34 (0,0)):=heap_alloc_new _ _;have a0:Kz w (w.alloc (.cells (v.cells P).toArray 34)):=(aD.refl _ _).alloc _;have bz:=bm.defers.trans hd;have bl:=bm.size.trans cf
 generalize w.alloc (.cells (v.cells P).toArray 34)=w1 at I a0
 have bw:∀{v:aR} {B:Nat} {w1:World} {a1:Act},a1.tmps.size=140→At a1 1 (.pointer (some ⟨w.heap.size,0,none⟩))→w1.heap[w.heap.size]?=some (.cells (v.cells P).toArray 34 (0,0))→ao B w1 v P→Now (cA v P) (fun _=>(w.heap.size,0)) 140 Tryz.prog {} H0 ⟨[(1,.one (.p 0 0))],[(0,aa)],1,[]⟩ a1 w1:=fun{v B w1 a1} hs h1 hr hp =>
  ⟨⟨hs,fun t u ht=>by
   rw[bD]at ht;split at ht
   ·rename_i e;subst e;obtain rfl:=Option.some.inj ht
    rw[Array.getElem?_eq_getElem χ,h1];rfl
   ·cases ht⟩,⟨fun r l bc=>by
   rw[fN]at bc;split at bc
   ·rename_i e;subst e;obtain rfl:=Option.some.inj bc
    refine⟨⟨aG hr,id⟩,fun j c hj=>?_⟩;show w1.cell? ⟨w.heap.size,0+j,none⟩=_;rw[cell_of_row _ _ _ _ _ _ hr];show(v.cells P).toArray[0+j]?=_;rw[←jw hp (fun _=>(w.heap.size,0)),Nat.zero_add,List.getElem?_toArray,List.getElem?_map,hj];rfl
   ·cases bc⟩,Rs.noC _ _ _ _ _,fun _ h=>h.elim,trivial⟩
 have n1:=bw bl h1 I (ao.kept hp hB a0);refine tF 1 9 [.ag aa] (.one (.b (.x 24))) 24 (fun _ _=>True) (fun _=>true) [(9,.one (.b (.x 24))),(1,.one (.p 0 0))] [(0,aa)] 1 δ n1 (fun w' A=>?_) fun κ2 a2 w2 d _ _ _ n2 p2=>?_
 ·rw[List.map_cons,b6 hp (Agr.refl _ _)]
  have hk:=K3 a0 A;refine(wa (ao.kept hp hB hk) (by have:=hk.size;omega)).mono fun e cx ⟨b,he,C⟩=>⟨{ b:=fun _=>b },trivial,he,C⟩
 have C:=K3 a0 p2.keep;have Q:=(p2.keep.block _ (aG I) id).trans I;have H:=p2.agree.defers.trans bz;have fin:∀{E:List (Nat×Nat×IE×Nat×Nat)} {S:Sta} {κ:Kap} {F:Fr} {M:Mm} {k:Nat} {w2:World} {a2:Act},Kz w w2→Now S κ 140 Tryz.prog { EL:=E } H0 ⟨F,M,k,[]⟩ a2 w2→∀FA:List (BE×Bool),(∀x∈FA,x.1.den S=x.2)→Now S κ 140 Tryz.prog { EL:=E,FA:=FA,CT:=[(8,[],.one (.b (.c true)))] } H0 ⟨F,M,k,[]⟩ a2 w2:=fun hk n FA hF =>
  n.more FA _ [] hF (fun x hx w' A=>by obtain rfl:=List.mem_singleton.1 hx;exact yq cb hB (K3 hk A)) (fun i x hx=>by cases hx)
 obtain⟨b,hb⟩:∃b,d.b 0=b:=⟨_,rfl⟩;have n3:=fin C n2 [(.x 24,b)] (fac hb cS)
 cases b with
 | true =>
  refine eJ 1 (fun _=>true) [(2,.one (.b (.c true)))] [] 1 [] hPt δ n3 fun κ3 a3 w3 n4 W=>?_
  exact fX 2 rfl n4.has rfl (W.agree.defers.trans H) ⟨rfl,K3 C W.keep⟩
 | false =>
  refine am 1 (fun _=>true) [(1,.one (.p 0 0))] [(0,aa)] 1 [] hPt δ n3 fun κ3 a3 w3 n4 W=>?_
  have hκ:κ3 0=(w.heap.size,0):=(W.upto 0 ψ).trans (p2.upto 0 ψ);have g1:=n4.has.get 1 (.one (.p 0 0)) rfl;have g2:a3.tmps[1]?=some (.pointer (some ⟨w.heap.size,0,none⟩)):=by rw[g1];show some (Value.pointer (some ⟨(κ3 0).1,(κ3 0).2+0,none⟩))=_;rw[hκ]
  have U:=(W.keep.block _ (aG Q) id).trans Q;have b0:=K3 C W.keep;have af:=W.agree.defers.trans H;have bd:=n4.has.size;clear n1 n2 n3 n4 p2 W bm h1 I Q h0 cf bl;refine aM (Code.wp_only (R:=fun a4 Z=>∃D,a4.tmps.size=140∧a4.defers=[]∧At a4 1 (.pointer (some ⟨w.heap.size,0,none⟩))∧Z.heap[w.heap.size]?=some (.cells (D.cells P).toArray 34 (0,0))∧ao Z.heap.size Z D P∧Kz w Z) ?_ ?_)
  ·refine rl ?_
   have e1:a3.eval (.tmp 1)=.pointer (some ⟨w.heap.size,0,none⟩):=by show a3.tmps.getD 1 undef=_;rw[Array.getD_eq_getD_getElem?,g2];rfl
   refine wpList_load_row rfl 34 (.tmp 1) rfl w.heap.size e1 34 (v.cells P).toArray (0,0) _ U Tryz.underlying34 rfl Tryz.info34C ?_;refine wpList_plain rfl fun K hK=>?_
   unfold Oper.wp;have e2:(a3.put (some 11) (.agg (v.cells P).toArray)).eval (.tmp 11)=.agg (v.cells P).toArray:=At.eval At.put_self (by simp[Act.put,bd]);rw[execOp_call_go,kD δ];simp only[List.map_toArray,List.map_cons,List.map_nil,e2];refine(uJ (R0:=fun z c=>z=w.heap.size∧c=(v.cells P).toArray) hp hB b0 (fun z c ⟨L,X⟩=>by subst L X;exact U)).mono fun e Z ⟨D,he,L,_,q3,q4⟩=>?_
   subst he;refine hK _ _ ?_;have O:=q4 _ _ ⟨rfl,rfl⟩;refine wpList_store_row rfl 34 (.tmp 1) (.tmp 12) rfl w.heap.size (D.cells P).toArray ?_ (At.eval At.put_self (by simp[Act.put,bd])) 34 _ O Tryz.info34C rfl L.ones (ln ?_)
   ·show((a3.tmps.setIfInBounds 11 _).setIfInBounds 12 _).getD 1 undef=_
    rw[Array.getD_eq_getD_getElem?,Array.getElem?_setIfInBounds_ne ψ,Array.getElem?_setIfInBounds_ne ψ,g2];rfl
   ·refine⟨rfl,D,by simpa[Act.put]using bd,af,?_,setRow_heap Z _ _ _ _ _ O,?_,q3.trans (l8 O) fun i hi e=>χ⟩
    ·intro hh
     have:((a3.tmps.setIfInBounds 11 (Value.agg (v.cells P).toArray)).setIfInBounds 12 (Value.agg (D.cells P).toArray))[1]?=some (.pointer (some ⟨w.heap.size,0,none⟩)):=by
      rw[Array.getElem?_setIfInBounds_ne ψ,Array.getElem?_setIfInBounds_ne ψ,g2]
     exact(Array.getElem?_eq_some_iff.1 this).2
    ·have:=L.row (cs:=(D.cells P).toArray) O (Nat.le_refl _)
     rwa[show(Z.setRow w.heap.size (D.cells P).toArray).heap.size=Z.heap.size by simp]
  rintro a4 Z ⟨D,cd,bb,h4,O,p,a9⟩;clear b0 af bd U g1 g2 hκ bz H a0 C;have n1:=bw cd h4 O p;clear bw;have ba:=Nat.le_refl Z.heap.size;have Y:∀{w5},Kz Z w5→ao Z.heap.size w5 D P∧Z.heap.size≤w5.heap.size:=fun hk=>⟨ao.kept p ba hk,hk.size⟩
  refine tF 1 21 [.ag aa] (.tu [.i .i64 (.x 24),.i .i64 (.x 25)]) 24 (fun d _=>∃a x,jm (dF (fj kn) ax P) a x∧d=skS P a x) (fun _=>true) [(4,.one (.i .i64 (.x 25))),(1,.one (.p 0 0))] [(0,aa)] 1 δ n1 (fun w' A=>?_) fun κ2 a2 w2 d _ H _ n2 p2=>?_
  ·rw[List.map_cons,b6 p (Agr.refl _ _)]
   obtain⟨L,X⟩:=Y A;refine(mF kb L ((cb.below ((K3 a9 A).below (B:=B) hB fun _ _ e=>e)).mono (Nat.le_trans hB a9.size)) X).mono fun e cx ⟨⟨a,x,he,ht⟩,C⟩=>⟨_,⟨a,x,ht,rfl⟩,he,C⟩
  obtain⟨a,x,ht,rfl⟩:=H;have H:=p2.agree.defers.trans bb;have C:=K3 a9 p2.keep;have ad:Agr (lo 24) (cA D P) ((cA D P).put 24 (skS P a x)):=aQ _ _ _;obtain⟨b,hb⟩:∃b,(x !=0)=b:=⟨_,rfl⟩;have n3:=fin C n2 [(.cmp .neq (.x 25) (.c 0),b)] (fac hb cS)
  cases b with
  | true =>
   refine eJ 2 (fun _=>true) [(2,.one (.b (.c true)))] [] 1 [] hPt δ n3 fun κ3 a3 w3 n4 W=>?_
   exact fX 2 rfl n4.has rfl (W.agree.defers.trans H) ⟨rfl,K3 C W.keep⟩
  | false =>
   obtain rfl:x=0:=by simpa using hb
   have hs:=xk (tH ((su ht).1.1 rfl));have c1:=hs.pages;have n4:=n2.more [(.cmp .neq (.x 25) (.c 0),false),(.cmp .gtr (.ln 3) (.c 64),false),(.cmp .lss (.x 26) (.c 1),false),(.cmp .gtr (.x 26) (.c 1024),false)]
    [(27,[.ag aa],.one (.b (.c true))),(28,[.ag aa],.one (.b (.c true))),(29,[.ag aa],.one (.b (.c true))),(30,[.ag aa],.one (.b (.c true))),(22,[.ag aa],.one (.i .i64 (.x 26)))] []
    (fac hb (fac (decide_eq_false (by show ¬ (P.Q3.length:Int)>64;have:=hs.QS;omega)) (fac (decide_eq_false (by show ¬ (pages ax P:Int)<1;omega)) (fac (decide_eq_false (by show ¬ (pages ax P:Int)>1024;omega)) cS))))
    (by
     intro q hq w' A;obtain⟨L,X⟩:=Y (K3 p2.keep A);simp only[List.mem_cons,List.mem_nil_iff,or_false]at hq
     rcases hq with rfl|rfl|rfl|rfl|rfl
     ·rw[List.map_cons,b6 p ad];exact sH L X hs.ground
     ·rw[List.map_cons,b6 p ad];exact zJ L X hs.ends
     ·rw[List.map_cons,b6 p ad];exact tQ L X hs.Q9
     ·rw[List.map_cons,b6 p ad];exact yN L X hs.once
     ·rw[List.map_cons,b6 p ad];exact lh L X)
    (fun i x hx=>by cases hx)
   refine am 5 (fun _=>true) [(5,.one (.i .i64 (.c 0))),(1,.one (.p 0 0))] [(0,aa)] 1 [] hPt δ n4 fun κ3 a3 w3 n5 W=>?_
   have bo:=K3 p2.keep W.keep;have af:=W.agree.defers.trans H;clear n1 n2 n3 n4 W p2 bb h4 cd O;refine aM (gq n5 P.Q4.length 32 5 1 [(1,.one (.p 0 0))] (fun _=>true) (fun _:Unit=>{}) (fun _ _ _=>True) (fun _ _ _ _ _ h=>h) () hPt δ rfl (fC p.Q4) trivial (n5.has.re ⟨rfl,rfl,trivial⟩) ?_ ?_)
   ·intro k e a5 w5 hk n6 hA hK
    obtain⟨x,hx⟩:=ge hk;have ac:=K3 bo hK;obtain⟨g,o,h1,h2,u,h3,hm,_⟩:=ai p.Q4 (bh _) ba ac hx;obtain⟨κ',hu,n7⟩:=n6.elem (j:=1) (x:=oV x u) (cl:=kJ 40) h1 ⟨h2,id⟩ hk h3 (gB hm _ _ _) δ;have n8:=n7.more [] [(31,[.ag aa,.one (.sl 40 40 41),.one (.b (.c true))],.one (.b (.c true)))] [] cS
     (by
      intro q hq w' A;obtain rfl:=List.mem_singleton.1 hq;obtain⟨L,X⟩:=Y (K3 ac A);rw[List.map_cons,b6 p (mj _ _ _)];show Calls Tryz.prog 31 #[.agg (D.cells P).toArray,.slice (vA u) x.QF.length (vC u),.bool true] w' _;rw[aU hm];exact nW L X (hm.below (aF _ _ _) (A.below ac.size fun _ _ e=>e)) (hs.dev x (List.mem_of_getElem? hx)))
     (fun i x hx=>by cases hx)
    exact aK (am 2 (fun _=>true) (fx 32 5 [(1,.one (.p 0 0))]) [] 2 [] hPt δ n8 fun κ5 a7 w7 V p4=>cI rfl
     ⟨(),κ5,trivial,fun r hr=>(p4.upto r (by show r<2;omega)).trans (hu r hr),V.has.on (cG _ 32 _ _ _).symm δ,hA.trans p4.agree (fun _ h=>h),K3 hK p4.keep⟩)
   intro e a5 w5 n6 hA hK;have n7:=n6.downR [(1,.one (.p 0 0))] ⟨rfl,trivial⟩ δ;refine am 1 (fun _=>true) [(6,.one (.i .i64 (.c 0))),(1,.one (.p 0 0))] [(0,aa)] 1 [] hPt δ n7 fun κ4 a6 w6 n8 p4=>?_
   have ac:=Rs.K3 (K3 bo hK) p4.keep;have bb:=p4.agree.defers.trans (hA.defers.trans af);clear n5 n6 n7 p4 hA hK bo af;refine aM (gq n8 P.Q3.length 32 6 3 [(1,.one (.p 0 0))] (fun _=>true) (fun _:Unit=>{}) (fun _ _ _=>True) (fun _ _ _ _ _ h=>h) () hPt δ rfl (fC p.Q3) trivial (n8.has.re ⟨rfl,rfl,trivial⟩) ?_ ?_)
   ·intro k e a7 w7 hk n9 hA hK
    obtain⟨x,hx⟩:=ge hk;obtain⟨s1,s2,s3,s4⟩:=hs.sub x (List.mem_of_getElem? hx);have N:=Rs.K3 ac hK;obtain⟨g,o,h1,h2,u,r,h3,hm,hr,_⟩:=ai p.Q3 (bX _) ba N hx;have bx:Z.heap.size≤w7.heap.size:=N.size;obtain⟨J,cv⟩:∃J:Ck.jq,J=x.QN.headD ⟨0,0,.empty,0⟩:=⟨_,rfl⟩;obtain⟨κ',hu,be⟩:=n9.elem (j:=3) (x:=(kV x u r).put 8 (rlS J (fR P J.to))) (cl:=jQ 40) h1 ⟨h2,id⟩ hk h3
     (by show([.int .i64 x.pos,.string x.name,.int .u64 x.QO,.bool x.stopped,.slice (vA u) x.QF.length (vC u),.slice (vA r) x.QN.length (vC r)]:List Value)=_;rw[aU hm,aU hr]) δ
    obtain⟨b1,e1⟩:∃b,((x.QN.length:Int)==1)=b:=⟨_,rfl⟩;obtain⟨b2,e2⟩:∃b,(J.how==1)=b:=⟨_,rfl⟩;obtain⟨b3,e3⟩:∃b,decide (fR P J.to<0)=b:=⟨_,rfl⟩;obtain⟨b4,e4⟩:∃b,decide (J.to=x.name)=b:=⟨_,rfl⟩;obtain⟨b5,e5⟩:∃b,decide ((J.QL:Int)>63)=b:=⟨_,rfl⟩;have bt:∀{κ5 κ6:Kap} {a8:Act} {w8:World} {kk:Nat},eU 1 κ4 κ5→1≤kk→kp H0.T κ5 κ6 kk (fun _=>true) a7 a8 w7 w8→Has (((cA D P).put 24 (skS P a 0)).put 32 ((Sta.put {} 8 ((kV x u r).put 8 (rlS J (fR P J.to)))).cnt k)) κ6 140 (fx 32 6 [(1,.one (.p 0 0))]) a8 →
     gj ((cA D P).put 24 (skS P a 0)) κ4 140 32 1 (fx 32 6 [(1,.one (.p 0 0))]) (fun _=>true) (fun _:Unit=>{}) H0.T (fun _ _ _=>True) k a6 w6 a8 w8:=
     fun u1 u2 p7 X=>⟨(),_,trivial,fun r hr=>(p7.upto r χ).trans (u1 r hr),X.on (cG _ 32 _ _ _).symm δ,hA.trans p7.agree (fun _ h=>h),Rs.K3 hK p7.keep⟩
    have more:∀{E:List (Nat×Nat×IE×Nat×Nat)} {κ5:Kap} {M:Mm} {kk:Nat},Now (((cA D P).put 24 (skS P a 0)).put 32 ((Sta.put {} 8 ((kV x u r).put 8 (rlS J (fR P J.to)))).cnt k)) κ5 140 Tryz.prog { EL:=E } (Gh.of H0.T (fun _=>True) fun _ _ _ _=>trivial) ⟨fx 32 6 [(1,.one (.p 0 0))],M,kk,[]⟩ a7 w7 →
     Now (((cA D P).put 24 (skS P a 0)).put 32 ((Sta.put {} 8 ((kV x u r).put 8 (rlS J (fR P J.to)))).cnt k)) κ5 140 Tryz.prog { EL:=E,FA:=[(.cmp .gtr (.x 41) (.c 3),false),(.cmp .gtr (.ln 41) (.c 1),false),(.cmp .eql (.ln 41) (.c 1),b1),(.cmp .eql (.x 49) (.c 1),b2),(.cmp .lss (.x 51) (.c 0),b3),(.seq (.x 48) (.x 40),b4),(.cmp .gtr (.x 50) (.c 63),b5)],CT:=[(31,[.ag aa,.one (.sl 40 40 42),.one (.b (.c false))],.one (.b (.c true))),(32,[.ag aa,.one (.s (.x 48))],.one (.i .i64 (.x 51)))] } (Gh.of H0.T (fun _=>True) fun _ _ _ _=>trivial) ⟨fx 32 6 [(1,.one (.p 0 0))],M,kk,[]⟩ a7 w7:=fun n =>
     n.more _ _ [] (fac (decide_eq_false (by show ¬ (x.QO:Int)>3;omega)) (fac (decide_eq_false (by show ¬ (x.QN.length:Int)>1;omega)) (fac e1 (fac e2 (fac e3 (fac (bq e4) (fac e5 cS)))))))
      (by
       intro q hq w' A;obtain⟨L,X⟩:=Y (Rs.K3 N A);simp only[List.mem_cons,List.mem_nil_iff,or_false]at hq
       rcases hq with rfl|rfl
       ·rw[List.map_cons,b6 p (mj _ _ _)]
        show Calls Tryz.prog 31 #[.agg (D.cells P).toArray,.slice (vA u) x.QF.length (vC u),.bool false] w' _;rw[aU hm];exact nW L X (hm.below (aF _ _ _) (A.below bx fun _ _ e=>e)) s1
       ·exact cn p ba (Rs.K3 N A) (mj _ _ _) J.to rfl rfl)
      (fun i x hx=>by cases hx)
    cases b1 with
    | false=>exact aK (am 5 (fun _=>true) (fx 32 6 [(1,.one (.p 0 0))]) [] 3 [] hPt δ (more be) fun κ5 a8 w8 V p5=>cI rfl (bt (kk:=2) hu χ p5 V.has))
    | true =>
     have bp:0<x.QN.length:=by have:(x.QN.length:Int)=1:=(by simpa using e1);omega
     have cc:x.QN[0]?=some J:=by
      subst cv
      cases hx:x.QN with
      | nil=>rw[hx]at bp;simp at bp
      | cons y t=>rfl
     obtain⟨g',o',cm,cp,cu,_⟩:=ai hr (aF _ _ _) bx (aD.refl _ w7) cc;obtain⟨κ5,cw,bf⟩:=be.elc (j:=41) (cl:=rlC 48) 0 cm ⟨cp,id⟩ bp cu rfl δ;have ci:eU 1 κ4 κ5:=fun q hq=>(cw q χ).trans (hu q hq)
     cases b2 with
     | false=>exact aK (am 5 (fun _=>true) (fx 32 6 [(1,.one (.p 0 0))]) [] 4 [] hPt δ (more bf) fun κ6 a8 w8 V p5=>cI rfl (bt (kk:=3) ci χ p5 V.has))
     | true =>
      obtain⟨r1,r2,r3⟩:=s4 J (List.mem_of_getElem? cc) (by simpa using e2);obtain rfl:b3=false:=e3.symm.trans r1;obtain rfl:b4=false:=e4.symm.trans (decide_eq_false r2);obtain rfl:b5=false:=e5.symm.trans (decide_eq_false χ);exact aK (am 5 (fun _=>true) (fx 32 6 [(1,.one (.p 0 0))]) [] 4 [] hPt δ (more bf) fun κ6 a8 w8 V p5=>cI rfl (bt (kk:=3) ci χ p5 V.has))
   intro e a7 w7 n9 hA hK;have N:=Rs.K3 ac hK;have be:=fin (K3 a9 N) n9 [] cS;refine eJ 2 (fun _=>true) [(2,.one (.b (.c true)))] [] 1 [] hPt δ be fun κ5 a8 w8 bf p5=>?_
   exact fX 2 rfl bf.has rfl (p5.agree.defers.trans (hA.defers.trans bb)) ⟨rfl,K3 (K3 a9 N) p5.keep⟩
