import Derived.Test.YthobcefghkeddaaGreatDoorHold
import Derived.Test.YthobcefghkeddaaGreatDoorSm
set_option maxRecDepth 100000
set_option linter.all false
set_option maxHeartbeats 4000000
namespace Go.Proofs.YthobcefghkeddaaGreatDoor.Rs
open Go.RowKit Go.Proofs.YthobcefghkeddaaGreatDoor Ck
def naN:List Cl := .i .i64 (.x 40) :: .s (.x 40)::(List.range 12).map fun j=>bif Nat.beq j 9 then .l (.slice none 0 0)else .sl (40+j) (40+j) (52+j)
def naC(f:IE):List Cl:=[.i .i64 (.x 96),.s (.x 96),.i .u64 f,.b (.x 96),.i .u64 (.x 98),.b (.x 97),.b (.x 98),.i .u64 (.x 99),.b (.x 99),.s (.x 97)]
theorem uH{x:ByteArray}(h:x.size≠0):Value.string x ≠ .string ByteArray.empty:=fun e=>by
 cases e
 exact h rfl
theorem xI{B:Nat}{w:World}(V:fH B w)(hB:B≤w.heap.size):Calls Tryz.prog 6 #[] w fun e w'=>e=.returned (.bool true)∧Kz w w':=by
 obtain⟨R,hR⟩:∃R:Ending→World→Prop,R=fun e w'=>e=.returned (.bool true)∧Kz w w':=⟨_,rfl⟩
 rw[←hR];refine fnE {} (fun _=>(0,0)) [] Tryz.func6 Tryz.ntmps6 rfl rfl ψ H0 (fun _ h=>h.elim) trivial fun a hd hh=>?_
 refine bG 2 (fun _=>true) [] [] 0 [] hPp δ hh fun κ0 a0 w0 n0 p0=>?_
 refine nU 0 17 [] (.ag (kF 40)) 40 (fun d w'=>∃b,d=ce (smV b) (smP 8192 smQ)∧mF 8192 w' b∧w0.heap.size≤b) (fun _=>true) [(1,.one (.p 0 0))] [(0,kF 40)] 1 δ n0 (fun w' l=>(wY w').mono fun en bg ⟨b,N,e0,e2,e3⟩=>⟨_,⟨b,rfl,e3,by have:=l.size;omega⟩,by rw[N,kc (e3.QR ψ)],e2⟩) fun Q a1 w1 d eg ⟨b,cc,bt,eb⟩ cw n1 p1=>?_
 subst cc;have ad:=bt.keep cw;have an:=K3 p0.keep p1.keep;obtain⟨x1,x2,x3⟩:=p1.new.row n1.mem (r:=0) rfl ψ ψ;have ea:w.heap.size≤b:=by have:=p0.keep.size;omega
 have x4:∀{w':World} {q:Nat} {u:Value},Kz w1 w'→w'.cell? ⟨q,1,none⟩=some u→u ≠ .string ByteArray.empty→q≠(Q 0).1:=fun{w' q u} hk hc hu e=>by
  subst e;have:=(x1.keep hk fun h=>h).cell (j:=1) rfl;rw[this]at hc;exact hu (Option.some.inj hc).symm
 -- Lay
 refine yX 2 (vY 1 16 [.ag (kF 40)] (.one (.v 72)) 72 (fun d w'=>∃x,d=lrD x∧LyR (smP 8192 smQ) true 1 x w') (fun _=>true) [(8,.one (.v 72)),(1,.one (.p 0 0))] [(0,kF 40)] 1 δ n1 (fun w' l=>?_) fun κ2 a2 w2 d ew ⟨di,cd,b0⟩ cx n2 p2=>?_)
 ·rw[List.map_cons,kc (ad.QR ψ)]
  have W:=ad.keep l;have:=qr (W.QR ψ) (fH.kept V hB (K3 an l) (by have:=(K3 an l).size;omega)) (Nat.le_refl _) (ok:=true) ⟨fun _=>nQ,fun _=>rfl⟩;rw[rW]at this;exact this.mono fun en bg ⟨x,N,e2,e3,_⟩=>⟨_,⟨x,rfl,e2⟩,N,e3⟩
 subst cd;obtain⟨J,cv⟩:∃x,x=di:=⟨_,rfl⟩;subst cv;refine zM (CL:=BN 72 6 9 10 11) (fun _=>true) [(2,.one (.p 1 0)),(3,.one (.i .i64 (.x 74))),(4,.one (.i .i64 (.x 75))),(1,.one (.p 0 0))] [(0,kF 40),(1,lrL 72)] 2 [] δ n2 (fun o ho=>List.mem_of_mem_drop ho) (qq J rfl rfl rfl rfl rfl rfl rfl) fun κ3 a3 w3 n3 p3=>ln (show wpL _ _ _ _ _ from ?_)
 obtain⟨z1,z2,z3⟩:=p3.new.row n3.mem (r:=1) rfl ψ ψ;have C:=K3 p2.keep p3.keep;have a4:=K3 an C;have bx:=ad.keep C;have X:=(b0.keep cx).keep p3.keep;unfold LyR at X;rw[yV]at X;obtain⟨v1,v2,v3,v4,v5,v6⟩:=X;obtain⟨A,c,N,q1,q2,q3⟩:=id v6;obtain⟨g,eA,O,hm⟩:=q3 ψ;simp only[Value.slice.injEq]at N;have v5:J.n=2:=v5;have n4:=n3.lay 88 (elD 77824 65536) δ;obtain⟨κ5,u5,_,n5⟩:=n4.base g 0 [.i .u64 (.x 88)] ⟨O,id⟩ (fun j v K=>by
  match j,K with
  | 0,K=>obtain rfl:=Option.some.inj K;exact hm 0 _ rfl) [(72,1,.c 0,72,2)] δ (fun z hz=>by
  obtain rfl:=List.mem_singleton.1 hz;refine⟨by show(0:Int)≤0;decide,?_,g,0,N.1.trans eA,rfl⟩;show(0:Int)<(J.n:Int);rw[v5];decide)
 obtain⟨κ6,u6,_,n6⟩:=n5.base g 1 [.i .u64 (.x 89)] ⟨O,id⟩ (fun j v K=>by
  match j,K with
  | 0,K=>obtain rfl:=Option.some.inj K;exact hm 1 _ rfl) [(72,1,.c 1,72,3)] δ (fun z hz=>by
  obtain rfl:=List.mem_singleton.1 hz;refine⟨by show(0:Int)≤1;decide,?_,g,0,N.1.trans eA,rfl⟩;show(1:Int)<(J.n:Int);rw[v5];decide)
 have cp:=x8 (gz nQ) ψ yV;refine bG 2 (fun _=>true) [(2,.one (.p 1 0)),(1,.one (.p 0 0))] [(0,kF 40),(1,lrL 72)] 4 [] hPp δ (n6.more [(.cmp .neq (.x 75) (.c 0),false),(.cmp .neq (.x 74) (.c (-1)),false),(.cmp .neq (.ln 72) (.c 2),false),(.cmp .neq (.x 88) (.c 77824),false),(.cmp .neq (.x 89) (.c 65536),false),(.cmp .neq (.x 72) (.c 86016),false),(.cmp .neq (.x 73) (.c 1),false)] [(20,[.ag (kF 40),.ag (lrL 72)],.one (.i .i64 (.c 0)))] []
  (fac (by show(J.e !=0)=false;rw[v4];rfl) (fac (by show(J.k != -1)=false;rw[v3];rfl) (fac (by show((J.n:Int)!=2)=false;rw[v5];rfl) (fac (by rfl) (fac (by rfl) (fac (by show((J.im:Int)!=86016)=false;rw[v1];rfl) (fac (by show(J.pg !=1)=false;rw[v2];rfl) gJ))))))) (fun y hy w' l=>by
   obtain rfl:=List.mem_singleton.1 hy;show Calls Tryz.prog 20 #[SV.den (({}:Sta).put 40 (ce (smV b) (smP 8192 smQ))) κ6 (.ag (kF 40)),sL (.slice J.A J.n J.c) J.im J.pg] w' _;have W:=bx.keep l;rw[kc (W.QR ψ)];exact zg (W.QR ψ) (fH.kept V hB (K3 a4 l) (by have:=(K3 a4 l).size;omega)) (Nat.le_refl _) nQ cp.1 (by rw[rW]) v1 v2 v5 (v6.keep l)) (fun i x hx=>by cases hx)) fun κ7 a7 w7 n7 p7=>?_
 have I:=K3 C p7.keep;have E:=bx.keep p7.keep;have cf:=K3 a4 p7.keep;have u7:∀r,r<2→κ7 r=κ3 r:=fun r hr=>(p7.upto r (by show r<4;omega)).trans ((u6 r χ).trans (u5 r hr))
 have dc:κ7 0=Q 0:=(u7 0 ψ).trans ((p3.upto 0 ψ).trans (p2.upto 0 ψ));have lt:=E.lt;have l0:(Q 0).1<w1.heap.size:=x1.lt;have l1:b+1+1+1+1<w1.heap.size:=ad.lt;have ee:=p2.keep.size
 -- the size
 obtain⟨κ8,u8,af,n8⟩:=(n7.bare.lay 96 (nY (smA 8192)) δ).base (b+1+1) 0 (lS 96) ⟨χ,id⟩ (fun j u K=>E.Qd j u K) [(42,10,.c 0,42,4)] δ (fun z hz=>by
  obtain rfl:=List.mem_singleton.1 hz;exact⟨by show(0:Int)≤0;decide,by show(0:Int)<(2:Nat);decide,_,0,rfl,rfl⟩)
 have Y:b+1+1≠(Q 0).1:=x4 I (E.Qd 1 _ rfl) (uH ψ);have b5:κ8 0=Q 0:=(u8 0 ψ).trans dc;have b6:κ8 1=κ3 1:=(u8 1 ψ).trans (u7 1 ψ);refine DR (CL:={}) 4 4 [0,1] (fun _=>true) [(2,.one (.p 1 0)),(1,.one (.p 0 0))] [(0,kF 40),(1,lrL 72),(4,naC (.c 32768))] 5 [] 10 δ δ n8 eF (fun _=>by rw[af];exact E.row) (fun q hq=>?_) (fun _ _ _ _ _ _ _=>trivial) fun κ9 a9 w9 n9 u9 Z g9 _ r9 q9=>?_
 ·rw[af]
  rcases List.mem_cons.1 hq with rfl|hq
  ·rw[b5]
   exact⟨by have:=I.size;omega,fun _ e=>Y e.symm⟩
  ·obtain rfl:=List.mem_singleton.1 hq
   rw[b6];refine⟨by have:=z1.lt;have:=p7.keep.size;omega,fun _ e=>?_⟩;have e:(κ3 1).1=b+1+1:=e;omega
 have b1:κ9 4=(b+1+1,0):=(u9 4 ψ).trans af;rw[b1]at Z r9;rw[af]at q9;have Z:aD (fun g=>g=b+1+1) w7 w9:=Z.mono fun _ _ h=>h.elim (fun h=>h.elim) id
 have bz:mF 32768 w9 b:=by
  refine⟨by have:=Z.size;omega,E.Qg.keep Z χ χ,fun j u K=>?_,fun j u K=>?_,E.plan.keep Z χ χ,E.pick.keep Z χ χ,r9⟩
  ·have N:(naC (.c 32768)).map (Cl.den ((((({}:Sta).put 40 (ce (smV b) (smP 8192 smQ))).put 72 (lrD J)).put 88 (elD 77824 65536)).put 96 (nY (smA 8192))) κ9)=(smA 32768).cells:=rfl
   rw[←N,List.getElem?_map]at K;obtain⟨c,cb,rfl⟩:=Option.map_eq_some_iff.1 K;have:=(n9.mem.get 4 _ rfl).2 j c cb;rw[b1]at this;exact this
  ·rw[q9 ψ (10+j) (.inr (by show 0+10≤10+j;omega))]
   exact E.Qh j u K
 have a5:Kz w w9:=aT cf Z fun g O=>by have O:g=b+1+1:=O;omega
 have ds:∀g,g<w1.heap.size→g≠b+1+1→w9.heap[g]?=w1.heap[g]?:=fun g h1 h2=>(Z.block g (by have:=I.size;omega) h2).trans (I.block g h1 id)
 -- no room
 refine yX 2 (vY 1 16 [.ag (kF 40)] (.one (.v 104)) 104 (fun d w'=>∃x,d=lrD x∧x=nw 0 110) (fun _=>true) [(60,.one (.v 104)),(2,.one (.p 1 0)),(1,.one (.p 0 0))] [(0,kF 40),(1,lrL 72)] 5 δ n9.bare (fun w' l=>?_) fun ex d1 eo d dt ⟨x2,bp,cu⟩ _ cy a8=>?_)
 ·rw[List.map_cons]
  show Calls Tryz.prog 16 #[SV.den (({}:Sta).put 40 (ce (smV b) (smP 32768 smQ))) κ9 (.ag (kF 40))] w' _;have W:=bz.keep l;rw[kc (W.QR ψ)];refine(qr (W.QR ψ) (fH.kept V hB (K3 a5 l) (by have:=(K3 a5 l).size;omega)) (Nat.le_refl _) (ok:=true) ⟨fun _=>wZ,fun _=>rfl⟩).mono fun en bg ⟨x,N,e2,e3,_⟩=>⟨_,⟨x,rfl,?_⟩,N,e3⟩
  unfold LyR at e2;rw[Ai]at e2;exact e2
 subst bp cu;refine zM (CL:=BN 104 58 61 62 63) (fun _=>true) [(3,.one (.i .i64 (.x 106))),(4,.one (.i .i64 (.x 107))),(2,.one (.p 1 0)),(1,.one (.p 0 0))] [(0,kF 40),(1,lrL 72)] 5 [] δ cy (fun o ho=>List.mem_of_mem_drop ho) (qq (nw 0 110) rfl rfl rfl rfl rfl rfl rfl) fun ey d2 eq c3 bb=>ln (show wpL _ _ _ _ _ from ?_)
 refine bG 2 (fun _=>true) [(2,.one (.p 1 0)),(1,.one (.p 0 0))] [(0,kF 40),(1,lrL 72)] 5 [] hPp δ (c3.more [(.cmp .neq (.x 107) (.c 110),false),(.cmp .neq (.x 106) (.c 0),false)] [] [] (sk rfl rfl) (fun y hy=>by cases hy) (fun i x hx=>by cases hx)) fun bo d3 bl c4 bc=>?_
 have L:Kz w9 bl:=K3 (K3 a8.keep bb.keep) bc.keep;have D:=bz.keep L;have b3:∀r,r<2→bo r=κ8 r:=fun r hr=>(bc.upto r (by show r<5;omega)).trans ((bb.upto r (by show r<5;omega)).trans ((a8.upto r (by show r<5;omega)).trans (u9 r (by show r<5;omega))))
 have ac:bo 0=Q 0:=(b3 0 ψ).trans b5;have b4:bo 1=κ3 1:=(b3 1 ψ).trans b6;have dk:(Q 0).1≠b+1+1:=fun e=>Y e.symm
 have bf:Row bl (Q 0).1 _:=((x1.keep I fun h=>h).keep Z dk).keep L fun h=>h
 -- no start
 refine me (CL:={}) 1 0 [1] (fun _=>true) [(2,.one (.p 1 0)),(1,.one (.p 0 0))] [(0,naN),(1,lrL 72)] 5 [] δ c4 eF (fun _=>by rw[ac];exact bf.some) (fun q hq=>by
  obtain rfl:=List.mem_singleton.1 hq;rw[b4,ac];refine⟨?_,fun _ e=>?_⟩
  ·have:=z1.lt;have:=p7.keep.size;have:=Z.size;have:=L.size;omega
  ·have e:(κ3 1).1=(Q 0).1:=e
   omega) (fun _ _ _ _ _ _ _=>trivial) fun ez d4 bm c5 c9 H ca _ _=>?_
 have H:aD (fun g=>g=(Q 0).1) bl bm:=H.mono fun g _ O=>by
  rcases O with O|O
  ·exact O.elim
  ·rw[O,c9 0 ψ,ac]
 have a6:∀{q u},q<w1.heap.size→w7.cell? ⟨q,1,none⟩=some u→u ≠ .string ByteArray.empty→¬ q=(Q 0).1:=fun{q u} h1 hc hu=>x4 I hc hu
 have al:mF 32768 bm b:=by
  have hn:=a6 (q:=b+1) χ (E.Qg 1 _ rfl) (fun e=>by cases e);have cj:=a6 (q:=b+1+1+1) χ (E.plan 1 _ rfl) (uH ψ);have cm:=a6 (q:=b+1+1+1+1) χ (E.pick 1 _ rfl) (uH ψ);have:=D.lt;obtain⟨cs,E0,hr⟩:=D.row;exact⟨by have:=H.size;omega,D.Qg.keep H χ hn,D.Qd.keep H χ Y,D.Qh.keep H χ Y,D.plan.keep H χ cj,D.pick.keep H χ cm,cs,E0,(H.block _ χ Y).trans hr⟩
 have C:Kz w bm:=aT (K3 a5 L) H fun g O=>by
  rw[show g=(Q 0).1 from O];have:=p0.keep.size;omega
 have ed:∀(d:Sta) (κ:Kap),SV.den ((((((({}:Sta).put 40 (ce (smV b) (smP 8192 smQ))).put 72 (lrD J)).put 88 (elD 77824 65536)).put 96 (nY (smA 8192))).put 104 (lrD (nw 0 110))).put 112 d) κ (.ag naN)=.agg (aX.cells { smV b with QH := .slice none 0 0 } (smP 32768 [])).toArray:=fun d κ=>rfl
 refine yX 2 (vY 1 16 [.ag naN] (.one (.v 112)) 112 (fun d w'=>∃x,d=lrD x∧x=nw (-1) 1) (fun _=>true) [(73,.one (.v 112)),(2,.one (.p 1 0)),(1,.one (.p 0 0))] [(0,naN),(1,lrL 72)] 5 δ c5.bare (fun w' l=>?_) fun e5 d7 er d d0 ⟨x3,bs,X⟩ _ c6 bd=>?_)
 ·have W:=al.keep l
  refine(qr (W.pol0 ψ) (fH.kept V hB (K3 C l) (by have:=(K3 C l).size;omega)) (Nat.le_refl _) (ok:=false) ⟨fun e=>(by cases e),fun e=>absurd e rV⟩).mono fun en bg ⟨x,N,e2,e3,_⟩=>⟨_,⟨x,rfl,e2⟩,N,e3⟩
 subst bs X;refine zM (CL:=BN 112 71 74 75 76) (fun _=>true) [(3,.one (.i .i64 (.x 114))),(4,.one (.i .i64 (.x 115))),(2,.one (.p 1 0)),(1,.one (.p 0 0))] [(0,naN),(1,lrL 72)] 5 [] δ c6 (fun o ho=>List.mem_of_mem_drop ho) (qq (nw (-1) 1) rfl rfl rfl rfl rfl rfl rfl) fun e6 d8 es c7 be=>ln (show wpL _ _ _ _ _ from ?_)
 have U:=K3 (K3 C bd.keep) be.keep;have bw:=al.keep (K3 bd.keep be.keep);refine dw 2 (fun _=>true) [(0,.one (.b (.cmp .eql (.c 1) (.c 1))))] [] 5 [] hPp δ (c7.more [(.cmp .eql (.x 115) (.c 1),true),(.cmp .eql (.x 114) (.c (-1)),true)] [(20,[.ag naN,.ag (lrL 72)],.one (.i .i64 (.c 1)))] [] (sk rfl rfl) (fun y hy w' l=>by
  obtain rfl:=List.mem_singleton.1 hy;have W:=bw.keep l;exact zh (W.pol0 ψ) (fH.kept V hB (K3 U l) (by have:=(K3 U l).size;omega)) (Nat.le_refl _) rV J) (fun i x hx=>by cases hx)) fun e7 d9 eu c8 b2=>?_
 exact gR 0 rfl c8.has rfl (b2.agree.defers.trans (be.agree.defers.trans (bd.agree.defers.trans (ca.defers.trans (bc.agree.defers.trans (bb.agree.defers.trans (a8.agree.defers.trans (g9.defers.trans (p7.agree.defers.trans (p3.agree.defers.trans (p2.agree.defers.trans (p1.agree.defers.trans (p0.agree.defers.trans hd))))))))))))) (by rw[hR];exact⟨rfl,K3 U b2.keep⟩)
