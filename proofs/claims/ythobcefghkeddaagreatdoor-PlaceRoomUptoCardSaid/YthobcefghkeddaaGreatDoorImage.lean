import Derived.Test.YthobcefghkeddaaGreatDoorPlansB
import Derived.Test.YthobcefghkeddaaGreatDoorNames
set_option maxRecDepth 100000
set_option linter.all false
set_option maxHeartbeats 4000000
namespace Go.Proofs.YthobcefghkeddaaGreatDoor
open Go.RowKit Go.IntWalk Ck
theorem wJ{P:aF}{m:Ck.Map}(h:dJ P m=true):(ups m (aP P m.of)).length≤34:=by
 rw[nv]at h;simp only[Bool.and_eq_true,decide_eq_true_eq]at h;obtain⟨_,l,d⟩:=h;obtain⟨g,j⟩:m.Q7≤549755813888∧(aP P m.of).size≤549755813888-m.Q7:=by
  unfold below at d
  simpa using d
 simp[ups];omega
theorem nk{P:aF}:∀{l:List Ck.Map},(∀m∈l,dJ P m=true)→(eO P l).length≤34*l.length
 | [],_=>Γ _
 | m::t,h=>by
  have j:=nk (l:=t) fun x d=>h x (List.mem_cons_of_mem _ d)
  have g:=wJ (h m List.mem_cons_self);have e:eO P (m::t)=(if(aP P m.of).size=0 then[]else(ups m (aP P m.of)).map (· / 512))++eO P t:=by simp[eO]
  rw[e,List.length_append,List.length_cons];split
  ·simp;omega
  ·rw[List.length_map];omega
theorem oc{P:aF}:∀{l:List Ck.Map},(∀m∈l,dJ P m=true)→(eV P l).length≤34*l.length
 | [],_=>Γ _
 | m::t,h=>by
  have j:=oc (l:=t) fun x d=>h x (List.mem_cons_of_mem _ d)
  have g:=wJ (h m List.mem_cons_self);have e:eV P (m::t)=(if(aP P m.of).size=0∨(aP P m.of).big=true then[]else ups m (aP P m.of))++eV P t:=by simp[eV]
  rw[e,List.length_append,List.length_cons];split
  ·simp;omega
  ·omega
theorem tk(l:List Nat):l.eraseDups.length≤l.length:=rW (pG l) fun x d=>List.mem_eraseDups.1 d
theorem xV(P:aF)(l:List Ck.Map):bP P l≤1+68*l.length:=by
 unfold bP;split
 ·rename_i h
  have h:=υ.1 h;have d:=nk h;have g:=oc h;have j:=tk (eO P l);have q:=tk (eV P l);omega
 ·omega
def jI(P:aF)(ls:List (List Ck.Map)):Nat:=(ls.map (bP P)).sum
theorem xW(P:aF)(ls:List (List Ck.Map))(l:List Ck.Map):jI P (ls++[l])=jI P ls+bP P l:=by simp[jI]
theorem r7(P:aF):∀(ls:List (List Ck.Map)),(∀l∈ls,l.length≤2097152)→jI P ls≤ls.length*142606400
 | [],_=>by simp[jI]
 | l::t,h=>by
  have g:=r7 P t fun y d=>h y (List.mem_cons_of_mem _ d)
  have j:=h l List.mem_cons_self;have q:=xV P l;have e:jI P (l::t)=bP P l+jI P t:=by simp[jI]
  rw[e,List.length_cons];omega
theorem oQ{flat:Nat→cK→Nat×Int×Int}{P:aF}{l:List Ck.Map}(g:l∈P.tabled)(d:bP P l=0):pages flat P=0:=by
 unfold pages;rw[if_neg];intro h;have:=υ.1 h l g;rw[d]at this
 cases this
theorem xw{flat:Nat→cK→Nat×Int×Int}{P:aF}(h:∀l∈P.tabled,0<bP P l):pages flat P=jI P P.tabled+(dl flat P+4095) / 4096:=by
 unfold pages;rw[if_pos (υ.2 fun l d=>by simpa using h l d)];rfl
theorem BF(P:aF)(j:∀x∈P.Q3,x.text.size≤2097152)(h:P.QD.length≤2097152∧P.Q5.length≤2097152∧P.Q3.length≤2097152∧P.Q4.length≤2097152∧P.Q8.length≤2097152∧P.QM.length≤2097152∧P.QB.length≤2097152∧P.Q9.length≤2097152):dl aa P≤9000000000000:=by
 have d:=nT P.Q3 j;have g:=oL P.Q9;unfold kS at d;unfold gS at g;unfold dl;omega
def kh(l:List Ck.bR):List (List Ck.Map):=(l.map bR.QA).filter fun l=>decide (0<l.length)
theorem yh(l:List Ck.bR)(x:Ck.bR):kh (l++[x])=kh l++(if 0<x.QA.length then[x.QA]else[]):=by
 unfold kh;rw[List.map_append,List.filter_append]
 congr 1
 simp only[List.map_cons,List.map_nil,List.filter_cons,List.filter_nil]
 by_cases h:0<x.QA.length<;>simp[h]
theorem tp(l:List Ck.bR):(kh l).length≤l.length:=by
 unfold kh;exact Δ (List.length_filter_le _ _) ξ
namespace Rs
def pgS(e:Nat):Sta where
 i _:=e
def pgR:Fr:=[(4,.one (.i .i64 (.x 33))),(3,.one (.v 24)),(1,.one (.p 0 0))]
theorem BD{α:Type}{p:α→Prop}{l:List α}{k:Nat}{x:α}(j:l[k]?=some x)(h:∀y∈l.take k,p y)(g:p x):∀y∈l.take (k+1),p y:=by
 intro y d;rw[List.take_add_one,j]at d
 rcases Ω.1 d with q|q
 ·exact h y q
 ·obtain rfl:y=x:=by simpa using q
  exact g
theorem qZ{B:Nat}{w:World}{v:ae}{P:aF}(h:bD B w v P)(hB:B≤w.heap.size):Calls Tryz.prog 23 #[.agg (v.cells P).toArray] w fun e w'=>e=.returned (.int .i64 (pages aa P))∧Kz w w':=by
 have bg:∀x∈P.Q4,x.QA.length≤2097152:=cZ h.Q4 fun b o x C=>by obtain⟨_,_,_,⟨_,_,_,_,h,_⟩,_⟩:=C;exact h
 have bf:∀x∈P.Q5,x.QA.length≤2097152:=cZ h.Q5 fun b o x C=>by obtain⟨_,_,⟨_,_,_,_,h,_⟩,_⟩:=C;exact h
 have b4:∀x∈P.Q3,x.text.size≤2097152:=cZ h.Q3 fun b o x C=>C.2.2.2.2.2.2
 have lt:∀{α:Type} {k:Nat} {R:World→Nat→Nat→α→Prop} {w:World} {v:Value} {xs:List α},aM B k R w v xs→xs.length≤2097152:=fun h=>by obtain⟨_,_,_,_,E,_⟩:=h;exact E
 have bw:=BF P b4 ⟨lt h.QD,lt h.Q5,lt h.Q3,lt h.Q4,lt h.Q8,lt h.QM,lt h.QB,lt h.Q9⟩;have h3:=lt h.Q4;have h4:=lt h.Q5;have add:∀{x y:Nat},x+y≤2000000000000000→IntKind.i64.wrap ((x:Int)+y)=((x+y:Nat):Int):=fun h=>by rw[i64_in _ χ];omega
 have bc:=fun(l:List Ck.ak) (E:∀x∈l,x.QA.length≤2097152)=>r7 P (l.map ak.QA) (by intro y hy;obtain⟨x,C,rfl⟩:=List.mem_map.1 hy;exact E x C)
 have bd:=fun(l:List Ck.bR) (E:∀x∈l,x.QA.length≤2097152)=>r7 P (kh l) (by intro y hy;obtain⟨x,C,rfl⟩:=List.mem_map.1 (List.mem_filter.1 hy).1;exact E x C)
 refine fnE (cE v P) (fun _=>(0,0)) [.ag ah] Tryz.func23 Tryz.ntmps23 rfl (by rw[List.map_cons,bT h (Agr.refl _ _)];rfl) ψ H0 (fun _ h=>h.elim) trivial fun a hd hh=>?_
 refine b7 1 τ [(1,.one (.p 0 0))] [(0,ah)] 1 [] hPt δ hh fun κ1 a1 w1 n1 p1=>?_
 refine sF 1 65 [.ag ah] (.one (.v 24)) 24 (fun d w1=>∃Z,d={ o:=fun _ =>.map (some Z) }∧Z<w1.heap.size∧gN w1 Z P) τ [(3,.one (.v 24)),(1,.one (.p 0 0))] [(0,ah)] 1 δ n1 (fun w' D=>?_) fun κ2 a2 w2 d wt ⟨Z,bz,b3,Y⟩ kt n2 p2=>?_
 ·rw[List.map_cons,bT h (Agr.refl _ _)]
  have hk:=K3 p1.keep D;exact(ns (bD.kept h hB hk) (by have:=hk.size;omega)).mono fun e ac ⟨Z,he,_,E,Y,hk⟩=>⟨_,⟨Z,rfl,E,Y⟩,he,hk⟩
 subst bz;have bt:Agr (lo 24) (cE v P) ((cE v P).put 24 { o:=fun _ =>.map (some Z) }):=aQ _ _ _;have bs:=K3 p1.keep p2.keep;have tab:∀{S:Sta} {κ:Kap} {w3 w4:World} {X:Value} {l:List Ck.Map} (c:Nat),B≤w3.heap.size→aM B 5 eK w3 X l→Kz w3 w4→Kz wt w4→S.o 24=.map (some Z)→S.a 40=vA X→S.n 40=l.length→S.n c=vC X →
  Calls Tryz.prog 66 ([SV.one (.sl 40 40 c),.one (.v 24)].map (SV.den S κ)).toArray w4 fun e ac=>∃d,d=pgS (bP P l)∧e=.returned (SV.den (S.put 56 d) κ (.one (.i .i64 (.x 56))))∧Kz w4 ac:=by
  intro S κ w3 w4 X l c h1 h2 h3 h4 e1 K e3 e4;rw[show([SV.one (.sl 40 40 c),.one (.v 24)].map (SV.den S κ)).toArray = #[.slice (vA X) l.length (vC X),.map (some Z)] by simp only[List.map_cons,List.map_nil,SV.den,Cl.den,e1,K,e3,e4]];obtain⟨nn,hq⟩:=Y;exact(uR (by rw[ao h2];exact h2.below (aI _ _ _) (h3.below (B:=B) h1 fun _ _ e=>e)) (Δ h1 h3.size) ⟨nn,hq.keep h4 fun e=>e⟩ (Θ b3 h4.size) (fun s=>ru h s)).mono fun e ac q=>⟨_,rfl,q.1,q.2⟩
 refine b7 2 τ ((16,.one (.i .i64 (.c 0)))::(15,.one (.i .i64 (.ln 3)))::(14,.one (.sl 3 3 15)) :: [(4,.one (.i .i64 (.c 0))),(3,.one (.v 24)),(1,.one (.p 0 0))]) [(0,ah)] 1 [] hPt δ n2 fun κ3 a3 w3 n3 p3=>?_
 have ad:=K3 bs p3.keep;have bl:=K3 kt p3.keep;refine az (ow n3 P.Q4.length 32 16 3 ((15,.one (.i .i64 (.ln 3)))::(14,.one (.sl 3 3 15))::pgR) τ pgS (fun k e _=>e=jI P ((P.Q4.take k).map ak.QA)∧∀x∈P.Q4.take k,0<bP P x.QA) (fun _ _ _ _ _ h=>h) 0 hPt δ rfl χ ⟨rfl,ξ⟩ (n3.has.re ⟨rfl,rfl,rfl,rfl,rfl,rfl,trivial⟩) (fun k e a4 w4 hk V hA J=>?_) fun e a4 w4 V hA J=>?_)
 ·obtain⟨x,C⟩:=ge hk
  obtain⟨he,H⟩:=V.gh;have N:=Rs.K3 ad J;obtain⟨g,o,h1,h2,X,u',h5,Y,hr,_⟩:=cW h.Q4 (dD B) hB N C;obtain⟨κ',hu,n5⟩:=V.elem (j:=3) (x:=zM x X u') (cl:=ny 40) h1 ⟨h2,id⟩ hk h5 (xX Y hr _ _ _) δ;refine aY (b7 1 τ ((6,.one (.p 2 0))::fx 32 16 ((15,.one (.i .i64 (.ln 3)))::(14,.one (.sl 3 3 15))::pgR)) [(2,ny 40),(0,ah)] 3 [] hPt δ n5 fun κ5 a5 w5 n6 p5=>?_);refine sF 3 66 [.one (.sl 40 40 42),.one (.v 24)] (.one (.i .i64 (.x 56))) 56 (fun d _=>d=pgS (bP P x.QA)) τ ((7,.one (.i .i64 (.x 56)))::fx 32 16 ((15,.one (.i .i64 (.ln 3)))::(14,.one (.sl 3 3 15))::pgR)) [(0,ah)] 3 δ n6 (fun w' D=>tab 42 (Δ hB N.size) Y (Rs.K3 p5.keep D) (Rs.K3 (Rs.K3 bl J) (Rs.K3 p5.keep D)) rfl rfl rfl rfl) fun κ6 a6 w6 d _ b0 _ n7 W=>?_
  subst b0;have O:=Rs.K3 J (Rs.K3 p5.keep W.keep);have an:=(hA.trans p5.agree fun _ h=>h).trans W.agree fun _ h=>h
  cases eb:decide (bP P x.QA=0)with
  | true =>
   refine dU 2 τ [(2,.one (.i .i64 (.c 0)))] [] 3 [] hPt δ (n7.fa [(.cmp .eql (.x 56) (.c 0),true)] (fac ((eh _ 0).trans eb) dg)) fun κ7 a7 w7 n8 I=>bQ (bY ?_)
   refine fj 2 rfl n8.has rfl (I.agree.defers.trans (an.defers.trans (p3.agree.defers.trans (p2.agree.defers.trans (p1.agree.defers.trans hd))))) ⟨?_,Rs.K3 ad (Rs.K3 O I.keep)⟩;rw[oQ (List.mem_append_left _ (List.mem_map_of_mem (γ C))) (of_decide_eq_true eb)];rfl
  | false =>
   refine b7 3 τ (fx 32 16 ((15,.one (.i .i64 (.ln 3)))::(14,.one (.sl 3 3 15)) :: [(4,.one (.i .i64 (.bin .add .i64 (.x 33) (.x 56)))),(3,.one (.v 24)),(1,.one (.p 0 0))])) [] 3 [] hPt δ (n7.fa [(.cmp .eql (.x 56) (.c 0),false)] (fac ((eh _ 0).trans eb) dg)) fun κ7 a7 w7 n8 I=>cM rfl ?_
   have ez:e+bP P x.QA=jI P ((P.Q4.take (k+1)).map ak.QA):=by rw[he,List.take_add_one,C];simp[jI]
   have hb:=bc (P.Q4.take (k+1)) fun y hy=>bg y (List.mem_of_mem_take hy)
   rw[←ez,List.length_map,List.length_take]at hb;refine⟨_,κ7,⟨ez,BD C H (Nat.pos_of_ne_zero (of_decide_eq_false eb))⟩,fun r hr=>(I.upto r (by show r<3;omega)).trans ((W.upto r (by show r<3;omega)).trans ((p5.upto r (by show r<2;omega)).trans (hu r hr))),n8.has.re ⟨rfl,rfl,rfl,?_,rfl,rfl,trivial⟩,an.trans I.agree fun _ h=>h,Rs.K3 O I.keep⟩;show Value.int .i64 (IntKind.i64.wrap ((e:Int)+bP P x.QA))=.int .i64 ((e+bP P x.QA:Nat):Int);rw[add χ]
 obtain⟨he,H⟩:=V.gh;rw[List.take_length]at he H;have bx:=bc P.Q4 bg;rw[←he,List.length_map]at bx;refine b7 1 τ ((33,.one (.i .i64 (.c 0)))::(32,.one (.i .i64 (.ln 1)))::(31,.one (.sl 1 1 13))::pgR) [(0,ah)] 1 [] hPt δ V fun κ5 a5 w5 n5 p5=>?_
 have n6:=n5.downR [(1,.one (.p 0 0))] ⟨rfl,trivial⟩ δ;have af:=Rs.K3 (Rs.K3 ad J) p5.keep;have b5:=Rs.K3 (Rs.K3 bl J) p5.keep;have be:=p5.agree.defers.trans (hA.defers.trans (p3.agree.defers.trans (p2.agree.defers.trans (p1.agree.defers.trans hd))));refine az (ow n6 P.Q5.length 32 33 1 ((32,.one (.i .i64 (.ln 1)))::(31,.one (.sl 1 1 13))::pgR) τ pgS (fun k K _=>K=e+jI P (kh (P.Q5.take k))∧∀l∈kh (P.Q5.take k),0<bP P l) (fun _ _ _ _ _ h=>h) e hPt δ rfl χ ⟨rfl,by simp[kh]⟩ (n5.has.re ⟨rfl,rfl,rfl,rfl,rfl,rfl,trivial⟩) (fun k K a4 w4 hk V hA J=>?_) fun K a4 w4 V hA J=>?_)
 ·obtain⟨x,C⟩:=ge hk
  obtain⟨Q,u⟩:=V.gh;have N:=Rs.K3 af J;obtain⟨g,o,h1,h2,X,h7,Y,_⟩:=cW h.Q5 (eH B) hB N C;obtain⟨κ',hu,n7⟩:=V.elem (j:=1) (x:=CU x X) (cl:=yi 40) h1 ⟨h2,id⟩ hk h7 (yg Y _ _ _) δ;refine aY (b7 1 τ ((9,.one (.p 2 0))::fx 32 33 ((32,.one (.i .i64 (.ln 1)))::(31,.one (.sl 1 1 13))::pgR)) [(2,yi 40),(0,ah)] 3 [] hPt δ n7 fun κ6 a6 w6 n8 W=>?_);have L:kh (P.Q5.take (k+1))=kh (P.Q5.take k)++(if 0<x.QA.length then[x.QA]else[]):=by rw[List.take_add_one,C];exact yh _ x
  cases eb:decide (x.QA.length=0)with
  | true =>
   have e0:¬ 0<x.QA.length:=by have:=of_decide_eq_true eb;omega
   rw[if_neg e0,List.append_nil]at L;refine Bg 2 (.e 3) τ (fx 32 33 ((32,.one (.i .i64 (.ln 1)))::(31,.one (.sl 1 1 13))::pgR)) [] 3 [] hPt δ (n8.fa [(.cmp .eql (.ln 40) (.c 0),true)] (fac ((eh _ 0).trans eb) dg)) fun κ7 a7 w7 n9 I=>?_
   exact⟨K,κ7,by show _=e+jI P (kh (P.Q5.take (k+1)))∧∀l∈kh (P.Q5.take (k+1)),_;rw[L];exact⟨Q,u⟩,fun r hr=>(I.upto r (by show r<3;omega)).trans ((W.upto r (by show r<2;omega)).trans (hu r hr)),n9.has.re ⟨rfl,rfl,rfl,rfl,rfl,rfl,trivial⟩,(hA.trans W.agree fun _ h=>h).trans I.agree fun _ h=>h,Rs.K3 (Rs.K3 J W.keep) I.keep⟩
  | false =>
   have e0:0<x.QA.length:=Nat.pos_of_ne_zero (of_decide_eq_false eb);rw[if_pos e0]at L;refine b7 2 τ ((9,.one (.p 2 0))::fx 32 33 ((32,.one (.i .i64 (.ln 1)))::(31,.one (.sl 1 1 13))::pgR)) [(2,yi 40),(0,ah)] 3 [] hPt δ (n8.fa [(.cmp .eql (.ln 40) (.c 0),false)] (fac ((eh _ 0).trans eb) dg)) fun κ7 a7 w7 n9 I=>?_
   have al:=Rs.K3 W.keep I.keep;refine sF 3 66 [.one (.sl 40 40 41),.one (.v 24)] (.one (.i .i64 (.x 56))) 56 (fun d _=>d=pgS (bP P x.QA)) τ ((10,.one (.i .i64 (.x 56)))::fx 32 33 ((32,.one (.i .i64 (.ln 1)))::(31,.one (.sl 1 1 13))::pgR)) [(0,ah)] 3 δ (n9.fa [] dg) (fun w' D=>tab 41 (Δ hB N.size) Y (Rs.K3 al D) (Rs.K3 (Rs.K3 b5 J) (Rs.K3 al D)) rfl rfl rfl rfl) fun κ8 a8 w8 d _ b1 _ bm p8=>?_
   subst b1;have bb:=Rs.K3 J (Rs.K3 al p8.keep);have a0:=((hA.trans W.agree fun _ h=>h).trans I.agree fun _ h=>h).trans p8.agree fun _ h=>h
   cases eb:decide (bP P x.QA=0)with
   | true =>
    refine dU 2 τ [(2,.one (.i .i64 (.c 0)))] [] 3 [] hPt δ (bm.fa [(.cmp .eql (.x 56) (.c 0),true)] (fac ((eh _ 0).trans eb) dg)) fun κ9 a9 w9 U p9=>bQ (bY ?_)
    refine fj 2 rfl U.has rfl (p9.agree.defers.trans (a0.defers.trans be)) ⟨?_,Rs.K3 af (Rs.K3 bb p9.keep)⟩;rw[oQ (List.mem_append_right _ (List.mem_filter.2 ⟨List.mem_map_of_mem (γ C),decide_eq_true e0⟩)) (of_decide_eq_true eb)];rfl
   | false =>
    refine b7 3 τ (fx 32 33 ((32,.one (.i .i64 (.ln 1)))::(31,.one (.sl 1 1 13)) :: [(4,.one (.i .i64 (.bin .add .i64 (.x 33) (.x 56)))),(3,.one (.v 24)),(1,.one (.p 0 0))])) [] 3 [] hPt δ (bm.fa [(.cmp .eql (.x 56) (.c 0),false)] (fac ((eh _ 0).trans eb) dg)) fun κ9 a9 w9 U p9=>cM rfl ?_
    have ez:K+bP P x.QA=e+jI P (kh (P.Q5.take (k+1))):=by rw[Q,L,xW,Nat.add_assoc]
    have hb:=bd (P.Q5.take (k+1)) fun y hy=>bf y (List.mem_of_mem_take hy)
    have E:=tp (P.Q5.take (k+1));rw[List.length_take]at E;refine⟨_,κ9,⟨ez,by rw[L];exact fun l E=>(Ω.1 E).elim (u l) fun q=>by obtain rfl:=ρ.1 q;exact Nat.pos_of_ne_zero (of_decide_eq_false eb)⟩,fun r hr=>(p9.upto r (by show r<3;omega)).trans ((p8.upto r (by show r<3;omega)).trans ((I.upto r (by show r<3;omega)).trans ((W.upto r (by show r<2;omega)).trans (hu r hr)))),U.has.re ⟨rfl,rfl,rfl,?_,rfl,rfl,trivial⟩,a0.trans p9.agree fun _ h=>h,Rs.K3 bb p9.keep⟩;show Value.int .i64 (IntKind.i64.wrap ((K:Int)+bP P x.QA))=.int .i64 ((K+bP P x.QA:Nat):Int);rw[add χ]
 obtain⟨Q,u⟩:=V.gh;rw[List.take_length]at Q u;have hb:=bd P.Q5 bf;have E:=tp P.Q5;have O:=Rs.K3 af J;refine sF 2 67 [.ag ah] (.one (.i .i64 (.x 56))) 56 (fun d _=>d=pgS (dl aa P)) τ [(2,.one (.i .i64 (.bin .add .i64 (.x 33) (.bin .quo .i64 (.bin .sub .i64 (.bin .add .i64 (.x 56) (.c 4096)) (.c 1)) (.c 4096)))))] [] 1 δ V (fun w' D=>?_) fun κ9 a9 w9 d _ b2 _ U p9=>?_
 ·have hk:=Rs.K3 O D
  rw[List.map_cons,bT h (bt.trans ((aQ _ 32 _).mono fun j hj=>Nat.ble_eq_true_of_le (Δ (ω hj) ψ)))];exact(yt (bD.kept h hB hk) (by have:=hk.size;omega)).mono fun e ac q=>⟨_,rfl,q.1,q.2⟩
 subst b2;refine dU 1 τ [(2,.one (.i .i64 (.bin .add .i64 (.x 33) (.bin .quo .i64 (.bin .sub .i64 (.bin .add .i64 (.x 56) (.c 4096)) (.c 1)) (.c 4096)))))] [] 1 [] hPt δ U fun cc ca cb b6 bo=>?_
 refine fj 2 rfl b6.has rfl (bo.agree.defers.trans (p9.agree.defers.trans (hA.defers.trans be))) ⟨?_,Rs.K3 (Rs.K3 O p9.keep) bo.keep⟩;rw[xw (fun l E=>(Ω.1 E).elim (fun q=>by obtain⟨x,C,rfl⟩:=List.mem_map.1 q;exact H x C) (u l)),show jI P P.tabled=K by rw[Q,he];simp[jI,aF.tabled,kh]];obtain⟨A,bp⟩:∃A,A=dl aa P:=⟨_,rfl⟩;rw[←bp]at bw⊢;show Ending.returned (Value.int .i64 (IntKind.i64.wrap ((K:Int)+IntKind.i64.wrap ((IntKind.i64.wrap (IntKind.i64.wrap ((A:Int)+4096)-1)).tdiv 4096))))=_;rw[i64_in ((A:Int)+4096) χ,i64_in ((A:Int)+4096-1) χ,Int.tdiv_eq_ediv_of_nonneg χ,i64_in (((A:Int)+4096-1) / 4096) χ,i64_in _ χ]
 congr 2
 omega
end Rs
theorem yR{B:Nat}{w:World}{pb:Nat}{v:ae}{P:aF}(h:aG B w pb v P xJ []):Calls Tryz.prog 32 #[.pointer (some ⟨pb,0,none⟩)] w fun e w'=>e=.returned (.tuple #[])∧aG B w' pb v P xJ (mO aa P)∧aD (fun k=>k=pb) w w':=by
 have hp:=h.QU;have HL:=hh h;have d4:=h.base;have d7:=h.lt;have HC:Hid (∀w1,Kz w w1→∀j x,(v.cells P)[j]?=some x→w1.cell? ⟨pb,j,none⟩=some x):=hh fun w1 hk j x hj=>(HL.out.new hk).cell hj
 obtain⟨A_rams,O,bx,cc,cm,cf⟩:=hp.QD;obtain⟨A_devices,y,Y,a9,bo,be⟩:=hp.Q5;obtain⟨A_regions,E,ad,bd,bt,bm⟩:=hp.Q3;obtain⟨A_subjects,u,U,a2,a8,a5⟩:=hp.Q4;obtain⟨A_channels,l,Q,a0,a6,a3⟩:=hp.Q8;obtain⟨A_irqs,N,bw,cb,cj,cd⟩:=hp.QM;obtain⟨A_queues,H,af,bz,b3,b1⟩:=hp.QB;obtain⟨A_plans,L,an,b5,ca,b6⟩:=hp.Q9;obtain⟨A_masters,D,ac,bc,bs,bg⟩:=hp.QC;obtain⟨A_starts,I,al,b0,b4,b2⟩:=hp.QI;obtain⟨A_monitors,q,R,a1,a7,a4⟩:=hp.QE;obtain⟨A_forbids,C,Z,bb,bp,bf⟩:=hp.QG;have e1:v.cells P=[.int .i64 P.pos,.string P.name,.slice A_rams P.QD.length O,.slice A_devices P.Q5.length y,.slice A_regions P.Q3.length E,.slice A_subjects P.Q4.length u,.slice A_channels P.Q8.length l,.slice A_irqs P.QM.length N,.slice A_queues P.QB.length H,.slice A_plans P.Q9.length L,.slice A_masters P.QC.length D,.slice A_starts P.QI.length I,.slice A_monitors P.QE.length q,.slice A_forbids P.QG.length C]:=by
  rw[←bx,←Y,←ad,←U,←Q,←bw,←af,←an,←ac,←al,←R,←Z];rfl
 rw[e1]at HC;have e0:(v.cells P).toArray = #[.int .i64 P.pos,.string P.name,.slice A_rams P.QD.length O,.slice A_devices P.Q5.length y,.slice A_regions P.Q3.length E,.slice A_subjects P.Q4.length u,.slice A_channels P.Q8.length l,.slice A_irqs P.QM.length N,.slice A_queues P.QB.length H,.slice A_plans P.Q9.length L,.slice A_masters P.QC.length D,.slice A_starts P.QI.length I,.slice A_monitors P.QE.length q,.slice A_forbids P.QG.length C]:=by rw[e1]
 have cu:Hid (∀w1,Kz w w1→Calls Tryz.prog 23 #[.agg #[.int .i64 P.pos,.string P.name,.slice A_rams P.QD.length O,.slice A_devices P.Q5.length y,.slice A_regions P.Q3.length E,.slice A_subjects P.Q4.length u,.slice A_channels P.Q8.length l,.slice A_irqs P.QM.length N,.slice A_queues P.QB.length H,.slice A_plans P.Q9.length L,.slice A_masters P.QC.length D,.slice A_starts P.QI.length I,.slice A_monitors P.QE.length q,.slice A_forbids P.QG.length C]] w1 fun e w'=>e=.returned (.int .i64 (pages aa P))∧Kz w1 w'):=hh fun w1 hk=>by rw[←e0];exact Rs.qZ (HL.out.QU.below (hk.below (B:=B) χ (fun _ _ h=>h))) (Δ χ hk.size)
 clear e0 e1 hp h bx cf cc cm Y be a9 bo ad bm bd bt U a5 a2 a8 Q a3 a0 a6 bw cd cb cj af b1 bz b3 an b6 b5 ca ac bg bc bs al b2 b0 b4 R a4 a1 a7 Z bf bb bp;obtain⟨pg,cs⟩:∃n,n=pages aa P:=⟨_,rfl⟩;rw[←cs]at cu;have HS:Hid (mO aa P=say (decide (pg≤1024)) P.pos 0):=hh (by rw[cs];rfl);clear cs;have cy:decide ((pg:Int)≤1024)=decide (pg≤1024):=decide_eq_decide.2 χ;obtain⟨bl,cv⟩:∃b,b=decide (pg≤1024):=⟨_,rfl⟩;rw[←cv]at cy HS;clear cv;refine bL Tryz.func32 Tryz.ntmps32 rfl (by show 1≤15;decide) fun a cw hd hh=>?_
 have h0:At a 0 (.pointer (some ⟨pb,0,none⟩)):=hh 0 _ rfl;clear hh
 conv=>arg 2;whnf
 refine jG 12 (fun i=>([.pointer (some ⟨pb,0,none⟩),.pointer (some ⟨pb,0,none⟩),.pointer (some ⟨pb,0,none⟩),.pointer (some ⟨pb,0,none⟩),.agg #[.int .i64 P.pos,.string P.name,.slice A_rams P.QD.length O,.slice A_devices P.Q5.length y,.slice A_regions P.Q3.length E,.slice A_subjects P.Q4.length u,.slice A_channels P.Q8.length l,.slice A_irqs P.QM.length N,.slice A_queues P.QB.length H,.slice A_plans P.Q9.length L,.slice A_masters P.QC.length D,.slice A_starts P.QI.length I,.slice A_monitors P.QE.length q,.slice A_forbids P.QG.length C],.int .i64 (pg:Nat),.bool bl,.pointer (some ⟨pb,0,none⟩),.pointer (some ⟨pb,0,none⟩),.pointer (some ⟨pb,0,none⟩),.pointer (some ⟨pb,0,none⟩),.int .i64 P.pos]:List Value).getD i undef) (fun w'=>Kz w.drew w') δ δ (aD.refl _ _) ?_ ?_
 ·intro i o hi X V w' K hW hb g W
  have cx:V.tmps.size=15:=hb.size.trans cw;have ec:=hb.Q7 h0 rfl;have J:Kz w w':=((aD.refl (fun _=>False) w).drew).trans hW (fun _ _ h=>h)
  match i,hi,X,g,W with
  | 0,_,X,g,W =>
   obtain rfl:=oi X;obtain⟨T,d⟩:=V;go_simp;exact W _ hW
  | 1,_,X,g,W =>
   obtain rfl:=oi X;obtain⟨T,d⟩:=V;go_simp;exact W _ hW
  | 2,_,X,g,W =>
   obtain rfl:=oi X;have dc:At V 3 (.pointer (some ⟨pb,0,none⟩)):=g 1 δ ψ 3 rfl;obtain⟨T,d⟩:=V;go_simp;exact W _ hW
  | 3,_,X,g,W =>
   obtain rfl:=oi X;have di:At V 4 (.pointer (some ⟨pb,0,none⟩)):=g 2 δ ψ 4 rfl;obtain⟨T,d⟩:=V;go_simp;exact W _ hW
  | 4,_,X,g,W =>
   obtain rfl:=oi X;have dk:At V 5 (.pointer (some ⟨pb,0,none⟩)):=g 3 δ ψ 5 rfl;have q0:=HC.out w' J 0 _ rfl;have q1:=HC.out w' J 1 _ rfl;have q2:=HC.out w' J 2 _ rfl;have q3:=HC.out w' J 3 _ rfl;have q4:=HC.out w' J 4 _ rfl;have q5:=HC.out w' J 5 _ rfl;have q6:=HC.out w' J 6 _ rfl;have q7:=HC.out w' J 7 _ rfl;have q8:=HC.out w' J 8 _ rfl;have q9:=HC.out w' J 9 _ rfl;have d8:=HC.out w' J 10 _ rfl;have d9:=HC.out w' J 11 _ rfl;have ea:=HC.out w' J 12 _ rfl;have eb:=HC.out w' J 13 _ rfl;obtain⟨T,d⟩:=V;go_simp;exact W _ hW
  | 5,_,X,g,W =>
   obtain rfl:=oi X;have ds:At V 6 (.agg #[.int .i64 P.pos,.string P.name,.slice A_rams P.QD.length O,.slice A_devices P.Q5.length y,.slice A_regions P.Q3.length E,.slice A_subjects P.Q4.length u,.slice A_channels P.Q8.length l,.slice A_irqs P.QM.length N,.slice A_queues P.QB.length H,.slice A_plans P.Q9.length L,.slice A_masters P.QC.length D,.slice A_starts P.QI.length I,.slice A_monitors P.QE.length q,.slice A_forbids P.QG.length C]):=g 4 δ ψ 6 rfl;obtain⟨T,d⟩:=V;go_simp;refine(cu.out w' J).mono ?_;rintro e w2 ⟨rfl,cp⟩;exact W _ (hW.trans cp (fun _ _ h=>h))
  | 6,_,X,g,W =>
   obtain rfl:=oi X;have dt:At V 7 (.int .i64 (pg:Nat)):=g 5 δ ψ 7 rfl;obtain⟨T,d⟩:=V;go_simp;exact W _ hW
  | 7,_,X,g,W =>
   obtain rfl:=oi X;obtain⟨T,d⟩:=V;go_simp;exact W _ hW
  | 8,_,X,g,W =>
   obtain rfl:=oi X;have d1:At V 9 (.pointer (some ⟨pb,0,none⟩)):=g 7 δ ψ 9 rfl;obtain⟨T,d⟩:=V;go_simp;exact W _ hW
  | 9,_,X,g,W =>
   obtain rfl:=oi X;have d2:At V 10 (.pointer (some ⟨pb,0,none⟩)):=g 8 δ ψ 10 rfl;obtain⟨T,d⟩:=V;go_simp;exact W _ hW
  | 10,_,X,g,W =>
   obtain rfl:=oi X;have d3:At V 11 (.pointer (some ⟨pb,0,none⟩)):=g 9 δ ψ 11 rfl;obtain⟨T,d⟩:=V;go_simp;exact W _ hW
  | 11,_,X,g,W =>
   obtain rfl:=oi X;have c7:At V 12 (.pointer (some ⟨pb,0,none⟩)):=g 10 δ ψ 12 rfl;have q0:=HC.out w' J 0 _ rfl;obtain⟨T,d⟩:=V;go_simp;exact W _ hW
 ·intro o X V w' hW hb g
  obtain rfl:=oi X;have cx:V.tmps.size=15:=hb.size.trans cw;have c6:=hb.defers.trans hd;have J:Kz w w':=((aD.refl (fun _=>False) w).drew).trans hW (fun _ _ h=>h);have c9:At V 2 (.pointer (some ⟨pb,0,none⟩)):=g 0 ψ 2 rfl;have d0:At V 8 (.bool bl):=g 6 ψ 8 rfl;have c8:At V 13 (.int .i64 P.pos):=g 11 ψ 13 rfl;have c4:=hh (HL.out.new J);have c3:=hh J;clear J hW hb g;obtain⟨T,d⟩:=V;with_reducible refine Lz (fun K W=>?_)
  go_simp;refine(aR _ _ 0 108 c4.out rfl).mono ?_;rintro e w2 ⟨rfl,c5,cp⟩;with_reducible refine W _ _ (ln ?_)
  refine dL rfl c6 ⟨rfl,?_,(c3.out.mono fun _ _ h=>h.elim:aD (fun k=>k=pb) w w').trans cp (fun _ _ h=>h)⟩;rw[HS.out]
  simpa using c5
