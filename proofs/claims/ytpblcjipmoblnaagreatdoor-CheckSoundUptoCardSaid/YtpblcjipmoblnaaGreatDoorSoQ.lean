import Derived.Test.YtpblcjipmoblnaaGreatDoorNums
import Derived.Test.YtpblcjipmoblnaaGreatDoorRsw
set_option maxRecDepth 100000
set_option linter.all false
set_option maxHeartbeats 4000000
namespace Go.Proofs.YtpblcjipmoblnaaGreatDoor.Rs
open Go.RowKit Go.Proofs.YtpblcjipmoblnaaGreatDoor Ck
def Cq:=dZ (fun s:ByteArray=>[Value.string s]) aX
theorem sO{α:Type}{cells:α→List Value}{k:Nat}(d:∀x,(cells x).length=k):∀{xs:List α} {i j:Nat} {x:α} {u:Value},xs[i]?=some x→(cells x)[j]?=some u→(xs.flatMap cells)[i*k+j]?=some u
 | [],i,j,x,u,h,_=>by simp at h
 | y::t,0,j,x,u,h,hu=>by
  obtain rfl:y=x:=by simpa using h
  have:=(List.getElem?_eq_some_iff.1 hu).1;rw[List.flatMap_cons,Nat.zero_mul,Nat.zero_add,List.getElem?_append_left this,hu]
 | y::t,i+1,j,x,u,h,hu=>by
  rw[List.flatMap_cons,List.getElem?_append_right (by rw[d,Nat.add_mul];omega),d];have:=sO d (xs:=t) (i:=i) (by simpa using h) hu;rw[←this]
  congr 1
  rw[Nat.add_mul];omega
theorem li{α:Type}{w:World}{z k:Nat}{e:TypeId}{v:Value}{xs:List α}{cells:α→List Value}{Ok:α→Prop}(h:w.ownsRow z e k v xs.length (xs.flatMap cells))(D:∀x,(cells x).length=k)(q:∀x∈xs,Ok x)(A:xs.length≤top):aJ w.heap.size k (dZ cells Ok) w v xs:=by
 rcases h.2 with⟨rfl,C⟩|⟨g,p,B,rfl,H,y,l,_,I,r⟩
 ·exact⟨none,0,by rw[C],χ,A,fun h=>χ⟩
 ·refine⟨some ⟨g,0,none⟩,p,rfl,l,A,fun _=>⟨g,0,rfl,aG y,fun i x hx=>⟨fun j u E=>?_,q x (List.mem_of_getElem? hx)⟩⟩⟩
  have d:=sO (cells:=cells) (k:=k) D hx E;rw[←r]at d;rw[cell_of_row _ _ _ _ _ _ y];rw[List.getElem?_take]at d;split at d
  ·simpa using d
  ·cases d
theorem sp{B:Nat}{w:World}{u:Value}{xs:List ByteArray}(A:aJ B 1 Cq w u xs)(N:B≤w.heap.size)(hs:∀(i j:Nat) x y,j<i→xs[i]?=some x→xs[j]?=some y→x≠y):
 Calls Tryz.prog 67 #[u] w fun e w'=>e=.returned (.bool true)∧Kz w w':=by
 have hl:=fC A
 let S:Sta:={ a:=fun _=>vA u,n:=fun j=>match j with|0=>xs.length|_=>vC u }
 refine fnE S (fun _=>(0,0)) [.one (.sl 0 0 1)] Tryz.func67 Tryz.ntmps67 rfl
  (by show #[u] = #[Value.slice (vA u) xs.length (vC u)];rw[aU A]) ψ H0 (fun _ h=>h.elim) trivial fun a hd hh=>?_
 refine am 2 (fun _=>true) [(3,.one (.i .i64 (.c 0))),(0,.one (.sl 0 0 1))] [] 0 [] hPt δ hh fun κ1 a1 w1 R C=>?_
 refine aM (gq R xs.length 32 3 0 [(0,.one (.sl 0 0 1))] (fun _=>true) (fun _:Unit=>{}) (fun _ _ _=>True) (fun _ _ _ _ _ h=>h) () hPt δ rfl hl trivial (R.has.re ⟨rfl,rfl,trivial⟩) ?_ ?_)
 ·intro k e W w2 hk K I q
  obtain⟨x,hx⟩:=ge hk;obtain⟨g,o,h1,h2,h3,h4⟩:=ai A (aF _ _ _) N (K3 C.keep q) hx;obtain⟨κ',ad,n3⟩:=K.elem (j:=0) (x:={ s:=fun _=>x }) (cl:=[.s (.x 40)]) h1 ⟨h2,id⟩ hk h3 rfl δ;refine aK (am 1 (fun _=>true) [(4,.one (.i .i64 (.c 0))),(3,.one (.i .i64 (.x 32))),(0,.one (.sl 0 0 1))] [(0,[.s (.x 40)])] 1 [] hPt δ n3 fun V X w3 U p=>?_);refine aM (BT [(0,1,.x 32,0,0)] U rfl k 64 4 (.x 32) [(3,.one (.i .i64 (.x 32))),(0,.one (.sl 0 0 1))] (fun _=>true) (fun _:Unit=>{}) (fun _ _ _=>True) (fun _ _ _ _ _ h=>h) () hPt δ rfl χ trivial (U.has.re ⟨rfl,rfl,rfl,trivial⟩) ?_ ?_)
  ·intro j Z Y w4 hj v l d
   obtain⟨y,Q⟩:=ge (show j<xs.length by omega);obtain⟨g',o',D,E,H,ac⟩:=ai A (aF _ _ _) N (K3 (K3 (K3 C.keep q) p.keep) d) Q;obtain⟨κ3,J,n6⟩:=v.elem (j:=0) (x:={ s:=fun _=>y }) (cl:=[.s (.x 72)]) D ⟨E,id⟩ (show j<xs.length by omega) H rfl δ;have n7:=n6.fa [(.seq (.x 40) (.x 72),false)] (fac (bq (decide_eq_false (hs k j x y hj hx Q))) cS);exact aK (am 2 (fun _=>true) (fx 64 4 [(3,.one (.i .i64 (.x 32))),(0,.one (.sl 0 0 1))]) [] 2 [] hPt δ n7 fun κ4 a5 w5 n8 L=>cI rfl
    ⟨(),κ4,trivial,fun r O=>(L.upto r (by show r<2;omega)).trans (J r O),n8.has.on (cG _ 64 _ _ _).symm δ,l.trans L.agree (fun _ h=>h),K3 d L.keep⟩)
  ·intro Z Y w4 v l d
   exact cI rfl ⟨(),V,trivial,fun r O=>χ,v.has.re ⟨rfl,rfl,trivial⟩,(I.trans p.agree (fun _ h=>h)).trans l (fun _ h=>h),K3 (K3 q p.keep) d⟩
 ·intro e W w2 K I q
  refine eJ 2 (fun _=>true) [(2,.one (.b (.c true)))] [] 0 [] hPt δ K fun V X w3 v p=>?_
  exact fX 2 rfl v.has rfl (p.agree.defers.trans (I.defers.trans (C.agree.defers.trans hd))) ⟨rfl,K3 (K3 C.keep q) p.keep⟩
variable {N:Nat} {w:World}
def vS(e:Value):Sta where
 o _:=e
def T0(T:Nat→Prop):Gh:=⟨T,fun _ _=>True,fun _ _ _ _ _=>trivial⟩
theorem Now.toT{S:Sta}{κ:Kap}{P:Program}{H:Gh}{F:Fr}{M:Mm}{k:Nat}{j:List Nat}{a:Act}(h:Now S κ N P {} H ⟨F,M,k,j⟩ a w)(T:Nat→Prop)(q:∀g,T g→g<w.heap.size)(p:∀r l,gm M r=some l→¬ T (κ r).1):Now S κ N P {} (T0 T) ⟨F,M,k,[]⟩ a w:=
 ⟨h.has,⟨fun r l d=>⟨⟨(h.mem.get r l d).1.1,p r l d⟩,(h.mem.get r l d).2⟩⟩,Rs.noC _ _ _ _ _,q,trivial⟩
noncomputable def tC(l:List ByteArray):List Value:=l.flatMap fun s=>[Value.string s]
theorem Be:BO Tryz.prog 124 9 1 16:=⟨δ,δ,ψ,ψ⟩
theorem nt{α:Type}{S:Sta}{κ:Kap}{b b2 t id:Nat}{F0:Fr}{X:Array Oper}{R1 R2:Code}{Q:Exit→Act→World→Prop}{Z:Act}{J wB:World}{H:Gh}{z B zc:Nat}{u0:Value}{l0:List ByteArray}{R:World→Nat→Nat→α→Prop}{v:Value}{xs:List α}(name:α→ByteArray)(p ts I:Nat)(FR:Fr)(cl:List Cl)(ws:Nat→Bool)
 (V:aJ B zc R wB v xs)(a7:jo B R)(hB:B≤wB.heap.size)(O:Kz wB J)(bd:B≤z)(U:S.n I=xs.length)(a6:S.a I=vA v)(hR:∀w g o x,R w g o x→∃d:Sta,d.s 0=name x∧∀(e:Value) (k:Nat),aL w g o (cl.map (Cl.den (S.put 32 (((vS e).put 8 d).cnt k)) fun _=>(0,0))))
 (n:Now S κ N Tryz.prog {} H ⟨F0,[(0,aa)],1,[]⟩ Z J)(hz:(κ 0).1<z)(bb:z≤J.heap.size)(E:J.ownsRow z 9 1 u0 l0.length (tC l0))(bc:l0.length+xs.length≤4194304)(h0:Has (S.put 32 ((vS u0).cnt 0)) κ N (fx 32 p ((ts,.one (.v 33))::FR)) Z)
 (ac:wh Tryz.prog N R1 R2 ((ts,.one (.v 33))::FR) [(0,aa)] 1 p t 32 (.ln I) ws=true)(ad:aB Tryz.prog [(I,zc,.x 32,I,1)] N X.toList (fx 32 p ((ts,.one (.v 33))::FR)) [(1,cl),(0,aa)] 2 7 124 33 (.one (.s (.x 40))) 64 ts ws (fx 32 p FR)=true)
 (hs:(kj (lo 40) (fx 32 p ((ts,.one (.v 33))::FR))&&(lj (lo 40) [(0,aa)]&&(lo 32 I&&(St.sc ⟨fx 32 p ((ts,.one (.v 33))::FR),[(0,aa)],1,[]⟩&&cl.all (Cl.sc 0)))))=true)(C:(kj (lo 32) FR&&(qH ((ts,.one (.v 64))::fx 32 p FR) FR && !Nat.beq p ts))=true)
 (hq:∀u a w,w.ownsRow z 9 1 u (l0.length+xs.length) (tC (l0++xs.map name))→aD (fun g=>u0.ownBlock=some g) J w→Has (S.put 32 ((vS u).cnt xs.length)) κ N (fx 32 p ((ts,.one (.v 33))::FR)) a→aA ws Z a→Q .normal a w):
 (Code.block b (Code.loop (Code.seq (Code.seq R1 (Code.cond (.tmp t) .skip (.exit b))) (Code.seq (Code.block b2 (Code.region id X false)) R2)))).wp Tryz.prog Q Z J:=by
 have y:∀g,u0.ownBlock=some g→z≤g∧g<J.heap.size:=E.lt;have nT:=n.toT (fun g=>u0.ownBlock=some g) (fun g q=>(y g q).2) (fun r l hr=>by
  rw[fN]at hr;split at hr
  ·rename_i e;subst e;intro q;have:=(y _ q).1;omega
  ·cases hr)
 have a9:xs.length≤4611686018427387904:=fC V;refine gq nT xs.length 32 p I ((ts,.one (.v 33))::FR) ws vS (fun k e w=>w.ownsRow z 9 1 e (l0.length+k) (tC (l0++(xs.take k).map name))∧∀g,e.ownBlock=some g→u0.ownBlock=some g∨J.heap.size≤g)
  (fun k e w w' hk h=>⟨h.1.kept (hk.grown none) (by cases e.ownBlock<;>simp),h.2⟩) u0 hPt ac U a9 ⟨by simpa using E,fun g q =>.inl q⟩ h0 ?_ ?_
 ·intro k e a2 Y hk W hA K
  obtain⟨x,hx⟩:=ge hk;obtain⟨ho,D⟩:_∧_:=W.gh;have af:aD (fun g=>z≤g) wB Y:=(O.mono fun _ _ h=>h.elim).trans K fun i _ e=>(y i e).1
  obtain⟨A,c,rfl,_,_,hl⟩:=V;obtain⟨g,o,e0,q,hc⟩:=hl χ;have h3:=a7 _ _ _ _ _ (af.below (B:=B) hB fun i hi e=>χ) q (hc k x hx);obtain⟨d,hd,L⟩:=hR _ _ _ _ h3;have a4:g<Y.heap.size:=by have:=O.size;have:=K.size;omega
  obtain⟨κ',a8,n3⟩:=W.elem (j:=I) (x:=d) (cl:=cl) (a6.trans e0) ⟨a4,fun hT=>by have:=(y _ hT).1;omega⟩ (by rw[U];exact hk) (L e k) rfl hs;have ba:z≤Y.heap.size:=Nat.le_trans bb K.size;refine aK (Cu 7 124 33 (.one (.s (.x 40))) 64 ts ws (fx 32 p FR) ad n3 Be rfl ho ba (ys:=[.string (name x)]) (by show(Value.string (d.s 0)).cells=_;rw[hd];rfl) rfl (by simp[Value.oneCell']) (by unfold maxLen;omega) χ fun v' a3 w3 q1 q2 q3 q4 q5=>cI rfl ?_);simp only[Bool.and_eq_true,Bool.not_eq_true']at C;have a5:p≠ts:=fun e=>by have:=C.2.2;subst e;simp at this
  have g1:=q4.get ts (.one (.v 64)) (by rw[bD,if_pos rfl]);have g2:=q4.get p (.one (.i .i64 (.x 32))) (by rw[bD,if_neg (fun e=>a5 e.symm),fx,bD,if_pos rfl]);have a1:Agr (lo 32) ((S.put 32 (((vS e).put 8 d).cnt k)).put 64 (vS v')) (S.put 32 ((vS v').cnt k)):=
   (((aQ S 32 _).trans ((aQ _ 64 _).mono fun j hj=>Nat.ble_eq_true_of_le (Nat.le_trans (Nat.le_of_ble_eq_true hj) ψ))).symm).trans (aQ S 32 _)
  have hF:=(q4.sub C.2.1).on a1 C.1;refine⟨v',κ',⟨?_,fun g q=>?_⟩,a8,gP (gP hF ?_) ?_,hA.trans q5 (fun _ h=>h),?_⟩
  ·have e2:tC (l0++(xs.take (k+1)).map name)=tC (l0++(xs.take k).map name)++[.string (name x)]:=by simp[tC,List.take_add_one,hx]
   rw[e2];exact q1
  ·rcases q3 g q with h|h
   ·exact D g h
   ·exact .inr (Nat.le_trans K.size h)
  ·exact g1
  ·exact g2
  ·exact K.trans q2 fun i hi e=>(D i e).elim (fun h=>h) fun h=>χ
 ·intro e a2 Y W hA K
  obtain⟨ho,_⟩:_∧_:=W.gh;rw[List.take_length]at ho;exact hq e a2 Y ho K W.has hA
theorem Now.again{S S':Sta}{κ:Kap}{P:Program}{C:Ctx}{H:Gh}{F F':Fr}{M:Mm}{k:Nat}{q:List Nat}{a j:Act}{w':World}{T:Nat→Prop}(h:Now S κ N P C H ⟨F,M,k,q⟩ a w)(hk:aD T w w')(y:∀r l,gm M r=some l→¬ T (κ r).1)(v:Agr (lo 24) S S')(g:lj (lo 24) M=true)(x:Has S' κ N F' j):Now S' κ N P {} H0 ⟨F',M,k,[]⟩ j w':=by
 have u:iP S κ T M w:=⟨fun r l d=>⟨⟨(h.mem.get r l d).1.1,y r l d⟩,(h.mem.get r l d).2⟩⟩;have p:=(u.keep hk).on v g;exact⟨x,⟨fun r l d=>⟨⟨(p.get r l d).1.1,id⟩,(p.get r l d).2⟩⟩,Rs.noC _ _ _ _ _,fun _ h=>h.elim,trivial⟩
def Dis(l:List ByteArray):Prop:=∀(i j:Nat) x y,j<i→l[i]?=some x→l[j]?=some y→x≠y
structure uW (P:aC):Prop where
 things:Dis (P.Q5.map (·.name)++P.Q4.map (·.name))
 QS:Dis (P.Q3.map (·.name))
 chans:Dis (P.Q8.map (·.name))
 QJ:Dis (P.QJ.map (·.name))
 QX:Dis (P.QC.map (·.name))
 Q9:Dis (P.Q9.map (·.name))
 len:P.Q5.length+P.Q4.length≤2097152
def oS(l:List Value):Sta where
 o j:=l.getD j undef
def nl:SV := .one (.l (.slice none 0 0))
theorem g0{q w':World}{z:Nat}{u:Value}{l:List ByteArray}{S:Sta}{κ:Kap}{j:Nat}(n:Nat)(B:w.ownsRow z 9 1 u n (tC l))(A:n=l.length)(hk:Kz w q)(g:Kz q w')(y:l.length≤2097152)(C:∀x∈l,aX x)(v:Dis l)(r:S.o j=u):
 Calls Tryz.prog 67 ([SV.one (.v j)].map (SV.den S κ)).toArray w' fun e p=>e=.returned ((SV.one (.b (.c true))).den S κ)∧Kz w' p:=by
 show Calls Tryz.prog 67 #[S.o j] w' _;rw[r];subst A;have d:=K3 hk g;have h:=li (Ok:=aX) B (fun _=>rfl) C y;exact sp (h.below (aF _ _ _) (d.below (Nat.le_refl _) fun _ _ e=>e)) d.size v
theorem yN{B:Nat}{v:aR}{P:aC}(h:ao B w v P)(U:B≤w.heap.size)(Z:uW P):
 Calls Tryz.prog 30 #[.agg (v.cells P).toArray] w fun e w'=>e=.returned (.bool true)∧Kz w w':=by
 have s1:∀x∈P.Q4,aX x.name:=bg h.Q4 fun b o x hx=>by obtain⟨_,_,_,_,_,_,h⟩:=hx;exact h
 have s2:∀x∈P.Q5,aX x.name:=bg h.Q5 fun b o x hx=>hx.2.2.2.2.2.1
 have s3:∀x∈P.Q3,aX x.name:=bg h.Q3 fun b o x hx=>by obtain⟨_,_,_,_,_,_,_,h⟩:=hx;exact h
 have s4:∀x∈P.Q8,aX x.name:=bg h.Q8 fun b o x hx=>hx.2.2.2.2.1
 have s5:∀x∈P.QJ,aX x.name:=bg h.QJ fun b o x hx=>hx.2.2.2.1
 have s6:∀x∈P.QC,aX x.name:=bg h.QC fun b o x hx=>hx.2.2.2.2.1
 have s7:∀x∈P.Q9,aX x.name:=bg h.Q9 fun b o x hx=>by obtain⟨_,_,_,_,_,h⟩:=hx;exact h
 have t3:P.Q3.length≤2097152:=by obtain⟨_,_,_,_,b,_⟩:=h.Q3;exact b
 have t4:P.Q8.length≤2097152:=by obtain⟨_,_,_,_,b,_⟩:=h.Q8;exact b
 have t5:P.QJ.length≤2097152:=by obtain⟨_,_,_,_,b,_⟩:=h.QJ;exact b
 have t6:P.QC.length≤2097152:=by obtain⟨_,_,_,_,b,_⟩:=h.QC;exact b
 have t7:P.Q9.length≤2097152:=by obtain⟨_,_,_,_,b,_⟩:=h.Q9;exact b
 have t8:=Z.len;refine fnE (cA v P) (fun _=>(0,0)) [.ag aa] Tryz.func30 Tryz.ntmps30 rfl
  (by rw[List.map_cons,b6 h (Agr.refl _ _)];rfl) ψ H0 (fun _ h=>h.elim) trivial fun a hd hh=>?_
 refine am 3 (fun _=>true) ((9,.one (.i .i64 (.c 0)))::gF [(3,nl),(4,nl),(5,nl),(6,nl),(7,nl),(8,nl)]) [(0,aa)] 1 [] hPt δ hh fun κ a1 w1 n1 p1=>?_
 have hz:(κ 0).1<w1.heap.size:=(n1.mem.get 0 aa rfl).1.1;have be:=p1.agree.defers.trans hd;have V:=p1.keep;have d2:=V.size;refine aM (nt (z:=w1.heap.size) (wB:=w) (u0 := .slice none 0 0) (l0:=[]) (xs:=P.Q5) (·.name) 9 3 2 (gF [(4,nl),(5,nl),(6,nl),(7,nl),(8,nl)]) (pD 40) (fun _=>true) h.Q5 (aF _ _ _) U V χ rfl rfl (fun w g o x hx=>⟨eO x,rfl,fun e k=>hx.1⟩) n1 hz (Nat.le_refl _) (World.ownsRow_nil _ _ _ _) η (n1.has.re ⟨rfl,rfl,rfl,rfl,rfl,rfl,rfl,rfl,trivial⟩) δ δ δ δ fun u1 a2 w2 o1 k1 f1 g1=>?_);have cl:∀r l,gm [(0,aa)] r=some l→¬ (fun g=>(Value.slice none 0 0).ownBlock=some g) (κ r).1:=fun _ _ _ h=>by cases h
 have kF:∀{w w':World},aD (fun g=>(Value.slice none 0 0).ownBlock=some g) w w'→Kz w w':=fun h=>h.mono fun _ _ h=>by cases h
 have ag:∀{A B:Sta},Agr (lo 24) ((cA v P).put 24 A) ((cA v P).put 24 B):=fun{A B}=>(aQ _ _ _).symm.trans (aQ _ _ _)
 have n2:=n1.again k1 cl (aQ (cA v P) 24 (oS [u1])) δ (F':=gF [(3,.one (.v 24)),(4,nl),(5,nl),(6,nl),(7,nl),(8,nl)]) (f1.re ⟨rfl,rfl,rfl,rfl,rfl,rfl,rfl,trivial⟩);have bl:=g1.defers.trans be;have cu:=K3 V (kF k1);have d3:=k1.size;refine am 1 (fun _=>true) ((10,.one (.i .i64 (.c 0)))::gF [(3,.one (.v 24)),(4,nl),(5,nl),(6,nl),(7,nl),(8,nl)]) [(0,aa)] 1 [] hPt δ n2 fun κ2 a3 w3 n3 p2=>?_
 have b0:κ2 0=κ 0:=p2.upto 0 ψ;have ac:=o1.kept (p2.keep.grown none) (by cases u1.ownBlock<;>simp);have bm:=p2.agree.defers.trans bl;have bd:=Rs.K3 cu p2.keep;have d4:=p2.keep.size;refine aM (nt (z:=w1.heap.size) (wB:=w) (u0:=u1) (l0:=P.Q5.map (·.name)) (xs:=P.Q4) (·.name) 10 3 1 (gF [(4,nl),(5,nl),(6,nl),(7,nl),(8,nl)]) (kJ 40) (fun _=>true) h.Q4 (bh B) U bd χ rfl rfl (fun w g o x ⟨H,hx,hm,_⟩=>⟨oV x H,rfl,fun e k=>by
  show aL w g o [.int .i64 x.pos,.string x.name,.int .u64 x.Q7,.int .u64 x.size,.slice (vA H) x.QF.length (vC H)];rw[aU hm];exact hx⟩) n3 (by rw[b0];exact hz) χ (by simpa using ac) η (n3.has.re ⟨rfl,rfl,rfl,rfl,rfl,rfl,rfl,rfl,trivial⟩) δ δ δ δ fun p a4 w4 o2 k2 f2 g2=>?_)
 have cd:=ac.lt;have n4:=n3.again k2 (fun r l hr=>by
  rw[fN]at hr;split at hr
  ·rename_i e;subst e;intro hg;have:=(cd _ hg).1;rw[b0]at this;omega
  ·cases hr) (ag (A:=oS [u1]) (B:=oS [p])) δ (F':=gF [(3,.one (.v 24)),(4,nl),(5,nl),(6,nl),(7,nl),(8,nl)]) (f2.re ⟨rfl,rfl,rfl,rfl,rfl,rfl,rfl,trivial⟩)
 have bo:=g2.defers.trans bm;have cv:Kz w w4:=bd.trans k2 fun i hi e=>by have:=(cd i e).1;omega
 have d5:=k2.size;clear n1 n2 n3 p1 p2 hd be bl bm o1 ac f1 f2 g1 g2 hh cl;refine am 1 (fun _=>true) ((11,.one (.i .i64 (.c 0)))::gF [(3,.one (.v 24)),(4,nl),(5,nl),(6,nl),(7,nl),(8,nl)]) [(0,aa)] 1 [] hPt δ n4 fun κ5 a5 w5 n5 p5=>?_
 have bp:=p5.agree.defers.trans bo;have W:=Rs.K3 cv p5.keep;have cy:=(n5.mem.get 0 aa rfl).1.1;refine aM (nt (z:=w5.heap.size) (wB:=w) (u0 := .slice none 0 0) (l0:=[]) (xs:=P.Q3) (·.name) 11 4 3 (gF [(3,.one (.v 24)),(5,nl),(6,nl),(7,nl),(8,nl)]) (jQ 40) (fun _=>true) h.Q3 (bX B) U W (by have:=W.size;omega) rfl rfl (fun w g o x ⟨H,u',hx,hm,hr,_⟩=>⟨kV x H u',rfl,fun e k=>by
  show aL w g o [.int .i64 x.pos,.string x.name,.int .u64 x.QO,.bool x.stopped,.slice (vA H) x.QF.length (vC H),.slice (vA u') x.QN.length (vC u')];rw[aU hm,aU hr];exact hx⟩) n5 cy (Nat.le_refl _) (World.ownsRow_nil _ _ _ _) η (n5.has.re ⟨rfl,rfl,rfl,rfl,rfl,rfl,rfl,rfl,trivial⟩) δ δ δ δ fun E a6 w6 o3 k3 f3 g3=>?_)
 have n6:=n5.again k3 (fun _ _ _ h=>by cases h) (ag (A:=oS [p]) (B:=oS [p,E])) δ (F':=gF [(3,.one (.v 24)),(4,.one (.v 25)),(5,nl),(6,nl),(7,nl),(8,nl)]) (f3.re ⟨rfl,rfl,rfl,rfl,rfl,rfl,rfl,trivial⟩);have bt:=g3.defers.trans bp;have b3:=kF k3;have cw:=Rs.K3 W b3;clear f3 g3 n4 n5 bo bp;refine am 1 (fun _=>true) ((12,.one (.i .i64 (.c 0)))::gF [(3,.one (.v 24)),(4,.one (.v 25)),(5,nl),(6,nl),(7,nl),(8,nl)]) [(0,aa)] 1 [] hPt δ n6 fun κ7 a7 w7 n7 p7=>?_
 have bw:=p7.agree.defers.trans bt;have X:=Rs.K3 cw p7.keep;have c1:=(n7.mem.get 0 aa rfl).1.1;refine aM (nt (z:=w7.heap.size) (wB:=w) (u0 := .slice none 0 0) (l0:=[]) (xs:=P.Q8) (·.name) 12 5 4 (gF [(3,.one (.v 24)),(4,.one (.v 25)),(6,nl),(7,nl),(8,nl)]) (chC 40) (fun _=>true) h.Q8 (aF _ _ _) U X (by have:=X.size;omega) rfl rfl (fun w g o x hx=>⟨chZ x 0 0,rfl,fun e k=>hx.1⟩) n7 c1 (Nat.le_refl _) (World.ownsRow_nil _ _ _ _) η (n7.has.re ⟨rfl,rfl,rfl,rfl,rfl,rfl,rfl,rfl,trivial⟩) δ δ δ δ fun I a8 w8 o4 k4 f4 g4=>?_);have n8:=n7.again k4 (fun _ _ _ h=>by cases h) (ag (A:=oS [p,E]) (B:=oS [p,E,I])) δ (F':=gF [(3,.one (.v 24)),(4,.one (.v 25)),(5,.one (.v 26)),(6,nl),(7,nl),(8,nl)]) (f4.re ⟨rfl,rfl,rfl,rfl,rfl,rfl,rfl,trivial⟩);have bx:=g4.defers.trans bw;have b4:=kF k4;have cx:=Rs.K3 X b4;clear f4 g4 n6 n7 bt bw;refine am 1 (fun _=>true) ((13,.one (.i .i64 (.c 0)))::gF [(3,.one (.v 24)),(4,.one (.v 25)),(5,.one (.v 26)),(6,nl),(7,nl),(8,nl)]) [(0,aa)] 1 [] hPt δ n8 fun κ9 a9 w9 n9 p9=>?_
 have bz:=p9.agree.defers.trans bx;have Y:=Rs.K3 cx p9.keep;have c2:=(n9.mem.get 0 aa rfl).1.1;refine aM (nt (z:=w9.heap.size) (wB:=w) (u0 := .slice none 0 0) (l0:=[]) (xs:=P.QJ) (·.name) 13 6 5 (gF [(3,.one (.v 24)),(4,.one (.v 25)),(5,.one (.v 26)),(7,nl),(8,nl)]) (irC 40) (fun _=>true) h.QJ (aF _ _ _) U Y (by have:=Y.size;omega) rfl rfl (fun w g o x hx=>⟨irS x 0,rfl,fun e k=>hx.1⟩) n9 c2 (Nat.le_refl _) (World.ownsRow_nil _ _ _ _) η (n9.has.re ⟨rfl,rfl,rfl,rfl,rfl,rfl,rfl,rfl,trivial⟩) δ δ δ δ fun u5 di d6 o5 k5 f5 g5=>?_);have cf:=n9.again k5 (fun _ _ _ h=>by cases h) (ag (A:=oS [p,E,I]) (B:=oS [p,E,I,u5])) δ (F':=gF [(3,.one (.v 24)),(4,.one (.v 25)),(5,.one (.v 26)),(6,.one (.v 27)),(7,nl),(8,nl)]) (f5.re ⟨rfl,rfl,rfl,rfl,rfl,rfl,rfl,trivial⟩);have J:=g5.defers.trans bz;have b5:=kF k5;have ba:=Rs.K3 Y b5;clear f5 g5 n8 n9 bx bz;refine am 1 (fun _=>true) ((14,.one (.i .i64 (.c 0)))::gF [(3,.one (.v 24)),(4,.one (.v 25)),(5,.one (.v 26)),(6,.one (.v 27)),(7,nl),(8,nl)]) [(0,aa)] 1 [] hPt δ cf fun d9 dk c8 C ad=>?_
 have K:=ad.agree.defers.trans J;have q:=Rs.K3 ba ad.keep;have b1:=(C.mem.get 0 aa rfl).1.1;refine aM (nt (z:=c8.heap.size) (wB:=w) (u0 := .slice none 0 0) (l0:=[]) (xs:=P.QC) (·.name) 14 7 6 (gF [(3,.one (.v 24)),(4,.one (.v 25)),(5,.one (.v 26)),(6,.one (.v 27)),(8,nl)]) (quC 40) (fun _=>true) h.QC (aF _ _ _) U q (by have:=q.size;omega) rfl rfl (fun w g o x hx=>⟨quS x 0 0,rfl,fun e k=>hx.1⟩) C b1 (Nat.le_refl _) (World.ownsRow_nil _ _ _ _) η (C.has.re ⟨rfl,rfl,rfl,rfl,rfl,rfl,rfl,rfl,trivial⟩) δ δ δ δ fun u6 ds d7 o6 k6 f6 g6=>?_);have ci:=C.again k6 (fun _ _ _ h=>by cases h) (ag (A:=oS [p,E,I,u5]) (B:=oS [p,E,I,u5,u6])) δ (F':=gF [(3,.one (.v 24)),(4,.one (.v 25)),(5,.one (.v 26)),(6,.one (.v 27)),(7,.one (.v 28)),(8,nl)]) (f6.re ⟨rfl,rfl,rfl,rfl,rfl,rfl,rfl,trivial⟩);have L:=g6.defers.trans K;have cb:=kF k6;have bb:=Rs.K3 q cb;clear f6 g6 cf C J K;refine am 1 (fun _=>true) ((15,.one (.i .i64 (.c 0)))::gF [(3,.one (.v 24)),(4,.one (.v 25)),(5,.one (.v 26)),(6,.one (.v 27)),(7,.one (.v 28)),(8,nl)]) [(0,aa)] 1 [] hPt δ ci fun cs dt c9 D af=>?_
 have N:=af.agree.defers.trans L;have u:=Rs.K3 bb af.keep;have b2:=(D.mem.get 0 aa rfl).1.1;refine aM (nt (z:=c9.heap.size) (wB:=w) (u0 := .slice none 0 0) (l0:=[]) (xs:=P.Q9) (·.name) 15 8 7 (gF [(3,.one (.v 24)),(4,.one (.v 25)),(5,.one (.v 26)),(6,.one (.v 27)),(7,.one (.v 28))]) (plC 40) (fun _=>true) h.Q9 (dK B) U u (by have:=u.size;omega) rfl rfl (fun w g o x ⟨H,hx,hm,_⟩=>⟨plS x H true,rfl,fun e k=>by
  show aL w g o [.int .i64 x.pos,.string x.name,.int .u64 x.QM,.slice (vA H) x.QH.length (vC H)];rw[aU hm];exact hx⟩) D b2 (Nat.le_refl _) (World.ownsRow_nil _ _ _ _) η (D.has.re ⟨rfl,rfl,rfl,rfl,rfl,rfl,rfl,rfl,trivial⟩) δ δ δ δ fun u7 d0 a0 o7 k7 f7 g7=>?_)
 have c3:=D.again k7 (fun _ _ _ h=>by cases h) (ag (A:=oS [p,E,I,u5,u6]) (B:=oS [p,E,I,u5,u6,u7])) δ (F':=gF [(3,.one (.v 24)),(4,.one (.v 25)),(5,.one (.v 26)),(6,.one (.v 27)),(7,.one (.v 28)),(8,.one (.v 29))]) (f7.re ⟨rfl,rfl,rfl,rfl,rfl,rfl,rfl,trivial⟩);have bf:=g7.defers.trans N;have cc:=kF k7;have bc:=Rs.K3 u cc;clear f7 g7 ci D L N;have q8:Kz a0 a0:=aD.refl _ _;have S:=Rs.K3 (Rs.K3 af.keep cc) q8;have R:=Rs.K3 (Rs.K3 ad.keep cb) S;have Q:=Rs.K3 (Rs.K3 p9.keep b5) R;have cp:=Rs.K3 (Rs.K3 p7.keep b4) Q;have c6:=Rs.K3 (Rs.K3 p5.keep b3) cp;have ct:∀w' x,Kz a0 w'→x∈([24,25,26,27,28,29].map fun j=>((67:Nat),[SV.one (.v j)],SV.one (.b (.c true))))→Calls Tryz.prog x.1 (x.2.1.map (SV.den ((cA v P).put 24 (oS [p,E,I,u5,u6,u7])) cs)).toArray w' fun e c7=>e=.returned (x.2.2.den ((cA v P).put 24 (oS [p,E,I,u5,u6,u7])) cs)∧Kz w' c7:=by
  intro w' x O hx;simp only[List.map_cons,List.map_nil,List.mem_cons,List.mem_nil_iff,or_false]at hx
  rcases hx with rfl|rfl|rfl|rfl|rfl|rfl
  ·exact g0 _ o2 ξ c6 O η (fun x hx=>(List.mem_append.1 hx).elim (fun hx=>by obtain⟨y,d,rfl⟩:=List.mem_map.1 hx;exact s2 y d) fun hx=>by obtain⟨y,d,rfl⟩:=List.mem_map.1 hx;exact s1 y d) Z.things rfl
  ·exact g0 _ o3 ξ cp O η (fun x hx=>by obtain⟨y,d,rfl⟩:=List.mem_map.1 hx;exact s3 y d) Z.QS rfl
  ·exact g0 _ o4 ξ Q O η (fun x hx=>by obtain⟨y,d,rfl⟩:=List.mem_map.1 hx;exact s4 y d) Z.chans rfl
  ·exact g0 _ o5 ξ R O η (fun x hx=>by obtain⟨y,d,rfl⟩:=List.mem_map.1 hx;exact s5 y d) Z.QJ rfl
  ·exact g0 _ o6 ξ S O η (fun x hx=>by obtain⟨y,d,rfl⟩:=List.mem_map.1 hx;exact s6 y d) Z.QX rfl
  ·exact g0 _ o7 ξ q8 O η (fun x hx=>by obtain⟨y,d,rfl⟩:=List.mem_map.1 hx;exact s7 y d) Z.Q9 rfl
 have c4:=c3.more [] _ [] cS (fun x hx w' O=>ct w' x O hx) (fun i x hx=>by cases hx);refine eJ 2 (fun _=>true) [(2,.one (.b (.c true)))] [] 1 [] hPt δ c4 fun ea d1 d8 c5 cm=>?_
 exact fX 2 rfl c5.has rfl (cm.agree.defers.trans bf) ⟨rfl,Rs.K3 bc cm.keep⟩
end Go.Proofs.YtpblcjipmoblnaaGreatDoor.Rs
namespace Go.Proofs.YtpblcjipmoblnaaGreatDoor.Rs
open Go.RowKit Go.Proofs.YtpblcjipmoblnaaGreatDoor Ck Go.IntWalk
section
variable {named:ByteArray→Bool} {br:Nat→cW→Nat×Int×Int} {P:aC}
theorem zQ{a s:Nat}{m:Nat}(h:0<s∧s≤m∧a+s≤4294967296∧a%4096=0∧s%4096=0):zj a s m:=by
 obtain⟨j,l,p,d,g⟩:=h;refine⟨?_,decide_eq_false χ,decide_eq_false χ,?_,?_,?_⟩
 ·rw[beq_eq_false_iff_ne];omega
 ·rw[oq χ];exact decide_eq_false χ
 ·rw[show(4096:Int)=(4096:Nat) from rfl,i8,d];rfl
 ·rw[show(4096:Int)=(4096:Nat) from rfl,i8,g];rfl
theorem uw{a s:Nat}(h:0<s)(d:a+s<18446744073709551616):dM a s=a+s-1:=by
 unfold dM M64;omega
theorem CA(h:ox named br P){k:Nat}{x:Ck.Region}(hx:P.Q5[k]?=some x):zh P k x:=by
 have l:=List.mem_of_getElem? hx;obtain⟨H,O,q,u,Q,R,S,U⟩:=h.Q5.one x l;have C:∀{y:Nat},y%unit x.big=0→x.big=true→((y:Int).tmod 2097152 !=0)=false:=fun{y} g I=>by
  rw[I]at g;rw[show(2097152:Int)=(2097152:Nat) from rfl,i8,show y%2097152=0 from g];rfl
 have A:∀{y:Nat},y%unit x.big=0→((y:Int).tmod 4096 !=0)=false:=fun{y} g=>by
  rw[show(4096:Int)=(4096:Nat) from rfl,i8,jt g];rfl
 refine⟨by rw[beq_eq_false_iff_ne];omega,decide_eq_false χ,A q,C q,decide_eq_false χ,?_,fun d=>?_,fun _=>A u,fun _=>C u,fun d=>?_,fun d=>⟨(h.Q5.fixed x l d).1,jt q⟩,fun d i W=>?_,fun d j y J g w=>?_⟩
 ·rw[u64_in _ χ];exact decide_eq_false χ
 ·have:=of_decide_eq_true d
  exact decide_eq_false χ
 ·have:=(h.Q5.fixed x l d).1
  exact decide_eq_false χ
 ·obtain⟨X,D⟩:=h.Q5.fixed x l d
  have V:=jt q;have v:∀p,x.Q7≤p→p≤dM x.Q7 x.size→∃r∈P.QG,r.Q7≤p∧p≤dM r.Q7 r.size:=by
   unfold gv at D;exact of_decide_eq_true (inst:=Classical.propDecidable _) D
  rw[uw H χ]at v;obtain⟨r,B,Y,K⟩:=v (x.Q7+4096*i) χ χ;obtain⟨E,_,L,_⟩:=h.Qg.Ql r B;rw[uw E χ]at K;refine List.any_eq_true.2 ⟨r,B,?_⟩;rw[oq χ,Bool.and_eq_true];exact⟨decide_eq_true χ,decide_eq_true χ⟩
 ·have N:=(h.Q5.one y (List.mem_of_getElem? g)).1
  have:=(h.Q5.fixed x l d).1;have:=(h.Q5.fixed y (List.mem_of_getElem? g) w).1;exact gS (h.Q5.apart k j x y J hx g d w) χ χ
theorem wZ(h:ox named br P):ow P:=by
 have p:∀{k:Nat} {x:Ck.Ram},P.QG[k]?=some x→x.Q7+x.size≤4294967296:=fun hx=>(h.Qg.Ql _ (List.mem_of_getElem? hx)).2.2.1
 have g:∀{k:Nat} {x:Ck.bA},P.Q4[k]?=some x→x.Q7+x.size≤4294967296:=fun hx=>(h.Qg.dev _ (List.mem_of_getElem? hx)).2.2.1
 refine⟨fun k x hx=>⟨zQ (h.Qg.Ql x (List.mem_of_getElem? hx)),fun j y l d=>?_⟩,fun k x hx=>⟨zQ (h.Qg.dev x (List.mem_of_getElem? hx)),fun j y l d=>?_,fun j y d=>?_⟩,h.Qg.sum,h.counts.QG,h.counts.Q4,fun k x hx=>CA h hx,h.counts.Q5⟩
 ·have:=p hx;have:=p d
  exact gS (h.Qg.rr k j x y l hx d) χ χ
 ·have:=g hx;have:=g d
  exact gS (h.Qg.dd k j x y l hx d) χ χ
 ·have:=g hx;have:=p d
  exact gS (h.Qg.dr x y (List.mem_of_getElem? hx) (List.mem_of_getElem? d)) χ χ
theorem fg{d:ByteArray}(h:has P.QS d=true):Sub P d:=by
 unfold Sub fR;rw[qj];obtain⟨p,g⟩:=fo.1 h;obtain⟨x,hx,e⟩:=List.mem_map.1 g;rw[List.any_eq_true.2 ⟨x,hx,by simp only[Prod.mk.injEq]at e;simp[e.1]⟩];rfl
theorem zW(h:ox named br P){c:Ck.au}(g:c∈P.Q8)(j:c.shared=true):rB P c:=by
 obtain⟨_,_,_,_,_,_,u⟩:=h.names.channel c g;obtain⟨_,B,C⟩:=h.who.channel c g;have l:=C j;simp only[gI,Bool.and_eq_true,List.all_eq_true]at l;obtain⟨⟨⟨v,w⟩,y⟩,A⟩:=l;refine⟨fun x hx m d e=>?_,fun x hx m d e=>?_,y,A,B,?_⟩
 ·have:=v x hx m d
  simp only[e,decide_true,Bool.not_true,Bool.false_or,Bool.or_eq_true,Bool.and_eq_true,decide_eq_true_eq,Bool.not_eq_true']at this;exact this
 ·have:=w x hx m d
  simp[e]at this
 ·obtain⟨p,r⟩:=fo.1 (u j)
  obtain⟨x,hx,e⟩:=List.mem_map.1 r;have q:decide (fnd (fun x=>decide (x.name=c.over)) P.Q5<0)=false:=by
   rw[qj,List.any_eq_true.2 ⟨x,hx,by simp only[Prod.mk.injEq]at e;simp[e.1]⟩];rfl
  have:=of_decide_eq_false q;exact decide_eq_true χ
theorem Ao(h:ox named br P):uY P:=by
 refine⟨fun c r=>?_,fun x hx=>?_,fun x hx=>?_,fun x hx=>?_,⟨h.names.QB.1,fun l=>?_⟩,⟨h.names.QA.1,fun l=>?_⟩,?_⟩
 ·obtain⟨g,j,u,d,v,C,D⟩:=h.names.channel c r
  obtain⟨q,w,E⟩:=h.who.channel c r;refine⟨fg v,fg C,decide_eq_false w,g,j,?_,zW h r⟩
  rcases d with d|d
  ·have:=q d;omega
  ·omega
 ·obtain⟨g,j⟩:=h.names.Qr x hx
  refine⟨?_,fg j,by have:=h.who.Qr x hx;omega⟩;obtain⟨p,A⟩:=fo.1 g;obtain⟨y,B,e⟩:=List.mem_map.1 A;exact List.any_eq_true.2 ⟨y,B,by simp only[Prod.mk.injEq]at e;simp[e.1]⟩
 ·obtain⟨g,j,u,d,v⟩:=h.names.queue x hx
  obtain⟨q,w⟩:=h.who.queue x hx;refine⟨fg d,fg v,decide_eq_false w,g,j,?_,fun l=>?_,u⟩
  ·by_cases e:x.how=3
   ·rw[u e];omega
   ·exact(q e).2
  ·by_cases e:x.how=3
   ·exact e
   ·have:=(q e).1;omega
 ·exact⟨fg (h.names.Qv x hx).2,decide_eq_false (h.who.Qv x hx)⟩
 ·exact fg (h.names.QB.2 _ (List.mem_of_getElem? (mQ l)))
 ·exact fg (h.names.QA.2 _ (List.mem_of_getElem? (mQ l)))
 ·have:=h.names.QE.1;have:=h.Q9.QE;omega
theorem yJ(h:ox named ax P):qy P:=by
 have v:=h.Q9.QE;refine⟨by have:=h.names.QE.1;omega,?_,fun x hx y d=>?_,fun x hx i j y z A w B e=>h.names.Qm x hx i j y z A w B e.symm,fun x hx y d r u=>?_,h.counts.Q9,?_⟩
 ·obtain⟨p,l⟩:=fo.1 (h.names.QE.2 _ (List.mem_of_getElem? (mQ v)))
  obtain⟨y,d,e⟩:=List.mem_map.1 l;exact List.any_eq_true.2 ⟨y,d,by simp only[Prod.mk.injEq]at e;simp[e.1]⟩
 ·obtain⟨E,C⟩:=h.Q9.lane x hx y d
  exact⟨C,χ⟩
 ·rcases(h.names.run x hx y d r u).2 with e|e
  ·exact .inl e
  ·rcases h.Q9.run x hx y d r u with g|g
   ·exact .inl g
   ·refine .inr ?_
    obtain⟨p,l⟩:=fo.1 e;obtain⟨D,q,e3⟩:=List.mem_map.1 l
    rcases ly (fun x=>decide (x.name=r.QK)) P.Q3 with⟨k,z,z1,z2,z3,z4⟩|⟨_,z4⟩
    ·refine⟨k,z,z3,z1,?_⟩
     unfold kR at g;rw[z4]at g;exact g
    ·have:=List.find?_eq_none.1 z4 D q
     simp only[Prod.mk.injEq]at e3;simp[e3.1]at this
 ·by_cases e:P.Q9.length<2
  ·exact .inl e
  ·have:=h.Q9.QB χ;have:=h.names.QB.1;exact .inr χ
theorem CJ{l:List Nm}(h:BM l):Dis (l.map (·.1)):=fun i j x y r d g=>by
 rw[List.getElem?_map,Option.map_eq_some_iff]at d g;obtain⟨a,p,rfl⟩:=d;obtain⟨b,q,rfl⟩:=g;exact h i j a b r p q
theorem qL{l:List ByteArray}:Dis l↔l.Nodup:=by
 rw[List.Nodup,List.pairwise_iff_getElem];constructor
 ·intro h i j d q p e
  exact h j i _ _ p (Ez q) (Ez d) e.symm
 ·intro h i j x y q d u e
  obtain⟨g,rfl⟩:=List.getElem?_eq_some_iff.1 d;obtain⟨r,rfl⟩:=List.getElem?_eq_some_iff.1 u;exact h j i r g q e.symm
theorem AO(h:ox named br P):uW P:=by
 have u:∀l∈[P.things,P.QS,P.chans,P.irqn,P.QX,P.plns],Dis (l.map (·.1)):=fun l g=>CJ (h.names.uniq l g)
 have e:∀{α:Type} (f:α→ByteArray×Int) (l:List α),(l.map f).map (·.1)=l.map fun x=>(f x).1:=fun f l=>by rw[List.map_map];rfl
 refine⟨?_,?_,?_,?_,?_,?_,?_⟩
 ·have d:=qL.1 (u P.things ξ)
  refine qL.2 ?_;rw[aC.things,aC.QW,aC.regs,List.map_append,e,e]at d;exact(List.perm_append_comm.nodup_iff).1 d
 ·have:=u P.QS ξ;rwa[aC.QS,e]at this
 ·have:=u P.chans ξ;rwa[aC.chans,e]at this
 ·have:=u P.irqn ξ;rwa[aC.irqn,e]at this
 ·have:=u P.QX ξ;rwa[aC.QX,e]at this
 ·have:=u P.plns ξ;rwa[aC.plns,e]at this
 ·have:=h.counts.Q5;have:=h.counts.Q4;omega
theorem rJ(h:ox named br P){dev:Bool}{l:List Ck.Map}(q:∀m∈l,has P.things m.of=true)(r:iy P dev l):0<bY P l:=by
 unfold bY;rw[if_pos]
 ·omega
 ·rw[List.all_eq_true]
  intro m j;obtain⟨t,p⟩:=iW (q m j);have e:aS P m.of=t:=by unfold aS;rw[p];rfl
  have d:=nN h.Qg h.Q5 m.of;have g:=(r.one m j).2.1;rw[e]at d g;unfold da;rw[p];simp only[Bool.and_eq_true,decide_eq_true_eq];exact⟨d,kE.2 g⟩
theorem wK(h:ox named br P):1≤pages br P:=by
 unfold pages;rw[if_pos]
 ·have:248≤dz br P:=by unfold dz;omega
  omega
 ·rw[List.all_eq_true]
  intro l d;rw[decide_eq_true_eq];unfold aC.tabled at d
  rcases List.mem_append.1 d with d|d
  ·obtain⟨x,hx,rfl⟩:=List.mem_map.1 d
   exact rJ h (h.names.Qh x hx) (h.QS x hx)
  ·obtain⟨x,hx,rfl⟩:=List.mem_map.1 (List.mem_filter.1 d).1
   exact rJ h (fun m g=>oI (h.names.Qb x hx m g)) (h.QW x hx)
end
structure BN (P:aC):Prop where
 ground:ow P
 ends:uY P
 Q9:qy P
 once:uW P
 QS:P.Q3.length≤64
 pages:1≤pages ax P∧pages ax P≤1024
 dev:∀x∈P.Q4,nD P x.QF true
 sub:∀x∈P.Q3,nD P x.QF false∧x.QO≤3∧x.QN.length≤1∧∀r∈x.QN,r.how=1→Sub P r.to∧r.to≠x.name∧r.QL≤63
theorem xk{named:ByteArray→Bool}{P:aC}(h:ox named ax P):BN P:=by
 refine⟨wZ h,Ao h,yJ h,AO h,h.counts.Q3,⟨wK h,h.image⟩,fun x hx=>?_,fun x hx=>⟨?_,?_,h.names.QN x hx,fun r g e=>?_⟩⟩
 ·exact rP h (h.counts.Qk x hx) (fun m d=>oI (h.names.Qb x hx m d)) (h.QW x hx) fun _ m d=>h.names.Qb x hx m d
 ·exact rP h (h.counts.Qj x hx) (h.names.Qh x hx) (h.QS x hx) fun e=>by cases e
 ·have:=h.who.subject x hx;omega
 ·obtain⟨_,_,q⟩:=h.names.rule x hx r g
  obtain⟨l,j⟩:=h.who.rule x hx r g e
  rcases q with⟨_,q⟩|⟨q,_⟩
  ·exact⟨fg q,j,χ⟩
  ·exact absurd e q
