import Derived.Test.YthobcefghkeddaaGreatDoorPf
import Derived.Test.YthobcefghkeddaaGreatDoorRsdm
set_option maxRecDepth 100000
set_option linter.all false
set_option maxHeartbeats 4000000
namespace Go.Proofs.YthobcefghkeddaaGreatDoor
namespace Rs
open Go.RowKit Ck
variable {w:World} {g zb k:Nat} {l:List Sp} {P:Program}
def SpM(w:World)(g:Nat)(l:List Sp):Prop:=∀(j:Nat) (s:Sp),l[j]?=some s→g<w.heap.size∧aL w g (2*j) [.int .u64 s.1,.int .u64 s.2]∧s.1<lim∧s.2<lim
theorem SpM.keep{w':World}{T:Nat→Prop}(h:SpM w g l)(hk:aD T w w')(x:¬ T g):SpM w' g l:=fun j s y=>by
 obtain⟨d,q,u⟩:=h j s y;refine⟨Θ d hk.size,fun i v B=>?_,u⟩;exact(hk.cell (p:=⟨_,_,none⟩) d x).trans (q i v B)
def iF(w:World)(zb g:Nat)(l:List Sp)(k:Nat)(A:Option Addr)(c:Nat):Prop:=Row w zb [.slice A (l.length-k) c]∧l.length-k≤c∧k≤l.length∧(k<l.length→A=some ⟨g,2*k,none⟩)
structure AtE where
 k:Nat
 A:Option Addr
 c:Nat
def atD(l:List Sp)(e:AtE):Sta where
 a j:=match j with|0=>e.A|_=>if e.c=1 then e.A else e.A.map (·.add 2)
 n j:=match j with|0=>l.length-e.k|1=>e.c|2=>l.length-(e.k+1)|_=>e.c-1
 i j:=match j with|0=>((l.getD e.k (0,0)).1:Int)|_=>(l.getD e.k (0,0)).2
def atR:Fr:=[(0,.one (.p 0 0)),(1,.one (.i .u64 (.x 0)))]
def El:Kn:={ KO:=[(28,[(27,.one (.sl 16 16 17))],.one (.sl 17 18 19))] }
theorem yZ{S:Sta}{x y:BE×Bool}(h:x.1.den S=x.2)(k:y.1.den S=y.2):∀z∈[x,y],z.1.den S=z.2:=fun z d=>by
 rcases Ξ.1 d with rfl|d
 ·exact h
 ·obtain rfl:=ρ.1 d;exact k
def E6:Kn:={ KO:=[(39,[(38,.one (.i .u64 (.cv .u64 (.c 0))))],.one (.i .u64 (.c 18446744073709551615)))] }
theorem jZ{ops:List Oper}{d:Nat}{op:Op}(h:((ops.filter fun o=>o.dst==some d).map (·.op))=[op]){o:Oper}(l:o∈ops)(j:o.dst=some d):o.op=op:=by
 have g:o.op∈(ops.filter fun o=>o.dst==some d).map (·.op):=List.mem_map.2 ⟨o,List.mem_filter.2 ⟨l,by rw[j];simp⟩,rfl⟩;rw[h]at g;exact ρ.1 g
theorem wI{o:Oper}{E:TypeId}{t:Nat}(d:o.op=.unOp .xor E (.tmp t)){a:Act}{w:World}(h:a.eval (.tmp t)=.int .u64 0):(execOp a.eval o).run P w=.ok (.value (.int .u64 18446744073709551615)) w:=by
 obtain⟨dst,op,ty,pos,j,g⟩:=o;simp only at d;subst d;simp only[execOp,h];rfl
theorem Cv{S:Sta}{κ:Kap}{ops:List Oper}(h:((ops.filter fun o=>o.dst==some 39).map (·.op))=[.unOp .xor 41 (.tmp 38)]):gQ S κ P ops E6:=⟨(fun _ h=>by cases h),fun x l o j g a w d=>by
 obtain rfl:=ρ.1 l;exact wI (jZ h j g) (d _ (ρ.2 rfl))⟩
theorem uX{o:Oper}{t E:TypeId}{x:Nat}{A:Option Addr}{n c z:Nat}{a:Act}(d:o.op=.slice t (.tmp x) (some (.const (.int .i64 1))) none none)(q:a.eval (.tmp x)=.slice A n c)(B:1≤n)(y:n≤c)(l:P.underlying t=some (.slice E))(u:P.cellsOf E=z+1):
 (execOp a.eval o).run P w=.ok (.value (.slice (if c=1 then A else A.map (·.add (z+1))) (n-1) (c-1))) w:=by
 obtain⟨dst,op,ty,pos,v,g⟩:=o;simp only at d;subst d;obtain⟨i,hi⟩:=df (P:=P) (t:=E) χ;have h:a.eval (.const (.int .i64 1))=.int .i64 1:=rfl;have j:(1:Int)≤n:=χ
 simp[execOp,q,h,Instr.sliceAt,run_underlying l,Instr.slice,Instr.sliceBounds,Instr.sliceBound,asIntOf,j,run_sizeOf _ hi,u]
theorem ot{id:Nat}{Q:Exit→Act→World→Prop}{a:Act}(h:Q .normal a w):Exit.inBlock id Q (.exit id) a w:=by
 simp only[Exit.inBlock,if_true];exact h
theorem iF.keep{w':World}{A:Option Addr}{c:Nat}{T:Nat→Prop}(h:iF w zb g l k A c)(hk:aD T w w')(d:¬ T zb):iF w' zb g l k A c:=⟨h.1.keep hk d,h.2⟩
def atH(zb g:Nat)(l:List Sp)(e:AtE):Gh:=Gh.of (fun b=>b=zb) (fun w=>iF w zb g l e.k e.A e.c) fun _ _ hk h=>h.keep hk id
theorem iF.memF{S:Sta}{κ:Kap}{e:AtE}(h:iF w zb g l e.k e.A e.c)(d:κ 0=(zb,0)):fP (S.put 16 (atD l e)) κ [(0,[.sl 16 16 17])] w:=h.1.memF (r:=0) (l:=[.sl 16 16 17]) d
theorem tN(h:k<l.length):l[k]?=some (l.getD k (0,0)):=by
 simp[List.getD,Ez h]
theorem B9{k0 p:Nat}{A0:Option Addr}{c0:Nat}(hv:iF w zb g l k0 A0 c0)(hm:SpM w g l)(hg:g≠zb)(be:l.length≤4194304)(hp:p<lim)(a7:k0≤k)(hk:AtK l p k):
 Calls Tryz.prog 152 #[.pointer (some ⟨zb,0,none⟩),.int .u64 p] w fun e w'=>e=.returned (.tuple #[.bool (jR l p k).1,.int .u64 (jR l p k).2])∧(∃A c,iF w' zb g l k A c)∧aD (fun b=>b=zb) w w':=by
 obtain⟨R,hR⟩:∃R:Ending→World→Prop,R=fun e w'=>e=.returned (.tuple #[.bool (jR l p k).1,.int .u64 (jR l p k).2])∧(∃A c,iF w' zb g l k A c)∧aD (fun b=>b=zb) w w':=⟨_,rfl⟩
 rw[←hR];obtain⟨S,hS⟩:∃S:Sta,S=DX [p]:=⟨_,rfl⟩;have s0:S.i 0=p:=by rw[hS];rfl
 clear hS;have bd:=hv.1.lt;refine fnE S (fun _=>(zb,0)) [.one (.p 0 0),.one (.i .u64 (.x 0))] Tryz.func152 Tryz.ntmps152 rfl (by simp[SV.den,Cl.den,IE.den,s0]) ψ (atH zb g l ⟨k0,A0,c0⟩) (fun b y=>by rw[show b=zb from y];exact bd) hv fun a hd hh=>?_
 have af:Now S (fun _=>(zb,0)) 65 Tryz.prog {} (atH zb g l ⟨k0,A0,c0⟩) ⟨atR,[],1,[]⟩ a w:=⟨hh.has,hh.mem,hh.ctx,hh.tb,hh.gh⟩;refine b7 1 τ atR [] 1 [] hPp δ af fun κ1 a1 w1 n1 p1=>?_
 have k1:κ1 0=(zb,0):=p1.upto 0 ψ
 -- an element
 have elem:∀{κ':Kap} {C:Ctx} {H:Gh} {F:Fr} {M:Mm} {W:List Nat} {u:Act} {q:World} (e:AtE),Now (S.put 16 (atD l e)) κ' 65 Tryz.prog C H ⟨F,M,1,W⟩ u q→¬ H.T g→e.k<l.length→e.A=some ⟨g,2*e.k,none⟩→aD (fun b=>b=zb) w q→(St.sc ⟨F,M,1,W⟩&&C.sc 1)=true →
  ∃J,cU 1 κ' J∧Now (S.put 16 (atD l e)) J 65 Tryz.prog { C with EL:=[(16,2,.c 0,16,1)]++C.EL } H ⟨F,(1,[.i .u64 (.x 16),.i .u64 (.x 17)])::M,2,W⟩ u q:=fun{κ' C H F M W u q} e U hT hl hA L hs=>by
  obtain⟨m1,m2,_⟩:=hm e.k _ (tN hl);rw[Bool.and_eq_true]at hs;obtain⟨J,u1,_,u3⟩:=U.base g (2*e.k) [.i .u64 (.x 16),.i .u64 (.x 17)] ⟨Θ m1 L.size,hT⟩ (fun j v hj=>(L.cell (p:=⟨_,_,none⟩) m1 hg).trans (m2 j v hj)) [(16,2,.c 0,16,1)] (by rw[hs.1,hs.2];rfl) (fun x Q=>by
   obtain rfl:=ρ.1 Q;refine⟨Int.le_refl _,?_,g,2*e.k,hA,rfl⟩;show(0:Int)<((l.length-e.k:Nat):Int);omega)
  exact⟨J,u1,u3⟩
 have ghm:∀{κ':Kap} {C:Ctx} {s:St} {u:Act} {q:World} (e:AtE),κ' 0=(zb,0)→Now (S.put 16 (atD l e)) κ' 65 Tryz.prog C (atH zb g l e) s u q→Now (S.put 16 (atD l e)) κ' 65 Tryz.prog { C with GM:=[(0,[.sl 16 16 17])] } (atH zb g l e) s u q:=fun e hκ U=>U.ghm _ fun _ w' _ h=>iF.memF h hκ
 -- behind the loop
 have after:∀(e:AtE) (κ':Kap) (u:Act) (q:World),κ' 0=(zb,0)→Now (S.put 16 (atD l e)) κ' 65 Tryz.prog {} (atH zb g l e) ⟨atR,[],1,[]⟩ u q→u.defers=[]→aD (fun b=>b=zb) w q→e.k=k→wpL Tryz.prog (bodyPost Tryz.prog Tryz.f152 R) ((flat (ax Tryz.f152 [])).drop 2) u q:=by
  intro e κ' u q hκ U B L he;obtain⟨q1,q2,q3,q4⟩:=U.gh;have n3:=ghm e hκ U;refine vl ?_
  by_cases c:k<l.length
  ·-- something is left
   have Q:=tN c;have bf:0<l.length-e.k:=χ
   obtain⟨J,u1,Y⟩:=elem e n3 hg χ (q4 χ) L δ;have V:BE.den (S.put 16 (atD l e)) (.cmp .eql (.ln 16) (.c 0))=false:=by
    show(((l.length-e.k:Nat):Int)==0)=false;simp;omega
   have e0:IE.den (S.put 16 (atD l e)) (.x 16)=(l.getD k (0,0)).1:=by rw[←he];rfl
   have e1:IE.den (S.put 16 (atD l e)) (.x 17)=(l.getD k (0,0)).2:=by rw[←he];rfl
   have al:jR l p k=if p<(l.getD k (0,0)).1 then(false,(l.getD k (0,0)).1-1)else(true,(l.getD k (0,0)).2):=by unfold jR;rw[Q]
   obtain⟨_,_,l1,l2⟩:=hm k _ Q;unfold lim at l1 l2
   by_cases c2:p<(l.getD k (0,0)).1
   ·have f1:BE.den (S.put 16 (atD l e)) (.cmp .lss (.x 0) (.x 16))=true:=by
     show decide (S.i 0<_)=true;rw[s0];exact decide_eq_true (by rw[e0];omega)
    have E:=Y.fa [(.cmp .eql (.ln 16) (.c 0),false),(.cmp .lss (.x 0) (.x 16),true)] (yZ V f1);refine dU 9 τ [(4,.one (.b (.c false))),(5,.one (.i .u64 (.bin .sub .u64 (.x 16) (.c 1))))] [] 2 [] hPp δ E fun X K I N d=>?_
    refine jP rfl N.has rfl rfl (d.agree.defers.trans B) ?_;rw[hR];refine⟨?_,?_,L.trans d.keep fun _ _ h=>h⟩
    ·rw[al,if_pos c2]
     show Ending.returned (.tuple #[.bool false,.int .u64 (IntKind.u64.wrap (_-1))])=_;have h9:((l.getD k (0,0)).1:Int)-1=(((l.getD k (0,0)).1-1:Nat):Int):=χ
     rw[e0,bq χ,h9]
    ·have:=N.gh
     exact he▸⟨e.A,e.c,this⟩
   ·have f1:BE.den (S.put 16 (atD l e)) (.cmp .lss (.x 0) (.x 16))=false:=by
     show decide (S.i 0<_)=false;rw[s0];exact decide_eq_false (by rw[e0];omega)
    have E:=Y.fa [(.cmp .eql (.ln 16) (.c 0),false),(.cmp .lss (.x 0) (.x 16),false)] (yZ V f1);refine b7 9 τ atR [(1,[.i .u64 (.x 16),.i .u64 (.x 17)])] 2 [] hPp δ E fun X K I N d=>Dh rfl ?_
    refine dU 9 τ [(4,.one (.b (.c true))),(5,.one (.i .u64 (.x 17)))] [] 2 [] hPp δ N fun κ4 a4 w4 n7 p4=>?_
    refine jP rfl n7.has rfl rfl (p4.agree.defers.trans (d.agree.defers.trans B)) ?_;rw[hR];refine⟨?_,?_,L.trans (d.keep.trans p4.keep fun _ _ h=>h) fun _ _ h=>h⟩
    ·rw[al,if_neg c2]
     show Ending.returned (.tuple #[.bool true,.int .u64 ((S.put 16 (atD l e)).i 17)])=_;rw[show(S.put 16 (atD l e)).i 17=(l.getD k (0,0)).2 from e1]
    ·have:=n7.gh
     exact he▸⟨e.A,e.c,this⟩
  ·-- nothing
   have a9:k=l.length:=by have:=hk.le;omega
   have V:BE.den (S.put 16 (atD l e)) (.cmp .eql (.ln 16) (.c 0))=true:=by
    show(((l.length-e.k:Nat):Int)==0)=true;simp;omega
   refine b7 1 τ (atR++[(31,.one (.b (.cmp .eql (.ln 16) (.c 0))))]) [] 1 [] hPp δ n3 fun X K I N d=>?_
   refine cG true N rfl V ?_;refine fb (CL:=E6) τ [(4,.one (.b (.c false))),(5,.one (.i .u64 (.c 18446744073709551615)))] [] 1 [] δ (N.ghm [] fun _ _ _ _ _ _ h=>by cases h) (Cv rfl) fun κ4 a4 w4 n7 p4=>kB ?_
   refine jP rfl n7.has rfl rfl (p4.agree.defers.trans (d.agree.defers.trans B)) ?_;rw[hR];refine⟨?_,?_,L.trans (d.keep.trans p4.keep fun _ _ h=>h) fun _ _ h=>h⟩
   ·unfold jR
    rw[a9,List.getElem?_eq_none (Γ _)];rfl
   ·have:=n7.gh
    exact he▸⟨e.A,e.c,this⟩
 -- the loop
 refine az (D3 [] n1 rfl 16 atR τ (atD l) (fun e=>l.length-e.k) (fun e w=>iF w zb g l e.k e.A e.c∧e.k≤k) (fun e w w' a6 h=>⟨h.1.keep a6 id,h.2⟩) ⟨k0,A0,c0⟩ ⟨n1.gh,a7⟩ (n1.has.on (aQ S 16 _) δ) δ fun e u q U hA L=>?_);obtain⟨hs,bl⟩:=U.gh;obtain⟨q1,q2,q3,q4⟩:=hs;have ac:aD (fun b=>b=zb) w q:=p1.keep.trans L fun _ _ h=>h
 have n3:=U.row 0 [.sl 16 16 17] (by rw[k1]) (by rw[k1];exact q1);have B:u.defers=[]:=hA.defers.trans (p1.agree.defers.trans hd);have stop:∀{κ':Kap} {K:Act} {I:World} {F:Fr} {M:Mm} {kk:Nat} {W:List Nat} {C:Ctx},κ' 0=(zb,0)→Now (S.put 16 (atD l e)) κ' 65 Tryz.prog C H0 ⟨F,M,kk,W⟩ K I→gJ F atR=true→K.defers=[]→Kz q I→e.k=k→wpL Tryz.prog (bodyPost Tryz.prog Tryz.f152 R) ((flat (ax Tryz.f152 [])).drop 2) K I:=fun{κ' K I F M kk W C} h1 Y h2 h3 h4 h5 =>
  after e κ' K I h1 ⟨Y.has.sub h2,⟨fun _ _ h=>by cases h⟩,noC _ _ _ _ _,fun b y=>by rw[show b=zb from y];exact Θ q1.lt h4.size,iF.keep ⟨q1,q2,q3,q4⟩ h4 id⟩ h3 (ac.trans (K_T h4) fun _ _ h=>h) h5
 by_cases c:e.k<l.length
 ·have Q:=tN c
  have Z:=q4 c;obtain⟨κ2,u1,Y⟩:=elem e n3 (fun h=>h) c Z ac δ;have k2:κ2 0=(zb,0):=(u1 0 ψ).trans k1;have V:BE.den (S.put 16 (atD l e)) (.cmp .gtr (.ln 16) (.c 0))=true:=by
   show decide (((l.length-e.k:Nat):Int)>0)=true;exact decide_eq_true χ
  refine b7 1 τ (atR++[(22,.one (.b (.cmp .lss (.x 17) (.x 0))))]) [(0,[.sl 16 16 17])] 2 [] hPp δ (Y.fa [(.cmp .gtr (.ln 16) (.c 0),true)] (fa1 V)) fun X K I E d=>?_
  have k3:X 0=(zb,0):=(d.upto 0 ψ).trans k2;have y:BE.den (S.put 16 (atD l e)) (.cmp .lss (.x 17) (.x 0))=decide ((l.getD e.k (0,0)).2<p):=by
   show decide (((l.getD e.k (0,0)).2:Int)<S.i 0)=_;rw[s0];exact decide_eq_decide.2 χ
  by_cases c2:(l.getD e.k (0,0)).2<p
  ·-- one span further
   have O:e.k<k:=by
    rcases Ψ e.k k with h|h
    ·exact h
    ·have h9:e.k=k:=χ
     have:=hk.hi (l.getD e.k (0,0)) (by rw[←h9];exact Q);omega
   refine cG true E rfl (y.trans (decide_eq_true c2)) (fZ (vl ?_));have bg:1≤e.c:=χ
   have bb:∀{ops:List Oper},((ops.filter fun o=>o.dst==some 28).map (·.op))=[.slice 117 (.tmp 27) (some (.const (.int .i64 1))) none none]→gQ (S.put 16 (atD l e)) X Tryz.prog ops El:=fun{ops} ad=>⟨(fun _ h=>by cases h),fun x Q o ho hd a w ha=>by
    obtain rfl:=ρ.1 Q;refine uX (z:=1) (jZ ad ho hd) (ha _ (ρ.2 rfl)) ?_ ?_ Tryz.underlying117 δ |>.trans ?_
    ·show 1≤l.length-e.k;omega
    ·exact q2
    ·rfl⟩
   refine lr (CL:=El) 8 0 [] τ atR [(0,[.sl 17 18 19])] 2 [] δ E (bb rfl) (fun _=>by rw[k3];exact(q1.keep d.keep (fun h=>h)).some) (fun _ h=>by cases h) (fun _ _ _ _ _ _ _=>trivial) fun κ4 a4 w4 N u4 a8 a5 _ bc=>Dh rfl ?_
   have k4:κ4 0=(zb,0):=(u4 0 ψ).trans k3;have D:=N.mem.row (r:=0) rfl (by rw[k4]) bc;rw[k4]at D;have a0:aD (fun b=>b=zb) I w4:=a8.mono fun b _ y=>by rcases y with y|y;exact y.elim;rw[k4]at y;exact y
   refine⟨⟨e.k+1,if e.c=1 then e.A else e.A.map (·.add 2),e.c-1⟩,κ4,?_,⟨⟨D,?_,?_,?_⟩,?_⟩,fun r hr=>?_,N.has.on (Agr.trans ((aQ S 16 _).symm) (aQ S 16 _)) δ,hA.trans (d.agree.trans a5 fun _ h=>h) fun _ h=>h,L.trans ((K_T d.keep).trans a0 fun _ _ h=>h) fun _ _ h=>h⟩
   ·show l.length-(e.k+1)<l.length-e.k;omega
   ·show l.length-(e.k+1)≤e.c-1;omega
   ·show e.k+1≤l.length;omega
   ·intro h
    have h:e.k+1<l.length:=h;show(if e.c=1 then e.A else e.A.map (·.add 2))=_;rw[if_neg χ,Z];show some (Addr.add ⟨g,2*e.k,none⟩ 2)=_;rw[gM,show 2*e.k+2=2*(e.k+1) by omega]
   ·show e.k+1≤k;omega
   ·exact(u4 r (by show r<2;omega)).trans ((d.upto r (by show r<2;omega)).trans (u1 r hr))
  ·-- it stands
   have O:e.k=k:=by
    rcases Ψ e.k k with h|h
    ·have:=hk.lo e.k _ h Q
     omega
    ·omega
   refine cG false E rfl (y.trans (decide_eq_false c2)) (Aq (ot ?_));exact stop k3 E δ (d.agree.defers.trans B) d.keep O
 ·have O:e.k=k:=by have:=hk.le;omega
  have V:BE.den (S.put 16 (atD l e)) (.cmp .gtr (.ln 16) (.c 0))=false:=by
   show decide (((l.length-e.k:Nat):Int)>0)=false;exact decide_eq_false χ
  refine b7 1 τ (atR++[(22,.one (.b (.c false)))]) [] 1 [] hPp δ (n3.fa [(.cmp .gtr (.ln 16) (.c 0),false)] (fa1 V)) fun X K I E d=>?_
  have k3:X 0=(zb,0):=(d.upto 0 ψ).trans k1;refine cG false E rfl rfl (Aq (ot ?_));exact stop k3 E δ (d.agree.defers.trans B) d.keep O
