import Derived.Test.YtpblcjipmoblnaaGreatDoorRsk
import Derived.Test.YtpblcjipmoblnaaGreatDoorTheirs3
set_option maxRecDepth 100000
set_option linter.all false
set_option maxHeartbeats 4000000
namespace Go.Proofs.YtpblcjipmoblnaaGreatDoor.Rs
open Go.RowKit Go.Proofs.YtpblcjipmoblnaaGreatDoor Ck
variable {B:Nat} {w:World}
def fnd{α:Type}(p:α→Bool)(l:List α):Int:=
 match l.findIdx? p with
 | some i=>i
 | none =>-1
theorem ai{α:Type}{k:Nat}{R:World→Nat→Nat→α→Prop}{w':World}{v:Value}{xs:List α}(h:aJ B k R w v xs)(p:jo B R)(q:B≤w.heap.size)(hk:Kz w w'){i:Nat}{x:α}(hx:xs[i]?=some x):
 ∃g o,vA v=some ⟨g,o,none⟩∧g<w'.heap.size∧R w' g (o+i*k) x:=by
 obtain⟨A,c,rfl,_,_,l⟩:=h;obtain⟨g,o,e,j,d⟩:=l (by have:=(List.getElem?_eq_some_iff.1 hx).1;omega);exact⟨g,o,e,by have:=hk.size;omega,p _ _ _ _ _ (hk.below (B:=B) χ (fun _ _ e=>e)) j (d i x hx)⟩
theorem ui{v:aR}{P:aC}(h:ao B w v P)(q:Sta)(κ:Kap):SV.den ((cA v P).put 24 q) κ (.ag aa)=.agg (v.cells P).toArray:=by
 rw[SV.on_ok (aQ (cA v P) 24 q) (v := .ag aa) δ,SV.den,jw h]
theorem zD{α:Type}{p:α→Bool}{l:List α}{k:Nat}{x:α}(hx:l[k]?=some x)(g:p x=true)(h:∀(i:Nat) x,i<k→l[i]?=some x→p x=false):fnd p l=k:=by
 have hk:=(List.getElem?_eq_some_iff.1 hx).1;have:l.findIdx? p=some k:=by
  rw[List.findIdx?_eq_some_iff_getElem];refine⟨hk,by rw[(List.getElem?_eq_some_iff.1 hx).2];exact g,fun j d=>?_⟩;rw[h j l[j] d (Ez χ)];simp
 rw[fnd,this]
theorem zC{α:Type}{p:α→Bool}{l:List α}(h:∀(i:Nat) x,i<l.length→l[i]?=some x→p x=false):fnd p l = -1:=by
 have:l.findIdx? p=none:=by
  rw[List.findIdx?_eq_none_iff];intro x hx;obtain⟨i,d⟩:=List.getElem?_of_mem hx;exact h i x (List.getElem?_eq_some_iff.1 d).1 d
 rw[fnd,this]
theorem ng{v:aR}{P:aC}(h:ao B w v P)(W:B≤w.heap.size)(A:ByteArray):
 Calls Tryz.prog 69 #[.agg (v.cells P).toArray,.string A] w fun e w'=>e=.returned (.int .i64 (fnd (fun x=>decide (x.name=A)) P.Q5))∧Kz w w':=by
 refine fnE ((cA v P).put 24 { s:=fun _=>A }) (fun _=>(0,0)) [.ag aa,.one (.s (.x 24))] Tryz.func69 Tryz.ntmps69 rfl (by rw[List.map_cons,ui h];rfl) ψ H0 (fun _ h=>h.elim) trivial fun a L hh=>?_
 refine am 2 (fun _=>true) [(5,.one (.i .i64 (.c 0))),(2,.one (.p 0 0)),(1,.one (.s (.x 24)))] [(0,aa)] 1 [] hPt δ hh fun κ1 a1 w1 N C=>?_
 have E:P.Q5.length≤4611686018427387904:=by obtain⟨_,_,_,_,E,_⟩:=h.Q5;unfold top at E;omega
 refine aM (gq N P.Q5.length 32 5 2 [(2,.one (.p 0 0)),(1,.one (.s (.x 24)))] (fun _=>true) (fun _:Unit=>{}) (fun k _ _=>∀i x,i<k→P.Q5[i]?=some x→decide (x.name=A)=false) (fun _ _ _ _ _ h=>h) () hPt δ rfl E (fun i x l=>absurd l χ) (N.has.re ⟨rfl,rfl,rfl,trivial⟩) ?_ ?_)
 ·intro k e R w2 hk q D p
  have l:=q.gh;obtain⟨x,hx⟩:=ge hk;obtain⟨g,o,S,U,V,h4⟩:=ai h.Q5 (aF _ _ _) W (K3 C.keep p) hx;obtain⟨κ',Z,O⟩:=q.elem (j:=2) (x:=eO x) (cl:=pD 40) S ⟨U,id⟩ hk V rfl δ
  cases eb:decide (x.name=A)with
  | true =>
   have I:=O.fa [(.seq (.x 40) (.x 24),true)] (by simp only[List.mem_singleton,forall_eq];exact(aw _ _).trans eb);refine aK (eJ 2 (fun _=>true) [(4,.one (.i .i64 (.x 32)))] [] 2 [] hPt δ I fun J K Q u d=>?_);refine b7 (bH ?_);refine fX 4 rfl u.has rfl (d.agree.defers.trans (D.defers.trans (C.agree.defers.trans L))) ⟨?_,K3 (K3 C.keep p) d.keep⟩;rw[zD hx eb l];rfl
  | false =>
   have I:=O.fa [(.seq (.x 40) (.x 24),false)] (by simp only[List.mem_singleton,forall_eq];exact(aw _ _).trans eb);refine aK (am 2 (fun _=>true) (fx 32 5 [(2,.one (.p 0 0)),(1,.one (.s (.x 24)))]) [] 2 [] hPt δ I fun J K Q u d=>?_);refine⟨(),J,fun i y X H=>?_,fun r Y=>(d.upto r (by show r<2;omega)).trans (Z r Y),u.has.on (cG _ 32 _ _ _).symm δ,D.trans d.agree (fun _ h=>h),K3 p d.keep⟩
   ·by_cases e2:i=k
    ·subst e2;rw[hx]at H;obtain rfl:=Option.some.inj H;exact eb
    ·exact l i y χ H
 ·intro e R w2 q D p
  have l:=q.gh;refine eJ 2 (fun _=>true) [(4,.one (.i .i64 (.c (-1))))] [] 1 [] hPt δ q fun J K Q u d=>?_
  refine fX 4 rfl u.has rfl (d.agree.defers.trans (D.defers.trans (C.agree.defers.trans L))) ⟨?_,K3 (K3 C.keep p) d.keep⟩;rw[zC l];rfl
theorem ju{x:aj}{v u:Value}(g:aJ B 5 cU w v x.QF)(h:aJ B 4 eW w u x.QN)(S d:Sta)(k:Int):
 (jQ 40).map (Cl.den (S.put 32 ((d.put 8 (kV x v u)).cnt k)) fun _=>(0,0))=[.int .i64 x.pos,.string x.name,.int .u64 x.QO,.bool x.stopped,v,u]:=by
 show([.int .i64 x.pos,.string x.name,.int .u64 x.QO,.bool x.stopped,.slice (vA v) x.QF.length (vC v),.slice (vA u) x.QN.length (vC u)]:List Value)=_;rw[aU g,aU h]
theorem rN{v:aR}{P:aC}(h:ao B w v P)(X:B≤w.heap.size)(A:ByteArray):
 Calls Tryz.prog 32 #[.agg (v.cells P).toArray,.string A] w fun e w'=>e=.returned (.int .i64 (fnd (fun x=>decide (x.name=A)) P.Q3))∧Kz w w':=by
 refine fnE ((cA v P).put 24 { s:=fun _=>A }) (fun _=>(0,0)) [.ag aa,.one (.s (.x 24))] Tryz.func32 Tryz.ntmps32 rfl (by rw[List.map_cons,ui h];rfl) ψ H0 (fun _ h=>h.elim) trivial fun a N hh=>?_
 refine am 2 (fun _=>true) [(5,.one (.i .i64 (.c 0))),(2,.one (.p 0 0)),(1,.one (.s (.x 24)))] [(0,aa)] 1 [] hPt δ hh fun κ1 a1 w1 O C=>?_
 have E:P.Q3.length≤4611686018427387904:=by obtain⟨_,_,_,_,E,_⟩:=h.Q3;unfold top at E;omega
 refine aM (gq O P.Q3.length 32 5 3 [(2,.one (.p 0 0)),(1,.one (.s (.x 24)))] (fun _=>true) (fun _:Unit=>{}) (fun k _ _=>∀i x,i<k→P.Q3[i]?=some x→decide (x.name=A)=false) (fun _ _ _ _ _ h=>h) () hPt δ rfl E (fun i x l=>absurd l χ) (O.has.re ⟨rfl,rfl,rfl,trivial⟩) ?_ ?_)
 ·intro k e S w2 hk q D p
  have l:=q.gh;obtain⟨x,hx⟩:=ge hk;obtain⟨g,o,U,V,v',u',W,Z,H,_⟩:=ai h.Q3 (bX B) X (K3 C.keep p) hx;obtain⟨κ',hu,Q⟩:=q.elem (j:=3) (x:=kV x v' u') (cl:=jQ 40) U ⟨V,id⟩ hk W (ju Z H _ _ _) δ
  cases eb:decide (x.name=A)with
  | true =>
   have J:=Q.fa [(.seq (.x 40) (.x 24),true)] (by simp only[List.mem_singleton,forall_eq];exact(aw _ _).trans eb);refine aK (eJ 2 (fun _=>true) [(4,.one (.i .i64 (.x 32)))] [] 2 [] hPt δ J fun K L R u d=>?_);refine b7 (bH ?_);refine fX 4 rfl u.has rfl (d.agree.defers.trans (D.defers.trans (C.agree.defers.trans N))) ⟨?_,K3 (K3 C.keep p) d.keep⟩;rw[zD hx eb l];rfl
  | false =>
   have J:=Q.fa [(.seq (.x 40) (.x 24),false)] (by simp only[List.mem_singleton,forall_eq];exact(aw _ _).trans eb);refine aK (am 2 (fun _=>true) (fx 32 5 [(2,.one (.p 0 0)),(1,.one (.s (.x 24)))]) [] 2 [] hPt δ J fun K L R u d=>?_);refine⟨(),K,fun i y Y I=>?_,fun r H=>(d.upto r (by show r<2;omega)).trans (hu r H),u.has.on (cG _ 32 _ _ _).symm δ,D.trans d.agree (fun _ h=>h),K3 p d.keep⟩
   ·by_cases e2:i=k
    ·subst e2;rw[hx]at I;obtain rfl:=Option.some.inj I;exact eb
    ·exact l i y χ I
 ·intro e S w2 q D p
  have l:=q.gh;refine eJ 2 (fun _=>true) [(4,.one (.i .i64 (.c (-1))))] [] 1 [] hPt δ q fun K L R u d=>?_
  refine fX 4 rfl u.has rfl (d.agree.defers.trans (D.defers.trans (C.agree.defers.trans N))) ⟨?_,K3 (K3 C.keep p) d.keep⟩;rw[zC l];rfl
def gT(a s o m:Int):Bool:=gz .leq (lM .add .u64 a s) o||gz .leq (lM .add .u64 o m) a
theorem uR(w:World)(x y z u:Int):
 Calls Tryz.prog 63 #[.int .u64 x,.int .u64 y,.int .u64 z,.int .u64 u] w fun e w'=>e=.returned (.bool (gT x y z u))∧Kz w w':=by
 refine fnE { i:=fun j=>[x,y,z,u].getD j 0 } (fun _=>(0,0)) [.one (.i .u64 (.x 0)),.one (.i .u64 (.x 1)),.one (.i .u64 (.x 2)),.one (.i .u64 (.x 3))] Tryz.func63 Tryz.ntmps63 rfl rfl ψ H0 (fun _ h=>h.elim) trivial fun a p hh=>?_
 cases eb:gz .leq (lM .add .u64 x y) z with
 | true =>
  have g:=hh.fa [(.cmp .leq (.bin .add .u64 (.x 0) (.x 1)) (.x 2),true)] (by simp only[List.mem_singleton,forall_eq];exact eb);refine eJ 3 (fun _=>true) [(8,.one (.b (.c true)))] [] 0 [] hPt δ g fun v q r l d=>?_
  exact fX 8 rfl l.has rfl (d.agree.defers.trans p) ⟨by unfold gT;rw[eb];rfl,d.keep⟩
 | false =>
  have g:=hh.fa [(.cmp .leq (.bin .add .u64 (.x 0) (.x 1)) (.x 2),false)] (by simp only[List.mem_singleton,forall_eq];exact eb);refine eJ 3 (fun _=>true) [(8,.one (.b (.cmp .leq (.bin .add .u64 (.x 2) (.x 3)) (.x 0))))] [] 0 [] hPt δ g fun v q r l d=>?_
  exact fX 8 rfl l.has rfl (d.agree.defers.trans p) ⟨by unfold gT;rw[eb];rfl,d.keep⟩
end Go.Proofs.YtpblcjipmoblnaaGreatDoor.Rs
namespace Go.Proofs.YtpblcjipmoblnaaGreatDoor.Rs
open Go.RowKit Go.Proofs.YtpblcjipmoblnaaGreatDoor Ck
variable {B:Nat} {w:World}
theorem ly{α:Type}(p:α→Bool)(l:List α):(∃(k:Nat) (x:α),l[k]?=some x∧p x=true∧fnd p l=k∧l.find? p=some x)∨(fnd p l = -1∧l.find? p=none):=by
 unfold fnd
 cases e:l.findIdx? p with
 | none =>
  refine .inr ⟨rfl,?_⟩;rw[List.find?_eq_none];intro x hx
  simpa using(List.findIdx?_eq_none_iff.1 e) x hx
 | some k =>
  obtain⟨hk,d,g⟩:=List.findIdx?_eq_some_iff_getElem.1 e;refine .inl ⟨k,l[k],Ez hk,d,rfl,?_⟩;rw[List.find?_eq_some_iff_getElem];exact⟨d,k,hk,rfl,fun j h=>by simpa using g j h⟩
theorem vG{α:Type}{p:α→Bool}{l:List α}{k:Nat}{x:α}(hx:l[k]?=some x)(g:p x=true)(h:∀(i:Nat) x,i<k→l[i]?=some x→p x=false):l.find? p=some x:=by
 obtain⟨hk,rfl⟩:=List.getElem?_eq_some_iff.1 hx;rw[List.find?_eq_some_iff_getElem];exact⟨g,k,hk,rfl,fun j d=>by rw[h j l[j] d (Ez χ)];rfl⟩
theorem Aj{α:Type}{p:α→Bool}{l:List α}(h:∀(i:Nat) x,i<l.length→l[i]?=some x→p x=false):l.find? p=none:=by
 rw[List.find?_eq_none];intro x hx;obtain⟨i,d⟩:=List.getElem?_of_mem hx;rw[h i x (List.getElem?_eq_some_iff.1 d).1 d];simp
theorem gB{x:Ck.bA}{v:Value}(g:aJ B 5 cU w v x.QF)(S d:Sta)(k:Int):
 (kJ 40).map (Cl.den (S.put 32 ((d.put 8 (oV x v)).cnt k)) fun _=>(0,0))=[.int .i64 x.pos,.string x.name,.int .u64 x.Q7,.int .u64 x.size,v]:=by
 show([.int .i64 x.pos,.string x.name,.int .u64 x.Q7,.int .u64 x.size,.slice (vA v) x.QF.length (vC v)]:List Value)=_;rw[aU g]
def kM(P:aC)(nm:ByteArray):Int×Int×Bool×Bool:=
 match P.Q5.find? fun x=>decide (x.name=nm)with
 | some x=>(x.size,bif x.big then 2097152 else 4096,x.wx,true)
 | none=>match P.Q4.find? fun x=>decide (x.name=nm)with
  | some x=>(x.size,4096,false,true)
  | none=>(0,0,false,false)
def CV(z:Int×Int×Bool×Bool):Value := .tuple #[.int .u64 z.1,.int .u64 z.2.1,.bool z.2.2.1,.bool z.2.2.2]
theorem ao.kept{w':World}{v:aR}{P:aC}(h:ao B w v P)(d:B≤w.heap.size)(hk:Kz w w'):ao B w' v P:=h.below (hk.below (B:=B) χ fun _ _ e=>e)
theorem b6{v:aR}{P:aC}{S:Sta}(h:ao B w v P)(d:Agr (lo 24) (cA v P) S)(κ:Kap):SV.den S κ (.ag aa)=.agg (v.cells P).toArray:=by
 rw[SV.on_ok d (v := .ag aa) δ,SV.den,jw h]
theorem vm{v:aR}{P:aC}(h:ao B w v P)(W:B≤w.heap.size)(m:Ck.Map):
 Calls Tryz.prog 68 #[.agg (v.cells P).toArray,.agg m.cells.toArray] w fun e w'=>e=.returned (CV (kM P m.of))∧Kz w w':=by
 have l:∀(S:Sta) κ w',S.i 32=fnd (fun x=>decide (x.name=m.of)) P.Q5→S.s 24=m.of→Agr (lo 24) (cA v P) S→Kz w w'→Calls Tryz.prog 69 ([SV.ag aa,.one (.s (.x 24))].map (SV.den S κ)).toArray w' fun e u=>e=.returned (SV.den S κ (.one (.i .i64 (.x 32))))∧Kz w' u:=by
  intro S κ w' C D E hk;have:=ng (ao.kept h W hk) (by have:=hk.size;omega) m.of;rw[List.map_cons,b6 h E];show Calls Tryz.prog 69 #[.agg (v.cells P).toArray,.string (S.s 24)] w' fun e u=>e=.returned (.int .i64 (S.i 32))∧Kz w' u
  rw[C,D];exact this
 refine fnE (((cA v P).put 24 (yf m)).put 32 (({}:Sta).cnt (fnd (fun x=>decide (x.name=m.of)) P.Q5))) (fun _=>(0,0)) [.ag aa,.ag (kc 24)] Tryz.func68 Tryz.ntmps68 rfl (by rw[List.map_cons,b6 h (mj _ _ _)];rfl) ψ H0 (fun _ h=>h.elim) trivial fun a R hh=>?_
 rcases ly (fun x=>decide (x.name=m.of)) P.Q5 with⟨k,x,hx,hp,hk,U⟩|⟨hk,U⟩
 ·rw[hk]at hh l
  obtain⟨g,o,C,D,E,h4⟩:=ai h.Q5 (aF _ _ _) W (aD.refl _ _) hx;obtain⟨κ',Z,K⟩:=hh.elem (j:=2) (x:=eO x) (cl:=pD 40) C ⟨D,id⟩ (List.getElem?_eq_some_iff.1 hx).1 E rfl δ;have hv:kM P m.of=((x.size:Int),bif x.big then 2097152 else 4096,x.wx,true):=by unfold kM;rw[U]
  cases eb:x.big with
  | true =>
   have q:=K.more [(.cmp .geq (.x 32) (.c 0),true),(.x 41,true)] [(69,[.ag aa,.one (.s (.x 24))],.one (.i .i64 (.x 32)))] []
    (by simp only[List.mem_cons,List.mem_nil_iff,or_false];rintro _ (rfl|rfl);exact decide_eq_true (by show(k:Int)≥0;omega);exact eb)
    (by simp only[List.mem_singleton,forall_eq];exact fun w' I=>l _ _ w' rfl rfl (mj _ _ _) I)
    (fun i x hx=>by cases hx)
   refine eJ 4 (fun _=>true) [(4,.one (.i .u64 (.x 41))),(5,.one (.i .u64 (.c 2097152))),(6,.one (.b (.x 42))),(7,.one (.b (.c true)))] [] 3 [] hPt δ q fun N O V p d=>?_
   exact uh rfl p.has rfl rfl rfl rfl (d.agree.defers.trans R) ⟨by rw[hv,eb];rfl,d.keep⟩
  | false =>
   have q:=K.more [(.cmp .geq (.x 32) (.c 0),true),(.x 41,false)] [(69,[.ag aa,.one (.s (.x 24))],.one (.i .i64 (.x 32)))] []
    (by simp only[List.mem_cons,List.mem_nil_iff,or_false];rintro _ (rfl|rfl);exact decide_eq_true (by show(k:Int)≥0;omega);exact eb)
    (by simp only[List.mem_singleton,forall_eq];exact fun w' I=>l _ _ w' rfl rfl (mj _ _ _) I)
    (fun i x hx=>by cases hx)
   refine eJ 4 (fun _=>true) [(4,.one (.i .u64 (.x 41))),(5,.one (.i .u64 (.c 4096))),(6,.one (.b (.x 42))),(7,.one (.b (.c true)))] [] 3 [] hPt δ q fun N O V p d=>?_
   exact uh rfl p.has rfl rfl rfl rfl (d.agree.defers.trans R) ⟨by rw[hv,eb];rfl,d.keep⟩
 ·rw[hk]at hh l
  have q:=hh.more [(.cmp .geq (.x 32) (.c 0),false)] [(69,[.ag aa,.one (.s (.x 24))],.one (.i .i64 (.x 32)))] []
   (by simp only[List.mem_cons,List.mem_nil_iff,or_false];rintro _ rfl;rfl)
   (by simp only[List.mem_singleton,forall_eq];exact fun w' I=>l _ _ w' rfl rfl (mj _ _ _) I)
   (fun i x hx=>by cases hx)
  refine am 5 (fun _=>true) [(9,.one (.i .i64 (.c 0))),(2,.one (.p 0 0)),(3,.one (.p 1 0))] [(1,kc 24),(0,aa)] 2 [] hPt δ q fun κ1 a1 w1 p L=>?_
  have n6:=p.down [(9,.one (.i .i64 (.c 0))),(2,.one (.p 0 0)),(3,.one (.p 1 0))] δ;have X:P.Q4.length≤4611686018427387904:=by obtain⟨_,_,_,_,X,_⟩:=h.Q4;unfold top at X;omega
  refine aM (gq n6 P.Q4.length 32 9 1 [(2,.one (.p 0 0)),(3,.one (.p 1 0))] (fun _=>true) (fun _:Unit=>{}) (fun k _ _=>∀i x,i<k→P.Q4[i]?=some x→decide (x.name=m.of)=false) (fun _ _ _ _ _ h=>h) () hPt δ rfl X (fun i x A=>absurd A χ) (n6.has.re ⟨rfl,rfl,rfl,trivial⟩) ?_ ?_)
  ·intro k e a2 w2 hk J Q H
   have A:=J.gh;obtain⟨x,hx⟩:=ge hk;obtain⟨g,o,C,D,v',E,hm,_⟩:=ai h.Q4 (bh B) W (K3 L.keep H) hx;obtain⟨κ',Z,K⟩:=J.elem (j:=1) (x:=oV x v') (cl:=kJ 40) C ⟨D,id⟩ hk E (gB hm _ _ _) δ
   cases eb:decide (x.name=m.of)with
   | true =>
    have q:=K.fa [(.seq (.x 40) (.x 24),true)] (by simp only[List.mem_singleton,forall_eq];exact(aw _ _).trans eb);refine aK (eJ 2 (fun _=>true) [(4,.one (.i .u64 (.x 42))),(5,.one (.i .u64 (.c 4096))),(6,.one (.b (.c false))),(7,.one (.b (.c true)))] [] 3 [] hPt δ q fun N O V p d=>?_);refine b7 (bH ?_);exact uh rfl p.has rfl rfl rfl rfl (d.agree.defers.trans (Q.defers.trans (L.agree.defers.trans R))) ⟨by unfold kM;rw[U];simp only[];rw[vG hx eb A];rfl,K3 (K3 L.keep H) d.keep⟩
   | false =>
    have q:=K.fa [(.seq (.x 40) (.x 24),false)] (by simp only[List.mem_singleton,forall_eq];exact(aw _ _).trans eb);refine aK (am 2 (fun _=>true) (fx 32 9 [(2,.one (.p 0 0)),(3,.one (.p 1 0))]) [] 3 [] hPt δ q fun N O V p d=>?_);refine⟨(),N,fun i y ac Y=>?_,fun r hr=>(d.upto r (by show r<3;omega)).trans (Z r hr),p.has.on (cG _ 32 _ _ _).symm δ,Q.trans d.agree (fun _ h=>h),K3 H d.keep⟩
    ·by_cases e2:i=k
     ·subst e2;rw[hx]at Y;obtain rfl:=Option.some.inj Y;exact eb
     ·exact A i y χ Y
  ·intro e a2 w2 J Q H
   have A:=J.gh;refine eJ 2 (fun _=>true) [(4,.one (.i .u64 (.c 0))),(5,.one (.i .u64 (.c 0))),(6,.one (.b (.c false))),(7,.one (.b (.c false)))] [] 2 [] hPt δ J fun N O V p d=>?_
   exact uh rfl p.has rfl rfl rfl rfl (d.agree.defers.trans (Q.defers.trans (L.agree.defers.trans R))) ⟨by unfold kM;rw[U];simp only[];rw[Aj A];rfl,K3 (K3 L.keep H) d.keep⟩
end Go.Proofs.YtpblcjipmoblnaaGreatDoor.Rs
namespace Go.Proofs.YtpblcjipmoblnaaGreatDoor.Rs
open Go.RowKit Go.Proofs.YtpblcjipmoblnaaGreatDoor Ck
variable {B:Nat} {w w':World}
theorem cS{S:Sta}:∀y∈([]:List (BE×Bool)),y.1.den S=y.2:=fun _ h=>by cases h
theorem fac{S:Sta}{x:BE×Bool}{l:List (BE×Bool)}(h:x.1.den S=x.2)(k:∀y∈l,y.1.den S=y.2):∀y∈x::l,y.1.den S=y.2:=by
 intro y d
 rcases List.mem_cons.1 d with rfl|d
 ·exact h
 ·exact k y d
structure Cr (P:aC) (QF:List Ck.Map) (dev:Bool) (i:Nat) (m:Ck.Map) (n u:Int) (wx:Bool):Prop where
 sz:kM P m.of=(n,u,wx,true)
 unit:u=4096∨u=2097152
 zero:(n==0)=false
 big:decide (n>67108864)=false
 Q7:decide ((m.Q7:Int)>549755813888)=false
 last:decide (IntKind.u64.wrap ((m.Q7:Int)+n)>549755813888)=false
 even:((m.Q7:Int).tmod u !=0)=false
 whole:(n.tmod 4096 !=0)=false
 wxOk:(m.write&&m.exec && !wx||dev&&(m.exec||decide (fnd (fun x=>decide (x.name=m.of)) P.Q5<0)))=false
 far:∀(j:Nat) y,j<i→QF[j]?=some y→gT m.Q7 n y.Q7 (kM P y.of).1=true
def nD(P:aC)(QF:List Ck.Map)(dev:Bool):Prop:=
 QF.length≤64∧∀(i:Nat) m,QF[i]?=some m→∃n u wx,Cr P QF dev i m n u wx
def AW(m:Ck.Map)(n:Int)(wx:Bool)(f:Int):Sta where
 i j:=match j with|0=>m.pos|1=>m.Q7|2=>n|_=>f
 s _:=m.of
 b j:=match j with|0=>m.write|1=>m.exec|_=>wx
def spS(u:Value)(QF:List Ck.Map)(dev:Bool):Sta where
 a _:=vA u
 n j:=match j with|0=>QF.length|_=>vC u
 b _:=dev
theorem mm{v:aR}{P:aC}{S:Sta}{κ:Kap}(h:ao B w v P)(j:B≤w.heap.size)(hk:Kz w w')(g:Agr (lo 24) (cA v P) S)(m:Ck.Map){cl:List Cl}(l:cl.map (Cl.den S κ)=m.cells){r:SV}(p:r.den S κ=CV (kM P m.of)):
 Calls Tryz.prog 68 ([SV.ag aa,.ag cl].map (SV.den S κ)).toArray w' fun e d=>e=.returned (r.den S κ)∧Kz w' d:=by
 rw[List.map_cons,b6 h g,p];show Calls Tryz.prog 68 #[.agg (v.cells P).toArray,.agg (cl.map (Cl.den S κ)).toArray] w' _;rw[l];exact vm (ao.kept h j hk) (by have:=hk.size;omega) m
theorem lY{v:aR}{P:aC}{S:Sta}{κ:Kap}(h:ao B w v P)(l:B≤w.heap.size)(hk:Kz w w')(j:Agr (lo 24) (cA v P) S)(d:ByteArray){x r:SV}(hx:x.den S κ=.string d)(p:r.den S κ=.int .i64 (fnd (fun x=>decide (x.name=d)) P.Q5)):
 Calls Tryz.prog 69 ([SV.ag aa,x].map (SV.den S κ)).toArray w' fun e g=>e=.returned (r.den S κ)∧Kz w' g:=by
 rw[List.map_cons,List.map_cons,b6 h j,p,hx];exact ng (ao.kept h l hk) (by have:=hk.size;omega) d
theorem cn{v:aR}{P:aC}{S:Sta}{κ:Kap}(h:ao B w v P)(l:B≤w.heap.size)(hk:Kz w w')(j:Agr (lo 24) (cA v P) S)(d:ByteArray){x r:SV}(hx:x.den S κ=.string d)(p:r.den S κ=.int .i64 (fnd (fun x=>decide (x.name=d)) P.Q3)):
 Calls Tryz.prog 32 ([SV.ag aa,x].map (SV.den S κ)).toArray w' fun e g=>e=.returned (r.den S κ)∧Kz w' g:=by
 rw[List.map_cons,List.map_cons,b6 h j,p,hx];exact rN (ao.kept h l hk) (by have:=hk.size;omega) d
theorem iL{S:Sta}{κ:Kap}{a b c d:IE}{r:Bool}(h:gT (a.den S) (b.den S) (c.den S) (d.den S)=r):
 Calls Tryz.prog 63 ([SV.one (.i .u64 a),.one (.i .u64 b),.one (.i .u64 c),.one (.i .u64 d)].map (SV.den S κ)).toArray w' fun e g=>e=.returned ((SV.one (.b (.c r))).den S κ)∧Kz w' g:=by
 subst h;exact uR w' _ _ _ _
end Go.Proofs.YtpblcjipmoblnaaGreatDoor.Rs
namespace Go.Proofs.YtpblcjipmoblnaaGreatDoor.Rs
open Go.RowKit Go.Proofs.YtpblcjipmoblnaaGreatDoor Ck
def chS(c:Ck.au)(f:Int):Sta where
 i j:=match j with|0=>c.pos|1=>c.how|2=>c.QL|_=>f
 s j:=match j with|0=>c.name|1=>c.QI|2=>c.to|_=>c.over
 b _:=c.shared
def xW(c:Ck.au)(nm:ByteArray)(l:List aj):Bool:=l.any fun x=>decide (x.name=nm)&&x.QF.any fun m=>decide (m.of=c.over)
structure rB (P:aC) (c:Ck.au):Prop where
 own:∀x∈P.Q3,∀m∈x.QF,m.of=c.over→x.name=c.QI∨(x.name=c.to∧m.write=false)
 dev:∀x∈P.Q4,∀m∈x.QF,m.of≠c.over
 QI:xW c c.QI P.Q3=true
 to_:xW c c.to P.Q3=true
 ne:c.QI≠c.to
 reg:decide (fnd (fun x=>decide (x.name=c.over)) P.Q5≥0)=true
def fl2(e:Bool×Bool):Sta where
 b j:=match j with|1=>e.1|_=>e.2
theorem gJ{α:Type}{p:α→Bool}{l:List α}{k:Nat}{x:α}(hx:l[k]?=some x):(l.take (k+1)).any p=((l.take k).any p||p x):=by
 rw[List.take_add_one,hx];simp
theorem bq{a b:ByteArray}{t:Bool}(h:decide (a=b)=t):(a.toList==b.toList)=t:=(aw a b).trans h
theorem xL{B:Nat}{w:World}{v:aR}{P:aC}(h:ao B w v P)(hB:B≤w.heap.size){c:Ck.au}(Y:rB P c):
 Calls Tryz.prog 65 #[.agg (v.cells P).toArray,.agg c.cells.toArray] w fun e w'=>e=.returned (.bool true)∧Kz w w':=by
 have E:P.Q3.length≤4611686018427387904:=by obtain⟨_,_,_,_,E,_⟩:=h.Q3;unfold top at E;omega
 have a0:P.Q4.length≤4611686018427387904:=by obtain⟨_,_,_,_,E,_⟩:=h.Q4;unfold top at E;omega
 let S:=(cA v P).put 24 (chS c (fnd (fun x=>decide (x.name=c.over)) P.Q5))
 refine fnE S (fun _=>(0,0)) [.ag aa,.ag (chC 24)] Tryz.func65 Tryz.ntmps65 rfl
  (by rw[List.map_cons,b6 h (aQ _ _ _)];rfl) ψ H0 (fun _ h=>h.elim) trivial fun a hd hh=>?_
 refine am 4 (fun _=>true) [(7,.one (.i .i64 (.c 0))),(5,.one (.b (.c false))),(6,.one (.b (.c false))),(2,.one (.p 0 0)),(3,.one (.p 1 0))] [(0,aa),(1,chC 24)] 2 [] hPt δ hh fun κ1 a1 w1 n1 p1=>?_
 refine aM (gq n1 P.Q3.length 32 7 3 [(5,.one (.b (.x 33))),(6,.one (.b (.x 34))),(2,.one (.p 0 0)),(3,.one (.p 1 0))] (fun _=>true) fl2 (fun k e _=>e=(xW c c.QI (P.Q3.take k),xW c c.to (P.Q3.take k))) (fun _ _ _ _ _ h=>h) (false,false) hPt δ rfl E rfl (n1.has.re ⟨rfl,rfl,rfl,rfl,rfl,trivial⟩) ?_ ?_)
 ·intro k e a2 w2 hk n2 hA hK
  obtain⟨x,hx⟩:=ge hk;have he:e=_:=n2.gh;obtain⟨g,o,h1,h2,v',u',h3,X,H,_⟩:=ai h.Q3 (bX B) hB (K3 p1.keep hK) hx;obtain⟨κ',Z,n3⟩:=n2.elem (j:=3) (x:=kV x v' u') (cl:=jQ 40) h1 ⟨h2,id⟩ hk h3 (ju X H _ _ _) δ;refine aK (am 1 (fun _=>true) ((8,.one (.i .i64 (.c 0)))::fx 32 7 [(5,.one (.b (.x 33))),(6,.one (.b (.x 34))),(2,.one (.p 0 0)),(3,.one (.p 1 0))]) [(2,jQ 40),(0,aa),(1,chC 24)] 3 [] hPt δ n3 fun κ2 a3 w3 n4 p2=>?_);have W:x.QF.length≤4611686018427387904:=by obtain⟨_,_,_,_,E,_⟩:=X;unfold top at E;omega
  have V:B≤w2.heap.size:=by have:=(K3 p1.keep hK).size;omega
  refine aM (sM [(3,6,.x 32,3,2)] n4 rfl x.QF.length 64 8 40 [(7,.one (.i .i64 (.x 32))),(5,.one (.b (.x 65))),(6,.one (.b (.x 66))),(2,.one (.p 0 0)),(3,.one (.p 1 0))] (fun _=>true) fl2 (fun j u _=>u=(e.1||decide (x.name=c.QI)&&(x.QF.take j).any fun m=>decide (m.of=c.over),e.2||decide (x.name=c.to)&&(x.QF.take j).any fun m=>decide (m.of=c.over))) (fun _ _ _ _ _ h=>h) e hPt δ rfl W ξ (n4.has.re ⟨rfl,rfl,rfl,rfl,rfl,rfl,trivial⟩) ?_ ?_)
  ·intro j u a4 w4 hj I p d
   obtain⟨m,K⟩:=ge hj;have y:u=_:=I.gh;obtain⟨g',o',O,Q,R,af⟩:=ai X (aF _ _ _) V (K3 p2.keep d) K;obtain⟨κ3,ac,L⟩:=I.elem (j:=40) (x:=yf m) (cl:=kc 72) O ⟨Q,id⟩ hj R rfl δ;have ad:∀{κ4:Kap} {J:Act} {w5:World} (e3:Bool×Bool),e3=(e.1||decide (x.name=c.QI)&&(x.QF.take (j+1)).any fun m=>decide (m.of=c.over),e.2||decide (x.name=c.to)&&(x.QF.take (j+1)).any fun m=>decide (m.of=c.over))→kp H0.T κ3 κ4 4 (fun _=>true) a4 J w4 w5→Has ((((cA v P).put 24 (chS c (fnd (fun x=>decide (x.name=c.over)) P.Q5))).put 32 (((fl2 e).put 8 (kV x v' u')).cnt k)).put 64 ((fl2 e3).cnt j)) κ4 109 (fx 64 8 [(7,.one (.i .i64 (.x 32))),(5,.one (.b (.x 65))),(6,.one (.b (.x 66))),(2,.one (.p 0 0)),(3,.one (.p 1 0))]) J →
    gj (S.put 32 (((fl2 e).put 8 (kV x v' u')).cnt k)) κ2 109 64 3 (fx 64 8 [(7,.one (.i .i64 (.x 32))),(5,.one (.b (.x 65))),(6,.one (.b (.x 66))),(2,.one (.p 0 0)),(3,.one (.p 1 0))]) (fun _=>true) fl2 H0.T (fun j u _=>u=(e.1||decide (x.name=c.QI)&&(x.QF.take j).any fun m=>decide (m.of=c.over),e.2||decide (x.name=c.to)&&(x.QF.take j).any fun m=>decide (m.of=c.over))) j a3 w3 J w5:=
    fun e3 q1 l q2=>⟨e3,_,q1,fun r H=>(l.upto r χ).trans (ac r H),q2,p.trans l.agree (fun _ h=>h),K3 d l.keep⟩
   obtain⟨bo,N⟩:∃b,decide (m.of=c.over)=b:=⟨_,rfl⟩
   cases bo with
   | false =>
    have A:=L.fa [(.seq (.x 72) (.x 27),false)] (fac (bq N) cS);refine aK (xl 3 (.e 3) (fun _=>true) (fx 64 8 [(7,.one (.i .i64 (.x 32))),(5,.one (.b (.x 65))),(6,.one (.b (.x 66))),(2,.one (.p 0 0)),(3,.one (.p 1 0))]) [] 5 [] hPt δ A fun κ4 J w5 n9 l=>?_);exact ad u (by rw[y,gJ K,N];simp) l (n9.has.re ⟨rfl,rfl,rfl,rfl,rfl,rfl,trivial⟩)
   | true =>
    have ho:=Y.own x (List.mem_of_getElem? hx) m (List.mem_of_getElem? K) (by simpa using N);obtain⟨bf,ef⟩:∃b,decide (x.name=c.QI)=b:=⟨_,rfl⟩
    cases bf with
    | true =>
     have A:=L.fa [(.seq (.x 72) (.x 27),true),(.seq (.x 40) (.x 25),true)] (fac (bq N) (fac (bq ef) cS));refine aK (am 5 (fun _=>true) (fx 64 8 [(7,.one (.i .i64 (.x 32))),(5,.one (.b (.c true))),(6,.one (.b (.x 66))),(2,.one (.p 0 0)),(3,.one (.p 1 0))]) [] 5 [] hPt δ A fun κ4 J w5 n9 l=>?_);have et:decide (x.name=c.to)=false:=decide_eq_false fun q=>Y.ne ((of_decide_eq_true ef).symm.trans q)
     exact cI rfl (ad (true,u.2) (by rw[y,gJ K,N,ef,et];simp) l (n9.has.re ⟨rfl,rfl,rfl,rfl,rfl,rfl,trivial⟩))
    | false =>
     have⟨et,ew⟩:=ho.resolve_left (of_decide_eq_false ef);have A:=L.fa [(.seq (.x 72) (.x 27),true),(.seq (.x 40) (.x 25),false),(.seq (.x 40) (.x 26),true),(.x 72,false)] (fac (bq N) (fac (bq ef) (fac (bq (decide_eq_true et)) (fac ew cS))));refine aK (am 5 (fun _=>true) (fx 64 8 [(7,.one (.i .i64 (.x 32))),(5,.one (.b (.x 65))),(6,.one (.b (.c true))),(2,.one (.p 0 0)),(3,.one (.p 1 0))]) [] 5 [] hPt δ A fun κ4 J w5 n9 l=>?_);exact cI rfl (ad (u.1,true) (by rw[y,gJ K,N,ef,decide_eq_true et];simp) l (n9.has.re ⟨rfl,rfl,rfl,rfl,rfl,rfl,trivial⟩))
  ·intro u a4 w4 I p d
   have y:u=_:=I.gh;rw[List.take_length]at y;refine⟨u,κ2,?_,fun r H=>(p2.upto r (by show r<3;omega)).trans (Z r H),I.has.re ⟨rfl,rfl,rfl,rfl,rfl,trivial⟩,(hA.trans p2.agree (fun _ h=>h)).trans p (fun _ h=>h),K3 (K3 hK p2.keep) d⟩;rw[y,he];simp only[xW,gJ hx]
 ·intro e a2 w2 n2 hA hK
  have he:e=_:=n2.gh;rw[List.take_length,Y.QI,Y.to_]at he;subst he;have n3:=n2.downR [(5,.one (.b (.c true))),(6,.one (.b (.c true))),(2,.one (.p 0 0)),(3,.one (.p 1 0))] ⟨rfl,rfl,rfl,rfl,trivial⟩ δ;refine am 1 (fun _=>true) [(10,.one (.i .i64 (.c 0))),(5,.one (.b (.c true))),(6,.one (.b (.c true))),(2,.one (.p 0 0)),(3,.one (.p 1 0))] [(0,aa),(1,chC 24)] 2 [] hPt δ n3 fun κ2 a3 w3 n4 p2=>?_
  have C:=K3 (K3 p1.keep hK) p2.keep;refine aM (gq n4 P.Q4.length 32 10 1 [(5,.one (.b (.c true))),(6,.one (.b (.c true))),(2,.one (.p 0 0)),(3,.one (.p 1 0))] (fun _=>true) (fun _:Unit=>{}) (fun _ _ _=>True) (fun _ _ _ _ _ h=>h) () hPt δ rfl a0 trivial (n4.has.re ⟨rfl,rfl,rfl,rfl,rfl,trivial⟩) ?_ ?_)
  ·intro k e a4 w4 hk n5 p d
   obtain⟨x,hx⟩:=ge hk;obtain⟨g,o,h1,h2,v',h3,X,_⟩:=ai h.Q4 (bh B) hB (K3 C d) hx;obtain⟨κ',Z,I⟩:=n5.elem (j:=1) (x:=oV x v') (cl:=kJ 40) h1 ⟨h2,id⟩ hk h3 (gB X _ _ _) δ;refine aK (am 1 (fun _=>true) ((11,.one (.i .i64 (.c 0)))::fx 32 10 [(5,.one (.b (.c true))),(6,.one (.b (.c true))),(2,.one (.p 0 0)),(3,.one (.p 1 0))]) [(2,kJ 40),(0,aa),(1,chC 24)] 3 [] hPt δ I fun κ3 J w5 L l=>?_);have W:x.QF.length≤4611686018427387904:=by obtain⟨_,_,_,_,E,_⟩:=X;unfold top at E;omega
   have V:B≤w4.heap.size:=by have:=(K3 C d).size;omega
   refine aM (sM [(1,5,.x 32,1,2)] L rfl x.QF.length 64 11 40 [(10,.one (.i .i64 (.x 32))),(5,.one (.b (.c true))),(6,.one (.b (.c true))),(2,.one (.p 0 0)),(3,.one (.p 1 0))] (fun _=>true) (fun _:Unit=>{}) (fun _ _ _=>True) (fun _ _ _ _ _ h=>h) () hPt δ rfl W trivial (L.has.re ⟨rfl,rfl,rfl,rfl,rfl,rfl,trivial⟩) ?_ ?_)
   ·intro j u a6 w6 hj A U D
    obtain⟨m,K⟩:=ge hj;obtain⟨g',o',O,Q,R,af⟩:=ai X (aF _ _ _) V (K3 l.keep D) K;obtain⟨κ4,ac,n9⟩:=A.elem (j:=40) (x:=yf m) (cl:=kc 72) O ⟨Q,id⟩ hj R rfl δ;have a9:=n9.fa [(.seq (.x 72) (.x 27),false)] (fac (bq (decide_eq_false (Y.dev x (List.mem_of_getElem? hx) m (List.mem_of_getElem? K)))) cS);refine aK (am 2 (fun _=>true) (fx 64 11 [(10,.one (.i .i64 (.x 32))),(5,.one (.b (.c true))),(6,.one (.b (.c true))),(2,.one (.p 0 0)),(3,.one (.p 1 0))]) [] 4 [] hPt δ a9 fun κ5 a7 w7 ba p4=>?_);exact⟨(),κ5,trivial,fun r H=>(p4.upto r (by show r<4;omega)).trans (ac r H),ba.has.on (cG _ 64 _ _ _).symm δ,U.trans p4.agree (fun _ h=>h),Rs.K3 D p4.keep⟩
   ·intro u a6 w6 A U D
    exact⟨(),κ3,trivial,fun r H=>(l.upto r (by show r<3;omega)).trans (Z r H),A.has.re ⟨rfl,rfl,rfl,rfl,rfl,trivial⟩,(p.trans l.agree (fun _ h=>h)).trans U (fun _ h=>h),Rs.K3 (Rs.K3 d l.keep) D⟩
  ·intro e a4 w4 n5 p d
   have I:=n5.downR [(5,.one (.b (.c true))),(6,.one (.b (.c true))),(2,.one (.p 0 0)),(3,.one (.p 1 0))] ⟨rfl,rfl,rfl,rfl,trivial⟩ δ;have L:=I.more [(.cmp .geq (.x 27) (.c 0),true)] [(69,[.ag aa,.one (.s (.x 27))],.one (.i .i64 (.x 27)))] [] (fac Y.reg cS)
    (by
     intro x hx w' a8;obtain rfl:=List.mem_singleton.1 hx;exact lY h hB (K3 (K3 C d) a8) (aQ _ _ _) c.over rfl rfl)
    (fun i x hx=>by cases hx)
   refine eJ 2 (fun _=>true) [(4,.one (.b (.cmp .geq (.x 27) (.c 0))))] [] 2 [] hPt δ L fun κ3 J w5 A l=>?_
   refine fX 4 rfl A.has rfl (l.agree.defers.trans (p.defers.trans (p2.agree.defers.trans (hA.defers.trans (p1.agree.defers.trans hd))))) ⟨?_,K3 (K3 C d) l.keep⟩;rw[SV.den,Cl.den_b,show BE.den S (.cmp .geq (.x 27) (.c 0))=true from Y.reg]
open Go.IntWalk
theorem oq{a b:Nat}(h:a+b<18446744073709551616):IntKind.u64.wrap ((a:Int)+b)=((a+b:Nat):Int):=by
 rw[u64_in _ χ];omega
theorem gS{a s o m:Nat}(h:Off a s o m)(d:a+s<18446744073709551616)(g:o+m<18446744073709551616):gT a s o m=true:=by
 unfold gT;simp only[lM,gz,oq d,oq g,Bool.or_eq_true,decide_eq_true_eq];unfold Off at h;omega
theorem nZ(P:aC)(d:ByteArray):kM P d=match eD P d with
 | some t=>((t.size:Int),(unit t.big:Int),t.wx,true)
 | none=>(0,0,false,false):=by
 unfold kM eD
 cases h:P.Q5.find? (fun x=>decide (x.name=d))with
 | some x=>cases hb:x.big<;>simp[unit,hb]
 | none=>cases P.Q4.find? (fun x=>decide (x.name=d))<;>simp[unit]
theorem qj{α:Type}{p:α→Bool}{l:List α}:decide (fnd p l<0)=!l.any p:=by
 rcases ly p l with⟨k,x,g,h,d,_⟩|⟨d,j⟩
 ·rw[d]
  have:l.any p=true:=List.any_eq_true.2 ⟨x,List.mem_of_getElem? g,h⟩;rw[this];exact decide_eq_false χ
 ·rw[d]
  have:l.any p=false:=by
   rw[List.any_eq_false];intro x hx;exact List.find?_eq_none.1 j x hx
  rw[this];rfl
theorem i8(a b:Nat):((a:Int).tmod b)=((a%b:Nat):Int):=by
 rw[Int.tmod_eq_emod_of_nonneg χ];omega
theorem rP{named:ByteArray→Bool}{br:Nat→cW→Nat×Int×Int}{P:aC}(h:ox named br P){dev:Bool}{QF:List Ck.Map}(N:QF.length≤64)(D:∀m∈QF,has P.things m.of=true)(u:iy P dev QF)(K:dev=true→∀m∈QF,has P.regs m.of=true):nD P QF dev:=by
 refine⟨N,fun i m C=>?_⟩;have d:=List.mem_of_getElem? C;have get:∀m∈QF,∃t,eD P m.of=some t∧aS P m.of=t∧0<t.size∧t.size≤67108864∧t.size%4096=0:=fun m d=>by
  obtain⟨t,g⟩:=iW (D m d);have e:aS P m.of=t:=by unfold aS;rw[g];rfl
  have l:=vY h.Qg h.Q5 (D m d);have r:=nN h.Qg h.Q5 m.of;rw[e]at l r;refine⟨t,g,e,l,r,?_⟩
  rcases lR g with⟨x,hx,_,rfl⟩|⟨x,hx,_,rfl⟩
  ·exact jt (h.Q5.one x hx).2.2.1
  ·exact(h.Qg.dev x hx).2.2.2.2
 obtain⟨t,g,e,l,r,J⟩:=get m d;obtain⟨A,E,B⟩:=u.one m d;rw[e]at A E B;have Q:unit t.big=4096∨unit t.big=2097152:=by unfold unit;cases t.big<;>simp
 refine⟨t.size,(unit t.big:Nat),t.wx,⟨by rw[nZ,g],χ,?_,?_,?_,?_,?_,?_,?_,?_⟩⟩
 ·rw[beq_eq_false_iff_ne];omega
 ·exact decide_eq_false χ
 ·exact decide_eq_false χ
 ·rw[oq χ];exact decide_eq_false χ
 ·rw[i8,A];rfl
 ·rw[show(4096:Int)=(4096:Nat) from rfl,i8,J];rfl
 ·rw[qj]
  cases hx:m.exec with
  | false =>
   cases dev with
   | false=>simp
   | true =>
    have:P.Q5.any (fun x=>decide (x.name=m.of))=true:=by
     obtain⟨p,O⟩:=fo.1 (K rfl m d);obtain⟨x,hx,e⟩:=List.mem_map.1 O;exact List.any_eq_true.2 ⟨x,hx,by simp only[Prod.mk.injEq]at e;simp[e.1]⟩
    simp[this]
  | true =>
   obtain⟨rfl,b⟩:=B hx
   rcases b with b|b<;>simp[b]
 ·intro j y L w
  obtain⟨t',v,e',q,I,_⟩:=get y (List.mem_of_getElem? w);have:=u.apart i j m y L C w (by rw[e];exact l) (by rw[e'];exact q);rw[e,e']at this;have H:=(u.one y (List.mem_of_getElem? w)).2.1;rw[e']at H;rw[nZ,v];exact gS this χ χ
end Go.Proofs.YtpblcjipmoblnaaGreatDoor.Rs
namespace Go.Proofs.YtpblcjipmoblnaaGreatDoor.Rs
open Go.RowKit Go.Proofs.YtpblcjipmoblnaaGreatDoor Ck
def ux(Q7:Int)(l:List Ck.Ram):Bool:=l.any fun x=>decide ((x.Q7:Int)≤Q7)&&decide (Q7<IntKind.u64.wrap ((x.Q7:Int)+x.size))
structure zh (P:aC) (k:Nat) (x:Ck.Region):Prop where
 zero:((x.size:Int)==0)=false
 big_:decide ((x.size:Int)>67108864)=false
 whole:((x.size:Int).tmod 4096 !=0)=false
 unit:x.big=true→((x.size:Int).tmod 2097152 !=0)=false
 fill:decide ((x.fill:Int)>255)=false
 text:decide (IntKind.u64.wrap ((x.text.size:Nat):Int)>x.size)=false
 Qs:decide ((x.fill:Int)>0)=true→decide ((x.size:Int)>1048576)=false
 atW:x.fixed=true→((x.Q7:Int).tmod 4096 !=0)=false
 atU:x.fixed=true→x.big=true→((x.Q7:Int).tmod 2097152 !=0)=false
 Q7:x.fixed=true→decide ((x.Q7:Int)>4294967296)=false
 le:x.fixed=true→x.Q7+x.size≤4294967296∧x.size%4096=0
 Ql:x.fixed=true→∀i:Nat,i<x.size / 4096→ux ((x.Q7:Int)+4096*i) P.QG=true
 far:x.fixed=true→∀(j:Nat) y,j<k→P.Q5[j]?=some y→y.fixed=true→gT x.Q7 x.size y.Q7 y.size=true
def fl1(e:Bool):Sta where
 b _:=e
def fF(l:Fr):Fr:=(4,.one (.p 2 0))::(3,.one (.i .i64 (.x 32)))::(1,.one (.p 0 0))::l
theorem wn{B:Nat}{w:World}{v:aR}{P:aC}(h:ao B w v P)(hB:B≤w.heap.size)(hs:∀(k:Nat) x,P.Q5[k]?=some x→zh P k x)(hn:decide ((P.Q5.length:Int)≤256)=true):
 Calls Tryz.prog 64 #[.agg (v.cells P).toArray] w fun e w'=>e=.returned (.bool true)∧Kz w w':=by
 have hl:P.Q5.length≤4611686018427387904:=by obtain⟨_,_,_,_,hl,_⟩:=h.Q5;unfold top at hl;omega
 have a0:P.QG.length≤4611686018427387904:=by obtain⟨_,_,_,_,hl,_⟩:=h.QG;unfold top at hl;omega
 refine fnE (cA v P) (fun _=>(0,0)) [.ag aa] Tryz.func64 Tryz.ntmps64 rfl
  (by rw[List.map_cons,b6 h (Agr.refl _ _)];rfl) ψ H0 (fun _ h=>h.elim) trivial fun a hd hh=>?_
 refine am 2 (fun _=>true) [(3,.one (.i .i64 (.c 0))),(1,.one (.p 0 0))] [(0,aa)] 1 [] hPt δ hh fun κ1 a1 w1 n1 p1=>?_
 refine aM (gq n1 P.Q5.length 32 3 2 [(1,.one (.p 0 0))] (fun _=>true) (fun _:Unit=>{}) (fun _ _ _=>True) (fun _ _ _ _ _ h=>h) () hPt δ rfl hl trivial (n1.has.re ⟨rfl,rfl,trivial⟩) ?_ ?_)
 ·intro k e a2 w2 hk n2 hA hK
  obtain⟨x,hx⟩:=ge hk;have M:=hs k x hx;obtain⟨g,o,h1,h2,h3,h4⟩:=ai h.Q5 (aF _ _ _) hB (K3 p1.keep hK) hx;obtain⟨κ',hu,n3⟩:=n2.elem (j:=2) (x:=eO x) (cl:=pD 40) h1 ⟨h2,id⟩ hk h3 rfl δ;obtain⟨bb,eb⟩:∃b,x.big=b:=⟨_,rfl⟩;obtain⟨bx,S⟩:∃b,x.fixed=b:=⟨_,rfl⟩;obtain⟨bf,ef⟩:∃b,decide ((x.fill:Int)>0)=b:=⟨_,rfl⟩;obtain⟨bs,es⟩:∃b,decide ((x.size:Int)>1048576)=b:=⟨_,rfl⟩;obtain⟨bm,em⟩:∃b,((x.size:Int).tmod 2097152 !=0)=b:=⟨_,rfl⟩;obtain⟨ba,ea⟩:∃b,((x.Q7:Int).tmod 2097152 !=0)=b:=⟨_,rfl⟩;obtain⟨bw,ew⟩:∃b,((x.Q7:Int).tmod 4096 !=0)=b:=⟨_,rfl⟩;obtain⟨bp,ep⟩:∃b,decide ((x.Q7:Int)>4294967296)=b:=⟨_,rfl⟩;have n4:=n3.fa [(.cmp .eql (.x 41) (.c 0),false),(.cmp .gtr (.x 41) (.c 67108864),false),(.cmp .neq (.bin .rem .u64 (.x 41) (.c 4096)) (.c 0),false),(.x 41,bb),(.cmp .neq (.bin .rem .u64 (.x 41) (.c 2097152)) (.c 0),bm),(.cmp .gtr (.x 43) (.c 255),false),(.cmp .gtr (.cv .u64 (.z (.x 41))) (.x 41),false),(.cmp .gtr (.x 43) (.c 0),bf),(.cmp .gtr (.x 41) (.c 1048576),bs),(.x 40,bx),
   (.cmp .neq (.bin .rem .u64 (.x 42) (.c 4096)) (.c 0),bw),(.cmp .neq (.bin .rem .u64 (.x 42) (.c 2097152)) (.c 0),ba),(.cmp .gtr (.x 42) (.c 4294967296),bp)]
   (fac M.zero (fac M.big_ (fac M.whole (fac eb (fac em (fac M.fill (fac M.text (fac ef (fac es (fac S (fac ew (fac ea (fac ep cS)))))))))))))
  have q1:bb=true→bm=false:=fun q=>em.symm.trans (M.unit (eb.trans q))
  have q2:bf=true→bs=false:=fun q=>es.symm.trans (M.Qs (ef.trans q))
  cases bx with
  | false =>
   cases bb<;>cases bf<;>first|(obtain rfl:=q1 rfl)|skip
   all_goals first|(obtain rfl:=q2 rfl)|skip
   all_goals
    refine aK (xl 5 (.e 1) (fun _=>true) (fx 32 3 [(1,.one (.p 0 0))]) [] 3 [] hPt δ n4 fun κ2 a3 w3 n5 K=>?_);exact⟨(),κ2,trivial,fun r N=>(K.upto r (by show r<2;omega)).trans (hu r N),n5.has.on (cG _ 32 _ _ _).symm δ,hA.trans K.agree (fun _ h=>h),K3 hK K.keep⟩
  | true =>
   have q3:bb=true→ba=false:=fun q=>ea.symm.trans (M.atU S (eb.trans q))
   obtain rfl:bw=false:=ew.symm.trans (M.atW S);obtain rfl:bp=false:=ep.symm.trans (M.Q7 S);obtain⟨a9,bc⟩:=M.le S
   cases bb<;>cases bf<;>first|(obtain rfl:=q1 rfl;obtain rfl:=q3 rfl)|skip
   all_goals first|(obtain rfl:=q2 rfl)|skip
   all_goals
    refine aK (am 8 (fun _=>true) (fF [(5,.one (.i .u64 (.x 42)))]) [(2,pD 40),(0,aa)] 3 [] hPt δ n4 fun κ2 a3 w3 n5 K=>?_);have ac:=K3 (K3 p1.keep hK) K.keep;refine aM (Co (fun n I J idx h0 hi h1 hb h2 hq=>gY n I J idx h0 hi h1 hb h2 hq) [(2,10,.x 32,2,1)] n5 rfl (x.size / 4096) 64 5 .u64 (fun i=>(x.Q7:Int)+4096*i) 4096 (.cmp .lss (.x 64) (.bin .add .u64 (.x 42) (.x 41))) (fF []) (fun _=>true) (fun _:Unit=>{}) (fun _ _ _=>True) (fun _ _ _ _ _ h=>h) () hPt δ
     (fun i d hi=>?_) (fun i hi=>?_) (fun i hi=>?_) trivial (n5.has.re ⟨?_,rfl,rfl,rfl,trivial⟩) ?_ ?_)
    ·show decide ((x.Q7:Int)+4096*i<IntKind.u64.wrap ((x.Q7:Int)+x.size))=_
     rw[oq χ];rw[decide_eq_decide];omega
    ·rw[IntWalk.u64_in _ χ]
     omega
    ·show((x.Q7:Int)+4096*i-((x.Q7:Int)+4096*(0:Nat))).toNat / 4096=i
     omega
    ·show Value.int .u64 (x.Q7:Int)=.int .u64 ((x.Q7:Int)+4096*(0:Nat))
     congr 1
    ·intro i e2 a4 w4 hi n6 X H
     refine aK (am 2 (fun _=>true) ((7,.one (.i .i64 (.c 0)))::(6,.one (.b (.c false)))::(5,.one (.i .u64 (.x 64)))::fF []) [(2,pD 40),(0,aa)] 3 [] hPt δ n6 fun κ3 a5 w5 n7 R=>?_);have Y:=Rs.K3 (Rs.K3 ac H) R.keep;refine aM (gq n7 P.QG.length 96 7 0 ((6,.one (.b (.x 97)))::(5,.one (.i .u64 (.x 64)))::fF []) (fun _=>true) fl1 (fun j e _=>e=ux ((x.Q7:Int)+4096*i) (P.QG.take j)) (fun _ _ _ _ _ h=>h) false hPt δ rfl a0 rfl (n7.has.re ⟨rfl,rfl,rfl,rfl,rfl,rfl,trivial⟩) ?_ ?_)
     ·intro j e3 a6 w6 hj Q C p
      obtain⟨y,hy⟩:=ge hj;have he:e3=_:=Q.gh;obtain⟨g',o',U,V,W,af⟩:=ai h.QG (aF _ _ _) hB (Rs.K3 Y p) hy;obtain⟨κ4,Z,n9⟩:=Q.elem (j:=0) (x:=ka y) (cl:=yE 104) U ⟨V,id⟩ hj W rfl δ;obtain⟨b1,e1⟩:∃b,decide ((y.Q7:Int)≤(x.Q7:Int)+4096*i)=b:=⟨_,rfl⟩;have u:=n9.fa [(.x 97,e3),(.cmp .leq (.x 105) (.x 64),b1)] (fac rfl (fac e1 cS));have E:∀{O:Kap} {D:Act} {L:World} (e4:Bool),e4=(e3||(b1&&decide ((x.Q7:Int)+4096*i<IntKind.u64.wrap ((y.Q7:Int)+y.size))))→kp H0.T κ4 O 4 (fun _=>true) a6 D w6 L→Has ((((cA v P).put 32 ((Sta.put {} 8 (eO x)).cnt k)).put 64 (Sta.cnt {} ((x.Q7:Int)+4096*i))).put 96 ((fl1 e4).cnt j)) O 174 (fx 96 7 ((6,.one (.b (.x 97)))::(5,.one (.i .u64 (.x 64)))::fF [])) D →
       gj (((cA v P).put 32 ((Sta.put {} 8 (eO x)).cnt k)).put 64 (Sta.cnt {} ((x.Q7:Int)+4096*i))) κ3 174 96 3 (fx 96 7 ((6,.one (.b (.x 97)))::(5,.one (.i .u64 (.x 64)))::fF [])) (fun _=>true) fl1 H0.T (fun j e _=>e=ux ((x.Q7:Int)+4096*i) (P.QG.take j)) j a5 w5 D L:=
       fun e4 q1 l q2=>⟨e4,_,by rw[q1,he];simp only[ux,gJ hy,e1],fun r N=>(l.upto r χ).trans (Z r N),q2,C.trans l.agree (fun _ h=>h),Rs.K3 p l.keep⟩
      cases e3 with
      | true =>
       refine aK (am 1 (fun _=>true) (fx 96 7 ((6,.one (.b (.c true)))::(5,.one (.i .u64 (.x 64)))::fF [])) [] 4 [] hPt δ u fun O D L A l=>cI rfl (E true ξ l (A.has.re ⟨rfl,rfl,rfl,rfl,rfl,rfl,trivial⟩)))
      | false =>
       cases b1 with
       | false =>
        refine aK (am 1 (fun _=>true) (fx 96 7 ((6,.one (.b (.c false)))::(5,.one (.i .u64 (.x 64)))::fF [])) [] 4 [] hPt δ u fun O D L A l=>cI rfl (E false ξ l (A.has.re ⟨rfl,rfl,rfl,rfl,rfl,rfl,trivial⟩)))
       | true =>
        refine aK (am 1 (fun _=>true) (fx 96 7 ((6,.one (.b (.cmp .lss (.x 64) (.bin .add .u64 (.x 105) (.x 106)))))::(5,.one (.i .u64 (.x 64)))::fF [])) [] 4 [] hPt δ u fun O D L A l=>cI rfl (E _ (by simp;rfl) l (A.has.re ⟨rfl,rfl,rfl,rfl,rfl,rfl,trivial⟩)))
     ·intro e3 a6 w6 Q C p
      have he:e3=_:=Q.gh;rw[List.take_length,M.Ql S i hi]at he;subst he;have n9:=Q.fa [(.x 97,true)] (fac rfl cS);refine am 2 (fun _=>true) ((5,.one (.i .u64 (.x 64)))::fF []) [] 3 [] hPt δ n9 fun κ4 D L u l=>cI rfl ?_
      exact⟨(),κ4,trivial,fun r N=>(l.upto r N).trans (R.upto r N),u.has.re ⟨rfl,rfl,rfl,rfl,trivial⟩,((X.trans R.agree (fun _ h=>h)).trans C (fun _ h=>h)).trans l.agree (fun _ h=>h),Rs.K3 (Rs.K3 (Rs.K3 H R.keep) p) l.keep⟩
    ·intro e2 a4 w4 n6 X H
     have n6:=n6.downR (fF []) ⟨rfl,rfl,rfl,trivial⟩ δ;refine am 1 (fun _=>true) ((8,.one (.i .i64 (.c 0)))::fF []) [(2,pD 40),(0,aa)] 3 [] hPt δ n6 fun κ3 a5 w5 n7 R=>?_
     have Y:=Rs.K3 (Rs.K3 ac H) R.keep;refine aM (wd n7 k 64 8 (.x 32) (fF []) (fun _=>true) (fun _:Unit=>{}) (fun _ _ _=>True) (fun _ _ _ _ _ h=>h) () hPt δ rfl χ trivial (n7.has.re ⟨rfl,rfl,rfl,rfl,trivial⟩) ?_ ?_)
     ·intro j e3 a6 w6 hj Q C p
      obtain⟨y,hy⟩:=ge (show j<P.Q5.length by omega);obtain⟨g',o',U,V,W,af⟩:=ai h.Q5 (aF _ _ _) hB (Rs.K3 Y p) hy;obtain⟨κ4,Z,n9⟩:=Q.elem (j:=2) (x:=eO y) (cl:=pD 72) U ⟨V,id⟩ (show j<P.Q5.length by omega) W rfl δ;obtain⟨ad,ey⟩:∃b,y.fixed=b:=⟨_,rfl⟩;have E:∀{O:Kap} {D:Act} {L:World},kp H0.T κ4 O 4 (fun _=>true) a6 D w6 L→Has ((((cA v P).put 32 ((Sta.put {} 8 (eO x)).cnt k))).put 64 ((Sta.put {} 8 (eO y)).cnt j)) O 174 (fx 64 8 (fF [])) D →
       gj (((cA v P).put 32 ((Sta.put {} 8 (eO x)).cnt k))) κ3 174 64 3 (fx 64 8 (fF [])) (fun _=>true) (fun _:Unit=>{}) H0.T (fun _ _ _=>True) j a5 w5 D L:=
       fun l q2=>⟨(),_,trivial,fun r N=>(l.upto r χ).trans (Z r N),q2.on (cG _ 64 _ _ _).symm δ,C.trans l.agree (fun _ h=>h),Rs.K3 p l.keep⟩
      cases ad with
      | false =>
       have u:=n9.fa [(.x 72,false)] (fac ey cS);refine aK (am 2 (fun _=>true) (fx 64 8 (fF [])) [] 4 [] hPt δ u fun O D L A l=>cI rfl (E l A.has))
      | true =>
       have u:=n9.more [(.x 72,true)] [(63,[.one (.i .u64 (.x 42)),.one (.i .u64 (.x 41)),.one (.i .u64 (.x 74)),.one (.i .u64 (.x 73))],.one (.b (.c true)))] [] (fac ey cS)
        (by
         intro q hq w' a8;obtain rfl:=List.mem_singleton.1 hq;exact iL (M.far S j y hj hy ey))
        (fun i x hx=>by cases hx)
       refine aK (am 2 (fun _=>true) (fx 64 8 (fF [])) [] 4 [] hPt δ u fun O D L A l=>cI rfl (E l A.has))
     ·intro e3 a6 w6 Q C p
      refine cI rfl ⟨(),κ3,trivial,fun r N=>(R.upto r (by show r<3;omega)).trans ((K.upto r (by show r<2;omega)).trans (hu r N)),Q.has.re ⟨rfl,rfl,trivial⟩,(((hA.trans K.agree (fun _ h=>h)).trans X (fun _ h=>h)).trans R.agree (fun _ h=>h)).trans C (fun _ h=>h),Rs.K3 (Rs.K3 (Rs.K3 (Rs.K3 hK K.keep) H) R.keep) p⟩
 ·intro e a2 w2 n2 hA hK
  refine eJ 2 (fun _=>true) [(2,.one (.b (.cmp .leq (.ln 2) (.c 256))))] [] 1 [] hPt δ n2 fun κ2 a3 w3 n5 K=>?_
  refine fX 2 rfl n5.has rfl (K.agree.defers.trans (hA.defers.trans (p1.agree.defers.trans hd))) ⟨?_,K3 (K3 p1.keep hK) K.keep⟩;show Ending.returned (.bool (decide ((P.Q5.length:Int)≤256)))=_;rw[hn]
structure zj (a s:Nat) (m:Int):Prop where
 zero:((s:Int)==0)=false
 big:decide ((s:Int)>m)=false
 Q7:decide ((a:Int)>4294967296)=false
 last:decide (IntKind.u64.wrap ((a:Int)+s)>4294967296)=false
 even:((a:Int).tmod 4096 !=0)=false
 whole:((s:Int).tmod 4096 !=0)=false
structure ow (P:aC):Prop where
 Ql:∀(k:Nat) x,P.QG[k]?=some x→zj x.Q7 x.size 67108864∧∀(j:Nat) y,j<k→P.QG[j]?=some y→gT x.Q7 x.size y.Q7 y.size=true
 dev:∀(k:Nat) x,P.Q4[k]?=some x→zj x.Q7 x.size 1048576∧(∀(j:Nat) y,j<k→P.Q4[j]?=some y→gT x.Q7 x.size y.Q7 y.size=true)∧∀(j:Nat) y,P.QG[j]?=some y→gT x.Q7 x.size y.Q7 y.size=true
 sum:(P.QG.map Ram.size).sum≤67108864
 QG:P.QG.length≤8
 QW:P.Q4.length≤32
 fix:∀(k:Nat) x,P.Q5[k]?=some x→zh P k x
 regs:P.Q5.length≤256
theorem xh(l:List Nat)(k:Nat):(l.take k).sum≤l.sum:=by
 have:=congrArg List.sum (List.take_append_drop k l);rw[List.sum_append]at this;omega
def suS(e:Nat):Sta where
 i _:=e
def gF(l:Fr):Fr:=(1,.one (.p 0 0))::l
theorem sH{B:Nat}{w:World}{v:aR}{P:aC}(h:ao B w v P)(hB:B≤w.heap.size)(O:ow P):
 Calls Tryz.prog 27 #[.agg (v.cells P).toArray] w fun e w'=>e=.returned (.bool true)∧Kz w w':=by
 have hl:=O.regs;have bm:=O.QG;have bo:=O.QW;obtain⟨t,ht⟩:∃t,t=(P.QG.map Ram.size).sum:=⟨_,rfl⟩
 let S:=(cA v P).put 24 (suS t)
 have a0:Agr (lo 24) (cA v P) S:=aQ _ _ _;refine fnE S (fun _=>(0,0)) [.ag aa] Tryz.func27 Tryz.ntmps27 rfl
  (by rw[List.map_cons,b6 h a0];rfl) ψ H0 (fun _ h=>h.elim) trivial fun a hd hh=>?_
 refine am 3 (fun _=>true) [(4,.one (.i .i64 (.c 0))),(3,.one (.i .u64 (.c 0))),(1,.one (.p 0 0))] [(0,aa)] 1 [] hPt δ hh fun κ1 a1 w1 n1 p1=>?_
 refine aM (gq n1 P.QG.length 32 4 0 (gF [(3,.one (.i .u64 (.x 33)))]) (fun _=>true) suS (fun k e _=>e=((P.QG.take k).map Ram.size).sum) (fun _ _ _ _ _ h=>h) 0 hPt δ rfl χ rfl (n1.has.re ⟨rfl,rfl,rfl,trivial⟩) ?_ ?_)
 ·intro k e a2 w2 hk n2 hA hK
  obtain⟨x,hx⟩:=ge hk;have he:e=_:=n2.gh;obtain⟨M,far⟩:=O.Ql k x hx;obtain⟨g,o,h1,h2,h3,h4⟩:=ai h.QG (aF _ _ _) hB (K3 p1.keep hK) hx;obtain⟨κ',hu,n3⟩:=n2.elem (j:=0) (x:=ka x) (cl:=yE 40) h1 ⟨h2,id⟩ hk h3 rfl δ;have n4:=n3.fa [(.cmp .eql (.x 42) (.c 0),false),(.cmp .gtr (.x 42) (.c 67108864),false),(.cmp .gtr (.x 41) (.c 4294967296),false),(.cmp .gtr (.bin .add .u64 (.x 41) (.x 42)) (.c 4294967296),false),(.cmp .neq (.bin .rem .u64 (.x 41) (.c 4096)) (.c 0),false),(.cmp .neq (.bin .rem .u64 (.x 42) (.c 4096)) (.c 0),false)]
   (fac M.zero (fac M.big (fac M.Q7 (fac M.last (fac M.even (fac M.whole cS))))))
  refine aK (am 5 (fun _=>true) ((6,.one (.i .i64 (.c 0)))::gF [(5,.one (.p 2 0)),(4,.one (.i .i64 (.x 32))),(3,.one (.i .u64 (.bin .add .u64 (.x 33) (.x 42))))]) [(2,yE 40),(0,aa)] 3 [] hPt δ n4 fun κ2 a3 w3 n5 Y=>?_);have D:=K3 (K3 p1.keep hK) Y.keep;refine aM (wd n5 k 64 6 (.x 32) (gF [(5,.one (.p 2 0)),(4,.one (.i .i64 (.x 32))),(3,.one (.i .u64 (.bin .add .u64 (.x 33) (.x 42))))]) (fun _=>true) (fun _:Unit=>{}) (fun _ _ _=>True) (fun _ _ _ _ _ h=>h) () hPt δ rfl χ trivial (n5.has.re ⟨rfl,rfl,rfl,rfl,rfl,trivial⟩) ?_ ?_)
  ·intro j e2 a4 w4 hj W l d
   obtain⟨y,Q⟩:=ge (show j<P.QG.length by omega);obtain⟨g',o',u,A,C,bc⟩:=ai h.QG (aF _ _ _) hB (Rs.K3 D d) Q;obtain⟨κ4,H,n7⟩:=W.elem (j:=0) (x:=ka y) (cl:=yE 72) u ⟨A,id⟩ (show j<P.QG.length by omega) C rfl δ;have n8:=n7.more [] [(63,[.one (.i .u64 (.x 41)),.one (.i .u64 (.x 42)),.one (.i .u64 (.x 73)),.one (.i .u64 (.x 74))],.one (.b (.c true)))] [] cS
    (by
     intro q hq w' L;obtain rfl:=List.mem_singleton.1 hq;exact iL (far j y hj Q))
    (fun i x hx=>by cases hx)
   refine aK (am 2 (fun _=>true) (fx 64 6 (gF [(5,.one (.p 2 0)),(4,.one (.i .i64 (.x 32))),(3,.one (.i .u64 (.bin .add .u64 (.x 33) (.x 42))))])) [] 4 [] hPt δ n8 fun κ5 a5 w5 X p=>cI rfl ?_);exact⟨(),κ5,trivial,fun r K=>(p.upto r (by show r<4;omega)).trans (H r K),X.has.on (cG _ 64 _ _ _).symm δ,l.trans p.agree (fun _ h=>h),Rs.K3 d p.keep⟩
  ·intro e2 a4 w4 W l d
   have ba:e+x.size=((P.QG.take (k+1)).map Ram.size).sum:=by rw[he,List.take_add_one,hx];simp
   have bp:e+x.size≤67108864:=by rw[ba,List.map_take];exact Nat.le_trans (xh _ _) O.sum
   refine cI rfl ⟨e+x.size,κ2,ba,fun r K=>(Y.upto r (by show r<2;omega)).trans (hu r K),W.has.re ⟨rfl,rfl,?_,trivial⟩,(hA.trans Y.agree (fun _ h=>h)).trans l (fun _ h=>h),Rs.K3 (K3 hK Y.keep) d⟩;show Value.int .u64 (IntKind.u64.wrap ((e:Int)+x.size))=.int .u64 ((e+x.size:Nat):Int);rw[oq χ]
 ·intro e a2 w2 n2 hA hK
  have he:e=_:=n2.gh;rw[List.take_length,←ht]at he;subst he;have n3:=n2.downR (gF [(3,.one (.i .u64 (.x 24)))]) ⟨rfl,rfl,trivial⟩ δ;refine am 1 (fun _=>true) ((7,.one (.i .i64 (.c 0)))::gF [(3,.one (.i .u64 (.x 24)))]) [(0,aa)] 1 [] hPt δ n3 fun κ2 a3 w3 n4 Y=>?_
  have D:=K3 (K3 p1.keep hK) Y.keep;refine aM (gq n4 P.Q4.length 32 7 1 (gF [(3,.one (.i .u64 (.x 24)))]) (fun _=>true) (fun _:Unit=>{}) (fun _ _ _=>True) (fun _ _ _ _ _ h=>h) () hPt δ rfl χ trivial (n4.has.re ⟨rfl,rfl,rfl,trivial⟩) ?_ ?_)
  ·intro k e3 a4 w4 hk n5 l d
   obtain⟨x,hx⟩:=ge hk;obtain⟨M,far,off⟩:=O.dev k x hx;have ad:=Rs.K3 D d;obtain⟨g,o,h1,h2,v',h3,hm,_⟩:=ai h.Q4 (bh B) hB ad hx;obtain⟨κ',hu,W⟩:=n5.elem (j:=1) (x:=oV x v') (cl:=kJ 40) h1 ⟨h2,id⟩ hk h3 (gB hm _ _ _) δ;have n7:=W.fa [(.cmp .eql (.x 42) (.c 0),false),(.cmp .gtr (.x 42) (.c 1048576),false),(.cmp .gtr (.x 41) (.c 4294967296),false),(.cmp .gtr (.bin .add .u64 (.x 41) (.x 42)) (.c 4294967296),false),(.cmp .neq (.bin .rem .u64 (.x 41) (.c 4096)) (.c 0),false),(.cmp .neq (.bin .rem .u64 (.x 42) (.c 4096)) (.c 0),false)]
    (fac M.zero (fac M.big (fac M.Q7 (fac M.last (fac M.even (fac M.whole cS))))))
   refine aK (am 4 (fun _=>true) ((9,.one (.i .i64 (.c 0)))::gF [(8,.one (.p 2 0)),(7,.one (.i .i64 (.x 32))),(3,.one (.i .u64 (.x 24)))]) [(2,kJ 40),(0,aa)] 3 [] hPt δ n7 fun κ3 a5 w5 n8 Z=>?_);have af:=Rs.K3 ad Z.keep;refine aM (wd n8 k 64 9 (.x 32) (gF [(8,.one (.p 2 0)),(7,.one (.i .i64 (.x 32))),(3,.one (.i .u64 (.x 24)))]) (fun _=>true) (fun _:Unit=>{}) (fun _ _ _=>True) (fun _ _ _ _ _ h=>h) () hPt δ rfl χ trivial (n8.has.re ⟨rfl,rfl,rfl,rfl,rfl,trivial⟩) ?_ ?_)
   ·intro j e2 a6 w6 hj X R E
    obtain⟨y,Q⟩:=ge (show j<P.Q4.length by omega);obtain⟨g',o',u,A,ac,C,be,_⟩:=ai h.Q4 (bh B) hB (Rs.K3 af E) Q;obtain⟨κ4,H,N⟩:=X.elem (j:=1) (x:=oV y ac) (cl:=kJ 72) u ⟨A,id⟩ (show j<P.Q4.length by omega) C (by show([.int .i64 y.pos,.string y.name,.int .u64 y.Q7,.int .u64 y.size,.slice (vA ac) y.QF.length (vC ac)]:List Value)=_;rw[aU be]) δ;have I:=N.more [] [(63,[.one (.i .u64 (.x 41)),.one (.i .u64 (.x 42)),.one (.i .u64 (.x 73)),.one (.i .u64 (.x 74))],.one (.b (.c true)))] [] cS
     (by
      intro q hq w' L;obtain rfl:=List.mem_singleton.1 hq;exact iL (far j y hj Q))
     (fun i x hx=>by cases hx)
    refine aK (am 2 (fun _=>true) (fx 64 9 (gF [(8,.one (.p 2 0)),(7,.one (.i .i64 (.x 32))),(3,.one (.i .u64 (.x 24)))])) [] 4 [] hPt δ I fun κ5 a7 w7 V p=>cI rfl ?_);exact⟨(),κ5,trivial,fun r K=>(p.upto r (by show r<4;omega)).trans (H r K),V.has.on (cG _ 64 _ _ _).symm δ,R.trans p.agree (fun _ h=>h),Rs.K3 E p.keep⟩
   ·intro e2 a6 w6 X R E
    have X:=X.downR (gF [(8,.one (.p 2 0)),(7,.one (.i .i64 (.x 32))),(3,.one (.i .u64 (.x 24)))]) ⟨rfl,rfl,rfl,rfl,trivial⟩ δ;refine am 1 (fun _=>true) ((10,.one (.i .i64 (.c 0)))::gF [(8,.one (.p 2 0)),(7,.one (.i .i64 (.x 32))),(3,.one (.i .u64 (.x 24)))]) [(2,kJ 40),(0,aa)] 3 [] hPt δ X fun κ4 a7 w7 N p=>?_
    have bd:=Rs.K3 (Rs.K3 af E) p.keep;refine aM (gq N P.QG.length 64 10 0 (gF [(8,.one (.p 2 0)),(7,.one (.i .i64 (.x 32))),(3,.one (.i .u64 (.x 24)))]) (fun _=>true) (fun _:Unit=>{}) (fun _ _ _=>True) (fun _ _ _ _ _ h=>h) () hPt δ rfl χ trivial (N.has.re ⟨rfl,rfl,rfl,rfl,rfl,trivial⟩) ?_ ?_)
    ·intro j e4 a8 w8 hj I U J
     obtain⟨y,Q⟩:=ge hj;obtain⟨g',o',u,A,C,bc⟩:=ai h.QG (aF _ _ _) hB (Rs.K3 bd J) Q;obtain⟨κ5,H,V⟩:=I.elem (j:=0) (x:=ka y) (cl:=yE 72) u ⟨A,id⟩ hj C rfl δ;have bf:=V.more [] [(63,[.one (.i .u64 (.x 41)),.one (.i .u64 (.x 42)),.one (.i .u64 (.x 73)),.one (.i .u64 (.x 74))],.one (.b (.c true)))] [] cS
      (by
       intro q hq w' L;obtain rfl:=List.mem_singleton.1 hq;exact iL (off j y Q))
      (fun i x hx=>by cases hx)
     refine aK (am 2 (fun _=>true) (fx 64 10 (gF [(8,.one (.p 2 0)),(7,.one (.i .i64 (.x 32))),(3,.one (.i .u64 (.x 24)))])) [] 4 [] hPt δ bf fun κ6 a9 w9 bl p5=>cI rfl ?_);exact⟨(),κ6,trivial,fun r K=>(p5.upto r (by show r<4;omega)).trans (H r K),bl.has.on (cG _ 64 _ _ _).symm δ,U.trans p5.agree (fun _ h=>h),Rs.K3 J p5.keep⟩
    ·intro e4 a8 w8 I U J
     refine cI rfl ⟨(),κ4,trivial,fun r K=>(p.upto r (by show r<3;omega)).trans ((Z.upto r (by show r<2;omega)).trans (hu r K)),I.has.re ⟨rfl,rfl,rfl,trivial⟩,(((l.trans Z.agree (fun _ h=>h)).trans R (fun _ h=>h)).trans p.agree (fun _ h=>h)).trans U (fun _ h=>h),Rs.K3 (Rs.K3 (Rs.K3 (Rs.K3 d Z.keep) E) p.keep) J⟩
  ·intro e3 a4 w4 n5 l d
   have W:=n5.downR (gF [(3,.one (.i .u64 (.x 24)))]) ⟨rfl,rfl,trivial⟩ δ;have n7:=W.more [(.cmp .leq (.x 24) (.c 67108864),true),(.cmp .leq (.ln 0) (.c 8),true),(.cmp .leq (.ln 1) (.c 32),true)] [(64,[.ag aa],.one (.b (.c true)))] []
    (fac (decide_eq_true (by show(e:Int)≤67108864;have:=O.sum;omega)) (fac (decide_eq_true (by show(P.QG.length:Int)≤8;omega)) (fac (decide_eq_true (by show(P.Q4.length:Int)≤32;omega)) cS)))
    (by
     intro x hx w' L;obtain rfl:=List.mem_singleton.1 hx;have bb:=Rs.K3 (Rs.K3 D d) L;rw[List.map_cons,b6 h a0];exact wn (ao.kept h hB bb) (by have:=bb.size;omega) O.fix (decide_eq_true χ))
    (fun i x hx=>by cases hx)
   refine eJ 2 (fun _=>true) [(2,.one (.b (.c true)))] [] 1 [] hPt δ n7 fun κ3 a5 w5 n8 Z=>?_
   exact fX 2 rfl n8.has rfl (Z.agree.defers.trans (l.defers.trans (Y.agree.defers.trans (hA.defers.trans (p1.agree.defers.trans hd))))) ⟨rfl,K3 (Rs.K3 D d) Z.keep⟩
theorem yj(j:Nat)(g:lo 24 j=true):lo 64 j=true:=by
 have d:=jW g;have:j<24:=by rcases Nat.lt_or_ge j 24 with h|h;exact h;rw[Nat.ble_eq_true_of_le h]at d;cases d
 exact Nat.ble_eq_true_of_le χ
theorem nW{B:Nat}{w:World}{v:aR}{P:aC}(h:ao B w v P)(E:B≤w.heap.size){u:Value}{QF:List Ck.Map}(Y:aJ B 5 cU w u QF){dev:Bool}(hs:nD P QF dev):
 Calls Tryz.prog 31 #[.agg (v.cells P).toArray,u,.bool dev] w fun e w'=>e=.returned (.bool true)∧Kz w w':=by
 obtain⟨hl,hm⟩:=hs;refine fnE ((cA v P).put 24 (spS u QF dev)) (fun _=>(0,0)) [.ag aa,.one (.sl 24 24 25),.one (.b (.x 24))] Tryz.func31 Tryz.ntmps31 rfl
  (by rw[List.map_cons,b6 h (aQ _ _ _)];show _ = #[Value.agg (v.cells P).toArray,.slice (vA u) QF.length (vC u),.bool dev];rw[aU Y]) ψ H0 (fun _ h=>h.elim) trivial fun a hd hh=>?_
 have n0:=hh.fa [(.cmp .gtr (.ln 24) (.c 64),false)] (fac (decide_eq_false (by show ¬ (QF.length:Int)>64;omega)) cS);refine am 4 (fun _=>true) [(7,.one (.i .i64 (.c 0))),(1,.one (.sl 24 24 25)),(2,.one (.b (.x 24))),(3,.one (.p 0 0))] [(0,aa)] 1 [] hPt δ n0 fun κ1 a1 w1 n1 H=>?_
 refine aM (gq n1 QF.length 32 7 24 [(1,.one (.sl 24 24 25)),(2,.one (.b (.x 24))),(3,.one (.p 0 0))] (fun _=>true) (fun _:Unit=>{}) (fun _ _ _=>True) (fun _ _ _ _ _ h=>h) () hPt δ rfl χ trivial (n1.has.re ⟨rfl,rfl,rfl,rfl,trivial⟩) ?_ ?_)
 ·intro k e a2 w2 hk n2 X C
  obtain⟨m,hx⟩:=ge hk;obtain⟨n,U,wx,M⟩:=hm k m hx;obtain⟨g,o,h1,h2,h3,h4⟩:=ai Y (aF _ _ _) E (K3 H.keep C) hx;obtain⟨κ',W,n3⟩:=n2.elem (j:=24) (x:=AW m n wx (fnd (fun x=>decide (x.name=m.of)) P.Q5)) (cl:=kc 40) h1 ⟨h2,id⟩ hk h3 rfl δ;have q:Agr (lo 24) (cA v P) ((((cA v P).put 24 (spS u QF dev))).put 32 ((({}:Sta).put 8 (AW m n wx (fnd (fun x=>decide (x.name=m.of)) P.Q5))).cnt k)):=mj _ _ _;obtain⟨bw,ew⟩:∃b,m.write=b:=⟨_,rfl⟩;obtain⟨be,ee⟩:∃b,m.exec=b:=⟨_,rfl⟩;obtain⟨bl,el⟩:∃b,decide (fnd (fun x=>decide (x.name=m.of)) P.Q5<0)=b:=⟨_,rfl⟩;have hw:=M.wxOk;rw[ew,ee,el]at hw
  rcases M.unit with rfl|rfl
  ·cases bw<;>cases be<;>cases wx<;>cases dev<;>cases bl<;>first|(exact absurd hw ψ)|skip
   all_goals
    have n4:=n3.more [(.cmp .eql (.x 42) (.c 0),false),(.cmp .gtr (.x 42) (.c 67108864),false),(.cmp .gtr (.x 41) (.c 549755813888),false),(.cmp .gtr (.bin .add .u64 (.x 41) (.x 42)) (.c 549755813888),false),(.cmp .neq (.bin .rem .u64 (.x 41) (.c 4096)) (.c 0),false),(.cmp .neq (.bin .rem .u64 (.x 42) (.c 4096)) (.c 0),false),(.x 40,_),(.x 41,_),(.x 42,_),(.x 24,_),(.cmp .lss (.x 43) (.c 0),_)]
     [(68,[.ag aa,.ag (kc 40)],.tu [.i .u64 (.x 42),.i .u64 (.c 4096),.b (.x 42),.b (.c true)]),(69,[.ag aa,.one (.s (.x 40))],.one (.i .i64 (.x 43)))] []
     (fac M.zero (fac M.big (fac M.Q7 (fac M.last (fac M.even (fac M.whole (fac ew (fac ee (fac rfl (fac rfl (fac el cS)))))))))))
     (by
      intro x hx w' l;simp only[List.mem_cons,List.mem_nil_iff,or_false]at hx
      rcases hx with rfl|rfl
      ·exact mm h E (K3 (K3 H.keep C) l) q m rfl (by rw[M.sz];rfl)
      ·exact lY h E (K3 (K3 H.keep C) l) q m.of rfl rfl)
     (fun i x hx=>by cases hx)
    refine aK (am 7 (fun _=>true) [(13,.one (.i .i64 (.c 0))),(8,.one (.p 2 0)),(9,.one (.i .u64 (.x 42))),(7,.one (.i .i64 (.x 32))),(1,.one (.sl 24 24 25)),(2,.one (.b (.x 24))),(3,.one (.p 0 0))] [(2,kc 40),(0,aa)] 3 [] hPt δ n4 fun Z a3 w3 Q A=>?_);refine aM (wd Q k 64 13 (.x 32) [(8,.one (.p 2 0)),(9,.one (.i .u64 (.x 42))),(7,.one (.i .i64 (.x 32))),(1,.one (.sl 24 24 25)),(2,.one (.b (.x 24))),(3,.one (.p 0 0))] (fun _=>true) (fun _:Unit=>{}) (fun _ _ _=>True) (fun _ _ _ _ _ h=>h) () hPt δ rfl χ trivial (Q.has.re ⟨rfl,rfl,rfl,rfl,rfl,rfl,rfl,trivial⟩) ?_ ?_)
    ·intro j e2 a4 w4 hj R p d
     obtain⟨y,O⟩:=ge (show j<QF.length by omega);obtain⟨n',U',V,M'⟩:=hm j y O;have D:=K3 (K3 (K3 H.keep C) A.keep) d;obtain⟨g',o',I,J,K,ac⟩:=ai Y (aF _ _ _) E D O;obtain⟨κ3,N,n7⟩:=R.elem (j:=24) (x:=AW y n' V U') (cl:=kc 72) I ⟨J,id⟩ (show j<QF.length by omega) K rfl δ;have n8:=n7.more [] [(68,[.ag aa,.ag (kc 72)],.tu [.i .u64 (.x 74),.i .u64 (.x 75),.b (.x 74),.b (.c true)]),(63,[.one (.i .u64 (.x 41)),.one (.i .u64 (.x 42)),.one (.i .u64 (.x 73)),.one (.i .u64 (.x 74))],.one (.b (.c true)))] []
      cS
      (by
       intro x hx w' l;simp only[List.mem_cons,List.mem_nil_iff,or_false]at hx
       rcases hx with rfl|rfl
       ·exact mm h E (K3 D l) (q.trans ((aQ _ 64 _).mono yj)) y rfl (by rw[M'.sz];rfl)
       ·exact iL (by have:=M.far j y hj O;rw[M'.sz]at this;exact this))
      (fun i x hx=>by cases hx)
     refine aK (am 3 (fun _=>true) (fx 64 13 [(8,.one (.p 2 0)),(9,.one (.i .u64 (.x 42))),(7,.one (.i .i64 (.x 32))),(1,.one (.sl 24 24 25)),(2,.one (.b (.x 24))),(3,.one (.p 0 0))]) [] 4 [] hPt δ n8 fun κ4 a5 w5 n9 S=>?_);exact⟨(),κ4,trivial,fun r L=>(S.upto r (by show r<4;omega)).trans (N r L),n9.has.on (cG _ 64 _ _ _).symm δ,p.trans S.agree (fun _ h=>h),K3 d S.keep⟩
    ·intro e2 a4 w4 R p d
     exact⟨(),Z,trivial,fun r L=>(A.upto r (by show r<2;omega)).trans (W r L),((R.has.sub (F':=fx 32 7 [(1,.one (.sl 24 24 25)),(2,.one (.b (.x 24))),(3,.one (.p 0 0))]) δ).on (aQ _ 64 _).symm δ).on (cG _ 32 _ _ _).symm δ,(X.trans A.agree (fun _ h=>h)).trans p (fun _ h=>h),K3 (K3 C A.keep) d⟩
  ·cases bw<;>cases be<;>cases wx<;>cases dev<;>cases bl<;>first|(exact absurd hw ψ)|skip
   all_goals
    have n4:=n3.more [(.cmp .eql (.x 42) (.c 0),false),(.cmp .gtr (.x 42) (.c 67108864),false),(.cmp .gtr (.x 41) (.c 549755813888),false),(.cmp .gtr (.bin .add .u64 (.x 41) (.x 42)) (.c 549755813888),false),(.cmp .neq (.bin .rem .u64 (.x 41) (.c 2097152)) (.c 0),false),(.cmp .neq (.bin .rem .u64 (.x 42) (.c 4096)) (.c 0),false),(.x 40,_),(.x 41,_),(.x 42,_),(.x 24,_),(.cmp .lss (.x 43) (.c 0),_)]
     [(68,[.ag aa,.ag (kc 40)],.tu [.i .u64 (.x 42),.i .u64 (.c 2097152),.b (.x 42),.b (.c true)]),(69,[.ag aa,.one (.s (.x 40))],.one (.i .i64 (.x 43)))] []
     (fac M.zero (fac M.big (fac M.Q7 (fac M.last (fac M.even (fac M.whole (fac ew (fac ee (fac rfl (fac rfl (fac el cS)))))))))))
     (by
      intro x hx w' l;simp only[List.mem_cons,List.mem_nil_iff,or_false]at hx
      rcases hx with rfl|rfl
      ·exact mm h E (K3 (K3 H.keep C) l) q m rfl (by rw[M.sz];rfl)
      ·exact lY h E (K3 (K3 H.keep C) l) q m.of rfl rfl)
     (fun i x hx=>by cases hx)
    refine aK (am 7 (fun _=>true) [(13,.one (.i .i64 (.c 0))),(8,.one (.p 2 0)),(9,.one (.i .u64 (.x 42))),(7,.one (.i .i64 (.x 32))),(1,.one (.sl 24 24 25)),(2,.one (.b (.x 24))),(3,.one (.p 0 0))] [(2,kc 40),(0,aa)] 3 [] hPt δ n4 fun Z a3 w3 Q A=>?_);refine aM (wd Q k 64 13 (.x 32) [(8,.one (.p 2 0)),(9,.one (.i .u64 (.x 42))),(7,.one (.i .i64 (.x 32))),(1,.one (.sl 24 24 25)),(2,.one (.b (.x 24))),(3,.one (.p 0 0))] (fun _=>true) (fun _:Unit=>{}) (fun _ _ _=>True) (fun _ _ _ _ _ h=>h) () hPt δ rfl χ trivial (Q.has.re ⟨rfl,rfl,rfl,rfl,rfl,rfl,rfl,trivial⟩) ?_ ?_)
    ·intro j e2 a4 w4 hj R p d
     obtain⟨y,O⟩:=ge (show j<QF.length by omega);obtain⟨n',U',V,M'⟩:=hm j y O;have D:=K3 (K3 (K3 H.keep C) A.keep) d;obtain⟨g',o',I,J,K,ac⟩:=ai Y (aF _ _ _) E D O;obtain⟨κ3,N,n7⟩:=R.elem (j:=24) (x:=AW y n' V U') (cl:=kc 72) I ⟨J,id⟩ (show j<QF.length by omega) K rfl δ;have n8:=n7.more [] [(68,[.ag aa,.ag (kc 72)],.tu [.i .u64 (.x 74),.i .u64 (.x 75),.b (.x 74),.b (.c true)]),(63,[.one (.i .u64 (.x 41)),.one (.i .u64 (.x 42)),.one (.i .u64 (.x 73)),.one (.i .u64 (.x 74))],.one (.b (.c true)))] []
      cS
      (by
       intro x hx w' l;simp only[List.mem_cons,List.mem_nil_iff,or_false]at hx
       rcases hx with rfl|rfl
       ·exact mm h E (K3 D l) (q.trans ((aQ _ 64 _).mono yj)) y rfl (by rw[M'.sz];rfl)
       ·exact iL (by have:=M.far j y hj O;rw[M'.sz]at this;exact this))
      (fun i x hx=>by cases hx)
     refine aK (am 3 (fun _=>true) (fx 64 13 [(8,.one (.p 2 0)),(9,.one (.i .u64 (.x 42))),(7,.one (.i .i64 (.x 32))),(1,.one (.sl 24 24 25)),(2,.one (.b (.x 24))),(3,.one (.p 0 0))]) [] 4 [] hPt δ n8 fun κ4 a5 w5 n9 S=>?_);exact⟨(),κ4,trivial,fun r L=>(S.upto r (by show r<4;omega)).trans (N r L),n9.has.on (cG _ 64 _ _ _).symm δ,p.trans S.agree (fun _ h=>h),K3 d S.keep⟩
    ·intro e2 a4 w4 R p d
     exact⟨(),Z,trivial,fun r L=>(A.upto r (by show r<2;omega)).trans (W r L),((R.has.sub (F':=fx 32 7 [(1,.one (.sl 24 24 25)),(2,.one (.b (.x 24))),(3,.one (.p 0 0))]) δ).on (aQ _ 64 _).symm δ).on (cG _ 32 _ _ _).symm δ,(X.trans A.agree (fun _ h=>h)).trans p (fun _ h=>h),K3 (K3 C A.keep) d⟩
 ·intro e a2 w2 n2 X C
  refine eJ 2 (fun _=>true) [(6,.one (.b (.c true)))] [] 1 [] hPt δ n2 fun Z a3 w3 Q A=>?_
  exact fX 6 rfl Q.has rfl (A.agree.defers.trans (X.defers.trans (H.agree.defers.trans hd))) ⟨rfl,K3 (K3 H.keep C) A.keep⟩
variable {w:World}
theorem Now.elc{S:Sta}{E0:List (Nat×Nat×IE×Nat×Nat)}{κ:Kap}{N kk j z:Nat}{P:Program}{F:Fr}{M:Mm}{a:Act}{cl:List Cl}{vs:List Value}{g o:Nat}{H:Gh}{u:List Nat}(k:Nat)(h:Now S κ N P { EL:=E0 } H ⟨F,M,kk,u⟩ a w)(L:S.a j=some ⟨g,o,none⟩)(v:g<w.heap.size∧¬ H.T g)(hk:k<S.n j)(O:aL w g (o+k*z) vs)
 (hv:cl.map (Cl.den S fun _=>(0,0))=vs)(D:(St.sc ⟨F,M,kk,u⟩&&(cl.all (Cl.sc 0)&&E0.all fun x=>Nat.ble (x.2.2.2.2+1) kk))=true):
 ∃κ',eU kk κ κ'∧Now S κ' N P { EL:=(j,z,.c k,j,kk)::E0 } H ⟨F,(kk,cl)::M,kk+1,u⟩ a w:=by
 simp only[Bool.and_eq_true]at D;obtain⟨J,K,Q⟩:=D
 let κ':Kap:=fun r=>if r=kk then(g,o+k*z)else κ r
 have E:eU kk κ κ':=fun r C=>if_neg χ
 have I:κ' kk=(g,o+k*z):=if_pos rfl;have A:=h.upto E J (by simpa only[Ctx.sc,List.all_nil,Bool.and_true]using Q);refine⟨κ',E,A.has,⟨fun r l p=>?_⟩,⟨ξ,?_,ξ,ξ,(fun _ _ _ _ r l h=>by cases h),ξ⟩,h.tb,h.gh⟩
 ·rw[fN]at p
  split at p
  ·rename_i e
   subst e;obtain rfl:=Option.some.inj p;rw[I];refine⟨v,fun q c B=>?_⟩;refine O q _ ?_;rw[←hv,List.getElem?_map,B];show some (Cl.den _ (fun _=>(0,0)) c)=_;rw[Cl.sc_ok (k:=0) (κ:=κ') (κ':=fun _=>(0,0)) (fun r C=>absurd C χ) (List.all_eq_true.1 K c (List.mem_of_getElem? B))]
  ·exact A.mem.get r l p
 ·intro y d
  rcases List.mem_cons.1 d with d|d
  all_goals try subst d
  all_goals try exact A.ctx.el y d
  refine⟨by simp only[IE.den];omega,by simp only[IE.den];omega,g,o,L,?_⟩;show κ' kk=_;rw[I];simp[IE.den]
def fR(P:aC)(nm:ByteArray):Int:=fnd (fun x=>decide (x.name=nm)) P.Q3
def Sub(P:aC)(nm:ByteArray):Prop:=decide (fR P nm<0)=false
def pk(l:List Ck.fY):Ck.fY:=l.headD ⟨0,.empty⟩
structure uY (P:aC):Prop where
 ch:∀c∈P.Q8,Sub P c.QI∧Sub P c.to∧decide (c.QI=c.to)=false∧1≤c.how∧c.how≤4∧c.QL≤63∧(c.shared=true→rB P c)
 Qr:∀x∈P.QJ,(P.Q4.any fun y=>decide (y.name=x.QI))=true∧Sub P x.to∧x.QL≤63
 que:∀x∈P.QC,Sub P x.QI∧Sub P x.to∧decide (x.QI=x.to)=false∧1≤x.how∧x.how≤3∧x.depth≤64∧(x.depth=0↔x.how=3)
 Qv:∀x∈P.QD,Sub P x.to∧decide (x.QI=x.to)=false
 Qq:P.QB.length≤1∧(0<P.QB.length→Sub P (pk P.QB).name)
 Qp:P.QA.length≤1∧(0<P.QA.length→Sub P (pk P.QA).name)
 sta:P.QE.length=1
def enS(P:aC):Sta where
 i j:=match j with|0=>(pk P.QB).pos|1=>fR P (pk P.QB).name|2=>(pk P.QA).pos|_=>fR P (pk P.QA).name
 s j:=match j with|0=>(pk P.QB).name|1 =>.empty|2=>(pk P.QA).name|_ =>.empty
theorem mQ{l:List Ck.fY}(h:0<l.length):l[0]?=some (pk l):=by
 cases l with
 | nil=>simp at h
 | cons x t=>rfl
theorem fC{α:Type}{B k:Nat}{R:World→Nat→Nat→α→Prop}{v:Value}{xs:List α}(h:aJ B k R w v xs):xs.length≤4611686018427387904:=by
 obtain⟨_,_,_,_,d,_⟩:=h;unfold top at d;omega
theorem lx{P:aC}{d:ByteArray}(h:Sub P d):decide (fR P d≥0)=true:=by
 have:=of_decide_eq_false h;exact decide_eq_true χ
theorem zJ{B:Nat}{v:aR}{P:aC}(h:ao B w v P)(H:B≤w.heap.size)(Z:uY P):
 Calls Tryz.prog 28 #[.agg (v.cells P).toArray] w fun e w'=>e=.returned (.bool true)∧Kz w w':=by
 let S:=(cA v P).put 24 (enS P)
 have bd:Agr (lo 24) (cA v P) S:=aQ _ _ _;have O:∀d,Agr (lo 24) (cA v P) (S.put 32 d):=fun d=>mj _ _ _
 refine fnE S (fun _=>(0,0)) [.ag aa] Tryz.func28 Tryz.ntmps28 rfl
  (by rw[List.map_cons,b6 h bd];rfl) ψ H0 (fun _ h=>h.elim) trivial fun a hd hh=>?_
 refine am 2 (fun _=>true) ((3,.one (.i .i64 (.c 0)))::gF []) [(0,aa)] 1 [] hPt δ hh fun κ1 a1 w1 n1 p1=>?_
 refine aM (gq n1 P.Q8.length 32 3 4 (gF []) (fun _=>true) (fun _:Unit=>{}) (fun _ _ _=>True) (fun _ _ _ _ _ h=>h) () hPt δ rfl (fC h.Q8) trivial (n1.has.re ⟨rfl,rfl,trivial⟩) ?_ ?_)
 ·intro k e a2 w2 hk n2 U I
  obtain⟨x,hx⟩:=ge hk;obtain⟨c1,c2,c3,c4,c5,c6,c7⟩:=Z.ch x (List.mem_of_getElem? hx);have u:=K3 p1.keep I;obtain⟨g,o,V,W,X,h4⟩:=ai h.Q8 (aF _ _ _) H u hx;obtain⟨κ',hu,n3⟩:=n2.elem (j:=4) (x:=chZ x (fR P x.QI) (fR P x.to)) (cl:=chC 40) V ⟨W,id⟩ hk X rfl δ;obtain⟨bs,es⟩:∃b,x.shared=b:=⟨_,rfl⟩;have n4:=n3.more [(.cmp .lss (.x 43) (.c 0),false),(.cmp .lss (.x 44) (.c 0),false),(.seq (.x 41) (.x 42),false),(.cmp .lss (.x 41) (.c 1),false),(.cmp .gtr (.x 41) (.c 4),false),(.cmp .gtr (.x 42) (.c 63),false),(.x 40,bs)]
   ([(32,[.ag aa,.one (.s (.x 41))],.one (.i .i64 (.x 43))),(32,[.ag aa,.one (.s (.x 42))],.one (.i .i64 (.x 44)))]++bif bs then[(65,[.ag aa,.ag (chC 40)],.one (.b (.c true)))]else[]) []
   (fac c1 (fac c2 (fac (bq c3) (fac (decide_eq_false (by show ¬ x.how<1;omega)) (fac (decide_eq_false (by show ¬ x.how>4;omega)) (fac (decide_eq_false (by show ¬ (x.QL:Int)>63;omega)) (fac es cS)))))))
   (by
    intro q K w' D;have C:=K3 u D
    rcases List.mem_append.1 K with K|K
    ·simp only[List.mem_cons,List.mem_nil_iff,or_false]at K
     rcases K with rfl|rfl
     ·exact cn h H C (O _) x.QI rfl rfl
     ·exact cn h H C (O _) x.to rfl rfl
    ·cases bs with
     | false=>cases K
     | true =>
      obtain rfl:=List.mem_singleton.1 K;rw[List.map_cons,b6 h (O _)];exact xL (ao.kept h H C) (by have:=C.size;omega) (c7 es))
   (fun i x hx=>by cases hx)
  cases bs<;>
   exact aK (am 3 (fun _=>true) (fx 32 3 (gF [])) [] 3 [] hPt δ n4 fun κ2 a3 w3 n5 Q=>cI rfl ⟨(),κ2,trivial,fun r hr=>(Q.upto r (by show r<2;omega)).trans (hu r hr),n5.has.on (cG _ 32 _ _ _).symm δ,U.trans Q.agree (fun _ h=>h),K3 I Q.keep⟩)
 intro e a2 w2 n2 U I;have n3:=n2.downR (gF []) ⟨rfl,trivial⟩ δ;refine am 1 (fun _=>true) ((5,.one (.i .i64 (.c 0)))::gF []) [(0,aa)] 1 [] hPt δ n3 fun κ2 a3 w3 n4 Q=>?_
 have hd:=Q.agree.defers.trans (U.defers.trans (p1.agree.defers.trans hd));have u:=K3 (K3 p1.keep I) Q.keep;clear n1 n2 n3 p1 Q U I hh;refine aM (gq n4 P.QJ.length 32 5 5 (gF []) (fun _=>true) (fun _:Unit=>{}) (fun _ _ _=>True) (fun _ _ _ _ _ h=>h) () hPt δ rfl (fC h.QJ) trivial (n4.has.re ⟨rfl,rfl,trivial⟩) ?_ ?_)
 ·intro k e a4 w4 hk n5 af J
  obtain⟨x,hx⟩:=ge hk;obtain⟨c1,c2,c3⟩:=Z.Qr x (List.mem_of_getElem? hx);have Y:=K3 u J;obtain⟨g,o,V,W,X,h4⟩:=ai h.QJ (aF _ _ _) H Y hx;obtain⟨κ',hu,n6⟩:=n5.elem (j:=5) (x:=irS x (fR P x.to)) (cl:=irC 40) V ⟨W,id⟩ hk X rfl δ;refine aK (am 3 (fun _=>true) ((8,.one (.i .i64 (.c 0)))::(7,.one (.b (.c false)))::gF [(6,.one (.p 2 0)),(5,.one (.i .i64 (.x 32)))]) [(2,irC 40),(0,aa)] 3 [] hPt δ n6 fun κ3 a5 w5 n7 p3=>?_);have A:=Rs.K3 Y p3.keep;refine aM (gq n7 P.Q4.length 64 8 1 ((7,.one (.b (.x 65)))::gF [(6,.one (.p 2 0)),(5,.one (.i .i64 (.x 32)))]) (fun _=>true) fl1 (fun j e _=>e=(P.Q4.take j).any fun y=>decide (y.name=x.QI)) (fun _ _ _ _ _ h=>h) false hPt δ rfl (fC h.Q4) rfl (n7.has.re ⟨rfl,rfl,rfl,rfl,rfl,trivial⟩) ?_ ?_)
  ·intro j e2 a6 w6 hj n8 bc ac
   obtain⟨y,hy⟩:=ge hj;have he:e2=_:=n8.gh;obtain⟨g',o',a9,ba,v',bb,hm,_⟩:=ai h.Q4 (bh B) H (Rs.K3 A ac) hy;obtain⟨κ4,bl,n9⟩:=n8.elem (j:=1) (x:=oV y v') (cl:=kJ 72) a9 ⟨ba,id⟩ hj bb (by show([.int .i64 y.pos,.string y.name,.int .u64 y.Q7,.int .u64 y.size,.slice (vA v') y.QF.length (vC v')]:List Value)=_;rw[aU hm]) δ;have L:=n9.fa [(.x 65,e2)] (fac rfl cS);have be:∀{κ5:Kap} {a7:Act} {w7:World} (e4:Bool),e4=(e2||decide (y.name=x.QI))→kp H0.T κ4 κ5 4 (fun _=>true) a6 a7 w6 w7→Has (((S.put 32 ((Sta.put {} 8 (irS x (fR P x.to))).cnt k))).put 64 ((fl1 e4).cnt j)) κ5 247 (fx 64 8 ((7,.one (.b (.x 65)))::gF [(6,.one (.p 2 0)),(5,.one (.i .i64 (.x 32)))])) a7 →
    gj (S.put 32 ((Sta.put {} 8 (irS x (fR P x.to))).cnt k)) κ3 247 64 3 (fx 64 8 ((7,.one (.b (.x 65)))::gF [(6,.one (.p 2 0)),(5,.one (.i .i64 (.x 32)))])) (fun _=>true) fl1 H0.T (fun j e _=>e=(P.Q4.take j).any fun y=>decide (y.name=x.QI)) j a5 w5 a7 w7:=
    fun e4 q1 R q2=>⟨e4,_,by show e4=_;rw[gJ hy,q1,he],fun r hr=>(R.upto r χ).trans (bl r hr),q2,bc.trans R.agree (fun _ h=>h),Rs.K3 ac R.keep⟩
   cases e2 with
   | true=>exact aK (am 1 (fun _=>true) (fx 64 8 ((7,.one (.b (.c true)))::gF [(6,.one (.p 2 0)),(5,.one (.i .i64 (.x 32)))])) [] 4 [] hPt δ L fun κ5 a7 w7 N R=>cI rfl (be true rfl R (N.has.re ⟨rfl,rfl,rfl,rfl,rfl,trivial⟩)))
   | false=>exact aK (am 1 (fun _=>true) (fx 64 8 ((7,.one (.b (.seq (.x 72) (.x 41))))::gF [(6,.one (.p 2 0)),(5,.one (.i .i64 (.x 32)))])) [] 4 [] hPt δ L fun κ5 a7 w7 N R=>cI rfl (be _ (aw y.name x.QI) R (N.has.re ⟨rfl,rfl,rfl,rfl,rfl,trivial⟩)))
  ·intro e2 a6 w6 n8 bc ac
   have he:e2=_:=n8.gh;rw[List.take_length,c1]at he;subst he;have bf:=Rs.K3 A ac;have n9:=n8.more [(.x 65,true),(.cmp .lss (.x 42) (.c 0),false),(.cmp .gtr (.x 41) (.c 63),false)] [(32,[.ag aa,.one (.s (.x 42))],.one (.i .i64 (.x 42)))] []
    (fac rfl (fac c2 (fac (decide_eq_false (by show ¬ (x.QL:Int)>63;omega)) cS)))
    (by
     intro q K w' D;obtain rfl:=List.mem_singleton.1 K;exact cn h H (Rs.K3 bf D) ((O _).trans ((aQ _ 64 _).mono yj)) x.to rfl rfl)
    (fun i x hx=>by cases hx)
   refine am 2 (fun _=>true) (gF [(5,.one (.i .i64 (.x 32)))]) [] 3 [] hPt δ n9 fun κ4 a7 w7 L R=>cI rfl ?_
   exact⟨(),κ4,trivial,fun r hr=>(R.upto r (by show r<3;omega)).trans ((p3.upto r (by show r<2;omega)).trans (hu r hr)),L.has.re ⟨rfl,rfl,trivial⟩,((af.trans p3.agree (fun _ h=>h)).trans bc (fun _ h=>h)).trans R.agree (fun _ h=>h),Rs.K3 (Rs.K3 (Rs.K3 J p3.keep) ac) R.keep⟩
 intro e a4 w4 n5 af J;have n6:=n5.downR (gF []) ⟨rfl,trivial⟩ δ;refine am 1 (fun _=>true) ((9,.one (.i .i64 (.c 0)))::gF []) [(0,aa)] 1 [] hPt δ n6 fun κ3 a5 w5 n7 p3=>?_
 have hd:=p3.agree.defers.trans (af.defers.trans hd);have J:=K3 (K3 u J) p3.keep;clear n4 n5 n6 p3 af u;refine aM (gq n7 P.QC.length 32 9 6 (gF []) (fun _=>true) (fun _:Unit=>{}) (fun _ _ _=>True) (fun _ _ _ _ _ h=>h) () hPt δ rfl (fC h.QC) trivial (n7.has.re ⟨rfl,rfl,trivial⟩) ?_ ?_)
 ·intro k e a6 w6 hk n8 U I
  obtain⟨x,hx⟩:=ge hk;obtain⟨c1,c2,c3,c4,c5,c6,c7⟩:=Z.que x (List.mem_of_getElem? hx);have u:=K3 J I;obtain⟨g,o,V,W,X,h4⟩:=ai h.QC (aF _ _ _) H u hx;obtain⟨κ',hu,n3⟩:=n8.elem (j:=6) (x:=quS x (fR P x.QI) (fR P x.to)) (cl:=quC 40) V ⟨W,id⟩ hk X rfl δ;have c8:(((x.depth:Int)==0)==((x.how:Int)==3))=true:=by
   rw[beq_iff_eq,Bool.eq_iff_iff,beq_iff_eq,beq_iff_eq];omega
  have n4:=n3.more [(.cmp .lss (.x 43) (.c 0),false),(.cmp .lss (.x 44) (.c 0),false),(.seq (.x 41) (.x 42),false),(.cmp .lss (.x 41) (.c 1),false),(.cmp .gtr (.x 41) (.c 3),false),(.cmp .gtr (.x 42) (.c 64),false),(.eq (.cmp .eql (.x 42) (.c 0)) (.cmp .eql (.x 41) (.c 3)),true)]
   [(32,[.ag aa,.one (.s (.x 41))],.one (.i .i64 (.x 43))),(32,[.ag aa,.one (.s (.x 42))],.one (.i .i64 (.x 44)))] []
   (fac c1 (fac c2 (fac (bq c3) (fac (decide_eq_false (by show ¬ x.how<1;omega)) (fac (decide_eq_false (by show ¬ x.how>3;omega)) (fac (decide_eq_false (by show ¬ (x.depth:Int)>64;omega)) (fac c8 cS)))))))
   (by
    intro q K w' D;have C:=K3 u D;simp only[List.mem_cons,List.mem_nil_iff,or_false]at K
    rcases K with rfl|rfl
    ·exact cn h H C (O _) x.QI rfl rfl
    ·exact cn h H C (O _) x.to rfl rfl)
   (fun i x hx=>by cases hx)
  exact aK (am 3 (fun _=>true) (fx 32 9 (gF [])) [] 3 [] hPt δ n4 fun κ2 a3 w3 n5 Q=>cI rfl ⟨(),κ2,trivial,fun r hr=>(Q.upto r (by show r<2;omega)).trans (hu r hr),n5.has.on (cG _ 32 _ _ _).symm δ,U.trans Q.agree (fun _ h=>h),K3 I Q.keep⟩)
 intro e a6 w6 n8 U I;have n9:=n8.downR (gF []) ⟨rfl,trivial⟩ δ;refine am 1 (fun _=>true) ((11,.one (.i .i64 (.c 0)))::gF []) [(0,aa)] 1 [] hPt δ n9 fun κ4 a7 w7 L R=>?_
 have hd:=R.agree.defers.trans (U.defers.trans hd);have Y:=K3 (K3 J I) R.keep;clear n7 n8 n9 R U I J;refine aM (gq L P.QD.length 32 11 11 (gF []) (fun _=>true) (fun _:Unit=>{}) (fun _ _ _=>True) (fun _ _ _ _ _ h=>h) () hPt δ rfl (fC h.QD) trivial (L.has.re ⟨rfl,rfl,trivial⟩) ?_ ?_)
 ·intro k e a8 w8 hk N U I
  obtain⟨x,hx⟩:=ge hk;obtain⟨c1,c2⟩:=Z.Qv x (List.mem_of_getElem? hx);have u:=Rs.K3 Y I;obtain⟨g,o,V,W,X,h4⟩:=ai h.QD (aF _ _ _) H u hx;obtain⟨κ',hu,n3⟩:=N.elem (j:=11) (x:=baS x (fR P x.to)) (cl:=baC 40) V ⟨W,id⟩ hk X rfl δ;have n4:=n3.more [(.cmp .lss (.x 41) (.c 0),false),(.seq (.x 40) (.x 41),false)] [(32,[.ag aa,.one (.s (.x 41))],.one (.i .i64 (.x 41)))] []
   (fac c1 (fac (bq c2) cS))
   (by
    intro q K w' D;obtain rfl:=List.mem_singleton.1 K;exact cn h H (Rs.K3 u D) (O _) x.to rfl rfl)
   (fun i x hx=>by cases hx)
  exact aK (am 2 (fun _=>true) (fx 32 11 (gF [])) [] 2 [] hPt δ n4 fun κ2 a3 w3 n5 Q=>cI rfl ⟨(),κ2,trivial,fun r hr=>(Q.upto r (by show r<2;omega)).trans (hu r hr),n5.has.on (cG _ 32 _ _ _).symm δ,U.trans Q.agree (fun _ h=>h),Rs.K3 I Q.keep⟩)
 intro e a8 w8 N U I;have a0:=N.downR (gF []) ⟨rfl,trivial⟩ δ;have hd:=U.defers.trans hd;have A:=Rs.K3 Y I;clear L N U I Y;have fin:∀{E:List (Nat×Nat×IE×Nat×Nat)} {κ5:Kap} {M:Mm} {kk:Nat} (n:Now S κ5 247 Tryz.prog { EL:=E } H0 ⟨gF [],M,kk,[]⟩ a8 w8) (b1 b2 b3 b4:Bool),decide ((P.QB.length:Int)=0)=b1→decide ((P.QA.length:Int)=0)=b2→decide (fR P (pk P.QB).name≥0)=b3→decide (fR P (pk P.QA).name≥0)=b4 →
  Now S κ5 247 Tryz.prog { EL:=E,FA:=[(.cmp .leq (.ln 8) (.c 1),true),(.cmp .leq (.ln 10) (.c 1),true),(.cmp .eql (.ln 9) (.c 1),true),(.cmp .eql (.ln 8) (.c 0),b1),(.cmp .eql (.ln 10) (.c 0),b2),(.cmp .geq (.x 25) (.c 0),b3),(.cmp .geq (.x 27) (.c 0),b4)],CT:=[(32,[.ag aa,.one (.s (.x 24))],.one (.i .i64 (.x 25))),(32,[.ag aa,.one (.s (.x 26))],.one (.i .i64 (.x 27)))] } H0 ⟨gF [],M,kk,[]⟩ a8 w8:=by
  intro E κ5 M kk n b1 b2 b3 b4 e1 e2 e3 e4;exact n.more _ _ [] (fac (decide_eq_true (by show(P.QB.length:Int)≤1;have:=Z.Qq.1;omega)) (fac (decide_eq_true (by show(P.QA.length:Int)≤1;have:=Z.Qp.1;omega)) (fac (by show((P.QE.length:Int)==1)=true;rw[Z.sta];rfl) (fac (e1▸rfl) (fac (e2▸rfl) (fac e3 (fac e4 cS)))))))
   (by
    intro q K w' D;have C:=Rs.K3 A D;simp only[List.mem_cons,List.mem_nil_iff,or_false]at K
    rcases K with rfl|rfl
    ·exact cn h H C bd _ rfl rfl
    ·exact cn h H C bd _ rfl rfl)
   (fun i x hx=>by cases hx)
 have g3:∀{l:List Ck.fY},0<l.length→decide ((l.length:Int)=0)=false:=fun h=>decide_eq_false χ
 have g4:∀{l:List Ck.fY},l.length=0→decide ((l.length:Int)=0)=true:=fun h=>decide_eq_true χ
 rcases Nat.eq_zero_or_pos P.QB.length with m0|m0<;>rcases Nat.eq_zero_or_pos P.QA.length with o0|o0
 ·refine eJ 2 (fun _=>true) [(2,.one (.b (.c true)))] [] 1 [] hPt δ (fin a0 true true _ _ (g4 m0) (g4 o0) rfl rfl) fun κ3 a5 w5 n p=>?_
  exact fX 2 rfl n.has rfl (p.agree.defers.trans hd) ⟨rfl,Rs.K3 A p.keep⟩
 ·obtain⟨g,o,V,W,X,h4⟩:=ai h.QA (aF _ _ _) H A (mQ o0)
  obtain⟨κ',hu,ad⟩:=a0.elc (j:=10) (cl:=piC 26) 0 V ⟨W,id⟩ o0 X rfl δ;refine eJ 2 (fun _=>true) [(2,.one (.b (.cmp .geq (.x 27) (.c 0))))] [] 2 [] hPt δ (fin ad true false _ true (g4 m0) (g3 o0) rfl (lx (Z.Qp.2 o0))) fun κ3 a5 w5 n p=>?_
  refine fX 2 rfl n.has rfl (p.agree.defers.trans hd) ⟨?_,Rs.K3 A p.keep⟩;show Ending.returned (.bool (decide (fR P (pk P.QA).name≥0)))=_;rw[lx (Z.Qp.2 o0)]
 ·obtain⟨g,o,V,W,X,h4⟩:=ai h.QB (aF _ _ _) H A (mQ m0)
  obtain⟨κ',hu,ad⟩:=a0.elc (j:=8) (cl:=piC 24) 0 V ⟨W,id⟩ m0 X rfl δ;refine eJ 2 (fun _=>true) [(2,.one (.b (.c true)))] [] 2 [] hPt δ (fin ad false true true _ (g3 m0) (g4 o0) (lx (Z.Qq.2 m0)) rfl) fun κ3 a5 w5 n p=>?_
  exact fX 2 rfl n.has rfl (p.agree.defers.trans hd) ⟨rfl,Rs.K3 A p.keep⟩
 ·obtain⟨g,o,V,W,X,h4⟩:=ai h.QB (aF _ _ _) H A (mQ m0)
  obtain⟨κ',hu,ad⟩:=a0.elc (j:=8) (cl:=piC 24) 0 V ⟨W,id⟩ m0 X rfl δ;obtain⟨g',o',a9,ba,bb,bo⟩:=ai h.QA (aF _ _ _) H A (mQ o0);obtain⟨κ2,bp,bm⟩:=ad.elc (j:=10) (cl:=piC 26) 0 a9 ⟨ba,id⟩ o0 bb rfl δ;refine eJ 2 (fun _=>true) [(2,.one (.b (.cmp .geq (.x 27) (.c 0))))] [] 3 [] hPt δ (fin bm false false true true (g3 m0) (g3 o0) (lx (Z.Qq.2 m0)) (lx (Z.Qp.2 o0))) fun κ3 a5 w5 n p=>?_
  refine fX 2 rfl n.has rfl (p.agree.defers.trans hd) ⟨?_,Rs.K3 A p.keep⟩;show Ending.returned (.bool (decide (fR P (pk P.QA).name≥0)))=_;rw[lx (Z.Qp.2 o0)]
end Go.Proofs.YtpblcjipmoblnaaGreatDoor.Rs
namespace Go.Proofs.YtpblcjipmoblnaaGreatDoor.Rs
open Go.RowKit Go.Proofs.YtpblcjipmoblnaaGreatDoor Ck
variable {B pb N:Nat} {w:World} {y:Int→Int} {L:List Wr}
def xM:Nat→(List Bool→Bool)→Bool
 | 0,f=>f []
 | n+1,f=>xM n (fun l=>f (true::l))&&xM n fun l=>f (false::l)
theorem nC:∀{n:Nat} {f:List Bool→Bool} {l:List Bool},xM n f=true→l.length=n→f l=true
 | 0,f,l,h,hl=>by obtain rfl:=List.eq_nil_of_length_eq_zero hl;exact h
 | n+1,f,[],h,hl=>by simp at hl
 | n+1,f,b::l,h,hl=>by
  simp only[xM,Bool.and_eq_true]at h
  cases b with
  | true=>exact nC (f:=fun l=>f (true::l)) h.1 (by simpa using hl)
  | false=>exact nC (f:=fun l=>f (false::l)) h.2 (by simpa using hl)
def haZ(hs:List (Nat×SS))(h:List Bool):List (Nat×SS×BE):=List.zipWith (fun q b=>(q.1,q.2,.c b)) hs h
def qg(P:aC)(S:Sta)(hs:List (Nat×SS)):List Bool:=hs.map fun q=>has ((dN P).getD q.1 []) (q.2.den S)
structure xP (B:Nat) (pb z0:Nat) (P:aC) (S:Sta) (w:World):Prop where
 Q7:∃D r,dI (z0+10) w (bP z0) (dN P) D r
 lt:pb<z0
 o:∀j,j<8→S.o (24+j)=.map (some (z0+j+1))
theorem xP.keep{z0:Nat}{P:aC}{S S':Sta}{w':World}(h:xP B pb z0 P S w)(hk:aD (fun k=>k=pb) w w')(d:Agr (lo 32) S S'):xP B pb z0 P S' w':=
 ⟨let⟨D,r,hF⟩:=h.Q7;⟨D,r,hF.keep hk fun k e _=>by subst e;exact⟨by have:=h.lt;omega,by have:=h.lt;simp[bP];omega⟩⟩,h.lt,fun j g=>by rw[d.o _ (Nat.ble_eq_true_of_le χ)];exact h.o j g⟩
theorem m0{α:Type}{p:α→Prop}:∀y∈([]:List α),p y:=fun _ h=>by cases h
theorem mc{α:Type}{p:α→Prop}{x:α}{l:List α}(h:p x)(k:∀y∈l,p y):∀y∈x::l,p y:=by
 intro y d
 rcases List.mem_cons.1 d with rfl|d
 ·exact h
 ·exact k y d
theorem ft{α:Type}{f:α→List Wr}{xs:List α}{k:Nat}{x:α}(hx:xs[k]?=some x){T:List Wr}(e:∀p,p∈f x↔p∈T)(p:Wr):p∈(xs.take (k+1)).flatMap f↔p∈T∨p∈(xs.take k).flatMap f:=by
 rw[wj hx,e]
theorem dq{z0 kk cnt k':Nat}{v:aR}{P:aC}{S:Sta}{κ:Kap}{E:List (Nat×Nat×IE×Nat×Nat)}{H:Gh}{F F':Fr}{M M':Mm}{a:Act}{R e':List Nat}{l:List Code}{Q:Exit→Act→World→Prop}
 (n:Now S κ N Tryz.prog { EL:=E } H ⟨F,M,kk,R⟩ a w)(Z:H.T=fun k=>k=pb)(hl:aE B w pb v P y L)(O:κ 0=(pb,0))(Y:Agr (lo 24) (cA v P) S)(ts:List BE)(d:List (Nat×SS))(C:d.isEmpty=true∨xP B pb z0 P S w)(j:List Bool→List Bool→List Mu)(CX:List (FuncId×List SV×SV))
 (W:(xM ts.length fun t=>xM d.length fun h=>jd (iI Tryz.prog { EL:=E,FA:=ts.zip t,CT:=haE (haZ d h)++CX,ET:=muE (j t h),GM:=[(0,aa)] } N (l.take cnt) ⟨F,M,kk,[]⟩) ⟨F,M,kk,[]⟩ .n (fun _=>true) F' M' k' e')=true)
 (hh:∀q∈d,q.1<8∧aX (q.2.den S))(hy:∀x∈j (ts.map (BE.den S)) (qg P S d),y x.2.2.1=x.2.2.2)(I:∀x∈CX,∀w',aD (fun k=>k=pb) w w'→Calls Tryz.prog x.1 (x.2.1.map (SV.den S κ)).toArray w' fun e K=>e=.returned (x.2.2.den S κ)∧Kz w' K)
 (X:∀κ' A w',aE B w' pb v P y (gV (muS S (j (ts.map (BE.den S)) (qg P S d))) e'++L)→Now S κ' N Tryz.prog { EL:=E } ⟨fun k=>k=pb,fun _ w=>aE B w pb v P y (gV (muS S (j (ts.map (BE.den S)) (qg P S d))) e'++L),fun _ _ _ hk h=>h.new hk⟩ ⟨F',M',k',[]⟩ A w'→kp (fun k=>k=pb) κ κ' kk (fun _=>true) a A w w'→wpL Tryz.prog Q (l.drop cnt) A w'):wpL Tryz.prog Q l a w:=by
 have hg:=nC (nC W (l:=ts.map (BE.den S)) ξ) (l:=qg P S d) (by simp[qg]);have n3:=lF n Z hl O Y (muS S (j (ts.map (BE.den S)) (qg P S d))) (ts.zip (ts.map (BE.den S))) (fun x hx=>by
  obtain⟨i,g⟩:=List.getElem?_of_mem hx;rw[List.getElem?_zip_eq_some,List.getElem?_map]at g;rw[g.1]at g;exact Option.some.inj g.2) [] ξ (muE (j (ts.map (BE.den S)) (qg P S d))) (Cb O hy rfl w)
  (haE (haZ d (qg P S d))++CX) (fun x hx=>by
   rcases List.mem_append.1 hx with hx|hx
   ·have C:=C.resolve_left fun e=>by
     cases d with
     | nil=>simp[haZ,haE]at hx
     | cons y l=>simp at e
    obtain⟨D,r,J⟩:=C.Q7;refine Cj J C.lt C.o (fun q hq=>?_) x hx;obtain⟨i,g⟩:=List.getElem?_of_mem hq;simp only[haZ,qg,List.getElem?_zipWith,List.getElem?_map]at g
    cases e:d[i]? with
    | none=>rw[e]at g;simp at g
    | some q0 =>
     rw[e]at g;obtain rfl:=Option.some.inj g;obtain⟨U,V⟩:=hh q0 (List.mem_of_getElem? e);exact⟨U,rfl,V⟩
   ·exact I x hx)
 refine am cnt (fun _=>true) F' M' k' e' hPt hg n3 fun κ' A w' u p=>?_
 exact X κ' A w' u.gh ⟨u.has,u.mem,⟨ξ,u.ctx.el,ξ,ξ,(fun _ _ _ _ r l h=>by cases h),ξ⟩,u.tb,u.gh⟩ p
theorem tX{B pb:Nat}{v:aR}{P:aC}{y:Int→Int}{L L2:List Wr}{S:Sta}{κ:Kap}{w:World}{f:FuncId}{g:List SV}{args:Array Value}(j:(g.map (SV.den S κ)).toArray=args)
 (l:∀L' w',aD (fun k=>k=pb) w w'→aE B w' pb v P y L'→Calls Tryz.prog f args w' fun e d=>e=.returned (.tuple #[])∧aE B d pb v P y (L2++L')∧aD (fun k=>k=pb) w' d):
 ∀i x,([(f,g,SV.tu [])]:List (FuncId×List SV×SV))[i]?=some x→∀e w',aD (fun k=>k=pb) w w'→aE B w' pb v P y (gV [L2] e++L)→Calls Tryz.prog x.1 (x.2.1.map (SV.den S κ)).toArray w' fun e' d=>e'=.returned (x.2.2.den S κ)∧aD (fun k=>k=pb) w' d∧aE B d pb v P y (gV [L2] (i::e)++L):=by
 intro i x hx e w' hk h
 cases i with
 | succ i=>simp at hx
 | zero =>
  obtain rfl:=Option.some.inj hx;show Calls Tryz.prog f (g.map (SV.den S κ)).toArray w' _;rw[j];refine(l _ w' hk h).mono fun e' d ⟨p,q,r⟩=>⟨p,r,?_⟩
  rw[gV,List.append_assoc];exact q
theorem uu{kk cnt k':Nat}{v:aR}{P:aC}{L2:List Wr}{S:Sta}{κ:Kap}{E:List (Nat×Nat×IE×Nat×Nat)}{H:Gh}{F:Fr}{M:Mm}{a:Act}{x:List Nat}{l:List Code}{Q:Exit→Act→World→Prop}
 (n:Now S κ N Tryz.prog { EL:=E,GM:=[(0,aa)] } H ⟨F,M,kk,x⟩ a w)(O:H.T=fun k=>k=pb)(V:aE B w pb v P y L)(D:κ 0=(pb,0))(C:Agr (lo 24) (cA v P) S)(F':Fr)(M':Mm)(f:FuncId)(d:List SV)(args:Array Value)
 (J:jd (iI Tryz.prog { EL:=E,ET:=[(f,d,.tu [])],GM:=[(0,aa)] } N (l.take cnt) ⟨F,M,kk,[]⟩) ⟨F,M,kk,[]⟩ .n (fun _=>true) F' M' k' [0]=true)(R:(d.map (SV.den S κ)).toArray=args)
 (U:∀L' w',aD (fun k=>k=pb) w w'→aE B w' pb v P y L'→Calls Tryz.prog f args w' fun e u=>e=.returned (.tuple #[])∧aE B u pb v P y (L2++L')∧aD (fun k=>k=pb) w' u)
 (K:∀κ' j w',aE B w' pb v P y (L2++L)→Now S κ' N Tryz.prog { EL:=E,GM:=[(0,aa)] } (kQ B pb v P y [] (L2++L)) ⟨F',M',k',[]⟩ j w'→kp (fun k=>k=pb) κ κ' kk (fun _=>true) a j w w'→κ' 0=(pb,0)→wpL Tryz.prog Q (l.drop cnt) j w')(I:0<kk):wpL Tryz.prog Q l a w:=by
 have n0:Now S κ N Tryz.prog { EL:=E } H ⟨F,M,kk,x⟩ a w:=⟨n.has,n.mem,⟨ξ,n.ctx.el,ξ,ξ,(fun _ _ _ _ r l h=>by cases h),ξ⟩,n.tb,n.gh⟩;have W:=lF n0 O V D C [L2] [] ξ [] ξ [(f,d,.tu [])] (tX R U) [] ξ;refine am cnt (fun _=>true) F' M' k' [0] hPt J W fun κ' j w' g p=>?_
 have q:aE B w' pb v P y (L2++L):=by have h:aE B w' pb v P y (gV [L2] [0]++L):=g.gh;simpa[gV]using h
 have A:=(p.upto 0 I).trans D;exact K κ' j w' q (lF ⟨g.has,g.mem,⟨ξ,g.ctx.el,ξ,ξ,(fun _ _ _ _ r l h=>by cases h),ξ⟩,g.tb,g.gh⟩ rfl q A C [] [] ξ [] ξ [] ξ [] ξ) p A
theorem nb0(n:Nat):((n:Int)==0)=decide (n=0):=by rw[Bool.eq_iff_iff];simp
theorem ib(a b:Int):(a==b)=decide (a=b):=by rw[Bool.eq_iff_iff];simp
theorem ibn(a b:Int):(a !=b)=!decide (a=b):=by rw[bne,ib]
theorem AT{A B C D:List Wr}(d:A=C)(g:B=D)(p:Wr):p∈A++B↔p∈(D++[])++(C++[]):=by
 subst d g;simp[or_comm]
def bW:Fr:=[(0,.one (.p 0 0))]
theorem C6{v:aR}{P:aC}{f:FuncId}{fn:Func}{R:Ending→World→Prop}(d:aE B w pb v P y [])(x:Tryz.prog.funcs[f]?=some fn)(p:fn.ntmps=N)(q:fn.body.isSome=true)(j:1≤N)
 (h:∀a,a.defers=[]→Now (cA v P) (fun _=>(pb,0)) N Tryz.prog { GM:=[(0,aa)] } (kQ B pb v P y [] []) ⟨bW,[],1,[]⟩ a w→wpL Tryz.prog (bodyPost Tryz.prog fn R) (br (bE fn [])) a w):Calls Tryz.prog f #[.pointer (some ⟨pb,0,none⟩)] w R:=by
 refine fnE (cA v P) (fun _=>(pb,0)) [.one (.p 0 0)] x p q rfl j (kQ B pb v P y [] []) (fun g A=>by obtain rfl:g=pb:=A;exact d.lt) d fun a u n=>h a u ?_
 have D:Now (cA v P) (fun _=>(pb,0)) N Tryz.prog {} (kQ B pb v P y [] []) ⟨bW,[],1,[]⟩ a w:=⟨n.has,⟨fun r l C=>by cases C⟩,Rs.noC _ _ _ _ _,n.tb,n.gh⟩;exact lF (EL:=[]) D rfl d rfl (Agr.refl _ _) [] [] ξ [] ξ [] ξ [] ξ
end Go.Proofs.YtpblcjipmoblnaaGreatDoor.Rs
namespace Go.Proofs.YtpblcjipmoblnaaGreatDoor
open Go.RowKit Go.IntWalk Ck Rs
theorem Ce(n m:Nat):decide ((n:Int)<m)=decide (n<m):=by rw[decide_eq_decide];omega
theorem Cx{A B C X Y T:List Wr}(d:A=X)(g:B=Y)(h:∀p,p∈T↔p∈C)(p:Wr):p∈A++B++C↔p∈T++((Y++[])++(X++[])):=by
 subst d g;simp only[List.mem_append,List.append_nil,h,or_comm,or_left_comm]
theorem zw{B:Nat}{w:World}{pb:Nat}{v:aR}{P:aC}(h:aE B w pb v P pA []):
 Calls Tryz.prog 54 #[.pointer (some ⟨pb,0,none⟩)] w fun e w'=>e=.returned (.tuple #[])∧aE B w' pb v P pA (rD P)∧aD (fun k=>k=pb) w w':=by
 have bo:=h.base;refine C6 h Tryz.func54 Tryz.ntmps54 rfl ψ fun a D n0=>?_
 have hS:Agr (lo 24) (cA v P) (cA v P):=Agr.refl _ _;have a7:∀{d:Sta},Agr (lo 24) (cA v P) ((cA v P).put 32 d):=fun{d}=>(aQ _ 32 d).mono fun j hj=>Nat.ble_eq_true_of_le (Nat.le_trans (Nat.le_of_ble_eq_true hj) ψ)
 have ac:∀{d e:Sta},Agr (lo 24) (cA v P) (((cA v P).put 32 d).put 64 e):=fun{d e}=>a7.trans ((aQ _ 64 _).mono fun j hj=>Nat.ble_eq_true_of_le (Nat.le_trans (Nat.le_of_ble_eq_true hj) ψ))
 refine lQ n0 rfl ψ hS (fun w h=>h.Q3) (bX B) (fun l=>l.flatMap iV) 20 3 bW (jQ 40) δ rfl rfl rfl (fun w x d=>∃u r,aJ B 4 eW w r x.QN∧d=kV x u r) (fun w g o x ⟨u,r,h1,h2,h3,_⟩=>⟨_,⟨u,r,h3,rfl⟩,fun k=>by
  show aL w g o [.int .i64 x.pos,.string x.name,.int .u64 x.QO,.bool x.stopped,.slice (vA u) x.QF.length (vC u),.slice (vA r) x.QN.length (vC r)];rw[aU h2,aU h3];exact h1⟩) (fun k x d κ' a' w' L1 hx D q A hK J n=>?_) fun κ1 a1 w1 bm n1 bc a8=>?_
 ·obtain⟨u,r,S,rfl⟩:=D
  refine aK (dq (z0:=0) (cnt:=2) (k':=3) (F':=(3,.one (.p 2 0))::fx 32 20 (ck 20 3 bW)) (M':=[(2,jQ 40)]) (e':=[0]) n rfl J q A [.cmp .lss (.x 41) (.c 4)] [] (.inl rfl) (fun t h=>[(some (t.getD 0 false),.x 40,0,100)]) [] δ m0 (mc rfl m0) m0 fun κ2 a2 w2 E R C=>?_);have X:κ2 0=(pb,0):=(C.upto 0 (by show 0<2;decide)).trans q;refine am 1 (fun _=>true) ((34,.one (.i .i64 (.c 0)))::(33,.one (.i .i64 (.ln 41)))::(32,.one (.sl 41 41 43))::(3,.one (.p 2 0))::fx 32 20 (ck 20 3 bW)) [(2,jQ 40)] 3 [] hPt δ R fun κ3 a3 w3 Z I=>?_
  have N:aE B w3 pb v P pA _:=Z.gh;have Y:κ3 0=(pb,0):=(I.upto 0 ψ).trans X;refine aM (qB Z rfl N (S.below (aF _ _ _) ((K3 C.keep I.keep).below (B:=B) (by have:=J.lt;omega) fun i hi e=>by have e:i=pb:=e;omega)) (aF _ _ _) (fun l=>l.flatMap (ks x)) 64 34 41 41 ((33,.one (.i .i64 (.ln 41)))::(32,.one (.sl 41 41 43))::(3,.one (.p 2 0))::fx 32 20 (ck 20 3 bW)) (fun _=>true) δ rfl (Z.has.re ⟨rfl,rfl,rfl,rfl,rfl,rfl,rfl,rfl,trivial⟩) rfl (fun _ x d=>x.Ok∧d=rlS x 0) (rlC 72) rfl
   (fun w g o x hx=>⟨_,⟨hx.2,rfl⟩,fun k=>hx.1⟩) δ (fun j m d κ4 a4 w4 L4 hm D a0 H n4 V L=>?_) fun a4 w4 H n4 V L=>?_)
  ·obtain⟨ok,rfl⟩:=D
   have O:=(a0 0 ψ).trans Y;refine aK (dq (z0:=0) (cnt:=2) (k':=5) (F':=(5,.one (.p 4 0))::fx 64 34 ((33,.one (.i .i64 (.ln 41)))::(32,.one (.sl 41 41 43))::(3,.one (.p 2 0))::fx 32 20 (ck 20 3 bW))) (M':=[(4,rlC 72),(2,jQ 40)]) (e':=[0]) n4 rfl H O ac [.cmp .neq (.x 73) (.c 1),.cmp .lss (.x 74) (.c 64)] [] (.inl rfl) (fun t h=>[(some (t.getD 0 false||t.getD 1 false),.x 72,1,101)]) [] δ m0 (mc rfl m0) m0 fun κ5 a5 w5 W n5 K=>?_);exact dq (z0:=0) (cnt:=1) (k':=5) (F':=fx 64 34 ((33,.one (.i .i64 (.ln 41)))::(32,.one (.sl 41 41 43))::(3,.one (.p 2 0))::fx 32 20 (ck 20 3 bW))) (M':=[]) (e':=[0]) n5 rfl W ((K.upto 0 χ).trans O) ac [.cmp .neq (.x 73) (.c 1),.seq (.x 72) (.x 40)] [] (.inl rfl) (fun t h=>[(some (t.getD 0 false || !t.getD 1 false),.x 72,3,102)]) [] δ m0 (mc rfl m0) m0 fun κ6 a6 w6 af n6 U=>cI rfl
    ⟨κ6,_,fun r S=>(U.upto r χ).trans ((K.upto r χ).trans (a0 r S)),n6.has,K.agree.trans U.agree (fun _ h=>h),K3 K.keep U.keep,by rw[←List.append_assoc]at af;exact af,ft hm fun p=>AT (by
     show say _ _ _=say ((m.how !=1)||decide ((m.QL:Int)<64)) m.pos 1;rw[ibn,show decide ((m.QL:Int)<64)=decide (m.QL<64) from by rw[decide_eq_decide];omega]) (by
     show say _ _ _=say ((m.how !=1) || !(m.to.toList==x.name.toList)) m.pos 3;rw[ibn,aw]) p⟩
  ·exact cI rfl ⟨κ3,x.QN.flatMap (ks x)++say (decide (x.QO<4)) x.pos 0,fun r S=>(I.upto r (by show r<3;omega)).trans (C.upto r (by show r<2;omega)),n4.has.re ⟨rfl,rfl,rfl,rfl,trivial⟩,((C.agree.trans I.agree fun _ h=>h).trans V fun _ h=>h).defers,((C.agree.trans I.agree fun _ h=>h).trans V fun _ h=>h).size,K3 (K3 C.keep I.keep) L,by
    have h4:aE B w4 pb v P pA (x.QN.flatMap (ks x)++((say (decide ((x.QO:Int)<4)) x.pos 0++[])++L1)):=H;rw[List.append_nil,show decide ((x.QO:Int)<4)=decide (x.QO<4) from by rw[decide_eq_decide];omega]at h4;rw[List.append_assoc];exact h4,ft hx fun p=>by simp[iV,or_comm]⟩
 refine lQ n1 bm ψ hS (fun w h=>h.QJ) (aF _ _ _) (fun l=>l.flatMap fun x=>say (decide (x.QL<64)) x.pos 1) 72 5 bW (irC 40) δ rfl rfl rfl (fun _ x d=>x.Ok∧d=irS x 0) (fun w g o x hx=>⟨_,⟨hx.2,rfl⟩,fun k=>hx.1⟩) (fun k x d κ' a' w' L1 hx D q A hK J n=>?_) fun κ2 a2 w2 X R bd a9=>?_
 ·obtain⟨ok,rfl⟩:=D
  exact aK (dq (z0:=0) (cnt:=2) (k':=3) (F':=fx 32 72 (ck 72 5 bW)) (M':=[]) (e':=[0]) n rfl J q A [.cmp .lss (.x 41) (.c 64)] [] (.inl rfl) (fun t h=>[(some (t.getD 0 false),.x 40,1,101)]) [] δ m0 (mc rfl m0) m0 fun κ2 a2 w2 E R C=>cI rfl
   ⟨κ2,_,fun r S=>C.upto r (by show r<2;omega),R.has,C.agree.defers,C.agree.size,C.keep,E,ft hx fun p=>by
    show _↔p∈say (decide ((x.QL:Int)<(64:Nat))) x.pos 1++[];rw[Ce,List.append_nil]⟩)
 refine lQ R X ψ hS (fun w h=>h.Q8) (aF _ _ _) (fun l=>l.flatMap (kT P)) 90 4 bW (chC 40) δ rfl rfl rfl (fun _ x d=>x.Ok∧d=chZ x 0 0) (fun w g o x hx=>⟨_,⟨hx.2,rfl⟩,fun k=>hx.1⟩) (fun k x d κ' a' w' L1 hx D q A hK J n=>?_) fun κ3 a3 w3 Y Z be ba=>?_
 ·obtain⟨ok,rfl⟩:=D
  refine aK (dq (z0:=0) (cnt:=2) (k':=3) (F':=(9,.one (.p 2 0))::fx 32 90 (ck 90 4 bW)) (M':=[(2,chC 40)]) (e':=[0]) n rfl J q A [.cmp .neq (.x 41) (.c 1),.cmp .lss (.x 42) (.c 64)] [] (.inl rfl) (fun t h=>[(some (t.getD 0 false||t.getD 1 false),.x 40,1,101)]) [] δ m0 (mc rfl m0) m0 fun κ4 a4 w4 H n4 p4=>?_);refine dq (z0:=0) (cnt:=1) (k':=3) (F':=(9,.one (.p 2 0))::fx 32 90 (ck 90 4 bW)) (M':=[(2,chC 40)]) (e':=[0]) n4 rfl H ((p4.upto 0 (by show 0<2;decide)).trans q) A [.seq (.x 41) (.x 42)] [] (.inl rfl) (fun t h=>[(some (!t.getD 0 false),.x 40,3,102)]) [] δ m0 (mc rfl m0) m0 fun κ5 a5 w5 W n5 K=>?_
  have Q:κ5 0=(pb,0):=(K.upto 0 ψ).trans ((p4.upto 0 (by show 0<2;decide)).trans q);obtain⟨bs,es⟩:∃b,x.shared=b:=⟨_,rfl⟩;obtain⟨bt,et⟩:∃b,gI P x=b:=⟨_,rfl⟩;have n6:=yi n5 rfl W Q A [say (!bs||bt) x.pos 4] [(.x 40,bs)] (mc es m0) [] ξ [(73,[.one (.p 0 0),.one (.b (.c (!bs||bt))),.one (.i .i64 (.x 40)),.one (.i .i64 (.c 4)),.one (.i .i64 (.c 103))],.tu [])]
   (tX (args := #[.pointer (some ⟨pb,0,none⟩),.bool (!bs||bt),.int .i64 x.pos,.int .i64 4,.int .i64 103]) (by simp only[List.map_cons,List.map_nil,SV.den,Cl.den_p,Q];rfl) fun L' w' hk hL=>ae (!bs||bt) x.pos 4 103 hL rfl)
   [(103,[.one (.p 0 0),.ag (chC 40)],.one (.b (.c bt)))] fun y hy L' w' hk hL=>by
    obtain rfl:=List.mem_singleton.1 hy;have h1:=ss hL ok;rw[et]at h1;have ea:([SV.one (.p 0 0),.ag (chC 40)].map (SV.den ((cA v P).put 32 ((Sta.put {} 8 (chZ x 0 0)).cnt k)) κ5)).toArray = #[.pointer (some ⟨pb,0,none⟩),.agg x.cells.toArray]:=by simp only[List.map_cons,List.map_nil,SV.den,Cl.den_p,Q];rfl
    show Calls Tryz.prog 103 ([SV.one (.p 0 0),.ag (chC 40)].map _).toArray w' _;rw[ea];exact h1
  have q1:say (!decide (x.how=1)||decide (x.QL<64)) x.pos 1=say ((x.how !=1)||decide ((x.QL:Int)<(64:Nat))) x.pos 1:=by rw[ibn,Ce]
  have q2:say (!decide (x.QI=x.to)) x.pos 3=say (!(x.QI.toList==x.to.toList)) x.pos 3:=by rw[aw]
  cases bs<;>cases bt<;>exact am 1 (fun _=>true) (fx 32 90 (ck 90 4 bW)) [] 3 [0] hPt δ n6 fun κ6 a6 w6 n7 U=>cI rfl ⟨κ6,_,fun r S=>(U.upto r (by show r<3;omega)).trans ((K.upto r (by show r<3;omega)).trans (p4.upto r (by show r<2;omega))),n7.has,((p4.agree.trans K.agree fun _ h=>h).trans U.agree fun _ h=>h).defers,((p4.agree.trans K.agree fun _ h=>h).trans U.agree fun _ h=>h).size,K3 (K3 p4.keep K.keep) U.keep,
   by have h7:aE B w6 pb v P pA (_++(_++(_++L1))):=n7.gh;rw[List.append_assoc,List.append_assoc];exact h7,ft hx (Cx (T:=gV [say (_||_) x.pos 4] [0]) q1 q2 fun p=>by simp[gV,say,es,et])⟩
 refine lQ Z Y ψ hS (fun w h=>h.QD) (aF _ _ _) (fun l=>l.flatMap fun x=>say (!decide (x.QI=x.to)) x.pos 3) 134 11 bW (baC 40) δ rfl rfl rfl (fun _ x d=>x.Ok∧d=baS x 0) (fun w g o x hx=>⟨_,⟨hx.2,rfl⟩,fun k=>hx.1⟩) (fun k x d κ' a' w' L1 hx D q A hK J n=>?_) fun κ4 a4 w4 O n4 bf L=>?_
 ·obtain⟨ok,rfl⟩:=D
  exact aK (dq (z0:=0) (cnt:=2) (k':=3) (F':=fx 32 134 (ck 134 11 bW)) (M':=[]) (e':=[0]) n rfl J q A [.seq (.x 40) (.x 41)] [] (.inl rfl) (fun t h=>[(some (!t.getD 0 false),.x 40,3,102)]) [] δ m0 (mc rfl m0) m0 fun κ2 a2 w2 E R C=>cI rfl
   ⟨κ2,_,fun r S=>C.upto r (by show r<2;omega),R.has,C.agree.defers,C.agree.size,C.keep,E,ft hx fun p=>by
    show _↔p∈say (!(x.QI.toList==x.to.toList)) x.pos 3++[];rw[aw,List.append_nil]⟩)
 refine lQ n4 O ψ hS (fun w h=>h.QC) (aF _ _ _) (fun l=>l.flatMap nI) 154 6 bW (quC 40) δ rfl rfl rfl (fun _ x d=>x.Ok∧d=quS x 0 0) (fun w g o x hx=>⟨_,⟨hx.2,rfl⟩,fun k=>hx.1⟩) (fun k x d κ' a' w' L1 hx D q A hK J n=>?_) fun κ5 a5 w5 Q n5 bl bb=>?_
 ·obtain⟨ok,rfl⟩:=D
  refine aK (dq (z0:=0) (cnt:=2) (k':=3) (F':=(13,.one (.p 2 0))::fx 32 154 (ck 154 6 bW)) (M':=[(2,quC 40)]) (e':=[0]) n rfl J q A [.cmp .eql (.x 41) (.c 3),.cmp .geq (.x 42) (.c 1),.cmp .leq (.x 42) (.c 64)] [] (.inl rfl) (fun t h=>[(some (t.getD 0 false||t.getD 1 false&&t.getD 2 false),.x 40,2,113)]) [] δ m0 (mc rfl m0) m0 fun κ2 a2 w2 E R C=>?_);exact dq (z0:=0) (cnt:=1) (k':=3) (F':=fx 32 154 (ck 154 6 bW)) (M':=[]) (e':=[0]) R rfl E ((C.upto 0 (by show 0<2;decide)).trans q) A [.seq (.x 41) (.x 42)] [] (.inl rfl) (fun t h=>[(some (!t.getD 0 false),.x 40,3,102)]) [] δ m0 (mc rfl m0) m0 fun κ3 a3 w3 N Z I=>cI rfl
   ⟨κ3,_,fun r S=>(I.upto r χ).trans (C.upto r (by show r<2;omega)),Z.has,I.agree.defers.trans C.agree.defers,I.agree.size.trans C.agree.size,K3 C.keep I.keep,by rw[←List.append_assoc]at N;exact N,ft hx fun p=>AT (by
    show say _ _ _=say ((x.how==3)||decide ((x.depth:Int)≥1)&&decide ((x.depth:Int)≤64)) x.pos 2;rw[ib,show decide ((x.depth:Int)≥1)=decide (1≤x.depth) from by rw[decide_eq_decide];omega,show decide ((x.depth:Int)≤64)=decide (x.depth≤64) from by rw[decide_eq_decide];omega]) (by
    show say _ _ _=say (!(x.QI.toList==x.to.toList)) x.pos 3;rw[aw]) p⟩
 have ad:aE B w5 pb v P pA _:=n5.gh;refine cI rfl (ek rfl (bl.trans (bf.trans (be.trans (bd.trans (bc.trans D))))) ⟨rfl,ad.congr fun p=>?_,K3 (K3 (K3 (K3 a8 a9) ba) L) bb⟩);rw[show gV [] []=[] from rfl,List.nil_append];simp only[rD,List.append_nil,List.mem_append,or_assoc,or_comm,or_left_comm]
end Go.Proofs.YtpblcjipmoblnaaGreatDoor
namespace Go.Proofs.YtpblcjipmoblnaaGreatDoor.Rs
open Go.RowKit Go.Proofs.YtpblcjipmoblnaaGreatDoor Ck
def gD(x:Int):Sta where
 i _:=x
def gW(m ti tn:Nat)(e:IE)(FR:Fr):Fr:=(ti,.one (.i .i64 (.x m)))::(tn,.one (.i .i64 e))::FR
def Cm(P:Program)(N:Nat)(E0:List (Nat×Nat×IE×Nat×Nat))(R1 R2:Code)(FR:Fr)(M:Mm)(kk ti tn t m jn:Nat)(c2:BE):Bool:=
 jd (exec P { EL:=E0,FA:=[(.cmp .lss (.x m) (.ln jn),true)] } N R1 ⟨gW m ti tn (.x (m+1)) FR,M,kk,[]⟩) ⟨gW m ti tn (.x (m+1)) FR,M,kk,[]⟩ .n (fun _=>true) ((t,.one (.b c2))::gW m ti tn (.x (m+1)) FR) M kk [] &&
 (jd (exec P { EL:=E0,FA:=[(.cmp .lss (.x m) (.ln jn),false)] } N R1 ⟨gW m ti tn (.x (m+1)) FR,M,kk,[]⟩) ⟨gW m ti tn (.x (m+1)) FR,M,kk,[]⟩ .n (fun _=>true) ((t,.one (.b (.c false)))::gW m ti tn (.x (m+1)) FR) M kk [] &&
 (jd (exec P { EL:=E0 } N R2 ⟨gW m ti tn (.x (m+1)) FR,M,kk,[]⟩) ⟨gW m ti tn (.x (m+1)) FR,M,kk,[]⟩ .n (fun _=>true) ((ti,.one (.i .i64 (.bin .add .i64 (.x m) (.c 1))))::(tn,.one (.i .i64 (.x (m+1))))::FR) M kk [] &&
 (kj (lo m) FR&&(lj (lo m) M&&(xC E0 m kk&&(lo m jn&&((gt (gW m ti tn (.x (m+1)) FR) t).isNone&&((gW m ti tn (.x (m+1)) FR).all fun x=>x.2.sc kk))))))))
theorem Has.acc{S S':Sta}{κ:Kap}{N m j l:Nat}{FR:Fr}{a:Act}{e e':IE}{k:Int}(u:Agr (lo m) S S')(w:kj (lo m) FR=true)(x:e'.den S'=k)(h:Has S' κ N ((j,.one (.i .i64 e'))::(l,.one (.i .i64 e))::FR) a):Has (S.put m ((gD (e.den S')).cnt k)) κ N (gW m j l (.x (m+1)) FR) a:=by
 have p:(S.put m ((gD (e.den S')).cnt k)).i m=k:=by
  have:Nat.ble m m=true:=Nat.ble_eq_true_of_le (Nat.le_refl m);simp[Sta.put,Sta.cnt,this]
 have r:(S.put m ((gD (e.den S')).cnt k)).i (m+1)=e.den S':=by
  have:Nat.ble m (m+1)=true:=Nat.ble_eq_true_of_le (Nat.le_succ m);simp[Sta.put,Sta.cnt,this,gD];rfl
 refine⟨h.size,fun t v d=>?_⟩;rw[gW,bD]at d;split at d
 ·rename_i q
  obtain rfl:=Option.some.inj d;subst q;rw[h.get _ _ (by rw[bD,if_pos rfl])];simp only[SV.den,Cl.den_i,IE.den,p,x]
 ·rename_i q
  rw[bD]at d;split at d
  ·rename_i g
   obtain rfl:=Option.some.inj d;subst g;rw[h.get _ _ (by rw[bD,if_neg q,bD,if_pos rfl])];simp only[SV.den,Cl.den_i,IE.den,r]
  ·rename_i g
   rw[h.get t v (by rw[bD,if_neg q,bD,if_neg g];exact d)];have hv:SV.on (lo m) v=true:=List.all_eq_true.1 w _ (ki d);rw[SV.on_ok u hv,SV.on_ok (aQ S m _) hv]
def za(S:Sta)(κ:Kap)(N m kk ti tn:Nat)(FR:Fr)(k:Nat)(a0:Act)(w0:World)(a:Act)(w:World):Prop:=
 ∃S' κ' e,Agr (lo m) S S'∧S'.i m=k∧eU kk κ κ'∧Has S' κ' N (gW m ti tn e FR) a∧a.defers=a0.defers∧Kz w0 w
theorem zB{S:Sta}{κ:Kap}{N:Nat}{P:Program}{C:Ctx}{b Z t kk:Nat}{M:Mm}{es:List Nat}{R1 R2 body:Code}{Q:Exit→Act→World→Prop}{B:Act}{A:World}(E0:List (Nat×Nat×IE×Nat×Nat)){l r:Nat}{e0:IE}{FR:Fr}(E:Now S κ N P C H0 ⟨(l,.one (.i .i64 (.c 0)))::(r,.one (.i .i64 e0))::FR,M,kk,es⟩ B A)(hE:C.EL=E0)(n m O:Nat)(c2:BE)(V:P.follows .mixedOrders=true)
 (hB:Cm P N E0 R1 R2 FR M kk l r t m O c2=true)(hn:S.n O=n)(u:n≤4611686018427387904)
 (hb:∀(k:Nat) x a w,k<n→Now (S.put m ((gD x).cnt k)) κ N P { EL:=E0 } H0 ⟨gW m l r (.x (m+1)) FR,M,kk,[]⟩ a w→Kz A w→a.defers=B.defers→body.wp P (cC b Z (za S κ N m kk l r FR k B A) Q) a w)
 (hq:∀(k:Nat) x a w,Now (S.put m ((gD x).cnt k)) κ N P { EL:=E0 } H0 ⟨gW m l r (.x (m+1)) FR,M,kk,[]⟩ a w→Kz A w→a.defers=B.defers→Q .normal a w):
 (Code.block b (Code.loop (Code.seq (Code.seq R1 (Code.cond (.tmp t) .skip (.exit b))) (Code.seq (Code.block Z body) R2)))).wp P Q B A:=by
 simp only[Cm,Bool.and_eq_true]at hB;obtain⟨h1,h2,h3,D,U,W,hj,ht,v⟩:=hB;have hx:∀(k:Int) (d:Sta),(S.put m (d.cnt k)).i m=k:=fun k d=>by
  have:Nat.ble m m=true:=Nat.ble_eq_true_of_le (Nat.le_refl m);simp[Sta.put,Sta.cnt,this]
 let I:Nat→Act→World→Prop:=fun k a w=>k≤n∧∃x,Has (S.put m ((gD x).cnt k)) κ N (gW m l r (.x (m+1)) FR) a∧a.defers=B.defers∧Kz A w
 have q:∀{k:Nat} {x a w},Has (S.put m ((gD x).cnt k)) κ N (gW m l r (.x (m+1)) FR) a→Kz A w→Now (S.put m ((gD x).cnt k)) κ N P { EL:=E0 } H0 ⟨gW m l r (.x (m+1)) FR,M,kk,[]⟩ a w:=fun hh h =>
  ⟨hh,(E.mem.on (aQ S m _) U).keep h,oW E.ctx hE W (aQ S m _),fun g hg=>hg.elim,trivial⟩
 have L:∀(k:Nat) x,BE.den (S.put m ((gD x).cnt k)) (.cmp .lss (.x m) (.ln O))=decide (k<n):=fun k x=>by
  simp only[BE.den,gz,IE.den,hx,(aQ S m _).n _ hj,hn,Int.ofNat_lt]
 refine ua n I I (za S κ N m kk l r FR · B A) (fun a w=>∃k,I k a w)
  (fun a=>match a.tmps[l]? with|some (.int _ x)=>x.toNat|_=>0) ⟨Nat.zero_le _,_,Has.acc (Agr.refl _ _) D rfl E.has,rfl,aD.refl _ _⟩ ?_ ?_ ?_ ?_ ?_
 ·rintro k a w ⟨hk,x,hh,_⟩
  rw[hh.get l (.one (.i .i64 (.x m))) (by rw[gW,bD,if_pos rfl])];simp only[SV.den,Cl.den_i,IE.den,hx];rfl
 ·rintro k a w ⟨hk,x,hh,y,h⟩
  by_cases u:k<n
  ·have H:=(q hh h).fa [(.cmp .lss (.x m) (.ln O),true)] (fac (by rw[L];exact decide_eq_true u) cS)
   refine seg .n _ _ M kk [] V h1 H fun κ' J w' j p=>⟨rfl,?_⟩
   have hI:I k J w':=⟨hk,x,(j.has.tail ht).back p.upto v,p.agree.defers.trans y,K3 h p.keep⟩;have:=j.has.get t _ (by rw[bD,if_pos rfl]);have R:J.eval (.tmp t)=.bool (c2.den (S.put m ((gD x).cnt k))):=by
    show J.tmps.getD t undef=_;rw[Array.getD_eq_getD_getElem?,this];simp only[SV.den,Cl.den_b,Option.getD_some]
   cases e2:c2.den (S.put m ((gD x).cnt k))with
   | true=>rw[e2]at R;exact .inl ⟨R,u,hI⟩
   | false=>rw[e2]at R;exact .inr ⟨R,k,hI⟩
  ·have H:=(q hh h).fa [(.cmp .lss (.x m) (.ln O),false)] (fac (by rw[L];exact decide_eq_false u) cS)
   refine seg .n _ _ M kk [] V h2 H fun κ' J w' j p=>⟨rfl,.inr ⟨?_,k,hk,x,(j.has.tail ht).back p.upto v,p.agree.defers.trans y,K3 h p.keep⟩⟩
   have:=j.has.get t _ (by rw[bD,if_pos rfl]);show J.tmps.getD t undef=_;rw[Array.getD_eq_getD_getElem?,this];simp only[SV.den,Cl.den_b,Option.getD_some,BE.den]
 ·rintro k a w hk ⟨ac,x,hh,y,h⟩
  exact hb k x a w hk (q hh h) h y
 ·rintro k a w hk ⟨S',κ',e,hA,hi,hu,hh,y,h⟩
  have X:=Has.acc hA D (show IE.den S' (.x m)=k from hi) hh;have Y:=X.back hu v;refine seg .n _ _ M kk [] V h3 (q Y h) fun κ2 J w' j p=>?_
  have K:((((l,SV.one (.i .i64 (.bin .add .i64 (.x m) (.c 1))))::(r,.one (.i .i64 (.x (m+1))))::FR):Fr).all fun x=>x.2.sc kk)=true:=v;have h9:=Has.acc (k:=(k+1:Nat)) (aQ S m _) D (by simp only[IE.den,lM,hx];rw[IntWalk.i64_in _ χ];omega) (j.has.back p.upto K);exact⟨rfl,hk,_,h9,p.agree.defers.trans y,K3 h p.keep⟩
 ·rintro a w ⟨k,_,x,hh,y,h⟩
  exact hq k x a w (q hh h) h y
def gE:IE:=[1,2,3,4,5,7,8,9,6,10,11].foldl (fun e j =>.bin .add .i64 e (.ln j)) (.ln 0)
def gR:Fr:=[(4,.one (.i .i64 (.c 0))),(1,.one (.p 0 0))]
def gC:BE := .cmp .leq (.x 33) (.c 3000)
theorem wa{B:Nat}{w:World}{v:aR}{P:aC}(h:ao B w v P)(hB:B≤w.heap.size):Calls Tryz.prog 9 #[.agg (v.cells P).toArray] w fun e w'=>∃b:Bool,e=.returned (.bool b)∧Kz w w':=by
 have lt:∀{α:Type} {k:Nat} {R:World→Nat→Nat→α→Prop} {w:World} {v:Value} {xs:List α},aJ B k R w v xs→xs.length≤4611686018427387904:=fun h=>by obtain⟨_,_,_,_,hl,_⟩:=h;unfold top at hl;omega
 refine fnE (cA v P) (fun _=>(0,0)) [.ag aa] Tryz.func9 Tryz.ntmps9 rfl (by rw[List.map_cons,b6 h (Agr.refl _ _)];rfl) ψ H0 (fun _ h=>h.elim) trivial fun a hd hh=>?_
 refine am 4 (fun _=>true) ((5,.one (.i .i64 (.c 0)))::(3,.one (.i .i64 gE))::gR) [(0,aa)] 1 [] hPt δ hh fun κ1 a1 w1 n1 p1=>?_
 refine aM (zB [] n1 rfl P.Q4.length 32 1 gC hPt δ rfl (lt h.Q4) (fun k x a2 w2 hk A p d=>?_) fun k x a2 w2 A bb be=>?_)
 ·obtain⟨y,Q⟩:=ge hk
  obtain⟨g,o,D,E,V,H,L,_⟩:=ai h.Q4 (bh B) hB (K3 p1.keep p) Q;obtain⟨κ',O,n3⟩:=A.elem (j:=1) (x:=oV y V) (cl:=kJ 40) D ⟨E,id⟩ hk H (gB L _ _ _) δ;exact aK (am 1 (fun _=>true) (gW 32 5 3 (.bin .add .i64 (.x 33) (.ln 40)) gR) [] 2 [] hPt δ n3 fun X a3 w3 C l=>cI rfl ⟨_,X,_,aQ _ _ _,rfl,fun r q=>(l.upto r (by show r<2;omega)).trans (O r q),C.has,l.agree.defers.trans d,K3 p l.keep⟩)
 refine am 1 (fun _=>true) ((6,.one (.i .i64 (.c 0)))::(3,.one (.i .i64 (.x 33)))::gR) [(0,aa)] 1 [] hPt δ A fun κ3 a3 w3 n3 p3=>?_
 have Y:=K3 (K3 p1.keep bb) p3.keep;refine aM (zB [] n3 rfl P.Q3.length 32 3 gC hPt δ rfl (lt h.Q3) (fun k x a2 w2 hk A p d=>?_) fun k x a4 w4 C bc bf=>?_)
 ·obtain⟨y,Q⟩:=ge hk
  obtain⟨g,o,D,E,V,u',H,L,q,_⟩:=ai h.Q3 (bX B) hB (Rs.K3 Y p) Q;obtain⟨κ',O,n5⟩:=A.elem (j:=3) (x:=kV y V u') (cl:=jQ 40) D ⟨E,id⟩ hk H (ju L q _ _ _) δ;exact aK (am 1 (fun _=>true) (gW 32 6 3 (.bin .add .i64 (.bin .add .i64 (.x 33) (.ln 40)) (.ln 41)) gR) [] 2 [] hPt δ n5 fun X a3 w3 C l=>cI rfl ⟨_,X,_,aQ _ _ _,rfl,fun r q=>(l.upto r (by show r<2;omega)).trans (O r q),C.has,l.agree.defers.trans d,Rs.K3 p l.keep⟩)
 refine am 1 (fun _=>true) ((7,.one (.i .i64 (.c 0)))::(3,.one (.i .i64 (.x 33)))::gR) [(0,aa)] 1 [] hPt δ C fun κ5 a5 w5 n5 p5=>?_
 have I:=Rs.K3 (Rs.K3 Y bc) p5.keep;refine aM (zB [] n5 rfl P.Q9.length 32 7 gC hPt δ rfl (lt h.Q9) (fun k x a2 w2 hk A p d=>?_) fun k x a6 w6 n6 bd bl=>?_)
 ·obtain⟨y,Q⟩:=ge hk
  obtain⟨g,o,D,E,V,H,L,_⟩:=ai h.Q9 (dK B) hB (Rs.K3 I p) Q;obtain⟨κ',O,n7⟩:=A.elem (j:=7) (x:=plS y V false) (cl:=plC 40) D ⟨E,id⟩ hk H (by show([.int .i64 y.pos,.string y.name,.int .u64 y.QM,.slice (vA V) y.QH.length (vC V)]:List Value)=_;rw[aU L]) δ;refine aK (am 2 (fun _=>true) ((8,.one (.i .i64 (.c 0)))::(3,.one (.i .i64 (.bin .add .i64 (.x 33) (.bin .mul .i64 (.c 10) (.ln 40)))))::(7,.one (.i .i64 (.x 32)))::gR) [(1,plC 40),(0,aa)] 2 [] hPt δ n7 fun κ8 a8 w8 n8 p8=>?_);have ba:B≤w2.heap.size:=by have:=(Rs.K3 I p).size;omega
  refine aM (zB [(7,4,.x 32,7,1)] n8 rfl y.QH.length 64 40 (.cmp .leq (.x 65) (.c 3000)) hPt δ rfl (lt L) (fun j x2 a9 w9 hj U u K=>?_) fun j x2 a9 w9 U u K=>?_)
  ·obtain⟨z,hz⟩:=ge hj
   obtain⟨g',o',ad,af,W,a0,q,_⟩:=ai L (cK B) ba (Rs.K3 p8.keep u) hz;obtain⟨κ4,bo,bp⟩:=U.elem (j:=40) (x:=laS z W) (cl:=laC 72) ad ⟨af,id⟩ hj a0 (by show([.int .i64 z.pos,.int .u64 z.QO,.bool z.needs,.slice (vA W) z.runs.length (vC W)]:List Value)=_;rw[aU q]) δ;exact aK (am 1 (fun _=>true) (gW 64 8 3 (.bin .add .i64 (.x 65) (.bin .quo .i64 (.ln 72) (.c 2))) ((7,.one (.i .i64 (.x 32)))::gR)) [] 3 [] hPt δ bp fun X a3 w3 C l=>cI rfl ⟨_,X,_,aQ _ _ _,rfl,fun r q=>(l.upto r (by show r<3;omega)).trans (bo r q),C.has,l.agree.defers.trans K,Rs.K3 u l.keep⟩)
  ·exact cI rfl ⟨_,κ8,.x 65,(aQ _ _ _).trans ((aQ _ 64 _).mono fun j hj=>Nat.ble_eq_true_of_le (Nat.le_trans (Nat.le_of_ble_eq_true hj) ψ)),rfl,fun r q=>(p8.upto r (by show r<2;omega)).trans (O r q),U.has.sub δ,K.trans (p8.agree.defers.trans d),Rs.K3 (Rs.K3 p p8.keep) u⟩
 refine am 1 (fun _=>true) ((9,.one (.i .i64 (.c 0)))::(4,.one (.i .i64 (.c 0))) :: [(3,.one (.i .i64 (.x 33))),(1,.one (.p 0 0))]) [(0,aa)] 1 [] hPt δ n6 fun κ7 a7 w7 n7 p7=>?_
 have J:=Rs.K3 (Rs.K3 I bd) p7.keep;refine aM (zB [] n7 rfl P.Q5.length 64 2 gC hPt δ rfl (lt h.Q5) (fun k x a2 w2 hk A p d=>?_) fun k2 x2 a8 w8 n8 Z bm=>?_)
 ·obtain⟨y,Q⟩:=ge hk
  obtain⟨g,o,D,E,H,_⟩:=ai h.Q5 (aF _ _ _) hB (Rs.K3 J p) Q;obtain⟨κ',O,n5⟩:=A.elem (j:=2) (x:=eO y) (cl:=pD 72) D ⟨E,id⟩ hk H rfl δ;exact aK (am 1 (fun _=>true) (gW 64 9 4 (.bin .add .i64 (.x 65) (.z (.x 73))) [(3,.one (.i .i64 (.x 33))),(1,.one (.p 0 0))]) [] 2 [] hPt δ n5 fun X a3 w3 C l=>cI rfl ⟨_,X,_,aQ _ _ _,rfl,fun r q=>(l.upto r (by show r<2;omega)).trans (O r q),C.has,l.agree.defers.trans d,Rs.K3 p l.keep⟩)
 have fin:∀{S:Sta} {κ:Kap} {N:Nat} {F:Fr} {b:BE} {a:Act} {w':World},Has S κ N F a→gt F 2=some (.one (.b b))→a.defers=[]→Kz w w'→bodyPost Tryz.prog Tryz.f9 (fun e w'=>∃b:Bool,e=.returned (.bool b)∧Kz w w') .ret a w':=fun hh hg hd p=>fX 2 rfl hh hg hd ⟨_,by rw[SV.den,Cl.den_b],p⟩
 have ac:=bm.trans (p7.agree.defers.trans (bl.trans (p5.agree.defers.trans (bf.trans (p3.agree.defers.trans (be.trans (p1.agree.defers.trans hd)))))))
 generalize Sta.put _ 64 _=S8 at n8
 cases eb:BE.den S8 (.cmp .gtr (.x 33) (.c 3000))with
 | true=>exact eJ 2 (fun _=>true) [(2,.one (.b (.c true)))] [] 1 [] hPt δ (n8.fa [(.cmp .gtr (.x 33) (.c 3000),true)] (fac eb cS)) fun κ9 a9 w9 U p9=>fin U.has rfl (p9.agree.defers.trans ac) (Rs.K3 (Rs.K3 J Z) p9.keep)
 | false=>exact eJ 2 (fun _=>true) [(2,.one (.b (.cmp .gtr (.x 65) (.c 10000000))))] [] 1 [] hPt δ (n8.fa [(.cmp .gtr (.x 33) (.c 3000),false)] (fac eb cS)) fun κ9 a9 w9 U p9=>fin U.has rfl (p9.agree.defers.trans ac) (Rs.K3 (Rs.K3 J Z) p9.keep)
