import Derived.Test.YthobcefghkeddaaGreatDoorAhdP
import Derived.Test.YthobcefghkeddaaGreatDoorPl2
import Derived.Test.YthobcefghkeddaaGreatDoorWho
set_option maxRecDepth 100000
set_option linter.all false
set_option maxHeartbeats 4000000
namespace Go.Proofs.YthobcefghkeddaaGreatDoor
namespace Rs
open Go.RowKit Go.IntWalk Ck
variable {w:World}
theorem Now.bare{S:Sta}{κ:Kap}{N:Nat}{P:Program}{C:Ctx}{H:Gh}{s:St}{a:Act}(h:Now S κ N P C H s a w):Now S κ N P {} H s a w:=⟨h.has,h.mem,Rs.noC _ _ _ _ _,h.tb,h.gh⟩
def lcS(p:Int)(QN c0:Nat)(nd:Bool)(A:Option Addr)(n c:Nat):Sta where
 i j:=match j with|0=>p|1=>QN|_=>c0
 b _:=nd
 a _:=A
 n j:=match j with|0=>n|_=>c
theorem AZ(w:World)(d:Nat)(c0 QN n c:Nat)(p:Int)(u:Bool)(A:Option Addr)(q:d<w.heap.size)(x:w.cell? ⟨d,0,none⟩=some (.int .u64 c0)):
 Calls Tryz.prog 119 #[.agg #[.int .i64 p,.int .u64 QN,.bool u,.slice A n c],.pointer (some ⟨d,0,none⟩)] w fun e w'=>e=.returned (.bool (decide (QN=c0)))∧Kz w w':=by
 refine fnE (lcS p QN c0 u A n c) (fun _=>(d,0)) [.ag [.i .i64 (.x 0),.i .u64 (.x 1),.b (.x 0),.sl 0 0 1],.one (.p 0 0)] Tryz.func119 Tryz.ntmps119 rfl rfl ψ H0 (fun _ h=>h.elim) trivial fun a y hh=>?_
 have n0:Now (lcS p QN c0 u A n c) (fun _=>(d,0)) 8 Tryz.prog {} H0 ⟨pG 0 [.ag [.i .i64 (.x 0),.i .u64 (.x 1),.b (.x 0),.sl 0 0 1],.one (.p 0 0)],[(0,[.i .u64 (.x 2)])],1,[]⟩ a w:=⟨hh.has,⟨fun r l B=>by
  obtain⟨rfl,rfl⟩:r=0∧l=[.i .u64 (.x 2)]:=by cases List.mem_singleton.1 (gV B);exact⟨rfl,rfl⟩
  exact⟨⟨q,id⟩,fun j c g=>by
   match j,g with
   | 0,g=>obtain rfl:=Option.some.inj g;exact x⟩⟩,hh.ctx,hh.tb,hh.gh⟩
 refine eL 3 (fun _=>true) [(3,.one (.b (.cmp .eql (.x 1) (.x 2))))] [] 2 [] hPp δ n0 fun H D E C v=>?_
 refine gS 3 rfl C.has rfl (v.agree.defers.trans y) ⟨?_,v.keep⟩;show Ending.returned (.bool ((QN:Int)==(c0:Int)))=_
 congr 2
 by_cases e:QN=c0
 ·subst e;simp
 ·simp[e];omega
def ixS(A:Option Addr)(n c bz:Nat):Sta where
 a _:=A
 n j:=match j with|0=>n|_=>c
 o _ := .func (.func 119) #[] #[.pointer (some ⟨bz,0,none⟩)]
def ixR:Fr:=[(7,.one (.i .i64 (.ln 0))),(0,.one (.sl 0 0 1)),(1,.one (.v 0))]
def G8(x:cN)(v:Value)(r:Bool):Sta:={ laS x v with b:=fun j=>match j with|0=>x.needs|_=>r }
theorem sp{B:Nat}{A:Option Addr}{c:Nat}{ls:List cN}(hs:aL B 4 (gY B) w (.slice A ls.length c) ls)(hB:B≤w.heap.size){l c0:Nat}(J:l<w.heap.size)(hb:w.cell? ⟨l,0,none⟩=some (.int .u64 c0)):
 Calls Tryz.prog 118 #[.slice A ls.length c,.func (.func 119) #[] #[.pointer (some ⟨l,0,none⟩)]] w fun e w'=>e=.returned (.int .i64 (fu ls c0))∧Kz w w':=by
 obtain⟨R,Y⟩:∃R:Ending→World→Prop,R=fun e w'=>e=.returned (.int .i64 (fu ls c0))∧Kz w w':=⟨_,rfl⟩
 rw[←Y];have ad:ls.length≤2097152:=by obtain⟨_,_,e,_,hl,_⟩:=hs;exact hl
 refine fnE (ixS A ls.length c l) (fun _=>(l,0)) [.one (.sl 0 0 1),.one (.v 0)] Tryz.func118 Tryz.ntmps118 rfl rfl ψ H0 (fun _ h=>h.elim) trivial fun a hd hh=>?_
 have n0:Now (ixS A ls.length c l) (fun _=>(l,0)) 19 Tryz.prog {} H0 ⟨pG 0 [.one (.sl 0 0 1),.one (.v 0)],[],1,[]⟩ a w:=⟨hh.has,hh.mem,hh.ctx,hh.tb,hh.gh⟩;refine bQ 2 (fun _=>true) ((8,.one (.i .i64 (.c 0)))::ixR) [] 1 [] hPp δ n0 fun κ1 a1 w1 n1 L=>?_
 refine bO (pn (ε:=Unit) n1 ls.length 24 8 0 ixR (fun _=>true) (fun _=>{}) (fun k _ _=>∀y∈ls.take k,y.QN≠c0) (fun _ _ _ _ _ h=>h) () hPp δ rfl χ (fun y d=>by simp at d) (n1.has.re ⟨rfl,rfl,rfl,rfl,trivial⟩) (fun k e a4 w4 hk K V W=>?_) fun e a4 w4 K V W=>?_)
 ·obtain⟨x,hx⟩:=ge hk
  have E:Kz w w4:=L.keep.trans W fun _ _ h=>h
  obtain⟨g,o,h1,h2,u,h3,⟨A_r,v,rfl,_⟩,_⟩:=dm hs (dB _) hB E hx;have q:∀y∈ls.take k,y.QN≠c0:=K.gh;obtain⟨κ5,u5,n5⟩:=K.elem (j:=0) (x:=G8 x (.slice A_r x.runs.length v) (decide (x.QN=c0))) (cl:=laC 32) h1 ⟨h2,id⟩ hk h3 rfl δ;have ac:κ5 0=(l,0):=(u5 0 ψ).trans (L.upto 0 ψ);refine am (bQ 1 (fun _=>true) ((5,.one (.i .i64 (.x 24)))::fx 24 8 ixR) [(1,laC 32)] 2 [] hPp δ n5 fun U a6 w6 n6 D=>?_);have H:=K3 E D.keep;have Q:U 0=(l,0):=(D.upto 0 ψ).trans ac;refine jK (C:={ EL:=_,ET:=[(119,[.ag (laC 32),.one (.p 0 0)],.one (.b (.x 33)))] }) (CL:={ CL:=[(0,119,[.one (.p 0 0)])] }) (fun _=>true) ((16,.one (.b (.x 33)))::(5,.one (.i .i64 (.x 24)))::fx 24 8 ixR) [] 2 [0] δ (n6.more [] [] [(119,[.ag (laC 32),.one (.p 0 0)],.one (.b (.x 33)))] hO (fun y d=>by cases d) (fun i y d e w' aa hg=>by
   have d:=List.mem_of_getElem? d;obtain rfl:=List.mem_singleton.1 d;show Calls Tryz.prog 119 #[.agg #[.int .i64 x.pos,.int .u64 x.QN,.bool x.needs,.slice A_r x.runs.length v],.pointer (some ⟨(U 0).1,(U 0).2+0,none⟩)] w' _;rw[Q];have I:=K3 H aa;exact(AZ w' l c0 x.QN x.runs.length v x.pos x.needs A_r (Nat.lt_of_lt_of_le J I.size) ((I.cell (p:=⟨_,_,none⟩) J id).trans hb)).mono fun en af ⟨q1,q2⟩=>⟨q1,q2,hg⟩)) ⟨fun y d=>by
   obtain rfl:=List.mem_singleton.1 d;show Value.func (.func 119) #[] #[.pointer (some ⟨l,0,none⟩)]=.func (.func 119) #[] #[.pointer (some ⟨(U 0).1,(U 0).2+0,none⟩)];rw[Q],fun _ h=>by cases h⟩ fun κ7 a7 w7 X N=>?_
  have Z:=N.agree.defers.trans (D.agree.defers.trans (V.defers.trans (L.agree.defers.trans hd)))
  by_cases hc:x.QN=c0
  ·refine cD true X rfl (show decide (x.QN=c0)=true from decide_eq_true hc) ?_
   refine eL 2 (fun _=>true) [(4,.one (.i .i64 (.x 24)))] [] 2 [0] hPp δ X fun κ8 a8 w8 n8 O=>bY (bi ?_)
   refine gS 4 rfl n8.has rfl (O.agree.defers.trans Z) ?_;rw[Y];refine⟨?_,K3 (K3 H N.keep) O.keep⟩;rw[Ah hx hc q];rfl
  ·refine cD false X rfl (show decide (x.QN=c0)=false from decide_eq_false hc) (fQ (ch rfl ?_))
   refine⟨(),κ7,fun y d=>?_,fun r (hr:r<1)=>(N.upto r (by show r<2;omega)).trans ((D.upto r (by show r<2;omega)).trans (u5 r hr)),X.has.re ⟨rfl,rfl,rfl,rfl,trivial⟩,(V.trans D.agree fun _ h=>h).trans N.agree fun _ h=>h,K3 (K3 W D.keep) N.keep⟩;rw[List.take_add_one,hx]at d
   rcases List.mem_append.1 d with d|d
   ·exact q y d
   ·obtain rfl:=List.mem_singleton.1 d
    exact hc
 ·have q:∀y∈ls.take ls.length,y.QN≠c0:=K.gh
  rw[List.take_length]at q;refine eL 2 (fun _=>true) [(4,.one (.i .i64 (.c (-1))))] [] 1 [] hPp δ K fun κ8 a8 w8 n8 O=>?_
  refine gS 4 rfl n8.has rfl (O.agree.defers.trans (V.defers.trans (L.agree.defers.trans hd))) ?_;rw[Y];refine⟨?_,K3 (K3 L.keep W) O.keep⟩;rw[sq q];rfl
def DH(e:Nat):Sta where
 i j:=match j with|0=>0|_=>e
theorem ke{a b:Nat}(h:a+b<9223372036854775808):IntKind.i64.wrap ((a:Int)+(b:Int))=((a+b:Nat):Int):=by rw[i64_in _ χ];omega
theorem D9{a b:Nat}(h:a*b<9223372036854775808):IntKind.i64.wrap ((a:Int)*(b:Int))=((a*b:Nat):Int):=by
 have:((a:Int)*(b:Int))=((a*b:Nat):Int):=ξ
 rw[this,i64_in _ χ]
def ahD(b:Nat)(i:Int):Sta where
 o _ := .func (.func 119) #[] #[.pointer (some ⟨b,0,none⟩)]
 i _:=i
def GE:Kn:={ KO:=[(78,[(9,.one (.p 3 0))],.one (.v 72))] }
def GF:List (FuncId×List SV×SV):=[(118,[.one (.sl 48 48 49),.one (.v 72)],.one (.i .i64 (.x 72)))]
def ahM:Mm:=[(0,av),(2,plC 48),(3,[.i .u64 (.x 64)])]
def Cm:Fr:=[(73,.one (.i .u64 (.x 64))),(8,.one (.p 2 0)),(69,.one (.i .i64 (.x 40))),(68,.one (.i .i64 (.ln 7))),(67,.one (.sl 7 7 19)),(1,.one (.p 0 0))]
def ahV(L:Nat)(i:Nat)(u:Value):Prop:=match i with
 | 7|8=>∃(A:Option Addr) (c:Nat) (a b:Value),u=.tuple #[.slice A L c,a,b]
 | 9|12=>∃(A:Option Addr) (c:Nat),u=.slice A L c
 | _=>True
def ahS(A:Option Addr)(L c:Nat)(u:Value):Sta where
 a _:=A
 n j:=match j with|0=>L|_=>c
 o _:=u
theorem ER{S:Sta}{N:Nat}{P:Program}{C:Ctx}{H:Gh}{id:Nat}{ops:Array Oper}{rest:List Code}{Q:Exit→Act→World→Prop}{s:St}{κ:Kap}{a:Act}(c n:Nat)(F1:Fr)(V:Nat→World→Value→Prop)(D:P.follows .mixedOrders=true)(y:dvB P C N ops.toList s c n F1=true)(E:Now S κ N P C H s a w)(x:∀j w' g v,Kz w' g→V j w' v→V j g v)
 (u:∀i o,c≤i→i<n→ops.toList[i]?=some o→∀h w' K,Kz w w'→Has S κ N (jM ops.toList o F1) h→(∀j d,c≤j→j<n→(o.after.any fun e=>Region.binds .any e&&e.on==j)=true→aO ops.toList j=some d→∃v,At h d v∧V j w' v) →
  (∀v g,Kz w' g→V i g v→K (h.put o.dst v) g)→o.wp P h w' K (Exit.then (wpL P Q rest) Q))
 (q:∀o,ops.toList[n]?=some o→∀h w',Kz w w'→fU ops.toList n a h→Has S κ N F1 h→(∀j d,c≤j→j<n→aO ops.toList j=some d→∃v,At h d v∧V j w' v)→wpList P ops.toList.toArray (Exit.then (wpL P Q rest) Q) [o] h w'):wpL P Q (Code.region id ops true::rest) a w:=by
 obtain⟨l,B⟩:∃l,l=ops.toList:=⟨_,rfl⟩;obtain rfl:ops=l.toArray:=by rw[B]
 rw[←B]at y u q;exact tN c n F1 V D y E x u q
def ahE:IE := .bin .add .i64 (.bin .add .i64 (.c 248) (.bin .mul .i64 (.c 16) (.bin .add .i64 (.ln 0) (.ln 1)))) (.bin .mul .i64 (.c 8) (.bin .add .i64 (.bin .add .i64 (.bin .add .i64 (.bin .add .i64 (.bin .add .i64 (.ln 3) (.ln 1)) (.ln 4)) (.ln 5)) (.ln 6)) (.ln 7)))
def ahN(P:aF):Nat:=248+16*(P.QF.length+P.Q5.length)+8*(P.Q4.length+P.Q5.length+P.Q8.length+P.QL.length+P.QB.length+P.Q9.length)
def GD:Fr:=[(4,.one (.i .i64 (.x 25))),(52,.one (.i .i64 (.ln 2))),(51,.one (.sl 2 2 14)),(1,.one (.p 0 0))]
def GC:Fr:=[(4,.one (.i .i64 (.x 41))),(68,.one (.i .i64 (.ln 7))),(67,.one (.sl 7 7 19)),(1,.one (.p 0 0))]
def BM:Fr:=[(4,.one (.i .i64 (.x 65))),(8,.one (.p 2 0)),(69,.one (.i .i64 (.x 40))),(68,.one (.i .i64 (.ln 7))),(67,.one (.sl 7 7 19)),(1,.one (.p 0 0))]
theorem yw{B:Nat}{v:aY}{P:aF}(H:ax B w v P)(hB:B≤w.heap.size):Calls Tryz.prog 67 #[.agg (v.cells P).toArray] w fun e w'=>e=.returned (.int .i64 (dT ae P))∧Kz w w':=by
 obtain⟨R,hR⟩:∃R:Ending→World→Prop,R=fun e w'=>e=.returned (.int .i64 (dT ae P))∧Kz w w':=⟨_,rfl⟩
 rw[←hR];have a9:∀x∈P.Q3,x.text.size≤2097152:=ck H.Q3 fun b o x U=>U.2.2.2.2.2.2
 have lt:∀{α:Type} {k:Nat} {R:World→Nat→Nat→α→Prop} {w:World} {v:Value} {xs:List α},aL B k R w v xs→xs.length≤2097152:=fun h=>by obtain⟨_,_,_,_,hl,_⟩:=h;exact hl
 have q0:=lt H.QF;have q1:=lt H.Q5;have q2:=lt H.Q3;have q3:=lt H.Q4;have q4:=lt H.Q8;have q5:=lt H.QL;have q6:=lt H.QB;have q7:=lt H.Q9;have hE:ahE.den (cU v P)=(ahN P:Nat):=by
  show IntKind.i64.wrap (IntKind.i64.wrap (((248:Nat):Int)+IntKind.i64.wrap (((16:Nat):Int)*IntKind.i64.wrap ((P.QF.length:Int)+(P.Q5.length:Int))))+IntKind.i64.wrap (((8:Nat):Int)*IntKind.i64.wrap (IntKind.i64.wrap (IntKind.i64.wrap (IntKind.i64.wrap (IntKind.i64.wrap ((P.Q4.length:Int)+(P.Q5.length:Int))+(P.Q8.length:Int))+(P.QL.length:Int))+(P.QB.length:Int))+(P.Q9.length:Int))))=_;rw[ke (a:=P.QF.length),D9 (a:=16),ke (a:=248),ke (a:=P.Q4.length),ke (a:=P.Q4.length+P.Q5.length),ke (b:=P.QL.length),ke (b:=P.QB.length),ke (b:=P.Q9.length),D9 (a:=8),ke]
  ·rfl
  all_goals omega
 refine fnE (cU v P) (fun _=>(0,0)) [.ag av] Tryz.func67 Tryz.ntmps67 rfl (by rw[List.map_cons,cX H (Agr.refl _ _)];rfl) ψ H0 (fun _ h=>h.elim) trivial fun a hd hh=>?_
 refine bQ 4 (fun _=>true) [(53,.one (.i .i64 (.c 0))),(4,.one (.i .i64 ahE)),(52,.one (.i .i64 (.ln 2))),(51,.one (.sl 2 2 14)),(1,.one (.p 0 0))] [(0,av)] 1 [] hPp δ hh fun κ1 a1 w1 n1 p1=>?_
 refine bO (pn n1 P.Q3.length 24 53 2 GD (fun _=>true) DH (fun k e _=>e=ahN P+kL (P.Q3.take k)) (fun _ _ _ _ _ h=>h) (ahN P) hPp δ rfl χ rfl (n1.has.re ⟨rfl,congrArg (Value.int .i64) hE,rfl,rfl,rfl,trivial⟩) (fun k e a2 w2 hk n2 hA D=>?_) fun e a2 w2 n2 hA D=>?_)
 ·obtain⟨x,U⟩:=ge hk
  have b3:=K3 p1.keep D;obtain⟨g,o,h1,h2,h3⟩:=dm H.Q3 (aJ _ _ _) hB b3 U;have he:e=ahN P+kL (P.Q3.take k):=n2.gh;have ht:=a9 x (List.mem_of_getElem? U);have b4:=nO (P.Q3.take k) fun y hy=>a9 y (List.mem_of_mem_take hy)
  have a0:(P.Q3.take k).length≤2097152:=by rw[List.length_take];omega
  have hm:(P.Q3.take k).length*2097192≤2097152*2097192:=Nat.mul_le_mul_right _ a0;have ha:ahN P≤248+48*4194304:=by unfold ahN;omega
  obtain⟨κ3,u3,n3⟩:=n2.elem (j:=2) (x:=lj x) (cl:=pY 32) h1 ⟨h2,id⟩ hk h3.1 rfl δ;refine am (bQ 2 (fun _=>true) ((4,.one (.i .i64 (.bin .add .i64 (.x 25) (.bin .add .i64 (.c 24) (.bin .andNot .i64 (.bin .add .i64 (.z (.x 33)) (.c 7)) (.c 7))))))::fx 24 53 [(52,.one (.i .i64 (.ln 2))),(51,.one (.sl 2 2 14)),(1,.one (.p 0 0))]) [(0,av)] 3 [] hPp δ n3 fun κ4 a4 w4 n4 p4=>ch rfl ?_);refine⟨e+(24+(x.text.size+7) / 8*8),κ4,?_,fun r (hr:r<1)=>(p4.upto r (by show r<2;omega)).trans (u3 r hr),?_,hA.trans p4.agree fun _ h=>h,K3 D p4.keep⟩
  ·show e+(24+(x.text.size+7) / 8*8)=ahN P+kL (P.Q3.take (k+1))
   rw[List.take_add_one,U];show _=ahN P+kL (P.Q3.take k++[x]);rw[xj];omega
  ·refine n4.has.re ⟨rfl,congrArg (Value.int .i64) ?_,rfl,rfl,rfl,trivial⟩
   show IntKind.i64.wrap ((e:Int)+IntKind.i64.wrap (((24:Nat):Int)+IntKind.i64.wrap ((BitVec.ofInt 64 (IntKind.i64.wrap (((x.text.size:Nat):Int)+((7:Nat):Int))) &&& ~~~BitVec.ofInt 64 7).toNat:Int)))=((e+(24+(x.text.size+7) / 8*8):Nat):Int);rw[ke (a:=x.text.size) (b:=7) χ,Cj χ,ke (a:=24) χ,ke χ]
 ·have he:e=ahN P+kL P.Q3:=by
   have h:e=ahN P+kL (P.Q3.take P.Q3.length):=n2.gh
   rwa[List.take_length]at h
  have b4:=nO P.Q3 a9;have hm:P.Q3.length*2097192≤2097152*2097192:=Nat.mul_le_mul_right _ q2;have ha:ahN P≤248+48*4194304:=by unfold ahN;omega
  have bo:=K3 p1.keep D;refine bQ 1 (fun _=>true) [(69,.one (.i .i64 (.c 0))),(4,.one (.i .i64 (.x 25))),(68,.one (.i .i64 (.ln 7))),(67,.one (.sl 7 7 19)),(1,.one (.p 0 0))] [(0,av)] 1 [] hPp δ n2 fun κ3 a3 w3 n3 p3=>?_
  refine bO (pn n3 P.Q9.length 40 69 7 GC (fun _=>true) DH (fun k s _=>s=e+gL (P.Q9.take k)) (fun _ _ _ _ _ h=>h) e hPp δ rfl χ rfl (n3.has.re ⟨rfl,rfl,rfl,rfl,rfl,trivial⟩) (fun k s a4 w4 hk n4 al V=>?_) fun s a4 w4 n4 al V=>?_)
  ·obtain⟨x,U⟩:=ge hk
   have Y:=K3 (K3 bo p3.keep) V;obtain⟨g,o,h1,h2,u,h3,bs,_,bw,_⟩:=dm H.Q9 (ef _) hB Y U;have hs:s=e+gL (P.Q9.take k):=n4.gh;have ds:=oF (P.Q9.take k);have a0:(P.Q9.take k).length≤2097152:=by rw[List.length_take];omega
   have di:(P.Q9.take k).length*131104≤2097152*131104:=Nat.mul_le_mul_right _ a0;obtain⟨A_l,bl,rfl,c7,dc,_⟩:=id bs;obtain⟨κ5,u5,n5⟩:=n4.elem (j:=7) (x:=plS x (.slice A_l x.QM.length bl) false) (cl:=plC 48) h1 ⟨h2,id⟩ hk h3 rfl δ;refine am (bQ 2 (fun _=>true) ((73,.one (.i .u64 (.c 0)))::(4,.one (.i .i64 (.x 41)))::(8,.one (.p 2 0))::(69,.one (.i .i64 (.x 40)))::(68,.one (.i .i64 (.ln 7)))::(67,.one (.sl 7 7 19)) :: [(1,.one (.p 0 0))]) [(0,av),(2,plC 48)] 3 [] hPp δ n5 fun κ6 a6 w6 n6 p6=>?_);have c6:=K3 Y p6.keep;have b5:=lg x;refine bO (Eo (fun n I J idx h0 hi h1 hb h2 C=>tr n I J idx h0 hi h1 hb h2 C) [] (n6.bare) rfl 4 64 73 .u64 (fun k=>(k:Int)) 1 (.cmp .lss (.x 64) (.c 4)) BM (fun _=>true) DH (fun j r _=>r=s+eK x j) (fun _ _ _ _ _ h=>h) s hPp δ (fun j d hj=>?_) (fun j hj=>by rw[dE χ];omega) (fun j hj=>by show((j:Int)-(0:Nat)).toNat / (1:Int).toNat=j;simp) rfl (n6.has.re ⟨rfl,rfl,rfl,rfl,rfl,rfl,rfl,trivial⟩) (fun j r a7 w7 hj n7 an W=>?_) fun r a7 w7 n7 an W=>?_)
   ·show decide ((j:Int)<((4:Nat):Int))=decide (j<4)
    simp only[Int.ofNat_lt]
   ·have hr:r=s+eK x j:=n7.gh
    have dk:=b5 j;refine am (nv (CL:={}) 2 3 [0,2] (fun _=>true) ((9,.one (.p 3 0))::(73,.one (.i .u64 (.x 64)))::BM) ahM 4 [] δ n7 eU (fun h=>absurd h ψ) (fun q C=>⟨?_,fun h=>absurd h ψ⟩) (fun _ _ _ _ _ _ h=>h) fun d4 cy cp cd u7 k7 g7 N7 _=>?_)
    ·rcases List.mem_cons.1 C with rfl|C
     ·exact(n7.mem.get 0 _ rfl).1.1
     ·obtain rfl:=List.mem_singleton.1 C
      exact(n7.mem.get 2 _ rfl).1.1
    have k7:Kz w7 cp:=aV (aD.refl _ _) k7 fun g hg=>by
     rcases hg with hg|hg
     ·exact hg.elim
     ·rw[hg];exact(N7 3 ψ ψ).1.1
    refine bQ 1 (fun _=>true) ((10,.one (.i .i64 (.c 1)))::(9,.one (.p 3 0))::(73,.one (.i .u64 (.x 64)))::BM) ahM 4 [] hPp δ cd fun κ8 a8 w8 n8 E=>?_
    have p8:Kz w7 w8:=K3 k7 E.keep;have cj:∀q,q<3→κ8 q=κ6 q:=fun q C=>(E.upto q (by show q<4;omega)).trans (u7 q C)
    have cf:aE (fun _=>true) a7 a8:=g7.trans E.agree fun _ h=>h
    obtain⟨z1,z2,_⟩:=(N7.trans E.new E.upto E.keep k7.size).row n8.mem (r:=3) rfl ψ ψ;obtain⟨bz,bp⟩:∃b,b=(κ8 3).1:=⟨_,rfl⟩;rw[←bp]at z1;have ca:κ8 3=(bz,0):=Prod.ext bp.symm z2;have N:Kz w4 w8:=K3 (K3 p6.keep W) p8;have X:=K3 Y N;have bm:B≤w4.heap.size:=by have:=Y.size;omega
    have bt:∀{w'},Kz w8 w'→aL B 4 (gY B) w' (.slice A_l x.QM.length bl) x.QM:=fun hk=>bs.below (dB _) ((K3 N hk).below (B:=B) bm fun _ _ e=>e)
    have n9:=(n8.lay 72 (ahD bz (fu x.QM j)) δ).more [] GF [] hO (fun y hy w' bb=>by
     obtain rfl:=List.mem_singleton.1 hy;have hz:=z1.keep bb fun h=>h
     exact sp (bt bb) (by have:=(K3 X bb).size;omega) hz.lt (hz.cell (j:=0) rfl)) (fun i x U=>by cases U)
    refine jK (CL:=GE) (fun _=>true) ((11,.one (.i .i64 (.x 72)))::(10,.one (.i .i64 (.c 1)))::(73,.one (.i .u64 (.x 64)))::BM) ahM 4 [] δ n9 ⟨(fun _ h=>by cases h),fun y hy o Q hd a w ha=>by
     obtain rfl:=List.mem_singleton.1 hy;have h7:a.eval (.tmp 9)=.pointer (some ⟨(κ8 3).1,(κ8 3).2+0,none⟩):=ha _ (List.mem_singleton.2 rfl);rw[ca]at h7;rw[sS (f:=119) (t:=9) (lF (op := .makeFunc (.func 119) #[] #[.tmp 9]) rfl Q hd),h7];rfl⟩ fun d3 cv d0 cb ac=>?_
    refine bQ 1 (fun _=>true) ((81,.one (.b (.cmp .geq (.x 72) (.c 0))))::(11,.one (.i .i64 (.x 72)))::(10,.one (.i .i64 (.c 1)))::(73,.one (.i .u64 (.x 64)))::BM) ahM 4 [] hPp δ cb fun cs bf be Z ad=>?_
    have b1:∀q,q<3→cs q=κ6 q:=fun q C=>(ad.upto q (by show q<4;omega)).trans ((ac.upto q (by show q<4;omega)).trans (cj q C))
    have A11:aE (fun _=>true) a6 bf:=((an.trans cf fun _ h=>h).trans ac.agree fun _ h=>h).trans ad.agree fun _ h=>h
    have K11:Kz w6 be:=K3 (K3 (K3 W p8) ac.keep) ad.keep;have K811:Kz w8 be:=K3 ac.keep ad.keep
    rcases Ai (ls:=x.QM) (c0:=j)with⟨e1,e2⟩|⟨i,y,e1,hy,e2⟩
    ·have b0:cK ae x j=1:=by unfold cK;rw[e2]
     refine cD false Z rfl (show decide (fu x.QM j≥0)=false by rw[e1];rfl) (fQ ?_);refine bQ 1 (fun _=>true) ((4,.one (.i .i64 (.bin .add .i64 (.x 65) (.bin .add .i64 (.c 8) (.bin .mul .i64 (.c 8) (.c 1))))))::Cm) [] 4 [] hPp δ Z fun b2 cw d1 aa bc=>ch rfl ?_
     refine⟨r+(8+8*1),b2,?_,fun q (C:q<3)=>(bc.upto q (by show q<4;omega)).trans (b1 q C),aa.has.re ⟨rfl,congrArg (Value.int .i64) ?_,rfl,rfl,rfl,rfl,rfl,trivial⟩,A11.trans bc.agree fun _ h=>h,K3 K11 bc.keep⟩
     ·show r+(8+8*1)=s+eK x (j+1)
      simp only[eK];omega
     ·show IntKind.i64.wrap ((r:Int)+((16:Nat):Int))=((r+(8+8*1):Nat):Int)
      rw[ke χ]
    ·have b0:cK ae x j=(ae x.QJ y).1:=by unfold cK;rw[e2]
     have c8:=wZ x.QJ y;refine cD true Z rfl (show decide (fu x.QM j≥0)=true by rw[e1];exact decide_eq_true χ) ?_;obtain⟨gl,ol,v1,v2,ur,v3,bx,v5,v6⟩:=dm (bt (aD.refl _ w8)) (dB _) (show B≤w8.heap.size by have:=X.size;omega) K811 hy;obtain⟨A_r,af,rfl,_⟩:=id bx;have c9:i<x.QM.length:=(List.getElem?_eq_some_iff.1 hy).1;obtain⟨b2,cm,_,aa⟩:=(Z.lay 88 (laS y (.slice A_r y.runs.length af)) δ).base gl (ol+i*4) (laC 88) ⟨v2,id⟩ (fun j u hj=>v3 j u hj) [(48,4,.x 72,48,4)] δ (fun z hz=>by
      obtain rfl:=List.mem_singleton.1 hz;refine⟨?_,?_,gl,ol,v1,?_⟩
      ·show 0≤fu x.QM j;rw[e1];omega
      ·show fu x.QM j<(x.QM.length:Nat);rw[e1];omega
      ·show(gl,ol+i*4)=(gl,ol+(fu x.QM j).toNat*4)
       rw[e1];rfl)
     have K12:Kz w4 be:=K3 N K811;refine ER 7 14 ((84,.one (.i .u64 (.x 49)))::(89,.ag (laC 88))::(4,.one (.i .i64 (.x 65)))::Cm) (fun i _ u=>ahV (ae x.QJ y).1 i u) hPp δ aa (fun _ _ _ _ _ h=>h) (fun q o h7 c5 Q a' w' K hk L hv D=>?_) fun o Q a' w' hk hb L hv=>?_
     ·rcases(by omega:q=7∨q=8∨q=9∨q=10∨q=11∨q=12∨q=13)with rfl|rfl|rfl|rfl|rfl|rfl|rfl
      ·obtain rfl:=Option.some.inj Q
       unfold Oper.wp;rw[execOp_call_go,cQ δ];have k1:a'.eval (.tmp 84)=.int .u64 x.QJ:=L.ev (x := .tmp 84) (v := .one (.i .u64 (.x 49))) δ;have k2:a'.eval (.tmp 89)=.agg #[.int .i64 y.pos,.int .u64 y.QN,.bool y.needs,.slice A_r y.runs.length af]:=L.ev (x := .tmp 89) (v := .ag (laC 88)) δ;rw[show(#[]++(#[Operand.tmp 84,Operand.tmp 89]:Array Operand).map a'.eval ++ #[]:Array Value) = #[a'.eval (.tmp 84),a'.eval (.tmp 89)] from ξ,k1,k2];have O:=bx.below (aJ _ _ _) (hk.below (B:=B) (by have:=X.size;have:=K811.size;omega) fun _ _ e=>e);refine(tF x.QJ y.needs A_r af y.runs y.pos y.QN w' bw (wI O) (by obtain⟨_,_,_,_,q,_⟩:=O;unfold top at q;omega) (wJ O (by have:=X.size;have:=K811.size;have:=hk.size;omega))).mono fun en dt ⟨u,q1,q2,q3⟩=>?_
       subst q1;refine D _ _ (aD.of_below q3 fun i h1 h2=>χ) ?_;obtain⟨A,c,hu⟩:∃A c,u=.slice A (ae x.QJ y).1 c:=by
        rcases q2.2 with⟨f1,f2⟩|⟨g,c3,c4,f1,_⟩
        ·refine⟨none,0,?_⟩
         rw[f1];show _=Value.slice none (Ln.dJ x.QJ y.needs y.runs).1.length 0;rw[f2]
        ·exact⟨_,_,f1⟩
       rw[hu];exact⟨A,c,_,_,rfl⟩
      ·obtain rfl:=Option.some.inj Q
       obtain⟨u,l,A,c,q1,q2,rfl⟩:=hv 7 90 χ χ δ rfl;unfold Oper.wp;rw[rF (t:=90) (.inl rfl),l.eval (by rw[L.size];decide)];exact D _ _ (aD.refl _ _) ⟨A,c,q1,q2,rfl⟩
      ·obtain rfl:=Option.some.inj Q
       obtain⟨u,l,A,c,q1,q2,rfl⟩:=hv 8 82 χ χ δ rfl;unfold Oper.wp;rw[js (t:=82) (i:=0) rfl (l.eval (by rw[L.size];decide)) rfl];exact D _ _ (aD.refl _ _) ⟨A,c,rfl⟩
      ·obtain rfl:=Option.some.inj Q
       obtain⟨u,l,A,c,q1,q2,rfl⟩:=hv 8 82 χ χ δ rfl;unfold Oper.wp;rw[js (t:=82) (i:=1) rfl (l.eval (by rw[L.size];decide)) rfl];exact D _ _ (aD.refl _ _) trivial
      ·obtain rfl:=Option.some.inj Q
       obtain⟨u,l,A,c,q1,q2,rfl⟩:=hv 8 82 χ χ δ rfl;unfold Oper.wp;rw[js (t:=82) (i:=2) rfl (l.eval (by rw[L.size];decide)) rfl];exact D _ _ (aD.refl _ _) trivial
      ·obtain rfl:=Option.some.inj Q
       obtain⟨u,l,A,c,rfl⟩:=hv 9 91 χ χ δ rfl;unfold Oper.wp;rw[rF (t:=91) (.inr rfl),l.eval (by rw[L.size];decide)];exact D _ _ (aD.refl _ _) ⟨A,c,rfl⟩
      ·obtain rfl:=Option.some.inj Q
       unfold Oper.wp;rw[rF (t:=92) (.inr rfl)];exact D _ _ (aD.refl _ _) trivial
     ·obtain rfl:=Option.some.inj Q
      obtain⟨u,l,A,c,rfl⟩:=hv 12 12 χ χ rfl;refine bR rfl fun K D=>?_
      unfold Oper.wp;rw[rF (t:=93) (.inr rfl)];refine D _ _ (ln (show wpL _ _ _ _ _ from ?_));have f1:=(L.sub (F':=(4,.one (.i .i64 (.x 65)))::Cm) δ).on (aS _ 104 (ahS A (ae x.QJ y).1 c (a'.eval (.tmp 93)))) δ;have f2:=(gv (t:=12) (v := .one (.sl 104 104 105)) f1 (by rw[Array.getElem?_eq_getElem (by rw[L.size];decide),l];rfl)).put (d:=14) (v := .one (.v 104)) ψ;refine bQ 2 (fun _=>true) ((4,.one (.i .i64 (.bin .add .i64 (.x 65) (.bin .add .i64 (.c 8) (.bin .mul .i64 (.c 8) (.ln 104))))))::Cm) [] 5 [] hPp δ (f2.now (P:=Tryz.prog) 5 w') fun cu cx d2 cc bd=>ch rfl ?_
      refine⟨r+(8+8*(ae x.QJ y).1),cu,?_,fun q (C:q<3)=>(bd.upto q (by show q<5;omega)).trans ((cm q (by show q<4;omega)).trans (b1 q C)),cc.has.re ⟨rfl,congrArg (Value.int .i64) ?_,rfl,rfl,rfl,rfl,rfl,trivial⟩,?_,K3 (K3 K11 hk) bd.keep⟩
      ·show r+(8+8*(ae x.QJ y).1)=s+eK x (j+1)
       simp only[eK];omega
      ·show IntKind.i64.wrap ((r:Int)+IntKind.i64.wrap (((8:Nat):Int)+IntKind.i64.wrap (((8:Nat):Int)*((ae x.QJ y).1:Int))))=((r+(8+8*(ae x.QJ y).1):Nat):Int)
       rw[D9 χ,ke (a:=8) χ,ke χ]
      ·exact(A11.trans (show aE (fun _=>true) bf (a'.put (some 14) _) from⟨by simp[Act.put,L.size,aa.has.size],hb.defers,fun _ h=>by cases h⟩) fun _ h=>h).trans bd.agree fun _ h=>h
   ·have hr:r=s+eK x 4:=n7.gh
    refine ch rfl ⟨r,κ6,?_,fun q (C:q<1)=>(p6.upto q (by show q<2;omega)).trans (u5 q C),n7.has.re ⟨rfl,rfl,rfl,rfl,rfl,trivial⟩,(al.trans p6.agree fun _ h=>h).trans an fun _ h=>h,K3 (K3 V p6.keep) W⟩;show r=e+gL (P.Q9.take (k+1));rw[List.take_add_one,U];show _=e+gL (P.Q9.take k++[x]);rw[uc];omega
  ·have hs:s=e+gL (P.Q9.take P.Q9.length):=n4.gh
   rw[List.take_length]at hs;refine eL 2 (fun _=>true) [(2,.one (.i .i64 (.x 41)))] [] 1 [] hPp δ n4 fun κ5 a5 w5 n5 p5=>?_
   refine gS 2 rfl n5.has rfl (p5.agree.defers.trans (al.defers.trans (p3.agree.defers.trans (hA.defers.trans (p1.agree.defers.trans hd))))) ?_;rw[hR];refine⟨?_,K3 (K3 (K3 bo p3.keep) V) p5.keep⟩;show Ending.returned (.int .i64 (s:Int))=_;have:s=dT ae P:=by
    rw[hs,he];unfold dT ahN kL gL;omega
   rw[this]
