import Derived.Test.YthobcefghkeddaaGreatDoorAhdP
import Derived.Test.YthobcefghkeddaaGreatDoorPl2
import Derived.Test.YthobcefghkeddaaGreatDoorRsm
import Derived.Test.YthobcefghkeddaaGreatDoorClone
set_option maxRecDepth 100000
set_option linter.all false
set_option maxHeartbeats 4000000
namespace Go.Proofs.YthobcefghkeddaaGreatDoor
namespace Rs
open Go.RowKit Go.IntWalk Ck
variable {w:World}
theorem Now.bare{S:Sta}{κ:Kap}{N:Nat}{P:Program}{C:Ctx}{H:Gh}{s:St}{a:Act}(h:Now S κ N P C H s a w):Now S κ N P {} H s a w:=⟨h.has,h.mem,Rs.noC _ _ _ _ _,h.tb,h.gh⟩
def lcS(p:Int)(QN c0:Nat)(nd:Bool)(A:Option Addr)(n c:Nat):Sta where
 i j:=match j with|0=>p|1=>QN|_=>c0
 b _:=nd
 a _:=A
 n j:=match j with|0=>n|_=>c
theorem AX(w:World)(d:Nat)(c0 QN n c:Nat)(p:Int)(u:Bool)(A:Option Addr)(q:d<w.heap.size)(x:w.cell? ⟨d,0,none⟩=some (.int .u64 c0)):
 Calls Tryz.prog 119 #[.agg #[.int .i64 p,.int .u64 QN,.bool u,.slice A n c],.pointer (some ⟨d,0,none⟩)] w fun e w'=>e=.returned (.bool (decide (QN=c0)))∧Kz w w':=by
 refine fnE (lcS p QN c0 u A n c) (fun _=>(d,0)) [.ag [.i .i64 (.x 0),.i .u64 (.x 1),.b (.x 0),.sl 0 0 1],.one (.p 0 0)] Tryz.func119 Tryz.ntmps119 rfl rfl ψ H0 (fun _ h=>h.elim) trivial fun a y hh=>?_
 have n0:Now (lcS p QN c0 u A n c) (fun _=>(d,0)) 8 Tryz.prog {} H0 ⟨ma 0 [.ag [.i .i64 (.x 0),.i .u64 (.x 1),.b (.x 0),.sl 0 0 1],.one (.p 0 0)],[(0,[.i .u64 (.x 2)])],1,[]⟩ a w:=⟨hh.has,⟨fun r l B=>by
  obtain⟨rfl,rfl⟩:r=0∧l=[.i .u64 (.x 2)]:=by cases ρ.1 (gI B);exact⟨rfl,rfl⟩
  exact⟨⟨q,id⟩,fun j c g=>by
   match j,g with
   | 0,g=>obtain rfl:=ι g;exact x⟩⟩,hh.ctx,hh.tb,hh.gh⟩
 refine dU 3 τ [(3,.one (.b (.cmp .eql (.x 1) (.x 2))))] [] 2 [] hPp δ n0 fun H D E C v=>?_
 refine fj 3 rfl C.has rfl (v.agree.defers.trans y) ⟨?_,v.keep⟩;show Ending.returned (.bool ((QN:Int)==(c0:Int)))=_
 congr 2
 by_cases e:QN=c0
 ·subst e;simp
 ·simp[e];omega
def ixS(A:Option Addr)(n c bz:Nat):Sta where
 a _:=A
 n j:=match j with|0=>n|_=>c
 o _ := .func (.func 119) #[] #[.pointer (some ⟨bz,0,none⟩)]
def ixR:Fr:=[(7,.one (.i .i64 (.ln 0))),(0,.one (.sl 0 0 1)),(1,.one (.v 0))]
def G8(x:cK)(v:Value)(r:Bool):Sta:={ laS x v with b:=fun j=>match j with|0=>x.needs|_=>r }
theorem tH{B:Nat}{A:Option Addr}{c:Nat}{ls:List cK}(hs:aM B 4 (iu B) w (.slice A ls.length c) ls)(hB:B≤w.heap.size){l c0:Nat}(J:l<w.heap.size)(hb:w.cell? ⟨l,0,none⟩=some (.int .u64 c0)):
 Calls Tryz.prog 118 #[.slice A ls.length c,.func (.func 119) #[] #[.pointer (some ⟨l,0,none⟩)]] w fun e w'=>e=.returned (.int .i64 (gD ls c0))∧Kz w w':=by
 obtain⟨R,Y⟩:∃R:Ending→World→Prop,R=fun e w'=>e=.returned (.int .i64 (gD ls c0))∧Kz w w':=⟨_,rfl⟩
 rw[←Y];have af:ls.length≤2097152:=by obtain⟨_,_,e,_,hl,_⟩:=hs;exact hl
 refine fnE (ixS A ls.length c l) (fun _=>(l,0)) [.one (.sl 0 0 1),.one (.v 0)] Tryz.func118 Tryz.ntmps118 rfl rfl ψ H0 (fun _ h=>h.elim) trivial fun a hd hh=>?_
 have n0:Now (ixS A ls.length c l) (fun _=>(l,0)) 19 Tryz.prog {} H0 ⟨ma 0 [.one (.sl 0 0 1),.one (.v 0)],[],1,[]⟩ a w:=⟨hh.has,hh.mem,hh.ctx,hh.tb,hh.gh⟩;refine b7 2 τ ((8,.one (.i .i64 (.c 0)))::ixR) [] 1 [] hPp δ n0 fun κ1 a1 w1 n1 L=>?_
 refine az (ow (ε:=Unit) n1 ls.length 24 8 0 ixR τ (fun _=>{}) (fun k _ _=>∀y∈ls.take k,y.QN≠c0) (fun _ _ _ _ _ h=>h) () hPp δ rfl χ (fun y d=>by simp at d) (n1.has.re ⟨rfl,rfl,rfl,rfl,trivial⟩) (fun k e a4 w4 hk K V W=>?_) fun e a4 w4 K V W=>?_)
 ·obtain⟨x,hx⟩:=ge hk
  have E:Kz w w4:=L.keep.trans W fun _ _ h=>h
  obtain⟨g,o,h1,h2,u,h3,⟨A_r,v,rfl,_⟩,_⟩:=cW hs (d5 _) hB E hx;have q:∀y∈ls.take k,y.QN≠c0:=K.gh;obtain⟨κ5,u5,n5⟩:=K.elem (j:=0) (x:=G8 x (.slice A_r x.runs.length v) (decide (x.QN=c0))) (cl:=laC 32) h1 ⟨h2,id⟩ hk h3 rfl δ;have ad:κ5 0=(l,0):=(u5 0 ψ).trans (L.upto 0 ψ);refine aY (b7 1 τ ((5,.one (.i .i64 (.x 24)))::fx 24 8 ixR) [(1,laC 32)] 2 [] hPp δ n5 fun U a6 w6 n6 D=>?_);have H:=K3 E D.keep;have Q:U 0=(l,0):=(D.upto 0 ψ).trans ad;refine fb (C:={ EL:=_,ET:=[(119,[.ag (laC 32),.one (.p 0 0)],.one (.b (.x 33)))] }) (CL:={ CL:=[(0,119,[.one (.p 0 0)])] }) τ ((16,.one (.b (.x 33)))::(5,.one (.i .i64 (.x 24)))::fx 24 8 ixR) [] 2 [0] δ (n6.more [] [] [(119,[.ag (laC 32),.one (.p 0 0)],.one (.b (.x 33)))] dg (fun y d=>by cases d) (fun i y d e w' ac hg=>by
   have d:=γ d;obtain rfl:=ρ.1 d;show Calls Tryz.prog 119 #[.agg #[.int .i64 x.pos,.int .u64 x.QN,.bool x.needs,.slice A_r x.runs.length v],.pointer (some ⟨(U 0).1,(U 0).2+0,none⟩)] w' _;rw[Q];have I:=K3 H ac;exact(AX w' l c0 x.QN x.runs.length v x.pos x.needs A_r (Θ J I.size) ((I.cell (p:=⟨_,_,none⟩) J id).trans hb)).mono fun en al ⟨q1,q2⟩=>⟨q1,q2,hg⟩)) ⟨fun y d=>by
   obtain rfl:=ρ.1 d;show Value.func (.func 119) #[] #[.pointer (some ⟨l,0,none⟩)]=.func (.func 119) #[] #[.pointer (some ⟨(U 0).1,(U 0).2+0,none⟩)];rw[Q],fun _ h=>by cases h⟩ fun κ7 a7 w7 X N=>?_
  have Z:=N.agree.defers.trans (D.agree.defers.trans (V.defers.trans (L.agree.defers.trans hd)))
  by_cases hc:x.QN=c0
  ·refine cG true X rfl (show decide (x.QN=c0)=true from decide_eq_true hc) ?_
   refine dU 2 τ [(4,.one (.i .i64 (.x 24)))] [] 2 [0] hPp δ X fun κ8 a8 w8 n8 O=>bQ (bY ?_)
   refine fj 4 rfl n8.has rfl (O.agree.defers.trans Z) ?_;rw[Y];refine⟨?_,K3 (K3 H N.keep) O.keep⟩;rw[Ae hx hc q];rfl
  ·refine cG false X rfl (show decide (x.QN=c0)=false from decide_eq_false hc) (fZ (cM rfl ?_))
   refine⟨(),κ7,fun y d=>?_,fun r (hr:r<1)=>(N.upto r (by show r<2;omega)).trans ((D.upto r (by show r<2;omega)).trans (u5 r hr)),X.has.re ⟨rfl,rfl,rfl,rfl,trivial⟩,(V.trans D.agree fun _ h=>h).trans N.agree fun _ h=>h,K3 (K3 W D.keep) N.keep⟩;rw[List.take_add_one,hx]at d
   rcases Ω.1 d with d|d
   ·exact q y d
   ·obtain rfl:=ρ.1 d
    exact hc
 ·have q:∀y∈ls.take ls.length,y.QN≠c0:=K.gh
  rw[List.take_length]at q;refine dU 2 τ [(4,.one (.i .i64 (.c (-1))))] [] 1 [] hPp δ K fun κ8 a8 w8 n8 O=>?_
  refine fj 4 rfl n8.has rfl (O.agree.defers.trans (V.defers.trans (L.agree.defers.trans hd))) ?_;rw[Y];refine⟨?_,K3 (K3 L.keep W) O.keep⟩;rw[tJ q];rfl
def rD(e:Nat):Sta where
 i j:=match j with|0=>0|_=>e
theorem kq{a b:Nat}(h:a+b<9223372036854775808):IntKind.i64.wrap ((a:Int)+(b:Int))=((a+b:Nat):Int):=by rw[i64_in _ χ];omega
theorem Cx{a b:Nat}(h:a*b<9223372036854775808):IntKind.i64.wrap ((a:Int)*(b:Int))=((a*b:Nat):Int):=by
 have:((a:Int)*(b:Int))=((a*b:Nat):Int):=ξ
 rw[this,i64_in _ χ]
def ahD(b:Nat)(i:Int):Sta where
 o _ := .func (.func 119) #[] #[.pointer (some ⟨b,0,none⟩)]
 i _:=i
def GF:Kn:={ KO:=[(78,[(9,.one (.p 3 0))],.one (.v 72))] }
def GG:List (FuncId×List SV×SV):=[(118,[.one (.sl 48 48 49),.one (.v 72)],.one (.i .i64 (.x 72)))]
def ahM:Mm:=[(0,ah),(2,plC 48),(3,[.i .u64 (.x 64)])]
def Cf:Fr:=[(73,.one (.i .u64 (.x 64))),(8,.one (.p 2 0)),(69,.one (.i .i64 (.x 40))),(68,.one (.i .i64 (.ln 7))),(67,.one (.sl 7 7 19)),(1,.one (.p 0 0))]
def ahV(L:Nat)(i:Nat)(u:Value):Prop:=match i with
 | 7|8=>∃(A:Option Addr) (c:Nat) (a b:Value),u=.tuple #[.slice A L c,a,b]
 | 9|12=>∃(A:Option Addr) (c:Nat),u=.slice A L c
 | _=>True
def ahS(A:Option Addr)(L c:Nat)(u:Value):Sta where
 a _:=A
 n j:=match j with|0=>L|_=>c
 o _:=u
theorem EG{S:Sta}{N:Nat}{P:Program}{C:Ctx}{H:Gh}{id:Nat}{ops:Array Oper}{rest:List Code}{Q:Exit→Act→World→Prop}{s:St}{κ:Kap}{a:Act}(c n:Nat)(F1:Fr)(V:Nat→World→Value→Prop)(D:P.follows .mixedOrders=true)(y:dvB P C N ops.toList s c n F1=true)(E:Now S κ N P C H s a w)(x:∀j w' g v,Kz w' g→V j w' v→V j g v)
 (u:∀i o,c≤i→i<n→ops.toList[i]?=some o→∀h w' K,Kz w w'→Has S κ N (eN ops.toList o F1) h→(∀j d,c≤j→j<n→(o.after.any fun e=>Region.binds .any e&&e.on==j)=true→aN ops.toList j=some d→∃v,At h d v∧V j w' v) →
  (∀v g,Kz w' g→V i g v→K (h.put o.dst v) g)→o.wp P h w' K (Exit.then (wpL P Q rest) Q))
 (q:∀o,ops.toList[n]?=some o→∀h w',Kz w w'→fJ ops.toList n a h→Has S κ N F1 h→(∀j d,c≤j→j<n→aN ops.toList j=some d→∃v,At h d v∧V j w' v)→wpList P ops.toList.toArray (Exit.then (wpL P Q rest) Q) [o] h w'):wpL P Q (Code.region id ops true::rest) a w:=by
 obtain⟨l,B⟩:∃l,l=ops.toList:=⟨_,rfl⟩;obtain rfl:ops=l.toArray:=by rw[B]
 rw[←B]at y u q;exact wv c n F1 V D y E x u q
def ahE:IE := .bin .add .i64 (.bin .add .i64 (.c 248) (.bin .mul .i64 (.c 16) (.bin .add .i64 (.ln 0) (.ln 1)))) (.bin .mul .i64 (.c 8) (.bin .add .i64 (.bin .add .i64 (.bin .add .i64 (.bin .add .i64 (.bin .add .i64 (.ln 3) (.ln 1)) (.ln 4)) (.ln 5)) (.ln 6)) (.ln 7)))
def ahN(P:aF):Nat:=248+16*(P.QD.length+P.Q5.length)+8*(P.Q4.length+P.Q5.length+P.Q8.length+P.QM.length+P.QB.length+P.Q9.length)
def GE:Fr:=[(4,.one (.i .i64 (.x 25))),(52,.one (.i .i64 (.ln 2))),(51,.one (.sl 2 2 14)),(1,.one (.p 0 0))]
def GD:Fr:=[(4,.one (.i .i64 (.x 41))),(68,.one (.i .i64 (.ln 7))),(67,.one (.sl 7 7 19)),(1,.one (.p 0 0))]
def BG:Fr:=[(4,.one (.i .i64 (.x 65))),(8,.one (.p 2 0)),(69,.one (.i .i64 (.x 40))),(68,.one (.i .i64 (.ln 7))),(67,.one (.sl 7 7 19)),(1,.one (.p 0 0))]
theorem yt{B:Nat}{v:ae}{P:aF}(H:bD B w v P)(hB:B≤w.heap.size):Calls Tryz.prog 67 #[.agg (v.cells P).toArray] w fun e w'=>e=.returned (.int .i64 (dl aa P))∧Kz w w':=by
 obtain⟨R,hR⟩:∃R:Ending→World→Prop,R=fun e w'=>e=.returned (.int .i64 (dl aa P))∧Kz w w':=⟨_,rfl⟩
 rw[←hR];have bb:∀x∈P.Q3,x.text.size≤2097152:=cZ H.Q3 fun b o x U=>U.2.2.2.2.2.2
 have lt:∀{α:Type} {k:Nat} {R:World→Nat→Nat→α→Prop} {w:World} {v:Value} {xs:List α},aM B k R w v xs→xs.length≤2097152:=fun h=>by obtain⟨_,_,_,_,hl,_⟩:=h;exact hl
 have q0:=lt H.QD;have q1:=lt H.Q5;have q2:=lt H.Q3;have q3:=lt H.Q4;have q4:=lt H.Q8;have q5:=lt H.QM;have q6:=lt H.QB;have q7:=lt H.Q9;have hE:ahE.den (cE v P)=(ahN P:Nat):=by
  show IntKind.i64.wrap (IntKind.i64.wrap (((248:Nat):Int)+IntKind.i64.wrap (((16:Nat):Int)*IntKind.i64.wrap ((P.QD.length:Int)+(P.Q5.length:Int))))+IntKind.i64.wrap (((8:Nat):Int)*IntKind.i64.wrap (IntKind.i64.wrap (IntKind.i64.wrap (IntKind.i64.wrap (IntKind.i64.wrap ((P.Q4.length:Int)+(P.Q5.length:Int))+(P.Q8.length:Int))+(P.QM.length:Int))+(P.QB.length:Int))+(P.Q9.length:Int))))=_;rw[kq (a:=P.QD.length),Cx (a:=16),kq (a:=248),kq (a:=P.Q4.length),kq (a:=P.Q4.length+P.Q5.length),kq (b:=P.QM.length),kq (b:=P.QB.length),kq (b:=P.Q9.length),Cx (a:=8),kq]
  ·rfl
  all_goals omega
 refine fnE (cE v P) (fun _=>(0,0)) [.ag ah] Tryz.func67 Tryz.ntmps67 rfl (by rw[List.map_cons,bT H (Agr.refl _ _)];rfl) ψ H0 (fun _ h=>h.elim) trivial fun a hd hh=>?_
 refine b7 4 τ [(53,.one (.i .i64 (.c 0))),(4,.one (.i .i64 ahE)),(52,.one (.i .i64 (.ln 2))),(51,.one (.sl 2 2 14)),(1,.one (.p 0 0))] [(0,ah)] 1 [] hPp δ hh fun κ1 a1 w1 n1 p1=>?_
 refine az (ow n1 P.Q3.length 24 53 2 GE τ rD (fun k e _=>e=ahN P+kS (P.Q3.take k)) (fun _ _ _ _ _ h=>h) (ahN P) hPp δ rfl χ rfl (n1.has.re ⟨rfl,congrArg (Value.int .i64) hE,rfl,rfl,rfl,trivial⟩) (fun k e a2 w2 hk n2 hA D=>?_) fun e a2 w2 n2 hA D=>?_)
 ·obtain⟨x,U⟩:=ge hk
  have b3:=K3 p1.keep D;obtain⟨g,o,h1,h2,h3⟩:=cW H.Q3 (aI _ _ _) hB b3 U;have he:e=ahN P+kS (P.Q3.take k):=n2.gh;have ht:=bb x (γ U);have b4:=nT (P.Q3.take k) fun y hy=>bb y (List.mem_of_mem_take hy)
  have a9:(P.Q3.take k).length≤2097152:=by rw[List.length_take];omega
  have hm:(P.Q3.take k).length*2097192≤2097152*2097192:=Nat.mul_le_mul_right _ a9;have ha:ahN P≤248+48*4194304:=by unfold ahN;omega
  obtain⟨κ3,u3,n3⟩:=n2.elem (j:=2) (x:=ly x) (cl:=nK 32) h1 ⟨h2,id⟩ hk h3.1 rfl δ;refine aY (b7 2 τ ((4,.one (.i .i64 (.bin .add .i64 (.x 25) (.bin .add .i64 (.c 24) (.bin .andNot .i64 (.bin .add .i64 (.z (.x 33)) (.c 7)) (.c 7))))))::fx 24 53 [(52,.one (.i .i64 (.ln 2))),(51,.one (.sl 2 2 14)),(1,.one (.p 0 0))]) [(0,ah)] 3 [] hPp δ n3 fun κ4 a4 w4 n4 p4=>cM rfl ?_);refine⟨e+(24+(x.text.size+7) / 8*8),κ4,?_,fun r (hr:r<1)=>(p4.upto r (by show r<2;omega)).trans (u3 r hr),?_,hA.trans p4.agree fun _ h=>h,K3 D p4.keep⟩
  ·show e+(24+(x.text.size+7) / 8*8)=ahN P+kS (P.Q3.take (k+1))
   rw[List.take_add_one,U];show _=ahN P+kS (P.Q3.take k++[x]);rw[xm];omega
  ·refine n4.has.re ⟨rfl,congrArg (Value.int .i64) ?_,rfl,rfl,rfl,trivial⟩
   show IntKind.i64.wrap ((e:Int)+IntKind.i64.wrap (((24:Nat):Int)+IntKind.i64.wrap ((BitVec.ofInt 64 (IntKind.i64.wrap (((x.text.size:Nat):Int)+((7:Nat):Int))) &&& ~~~BitVec.ofInt 64 7).toNat:Int)))=((e+(24+(x.text.size+7) / 8*8):Nat):Int);rw[kq (a:=x.text.size) (b:=7) χ,Ce χ,kq (a:=24) χ,kq χ]
 ·have he:e=ahN P+kS P.Q3:=by
   have h:e=ahN P+kS (P.Q3.take P.Q3.length):=n2.gh
   rwa[List.take_length]at h
  have b4:=nT P.Q3 bb;have hm:P.Q3.length*2097192≤2097152*2097192:=Nat.mul_le_mul_right _ q2;have ha:ahN P≤248+48*4194304:=by unfold ahN;omega
  have bo:=K3 p1.keep D;refine b7 1 τ [(69,.one (.i .i64 (.c 0))),(4,.one (.i .i64 (.x 25))),(68,.one (.i .i64 (.ln 7))),(67,.one (.sl 7 7 19)),(1,.one (.p 0 0))] [(0,ah)] 1 [] hPp δ n2 fun κ3 a3 w3 n3 p3=>?_
  refine az (ow n3 P.Q9.length 40 69 7 GD τ rD (fun k s _=>s=e+gS (P.Q9.take k)) (fun _ _ _ _ _ h=>h) e hPp δ rfl χ rfl (n3.has.re ⟨rfl,rfl,rfl,rfl,rfl,trivial⟩) (fun k s a4 w4 hk n4 an V=>?_) fun s a4 w4 n4 an V=>?_)
  ·obtain⟨x,U⟩:=ge hk
   have Y:=K3 (K3 bo p3.keep) V;obtain⟨g,o,h1,h2,u,h3,bs,_,bw,_⟩:=cW H.Q9 (eR _) hB Y U;have hs:s=e+gS (P.Q9.take k):=n4.gh;have dk:=oL (P.Q9.take k);have a9:(P.Q9.take k).length≤2097152:=by rw[List.length_take];omega
   have dc:(P.Q9.take k).length*131104≤2097152*131104:=Nat.mul_le_mul_right _ a9;obtain⟨A_l,bl,rfl,c6,c9,_⟩:=id bs;obtain⟨κ5,u5,n5⟩:=n4.elem (j:=7) (x:=plS x (.slice A_l x.QL.length bl) false) (cl:=plC 48) h1 ⟨h2,id⟩ hk h3 rfl δ;refine aY (b7 2 τ ((73,.one (.i .u64 (.c 0)))::(4,.one (.i .i64 (.x 41)))::(8,.one (.p 2 0))::(69,.one (.i .i64 (.x 40)))::(68,.one (.i .i64 (.ln 7)))::(67,.one (.sl 7 7 19)) :: [(1,.one (.p 0 0))]) [(0,ah),(2,plC 48)] 3 [] hPp δ n5 fun κ6 a6 w6 n6 p6=>?_);have c5:=K3 Y p6.keep;have b5:=lk x;refine az (Da (fun n I J idx h0 hi h1 hb h2 C=>uJ n I J idx h0 hi h1 hb h2 C) [] (n6.bare) rfl 4 64 73 .u64 (fun k=>(k:Int)) 1 (.cmp .lss (.x 64) (.c 4)) BG τ rD (fun j r _=>r=s+eD x j) (fun _ _ _ _ _ h=>h) s hPp δ (fun j d hj=>?_) (fun j hj=>by rw[bq χ];omega) (fun j hj=>by show((j:Int)-(0:Nat)).toNat / (1:Int).toNat=j;simp) rfl (n6.has.re ⟨rfl,rfl,rfl,rfl,rfl,rfl,rfl,trivial⟩) (fun j r a7 w7 hj n7 a0 W=>?_) fun r a7 w7 n7 a0 W=>?_)
   ·show decide ((j:Int)<((4:Nat):Int))=decide (j<4)
    simp only[Int.ofNat_lt]
   ·have hr:r=s+eD x j:=n7.gh
    have di:=b5 j;refine aY (lr (CL:={}) 2 3 [0,2] τ ((9,.one (.p 3 0))::(73,.one (.i .u64 (.x 64)))::BG) ahM 4 [] δ n7 dV (fun h=>absurd h ψ) (fun q C=>⟨?_,fun h=>absurd h ψ⟩) (fun _ _ _ _ _ _ h=>h) fun d3 cx cm cc u7 k7 g7 N7 _=>?_)
    ·rcases Ξ.1 C with rfl|C
     ·exact(n7.mem.get 0 _ rfl).1.1
     ·obtain rfl:=ρ.1 C
      exact(n7.mem.get 2 _ rfl).1.1
    have k7:Kz w7 cm:=aS (aD.refl _ _) k7 fun g hg=>by
     rcases hg with hg|hg
     ·exact hg.elim
     ·rw[hg];exact(N7 3 ψ ψ).1.1
    refine b7 1 τ ((10,.one (.i .i64 (.c 1)))::(9,.one (.p 3 0))::(73,.one (.i .u64 (.x 64)))::BG) ahM 4 [] hPp δ cc fun κ8 a8 w8 n8 E=>?_
    have p8:Kz w7 w8:=K3 k7 E.keep;have cf:∀q,q<3→κ8 q=κ6 q:=fun q C=>(E.upto q (by show q<4;omega)).trans (u7 q C)
    have cd:aE τ a7 a8:=g7.trans E.agree fun _ h=>h
    obtain⟨z1,z2,_⟩:=(N7.trans E.new E.upto E.keep k7.size).row n8.mem (r:=3) rfl ψ ψ;obtain⟨bz,bp⟩:∃b,b=(κ8 3).1:=⟨_,rfl⟩;rw[←bp]at z1;have b6:κ8 3=(bz,0):=Prod.ext bp.symm z2;have N:Kz w4 w8:=K3 (K3 p6.keep W) p8;have X:=K3 Y N;have bm:B≤w4.heap.size:=by have:=Y.size;omega
    have bt:∀{w'},Kz w8 w'→aM B 4 (iu B) w' (.slice A_l x.QL.length bl) x.QL:=fun hk=>bs.below (d5 _) ((K3 N hk).below (B:=B) bm fun _ _ e=>e)
    have n9:=(n8.lay 72 (ahD bz (gD x.QL j)) δ).more [] GG [] dg (fun y hy w' bc=>by
     obtain rfl:=ρ.1 hy;have hz:=z1.keep bc fun h=>h
     exact tH (bt bc) (by have:=(K3 X bc).size;omega) hz.lt (hz.cell (j:=0) rfl)) (fun i x U=>by cases U)
    refine fb (CL:=GF) τ ((11,.one (.i .i64 (.x 72)))::(10,.one (.i .i64 (.c 1)))::(73,.one (.i .u64 (.x 64)))::BG) ahM 4 [] δ n9 ⟨(fun _ h=>by cases h),fun y hy o Q hd a w ha=>by
     obtain rfl:=ρ.1 hy;have h7:a.eval (.tmp 9)=.pointer (some ⟨(κ8 3).1,(κ8 3).2+0,none⟩):=ha _ (ρ.2 rfl);rw[b6]at h7;rw[sh (f:=119) (t:=9) (jZ (op := .makeFunc (.func 119) #[] #[.tmp 9]) rfl Q hd),h7];rfl⟩ fun d2 cu dt ca ad=>?_
    refine b7 1 τ ((81,.one (.b (.cmp .geq (.x 72) (.c 0))))::(11,.one (.i .i64 (.x 72)))::(10,.one (.i .i64 (.c 1)))::(73,.one (.i .u64 (.x 64)))::BG) ahM 4 [] hPp δ ca fun cp bg bf Z af=>?_
    have b1:∀q,q<3→cp q=κ6 q:=fun q C=>(af.upto q (by show q<4;omega)).trans ((ad.upto q (by show q<4;omega)).trans (cf q C))
    have A11:aE τ a6 bg:=((a0.trans cd fun _ h=>h).trans ad.agree fun _ h=>h).trans af.agree fun _ h=>h
    have K11:Kz w6 bf:=K3 (K3 (K3 W p8) ad.keep) af.keep;have K811:Kz w8 bf:=K3 ad.keep af.keep
    rcases Af (ls:=x.QL) (c0:=j)with⟨e1,e2⟩|⟨i,y,e1,hy,e2⟩
    ·have b0:cH aa x j=1:=by unfold cH;rw[e2]
     refine cG false Z rfl (show decide (gD x.QL j≥0)=false by rw[e1];rfl) (fZ ?_);refine b7 1 τ ((4,.one (.i .i64 (.bin .add .i64 (.x 65) (.bin .add .i64 (.c 8) (.bin .mul .i64 (.c 8) (.c 1))))))::Cf) [] 4 [] hPp δ Z fun b2 cv d0 ac bd=>cM rfl ?_
     refine⟨r+(8+8*1),b2,?_,fun q (C:q<3)=>(bd.upto q (by show q<4;omega)).trans (b1 q C),ac.has.re ⟨rfl,congrArg (Value.int .i64) ?_,rfl,rfl,rfl,rfl,rfl,trivial⟩,A11.trans bd.agree fun _ h=>h,K3 K11 bd.keep⟩
     ·show r+(8+8*1)=s+eD x (j+1)
      simp only[eD];omega
     ·show IntKind.i64.wrap ((r:Int)+((16:Nat):Int))=((r+(8+8*1):Nat):Int)
      rw[kq χ]
    ·have b0:cH aa x j=(aa x.QJ y).1:=by unfold cH;rw[e2]
     have c7:=wj x.QJ y;refine cG true Z rfl (show decide (gD x.QL j≥0)=true by rw[e1];exact decide_eq_true χ) ?_;obtain⟨gl,ol,v1,v2,ur,v3,bx,v5,v6⟩:=cW (bt (aD.refl _ w8)) (d5 _) (show B≤w8.heap.size by have:=X.size;omega) K811 hy;obtain⟨A_r,al,rfl,_⟩:=id bx;have c8:i<x.QL.length:=(ο.1 hy).1;obtain⟨b2,cj,_,ac⟩:=(Z.lay 88 (laS y (.slice A_r y.runs.length al)) δ).base gl (ol+i*4) (laC 88) ⟨v2,id⟩ (fun j u hj=>v3 j u hj) [(48,4,.x 72,48,4)] δ (fun z hz=>by
      obtain rfl:=ρ.1 hz;refine⟨?_,?_,gl,ol,v1,?_⟩
      ·show 0≤gD x.QL j;rw[e1];omega
      ·show gD x.QL j<(x.QL.length:Nat);rw[e1];omega
      ·show(gl,ol+i*4)=(gl,ol+(gD x.QL j).toNat*4)
       rw[e1];rfl)
     have K12:Kz w4 bf:=K3 N K811;refine EG 7 14 ((84,.one (.i .u64 (.x 49)))::(89,.ag (laC 88))::(4,.one (.i .i64 (.x 65)))::Cf) (fun i _ u=>ahV (aa x.QJ y).1 i u) hPp δ ac (fun _ _ _ _ _ h=>h) (fun q o h7 c4 Q a' w' K hk L hv D=>?_) fun o Q a' w' hk hb L hv=>?_
     ·rcases(by omega:q=7∨q=8∨q=9∨q=10∨q=11∨q=12∨q=13)with rfl|rfl|rfl|rfl|rfl|rfl|rfl
      ·obtain rfl:=ι Q
       unfold Oper.wp;rw[execOp_call_go,cC δ];have k1:a'.eval (.tmp 84)=.int .u64 x.QJ:=L.ev (x := .tmp 84) (v := .one (.i .u64 (.x 49))) δ;have k2:a'.eval (.tmp 89)=.agg #[.int .i64 y.pos,.int .u64 y.QN,.bool y.needs,.slice A_r y.runs.length al]:=L.ev (x := .tmp 89) (v := .ag (laC 88)) δ;rw[show(#[]++(#[Operand.tmp 84,Operand.tmp 89]:Array Operand).map a'.eval ++ #[]:Array Value) = #[a'.eval (.tmp 84),a'.eval (.tmp 89)] from ξ,k1,k2];have O:=bx.below (aI _ _ _) (hk.below (B:=B) (by have:=X.size;have:=K811.size;omega) fun _ _ e=>e);refine(tX x.QJ y.needs A_r al y.runs y.pos y.QN w' bw (wM O) (by obtain⟨_,_,_,_,q,_⟩:=O;unfold top at q;omega) (wN O (by have:=X.size;have:=K811.size;have:=hk.size;omega))).mono fun en ds ⟨u,q1,q2,q3⟩=>?_
       subst q1;refine D _ _ (aD.of_below q3 fun i h1 h2=>χ) ?_;obtain⟨A,c,hu⟩:∃A c,u=.slice A (aa x.QJ y).1 c:=by
        rcases q2.2 with⟨f1,f2⟩|⟨g,cy,c3,f1,_⟩
        ·refine⟨none,0,?_⟩
         rw[f1];show _=Value.slice none (Ln.dE x.QJ y.needs y.runs).1.length 0;rw[f2]
        ·exact⟨_,_,f1⟩
       rw[hu];exact⟨A,c,_,_,rfl⟩
      ·obtain rfl:=ι Q
       obtain⟨u,l,A,c,q1,q2,rfl⟩:=hv 7 90 χ χ δ rfl;unfold Oper.wp;rw[rL (t:=90) (.inl rfl),l.eval (by rw[L.size];decide)];exact D _ _ (aD.refl _ _) ⟨A,c,q1,q2,rfl⟩
      ·obtain rfl:=ι Q
       obtain⟨u,l,A,c,q1,q2,rfl⟩:=hv 8 82 χ χ δ rfl;unfold Oper.wp;rw[gX (t:=82) (i:=0) rfl (l.eval (by rw[L.size];decide)) rfl];exact D _ _ (aD.refl _ _) ⟨A,c,rfl⟩
      ·obtain rfl:=ι Q
       obtain⟨u,l,A,c,q1,q2,rfl⟩:=hv 8 82 χ χ δ rfl;unfold Oper.wp;rw[gX (t:=82) (i:=1) rfl (l.eval (by rw[L.size];decide)) rfl];exact D _ _ (aD.refl _ _) trivial
      ·obtain rfl:=ι Q
       obtain⟨u,l,A,c,q1,q2,rfl⟩:=hv 8 82 χ χ δ rfl;unfold Oper.wp;rw[gX (t:=82) (i:=2) rfl (l.eval (by rw[L.size];decide)) rfl];exact D _ _ (aD.refl _ _) trivial
      ·obtain rfl:=ι Q
       obtain⟨u,l,A,c,rfl⟩:=hv 9 91 χ χ δ rfl;unfold Oper.wp;rw[rL (t:=91) (.inr rfl),l.eval (by rw[L.size];decide)];exact D _ _ (aD.refl _ _) ⟨A,c,rfl⟩
      ·obtain rfl:=ι Q
       unfold Oper.wp;rw[rL (t:=92) (.inr rfl)];exact D _ _ (aD.refl _ _) trivial
     ·obtain rfl:=ι Q
      obtain⟨u,l,A,c,rfl⟩:=hv 12 12 χ χ rfl;refine bF rfl fun K D=>?_
      unfold Oper.wp;rw[rL (t:=93) (.inr rfl)];refine D _ _ (ln (show wpL _ _ _ _ _ from ?_));have f1:=(L.sub (F':=(4,.one (.i .i64 (.x 65)))::Cf) δ).on (aQ _ 104 (ahS A (aa x.QJ y).1 c (a'.eval (.tmp 93)))) δ;have f2:=(iD (t:=12) (v := .one (.sl 104 104 105)) f1 (by rw[Array.getElem?_eq_getElem (by rw[L.size];decide),l];rfl)).put (d:=14) (v := .one (.v 104)) ψ;refine b7 2 τ ((4,.one (.i .i64 (.bin .add .i64 (.x 65) (.bin .add .i64 (.c 8) (.bin .mul .i64 (.c 8) (.ln 104))))))::Cf) [] 5 [] hPp δ (f2.now (P:=Tryz.prog) 5 w') fun cs cw d1 cb be=>cM rfl ?_
      refine⟨r+(8+8*(aa x.QJ y).1),cs,?_,fun q (C:q<3)=>(be.upto q (by show q<5;omega)).trans ((cj q (by show q<4;omega)).trans (b1 q C)),cb.has.re ⟨rfl,congrArg (Value.int .i64) ?_,rfl,rfl,rfl,rfl,rfl,trivial⟩,?_,K3 (K3 K11 hk) be.keep⟩
      ·show r+(8+8*(aa x.QJ y).1)=s+eD x (j+1)
       simp only[eD];omega
      ·show IntKind.i64.wrap ((r:Int)+IntKind.i64.wrap (((8:Nat):Int)+IntKind.i64.wrap (((8:Nat):Int)*((aa x.QJ y).1:Int))))=((r+(8+8*(aa x.QJ y).1):Nat):Int)
       rw[Cx χ,kq (a:=8) χ,kq χ]
      ·exact(A11.trans (show aE τ bg (a'.put (some 14) _) from⟨by simp[Act.put,L.size,ac.has.size],hb.defers,fun _ h=>by cases h⟩) fun _ h=>h).trans be.agree fun _ h=>h
   ·have hr:r=s+eD x 4:=n7.gh
    refine cM rfl ⟨r,κ6,?_,fun q (C:q<1)=>(p6.upto q (by show q<2;omega)).trans (u5 q C),n7.has.re ⟨rfl,rfl,rfl,rfl,rfl,trivial⟩,(an.trans p6.agree fun _ h=>h).trans a0 fun _ h=>h,K3 (K3 V p6.keep) W⟩;show r=e+gS (P.Q9.take (k+1));rw[List.take_add_one,U];show _=e+gS (P.Q9.take k++[x]);rw[ug];omega
  ·have hs:s=e+gS (P.Q9.take P.Q9.length):=n4.gh
   rw[List.take_length]at hs;refine dU 2 τ [(2,.one (.i .i64 (.x 41)))] [] 1 [] hPp δ n4 fun κ5 a5 w5 n5 p5=>?_
   refine fj 2 rfl n5.has rfl (p5.agree.defers.trans (an.defers.trans (p3.agree.defers.trans (hA.defers.trans (p1.agree.defers.trans hd))))) ?_;rw[hR];refine⟨?_,K3 (K3 (K3 bo p3.keep) V) p5.keep⟩;show Ending.returned (.int .i64 (s:Int))=_;have:s=dl aa P:=by
    rw[hs,he];unfold dl ahN kS gS;omega
   rw[this]
end Rs
namespace Rs
open Go.RowKit Ck
variable {B:Nat}
theorem Now.setG{S:Sta}{κ:Kap}{N:Nat}{P:Program}{C:Ctx}{H:Gh}{F:Fr}{k:Nat}{e:List Nat}{a:Act}{w:World}(h:Now S κ N P C H ⟨F,[],k,e⟩ a w)(H':Gh)(e':List Nat)(tb:∀g,H'.T g→g<w.heap.size)(d:H'.G e' w):Now S κ N P {} H' ⟨F,[],k,e'⟩ a w:=
 ⟨h.has,⟨fun _ _ h=>by cases h⟩,Rs.noC _ _ _ _ _,tb,d⟩
def msS(A:Option Addr)(n c:Nat)(m pos:Int)(fp:Nat):Sta where
 i j:=match j with|0=>m|_=>pos
 a _:=A
 n j:=match j with|0=>n|_=>c
 o _ := .func (.func fp) #[] #[]
def msF:Fr:=ma 0 [.one (.p 0 0),.one (.sl 0 0 1),.one (.i .i64 (.x 0)),.one (.v 0)]
def msT:SV := .b (.cmp .gtr (.ln 0) (.x 0)) |> .one
def msC(fp:Nat)(E:List (Nat×Nat×IE×Nat×Nat))(cl:List Cl):Ctx:={ EL:=E,ET:=[(fp,[.ag cl],.one (.i .i64 (.x 1))),(73,[.one (.p 0 0),.one (.i .i64 (.x 1)),.one (.i .i64 (.c 0)),.one (.i .i64 (.c 4))],.tu [])] }
def msE(k:Nat):List (Nat×Nat×IE×Nat×Nat):=[(0,k,.x 0,0,1)]
noncomputable def msB(fp k:Nat)(fn fn2:Func)(c0:Code)(ops:Array Oper)(cl:List Cl):Bool:=
 (Nat.beq fn.ntmps 20&&(fn.body.isSome&&(Nat.beq fn2.ntmps 5&&fn2.body.isSome)))&&(gH (gK Tryz.prog {} 20 [c0] ⟨msF,[],1,[]⟩) ⟨msF,[],1,[]⟩ .n τ ((11,msT)::msF) [] 1 [] &&
 (xB Tryz.prog (msC fp (msE k) cl) { CL:=[(0,fp,[])] } 20 ops.toList ⟨(11,msT)::msF,[(1,cl)],2,[]⟩ τ [] [] 2 [1,0]&&(cl.all (Cl.sc 0)&&gH (gK Tryz.prog {} 5 ((flat (ax fn2 [])).take 3) ⟨ma 0 [.ag cl],[],0,[]⟩) ⟨ma 0 [.ag cl],[],0,[]⟩ .r τ [(2,.one (.i .i64 (.x 32)))] [] 1 [])))
structure jF {α:Type} (f fp k:Nat) (R:World→Nat→Nat→α→Prop) (pos:α→Int):Prop where
 ex:∃(fn fn2:Func) (c0:Code) (id:Nat) (ops:Array Oper) (cl:List Cl),Tryz.prog.funcs[f]?=some fn∧Tryz.prog.funcs[fp]?=some fn2∧flat (ax fn [])=[c0,Code.cond (.tmp 11) (Code.region id ops false) .skip]∧fn.results = #[]∧fn2.results = #[.tmp 2]∧msB fp k fn fn2 c0 ops cl=true ∧
  ∀w b o x,R w b o x→∃(d:Sta) (vs:List Value),aL w b o vs∧(∀(S:Sta) (κ:Kap),cl.map (Cl.den (S.put 32 d) κ)=vs)∧d.i 0=pos x
theorem jF.most{α:Type}{f E k:Nat}{R:World→Nat→Nat→α→Prop}{pos:α→Int}(m:jF f E k R pos){B:Nat}{w:World}{pb:Nat}{v:ae}{P:aF}{L:List Wr}(h:aG B w pb v P kL L){u:Value}{xs:List α}(hs:aM B k R w u xs)(n:Nat)(hn:n≤65536):
 Calls Tryz.prog f #[.pointer (some ⟨pb,0,none⟩),u,.int .i64 n,.func (.func E) #[] #[]] w fun e w'=>e=.returned (.tuple #[])∧aG B w' pb v P kL (Ck.most pos n xs++L)∧aD (fun k=>k=pb) w w':=by
 obtain⟨fn,ad,c0,a3,ops,cl,h1,h2,hc,hr,Z,hB,X⟩:=m.ex;simp only[msB,Bool.and_eq_true]at hB;obtain⟨⟨b1,b2,b3,b4⟩,g1,g2,g0,g3⟩:=hB;obtain⟨A,c,rfl,an,al,hl⟩:=hs;obtain⟨p,N⟩:∃p:Int,p=match xs[n]? with|some x=>pos x|none=>0:=⟨_,rfl⟩
 refine fnE (msS A xs.length c n p E) (fun _=>(pb,0)) [.one (.p 0 0),.one (.sl 0 0 1),.one (.i .i64 (.x 0)),.one (.v 0)] h1 (π b1) b2 rfl (show 4≤20 by decide) H0 (fun _ h=>h.elim) trivial fun a K hh=>?_
 have n0:Now (msS A xs.length c n p E) (fun _=>(pb,0)) 20 Tryz.prog {} H0 ⟨msF,[],1,[]⟩ a w:=⟨hh.has,hh.mem,hh.ctx,hh.tb,hh.gh⟩;rw[hc];refine b7 1 τ ((11,msT)::msF) [] 1 [] hPp g1 n0 fun κ1 a1 w1 n1 D=>?_
 have k1:κ1 0=(pb,0):=D.upto 0 ψ;have L1:=h.new D.keep
 by_cases hlt:n<xs.length
 ·obtain⟨b,off,rfl,hb,V⟩:=hl χ
  obtain⟨x,hx⟩:=ge hlt;rw[hx]at N;simp only at N;obtain⟨d,vs,ac,H,W⟩:=X _ _ _ _ (V n x hx);have I:b<w.heap.size:=by have:=h.base;have:=h.lt;omega
  refine cG true n1 rfl (show decide ((xs.length:Int)>(n:Int))=true from decide_eq_true χ) ?_;have af:B≤w.heap.size:=by have:=h.base;have:=h.lt;omega
  have Y:b≠pb:=by have:=h.base;omega
  have U:aL w1 b (off+n*k) vs:=ac.keep D.keep I id;obtain⟨G,q⟩:∃G:Gh,G=⟨fun k=>k=pb,fun e w=>aG B w pb v P kL (List.replicate (e.count 1) (pos x,0)++L),fun e w w' hk h=>h.new hk⟩:=⟨_,rfl⟩;have n2:=(n1.lay 32 d δ).setG G [] (fun g C=>by rw[q]at C;rw[show g=pb from C];have:=h.lt;have:=D.keep.size;omega) (by rw[q];exact L1);obtain⟨Q,u3,_,n3⟩:=n2.base b (off+n*k) cl ⟨Θ I D.keep.size,fun e=>Y (by rw[q]at e;exact e)⟩ (by rw[H];exact U) (msE k) (by rw[show(St.sc _&&(Ctx.sc _ 1&&(cl.all (Cl.sc 0)&&(msE k).all fun x=>Nat.beq x.2.2.2.2 1)))=cl.all (Cl.sc 0) from by rw[show(msE k).all (fun x=>Nat.beq x.2.2.2.2 1)=true from rfl,Bool.and_true];rfl];exact g0) (fun z hz=>by
   obtain rfl:=ρ.1 hz;refine⟨?_,?_,b,off,rfl,?_⟩
   ·show(0:Int)≤(n:Int);omega
   ·show(n:Int)<(xs.length:Int);omega
   ·show(b,off+n*k)=(b,off+(n:Int).toNat*k)
    congr 1)
  have k3:Q 0=(pb,0):=(u3 0 ψ).trans k1;have a0:aG B w pb v P kL L:=h;have J:∀w',Calls Tryz.prog E #[.agg vs.toArray] w' fun e l=>e=.returned (.int .i64 (pos x))∧Kz w' l:=fun w'=>by
   refine fnE (({}:Sta).put 32 d) (fun _=>(0,0)) [.ag cl] h2 (π b3) b4 (by rw[←H ({}:Sta) fun _=>(0,0)];rfl) (show 1≤5 by decide) H0 (fun _ h=>h.elim) trivial fun a K hh=>?_
   refine dU 3 τ [(2,.one (.i .i64 (.x 32)))] [] 1 [] hPp g3 hh fun κ a' l n p=>?_
   refine fj 2 Z n.has rfl (p.agree.defers.trans K) ⟨?_,p.keep⟩;rw[←W];rfl
  refine fb (CL:={ CL:=[(0,E,[])] }) τ [] [] 2 [1,0] g2 (n3.more [] [] (msC E (msE k) cl).ET dg (fun y j=>by cases j) (fun i y j e w' a2 C=>?_)) ⟨fun y j=>by
   obtain rfl:=ρ.1 j;rfl,fun _ h=>by cases h⟩ fun κ4 a4 w4 n4 p4=>cM rfl (dL hr (p4.agree.defers.trans (D.agree.defers.trans K)) ⟨rfl,?_,?_⟩)
  ·match i,j with
   | 0,j =>
    obtain rfl:=ι j;show Calls Tryz.prog E #[.agg (cl.map (Cl.den ((msS _ _ _ _ _ _).put 32 d) Q)).toArray] w' _;rw[H];refine(J w').mono fun en l ⟨q1,O⟩=>⟨by rw[q1,←N];rfl,K_T O,G.st _ _ _ O ?_⟩
    rw[q]at C⊢
    simpa using C
   | 1,j =>
    obtain rfl:=ι j;rw[q]at C;have C:aG B w' pb v P kL (List.replicate (e.count 1) (pos x,0)++L):=C;show Calls Tryz.prog 73 #[.pointer (some ⟨(Q 0).1,(Q 0).2+0,none⟩),.int .i64 p,.int .i64 0,.int .i64 4] w' _;rw[k3,N];refine(fX (pos x) 0 4 C rfl).mono fun en l ⟨q1,O,q3⟩=>⟨q1,by rw[q];exact q3,?_⟩
    rw[q];show aG B l pb v P kL (List.replicate ((1::e).count 1) (pos x,0)++L);rw[List.count_cons_self,List.replicate_succ];exact O
   | i+2,j=>cases j
  ·have:=n4.gh
   rw[q]at this;have hm:Ck.most pos n xs=[(pos x,0)]:=by unfold Ck.most;rw[hx]
   rw[hm];exact this
  ·have:=p4.keep
   rw[q]at this;exact(K_T D.keep).trans this fun _ _ h=>h
 ·refine cG false n1 rfl (show decide ((xs.length:Int)>(n:Int))=false from decide_eq_false χ) (fZ (cM rfl (dL hr (D.agree.defers.trans K) ⟨rfl,?_,K_T D.keep⟩)))
  have:Ck.most pos n xs=[]:=by unfold Ck.most;rw[List.getElem?_eq_none χ]
  rw[this];exact L1
theorem Ey:jF 75 76 3 BL Ck.Ram.pos:=⟨_,_,_,_,_,Bo 32,Tryz.func75,Tryz.func76,rfl,rfl,rfl,δ,fun _ _ _ x d=>⟨kU x,_,d.1,fun _ _=>rfl,rfl⟩⟩
theorem G4:jF 77 78 5 (lZ B) Ck.bR.pos:=⟨_,_,_,_,_,yi 32,Tryz.func77,Tryz.func78,rfl,rfl,rfl,δ,fun _ _ _ x ⟨_,d,⟨A,c,e,_⟩,_⟩=>⟨CU x (.slice A x.QA.length c),_,d,fun _ _=>by rw[e];rfl,rfl⟩⟩
theorem Ew:jF 79 80 10 lX Ck.Region.pos:=⟨_,_,_,_,_,nK 32,Tryz.func79,Tryz.func80,rfl,rfl,rfl,δ,fun _ _ _ x d=>⟨ly x,_,d.1,fun _ _=>rfl,rfl⟩⟩
theorem Ev:jF 81 82 6 (jy B) ak.pos:=⟨_,_,_,_,_,ny 32,Tryz.func81,Tryz.func82,rfl,rfl,rfl,δ,fun _ _ _ x ⟨_,_,g,⟨A,c,e,_⟩,⟨A',d,e',_⟩,_⟩=>⟨zM x (.slice A x.QA.length c) (.slice A' x.QO.length d),_,g,fun _ _=>by rw[e,e'];rfl,rfl⟩⟩
theorem G5:jF 83 84 8 mh Ck.bO.pos:=⟨_,_,_,_,_,chC 32,Tryz.func83,Tryz.func84,rfl,rfl,rfl,δ,fun _ _ _ x d=>⟨chZ x 0 0,_,d.1,fun _ _=>rfl,rfl⟩⟩
theorem G3:jF 85 86 6 BO Ck.Irq.pos:=⟨_,_,_,_,_,irC 32,Tryz.func85,Tryz.func86,rfl,rfl,rfl,δ,fun _ _ _ x d=>⟨irS x 0,_,d.1,fun _ _=>rfl,rfl⟩⟩
theorem G0:jF 87 88 6 rj Ck.iG.pos:=⟨_,_,_,_,_,quC 32,Tryz.func87,Tryz.func88,rfl,rfl,rfl,δ,fun _ _ _ x d=>⟨quS x 0 0,_,d.1,fun _ _=>rfl,rfl⟩⟩
theorem G6:jF 89 90 3 BQ Ck.Ban.pos:=⟨_,_,_,_,_,baC 32,Tryz.func89,Tryz.func90,rfl,rfl,rfl,δ,fun _ _ _ x d=>⟨baS x 0,_,d.1,fun _ _=>rfl,rfl⟩⟩
theorem G1:jF 91 92 4 (rm B) Ck.jp.pos:=⟨_,_,_,_,_,plC 32,Tryz.func91,Tryz.func92,rfl,rfl,rfl,δ,fun _ _ _ x ⟨_,d,⟨A,c,e,_⟩,_⟩=>⟨plS x (.slice A x.QL.length c) false,_,d,fun _ _=>by rw[e];rfl,rfl⟩⟩
theorem G2:jF 94 95 5 eK Ck.Map.pos:=⟨_,_,_,_,_,DO 32,Tryz.func94,Tryz.func95,rfl,rfl,rfl,δ,fun _ _ _ x d=>⟨DN x,_,d.1,fun _ _=>rfl,rfl⟩⟩
end Rs
section
open Go.RowKit Go.IntWalk Ck
variable {w:World} {u:Value} {B pb:Nat} {named:ByteArray→Bool} {L:List Wr} {l:List Sp}
theorem y7{z:Nat}{e:TypeId}{vals:List Value}(h:w.ownsRow z e 1 u vals.length vals):
 ∃A c,u=.slice A vals.length c∧(0<vals.length→∃g,A=some ⟨g,0,none⟩∧z≤g∧g<w.heap.size∧∀(i:Nat) (x:Value),vals[i]?=some x→w.cell? ⟨g,i,none⟩=some x):=by
 rcases ϑ vals.length with y|y
 ·rcases h.2 with⟨q,C⟩|⟨g,l,B,q,_⟩
  ·exact⟨none,0,by rw[q,C],fun h=>χ⟩
  ·exact⟨_,_,q,fun h=>χ⟩
 ·obtain⟨g,l,E,D,v⟩:=h.form y
  subst E;refine⟨_,_,rfl,fun _=>⟨g,rfl,D,v,fun i x H=>?_⟩⟩;have:=h.cells (g:=g) rfl i x H;have d:∀j,(⟨g,0,none⟩:Addr).add j=⟨g,j,none⟩:=fun j=>by unfold Addr.add;split<;>simp_all
  rw[d]at this;exact this
def ij(P:aF):List Wr:=
 most Ck.Ram.pos 8 P.QD++most Ck.bR.pos 32 P.Q5++most Ck.Region.pos 256 P.Q3++most Ck.ak.pos 64 P.Q4++most Ck.bO.pos 256 P.Q8 ++
 most Ck.Irq.pos 64 P.QM++most Ck.iG.pos 64 P.QB++most Ck.Ban.pos 256 P.QG++most Ck.jp.pos 16 P.Q9
theorem vc{v:ae}{P:aF}(h0:aG B w pb v P kL []):
 Calls Tryz.prog 26 #[.pointer (some ⟨pb,0,none⟩)] w fun e w'=>e=.returned (.tuple #[])∧aG B w' pb v P kL (gZ P)∧aD (fun k=>k=pb) w w':=by
 have K0:Hid (aD (fun k=>k=pb) w w):=aD.refl _ _;have hq0:w.cell? ⟨pb,2,none⟩=some v.QD:=h0.cell rfl
 go_enter Tryz.func26,Tryz.ntmps26
 go_wp2_with fail
 refine(Rs.Ey.most h0 h0.QU.QD 8 χ).mono ?_;rintro e w1 ⟨rfl,h1,hk⟩;have K1:Hid (aD (fun k=>k=pb) w w1):=K0.out.trans hk (fun _ _ e=>e);clear hk hq0 h0 K0;have hq1:w1.cell? ⟨pb,3,none⟩=some v.Q5:=h1.cell rfl
 go_wp2_with fail
 refine(Rs.G4.most h1 h1.QU.Q5 32 χ).mono ?_;rintro e w2 ⟨rfl,h2,hk⟩;have K2:Hid (aD (fun k=>k=pb) w w2):=K1.out.trans hk (fun _ _ e=>e);clear hk hq1 h1 K1;have hq2:w2.cell? ⟨pb,4,none⟩=some v.Q3:=h2.cell rfl
 go_wp2_with fail
 refine(Rs.Ew.most h2 h2.QU.Q3 256 χ).mono ?_;rintro e w3 ⟨rfl,h3,hk⟩;have K3:Hid (aD (fun k=>k=pb) w w3):=K2.out.trans hk (fun _ _ e=>e);clear hk hq2 h2 K2;have hq3:w3.cell? ⟨pb,5,none⟩=some v.Q4:=h3.cell rfl
 go_wp2_with fail
 refine(Rs.Ev.most h3 h3.QU.Q4 64 χ).mono ?_;rintro e w4 ⟨rfl,h4,hk⟩;have K4:Hid (aD (fun k=>k=pb) w w4):=K3.out.trans hk (fun _ _ e=>e);clear hk hq3 h3 K3;have hq4:w4.cell? ⟨pb,6,none⟩=some v.Q8:=h4.cell rfl
 go_wp2_with fail
 refine(Rs.G5.most h4 h4.QU.Q8 256 χ).mono ?_;rintro e w5 ⟨rfl,h5,hk⟩;have K5:Hid (aD (fun k=>k=pb) w w5):=K4.out.trans hk (fun _ _ e=>e);clear hk hq4 h4 K4;have hq5:w5.cell? ⟨pb,7,none⟩=some v.QM:=h5.cell rfl
 go_wp2_with fail
 refine(Rs.G3.most h5 h5.QU.QM 64 χ).mono ?_;rintro e w6 ⟨rfl,h6,hk⟩;have K6:Hid (aD (fun k=>k=pb) w w6):=K5.out.trans hk (fun _ _ e=>e);clear hk hq5 h5 K5;have hq6:w6.cell? ⟨pb,8,none⟩=some v.QB:=h6.cell rfl
 go_wp2_with fail
 refine(Rs.G0.most h6 h6.QU.QB 64 χ).mono ?_;rintro e w7 ⟨rfl,h7,hk⟩;have K7:Hid (aD (fun k=>k=pb) w w7):=K6.out.trans hk (fun _ _ e=>e);clear hk hq6 h6 K6;have hq7:w7.cell? ⟨pb,13,none⟩=some v.QG:=h7.cell rfl
 go_wp2_with fail
 refine(Rs.G6.most h7 h7.QU.QG 256 χ).mono ?_;rintro e w8 ⟨rfl,h8,hk⟩;have K8:Hid (aD (fun k=>k=pb) w w8):=K7.out.trans hk (fun _ _ e=>e);clear hk hq7 h7 K7;have hq8:w8.cell? ⟨pb,9,none⟩=some v.Q9:=h8.cell rfl
 go_wp2_with fail
 refine(Rs.G1.most h8 h8.QU.Q9 16 χ).mono ?_;rintro e w9 ⟨rfl,h9,hk⟩;have K9:Hid (aD (fun k=>k=pb) w w9):=K8.out.trans hk (fun _ _ e=>e);clear hk hq8 h8 K8;have hc9:aG B w9 pb v P kL (ij P):=h9.congr fun p=>by
  simp only[ij,List.mem_append,List.mem_nil_iff,or_false];constructor
  ·rintro(h|h|h|h|h|h|h|h|h)<;>simp[h]
  ·rintro((((((((h|h)|h)|h)|h)|h)|h)|h)|h)<;>simp[h]
 clear h9
 go_wp2_with fail
 refine(oD hc9).mono ?_;rintro e w10 ⟨u,vals,rfl,hown,hsp,hb⟩;have hk0:=jj hb rfl;have h10:=hc9.new hk0;have K10:Hid (aD (fun k=>k=pb) w w10):=K9.out.trans hk0 (fun _ _ e=>e.elim);obtain⟨A,c,rfl,hcell⟩:=y7 hown;have hlt9:=hc9.lt;have hvl:vals.length≤4194304:=by
  rw[hsp.1];obtain⟨_,_,_,_,b1,_⟩:=hc9.QU.Q4;obtain⟨_,_,_,_,b2,_⟩:=hc9.QU.Q5;unfold top at b1 b2;simp[aF.spaces];omega
 have HSP:=hh hsp;have hBp:=hc9.base;have HB0:=hh hk0;clear hk0 hb hown hsp K9 hc9
 go_wp2
 go_loopw [70] (fun i wr=>∃n:Nat,n≤vals.length∧i=.int .i64 n∧aG B wr pb v P kL ((P.spaces.take n).flatMap (most Ck.Map.pos 64)++ij P)∧aD (fun k=>k=pb) w10 wr) (fun i _=>vals.length-(intOf i).toNat)
 case atStart=>exact⟨0,Nat.zero_le _,rfl,by simpa using h10,aD.refl _ _⟩
 case round =>
 obtain⟨n,hn,rfl,hL,hk⟩:=hrel
 by_cases hlt:n<vals.length
 ·obtain⟨g,rfl,hg1,hg2,hgc⟩:=hcell χ
  obtain⟨x,hx⟩:=ge hlt;obtain⟨l,hl⟩:∃l,P.spaces[n]?=some l:=⟨_,Ez (by rw[←HSP.out.1];exact hlt)⟩;have hs:=(HSP.out.2 n x l hx hl).below (aI _ _ _) (((HB0.out.mono (T:=fun k=>k=pb) fun _ _ h=>h.elim).trans hk (fun _ _ e=>e)).below (B:=B) χ (fun i hi e=>χ));have hgl:g<wr.heap.size:=by have:=hk.size;omega
  have q0:wr.cell? ⟨g,n,none⟩=some x:=(hk.cell (p:=⟨g,n,none⟩) hg2 (by show ¬ g=pb;omega)).trans (hgc n x hx);obtain⟨Ax,cx,rfl,hsr⟩:=hs;have HX:=hh hl;have HK:=hh hk;have HS:Hid (aM B 5 eK wr (.slice Ax l.length cx) l):=⟨Ax,cx,rfl,hsr⟩;clear hx hl hk hsr hcell hgc
  go_wp2_with fail
  refine(Rs.G2.most hL HS.out 64 χ).mono ?_;rintro e w11 ⟨rfl,hL2,hk2⟩;have HL2:=hh hL2;have HK2:=hh hk2;clear hL2 hk2 hL
  go_wp2
  go_roundw
  case rel =>
   refine⟨n+1,χ,by go_num,HL2.out.congr fun p=>?_,HK.out.trans HK2.out (fun _ _ e=>e)⟩;rw[aO HX.out];simp[or_assoc,or_comm,or_left_comm]
  case measure=>simp[intOf];omega
 ·obtain rfl:n=vals.length:=χ
  have hL2:aG B wr pb v P kL (gZ P):=hL.congr fun p=>by
   rw[HSP.out.1,List.take_length];simp only[gZ,ij,List.mem_append];exact⟨fun h=>h.symm,fun h=>h.symm⟩
  have HL2:=hh hL2;have HK:=hh hk;clear hL2 hL hk
  go_wp2
  go_end0
  exact⟨rfl,HL2.out,K10.out.trans HK.out (fun _ _ e=>e)⟩
def fU(B:Nat)(named:ByteArray→Bool):Prop:=∀(w:World) (s:ByteArray),iH B w→B≤w.heap.size→aV s→Calls Tryz.prog 122 #[.string s] w fun e w'=>e=.returned (.bool (named s))∧Kz w w'
def cD(named:ByteArray→Bool)(s:ByteArray)(l:List Int):List Wr:=l.flatMap (fun Q7=>say (named s) Q7 0)++cQ (fun a b=>[(max a b,1)]) l
theorem nL{s:ByteArray}{l:List Int}{x:Int}{p:Wr}:p∈cD named s (l++[x])↔p∈cD named s l∨p∈say (named s) x 0∨p∈l.flatMap (fun y=>[(max x y,1)]):=by
 simp only[cD,List.mem_append,cg,List.flatMap_append,List.flatMap_cons,List.flatMap_nil,List.append_nil,List.mem_flatMap];constructor
 ·rintro((h|h)|(h|h))
  ·exact .inl (.inl h)
  ·exact .inr (.inl h)
  ·exact .inl (.inr h)
  ·exact .inr (.inr h)
 ·rintro((h|h)|(h|h))
  ·exact .inl (.inl h)
  ·exact .inr (.inl h)
  ·exact .inl (.inr h)
  ·exact .inr (.inr h)
theorem gT(x:Nm)(t:List Nm)(s:ByteArray):aX (x::t) s=if x.1=s then x.2::aX t s else aX t s:=by
 unfold aX
 by_cases h:x.1=s<;>simp[h]
theorem iV{t:List Nm}{s:ByteArray}{q:Int}:q∈aX t s↔(s,q)∈t:=by
 unfold aX;simp only[List.mem_map,List.mem_filter,decide_eq_true_eq];constructor
 ·rintro⟨⟨a,b⟩,⟨j,d⟩,g⟩
  simp only at d g;subst d;subst g;exact j
 ·intro h
  exact⟨(s,q),⟨h,rfl⟩,rfl⟩
theorem sn{named:ByteArray→Bool}{p:Wr}:∀{f:List Nm},p∈iQ named f↔∃s,p∈cD named s (aX f s)
 | []=>by simp[iQ,cD,aX,cQ]
 | x::t=>by
  have u:=sn (named:=named) (p:=p) (f:=t);have j:p∈iQ named (x::t)↔p∈say (named x.1) x.2 0∨(∃q,(x.1,q)∈t∧p=(max q x.2,1))∨p∈iQ named t:=by
   simp only[iQ,List.flatMap_cons,cQ,List.mem_append,List.mem_flatMap];constructor
   ·rintro((h|h)|(⟨y,g,h⟩|h))
    ·exact .inl h
    ·exact .inr (.inr (.inl h))
    ·by_cases e:y.1=x.1
     ·simp only[e,if_true,List.mem_singleton]at h
      exact .inr (.inl ⟨y.2,by rw[←e];exact g,h⟩)
     ·simp[e]at h
    ·exact .inr (.inr (.inr h))
   ·rintro(h|⟨q,d,h⟩|(h|h))
    ·exact .inl (.inl h)
    ·exact .inr (.inl ⟨(x.1,q),d,by simp[h]⟩)
    ·exact .inl (.inr h)
    ·exact .inr (.inr h)
  have l:(∃s,p∈cD named s (aX (x::t) s))↔p∈say (named x.1) x.2 0∨(∃q,(x.1,q)∈t∧p=(max q x.2,1))∨∃s,p∈cD named s (aX t s):=by
   constructor
   ·rintro⟨s,h⟩
    rw[gT]at h
    by_cases e:x.1=s
    ·rw[if_pos e]at h
     simp only[cD,List.flatMap_cons,cQ,List.mem_append,List.mem_flatMap]at h;subst e
     rcases h with(h|h)|(⟨y,g,h⟩|h)
     ·exact .inl h
     ·exact .inr (.inr ⟨x.1,by simp only[cD,List.mem_append,List.mem_flatMap];exact .inl h⟩)
     ·exact .inr (.inl ⟨y,iV.1 g,by simpa using h⟩)
     ·exact .inr (.inr ⟨x.1,by simp only[cD,List.mem_append];exact .inr h⟩)
    ·rw[if_neg e]at h
     exact .inr (.inr ⟨s,h⟩)
   ·have v:∀s,p∈cD named s (aX t s)→p∈cD named s (aX (x::t) s):=fun s h=>by
     rw[gT]
     by_cases e:x.1=s
     ·rw[if_pos e]
      simp only[cD,List.flatMap_cons,cQ,List.mem_append]at h⊢
      rcases h with h|h
      ·exact .inl (.inr h)
      ·exact .inr (.inr h)
     ·rw[if_neg e];exact h
    rintro(h|⟨q,d,h⟩|⟨s,h⟩)
    ·exact⟨x.1,by rw[gT,if_pos rfl];simp only[cD,List.flatMap_cons,List.mem_append];exact .inl (.inl h)⟩
    ·exact⟨x.1,by rw[gT,if_pos rfl];simp only[cD,cQ,List.mem_append,List.mem_flatMap];exact .inr (.inl ⟨q,iV.2 d,by simp[h]⟩)⟩
    ·exact⟨s,v s h⟩
  rw[j,l,u]
theorem mp{w':World}{b r n cnt:Nat}{D:DataW Value}{left:Lit→Bool}(h:w.ranges Tryz.prog 9 dx b r n D left cnt)(hk:aD (fun k=>k=pb) w w')(g:b≠pb)(j:r≠pb):w'.ranges Tryz.prog 9 dx b r n D left cnt:=
 h.kept (row:=some pb) ⟨hk.os,hk.tape,hk.output,hk.size,fun i hi d=>hk.block i hi (fun e=>d (by rw[e]))⟩ (fun e=>g (ι e)) (fun e=>j (ι e))
theorem zI{v:ae}{P:aF}(h:aG B w pb v P cN L)(a:Act)(a6:a.tmps.size=44)(h0:At a 0 (.pointer (some ⟨pb,0,none⟩)))
 {A:Option Addr}{c N:Nat}{q:List Int}{x:Int}(h5:At a 5 (.slice A N c))(h6:At a 6 (.int .i64 q.length))(h7:At a 7 (.int .i64 x))(bg:q.length≤N)(bf:N≤c)(bo:q.length≤4194304)
 (l:0<q.length→∃g,A=some ⟨g,0,none⟩∧g<w.heap.size∧g≠pb∧∀(i:Nat) (y:Int),q[i]?=some y→w.cell? ⟨g,i,none⟩=some (.int .i64 y))(Q:Exit→Act→World→Prop)
 (hQ:∀Z w',aE (fun i=>i==9||(rg 29 42 i)) a Z→aG B w' pb v P cN (q.flatMap (fun y=>[(max x y,1)])++L)→aD (fun k=>k=pb) w w'→Q .normal Z w'):
 (ax Tryz.f69 [1,0,0,1,1,0,1,1,0,0,1,1,0,0,1,1]).wp Tryz.prog Q a w:=by
 have bm:=h.lt;have bp:q.length≤c:=χ
 conv=>arg 2;whnf
 refine so (fun C w1=>aE (fun i=>i==29||i==30||i==31||i==32||i==33) a C∧At C 31 (.slice A q.length c)∧At C 32 (.int .i64 q.length)∧At C 33 (.int .i64 0)∧w1=w) ?_ ?_
 ·clear l
  obtain⟨T,d⟩:=a;refine rl ?_
  iterate 5 with_reducible refine st ?_
  with_reducible refine ln ?_
  refine⟨rfl,ag,aq,aq,aq,rfl⟩
 rintro a0 w0 ⟨D,bb,a9,a7,rfl⟩;have U:a0.tmps.size=44:=D.size.trans a6;replace h0:=D.Q7 h0 rfl;replace h7:=D.Q7 h7 rfl;refine bX q.length (fun i=>i==9||(rg 33 42 i)) (fun i=>i==9||(rg 35 41 i)) (fun k _ w'=>aG B w' pb v P cN ((q.take k).flatMap (fun y=>[(max x y,1)])++L)∧aD (fun k=>k=pb) w0 w') χ a7 a9 ψ rfl
  ζ χ ψ (fun k C H w E hI=>hI) ⟨by simpa using h,aD.refl _ _⟩ ?_ ?_
 ·rintro n C wr O E a8 ⟨I,hk⟩
  obtain⟨g,rfl,al,an,J⟩:=l χ;obtain⟨y,hy⟩:=ge O;have q0:wr.cell? ⟨g,n,none⟩=some (.int .i64 y):=(hk.cell (p:=⟨g,n,none⟩) al an).trans (J n y hy);have W:=E.Q7 h0 rfl;have X:=E.Q7 h7 rfl;have Y:=E.Q7 bb rfl;have V:C.tmps.size=44:=E.size.trans U;have be:=hk.size;have bl:g<wr.heap.size:=χ
  have HY:=hh hy;have HL:=hh I;have HK:=hh hk;have bc:n≤c:=χ
  clear hy I hk E J l;refine so (fun H w2=>aE (fun i=>i==35||i==36||i==9) C H∧At H 9 (.int .i64 y)∧w2=wr) ?_ ?_
  ·obtain⟨T,d⟩:=C
   refine rl ?_
   iterate 3 with_reducible refine st ?_
   with_reducible refine ln ?_
   refine⟨rfl,ag,aq,rfl⟩
  rintro H w2 ⟨u,bs,rfl⟩;replace W:=u.Q7 W rfl;replace X:=u.Q7 X rfl;have bd:=u.size.trans V;refine Code.wp_only (R:=fun a3 w3=>aE (fun i=>rg 37 41 i) H a3∧aG B w3 pb v P cN ([(max x y,1)]++((q.take n).flatMap (fun y=>[(max x y,1)])++L))∧aD (fun k=>k=pb) w2 w3) ?_ ?_
  ·clear u Y a8 q0
   obtain⟨T,d⟩:=H;refine rl ?_
   iterate 4 with_reducible refine st ?_
   with_reducible refine Lz (fun K hK=>?_)
   go_simp;refine(fX _ 1 81 HL.out rfl).mono ?_;rintro e w4 ⟨rfl,ad,a4⟩;with_reducible refine hK _ _ (ln ?_)
   refine⟨rfl,?_,?_,a4⟩
   ·exact ag
   ·refine ad.congr fun p=>?_
    rw[show(if x<y then y else x)=max x y from by split<;>omega];exact Iff.rfl
  rintro a3 w3 ⟨ac,af,a5⟩;refine⟨(u.m).t ac,af.congr fun p=>?_,HK.out.trans a5 (fun _ _ e=>e)⟩;rw[aO HY.out,List.flatMap_append,List.flatMap_cons,List.flatMap_nil,List.append_nil];simp only[List.mem_append];simp only[or_assoc,or_comm,or_left_comm]
 ·rintro Z w' E ⟨I,hk⟩
  rw[List.take_length]at I;exact hQ _ _ ((D.m).t E) I hk
theorem xM{v:ae}{P:aF}(hN:fU B named)(h:aG B w pb v P cN L)(a:Act)(be:a.tmps.size=44)(h0:At a 0 (.pointer (some ⟨pb,0,none⟩)))
 {A:Option Addr}{c:Nat}{x:List Int}{s:ByteArray}(hs:aV s)(h4:At a 4 (.string s))(h5:At a 5 (.slice A x.length c))(bz:x.length≤c)(b1:x.length≤4194304)
 (l:0<x.length→∃g,A=some ⟨g,0,none⟩∧g<w.heap.size∧g≠pb∧∀(i:Nat) (y:Int),x[i]?=some y→w.cell? ⟨g,i,none⟩=some (.int .i64 y))(Q:Exit→Act→World→Prop)
 (hQ:∀a' w',aE (fun i=>i==6||i==7||i==9||(rg 17 43 i)) a a'→aG B w' pb v P cN (cD named s x++L)→aD (fun k=>k=pb) w w'→Q .normal a' w'):
 (ax Tryz.f69 [1,0,0,1,1,0,1]).wp Tryz.prog Q a w:=by
 have b0:=h.lt;have bx:=h.base
 conv=>arg 2;whnf
 refine so (fun E w1=>aE (fun i=>i==17||i==18||i==19) a E∧At E 17 (.slice A x.length c)∧At E 18 (.int .i64 x.length)∧At E 19 (.int .i64 0)∧w1=w) ?_ ?_
 ·clear l hN
  obtain⟨T,d⟩:=a;refine rl ?_
  iterate 3 with_reducible refine st ?_
  with_reducible refine ln ?_
  refine⟨rfl,ag,aq,aq,aq,rfl⟩
 rintro a0 w0 ⟨C,bs,bp,bm,rfl⟩;have Z:a0.tmps.size=44:=C.size.trans be;replace h0:=C.Q7 h0 rfl;replace h4:=C.Q7 h4 rfl;replace h5:=C.Q7 h5 rfl;refine bX x.length (fun i=>i==6||i==7||i==9||(rg 19 43 i)) (fun i=>i==6||i==7||i==9||(rg 21 42 i)) (fun k _ w'=>aG B w' pb v P cN (cD named s (x.take k)++L)∧aD (fun k=>k=pb) w0 w') χ bm bp ψ rfl
  ζ χ ψ (fun k E I w H hI=>hI) ⟨by simpa[cD,cQ]using h,aD.refl _ _⟩ ?_ ?_
 ·rintro n E wr X H bo ⟨V,hk⟩
  obtain⟨g,rfl,W,J,N⟩:=l χ;obtain⟨y,hy⟩:=ge X;have q0:wr.cell? ⟨g,n,none⟩=some (.int .i64 y):=(hk.cell (p:=⟨g,n,none⟩) W J).trans (N n y hy);have R:=H.Q7 h0 rfl;have al:=H.Q7 h4 rfl;have U:=H.Q7 h5 rfl;have an:=H.Q7 bs rfl;have ac:E.tmps.size=44:=H.size.trans Z;have bw:=hk.size;have bc:g<wr.heap.size:=χ
  have HY:=hh hy;have HL:=hh V;have HK:=hh hk;have HG:=hh N;have bt:n≤c:=χ
  clear hy V hk H N l;refine so (fun I w2=>aE (fun i=>i==21||i==22||i==23||i==6||i==7) E I∧At I 6 (.int .i64 n)∧At I 7 (.int .i64 y)∧w2=wr) ?_ ?_
  ·clear hN
   obtain⟨T,d⟩:=E;refine rl ?_
   iterate 5 with_reducible refine st ?_
   with_reducible refine ln ?_
   refine⟨rfl,ag,aq,aq,rfl⟩
  rintro I w2 ⟨q,bg,bl,rfl⟩;replace R:=q.Q7 R rfl;replace al:=q.Q7 al rfl;replace U:=q.Q7 U rfl;have ad:=q.size.trans ac;clear an bo q0;refine so (fun a3 w3=>aE (fun i=>rg 24 28 i) I a3∧aG B w3 pb v P cN (say (named s) y 0++(cD named s (x.take n)++L))∧aD (fun k=>k=pb) w2 w3) ?_ ?_
  ·have HN:=hh (hN w2 s HL.out.laid χ hs)
   clear q hN;obtain⟨T,d⟩:=I;refine rl ?_
   iterate 2 with_reducible refine st ?_
   with_reducible refine Lz (fun K hK=>?_)
   go_simp;refine HN.out.mono ?_;rintro e w4 ⟨rfl,D⟩;with_reducible refine hK _ _ ?_;clear hK K
   have a6:=hh (HL.out.new D);have a5:=hh D;clear D;with_reducible refine st ?_;refine Lz (fun K hK=>?_)
   go_simp;refine(aR _ _ 0 5 a6.out rfl).mono ?_;rintro e w5 ⟨rfl,a8,bd⟩;with_reducible refine hK _ _ (ln ?_)
   refine⟨rfl,ag,a8,(a5.out.mono (fun _ _ h=>h.elim)).trans bd (fun _ _ e=>e)⟩
  rintro a3 w3 ⟨u,a9,O⟩;have af:=u.size.trans ad;have Y:(x.take n).length=n:=by rw[List.length_take];omega
  refine zI a9 a3 af (u.Q7 R rfl) (u.Q7 U rfl) (by rw[Y];exact u.Q7 bg rfl) (u.Q7 bl rfl) χ χ χ (fun _=>⟨g,rfl,Θ bc O.size,J,fun i z hz=>?_⟩) _ (fun a4 w4 a7 bb D=>?_)
  ·have bf:x[i]?=some z:=by rw[List.getElem?_take]at hz;split at hz;exact hz;cases hz
   exact((HK.out.trans O (fun _ _ e=>e)).cell (p:=⟨g,i,none⟩) W J).trans (HG.out i z bf)
  refine⟨((q.m).t u).t a7,bb.congr fun p=>?_,(HK.out.trans O (fun _ _ e=>e)).trans D (fun _ _ e=>e)⟩;rw[aO HY.out];simp only[List.mem_append,nL];simp only[or_assoc,or_comm,or_left_comm]
 ·rintro a' w' H ⟨V,hk⟩
  rw[List.take_length]at V;exact hQ _ _ ((C.m).t H) V hk
theorem uh(f:List Nm)(s:ByteArray):(aX f s).length≤f.length:=by
 unfold aX;rw[List.length_map];exact List.length_filter_le _ _
theorem i8{k:Value}{d:Lit}(h:keyOf Tryz.prog 9 k=some d):∃s:ByteArray,k=.string s∧d=key s∧s.size≤maxLen:=by
 cases k<;>simp[keyOf,Tryz.underlying9,mapKey]at h
 exact⟨_,rfl,h.2.symm,h.1⟩
theorem ui{z:Nat}{e:TypeId}{vals:List Value}(h:w.ownsRow z e 1 u vals.length vals):∃A c,u=.slice A vals.length c∧vals.length≤c:=by
 rcases h.2 with⟨d,q⟩|⟨g,j,l,d,_,_,v,_⟩
 ·exact⟨none,0,by rw[d,q],χ⟩
 ·exact⟨_,_,d,v⟩
theorem xN{v:ae}{P:aF}(hN:fU B named)(h:aG B w pb v P cN L){Bf:Nat}{bs:List Nat}{fs:List (List Nm)}{D:Nat→DataW Value}{r:Nat→ByteArray→Value}(hF:ci Bf w bs fs D r)
 (i b:Nat)(f:List Nm)(hb:bs[i]?=some b)(hf:fs[i]?=some f)(c9:pb<Bf∧pb ∉ bs)(ed:f.length≤4194304)(b5:∀x∈f,aV x.1):
 Calls Tryz.prog 69 #[.pointer (some ⟨pb,0,none⟩),.map (some b)] w fun e w'=>e=.returned (.tuple #[])∧aG B w' pb v P cN (iQ named f++L)∧aD (fun k=>k=pb) w w':=by
 have ee:=h.lt;have ea:=h.base;obtain⟨m1,m3⟩:=hF.map i b f hb hf;have bw:b≠pb:=fun e=>c9.2 (by rw[←e];exact γ hb)
 have d2:=m1.lt;refine bL Tryz.func69 Tryz.ntmps69 rfl ξ fun a b6 c4 H=>?_
 have h0:At a 0 (.pointer (some ⟨pb,0,none⟩)):=H 0 _ rfl;have O:At a 1 (.map (some b)):=H 1 _ rfl;clear H
 conv=>arg 2;whnf
 refine so (fun Q w1=>aE (fun i=>i==10||i==11) a Q∧At Q 11 (.pointer (some ⟨w.heap.size,0,none⟩))∧w1.ranges Tryz.prog 9 dx b w.heap.size f.length (D i) (Go.Maps.has (D i)) (Go.Maps.size (D i))∧w.grownBy w1 none) ?_ ?_
 ·clear hN hF m3
  obtain⟨T,d⟩:=a;refine rl ?_;with_reducible refine st ?_
  refine wpList_range_own _ rfl _ 137 rfl 9 221 Tryz.law9 Tryz.underlying137 _ b f.length (D i) (by simp[Act.eval,b6]) m1 ?_;intro w0 b3 c5 ei;with_reducible refine ln ?_
  refine⟨rfl,?_,?_,b3,c5⟩
  ·(repeat (first|with_reducible apply aE.put|with_reducible apply aE.set))<;>first|with_reducible exact aE.refl _ _|rfl
  ·exact At.put_self
 rintro a0 w1 ⟨U,ac,a5,hg⟩;have bl:Kz w w1:=aD.of_grown hg (fun _ e=>by cases e);have bb:=U.size.trans b6;replace h0:=U.Q7 h0 rfl;have bf:=h.new bl;have d7:w.heap.size<w1.heap.size:=a5.lt;have b4:w.heap.size≠pb:=χ
 have HN:=hh hN;have M3:=hh m3;have HF:=hh hF;have cc:=hh bl;have be:∀s:ByteArray,s.size≤maxLen→Go.Maps.has (D i) (key s)=has f s:=fun s Z=>(m3 s Z).2.2
 clear hN hF m3 bl hg;refine zA (t:=13)
  (fun a' w'=>aE (fun i=>i==4||i==5||i==6||i==7||i==9||(rg 12 43 i)) a0 a'∧∃left cnt Lc,w'.ranges Tryz.prog 9 dx b w.heap.size f.length (D i) left cnt∧aG B w' pb v P cN (Lc++L)∧aD (fun k=>k=pb) w w' ∧
   (∀kl,left kl=true→Go.Maps.has (D i) kl=true)∧∀p,p∈Lc↔∃s:ByteArray,s.size≤maxLen∧left (key s)=false∧p∈cD named s (aX f s))
  (fun _ w'=>w'.rangeLeft b w.heap.size)
  (fun m a' w'=>aE (fun i=>i==4||i==5||i==6||i==7||i==9||(rg 12 43 i)) a0 a'∧∃(s:ByteArray) (left:Lit→Bool) (cnt:Nat) (Lc:List Wr),s.size≤maxLen∧has f s=true∧cnt<m∧(Instr.entry (.pointer (some ⟨w.heap.size,0,none⟩))).run Tryz.prog w'=.ok (.tuple #[.string s,r i s]) w' ∧
   w'.ranges Tryz.prog 9 dx b w.heap.size f.length (D i) (fun z=>left z && !z.sameKey (key s)) cnt∧aG B w' pb v P cN (Lc++L)∧aD (fun k=>k=pb) w w' ∧
   (∀kl,left kl=true→Go.Maps.has (D i) kl=true)∧∀p,p∈Lc↔∃s:ByteArray,s.size≤maxLen∧left (key s)=false∧p∈cD named s (aX f s))
  (fun a' w'=>a'.defers=[]∧∃Lc,aG B w' pb v P cN (Lc++L)∧aD (fun k=>k=pb) w w'∧∀p,p∈Lc↔∃s:ByteArray,s.size≤maxLen∧p∈cD named s (aX f s)) ?_ ?_ ?_ ?_
 ·refine⟨aE.refl _ _,_,_,[],a5,by simpa using bf,cc.out.mono (fun _ _ h=>h.elim),fun _ h=>h,fun p=>⟨fun h=>by simp at h,fun⟨s,Z,hn,hp⟩=>?_⟩⟩
  rw[be s Z]at hn;have:aX f s=[]:=by
   have:=kf f s;rw[hn]at this;have h2:¬ 0<(aX f s).length:=of_decide_eq_false this.symm;exact List.length_eq_zero_iff.1 χ
  rw[this]at hp;simp[cD,cQ]at hp
 ·rintro Q w2 ⟨R,left,cnt,Lc,l,E,C,X,I⟩
  have ad:=R.Q7 ac rfl;have K:Q.tmps.size=44:=R.size.trans bb;have bx:Q.defers=[]:=R.defers.trans (U.defers.trans c4);have HR:=hh l;have al:=hh E;have af:=hh C;have a4:=hh X;have an:=hh I;have bc:=hh R;have eg:=l.lt;clear E C X I R l a5 bf be h h0 m1 U;refine rl ?_;refine wpList_next_ranges _ rfl _ rfl 9 Tryz.law9 dx (Value.string) (fun v:Value=>v) (fun ky kl hk=>by obtain⟨s,e,_⟩:=i8 hk;exact⟨s,e⟩) (fun v y _=>⟨v,rfl⟩) b w.heap.size f.length (D i) left cnt (ad.eval χ) HR.out ?_ ?_
  ·intro eb c7
   obtain⟨T,d⟩:=Q;simp only[Act.put];with_reducible refine st ?_;refine ln ?_
   refine⟨rfl,.inr ⟨?_,?_⟩⟩
   ·exact At.eval At.self (by simp;exact K▸(by decide:13<44))
   ·exact⟨bx,Lc,al.out,af.out,fun p=>by rw[an.out];exact⟨fun⟨s,O,_,h3⟩=>⟨s,O,h3⟩,fun⟨s,O,h3⟩=>⟨s,O,c7 _,h3⟩⟩⟩
  ·intro s c kl y w3 a6 a7 b1 hR bt a9 cx bz dc V
   obtain⟨s',e,rfl,Z⟩:=i8 a7
   cases e
   simp only[dx,Option.some.injEq]at hR;subst hR;have c3:c=r i s:=by
    have e1:=(M3.out s Z).1;rw[bt]at e1;exact DataW.held.inj e1
   subst c3;have W:has f s=true:=by rw[←(M3.out s Z).2.2];exact a4.out _ b1
   have bm:aD (fun k=>k=w.heap.size) w2 w3:=aD.of_grown bz (fun k e=>by cases e;rfl);have ca:gb w2 w.heap.size=none:=by
    obtain⟨es,cm,d1,d8,c0,_,_,_,_,e5,_⟩:=HR.out;unfold gb;rw[e5]
   have cu:=al.out.keep bm (fun k hk _=>by subst hk;rw[ca];exact⟨χ,ξ,ξ⟩);have c6:aD (fun k=>k=pb) w w3:=af.out.trans bm (fun k hk e=>χ);have b2:a6<w2.rangeLeft b w.heap.size:=by rw[HR.out.left_eq];exact cx
   clear bt a7 bz dc bm ca b1;have cb:=hh V;have cf:=hh a9;clear V a9;obtain⟨T,d⟩:=Q;simp only[Act.put];with_reducible refine st ?_;refine ln ?_
   refine⟨rfl,.inl ⟨?_,?_,s,left,a6,Lc,Z,W,b2,cb.out,cf.out,cu,c6,a4.out,an.out⟩⟩
   ·exact At.eval At.self (by simp;exact K▸(by decide:13<44))
   ·refine bc.out.trans (vs:=fun i=>i==12||i==13) ?_ ζ
    (repeat (first|with_reducible apply aE.put|with_reducible apply aE.set))<;>first|with_reducible exact aE.refl _ _|rfl
 ·rintro m Q w2 ⟨R,s,left,cnt,Lc,Z,W,cy,V,l,E,C,X,I⟩
  have di:aV s:=by
   have O:=kf f s;rw[W]at O;obtain⟨q,hq⟩:=List.exists_mem_of_length_pos (of_decide_eq_true O.symm);exact b5 _ (iV.1 hq)
  obtain⟨A,c,hv,bp⟩:=ui (by rw[List.length_map];exact(M3.out s Z).2.1);rw[List.length_map]at hv bp;have Y:=(M3.out s Z).2.1;have J:=Y.keep C (fun k hk e=>by subst e;have:=(Y.lt _ hk).1;omega);have a8:(aX f s).length≤4194304:=by have:=uh f s;omega
  have ad:=R.Q7 ac rfl;have ds:=R.Q7 h0 rfl;have K:Q.tmps.size=44:=R.size.trans bb;rw[hv]at V J;have cj:=hh J;have HR:=hh l;have al:=hh E;have af:=hh C;have a4:=hh X;have an:=hh I;have bc:=hh R;clear E C X I R l a5 bf be h h0 m1 U Y J hv ac;obtain⟨N,bg⟩:∃n,n=(aX f s).length:=⟨_,rfl⟩;rw[←bg]at V bp a8;have cd:=hh bg;clear bg;refine so (fun a2 w3=>aE (fun i=>i==14||i==15||i==16||i==4||i==5) Q a2∧At a2 4 (.string s)∧At a2 5 (.slice A N c)∧w3=w2) ?_ ?_
  ·obtain⟨T,d⟩:=Q
   refine rl ?_
   iterate 5 with_reducible refine st ?_
   with_reducible refine ln ?_
   refine⟨rfl,ag,aq,aq,rfl⟩
  rintro a2 w3 ⟨bd,dt,d0,rfl⟩;have cw:=cd.out;subst cw;refine xM HN.out al.out a2 (bd.size.trans K) (bd.Q7 ds rfl) di dt d0 bp a8 (fun d4=>?_) _ (fun a3 w4 cs cv bo=>?_)
  ·rcases cj.out.2 with⟨e1,e2⟩|⟨g,d9,cp,e1,hg,hh,d3,_,ec,dk⟩
   ·omega
   ·cases e1
    refine⟨g,rfl,aH hh,χ,fun j y hy=>?_⟩;have h3:cp.toList[j]?=some (.int .i64 y):=by
     have h4:((aX f s).map (Value.int .i64))[j]?=some (.int .i64 y):=by rw[List.getElem?_map,hy];rfl
     rw[←dk,List.getElem?_take]at h4;split at h4
     ·exact h4
     ·cases h4
    rw[cell_of_row _ _ _ _ _ _ hh]
    simpa using h3
  refine⟨⟨(bc.out.t bd).t cs,_,cnt,cD named s (aX f s)++Lc,mp HR.out bo bw b4,by rw[List.append_assoc];exact cv,af.out.trans bo (fun _ _ e=>e),fun kl b0=>a4.out kl (by simp at b0;exact b0.1),fun p=>?_⟩,?_⟩
  ·simp only[List.mem_append,an.out]
   constructor
   ·rintro(O|⟨u,O,h2,h3⟩)
    ·exact⟨s,Z,by rw[WideAt.sameKey_self (kc s)];simp,O⟩
    ·exact⟨u,O,by simp[h2],h3⟩
   ·rintro⟨u,O,h2,h3⟩
    by_cases hus:u=s
    ·subst hus;exact .inl h3
    ·refine .inr ⟨u,O,?_,h3⟩
     have c8:(key u).sameKey (key s)=false:=by
      rw[Bool.eq_false_iff];exact fun e=>hus (nW (WideAt.sameKey_eq e))
     simpa[c8]using h2
  ·have h5:=(mp HR.out bo bw b4).left_eq
   show w4.rangeLeft b w.heap.size<m;rw[h5];exact cy
 ·rintro Q w2 ⟨hd,Lc,E,C,I⟩
  refine dL rfl hd ⟨rfl,E.congr fun p=>?_,C⟩;simp only[List.mem_append,I,sn];constructor
  ·rintro(⟨s,_,h⟩|h)
   ·exact .inl ⟨s,h⟩
   ·exact .inr h
  ·rintro(⟨s,h⟩|h)
   ·refine .inl ⟨s,?_,h⟩
    by_cases hz:aX f s=[]
    ·rw[hz]at h;simp[cD,cQ]at h
    ·obtain⟨q,hq⟩:=List.exists_mem_of_ne_nil _ hz
     have:=b5 _ (iV.1 hq);unfold aV at this;unfold maxLen;show s.size≤_;have e:((s,q):Nm).1=s:=rfl;rw[e]at this;omega
   ·exact .inr h
def dR(x:Sp):List Value:=[.int .u64 x.1,.int .u64 x.2]
theorem oU(a b:Nat)(w:World):Calls Tryz.prog 112 #[.agg #[.int .u64 a,.int .u64 b]] w fun e w'=>e=.returned (.bool (decide (b<a)))∧Kz w w':=by
 go_enter Tryz.func112,Tryz.ntmps112
 go_wp2
 go_ret
 exact⟨rfl,(aD.refl _ _).alloc _⟩
def aJ(w:World)(pb:Nat)(u:Value)(l:List Sp):Prop:=
 ∃A c,u=.slice A l.length c∧l.length≤c∧l.length≤4194304∧(0<l.length→∃g,A=some ⟨g,0,none⟩∧g<w.heap.size∧g≠pb ∧
  ∀(i:Nat) (s:Sp),l[i]?=some s→w.cell? ⟨g,i*2,none⟩=some (.int .u64 s.1)∧w.cell? ⟨g,i*2+1,none⟩=some (.int .u64 s.2)∧s.1<lim∧s.2<lim)
theorem aJ.keep{w':World}(h:aJ w pb u l)(hk:aD (fun k=>k=pb) w w'):aJ w' pb u l:=by
 obtain⟨A,c,e,x,y,B⟩:=h;refine⟨A,c,e,x,y,fun v=>?_⟩;obtain⟨g,e,d,j,C⟩:=B v;refine⟨g,e,Θ d hk.size,j,fun i s D=>?_⟩;obtain⟨c1,c2,q⟩:=C i s D;exact⟨(hk.cell (p:=⟨g,i*2,none⟩) d j).trans c1,(hk.cell (p:=⟨g,i*2+1,none⟩) d j).trans c2,q⟩
theorem xH{P:Program}{b b2 t:Nat}{R1 body:Code}{Q:Exit→Act→World→Prop}{a:Act}(I:Act→World→Prop)(μ:Act→World→Nat)(J:Nat→Act→World→Prop)(Done:Act→World→Prop)(q:I a w)
 (u:∀a w,I a w→R1.wp P (kD fun d w'=>(d.eval (.tmp t)=.bool true∧J (μ a w) d w')∨(d.eval (.tmp t)=.bool false∧Done d w')) a w)
 (B:∀m a w,J m a w→body.wp P (kD fun d w'=>I d w'∧μ d w'<m) a w)
 (C:∀a w,Done a w→Q .normal a w):
 (Code.block b (Code.loop (Code.seq (Code.seq R1 (Code.cond (.tmp t) .skip (.exit b))) (Code.block b2 body)))).wp P Q a w:=by
 refine wp_block (wp_loop I μ q ?_);intro a w x;refine wp_seq (wp_seq (Code.wp_only (u a w x) fun j l h=>?_))
 rcases h with⟨g,y⟩|⟨g,v⟩
 ·refine wp_cond_true g (wp_skip (wp_block (Code.wp_only (B _ j l y) fun D E hh=>?_)))
  exact hh
 ·refine wp_cond_false g (wp_exit ?_)
  show Exit.inBlock b Q (.exit b) j l;simp only[Exit.inBlock,if_true];exact C _ _ v
theorem qf(h:dS l){i j:Nat}{s t:Sp}(y:i≤j)(v:l[i]?=some s)(q:l[j]?=some t):s.2≤t.2:=by
 rcases Ψ i j with u|u
 ·obtain⟨d,w⟩:=ο.1 v
  obtain⟨g,x⟩:=ο.1 q;have:=List.pairwise_iff_getElem.1 h.apart i j d g u;have B:=h.some_ t (γ q);rw[w,x]at this;omega
 ·have:i=j:=χ
  subst this;have:=ι (v.symm.trans q);subst this;exact Γ _
theorem tc(hu:aJ w pb u l)(hl:dS l)(p:Nat)(hp:p<lim):
 Calls Tryz.prog 113 #[.agg #[u],.int .u64 p] w fun e w'=>(∃i:Nat,e=.returned (.int .i64 i)∧i≤l.length∧(∀j s,j<i→l[j]?=some s→s.2<p)∧∀s,l[i]?=some s→p≤s.2)∧Kz w w':=by
 obtain⟨A,c,rfl,hc,b6,y⟩:=hu;unfold lim at hp;refine bL Tryz.func113 Tryz.ntmps113 rfl ξ fun a L Q E=>?_
 have h0:At a 0 (.agg #[.slice A l.length c]):=E 0 _ rfl;have h1:At a 1 (.int .u64 p):=E 1 _ rfl;clear E
 conv=>arg 2;whnf
 refine so (fun a1 w1=>aE (fun i=>i==2||i==4) a a1∧At a1 2 (.pointer (some ⟨w.heap.size,0,none⟩))∧w1=w.alloc (.cells #[.slice A l.length c] 119)) ?_ ?_
 ·clear y
  obtain⟨T,d⟩:=a;refine rl ?_
  iterate 2 with_reducible refine st ?_
  with_reducible refine ln ?_
  refine⟨rfl,ag,aq,rfl⟩
 rintro a1 w1 ⟨ad,h2,al⟩;have a7:Kz w w1:=by rw[al];exact(aD.refl _ _).alloc _
 obtain⟨z,hz⟩:∃z,z=w.heap.size:=⟨_,rfl⟩;rw[←hz]at h2;have bg:w1.cell? ⟨z,0,none⟩=some (.slice A l.length c):=by rw[al,hz];exact ap w [.slice A l.length c] 119 0 _ rfl
 have bl:z<w1.heap.size:=by rw[al,hz];simp
 replace h1:=ad.Q7 h1 rfl;replace L:=ad.size.trans L;replace Q:=ad.defers.trans Q;clear ad h0 al hz;refine so (fun a2 w2=>aE (fun i=>i==8||i==9||i==10||i==5||i==6) a1 a2∧At a2 5 (.int .i64 (0:Nat))∧At a2 6 (.int .i64 l.length)∧w2=w1.drew) ?_ ?_
 ·clear y a7
  obtain⟨T,d⟩:=a1;refine wp_region_still_lit δ δ ?_
  iterate 5 with_reducible refine sl ?_
  with_reducible refine wpStill_nil ?_
  refine⟨rfl,?_,?_,?_,rfl⟩
  ·exact ag
  ·show At _ 5 (.int .i64 0)
   exact aq
  ·exact aq
 rintro a2 w2 ⟨O,h5,h6,an⟩;have a8:Kz w w2:=by rw[an];exact a7.drew
 have cu:w2.cell? ⟨z,0,none⟩=some (.slice A l.length c):=by rw[an];exact bg
 have ca:z<w2.heap.size:=by rw[an];exact bl
 replace h1:=O.Q7 h1 rfl;replace h2:=O.Q7 h2 rfl;replace L:=O.size.trans L;replace Q:=O.defers.trans Q;clear O an bg a7 bl w1;refine wp_seq (xH (t:=13)
  (fun H w'=>aE (fun i=>i==5||i==6||i==7||(rg 11 28 i)) a2 H∧w'=w2∧∃i j:Nat,At H 5 (.int .i64 i)∧At H 6 (.int .i64 j)∧i≤j∧j≤l.length∧(∀k s,k<i→l[k]?=some s→s.2<p)∧∀k s,j≤k→l[k]?=some s→p≤s.2)
  (fun H _=>(intOf (H.eval (.tmp 6))-intOf (H.eval (.tmp 5))).toNat)
  (fun m H w'=>aE (fun i=>i==5||i==6||i==7||(rg 11 28 i)) a2 H∧w'=w2∧∃i j:Nat,At H 5 (.int .i64 i)∧At H 6 (.int .i64 j)∧i<j∧m=j-i∧j≤l.length∧(∀k s,k<i→l[k]?=some s→s.2<p)∧∀k s,j≤k→l[k]?=some s→p≤s.2)
  (fun H w'=>H.defers=[]∧H.tmps.size=30∧w'=w2∧∃i:Nat,At H 5 (.int .i64 i)∧i≤l.length∧(∀k s,k<i→l[k]?=some s→s.2<p)∧∀k s,i≤k→l[k]?=some s→p≤s.2)
  ⟨aE.refl _ _,rfl,0,l.length,h5,h6,Nat.zero_le _,Γ _,fun k s hk _=>χ,fun k s hk hs=>by have:=(ο.1 hs).1;omega⟩ ?_ ?_ ?_)
 ·rintro Z w3 ⟨V,rfl,i,j,J,N,bt,af,C,B⟩
  have U:=V.size.trans L;have bb:=V.defers.trans Q;have e5:=J.eval χ;have e6:=N.eval χ;have Y:=hh C;have X:=hh B;have HA:=hh V;obtain⟨t,ht⟩:∃b,decide (i<j)=b:=⟨_,rfl⟩;clear C B V y;refine Code.wp_only (R:=fun I w4=>aE (fun i=>i==11||i==12||i==13) Z I∧At I 13 (.bool t)∧w4=w3) ?_ ?_
  ·clear e5 e6
   obtain⟨T,d⟩:=Z;refine rl ?_
   iterate 3 with_reducible refine st ?_
   with_reducible refine ln ?_
   refine⟨rfl,ag,aq,rfl⟩
  rintro I w4 ⟨v,b4,rfl⟩;have a9:=b4.eval (by have:=v.size;omega);have hm:(intOf (Z.eval (.tmp 6))-intOf (Z.eval (.tmp 5))).toNat=j-i:=by rw[e5,e6];simp[intOf]<;>omega
  rw[hm];refine⟨rfl,?_⟩
  cases t with
  | true=>exact .inl ⟨a9,HA.out.t v,rfl,i,j,v.Q7 J rfl,v.Q7 N rfl,of_decide_eq_true ht,rfl,af,Y.out,X.out⟩
  | false =>
   have:i=j:=by have:=of_decide_eq_false ht;omega
   subst this;exact .inr ⟨a9,v.defers.trans bb,v.size.trans U,rfl,i,v.Q7 J rfl,af,Y.out,X.out⟩
 ·rintro m Z w3 ⟨V,rfl,i,j,J,N,bt,hm,af,C,B⟩
  have U:=V.size.trans L;have k1:=V.Q7 h1 rfl;have k2:=V.Q7 h2 rfl;obtain⟨q,hq⟩:∃q,q=(i+j) / 2:=⟨_,rfl⟩;have cj:i≤q:=χ
  have cm:q<j:=χ
  obtain⟨s,hs⟩:∃s,l[q]?=some s:=⟨_,Ez χ⟩;obtain⟨g,rfl,bs,_,bc⟩:=y χ;obtain⟨c1,c2,c3,c4⟩:=bc q s hs;have q1:w3.cell? ⟨g,q*2+1,none⟩=some (.int .u64 s.2):=(a8.cell (p:=⟨g,q*2+1,none⟩) bs (fun h=>h)).trans c2;have cc:g<w3.heap.size:=by have:=a8.size;omega
  unfold lim at c4;have bd:((i:Int)+(j:Int)) / 2=(q:Int):=χ
  have bx:((i:Int)+(j:Int)).tdiv 2=(q:Int):=by rw[Int.tdiv_eq_ediv_of_nonneg χ];exact bd
  have b0:IntKind.i64.wrap ((i:Int)+(j:Int))=(i:Int)+(j:Int):=i64_in _ χ;have bz:IntKind.i64.wrap (q:Int)=(q:Int):=i64_in _ χ;have cs:IntKind.i64.wrap ((q:Int)+1)=(q:Int)+1:=i64_in _ χ;have cp:q<l.length:=χ
  have b1:decide ((i:Int)+(j:Int) = -9223372036854775808)=false:=decide_eq_false χ;have cf:q≤c:=χ
  have Y:=hh C;have X:=hh B;have HA:=hh V;have HS:=hh hs;have HM:=hh hm;clear C B V y bc c1 c2 hq hs hm;refine so (fun I w4=>aE (fun i=>i==14||i==15||i==16||i==17||i==7) Z I∧At I 7 (.int .i64 q)∧w4=w3) ?_ ?_
  ·obtain⟨T,d⟩:=Z
   refine rl ?_
   iterate 5 with_reducible refine st ?_
   with_reducible refine ln ?_
   refine⟨rfl,ag,aq,rfl⟩
  rintro I w4 ⟨v,k7,rfl⟩;clear bd bx b0 bz b1;have be:=v.size.trans U;have j1:=v.Q7 k1 rfl;have j2:=v.Q7 k2 rfl;have j5:=v.Q7 J rfl;have j6:=v.Q7 N rfl;obtain⟨t,ht⟩:∃b,decide (s.2<p)=b:=⟨_,rfl⟩;refine so (fun a5 w5=>aE (fun i=>rg 18 25 i) I a5∧At a5 25 (.bool t)∧w5=w4) ?_ ?_
  ·clear k1 k2 J N v
   obtain⟨T,d⟩:=I;refine rl ?_
   iterate 8 with_reducible refine st ?_
   with_reducible refine ln ?_
   refine⟨rfl,ag,aq,rfl⟩
  rintro a5 w5 ⟨K,bm,rfl⟩;have a0:=K.size.trans be;have ac:=bm.eval χ;have l5:=K.Q7 j5 rfl;have l6:=K.Q7 j6 rfl;have l7:=K.Q7 k7 rfl;have W:=hh (HA.out.trans ((v.mono (by intro j;simp;omega:∀x,_→(fun i=>i==7||(rg 14 25 i)) x=true)).t K) ζ);clear v K k1 k2 J N k7 j1 j2 j5 j6 bm
  cases t with
  | true =>
   refine wp_cond_true ac ?_;have cd:s.2<p:=of_decide_eq_true ht;refine Code.wp_only (R:=fun a6 w6=>aE (fun i=>i==26||i==27||i==5) a5 a6∧At a6 5 (.int .i64 ((q:Int)+1))∧w6=w5) ?_ ?_
   ·clear ac W
    obtain⟨T,d⟩:=a5;refine rl ?_
    iterate 3 with_reducible refine st ?_
    with_reducible refine ln ?_
    refine⟨rfl,ag,aq,rfl⟩
   rintro a6 w6 ⟨D,J,rfl⟩;have N:=D.Q7 l6 rfl;have bf:=D.size.trans a0;have e5:=J.eval χ;have e6:=N.eval χ;have b5:At a6 5 (.int .i64 ((q+1:Nat):Int)):=by rw[show((q+1:Nat):Int)=(q:Int)+1 by omega];exact J
   refine⟨rfl,⟨W.out.t D,rfl,q+1,j,b5,N,χ,af,fun k u hk hu=>?_,X.out⟩,?_⟩
   ·have:=qf hl (by omega:k≤q) hu HS.out;omega
   ·rw[e5,e6,HM.out];simp[intOf];omega
  | false =>
   refine wp_cond_false ac ?_;have cb:¬ s.2<p:=of_decide_eq_false ht;refine Code.wp_only (R:=fun a6 w6=>aE (fun i=>i==28||i==6) a5 a6∧At a6 6 (.int .i64 q)∧w6=w5) ?_ ?_
   ·clear ac W
    obtain⟨T,d⟩:=a5;refine rl ?_
    iterate 2 with_reducible refine st ?_
    with_reducible refine ln ?_
    refine⟨rfl,ag,aq,rfl⟩
   rintro a6 w6 ⟨D,N,rfl⟩;have J:=D.Q7 l5 rfl;have bf:=D.size.trans a0;have e5:=J.eval χ;have e6:=N.eval χ;refine⟨rfl,⟨W.out.t D,rfl,i,q,J,N,χ,χ,Y.out,fun k u hk hu=>?_⟩,?_⟩
   ·have:=qf hl hk HS.out hu;omega
   ·rw[e5,e6,HM.out];simp[intOf];omega
 ·rintro Z w3 ⟨bo,b2,rfl,i,J,bw,C,B⟩
  with_reducible apply bK
  refine so (fun I w4=>At I 4 (.int .i64 i)∧I.tmps.size=30∧I.defers=[]∧w4=w3) ?_ ?_
  ·clear y C B
   obtain⟨T,d⟩:=Z;refine rl ?_
   iterate 2 with_reducible refine st ?_
   with_reducible refine ln ?_
   refine⟨rfl,?_,by simpa using b2,bo,rfl⟩;exact aq
  rintro I w4 ⟨h4,b3,bp,rfl⟩;exact wp_ret (br (t:=4) rfl h4 (by rw[b3];decide) bp ⟨⟨i,rfl,bw,C,fun s hs=>B i s (Γ _) hs⟩,a8⟩)
def cV(w:World)(b n:Nat)(z:Value)(F:ByteArray→Value)(p:ByteArray→Bool):Prop:=
 ∃D,w.ownsMap Tryz.prog 9 dx b n D∧∀s:ByteArray,s.size≤maxLen→D.atKey (key s) (.held z)=.held (F s)∧Go.Maps.has D (key s)=p s
namespace cV
variable {w w':World} {b n:Nat} {z:Value} {F:ByteArray→Value} {p:ByteArray→Bool}
theorem lt(h:cV w b n z F p):b<w.heap.size:=by obtain⟨D,d,_⟩:=h;exact d.lt
theorem keep{S:Nat→Prop}(h:cV w b n z F p)(hk:aD S w w')(j:¬ S b):cV w' b n z F p:=by
 obtain⟨D,d,g⟩:=h;exact⟨D,lC d hk j,g⟩
theorem new(w:World)(b:Nat)(z:Value)(h:w.heap[b]?=some (.map #[] 0)):cV w b 0 z (fun _=>z) (fun _=>false):=by
 exact⟨.map [],⟨#[],0,h,⟨ξ,Go.MapKept.stamped_empty 0,ξ⟩,Γ _,rfl⟩,fun s _=>⟨rfl,rfl⟩⟩
theorem run(h:cV w b n z F p){t e:TypeId}(x:Tryz.prog.underlying t=some (.map 9 e))(y:∀w,(zeroValue e).run Tryz.prog w=.ok z w){s:ByteArray}(g:s.size≤maxLen):
 (Instr.lookup t (.map (some b)) (.string s) false).run Tryz.prog w=.ok (F s) w:=by
 obtain⟨D,q,u⟩:=h;obtain⟨v,B,d,j⟩:=q.lookup Tryz.law9 x (y w) (zd := .held z) (zp:=[]) rfl (Go.WideMaps.keyOf_string_mk Tryz.underlying9 g);have l:(DataW.held v:DataW Value)=.held (F s):=by
  simp only[dx,Option.some.injEq,Prod.mk.injEq]at j;rw[←(u s g).1];exact j.1
 rw[d,DataW.held.inj l]
theorem lookup{P:Program}(y:P=Tryz.prog)(h:cV w b n z F p){ops:Array Oper}{rest:List Oper}{o:Oper}{a:Act}{Q:Exit→Act→World→Prop}
 (B:o.guard=none){m x:Operand}{t e:TypeId}(d:o.op=Op.lookup t m x false)(E:P.underlying t=some (.map 9 e))(I:∀w,(zeroValue e).run P w=.ok z w)
 (C:a.eval m=.map (some b)){s:ByteArray}(H:a.eval x=.string s)(g:s.size≤maxLen)(u:wpList P ops Q rest (a.put o.dst (F s)) w):wpList P ops Q (o::rest) a w:=by
 subst y;obtain⟨D,l,q⟩:=h;refine dn _ B m x t d 9 e Tryz.law9 E z (I w) b n D C l _ (key s) H (Go.WideMaps.keyOf_string_mk Tryz.underlying9 g) fun v j=>?_
 rw[(q s g).1]at j;rw[←DataW.held.inj j];exact u
theorem update{P:Program}(E:P=Tryz.prog)(h:cV w b n z F p)(J:n<maxLen){ops:Array Oper}{rest:List Oper}{o:Oper}{a:Act}{Q:Exit→Act→World→Prop}
 (H:o.guard=none){m x u:Operand}{t e:TypeId}(q:o.op=Op.mapUpdate t m x u)(y:P.underlying t=some (.map 9 e))
 (I:a.eval m=.map (some b)){s:ByteArray}(N:a.eval x=.string s)(K:s.size≤maxLen){v:Value}(L:a.eval u=v)
 (C:∀w',cV w' b (n+1) z (fun t=>if t=s then v else F t) (fun t=>decide (t=s)||p t)→aD (fun k=>k=b) w w'→wpList P ops Q rest (a.put o.dst undef) w'):wpList P ops Q (o::rest) a w:=by
 subst E;obtain⟨D,j,B⟩:=h;refine wpList_mapUpdate_own _ H m x u t q 9 e Tryz.law9 y dx b n D I j J _ _ (key s) N L (Go.WideMaps.keyOf_string_mk Tryz.underlying9 K) _ [] rfl fun w' g l=>C w' ⟨_,g,fun t y=>?_⟩ (aD.of_grown l (fun k e=>by cases e;rfl))
 obtain⟨O,R⟩:=B t y
 by_cases hts:t=s
 ·subst hts
  exact⟨by show _=DataW.held (if t=t then v else F t);rw[if_pos rfl];exact Go.Maps.atKey_put_same j.isMap (kc t) _ _,by rw[Go.Maps.has_put_same j.isMap (kc t)];simp⟩
 ·have d:key t≠key s:=fun e=>hts (nW e)
  exact⟨by show _=DataW.held (if t=s then v else F t);rw[if_neg hts];exact(Go.Maps.atKey_put_other d _ _).trans O,by rw[Go.Maps.has_put_other d,R];simp[hts]⟩
theorem lookup_ok{P:Program}(B:P=Tryz.prog)(h:cV w b n z F p){ops:Array Oper}{rest:List Oper}{o:Oper}{a:Act}{Q:Exit→Act→World→Prop}
 (C:o.guard=none){m x:Operand}{t e:TypeId}(d:o.op=Op.lookup t m x true)(H:P.underlying t=some (.map 9 e))(J:∀w,(zeroValue e).run P w=.ok z w)
 (E:a.eval m=.map (some b)){s:ByteArray}(I:a.eval x=.string s)(g:s.size≤maxLen)(y:wpList P ops Q rest (a.put o.dst (.tuple #[F s,.bool (p s)])) w):wpList P ops Q (o::rest) a w:=by
 subst B;obtain⟨D,u,j⟩:=h;refine wpList_lookup_own_ok _ C m x t d 9 e Tryz.law9 H dx (J w) (.held z) [] rfl b n D E u _ (key s) I (Go.WideMaps.keyOf_string_mk Tryz.underlying9 g) fun v K l=>?_
 have q:(DataW.held v:DataW Value)=.held (F s):=by
  simp only[dx,Option.some.injEq,Prod.mk.injEq]at l;rw[←(j s g).1];exact l.1
 rw[DataW.held.inj q,(j s g).2];exact y
end cV
def yf(t:jl):Value := .agg #[.int .u64 t.size,.bool t.big,.bool t.wx]
theorem wH(w:World):(zeroValue 178).run Tryz.prog w=.ok (.agg #[.int .u64 0,.bool false,.bool false]) w:=δ
def gN(w:World)(b:Nat)(P:aF):Prop:=∃n,cV w b n (.agg #[.int .u64 0,.bool false,.bool false]) (fun s=>yf (aP P s)) (fun s=>(fC P s).isSome)
def pV:Prop:=∀{B:Nat} {w:World} {v:ae} {P:aF},bD B w v P→B≤w.heap.size→Calls Tryz.prog 65 #[.agg (v.cells P).toArray] w fun e w'=>∃mb,e=.returned (.map (some mb))∧w.heap.size≤mb∧mb<w'.heap.size∧gN w' mb P∧Kz w w'
theorem ru{B:Nat}{w:World}{v:ae}{P:aF}(h:bD B w v P)(s:ByteArray):(aP P s).size<lim:=by
 unfold aP fC;split
 ·rename_i x g
  have g:=List.mem_of_find?_eq_some g;obtain⟨A,c,_,_,_,j⟩:=h.Q3;obtain⟨q,off,_,_,d⟩:=j (List.length_pos_of_mem g);obtain⟨k,hk⟩:=List.getElem?_of_mem g;exact(d k x hk).2.2.1
 ·cases hd:P.Q5.find? (fun x=>decide (x.name=s))with
  | none=>simp
  | some x =>
   have g:=List.mem_of_find?_eq_some hd;obtain⟨A,c,_,_,_,j⟩:=h.Q5;obtain⟨q,off,_,_,d⟩:=j (List.length_pos_of_mem g);obtain⟨k,hk⟩:=List.getElem?_of_mem g;obtain⟨D,C,_,y,u,l,_⟩:=d k x hk;exact l
theorem DM{B:Nat}{w:World}{u:Value}{l:List Ck.Map}(h:aM B 5 eK w u l):∀x∈l,x.Ok:=by
 intro x g;obtain⟨A,c,_,_,_,j⟩:=h;obtain⟨q,off,_,_,d⟩:=j (List.length_pos_of_mem g);obtain⟨k,hk⟩:=List.getElem?_of_mem g;exact(d k x hk).2
def uN(x:Nat):Lit := .int .u64 x
def da(k:TypeId)(w:World)(b n:Nat)(S:List Nat):Prop:=
 ∃D,w.ownsMap (H:=Value) Tryz.prog k unitElem b n D∧S.Nodup∧Go.Maps.size D=S.length∧∀x,x<lim→(Go.Maps.has D (uN x)=true↔x∈S)
namespace da
variable {k:TypeId} {w w':World} {b n:Nat} {S:List Nat}
theorem lt(h:da k w b n S):b<w.heap.size:=by obtain⟨D,d,_⟩:=h;exact d.lt
theorem keep{T:Nat→Prop}(h:da k w b n S)(hk:aD T w w')(q:¬ T b):da k w' b n S:=by
 obtain⟨D,⟨g,c,d,j⟩,l⟩:=h;exact⟨D,⟨g,c,(hk.block b (aH d) q).trans d,j⟩,l⟩
theorem mono{d:Nat}(h:da k w b n S)(x:n≤d):da k w b d S:=by
 obtain⟨D,⟨g,c,j,l,q,u⟩,v⟩:=h;exact⟨D,⟨g,c,j,l,Δ q x,u⟩,v⟩
theorem new(k:TypeId)(w:World)(b:Nat)(h:w.heap[b]?=some (.map #[] 0)):da k w b 0 []:=
 ⟨.map [],⟨#[],0,h,⟨ξ,Go.MapKept.stamped_empty 0,ξ⟩,Γ _,rfl⟩,List.nodup_nil,rfl,fun x _=>by simp[Go.Maps.has]⟩
theorem BZ(x:Nat):WideAt.IsKeyLit (uN x):=by unfold uN;trivial
theorem zH{x y:Nat}(h:uN x=uN y):x=y:=by
 unfold uN at h
 injection h with _ h
 omega
def add(S:List Nat)(x:Nat):List Nat:=if x∈S then S else x::S
theorem mem_add{S:List Nat}{x y:Nat}:y∈add S x↔y=x∨y∈S:=by
 unfold add;split
 ·rename_i h
  exact⟨.inr,fun e=>e.elim (fun e=>e▸h) id⟩
 ·simp
theorem update{P:Program}(J:P=Tryz.prog)(h:da k w b n S)(K:Go.Maps.Keyed Tryz.prog k)(N:Tryz.prog.underlying k=some (.int .u64))(B:n<maxLen){ops:Array Oper}{rest:List Oper}{o:Oper}{a:Act}{Q:Exit→Act→World→Prop}
 (L:o.guard=none){m x u:Operand}{t e:TypeId}(C:o.op=Op.mapUpdate t m x u)(R:P.underlying t=some (.map k e))
 (d:a.eval m=.map (some b)){y:Nat}(V:a.eval x=.int .u64 y)(H:y<lim)(U:a.eval u=.agg #[])
 (I:∀w',da k w' b (n+1) (add S y)→aD (fun k=>k=b) w w'→wpList P ops Q rest (a.put o.dst undef) w'):wpList P ops Q (o::rest) a w:=by
 subst J;obtain⟨D,l,g,O,q⟩:=h;have E:(Lit.int .u64 (y:Int)).wf=true:=by
  have X:IntKind.u64.min=0:=rfl;have Y:IntKind.u64.max=18446744073709551615:=rfl;unfold lim at H;simp only[Lit.wf,Bool.and_eq_true,decide_eq_true_eq];omega
 refine wpList_mapUpdate_own _ L m x u t C k e K R unitElem b n D d l B _ _ (uN y) V U (Go.Maps.keyOf_int_mk N E) _ [] unitElem_mk fun w' j v=>I w' ⟨_,j,?_,?_,fun z W=>?_⟩ (aD.of_grown v (fun k e=>by cases e;rfl))
 ·unfold add
  split
  ·exact g
  ·rename_i B;exact List.nodup_cons.2 ⟨B,g⟩
 ·rw[Go.Maps.size_put (l.tidy K),O]
  unfold add
  by_cases d:y∈S
  ·rw[if_pos ((q y H).2 d),if_pos d]
  ·rw[if_neg (fun e=>d ((q y H).1 e)),if_neg d];rfl
 ·rw[mem_add]
  by_cases hzy:z=y
  ·subst hzy
   rw[Go.Maps.has_put_same l.isMap (BZ z)];simp
  ·rw[Go.Maps.has_put_other (fun e=>hzy (zH e)),q z W]
   simp[hzy]
theorem len{P:Program}(l:P=Tryz.prog)(h:da k w b n S){ops:Array Oper}{rest:List Oper}{o:Oper}{a:Act}{Q:Exit→Act→World→Prop}(q:o.guard=none){m:Operand}{t e:TypeId}
 (d:o.op=Op.call { callee:=Callee.builtin Builtin.len,args := #[m],argTypes := #[t] })(x:P.underlying t=some (.map k e))(u:a.eval m=.map (some b))
 (j:wpList P ops Q rest (a.put o.dst (.int .i64 S.length)) w):wpList P ops Q (o::rest) a w:=by
 subst l;obtain⟨D,g,_,v,_⟩:=h;exact wpList_len_own _ q m t d k e x unitElem b n D u g (by rw[v];exact j)
end da
end
section
open Go.RowKit Go.IntWalk Ck
open Classical in
noncomputable def dA(l:List Sp)(a b:Nat):Bool:=decide (∀p,a≤p→p≤b→aW l p)
theorem gY{l:List Sp}{a b:Nat}:dA l a b=true↔∀p,a≤p→p≤b→aW l p:=by unfold dA;simp
theorem pI{w:World}{pb:Nat}{u:Value}{l:List Sp}(hu:aJ w pb u l)(hl:dS l)(a b:Nat)(ha:a<lim)(hb:b<lim)(bp:pb<w.heap.size):
 Calls Tryz.prog 61 #[.agg #[u],.agg #[.int .u64 a,.int .u64 b]] w fun e w'=>e=.returned (.bool (dA l a b))∧Kz w w':=by
 unfold lim at ha hb;refine bL Tryz.func61 Tryz.ntmps61 rfl ξ fun ac ad Y B=>?_
 have h0:At ac 0 (.agg #[u]):=B 0 _ rfl;have h1:At ac 1 (.agg #[.int .u64 a,.int .u64 b]):=B 1 _ rfl;clear B;obtain⟨A,c,rfl,hc,a7,q⟩:=hu
 conv=>arg 2;whnf
 refine so (fun a1 N=>aE (fun i=>i==2||i==3||i==4) ac a1∧At a1 2 (.pointer (some ⟨w.heap.size,0,none⟩))∧At a1 3 (.pointer (some ⟨w.heap.size+1,0,none⟩))∧N=(w.alloc (.cells #[.slice A l.length c] 119)).alloc (.cells #[.int .u64 a,.int .u64 b] 125)) ?_ ?_
 ·clear q
  obtain⟨T,d⟩:=ac;refine rl ?_
  iterate 3 with_reducible refine st ?_
  with_reducible refine ln ?_
  refine⟨rfl,ag,aq,aq,rfl⟩
 rintro a1 N ⟨X,W,h3,C⟩;have Z:Kz w N:=by rw[C];exact((aD.refl _ _).alloc _).alloc _
 obtain⟨z,hz⟩:∃z,z=w.heap.size:=⟨_,rfl⟩;obtain⟨y,hy⟩:∃z,z=w.heap.size+1:=⟨_,rfl⟩;rw[←hz]at W;rw[←hy]at h3;have x0:N.cell? ⟨z,0,none⟩=some (.slice A l.length c):=by
  rw[C,hz];exact(((aD.refl (fun _=>False) _).alloc _).cell (p:=⟨w.heap.size,0,none⟩) ξ (fun h=>h)).trans (ap w [.slice A l.length c] 119 0 _ rfl)
 have y0:N.cell? ⟨y,0,none⟩=some (.int .u64 a):=by rw[C,hy];have:=ap (w.alloc (.cells #[.slice A l.length c] 119)) [.int .u64 a,.int .u64 b] 125 0 _ rfl;simpa using this
 have y1:N.cell? ⟨y,1,none⟩=some (.int .u64 b):=by rw[C,hy];have:=ap (w.alloc (.cells #[.slice A l.length c] 119)) [.int .u64 a,.int .u64 b] 125 1 _ rfl;simpa using this
 have zs:z<N.heap.size∧y<N.heap.size:=by rw[C,hz,hy];simp;omega
 replace ad:=X.size.trans ad;replace Y:=X.defers.trans Y;have a9:aJ N pb (.slice A l.length c) l:=aJ.keep (w:=w) ⟨A,c,rfl,hc,a7,q⟩ (Z.mono fun _ _ h=>h.elim);have HU:=hh a9;clear X h0 h1 C hz hy q a9;refine wp_seq (wp_seq (Code.wp_only (R:=fun a2 w2=>aE (fun i=>i==6||i==7) a1 a2∧At a2 7 (.bool (decide (b<a)))∧Kz N w2) ?_ ?_))
 ·obtain⟨T,d⟩:=a1
  refine rl ?_;with_reducible refine st ?_;refine Lz (fun K hK=>?_)
  go_simp;refine(oU a b N).mono ?_;rintro e w2 ⟨rfl,v⟩;with_reducible refine hK _ _ (ln ?_)
  refine⟨rfl,ag,aq,v⟩
 rintro a2 w2 ⟨E,k7,v⟩;have V:=E.size.trans ad;have U:=E.defers.trans Y;have e7:=k7.eval χ;have j2:=E.Q7 W rfl;have j3:=E.Q7 h3 rfl;have x0:=(v.cell (p:=⟨z,0,none⟩) zs.1 (fun h=>h)).trans x0;have y0:=(v.cell (p:=⟨y,0,none⟩) zs.2 (fun h=>h)).trans y0;have y1:=(v.cell (p:=⟨y,1,none⟩) zs.2 (fun h=>h)).trans y1;have O:z<w2.heap.size∧y<w2.heap.size:=⟨Θ zs.1 v.size,Θ zs.2 v.size⟩;have an:=hh (HU.out.keep (v.mono fun _ _ h=>h.elim));have al:=hh (Z.trans v (fun _ _ h=>h));clear E v Z k7 zs
 by_cases hba:b<a
 ·rw[decide_eq_true hba]at e7
  refine wp_cond_true e7 ?_;refine so (fun D Q=>At D 4 (.bool true)∧D.tmps.size=39∧D.defers=[]∧Q=w2) ?_ ?_
  ·obtain⟨T,d⟩:=a2
   refine rl ?_;with_reducible refine st ?_;refine ln ?_
   refine⟨rfl,?_,by simpa using V,U,rfl⟩;exact aq
  rintro D Q ⟨h4,be,bc,rfl⟩;refine wp_ret ?_
  repeat (first|with_reducible apply bQ|with_reducible apply bY)
  refine br (t:=4) rfl h4 (by rw[be];decide) bc ⟨?_,al.out⟩;have e:dA l a b=true:=gY.2 fun p h1 W=>χ
  rw[e]
 ·rw[decide_eq_false hba]at e7
  refine wp_cond_false e7 (wp_skip ?_)
  repeat with_reducible apply bK
  refine so (fun D Q=>aE (fun i=>i==5||(rg 8 11 i)) a2 D∧(∃i:Nat,At D 5 (.int .i64 i)∧i≤l.length∧(∀j s,j<i→l[j]?=some s→s.2<a)∧∀s,l[i]?=some s→a≤s.2)∧Kz w2 Q) ?_ ?_
  ·obtain⟨T,d⟩:=a2
   refine rl ?_
   iterate 3 with_reducible refine st ?_
   with_reducible refine Lz (fun K hK=>?_)
   go_simp;refine(tc an.out hl a (by unfold lim;omega)).mono ?_;rintro e Q ⟨⟨i,rfl,hi,h5,h6⟩,x⟩;with_reducible refine hK _ _ ?_;clear hK K
   have H5:=hh h5;have H6:=hh h6;clear h5 h6;with_reducible refine st ?_;refine ln ?_
   refine⟨rfl,ag,⟨i,aq,hi,H5.out,H6.out⟩,x⟩
  rintro D Q ⟨I,⟨i,k5,hi,a8,a5⟩,x⟩;have L:=I.size.trans V;have J:=I.defers.trans U;have l2:=I.Q7 j2 rfl;have l3:=I.Q7 j3 rfl;have x0:=(x.cell (p:=⟨z,0,none⟩) O.1 (fun h=>h)).trans x0;have y0:=(x.cell (p:=⟨y,0,none⟩) O.2 (fun h=>h)).trans y0;have y1:=(x.cell (p:=⟨y,1,none⟩) O.2 (fun h=>h)).trans y1;have bs:z<Q.heap.size∧y<Q.heap.size:=⟨Θ O.1 x.size,Θ O.2 x.size⟩;have bg:=an.out.keep (x.mono fun _ _ h=>h.elim);have af:=hh (vb hl (by omega:a≤b) a8 a5);have bb:=hh (al.out.trans x (fun _ _ h=>h));obtain⟨_,_,e,_,_,q⟩:=bg
  cases e
  clear I x a8 a5 j2 j3
  suffices H:(Code.wp Tryz.prog (ax Tryz.f61 [1,1,1,0]) (kD fun a4 w4=>At a4 4 (.bool (dA l a b))∧a4.tmps.size=39∧a4.defers=[]∧w4=Q.drew) D Q) from
   wp_seq (Code.wp_only H fun a4 w4 ⟨h4,bf,bd,bm⟩=>wp_ret (br (t:=4) rfl h4 (by rw[bf];decide) bd ⟨rfl,by rw[bm];exact bb.out.drew⟩))
  conv=>arg 2;whnf
  by_cases hil:i<l.length
  ·obtain⟨s,hs⟩:=ge hil
   obtain⟨g,rfl,hg,_,a0⟩:=q χ;obtain⟨c1,c2,c3,c4⟩:=a0 i s hs;unfold lim at c3 c4;have bo:i≤c:=χ
   obtain⟨b1,e1⟩:∃t,decide (s.1≤a)=t:=⟨_,rfl⟩;obtain⟨b2,e2⟩:∃t,decide (b≤s.2)=t:=⟨_,rfl⟩;have HV:Hid (dA l a b=(b1&&b2)):=by
    show dA l a b=_;rw[←e1,←e2,Bool.eq_iff_iff];rw[gY,af.out];simp only[Bool.and_eq_true,decide_eq_true_eq];constructor
    ·rintro⟨t,ht,h1,W⟩
     have:=ι (hs.symm.trans ht);subst this;exact⟨h1,W⟩
    ·rintro⟨h1,W⟩
     exact⟨s,hs,h1,W⟩
   have bl:=aU;have a6:decide (i<l.length)=true:=decide_eq_true hil;clear hs q a0;obtain⟨T,d⟩:=D;refine wp_region_still_lit δ δ ?_
   cases b1
   ·skip
    iterate 28 with_reducible refine sl ?_
    with_reducible refine wpStill_nil ?_
    refine⟨rfl,?_,by simpa using L,J,rfl⟩;rw[show dA l a b=false from HV.out];exact aq
   ·skip
    iterate 28 with_reducible refine sl ?_
    with_reducible refine wpStill_nil ?_
    refine⟨rfl,?_,by simpa using L,J,rfl⟩;rw[show dA l a b=b2 from HV.out.trans (Bool.true_and _)];exact aq
  ·have HV:Hid (dA l a b=false):=by
    show dA l a b=_;rw[Bool.eq_false_iff,Ne,gY,af.out];rintro⟨t,ht,_⟩;exact hil (ο.1 ht).1
   have bl:=aU;have a6:decide (i<l.length)=false:=decide_eq_false hil;clear q;obtain⟨T,d⟩:=D;refine wp_region_still_lit δ δ ?_
   iterate 28 with_reducible refine sl ?_
   with_reducible refine wpStill_nil ?_
   refine⟨rfl,?_,by simpa using L,J,rfl⟩;rw[show dA l a b=false from HV.out];exact aq
end
section
open Go.RowKit Go.IntWalk Ck
variable {B:Nat} {w:World}
def mq(c:Ck.bO)(y:ByteArray)(m:Ck.Map):Bool := !decide (m.of=c.over)||(decide (y=c.QF)||decide (y=c.to) && !m.write)
theorem z8(w:World):(zeroValue 3).run Tryz.prog w=.ok (.int .i64 0) w:=δ
theorem xQ{M:Nat}{cnt0 n0:Nat}(hB:B≤M)(hM:M<w.heap.size)(a:Act)(eg:a.tmps.size=85){zc:Nat}{c:Ck.bO}(HC:Hid (∀w0,aD (fun k=>k=M) w w0→aL w0 zc 0 [.int .i64 c.pos,.string c.name,.string c.QF,.string c.to,.bool c.shared,.string c.over,.int .i64 c.how,.int .u64 c.QK]))(h3:At a 3 (.pointer (some ⟨zc,0,none⟩)))(h5:At a 5 (.map (some M)))
 {zy:Nat}{y:ak}{A_rulesy:Option Addr}{O g:Nat}{A_mapsy:Option Addr}(HY:Hid (∀w0,aD (fun k=>k=M) w w0→aL w0 zy 0 [.int .i64 y.pos,.string y.name,.int .u64 y.QN,.bool y.stopped,.slice A_mapsy y.QA.length g,.slice A_rulesy y.QO.length O]))(h7:At a 7 (.pointer (some ⟨zy,0,none⟩)))(c4:y.name.size≤maxLen)
 (hs:aM B 5 eK w (.slice A_mapsy y.QA.length g) y.QA){n:Nat}{cnt:ByteArray→Nat}{p:ByteArray→Bool}{bz:ByteArray→Prop}(hn:n≤8796093022208)(hE:cV w M n (.int .i64 0) (fun s =>.int .i64 (cnt s)) p)(Y:∀s,cnt s≤n∧(0<cnt s↔bz s))(Q:Exit→Act→World→Prop)
 (hQ:∀a' w' (n':Nat) (q:ByteArray→Nat) p',aE (fun i=>i==4||i==9||(rg 23 56 i)) a a'→n'≤n+y.QA.length→cV w' M n' (.int .i64 0) (fun s =>.int .i64 (q s)) p'→(∀s,q s≤n'∧(0<q s↔(bz s∨(s=y.name∧∃m∈y.QA,m.of=c.over))))→(∀m∈y.QA,mq c y.name m=true)→aD (fun k=>k=M) w w'→Q .normal a' w')
 (hR:∀a' w',At a' 4 (.bool false)→a'.tmps.size=85→a'.defers=a.defers→(∃m∈y.QA,mq c y.name m=false)→aD (fun k=>k=M) w w'→Q .ret a' w'):
 (ax Tryz.f100 [1,1,0,1,0,0,1,1,0,0,1]).wp Tryz.prog Q a w:=by
 have fc:=hs;obtain⟨_,_,e,e9,ec,hl⟩:=hs
 cases e
 unfold top at ec;have hq:=HY.out _ (aD.refl _ _) 4 _ rfl
 conv=>arg 2;whnf
 refine so (fun N w1=>aE (fun i=>(rg 23 26 i)) a N∧At N 24 (.slice A_mapsy y.QA.length g)∧At N 25 (.int .i64 y.QA.length)∧At N 26 (.int .i64 0)∧w1=w) ?_ ?_
 ·clear hl hE Y HC HY
  obtain⟨T,d⟩:=a;refine rl ?_
  iterate 4 with_reducible refine st ?_
  with_reducible refine ln ?_
  refine⟨rfl,ag,aq,aq,aq,rfl⟩
 rintro a0 w0 ⟨U,eq,eo,ej,rfl⟩;have c5:a0.tmps.size=85:=U.size.trans eg;replace h3:=U.Q7 h3 rfl;replace h5:=U.Q7 h5 rfl;replace h7:=U.Q7 h7 rfl;refine bX y.QA.length (fun i=>i==4||i==9||(rg 26 56 i)) (fun i=>i==4||i==9||(rg 28 55 i)) (fun k _ w'=>∃(n':Nat) (q:ByteArray→Nat) (p':ByteArray→Bool),n'≤n+k∧cV w' M n' (.int .i64 0) (fun s =>.int .i64 (q s)) p'∧(∀s,q s≤n'∧(0<q s↔(bz s∨(s=y.name∧∃m∈y.QA.take k,m.of=c.over))))∧(∀m∈y.QA.take k,mq c y.name m=true)∧aD (fun k=>k=M) w0 w') χ ej eo ψ rfl
  ζ χ ψ (fun k N Z w X hI=>hI) ⟨n,cnt,p,χ,hE,fun s=>⟨(Y s).1,by rw[(Y s).2];simp⟩,ξ,aD.refl _ _⟩ ?_ ?_
 ·rintro k N wr cw X en ⟨n1,l,p1,c3,ad,H,I,hk⟩
  obtain⟨bl,off,rfl,ea,bx⟩:=hl χ;obtain⟨m,J⟩:=ge cw;obtain⟨hc,ez⟩:=(aI B _ _) _ _ _ _ _ (hk.below (B:=B) χ (fun _ hi e=>χ)) ea (bx k m J);have q0:=hc.c0;have q1:=hc 1 _ rfl;have q2:=hc 2 _ rfl;have q3:=hc 3 _ rfl;have q4:=hc 4 _ rfl;have ds:=X.Q7 h3 rfl;have d0:=X.Q7 h5 rfl;have d2:=X.Q7 h7 rfl;have d3:=X.Q7 eq rfl;have c6:N.tmps.size=85:=X.size.trans c5;have ey:=hk.size;have eu:bl<wr.heap.size:=χ
  have ew:k≤g:=χ
  have cs:N.defers=a0.defers:=X.defers;have HX:=hh J;have HK:=hh hk;have HA:=hh X;have HE:=hh ad;have L:=hh H;have cj:=hh I;have e8:=hh hE;have es:=hh Y;have e7:=hh bx;have cx:m∈y.QA:=γ J;clear J hk hc X bx ad H I hE Y hl;refine so (fun Z w2=>aE (fun i=>i==28||i==29||i==9) N Z∧At Z 9 (.pointer (some ⟨wr.heap.size,0,none⟩))∧w2=wr.alloc (Obj.cells #[.int .i64 m.pos,.string m.of,.int .u64 m.Q7,.bool m.write,.bool m.exec] 93)) ?_ ?_
  ·clear HC HY
   obtain⟨T,d⟩:=N;refine rl ?_
   iterate 4 with_reducible refine st ?_
   with_reducible refine ln ?_
   refine⟨rfl,ag,aq,rfl⟩
  rintro Z wo ⟨K,b3,al⟩;obtain⟨z,hz⟩:∃z,z=wr.heap.size:=⟨_,rfl⟩;rw[←hz]at b3;have b2:aL wo z 0 [.int .i64 m.pos,.string m.of,.int .u64 m.Q7,.bool m.write,.bool m.exec]:=by rw[al,hz];exact ap _ _ _
  have b1:Kz wr wo:=by rw[al];exact(aD.refl _ _).alloc _
  have ff:z≠M:=by have:=HE.out.lt;omega
  have fi:z<wo.heap.size:=by rw[al,hz];simp
  have af:aD (fun k=>k=M) w0 wo:=HK.out.trans b1 (fun _ _ h=>h.elim);have bb:=hh (HE.out.keep b1 (fun h=>h));have xc:=HC.out _ af;have xy:=HY.out _ af;have a8:Z.tmps.size=85:=K.size.trans c6;have dc:=K.Q7 ds rfl;have di:=K.Q7 d0 rfl;have dk:=K.Q7 d2 rfl;have a7:Z.defers=a0.defers:=K.defers.trans cs;have ca:Hid (aE (fun i=>i==4||i==9||(rg 28 55 i)) N Z):=K.m;have bc:=hh af;clear al hz b1 HE HK K af q0 q1 q2 q3 q4 d3 en ds d0 d2;have e2:=b2 1 _ rfl;have er:=b2 3 _ rfl;have e5:=xc 5 _ rfl;have e0:=xc 2 _ rfl;have e6:=xc 3 _ rfl;have e1:=xy 1 _ rfl;clear xc xy b2;obtain⟨bo,ac⟩:∃b,b=decide (m.of=c.over):=⟨_,rfl⟩;obtain⟨bf,be⟩:∃b,b=decide (y.name=c.QF):=⟨_,rfl⟩;obtain⟨bt,bg⟩:∃b,b=decide (y.name=c.to):=⟨_,rfl⟩;obtain⟨bw,bm⟩:∃b,b=m.write:=⟨_,rfl⟩;rw[←bm]at er;have b4:(m.of.toList==c.over.toList)=bo:=by rw[ac];exact bU _ _
  have d4:(m.of.toList !=c.over.toList)=!bo:=by rw[←b4];rfl
  have b5:(y.name.toList==c.QF.toList)=bf:=by rw[be];exact bU _ _
  have d7:(y.name.toList !=c.QF.toList)=!bf:=by rw[←b5];rfl
  have b6:(y.name.toList==c.to.toList)=bt:=by rw[bg];exact bU _ _
  have d8:(y.name.toList !=c.to.toList)=!bt:=by rw[←b6];rfl
  have an:Hid (mq c y.name m=(!bo||(bf||bt && !bw))):=by rw[ac,be,bg,bm];rfl
  have cd:=hh ac;clear ac be bg bm;refine wp_seq (wp_seq (Code.wp_only (R:=fun a3 w3=>aE (fun i=>(rg 30 34 i)) Z a3∧At a3 34 (.bool (!bo))∧w3=wo) ?_ ?_))
  ·clear HC HY b5 d7 b6 d8
   obtain⟨T,d⟩:=Z;refine rl ?_
   iterate 5 with_reducible refine st ?_
   with_reducible refine ln ?_
   refine⟨rfl,ag,aq,rfl⟩
  rintro a3 w3 ⟨D,dt,rfl⟩;have cp:=dt.eval (by rw[D.size,a8];decide);have a9:=D.size.trans a8;have c7:=D.Q7 dc rfl;have c8:=D.Q7 di rfl;have c9:=D.Q7 dk rfl;have ei:=D.Q7 b3 rfl;have cu:=D.defers.trans a7;have V:Hid (aE (fun i=>i==4||i==9||(rg 28 55 i)) N a3):=ca.out.t D;clear D dc di dk b3 ca a7
  cases bo
  ·refine wp_cond_true cp (wp_exit ?_)
   repeat with_reducible apply eP
   simp only[bi,if_true];have ed:m.of≠c.over:=of_decide_eq_false cd.out.symm;refine⟨V.out,n1,l,p1,χ,bb.out,fun s=>⟨(L.out s).1,?_⟩,?_,bc.out⟩
   ·rw[(L.out s).2,aO HX.out]
    simp[ed]
   ·rw[aO HX.out]
    intro x J
    rcases Ω.1 J with J|J
    ·exact cj.out x J
    ·have e:x=m:=by simpa using J
     subst e;rw[an.out];rfl
  ·refine wp_cond_false cp (wp_skip ?_)
   with_reducible apply bK
   refine wp_seq (wp_seq (Code.wp_only (R:=fun a4 w4=>aE (fun i=>(rg 35 50 i)) a3 a4∧At a4 50 (.bool (!bf&&(!bt||bw)))∧w4=w3) ?_ ?_))
   ·clear HC HY b4 d4
    have fd:=aU;obtain⟨T,d⟩:=a3;refine rl ?_
    cases bf<;>cases bt<;>cases bw
    all_goals
     iterate 16 with_reducible refine st ?_
     with_reducible refine ln ?_
     refine⟨rfl,?_,?_,rfl⟩
     ·exact ag
     ·try simp only[Bool.not_true,Bool.not_false,Bool.true_and,Bool.false_and,Bool.true_or,Bool.false_or,Bool.or_true,Bool.or_false,Bool.and_true,Bool.and_false]
      exact aq
   rintro a4 w4 ⟨E,d1,rfl⟩;have bd:=d1.eval (by rw[E.size,a9];decide);have C:=E.size.trans a9;have fk:=E.Q7 c7 rfl;have fl:=E.Q7 c8 rfl;have fm:=E.Q7 c9 rfl;have cv:=E.defers.trans cu;have cb:Hid (aE (fun i=>i==4||i==9||(rg 28 55 i)) N a4):=V.out.t E;clear E c7 c8 c9 ei V;obtain⟨cm,W⟩:∃b,b=(!bf&&(!bt||bw)):=⟨_,rfl⟩;rw[←W]at bd;have a6:mq c y.name m=!cm:=by rw[an.out,W];cases bf<;>cases bt<;>cases bw<;>rfl
   have cc:=hh a6;clear a6 W b4 d4 b5 d7 b6 d8
   cases cm
   ·refine wp_cond_false bd (wp_skip ?_)
    with_reducible apply bK
    have eb:=(L.out y.name).1;obtain⟨cy,bp⟩:∃u,u=l y.name:=⟨_,rfl⟩;rw[←bp]at eb;have cf:=hh bp;clear bp;refine Code.wp_only (R:=fun a5 w5=>aE (fun i=>(rg 51 55 i)) a4 a5∧cV w5 M (n1+1) (.int .i64 0) (fun t=>if t=y.name then .int .i64 ((cy:Int)+1)else .int .i64 (l t)) (fun t=>decide (t=y.name)||p1 t)∧aD (fun k=>k=M) w4 w5) ?_ ?_
    ·clear HC HY
     obtain⟨T,d⟩:=a4;refine rl ?_
     iterate 3 with_reducible refine st ?_
     refine cV.lookup rfl bb.out rfl rfl Tryz.underlying224 z8 (At.eval (by exact aq) (by have:=C;simp at this⊢; omega)) (At.eval (by exact aq) (by have:=C;simp at this⊢; omega)) c4 ?_;rw[←cf.out];simp only[Act.put];have fe:IntKind.i64.wrap ((cy:Int)+1)=(cy:Int)+1:=IntWalk.i64_in _ χ;with_reducible refine st ?_
     refine cV.update rfl bb.out (by unfold maxLen;omega) rfl rfl Tryz.underlying224 (At.eval (by exact aq) (by have:=C;simp at this⊢; omega)) (At.eval (by exact aq) (by have:=C;simp at this⊢; omega)) c4 (v := .int .i64 ((cy:Int)+1)) (At.eval (by exact aq) (by have:=C;simp at this⊢; omega)) ?_;intro w5 bs b0;with_reducible refine ln ?_
     refine⟨rfl,?_,bs,b0⟩;simp only[Act.put]
     (repeat (first|with_reducible apply aE.put|with_reducible apply aE.set))<;>first|with_reducible exact aE.refl _ _|rfl
    rintro a5 w5 ⟨d9,bs,b0⟩;have ee:m.of=c.over:=of_decide_eq_true cd.out.symm;refine⟨cb.out.t d9,n1+1,fun t=>if t=y.name then l y.name+1 else l t,fun t=>decide (t=y.name)||p1 t,χ,?_,fun s=>⟨?_,?_⟩,?_,bc.out.trans b0 (fun _ _ e=>e)⟩
    ·have e:(fun t=>if t=y.name then Value.int .i64 ((cy:Int)+1)else Value.int .i64 (l t))=fun t=>Value.int .i64 ((if t=y.name then l y.name+1 else l t:Nat):Int):=by
      funext t
      by_cases ht:t=y.name
      ·simp[ht,cf.out]
      ·simp[ht]
     rw[←e];exact bs
    ·by_cases hsy:s=y.name
     ·simp only[hsy,if_true];have:=(L.out y.name).1;omega
     ·simp only[hsy,if_false];have:=(L.out s).1;omega
    ·rw[aO HX.out]
     by_cases hsy:s=y.name
     ·simp only[hsy,if_true]
      exact⟨fun _ =>.inr ⟨trivial,m,ξ,ee⟩,fun _=>χ⟩
     ·simp only[hsy,if_false]
      rw[(L.out s).2];simp[hsy]
    ·rw[aO HX.out]
     intro x J
     rcases Ω.1 J with J|J
     ·exact cj.out x J
     ·have e:x=m:=by simpa using J
      subst e;exact cc.out
   ·refine wp_cond_true bd ?_
    refine so (fun a5 w5=>At a5 4 (.bool false)∧a5.tmps.size=85∧a5.defers=a4.defers∧w5=w4) ?_ ?_
    ·obtain⟨T,d⟩:=a4
     refine rl ?_;with_reducible refine st ?_;refine ln ?_
     refine⟨rfl,?_,?_,rfl,rfl⟩
     ·exact aq
     ·simpa using C
    rintro a5 w5 ⟨k4,k5,k6,rfl⟩;refine wp_ret ?_
    repeat with_reducible apply bY
    exact hR _ _ k4 k5 (k6.trans (cv.trans U.defers)) ⟨m,cx,cc.out⟩ bc.out
 ·rintro a' w' X ⟨n1,l,p1,c3,ad,H,I,hk⟩
  rw[List.take_length]at H I;exact hQ _ _ _ _ _ ((U.m).t X) c3 ad H I hk
theorem A7(m:Ck.Map)(c:Ck.bO)(d:Nat)(w:World)(h:d<w.heap.size)(q:w.cell? ⟨d,5,none⟩=some (.string c.over)):
 Calls Tryz.prog 126 #[.agg #[.int .i64 m.pos,.string m.of,.int .u64 m.Q7,.bool m.write,.bool m.exec],.pointer (some ⟨d,0,none⟩)] w fun e w'=>e=.returned (.bool (decide (m.of=c.over)))∧Kz w w':=by
 have g:(m.of.toList==c.over.toList)=decide (m.of=c.over):=bU _ _
 go_enter Tryz.func126,Tryz.ntmps126
 go_wp2
 go_ret
 exact⟨rfl,(aD.refl _ _).alloc _⟩
theorem vR{A:Option Addr}{cc:Nat}{l:List Ck.Map}(hs:aM B 5 eK w (.slice A l.length cc) l)(hB:B≤w.heap.size)(c:Ck.bO)(zc:Nat)(hz:zc<w.heap.size)(q:w.cell? ⟨zc,5,none⟩=some (.string c.over)):
 Calls Tryz.prog 150 #[.slice A l.length cc,.func (.func 126) #[] #[.pointer (some ⟨zc,0,none⟩)]] w fun e w'=>(∃i:Int,e=.returned (.int .i64 i)∧(0≤i↔∃m∈l,m.of=c.over))∧Kz w w':=by
 obtain⟨_,_,e,bw,bf,hl⟩:=hs
 cases e
 unfold top at bf;refine bL Tryz.func150 Tryz.ntmps150 rfl ξ fun a C y u=>?_
 have Y:At a 0 (.slice A l.length cc):=u 0 _ rfl;have U:At a 1 (.func (.func 126) #[] #[.pointer (some ⟨zc,0,none⟩)]):=u 1 _ rfl;clear u
 conv=>arg 2;whnf
 refine so (fun a1 w1=>aE (fun i=>i==4) a a1∧w1=w) ?_ ?_
 ·clear hl
  obtain⟨T,d⟩:=a;refine rl ?_;with_reducible refine st ?_;refine ln ?_
  refine⟨rfl,ag,rfl⟩
 rintro a1 w1 ⟨g,rfl⟩;replace Y:=g.Q7 Y rfl;replace U:=g.Q7 U rfl;replace C:=g.size.trans C;replace y:=g.defers.trans y;clear g;refine wp_seq (wp_seq (Code.wp_only (R:=fun a2 w2=>aE (fun i=>i==6||i==7||i==8) a1 a2∧At a2 7 (.int .i64 l.length)∧At a2 8 (.int .i64 0)∧w2=w1) ?_ ?_))
 ·clear hl
  obtain⟨T,d⟩:=a1;refine rl ?_
  iterate 3 with_reducible refine st ?_
  with_reducible refine ln ?_
  refine⟨rfl,ag,aq,aq,rfl⟩
 rintro a2 w2 ⟨D,bb,a9,rfl⟩;replace Y:=D.Q7 Y rfl;replace U:=D.Q7 U rfl;replace C:=D.size.trans C;replace y:=D.defers.trans y;clear D;refine bX l.length (fun i=>i==4||i==5||(rg 8 18 i)) (fun i=>i==4||i==5||(rg 10 17 i)) (fun k _ w'=>(∀m∈l.take k,m.of≠c.over)∧Kz w2 w') χ a9 bb ψ rfl
  ζ χ ψ (fun k a1 a2 w g hI=>hI) ⟨ξ,aD.refl _ _⟩ ?_ ?_
 ·rintro k a3 wr be g bm ⟨I,hk⟩
  obtain⟨bl,off,rfl,bd,ac⟩:=hl χ;obtain⟨m,L⟩:=ge be;obtain⟨Z,bt⟩:=(aI B _ _) _ _ _ _ _ (hk.below (B:=B) χ (fun _ hi e=>e)) bd (ac k m L);have q0:=Z.c0;have q1:=Z 1 _ rfl;have q2:=Z 2 _ rfl;have q3:=Z 3 _ rfl;have q4:=Z 4 _ rfl;have a0:=g.Q7 Y rfl;have a7:=g.Q7 U rfl;have J:=g.size.trans C;have H:=g.defers.trans y;have bs:=hk.size;have bo:bl<wr.heap.size:=χ
  have bp:k≤cc:=χ
  have V:=hh (A7 m c zc wr χ ((hk.cell (p:=⟨zc,5,none⟩) hz (fun h=>h)).trans q));have HX:=hh L;have bc:=hh I;have HK:=hh hk;have HA:=hh g;clear L I hk g Z ac hl;refine so (fun a4 w4=>aE (fun i=>i==10||i==5) a3 a4∧At a4 5 (.int .i64 k)∧w4=wr) ?_ ?_
  ·obtain⟨T,d⟩:=a3
   refine rl ?_
   iterate 2 with_reducible refine st ?_
   with_reducible refine ln ?_
   refine⟨rfl,ag,aq,rfl⟩
  rintro a4 w4 ⟨v,bg,rfl⟩;have bz:=v.Q7 a0 rfl;have b0:=v.Q7 a7 rfl;have al:=v.size.trans J;have ad:=v.defers.trans H;refine so (fun a5 w5=>aE (fun i=>(rg 11 16 i)) a4 a5∧At a5 16 (.bool (decide (m.of=c.over)))∧Kz w4 w5) ?_ ?_
  ·clear a0 a7 bm v
   obtain⟨T,d⟩:=a4;refine rl ?_
   iterate 5 with_reducible refine st ?_
   with_reducible refine Lz (fun K hK=>?_)
   go_simp;refine V.out.mono ?_;rintro e w5 ⟨rfl,Q⟩;with_reducible refine hK _ _ (ln ?_)
   refine⟨rfl,ag,aq,Q⟩
  rintro a5 w5 ⟨E,a8,Q⟩;have an:=E.size.trans al;have O:=a8.eval χ;have bx:=E.Q7 bg rfl
  by_cases hov:m.of=c.over
  ·rw[decide_eq_true hov]at O
   refine wp_cond_true O ?_;refine so (fun N w6=>At N 4 (.int .i64 k)∧N.tmps.size=19∧N.defers=[]∧w6=w5) ?_ ?_
   ·have af:=E.defers.trans ad
    clear E;obtain⟨T,d⟩:=a5;refine rl ?_
    iterate 2 with_reducible refine st ?_
    with_reducible refine ln ?_
    refine⟨rfl,?_,by simpa using an,af,rfl⟩;exact aq
   rintro N w6 ⟨h4,X,W,rfl⟩;refine wp_ret ?_
   repeat (first|with_reducible apply bQ|with_reducible apply bY)
   refine br (t:=4) rfl h4 (by rw[X];decide) W ⟨⟨_,rfl,⟨fun _=>⟨m,γ HX.out,hov⟩,fun _=>χ⟩⟩,HK.out.trans Q (fun _ _ e=>e)⟩
  ·rw[decide_eq_false hov]at O
   refine wp_cond_false O (wp_skip ?_);refine⟨(v.m).t E,fun x L=>?_,HK.out.trans Q (fun _ _ e=>e)⟩;rw[aO HX.out]at L
   rcases Ω.1 L with L|L
   ·exact bc.out x L
   ·have e:x=m:=by simpa using L
    subst e;exact hov
 ·rintro a3 w3 g ⟨I,hk⟩
  rw[List.take_length]at I;have J:=g.size.trans C;have H:=g.defers.trans y;clear g Y U a9 bb hl;show Code.wp _ _ _ _ _;refine so (fun N w6=>At N 4 (.int .i64 (-1))∧N.tmps.size=19∧N.defers=[]∧w6=w3) ?_ ?_
  ·obtain⟨T,d⟩:=a3
   refine rl ?_;with_reducible refine st ?_;refine ln ?_
   refine⟨rfl,?_,by simpa using J,H,rfl⟩;exact aq
  rintro N w6 ⟨h4,X,W,rfl⟩;refine wp_ret (br (t:=4) rfl h4 (by rw[X];decide) W ⟨⟨_,rfl,⟨fun h=>χ,fun⟨m,U,h2⟩=>absurd h2 (I m U)⟩⟩,hk⟩)
theorem qC{A:Option Addr}{g:Nat}{l:List Ck.Map}(x:aM B 5 eK w (.slice A l.length g) l)(v:B≤w.heap.size)(c:Ck.bO)(d:Nat)(y:d<w.heap.size)(q:w.cell? ⟨d,5,none⟩=some (.string c.over)):
 Calls Tryz.prog 125 #[.slice A l.length g,.func (.func 126) #[] #[.pointer (some ⟨d,0,none⟩)]] w fun e w'=>e=.returned (.bool (l.any fun m=>decide (m.of=c.over)))∧Kz w w':=by
 go_enter Tryz.func125,Tryz.ntmps125
 go_wp2_with fail
 refine(vR x v c d y q).mono ?_;rintro e w' ⟨⟨i,rfl,hi⟩,hk⟩;have h:=hh hi;have j:=hh hk;clear hi hk
 go_wp2
 go_ret
 refine⟨?_,j.out⟩;have u:decide (0≤i)=l.any fun m=>decide (m.of=c.over):=by
  rw[Bool.eq_iff_iff,decide_eq_true_eq,h.out,List.any_eq_true];simp
 simp[←u]
theorem lf{P:aF}{c:Ck.bO}:gg P c=((P.Q4.all fun x=>x.QA.all fun m=>mq c x.name m)&&(P.Q5.all fun x =>!x.QA.any fun m=>decide (m.of=c.over))&&(P.Q4.any fun x=>decide (x.name=c.QF)&&x.QA.any fun m=>decide (m.of=c.over))&&(P.Q4.any fun x=>decide (x.name=c.to)&&x.QA.any fun m=>decide (m.of=c.over))):=by
 have e:(fun x:Ck.bR=>x.QA.all fun m =>!decide (m.of=c.over))=fun x =>!x.QA.any fun m=>decide (m.of=c.over):=by
  funext x
  rw[List.not_any_eq_all_not]
 unfold gg;rw[e];rfl
def tK(l:List ak)(c:Ck.bO)(s:ByteArray):Prop:=∃x∈l,x.name=s∧∃m∈x.QA,m.of=c.over
theorem wd{l:List ak}{c:Ck.bO}{s:ByteArray}:tK l c s↔(l.any fun x=>decide (x.name=s)&&x.QA.any fun m=>decide (m.of=c.over))=true:=by
 simp[tK,List.any_eq_true]
theorem uP{pb:Nat}{v:ae}{P:aF}{W:Int→Int}{L:List Wr}(h:aG B w pb v P W L){c:Ck.bO}(D:c.Ok):
 Calls Tryz.prog 100 #[.pointer (some ⟨pb,0,none⟩),.agg #[.int .i64 c.pos,.string c.name,.string c.QF,.string c.to,.bool c.shared,.string c.over,.int .i64 c.how,.int .u64 c.QK]] w fun e w'=>e=.returned (.bool (gg P c))∧Kz w w':=by
 have gc:=h.lt;have f6:=h.base;have fm:=@run_makeMap Tryz.prog;refine bL Tryz.func100 Tryz.ntmps100 rfl ξ fun a bs bd O=>?_
 have h0:At a 0 (.pointer (some ⟨pb,0,none⟩)):=O 0 _ rfl;have h1:At a 1 (.agg #[.int .i64 c.pos,.string c.name,.string c.QF,.string c.to,.bool c.shared,.string c.over,.int .i64 c.how,.int .u64 c.QK]):=O 1 _ rfl;clear O
 conv=>arg 2;whnf
 refine so (fun a1 w1=>aE (fun i=>i==3||i==4) a a1∧At a1 3 (.pointer (some ⟨w.heap.size,0,none⟩))∧w1=w.alloc (.cells #[.int .i64 c.pos,.string c.name,.string c.QF,.string c.to,.bool c.shared,.string c.over,.int .i64 c.how,.int .u64 c.QK] 97)) ?_ ?_
 ·clear D
  obtain⟨T,d⟩:=a;refine rl ?_
  iterate 2 with_reducible refine st ?_
  with_reducible refine ln ?_
  refine⟨rfl,ag,aq,rfl⟩
 rintro a1 w1 ⟨b3,h3,ca⟩;have c8:Kz w w1:=by rw[ca];exact(aD.refl _ _).alloc _
 obtain⟨X,cd⟩:∃z,z=w.heap.size:=⟨_,rfl⟩;rw[←cd]at h3;have c3:aL w1 X 0 [.int .i64 c.pos,.string c.name,.string c.QF,.string c.to,.bool c.shared,.string c.over,.int .i64 c.how,.int .u64 c.QK]:=by rw[ca,cd];exact ap _ _ _
 have es:X<w1.heap.size:=by rw[ca,cd];simp
 replace h0:=b3.Q7 h0 rfl;replace bs:=b3.size.trans bs;replace bd:=b3.defers.trans bd;clear b3 ca h1;refine so (fun a2 w2=>aE (fun i=>i==12||i==5) a1 a2∧At a2 5 (.map (some w1.heap.size))∧w2=w1.alloc (.map #[] 0)) ?_ ?_
 ·clear D c3
  obtain⟨T,d⟩:=a1;refine rl ?_
  iterate 2 with_reducible refine st ?_
  with_reducible refine ln ?_
  refine⟨rfl,ag,aq,rfl⟩
 rintro a2 w2 ⟨ad,h5,dt⟩;have bm:Kz w1 w2:=by rw[dt];exact(aD.refl _ _).alloc _
 obtain⟨M,hM⟩:∃z,z=w1.heap.size:=⟨_,rfl⟩;rw[←hM]at h5;have an:cV w2 M 0 (.int .i64 0) (fun _ =>.int .i64 0) (fun _=>false):=cV.new _ _ _ (by rw[dt,hM];exact heap_alloc_new _ _);have d9:M≠X:=χ
 have f9:w.heap.size≤M:=by have:=c8.size;omega
 have f7:M<w2.heap.size:=an.lt;have di:Kz w w2:=c8.trans bm (fun _ _ h=>h);have HC:Hid (∀w0,aD (fun k=>k=M) w2 w0→aL w0 X 0 [.int .i64 c.pos,.string c.name,.string c.QF,.string c.to,.bool c.shared,.string c.over,.int .i64 c.how,.int .u64 c.QK]):=fun w0 hk=>(c3.keep bm es (fun h=>h)).keep hk (by have:=bm.size;omega) (fun e=>d9 e.symm)
 have a0:=h.new di;replace h0:=ad.Q7 h0 rfl;replace h3:=ad.Q7 h3 rfl;replace bs:=ad.size.trans bs;replace bd:=ad.defers.trans bd;have d2:=hh di;have fd:B≤M:=χ
 have f5:B≤w2.heap.size:=χ
 have f4:X<w2.heap.size:=by have:=bm.size;omega
 have fr:pb≠M:=χ
 clear ad dt hM fm c8 bm di h c3 cd es d9;obtain⟨A,cc,hu,eg,b6,hl⟩:=a0.QU.Q4;unfold top at b6;have hq:w2.cell? ⟨pb,5,none⟩=some v.Q4:=a0.cell rfl;rw[hu]at hq;clear hu;refine wp_seq (wp_seq (Code.wp_only (R:=fun a3 w3=>aE (fun i=>(rg 13 19 i)) a2 a3∧At a3 17 (.slice A P.Q4.length cc)∧At a3 18 (.int .i64 P.Q4.length)∧At a3 19 (.int .i64 0)∧w3=w2) ?_ ?_))
 ·clear hl an HC D
  obtain⟨T,d⟩:=a2;refine rl ?_
  iterate 7 with_reducible refine st ?_
  with_reducible refine ln ?_
  refine⟨rfl,ag,aq,aq,aq,rfl⟩
 rintro a3 w3 ⟨af,b1,b0,bz,rfl⟩;have i0:=af.Q7 h0 rfl;have i3:=af.Q7 h3 rfl;have i5:=af.Q7 h5 rfl;have cu:=af.size.trans bs;have cp:=af.defers.trans bd;clear hq;refine bX P.Q4.length (fun i=>i==4||i==7||i==9||(rg 19 57 i)) (fun i=>i==4||i==7||i==9||(rg 21 56 i)) (fun k _ w'=>∃(n:Nat) (cnt:ByteArray→Nat) (p:ByteArray→Bool),n≤k*2097152∧cV w' M n (.int .i64 0) (fun s =>.int .i64 (cnt s)) p∧(∀s,cnt s≤n∧(0<cnt s↔tK (P.Q4.take k) c s))∧(∀x∈P.Q4.take k,∀m∈x.QA,mq c x.name m=true)∧aD (fun k=>k=M) w3 w') χ bz b0 ψ rfl
  ζ χ ψ (fun k a1 a2 w I hI=>hI) ⟨0,fun _=>0,fun _=>false,χ,an,fun s=>⟨Γ _,by simp[tK]⟩,ξ,aD.refl _ _⟩ ?_ ?_
 ·rintro k a4 wr bo I e0 ⟨n,cnt,p,hn,hE,Z,l,hk⟩
  obtain⟨bl,off,rfl,cy,bc⟩:=hl χ;obtain⟨x,hx⟩:=ge bo;obtain⟨u1,u2,Q,bp,fy,cw⟩:=(dD B) _ _ _ _ _ (hk.below (B:=B) χ (fun _ hi e=>χ)) cy (bc k x hx);have cx:=hh bp;obtain⟨A_mapsx,g,rfl,fp,dk,_⟩:=bp;obtain⟨A_rulesx,C,rfl,_,_,_⟩:=fy;unfold top at dk;have q0:=Q.c0;have q1:=Q 1 _ rfl;have q2:=Q 2 _ rfl;have q3:=Q 3 _ rfl;have q4:=Q 4 _ rfl;have q5:=Q 5 _ rfl;have f2:=I.Q7 i0 rfl;have cj:=I.Q7 i3 rfl;have f3:=I.Q7 i5 rfl;have cv:=I.Q7 b1 rfl;have bw:=I.size.trans cu;have be:=I.defers.trans cp;have er:=hk.size;have ec:bl<wr.heap.size:=χ
  have ei:k≤cc:=χ
  have HX:=hh hx;have HK:=hh hk;have HA:=hh I;have HE:=hh hE;have b2:=hh Z;have HG:=hh l;have gl:n≤4398046511104:=χ
  clear hx hk Q I bc hE Z l hl an;refine so (fun a5 w5=>aE (fun i=>i==21||i==22||i==7) a4 a5∧At a5 7 (.pointer (some ⟨wr.heap.size,0,none⟩))∧w5=wr.alloc (Obj.cells #[.int .i64 x.pos,.string x.name,.int .u64 x.QN,.bool x.stopped,.slice A_mapsx x.QA.length g,.slice A_rulesx x.QO.length C] 45)) ?_ ?_
  ·clear HC D
   obtain⟨T,d⟩:=a4;refine rl ?_
   iterate 4 with_reducible refine st ?_
   with_reducible refine ln ?_
   refine⟨rfl,ag,aq,rfl⟩
  rintro a5 wo ⟨q,ey,H⟩;obtain⟨z,hz⟩:∃z,z=wr.heap.size:=⟨_,rfl⟩;rw[←hz]at ey;have cb:aL wo z 0 [.int .i64 x.pos,.string x.name,.int .u64 x.QN,.bool x.stopped,.slice A_mapsx x.QA.length g,.slice A_rulesx x.QO.length C]:=by rw[H,hz];exact ap _ _ _
  have u:Kz wr wo:=by rw[H];exact(aD.refl _ _).alloc _
  have f0:z≠M:=by have:=HE.out.lt;omega
  have eu:z<wo.heap.size:=by rw[H,hz];simp
  have b5:aD (fun k=>k=M) w3 wo:=HK.out.trans u (fun _ _ h=>h.elim);have eo:=b5.size;have eq:=u.size;have V:=q.size.trans bw;have U:=q.defers.trans be;refine xQ (cnt0:=0) (n0:=0) fd χ a5 V (hh fun w0 c7=>HC.out w0 (b5.trans c7 (fun _ _ e=>e))) (q.Q7 cj rfl) (q.Q7 f3 rfl) (hh fun w0 c7=>cb.keep c7 eu f0) ey (by have:=cw.2.2;unfold aV at this;unfold maxLen;omega) (cx.out.below (aI _ _ _) (u.below (B:=B) χ (fun _ _ e=>e))) χ (HE.out.keep u (fun e=>e)) b2.out _ (fun a6 w6 n6 d4 p6 N gf fe cm fi c9=>?_) (fun a6 w6 h4 fs ff E c9=>?_)
  ·refine⟨(q.m).t N,n6,d4,p6,χ,fe,fun s=>⟨(cm s).1,?_⟩,?_,b5.trans c9 (fun _ _ e=>e)⟩
   ·rw[(cm s).2,aO HX.out]
    simp only[tK,List.mem_append,List.mem_singleton];constructor
    ·rintro(⟨y,J,h1,h2⟩|⟨rfl,h2⟩)
     ·exact⟨y,.inl J,h1,h2⟩
     ·exact⟨x,.inr rfl,rfl,h2⟩
    ·rintro⟨y,J|rfl,h1,h2⟩
     ·exact .inl ⟨y,J,h1,h2⟩
     ·exact .inr ⟨h1.symm,h2⟩
   ·rw[aO HX.out]
    intro y J
    rcases Ω.1 J with J|J
    ·exact HG.out y J
    ·have e:y=x:=by simpa using J
     subst e;exact fi
  ·repeat (first|with_reducible apply bQ|with_reducible apply bY)
   refine br (t:=4) rfl h4 (by rw[fs];decide) (ff.trans U) ⟨?_,d2.out.trans (b5.trans c9 (fun _ _ e=>e)) (fun i hi e=>χ)⟩;obtain⟨m,hm,hb⟩:=E;have e:gg P c=false:=by
    rw[lf,Bool.eq_false_iff];intro hh;simp only[Bool.and_eq_true,List.all_eq_true]at hh;have:=hh.1.1.1 x (γ HX.out) m hm;rw[hb]at this
    cases this
   rw[e]
 ·rintro a4 w4 Y ⟨n,cnt,p,hn,hE,Z,l,hk⟩
  rw[List.take_length]at Z l;have j0:=Y.Q7 i0 rfl;have j3:=Y.Q7 i3 rfl;have j5:=Y.Q7 i5 rfl;have bw:=Y.size.trans cu;have be:=Y.defers.trans cp;have er:=hk.size;have d8:Kz w w4:=d2.out.trans hk (fun i hi e=>χ);have HE:=hh hE;have b2:=hh Z;have HG:=hh l;have HK:=hh hk;have d1:=hh d8;have xc:=(HC.out w4 hk) 5 _ rfl;have x2:=(HC.out w4 hk) 2 _ rfl;have x3:=(HC.out w4 hk) 3 _ rfl;clear hE Z l Y b1 b0 bz i0 i3 i5 hl an eg b6 A cc;with_reducible apply bK
  obtain⟨A,cc,hu,eg,b6,hl⟩:=a0.QU.Q5;unfold top at b6;have hq:w4.cell? ⟨pb,3,none⟩=some v.Q5:=(hk.cell (p:=⟨pb,3,none⟩) (by have:=a0.lt;omega) fr).trans (a0.cell rfl);rw[hu]at hq;clear hu hk d8;refine wp_seq (wp_seq (Code.wp_only (R:=fun a5 w5=>aE (fun i=>(rg 58 64 i)) a4 a5∧At a5 62 (.slice A P.Q5.length cc)∧At a5 63 (.int .i64 P.Q5.length)∧At a5 64 (.int .i64 0)∧w5=w4) ?_ ?_))
  ·clear hl HC D
   obtain⟨T,d⟩:=a4;refine rl ?_
   iterate 7 with_reducible refine st ?_
   with_reducible refine ln ?_
   refine⟨rfl,ag,aq,aq,aq,rfl⟩
  rintro a5 w5 ⟨q,b1,b0,bz,rfl⟩;have l0:=q.Q7 j0 rfl;have l3:=q.Q7 j3 rfl;have l5:=q.Q7 j5 rfl;have V:=q.size.trans bw;have U:=q.defers.trans be;clear hq;refine bX P.Q5.length (fun i=>i==4||i==11||(rg 64 72 i)) (fun i=>i==4||i==11||(rg 66 71 i)) (fun k _ w'=>(∀x∈P.Q5.take k,(x.QA.any fun m=>decide (m.of=c.over))=false)∧Kz w5 w') χ bz b0 ψ rfl
   ζ χ ψ (fun k a1 a2 w I hI=>hI) ⟨ξ,aD.refl _ _⟩ ?_ ?_
  ·rintro k a6 wr bo I e0 ⟨ac,hk⟩
   obtain⟨bl,off,rfl,cy,bc⟩:=hl χ;obtain⟨x,hx⟩:=ge bo;obtain⟨u1,Q,bp,cw⟩:=(eH B) _ _ _ _ _ ((HK.out.trans hk (fun _ _ h=>h.elim)).below (B:=B) χ (fun _ hi e=>χ)) cy (bc k x hx);have cx:=hh bp;obtain⟨A_mapsx,g,rfl,fp,dk,_⟩:=bp;unfold top at dk;have q0:=Q.c0;have q1:=Q 1 _ rfl;have q2:=Q 2 _ rfl;have q3:=Q 3 _ rfl;have q4:=Q 4 _ rfl;have f2:=I.Q7 l0 rfl;have cj:=I.Q7 l3 rfl;have cv:=I.Q7 b1 rfl;have bx:=I.size.trans V;have bg:=I.defers.trans U;have eq:=hk.size;have ec:bl<wr.heap.size:=χ
   have ei:k≤cc:=χ
   have f1:X<wr.heap.size:=χ
   have XC:=hh ((hk.cell (p:=⟨X,5,none⟩) (by show X<_;omega) (fun h=>h)).trans xc);have HX:=hh hx;have e7:=hh hk;have e8:=hh ac;clear hx hk Q bc ac hl xc x2 x3;refine so (fun a7 w7=>aE (fun i=>i==66||i==67||i==11) a6 a7∧At a7 11 (.pointer (some ⟨wr.heap.size,0,none⟩))∧w7=wr.alloc (Obj.cells #[.int .i64 x.pos,.string x.name,.int .u64 x.Q7,.int .u64 x.size,.slice A_mapsx x.QA.length g] 65)) ?_ ?_
   ·clear HC D
    obtain⟨T,d⟩:=a6;refine rl ?_
    iterate 4 with_reducible refine st ?_
    with_reducible refine ln ?_
    refine⟨rfl,ag,aq,rfl⟩
   rintro a7 wo ⟨al,ew,H⟩;obtain⟨z,hz⟩:∃z,z=wr.heap.size:=⟨_,rfl⟩;rw[←hz]at ew;have cb:aL wo z 0 [.int .i64 x.pos,.string x.name,.int .u64 x.Q7,.int .u64 x.size,.slice A_mapsx x.QA.length g]:=by rw[H,hz];exact ap _ _ _
   have u:Kz wr wo:=by rw[H];exact(aD.refl _ _).alloc _
   have eo:=u.size;have q4:=cb 4 _ rfl;have eu:z<wo.heap.size:=by rw[H,hz];simp
   have ej:=al.size.trans bx;have ed:=al.defers.trans bg;have go:=al.Q7 cj rfl;have bb:=hh (qC (cx.out.below (aI _ _ _) (u.below (B:=B) χ (fun _ _ e=>e))) χ c X χ ((u.cell (p:=⟨X,5,none⟩) f1 (fun h=>h)).trans XC.out));have e6:=hh u;clear u H cb q0 q1 q2 q3 cv e0 cj hz;obtain⟨d3,E⟩:∃b,b=(x.QA.any fun m=>decide (m.of=c.over)):=⟨_,rfl⟩;rw[←E]at bb;have HB:=hh E;clear E;refine so (fun a8 w8=>aE (fun i=>(rg 68 71 i)) a7 a8∧At a8 71 (.bool d3)∧Kz wo w8) ?_ ?_
   ·clear HC D al
    obtain⟨T,d⟩:=a7;refine rl ?_
    iterate 3 with_reducible refine st ?_
    with_reducible refine Lz (fun K hK=>?_)
    go_simp;refine bb.out.mono ?_;rintro e w8 ⟨rfl,dc⟩;with_reducible refine hK _ _ (ln ?_)
    refine⟨rfl,ag,aq,dc⟩
   rintro a8 w8 ⟨b4,ez,dc⟩;have en:=b4.size.trans ej;have ee:=b4.defers.trans ed;have d7:=ez.eval χ;have cs:Kz w5 w8:=(e7.out.trans e6.out (fun _ _ h=>h)).trans dc (fun _ _ h=>h)
   cases d3
   ·refine wp_cond_false d7 (wp_skip ?_)
    refine⟨(al.m).t b4,fun y J=>?_,cs⟩;rw[aO HX.out]at J
    rcases Ω.1 J with J|J
    ·exact e8.out y J
    ·have e:y=x:=by simpa using J
     subst e;exact HB.out.symm
   ·refine wp_cond_true d7 ?_
    refine so (fun a9 w9=>At a9 4 (.bool false)∧a9.tmps.size=85∧a9.defers=[]∧w9=w8) ?_ ?_
    ·clear b4
     obtain⟨T,d⟩:=a8;refine rl ?_;with_reducible refine st ?_;refine ln ?_
     refine⟨rfl,?_,by simpa using en,ee,rfl⟩;exact aq
    rintro a9 w9 ⟨h4,ds,c6,rfl⟩;refine wp_ret ?_
    repeat (first|with_reducible apply bQ|with_reducible apply bY)
    refine br (t:=4) rfl h4 (by rw[ds];decide) c6 ⟨?_,d1.out.trans cs (fun _ _ h=>h)⟩;have e:gg P c=false:=by
     rw[lf,Bool.eq_false_iff];intro hh;simp only[Bool.and_eq_true,List.all_eq_true]at hh;have:=hh.1.1.2 x (γ HX.out);rw[←HB.out]at this
     cases this
    rw[e]
  ·rintro a6 w6 N ⟨ac,hk⟩
   rw[List.take_length]at ac;have k3:=N.Q7 l3 rfl;have k5:=N.Q7 l5 rfl;have bx:=N.size.trans V;have bg:=N.defers.trans U;have y2:=(hk.cell (p:=⟨X,2,none⟩) (by show X<_;omega) (fun h=>h)).trans x2;have y3:=(hk.cell (p:=⟨X,3,none⟩) (by show X<_;omega) (fun h=>h)).trans x3;have d0:=hh (HE.out.keep hk (fun h=>h));have e5:=hh hk;have fv:c.QF.size≤maxLen:=by have:=D;unfold Ck.bO.Ok aV at this;unfold maxLen;omega
   have fz:c.to.size≤maxLen:=by have:=D;unfold Ck.bO.Ok aV at this;unfold maxLen;omega
   obtain⟨cf,c4⟩:∃n,n=cnt c.QF:=⟨_,rfl⟩;obtain⟨ct,c5⟩:∃n,n=cnt c.to:=⟨_,rfl⟩;obtain⟨bf,e9⟩:∃b,decide (0<cf)=b:=⟨_,rfl⟩;obtain⟨bt,fc⟩:∃b,decide (0<ct)=b:=⟨_,rfl⟩;have ea:bf=(P.Q4.any fun x=>decide (x.name=c.QF)&&x.QA.any fun m=>decide (m.of=c.over)):=by
    rw[←e9,Bool.eq_iff_iff,decide_eq_true_eq,←wd,←(b2.out c.QF).2,c4]
   have eb:bt=(P.Q4.any fun x=>decide (x.name=c.to)&&x.QA.any fun m=>decide (m.of=c.over)):=by
    rw[←fc,Bool.eq_iff_iff,decide_eq_true_eq,←wd,←(b2.out c.to).2,c5]
   have HT:Hid (gg P c=(bf&&bt)):=by
    have g1:(P.Q4.all fun x=>x.QA.all fun m=>mq c x.name m)=true:=by simp only[List.all_eq_true];exact HG.out
    have g2:(P.Q5.all fun x =>!x.QA.any fun m=>decide (m.of=c.over))=true:=by simp only[List.all_eq_true];intro x hx;rw[ac x hx];rfl
    show gg P c=_;rw[lf,g1,g2,←ea,←eb];rfl
   have e1:=hh c4;have e2:=hh c5;clear ea eb c4 c5 ac hk N HC hl xc x2 x3 l0 l3 l5 b1 b0 bz j0 j3 j5 h0 h3 h5;refine so (fun a9 w9=>At a9 4 (.bool (bf&&bt))∧a9.tmps.size=85∧a9.defers=[]∧w9=w6) ?_ ?_
   ·have fk:=d0.out.run Tryz.underlying224 z8 fv
    have fl:=d0.out.run Tryz.underlying224 z8 fz;rw[←e1.out]at fk;rw[←e2.out]at fl;obtain⟨T,d⟩:=a6;have gn:=aU;refine rl ?_
    cases bf
    all_goals
     iterate 13 with_reducible refine st ?_
     with_reducible refine ln ?_
     refine⟨rfl,?_,by simpa using bx,bg,rfl⟩;simp only[Bool.false_and,Bool.true_and];exact aq
   rintro a9 w9 ⟨h4,ds,c6,rfl⟩;refine wp_ret ?_;refine br (t:=4) rfl h4 (by rw[ds];decide) c6 ⟨by rw[HT.out],d1.out.trans e5.out (fun _ _ h=>h)⟩
end
section
open Go.RowKit Go.IntWalk Ck Rs
theorem EV(n m:Nat):decide ((n:Int)<m)=decide (n<m):=by rw[decide_eq_decide];omega
theorem Eu{A B C X Y T:List Wr}(d:A=X)(g:B=Y)(h:∀p,p∈T↔p∈C)(p:Wr):p∈A++B++C↔p∈T++((Y++[])++(X++[])):=by
 subst d g;simp only[List.mem_append,List.append_nil,h,or_comm,or_left_comm]
theorem BW{B:Nat}{w:World}{pb:Nat}{v:ae}{P:aF}(h:aG B w pb v P pc []):
 Calls Tryz.prog 30 #[.pointer (some ⟨pb,0,none⟩)] w fun e w'=>e=.returned (.tuple #[])∧aG B w' pb v P pc (uK P)∧aD (fun k=>k=pb) w w':=by
 have bo:=h.base;refine DY h Tryz.func30 Tryz.ntmps30 rfl ψ fun a H n0=>?_
 have hS:Agr (lo 24) (cE v P) (cE v P):=Agr.refl _ _;have a7:∀{d:Sta},Agr (lo 24) (cE v P) ((cE v P).put 32 d):=fun{d}=>(aQ _ 32 d).mono fun j hj=>Nat.ble_eq_true_of_le (Δ (ω hj) ψ)
 have af:∀{d e:Sta},Agr (lo 24) (cE v P) (((cE v P).put 32 d).put 64 e):=fun{d e}=>a7.trans ((aQ _ 64 _).mono fun j hj=>Nat.ble_eq_true_of_le (Δ (ω hj) ψ))
 refine ld n0 rfl ψ hS (fun w h=>h.Q4) (dD B) (fun l=>l.flatMap iL) 20 3 bW (ny 40) δ rfl rfl rfl (fun w x d=>∃u r,aM B 4 pW w r x.QO∧d=zM x u r) (fun w g o x ⟨u,r,h1,h2,h3,_⟩=>⟨_,⟨u,r,h3,rfl⟩,fun k=>by
  show aL w g o [.int .i64 x.pos,.string x.name,.int .u64 x.QN,.bool x.stopped,.slice (vA u) x.QA.length (vC u),.slice (vA r) x.QO.length (vC r)];rw[ao h2,ao h3];exact h1⟩) (fun k x d κ' a' w' L1 D H q C hK L n=>?_) fun κ1 a1 w1 bm n1 bd a8=>?_
 ·obtain⟨u,r,W,rfl⟩:=H
  refine aY (de (z0:=0) (cnt:=2) (k':=3) (F':=(3,.one (.p 2 0))::fx 32 20 (cJ 20 3 bW)) (M':=[(2,ny 40)]) (e':=[0]) n rfl L q C [.cmp .lss (.x 41) (.c 4)] [] (.inl rfl) (fun t h=>[(some (t.getD 0 false),.x 40,0,100)]) [] δ m0 (mc rfl m0) m0 fun κ2 a2 w2 I V E=>?_);have ac:κ2 0=(pb,0):=(E.upto 0 (by show 0<2;decide)).trans q;refine b7 1 τ ((34,.one (.i .i64 (.c 0)))::(33,.one (.i .i64 (.ln 41)))::(32,.one (.sl 41 41 43))::(3,.one (.p 2 0))::fx 32 20 (cJ 20 3 bW)) [(2,ny 40)] 3 [] hPt δ V fun κ3 a3 w3 n3 K=>?_
  have Q:aG B w3 pb v P pc _:=n3.gh;have ad:κ3 0=(pb,0):=(K.upto 0 ψ).trans ac;refine az (qd n3 rfl Q (W.below (aI _ _ _) ((K3 E.keep K.keep).below (B:=B) (by have:=L.lt;omega) fun i hi e=>by have e:i=pb:=e;omega)) (aI _ _ _) (fun l=>l.flatMap (kn x)) 64 34 41 41 ((33,.one (.i .i64 (.ln 41)))::(32,.one (.sl 41 41 43))::(3,.one (.p 2 0))::fx 32 20 (cJ 20 3 bW)) τ δ rfl (n3.has.re ⟨rfl,rfl,rfl,rfl,rfl,rfl,rfl,rfl,trivial⟩) rfl (fun _ x d=>x.Ok∧d=rlS x 0) (rlC 72) rfl
   (fun w g o x D=>⟨_,⟨D.2,rfl⟩,fun k=>D.1⟩) δ (fun j m d κ4 a4 w4 L4 hm H a0 J n4 Y O=>?_) fun a4 w4 J n4 Y O=>?_)
  ·obtain⟨ok,rfl⟩:=H
   have R:=(a0 0 ψ).trans ad;refine aY (de (z0:=0) (cnt:=2) (k':=5) (F':=(5,.one (.p 4 0))::fx 64 34 ((33,.one (.i .i64 (.ln 41)))::(32,.one (.sl 41 41 43))::(3,.one (.p 2 0))::fx 32 20 (cJ 20 3 bW))) (M':=[(4,rlC 72),(2,ny 40)]) (e':=[0]) n4 rfl J R af [.cmp .neq (.x 73) (.c 1),.cmp .lss (.x 74) (.c 64)] [] (.inl rfl) (fun t h=>[(some (t.getD 0 false||t.getD 1 false),.x 72,1,101)]) [] δ m0 (mc rfl m0) m0 fun κ5 a5 w5 Z n5 N=>?_);exact de (z0:=0) (cnt:=1) (k':=5) (F':=fx 64 34 ((33,.one (.i .i64 (.ln 41)))::(32,.one (.sl 41 41 43))::(3,.one (.p 2 0))::fx 32 20 (cJ 20 3 bW))) (M':=[]) (e':=[0]) n5 rfl Z ((N.upto 0 χ).trans R) af [.cmp .neq (.x 73) (.c 1),.seq (.x 72) (.x 40)] [] (.inl rfl) (fun t h=>[(some (t.getD 0 false || !t.getD 1 false),.x 72,3,102)]) [] δ m0 (mc rfl m0) m0 fun κ6 a6 w6 an n6 X=>cM rfl
    ⟨κ6,_,fun r W=>(X.upto r χ).trans ((N.upto r χ).trans (a0 r W)),n6.has,N.agree.trans X.agree (fun _ h=>h),K3 N.keep X.keep,by rw[←List.append_assoc]at an;exact an,ft hm fun p=>C3 (by
     show say _ _ _=say ((m.how !=1)||decide ((m.QK:Int)<64)) m.pos 1;rw[ibn,show decide ((m.QK:Int)<64)=decide (m.QK<64) from by rw[decide_eq_decide];omega]) (by
     show say _ _ _=say ((m.how !=1) || !(m.to.toList==x.name.toList)) m.pos 3;rw[ibn,bU]) p⟩
  ·exact cM rfl ⟨κ3,x.QO.flatMap (kn x)++say (decide (x.QN<4)) x.pos 0,fun r W=>(K.upto r (by show r<3;omega)).trans (E.upto r (by show r<2;omega)),n4.has.re ⟨rfl,rfl,rfl,rfl,trivial⟩,((E.agree.trans K.agree fun _ h=>h).trans Y fun _ h=>h).defers,((E.agree.trans K.agree fun _ h=>h).trans Y fun _ h=>h).size,K3 (K3 E.keep K.keep) O,by
    have h4:aG B w4 pb v P pc (x.QO.flatMap (kn x)++((say (decide ((x.QN:Int)<4)) x.pos 0++[])++L1)):=J;rw[List.append_nil,show decide ((x.QN:Int)<4)=decide (x.QN<4) from by rw[decide_eq_decide];omega]at h4;rw[List.append_assoc];exact h4,ft D fun p=>by simp[iL,or_comm]⟩
 refine ld n1 bm ψ hS (fun w h=>h.QM) (aI _ _ _) (fun l=>l.flatMap fun x=>say (decide (x.QK<64)) x.pos 1) 72 5 bW (irC 40) δ rfl rfl rfl (fun _ x d=>x.Ok∧d=irS x 0) (fun w g o x D=>⟨_,⟨D.2,rfl⟩,fun k=>D.1⟩) (fun k x d κ' a' w' L1 D H q C hK L n=>?_) fun κ2 a2 w2 ac V be a9=>?_
 ·obtain⟨ok,rfl⟩:=H
  exact aY (de (z0:=0) (cnt:=2) (k':=3) (F':=fx 32 72 (cJ 72 5 bW)) (M':=[]) (e':=[0]) n rfl L q C [.cmp .lss (.x 41) (.c 64)] [] (.inl rfl) (fun t h=>[(some (t.getD 0 false),.x 40,1,101)]) [] δ m0 (mc rfl m0) m0 fun κ2 a2 w2 I V E=>cM rfl
   ⟨κ2,_,fun r W=>E.upto r (by show r<2;omega),V.has,E.agree.defers,E.agree.size,E.keep,I,ft D fun p=>by
    show _↔p∈say (decide ((x.QK:Int)<(64:Nat))) x.pos 1++[];rw[EV,List.append_nil]⟩)
 refine ld V ac ψ hS (fun w h=>h.Q8) (aI _ _ _) (fun l=>l.flatMap (kM P)) 90 4 bW (chC 40) δ rfl rfl rfl (fun _ x d=>x.Ok∧d=chZ x 0 0) (fun w g o x D=>⟨_,⟨D.2,rfl⟩,fun k=>D.1⟩) (fun k x d κ' a' w' L1 D H q C hK L n=>?_) fun κ3 a3 w3 ad n3 bf bb=>?_
 ·obtain⟨ok,rfl⟩:=H
  refine aY (de (z0:=0) (cnt:=2) (k':=3) (F':=(9,.one (.p 2 0))::fx 32 90 (cJ 90 4 bW)) (M':=[(2,chC 40)]) (e':=[0]) n rfl L q C [.cmp .neq (.x 41) (.c 1),.cmp .lss (.x 42) (.c 64)] [] (.inl rfl) (fun t h=>[(some (t.getD 0 false||t.getD 1 false),.x 40,1,101)]) [] δ m0 (mc rfl m0) m0 fun κ4 a4 w4 J n4 p4=>?_);refine de (z0:=0) (cnt:=1) (k':=3) (F':=(9,.one (.p 2 0))::fx 32 90 (cJ 90 4 bW)) (M':=[(2,chC 40)]) (e':=[0]) n4 rfl J ((p4.upto 0 (by show 0<2;decide)).trans q) C [.seq (.x 41) (.x 42)] [] (.inl rfl) (fun t h=>[(some (!t.getD 0 false),.x 40,3,102)]) [] δ m0 (mc rfl m0) m0 fun κ5 a5 w5 Z n5 N=>?_
  have U:κ5 0=(pb,0):=(N.upto 0 ψ).trans ((p4.upto 0 (by show 0<2;decide)).trans q);obtain⟨bs,es⟩:∃b,x.shared=b:=⟨_,rfl⟩;obtain⟨bt,et⟩:∃b,gg P x=b:=⟨_,rfl⟩;have n6:=AR n5 rfl Z U C [say (!bs||bt) x.pos 4] [(.x 40,bs)] (mc es m0) [] ξ [(71,[.one (.p 0 0),.one (.b (.c (!bs||bt))),.one (.i .i64 (.x 40)),.one (.i .i64 (.c 4)),.one (.i .i64 (.c 103))],.tu [])]
   (uo (args := #[.pointer (some ⟨pb,0,none⟩),.bool (!bs||bt),.int .i64 x.pos,.int .i64 4,.int .i64 103]) (by simp only[List.map_cons,List.map_nil,SV.den,Cl.den_p,U];rfl) fun L' w' hk hL=>aR (!bs||bt) x.pos 4 103 hL rfl)
   [(100,[.one (.p 0 0),.ag (chC 40)],.one (.b (.c bt)))] fun y hy L' w' hk hL=>by
    obtain rfl:=ρ.1 hy;have h1:=uP hL ok;rw[et]at h1;have ea:([SV.one (.p 0 0),.ag (chC 40)].map (SV.den ((cE v P).put 32 ((Sta.put {} 8 (chZ x 0 0)).cnt k)) κ5)).toArray = #[.pointer (some ⟨pb,0,none⟩),.agg x.cells.toArray]:=by simp only[List.map_cons,List.map_nil,SV.den,Cl.den_p,U];rfl
    show Calls Tryz.prog 100 ([SV.one (.p 0 0),.ag (chC 40)].map _).toArray w' _;rw[ea];exact h1
  have q1:say (!decide (x.how=1)||decide (x.QK<64)) x.pos 1=say ((x.how !=1)||decide ((x.QK:Int)<(64:Nat))) x.pos 1:=by rw[ibn,EV]
  have q2:say (!decide (x.QF=x.to)) x.pos 3=say (!(x.QF.toList==x.to.toList)) x.pos 3:=by rw[bU]
  cases bs<;>cases bt<;>exact b7 1 τ (fx 32 90 (cJ 90 4 bW)) [] 3 [0] hPt δ n6 fun κ6 a6 w6 n7 X=>cM rfl ⟨κ6,_,fun r W=>(X.upto r (by show r<3;omega)).trans ((N.upto r (by show r<3;omega)).trans (p4.upto r (by show r<2;omega))),n7.has,((p4.agree.trans N.agree fun _ h=>h).trans X.agree fun _ h=>h).defers,((p4.agree.trans N.agree fun _ h=>h).trans X.agree fun _ h=>h).size,K3 (K3 p4.keep N.keep) X.keep,
   by have h7:aG B w6 pb v P pc (_++(_++(_++L1))):=n7.gh;rw[List.append_assoc,List.append_assoc];exact h7,ft D (Eu (T:=gP [say (_||_) x.pos 4] [0]) q1 q2 fun p=>by simp[gP,say,es,et])⟩
 refine ld n3 ad ψ hS (fun w h=>h.QG) (aI _ _ _) (fun l=>l.flatMap fun x=>say (!decide (x.QF=x.to)) x.pos 3) 134 11 bW (baC 40) δ rfl rfl rfl (fun _ x d=>x.Ok∧d=baS x 0) (fun w g o x D=>⟨_,⟨D.2,rfl⟩,fun k=>D.1⟩) (fun k x d κ' a' w' L1 D H q C hK L n=>?_) fun κ4 a4 w4 R n4 bg O=>?_
 ·obtain⟨ok,rfl⟩:=H
  exact aY (de (z0:=0) (cnt:=2) (k':=3) (F':=fx 32 134 (cJ 134 11 bW)) (M':=[]) (e':=[0]) n rfl L q C [.seq (.x 40) (.x 41)] [] (.inl rfl) (fun t h=>[(some (!t.getD 0 false),.x 40,3,102)]) [] δ m0 (mc rfl m0) m0 fun κ2 a2 w2 I V E=>cM rfl
   ⟨κ2,_,fun r W=>E.upto r (by show r<2;omega),V.has,E.agree.defers,E.agree.size,E.keep,I,ft D fun p=>by
    show _↔p∈say (!(x.QF.toList==x.to.toList)) x.pos 3++[];rw[bU,List.append_nil]⟩)
 refine ld n4 R ψ hS (fun w h=>h.QB) (aI _ _ _) (fun l=>l.flatMap nj) 154 6 bW (quC 40) δ rfl rfl rfl (fun _ x d=>x.Ok∧d=quS x 0 0) (fun w g o x D=>⟨_,⟨D.2,rfl⟩,fun k=>D.1⟩) (fun k x d κ' a' w' L1 D H q C hK L n=>?_) fun κ5 a5 w5 U n5 bl bc=>?_
 ·obtain⟨ok,rfl⟩:=H
  refine aY (de (z0:=0) (cnt:=2) (k':=3) (F':=(13,.one (.p 2 0))::fx 32 154 (cJ 154 6 bW)) (M':=[(2,quC 40)]) (e':=[0]) n rfl L q C [.cmp .eql (.x 41) (.c 3),.cmp .geq (.x 42) (.c 1),.cmp .leq (.x 42) (.c 64)] [] (.inl rfl) (fun t h=>[(some (t.getD 0 false||t.getD 1 false&&t.getD 2 false),.x 40,2,113)]) [] δ m0 (mc rfl m0) m0 fun κ2 a2 w2 I V E=>?_);exact de (z0:=0) (cnt:=1) (k':=3) (F':=fx 32 154 (cJ 154 6 bW)) (M':=[]) (e':=[0]) V rfl I ((E.upto 0 (by show 0<2;decide)).trans q) C [.seq (.x 41) (.x 42)] [] (.inl rfl) (fun t h=>[(some (!t.getD 0 false),.x 40,3,102)]) [] δ m0 (mc rfl m0) m0 fun κ3 a3 w3 Q n3 K=>cM rfl
   ⟨κ3,_,fun r W=>(K.upto r χ).trans (E.upto r (by show r<2;omega)),n3.has,K.agree.defers.trans E.agree.defers,K.agree.size.trans E.agree.size,K3 E.keep K.keep,by rw[←List.append_assoc]at Q;exact Q,ft D fun p=>C3 (by
    show say _ _ _=say ((x.how==3)||decide ((x.depth:Int)≥1)&&decide ((x.depth:Int)≤64)) x.pos 2;rw[ib,show decide ((x.depth:Int)≥1)=decide (1≤x.depth) from by rw[decide_eq_decide];omega,show decide ((x.depth:Int)≤64)=decide (x.depth≤64) from by rw[decide_eq_decide];omega]) (by
    show say _ _ _=say (!(x.QF.toList==x.to.toList)) x.pos 3;rw[bU]) p⟩
 have al:aG B w5 pb v P pc _:=n5.gh;refine cM rfl (dL rfl (bl.trans (bg.trans (bf.trans (be.trans (bd.trans H))))) ⟨rfl,al.congr fun p=>?_,K3 (K3 (K3 (K3 a8 a9) bb) O) bc⟩);rw[show gP [] []=[] from rfl,List.nil_append];simp only[uK,List.append_nil,List.mem_append,or_assoc,or_comm,or_left_comm]
end
open Go.RowKit Go.IntWalk
variable {QT:Nat→Nat} {w:World}
def il(QT:Nat→Nat)(b:Nat):Nat:=if 127<b then 0 else QT b
theorem qo(h:pa QT w)(b:Nat)(B:b<256):
 Calls Tryz.prog 160 #[.int .u8 b] w fun e w'=>e=.returned (.int .u8 (il QT b))∧w'=w:=by
 unfold il
 by_cases h1:127<b
 ·have g:decide ((127:Int)<(b:Int))=true:=η
  go_enter Tryz.func160,Tryz.ntmps160
  go_wp2
  go_ret
  exact⟨by simp[h1],rfl⟩
 ·have g:decide ((127:Int)<(b:Int))=false:=η
  have x:(b:Int)<128:=χ
  have l:b<128:=χ
  have q:=h b l;have y:¬ ((127:Int)<(b:Int)):=χ
  obtain⟨v,d⟩:∃n,n=QT b:=⟨_,rfl⟩;rw[←d]at q;have j:=hh d;have u:=hh h1;clear h d h1 g
  go_enter Tryz.func160,Tryz.ntmps160
  go_wp2
  go_ret
  exact⟨by rw[←j.out];rfl,rfl⟩
def kK(QT:Nat→Nat)(b:Nat):Bool:=decide (il QT b=3)||decide (il QT b=4)
theorem zB(h:pa QT w)(b:Nat)(q:b<256):
 Calls Tryz.prog 164 #[.int .u8 b] w fun e w'=>e=.returned (.bool (kK QT b))∧w'=w:=by
 have d:=qo h b q;unfold kK
 generalize il QT b=c at d⊢
 clear h
 by_cases h3:c=3
 ·subst h3
  go_enter Tryz.func164,Tryz.ntmps164
  go_wp2_with (go_at_call 160;refine d.mono ?_;rintro e w' ⟨rfl,rfl⟩)
  go_ret
  exact⟨ξ,rfl⟩
 ·obtain⟨t,g⟩:∃t,decide (c=4)=t:=⟨_,rfl⟩
  have e3:((c:Int)==3)=false:=η
  have e4:((c:Int)==4)=t:=by rw[←g];exact eh c 4
  have j:Hid (decide (c=3)=false):=hh (decide_eq_false h3);have l:=hh g;clear h3 g
  go_enter Tryz.func164,Tryz.ntmps164
  go_wp2_with (go_at_call 160;refine d.mono ?_;rintro e w' ⟨rfl,rfl⟩)
  go_ret
  exact⟨by rw[l.out,j.out];rfl,rfl⟩
def kr(QT:Nat→Nat)(x:Nat):Bool:=decide (127<x) || !kK QT x
theorem sE(h:pa QT w)(x:Nat)(l:x≤1114111):
 Calls Tryz.prog 163 #[.int .i32 x] w fun e w'=>e=.returned (.bool (kr QT x))∧w'=w:=by
 unfold kr
 by_cases h1:127<x
 ·have g:(127:Int)<(x:Int):=χ
  have H:Hid ((decide (127<x) || !kK QT x)=true):=hh (by simp[h1]);clear h
  go_enter Tryz.func163,Tryz.ntmps163
  go_wp2
  go_ret
  exact⟨by rw[H.out];rfl,rfl⟩
 ·have g:¬ ((127:Int)<(x:Int)):=χ
  have d:=zB h x χ;have H:Hid ((decide (127<x) || !kK QT x)=!kK QT x):=hh (by simp[h1]);have j:IntKind.u8.wrap (x:Int)=(x:Int):=u8_in _ χ;rw[H.out]
  generalize kK QT x=b at d⊢
  clear h h1
  go_enter Tryz.func163,Tryz.ntmps163
  go_wp2_with (go_at_call 164;refine d.mono ?_;rintro e w' ⟨rfl,rfl⟩)
  go_ret
  exact⟨rfl,rfl⟩
