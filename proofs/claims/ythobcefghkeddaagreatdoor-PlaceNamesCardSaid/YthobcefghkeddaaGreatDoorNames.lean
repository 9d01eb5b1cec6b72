import Derived.Test.YthobcefghkeddaaGreatDoorWho
import Derived.Test.YthobcefghkeddaaGreatDoorRowsC
set_option maxRecDepth 100000
set_option linter.all false
set_option maxHeartbeats 4000000
namespace Go.Proofs.YthobcefghkeddaaGreatDoor
open Go.RowKit Go.IntWalk Ck
theorem aK.take{α:Type}{B k:Nat}{R:World→Nat→Nat→α→Prop}{w:World}{A:Option Addr}{c:Nat}{xs:List α}(h:aK B k R w (.slice A xs.length c) xs){n:Nat}(C:n≤xs.length):aK B k R w (.slice A (xs.take n).length c) (xs.take n):=by
 obtain⟨_,_,e,u,v,g⟩:=h
 cases e
 have y:(xs.take n).length=n:=by rw[List.length_take];omega
 refine⟨A,c,rfl,χ,χ,fun q=>?_⟩;obtain⟨b,off,e,j,l⟩:=g χ;exact⟨b,off,e,j,fun i x d=>l i x (by rw[List.getElem?_take]at d;split at d;exact d;cases d)⟩
def kB(P:aF)(l:List Ck.mG):List Wr:=cP (fun r s=>[(max r.pos s.pos,1)]) l++l.flatMap (rY P)
theorem mh{P:aF}{l:List Ck.mG}{x:Ck.mG}{p:Wr}:p∈kB P (l++[x])↔p∈kB P l∨p∈l.flatMap (fun s=>[(max x.pos s.pos,1)])∨p∈rY P x:=by
 simp only[kB,List.mem_append,cY,List.flatMap_append,List.flatMap_cons,List.flatMap_nil,List.append_nil,List.mem_flatMap];constructor
 ·rintro((h|h)|(h|h))
  ·exact .inl (.inl h)
  ·exact .inr (.inl h)
  ·exact .inl (.inr h)
  ·exact .inr (.inr h)
 ·rintro((h|h)|(h|h))
  ·exact .inl (.inl h)
  ·exact .inr (.inl h)
  ·exact .inl (.inr h)
  ·exact .inr (.inr h)
def EN(f:List Nm):Prop:=f.length≤4194304∧∀x∈f,aW x.1
theorem BX{B:Nat}{w:World}{v:aX}{P:aF}(h:bO B w v P):∀f∈cq P,EN f:=by
 have l:∀x∈P.Q5,aW x.name:=cW h.Q5 fun b o x d=>by obtain⟨_,_,_,_,_,_,h⟩:=d;exact h
 have q:∀x∈P.Q3,aW x.name:=cW h.Q3 fun b o x d=>d.2.2.2.2.2.1
 have u:∀x∈P.Q4,aW x.name:=cW h.Q4 fun b o x d=>by obtain⟨_,_,_,_,_,_,_,h⟩:=d;exact h
 have C:∀x∈P.Q8,aW x.name:=cW h.Q8 fun b o x d=>d.2.2.2.2.1
 have D:∀x∈P.QM,aW x.name:=cW h.QM fun b o x d=>d.2.2.2.1
 have E:∀x∈P.QB,aW x.name:=cW h.QB fun b o x d=>d.2.2.2.2.1
 have H:∀x∈P.Q9,aW x.name:=cW h.Q9 fun b o x d=>by obtain⟨_,_,_,_,_,h⟩:=d;exact h
 have l1:P.Q5.length≤2097152:=by obtain⟨_,_,_,_,b,_⟩:=h.Q5;exact b
 have l2:P.Q3.length≤2097152:=by obtain⟨_,_,_,_,b,_⟩:=h.Q3;exact b
 have I:P.Q4.length≤2097152:=by obtain⟨_,_,_,_,b,_⟩:=h.Q4;exact b
 have J:P.Q8.length≤2097152:=by obtain⟨_,_,_,_,b,_⟩:=h.Q8;exact b
 have K:P.QM.length≤2097152:=by obtain⟨_,_,_,_,b,_⟩:=h.QM;exact b
 have L:P.QB.length≤2097152:=by obtain⟨_,_,_,_,b,_⟩:=h.QB;exact b
 have N:P.Q9.length≤2097152:=by obtain⟨_,_,_,_,b,_⟩:=h.Q9;exact b
 intro f j;simp only[cq,List.mem_cons,List.mem_nil_iff,or_false]at j
 rcases j with rfl|rfl|rfl|rfl|rfl|rfl|rfl|rfl
 ·refine⟨by simp[aF.things,aF.QY,aF.regs];omega,fun x d=>?_⟩
  simp only[aF.things,aF.QY,aF.regs,List.mem_append,List.mem_map]at d
  rcases d with⟨y,g,rfl⟩|⟨y,g,rfl⟩
  ·exact l y g
  ·exact q y g
 ·exact⟨by simp[aF.QY];omega,fun x d=>by simp only[aF.QY,List.mem_map]at d;obtain⟨y,g,rfl⟩:=d;exact l y g⟩
 ·exact⟨by simp[aF.regs];omega,fun x d=>by simp only[aF.regs,List.mem_map]at d;obtain⟨y,g,rfl⟩:=d;exact q y g⟩
 ·exact⟨by simp[aF.QQ];omega,fun x d=>by simp only[aF.QQ,List.mem_map]at d;obtain⟨y,g,rfl⟩:=d;exact u y g⟩
 ·exact⟨by simp[aF.chans];omega,fun x d=>by simp only[aF.chans,List.mem_map]at d;obtain⟨y,g,rfl⟩:=d;exact C y g⟩
 ·exact⟨by simp[aF.irqn];omega,fun x d=>by simp only[aF.irqn,List.mem_map]at d;obtain⟨y,g,rfl⟩:=d;exact D y g⟩
 ·exact⟨by simp[aF.ques];omega,fun x d=>by simp only[aF.ques,List.mem_map]at d;obtain⟨y,g,rfl⟩:=d;exact E y g⟩
 ·exact⟨by simp[aF.plns];omega,fun x d=>by simp only[aF.plns,List.mem_map]at d;obtain⟨y,g,rfl⟩:=d;exact H y g⟩
def ql(named:ByteArray→Bool)(P:aF)(is:List Nat):List Wr:=is.flatMap fun i=>i8 named ((cq P).getD i [])
end Go.Proofs.YthobcefghkeddaaGreatDoor
namespace Go.Proofs.YthobcefghkeddaaGreatDoor.Rs
open Go.RowKit Go.IntWalk Go.Proofs.YthobcefghkeddaaGreatDoor Ck
def EH(z zs:Nat):Sta:={ o:=fun j=>(dR z).getD j undef,a:=fun _=>some ⟨zs,0,none⟩,n:=fun _=>6 }
def bN:Fr:=[(0,.one (.p 0 0)),(2,.one (.p 1 0))]
theorem og{a:Act}{i:Nat}{v:Value}(h:At a i v)(hi:i<a.tmps.size):a.tmps[i]?=some v:=by
 rw[Array.getElem?_eq_getElem hi,h]
theorem rB{w:World}{b k:Nat}{v:Value}(h:w.cell? ⟨b,k,none⟩=some v):aM w b (0+k*1) [v]:=fun j u d=>by
 cases j with
 | zero=>obtain rfl:=Option.some.inj d;simpa using h
 | succ j=>simp at d
theorem CI(P:aF)(z0:Nat){k:Nat}(hk:k<6):∃q,([0,3,4,5,6,7]:List Nat)[k]?=some q∧(az z0)[q]?=some (z0+q+1)∧(cq P)[q]?=some ((cq P).getD q [])∧([.map (some (z0+1)),.map (some (z0+4)),.map (some (z0+5)),.map (some (z0+6)),.map (some (z0+7)),.map (some (z0+8))]:List Value)[k]?=some (.map (some (z0+q+1))):=by
 match k,hk with
 | 0,_=>exact⟨0,rfl,rfl,rfl,rfl⟩
 | 1,_=>exact⟨3,rfl,rfl,rfl,rfl⟩
 | 2,_=>exact⟨4,rfl,rfl,rfl,rfl⟩
 | 3,_=>exact⟨5,rfl,rfl,rfl,rfl⟩
 | 4,_=>exact⟨6,rfl,rfl,rfl,rfl⟩
 | 5,_=>exact⟨7,rfl,rfl,rfl,rfl⟩
end Go.Proofs.YthobcefghkeddaaGreatDoor.Rs
namespace Go.Proofs.YthobcefghkeddaaGreatDoor
open Go.RowKit Go.IntWalk Ck Rs
theorem xJ{B:Nat}{w:World}{pb:Nat}{v:aX}{P:aF}{named:ByteArray→Bool}(hN:fL B named)(h:aG B w pb v P cM []):
 Calls Tryz.prog 25 #[.pointer (some ⟨pb,0,none⟩)] w fun e w'=>e=.returned (.tuple #[])∧aG B w' pb v P cM (jF named P)∧aD (fun k=>k=pb) w w':=by
 have gf:=h.lt;have f9:=h.base;have er:=BX h.QR;refine bK Tryz.func25 Tryz.ntmps25 rfl ξ fun a eu eo bx=>ak ?_
 have h0:At a 0 (.pointer (some ⟨pb,0,none⟩)):=bx 0 _ rfl;clear bx;refine bL (Code.wp_only (R:=fun a1 w1=>aE (fun i=>i==2||i==30||i==31) a a1∧(∃zb,At a1 2 (.pointer (some ⟨zb,0,none⟩))∧w1.heap[zb]?=some (.cells (dR w.heap.size) 139 (0,0))∧zb≠pb)∧(∃D r,cZ (w.heap.size+10) w1 (az w.heap.size) (cq P) D r)∧Kz w w1) ?_ ?_)
 ·conv=>arg 2;whnf
  have hc:=xW h;unfold dR at hc;have HC:=hh hc;clear hc er;obtain⟨T,d⟩:=a;refine rl ?_;with_reducible refine st ?_;refine Lz (fun K O=>?_)
  go_simp;refine HC.out.mono ?_;rintro e V ⟨rfl,al,D,r,hF⟩;with_reducible refine O _ _ ?_;clear O K
  have HF:=hh hF;have ff:=hh al;have b2:=al.size;clear hF al
  iterate 2 with_reducible refine st ?_
  with_reducible refine ln ?_
  refine⟨rfl,ag,⟨V.heap.size,aq,heap_alloc_new _ _,χ⟩,⟨D,r,HF.out.keep ((aD.refl (fun _=>False) _).alloc _) (fun _ h=>h.elim)⟩,ff.out.alloc _⟩
 rintro a1 w1 ⟨hA,⟨zb,h2,X,fs⟩,⟨D,r,hF⟩,di⟩;replace h0:=hA.Q7 h0 rfl;have c6:=hA.size.trans eu;have d9:=hA.defers.trans eo;have e0:=aH X;have m0:w1.cell? ⟨zb,0,none⟩=some (.map (some (w.heap.size+1))):=cr X rfl;have m3:w1.cell? ⟨zb,3,none⟩=some (.map (some (w.heap.size+4))):=cr X rfl;have m4:w1.cell? ⟨zb,4,none⟩=some (.map (some (w.heap.size+5))):=cr X rfl;have m5:w1.cell? ⟨zb,5,none⟩=some (.map (some (w.heap.size+6))):=cr X rfl;have m6:w1.cell? ⟨zb,6,none⟩=some (.map (some (w.heap.size+7))):=cr X rfl;have m7:w1.cell? ⟨zb,7,none⟩=some (.map (some (w.heap.size+8))):=cr X rfl;obtain⟨z0,ez⟩:∃z0,z0=w.heap.size:=⟨_,rfl⟩;have d7:=h.new di;rw[←ez]at X hF m0 m3 m4 m5 m6 m7;have es:pb<z0:=χ
 have dc:aD (fun k=>k=pb) w w1:=di.mono fun _ _ h=>h.elim
 clear hA h di ez;refine bL (Code.wp_only (R:=fun a2 V=>aE (fun i=>(rg 32 46 i)) a1 a2∧At a2 44 (.slice (some ⟨w1.heap.size,0,none⟩) 6 6)∧At a2 45 (.int .i64 (6:Nat))∧At a2 46 (.int .i64 0)∧V=w1.alloc (.cells #[.map (some (z0+1)),.map (some (z0+4)),.map (some (z0+5)),.map (some (z0+6)),.map (some (z0+7)),.map (some (z0+8))] 137)) ?_ ?_)
 ·conv=>arg 2;whnf
  clear hN hF X;obtain⟨T,d⟩:=a1;refine rl ?_
  iterate 15 with_reducible refine st ?_
  with_reducible refine ln ?_
  refine⟨rfl,?_,?_,?_,?_,?_⟩
  ·exact ag
  ·exact aq
  ·show At _ 45 (.int .i64 6)
   exact aq
  ·exact aq
  ·rfl
 rintro a2 V ⟨bs,d1,fc,e9,cu⟩;obtain⟨zs,d0⟩:∃zs,zs=w1.heap.size:=⟨_,rfl⟩;rw[←d0]at d1;have al:Kz w1 V:=by rw[cu];exact(aD.refl _ _).alloc _
 have ey:aM V zs 0 [.map (some (z0+1)),.map (some (z0+4)),.map (some (z0+5)),.map (some (z0+6)),.map (some (z0+7)),.map (some (z0+8))]:=by rw[cu,d0];exact ao _ _ _
 have c7:zs<V.heap.size:=by rw[cu,d0];simp
 have c8:zs≠pb:=by have:=dc.size;omega
 have cd:=d7.new al;have b4:=(al.block zb e0 id).trans X;have b2:=bs.size.trans c6;have eb:=bs.defers.trans d9;have bl:=dc.trans al fun _ _ e=>e.elim
 replace h0:=bs.Q7 h0 rfl;replace h2:=bs.Q7 h2 rfl
 let S:=(ce v P).put 24 (EH z0 zs)
 let κ:Kap:=fun r=>match r with|0=>(pb,0)|_=>(zb,0)
 have hS:Agr (lo 24) (ce v P) S:=aP _ _ _;have ca:yE B pb z0 P S V:=⟨⟨D,r,hF.keep al fun _ e _=>e.elim⟩,es,fun j hj=>by
  match j,hj with
  | 0,_|1,_|2,_|3,_|4,_|5,_|6,_|7,_=>rfl⟩
 have n0:Now S κ 441 Tryz.prog {} (js B pb v P cM [] []) ⟨(46,.one (.i .i64 (.c 0)))::(45,.one (.i .i64 (.ln 24)))::(44,.one (.sl 24 24 24))::bN,[(1,lg)],2,[]⟩ a2 V:=
  ⟨gY (gY (gY (gY (gY ⟨b2,fun t u h=>by cases h⟩ (og h2 χ)) (og h0 χ)) (og d1 χ)) (og fc χ)) (og e9 χ),
   ⟨fun r l I=>by
    rw[cJ]at I;split at I
    ·rename_i e;subst e;obtain rfl:=Option.some.inj I
     refine⟨⟨aH b4,fs⟩,fun j c hj=>?_⟩;show V.cell? ⟨zb,0+j,none⟩=_;rw[cell_of_row _ _ _ _ _ _ b4];have:lg.map (Cl.den S κ)=(dR z0).toList:=rfl;rw[←Array.getElem?_toList,←this,List.getElem?_map,Nat.zero_add,hj];rfl
    ·cases I⟩,Rs.noC _ _ _ _ _,fun g hg=>by obtain rfl:g=pb:=hg;exact cd.lt,cd⟩
 clear bs d1 fc e9 cu al d7 X b4 m0 m3 m4 m5 m6 m7 h0 h2 hF dc eu c6 b2 eo d9;refine bL (oL n0 6 32 46 24 ((45,.one (.i .i64 (.ln 24)))::(44,.one (.sl 24 24 24))::bN) (fun _=>true) (fun _:Unit=>{}) (fun k _ w=>aG B w pb v P cM (ql named P (([0,3,4,5,6,7]:List Nat).take k))) (fun _ _ _ _ hk h=>h.new hk) () hPt δ rfl ψ cd (n0.has.re ⟨rfl,rfl,rfl,rfl,rfl,trivial⟩) ?_ ?_)
 ·intro k e a3 w3 hk n1 hA O
  have I:aG B w3 pb v P cM _:=n1.gh;have cb:aD (fun k=>k=pb) V w3:=O;have fr:=ey.keep cb c7 c8;obtain⟨D,r,bt⟩:=(ca.keep cb (Agr.refl _ _)).Q7;obtain⟨q,hq,cs⟩:=CI P z0 hk;obtain⟨κ',hu,U⟩:=n1.elem (j:=24) (z:=1) (x:={ o:=fun _ =>.map (some (z0+q+1)) }) (cl:=[.v 40]) (vs:=[.map (some (z0+q+1))]) rfl ⟨Nat.lt_of_lt_of_le c7 cb.size,c8⟩ hk (rB (by have:=fr k _ cs.2.2;rwa[Nat.zero_add]at this)) rfl δ;have c5:=er _ (List.mem_of_getElem? cs.2.1);have n3:=ki U rfl I (hu 0 ψ) (Dw _ _ _) [i8 named ((cq P).getD q [])] [] ξ [] ξ [(69,[.one (.p 0 0),.one (.v 40)],.tu [])]
   (tx (args := #[.pointer (some ⟨pb,0,none⟩),.map (some (z0+q+1))]) (by simp only[List.map_cons,List.map_nil,SV.den,Cl.den_p,hu 0 (by decide:0<2)];rfl) fun L' w' hk hL =>
    wL hN hL (bt.keep hk fun k e _=>by subst e;exact⟨χ,by simp[az];omega⟩) q (z0+q+1) _ cs.1 cs.2.1 ⟨χ,by simp[az];omega⟩ c5.1 c5.2) [] ξ
  exact ak (bG 2 (fun _=>true) (fx 32 46 ((45,.one (.i .i64 (.ln 24)))::(44,.one (.sl 24 24 24))::bN)) [] 3 [0] hPt δ n3 fun κ4 a4 w4 n4 p4=>dA rfl
   ⟨(),κ4,aG.congr n4.gh fun p=>by rw[aO hq];simp[fh,ql,or_comm],fun r Z=>(p4.upto r (by show r<3;omega)).trans (hu r Z),n4.has.on (rF _ 32 _ _ _).symm δ,hA.trans p4.agree (fun _ h=>h),K3 cb p4.keep⟩)
 intro e a3 w3 n1 hA O;have I:aG B w3 pb v P cM (ql named P [0,3,4,5,6,7]):=n1.gh;have U:=ki (EL:=[]) (n1.downR bN ⟨rfl,rfl,trivial⟩ δ) rfl I rfl hS [] [] ξ [] ξ [] ξ [] ξ;have ed:=hA.defers.trans eb;have L:aD (fun k=>k=pb) V w3:=O;clear n0 n1 cd hA eb O ey;have pick:∀{κ:Kap} {w3:World} (u:Value) (xs:List Ck.iQ) (i:Nat),aD (fun k=>k=pb) V w3→i<8→(∀w,bO B w v P→aK B 2 ou w u xs)→∀L' w',aD (fun k=>k=pb) w3 w'→aG B w' pb v P cM L'→Calls Tryz.prog 70 #[.pointer (some ⟨pb,0,none⟩),u,.map (some (z0+i+1))] w' fun e fd=>e=.returned (.tuple #[])∧aG B fd pb v P cM (g0 xs ((cq P).getD i [])++L')∧aD (fun k=>k=pb) w' fd:=fun{κ w3} u xs i hk hi hu L' w' fl hL=>by
  obtain⟨D,r,bt⟩:=(ca.keep (K3 hk fl) (Agr.refl _ _)).Q7;obtain⟨q1,q2⟩:(az z0)[i]?=some (z0+i+1)∧(cq P)[i]?=some ((cq P).getD i []):=by
   match i,hi with
   | 0,_|1,_|2,_|3,_|4,_|5,_|6,_|7,_=>exact⟨rfl,rfl⟩
  exact x9 hL bt i (z0+i+1) _ q1 q2 ⟨χ,by simp[az];omega⟩ (hu w' hL.QR)
 refine vX (cnt:=1) (k':=2) U rfl I rfl hS bN [(1,lg)] 70 [.one (.p 0 0),.one (.sl 9 9 21),.one (.v 31)] #[.pointer (some ⟨pb,0,none⟩),v.QH,.map (some (z0+7+1))] δ (by
  rw[←am I.QR.QH];rfl) (pick (κ:=κ) v.QH P.QH 7 L ψ fun w h=>h.QH) (fun κ4 a4 w4 bm n4 p4 e8=>?_) ψ
 have d4:=K3 L p4.keep;have ee:=p4.agree.defers.trans ed;refine vX (cnt:=1) (k':=2) n4 rfl bm e8 hS bN [(1,lg)] 70 [.one (.p 0 0),.one (.sl 8 8 20),.one (.v 27)] #[.pointer (some ⟨pb,0,none⟩),v.QD,.map (some (z0+3+1))] δ (by
  rw[←am I.QR.QD];simp only[List.map_cons,List.map_nil,SV.den,Cl.den_p,e8];rfl) (pick (κ:=κ) v.QD P.QD 3 d4 ψ fun w h=>h.QD) (fun κ5 a5 w5 cp n5 p5 cw=>?_) ψ
 have cc:=K3 d4 p5.keep;have eg:=p5.agree.defers.trans ee;refine vX (cnt:=1) (k':=2) n5 rfl cp cw hS bN [(1,lg)] 70 [.one (.p 0 0),.one (.sl 10 10 22),.one (.v 27)] #[.pointer (some ⟨pb,0,none⟩),v.QE,.map (some (z0+3+1))] δ (by
  rw[←am I.QR.QE];simp only[List.map_cons,List.map_nil,SV.den,Cl.den_p,cw];rfl) (pick (κ:=κ) v.QE P.QE 3 cc ψ fun w h=>h.QE) (fun κ6 a6 w6 b0 n6 p6 cx=>?_) ψ
 have a0:=K3 cc p6.keep;have en:=p6.agree.defers.trans eg;clear U n4 n5 p4 p5 p6 I bm cp ed ee eg;have fk:∀{hs:List (Nat×SS)} {w':World} {S':Sta},aD (fun k=>k=pb) V w'→Agr (lo 32) S S'→hs.isEmpty=true∨yE B pb z0 P S' w':=fun hk hA =>.inr (ca.keep hk hA)
 have ad:∀{d:Sta},Agr (lo 32) S (S.put 32 d):=aP _ _ _;refine lJ n6 cx ψ hS (fun w h=>h.QG) (aI _ _ _) (fun l=>l.flatMap (Bi P)) 87 11 bN (baC 40) δ rfl rfl rfl (fun _ x d=>x.Ok∧d=baS x 0) (fun w g o x C=>⟨_,⟨C.2,rfl⟩,fun k=>C.1⟩) (fun k x d κ' a' w' L1 C W E H O I n=>?_) fun κ7 a7 w7 b5 n7 cf af=>?_
 ·obtain⟨ok,rfl⟩:=W
  exact ak (dW (cnt:=2) (k':=4) (F':=fx 32 87 (cI 87 11 bN)) (M':=[]) (e':=[0]) n rfl I E H [] [(3,.x 40),(1,.x 40),(3,.x 41)] (fk (K3 a0 O) ad) (fun t h=>[(some ((h.getD 0 false||h.getD 1 false)&&h.getD 2 false),.x 40,2,80)]) [] δ
   (mc ⟨ψ,ok.2.1⟩ (mc ⟨ψ,ok.2.1⟩ (mc ⟨ψ,ok.2.2⟩ m0))) (mc rfl m0) m0 fun κ2 a2 V J U y=>dA rfl ⟨κ2,_,fun r Z=>y.upto r χ,U.has,y.agree.defers,y.agree.size,y.keep,J,ft C fun p=>by rw[←List.append_nil (Bi P x)];rfl⟩)
 have af:=K3 a0 af;have cf:=cf.trans en;clear n6 a0 en b0;refine lJ n7 b5 ψ hS (fun w h=>h.QB) (aI _ _ _) (fun l=>l.flatMap (tc P)) 121 6 bN (quC 40) δ rfl rfl rfl (fun _ x d=>x.Ok∧d=quS x 0 0) (fun w g o x C=>⟨_,⟨C.2,rfl⟩,fun k=>C.1⟩) (fun k x d κ' a' w' L1 C W E H O I n=>?_) fun κ8 a8 w8 fv n8 cj Y=>?_
 ·obtain⟨ok,rfl⟩:=W
  refine ak (dW (cnt:=2) (k':=4) (F':=(8,.one (.p 3 0))::fx 32 121 (cI 121 6 bN)) (M':=[(3,quC 40),(1,lg)]) (e':=[0]) n rfl I E H [.cmp .geq (.x 41) (.c 1),.cmp .leq (.x 41) (.c 3),.cmp .neq (.x 41) (.c 3),.cmp .eql (.x 42) (.c 0)] [] (fk (K3 af O) ad) (fun t h=>[(some (t.getD 0 false&&t.getD 1 false&&(t.getD 2 false||t.getD 3 false)),.x 40,0,5)]) [] δ
   m0 (mc rfl m0) m0 fun κ2 a2 V J U y=>?_)
  exact dW (cnt:=1) (k':=4) (F':=fx 32 121 (cI 121 6 bN)) (M':=[]) (e':=[0]) U rfl J ((y.upto 0 χ).trans E) H [] [(3,.x 41),(3,.x 42)] (fk (K3 (K3 af O) y.keep) ad) (fun t h=>[(some (h.getD 0 false&&h.getD 1 false),.x 40,2,80)]) [] δ
   (mc ⟨ψ,ok.2.2.2.2.1⟩ (mc ⟨ψ,ok.2.2.2.2.2⟩ m0)) (mc rfl m0) m0 fun κ3 a3 w3 Q n3 p3=>dA rfl ⟨κ3,_,fun r Z=>(p3.upto r χ).trans (y.upto r χ),n3.has,p3.agree.defers.trans y.agree.defers,p3.agree.size.trans y.agree.size,K3 y.keep p3.keep,by rw[←List.append_assoc]at Q;exact Q,ft C fun p=>BH (by
    show say _ _ _=say (decide (x.how≥1)&&decide (x.how≤3)&&((x.how !=3)||((x.depth:Int)==0))) x.pos 0;rw[nb0,ibn]) rfl p⟩
 have Y:=K3 af Y;have cj:=cj.trans cf;clear n7 af cf;have b1:∀{x:Ck.Map},x.Ok→aW x.of:=fun h=>h.2.2
 refine lJ n8 fv ψ hS (fun w h=>h.Q5) (dz B) (fun l=>l.flatMap fun x=>x.QA.flatMap (nv P.regs)) 170 1 bN (AE 40) δ rfl rfl rfl (fun w x d=>∃u,aK B 5 eH w u x.QA∧d=D6 x u) (fun w g o x ⟨u,h1,h2,_⟩=>⟨_,⟨u,h2,rfl⟩,fun k=>by
  show aM w g o [.int .i64 x.pos,.string x.name,.int .u64 x.Q7,.int .u64 x.size,.slice (vA u) x.QA.length (vC u)];rw[am h2];exact h1⟩) (fun k x d κ' a' w' L1 C W E H O I n=>?_) fun κ9 a9 w9 fy n9 cm bb=>?_
 ·obtain⟨u,hu,rfl⟩:=W
  refine ak (bG 2 (fun _=>true) ((177,.one (.i .i64 (.c 0)))::(176,.one (.i .i64 (.ln 40)))::(175,.one (.sl 40 40 41))::fx 32 170 (cI 170 1 bN)) [(1,lg)] 4 [] hPt δ n fun κ2 a2 V U y=>?_);have J:aG B V pb v P cM L1:=U.gh;have bl:=K3 O y.keep;have cv:κ2 0=(pb,0):=(y.upto 0 ψ).trans E;refine bL (qE U rfl J (hu.below (aI _ _ _) (y.keep.below (B:=B) (by have:=I.lt;omega) fun i hi e=>by have e:i=pb:=e;omega)) (aI _ _ _) (fun l=>l.flatMap (nv P.regs)) 64 177 40 40 ((176,.one (.i .i64 (.ln 40)))::(175,.one (.sl 40 40 41))::fx 32 170 (cI 170 1 bN)) (fun _=>true) δ rfl (U.has.re ⟨rfl,rfl,rfl,rfl,rfl,rfl,rfl,rfl,trivial⟩) rfl (fun _ x d=>x.Ok∧d=Dd x) (De 72) rfl
   (fun w g o x C=>⟨_,⟨C.2,rfl⟩,fun k=>C.1⟩) δ (fun j m d κ3 a3 w3 L3 hm W b3 Q n3 bc L=>?_) fun a3 w3 Q n3 bc L=>?_)
  ·obtain⟨ok,rfl⟩:=W
   exact ak (dW (cnt:=2) (k':=6) (F':=fx 64 177 ((176,.one (.i .i64 (.ln 40)))::(175,.one (.sl 40 40 41))::fx 32 170 (cI 170 1 bN))) (M':=[]) (e':=[0]) n3 rfl Q ((b3 0 ψ).trans cv) (H.trans ((aP _ 64 _).mono fun j hj=>Nat.ble_eq_true_of_le (Nat.le_trans (Nat.le_of_ble_eq_true hj) ψ))) [] [(2,.x 72)] (fk (K3 (K3 Y bl) L) (ad.trans ((aP _ 64 _).mono fun j hj=>Nat.ble_eq_true_of_le (Nat.le_trans (Nat.le_of_ble_eq_true hj) ψ)))) (fun t h=>[(some (h.getD 0 false),.x 72,2,80)]) [] δ
    (mc ⟨ψ,b1 ok⟩ m0) (mc rfl m0) m0 fun κ4 a4 w4 bm n4 p4=>dA rfl ⟨κ4,_,fun r Z=>(p4.upto r χ).trans (b3 r Z),n4.has,p4.agree,p4.keep,bm,ft hm fun p=>by rw[←List.append_nil (nv P.regs m)];rfl⟩)
  ·exact dA rfl ⟨κ2,_,fun r Z=>y.upto r (by show r<3;omega),n3.has.re ⟨rfl,rfl,rfl,rfl,rfl,trivial⟩,(y.agree.trans bc fun _ h=>h).defers,(y.agree.trans bc fun _ h=>h).size,K3 y.keep L,Q,ft C fun p=>Iff.rfl⟩
 have bb:=K3 Y bb;have cm:=cm.trans cj;clear n8 Y cj;have bp:∀{d e:Sta},Agr (lo 24) (ce v P) ((S.put 32 d).put 64 e):=fun{d e}=>(Dw _ _ _).trans ((aP _ 64 _).mono fun j hj=>Nat.ble_eq_true_of_le (Nat.le_trans (Nat.le_of_ble_eq_true hj) ψ))
 have b6:∀{d e:Sta},Agr (lo 32) S ((S.put 32 d).put 64 e):=fun{d e}=>ad.trans ((aP _ 64 _).mono fun j hj=>Nat.ble_eq_true_of_le (Nat.le_trans (Nat.le_of_ble_eq_true hj) ψ))
 refine lJ n9 fy ψ hS (fun w h=>h.Q3) (aI _ _ _) (fun l=>l.flatMap ml) 198 2 bN (lS 40) δ rfl rfl rfl (fun _ x d=>x.Ok∧d=nY x) (fun w g o x C=>⟨_,⟨C.2,rfl⟩,fun k=>C.1⟩) (fun k x d κ' a' w' L1 C W E H O I n=>?_) fun fe fi f1 e2 bo be N=>?_
 ·obtain⟨ok,rfl⟩:=W
  exact ak (dW (cnt:=2) (k':=4) (F':=fx 32 198 (cI 198 2 bN)) (M':=[]) (e':=[0]) n rfl I E H [.x 40,.cmp .eql (.x 42) (.c 0),.x 43,.seq (.x 41) (.c ⟨#[]⟩),.cmp .eql (.x 43) (.c 0)] [] (fk (K3 bb O) ad) (fun t h=>[(some ((t.getD 0 false||t.getD 1 false)&&(t.getD 2 false||t.getD 3 false)&&(!t.getD 2 false||t.getD 4 false)),.x 40,0,5)]) [] δ
   m0 (mc rfl m0) m0 fun κ2 a2 V J U y=>dA rfl ⟨κ2,_,fun r Z=>y.upto r (by show r<3;omega),U.has,y.agree.defers,y.agree.size,y.keep,J,ft C fun p=>by
    show p∈ml x↔p∈say ((x.fixed||((x.Q7:Int)==0))&&(x.QP||(x.text.toList==(⟨#[]⟩:ByteArray).toList))&&(!x.QP||((x.fill:Int)==0))) x.pos 0++[];rw[nb0,nb0,bQ,List.append_nil];rfl⟩)
 have N:=K3 bb N;have be:=be.trans cm;clear n9 bb cm;refine lJ bo e2 ψ hS (fun w h=>h.Q4) (dC B) (fun l=>l.flatMap fun x=>x.QA.flatMap (nv P.things)++kB P x.QO) 239 3 bN (pE 40) δ rfl rfl rfl (fun w x d=>∃u r,aK B 5 eH w u x.QA∧aK B 4 rG w r x.QO∧d=Ag x u r) (fun w g o x ⟨u,r,h1,h2,h3,_⟩=>⟨_,⟨u,r,h2,h3,rfl⟩,fun k=>by
  show aM w g o [.int .i64 x.pos,.string x.name,.int .u64 x.QN,.bool x.stopped,.slice (vA u) x.QA.length (vC u),.slice (vA r) x.QO.length (vC r)];rw[am h2,am h3];exact h1⟩) (fun k x d κ' a' w' L1 C W E H O I n=>?_) fun gs f4 gn e5 cy bf ac=>?_
 ·obtain⟨u,r,hu,Z,rfl⟩:=W
  have below:∀{w1},aD (fun k=>k=pb) w' w1→Below B w' w1:=fun hk=>hk.below (B:=B) (by have:=I.lt;omega) fun i hi e=>by have e:i=pb:=e;omega
  refine ak (bG 2 (fun _=>true) ((246,.one (.i .i64 (.c 0)))::(245,.one (.i .i64 (.ln 40)))::(244,.one (.sl 40 40 42))::(16,.one (.p 3 0))::fx 32 239 (cI 239 3 bN)) [(3,pE 40),(1,lg)] 4 [] hPt δ n fun κ2 a2 V U y=>?_);have J:aG B V pb v P cM L1:=U.gh;have bl:=K3 O y.keep;have cv:κ2 0=(pb,0):=(y.upto 0 ψ).trans E;refine bL (qE U rfl J (hu.below (aI _ _ _) (below y.keep)) (aI _ _ _) (fun l=>l.flatMap (nv P.things)) 64 246 40 40 ((245,.one (.i .i64 (.ln 40)))::(244,.one (.sl 40 40 42))::(16,.one (.p 3 0))::fx 32 239 (cI 239 3 bN)) (fun _=>true) δ rfl (U.has.re ⟨rfl,rfl,rfl,rfl,rfl,rfl,rfl,rfl,rfl,trivial⟩) rfl (fun _ x d=>x.Ok∧d=Dd x) (De 72) rfl
   (fun w g o x C=>⟨_,⟨C.2,rfl⟩,fun k=>C.1⟩) δ (fun j m d κ3 a3 w3 L3 hm W b3 Q n3 bc L=>?_) fun a3 w3 Q n3 bc L=>?_)
  ·obtain⟨ok,rfl⟩:=W
   exact ak (dW (cnt:=2) (k':=6) (F':=fx 64 246 ((245,.one (.i .i64 (.ln 40)))::(244,.one (.sl 40 40 42))::(16,.one (.p 3 0))::fx 32 239 (cI 239 3 bN))) (M':=[]) (e':=[0]) n3 rfl Q ((b3 0 ψ).trans cv) bp [] [(0,.x 72)] (fk (K3 (K3 N bl) L) b6) (fun t h=>[(some (h.getD 0 false),.x 72,2,80)]) [] δ
    (mc ⟨ψ,b1 ok⟩ m0) (mc rfl m0) m0 fun κ4 a4 w4 bm n4 p4=>dA rfl ⟨κ4,_,fun r Z=>(p4.upto r χ).trans (b3 r Z),n4.has,p4.agree,p4.keep,bm,ft hm fun p=>by rw[←List.append_nil (nv P.things m)];rfl⟩)
  have n4:=n3.downR ((16,.one (.p 3 0))::fx 32 239 (cI 239 3 bN)) ⟨rfl,rfl,rfl,rfl,rfl,rfl,trivial⟩ δ;refine bG 1 (fun _=>true) ((263,.one (.i .i64 (.c 0)))::(262,.one (.i .i64 (.ln 41)))::(261,.one (.sl 41 41 43))::(16,.one (.p 3 0))::fx 32 239 (cI 239 3 bN)) [(3,pE 40),(1,lg)] 4 [] hPt δ n4 fun κ5 a5 w5 n5 p5=>?_
  have cp:aG B w5 pb v P cM (x.QA.flatMap (nv P.things)++L1):=n5.gh;have cc:=K3 (K3 bl L) p5.keep;have cw:κ5 0=(pb,0):=(p5.upto 0 ψ).trans cv;have fp:=Z.below (aI _ _ _) (below (K3 (K3 y.keep L) p5.keep));refine bL (qE n5 rfl cp fp (aI _ _ _) (kB P) 64 263 41 41 ((262,.one (.i .i64 (.ln 41)))::(261,.one (.sl 41 41 43))::(16,.one (.p 3 0))::fx 32 239 (cI 239 3 bN)) (fun _=>true) δ rfl (n5.has.re ⟨rfl,rfl,rfl,rfl,rfl,rfl,rfl,rfl,rfl,trivial⟩) rfl (fun _ x d=>x.Ok∧d=rlS x 0) (rlC 72) rfl
   (fun w g o x C=>⟨_,⟨C.2,rfl⟩,fun k=>C.1⟩) δ (fun j m d κ6 a6 w6 L6 hm W ew b0 n6 c9 a0=>?_) fun a6 w6 b0 n6 c9 a0=>?_)
  ·obtain⟨ok,rfl⟩:=W
   have hj:=(List.getElem?_eq_some_iff.1 hm).1;have d8:x.QO.length≤vC r:=by obtain⟨A,c,rfl,h,_⟩:=Z;exact h
   have cx:=(ew 0 ψ).trans cw;have n7:=ki n6 rfl b0 cx bp [] [] ξ [(41,41,43,.x 64,64)] (mc ⟨rfl,Nat.le_trans (Nat.le_of_lt hj) d8⟩ m0) [] ξ [] ξ;refine ak (bG 2 (fun _=>true) ((273,.one (.i .i64 (.c 0)))::(272,.one (.i .i64 (.ln 64)))::(271,.one (.sl 41 64 43))::(20,.one (.p 5 0))::fx 64 263 ((262,.one (.i .i64 (.ln 41)))::(261,.one (.sl 41 41 43))::(16,.one (.p 3 0))::fx 32 239 (cI 239 3 bN))) [(5,rlC 72),(1,lg)] 6 [] hPt δ n7 fun κ7 a7 w7 n8 p7=>?_);have fm:aG B w7 pb v P cM L6:=n8.gh;have af:=K3 (K3 cc a0) p7.keep;have b5:κ7 0=(pb,0):=(p7.upto 0 ψ).trans cx;have dt:=Z.below (aI _ _ _) (below (K3 (K3 (K3 (K3 y.keep L) p5.keep) a0) p7.keep));rw[←am dt]at dt;refine bL (qE n8 rfl fm (aK.take dt (Nat.le_of_lt hj)) (aI _ _ _) (fun l=>l.flatMap fun s=>[(max m.pos s.pos,1)]) 96 273 41 64 ((272,.one (.i .i64 (.ln 64)))::(271,.one (.sl 41 64 43))::(20,.one (.p 5 0))::fx 64 263 ((262,.one (.i .i64 (.ln 41)))::(261,.one (.sl 41 41 43))::(16,.one (.p 3 0))::fx 32 239 (cI 239 3 bN))) (fun _=>true) δ (by rw[List.length_take,Nat.min_eq_left (Nat.le_of_lt hj)];rfl) (n8.has.re ⟨rfl,rfl,rfl,rfl,rfl,rfl,rfl,rfl,rfl,rfl,rfl,rfl,rfl,trivial⟩) rfl (fun _ x d=>x.Ok∧d=rlS x 0) (rlC 104) rfl
    (fun w g o x C=>⟨_,⟨C.2,rfl⟩,fun k=>C.1⟩) δ (fun i s d κ8 a8 w8 L8 hs W ex dk n9 d3 Y=>?_) fun a8 w8 dk n9 d3 Y=>?_)
   ·obtain⟨gl,rfl⟩:=W
    exact ak (dW (cnt:=2) (k':=8) (F':=fx 96 273 ((272,.one (.i .i64 (.ln 64)))::(271,.one (.sl 41 64 43))::(20,.one (.p 5 0))::fx 64 263 ((262,.one (.i .i64 (.ln 41)))::(261,.one (.sl 41 41 43))::(16,.one (.p 3 0))::fx 32 239 (cI 239 3 bN)))) (M':=[]) (e':=[0]) n9 rfl dk ((ex 0 ψ).trans b5) (bp.trans ((aP _ 96 _).mono fun j hj=>Nat.ble_eq_true_of_le (Nat.le_trans (Nat.le_of_ble_eq_true hj) ψ))) [] [] (fk (K3 (K3 N af) Y) (b6.trans ((aP _ 96 _).mono fun j hj=>Nat.ble_eq_true_of_le (Nat.le_trans (Nat.le_of_ble_eq_true hj) ψ)))) (fun t h=>[(none,.mx (.x 72) (.x 104),1,81)]) [] δ
     m0 (mc rfl m0) m0 fun κ9 a9 w9 ds bo p9=>dA rfl ⟨κ9,_,fun r Z=>(p9.upto r χ).trans (ex r Z),bo.has,p9.agree,p9.keep,ds,ft hs fun p=>by
      show p∈[(max m.pos s.pos,(1:Int))]↔p∈[((if s.pos>m.pos then s.pos else m.pos),(1:Int))]++[];rw[List.append_nil,show(if s.pos>m.pos then s.pos else m.pos)=max m.pos s.pos by omega]⟩)
   have bo:=n9.downR ((20,.one (.p 5 0))::fx 64 263 ((262,.one (.i .i64 (.ln 41)))::(261,.one (.sl 41 41 43))::(16,.one (.p 3 0))::fx 32 239 (cI 239 3 bN))) ⟨rfl,rfl,rfl,rfl,rfl,rfl,rfl,rfl,rfl,rfl,trivial⟩ δ;have bb:=K3 af Y;refine dW (cnt:=2) (k':=6) (F':=(23,.one (.b (.cmp .eql (.x 73) (.c 1))))::(20,.one (.p 5 0))::fx 64 263 ((262,.one (.i .i64 (.ln 41)))::(261,.one (.sl 41 41 43))::(16,.one (.p 3 0))::fx 32 239 (cI 239 3 bN))) (M':=[(5,rlC 72),(1,lg)]) (e':=[0]) bo rfl dk b5 bp [.cmp .eql (.x 73) (.c 1),.cmp .geq (.x 73) (.c 1),.cmp .leq (.x 73) (.c 3),.seq (.x 72) (.c ⟨#[]⟩),.cmp .eql (.x 74) (.c 0)] [] (fk (K3 N bb) b6) (fun t h=>[(some (t.getD 1 false&&t.getD 2 false&&(t.getD 0 false||t.getD 3 false&&t.getD 4 false)),.x 72,0,5)]) [] δ
    m0 (mc rfl m0) m0 fun κ9 a9 w9 ds cy p9=>?_
   exact dW (cnt:=1) (k':=6) (F':=fx 64 263 ((262,.one (.i .i64 (.ln 41)))::(261,.one (.sl 41 41 43))::(16,.one (.p 3 0))::fx 32 239 (cI 239 3 bN))) (M':=[]) (e':=[0]) cy rfl ds ((p9.upto 0 χ).trans b5) bp [.cmp .eql (.x 73) (.c 1)] [(3,.x 72)] (fk (K3 (K3 N bb) p9.keep) b6) (fun t h=>[(some (!t.getD 0 false||h.getD 0 false),.x 72,2,80)]) [] δ
    (mc ⟨ψ,ok.2.2.2⟩ m0) (mc rfl m0) m0 fun fe fi f1 c4 c3 d2=>dA rfl ⟨fe,_,fun r Z=>(d2.upto r χ).trans ((p9.upto r χ).trans ((p7.upto r (by show r<5;omega)).trans (ew r Z))),c3.has,(((p7.agree.trans d3 fun _ h=>h).trans p9.agree fun _ h=>h).trans d2.agree fun _ h=>h),K3 (K3 (K3 p7.keep Y) p9.keep) d2.keep,by rw[←List.append_assoc,←List.append_assoc]at c4;exact c4,fun p=>by
     have e1:say (decide (m.how≥1)&&decide (m.how≤3)&&((m.how==1)||(m.to.toList==(⟨#[]⟩:ByteArray).toList)&&((m.QJ:Int)==0))) m.pos 0++say (!(m.how==1)||has P.QQ m.to) m.pos 2=rY P m:=by rw[ib,nb0,bQ];rfl
     rw[aO hm,mh,←e1];show _↔p∈((say (!(m.how==1)||has P.QQ m.to) m.pos 2++[])++(say (decide (m.how≥1)&&decide (m.how≤3)&&((m.how==1)||(m.to.toList==(⟨#[]⟩:ByteArray).toList)&&((m.QJ:Int)==0))) m.pos 0++[]))++_∨_;simp only[List.mem_append,List.append_nil,or_assoc,or_comm,or_left_comm]⟩
  ·exact dA rfl ⟨κ5,kB P x.QO++x.QA.flatMap (nv P.things),fun r Z=>(p5.upto r (by show r<4;omega)).trans (y.upto r (by show r<3;omega)),n6.has.re ⟨rfl,rfl,rfl,rfl,rfl,trivial⟩,(((y.agree.trans bc fun _ h=>h).trans p5.agree fun _ h=>h).trans c9 fun _ h=>h).defers,(((y.agree.trans bc fun _ h=>h).trans p5.agree fun _ h=>h).trans c9 fun _ h=>h).size,K3 (K3 (K3 y.keep L) p5.keep) a0,by rw[List.append_assoc];exact b0,ft C fun p=>by simp[or_comm]⟩
 have ac:=K3 N ac;have bf:=bf.trans be;clear bo N be;refine lJ cy e5 ψ hS (fun w h=>h.Q8) (aI _ _ _) (fun l=>l.flatMap (oY P)) 334 4 bN (chC 40) δ rfl rfl rfl (fun _ x d=>x.Ok∧d=chZ x 0 0) (fun w g o x C=>⟨_,⟨C.2,rfl⟩,fun k=>C.1⟩) (fun k x d κ' a' w' L1 C W E H O I n=>?_) fun gu f5 go e6 c3 bg an=>?_
 ·obtain⟨ok,rfl⟩:=W
  refine ak (dW (cnt:=2) (k':=4) (F':=(25,.one (.p 3 0))::fx 32 334 (cI 334 4 bN)) (M':=[(3,chC 40),(1,lg)]) (e':=[0]) n rfl I E H [.cmp .geq (.x 41) (.c 1),.cmp .leq (.x 41) (.c 4),.x 40,.seq (.x 43) (.c ⟨#[]⟩),.cmp .eql (.x 41) (.c 1),.cmp .eql (.x 42) (.c 0)] [] (fk (K3 ac O) ad) (fun t h=>[(some (t.getD 0 false&&t.getD 1 false&&(t.getD 2 false||t.getD 3 false)&&(t.getD 4 false||t.getD 5 false)),.x 40,0,5)]) [] δ
   m0 (mc rfl m0) m0 fun κ2 a2 V J U y=>?_)
  exact dW (cnt:=1) (k':=4) (F':=fx 32 334 (cI 334 4 bN)) (M':=[]) (e':=[0]) U rfl J ((y.upto 0 χ).trans E) H [.x 40] [(3,.x 41),(3,.x 42),(2,.x 43)] (fk (K3 (K3 ac O) y.keep) ad) (fun t h=>[(some (h.getD 0 false&&h.getD 1 false&&(!t.getD 0 false||h.getD 2 false)),.x 40,2,80)]) [] δ
   (mc ⟨ψ,ok.2.2.2.2.1⟩ (mc ⟨ψ,ok.2.2.2.2.2.1⟩ (mc ⟨ψ,ok.2.2.2.2.2.2⟩ m0))) (mc rfl m0) m0 fun κ3 a3 w3 Q n3 p3=>dA rfl ⟨κ3,_,fun r Z=>(p3.upto r χ).trans (y.upto r (by show r<3;omega)),n3.has,p3.agree.defers.trans y.agree.defers,p3.agree.size.trans y.agree.size,K3 y.keep p3.keep,by rw[←List.append_assoc]at Q;exact Q,ft C fun p=>BH (by
    show say _ _ _=say (decide (x.how≥1)&&decide (x.how≤4)&&(x.shared||(x.over.toList==(⟨#[]⟩:ByteArray).toList))&&((x.how==1)||((x.QJ:Int)==0))) x.pos 0;rw[nb0,ib,bQ];rfl) rfl p⟩
 have an:=K3 ac an;have bg:=bg.trans bf;clear cy ac bf;refine lJ c3 e6 ψ hS (fun w h=>h.QM) (aI _ _ _) (fun l=>l.flatMap (BR P)) 404 5 bN (irC 40) δ rfl rfl rfl (fun _ x d=>x.Ok∧d=irS x 0) (fun w g o x C=>⟨_,⟨C.2,rfl⟩,fun k=>C.1⟩) (fun k x d κ' a' w' L1 C W E H O I n=>?_) fun gw f6 gr e7 fz bz bd=>?_
 ·obtain⟨ok,rfl⟩:=W
  exact ak (dW (cnt:=2) (k':=4) (F':=fx 32 404 (cI 404 5 bN)) (M':=[]) (e':=[0]) n rfl I E H [] [(1,.x 41),(3,.x 42)] (fk (K3 an O) ad) (fun t h=>[(some (h.getD 0 false&&h.getD 1 false),.x 40,2,80)]) [] δ
   (mc ⟨ψ,ok.2.2.2.1⟩ (mc ⟨ψ,ok.2.2.2.2⟩ m0)) (mc rfl m0) m0 fun κ2 a2 V J U y=>dA rfl ⟨κ2,_,fun r Z=>y.upto r (by show r<3;omega),U.has,y.agree.defers,y.agree.size,y.keep,J,ft C fun p=>by rw[←List.append_nil (BR P x)];rfl⟩)
 have bd:=K3 an bd;have bz:=bz.trans bg;clear c3 an bg;refine lJ fz e7 ψ hS (fun w h=>h.Q9) (eM B) (fun l=>l.flatMap fun x=>fq P x.QL) 431 7 bN (plC 40) δ rfl rfl rfl (fun w x d=>∃u,aK B 4 (jW B) w u x.QL∧d=plS x u false) (fun w g o x ⟨u,h1,h2,_⟩=>⟨_,⟨u,h2,rfl⟩,fun k=>by
  show aM w g o [.int .i64 x.pos,.string x.name,.int .u64 x.QK,.slice (vA u) x.QL.length (vC u)];rw[am h2];exact h1⟩) (fun k x d κ' a' w' L1 C W E H O I n=>?_) fun gx f7 f2 f3 f0 ea bw=>?_
 ·obtain⟨u,hu,rfl⟩:=W
  have n':Now (S.put 32 ((Sta.put {} 8 (plS x u false)).cnt k)) κ' 441 Tryz.prog { EL:=[(7,4,.x 32,7,2)],GM:=[(0,bM)] } (js B pb v P cM [] L1) _ a' w':=ki n rfl I E H [] [] ξ [] ξ [] ξ [] ξ;refine ak (vX (cnt:=2) (k':=4) (L2:=fq P x.QL) n' rfl I E H (fx 32 431 (cI 431 7 bN)) [] 74 [.one (.p 0 0),.one (.sl 40 40 41),.ag lg] #[.pointer (some ⟨pb,0,none⟩),u,.agg (dR z0)] δ (by
   rw[←am hu];simp only[List.map_cons,List.map_nil,SV.den,Cl.den_p,E];rfl) (fun L' w3 hk hL=>?_) (fun κ2 a2 V J U y _=>dA rfl ⟨κ2,_,fun r Z=>y.upto r (by show r<3;omega),U.has,y.agree.defers,y.agree.size,y.keep,J,ft C fun p=>Iff.rfl⟩) (by show 0<3;decide))
  obtain⟨D,r,bt⟩:=(ca.keep (K3 (K3 bd O) hk) (Agr.refl _ _)).Q7;exact yf hL bt es (hu.below (co B) (hk.below (B:=B) (by have:=I.lt;omega) fun i hi e=>by have e:i=pb:=e;omega))
 have bw:=K3 bd bw;have eq:aG B f2 pb v P cM _:=f0.gh;refine dA rfl (eL rfl (ea.trans bz) ⟨rfl,eq.congr fun p=>?_,K3 bl bw⟩);rw[show fh [] []=[] from rfl,List.nil_append,show(fun x:aa=>x.QA.flatMap (nv P.things)++kB P x.QO)=ir P from rfl];simp only[jF,ql,cq,List.flatMap_cons,List.flatMap_nil,List.append_nil,List.getD_cons_zero,List.getD_cons_succ,List.mem_append,or_assoc,or_comm,or_left_comm]
