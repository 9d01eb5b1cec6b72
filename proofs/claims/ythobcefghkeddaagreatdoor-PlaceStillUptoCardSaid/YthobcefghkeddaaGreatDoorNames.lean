import Derived.Test.YthobcefghkeddaaGreatDoorWho
import Derived.Test.YthobcefghkeddaaGreatDoorRowsC
set_option maxRecDepth 100000
set_option linter.all false
set_option maxHeartbeats 4000000
namespace Go.Proofs.YthobcefghkeddaaGreatDoor
section
open Go.RowKit Go.IntWalk Ck
theorem aL.take{α:Type}{B k:Nat}{R:World→Nat→Nat→α→Prop}{w:World}{A:Option Addr}{c:Nat}{xs:List α}(h:aL B k R w (.slice A xs.length c) xs){n:Nat}(C:n≤xs.length):aL B k R w (.slice A (xs.take n).length c) (xs.take n):=by
 obtain⟨_,_,e,u,v,g⟩:=h
 cases e
 have y:(xs.take n).length=n:=by rw[List.length_take];omega
 refine⟨A,c,rfl,χ,χ,fun q=>?_⟩;obtain⟨b,off,e,j,l⟩:=g χ;exact⟨b,off,e,j,fun i x d=>l i x (by rw[List.getElem?_take]at d;split at d;exact d;cases d)⟩
def kK(P:aF)(l:List Ck.lU):List Wr:=cY (fun r s=>[(max r.pos s.pos,1)]) l++l.flatMap (rt P)
theorem nH{P:aF}{l:List Ck.lU}{x:Ck.lU}{p:Wr}:p∈kK P (l++[x])↔p∈kK P l∨p∈l.flatMap (fun s=>[(max x.pos s.pos,1)])∨p∈rt P x:=by
 simp only[kK,List.mem_append,cq,List.flatMap_append,List.flatMap_cons,List.flatMap_nil,List.append_nil,List.mem_flatMap];constructor
 ·rintro((h|h)|(h|h))
  ·exact .inl (.inl h)
  ·exact .inr (.inl h)
  ·exact .inl (.inr h)
  ·exact .inr (.inr h)
 ·rintro((h|h)|(h|h))
  ·exact .inl (.inl h)
  ·exact .inr (.inl h)
  ·exact .inl (.inr h)
  ·exact .inr (.inr h)
def GG(f:List Nm):Prop:=f.length≤4194304∧∀x∈f,aW x.1
theorem CV{B:Nat}{w:World}{v:aY}{P:aF}(h:ax B w v P):∀f∈dC P,GG f:=by
 have l:∀x∈P.Q5,aW x.name:=ck h.Q5 fun b o x d=>by obtain⟨_,_,_,_,_,_,h⟩:=d;exact h
 have q:∀x∈P.Q3,aW x.name:=ck h.Q3 fun b o x d=>d.2.2.2.2.2.1
 have u:∀x∈P.Q4,aW x.name:=ck h.Q4 fun b o x d=>by obtain⟨_,_,_,_,_,_,_,h⟩:=d;exact h
 have C:∀x∈P.Q8,aW x.name:=ck h.Q8 fun b o x d=>d.2.2.2.2.1
 have D:∀x∈P.QL,aW x.name:=ck h.QL fun b o x d=>d.2.2.2.1
 have E:∀x∈P.QB,aW x.name:=ck h.QB fun b o x d=>d.2.2.2.2.1
 have H:∀x∈P.Q9,aW x.name:=ck h.Q9 fun b o x d=>by obtain⟨_,_,_,_,_,h⟩:=d;exact h
 have l1:P.Q5.length≤2097152:=by obtain⟨_,_,_,_,b,_⟩:=h.Q5;exact b
 have l2:P.Q3.length≤2097152:=by obtain⟨_,_,_,_,b,_⟩:=h.Q3;exact b
 have I:P.Q4.length≤2097152:=by obtain⟨_,_,_,_,b,_⟩:=h.Q4;exact b
 have J:P.Q8.length≤2097152:=by obtain⟨_,_,_,_,b,_⟩:=h.Q8;exact b
 have K:P.QL.length≤2097152:=by obtain⟨_,_,_,_,b,_⟩:=h.QL;exact b
 have L:P.QB.length≤2097152:=by obtain⟨_,_,_,_,b,_⟩:=h.QB;exact b
 have N:P.Q9.length≤2097152:=by obtain⟨_,_,_,_,b,_⟩:=h.Q9;exact b
 intro f j;simp only[dC,List.mem_cons,List.mem_nil_iff,or_false]at j
 rcases j with rfl|rfl|rfl|rfl|rfl|rfl|rfl|rfl
 ·refine⟨by simp[aF.things,aF.QY,aF.regs];omega,fun x d=>?_⟩
  simp only[aF.things,aF.QY,aF.regs,List.mem_append,List.mem_map]at d
  rcases d with⟨y,g,rfl⟩|⟨y,g,rfl⟩
  ·exact l y g
  ·exact q y g
 ·exact⟨by simp[aF.QY];omega,fun x d=>by simp only[aF.QY,List.mem_map]at d;obtain⟨y,g,rfl⟩:=d;exact l y g⟩
 ·exact⟨by simp[aF.regs];omega,fun x d=>by simp only[aF.regs,List.mem_map]at d;obtain⟨y,g,rfl⟩:=d;exact q y g⟩
 ·exact⟨by simp[aF.QQ];omega,fun x d=>by simp only[aF.QQ,List.mem_map]at d;obtain⟨y,g,rfl⟩:=d;exact u y g⟩
 ·exact⟨by simp[aF.chans];omega,fun x d=>by simp only[aF.chans,List.mem_map]at d;obtain⟨y,g,rfl⟩:=d;exact C y g⟩
 ·exact⟨by simp[aF.irqn];omega,fun x d=>by simp only[aF.irqn,List.mem_map]at d;obtain⟨y,g,rfl⟩:=d;exact D y g⟩
 ·exact⟨by simp[aF.ques];omega,fun x d=>by simp only[aF.ques,List.mem_map]at d;obtain⟨y,g,rfl⟩:=d;exact E y g⟩
 ·exact⟨by simp[aF.plns];omega,fun x d=>by simp only[aF.plns,List.mem_map]at d;obtain⟨y,g,rfl⟩:=d;exact H y g⟩
def rD(named:ByteArray→Bool)(P:aF)(is:List Nat):List Wr:=is.flatMap fun i=>iO named ((dC P).getD i [])
end
namespace Rs
open Go.RowKit Go.IntWalk Ck
def GB(z zs:Nat):Sta:={ o:=fun j=>(dY z).getD j undef,a:=fun _=>some ⟨zs,0,none⟩,n:=fun _=>6 }
def bN:Fr:=[(0,.one (.p 0 0)),(2,.one (.p 1 0))]
theorem pE{a:Act}{i:Nat}{v:Value}(h:At a i v)(hi:i<a.tmps.size):a.tmps[i]?=some v:=by
 rw[Array.getElem?_eq_getElem hi,h]
theorem rT{w:World}{b k:Nat}{v:Value}(h:w.cell? ⟨b,k,none⟩=some v):aM w b (0+k*1) [v]:=fun j u d=>by
 cases j with
 | zero=>obtain rfl:=Option.some.inj d;simpa using h
 | succ j=>simp at d
theorem DI(P:aF)(z0:Nat){k:Nat}(hk:k<6):∃q,([0,3,4,5,6,7]:List Nat)[k]?=some q∧(bG z0)[q]?=some (z0+q+1)∧(dC P)[q]?=some ((dC P).getD q [])∧([.map (some (z0+1)),.map (some (z0+4)),.map (some (z0+5)),.map (some (z0+6)),.map (some (z0+7)),.map (some (z0+8))]:List Value)[k]?=some (.map (some (z0+q+1))):=by
 match k,hk with
 | 0,_=>exact⟨0,rfl,rfl,rfl,rfl⟩
 | 1,_=>exact⟨3,rfl,rfl,rfl,rfl⟩
 | 2,_=>exact⟨4,rfl,rfl,rfl,rfl⟩
 | 3,_=>exact⟨5,rfl,rfl,rfl,rfl⟩
 | 4,_=>exact⟨6,rfl,rfl,rfl,rfl⟩
 | 5,_=>exact⟨7,rfl,rfl,rfl,rfl⟩
end Rs
open Go.RowKit Go.IntWalk Ck Rs
theorem yF{B:Nat}{w:World}{pb:Nat}{v:aY}{P:aF}{named:ByteArray→Bool}(hN:fX B named)(h:aG B w pb v P cV []):
 Calls Tryz.prog 25 #[.pointer (some ⟨pb,0,none⟩)] w fun e w'=>e=.returned (.tuple #[])∧aG B w' pb v P cV (kN named P)∧aD (fun k=>k=pb) w w':=by
 have gl:=h.lt;have gf:=h.base;have es:=CV h.QT;refine bU Tryz.func25 Tryz.ntmps25 rfl ξ fun a ew eq bx=>am ?_
 have h0:At a 0 (.pointer (some ⟨pb,0,none⟩)):=bx 0 _ rfl;clear bx;refine bO (Code.wp_only (R:=fun a1 w1=>aE (fun i=>i==2||i==30||i==31) a a1∧(∃zb,At a1 2 (.pointer (some ⟨zb,0,none⟩))∧w1.heap[zb]?=some (.cells (dY w.heap.size) 139 (0,0))∧zb≠pb)∧(∃D r,cz (w.heap.size+10) w1 (bG w.heap.size) (dC P) D r)∧Kz w w1) ?_ ?_)
 ·conv=>arg 2;whnf
  have hc:=yT h;unfold dY at hc;have HC:=hh hc;clear hc es;obtain⟨T,d⟩:=a;refine rl ?_;with_reducible refine st ?_;refine Lz (fun K O=>?_)
  go_simp;refine HC.out.mono ?_;rintro e V ⟨rfl,af,D,r,hF⟩;with_reducible refine O _ _ ?_;clear O K
  have HF:=hh hF;have fi:=hh af;have b2:=af.size;clear hF af
  iterate 2 with_reducible refine st ?_
  with_reducible refine ln ?_
  refine⟨rfl,ag,⟨V.heap.size,aq,heap_alloc_new _ _,χ⟩,⟨D,r,HF.out.keep ((aD.refl (fun _=>False) _).alloc _) (fun _ h=>h.elim)⟩,fi.out.alloc _⟩
 rintro a1 w1 ⟨hA,⟨zb,h2,X,fv⟩,⟨D,r,hF⟩,dk⟩;replace h0:=hA.Q7 h0 rfl;have c7:=hA.size.trans ew;have ea:=hA.defers.trans eq;have e2:=aH X;have m0:w1.cell? ⟨zb,0,none⟩=some (.map (some (w.heap.size+1))):=cr X rfl;have m3:w1.cell? ⟨zb,3,none⟩=some (.map (some (w.heap.size+4))):=cr X rfl;have m4:w1.cell? ⟨zb,4,none⟩=some (.map (some (w.heap.size+5))):=cr X rfl;have m5:w1.cell? ⟨zb,5,none⟩=some (.map (some (w.heap.size+6))):=cr X rfl;have m6:w1.cell? ⟨zb,6,none⟩=some (.map (some (w.heap.size+7))):=cr X rfl;have m7:w1.cell? ⟨zb,7,none⟩=some (.map (some (w.heap.size+8))):=cr X rfl;obtain⟨z0,e0⟩:∃z0,z0=w.heap.size:=⟨_,rfl⟩;have d8:=h.new dk;rw[←e0]at X hF m0 m3 m4 m5 m6 m7;have eu:pb<z0:=χ
 have di:aD (fun k=>k=pb) w w1:=dk.mono fun _ _ h=>h.elim
 clear hA h dk e0;refine bO (Code.wp_only (R:=fun a2 V=>aE (fun i=>(rg 32 46 i)) a1 a2∧At a2 44 (.slice (some ⟨w1.heap.size,0,none⟩) 6 6)∧At a2 45 (.int .i64 (6:Nat))∧At a2 46 (.int .i64 0)∧V=w1.alloc (.cells #[.map (some (z0+1)),.map (some (z0+4)),.map (some (z0+5)),.map (some (z0+6)),.map (some (z0+7)),.map (some (z0+8))] 137)) ?_ ?_)
 ·conv=>arg 2;whnf
  clear hN hF X;obtain⟨T,d⟩:=a1;refine rl ?_
  iterate 15 with_reducible refine st ?_
  with_reducible refine ln ?_
  refine⟨rfl,?_,?_,?_,?_,?_⟩
  ·exact ag
  ·exact aq
  ·show At _ 45 (.int .i64 6)
   exact aq
  ·exact aq
  ·rfl
 rintro a2 V ⟨bs,d2,fd,fc,cv⟩;obtain⟨zs,d1⟩:∃zs,zs=w1.heap.size:=⟨_,rfl⟩;rw[←d1]at d2;have af:Kz w1 V:=by rw[cv];exact(aD.refl _ _).alloc _
 have ez:aM V zs 0 [.map (some (z0+1)),.map (some (z0+4)),.map (some (z0+5)),.map (some (z0+6)),.map (some (z0+7)),.map (some (z0+8))]:=by rw[cv,d1];exact aw _ _ _
 have c8:zs<V.heap.size:=by rw[cv,d1];simp
 have c9:zs≠pb:=by have:=di.size;omega
 have cf:=d8.new af;have b4:=(af.block zb e2 id).trans X;have b2:=bs.size.trans c7;have ed:=bs.defers.trans ea;have bl:=di.trans af fun _ _ e=>e.elim
 replace h0:=bs.Q7 h0 rfl;replace h2:=bs.Q7 h2 rfl
 let S:=(cU v P).put 24 (GB z0 zs)
 let κ:Kap:=fun r=>match r with|0=>(pb,0)|_=>(zb,0)
 have hS:Agr (lo 24) (cU v P) S:=aS _ _ _;have cb:z7 B pb z0 P S V:=⟨⟨D,r,hF.keep af fun _ e _=>e.elim⟩,eu,fun j hj=>by
  match j,hj with
  | 0,_|1,_|2,_|3,_|4,_|5,_|6,_|7,_=>rfl⟩
 have n0:Now S κ 441 Tryz.prog {} (kC B pb v P cV [] []) ⟨(46,.one (.i .i64 (.c 0)))::(45,.one (.i .i64 (.ln 24)))::(44,.one (.sl 24 24 24))::bN,[(1,mL)],2,[]⟩ a2 V:=
  ⟨gv (gv (gv (gv (gv ⟨b2,fun t u h=>by cases h⟩ (pE h2 χ)) (pE h0 χ)) (pE d2 χ)) (pE fd χ)) (pE fc χ),
   ⟨fun r l I=>by
    rw[cL]at I;split at I
    ·rename_i e;subst e;obtain rfl:=Option.some.inj I
     refine⟨⟨aH b4,fv⟩,fun j c hj=>?_⟩;show V.cell? ⟨zb,0+j,none⟩=_;rw[cell_of_row _ _ _ _ _ _ b4];have:mL.map (Cl.den S κ)=(dY z0).toList:=rfl;rw[←Array.getElem?_toList,←this,List.getElem?_map,Nat.zero_add,hj];rfl
    ·cases I⟩,Rs.noC _ _ _ _ _,fun g hg=>by obtain rfl:g=pb:=hg;exact cf.lt,cf⟩
 clear bs d2 fd fc cv af d8 X b4 m0 m3 m4 m5 m6 m7 h0 h2 hF di ew c7 b2 eq ea;refine bO (pn n0 6 32 46 24 ((45,.one (.i .i64 (.ln 24)))::(44,.one (.sl 24 24 24))::bN) (fun _=>true) (fun _:Unit=>{}) (fun k _ w=>aG B w pb v P cV (rD named P (([0,3,4,5,6,7]:List Nat).take k))) (fun _ _ _ _ hk h=>h.new hk) () hPt δ rfl ψ cf (n0.has.re ⟨rfl,rfl,rfl,rfl,rfl,trivial⟩) ?_ ?_)
 ·intro k e a3 w3 hk n1 hA O
  have I:aG B w3 pb v P cV _:=n1.gh;have cc:aD (fun k=>k=pb) V w3:=O;have fs:=ez.keep cc c8 c9;obtain⟨D,r,bt⟩:=(cb.keep cc (Agr.refl _ _)).Q7;obtain⟨q,hq,cu⟩:=DI P z0 hk;obtain⟨κ',hu,U⟩:=n1.elem (j:=24) (z:=1) (x:={ o:=fun _ =>.map (some (z0+q+1)) }) (cl:=[.v 40]) (vs:=[.map (some (z0+q+1))]) rfl ⟨Nat.lt_of_lt_of_le c8 cc.size,c9⟩ hk (rT (by have:=fs k _ cu.2.2;rwa[Nat.zero_add]at this)) rfl δ;have c6:=es _ (List.mem_of_getElem? cu.2.1);have n3:=lC U rfl I (hu 0 ψ) (Ew _ _ _) [iO named ((dC P).getD q [])] [] ξ [] ξ [(69,[.one (.p 0 0),.one (.v 40)],.tu [])]
   (uj (args := #[.pointer (some ⟨pb,0,none⟩),.map (some (z0+q+1))]) (by simp only[List.map_cons,List.map_nil,SV.den,Cl.den_p,hu 0 (by decide:0<2)];rfl) fun L' w' hk hL =>
    xJ hN hL (bt.keep hk fun k e _=>by subst e;exact⟨χ,by simp[bG];omega⟩) q (z0+q+1) _ cu.1 cu.2.1 ⟨χ,by simp[bG];omega⟩ c6.1 c6.2) [] ξ
  exact am (bQ 2 (fun _=>true) (fx 32 46 ((45,.one (.i .i64 (.ln 24)))::(44,.one (.sl 24 24 24))::bN)) [] 3 [0] hPt δ n3 fun κ4 a4 w4 n4 p4=>ch rfl
   ⟨(),κ4,aG.congr n4.gh fun p=>by rw[aP hq];simp[gG,rD,or_comm],fun r Z=>(p4.upto r (by show r<3;omega)).trans (hu r Z),n4.has.on (rX _ 32 _ _ _).symm δ,hA.trans p4.agree (fun _ h=>h),K3 cc p4.keep⟩)
 intro e a3 w3 n1 hA O;have I:aG B w3 pb v P cV (rD named P [0,3,4,5,6,7]):=n1.gh;have U:=lC (EL:=[]) (n1.downR bN ⟨rfl,rfl,trivial⟩ δ) rfl I rfl hS [] [] ξ [] ξ [] ξ [] ξ;have ee:=hA.defers.trans ed;have L:aD (fun k=>k=pb) V w3:=O;clear n0 n1 cf hA ed O ez;have pick:∀{κ:Kap} {w3:World} (u:Value) (xs:List Ck.iE) (i:Nat),aD (fun k=>k=pb) V w3→i<8→(∀w,ax B w v P→aL B 2 fP w u xs)→∀L' w',aD (fun k=>k=pb) w3 w'→aG B w' pb v P cV L'→Calls Tryz.prog 70 #[.pointer (some ⟨pb,0,none⟩),u,.map (some (z0+i+1))] w' fun e fe=>e=.returned (.tuple #[])∧aG B fe pb v P cV (gN xs ((dC P).getD i [])++L')∧aD (fun k=>k=pb) w' fe:=fun{κ w3} u xs i hk hi hu L' w' fm hL=>by
  obtain⟨D,r,bt⟩:=(cb.keep (K3 hk fm) (Agr.refl _ _)).Q7;obtain⟨q1,q2⟩:(bG z0)[i]?=some (z0+i+1)∧(dC P)[i]?=some ((dC P).getD i []):=by
   match i,hi with
   | 0,_|1,_|2,_|3,_|4,_|5,_|6,_|7,_=>exact⟨rfl,rfl⟩
  exact xt hL bt i (z0+i+1) _ q1 q2 ⟨χ,by simp[bG];omega⟩ (hu w' hL.QT)
 refine wS (cnt:=1) (k':=2) U rfl I rfl hS bN [(1,mL)] 70 [.one (.p 0 0),.one (.sl 9 9 21),.one (.v 31)] #[.pointer (some ⟨pb,0,none⟩),v.QH,.map (some (z0+7+1))] δ (by
  rw[←au I.QT.QH];rfl) (pick (κ:=κ) v.QH P.QH 7 L ψ fun w h=>h.QH) (fun κ4 a4 w4 bm n4 p4 e9=>?_) ψ
 have d7:=K3 L p4.keep;have eg:=p4.agree.defers.trans ee;refine wS (cnt:=1) (k':=2) n4 rfl bm e9 hS bN [(1,mL)] 70 [.one (.p 0 0),.one (.sl 8 8 20),.one (.v 27)] #[.pointer (some ⟨pb,0,none⟩),v.QD,.map (some (z0+3+1))] δ (by
  rw[←au I.QT.QD];simp only[List.map_cons,List.map_nil,SV.den,Cl.den_p,e9];rfl) (pick (κ:=κ) v.QD P.QD 3 d7 ψ fun w h=>h.QD) (fun κ5 a5 w5 cs n5 p5 cx=>?_) ψ
 have cd:=K3 d7 p5.keep;have en:=p5.agree.defers.trans eg;refine wS (cnt:=1) (k':=2) n5 rfl cs cx hS bN [(1,mL)] 70 [.one (.p 0 0),.one (.sl 10 10 22),.one (.v 27)] #[.pointer (some ⟨pb,0,none⟩),v.QC,.map (some (z0+3+1))] δ (by
  rw[←au I.QT.QC];simp only[List.map_cons,List.map_nil,SV.den,Cl.den_p,cx];rfl) (pick (κ:=κ) v.QC P.QC 3 cd ψ fun w h=>h.QC) (fun κ6 a6 w6 b0 n6 p6 cy=>?_) ψ
 have an:=K3 cd p6.keep;have eo:=p6.agree.defers.trans en;clear U n4 n5 p4 p5 p6 I bm cs ee eg en;have fk:∀{hs:List (Nat×SS)} {w':World} {S':Sta},aD (fun k=>k=pb) V w'→Agr (lo 32) S S'→hs.isEmpty=true∨z7 B pb z0 P S' w':=fun hk hA =>.inr (cb.keep hk hA)
 have ac:∀{d:Sta},Agr (lo 32) S (S.put 32 d):=aS _ _ _;refine lW n6 cy ψ hS (fun w h=>h.QG) (aJ _ _ _) (fun l=>l.flatMap (Ci P)) 87 11 bN (baC 40) δ rfl rfl rfl (fun _ x d=>x.Ok∧d=baS x 0) (fun w g o x C=>⟨_,⟨C.2,rfl⟩,fun k=>C.1⟩) (fun k x d κ' a' w' L1 C W E H O I n=>?_) fun κ7 a7 w7 b5 n7 cj ad=>?_
 ·obtain⟨ok,rfl⟩:=W
  exact am (dg (cnt:=2) (k':=4) (F':=fx 32 87 (cS 87 11 bN)) (M':=[]) (e':=[0]) n rfl I E H [] [(3,.x 40),(1,.x 40),(3,.x 41)] (fk (K3 an O) ac) (fun t h=>[(some ((h.getD 0 false||h.getD 1 false)&&h.getD 2 false),.x 40,2,80)]) [] δ
   (mc ⟨ψ,ok.2.1⟩ (mc ⟨ψ,ok.2.1⟩ (mc ⟨ψ,ok.2.2⟩ m0))) (mc rfl m0) m0 fun κ2 a2 V J U y=>ch rfl ⟨κ2,_,fun r Z=>y.upto r χ,U.has,y.agree.defers,y.agree.size,y.keep,J,ft C fun p=>by rw[←List.append_nil (Ci P x)];rfl⟩)
 have ad:=K3 an ad;have cj:=cj.trans eo;clear n6 an eo b0;refine lW n7 b5 ψ hS (fun w h=>h.QB) (aJ _ _ _) (fun l=>l.flatMap (uX P)) 121 6 bN (quC 40) δ rfl rfl rfl (fun _ x d=>x.Ok∧d=quS x 0 0) (fun w g o x C=>⟨_,⟨C.2,rfl⟩,fun k=>C.1⟩) (fun k x d κ' a' w' L1 C W E H O I n=>?_) fun κ8 a8 w8 fy n8 cm Y=>?_
 ·obtain⟨ok,rfl⟩:=W
  refine am (dg (cnt:=2) (k':=4) (F':=(8,.one (.p 3 0))::fx 32 121 (cS 121 6 bN)) (M':=[(3,quC 40),(1,mL)]) (e':=[0]) n rfl I E H [.cmp .geq (.x 41) (.c 1),.cmp .leq (.x 41) (.c 3),.cmp .neq (.x 41) (.c 3),.cmp .eql (.x 42) (.c 0)] [] (fk (K3 ad O) ac) (fun t h=>[(some (t.getD 0 false&&t.getD 1 false&&(t.getD 2 false||t.getD 3 false)),.x 40,0,5)]) [] δ
   m0 (mc rfl m0) m0 fun κ2 a2 V J U y=>?_)
  exact dg (cnt:=1) (k':=4) (F':=fx 32 121 (cS 121 6 bN)) (M':=[]) (e':=[0]) U rfl J ((y.upto 0 χ).trans E) H [] [(3,.x 41),(3,.x 42)] (fk (K3 (K3 ad O) y.keep) ac) (fun t h=>[(some (h.getD 0 false&&h.getD 1 false),.x 40,2,80)]) [] δ
   (mc ⟨ψ,ok.2.2.2.2.1⟩ (mc ⟨ψ,ok.2.2.2.2.2⟩ m0)) (mc rfl m0) m0 fun κ3 a3 w3 Q n3 p3=>ch rfl ⟨κ3,_,fun r Z=>(p3.upto r χ).trans (y.upto r χ),n3.has,p3.agree.defers.trans y.agree.defers,p3.agree.size.trans y.agree.size,K3 y.keep p3.keep,by rw[←List.append_assoc]at Q;exact Q,ft C fun p=>C9 (by
    show say _ _ _=say (decide (x.how≥1)&&decide (x.how≤3)&&((x.how !=3)||((x.depth:Int)==0))) x.pos 0;rw[nb0,ibn]) rfl p⟩
 have Y:=K3 ad Y;have cm:=cm.trans cj;clear n7 ad cj;have b1:∀{x:Ck.Map},x.Ok→aW x.of:=fun h=>h.2.2
 refine lW n8 fy ψ hS (fun w h=>h.Q5) (eP B) (fun l=>l.flatMap fun x=>x.QA.flatMap (oQ P.regs)) 170 1 bN (B8 40) δ rfl rfl rfl (fun w x d=>∃u,aL B 5 dO w u x.QA∧d=Dz x u) (fun w g o x ⟨u,h1,h2,_⟩=>⟨_,⟨u,h2,rfl⟩,fun k=>by
  show aM w g o [.int .i64 x.pos,.string x.name,.int .u64 x.Q7,.int .u64 x.size,.slice (vA u) x.QA.length (vC u)];rw[au h2];exact h1⟩) (fun k x d κ' a' w' L1 C W E H O I n=>?_) fun κ9 a9 w9 fz n9 cp a0=>?_
 ·obtain⟨u,hu,rfl⟩:=W
  refine am (bQ 2 (fun _=>true) ((177,.one (.i .i64 (.c 0)))::(176,.one (.i .i64 (.ln 40)))::(175,.one (.sl 40 40 41))::fx 32 170 (cS 170 1 bN)) [(1,mL)] 4 [] hPt δ n fun κ2 a2 V U y=>?_);have J:aG B V pb v P cV L1:=U.gh;have bl:=K3 O y.keep;have cw:κ2 0=(pb,0):=(y.upto 0 ψ).trans E;refine bO (qY U rfl J (hu.below (aJ _ _ _) (y.keep.below (B:=B) (by have:=I.lt;omega) fun i hi e=>by have e:i=pb:=e;omega)) (aJ _ _ _) (fun l=>l.flatMap (oQ P.regs)) 64 177 40 40 ((176,.one (.i .i64 (.ln 40)))::(175,.one (.sl 40 40 41))::fx 32 170 (cS 170 1 bN)) (fun _=>true) δ rfl (U.has.re ⟨rfl,rfl,rfl,rfl,rfl,rfl,rfl,rfl,trivial⟩) rfl (fun _ x d=>x.Ok∧d=Ec x) (Ed 72) rfl
   (fun w g o x C=>⟨_,⟨C.2,rfl⟩,fun k=>C.1⟩) δ (fun j m d κ3 a3 w3 L3 hm W b3 Q n3 bb L=>?_) fun a3 w3 Q n3 bb L=>?_)
  ·obtain⟨ok,rfl⟩:=W
   exact am (dg (cnt:=2) (k':=6) (F':=fx 64 177 ((176,.one (.i .i64 (.ln 40)))::(175,.one (.sl 40 40 41))::fx 32 170 (cS 170 1 bN))) (M':=[]) (e':=[0]) n3 rfl Q ((b3 0 ψ).trans cw) (H.trans ((aS _ 64 _).mono fun j hj=>Nat.ble_eq_true_of_le (Nat.le_trans (Nat.le_of_ble_eq_true hj) ψ))) [] [(2,.x 72)] (fk (K3 (K3 Y bl) L) (ac.trans ((aS _ 64 _).mono fun j hj=>Nat.ble_eq_true_of_le (Nat.le_trans (Nat.le_of_ble_eq_true hj) ψ)))) (fun t h=>[(some (h.getD 0 false),.x 72,2,80)]) [] δ
    (mc ⟨ψ,b1 ok⟩ m0) (mc rfl m0) m0 fun κ4 a4 w4 bm n4 p4=>ch rfl ⟨κ4,_,fun r Z=>(p4.upto r χ).trans (b3 r Z),n4.has,p4.agree,p4.keep,bm,ft hm fun p=>by rw[←List.append_nil (oQ P.regs m)];rfl⟩)
  ·exact ch rfl ⟨κ2,_,fun r Z=>y.upto r (by show r<3;omega),n3.has.re ⟨rfl,rfl,rfl,rfl,rfl,trivial⟩,(y.agree.trans bb fun _ h=>h).defers,(y.agree.trans bb fun _ h=>h).size,K3 y.keep L,Q,ft C fun p=>Iff.rfl⟩
 have a0:=K3 Y a0;have cp:=cp.trans cm;clear n8 Y cm;have bp:∀{d e:Sta},Agr (lo 24) (cU v P) ((S.put 32 d).put 64 e):=fun{d e}=>(Ew _ _ _).trans ((aS _ 64 _).mono fun j hj=>Nat.ble_eq_true_of_le (Nat.le_trans (Nat.le_of_ble_eq_true hj) ψ))
 have ca:∀{d e:Sta},Agr (lo 32) S ((S.put 32 d).put 64 e):=fun{d e}=>ac.trans ((aS _ 64 _).mono fun j hj=>Nat.ble_eq_true_of_le (Nat.le_trans (Nat.le_of_ble_eq_true hj) ψ))
 refine lW n9 fz ψ hS (fun w h=>h.Q3) (aJ _ _ _) (fun l=>l.flatMap nN) 198 2 bN (pY 40) δ rfl rfl rfl (fun _ x d=>x.Ok∧d=lj x) (fun w g o x C=>⟨_,⟨C.2,rfl⟩,fun k=>C.1⟩) (fun k x d κ' a' w' L1 C W E H O I n=>?_) fun ff fl f2 e5 bo bd N=>?_
 ·obtain⟨ok,rfl⟩:=W
  exact am (dg (cnt:=2) (k':=4) (F':=fx 32 198 (cS 198 2 bN)) (M':=[]) (e':=[0]) n rfl I E H [.x 40,.cmp .eql (.x 42) (.c 0),.x 43,.seq (.x 41) (.c ⟨#[]⟩),.cmp .eql (.x 43) (.c 0)] [] (fk (K3 a0 O) ac) (fun t h=>[(some ((t.getD 0 false||t.getD 1 false)&&(t.getD 2 false||t.getD 3 false)&&(!t.getD 2 false||t.getD 4 false)),.x 40,0,5)]) [] δ
   m0 (mc rfl m0) m0 fun κ2 a2 V J U y=>ch rfl ⟨κ2,_,fun r Z=>y.upto r (by show r<3;omega),U.has,y.agree.defers,y.agree.size,y.keep,J,ft C fun p=>by
    show p∈nN x↔p∈say ((x.fixed||((x.Q7:Int)==0))&&(x.QP||(x.text.toList==(⟨#[]⟩:ByteArray).toList))&&(!x.QP||((x.fill:Int)==0))) x.pos 0++[];rw[nb0,nb0,ba,List.append_nil];rfl⟩)
 have N:=K3 a0 N;have bd:=bd.trans cp;clear n9 a0 cp;refine lW bo e5 ψ hS (fun w h=>h.Q4) (dH B) (fun l=>l.flatMap fun x=>x.QA.flatMap (oQ P.things)++kK P x.QO) 239 3 bN (pU 40) δ rfl rfl rfl (fun w x d=>∃u r,aL B 5 dO w u x.QA∧aL B 4 kY w r x.QO∧d=Bh x u r) (fun w g o x ⟨u,r,h1,h2,h3,_⟩=>⟨_,⟨u,r,h2,h3,rfl⟩,fun k=>by
  show aM w g o [.int .i64 x.pos,.string x.name,.int .u64 x.QN,.bool x.stopped,.slice (vA u) x.QA.length (vC u),.slice (vA r) x.QO.length (vC r)];rw[au h2,au h3];exact h1⟩) (fun k x d κ' a' w' L1 C W E H O I n=>?_) fun gu f5 go e6 c3 be aa=>?_
 ·obtain⟨u,r,hu,Z,rfl⟩:=W
  have below:∀{w1},aD (fun k=>k=pb) w' w1→Below B w' w1:=fun hk=>hk.below (B:=B) (by have:=I.lt;omega) fun i hi e=>by have e:i=pb:=e;omega
  refine am (bQ 2 (fun _=>true) ((246,.one (.i .i64 (.c 0)))::(245,.one (.i .i64 (.ln 40)))::(244,.one (.sl 40 40 42))::(16,.one (.p 3 0))::fx 32 239 (cS 239 3 bN)) [(3,pU 40),(1,mL)] 4 [] hPt δ n fun κ2 a2 V U y=>?_);have J:aG B V pb v P cV L1:=U.gh;have bl:=K3 O y.keep;have cw:κ2 0=(pb,0):=(y.upto 0 ψ).trans E;refine bO (qY U rfl J (hu.below (aJ _ _ _) (below y.keep)) (aJ _ _ _) (fun l=>l.flatMap (oQ P.things)) 64 246 40 40 ((245,.one (.i .i64 (.ln 40)))::(244,.one (.sl 40 40 42))::(16,.one (.p 3 0))::fx 32 239 (cS 239 3 bN)) (fun _=>true) δ rfl (U.has.re ⟨rfl,rfl,rfl,rfl,rfl,rfl,rfl,rfl,rfl,trivial⟩) rfl (fun _ x d=>x.Ok∧d=Ec x) (Ed 72) rfl
   (fun w g o x C=>⟨_,⟨C.2,rfl⟩,fun k=>C.1⟩) δ (fun j m d κ3 a3 w3 L3 hm W b3 Q n3 bb L=>?_) fun a3 w3 Q n3 bb L=>?_)
  ·obtain⟨ok,rfl⟩:=W
   exact am (dg (cnt:=2) (k':=6) (F':=fx 64 246 ((245,.one (.i .i64 (.ln 40)))::(244,.one (.sl 40 40 42))::(16,.one (.p 3 0))::fx 32 239 (cS 239 3 bN))) (M':=[]) (e':=[0]) n3 rfl Q ((b3 0 ψ).trans cw) bp [] [(0,.x 72)] (fk (K3 (K3 N bl) L) ca) (fun t h=>[(some (h.getD 0 false),.x 72,2,80)]) [] δ
    (mc ⟨ψ,b1 ok⟩ m0) (mc rfl m0) m0 fun κ4 a4 w4 bm n4 p4=>ch rfl ⟨κ4,_,fun r Z=>(p4.upto r χ).trans (b3 r Z),n4.has,p4.agree,p4.keep,bm,ft hm fun p=>by rw[←List.append_nil (oQ P.things m)];rfl⟩)
  have n4:=n3.downR ((16,.one (.p 3 0))::fx 32 239 (cS 239 3 bN)) ⟨rfl,rfl,rfl,rfl,rfl,rfl,trivial⟩ δ;refine bQ 1 (fun _=>true) ((263,.one (.i .i64 (.c 0)))::(262,.one (.i .i64 (.ln 41)))::(261,.one (.sl 41 41 43))::(16,.one (.p 3 0))::fx 32 239 (cS 239 3 bN)) [(3,pU 40),(1,mL)] 4 [] hPt δ n4 fun κ5 a5 w5 n5 p5=>?_
  have cs:aG B w5 pb v P cV (x.QA.flatMap (oQ P.things)++L1):=n5.gh;have cd:=K3 (K3 bl L) p5.keep;have cx:κ5 0=(pb,0):=(p5.upto 0 ψ).trans cw;have fr:=Z.below (aJ _ _ _) (below (K3 (K3 y.keep L) p5.keep));refine bO (qY n5 rfl cs fr (aJ _ _ _) (kK P) 64 263 41 41 ((262,.one (.i .i64 (.ln 41)))::(261,.one (.sl 41 41 43))::(16,.one (.p 3 0))::fx 32 239 (cS 239 3 bN)) (fun _=>true) δ rfl (n5.has.re ⟨rfl,rfl,rfl,rfl,rfl,rfl,rfl,rfl,rfl,trivial⟩) rfl (fun _ x d=>x.Ok∧d=rlS x 0) (rlC 72) rfl
   (fun w g o x C=>⟨_,⟨C.2,rfl⟩,fun k=>C.1⟩) δ (fun j m d κ6 a6 w6 L6 hm W ex b0 n6 dc an=>?_) fun a6 w6 b0 n6 dc an=>?_)
  ·obtain⟨ok,rfl⟩:=W
   have hj:=(List.getElem?_eq_some_iff.1 hm).1;have d9:x.QO.length≤vC r:=by obtain⟨A,c,rfl,h,_⟩:=Z;exact h
   have cy:=(ex 0 ψ).trans cx;have n7:=lC n6 rfl b0 cy bp [] [] ξ [(41,41,43,.x 64,64)] (mc ⟨rfl,Nat.le_trans (Nat.le_of_lt hj) d9⟩ m0) [] ξ [] ξ;refine am (bQ 2 (fun _=>true) ((273,.one (.i .i64 (.c 0)))::(272,.one (.i .i64 (.ln 64)))::(271,.one (.sl 41 64 43))::(20,.one (.p 5 0))::fx 64 263 ((262,.one (.i .i64 (.ln 41)))::(261,.one (.sl 41 41 43))::(16,.one (.p 3 0))::fx 32 239 (cS 239 3 bN))) [(5,rlC 72),(1,mL)] 6 [] hPt δ n7 fun κ7 a7 w7 n8 p7=>?_);have fp:aG B w7 pb v P cV L6:=n8.gh;have ad:=K3 (K3 cd an) p7.keep;have b5:κ7 0=(pb,0):=(p7.upto 0 ψ).trans cy;have d0:=Z.below (aJ _ _ _) (below (K3 (K3 (K3 (K3 y.keep L) p5.keep) an) p7.keep));rw[←au d0]at d0;refine bO (qY n8 rfl fp (aL.take d0 (Nat.le_of_lt hj)) (aJ _ _ _) (fun l=>l.flatMap fun s=>[(max m.pos s.pos,1)]) 96 273 41 64 ((272,.one (.i .i64 (.ln 64)))::(271,.one (.sl 41 64 43))::(20,.one (.p 5 0))::fx 64 263 ((262,.one (.i .i64 (.ln 41)))::(261,.one (.sl 41 41 43))::(16,.one (.p 3 0))::fx 32 239 (cS 239 3 bN))) (fun _=>true) δ (by rw[List.length_take,Nat.min_eq_left (Nat.le_of_lt hj)];rfl) (n8.has.re ⟨rfl,rfl,rfl,rfl,rfl,rfl,rfl,rfl,rfl,rfl,rfl,rfl,rfl,trivial⟩) rfl (fun _ x d=>x.Ok∧d=rlS x 0) (rlC 104) rfl
    (fun w g o x C=>⟨_,⟨C.2,rfl⟩,fun k=>C.1⟩) δ (fun i s d κ8 a8 w8 L8 hs W ey ds n9 d4 Y=>?_) fun a8 w8 ds n9 d4 Y=>?_)
   ·obtain⟨gn,rfl⟩:=W
    exact am (dg (cnt:=2) (k':=8) (F':=fx 96 273 ((272,.one (.i .i64 (.ln 64)))::(271,.one (.sl 41 64 43))::(20,.one (.p 5 0))::fx 64 263 ((262,.one (.i .i64 (.ln 41)))::(261,.one (.sl 41 41 43))::(16,.one (.p 3 0))::fx 32 239 (cS 239 3 bN)))) (M':=[]) (e':=[0]) n9 rfl ds ((ey 0 ψ).trans b5) (bp.trans ((aS _ 96 _).mono fun j hj=>Nat.ble_eq_true_of_le (Nat.le_trans (Nat.le_of_ble_eq_true hj) ψ))) [] [] (fk (K3 (K3 N ad) Y) (ca.trans ((aS _ 96 _).mono fun j hj=>Nat.ble_eq_true_of_le (Nat.le_trans (Nat.le_of_ble_eq_true hj) ψ)))) (fun t h=>[(none,.mx (.x 72) (.x 104),1,81)]) [] δ
     m0 (mc rfl m0) m0 fun κ9 a9 w9 dt bo p9=>ch rfl ⟨κ9,_,fun r Z=>(p9.upto r χ).trans (ey r Z),bo.has,p9.agree,p9.keep,dt,ft hs fun p=>by
      show p∈[(max m.pos s.pos,(1:Int))]↔p∈[((if s.pos>m.pos then s.pos else m.pos),(1:Int))]++[];rw[List.append_nil,show(if s.pos>m.pos then s.pos else m.pos)=max m.pos s.pos by omega]⟩)
   have bo:=n9.downR ((20,.one (.p 5 0))::fx 64 263 ((262,.one (.i .i64 (.ln 41)))::(261,.one (.sl 41 41 43))::(16,.one (.p 3 0))::fx 32 239 (cS 239 3 bN))) ⟨rfl,rfl,rfl,rfl,rfl,rfl,rfl,rfl,rfl,rfl,trivial⟩ δ;have a0:=K3 ad Y;refine dg (cnt:=2) (k':=6) (F':=(23,.one (.b (.cmp .eql (.x 73) (.c 1))))::(20,.one (.p 5 0))::fx 64 263 ((262,.one (.i .i64 (.ln 41)))::(261,.one (.sl 41 41 43))::(16,.one (.p 3 0))::fx 32 239 (cS 239 3 bN))) (M':=[(5,rlC 72),(1,mL)]) (e':=[0]) bo rfl ds b5 bp [.cmp .eql (.x 73) (.c 1),.cmp .geq (.x 73) (.c 1),.cmp .leq (.x 73) (.c 3),.seq (.x 72) (.c ⟨#[]⟩),.cmp .eql (.x 74) (.c 0)] [] (fk (K3 N a0) ca) (fun t h=>[(some (t.getD 1 false&&t.getD 2 false&&(t.getD 0 false||t.getD 3 false&&t.getD 4 false)),.x 72,0,5)]) [] δ
    m0 (mc rfl m0) m0 fun κ9 a9 w9 dt c3 p9=>?_
   exact dg (cnt:=1) (k':=6) (F':=fx 64 263 ((262,.one (.i .i64 (.ln 41)))::(261,.one (.sl 41 41 43))::(16,.one (.p 3 0))::fx 32 239 (cS 239 3 bN))) (M':=[]) (e':=[0]) c3 rfl dt ((p9.upto 0 χ).trans b5) bp [.cmp .eql (.x 73) (.c 1)] [(3,.x 72)] (fk (K3 (K3 N a0) p9.keep) ca) (fun t h=>[(some (!t.getD 0 false||h.getD 0 false),.x 72,2,80)]) [] δ
    (mc ⟨ψ,ok.2.2.2⟩ m0) (mc rfl m0) m0 fun ff fl f2 c5 c4 d3=>ch rfl ⟨ff,_,fun r Z=>(d3.upto r χ).trans ((p9.upto r χ).trans ((p7.upto r (by show r<5;omega)).trans (ex r Z))),c4.has,(((p7.agree.trans d4 fun _ h=>h).trans p9.agree fun _ h=>h).trans d3.agree fun _ h=>h),K3 (K3 (K3 p7.keep Y) p9.keep) d3.keep,by rw[←List.append_assoc,←List.append_assoc]at c5;exact c5,fun p=>by
     have e1:say (decide (m.how≥1)&&decide (m.how≤3)&&((m.how==1)||(m.to.toList==(⟨#[]⟩:ByteArray).toList)&&((m.QK:Int)==0))) m.pos 0++say (!(m.how==1)||has P.QQ m.to) m.pos 2=rt P m:=by rw[ib,nb0,ba];rfl
     rw[aP hm,nH,←e1];show _↔p∈((say (!(m.how==1)||has P.QQ m.to) m.pos 2++[])++(say (decide (m.how≥1)&&decide (m.how≤3)&&((m.how==1)||(m.to.toList==(⟨#[]⟩:ByteArray).toList)&&((m.QK:Int)==0))) m.pos 0++[]))++_∨_;simp only[List.mem_append,List.append_nil,or_assoc,or_comm,or_left_comm]⟩
  ·exact ch rfl ⟨κ5,kK P x.QO++x.QA.flatMap (oQ P.things),fun r Z=>(p5.upto r (by show r<4;omega)).trans (y.upto r (by show r<3;omega)),n6.has.re ⟨rfl,rfl,rfl,rfl,rfl,trivial⟩,(((y.agree.trans bb fun _ h=>h).trans p5.agree fun _ h=>h).trans dc fun _ h=>h).defers,(((y.agree.trans bb fun _ h=>h).trans p5.agree fun _ h=>h).trans dc fun _ h=>h).size,K3 (K3 (K3 y.keep L) p5.keep) an,by rw[List.append_assoc];exact b0,ft C fun p=>by simp[or_comm]⟩
 have aa:=K3 N aa;have be:=be.trans bd;clear bo N bd;refine lW c3 e6 ψ hS (fun w h=>h.Q8) (aJ _ _ _) (fun l=>l.flatMap (ox P)) 334 4 bN (chC 40) δ rfl rfl rfl (fun _ x d=>x.Ok∧d=chZ x 0 0) (fun w g o x C=>⟨_,⟨C.2,rfl⟩,fun k=>C.1⟩) (fun k x d κ' a' w' L1 C W E H O I n=>?_) fun gw f6 gr e7 c4 bf al=>?_
 ·obtain⟨ok,rfl⟩:=W
  refine am (dg (cnt:=2) (k':=4) (F':=(25,.one (.p 3 0))::fx 32 334 (cS 334 4 bN)) (M':=[(3,chC 40),(1,mL)]) (e':=[0]) n rfl I E H [.cmp .geq (.x 41) (.c 1),.cmp .leq (.x 41) (.c 4),.x 40,.seq (.x 43) (.c ⟨#[]⟩),.cmp .eql (.x 41) (.c 1),.cmp .eql (.x 42) (.c 0)] [] (fk (K3 aa O) ac) (fun t h=>[(some (t.getD 0 false&&t.getD 1 false&&(t.getD 2 false||t.getD 3 false)&&(t.getD 4 false||t.getD 5 false)),.x 40,0,5)]) [] δ
   m0 (mc rfl m0) m0 fun κ2 a2 V J U y=>?_)
  exact dg (cnt:=1) (k':=4) (F':=fx 32 334 (cS 334 4 bN)) (M':=[]) (e':=[0]) U rfl J ((y.upto 0 χ).trans E) H [.x 40] [(3,.x 41),(3,.x 42),(2,.x 43)] (fk (K3 (K3 aa O) y.keep) ac) (fun t h=>[(some (h.getD 0 false&&h.getD 1 false&&(!t.getD 0 false||h.getD 2 false)),.x 40,2,80)]) [] δ
   (mc ⟨ψ,ok.2.2.2.2.1⟩ (mc ⟨ψ,ok.2.2.2.2.2.1⟩ (mc ⟨ψ,ok.2.2.2.2.2.2⟩ m0))) (mc rfl m0) m0 fun κ3 a3 w3 Q n3 p3=>ch rfl ⟨κ3,_,fun r Z=>(p3.upto r χ).trans (y.upto r (by show r<3;omega)),n3.has,p3.agree.defers.trans y.agree.defers,p3.agree.size.trans y.agree.size,K3 y.keep p3.keep,by rw[←List.append_assoc]at Q;exact Q,ft C fun p=>C9 (by
    show say _ _ _=say (decide (x.how≥1)&&decide (x.how≤4)&&(x.shared||(x.over.toList==(⟨#[]⟩:ByteArray).toList))&&((x.how==1)||((x.QK:Int)==0))) x.pos 0;rw[nb0,ib,ba];rfl) rfl p⟩
 have al:=K3 aa al;have bf:=bf.trans be;clear c3 aa be;refine lW c4 e7 ψ hS (fun w h=>h.QL) (aJ _ _ _) (fun l=>l.flatMap (CM P)) 404 5 bN (irC 40) δ rfl rfl rfl (fun _ x d=>x.Ok∧d=irS x 0) (fun w g o x C=>⟨_,⟨C.2,rfl⟩,fun k=>C.1⟩) (fun k x d κ' a' w' L1 C W E H O I n=>?_) fun gx f7 gs e8 f0 bz bc=>?_
 ·obtain⟨ok,rfl⟩:=W
  exact am (dg (cnt:=2) (k':=4) (F':=fx 32 404 (cS 404 5 bN)) (M':=[]) (e':=[0]) n rfl I E H [] [(1,.x 41),(3,.x 42)] (fk (K3 al O) ac) (fun t h=>[(some (h.getD 0 false&&h.getD 1 false),.x 40,2,80)]) [] δ
   (mc ⟨ψ,ok.2.2.2.1⟩ (mc ⟨ψ,ok.2.2.2.2⟩ m0)) (mc rfl m0) m0 fun κ2 a2 V J U y=>ch rfl ⟨κ2,_,fun r Z=>y.upto r (by show r<3;omega),U.has,y.agree.defers,y.agree.size,y.keep,J,ft C fun p=>by rw[←List.append_nil (CM P x)];rfl⟩)
 have bc:=K3 al bc;have bz:=bz.trans bf;clear c4 al bf;refine lW f0 e8 ψ hS (fun w h=>h.Q9) (ef B) (fun l=>l.flatMap fun x=>gK P x.QM) 431 7 bN (plC 40) δ rfl rfl rfl (fun w x d=>∃u,aL B 4 (gY B) w u x.QM∧d=plS x u false) (fun w g o x ⟨u,h1,h2,_⟩=>⟨_,⟨u,h2,rfl⟩,fun k=>by
  show aM w g o [.int .i64 x.pos,.string x.name,.int .u64 x.QJ,.slice (vA u) x.QM.length (vC u)];rw[au h2];exact h1⟩) (fun k x d κ' a' w' L1 C W E H O I n=>?_) fun gy f9 f3 f4 f1 eb bw=>?_
 ·obtain⟨u,hu,rfl⟩:=W
  have n':Now (S.put 32 ((Sta.put {} 8 (plS x u false)).cnt k)) κ' 441 Tryz.prog { EL:=[(7,4,.x 32,7,2)],GM:=[(0,av)] } (kC B pb v P cV [] L1) _ a' w':=lC n rfl I E H [] [] ξ [] ξ [] ξ [] ξ;refine am (wS (cnt:=2) (k':=4) (L2:=gK P x.QM) n' rfl I E H (fx 32 431 (cS 431 7 bN)) [] 74 [.one (.p 0 0),.one (.sl 40 40 41),.ag mL] #[.pointer (some ⟨pb,0,none⟩),u,.agg (dY z0)] δ (by
   rw[←au hu];simp only[List.map_cons,List.map_nil,SV.den,Cl.den_p,E];rfl) (fun L' w3 hk hL=>?_) (fun κ2 a2 V J U y _=>ch rfl ⟨κ2,_,fun r Z=>y.upto r (by show r<3;omega),U.has,y.agree.defers,y.agree.size,y.keep,J,ft C fun p=>Iff.rfl⟩) (by show 0<3;decide))
  obtain⟨D,r,bt⟩:=(cb.keep (K3 (K3 bc O) hk) (Agr.refl _ _)).Q7;exact zZ hL bt eu (hu.below (dB B) (hk.below (B:=B) (by have:=I.lt;omega) fun i hi e=>by have e:i=pb:=e;omega))
 have bw:=K3 bc bw;have er:aG B f3 pb v P cV _:=f1.gh;refine ch rfl (ec rfl (eb.trans bz) ⟨rfl,er.congr fun p=>?_,K3 bl bw⟩);rw[show gG [] []=[] from rfl,List.nil_append,show(fun x:aZ=>x.QA.flatMap (oQ P.things)++kK P x.QO)=jH P from rfl];simp only[kN,rD,dC,List.flatMap_cons,List.flatMap_nil,List.append_nil,List.getD_cons_zero,List.getD_cons_succ,List.mem_append,or_assoc,or_comm,or_left_comm]
