import Derived.Test.YtpblcjipmoblnaaGreatDoorGreat
import Derived.Test.YtpblcjipmoblnaaGreatDoorOfD
set_option maxRecDepth 100000
set_option linter.all false
set_option maxHeartbeats 4000000
namespace Go.Proofs.YtpblcjipmoblnaaGreatDoor
open Go.RowKit Go.IntWalk Ck
theorem aJ.take{α:Type}{B k:Nat}{R:World→Nat→Nat→α→Prop}{w:World}{A:Option Addr}{c:Nat}{xs:List α}(h:aJ B k R w (.slice A xs.length c) xs){n:Nat}(u:n≤xs.length):aJ B k R w (.slice A (xs.take n).length c) (xs.take n):=by
 obtain⟨_,_,e,p,q,d⟩:=h
 cases e
 have r:(xs.take n).length=n:=by rw[List.length_take];omega
 refine⟨A,c,rfl,χ,χ,fun l=>?_⟩;obtain⟨b,off,e,g,j⟩:=d χ;exact⟨b,off,e,g,fun i x hx=>j i x (by rw[List.getElem?_take]at hx;split at hx;exact hx;cases hx)⟩
def kZ(P:aC)(l:List Ck.jq):List Wr:=dA (fun r s=>[(max r.pos s.pos,1)]) l++l.flatMap (rU P)
theorem mg{P:aC}{l:List Ck.jq}{x:Ck.jq}{p:Wr}:p∈kZ P (l++[x])↔p∈kZ P l∨p∈l.flatMap (fun s=>[(max x.pos s.pos,1)])∨p∈rU P x:=by
 simp only[kZ,List.mem_append,dE,List.flatMap_append,List.flatMap_cons,List.flatMap_nil,List.append_nil,List.mem_flatMap];constructor
 ·rintro((h|h)|(h|h))
  ·exact .inl (.inl h)
  ·exact .inr (.inl h)
  ·exact .inl (.inr h)
  ·exact .inr (.inr h)
 ·rintro((h|h)|(h|h))
  ·exact .inl (.inl h)
  ·exact .inr (.inl h)
  ·exact .inl (.inr h)
  ·exact .inr (.inr h)
def D3(f:List Nm):Prop:=f.length≤4194304∧∀x∈f,aX x.1
theorem An{B:Nat}{w:World}{v:aR}{P:aC}(h:ao B w v P):∀f∈dN P,D3 f:=by
 have j:∀x∈P.Q4,aX x.name:=bg h.Q4 fun b o x hx=>by obtain⟨_,_,_,_,_,_,h⟩:=hx;exact h
 have l:∀x∈P.Q5,aX x.name:=bg h.Q5 fun b o x hx=>hx.2.2.2.2.2.1
 have p:∀x∈P.Q3,aX x.name:=bg h.Q3 fun b o x hx=>by obtain⟨_,_,_,_,_,_,_,h⟩:=hx;exact h
 have q:∀x∈P.Q8,aX x.name:=bg h.Q8 fun b o x hx=>hx.2.2.2.2.1
 have r:∀x∈P.QJ,aX x.name:=bg h.QJ fun b o x hx=>hx.2.2.2.1
 have u:∀x∈P.QC,aX x.name:=bg h.QC fun b o x hx=>hx.2.2.2.2.1
 have A:∀x∈P.Q9,aX x.name:=bg h.Q9 fun b o x hx=>by obtain⟨_,_,_,_,_,h⟩:=hx;exact h
 have C:P.Q4.length≤2097152:=by obtain⟨_,_,_,_,b,_⟩:=h.Q4;exact b
 have D:P.Q5.length≤2097152:=by obtain⟨_,_,_,_,b,_⟩:=h.Q5;exact b
 have E:P.Q3.length≤2097152:=by obtain⟨_,_,_,_,b,_⟩:=h.Q3;exact b
 have H:P.Q8.length≤2097152:=by obtain⟨_,_,_,_,b,_⟩:=h.Q8;exact b
 have I:P.QJ.length≤2097152:=by obtain⟨_,_,_,_,b,_⟩:=h.QJ;exact b
 have J:P.QC.length≤2097152:=by obtain⟨_,_,_,_,b,_⟩:=h.QC;exact b
 have K:P.Q9.length≤2097152:=by obtain⟨_,_,_,_,b,_⟩:=h.Q9;exact b
 intro f g;simp only[dN,List.mem_cons,List.mem_nil_iff,or_false]at g
 rcases g with rfl|rfl|rfl|rfl|rfl|rfl|rfl|rfl
 ·refine⟨by simp[aC.things,aC.QW,aC.regs];omega,fun x hx=>?_⟩
  simp only[aC.things,aC.QW,aC.regs,List.mem_append,List.mem_map]at hx
  rcases hx with⟨y,d,rfl⟩|⟨y,d,rfl⟩
  ·exact j y d
  ·exact l y d
 ·exact⟨by simp[aC.QW];omega,fun x hx=>by simp only[aC.QW,List.mem_map]at hx;obtain⟨y,d,rfl⟩:=hx;exact j y d⟩
 ·exact⟨by simp[aC.regs];omega,fun x hx=>by simp only[aC.regs,List.mem_map]at hx;obtain⟨y,d,rfl⟩:=hx;exact l y d⟩
 ·exact⟨by simp[aC.QS];omega,fun x hx=>by simp only[aC.QS,List.mem_map]at hx;obtain⟨y,d,rfl⟩:=hx;exact p y d⟩
 ·exact⟨by simp[aC.chans];omega,fun x hx=>by simp only[aC.chans,List.mem_map]at hx;obtain⟨y,d,rfl⟩:=hx;exact q y d⟩
 ·exact⟨by simp[aC.irqn];omega,fun x hx=>by simp only[aC.irqn,List.mem_map]at hx;obtain⟨y,d,rfl⟩:=hx;exact r y d⟩
 ·exact⟨by simp[aC.QX];omega,fun x hx=>by simp only[aC.QX,List.mem_map]at hx;obtain⟨y,d,rfl⟩:=hx;exact u y d⟩
 ·exact⟨by simp[aC.plns];omega,fun x hx=>by simp only[aC.plns,List.mem_map]at hx;obtain⟨y,d,rfl⟩:=hx;exact A y d⟩
def qb(named:ByteArray→Bool)(P:aC)(is:List Nat):List Wr:=is.flatMap fun i=>once named ((dN P).getD i [])
end Go.Proofs.YtpblcjipmoblnaaGreatDoor
namespace Go.Proofs.YtpblcjipmoblnaaGreatDoor.Rs
open Go.RowKit Go.IntWalk Go.Proofs.YtpblcjipmoblnaaGreatDoor Ck
def Cz(z zs:Nat):Sta:={ o:=fun j=>(dm z).getD j undef,a:=fun _=>some ⟨zs,0,none⟩,n:=fun _=>6 }
def bN:Fr:=[(0,.one (.p 0 0)),(2,.one (.p 1 0))]
theorem ol{a:Act}{i:Nat}{v:Value}(h:At a i v)(d:i<a.tmps.size):a.tmps[i]?=some v:=by
 rw[Array.getElem?_eq_getElem d,h]
theorem fHq{w:World}{b k:Nat}{v:Value}(h:w.cell? ⟨b,k,none⟩=some v):aL w b (0+k*1) [v]:=fun j u d=>by
 cases j with
 | zero=>obtain rfl:=Option.some.inj d;simpa using h
 | succ j=>simp at d
theorem Bb(P:aC)(z0:Nat){k:Nat}(hk:k<6):∃q,([0,3,4,5,6,7]:List Nat)[k]?=some q∧(bP z0)[q]?=some (z0+q+1)∧(dN P)[q]?=some ((dN P).getD q [])∧([.map (some (z0+1)),.map (some (z0+4)),.map (some (z0+5)),.map (some (z0+6)),.map (some (z0+7)),.map (some (z0+8))]:List Value)[k]?=some (.map (some (z0+q+1))):=by
 match k,hk with
 | 0,_=>exact⟨0,rfl,rfl,rfl,rfl⟩
 | 1,_=>exact⟨3,rfl,rfl,rfl,rfl⟩
 | 2,_=>exact⟨4,rfl,rfl,rfl,rfl⟩
 | 3,_=>exact⟨5,rfl,rfl,rfl,rfl⟩
 | 4,_=>exact⟨6,rfl,rfl,rfl,rfl⟩
 | 5,_=>exact⟨7,rfl,rfl,rfl,rfl⟩
end Go.Proofs.YtpblcjipmoblnaaGreatDoor.Rs
namespace Go.Proofs.YtpblcjipmoblnaaGreatDoor
open Go.RowKit Go.IntWalk Ck Rs
theorem wN{B:Nat}{w:World}{C:Nat}{v:aR}{P:aC}{named:ByteArray→Bool}(hN:gG B named)(h:aE B w C v P cq []):
 Calls Tryz.prog 49 #[.pointer (some ⟨C,0,none⟩)] w fun e w'=>e=.returned (.tuple #[])∧aE B w' C v P cq (jU named P)∧aD (fun k=>k=C) w w':=by
 have f9:=h.lt;have f8:=h.base;have eq:=An h.QP;refine b9 Tryz.func49 Tryz.ntmps49 rfl ξ fun a es eo b1=>aK ?_
 have h0:At a 0 (.pointer (some ⟨C,0,none⟩)):=b1 0 _ rfl;clear b1;refine aM (Code.wp_only (R:=fun a1 w1=>aA (fun i=>i==2||i==30||i==31) a a1∧(∃zb,At a1 2 (.pointer (some ⟨zb,0,none⟩))∧w1.heap[zb]?=some (.cells (dm w.heap.size) 137 (0,0))∧zb≠C)∧(∃D r,dI (w.heap.size+10) w1 (bP w.heap.size) (dN P) D r)∧Kz w w1) ?_ ?_)
 ·conv=>arg 2;whnf
  have hc:=wV h;unfold dm at hc;have HC:=hh hc;clear hc eq;obtain⟨T,d⟩:=a;refine rl ?_;with_reducible refine st ?_;refine Lz (fun K O=>?_)
  go_simp;refine HC.out.mono ?_;rintro e V ⟨rfl,a0,D,r,hF⟩;with_reducible refine O _ _ ?_;clear O K
  have HF:=hh hF;have fe:=hh a0;have b5:=a0.size;clear hF a0
  iterate 2 with_reducible refine st ?_
  with_reducible refine ln ?_
  refine⟨rfl,ag,⟨V.heap.size,aq,heap_alloc_new _ _,χ⟩,⟨D,r,HF.out.keep ((aD.refl (fun _=>False) _).alloc _) (fun _ h=>h.elim)⟩,fe.out.alloc _⟩
 rintro a1 w1 ⟨hA,⟨zb,h2,X,fs⟩,⟨D,r,hF⟩,d0⟩;replace h0:=hA.Q7 h0 rfl;have c9:=hA.size.trans es;have eb:=hA.defers.trans eo;have ez:=aG X;have m0:w1.cell? ⟨zb,0,none⟩=some (.map (some (w.heap.size+1))):=cr X rfl;have m3:w1.cell? ⟨zb,3,none⟩=some (.map (some (w.heap.size+4))):=cr X rfl;have m4:w1.cell? ⟨zb,4,none⟩=some (.map (some (w.heap.size+5))):=cr X rfl;have m5:w1.cell? ⟨zb,5,none⟩=some (.map (some (w.heap.size+6))):=cr X rfl;have m6:w1.cell? ⟨zb,6,none⟩=some (.map (some (w.heap.size+7))):=cr X rfl;have m7:w1.cell? ⟨zb,7,none⟩=some (.map (some (w.heap.size+8))):=cr X rfl;obtain⟨z0,ey⟩:∃z0,z0=w.heap.size:=⟨_,rfl⟩;have d9:=h.new d0;rw[←ey]at X hF m0 m3 m4 m5 m6 m7;have er:C<z0:=χ
 have dt:aD (fun k=>k=C) w w1:=d0.mono fun _ _ h=>h.elim
 clear hA h d0 ey;refine aM (Code.wp_only (R:=fun a2 V=>aA (fun i=>(rg 32 46 i)) a1 a2∧At a2 44 (.slice (some ⟨w1.heap.size,0,none⟩) 6 6)∧At a2 45 (.int .i64 (6:Nat))∧At a2 46 (.int .i64 0)∧V=w1.alloc (.cells #[.map (some (z0+1)),.map (some (z0+4)),.map (some (z0+5)),.map (some (z0+6)),.map (some (z0+7)),.map (some (z0+8))] 135)) ?_ ?_)
 ·conv=>arg 2;whnf
  clear hN hF X;obtain⟨T,d⟩:=a1;refine rl ?_
  iterate 15 with_reducible refine st ?_
  with_reducible refine ln ?_
  refine⟨rfl,?_,?_,?_,?_,?_⟩
  ·exact ag
  ·exact aq
  ·show At _ 45 (.int .i64 6)
   exact aq
  ·exact aq
  ·rfl
 rintro a2 V ⟨bx,d5,e9,e8,c1⟩;obtain⟨zs,d4⟩:∃zs,zs=w1.heap.size:=⟨_,rfl⟩;rw[←d4]at d5;have a0:Kz w1 V:=by rw[c1];exact(aD.refl _ _).alloc _
 have ex:aL V zs 0 [.map (some (z0+1)),.map (some (z0+4)),.map (some (z0+5)),.map (some (z0+6)),.map (some (z0+7)),.map (some (z0+8))]:=by rw[c1,d4];exact b8 _ _ _
 have di:zs<V.heap.size:=by rw[c1,d4];simp
 have dk:zs≠C:=by have:=dt.size;omega
 have cs:=d9.new a0;have cc:=(a0.block zb ez id).trans X;have b5:=bx.size.trans c9;have ee:=bx.defers.trans eb;have bo:=dt.trans a0 fun _ _ e=>e.elim
 replace h0:=bx.Q7 h0 rfl;replace h2:=bx.Q7 h2 rfl
 let S:=(cA v P).put 24 (Cz z0 zs)
 let κ:Kap:=fun r=>match r with|0=>(C,0)|_=>(zb,0)
 have hS:Agr (lo 24) (cA v P) S:=aQ _ _ _;have ci:xP B C z0 P S V:=⟨⟨D,r,hF.keep a0 fun _ e _=>e.elim⟩,er,fun j hj=>by
  match j,hj with
  | 0,_|1,_|2,_|3,_|4,_|5,_|6,_|7,_=>rfl⟩
 have n0:Now S κ 441 Tryz.prog {} (kQ B C v P cq [] []) ⟨(46,.one (.i .i64 (.c 0)))::(45,.one (.i .i64 (.ln 24)))::(44,.one (.sl 24 24 24))::bN,[(1,lz)],2,[]⟩ a2 V:=
  ⟨gP (gP (gP (gP (gP ⟨b5,fun t u h=>by cases h⟩ (ol h2 χ)) (ol h0 χ)) (ol d5 χ)) (ol e9 χ)) (ol e8 χ),
   ⟨fun r l I=>by
    rw[fN]at I;split at I
    ·rename_i e;subst e;obtain rfl:=Option.some.inj I
     refine⟨⟨aG cc,fs⟩,fun j c hj=>?_⟩;show V.cell? ⟨zb,0+j,none⟩=_;rw[cell_of_row _ _ _ _ _ _ cc];have:lz.map (Cl.den S κ)=(dm z0).toList:=rfl;rw[←Array.getElem?_toList,←this,List.getElem?_map,Nat.zero_add,hj];rfl
    ·cases I⟩,Rs.noC _ _ _ _ _,fun g hg=>by obtain rfl:g=C:=hg;exact cs.lt,cs⟩
 clear bx d5 e9 e8 c1 a0 d9 X cc m0 m3 m4 m5 m6 m7 h0 h2 hF dt es c9 b5 eo eb;refine aM (Ag n0 6 32 46 24 ((45,.one (.i .i64 (.ln 24)))::(44,.one (.sl 24 24 24))::bN) (fun _=>true) (fun _:Unit=>{}) (fun k _ w=>aE B w C v P cq (qb named P (([0,3,4,5,6,7]:List Nat).take k))) (fun _ _ _ _ hk h=>h.new hk) () hPt δ rfl ψ cs (n0.has.re ⟨rfl,rfl,rfl,rfl,rfl,trivial⟩) ?_ ?_)
 ·intro k e a3 w3 hk n1 hA O
  have I:aE B w3 C v P cq _:=n1.gh;have cm:aD (fun k=>k=C) V w3:=O;have fr:=ex.keep cm di dk;obtain⟨D,r,bz⟩:=(ci.keep cm (Agr.refl _ _)).Q7;obtain⟨q,hq,cy⟩:=Bb P z0 hk;obtain⟨κ',hu,U⟩:=n1.elem (j:=24) (z:=1) (x:={ o:=fun _ =>.map (some (z0+q+1)) }) (cl:=[.v 40]) (vs:=[.map (some (z0+q+1))]) rfl ⟨Nat.lt_of_lt_of_le di cm.size,dk⟩ hk (fHq (by have:=fr k _ cy.2.2;rwa[Nat.zero_add]at this)) rfl δ;have c8:=eq _ (List.mem_of_getElem? cy.2.1);have n3:=lF U rfl I (hu 0 ψ) (mj _ _ _) [once named ((dN P).getD q [])] [] ξ [] ξ [(71,[.one (.p 0 0),.one (.v 40)],.tu [])]
   (tX (args := #[.pointer (some ⟨C,0,none⟩),.map (some (z0+q+1))]) (by simp only[List.map_cons,List.map_nil,SV.den,Cl.den_p,hu 0 (by decide:0<2)];rfl) fun L' w' hk hL =>
    vW hN hL (bz.keep hk fun k e _=>by subst e;exact⟨χ,by simp[bP];omega⟩) q (z0+q+1) _ cy.1 cy.2.1 ⟨χ,by simp[bP];omega⟩ c8.1 c8.2) [] ξ
  exact aK (am 2 (fun _=>true) (fx 32 46 ((45,.one (.i .i64 (.ln 24)))::(44,.one (.sl 24 24 24))::bN)) [] 3 [0] hPt δ n3 fun κ4 a4 w4 n4 p4=>cI rfl
   ⟨(),κ4,aE.congr n4.gh fun p=>by rw[aP hq];simp[gV,qb,or_comm],fun r Z=>(p4.upto r (by show r<3;omega)).trans (hu r Z),n4.has.on (cG _ 32 _ _ _).symm δ,hA.trans p4.agree (fun _ h=>h),K3 cm p4.keep⟩)
 intro e a3 w3 n1 hA O;have I:aE B w3 C v P cq (qb named P [0,3,4,5,6,7]):=n1.gh;have U:=lF (EL:=[]) (n1.downR bN ⟨rfl,rfl,trivial⟩ δ) rfl I rfl hS [] [] ξ [] ξ [] ξ [] ξ;have ef:=hA.defers.trans ee;have L:aD (fun k=>k=C) V w3:=O;clear n0 n1 cs hA ee O ex;have pick:∀{κ:Kap} {w3:World} (u:Value) (xs:List Ck.fY) (i:Nat),aD (fun k=>k=C) V w3→i<8→(∀w,ao B w v P→aJ B 2 cN w u xs)→∀L' w',aD (fun k=>k=C) w3 w'→aE B w' C v P cq L'→Calls Tryz.prog 72 #[.pointer (some ⟨C,0,none⟩),u,.map (some (z0+i+1))] w' fun e fc=>e=.returned (.tuple #[])∧aE B fc C v P cq (gb xs ((dN P).getD i [])++L')∧aD (fun k=>k=C) w' fc:=fun{κ w3} u xs i hk hi hu L' w' fl hL=>by
  obtain⟨D,r,bz⟩:=(ci.keep (K3 hk fl) (Agr.refl _ _)).Q7;obtain⟨q1,q2⟩:(bP z0)[i]?=some (z0+i+1)∧(dN P)[i]?=some ((dN P).getD i []):=by
   match i,hi with
   | 0,_|1,_|2,_|3,_|4,_|5,_|6,_|7,_=>exact⟨rfl,rfl⟩
  exact wH hL bz i (z0+i+1) _ q1 q2 ⟨χ,by simp[bP];omega⟩ (hu w' hL.QP)
 refine uu (cnt:=1) (k':=2) U rfl I rfl hS bN [(1,lz)] 72 [.one (.p 0 0),.one (.sl 9 9 21),.one (.v 31)] #[.pointer (some ⟨C,0,none⟩),v.QE,.map (some (z0+7+1))] δ (by
  rw[←aU I.QP.QE];rfl) (pick (κ:=κ) v.QE P.QE 7 L ψ fun w h=>h.QE) (fun κ4 a4 w4 bp n4 p4 e7=>?_) ψ
 have d8:=K3 L p4.keep;have eg:=p4.agree.defers.trans ef;refine uu (cnt:=1) (k':=2) n4 rfl bp e7 hS bN [(1,lz)] 72 [.one (.p 0 0),.one (.sl 8 8 20),.one (.v 27)] #[.pointer (some ⟨C,0,none⟩),v.QB,.map (some (z0+3+1))] δ (by
  rw[←aU I.QP.QB];simp only[List.map_cons,List.map_nil,SV.den,Cl.den_p,e7];rfl) (pick (κ:=κ) v.QB P.QB 3 d8 ψ fun w h=>h.QB) (fun κ5 a5 w5 cx n5 p5 c3=>?_) ψ
 have cp:=K3 d8 p5.keep;have em:=p5.agree.defers.trans eg;refine uu (cnt:=1) (k':=2) n5 rfl cx c3 hS bN [(1,lz)] 72 [.one (.p 0 0),.one (.sl 10 10 22),.one (.v 27)] #[.pointer (some ⟨C,0,none⟩),v.QA,.map (some (z0+3+1))] δ (by
  rw[←aU I.QP.QA];simp only[List.map_cons,List.map_nil,SV.den,Cl.den_p,c3];rfl) (pick (κ:=κ) v.QA P.QA 3 cp ψ fun w h=>h.QA) (fun κ6 a6 w6 b3 n6 p6 c4=>?_) ψ
 have bb:=K3 cp p6.keep;have en:=p6.agree.defers.trans em;clear U n4 n5 p4 p5 p6 I bp cx ef eg em;have fk:∀{hs:List (Nat×SS)} {w':World} {S':Sta},aD (fun k=>k=C) V w'→Agr (lo 32) S S'→hs.isEmpty=true∨xP B C z0 P S' w':=fun hk hA =>.inr (ci.keep hk hA)
 have ad:∀{d:Sta},Agr (lo 32) S (S.put 32 d):=aQ _ _ _;refine lQ n6 c4 ψ hS (fun w h=>h.QD) (aF _ _ _) (fun l=>l.flatMap (BH P)) 87 11 bN (baC 40) δ rfl rfl rfl (fun _ x d=>x.Ok∧d=baS x 0) (fun w g o x hx=>⟨_,⟨hx.2,rfl⟩,fun k=>hx.1⟩) (fun k x d κ' a' w' L1 hx W E H O I n=>?_) fun κ7 a7 w7 cd n7 cu af=>?_
 ·obtain⟨ok,rfl⟩:=W
  exact aK (dq (cnt:=2) (k':=4) (F':=fx 32 87 (ck 87 11 bN)) (M':=[]) (e':=[0]) n rfl I E H [] [(3,.x 40),(1,.x 40),(3,.x 41)] (fk (K3 bb O) ad) (fun t h=>[(some ((h.getD 0 false||h.getD 1 false)&&h.getD 2 false),.x 40,2,80)]) [] δ
   (mc ⟨ψ,ok.2.1⟩ (mc ⟨ψ,ok.2.1⟩ (mc ⟨ψ,ok.2.2⟩ m0))) (mc rfl m0) m0 fun κ2 a2 V J U y=>cI rfl ⟨κ2,_,fun r Z=>y.upto r χ,U.has,y.agree.defers,y.agree.size,y.keep,J,ft hx fun p=>by rw[←List.append_nil (BH P x)];rfl⟩)
 have af:=K3 bb af;have cu:=cu.trans en;clear n6 bb en b3;refine lQ n7 cd ψ hS (fun w h=>h.QC) (aF _ _ _) (fun l=>l.flatMap (tK P)) 121 6 bN (quC 40) δ rfl rfl rfl (fun _ x d=>x.Ok∧d=quS x 0 0) (fun w g o x hx=>⟨_,⟨hx.2,rfl⟩,fun k=>hx.1⟩) (fun k x d κ' a' w' L1 hx W E H O I n=>?_) fun κ8 a8 w8 fv n8 cv Y=>?_
 ·obtain⟨ok,rfl⟩:=W
  refine aK (dq (cnt:=2) (k':=4) (F':=(8,.one (.p 3 0))::fx 32 121 (ck 121 6 bN)) (M':=[(3,quC 40),(1,lz)]) (e':=[0]) n rfl I E H [.cmp .geq (.x 41) (.c 1),.cmp .leq (.x 41) (.c 3),.cmp .neq (.x 41) (.c 3),.cmp .eql (.x 42) (.c 0)] [] (fk (K3 af O) ad) (fun t h=>[(some (t.getD 0 false&&t.getD 1 false&&(t.getD 2 false||t.getD 3 false)),.x 40,0,5)]) [] δ
   m0 (mc rfl m0) m0 fun κ2 a2 V J U y=>?_)
  exact dq (cnt:=1) (k':=4) (F':=fx 32 121 (ck 121 6 bN)) (M':=[]) (e':=[0]) U rfl J ((y.upto 0 χ).trans E) H [] [(3,.x 41),(3,.x 42)] (fk (K3 (K3 af O) y.keep) ad) (fun t h=>[(some (h.getD 0 false&&h.getD 1 false),.x 40,2,80)]) [] δ
   (mc ⟨ψ,ok.2.2.2.2.1⟩ (mc ⟨ψ,ok.2.2.2.2.2⟩ m0)) (mc rfl m0) m0 fun κ3 a3 w3 Q n3 p3=>cI rfl ⟨κ3,_,fun r Z=>(p3.upto r χ).trans (y.upto r χ),n3.has,p3.agree.defers.trans y.agree.defers,p3.agree.size.trans y.agree.size,K3 y.keep p3.keep,by rw[←List.append_assoc]at Q;exact Q,ft hx fun p=>AT (by
    show say _ _ _=say (decide (x.how≥1)&&decide (x.how≤3)&&((x.how !=3)||((x.depth:Int)==0))) x.pos 0;rw[nb0,ibn]) rfl p⟩
 have Y:=K3 af Y;have cv:=cv.trans cu;clear n7 af cu;have b4:∀{x:Ck.Map},x.Ok→aX x.of:=fun h=>h.2.2
 refine lQ n8 fv ψ hS (fun w h=>h.Q4) (bh B) (fun l=>l.flatMap fun x=>x.QF.flatMap (o9 P.regs)) 170 1 bN (kJ 40) δ rfl rfl rfl (fun w x d=>∃u,aJ B 5 cU w u x.QF∧d=oV x u) (fun w g o x ⟨u,h1,h2,_⟩=>⟨_,⟨u,h2,rfl⟩,fun k=>by
  show aL w g o [.int .i64 x.pos,.string x.name,.int .u64 x.Q7,.int .u64 x.size,.slice (vA u) x.QF.length (vC u)];rw[aU h2];exact h1⟩) (fun k x d κ' a' w' L1 hx W E H O I n=>?_) fun κ9 a9 w9 fy n9 cw bc=>?_
 ·obtain⟨u,hu,rfl⟩:=W
  refine aK (am 2 (fun _=>true) ((177,.one (.i .i64 (.c 0)))::(176,.one (.i .i64 (.ln 40)))::(175,.one (.sl 40 40 41))::fx 32 170 (ck 170 1 bN)) [(1,lz)] 4 [] hPt δ n fun κ2 a2 V U y=>?_);have J:aE B V C v P cq L1:=U.gh;have bo:=K3 O y.keep;have c2:κ2 0=(C,0):=(y.upto 0 ψ).trans E;refine aM (qB U rfl J (hu.below (aF _ _ _) (y.keep.below (B:=B) (by have:=I.lt;omega) fun i hi e=>by have e:i=C:=e;omega)) (aF _ _ _) (fun l=>l.flatMap (o9 P.regs)) 64 177 40 40 ((176,.one (.i .i64 (.ln 40)))::(175,.one (.sl 40 40 41))::fx 32 170 (ck 170 1 bN)) (fun _=>true) δ rfl (U.has.re ⟨rfl,rfl,rfl,rfl,rfl,rfl,rfl,rfl,trivial⟩) rfl (fun _ x d=>x.Ok∧d=yf x) (kc 72) rfl
   (fun w g o x hx=>⟨_,⟨hx.2,rfl⟩,fun k=>hx.1⟩) δ (fun j m d κ3 a3 w3 L3 hm W cb Q n3 bd L=>?_) fun a3 w3 Q n3 bd L=>?_)
  ·obtain⟨ok,rfl⟩:=W
   exact aK (dq (cnt:=2) (k':=6) (F':=fx 64 177 ((176,.one (.i .i64 (.ln 40)))::(175,.one (.sl 40 40 41))::fx 32 170 (ck 170 1 bN))) (M':=[]) (e':=[0]) n3 rfl Q ((cb 0 ψ).trans c2) (H.trans ((aQ _ 64 _).mono fun j hj=>Nat.ble_eq_true_of_le (Nat.le_trans (Nat.le_of_ble_eq_true hj) ψ))) [] [(2,.x 72)] (fk (K3 (K3 Y bo) L) (ad.trans ((aQ _ 64 _).mono fun j hj=>Nat.ble_eq_true_of_le (Nat.le_trans (Nat.le_of_ble_eq_true hj) ψ)))) (fun t h=>[(some (h.getD 0 false),.x 72,2,80)]) [] δ
    (mc ⟨ψ,b4 ok⟩ m0) (mc rfl m0) m0 fun κ4 a4 w4 bp n4 p4=>cI rfl ⟨κ4,_,fun r Z=>(p4.upto r χ).trans (cb r Z),n4.has,p4.agree,p4.keep,bp,ft hm fun p=>by rw[←List.append_nil (o9 P.regs m)];rfl⟩)
  ·exact cI rfl ⟨κ2,_,fun r Z=>y.upto r (by show r<3;omega),n3.has.re ⟨rfl,rfl,rfl,rfl,rfl,trivial⟩,(y.agree.trans bd fun _ h=>h).defers,(y.agree.trans bd fun _ h=>h).size,K3 y.keep L,Q,ft hx fun p=>Iff.rfl⟩
 have bc:=K3 Y bc;have cw:=cw.trans cv;clear n8 Y cv;have bw:∀{d e:Sta},Agr (lo 24) (cA v P) ((S.put 32 d).put 64 e):=fun{d e}=>(mj _ _ _).trans ((aQ _ 64 _).mono fun j hj=>Nat.ble_eq_true_of_le (Nat.le_trans (Nat.le_of_ble_eq_true hj) ψ))
 have cf:∀{d e:Sta},Agr (lo 32) S ((S.put 32 d).put 64 e):=fun{d e}=>ad.trans ((aQ _ 64 _).mono fun j hj=>Nat.ble_eq_true_of_le (Nat.le_trans (Nat.le_of_ble_eq_true hj) ψ))
 refine lQ n9 fy ψ hS (fun w h=>h.Q5) (aF _ _ _) (fun l=>l.flatMap mn) 198 2 bN (pD 40) δ rfl rfl rfl (fun _ x d=>x.Ok∧d=eO x) (fun w g o x hx=>⟨_,⟨hx.2,rfl⟩,fun k=>hx.1⟩) (fun k x d κ' a' w' L1 hx W E H O I n=>?_) fun fd ff f1 e0 bt bf N=>?_
 ·obtain⟨ok,rfl⟩:=W
  exact aK (dq (cnt:=2) (k':=4) (F':=fx 32 198 (ck 198 2 bN)) (M':=[]) (e':=[0]) n rfl I E H [.x 40,.cmp .eql (.x 42) (.c 0),.x 43,.seq (.x 41) (.c ⟨#[]⟩),.cmp .eql (.x 43) (.c 0)] [] (fk (K3 bc O) ad) (fun t h=>[(some ((t.getD 0 false||t.getD 1 false)&&(t.getD 2 false||t.getD 3 false)&&(!t.getD 2 false||t.getD 4 false)),.x 40,0,5)]) [] δ
   m0 (mc rfl m0) m0 fun κ2 a2 V J U y=>cI rfl ⟨κ2,_,fun r Z=>y.upto r (by show r<3;omega),U.has,y.agree.defers,y.agree.size,y.keep,J,ft hx fun p=>by
    show p∈mn x↔p∈say ((x.fixed||((x.Q7:Int)==0))&&(x.QR||(x.text.toList==(⟨#[]⟩:ByteArray).toList))&&(!x.QR||((x.fill:Int)==0))) x.pos 0++[];rw[nb0,nb0,aw,List.append_nil];rfl⟩)
 have N:=K3 bc N;have bf:=bf.trans cw;clear n9 bc cw;refine lQ bt e0 ψ hS (fun w h=>h.Q3) (bX B) (fun l=>l.flatMap fun x=>x.QF.flatMap (o9 P.things)++kZ P x.QN) 239 3 bN (jQ 40) δ rfl rfl rfl (fun w x d=>∃u r,aJ B 5 cU w u x.QF∧aJ B 4 eW w r x.QN∧d=kV x u r) (fun w g o x ⟨u,r,h1,h2,h3,_⟩=>⟨_,⟨u,r,h2,h3,rfl⟩,fun k=>by
  show aL w g o [.int .i64 x.pos,.string x.name,.int .u64 x.QO,.bool x.stopped,.slice (vA u) x.QF.length (vC u),.slice (vA r) x.QN.length (vC r)];rw[aU h2,aU h3];exact h1⟩) (fun k x d κ' a' w' L1 hx W E H O I n=>?_) fun go f4 gg e2 c5 bl ac=>?_
 ·obtain⟨u,r,hu,Z,rfl⟩:=W
  have below:∀{w1},aD (fun k=>k=C) w' w1→Below B w' w1:=fun hk=>hk.below (B:=B) (by have:=I.lt;omega) fun i hi e=>by have e:i=C:=e;omega
  refine aK (am 2 (fun _=>true) ((246,.one (.i .i64 (.c 0)))::(245,.one (.i .i64 (.ln 40)))::(244,.one (.sl 40 40 42))::(16,.one (.p 3 0))::fx 32 239 (ck 239 3 bN)) [(3,jQ 40),(1,lz)] 4 [] hPt δ n fun κ2 a2 V U y=>?_);have J:aE B V C v P cq L1:=U.gh;have bo:=K3 O y.keep;have c2:κ2 0=(C,0):=(y.upto 0 ψ).trans E;refine aM (qB U rfl J (hu.below (aF _ _ _) (below y.keep)) (aF _ _ _) (fun l=>l.flatMap (o9 P.things)) 64 246 40 40 ((245,.one (.i .i64 (.ln 40)))::(244,.one (.sl 40 40 42))::(16,.one (.p 3 0))::fx 32 239 (ck 239 3 bN)) (fun _=>true) δ rfl (U.has.re ⟨rfl,rfl,rfl,rfl,rfl,rfl,rfl,rfl,rfl,trivial⟩) rfl (fun _ x d=>x.Ok∧d=yf x) (kc 72) rfl
   (fun w g o x hx=>⟨_,⟨hx.2,rfl⟩,fun k=>hx.1⟩) δ (fun j m d κ3 a3 w3 L3 hm W cb Q n3 bd L=>?_) fun a3 w3 Q n3 bd L=>?_)
  ·obtain⟨ok,rfl⟩:=W
   exact aK (dq (cnt:=2) (k':=6) (F':=fx 64 246 ((245,.one (.i .i64 (.ln 40)))::(244,.one (.sl 40 40 42))::(16,.one (.p 3 0))::fx 32 239 (ck 239 3 bN))) (M':=[]) (e':=[0]) n3 rfl Q ((cb 0 ψ).trans c2) bw [] [(0,.x 72)] (fk (K3 (K3 N bo) L) cf) (fun t h=>[(some (h.getD 0 false),.x 72,2,80)]) [] δ
    (mc ⟨ψ,b4 ok⟩ m0) (mc rfl m0) m0 fun κ4 a4 w4 bp n4 p4=>cI rfl ⟨κ4,_,fun r Z=>(p4.upto r χ).trans (cb r Z),n4.has,p4.agree,p4.keep,bp,ft hm fun p=>by rw[←List.append_nil (o9 P.things m)];rfl⟩)
  have n4:=n3.downR ((16,.one (.p 3 0))::fx 32 239 (ck 239 3 bN)) ⟨rfl,rfl,rfl,rfl,rfl,rfl,trivial⟩ δ;refine am 1 (fun _=>true) ((263,.one (.i .i64 (.c 0)))::(262,.one (.i .i64 (.ln 41)))::(261,.one (.sl 41 41 43))::(16,.one (.p 3 0))::fx 32 239 (ck 239 3 bN)) [(3,jQ 40),(1,lz)] 4 [] hPt δ n4 fun κ5 a5 w5 n5 p5=>?_
  have cx:aE B w5 C v P cq (x.QF.flatMap (o9 P.things)++L1):=n5.gh;have cp:=K3 (K3 bo L) p5.keep;have c3:κ5 0=(C,0):=(p5.upto 0 ψ).trans c2;have fp:=Z.below (aF _ _ _) (below (K3 (K3 y.keep L) p5.keep));refine aM (qB n5 rfl cx fp (aF _ _ _) (kZ P) 64 263 41 41 ((262,.one (.i .i64 (.ln 41)))::(261,.one (.sl 41 41 43))::(16,.one (.p 3 0))::fx 32 239 (ck 239 3 bN)) (fun _=>true) δ rfl (n5.has.re ⟨rfl,rfl,rfl,rfl,rfl,rfl,rfl,rfl,rfl,trivial⟩) rfl (fun _ x d=>x.Ok∧d=rlS x 0) (rlC 72) rfl
   (fun w g o x hx=>⟨_,⟨hx.2,rfl⟩,fun k=>hx.1⟩) δ (fun j m d κ6 a6 w6 L6 hm W eu b3 n6 ds bb=>?_) fun a6 w6 b3 n6 ds bb=>?_)
  ·obtain⟨ok,rfl⟩:=W
   have hj:=(List.getElem?_eq_some_iff.1 hm).1;have ea:x.QN.length≤vC r:=by obtain⟨A,c,rfl,h,_⟩:=Z;exact h
   have c4:=(eu 0 ψ).trans c3;have n7:=lF n6 rfl b3 c4 bw [] [] ξ [(41,41,43,.x 64,64)] (mc ⟨rfl,Nat.le_trans (Nat.le_of_lt hj) ea⟩ m0) [] ξ [] ξ;refine aK (am 2 (fun _=>true) ((273,.one (.i .i64 (.c 0)))::(272,.one (.i .i64 (.ln 64)))::(271,.one (.sl 41 64 43))::(20,.one (.p 5 0))::fx 64 263 ((262,.one (.i .i64 (.ln 41)))::(261,.one (.sl 41 41 43))::(16,.one (.p 3 0))::fx 32 239 (ck 239 3 bN))) [(5,rlC 72),(1,lz)] 6 [] hPt δ n7 fun κ7 a7 w7 n8 p7=>?_);have fm:aE B w7 C v P cq L6:=n8.gh;have af:=K3 (K3 cp bb) p7.keep;have cd:κ7 0=(C,0):=(p7.upto 0 ψ).trans c4;have d3:=Z.below (aF _ _ _) (below (K3 (K3 (K3 (K3 y.keep L) p5.keep) bb) p7.keep));rw[←aU d3]at d3;refine aM (qB n8 rfl fm (aJ.take d3 (Nat.le_of_lt hj)) (aF _ _ _) (fun l=>l.flatMap fun s=>[(max m.pos s.pos,1)]) 96 273 41 64 ((272,.one (.i .i64 (.ln 64)))::(271,.one (.sl 41 64 43))::(20,.one (.p 5 0))::fx 64 263 ((262,.one (.i .i64 (.ln 41)))::(261,.one (.sl 41 41 43))::(16,.one (.p 3 0))::fx 32 239 (ck 239 3 bN))) (fun _=>true) δ (by rw[List.length_take,Nat.min_eq_left (Nat.le_of_lt hj)];rfl) (n8.has.re ⟨rfl,rfl,rfl,rfl,rfl,rfl,rfl,rfl,rfl,rfl,rfl,rfl,rfl,trivial⟩) rfl (fun _ x d=>x.Ok∧d=rlS x 0) (rlC 104) rfl
    (fun w g o x hx=>⟨_,⟨hx.2,rfl⟩,fun k=>hx.1⟩) δ (fun i s d κ8 a8 w8 L8 hs W ew d1 n9 d7 Y=>?_) fun a8 w8 d1 n9 d7 Y=>?_)
   ·obtain⟨gf,rfl⟩:=W
    exact aK (dq (cnt:=2) (k':=8) (F':=fx 96 273 ((272,.one (.i .i64 (.ln 64)))::(271,.one (.sl 41 64 43))::(20,.one (.p 5 0))::fx 64 263 ((262,.one (.i .i64 (.ln 41)))::(261,.one (.sl 41 41 43))::(16,.one (.p 3 0))::fx 32 239 (ck 239 3 bN)))) (M':=[]) (e':=[0]) n9 rfl d1 ((ew 0 ψ).trans cd) (bw.trans ((aQ _ 96 _).mono fun j hj=>Nat.ble_eq_true_of_le (Nat.le_trans (Nat.le_of_ble_eq_true hj) ψ))) [] [] (fk (K3 (K3 N af) Y) (cf.trans ((aQ _ 96 _).mono fun j hj=>Nat.ble_eq_true_of_le (Nat.le_trans (Nat.le_of_ble_eq_true hj) ψ)))) (fun t h=>[(none,.mx (.x 72) (.x 104),1,81)]) [] δ
     m0 (mc rfl m0) m0 fun κ9 a9 w9 d2 bt p9=>cI rfl ⟨κ9,_,fun r Z=>(p9.upto r χ).trans (ew r Z),bt.has,p9.agree,p9.keep,d2,ft hs fun p=>by
      show p∈[(max m.pos s.pos,(1:Int))]↔p∈[((if s.pos>m.pos then s.pos else m.pos),(1:Int))]++[];rw[List.append_nil,show(if s.pos>m.pos then s.pos else m.pos)=max m.pos s.pos by omega]⟩)
   have bt:=n9.downR ((20,.one (.p 5 0))::fx 64 263 ((262,.one (.i .i64 (.ln 41)))::(261,.one (.sl 41 41 43))::(16,.one (.p 3 0))::fx 32 239 (ck 239 3 bN))) ⟨rfl,rfl,rfl,rfl,rfl,rfl,rfl,rfl,rfl,rfl,trivial⟩ δ;have bc:=K3 af Y;refine dq (cnt:=2) (k':=6) (F':=(23,.one (.b (.cmp .eql (.x 73) (.c 1))))::(20,.one (.p 5 0))::fx 64 263 ((262,.one (.i .i64 (.ln 41)))::(261,.one (.sl 41 41 43))::(16,.one (.p 3 0))::fx 32 239 (ck 239 3 bN))) (M':=[(5,rlC 72),(1,lz)]) (e':=[0]) bt rfl d1 cd bw [.cmp .eql (.x 73) (.c 1),.cmp .geq (.x 73) (.c 1),.cmp .leq (.x 73) (.c 3),.seq (.x 72) (.c ⟨#[]⟩),.cmp .eql (.x 74) (.c 0)] [] (fk (K3 N bc) cf) (fun t h=>[(some (t.getD 1 false&&t.getD 2 false&&(t.getD 0 false||t.getD 3 false&&t.getD 4 false)),.x 72,0,5)]) [] δ
    m0 (mc rfl m0) m0 fun κ9 a9 w9 d2 c5 p9=>?_
   exact dq (cnt:=1) (k':=6) (F':=fx 64 263 ((262,.one (.i .i64 (.ln 41)))::(261,.one (.sl 41 41 43))::(16,.one (.p 3 0))::fx 32 239 (ck 239 3 bN))) (M':=[]) (e':=[0]) c5 rfl d2 ((p9.upto 0 χ).trans cd) bw [.cmp .eql (.x 73) (.c 1)] [(3,.x 72)] (fk (K3 (K3 N bc) p9.keep) cf) (fun t h=>[(some (!t.getD 0 false||h.getD 0 false),.x 72,2,80)]) [] δ
    (mc ⟨ψ,ok.2.2.2⟩ m0) (mc rfl m0) m0 fun fd ff f1 c7 c6 d6=>cI rfl ⟨fd,_,fun r Z=>(d6.upto r χ).trans ((p9.upto r χ).trans ((p7.upto r (by show r<5;omega)).trans (eu r Z))),c6.has,(((p7.agree.trans d7 fun _ h=>h).trans p9.agree fun _ h=>h).trans d6.agree fun _ h=>h),K3 (K3 (K3 p7.keep Y) p9.keep) d6.keep,by rw[←List.append_assoc,←List.append_assoc]at c7;exact c7,fun p=>by
     have e1:say (decide (m.how≥1)&&decide (m.how≤3)&&((m.how==1)||(m.to.toList==(⟨#[]⟩:ByteArray).toList)&&((m.QL:Int)==0))) m.pos 0++say (!(m.how==1)||has P.QS m.to) m.pos 2=rU P m:=by rw[ib,nb0,aw];rfl
     rw[aP hm,mg,←e1];show _↔p∈((say (!(m.how==1)||has P.QS m.to) m.pos 2++[])++(say (decide (m.how≥1)&&decide (m.how≤3)&&((m.how==1)||(m.to.toList==(⟨#[]⟩:ByteArray).toList)&&((m.QL:Int)==0))) m.pos 0++[]))++_∨_;simp only[List.mem_append,List.append_nil,or_assoc,or_comm,or_left_comm]⟩
  ·exact cI rfl ⟨κ5,kZ P x.QN++x.QF.flatMap (o9 P.things),fun r Z=>(p5.upto r (by show r<4;omega)).trans (y.upto r (by show r<3;omega)),n6.has.re ⟨rfl,rfl,rfl,rfl,rfl,trivial⟩,(((y.agree.trans bd fun _ h=>h).trans p5.agree fun _ h=>h).trans ds fun _ h=>h).defers,(((y.agree.trans bd fun _ h=>h).trans p5.agree fun _ h=>h).trans ds fun _ h=>h).size,K3 (K3 (K3 y.keep L) p5.keep) bb,by rw[List.append_assoc];exact b3,ft hx fun p=>by simp[or_comm]⟩
 have ac:=K3 N ac;have bl:=bl.trans bf;clear bt N bf;refine lQ c5 e2 ψ hS (fun w h=>h.Q8) (aF _ _ _) (fun l=>l.flatMap (oZ P)) 334 4 bN (chC 40) δ rfl rfl rfl (fun _ x d=>x.Ok∧d=chZ x 0 0) (fun w g o x hx=>⟨_,⟨hx.2,rfl⟩,fun k=>hx.1⟩) (fun k x d κ' a' w' L1 hx W E H O I n=>?_) fun gp f5 gl e5 c6 bm ba=>?_
 ·obtain⟨ok,rfl⟩:=W
  refine aK (dq (cnt:=2) (k':=4) (F':=(25,.one (.p 3 0))::fx 32 334 (ck 334 4 bN)) (M':=[(3,chC 40),(1,lz)]) (e':=[0]) n rfl I E H [.cmp .geq (.x 41) (.c 1),.cmp .leq (.x 41) (.c 4),.x 40,.seq (.x 43) (.c ⟨#[]⟩),.cmp .eql (.x 41) (.c 1),.cmp .eql (.x 42) (.c 0)] [] (fk (K3 ac O) ad) (fun t h=>[(some (t.getD 0 false&&t.getD 1 false&&(t.getD 2 false||t.getD 3 false)&&(t.getD 4 false||t.getD 5 false)),.x 40,0,5)]) [] δ
   m0 (mc rfl m0) m0 fun κ2 a2 V J U y=>?_)
  exact dq (cnt:=1) (k':=4) (F':=fx 32 334 (ck 334 4 bN)) (M':=[]) (e':=[0]) U rfl J ((y.upto 0 χ).trans E) H [.x 40] [(3,.x 41),(3,.x 42),(2,.x 43)] (fk (K3 (K3 ac O) y.keep) ad) (fun t h=>[(some (h.getD 0 false&&h.getD 1 false&&(!t.getD 0 false||h.getD 2 false)),.x 40,2,80)]) [] δ
   (mc ⟨ψ,ok.2.2.2.2.1⟩ (mc ⟨ψ,ok.2.2.2.2.2.1⟩ (mc ⟨ψ,ok.2.2.2.2.2.2⟩ m0))) (mc rfl m0) m0 fun κ3 a3 w3 Q n3 p3=>cI rfl ⟨κ3,_,fun r Z=>(p3.upto r χ).trans (y.upto r (by show r<3;omega)),n3.has,p3.agree.defers.trans y.agree.defers,p3.agree.size.trans y.agree.size,K3 y.keep p3.keep,by rw[←List.append_assoc]at Q;exact Q,ft hx fun p=>AT (by
    show say _ _ _=say (decide (x.how≥1)&&decide (x.how≤4)&&(x.shared||(x.over.toList==(⟨#[]⟩:ByteArray).toList))&&((x.how==1)||((x.QL:Int)==0))) x.pos 0;rw[nb0,ib,aw];rfl) rfl p⟩
 have ba:=K3 ac ba;have bm:=bm.trans bl;clear c5 ac bl;refine lQ c6 e5 ψ hS (fun w h=>h.QJ) (aF _ _ _) (fun l=>l.flatMap (Ae P)) 404 5 bN (irC 40) δ rfl rfl rfl (fun _ x d=>x.Ok∧d=irS x 0) (fun w g o x hx=>⟨_,⟨hx.2,rfl⟩,fun k=>hx.1⟩) (fun k x d κ' a' w' L1 hx W E H O I n=>?_) fun gr f6 gn e6 fz b2 be=>?_
 ·obtain⟨ok,rfl⟩:=W
  exact aK (dq (cnt:=2) (k':=4) (F':=fx 32 404 (ck 404 5 bN)) (M':=[]) (e':=[0]) n rfl I E H [] [(1,.x 41),(3,.x 42)] (fk (K3 ba O) ad) (fun t h=>[(some (h.getD 0 false&&h.getD 1 false),.x 40,2,80)]) [] δ
   (mc ⟨ψ,ok.2.2.2.1⟩ (mc ⟨ψ,ok.2.2.2.2⟩ m0)) (mc rfl m0) m0 fun κ2 a2 V J U y=>cI rfl ⟨κ2,_,fun r Z=>y.upto r (by show r<3;omega),U.has,y.agree.defers,y.agree.size,y.keep,J,ft hx fun p=>by rw[←List.append_nil (Ae P x)];rfl⟩)
 have be:=K3 ba be;have b2:=b2.trans bm;clear c6 ba bm;refine lQ fz e6 ψ hS (fun w h=>h.Q9) (dK B) (fun l=>l.flatMap fun x=>gZ P x.QH) 431 7 bN (plC 40) δ rfl rfl rfl (fun w x d=>∃u,aJ B 4 (i7 B) w u x.QH∧d=plS x u false) (fun w g o x ⟨u,h1,h2,_⟩=>⟨_,⟨u,h2,rfl⟩,fun k=>by
  show aL w g o [.int .i64 x.pos,.string x.name,.int .u64 x.QM,.slice (vA u) x.QH.length (vC u)];rw[aU h2];exact h1⟩) (fun k x d κ' a' w' L1 hx W E H O I n=>?_) fun gs f7 f2 f3 f0 ed b0=>?_
 ·obtain⟨u,hu,rfl⟩:=W
  have n':Now (S.put 32 ((Sta.put {} 8 (plS x u false)).cnt k)) κ' 441 Tryz.prog { EL:=[(7,4,.x 32,7,2)],GM:=[(0,aa)] } (kQ B C v P cq [] L1) _ a' w':=lF n rfl I E H [] [] ξ [] ξ [] ξ [] ξ;refine aK (uu (cnt:=2) (k':=4) (L2:=gZ P x.QH) n' rfl I E H (fx 32 431 (ck 431 7 bN)) [] 76 [.one (.p 0 0),.one (.sl 40 40 41),.ag lz] #[.pointer (some ⟨C,0,none⟩),u,.agg (dm z0)] δ (by
   rw[←aU hu];simp only[List.map_cons,List.map_nil,SV.den,Cl.den_p,E];rfl) (fun L' w3 hk hL=>?_) (fun κ2 a2 V J U y _=>cI rfl ⟨κ2,_,fun r Z=>y.upto r (by show r<3;omega),U.has,y.agree.defers,y.agree.size,y.keep,J,ft hx fun p=>Iff.rfl⟩) (by show 0<3;decide))
  obtain⟨D,r,bz⟩:=(ci.keep (K3 (K3 be O) hk) (Agr.refl _ _)).Q7;exact xu hL bz er (hu.below (cK B) (hk.below (B:=B) (by have:=I.lt;omega) fun i hi e=>by have e:i=C:=e;omega))
 have b0:=K3 be b0;have ep:aE B f2 C v P cq _:=f0.gh;refine cI rfl (ek rfl (ed.trans b2) ⟨rfl,ep.congr fun p=>?_,K3 bo b0⟩);rw[show gV [] []=[] from rfl,List.nil_append,show(fun x:aj=>x.QF.flatMap (o9 P.things)++kZ P x.QN)=jP P from rfl];simp only[jU,qb,dN,List.flatMap_cons,List.flatMap_nil,List.append_nil,List.getD_cons_zero,List.getD_cons_succ,List.mem_append,or_assoc,or_comm,or_left_comm]
