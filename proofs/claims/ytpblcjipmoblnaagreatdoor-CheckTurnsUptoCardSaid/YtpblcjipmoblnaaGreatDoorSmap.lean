import Derived.Test.YtpblcjipmoblnaaGreatDoorTurnL
import Derived.Test.YtpblcjipmoblnaaGreatDoorDraw
import Derived.Test.YtpblcjipmoblnaaGreatDoorAsE
import Derived.StillTailTactics
import Derived.Deep.CutRange
set_option maxRecDepth 100000
set_option maxHeartbeats 4000000
set_option linter.unusedVariables false
set_option linter.unusedSimpArgs false
set_option linter.unnecessarySimpa false
namespace Go.Proofs.YtpblcjipmoblnaaGreatDoor
open Go.RowKit Go.IntWalk Ck
variable {w w' w0:World} {T:TypeId} {k n0 B z zq pb:Nat} {L:List Wr} {named:ByteArray→Bool}
def cP{α:Type}(n0:Nat)(T:TypeId)(k:Nat)(RF:bF→World→Nat→Nat→α→Prop)(w:World)(v:Value)(xs:List α):Prop:=
 aM (fun b=>n0≤b∧bk w b=some T) k (RF (fun _ b=>b<n0)) w v xs∧∃cs,w.ownsRow n0 T k v xs.length cs
theorem uh{b:Nat}(h:bk w b=some T):b<w.heap.size:=by
 unfold bk at h;split at h
 ·rename_i c t f e;exact aG e
 ·cases h
theorem cP.keep{α:Type}{N:TypeId→Prop}{RF:bF→World→Nat→Nat→α→Prop}(K:fQ T k N RF){n0:Nat}{w w':World}{v:Value}{d:List α}(h:cP n0 T k RF w v d)(hk:Kz w w')(e:n0≤w.heap.size):cP n0 T k RF w' v d:=
 ⟨K.same h.1 (fun b a=>⟨a.1,(kI hk (uh a.2) (fun x=>x)).trans a.2⟩) (aW.of_keep hk fun b a=>⟨uh a.2,fun x=>x⟩) (fun _ _ b a=>a) (fun _ _=>aW.of_keep hk fun b a=>⟨Nat.lt_of_lt_of_le a e,fun x=>x⟩),
  let⟨cs,ho⟩:=h.2;⟨cs,aR ho hk (fun _ _ x=>x)⟩⟩
theorem eE{α:Type}{N:TypeId→Prop}{RF:bF→World→Nat→Nat→α→Prop}(K:fQ T k N RF){D0:Nat→Prop}{n0:Nat}{w w':World}{v:Value}{a:List α}{cs:List Value}(j:ey D0 k (RF (fun _ b=>b<n0)) w a cs)(e:w'.ownsRow w.heap.size T k v a.length cs)
 (hk:Kz w w')(h:n0≤w.heap.size)(n:a.length≤top):cP n0 T k RF w' v a:=
 ⟨b6 K j e n (fun g l=>by obtain⟨p,q,i⟩:=aL e l;exact⟨by omega,i⟩) (fun _ _ b d=>d) (fun _ _=>aW.of_keep hk fun b d=>⟨Nat.lt_of_lt_of_le d h,fun x=>x⟩),cs,de e h⟩
structure kH (n0:Nat) (w:World) (v:aV) (P:aC):Prop where
 QF:cP n0 41 3 (fun _=>fP) w v.QF P.QF
 Q4:cP n0 45 5 cq w v.Q4 P.Q4
 Q5:cP n0 48 10 (fun _=>cO) w v.Q5 P.Q5
 Q3:cP n0 52 6 cA w v.Q3 P.Q3
 Q8:cP n0 55 8 (fun _=>cB) w v.Q8 P.Q8
 QG:cP n0 58 6 (fun _=>fR) w v.QG P.QG
 QC:cP n0 65 6 (fun _=>co) w v.QC P.QC
 Q9:cP n0 62 4 eY w v.Q9 P.Q9
 QD:cP n0 78 2 (fun _=>cJ) w v.QD P.QD
 QE:cP n0 78 2 (fun _=>cJ) w v.QE P.QE
 QB:cP n0 78 2 (fun _=>cJ) w v.QB P.QB
 QA:cP n0 68 3 (fun _=>fS) w v.QA P.QA
theorem kH.keep{v:aV}{P:aC}(h:kH n0 w v P)(hk:Kz w w')(a:n0≤w.heap.size):kH n0 w' v P:=
 ⟨h.QF.keep fI hk a,h.Q4.keep ao hk a,h.Q5.keep dH hk a,h.Q3.keep aj hk a,h.Q8.keep cj hk a,h.QG.keep fL hk a,h.QC.keep dc hk a,h.Q9.keep au hk a,h.QD.keep cH hk a,h.QE.keep cH hk a,h.QB.keep cH hk a,h.QA.keep fN hk a⟩
theorem eF{α:Type}{N:TypeId→Prop}{RF:bF→World→Nat→Nat→α→Prop}(K:fQ T k N RF){n0:Nat}{w:World}{v:Value}{d:List α}(h:cP n0 T k RF w v d)(e:n0≤w.heap.size):aM (Dm n0 w T) k (RF (Dm n0 w)) w v d:=
 K.same h.1 (fun b a=>⟨uh a.2,.inr a.2⟩) aW.refl (fun _ _ b a=>⟨Nat.lt_of_lt_of_le a e,.inl a⟩) (fun _ _=>aW.refl)
theorem kH.QL{v:aV}{P:aC}(h:kH n0 w v P)(a:n0≤w.heap.size)(d:dN P.pos)(b:ae P.name):gB (Dm n0 w) w v P∧pL n0 w v P:=
 ⟨⟨eF fI h.QF a,eF ao h.Q4 a,eF dH h.Q5 a,eF aj h.Q3 a,eF cj h.Q8 a,eF fL h.QG a,eF dc h.QC a,eF au h.Q9 a,eF cH h.QD a,eF cH h.QE a,eF cH h.QB a,eF fN h.QA a,d,b⟩,⟨h.QF.2,h.Q4.2,h.Q5.2,h.Q3.2,h.Q8.2,h.QG.2,h.QC.2,h.Q9.2,h.QD.2,h.QE.2,h.QB.2,h.QA.2⟩⟩
theorem zF{v:aV}{P:aC}(h:cX B w v P):P.QF.length≤top∧P.Q4.length≤top∧P.Q5.length≤top∧P.Q3.length≤top∧P.Q8.length≤top∧P.QG.length≤top∧P.QC.length≤top∧P.Q9.length≤top∧P.QD.length≤top∧P.QE.length≤top∧P.QB.length≤top∧P.QA.length≤top:=
 ⟨by obtain⟨_,_,_,_,h,_⟩:=h.QF;exact h,by obtain⟨_,_,_,_,h,_⟩:=h.Q4;exact h,by obtain⟨_,_,_,_,h,_⟩:=h.Q5;exact h,by obtain⟨_,_,_,_,h,_⟩:=h.Q3;exact h,by obtain⟨_,_,_,_,h,_⟩:=h.Q8;exact h,by obtain⟨_,_,_,_,h,_⟩:=h.QG;exact h,by obtain⟨_,_,_,_,h,_⟩:=h.QC;exact h,by obtain⟨_,_,_,_,h,_⟩:=h.Q9;exact h,by obtain⟨_,_,_,_,h,_⟩:=h.QD;exact h,by obtain⟨_,_,_,_,h,_⟩:=h.QE;exact h,by obtain⟨_,_,_,_,h,_⟩:=h.QB;exact h,by obtain⟨_,_,_,_,h,_⟩:=h.QA;exact h⟩
theorem Tryz.info34C:(Tryz.prog.info? 34).map (·.size)=some 14:=by kernel_rfl
theorem lf{t:TypeId}{a cs:Array Value}(h:w.heap[z]?=some (.cells a t (0,0))):aB (fun k=>k=z) w (w.setRow z cs):=⟨rfl,rfl,rfl,by simp,fun k _ hk=>setRow_other w z k cs hk⟩
theorem mh(v:aV)(P:aC)(h:∀u∈[v.QF,v.Q4,v.Q5,v.Q3,v.Q8,v.QG,v.QC,v.Q9,v.QD,v.QE,v.QB,v.QA],u.oneCell'=true):(v.cells P).toArray.all (·.oneCell')=true:=by
 refine all_oneCell_toArray fun u a=>?_
 simp only[aV.cells,List.mem_cons,List.mem_nil_iff,or_false]at a
 rcases a with rfl|rfl|a
 ·rfl
 ·rfl
 ·exact h u (by simpa using a)
theorem kH.ones{v:aV}{P:aC}(h:kH n0 w v P):(v.cells P).toArray.all (·.oneCell')=true:=
 mh v P fun u a=>by
  simp only[List.mem_cons,List.mem_nil_iff,or_false]at a
  rcases a with rfl|rfl|rfl|rfl|rfl|rfl|rfl|rfl|rfl|rfl|rfl|rfl
  ·exact ab h.QF.1
  ·exact ab h.Q4.1
  ·exact ab h.Q5.1
  ·exact ab h.Q3.1
  ·exact ab h.Q8.1
  ·exact ab h.QG.1
  ·exact ab h.QC.1
  ·exact ab h.Q9.1
  ·exact ab h.QD.1
  ·exact ab h.QE.1
  ·exact ab h.QB.1
  ·exact ab h.QA.1
def uT(n0 n1 zb:Nat)(v:aV)(P:aC)(j:Nat)(w:World)(u:Value):Prop:=match j with|6=>cP n0 41 3 (fun _=>fP) w u P.QF|9=>cP n0 45 5 cq w u P.Q4|12=>cP n0 48 10 (fun _=>cO) w u P.Q5|15=>cP n0 52 6 cA w u P.Q3|18=>cP n0 55 8 (fun _=>cB) w u P.Q8|21=>cP n0 58 6 (fun _=>fR) w u P.QG|24=>cP n0 62 4 eY w u P.Q9|27=>cP n0 78 2 (fun _=>cJ) w u P.QD|30=>cP n0 78 2 (fun _=>cJ) w u P.QE|33=>cP n0 65 6 (fun _=>co) w u P.QC|36=>cP n0 78 2 (fun _=>cJ) w u P.QB|39=>cP n0 68 3 (fun _=>fS) w u P.QA|40=>∃v',u=.agg (v'.cells P).toArray∧kH n0 w v' P|41=>∃z,u=.pointer (some ⟨z,0,none⟩)∧n1≤z∧w.heap[z]?=some (.cells #[.int .i64 0,.string { data := #[] },.slice none 0 0,.slice none 0 0,.slice none 0 0,.slice none 0 0,.slice none 0 0,.slice none 0 0,.slice none 0 0,.slice none 0 0,.slice none 0 0,.slice none 0 0,.slice none 0 0,.slice none 0 0] 34 (0,0))|_=>u=([.pointer (some ⟨zb,0,none⟩),.int .i64 P.pos,.pointer (some ⟨zb,1,none⟩),.string P.name,.pointer (some ⟨zb,2,none⟩),v.QF,undef,.pointer (some ⟨zb,3,none⟩),v.Q4,undef,.pointer (some ⟨zb,4,none⟩),v.Q5,undef,.pointer (some ⟨zb,5,none⟩),v.Q3,undef,.pointer (some ⟨zb,6,none⟩),v.Q8,undef,.pointer (some ⟨zb,7,none⟩),v.QG,undef,.pointer (some ⟨zb,9,none⟩),v.Q9,undef,.pointer (some ⟨zb,10,none⟩),v.QD,undef,.pointer (some ⟨zb,11,none⟩),v.QE,undef,.pointer (some ⟨zb,8,none⟩),v.QC,undef,.pointer (some ⟨zb,12,none⟩),v.QB,undef,.pointer (some ⟨zb,13,none⟩),v.QA,undef,undef,undef]:List Value).getD j undef
theorem uS{i n:Nat}{v:aV}{P:aC}{d l:World}(a:n0≤d.heap.size)(b:Kz d l)(j:Nat)(u:Value)(h:uT n0 i n v P j d u):uT n0 i n v P j l u:=by
 unfold uT at h⊢;split at h
 ·exact cP.keep fI h b a
 ·exact cP.keep ao h b a
 ·exact cP.keep dH h b a
 ·exact cP.keep aj h b a
 ·exact cP.keep cj h b a
 ·exact cP.keep fL h b a
 ·exact cP.keep au h b a
 ·exact cP.keep cH h b a
 ·exact cP.keep cH h b a
 ·exact cP.keep dc h b a
 ·exact cP.keep cH h b a
 ·exact cP.keep fN h b a
 ·obtain⟨r,e,p⟩:=h
  exact⟨r,e,p.keep b a⟩
 ·obtain⟨z,e,q,g⟩:=h
  exact⟨z,e,q,(b.block z (aG g) (fun x=>x)).trans g⟩
 ·exact h
theorem pF{R:Nat→Array Value→Prop}{v:aV}{P:aC}(hp:cX B w0 v P)(hB:B≤w0.heap.size)(hk:Kz w0 w)(bx:∀z c,R z c→w.heap[z]?=some (.cells c 34 (0,0))){S:Nat}(hz:w.heap[S]?=some (.cells (v.cells P).toArray 34 (0,0)))(a:Act)(i3:a.tmps.size=150)(h1:At a 1 (.pointer (some ⟨S,0,none⟩)))(Q:Exit→Act→World→Prop)
 (hQ:∀L w' zq v',aA (fun i=>i==3||(rg 8 48 i)) a L→At L 3 (.pointer (some ⟨zq,0,none⟩))→Cop R w0.heap.size w0 zq v' P w'→Kz w w'→Q .normal L w'):
 (al Tryz.f10 [1,0]).wp Tryz.prog Q a w:=by
 have fp:w0.heap.size≤w.heap.size:=hk.size;have HQ:=hh hQ;have HP:=hh (hp.in_.same (D':=fun _ b=>b<w0.heap.size) (fun _ b l=>Nat.lt_of_lt_of_le l hB) (fun _=>aW.of_keep hk fun b l=>⟨by omega,fun x=>x⟩));have h5:=hh hp;have HL:=hh (zF hp);have e6:=hh hk;have HZ:=hh hz;have a2:=hh bx;clear bx;have fv:=aG hz;have HC:Hid (∀w',Kz w.drew w'→∀j u,(v.cells P)[j]?=some u→w'.cell? ⟨S,j,none⟩=some u):=hh fun w' hw j u hj=>(hw.cell (p:=⟨S,j,none⟩) fv (fun x=>x)).trans ((cell_of_row _ _ _ _ _ _ hz).trans (by simpa using hj))
 have G:=hh fp;clear hQ hp hk hz
 conv=>arg 2;whnf
 have STAB:Hid (∀w1 N,Kz w.drew w1→Kz w1 N→∀(j:Nat) (u:Value),uT w0.heap.size w.heap.size S v P j w1 u→uT w0.heap.size w.heap.size S v P j N u):=hh fun w1 N h1 h2 j u h=>uS (Nat.le_trans G.out h1.size) h2 j u h
 refine cS 42 (uT w0.heap.size w.heap.size S v P) (fun w'=>Kz w.drew w') (by kernel_rfl) (by kernel_rfl) (aB.refl _ _) ?_ ?_
 ·intro i o hi C L w' K n l E r
  have dk:L.tmps.size=150:=l.size.trans (by first|assumption|(simp only[Array.size_setIfInBounds];assumption));have e5:=l.Q7 h1 rfl
  match i,hi,C,E,r with
  | 0,_,C,E,r =>
   obtain rfl:=oi C;obtain⟨T,d⟩:=L;go_simp;exact r (.pointer (some ⟨S,0,none⟩)) _ n (fun _ _ h=>h) rfl
  | 1,_,C,E,r =>
   obtain rfl:=oi C;obtain⟨fx,h6,e7⟩:=E 0 (by kernel_rfl) (by decide) 8 rfl;obtain rfl:fx=.pointer (some ⟨S,0,none⟩):=e7;have q:=HC.out w' n 0 _ rfl;obtain⟨T,d⟩:=L;go_simp;exact r (.int .i64 P.pos) _ n (fun _ _ h=>h) rfl
  | 2,_,C,E,r =>
   obtain rfl:=oi C;obtain⟨T,d⟩:=L;go_simp;exact r (.pointer (some ⟨S,1,none⟩)) _ n (fun _ _ h=>h) rfl
  | 3,_,C,E,r =>
   obtain rfl:=oi C;obtain⟨fz,h8,e9⟩:=E 2 (by kernel_rfl) (by decide) 10 rfl;obtain rfl:fz=.pointer (some ⟨S,1,none⟩):=e9;have q:=HC.out w' n 1 _ rfl;obtain⟨T,d⟩:=L;go_simp;exact r (.string P.name) _ n (fun _ _ h=>h) rfl
  | 4,_,C,E,r =>
   obtain rfl:=oi C;obtain⟨T,d⟩:=L;go_simp;exact r (.pointer (some ⟨S,2,none⟩)) _ n (fun _ _ h=>h) rfl
  | 5,_,C,E,r =>
   obtain rfl:=oi C;obtain⟨f1,ih,fe⟩:=E 4 (by kernel_rfl) (by decide) 12 rfl;obtain rfl:f1=.pointer (some ⟨S,2,none⟩):=fe;have q:=HC.out w' n 2 _ rfl;obtain⟨T,d⟩:=L;go_simp;exact r (v.QF) _ n (fun _ _ h=>h) rfl
  | 6,_,C,E,r =>
   obtain rfl:=oi C;obtain⟨f2,it,ff⟩:=E 5 (by kernel_rfl) (by decide) 13 rfl;obtain rfl:f2=v.QF:=ff;have y:=((aB.refl (fun _=>False) w).drew).trans n (fun _ _ h=>h);have I:=fI.same (RF:=(fun _=>fP)) (D':=fun _ b=>b<w0.heap.size) HP.out.QF (fun b l=>l) (aW.of_keep y fun b l=>⟨Nat.lt_of_lt_of_le l G.out,fun x=>x⟩) (fun _ _ b l=>l) (fun _ _=>aW.of_keep y fun b l=>⟨Nat.lt_of_lt_of_le l G.out,fun x=>x⟩);have H:=yA (D:=fun _ b=>b<w0.heap.size) I;have M:=hh H;clear I H y;have J:=hh r;clear r;obtain⟨T,d⟩:=L;go_simp;refine M.out.mono ?_;rintro e N ⟨v2,cs,rfl,g1,g2,g3⟩;exact J.out v2 N (n.trans g3 (fun _ _ h=>h)) (fun j u h=>STAB.out w' N n g3 j u h) (eE fI g1 g2 g3 (Nat.le_trans G.out n.size) HL.out.1)
  | 7,_,C,E,r =>
   obtain rfl:=oi C;obtain⟨T,d⟩:=L;go_simp;exact r (.pointer (some ⟨S,3,none⟩)) _ n (fun _ _ h=>h) rfl
  | 8,_,C,E,r =>
   obtain rfl:=oi C;obtain⟨f3,i0,fi⟩:=E 7 (by kernel_rfl) (by decide) 15 rfl;obtain rfl:f3=.pointer (some ⟨S,3,none⟩):=fi;have q:=HC.out w' n 3 _ rfl;obtain⟨T,d⟩:=L;go_simp;exact r (v.Q4) _ n (fun _ _ h=>h) rfl
  | 9,_,C,E,r =>
   obtain rfl:=oi C;obtain⟨f4,i1,fj⟩:=E 8 (by kernel_rfl) (by decide) 16 rfl;obtain rfl:f4=v.Q4:=fj;have y:=((aB.refl (fun _=>False) w).drew).trans n (fun _ _ h=>h);have I:=ao.same (RF:=cq) (D':=fun _ b=>b<w0.heap.size) HP.out.Q4 (fun b l=>l) (aW.of_keep y fun b l=>⟨Nat.lt_of_lt_of_le l G.out,fun x=>x⟩) (fun _ _ b l=>l) (fun _ _=>aW.of_keep y fun b l=>⟨Nat.lt_of_lt_of_le l G.out,fun x=>x⟩);have H:=xz (D:=fun _ b=>b<w0.heap.size) I;have M:=hh H;clear I H y;have J:=hh r;clear r;obtain⟨T,d⟩:=L;go_simp;refine M.out.mono ?_;rintro e N ⟨v2,cs,rfl,g1,g2,g3⟩;exact J.out v2 N (n.trans g3 (fun _ _ h=>h)) (fun j u h=>STAB.out w' N n g3 j u h) (eE ao g1 g2 g3 (Nat.le_trans G.out n.size) HL.out.2.1)
  | 10,_,C,E,r =>
   obtain rfl:=oi C;obtain⟨T,d⟩:=L;go_simp;exact r (.pointer (some ⟨S,4,none⟩)) _ n (fun _ _ h=>h) rfl
  | 11,_,C,E,r =>
   obtain rfl:=oi C;obtain⟨dl,f5,ci⟩:=E 10 (by kernel_rfl) (by decide) 18 rfl;obtain rfl:dl=.pointer (some ⟨S,4,none⟩):=ci;have q:=HC.out w' n 4 _ rfl;obtain⟨T,d⟩:=L;go_simp;exact r (v.Q5) _ n (fun _ _ h=>h) rfl
  | 12,_,C,E,r =>
   obtain rfl:=oi C;obtain⟨ds,f6,cl⟩:=E 11 (by kernel_rfl) (by decide) 19 rfl;obtain rfl:ds=v.Q5:=cl;have y:=((aB.refl (fun _=>False) w).drew).trans n (fun _ _ h=>h);have I:=dH.same (RF:=(fun _=>cO)) (D':=fun _ b=>b<w0.heap.size) HP.out.Q5 (fun b l=>l) (aW.of_keep y fun b l=>⟨Nat.lt_of_lt_of_le l G.out,fun x=>x⟩) (fun _ _ b l=>l) (fun _ _=>aW.of_keep y fun b l=>⟨Nat.lt_of_lt_of_le l G.out,fun x=>x⟩);have H:=xx (D:=fun _ b=>b<w0.heap.size) I;have M:=hh H;clear I H y;have J:=hh r;clear r;obtain⟨T,d⟩:=L;go_simp;refine M.out.mono ?_;rintro e N ⟨v2,cs,rfl,g1,g2,g3⟩;exact J.out v2 N (n.trans g3 (fun _ _ h=>h)) (fun j u h=>STAB.out w' N n g3 j u h) (eE dH g1 g2 g3 (Nat.le_trans G.out n.size) HL.out.2.2.1)
  | 13,_,C,E,r =>
   obtain rfl:=oi C;obtain⟨T,d⟩:=L;go_simp;exact r (.pointer (some ⟨S,5,none⟩)) _ n (fun _ _ h=>h) rfl
  | 14,_,C,E,r =>
   obtain rfl:=oi C;obtain⟨d0,f8,cm⟩:=E 13 (by kernel_rfl) (by decide) 21 rfl;obtain rfl:d0=.pointer (some ⟨S,5,none⟩):=cm;have q:=HC.out w' n 5 _ rfl;obtain⟨T,d⟩:=L;go_simp;exact r (v.Q3) _ n (fun _ _ h=>h) rfl
  | 15,_,C,E,r =>
   obtain rfl:=oi C;obtain⟨d1,gb,cp⟩:=E 14 (by kernel_rfl) (by decide) 22 rfl;obtain rfl:d1=v.Q3:=cp;have y:=((aB.refl (fun _=>False) w).drew).trans n (fun _ _ h=>h);have I:=aj.same (RF:=cA) (D':=fun _ b=>b<w0.heap.size) HP.out.Q3 (fun b l=>l) (aW.of_keep y fun b l=>⟨Nat.lt_of_lt_of_le l G.out,fun x=>x⟩) (fun _ _ b l=>l) (fun _ _=>aW.of_keep y fun b l=>⟨Nat.lt_of_lt_of_le l G.out,fun x=>x⟩);have H:=xw (D:=fun _ b=>b<w0.heap.size) I;have M:=hh H;clear I H y;have J:=hh r;clear r;obtain⟨T,d⟩:=L;go_simp;refine M.out.mono ?_;rintro e N ⟨v2,cs,rfl,g1,g2,g3⟩;exact J.out v2 N (n.trans g3 (fun _ _ h=>h)) (fun j u h=>STAB.out w' N n g3 j u h) (eE aj g1 g2 g3 (Nat.le_trans G.out n.size) HL.out.2.2.2.1)
  | 16,_,C,E,r =>
   obtain rfl:=oi C;obtain⟨T,d⟩:=L;go_simp;exact r (.pointer (some ⟨S,6,none⟩)) _ n (fun _ _ h=>h) rfl
  | 17,_,C,E,r =>
   obtain rfl:=oi C;obtain⟨d2,gf,ct⟩:=E 16 (by kernel_rfl) (by decide) 24 rfl;obtain rfl:d2=.pointer (some ⟨S,6,none⟩):=ct;have q:=HC.out w' n 6 _ rfl;obtain⟨T,d⟩:=L;go_simp;exact r (v.Q8) _ n (fun _ _ h=>h) rfl
  | 18,_,C,E,r =>
   obtain rfl:=oi C;obtain⟨d3,gg,cu⟩:=E 17 (by kernel_rfl) (by decide) 25 rfl;obtain rfl:d3=v.Q8:=cu;have y:=((aB.refl (fun _=>False) w).drew).trans n (fun _ _ h=>h);have I:=cj.same (RF:=(fun _=>cB)) (D':=fun _ b=>b<w0.heap.size) HP.out.Q8 (fun b l=>l) (aW.of_keep y fun b l=>⟨Nat.lt_of_lt_of_le l G.out,fun x=>x⟩) (fun _ _ b l=>l) (fun _ _=>aW.of_keep y fun b l=>⟨Nat.lt_of_lt_of_le l G.out,fun x=>x⟩);have H:=xv (D:=fun _ b=>b<w0.heap.size) I;have M:=hh H;clear I H y;have J:=hh r;clear r;obtain⟨T,d⟩:=L;go_simp;refine M.out.mono ?_;rintro e N ⟨v2,cs,rfl,g1,g2,g3⟩;exact J.out v2 N (n.trans g3 (fun _ _ h=>h)) (fun j u h=>STAB.out w' N n g3 j u h) (eE cj g1 g2 g3 (Nat.le_trans G.out n.size) HL.out.2.2.2.2.1)
  | 19,_,C,E,r =>
   obtain rfl:=oi C;obtain⟨T,d⟩:=L;go_simp;exact r (.pointer (some ⟨S,7,none⟩)) _ n (fun _ _ h=>h) rfl
  | 20,_,C,E,r =>
   obtain rfl:=oi C;obtain⟨d4,gn,cv⟩:=E 19 (by kernel_rfl) (by decide) 27 rfl;obtain rfl:d4=.pointer (some ⟨S,7,none⟩):=cv;have q:=HC.out w' n 7 _ rfl;obtain⟨T,d⟩:=L;go_simp;exact r (v.QG) _ n (fun _ _ h=>h) rfl
  | 21,_,C,E,r =>
   obtain rfl:=oi C;obtain⟨d5,go,cw⟩:=E 20 (by kernel_rfl) (by decide) 28 rfl;obtain rfl:d5=v.QG:=cw;have y:=((aB.refl (fun _=>False) w).drew).trans n (fun _ _ h=>h);have I:=fL.same (RF:=(fun _=>fR)) (D':=fun _ b=>b<w0.heap.size) HP.out.QG (fun b l=>l) (aW.of_keep y fun b l=>⟨Nat.lt_of_lt_of_le l G.out,fun x=>x⟩) (fun _ _ b l=>l) (fun _ _=>aW.of_keep y fun b l=>⟨Nat.lt_of_lt_of_le l G.out,fun x=>x⟩);have H:=xu (D:=fun _ b=>b<w0.heap.size) I;have M:=hh H;clear I H y;have J:=hh r;clear r;obtain⟨T,d⟩:=L;go_simp;refine M.out.mono ?_;rintro e N ⟨v2,cs,rfl,g1,g2,g3⟩;exact J.out v2 N (n.trans g3 (fun _ _ h=>h)) (fun j u h=>STAB.out w' N n g3 j u h) (eE fL g1 g2 g3 (Nat.le_trans G.out n.size) HL.out.2.2.2.2.2.1)
  | 22,_,C,E,r =>
   obtain rfl:=oi C;obtain⟨T,d⟩:=L;go_simp;exact r (.pointer (some ⟨S,9,none⟩)) _ n (fun _ _ h=>h) rfl
  | 23,_,C,E,r =>
   obtain rfl:=oi C;obtain⟨d6,gr,cx⟩:=E 22 (by kernel_rfl) (by decide) 30 rfl;obtain rfl:d6=.pointer (some ⟨S,9,none⟩):=cx;have q:=HC.out w' n 9 _ rfl;obtain⟨T,d⟩:=L;go_simp;exact r (v.Q9) _ n (fun _ _ h=>h) rfl
  | 24,_,C,E,r =>
   obtain rfl:=oi C;obtain⟨d7,gs,cy⟩:=E 23 (by kernel_rfl) (by decide) 31 rfl;obtain rfl:d7=v.Q9:=cy;have y:=((aB.refl (fun _=>False) w).drew).trans n (fun _ _ h=>h);have I:=au.same (RF:=eY) (D':=fun _ b=>b<w0.heap.size) HP.out.Q9 (fun b l=>l) (aW.of_keep y fun b l=>⟨Nat.lt_of_lt_of_le l G.out,fun x=>x⟩) (fun _ _ b l=>l) (fun _ _=>aW.of_keep y fun b l=>⟨Nat.lt_of_lt_of_le l G.out,fun x=>x⟩);have H:=xt (D:=fun _ b=>b<w0.heap.size) I;have M:=hh H;clear I H y;have J:=hh r;clear r;obtain⟨T,d⟩:=L;go_simp;refine M.out.mono ?_;rintro e N ⟨v2,cs,rfl,g1,g2,g3⟩;exact J.out v2 N (n.trans g3 (fun _ _ h=>h)) (fun j u h=>STAB.out w' N n g3 j u h) (eE au g1 g2 g3 (Nat.le_trans G.out n.size) HL.out.2.2.2.2.2.2.2.1)
  | 25,_,C,E,r =>
   obtain rfl:=oi C;obtain⟨T,d⟩:=L;go_simp;exact r (.pointer (some ⟨S,10,none⟩)) _ n (fun _ _ h=>h) rfl
  | 26,_,C,E,r =>
   obtain rfl:=oi C;obtain⟨d8,gw,c1⟩:=E 25 (by kernel_rfl) (by decide) 33 rfl;obtain rfl:d8=.pointer (some ⟨S,10,none⟩):=c1;have q:=HC.out w' n 10 _ rfl;obtain⟨T,d⟩:=L;go_simp;exact r (v.QD) _ n (fun _ _ h=>h) rfl
  | 27,_,C,E,r =>
   obtain rfl:=oi C;obtain⟨d9,gx,c2⟩:=E 26 (by kernel_rfl) (by decide) 34 rfl;obtain rfl:d9=v.QD:=c2;have y:=((aB.refl (fun _=>False) w).drew).trans n (fun _ _ h=>h);have I:=cH.same (RF:=(fun _=>cJ)) (D':=fun _ b=>b<w0.heap.size) HP.out.QD (fun b l=>l) (aW.of_keep y fun b l=>⟨Nat.lt_of_lt_of_le l G.out,fun x=>x⟩) (fun _ _ b l=>l) (fun _ _=>aW.of_keep y fun b l=>⟨Nat.lt_of_lt_of_le l G.out,fun x=>x⟩);have H:=pG (D:=fun _ b=>b<w0.heap.size) I;have M:=hh H;clear I H y;have J:=hh r;clear r;obtain⟨T,d⟩:=L;go_simp;refine M.out.mono ?_;rintro e N ⟨v2,cs,rfl,g1,g2,g3⟩;exact J.out v2 N (n.trans g3 (fun _ _ h=>h)) (fun j u h=>STAB.out w' N n g3 j u h) (eE cH g1 g2 g3 (Nat.le_trans G.out n.size) HL.out.2.2.2.2.2.2.2.2.1)
  | 28,_,C,E,r =>
   obtain rfl:=oi C;obtain⟨T,d⟩:=L;go_simp;exact r (.pointer (some ⟨S,11,none⟩)) _ n (fun _ _ h=>h) rfl
  | 29,_,C,E,r =>
   obtain rfl:=oi C;obtain⟨eb,ha,c3⟩:=E 28 (by kernel_rfl) (by decide) 36 rfl;obtain rfl:eb=.pointer (some ⟨S,11,none⟩):=c3;have q:=HC.out w' n 11 _ rfl;obtain⟨T,d⟩:=L;go_simp;exact r (v.QE) _ n (fun _ _ h=>h) rfl
  | 30,_,C,E,r =>
   obtain rfl:=oi C;obtain⟨eg,he,c4⟩:=E 29 (by kernel_rfl) (by decide) 37 rfl;obtain rfl:eg=v.QE:=c4;have y:=((aB.refl (fun _=>False) w).drew).trans n (fun _ _ h=>h);have I:=cH.same (RF:=(fun _=>cJ)) (D':=fun _ b=>b<w0.heap.size) HP.out.QE (fun b l=>l) (aW.of_keep y fun b l=>⟨Nat.lt_of_lt_of_le l G.out,fun x=>x⟩) (fun _ _ b l=>l) (fun _ _=>aW.of_keep y fun b l=>⟨Nat.lt_of_lt_of_le l G.out,fun x=>x⟩);have H:=pG (D:=fun _ b=>b<w0.heap.size) I;have M:=hh H;clear I H y;have J:=hh r;clear r;obtain⟨T,d⟩:=L;go_simp;refine M.out.mono ?_;rintro e N ⟨v2,cs,rfl,g1,g2,g3⟩;exact J.out v2 N (n.trans g3 (fun _ _ h=>h)) (fun j u h=>STAB.out w' N n g3 j u h) (eE cH g1 g2 g3 (Nat.le_trans G.out n.size) HL.out.2.2.2.2.2.2.2.2.2.1)
  | 31,_,C,E,r =>
   obtain rfl:=oi C;obtain⟨T,d⟩:=L;go_simp;exact r (.pointer (some ⟨S,8,none⟩)) _ n (fun _ _ h=>h) rfl
  | 32,_,C,E,r =>
   obtain rfl:=oi C;obtain⟨el,hl,c5⟩:=E 31 (by kernel_rfl) (by decide) 39 rfl;obtain rfl:el=.pointer (some ⟨S,8,none⟩):=c5;have q:=HC.out w' n 8 _ rfl;obtain⟨T,d⟩:=L;go_simp;exact r (v.QC) _ n (fun _ _ h=>h) rfl
  | 33,_,C,E,r =>
   obtain rfl:=oi C;obtain⟨em,hn,c6⟩:=E 32 (by kernel_rfl) (by decide) 40 rfl;obtain rfl:em=v.QC:=c6;have y:=((aB.refl (fun _=>False) w).drew).trans n (fun _ _ h=>h);have I:=dc.same (RF:=(fun _=>co)) (D':=fun _ b=>b<w0.heap.size) HP.out.QC (fun b l=>l) (aW.of_keep y fun b l=>⟨Nat.lt_of_lt_of_le l G.out,fun x=>x⟩) (fun _ _ b l=>l) (fun _ _=>aW.of_keep y fun b l=>⟨Nat.lt_of_lt_of_le l G.out,fun x=>x⟩);have H:=xr (D:=fun _ b=>b<w0.heap.size) I;have M:=hh H;clear I H y;have J:=hh r;clear r;obtain⟨T,d⟩:=L;go_simp;refine M.out.mono ?_;rintro e N ⟨v2,cs,rfl,g1,g2,g3⟩;exact J.out v2 N (n.trans g3 (fun _ _ h=>h)) (fun j u h=>STAB.out w' N n g3 j u h) (eE dc g1 g2 g3 (Nat.le_trans G.out n.size) HL.out.2.2.2.2.2.2.1)
  | 34,_,C,E,r =>
   obtain rfl:=oi C;obtain⟨T,d⟩:=L;go_simp;exact r (.pointer (some ⟨S,12,none⟩)) _ n (fun _ _ h=>h) rfl
  | 35,_,C,E,r =>
   obtain rfl:=oi C;obtain⟨en,hs,c7⟩:=E 34 (by kernel_rfl) (by decide) 42 rfl;obtain rfl:en=.pointer (some ⟨S,12,none⟩):=c7;have q:=HC.out w' n 12 _ rfl;obtain⟨T,d⟩:=L;go_simp;exact r (v.QB) _ n (fun _ _ h=>h) rfl
  | 36,_,C,E,r =>
   obtain rfl:=oi C;obtain⟨eo,ht,c8⟩:=E 35 (by kernel_rfl) (by decide) 43 rfl;obtain rfl:eo=v.QB:=c8;have y:=((aB.refl (fun _=>False) w).drew).trans n (fun _ _ h=>h);have I:=cH.same (RF:=(fun _=>cJ)) (D':=fun _ b=>b<w0.heap.size) HP.out.QB (fun b l=>l) (aW.of_keep y fun b l=>⟨Nat.lt_of_lt_of_le l G.out,fun x=>x⟩) (fun _ _ b l=>l) (fun _ _=>aW.of_keep y fun b l=>⟨Nat.lt_of_lt_of_le l G.out,fun x=>x⟩);have H:=pG (D:=fun _ b=>b<w0.heap.size) I;have M:=hh H;clear I H y;have J:=hh r;clear r;obtain⟨T,d⟩:=L;go_simp;refine M.out.mono ?_;rintro e N ⟨v2,cs,rfl,g1,g2,g3⟩;exact J.out v2 N (n.trans g3 (fun _ _ h=>h)) (fun j u h=>STAB.out w' N n g3 j u h) (eE cH g1 g2 g3 (Nat.le_trans G.out n.size) HL.out.2.2.2.2.2.2.2.2.2.2.1)
  | 37,_,C,E,r =>
   obtain rfl:=oi C;obtain⟨T,d⟩:=L;go_simp;exact r (.pointer (some ⟨S,13,none⟩)) _ n (fun _ _ h=>h) rfl
  | 38,_,C,E,r =>
   obtain rfl:=oi C;obtain⟨er,hy,c9⟩:=E 37 (by kernel_rfl) (by decide) 45 rfl;obtain rfl:er=.pointer (some ⟨S,13,none⟩):=c9;have q:=HC.out w' n 13 _ rfl;obtain⟨T,d⟩:=L;go_simp;exact r (v.QA) _ n (fun _ _ h=>h) rfl
  | 39,_,C,E,r =>
   obtain rfl:=oi C;obtain⟨es,h0,di⟩:=E 38 (by kernel_rfl) (by decide) 46 rfl;obtain rfl:es=v.QA:=di;have y:=((aB.refl (fun _=>False) w).drew).trans n (fun _ _ h=>h);have I:=fN.same (RF:=(fun _=>fS)) (D':=fun _ b=>b<w0.heap.size) HP.out.QA (fun b l=>l) (aW.of_keep y fun b l=>⟨Nat.lt_of_lt_of_le l G.out,fun x=>x⟩) (fun _ _ b l=>l) (fun _ _=>aW.of_keep y fun b l=>⟨Nat.lt_of_lt_of_le l G.out,fun x=>x⟩);have H:=xq (D:=fun _ b=>b<w0.heap.size) I;have M:=hh H;clear I H y;have J:=hh r;clear r;obtain⟨T,d⟩:=L;go_simp;refine M.out.mono ?_;rintro e N ⟨v2,cs,rfl,g1,g2,g3⟩;exact J.out v2 N (n.trans g3 (fun _ _ h=>h)) (fun j u h=>STAB.out w' N n g3 j u h) (eE fN g1 g2 g3 (Nat.le_trans G.out n.size) HL.out.2.2.2.2.2.2.2.2.2.2.2)
  | 40,_,C,E,r =>
   obtain rfl:=oi C;obtain⟨fy,h7,e8⟩:=E 1 (by kernel_rfl) (by decide) 9 rfl;obtain rfl:fy=.int .i64 P.pos:=e8;obtain⟨f0,h9,fc⟩:=E 3 (by kernel_rfl) (by decide) 11 rfl;obtain rfl:f0=.string P.name:=fc;obtain⟨e1,ix,bt⟩:=E 6 (by kernel_rfl) (by decide) 14 rfl;replace bt:cP w0.heap.size 41 3 (fun _=>fP) w' e1 P.QF:=bt;obtain⟨e2,i2,bu⟩:=E 9 (by kernel_rfl) (by decide) 17 rfl;replace bu:cP w0.heap.size 45 5 cq w' e2 P.Q4:=bu;obtain⟨bz,f7,a3⟩:=E 12 (by kernel_rfl) (by decide) 20 rfl;replace a3:cP w0.heap.size 48 10 (fun _=>cO) w' bz P.Q5:=a3;obtain⟨b0,gd,a4⟩:=E 15 (by kernel_rfl) (by decide) 23 rfl;replace a4:cP w0.heap.size 52 6 cA w' b0 P.Q3:=a4;obtain⟨b1,gl,a5⟩:=E 18 (by kernel_rfl) (by decide) 26 rfl;replace a5:cP w0.heap.size 55 8 (fun _=>cB) w' b1 P.Q8:=a5;obtain⟨b2,gp,a6⟩:=E 21 (by kernel_rfl) (by decide) 29 rfl;replace a6:cP w0.heap.size 58 6 (fun _=>fR) w' b2 P.QG:=a6;obtain⟨b3,gt,a7⟩:=E 24 (by kernel_rfl) (by decide) 32 rfl;replace a7:cP w0.heap.size 62 4 eY w' b3 P.Q9:=a7;obtain⟨b4,gy,a8⟩:=E 27 (by kernel_rfl) (by decide) 35 rfl;replace a8:cP w0.heap.size 78 2 (fun _=>cJ) w' b4 P.QD:=a8;obtain⟨b5,hf,a9⟩:=E 30 (by kernel_rfl) (by decide) 38 rfl;replace a9:cP w0.heap.size 78 2 (fun _=>cJ) w' b5 P.QE:=a9;obtain⟨cb,hq,bb⟩:=E 33 (by kernel_rfl) (by decide) 41 rfl;replace bb:cP w0.heap.size 65 6 (fun _=>co) w' cb P.QC:=bb;obtain⟨cc,hu,bc⟩:=E 36 (by kernel_rfl) (by decide) 44 rfl;replace bc:cP w0.heap.size 78 2 (fun _=>cJ) w' cc P.QB:=bc;obtain⟨cd,h4,bd⟩:=E 39 (by kernel_rfl) (by decide) 47 rfl;replace bd:cP w0.heap.size 68 3 (fun _=>fS) w' cd P.QA:=bd;obtain⟨A_rams,bp,rfl⟩:∃A c,e1=.slice A P.QF.length c:=by obtain⟨⟨A,c,e,_⟩,_⟩:=bt;exact⟨A,c,e⟩
   obtain⟨A_devices,ah,rfl⟩:∃A c,e2=.slice A P.Q4.length c:=by obtain⟨⟨A,c,e,_⟩,_⟩:=bu;exact⟨A,c,e⟩
   obtain⟨A_regions,a1,rfl⟩:∃A c,bz=.slice A P.Q5.length c:=by obtain⟨⟨A,c,e,_⟩,_⟩:=a3;exact⟨A,c,e⟩
   obtain⟨A_subjects,af,rfl⟩:∃A c,b0=.slice A P.Q3.length c:=by obtain⟨⟨A,c,e,_⟩,_⟩:=a4;exact⟨A,c,e⟩
   obtain⟨A_channels,ac,rfl⟩:∃A c,b1=.slice A P.Q8.length c:=by obtain⟨⟨A,c,e,_⟩,_⟩:=a5;exact⟨A,c,e⟩
   obtain⟨A_irqs,bo,rfl⟩:∃A c,b2=.slice A P.QG.length c:=by obtain⟨⟨A,c,e,_⟩,_⟩:=a6;exact⟨A,c,e⟩
   obtain⟨A_queues,be,rfl⟩:∃A c,cb=.slice A P.QC.length c:=by obtain⟨⟨A,c,e,_⟩,_⟩:=bb;exact⟨A,c,e⟩
   obtain⟨A_plans,bj,rfl⟩:∃A c,b3=.slice A P.Q9.length c:=by obtain⟨⟨A,c,e,_⟩,_⟩:=a7;exact⟨A,c,e⟩
   obtain⟨A_masters,a0,rfl⟩:∃A c,b4=.slice A P.QD.length c:=by obtain⟨⟨A,c,e,_⟩,_⟩:=a8;exact⟨A,c,e⟩
   obtain⟨A_starts,bf,rfl⟩:∃A c,b5=.slice A P.QE.length c:=by obtain⟨⟨A,c,e,_⟩,_⟩:=a9;exact⟨A,c,e⟩
   obtain⟨A_monitors,ad,rfl⟩:∃A c,cc=.slice A P.QB.length c:=by obtain⟨⟨A,c,e,_⟩,_⟩:=bc;exact⟨A,c,e⟩
   obtain⟨A_forbids,an,rfl⟩:∃A c,cd=.slice A P.QA.length c:=by obtain⟨⟨A,c,e,_⟩,_⟩:=bd;exact⟨A,c,e⟩
   have J:=hh r;clear r;obtain⟨T,d⟩:=L;go_simp;refine J.out _ _ n (fun _ _ h=>h) ⟨⟨.slice A_rams P.QF.length bp,.slice A_devices P.Q4.length ah,.slice A_regions P.Q5.length a1,.slice A_subjects P.Q3.length af,.slice A_channels P.Q8.length ac,.slice A_irqs P.QG.length bo,.slice A_queues P.QC.length be,.slice A_plans P.Q9.length bj,.slice A_masters P.QD.length a0,.slice A_starts P.QE.length bf,.slice A_monitors P.QB.length ad,.slice A_forbids P.QA.length an⟩,rfl,⟨bt,bu,a3,a4,a5,a6,bb,a7,a8,a9,bc,bd⟩⟩
  | 41,_,C,E,r =>
   obtain rfl:=oi C;have J:=hh r;clear r;obtain⟨T,d⟩:=L;go_simp;exact J.out _ _ (n.alloc _) (fun j u h=>STAB.out w' _ n ((aB.refl _ _).alloc _) j u h) ⟨w'.heap.size,rfl,n.size,heap_alloc_new _ _⟩
  | i+42,hi,_,_,_=>omega
 ·intro o C L w' n l E
  obtain rfl:=oi C;have dk:L.tmps.size=150:=l.size.trans (by first|assumption|(simp only[Array.size_setIfInBounds];assumption));have e5:=l.Q7 h1 rfl;obtain⟨ev,cf,bl⟩:=E 40 (by decide) 48 rfl;replace bl:∃v',ev=.agg (v'.cells P).toArray∧kH w0.heap.size w' v' P:=bl;obtain⟨e0,bw,bm⟩:=E 41 (by decide) 3 rfl;replace bm:∃z,e0=.pointer (some ⟨z,0,none⟩)∧w.heap.size≤z∧w'.heap[z]?=some (.cells #[.int .i64 0,.string { data := #[] },.slice none 0 0,.slice none 0 0,.slice none 0 0,.slice none 0 0,.slice none 0 0,.slice none 0 0,.slice none 0 0,.slice none 0 0,.slice none 0 0,.slice none 0 0,.slice none 0 0,.slice none 0 0] 34 (0,0)):=bm;obtain⟨z,rfl,hz,hc⟩:=bm;obtain⟨v',rfl,hm⟩:=bl;have h3:=bw;have ft:w.heap.size≤z:=hz;replace hz:w0.heap.size≤z:=Nat.le_trans G.out ft;refine wpList_store_row rfl 34 (.tmp 3) (.tmp 48) rfl z (v'.cells P).toArray (bw.eval (by omega)) (cf.eval (by omega)) 34 _ hc Tryz.info34C rfl hm.ones (ln ?_);have O:=lf (cs:=(v'.cells P).toArray) hc;have X:bk w' z=some 34:=by unfold bk;rw[hc]
  have fm:w0.heap.size≤w'.heap.size:=Nat.le_trans G.out n.size;obtain⟨W,Y⟩:=hm.QL fm HP.out.pos HP.out.name;have fs:∀k,bk (w'.setRow z (v'.cells P).toArray) k=bk w' k:=fun k=>by
   by_cases e:k=z
   ·subst e;unfold bk;rw[setRow_heap w' k _ _ _ _ hc,hc]
   ·unfold bk;rw[setRow_other w' z k _ e]
  have fl:Kz w0 (w'.setRow z (v'.cells P).toArray):=((e6.out.drew).trans n (fun _ _ h=>h)).trans O (fun i hi e=>by omega);have fr:∀T b,T≠34→Dm w0.heap.size w' T b→b≠z:=fun T b hT l=>l.ne hz X hT
  have U:∀T b,Dm w0.heap.size w' T b→Dm w0.heap.size (w'.setRow z (v'.cells P).toArray) T b:=fun T b l=>⟨Nat.lt_of_lt_of_le l.1 O.size,l.2.imp id fun e=>(fs b).trans e⟩
  have V:∀T,T≠34→aW (Dm w0.heap.size w' T) w' (w'.setRow z (v'.cells P).toArray):=fun T hT=>aW.of_keep O fun b l=>⟨l.1,fr T b hT l⟩
  refine HQ.out _ _ z v' (l.agree (by kernel_rfl)) (by simpa[Act.put]using h3) ⟨fl,rfl,setRow_heap w' z _ _ _ _ hc,hz,fun z' c' hr=>((O.block z' (Nat.lt_of_lt_of_le (aG (a2.out z' c' hr)) n.size) (fun e=>by have:=aG (a2.out z' c' hr);omega)).trans (n.block z' (aG (a2.out z' c' hr)) (fun x=>x))).trans (a2.out z' c' hr),⟨aD W.QF (fun b l=>U _ b l) (V _ (by decide)),ao.same W.Q4 (fun b l=>U _ b l) (V _ (by decide)) (fun T _ b l=>U T b l) (fun T hT=>V T (by subst hT;decide)),aD W.Q5 (fun b l=>U _ b l) (V _ (by decide)),aj.same W.Q3 (fun b l=>U _ b l) (V _ (by decide)) (fun T _ b l=>U T b l) (fun T hT=>V T (by rcases hT with rfl|rfl<;>decide)),aD W.Q8 (fun b l=>U _ b l) (V _ (by decide)),aD W.QG (fun b l=>U _ b l) (V _ (by decide)),aD W.QC (fun b l=>U _ b l) (V _ (by decide)),au.same W.Q9 (fun b l=>U _ b l) (V _ (by decide)) (fun T _ b l=>U T b l) (fun T hT=>V T (by rcases hT with rfl|rfl<;>decide)),aD W.QD (fun b l=>U _ b l) (V _ (by decide)),aD W.QE (fun b l=>U _ b l) (V _ (by decide)),aD W.QB (fun b l=>U _ b l) (V _ (by decide)),aD W.QA (fun b l=>U _ b l) (V _ (by decide)),W.pos,W.name⟩,⟨let⟨cs,hcs⟩:=Y.QF;⟨cs,aR hcs O (fun g Z e=>by have:=(aL hcs Z).2.2;rw[e,X]at this;exact absurd (Option.some.inj this) (by decide))⟩,let⟨cs,hcs⟩:=Y.Q4;⟨cs,aR hcs O (fun g Z e=>by have:=(aL hcs Z).2.2;rw[e,X]at this;exact absurd (Option.some.inj this) (by decide))⟩,let⟨cs,hcs⟩:=Y.Q5;⟨cs,aR hcs O (fun g Z e=>by have:=(aL hcs Z).2.2;rw[e,X]at this;exact absurd (Option.some.inj this) (by decide))⟩,let⟨cs,hcs⟩:=Y.Q3;⟨cs,aR hcs O (fun g Z e=>by have:=(aL hcs Z).2.2;rw[e,X]at this;exact absurd (Option.some.inj this) (by decide))⟩,let⟨cs,hcs⟩:=Y.Q8;⟨cs,aR hcs O (fun g Z e=>by have:=(aL hcs Z).2.2;rw[e,X]at this;exact absurd (Option.some.inj this) (by decide))⟩,let⟨cs,hcs⟩:=Y.QG;⟨cs,aR hcs O (fun g Z e=>by have:=(aL hcs Z).2.2;rw[e,X]at this;exact absurd (Option.some.inj this) (by decide))⟩,let⟨cs,hcs⟩:=Y.QC;⟨cs,aR hcs O (fun g Z e=>by have:=(aL hcs Z).2.2;rw[e,X]at this;exact absurd (Option.some.inj this) (by decide))⟩,let⟨cs,hcs⟩:=Y.Q9;⟨cs,aR hcs O (fun g Z e=>by have:=(aL hcs Z).2.2;rw[e,X]at this;exact absurd (Option.some.inj this) (by decide))⟩,let⟨cs,hcs⟩:=Y.QD;⟨cs,aR hcs O (fun g Z e=>by have:=(aL hcs Z).2.2;rw[e,X]at this;exact absurd (Option.some.inj this) (by decide))⟩,let⟨cs,hcs⟩:=Y.QE;⟨cs,aR hcs O (fun g Z e=>by have:=(aL hcs Z).2.2;rw[e,X]at this;exact absurd (Option.some.inj this) (by decide))⟩,let⟨cs,hcs⟩:=Y.QB;⟨cs,aR hcs O (fun g Z e=>by have:=(aL hcs Z).2.2;rw[e,X]at this;exact absurd (Option.some.inj this) (by decide))⟩,let⟨cs,hcs⟩:=Y.QA;⟨cs,aR hcs O (fun g Z e=>by have:=(aL hcs Z).2.2;rw[e,X]at this;exact absurd (Option.some.inj this) (by decide))⟩⟩⟩ ?_;exact(((aB.refl _ w).drew).trans n (fun _ _ h=>h)).trans O (fun i hi e=>by omega)
theorem md{R:Nat→Array Value→Prop}{v2:aV}{P:aC}(ah:Cop R n0 w0 zq v2 P w)(a:Act)(X:a.tmps.size=150)(h3:At a 3 (.pointer (some ⟨zq,0,none⟩)))(Q:Exit→Act→World→Prop)
 (hQ:∀r w',aA (fun i=>i==4||(rg 49 67 i)) a r→Cop R n0 w0 zq v2 P w'→Q .normal r w'):(al Tryz.f10 [1,1,0]).wp Tryz.prog Q a w:=by
 have d2:P.Q4.length≤2097152:=by obtain⟨_,_,_,_,h,_⟩:=ah.QL.Q4;exact h
 have HQ:=hh hQ;clear hQ
 conv=>arg 2;whnf
 refine so (fun a1 w1=>aA (fun i=>i==4) a a1∧At a1 4 (.int .i64 0)∧w1=w) ?_ ?_
 ·have af:aA (fun i=>i==4) a a:=aA.refl _ _
  obtain⟨T,d⟩:=a;refine rl ?_;with_reducible refine st ?_
  refine ln ⟨rfl,ag,aq,rfl⟩
 rintro a1 w1 ⟨bz,M,rfl⟩;refine gz P.Q4.length (fun k r w'=>aA (fun i=>i==4||(rg 49 67 i)) a r∧At r 4 (.int .i64 (k:Nat))∧Cop R n0 w0 zq v2 P w') (fun k r w'=>aA (fun i=>i==4||(rg 49 67 i)) a r∧At r 4 (.int .i64 (k:Nat))∧Cop R n0 w0 zq v2 P w') (fun a=>match a.eval (.tmp 4)with|.int _ x=>x.toNat|_=>0) ⟨bz.m,M,ah⟩ ?_ ?_ ?_ ?_ ?_
 ·rintro k r w' ⟨C,hk,_⟩
  rw[hk.eval (by rw[C.size];omega)];show((k:Nat):Int).toNat=k;omega
 ·rintro k b H d1 ⟨C,M,E⟩
  have Y:=C.Q7 h3 rfl;have S:=C.size.trans X;obtain⟨A0,c0,e0,b1,d3,_⟩:=E.QL.Q4;have q:H.cell? ⟨zq,3,none⟩=some (.slice A0 P.Q4.length c0):=by rw[cell_of_row _ _ _ _ _ _ E.cell,←e0];rfl
  have a2:(decide ((k:Int)<(P.Q4.length:Int)))=decide (k<P.Q4.length):=by simp
  have HC:=hh E;have HA:=hh C;clear E C e0;have af:aA (fun i=>rg 49 53 i) b b:=aA.refl _ _;obtain⟨T,d⟩:=b;refine rl ?_
  iterate 5 with_reducible refine st ?_
  refine ln ?_;skip;refine⟨rfl,⟨HA.out.trans (vs:=fun i=>rg 49 53 i) (by exact ag) (by intro j;simp;omega),ar,HC.out⟩,?_⟩;refine At.eval (i:=53) ?_ (by simp;have:=S;simp at this;omega)
  first|(exact aq)|(rw[←a2];exact aq)
 ·rintro k b H a3 ⟨C,M,E⟩
  have Y:=C.Q7 h3 rfl;have S:=C.size.trans X;obtain⟨x,hx⟩:=ge a3;obtain⟨cy,O⟩:=E.QI.Q4;obtain⟨l,V,L⟩:∃g c,v2.Q4=.slice (some ⟨g,0,none⟩) P.Q4.length c:=by obtain⟨g,c,e,_⟩:=O.form (by omega);exact⟨g,c,e⟩
  obtain⟨ds,a0,d0⟩:=aL O (g:=l) (by rw[L];rfl);have a8:=E.QL.Q4;rw[L]at a8;obtain⟨A,c1,e,b1,_,hl⟩:=a8;obtain⟨rfl,rfl⟩:some ⟨l,0,none⟩=A∧V=c1:=by simpa using e
  obtain⟨b0,off,e,_,hr⟩:=hl (by omega);obtain⟨rfl,rfl⟩:l=b0∧0=off:=by simpa using e
  obtain⟨mv,G,a4,_⟩:=hr k x hx;rw[Nat.zero_add]at G;have q:H.cell? ⟨zq,3,none⟩=some (.slice (some ⟨l,0,none⟩) P.Q4.length V):=by rw[cell_of_row _ _ _ _ _ _ E.cell,←L];rfl
  have qm:H.cell? ⟨l,k*5+4,none⟩=some mv:=G 4 _ rfl;have fz:H.frozen? ⟨l,k*5+4,none⟩=false:=by obtain⟨c2,a5⟩:=E.QI.Q4;rw[L]at a5;exact a5.frozenAt _
  have b3:=aG E.cell;have a6:Hid (∀w',Kz H.drew w'→w'.cell? ⟨zq,3,none⟩=some (.slice (some ⟨l,0,none⟩) P.Q4.length V)):=hh fun w' hw=>(hw.cell (p:=⟨zq,3,none⟩) b3 (fun x=>x)).trans q
  have a7:Hid (∀w',Kz H.drew w'→w'.cell? ⟨l,k*5+4,none⟩=some mv):=hh fun w' hw=>(hw.cell (p:=⟨l,k*5+4,none⟩) a0 (fun x=>x)).trans qm
  have b2:Hid (∀w',Kz H.drew w'→w'.frozen? ⟨l,k*5+4,none⟩=false):=hh fun w' hw=>(hw.frozen (p:=⟨l,k*5+4,none⟩) a0 (fun x=>x)).trans fz
  have HC:=hh E;have HA:=hh C;have HM:=hh a4;have HX:=hh hx;have HV:=hh L;clear E C O hl hr G a4 q qm fz hx L e;refine cS 12 (fun jj w_ u_=>if jj=9 then aM (Dm n0 w_ 71) 5 cD w_ u_ x.maps else u_=([.pointer (some ⟨zq,3,none⟩),.slice (some ⟨l,0,none⟩) P.Q4.length V,.int .i64 (k:Nat),.pointer (some ⟨zq,3,none⟩),.slice (some ⟨l,0,none⟩) P.Q4.length V,.int .i64 (k:Nat),.pointer (some ⟨l,k*5,none⟩),.pointer (some ⟨l,k*5+4,none⟩),mv,undef,.pointer (some ⟨l,k*5,none⟩),.pointer (some ⟨l,k*5+4,none⟩)]:List Value).getD jj undef) (fun w'=>Kz H.drew w') (by kernel_rfl) (by kernel_rfl) (aB.refl _ _) ?_ ?_
  ·intro i o hi n r w' K B J y v
   have a9:r.tmps.size=150:=J.size.trans (by first|assumption|(simp only[Array.size_setIfInBounds];assumption));have U:=J.Q7 M rfl;have Z:=J.Q7 Y rfl
   match i,hi,n,y,v with
   | 0,_,n,y,v =>
    obtain rfl:=oi n;obtain⟨T,d⟩:=r;go_simp;exact v (.pointer (some ⟨zq,3,none⟩)) _ B (fun _ _ h=>h) rfl
   | 1,_,n,y,v =>
    obtain rfl:=oi n;obtain⟨b5,c3,bj⟩:=y 0 (by kernel_rfl) (by decide) 56 rfl;obtain rfl:b5=.pointer (some ⟨zq,3,none⟩):=bj;have qq:=a6.out w' B;obtain⟨T,d⟩:=r;go_simp;exact v (.slice (some ⟨l,0,none⟩) P.Q4.length V) _ B (fun _ _ h=>h) rfl
   | 2,_,n,y,v =>
    obtain rfl:=oi n;obtain⟨T,d⟩:=r;go_simp;exact v (.int .i64 (k:Nat)) _ B (fun _ _ h=>h) rfl
   | 3,_,n,y,v =>
    obtain rfl:=oi n;obtain⟨T,d⟩:=r;go_simp;exact v (.pointer (some ⟨zq,3,none⟩)) _ B (fun _ _ h=>h) rfl
   | 4,_,n,y,v =>
    obtain rfl:=oi n;obtain⟨cf,c6,bo⟩:=y 3 (by kernel_rfl) (by decide) 59 rfl;obtain rfl:cf=.pointer (some ⟨zq,3,none⟩):=bo;have qq:=a6.out w' B;obtain⟨T,d⟩:=r;go_simp;exact v (.slice (some ⟨l,0,none⟩) P.Q4.length V) _ B (fun _ _ h=>h) rfl
   | 5,_,n,y,v =>
    obtain rfl:=oi n;obtain⟨T,d⟩:=r;go_simp;exact v (.int .i64 (k:Nat)) _ B (fun _ _ h=>h) rfl
   | 6,_,n,y,v =>
    obtain rfl:=oi n;obtain⟨ci,c7,bp⟩:=y 4 (by kernel_rfl) (by decide) 60 rfl;obtain rfl:ci=.slice (some ⟨l,0,none⟩) P.Q4.length V:=bp;obtain⟨cl,c8,bt⟩:=y 5 (by kernel_rfl) (by decide) 61 rfl;obtain rfl:cl=.int .i64 (k:Nat):=bt;obtain⟨T,d⟩:=r;go_simp;exact v (.pointer (some ⟨l,k*5,none⟩)) _ B (fun _ _ h=>h) rfl
   | 7,_,n,y,v =>
    obtain rfl:=oi n;obtain⟨cp,c9,bu⟩:=y 6 (by kernel_rfl) (by decide) 62 rfl;obtain rfl:cp=.pointer (some ⟨l,k*5,none⟩):=bu;obtain⟨T,d⟩:=r;go_simp;exact v (.pointer (some ⟨l,k*5+4,none⟩)) _ B (fun _ _ h=>h) rfl
   | 8,_,n,y,v =>
    obtain rfl:=oi n;obtain⟨ct,di,bw⟩:=y 7 (by kernel_rfl) (by decide) 63 rfl;obtain rfl:ct=.pointer (some ⟨l,k*5+4,none⟩):=bw;have qq:=a7.out w' B;obtain⟨T,d⟩:=r;go_simp;exact v (mv) _ B (fun _ _ h=>h) rfl
   | 9,_,n,y,v =>
    obtain rfl:=oi n;obtain⟨cu,dk,bx⟩:=y 8 (by kernel_rfl) (by decide) 64 rfl;obtain rfl:cu=mv:=bx;have I:=((aB.refl (fun _=>False) H).drew).trans B (fun _ _ h=>h);have an:=sh (D:=fun _ _=>False) (aD HM.out (D':=Dm n0 w' 71) (fun b J=>J.keep I) (bM I _));have bd:=hh an;clear an I;have bf:=hh v;clear v;obtain⟨T,d⟩:=r;go_simp;refine bd.out.mono ?_;rintro e w2 ⟨b4,cs,rfl,g1,g2,g3⟩;refine bf.out b4 w2 (B.trans g3 (fun _ _ h=>h)) (fun j u h=>?_) (b6 iq (D:=fun _ _=>False) (D':=fun _ _=>False) g1 g2 (by obtain⟨_,_,_,_,h,_⟩:=HM.out;exact h) (fun g hg=>by obtain⟨_,h2,h3⟩:=aL g2 hg;exact⟨h2,.inr h3⟩) (fun _ _ _ h=>h) (fun _ h=>False.elim h))
    by_cases hj9:j=9
    ·subst hj9;exact aD (show aM _ _ _ w' u _ from h) (fun b J=>J.keep g3) (bM g3 _)
    ·rw[if_neg hj9]at h⊢; exact h
   | 10,_,n,y,v =>
    obtain rfl:=oi n;obtain⟨cb,c4,bl⟩:=y 1 (by kernel_rfl) (by decide) 57 rfl;obtain rfl:cb=.slice (some ⟨l,0,none⟩) P.Q4.length V:=bl;obtain⟨cc,c5,bm⟩:=y 2 (by kernel_rfl) (by decide) 58 rfl;obtain rfl:cc=.int .i64 (k:Nat):=bm;obtain⟨T,d⟩:=r;go_simp;exact v (.pointer (some ⟨l,k*5,none⟩)) _ B (fun _ _ h=>h) rfl
   | 11,_,n,y,v =>
    obtain rfl:=oi n;obtain⟨bb,cw,ac⟩:=y 10 (by kernel_rfl) (by decide) 66 rfl;obtain rfl:bb=.pointer (some ⟨l,k*5,none⟩):=ac;obtain⟨T,d⟩:=r;go_simp;exact v (.pointer (some ⟨l,k*5+4,none⟩)) _ B (fun _ _ h=>h) rfl
   | i+12,hi,_,_,_=>omega
  ·intro o n r w' B J y
   obtain rfl:=oi n;have a9:r.tmps.size=150:=J.size.trans (by first|assumption|(simp only[Array.size_setIfInBounds];assumption));have U:=J.Q7 M rfl;have Z:=J.Q7 Y rfl;obtain⟨cv,dl,N⟩:=y 9 (by decide) 65 rfl;replace N:aM (Dm n0 w' 71) 5 cD w' cv x.maps:=N;obtain⟨bc,cx,ad⟩:=y 11 (by decide) 67 rfl;obtain rfl:bc=.pointer (some ⟨l,k*5+4,none⟩):=ad;obtain⟨T,d⟩:=r;have I:=((aB.refl (fun _=>False) H).drew).trans B (fun _ _ h=>h);have qq:=a7.out w' B;have qf:=b2.out w' B;have W:=(HC.out.step I).put_device HV.out HX.out N;have be:=hh W;have HB:=hh J;have HE:=hh N;obtain⟨Am,cm,em,_⟩:=N;subst em;clear W J I B;with_reducible refine st (ln ?_)
   refine⟨HA.out.trans (HB.out.agree (ws:=fun i=>(rg 49 67 i)) (by kernel_rfl)) (by intro j;simp;omega),U,be.out⟩
 ·rintro k b H a3 ⟨C,M,E⟩
  have S:=C.size.trans X;have e1:IntKind.i64.wrap ((k:Int)+1)=((k+1:Nat):Int):=by rw[i64_in _ (by omega)];omega
  have HC:=hh E;have HA:=hh C;clear E C;have af:aA (fun i=>i==4||i==54||i==55) b b:=aA.refl _ _;obtain⟨T,d⟩:=b;refine rl ?_
  iterate 3 with_reducible refine st ?_
  refine ln ⟨rfl,HA.out.trans (vs:=fun i=>i==4||i==54||i==55) (by exact ag) (by intro j;simp;omega),?_,HC.out⟩;rw[show((k+1:Nat):Int)=(k:Int)+1 by omega];exact aq
 ·rintro b H ⟨C,_,E⟩
  exact HQ.out b H C E
theorem lF{R:Nat→Array Value→Prop}{v2:aV}{P:aC}(cw:Cop R n0 w0 zq v2 P w)(a:Act)(a8:a.tmps.size=150)(h3:At a 3 (.pointer (some ⟨zq,0,none⟩)))(Q:Exit→Act→World→Prop)
 (hQ:∀y w',aA (fun i=>i==5||(rg 68 98 i)) a y→Cop R n0 w0 zq v2 P w'→Q .normal y w'):(al Tryz.f10 [1,1,1,0]).wp Tryz.prog Q a w:=by
 have d4:P.Q3.length≤2097152:=by obtain⟨_,_,_,_,h,_⟩:=cw.QL.Q3;exact h
 have HQ:=hh hQ;clear hQ
 conv=>arg 2;whnf
 refine so (fun a1 w1=>aA (fun i=>i==5) a a1∧At a1 5 (.int .i64 0)∧w1=w) ?_ ?_
 ·have cv:aA (fun i=>i==5) a a:=aA.refl _ _
  obtain⟨T,d⟩:=a;refine rl ?_;with_reducible refine st ?_
  refine ln ⟨rfl,ag,aq,rfl⟩
 rintro a1 w1 ⟨d0,U,rfl⟩;refine gz P.Q3.length (fun k y w'=>aA (fun i=>i==5||(rg 68 98 i)) a y∧At y 5 (.int .i64 (k:Nat))∧Cop R n0 w0 zq v2 P w') (fun k y w'=>aA (fun i=>i==5||(rg 68 98 i)) a y∧At y 5 (.int .i64 (k:Nat))∧Cop R n0 w0 zq v2 P w') (fun a=>match a.eval (.tmp 5)with|.int _ x=>x.toNat|_=>0) ⟨d0.m,U,cw⟩ ?_ ?_ ?_ ?_ ?_
 ·rintro k y w' ⟨O,hk,_⟩
  rw[hk.eval (by rw[O.size];omega)];show((k:Nat):Int).toNat=k;omega
 ·rintro k b J d3 ⟨O,U,I⟩
  have Y:=O.Q7 h3 rfl;have X:=O.size.trans a8;obtain⟨A0,c0,e0,cx,d5,_⟩:=I.QL.Q3;have q:J.cell? ⟨zq,5,none⟩=some (.slice A0 P.Q3.length c0):=by rw[cell_of_row _ _ _ _ _ _ I.cell,←e0];rfl
  have cy:(decide ((k:Int)<(P.Q3.length:Int)))=decide (k<P.Q3.length):=by simp
  have HC:=hh I;have HA:=hh O;clear I O e0;have cv:aA (fun i=>rg 68 72 i) b b:=aA.refl _ _;obtain⟨T,d⟩:=b;refine rl ?_
  iterate 5 with_reducible refine st ?_
  refine ln ?_;skip;refine⟨rfl,⟨HA.out.trans (vs:=fun i=>rg 68 72 i) (by exact ag) (by intro j;simp;omega),ar,HC.out⟩,?_⟩;refine At.eval (i:=72) ?_ (by simp;have:=X;simp at this;omega)
  first|(exact aq)|(rw[←cy];exact aq)
 ·rintro k b J bu ⟨O,U,I⟩
  refine so (fun b2 w2=>aA (fun i=>i==5||(rg 68 98 i)) a b2∧At b2 5 (.int .i64 (k:Nat))∧Cop R n0 w0 zq v2 P w2) ?_ ?_
  ·skip
   have Y:=O.Q7 h3 rfl;have X:=O.size.trans a8;obtain⟨x,hx⟩:=ge bu;obtain⟨c2,M⟩:=I.QI.Q3;obtain⟨l,S,H⟩:∃g c,v2.Q3=.slice (some ⟨g,0,none⟩) P.Q3.length c:=by obtain⟨g,c,e,_⟩:=M.form (by omega);exact⟨g,c,e⟩
   obtain⟨d1,af,d2⟩:=aL M (g:=l) (by rw[H];rfl);have a2:=I.QL.Q3;rw[H]at a2;obtain⟨A,c1,e,cx,_,hl⟩:=a2;obtain⟨rfl,rfl⟩:some ⟨l,0,none⟩=A∧S=c1:=by simpa using e
   obtain⟨b0,off,e,_,hr⟩:=hl (by omega);obtain⟨rfl,rfl⟩:l=b0∧0=off:=by simpa using e
   obtain⟨mv,rv,C,a6,a7,_⟩:=hr k x hx;rw[Nat.zero_add]at C;have q:J.cell? ⟨zq,5,none⟩=some (.slice (some ⟨l,0,none⟩) P.Q3.length S):=by rw[cell_of_row _ _ _ _ _ _ I.cell,←H];rfl
   have qm:J.cell? ⟨l,k*6+4,none⟩=some mv:=C 4 _ rfl;have fz:J.frozen? ⟨l,k*6+4,none⟩=false:=by obtain⟨c3,ah⟩:=I.QI.Q3;rw[H]at ah;exact ah.frozenAt _
   have bx:=aG I.cell;have an:Hid (∀w',Kz J.drew w'→w'.cell? ⟨zq,5,none⟩=some (.slice (some ⟨l,0,none⟩) P.Q3.length S)):=hh fun w' hw=>(hw.cell (p:=⟨zq,5,none⟩) bx (fun x=>x)).trans q
   have a0:Hid (∀w',Kz J.drew w'→w'.cell? ⟨l,k*6+4,none⟩=some mv):=hh fun w' hw=>(hw.cell (p:=⟨l,k*6+4,none⟩) af (fun x=>x)).trans qm
   have bw:Hid (∀w',Kz J.drew w'→w'.frozen? ⟨l,k*6+4,none⟩=false):=hh fun w' hw=>(hw.frozen (p:=⟨l,k*6+4,none⟩) af (fun x=>x)).trans fz
   have HC:=hh I;have HA:=hh O;have HM:=hh a6;have HX:=hh hx;have HV:=hh H;clear I O M hl hr C a6 q qm fz hx H e a7;refine cS 12 (fun jj w_ u_=>if jj=9 then aM (Dm n0 w_ 71) 5 cD w_ u_ x.maps else u_=([.pointer (some ⟨zq,5,none⟩),.slice (some ⟨l,0,none⟩) P.Q3.length S,.int .i64 (k:Nat),.pointer (some ⟨zq,5,none⟩),.slice (some ⟨l,0,none⟩) P.Q3.length S,.int .i64 (k:Nat),.pointer (some ⟨l,k*6,none⟩),.pointer (some ⟨l,k*6+4,none⟩),mv,undef,.pointer (some ⟨l,k*6,none⟩),.pointer (some ⟨l,k*6+4,none⟩)]:List Value).getD jj undef) (fun w'=>Kz J.drew w') (by kernel_rfl) (by kernel_rfl) (aB.refl _ _) ?_ ?_
   ·intro i o hi n y w' K B G v r
    have a3:y.tmps.size=150:=G.size.trans (by first|assumption|(simp only[Array.size_setIfInBounds];assumption));have N:=G.Q7 U rfl;have W:=G.Q7 Y rfl
    match i,hi,n,v,r with
    | 0,_,n,v,r =>
     obtain rfl:=oi n;obtain⟨T,d⟩:=y;go_simp;exact r (.pointer (some ⟨zq,5,none⟩)) _ B (fun _ _ h=>h) rfl
    | 1,_,n,v,r =>
     obtain rfl:=oi n;obtain⟨b1,c4,bd⟩:=v 0 (by kernel_rfl) (by decide) 75 rfl;obtain rfl:b1=.pointer (some ⟨zq,5,none⟩):=bd;have qq:=an.out w' B;obtain⟨T,d⟩:=y;go_simp;exact r (.slice (some ⟨l,0,none⟩) P.Q3.length S) _ B (fun _ _ h=>h) rfl
    | 2,_,n,v,r =>
     obtain rfl:=oi n;obtain⟨T,d⟩:=y;go_simp;exact r (.int .i64 (k:Nat)) _ B (fun _ _ h=>h) rfl
    | 3,_,n,v,r =>
     obtain rfl:=oi n;obtain⟨T,d⟩:=y;go_simp;exact r (.pointer (some ⟨zq,5,none⟩)) _ B (fun _ _ h=>h) rfl
    | 4,_,n,v,r =>
     obtain rfl:=oi n;obtain⟨b5,c7,bj⟩:=v 3 (by kernel_rfl) (by decide) 78 rfl;obtain rfl:b5=.pointer (some ⟨zq,5,none⟩):=bj;have qq:=an.out w' B;obtain⟨T,d⟩:=y;go_simp;exact r (.slice (some ⟨l,0,none⟩) P.Q3.length S) _ B (fun _ _ h=>h) rfl
    | 5,_,n,v,r =>
     obtain rfl:=oi n;obtain⟨T,d⟩:=y;go_simp;exact r (.int .i64 (k:Nat)) _ B (fun _ _ h=>h) rfl
    | 6,_,n,v,r =>
     obtain rfl:=oi n;obtain⟨cb,c8,bl⟩:=v 4 (by kernel_rfl) (by decide) 79 rfl;obtain rfl:cb=.slice (some ⟨l,0,none⟩) P.Q3.length S:=bl;obtain⟨cc,c9,bm⟩:=v 5 (by kernel_rfl) (by decide) 80 rfl;obtain rfl:cc=.int .i64 (k:Nat):=bm;obtain⟨T,d⟩:=y;go_simp;exact r (.pointer (some ⟨l,k*6,none⟩)) _ B (fun _ _ h=>h) rfl
    | 7,_,n,v,r =>
     obtain rfl:=oi n;obtain⟨cf,di,bo⟩:=v 6 (by kernel_rfl) (by decide) 81 rfl;obtain rfl:cf=.pointer (some ⟨l,k*6,none⟩):=bo;obtain⟨T,d⟩:=y;go_simp;exact r (.pointer (some ⟨l,k*6+4,none⟩)) _ B (fun _ _ h=>h) rfl
    | 8,_,n,v,r =>
     obtain rfl:=oi n;obtain⟨ci,dk,bp⟩:=v 7 (by kernel_rfl) (by decide) 82 rfl;obtain rfl:ci=.pointer (some ⟨l,k*6+4,none⟩):=bp;have qq:=a0.out w' B;obtain⟨T,d⟩:=y;go_simp;exact r (mv) _ B (fun _ _ h=>h) rfl
    | 9,_,n,v,r =>
     obtain rfl:=oi n;obtain⟨cl,dl,bt⟩:=v 8 (by kernel_rfl) (by decide) 83 rfl;obtain rfl:cl=mv:=bt;have E:=((aB.refl (fun _=>False) J).drew).trans B (fun _ _ h=>h);have ad:=sh (D:=fun _ _=>False) (aD HM.out (D':=Dm n0 w' 71) (fun b G=>G.keep E) (bM E _));have a9:=hh ad;clear ad E;have bc:=hh r;clear r;obtain⟨T,d⟩:=y;go_simp;refine a9.out.mono ?_;rintro e w2 ⟨bz,cs,rfl,g1,g2,g3⟩;refine bc.out bz w2 (B.trans g3 (fun _ _ h=>h)) (fun j u h=>?_) (b6 iq (D:=fun _ _=>False) (D':=fun _ _=>False) g1 g2 (by obtain⟨_,_,_,_,h,_⟩:=HM.out;exact h) (fun g hg=>by obtain⟨_,h2,h3⟩:=aL g2 hg;exact⟨h2,.inr h3⟩) (fun _ _ _ h=>h) (fun _ h=>False.elim h))
     by_cases hj9:j=9
     ·subst hj9;exact aD (show aM _ _ _ w' u _ from h) (fun b G=>G.keep g3) (bM g3 _)
     ·rw[if_neg hj9]at h⊢; exact h
    | 10,_,n,v,r =>
     obtain rfl:=oi n;obtain⟨b3,c5,be⟩:=v 1 (by kernel_rfl) (by decide) 76 rfl;obtain rfl:b3=.slice (some ⟨l,0,none⟩) P.Q3.length S:=be;obtain⟨b4,c6,bf⟩:=v 2 (by kernel_rfl) (by decide) 77 rfl;obtain rfl:b4=.int .i64 (k:Nat):=bf;obtain⟨T,d⟩:=y;go_simp;exact r (.pointer (some ⟨l,k*6,none⟩)) _ B (fun _ _ h=>h) rfl
    | 11,_,n,v,r =>
     obtain rfl:=oi n;obtain⟨a4,ct,Z⟩:=v 10 (by kernel_rfl) (by decide) 85 rfl;obtain rfl:a4=.pointer (some ⟨l,k*6,none⟩):=Z;obtain⟨T,d⟩:=y;go_simp;exact r (.pointer (some ⟨l,k*6+4,none⟩)) _ B (fun _ _ h=>h) rfl
    | i+12,hi,_,_,_=>omega
   ·intro o n y w' B G v
    obtain rfl:=oi n;have a3:y.tmps.size=150:=G.size.trans (by first|assumption|(simp only[Array.size_setIfInBounds];assumption));have N:=G.Q7 U rfl;have W:=G.Q7 Y rfl;obtain⟨cp,ds,L⟩:=v 9 (by decide) 84 rfl;replace L:aM (Dm n0 w' 71) 5 cD w' cp x.maps:=L;obtain⟨a5,cu,ac⟩:=v 11 (by decide) 86 rfl;obtain rfl:a5=.pointer (some ⟨l,k*6+4,none⟩):=ac;obtain⟨T,d⟩:=y;have E:=((aB.refl (fun _=>False) J).drew).trans B (fun _ _ h=>h);have qq:=a0.out w' B;have qf:=bw.out w' B;have V:=(HC.out.step E).put_subjmaps HV.out HX.out L;have bb:=hh V;have HB:=hh G;have HE:=hh L;obtain⟨Am,cm,em,_⟩:=L;subst em;clear V G E B;with_reducible refine st (ln ?_)
    refine⟨rfl,HA.out.trans (HB.out.agree (ws:=fun i=>(rg 68 98 i)) (by kernel_rfl)) (by intro j;simp;omega),N,bb.out⟩
  rintro b J ⟨O,U,I⟩;have Y:=O.Q7 h3 rfl;have X:=O.size.trans a8;obtain⟨x,hx⟩:=ge bu;obtain⟨c2,M⟩:=I.QI.Q3;obtain⟨l,S,H⟩:∃g c,v2.Q3=.slice (some ⟨g,0,none⟩) P.Q3.length c:=by obtain⟨g,c,e,_⟩:=M.form (by omega);exact⟨g,c,e⟩
  obtain⟨d1,af,d2⟩:=aL M (g:=l) (by rw[H];rfl);have a2:=I.QL.Q3;rw[H]at a2;obtain⟨A,c1,e,cx,_,hl⟩:=a2;obtain⟨rfl,rfl⟩:some ⟨l,0,none⟩=A∧S=c1:=by simpa using e
  obtain⟨b0,off,e,_,hr⟩:=hl (by omega);obtain⟨rfl,rfl⟩:l=b0∧0=off:=by simpa using e
  obtain⟨mv,rv,C,a6,a7,_⟩:=hr k x hx;rw[Nat.zero_add]at C;have q:J.cell? ⟨zq,5,none⟩=some (.slice (some ⟨l,0,none⟩) P.Q3.length S):=by rw[cell_of_row _ _ _ _ _ _ I.cell,←H];rfl
  have qm:J.cell? ⟨l,k*6+5,none⟩=some rv:=C 5 _ rfl;have fz:J.frozen? ⟨l,k*6+5,none⟩=false:=by obtain⟨c3,ah⟩:=I.QI.Q3;rw[H]at ah;exact ah.frozenAt _
  have bx:=aG I.cell;have an:Hid (∀w',Kz J.drew w'→w'.cell? ⟨zq,5,none⟩=some (.slice (some ⟨l,0,none⟩) P.Q3.length S)):=hh fun w' hw=>(hw.cell (p:=⟨zq,5,none⟩) bx (fun x=>x)).trans q
  have a0:Hid (∀w',Kz J.drew w'→w'.cell? ⟨l,k*6+5,none⟩=some rv):=hh fun w' hw=>(hw.cell (p:=⟨l,k*6+5,none⟩) af (fun x=>x)).trans qm
  have bw:Hid (∀w',Kz J.drew w'→w'.frozen? ⟨l,k*6+5,none⟩=false):=hh fun w' hw=>(hw.frozen (p:=⟨l,k*6+5,none⟩) af (fun x=>x)).trans fz
  have HC:=hh I;have HA:=hh O;have HM:=hh a7;have HX:=hh hx;have HV:=hh H;clear I O M hl hr C a6 q qm fz hx H e a7;refine cS 12 (fun jj w_ u_=>if jj=9 then aM (Dm n0 w_ 85) 4 eX w_ u_ x.QR else u_=([.pointer (some ⟨zq,5,none⟩),.slice (some ⟨l,0,none⟩) P.Q3.length S,.int .i64 (k:Nat),.pointer (some ⟨zq,5,none⟩),.slice (some ⟨l,0,none⟩) P.Q3.length S,.int .i64 (k:Nat),.pointer (some ⟨l,k*6,none⟩),.pointer (some ⟨l,k*6+5,none⟩),rv,undef,.pointer (some ⟨l,k*6,none⟩),.pointer (some ⟨l,k*6+5,none⟩)]:List Value).getD jj undef) (fun w'=>Kz J.drew w') (by kernel_rfl) (by kernel_rfl) (aB.refl _ _) ?_ ?_
  ·intro i o hi n y w' K B G v r
   have a3:y.tmps.size=150:=G.size.trans (by first|assumption|(simp only[Array.size_setIfInBounds];assumption));have N:=G.Q7 U rfl;have W:=G.Q7 Y rfl
   match i,hi,n,v,r with
   | 0,_,n,v,r =>
    obtain rfl:=oi n;obtain⟨T,d⟩:=y;go_simp;exact r (.pointer (some ⟨zq,5,none⟩)) _ B (fun _ _ h=>h) rfl
   | 1,_,n,v,r =>
    obtain rfl:=oi n;obtain⟨b1,c4,bd⟩:=v 0 (by kernel_rfl) (by decide) 87 rfl;obtain rfl:b1=.pointer (some ⟨zq,5,none⟩):=bd;have qq:=an.out w' B;obtain⟨T,d⟩:=y;go_simp;exact r (.slice (some ⟨l,0,none⟩) P.Q3.length S) _ B (fun _ _ h=>h) rfl
   | 2,_,n,v,r =>
    obtain rfl:=oi n;obtain⟨T,d⟩:=y;go_simp;exact r (.int .i64 (k:Nat)) _ B (fun _ _ h=>h) rfl
   | 3,_,n,v,r =>
    obtain rfl:=oi n;obtain⟨T,d⟩:=y;go_simp;exact r (.pointer (some ⟨zq,5,none⟩)) _ B (fun _ _ h=>h) rfl
   | 4,_,n,v,r =>
    obtain rfl:=oi n;obtain⟨b5,c7,bj⟩:=v 3 (by kernel_rfl) (by decide) 90 rfl;obtain rfl:b5=.pointer (some ⟨zq,5,none⟩):=bj;have qq:=an.out w' B;obtain⟨T,d⟩:=y;go_simp;exact r (.slice (some ⟨l,0,none⟩) P.Q3.length S) _ B (fun _ _ h=>h) rfl
   | 5,_,n,v,r =>
    obtain rfl:=oi n;obtain⟨T,d⟩:=y;go_simp;exact r (.int .i64 (k:Nat)) _ B (fun _ _ h=>h) rfl
   | 6,_,n,v,r =>
    obtain rfl:=oi n;obtain⟨cb,c8,bl⟩:=v 4 (by kernel_rfl) (by decide) 91 rfl;obtain rfl:cb=.slice (some ⟨l,0,none⟩) P.Q3.length S:=bl;obtain⟨cc,c9,bm⟩:=v 5 (by kernel_rfl) (by decide) 92 rfl;obtain rfl:cc=.int .i64 (k:Nat):=bm;obtain⟨T,d⟩:=y;go_simp;exact r (.pointer (some ⟨l,k*6,none⟩)) _ B (fun _ _ h=>h) rfl
   | 7,_,n,v,r =>
    obtain rfl:=oi n;obtain⟨cf,di,bo⟩:=v 6 (by kernel_rfl) (by decide) 93 rfl;obtain rfl:cf=.pointer (some ⟨l,k*6,none⟩):=bo;obtain⟨T,d⟩:=y;go_simp;exact r (.pointer (some ⟨l,k*6+5,none⟩)) _ B (fun _ _ h=>h) rfl
   | 8,_,n,v,r =>
    obtain rfl:=oi n;obtain⟨ci,dk,bp⟩:=v 7 (by kernel_rfl) (by decide) 94 rfl;obtain rfl:ci=.pointer (some ⟨l,k*6+5,none⟩):=bp;have qq:=a0.out w' B;obtain⟨T,d⟩:=y;go_simp;exact r (rv) _ B (fun _ _ h=>h) rfl
   | 9,_,n,v,r =>
    obtain rfl:=oi n;obtain⟨cl,dl,bt⟩:=v 8 (by kernel_rfl) (by decide) 95 rfl;obtain rfl:cl=rv:=bt;have E:=((aB.refl (fun _=>False) J).drew).trans B (fun _ _ h=>h);have ad:=xp (D:=fun _ _=>False) (aD HM.out (D':=Dm n0 w' 85) (fun b G=>G.keep E) (bM E _));have a9:=hh ad;clear ad E;have bc:=hh r;clear r;obtain⟨T,d⟩:=y;go_simp;refine a9.out.mono ?_;rintro e w2 ⟨bz,cs,rfl,g1,g2,g3⟩;refine bc.out bz w2 (B.trans g3 (fun _ _ h=>h)) (fun j u h=>?_) (b6 o9 (D:=fun _ _=>False) (D':=fun _ _=>False) g1 g2 (by obtain⟨_,_,_,_,h,_⟩:=HM.out;exact h) (fun g hg=>by obtain⟨_,h2,h3⟩:=aL g2 hg;exact⟨h2,.inr h3⟩) (fun _ _ _ h=>h) (fun _ h=>False.elim h))
    by_cases hj9:j=9
    ·subst hj9;exact aD (show aM _ _ _ w' u _ from h) (fun b G=>G.keep g3) (bM g3 _)
    ·rw[if_neg hj9]at h⊢; exact h
   | 10,_,n,v,r =>
    obtain rfl:=oi n;obtain⟨b3,c5,be⟩:=v 1 (by kernel_rfl) (by decide) 88 rfl;obtain rfl:b3=.slice (some ⟨l,0,none⟩) P.Q3.length S:=be;obtain⟨b4,c6,bf⟩:=v 2 (by kernel_rfl) (by decide) 89 rfl;obtain rfl:b4=.int .i64 (k:Nat):=bf;obtain⟨T,d⟩:=y;go_simp;exact r (.pointer (some ⟨l,k*6,none⟩)) _ B (fun _ _ h=>h) rfl
   | 11,_,n,v,r =>
    obtain rfl:=oi n;obtain⟨a4,ct,Z⟩:=v 10 (by kernel_rfl) (by decide) 97 rfl;obtain rfl:a4=.pointer (some ⟨l,k*6,none⟩):=Z;obtain⟨T,d⟩:=y;go_simp;exact r (.pointer (some ⟨l,k*6+5,none⟩)) _ B (fun _ _ h=>h) rfl
   | i+12,hi,_,_,_=>omega
  ·intro o n y w' B G v
   obtain rfl:=oi n;have a3:y.tmps.size=150:=G.size.trans (by first|assumption|(simp only[Array.size_setIfInBounds];assumption));have N:=G.Q7 U rfl;have W:=G.Q7 Y rfl;obtain⟨cp,ds,L⟩:=v 9 (by decide) 96 rfl;replace L:aM (Dm n0 w' 85) 4 eX w' cp x.QR:=L;obtain⟨a5,cu,ac⟩:=v 11 (by decide) 98 rfl;obtain rfl:a5=.pointer (some ⟨l,k*6+5,none⟩):=ac;obtain⟨T,d⟩:=y;have E:=((aB.refl (fun _=>False) J).drew).trans B (fun _ _ h=>h);have qq:=a0.out w' B;have qf:=bw.out w' B;have V:=(HC.out.step E).put_subjrules HV.out HX.out L;have bb:=hh V;have HB:=hh G;have HE:=hh L;obtain⟨Am,cm,em,_⟩:=L;subst em;clear V G E B;with_reducible refine st (ln ?_)
   refine⟨HA.out.trans (HB.out.agree (ws:=fun i=>(rg 68 98 i)) (by kernel_rfl)) (by intro j;simp;omega),N,bb.out⟩
 ·rintro k b J bu ⟨O,U,I⟩
  have X:=O.size.trans a8;have e1:IntKind.i64.wrap ((k:Int)+1)=((k+1:Nat):Int):=by rw[i64_in _ (by omega)];omega
  have HC:=hh I;have HA:=hh O;clear I O;have cv:aA (fun i=>i==5||i==73||i==74) b b:=aA.refl _ _;obtain⟨T,d⟩:=b;refine rl ?_
  iterate 3 with_reducible refine st ?_
  refine ln ⟨rfl,HA.out.trans (vs:=fun i=>i==5||i==73||i==74) (by exact ag) (by intro j;simp;omega),?_,HC.out⟩;rw[show((k+1:Nat):Int)=(k:Int)+1 by omega];exact aq
 ·rintro b J ⟨O,_,I⟩
  exact HQ.out b J O I
theorem qn{R:Nat→Array Value→Prop}{v2:aV}{P:aC}{x:Ck.eZ}{Al:Option Addr}{I E U:Nat}(W:gv R n0 w0 zq v2 P k x (.slice Al x.QJ.length I) E U w)(a:Act)(ad:a.tmps.size=150)(h3:At a 3 (.pointer (some ⟨zq,0,none⟩)))(h6:At a 6 (.int .i64 (k:Nat)))(Q:Exit→Act→World→Prop)
 (hQ:∀v w',aA (fun i=>i==7||(rg 118 148 i)) a v→Cop R n0 w0 zq v2 P w'→Q .normal v w'):(al Tryz.f10 [1,1,1,1,0,1,0,0,1,0,0,1]).wp Tryz.prog Q a w:=by
 have fr:x.QJ.length≤2097152:=by obtain⟨_,_,_,_,h,_⟩:=W.QJ;exact h
 have fl:k<P.Q9.length:=(List.getElem?_eq_some_iff.1 W.hx).1;have fs:P.Q9.length≤2097152:=W.len.2;have c6:P.Q9.length≤U:=W.len.1;have HQ:=hh hQ;clear hQ
 conv=>arg 2;whnf
 refine so (fun a1 w1=>aA (fun i=>i==7) a a1∧At a1 7 (.int .i64 0)∧w1=w) ?_ ?_
 ·have bc:aA (fun i=>i==7) a a:=aA.refl _ _
  obtain⟨T,d⟩:=a;refine rl ?_;with_reducible refine st ?_
  refine ln ⟨rfl,ag,aq,rfl⟩
 rintro a1 w1 ⟨c4,V,rfl⟩;refine gz x.QJ.length (fun j v w'=>aA (fun i=>i==7||(rg 118 148 i)) a v∧At v 7 (.int .i64 (j:Nat))∧gv R n0 w0 zq v2 P k x (.slice Al x.QJ.length I) E U w') (fun j v w'=>aA (fun i=>i==7||(rg 118 148 i)) a v∧At v 7 (.int .i64 (j:Nat))∧gv R n0 w0 zq v2 P k x (.slice Al x.QJ.length I) E U w') (fun a=>match a.eval (.tmp 7)with|.int _ x=>x.toNat|_=>0) ⟨c4.m,V,W⟩ ?_ ?_ ?_ ?_ ?_
 ·rintro j v w' ⟨H,hk,_⟩
  rw[hk.eval (by rw[H.size];omega)];show((j:Nat):Int).toNat=j;omega
 ·rintro j b J fp ⟨H,V,G⟩
  have X:=H.size.trans ad;have af:=H.Q7 h3 rfl;have ah:=H.Q7 h6 rfl;have q:J.cell? ⟨zq,9,none⟩=some (.slice (some ⟨E,0,none⟩) P.Q9.length U):=by rw[cell_of_row _ _ _ _ _ _ G.cell,←G.hv];rfl
  have ql:J.cell? ⟨E,k*4+3,none⟩=some (.slice Al x.QJ.length I):=G.plan 3 _ rfl;have be:(decide ((j:Int)<(x.QJ.length:Int)))=decide (j<x.QJ.length):=by simp
  have HC:=hh G;have HA:=hh H;clear G H;have bc:aA (fun i=>rg 118 126 i) b b:=aA.refl _ _;obtain⟨T,d⟩:=b;refine rl ?_
  iterate 9 with_reducible refine st ?_
  refine ln ?_;refine⟨rfl,⟨HA.out.trans (vs:=fun i=>rg 118 126 i) (by exact ag) (by intro j;simp;omega),ar,HC.out⟩,?_⟩;refine At.eval (i:=126) ?_ (by simp;have:=X;simp at this;omega)
  first|(exact aq)|(rw[←be];exact aq)
 ·rintro j b J bf ⟨H,V,G⟩
  have X:=H.size.trans ad;have af:=H.Q7 h3 rfl;have ah:=H.Q7 h6 rfl;have q:J.cell? ⟨zq,9,none⟩=some (.slice (some ⟨E,0,none⟩) P.Q9.length U):=by rw[cell_of_row _ _ _ _ _ _ G.cell,←G.hv];rfl
  have ql:J.cell? ⟨E,k*4+3,none⟩=some (.slice Al x.QJ.length I):=G.plan 3 _ rfl;obtain⟨y,hy⟩:=ge bf;obtain⟨es,S⟩:=G.Qe;obtain⟨B,rfl⟩:∃B,Al=some ⟨B,0,none⟩:=by obtain⟨g,c,e,_⟩:=S.form (by omega);exact⟨g,by simp at e;exact e.1⟩
  obtain⟨ff,ac,fi⟩:=aL S (g:=B) rfl;have fm:x.QJ.length≤I:=by obtain⟨_,_,e,h,_⟩:=G.QJ;simp at e;omega
  obtain⟨A,c1,e,_,_,hl⟩:=G.QJ;obtain⟨rfl,rfl⟩:some ⟨B,0,none⟩=A∧I=c1:=by simpa using e
  obtain⟨b0,off,e,_,hr⟩:=hl (by omega);obtain⟨rfl,rfl⟩:B=b0∧0=off:=by simpa using e
  obtain⟨rv,N,bo,_⟩:=hr j y hy;rw[Nat.zero_add]at N;have qm:J.cell? ⟨B,j*4+3,none⟩=some rv:=N 3 _ rfl;have fz:J.frozen? ⟨B,j*4+3,none⟩=false:=S.frozenAt _;have c8:=aG G.cell;obtain⟨_,c5,_⟩:=G.gty;have bj:Hid (∀w',Kz J.drew w'→w'.cell? ⟨zq,9,none⟩=some (.slice (some ⟨E,0,none⟩) P.Q9.length U)):=hh fun w' hw=>(hw.cell (p:=⟨zq,9,none⟩) c8 (fun x=>x)).trans q
  have bl:Hid (∀w',Kz J.drew w'→w'.cell? ⟨E,k*4+3,none⟩=some (.slice (some ⟨B,0,none⟩) x.QJ.length I)):=hh fun w' hw=>(hw.cell (p:=⟨E,k*4+3,none⟩) c5 (fun x=>x)).trans ql
  have bm:Hid (∀w',Kz J.drew w'→w'.cell? ⟨B,j*4+3,none⟩=some rv):=hh fun w' hw=>(hw.cell (p:=⟨B,j*4+3,none⟩) ac (fun x=>x)).trans qm
  have c7:Hid (∀w',Kz J.drew w'→w'.frozen? ⟨B,j*4+3,none⟩=false):=hh fun w' hw=>(hw.frozen (p:=⟨B,j*4+3,none⟩) ac (fun x=>x)).trans fz
  have HC:=hh G;have HA:=hh H;have HM:=hh bo;have HY:=hh hy;clear G H S hl hr N bo q ql qm fz hy e;refine cS 20 (fun jj w_ u_=>if jj=17 then aM (Dx n0 w_ (.slice (some ⟨B,0,none⟩) x.QJ.length I) 108) 4 ef w_ u_ y.runs else u_=([.pointer (some ⟨zq,9,none⟩),.slice (some ⟨E,0,none⟩) P.Q9.length U,.int .i64 (k:Nat),.pointer (some ⟨E,k*4,none⟩),.pointer (some ⟨E,k*4+3,none⟩),.slice (some ⟨B,0,none⟩) x.QJ.length I,.int .i64 (j:Nat),.pointer (some ⟨zq,9,none⟩),.slice (some ⟨E,0,none⟩) P.Q9.length U,.int .i64 (k:Nat),.pointer (some ⟨E,k*4,none⟩),.pointer (some ⟨E,k*4+3,none⟩),.slice (some ⟨B,0,none⟩) x.QJ.length I,.int .i64 (j:Nat),.pointer (some ⟨B,j*4,none⟩),.pointer (some ⟨B,j*4+3,none⟩),rv,undef,.pointer (some ⟨B,j*4,none⟩),.pointer (some ⟨B,j*4+3,none⟩)]:List Value).getD jj undef) (fun w'=>Kz J.drew w') (by kernel_rfl) (by kernel_rfl) (aB.refl _ _) ?_ ?_
  ·intro i o hi l v w' K C M r n
   have bp:v.tmps.size=150:=M.size.trans (by first|assumption|(simp only[Array.size_setIfInBounds];assumption));have Y:=M.Q7 V rfl;have an:=M.Q7 af rfl;have a0:=M.Q7 ah rfl
   match i,hi,l,r,n with
   | 0,_,l,r,n =>
    obtain rfl:=oi l;obtain⟨T,d⟩:=v;go_simp;exact n (.pointer (some ⟨zq,9,none⟩)) _ C (fun _ _ h=>h) rfl
   | 1,_,l,r,n =>
    obtain rfl:=oi l;obtain⟨di,ev,cf⟩:=r 0 (by kernel_rfl) (by decide) 129 rfl;obtain rfl:di=.pointer (some ⟨zq,9,none⟩):=cf;have qq:=bj.out w' C;obtain⟨T,d⟩:=v;go_simp;exact n (.slice (some ⟨E,0,none⟩) P.Q9.length U) _ C (fun _ _ h=>h) rfl
   | 2,_,l,r,n =>
    obtain rfl:=oi l;obtain⟨T,d⟩:=v;go_simp;exact n (.int .i64 (k:Nat)) _ C (fun _ _ h=>h) rfl
   | 3,_,l,r,n =>
    obtain rfl:=oi l;obtain⟨dk,e0,ci⟩:=r 1 (by kernel_rfl) (by decide) 130 rfl;obtain rfl:dk=.slice (some ⟨E,0,none⟩) P.Q9.length U:=ci;obtain⟨dl,e2,ct⟩:=r 2 (by kernel_rfl) (by decide) 131 rfl;obtain rfl:dl=.int .i64 (k:Nat):=ct;obtain⟨T,d⟩:=v;go_simp;exact n (.pointer (some ⟨E,k*4,none⟩)) _ C (fun _ _ h=>h) rfl
   | 4,_,l,r,n =>
    obtain rfl:=oi l;obtain⟨ds,e5,cu⟩:=r 3 (by kernel_rfl) (by decide) 132 rfl;obtain rfl:ds=.pointer (some ⟨E,k*4,none⟩):=cu;obtain⟨T,d⟩:=v;go_simp;exact n (.pointer (some ⟨E,k*4+3,none⟩)) _ C (fun _ _ h=>h) rfl
   | 5,_,l,r,n =>
    obtain rfl:=oi l;obtain⟨d0,e6,cv⟩:=r 4 (by kernel_rfl) (by decide) 133 rfl;obtain rfl:d0=.pointer (some ⟨E,k*4+3,none⟩):=cv;have qq:=bl.out w' C;obtain⟨T,d⟩:=v;go_simp;exact n (.slice (some ⟨B,0,none⟩) x.QJ.length I) _ C (fun _ _ h=>h) rfl
   | 6,_,l,r,n =>
    obtain rfl:=oi l;obtain⟨T,d⟩:=v;go_simp;exact n (.int .i64 (j:Nat)) _ C (fun _ _ h=>h) rfl
   | 7,_,l,r,n =>
    obtain rfl:=oi l;obtain⟨T,d⟩:=v;go_simp;exact n (.pointer (some ⟨zq,9,none⟩)) _ C (fun _ _ h=>h) rfl
   | 8,_,l,r,n =>
    obtain rfl:=oi l;obtain⟨d3,e9,cy⟩:=r 7 (by kernel_rfl) (by decide) 136 rfl;obtain rfl:d3=.pointer (some ⟨zq,9,none⟩):=cy;have qq:=bj.out w' C;obtain⟨T,d⟩:=v;go_simp;exact n (.slice (some ⟨E,0,none⟩) P.Q9.length U) _ C (fun _ _ h=>h) rfl
   | 9,_,l,r,n =>
    obtain rfl:=oi l;obtain⟨T,d⟩:=v;go_simp;exact n (.int .i64 (k:Nat)) _ C (fun _ _ h=>h) rfl
   | 10,_,l,r,n =>
    obtain rfl:=oi l;obtain⟨d4,fc,c2⟩:=r 8 (by kernel_rfl) (by decide) 137 rfl;obtain rfl:d4=.slice (some ⟨E,0,none⟩) P.Q9.length U:=c2;obtain⟨d5,fe,c3⟩:=r 9 (by kernel_rfl) (by decide) 138 rfl;obtain rfl:d5=.int .i64 (k:Nat):=c3;obtain⟨T,d⟩:=v;go_simp;exact n (.pointer (some ⟨E,k*4,none⟩)) _ C (fun _ _ h=>h) rfl
   | 11,_,l,r,n =>
    obtain rfl:=oi l;obtain⟨bt,d6,a2⟩:=r 10 (by kernel_rfl) (by decide) 139 rfl;obtain rfl:bt=.pointer (some ⟨E,k*4,none⟩):=a2;obtain⟨T,d⟩:=v;go_simp;exact n (.pointer (some ⟨E,k*4+3,none⟩)) _ C (fun _ _ h=>h) rfl
   | 12,_,l,r,n =>
    obtain rfl:=oi l;obtain⟨bu,d7,a3⟩:=r 11 (by kernel_rfl) (by decide) 140 rfl;obtain rfl:bu=.pointer (some ⟨E,k*4+3,none⟩):=a3;have qq:=bl.out w' C;obtain⟨T,d⟩:=v;go_simp;exact n (.slice (some ⟨B,0,none⟩) x.QJ.length I) _ C (fun _ _ h=>h) rfl
   | 13,_,l,r,n =>
    obtain rfl:=oi l;obtain⟨T,d⟩:=v;go_simp;exact n (.int .i64 (j:Nat)) _ C (fun _ _ h=>h) rfl
   | 14,_,l,r,n =>
    obtain rfl:=oi l;obtain⟨bw,d8,a4⟩:=r 12 (by kernel_rfl) (by decide) 141 rfl;obtain rfl:bw=.slice (some ⟨B,0,none⟩) x.QJ.length I:=a4;obtain⟨bx,d9,a5⟩:=r 13 (by kernel_rfl) (by decide) 142 rfl;obtain rfl:bx=.int .i64 (j:Nat):=a5;obtain⟨T,d⟩:=v;go_simp;exact n (.pointer (some ⟨B,j*4,none⟩)) _ C (fun _ _ h=>h) rfl
   | 15,_,l,r,n =>
    obtain rfl:=oi l;obtain⟨bz,eb,a6⟩:=r 14 (by kernel_rfl) (by decide) 143 rfl;obtain rfl:bz=.pointer (some ⟨B,j*4,none⟩):=a6;obtain⟨T,d⟩:=v;go_simp;exact n (.pointer (some ⟨B,j*4+3,none⟩)) _ C (fun _ _ h=>h) rfl
   | 16,_,l,r,n =>
    obtain rfl:=oi l;obtain⟨b1,eg,a7⟩:=r 15 (by kernel_rfl) (by decide) 144 rfl;obtain rfl:b1=.pointer (some ⟨B,j*4+3,none⟩):=a7;have qq:=bm.out w' C;obtain⟨T,d⟩:=v;go_simp;exact n (rv) _ C (fun _ _ h=>h) rfl
   | 17,_,l,r,n =>
    obtain rfl:=oi l;obtain⟨b2,el,a8⟩:=r 16 (by kernel_rfl) (by decide) 145 rfl;obtain rfl:b2=rv:=a8;have L:=((aB.refl (fun _=>False) J).drew).trans C (fun _ _ h=>h);have bd:=xn (D:=fun _ _=>False) (aD HM.out (D':=Dx n0 w' (.slice (some ⟨B,0,none⟩) x.QJ.length I) 108) (fun b M=>M.keep L) (fq L _));have cb:=hh bd;have fj:B<w'.heap.size:=Nat.lt_of_lt_of_le ac L.size;clear bd L;have cd:=hh n;clear n;obtain⟨T,d⟩:=v;go_simp;refine cb.out.mono ?_;rintro e w2 ⟨c9,cs,rfl,g1,g2,g3⟩;refine cd.out c9 w2 (C.trans g3 (fun _ _ h=>h)) (fun jj u h=>?_) (b6 pf (D:=fun _ _=>False) (D':=fun _ _=>False) g1 g2 (by obtain⟨_,_,_,_,h,_⟩:=HM.out;exact h) (fun g hg=>by obtain⟨h1,h2,h3⟩:=aL g2 hg;exact⟨⟨h2,.inr h3⟩,fun e=>by simp[Value.ownBlock]at e;omega⟩) (fun _ _ _ h=>h) (fun _ h=>False.elim h))
    by_cases hj9:jj=17
    ·subst hj9;exact aD (show aM _ _ _ w' u _ from h) (fun b M=>M.keep g3) (fq g3 _)
    ·rw[if_neg hj9]at h⊢; exact h
   | 18,_,l,r,n =>
    obtain rfl:=oi l;obtain⟨d1,e7,cw⟩:=r 5 (by kernel_rfl) (by decide) 134 rfl;obtain rfl:d1=.slice (some ⟨B,0,none⟩) x.QJ.length I:=cw;obtain⟨d2,e8,cx⟩:=r 6 (by kernel_rfl) (by decide) 135 rfl;obtain rfl:d2=.int .i64 (j:Nat):=cx;obtain⟨T,d⟩:=v;go_simp;exact n (.pointer (some ⟨B,j*4,none⟩)) _ C (fun _ _ h=>h) rfl
   | 19,_,l,r,n =>
    obtain rfl:=oi l;obtain⟨b4,eo,a9⟩:=r 18 (by kernel_rfl) (by decide) 147 rfl;obtain rfl:b4=.pointer (some ⟨B,j*4,none⟩):=a9;obtain⟨T,d⟩:=v;go_simp;exact n (.pointer (some ⟨B,j*4+3,none⟩)) _ C (fun _ _ h=>h) rfl
   | i+20,hi,_,_,_=>omega
  ·intro o l v w' C M r
   obtain rfl:=oi l;have bp:v.tmps.size=150:=M.size.trans (by first|assumption|(simp only[Array.size_setIfInBounds];assumption));have Y:=M.Q7 V rfl;have an:=M.Q7 af rfl;have a0:=M.Q7 ah rfl;obtain⟨b3,en,O⟩:=r 17 (by decide) 146 rfl;replace O:aM (Dx n0 w' (.slice (some ⟨B,0,none⟩) x.QJ.length I) 108) 4 ef w' b3 y.runs:=O;obtain⟨b5,er,bb⟩:=r 19 (by decide) 148 rfl;obtain rfl:b5=.pointer (some ⟨B,j*4+3,none⟩):=bb;obtain⟨T,d⟩:=v;have L:=((aB.refl (fun _=>False) J).drew).trans C (fun _ _ h=>h);have qq:=bm.out w' C;have qf:=c7.out w' C;have Z:=(HC.out.step L).put HY.out O;have cc:=hh Z;have HB:=hh M;obtain⟨Am,cm,em,_⟩:=O;subst em;clear Z M L C;with_reducible refine st (ln ?_)
   refine⟨HA.out.trans (HB.out.agree (ws:=fun i=>rg 118 148 i) (by kernel_rfl)) (by intro j;simp;omega),Y,cc.out⟩
 ·rintro j b J bf ⟨H,V,G⟩
  have X:=H.size.trans ad;have e1:IntKind.i64.wrap ((j:Int)+1)=((j+1:Nat):Int):=by rw[i64_in _ (by omega)];omega
  have HC:=hh G;have HA:=hh H;clear G H;have bc:aA (fun i=>i==7||i==127||i==128) b b:=aA.refl _ _;obtain⟨T,d⟩:=b;refine rl ?_
  iterate 3 with_reducible refine st ?_
  refine ln ⟨rfl,HA.out.trans (vs:=fun i=>i==7||i==127||i==128) (by exact ag) (by intro j;simp;omega),?_,HC.out⟩;rw[show((j+1:Nat):Int)=(j:Int)+1 by omega];exact aq
 ·rintro b J ⟨H,_,G⟩
  exact HQ.out b J H G.exit
theorem pE{R:Nat→Array Value→Prop}{v2:aV}{P:aC}(a3:Cop R n0 w0 zq v2 P w)(a:Act)(ac:a.tmps.size=150)(h3:At a 3 (.pointer (some ⟨zq,0,none⟩)))(Q:Exit→Act→World→Prop)
 (hQ:∀r w',aA (fun i=>i==6||i==7||(rg 99 148 i)) a r→Cop R n0 w0 zq v2 P w'→Q .normal r w'):(al Tryz.f10 [1,1,1,1,0]).wp Tryz.prog Q a w:=by
 have eg:P.Q9.length≤2097152:=by obtain⟨_,_,_,_,h,_⟩:=a3.QL.Q9;exact h
 have HQ:=hh hQ;clear hQ
 conv=>arg 2;whnf
 refine so (fun a1 B=>aA (fun i=>i==6) a a1∧At a1 6 (.int .i64 0)∧B=w) ?_ ?_
 ·have a2:aA (fun i=>i==6) a a:=aA.refl _ _
  obtain⟨T,d⟩:=a;refine rl ?_;with_reducible refine st ?_
  refine ln ⟨rfl,ag,aq,rfl⟩
 rintro a1 B ⟨ci,L,rfl⟩;refine gz P.Q9.length (fun k r w'=>aA (fun i=>i==6||i==7||(rg 99 148 i)) a r∧At r 6 (.int .i64 (k:Nat))∧Cop R n0 w0 zq v2 P w') (fun k r w'=>aA (fun i=>i==6||i==7||(rg 99 148 i)) a r∧At r 6 (.int .i64 (k:Nat))∧Cop R n0 w0 zq v2 P w') (fun a=>match a.eval (.tmp 6)with|.int _ x=>x.toNat|_=>0) ⟨ci.m,L,a3⟩ ?_ ?_ ?_ ?_ ?_
 ·rintro k r w' ⟨E,hk,_⟩
  rw[hk.eval (by rw[E.size];omega)];show((k:Nat):Int).toNat=k;omega
 ·rintro k b I eb ⟨E,L,H⟩
  have W:=E.Q7 h3 rfl;have M:=E.size.trans ac;obtain⟨A0,c0,e0,ct,el,_⟩:=H.QL.Q9;have q:I.cell? ⟨zq,9,none⟩=some (.slice A0 P.Q9.length c0):=by rw[cell_of_row _ _ _ _ _ _ H.cell,←e0];rfl
  have a6:(decide ((k:Int)<(P.Q9.length:Int)))=decide (k<P.Q9.length):=by simp
  have HC:=hh H;have HA:=hh E;clear H E e0;have a2:aA (fun i=>rg 99 103 i) b b:=aA.refl _ _;obtain⟨T,d⟩:=b;refine rl ?_
  iterate 5 with_reducible refine st ?_
  refine ln ?_;refine⟨rfl,⟨HA.out.trans (vs:=fun i=>rg 99 103 i) (by exact ag) (by intro j;simp;omega),ar,HC.out⟩,?_⟩;refine At.eval (i:=103) ?_ (by simp;have:=M;simp at this;omega)
  first|(exact aq)|(rw[←a6];exact aq)
 ·rintro k b I a7 ⟨E,L,H⟩
  have W:=E.Q7 h3 rfl;have M:=E.size.trans ac;obtain⟨x,hx⟩:=ge a7;obtain⟨dk,G⟩:=H.QI.Q9;obtain⟨l,U,S⟩:∃g c,v2.Q9=.slice (some ⟨g,0,none⟩) P.Q9.length c:=by obtain⟨g,c,e,_⟩:=G.form (by omega);exact⟨g,c,e⟩
  obtain⟨d8,a5,d9⟩:=aL G (g:=l) (by rw[S];rfl);have bc:=H.QL.Q9;rw[S]at bc;obtain⟨A,c1,e,ct,_,hl⟩:=bc;obtain⟨rfl,rfl⟩:some ⟨l,0,none⟩=A∧U=c1:=by simpa using e
  obtain⟨b0,off,e,_,hr⟩:=hl (by omega);obtain⟨rfl,rfl⟩:l=b0∧0=off:=by simpa using e
  obtain⟨mv,J,a8,_⟩:=hr k x hx;rw[Nat.zero_add]at J;have q:I.cell? ⟨zq,9,none⟩=some (.slice (some ⟨l,0,none⟩) P.Q9.length U):=by rw[cell_of_row _ _ _ _ _ _ H.cell,←S];rfl
  have qm:I.cell? ⟨l,k*4+3,none⟩=some mv:=J 3 _ rfl;have fz:I.frozen? ⟨l,k*4+3,none⟩=false:=by rw[S]at G;exact G.frozenAt _
  have cv:=aG H.cell;have a9:Hid (∀w',Kz I.drew w'→w'.cell? ⟨zq,9,none⟩=some (.slice (some ⟨l,0,none⟩) P.Q9.length U)):=hh fun w' hw=>(hw.cell (p:=⟨zq,9,none⟩) cv (fun x=>x)).trans q
  have bb:Hid (∀w',Kz I.drew w'→w'.cell? ⟨l,k*4+3,none⟩=some mv):=hh fun w' hw=>(hw.cell (p:=⟨l,k*4+3,none⟩) a5 (fun x=>x)).trans qm
  have cu:Hid (∀w',Kz I.drew w'→w'.frozen? ⟨l,k*4+3,none⟩=false):=hh fun w' hw=>(hw.frozen (p:=⟨l,k*4+3,none⟩) a5 (fun x=>x)).trans fz
  have HC:=hh H;have HA:=hh E;have HM:=hh a8;have HX:=hh hx;have HV:=hh S;clear H E G hl hr J a8 q qm fz hx S e;refine so (fun b2 w2=>aA (fun i=>i==7||(rg 99 148 i)) b b2∧∃Al cl,gv R n0 w0 zq v2 P k x (.slice Al x.QJ.length cl) l U w2) ?_ ?_
  ·skip
   refine cS 12 (fun jj w_ u_=>if jj=9 then∃B cs,Kz I B∧ey (Dm n0 B 92) 4 (gN (Dm n0 B)) B x.QJ cs∧w_.ownsRow B.heap.size 92 4 u_ x.QJ.length cs∧Kz B w_ else u_=([.pointer (some ⟨zq,9,none⟩),.slice (some ⟨l,0,none⟩) P.Q9.length U,.int .i64 (k:Nat),.pointer (some ⟨zq,9,none⟩),.slice (some ⟨l,0,none⟩) P.Q9.length U,.int .i64 (k:Nat),.pointer (some ⟨l,k*4,none⟩),.pointer (some ⟨l,k*4+3,none⟩),mv,undef,.pointer (some ⟨l,k*4,none⟩),.pointer (some ⟨l,k*4+3,none⟩)]:List Value).getD jj undef) (fun w'=>Kz I.drew w') (by kernel_rfl) (by kernel_rfl) (aB.refl _ _) ?_ ?_
   ·intro i o hi n r w' K C O y v
    have be:r.tmps.size=150:=O.size.trans (by first|assumption|(simp only[Array.size_setIfInBounds];assumption));have af:=O.Q7 L rfl;have ad:=O.Q7 W rfl
    match i,hi,n,y,v with
    | 0,_,n,y,v =>
     obtain rfl:=oi n;obtain⟨T,d⟩:=r;go_simp;exact v (.pointer (some ⟨zq,9,none⟩)) _ C (fun _ _ h=>h) rfl
    | 1,_,n,y,v =>
     obtain rfl:=oi n;obtain⟨cx,dl,bw⟩:=y 0 (by kernel_rfl) (by decide) 106 rfl;obtain rfl:cx=.pointer (some ⟨zq,9,none⟩):=bw;have qq:=a9.out w' C;obtain⟨T,d⟩:=r;go_simp;exact v (.slice (some ⟨l,0,none⟩) P.Q9.length U) _ C (fun _ _ h=>h) rfl
    | 2,_,n,y,v =>
     obtain rfl:=oi n;obtain⟨T,d⟩:=r;go_simp;exact v (.int .i64 (k:Nat)) _ C (fun _ _ h=>h) rfl
    | 3,_,n,y,v =>
     obtain rfl:=oi n;obtain⟨T,d⟩:=r;go_simp;exact v (.pointer (some ⟨zq,9,none⟩)) _ C (fun _ _ h=>h) rfl
    | 4,_,n,y,v =>
     obtain rfl:=oi n;obtain⟨c3,d1,b1⟩:=y 3 (by kernel_rfl) (by decide) 109 rfl;obtain rfl:c3=.pointer (some ⟨zq,9,none⟩):=b1;have qq:=a9.out w' C;obtain⟨T,d⟩:=r;go_simp;exact v (.slice (some ⟨l,0,none⟩) P.Q9.length U) _ C (fun _ _ h=>h) rfl
    | 5,_,n,y,v =>
     obtain rfl:=oi n;obtain⟨T,d⟩:=r;go_simp;exact v (.int .i64 (k:Nat)) _ C (fun _ _ h=>h) rfl
    | 6,_,n,y,v =>
     obtain rfl:=oi n;obtain⟨c4,d2,b4⟩:=y 4 (by kernel_rfl) (by decide) 110 rfl;obtain rfl:c4=.slice (some ⟨l,0,none⟩) P.Q9.length U:=b4;obtain⟨c5,d3,b5⟩:=y 5 (by kernel_rfl) (by decide) 111 rfl;obtain rfl:c5=.int .i64 (k:Nat):=b5;obtain⟨T,d⟩:=r;go_simp;exact v (.pointer (some ⟨l,k*4,none⟩)) _ C (fun _ _ h=>h) rfl
    | 7,_,n,y,v =>
     obtain rfl:=oi n;obtain⟨c6,d4,cb⟩:=y 6 (by kernel_rfl) (by decide) 112 rfl;obtain rfl:c6=.pointer (some ⟨l,k*4,none⟩):=cb;obtain⟨T,d⟩:=r;go_simp;exact v (.pointer (some ⟨l,k*4+3,none⟩)) _ C (fun _ _ h=>h) rfl
    | 8,_,n,y,v =>
     obtain rfl:=oi n;obtain⟨c7,d5,cc⟩:=y 7 (by kernel_rfl) (by decide) 113 rfl;obtain rfl:c7=.pointer (some ⟨l,k*4+3,none⟩):=cc;have qq:=bb.out w' C;obtain⟨T,d⟩:=r;go_simp;exact v (mv) _ C (fun _ _ h=>h) rfl
    | 9,_,n,y,v =>
     obtain rfl:=oi n;obtain⟨c8,d6,cf⟩:=y 8 (by kernel_rfl) (by decide) 114 rfl;obtain rfl:c8=mv:=cf;have N:=((aB.refl (fun _=>False) I).drew).trans C (fun _ _ h=>h);have a4:=xo (D:=Dm n0 w') (eq.same HM.out (D0':=Dm n0 w' 92) (D':=Dm n0 w') (fun b O=>O.keep N) (bM N _) (fun T _ b O=>O.keep N) (fun T _=>bM N T));have bo:=hh a4;have bu:=hh N;clear a4 N;have bt:=hh v;clear v;obtain⟨T,d⟩:=r;go_simp;refine bo.out.mono ?_;rintro e w2 ⟨cw,cs,rfl,g1,g2,g3⟩;refine bt.out cw w2 (C.trans g3 (fun _ _ h=>h)) (fun j u h=>?_) ⟨w',cs,bu.out,g1,g2,g3⟩
     by_cases hj9:j=9
     ·subst hj9
      obtain⟨B,cs,h1,h2,h3,h4⟩:∃B cs,Kz I B∧ey (Dm n0 B 92) 4 (gN (Dm n0 B)) B x.QJ cs∧w'.ownsRow B.heap.size 92 4 u x.QJ.length cs∧Kz B w':=h;exact⟨B,cs,h1,h2,aR h3 g3 (fun _ _ x=>x),h4.trans g3 (fun _ _ h=>h)⟩
     ·rw[if_neg hj9]at h⊢; exact h
    | 10,_,n,y,v =>
     obtain rfl:=oi n;obtain⟨cy,ds,bx⟩:=y 1 (by kernel_rfl) (by decide) 107 rfl;obtain rfl:cy=.slice (some ⟨l,0,none⟩) P.Q9.length U:=bx;obtain⟨c2,d0,bz⟩:=y 2 (by kernel_rfl) (by decide) 108 rfl;obtain rfl:c2=.int .i64 (k:Nat):=bz;obtain⟨T,d⟩:=r;go_simp;exact v (.pointer (some ⟨l,k*4,none⟩)) _ C (fun _ _ h=>h) rfl
    | 11,_,n,y,v =>
     obtain rfl:=oi n;obtain⟨bj,c9,ah⟩:=y 10 (by kernel_rfl) (by decide) 116 rfl;obtain rfl:bj=.pointer (some ⟨l,k*4,none⟩):=ah;obtain⟨T,d⟩:=r;go_simp;exact v (.pointer (some ⟨l,k*4+3,none⟩)) _ C (fun _ _ h=>h) rfl
    | i+12,hi,_,_,_=>omega
   ·intro o n r w' C O y
    obtain rfl:=oi n;have be:r.tmps.size=150:=O.size.trans (by first|assumption|(simp only[Array.size_setIfInBounds];assumption));have af:=O.Q7 L rfl;have ad:=O.Q7 W rfl;obtain⟨bm,d7,Z⟩:=y 9 (by decide) 115 rfl;replace Z:∃B cs,Kz I B∧ey (Dm n0 B 92) 4 (gN (Dm n0 B)) B x.QJ cs∧w'.ownsRow B.heap.size 92 4 bm x.QJ.length cs∧Kz B w':=Z;obtain⟨bl,di,an⟩:=y 11 (by decide) 117 rfl;obtain rfl:bl=.pointer (some ⟨l,k*4+3,none⟩):=an;obtain⟨T,d⟩:=r;have qq:=bb.out w' C;have qf:=cu.out w' C;obtain⟨B,cs,g1,g2,g3,g4⟩:=Z;obtain⟨Am,cm,rfl⟩:∃A c,bm=.slice A x.QJ.length c:=by
     rcases g3.2 with⟨e1,e2⟩|⟨g,c,_,e1,_⟩
     ·exact⟨none,0,by rw[e1,e2]⟩
     ·exact⟨_,c,e1⟩
    have X:=(HC.out.step g1).inner HV.out HX.out g2 g3 g4;have bp:=hh X;have HB:=hh O;clear X O C g1 g2 g3 g4;with_reducible refine st (ln ?_)
    exact⟨rfl,HB.out.agree (by kernel_rfl),Am,cm,bp.out⟩
  rintro b2 w2 ⟨V,Al,cl,hI⟩;have bf:=V.Q7 W rfl;have Y:=V.Q7 L rfl;have bd:=V.size.trans M;refine qn hI b2 bd bf Y _ fun b3 w3 a0 cp=>?_
  exact⟨(HA.out.t V).t a0,a0.Q7 Y rfl,cp⟩
 ·rintro k b I a7 ⟨E,L,H⟩
  have M:=E.size.trans ac;have e1:IntKind.i64.wrap ((k:Int)+1)=((k+1:Nat):Int):=by rw[i64_in _ (by omega)];omega
  have HC:=hh H;have HA:=hh E;clear H E;have a2:aA (fun i=>i==6||i==104||i==105) b b:=aA.refl _ _;obtain⟨T,d⟩:=b;refine rl ?_
  iterate 3 with_reducible refine st ?_
  refine ln ⟨rfl,HA.out.trans (vs:=fun i=>i==6||i==104||i==105) (by exact ag) (by intro j;simp;omega),?_,HC.out⟩;rw[show((k+1:Nat):Int)=(k:Int)+1 by omega];exact aq
 ·rintro b I ⟨E,_,H⟩
  exact HQ.out b I E H
theorem gB.ones{D:bF}{v:aV}{P:aC}(h:gB D w v P):(v.cells P).toArray.all (·.oneCell')=true:=
 mh v P fun u a=>by
  simp only[List.mem_cons,List.mem_nil_iff,or_false]at a
  rcases a with rfl|rfl|rfl|rfl|rfl|rfl|rfl|rfl|rfl|rfl|rfl|rfl
  ·exact ab h.QF
  ·exact ab h.Q4
  ·exact ab h.Q5
  ·exact ab h.Q3
  ·exact ab h.Q8
  ·exact ab h.QG
  ·exact ab h.QC
  ·exact ab h.Q9
  ·exact ab h.QD
  ·exact ab h.QE
  ·exact ab h.QB
  ·exact ab h.QA
theorem s9{v:aV}{P:aC}(hp:cX B w v P)(hB:B≤w.heap.size):
 Calls Tryz.prog 10 #[.agg (v.cells P).toArray] w fun e w'=>∃v',e=.returned (.agg (v'.cells P).toArray)∧gB (Dm w.heap.size w') w' v' P∧pL w.heap.size w' v' P∧Kz w w':=by
 have HP:=hh hp;refine az Tryz.func10 Tryz.ntmps10 rfl (by show 1≤150;decide) fun a a8 hd h=>?_
 have Z:At a 0 (.agg #[.int .i64 P.pos,.string P.name,v.QF,v.Q4,v.Q5,v.Q3,v.Q8,v.QG,v.QC,v.Q9,v.QD,v.QE,v.QB,v.QA]):=h 0 _ rfl;clear h hp
 conv=>arg 2;whnf
 refine so (fun I C=>aA (fun i=>i==1||i==2) a I∧At I 1 (.pointer (some ⟨w.heap.size,0,none⟩))∧At I 2 (.pointer (some ⟨w.heap.size+1,0,none⟩))∧C=(w.alloc (.cells #[.int .i64 P.pos,.string P.name,v.QF,v.Q4,v.Q5,v.Q3,v.Q8,v.QG,v.QC,v.Q9,v.QD,v.QE,v.QB,v.QA] 34)).alloc (.cells #[.int .i64 0,.string { data := #[] },.slice none 0 0,.slice none 0 0,.slice none 0 0,.slice none 0 0,.slice none 0 0,.slice none 0 0,.slice none 0 0,.slice none 0 0,.slice none 0 0,.slice none 0 0,.slice none 0 0,.slice none 0 0] 34)) ?_ ?_
 ·have bc:aA (fun i=>i==1||i==2) a a:=aA.refl _ _
  obtain⟨T,d⟩:=a;refine rl ?_
  iterate 2 with_reducible refine st ?_
  refine ln ⟨rfl,ag,aq,aq,rfl⟩
 rintro I C ⟨D,h1,J,A⟩;replace Z:=D.Q7 Z rfl;have W:=D.size.trans a8;have a0:=D.defers.trans hd;have a1:Kz w C:=by rw[A];exact((aB.refl _ _).alloc _).alloc _
 have hz:C.heap[w.heap.size]?=some (.cells (v.cells P).toArray 34 (0,0)):=by rw[A,heap_alloc_old _ _ (by simp)];exact heap_alloc_new _ _
 have hr:C.heap[w.heap.size+1]?=some (.cells #[.int .i64 0,.string { data := #[] },.slice none 0 0,.slice none 0 0,.slice none 0 0,.slice none 0 0,.slice none 0 0,.slice none 0 0,.slice none 0 0,.slice none 0 0,.slice none 0 0,.slice none 0 0,.slice none 0 0,.slice none 0 0] 34 (0,0)):=by rw[A];exact heap_alloc2_new _ _ _
 clear A Z;refine wp_seq (pF (R:=fun z c=>z=w.heap.size+1∧c = #[.int .i64 0,.string { data := #[] },.slice none 0 0,.slice none 0 0,.slice none 0 0,.slice none 0 0,.slice none 0 0,.slice none 0 0,.slice none 0 0,.slice none 0 0,.slice none 0 0,.slice none 0 0,.slice none 0 0,.slice none 0 0]) HP.out hB a1 (fun z c ⟨e1,e2⟩=>by subst e1;subst e2;exact hr) hz I W h1 _ fun a2 w2 zq L X K ac _=>?_);have S:=X.size.trans W;have ah:=X.defers.trans a0;replace J:=X.Q7 J rfl;refine wp_seq (md ac a2 S K _ fun a3 w3 M ad=>?_);replace K:=M.Q7 K rfl;replace J:=M.Q7 J rfl;have U:=M.size.trans S;refine wp_seq (lF ad a3 U K _ fun a4 w4 N af=>?_);replace K:=N.Q7 K rfl;replace J:=N.Q7 J rfl;have V:=N.size.trans U;refine wp_seq (pE af a4 V K _ fun a5 H O E=>?_);replace K:=O.Q7 K rfl;replace J:=O.Q7 J rfl;have bb:=O.size.trans V;have an:=O.defers.trans (N.defers.trans (M.defers.trans ah));have G:=E.res _ _ ⟨rfl,rfl⟩;refine so (fun a6 w6=>aA (fun i=>i==149) a5 a6∧w6=H.setRow (w.heap.size+1) (L.cells P).toArray) ?_ ?_
 ·refine rl ?_
  refine wpList_load_row rfl 34 (.tmp 3) rfl zq (K.eval (by omega)) 34 (L.cells P).toArray (0,0) _ E.cell Tryz.underlying34 rfl Tryz.info34C ?_;refine wpList_store_row rfl 34 (.tmp 2) (.tmp 149) rfl (w.heap.size+1) (L.cells P).toArray ((J.put_ne (by decide)).eval (by simp[Act.put];omega)) (At.eval At.put_self (by simp[Act.put];omega)) 34 _ G Tryz.info34C rfl E.QL.ones (ln ⟨rfl,?_,rfl⟩);exact(aA.refl _ _).put rfl _
 rintro a6 w6 ⟨Y,rfl⟩;have n:=lf (cs:=(L.cells P).toArray) G;have u:bk H (w.heap.size+1)=some 34:=by unfold bk;rw[G]
 have a9:∀k,bk (H.setRow (w.heap.size+1) (L.cells P).toArray) k=bk H k:=fun k=>by
  by_cases e:k=w.heap.size+1
  ·subst e;unfold bk;rw[setRow_heap H _ _ _ _ _ G,G]
  ·unfold bk;rw[setRow_other H _ k _ e]
 have a7:∀T b,T≠34→Dm w.heap.size H T b→b≠w.heap.size+1:=fun T b Q j=>j.ne (by omega) u Q
 have l:∀T b,Dm w.heap.size H T b→Dm w.heap.size (H.setRow (w.heap.size+1) (L.cells P).toArray) T b:=fun T b j=>⟨Nat.lt_of_lt_of_le j.1 n.size,j.2.imp id fun e=>(a9 b).trans e⟩
 have q:∀T,T≠34→aW (Dm w.heap.size H T) H (H.setRow (w.heap.size+1) (L.cells P).toArray):=fun T Q=>aW.of_keep n fun b j=>⟨j.1,a7 T b Q j⟩
 have r:=E.QL;have x:=E.QI;refine wp_ret ?_
 repeat (first|with_reducible apply b8|with_reducible apply bG)
 refine bodyPost_ret (v := .agg (L.cells P).toArray) (results_cell_row (p:=2) (ty:=34) rfl _ _ (w.heap.size+1) 34 (L.cells P).toArray (0,0) _ (((Y.Q7 J rfl).eval (by rw[Y.size];omega))) (setRow_heap H _ _ _ _ _ G) Tryz.underlying34 rfl Tryz.info34C) (Y.defers.trans an) ?_;refine⟨L,rfl,⟨aD r.QF (fun b j=>l _ b j) (q _ (by decide)),ao.same r.Q4 (fun b j=>l _ b j) (q _ (by decide)) (fun T _ b j=>l T b j) (fun T Q=>q T (by subst Q;decide)),aD r.Q5 (fun b j=>l _ b j) (q _ (by decide)),aj.same r.Q3 (fun b j=>l _ b j) (q _ (by decide)) (fun T _ b j=>l T b j) (fun T Q=>q T (by rcases Q with rfl|rfl<;>decide)),aD r.Q8 (fun b j=>l _ b j) (q _ (by decide)),aD r.QG (fun b j=>l _ b j) (q _ (by decide)),aD r.QC (fun b j=>l _ b j) (q _ (by decide)),au.same r.Q9 (fun b j=>l _ b j) (q _ (by decide)) (fun T _ b j=>l T b j) (fun T Q=>q T (by rcases Q with rfl|rfl<;>decide)),aD r.QD (fun b j=>l _ b j) (q _ (by decide)),aD r.QE (fun b j=>l _ b j) (q _ (by decide)),aD r.QB (fun b j=>l _ b j) (q _ (by decide)),aD r.QA (fun b j=>l _ b j) (q _ (by decide)),r.pos,r.name⟩,⟨let⟨cs,hcs⟩:=x.QF;⟨cs,aR hcs n (fun g y e=>by have:=(aL hcs y).2.2;rw[e,u]at this;exact absurd (Option.some.inj this) (by decide))⟩,let⟨cs,hcs⟩:=x.Q4;⟨cs,aR hcs n (fun g y e=>by have:=(aL hcs y).2.2;rw[e,u]at this;exact absurd (Option.some.inj this) (by decide))⟩,let⟨cs,hcs⟩:=x.Q5;⟨cs,aR hcs n (fun g y e=>by have:=(aL hcs y).2.2;rw[e,u]at this;exact absurd (Option.some.inj this) (by decide))⟩,let⟨cs,hcs⟩:=x.Q3;⟨cs,aR hcs n (fun g y e=>by have:=(aL hcs y).2.2;rw[e,u]at this;exact absurd (Option.some.inj this) (by decide))⟩,let⟨cs,hcs⟩:=x.Q8;⟨cs,aR hcs n (fun g y e=>by have:=(aL hcs y).2.2;rw[e,u]at this;exact absurd (Option.some.inj this) (by decide))⟩,let⟨cs,hcs⟩:=x.QG;⟨cs,aR hcs n (fun g y e=>by have:=(aL hcs y).2.2;rw[e,u]at this;exact absurd (Option.some.inj this) (by decide))⟩,let⟨cs,hcs⟩:=x.QC;⟨cs,aR hcs n (fun g y e=>by have:=(aL hcs y).2.2;rw[e,u]at this;exact absurd (Option.some.inj this) (by decide))⟩,let⟨cs,hcs⟩:=x.Q9;⟨cs,aR hcs n (fun g y e=>by have:=(aL hcs y).2.2;rw[e,u]at this;exact absurd (Option.some.inj this) (by decide))⟩,let⟨cs,hcs⟩:=x.QD;⟨cs,aR hcs n (fun g y e=>by have:=(aL hcs y).2.2;rw[e,u]at this;exact absurd (Option.some.inj this) (by decide))⟩,let⟨cs,hcs⟩:=x.QE;⟨cs,aR hcs n (fun g y e=>by have:=(aL hcs y).2.2;rw[e,u]at this;exact absurd (Option.some.inj this) (by decide))⟩,let⟨cs,hcs⟩:=x.QB;⟨cs,aR hcs n (fun g y e=>by have:=(aL hcs y).2.2;rw[e,u]at this;exact absurd (Option.some.inj this) (by decide))⟩,let⟨cs,hcs⟩:=x.QA;⟨cs,aR hcs n (fun g y e=>by have:=(aL hcs y).2.2;rw[e,u]at this;exact absurd (Option.some.inj this) (by decide))⟩⟩,E.keep.trans n (fun i hi e=>by omega)⟩
structure fO (B:Nat) (w0:World) (z:Nat) (v:aV) (P:aC) (w:World):Prop where
 keep:Kz w0 w
 base:B≤w.heap.size
 cell:w.heap[z]?=some (.cells (v.cells P).toArray 34 (0,0))
 QL:cX B w v P
theorem fO.step{v:aV}{P:aC}(h:fO B w0 z v P w)(hk:Kz w w'):fO B w0 z v P w':=
 ⟨h.keep.trans hk (fun _ _ h=>h),Nat.le_trans h.base hk.size,(hk.block z (aG h.cell) (fun x=>x)).trans h.cell,h.QL.below (hk.below h.base (fun _ _ h=>h))⟩
theorem fO.Q7{v:aV}{P:aC}(h:fO B w0 z v P w){j:Nat}{u:Value}(a:(v.cells P)[j]?=some u):w.cell? ⟨z,j,none⟩=some u:=
 (cell_of_row _ _ _ _ _ _ h.cell).trans (by simpa using a)
theorem uF{v:aV}{P:aC}(hp:cX B w v P)(hB:B≤w.heap.size):Calls Tryz.prog 9 #[.agg (v.cells P).toArray] w fun e w'=>∃b:Bool,e=.returned (.bool b)∧Kz w w':=by
 have HP:=hh hp;obtain⟨A_rams,bp,cf,fi,d4,fm⟩:=hp.QF;obtain⟨A_devices,D,ah,f0,d2,dl⟩:=hp.Q4;obtain⟨A_regions,E,a1,f1,d5,d1⟩:=hp.Q5;obtain⟨A_subjects,C,ac,fx,c5,cy⟩:=hp.Q3;obtain⟨A_channels,Q,Y,ct,a8,cw⟩:=hp.Q8;obtain⟨A_irqs,bo,cd,ff,d3,fl⟩:=hp.QG;obtain⟨A_queues,a3,a5,es,cb,e2⟩:=hp.QC;obtain⟨A_plans,G,be,gp,e8,e7⟩:=hp.Q9;obtain⟨A_masters,X,a0,dk,bm,d0⟩:=hp.QD;obtain⟨A_starts,a4,a6,ev,cc,e5⟩:=hp.QE;obtain⟨A_monitors,S,Z,cv,a9,cx⟩:=hp.QB;obtain⟨A_forbids,W,an,di,bf,ds⟩:=hp.QA;have e0:(v.cells P).toArray = #[.int .i64 P.pos,.string P.name,.slice A_rams P.QF.length bp,.slice A_devices P.Q4.length D,.slice A_regions P.Q5.length E,.slice A_subjects P.Q3.length C,.slice A_channels P.Q8.length Q,.slice A_irqs P.QG.length bo,.slice A_queues P.QC.length a3,.slice A_plans P.Q9.length G,.slice A_masters P.QD.length X,.slice A_starts P.QE.length a4,.slice A_monitors P.QB.length S,.slice A_forbids P.QA.length W]:=by
  rw[←cf,←ah,←a1,←ac,←Y,←cd,←a5,←be,←a0,←a6,←Z,←an];rfl
 unfold top at d4 d2 d5 c5 a8 d3 cb e8 bm cc a9 bf;have HE:=hh e0;clear hp fm dl d1 cy cw fl e2 e7 d0 e5 cx ds fi d4 ct a8 ff d3 es cb dk bm ev cc cv a9 di bf;have fc:=hh cf;have N:=hh ah;have O:=hh a1;have J:=hh ac;have cl:=hh Y;have e9:=hh cd;have d6:=hh a5;have K:=hh be;have c8:=hh a0;have d7:=hh a6;have cp:=hh Z;have c7:=hh an;clear cf ah a1 ac Y cd a5 be a0 a6 Z an;refine az Tryz.func9 Tryz.ntmps9 rfl (by show 1≤181;decide) fun a h2 hd h=>?_
 have h0:At a 0 (.agg #[.int .i64 P.pos,.string P.name,.slice A_rams P.QF.length bp,.slice A_devices P.Q4.length D,.slice A_regions P.Q5.length E,.slice A_subjects P.Q3.length C,.slice A_channels P.Q8.length Q,.slice A_irqs P.QG.length bo,.slice A_queues P.QC.length a3,.slice A_plans P.Q9.length G,.slice A_masters P.QD.length X,.slice A_starts P.QE.length a4,.slice A_monitors P.QB.length S,.slice A_forbids P.QA.length W]):=by rw[←e0];exact h 0 _ rfl
 clear h e0
 conv=>arg 2;whnf
 refine so (fun d8 I=>aA (fun i=>i==1||i==2) a d8∧At d8 1 (.pointer (some ⟨w.heap.size,0,none⟩))∧I=w.alloc (.cells #[.int .i64 P.pos,.string P.name,.slice A_rams P.QF.length bp,.slice A_devices P.Q4.length D,.slice A_regions P.Q5.length E,.slice A_subjects P.Q3.length C,.slice A_channels P.Q8.length Q,.slice A_irqs P.QG.length bo,.slice A_queues P.QC.length a3,.slice A_plans P.Q9.length G,.slice A_masters P.QD.length X,.slice A_starts P.QE.length a4,.slice A_monitors P.QB.length S,.slice A_forbids P.QA.length W] 34)) ?_ ?_
 ·have M:aA (fun i=>i==1||i==2) a a:=aA.refl _ _
  obtain⟨T,d⟩:=a;refine rl ?_
  iterate 2 with_reducible refine st ?_
  refine ln ⟨rfl,ag,aq,rfl⟩
 rintro d8 I ⟨eo,h1,e6⟩;replace h0:=eo.Q7 h0 rfl;have hg:=eo.size.trans h2;have ht:=eo.defers.trans hd;obtain⟨z,hz⟩:∃z,z=w.heap.size:=⟨_,rfl⟩;rw[←hz]at h1;have u:fO B w z v P I:=by
  have hk:Kz w I:=by rw[e6];exact(aB.refl _ _).alloc _
  exact⟨hk,Nat.le_trans hB hk.size,by rw[e6,hz,HE.out];exact heap_alloc_new _ _,HP.out.below (hk.below (B:=B) hB (fun _ _ h=>h))⟩
 have q2:I.cell? ⟨z,2,none⟩=some (.slice A_rams P.QF.length bp):=by rw[u.Q7 (j:=2) rfl,←fc.out]
 have q3:I.cell? ⟨z,3,none⟩=some (.slice A_devices P.Q4.length D):=by rw[u.Q7 (j:=3) rfl,←N.out]
 have q4:I.cell? ⟨z,4,none⟩=some (.slice A_regions P.Q5.length E):=by rw[u.Q7 (j:=4) rfl,←O.out]
 have q5:I.cell? ⟨z,5,none⟩=some (.slice A_subjects P.Q3.length C):=by rw[u.Q7 (j:=5) rfl,←J.out]
 have q6:I.cell? ⟨z,6,none⟩=some (.slice A_channels P.Q8.length Q):=by rw[u.Q7 (j:=6) rfl,←cl.out]
 have q7:I.cell? ⟨z,7,none⟩=some (.slice A_irqs P.QG.length bo):=by rw[u.Q7 (j:=7) rfl,←e9.out]
 have q8:I.cell? ⟨z,8,none⟩=some (.slice A_queues P.QC.length a3):=by rw[u.Q7 (j:=8) rfl,←d6.out]
 have q9:I.cell? ⟨z,9,none⟩=some (.slice A_plans P.Q9.length G):=by rw[u.Q7 (j:=9) rfl,←K.out]
 have h6:I.cell? ⟨z,10,none⟩=some (.slice A_masters P.QD.length X):=by rw[u.Q7 (j:=10) rfl,←c8.out]
 have h7:I.cell? ⟨z,11,none⟩=some (.slice A_starts P.QE.length a4):=by rw[u.Q7 (j:=11) rfl,←d7.out]
 have h8:I.cell? ⟨z,12,none⟩=some (.slice A_monitors P.QB.length S):=by rw[u.Q7 (j:=12) rfl,←cp.out]
 have h9:I.cell? ⟨z,13,none⟩=some (.slice A_forbids P.QA.length W):=by rw[u.Q7 (j:=13) rfl,←c7.out]
 have L:=hh u;clear e6 hz h0 u;refine so (fun d9 fs=>aA (fun i=>i==3||(rg 10 56 i)) d8 d9∧(∃x:Int,At d9 3 (.int .i64 x))∧fs=I) ?_ ?_
 ·have M:aA (fun i=>i==3||(rg 10 56 i)) d8 d8:=aA.refl _ _
  obtain⟨T,d⟩:=d8;refine rl ?_
  iterate 48 with_reducible refine st ?_
  refine ln ⟨rfl,?_,?_,rfl⟩
  ·exact ag
  ·exact Exists.intro _ At.self
 rintro d9 fs ⟨er,a2,rfl⟩;replace h1:=er.Q7 h1 rfl;have go:=er.size.trans hg;have ha:=er.defers.trans ht;refine so (fun c9 ft=>aA (fun i=>i==4) d9 c9∧(∃x:Int,At c9 4 (.int .i64 x))∧ft=fs) ?_ ?_
 ·have M:aA (fun i=>i==4) d9 d9:=aA.refl _ _
  obtain⟨T,d⟩:=d9;refine rl ?_;with_reducible refine st ?_
  refine ln ⟨rfl,?_,?_,rfl⟩
  ·exact ag
  ·exact Exists.intro _ At.self
 rintro c9 ft ⟨cs,ci,rfl⟩;replace h1:=cs.Q7 h1 rfl;have fz:=cs.size.trans go;have gd:=cs.defers.trans ha;replace a2:∃x:Int,At c9 3 (.int .i64 x):=let⟨x,h⟩:=a2;⟨x,cs.Q7 h rfl⟩
 clear q2 q3 q4 q5 q6 q7 q8 q9 h6 h7 h8 h9;refine wp_seq (wp_seq (Code.wp_only (R:=fun eb f2=>aA (fun i=>i==5) c9 eb∧At eb 5 (.int .i64 0)∧f2=ft) ?_ ?_))
 ·have M:aA (fun i=>i==5) c9 c9:=aA.refl _ _
  obtain⟨T,d⟩:=c9;refine rl ?_;with_reducible refine st ?_
  refine ln ⟨rfl,ag,aq,rfl⟩
 rintro eb f2 ⟨bx,hm,rfl⟩;replace h1:=bx.Q7 h1 rfl;have bc:=bx.size.trans fz;have fy:=bx.defers.trans gd;refine jJ P.Q4.length (fun k A w'=>aA (fun i=>i==3||i==5||(rg 57 76 i)) eb A∧At A 5 (.int .i64 (k:Nat))∧(∃x:Int,At A 3 (.int .i64 x))∧fO B w z v P w') (fun k A w'=>aA (fun i=>i==3||i==5||(rg 57 76 i)) eb A∧At A 5 (.int .i64 (k:Nat))∧(∃x:Int,At A 3 (.int .i64 x))∧fO B w z v P w') (fun k A w'=>aA (fun i=>i==3||i==5||(rg 57 76 i)) eb A∧At A 5 (.int .i64 (k:Nat))∧(∃x:Int,At A 3 (.int .i64 x))∧fO B w z v P w') (fun A w'=>aA (fun i=>i==3||i==5||(rg 57 76 i)) eb A∧(∃x:Int,At A 3 (.int .i64 x))∧fO B w z v P w') (fun a=>match a.eval (.tmp 5)with|.int _ x=>x.toNat|_=>0) ⟨aA.refl _ _,hm,(let⟨x,h⟩:=a2;⟨x,bx.Q7 h rfl⟩),L.out⟩ ?_ ?_ ?_ ?_ ?_
 ·rintro k A w' ⟨g,hk,_⟩
  rw[hk.eval (by rw[g.size];omega)];show((k:Nat):Int).toNat=k;omega
 ·rintro k b wr ⟨g,ad,⟨x,H⟩,u⟩
  have a7:=g.Q7 h1 rfl;have n:=g.size.trans bc;have q:wr.cell? ⟨z,3,none⟩=some (.slice A_devices P.Q4.length D):=by rw[u.Q7 (j:=3) rfl,←N.out]
  have U:decide ((k:Int)<(P.Q4.length:Int))=decide (k<P.Q4.length):=by simp
  have V:=hh g;have L:=hh u;clear g u;have fr:=aJ;have a2:=H;have M:aA (fun i=>rg 57 65 i) b b:=aA.refl _ _
  by_cases hk1:k<P.Q4.length
  ·have t1:decide (k<P.Q4.length)=true:=decide_eq_true hk1
   have c6:=U.trans t1;obtain⟨bb,af⟩:∃b,b=decide (x≤3000):=⟨_,rfl⟩;have t2:decide (x≤3000)=bb:=af.symm;clear af;obtain⟨T,d⟩:=b;refine rl ?_
   iterate 9 with_reducible refine st ?_
   refine ln ⟨rfl,?_⟩
   cases bb with
   | true=>exact .inl ⟨At.eval (i:=65) ar (by simp;have:=n;simp at this;omega),hk1,V.out.trans (vs:=fun i=>rg 57 65 i) (by exact ag) (by intro j;simp;omega),ar,⟨x,ar⟩,L.out⟩
   | false=>exact .inr ⟨At.eval (i:=65) ar (by simp;have:=n;simp at this;omega),V.out.trans (vs:=fun i=>rg 57 65 i) (by exact ag) (by intro j;simp;omega),⟨x,ar⟩,L.out⟩
  ·have t1:decide (k<P.Q4.length)=false:=decide_eq_false hk1
   have c6:=U.trans t1;obtain⟨T,d⟩:=b;refine rl ?_
   iterate 9 with_reducible refine st ?_
   refine ln ⟨rfl,?_⟩;exact .inr ⟨At.eval (i:=65) ar (by simp;have:=n;simp at this;omega),V.out.trans (vs:=fun i=>rg 57 65 i) (by exact ag) (by intro j;simp;omega),⟨x,ar⟩,L.out⟩
 ·rintro k b wr b5 ⟨g,ad,⟨x,H⟩,u⟩
  have a7:=g.Q7 h1 rfl;have n:=g.size.trans bc;have q:wr.cell? ⟨z,3,none⟩=some (.slice A_devices P.Q4.length D):=by rw[u.Q7 (j:=3) rfl,←N.out]
  obtain⟨A0,c0,e0,fj,_,hl⟩:=u.QL.Q4;rw[N.out]at e0;obtain⟨rfl,rfl⟩:A_devices=A0∧D=c0:=by simpa using e0
  obtain⟨bl,off,rfl,f6,b4⟩:=hl (by omega);obtain⟨y,hy⟩:=ge b5;obtain⟨mv,hc,⟨Am,cm,rfl,_,_,_⟩,_⟩:=b4 k y hy;have r4:=hc 4 _ rfl;have V:=hh g;have L:=hh u;clear g u b4 hl hc e0 hy;have M:aA (fun i=>i==3||(rg 68 76 i)) b b:=aA.refl _ _;obtain⟨T,d⟩:=b;refine rl ?_
  iterate 10 with_reducible refine st ?_
  refine ln ?_;exact⟨V.out.trans (vs:=fun i=>i==3||(rg 68 76 i)) (by exact ag) (by intro j;simp;omega),ar,⟨_,At.self⟩,L.out⟩
 ·rintro k b wr b5 ⟨g,ad,⟨x,H⟩,u⟩
  have n:=g.size.trans bc;have e1:IntKind.i64.wrap ((k:Int)+1)=((k+1:Nat):Int):=by rw[i64_in _ (by omega)];omega
  have L:=hh u;have V:=hh g;clear u g;have M:aA (fun i=>i==5||i==66||i==67) b b:=aA.refl _ _;obtain⟨T,d⟩:=b;refine rl ?_
  iterate 3 with_reducible refine st ?_
  refine ln ⟨rfl,V.out.trans (vs:=fun i=>i==5||i==66||i==67) (by exact ag) (by intro j;simp;omega),?_,⟨x,ar⟩,L.out⟩;rw[show((k+1:Nat):Int)=(k:Int)+1 by omega];exact aq
 ·rintro b wr ⟨g,H,u⟩
  have h1:=g.Q7 h1 rfl;have gf:=g.size.trans bc;have gt:=g.defers.trans fy;have L:=hh u;have ci:∃x:Int,At b 4 (.int .i64 x):=let⟨x,h⟩:=ci;⟨x,g.Q7 (bx.Q7 h rfl) rfl⟩
  have a2:=H;obtain⟨c1,id⟩:∃c,c=b:=⟨_,rfl⟩;skip;refine wp_seq (wp_seq (Code.wp_only (R:=fun eg f3=>aA (fun i=>i==6) b eg∧At eg 6 (.int .i64 0)∧f3=wr) ?_ ?_))
  ·have M:aA (fun i=>i==6) b b:=aA.refl _ _
   obtain⟨T,d⟩:=b;refine rl ?_;with_reducible refine st ?_
   refine ln ⟨rfl,ag,aq,rfl⟩
  rintro eg f3 ⟨bz,hn,rfl⟩;replace h1:=bz.Q7 h1 rfl;have bt:=bz.size.trans gf;have f7:=bz.defers.trans gt;refine jJ P.Q3.length (fun k A w'=>aA (fun i=>i==3||i==6||(rg 77 104 i)) eg A∧At A 6 (.int .i64 (k:Nat))∧(∃x:Int,At A 3 (.int .i64 x))∧fO B w z v P w') (fun k A w'=>aA (fun i=>i==3||i==6||(rg 77 104 i)) eg A∧At A 6 (.int .i64 (k:Nat))∧(∃x:Int,At A 3 (.int .i64 x))∧fO B w z v P w') (fun k A w'=>aA (fun i=>i==3||i==6||(rg 77 104 i)) eg A∧At A 6 (.int .i64 (k:Nat))∧(∃x:Int,At A 3 (.int .i64 x))∧fO B w z v P w') (fun A w'=>aA (fun i=>i==3||i==6||(rg 77 104 i)) eg A∧(∃x:Int,At A 3 (.int .i64 x))∧fO B w z v P w') (fun a=>match a.eval (.tmp 6)with|.int _ x=>x.toNat|_=>0) ⟨aA.refl _ _,hn,(let⟨x,h⟩:=a2;⟨x,bz.Q7 h rfl⟩),L.out⟩ ?_ ?_ ?_ ?_ ?_
  ·rintro k A w' ⟨g,hk,_⟩
   rw[hk.eval (by rw[g.size];omega)];show((k:Nat):Int).toNat=k;omega
  ·rintro k b wr ⟨g,ad,⟨x,H⟩,u⟩
   have a7:=g.Q7 h1 rfl;have n:=g.size.trans bt;have q:wr.cell? ⟨z,5,none⟩=some (.slice A_subjects P.Q3.length C):=by rw[u.Q7 (j:=5) rfl,←J.out]
   have U:decide ((k:Int)<(P.Q3.length:Int))=decide (k<P.Q3.length):=by simp
   have V:=hh g;have L:=hh u;clear g u;have fr:=aJ;have a2:=H;have M:aA (fun i=>rg 77 85 i) b b:=aA.refl _ _
   by_cases hk1:k<P.Q3.length
   ·have t1:decide (k<P.Q3.length)=true:=decide_eq_true hk1
    have c6:=U.trans t1;obtain⟨bb,af⟩:∃b,b=decide (x≤3000):=⟨_,rfl⟩;have t2:decide (x≤3000)=bb:=af.symm;clear af;obtain⟨T,d⟩:=b;refine rl ?_
    iterate 9 with_reducible refine st ?_
    refine ln ⟨rfl,?_⟩
    cases bb with
    | true=>exact .inl ⟨At.eval (i:=85) ar (by simp;have:=n;simp at this;omega),hk1,V.out.trans (vs:=fun i=>rg 77 85 i) (by exact ag) (by intro j;simp;omega),ar,⟨x,ar⟩,L.out⟩
    | false=>exact .inr ⟨At.eval (i:=85) ar (by simp;have:=n;simp at this;omega),V.out.trans (vs:=fun i=>rg 77 85 i) (by exact ag) (by intro j;simp;omega),⟨x,ar⟩,L.out⟩
   ·have t1:decide (k<P.Q3.length)=false:=decide_eq_false hk1
    have c6:=U.trans t1;obtain⟨T,d⟩:=b;refine rl ?_
    iterate 9 with_reducible refine st ?_
    refine ln ⟨rfl,?_⟩;exact .inr ⟨At.eval (i:=85) ar (by simp;have:=n;simp at this;omega),V.out.trans (vs:=fun i=>rg 77 85 i) (by exact ag) (by intro j;simp;omega),⟨x,ar⟩,L.out⟩
  ·rintro k b wr b5 ⟨g,ad,⟨x,H⟩,u⟩
   have a7:=g.Q7 h1 rfl;have n:=g.size.trans bt;have q:wr.cell? ⟨z,5,none⟩=some (.slice A_subjects P.Q3.length C):=by rw[u.Q7 (j:=5) rfl,←J.out]
   obtain⟨A0,c0,e0,fj,_,hl⟩:=u.QL.Q3;rw[J.out]at e0;obtain⟨rfl,rfl⟩:A_subjects=A0∧C=c0:=by simpa using e0
   obtain⟨bl,off,rfl,f6,b4⟩:=hl (by omega);obtain⟨y,hy⟩:=ge b5;obtain⟨mv,rv,hc,⟨Am,cm,rfl,_,_,_⟩,⟨Ar,cr,rfl,_,_,_⟩,_⟩:=b4 k y hy;have r4:=hc 4 _ rfl;have r5:=hc 5 _ rfl;have V:=hh g;have L:=hh u;clear g u b4 hl hc e0 hy;have M:aA (fun i=>i==3||(rg 88 104 i)) b b:=aA.refl _ _;obtain⟨T,d⟩:=b;refine wp_region_still_lit (by kernel_rfl) (by kernel_rfl) ?_
   iterate 18 with_reducible refine sl ?_
   refine wpStill_nil ?_;exact⟨V.out.trans (vs:=fun i=>i==3||(rg 88 104 i)) (by exact ag) (by intro j;simp;omega),ar,⟨_,At.self⟩,L.out.step ((aB.refl _ _).drew)⟩
  ·rintro k b wr b5 ⟨g,ad,⟨x,H⟩,u⟩
   have n:=g.size.trans bt;have e1:IntKind.i64.wrap ((k:Int)+1)=((k+1:Nat):Int):=by rw[i64_in _ (by omega)];omega
   have L:=hh u;have V:=hh g;clear u g;have M:aA (fun i=>i==6||i==86||i==87) b b:=aA.refl _ _;obtain⟨T,d⟩:=b;refine rl ?_
   iterate 3 with_reducible refine st ?_
   refine ln ⟨rfl,V.out.trans (vs:=fun i=>i==6||i==86||i==87) (by exact ag) (by intro j;simp;omega),?_,⟨x,ar⟩,L.out⟩;rw[show((k+1:Nat):Int)=(k:Int)+1 by omega];exact aq
  ·rintro b wr ⟨g,H,u⟩
   have h1:=g.Q7 h1 rfl;have gg:=g.size.trans bt;have gw:=g.defers.trans f7;have L:=hh u;have ci:∃x:Int,At b 4 (.int .i64 x):=let⟨x,h⟩:=ci;⟨x,g.Q7 (bz.Q7 h rfl) rfl⟩
   have a2:=H;obtain⟨c2,ih⟩:∃c,c=b:=⟨_,rfl⟩;skip;refine wp_seq (wp_seq (Code.wp_only (R:=fun el f4=>aA (fun i=>i==7) b el∧At el 7 (.int .i64 0)∧f4=wr) ?_ ?_))
   ·have M:aA (fun i=>i==7) b b:=aA.refl _ _
    obtain⟨T,d⟩:=b;refine rl ?_;with_reducible refine st ?_
    refine ln ⟨rfl,ag,aq,rfl⟩
   rintro el f4 ⟨b1,ho,rfl⟩;replace h1:=b1.Q7 h1 rfl;have bu:=b1.size.trans gg;have f8:=b1.defers.trans gw;refine jJ P.Q9.length (fun k A w'=>aA (fun i=>i==3||i==7||i==8||(rg 105 154 i)) el A∧At A 7 (.int .i64 (k:Nat))∧(∃x:Int,At A 3 (.int .i64 x))∧fO B w z v P w') (fun k A w'=>aA (fun i=>i==3||i==7||i==8||(rg 105 154 i)) el A∧At A 7 (.int .i64 (k:Nat))∧(∃x:Int,At A 3 (.int .i64 x))∧fO B w z v P w') (fun k A w'=>aA (fun i=>i==3||i==7||i==8||(rg 105 154 i)) el A∧At A 7 (.int .i64 (k:Nat))∧(∃x:Int,At A 3 (.int .i64 x))∧fO B w z v P w') (fun A w'=>aA (fun i=>i==3||i==7||i==8||(rg 105 154 i)) el A∧(∃x:Int,At A 3 (.int .i64 x))∧fO B w z v P w') (fun a=>match a.eval (.tmp 7)with|.int _ x=>x.toNat|_=>0) ⟨aA.refl _ _,ho,(let⟨x,h⟩:=a2;⟨x,b1.Q7 h rfl⟩),L.out⟩ ?_ ?_ ?_ ?_ ?_
   ·rintro k A w' ⟨g,hk,_⟩
    rw[hk.eval (by rw[g.size];omega)];show((k:Nat):Int).toNat=k;omega
   ·rintro k b wr ⟨g,ad,⟨x,H⟩,u⟩
    have a7:=g.Q7 h1 rfl;have n:=g.size.trans bu;have q:wr.cell? ⟨z,9,none⟩=some (.slice A_plans P.Q9.length G):=by rw[u.Q7 (j:=9) rfl,←K.out]
    have U:decide ((k:Int)<(P.Q9.length:Int))=decide (k<P.Q9.length):=by simp
    have V:=hh g;have L:=hh u;clear g u;have fr:=aJ;have a2:=H;have M:aA (fun i=>rg 105 113 i) b b:=aA.refl _ _
    by_cases hk1:k<P.Q9.length
    ·have t1:decide (k<P.Q9.length)=true:=decide_eq_true hk1
     have c6:=U.trans t1;obtain⟨bb,af⟩:∃b,b=decide (x≤3000):=⟨_,rfl⟩;have t2:decide (x≤3000)=bb:=af.symm;clear af;obtain⟨T,d⟩:=b;refine rl ?_
     iterate 9 with_reducible refine st ?_
     refine ln ⟨rfl,?_⟩
     cases bb with
     | true=>exact .inl ⟨At.eval (i:=113) ar (by simp;have:=n;simp at this;omega),hk1,V.out.trans (vs:=fun i=>rg 105 113 i) (by exact ag) (by intro j;simp;omega),ar,⟨x,ar⟩,L.out⟩
     | false=>exact .inr ⟨At.eval (i:=113) ar (by simp;have:=n;simp at this;omega),V.out.trans (vs:=fun i=>rg 105 113 i) (by exact ag) (by intro j;simp;omega),⟨x,ar⟩,L.out⟩
    ·have t1:decide (k<P.Q9.length)=false:=decide_eq_false hk1
     have c6:=U.trans t1;obtain⟨T,d⟩:=b;refine rl ?_
     iterate 9 with_reducible refine st ?_
     refine ln ⟨rfl,?_⟩;exact .inr ⟨At.eval (i:=113) ar (by simp;have:=n;simp at this;omega),V.out.trans (vs:=fun i=>rg 105 113 i) (by exact ag) (by intro j;simp;omega),⟨x,ar⟩,L.out⟩
   ·rintro k b wr b5 ⟨g,ad,⟨x,H⟩,u⟩
    have a7:=g.Q7 h1 rfl;have n:=g.size.trans bu;have q:wr.cell? ⟨z,9,none⟩=some (.slice A_plans P.Q9.length G):=by rw[u.Q7 (j:=9) rfl,←K.out]
    obtain⟨A0,c0,e0,fj,_,hl⟩:=u.QL.Q9;rw[K.out]at e0;obtain⟨rfl,rfl⟩:A_plans=A0∧G=c0:=by simpa using e0
    obtain⟨bl,off,rfl,f6,b4⟩:=hl (by omega);obtain⟨y,hy⟩:=ge b5;obtain⟨mv,hc,⟨Am,cm,rfl,i1,hw,he⟩,_⟩:=b4 k y hy;have r3:=hc 3 _ rfl;unfold top at hw;have V:=hh g;have fv:=hh u;have HL:=hh he;clear g b4 hl hc e0 hy he;refine so (fun b2 w2=>aA (fun i=>i==3||(rg 116 125 i)) b b2∧(∃x:Int,At b2 3 (.int .i64 x))∧w2=wr) ?_ ?_
    ·have M:aA (fun i=>i==3||(rg 116 125 i)) b b:=aA.refl _ _
     obtain⟨T,d⟩:=b;refine rl ?_
     iterate 11 with_reducible refine st ?_
     exact ln ⟨rfl,(by exact ag),⟨_,At.self⟩,rfl⟩
    rintro b2 w2 ⟨en,hj,rfl⟩;have a7:=en.Q7 a7 rfl;have ad:=en.Q7 ad rfl;have hf:=en.size.trans n;refine so (fun b3 w3=>aA (fun i=>i==8) b2 b3∧At b3 8 (.int .i64 0)∧w3=w2) ?_ ?_
    ·have M:aA (fun i=>i==8) b2 b2:=aA.refl _ _
     obtain⟨T,d⟩:=b2;refine rl ?_;with_reducible refine st ?_
     exact ln ⟨rfl,(by exact ag),At.self,rfl⟩
    rintro b3 w3 ⟨fe,h5,rfl⟩;have a7:=fe.Q7 a7 rfl;have ad:=fe.Q7 ad rfl;have fp:=fe.size.trans hf;refine jJ y.QJ.length (fun j A w'=>aA (fun i=>i==3||i==8||(rg 126 154 i)) b3 A∧At A 8 (.int .i64 (j:Nat))∧(∃x:Int,At A 3 (.int .i64 x))∧fO B w z v P w'∧Kz w3 w') (fun j A w'=>aA (fun i=>i==3||i==8||(rg 126 154 i)) b3 A∧At A 8 (.int .i64 (j:Nat))∧(∃x:Int,At A 3 (.int .i64 x))∧fO B w z v P w'∧Kz w3 w') (fun j A w'=>aA (fun i=>i==3||i==8||(rg 126 154 i)) b3 A∧At A 8 (.int .i64 (j:Nat))∧(∃x:Int,At A 3 (.int .i64 x))∧fO B w z v P w'∧Kz w3 w') (fun A w'=>aA (fun i=>i==3||i==8||(rg 126 154 i)) b3 A∧(∃x:Int,At A 3 (.int .i64 x))∧fO B w z v P w') (fun a=>match a.eval (.tmp 8)with|.int _ x=>x.toNat|_=>0) ⟨aA.refl _ _,h5,(let⟨x,h⟩:=hj;⟨x,fe.Q7 h rfl⟩),fv.out,aB.refl _ _⟩ ?_ ?_ ?_ ?_ ?_
    ·rintro j A w' ⟨g,hk,_⟩
     rw[hk.eval (by rw[g.size];omega)];show((j:Nat):Int).toNat=j;omega
    ·rintro j bj wj ⟨g,hs,⟨x,H⟩,u,hK⟩
     have a7:=g.Q7 a7 rfl;have h4:=g.Q7 ad rfl;have n:=g.size.trans fp;have q:wj.cell? ⟨z,9,none⟩=some (.slice (some ⟨bl,off,none⟩) P.Q9.length G):=by rw[u.Q7 (j:=9) rfl,←K.out]
     have r3:wj.cell? ⟨bl,off+k*4+3,none⟩=some (.slice Am y.QJ.length cm):=(hK.cell (p:=⟨bl,off+k*4+3,none⟩) (by have:=fv.out.base;show bl<w3.heap.size;omega) (fun h=>h)).trans r3;have U:decide ((j:Int)<(y.QJ.length:Int))=decide (j<y.QJ.length):=by simp
     have V:=hh g;have L:=hh u;have HK:=hh hK;clear g u hK;have fr:=aJ;have M:aA (fun i=>rg 126 138 i) bj bj:=aA.refl _ _
     by_cases hk1:j<y.QJ.length
     ·have t1:decide (j<y.QJ.length)=true:=decide_eq_true hk1
      have c6:=U.trans t1;obtain⟨bb,af⟩:∃b,b=decide (x≤3000):=⟨_,rfl⟩;have t2:decide (x≤3000)=bb:=af.symm;clear af;obtain⟨T,d⟩:=bj;refine rl ?_
      iterate 13 with_reducible refine st ?_
      refine ln ⟨rfl,?_⟩
      cases bb with
      | true=>exact .inl ⟨At.eval (i:=138) ar (by simp;have:=n;simp at this;omega),hk1,V.out.trans (vs:=fun i=>rg 126 138 i) (by exact ag) (by intro j;simp;omega),ar,⟨x,ar⟩,L.out,HK.out⟩
      | false=>exact .inr ⟨At.eval (i:=138) ar (by simp;have:=n;simp at this;omega),V.out.trans (vs:=fun i=>rg 126 138 i) (by exact ag) (by intro j;simp;omega),⟨x,ar⟩,L.out⟩
     ·have t1:decide (j<y.QJ.length)=false:=decide_eq_false hk1
      have c6:=U.trans t1;obtain⟨T,d⟩:=bj;refine rl ?_
      iterate 13 with_reducible refine st ?_
      refine ln ⟨rfl,?_⟩;exact .inr ⟨At.eval (i:=138) ar (by simp;have:=n;simp at this;omega),V.out.trans (vs:=fun i=>rg 126 138 i) (by exact ag) (by intro j;simp;omega),⟨x,ar⟩,L.out⟩
    ·rintro j bj wj hb ⟨g,hs,⟨x,H⟩,u,hK⟩
     have a7:=g.Q7 a7 rfl;have h4:=g.Q7 ad rfl;have n:=g.size.trans fp;have q:wj.cell? ⟨z,9,none⟩=some (.slice (some ⟨bl,off,none⟩) P.Q9.length G):=by rw[u.Q7 (j:=9) rfl,←K.out]
     have r3:wj.cell? ⟨bl,off+k*4+3,none⟩=some (.slice Am y.QJ.length cm):=(hK.cell (p:=⟨bl,off+k*4+3,none⟩) (by have:=fv.out.base;show bl<w3.heap.size;omega) (fun h=>h)).trans r3;obtain⟨b0,o0,rfl,i0,hr⟩:=HL.out (by omega);obtain⟨l,hl⟩:=ge hb;obtain⟨uv,gs,⟨Au,cu,rfl,_,_,_⟩,_⟩:=hr j l hl;have r4:wj.cell? ⟨b0,o0+j*4+3,none⟩=some (.slice Au l.runs.length cu):=(hK.cell (p:=⟨b0,o0+j*4+3,none⟩) (by have:=fv.out.base;show b0<w3.heap.size;omega) (fun h=>h)).trans (gs 3 _ rfl);have V:=hh g;have L:=hh u;have HK:=hh hK;clear g u hK hr gs hl;have M:aA (fun i=>i==3||(rg 141 154 i)) bj bj:=aA.refl _ _;obtain⟨T,d⟩:=bj;refine rl ?_
     iterate 15 with_reducible refine st ?_
     exact ln ⟨V.out.trans (vs:=fun i=>i==3||(rg 141 154 i)) (by exact ag) (by intro j;simp;omega),ar,⟨_,At.self⟩,L.out,HK.out⟩
    ·rintro j bj wj hb ⟨g,hs,⟨x,H⟩,u,hK⟩
     have n:=g.size.trans fp;have e1:IntKind.i64.wrap ((j:Int)+1)=((j+1:Nat):Int):=by rw[i64_in _ (by omega)];omega
     have L:=hh u;have V:=hh g;have HK:=hh hK;clear u g hK;have M:aA (fun i=>i==8||i==139||i==140) bj bj:=aA.refl _ _;obtain⟨T,d⟩:=bj;refine rl ?_
     iterate 3 with_reducible refine st ?_
     refine ln ⟨rfl,V.out.trans (vs:=fun i=>i==8||i==139||i==140) (by exact ag) (by intro j;simp;omega),?_,⟨x,ar⟩,L.out,HK.out⟩;rw[show((j+1:Nat):Int)=(j:Int)+1 by omega];exact aq
    ·rintro bj wj ⟨gr,H,u⟩
     exact⟨((V.out.t en).t fe).t gr,gr.Q7 ad rfl,H,u⟩
   ·rintro k b wr b5 ⟨g,ad,⟨x,H⟩,u⟩
    have n:=g.size.trans bu;have e1:IntKind.i64.wrap ((k:Int)+1)=((k+1:Nat):Int):=by rw[i64_in _ (by omega)];omega
    have L:=hh u;have V:=hh g;clear u g;have M:aA (fun i=>i==7||i==114||i==115) b b:=aA.refl _ _;obtain⟨T,d⟩:=b;refine rl ?_
    iterate 3 with_reducible refine st ?_
    refine ln ⟨rfl,V.out.trans (vs:=fun i=>i==7||i==114||i==115) (by exact ag) (by intro j;simp;omega),?_,⟨x,ar⟩,L.out⟩;rw[show((k+1:Nat):Int)=(k:Int)+1 by omega];exact aq
   ·rintro b wr ⟨g,H,u⟩
    have h1:=g.Q7 h1 rfl;have gl:=g.size.trans bu;have gx:=g.defers.trans f8;have L:=hh u;have ci:∃x:Int,At b 4 (.int .i64 x):=let⟨x,h⟩:=ci;⟨x,g.Q7 (b1.Q7 h rfl) rfl⟩
    have a2:=H;obtain⟨c3,it⟩:∃c,c=b:=⟨_,rfl⟩;skip;refine wp_seq (wp_seq (Code.wp_only (R:=fun em f5=>aA (fun i=>i==9) b em∧At em 9 (.int .i64 0)∧f5=wr) ?_ ?_))
    ·have M:aA (fun i=>i==9) b b:=aA.refl _ _
     obtain⟨T,d⟩:=b;refine rl ?_;with_reducible refine st ?_
     refine ln ⟨rfl,ag,aq,rfl⟩
    rintro em f5 ⟨bd,hq,rfl⟩;replace h1:=bd.Q7 h1 rfl;have bw:=bd.size.trans gl;have gb:=bd.defers.trans gx;refine jJ P.Q5.length (fun k A w'=>aA (fun i=>i==4||i==9||(rg 155 174 i)) em A∧At A 9 (.int .i64 (k:Nat))∧(∃x:Int,At A 4 (.int .i64 x))∧fO B w z v P w') (fun k A w'=>aA (fun i=>i==4||i==9||(rg 155 174 i)) em A∧At A 9 (.int .i64 (k:Nat))∧(∃x:Int,At A 4 (.int .i64 x))∧fO B w z v P w') (fun k A w'=>aA (fun i=>i==4||i==9||(rg 155 174 i)) em A∧At A 9 (.int .i64 (k:Nat))∧(∃x:Int,At A 4 (.int .i64 x))∧fO B w z v P w') (fun A w'=>aA (fun i=>i==4||i==9||(rg 155 174 i)) em A∧(∃x:Int,At A 4 (.int .i64 x))∧fO B w z v P w') (fun a=>match a.eval (.tmp 9)with|.int _ x=>x.toNat|_=>0) ⟨aA.refl _ _,hq,(let⟨x,h⟩:=ci;⟨x,bd.Q7 h rfl⟩),L.out⟩ ?_ ?_ ?_ ?_ ?_
    ·rintro k A w' ⟨g,hk,_⟩
     rw[hk.eval (by rw[g.size];omega)];show((k:Nat):Int).toNat=k;omega
    ·rintro k b wr ⟨g,ad,⟨x,H⟩,u⟩
     have a7:=g.Q7 h1 rfl;have n:=g.size.trans bw;have q:wr.cell? ⟨z,4,none⟩=some (.slice A_regions P.Q5.length E):=by rw[u.Q7 (j:=4) rfl,←O.out]
     have U:decide ((k:Int)<(P.Q5.length:Int))=decide (k<P.Q5.length):=by simp
     have V:=hh g;have L:=hh u;clear g u;have fr:=aJ;obtain⟨x3,a2⟩:∃x:Int,At b 3 (.int .i64 x):=let⟨x,h⟩:=a2;⟨x,V.out.Q7 (bd.Q7 h rfl) rfl⟩
     have M:aA (fun i=>rg 155 163 i) b b:=aA.refl _ _
     by_cases hk1:k<P.Q5.length
     ·have t1:decide (k<P.Q5.length)=true:=decide_eq_true hk1
      have c6:=U.trans t1;obtain⟨bb,af⟩:∃b,b=decide (x3≤3000):=⟨_,rfl⟩;have t2:decide (x3≤3000)=bb:=af.symm;clear af;obtain⟨T,d⟩:=b;refine rl ?_
      iterate 9 with_reducible refine st ?_
      refine ln ⟨rfl,?_⟩
      cases bb with
      | true=>exact .inl ⟨At.eval (i:=163) ar (by simp;have:=n;simp at this;omega),hk1,V.out.trans (vs:=fun i=>rg 155 163 i) (by exact ag) (by intro j;simp;omega),ar,⟨x,ar⟩,L.out⟩
      | false=>exact .inr ⟨At.eval (i:=163) ar (by simp;have:=n;simp at this;omega),V.out.trans (vs:=fun i=>rg 155 163 i) (by exact ag) (by intro j;simp;omega),⟨x,ar⟩,L.out⟩
     ·have t1:decide (k<P.Q5.length)=false:=decide_eq_false hk1
      have c6:=U.trans t1;obtain⟨T,d⟩:=b;refine rl ?_
      iterate 9 with_reducible refine st ?_
      refine ln ⟨rfl,?_⟩;exact .inr ⟨At.eval (i:=163) ar (by simp;have:=n;simp at this;omega),V.out.trans (vs:=fun i=>rg 155 163 i) (by exact ag) (by intro j;simp;omega),⟨x,ar⟩,L.out⟩
    ·rintro k b wr b5 ⟨g,ad,⟨x,H⟩,u⟩
     have a7:=g.Q7 h1 rfl;have n:=g.size.trans bw;have q:wr.cell? ⟨z,4,none⟩=some (.slice A_regions P.Q5.length E):=by rw[u.Q7 (j:=4) rfl,←O.out]
     obtain⟨A0,c0,e0,fj,_,hl⟩:=u.QL.Q5;rw[O.out]at e0;obtain⟨rfl,rfl⟩:A_regions=A0∧E=c0:=by simpa using e0
     obtain⟨bl,off,rfl,f6,b4⟩:=hl (by omega);obtain⟨y,hy⟩:=ge b5;obtain⟨hc,_⟩:=b4 k y hy;have r9:=hc 9 _ rfl;have V:=hh g;have L:=hh u;clear g u b4 hl hc e0 hy;have M:aA (fun i=>i==4||(rg 166 174 i)) b b:=aA.refl _ _;obtain⟨T,d⟩:=b;refine rl ?_
     iterate 10 with_reducible refine st ?_
     refine ln ?_;exact⟨V.out.trans (vs:=fun i=>i==4||(rg 166 174 i)) (by exact ag) (by intro j;simp;omega),ar,⟨_,At.self⟩,L.out⟩
    ·rintro k b wr b5 ⟨g,ad,⟨x,H⟩,u⟩
     have n:=g.size.trans bw;have e1:IntKind.i64.wrap ((k:Int)+1)=((k+1:Nat):Int):=by rw[i64_in _ (by omega)];omega
     have L:=hh u;have V:=hh g;clear u g;have M:aA (fun i=>i==9||i==164||i==165) b b:=aA.refl _ _;obtain⟨T,d⟩:=b;refine rl ?_
     iterate 3 with_reducible refine st ?_
     refine ln ⟨rfl,V.out.trans (vs:=fun i=>i==9||i==164||i==165) (by exact ag) (by intro j;simp;omega),?_,⟨x,ar⟩,L.out⟩;rw[show((k+1:Nat):Int)=(k:Int)+1 by omega];exact aq
    ·rintro b wr ⟨g,H,u⟩
     have h1:=g.Q7 h1 rfl;have gn:=g.size.trans bw;have gy:=g.defers.trans gb;have L:=hh u;have a2:∃x:Int,At b 3 (.int .i64 x):=let⟨x,h⟩:=a2;⟨x,g.Q7 (bd.Q7 h rfl) rfl⟩
     have ci:=H;obtain⟨c4,ix⟩:∃c,c=b:=⟨_,rfl⟩;skip;obtain⟨x,a2⟩:=a2;obtain⟨y,ci⟩:=ci;have fr:=aJ;obtain⟨bb,af⟩:∃b,b=decide (3000<x):=⟨_,rfl⟩;have t2:decide (3000<x)=bb:=af.symm;clear af;refine so (fun b2 w2=>aA (fun i=>i==2||(rg 175 180 i)) b b2∧(∃r:Bool,At b2 2 (.bool r))∧w2=wr) ?_ ?_
     ·have M:aA (fun i=>i==2||(rg 175 180 i)) b b:=aA.refl _ _
      obtain⟨T,d⟩:=b
      cases bb
      ·refine rl ?_
       iterate 7 with_reducible refine st ?_
       exact ln ⟨rfl,(by exact ag),⟨_,At.self⟩,rfl⟩
      ·refine rl ?_
       iterate 7 with_reducible refine st ?_
       exact ln ⟨rfl,(by exact ag),⟨_,At.self⟩,rfl⟩
     rintro b2 w2 ⟨en,⟨r,h3⟩,rfl⟩;have hi:=en.size.trans gn;have hu:=en.defers.trans gy;refine wp_ret ?_
     repeat (first|with_reducible apply b8|with_reducible apply bG)
     refine b9 (t:=2) rfl h3 (by rw[hi];decide) hu ?_;exact⟨r,rfl,L.out.keep⟩
theorem mD{l:List gk}{x:gk}{of:List Nm}{p:Wr}:p∈ed (l++[x]) of↔p∈ed l of∨(∃y∈l,p=(max x.pos y.pos,1))∨p∈say (has of x.name) x.pos 2:=by
 simp only[ed,List.mem_append,dG,List.flatMap_append,List.flatMap_cons,List.flatMap_nil,List.append_nil,List.mem_singleton];constructor
 ·rintro((h|h)|(h|h))
  ·exact .inl (.inl h)
  ·exact .inr (.inl h)
  ·exact .inl (.inr h)
  ·exact .inr (.inr h)
 ·rintro((h|h)|(h|h))
  ·exact .inl (.inl h)
  ·exact .inr (.inl h)
  ·exact .inl (.inr h)
  ·exact .inr (.inr h)
theorem kT{v:aV}{P:aC}(h:aF B w pb v P aw L){Bf:Nat}{bs:List Nat}{fs:List (List Nm)}{D:Nat→DataW Value}{r:Nat→ByteArray→Value}(hF:bh Bf w bs fs D r)
 (i b:Nat)(f:List Nm)(hb:bs[i]?=some b)(hf:fs[i]?=some f)(hpb:pb<Bf∧pb ∉ bs){u:Value}{xs:List gk}(hs:aT B 2 cJ w u xs):
 Calls Tryz.prog 72 #[.pointer (some ⟨pb,0,none⟩),u,.map (some b)] w fun e w'=>e=.returned (.tuple #[])∧aF B w' pb v P aw (ed xs f++L)∧aB (fun k=>k=pb) w w':=by
 obtain⟨A,c,rfl,hnc,hn0,hl⟩:=hs;unfold top at hn0;have hlt:=h.lt;have hBp:=h.base
 go_enter Tryz.func72,Tryz.ntmps72
 go_wp2
 go_loopw [12] (fun i wr=>∃n:Nat,n≤xs.length∧i=.int .i64 n∧aF B wr pb v P aw (ed (xs.take n) f++L)∧aB (fun k=>k=pb) w wr) (fun i _=>xs.length-(intOf i).toNat)
 case atStart=>exact⟨0,Nat.zero_le _,rfl,by simpa[ed,cZ]using h,aB.refl _ _⟩
 case round =>
 obtain⟨n,hn,rfl,hL,hk⟩:=hrel
 by_cases hlt2:n<xs.length
 ·obtain⟨bl,off,rfl,hbl,hcs⟩:=hl (by omega)
  obtain⟨x,hx⟩:∃x,xs[n]?=some x:=⟨_,Ez hlt2⟩;obtain⟨hc,hok⟩:=(aK B _ _) _ _ _ _ _ (hk.below (B:=B) (by omega) (fun _ hi e=>by omega)) hbl (hcs n x hx);have q0:=hc.c0;have q1:=hc 1 _ rfl;have hsz:=hk.size;have hblr:bl<wr.heap.size:=by omega
  have hsm:x.name.size≤maxLen:=by have:=hok.2;unfold ae at this;unfold maxLen;omega
  have HX:=Lib.hid hx;have HL:=Lib.hid hL;have HK:=Lib.hid hk;have hnc2:n≤c:=by omega
  clear hx hL hk hc hok
  go_wp2
  obtain⟨wo,hwo⟩:∃wo:World,wo=wr.alloc (Obj.cells #[.int .i64 x.pos,.string x.name] 78):=⟨_,rfl⟩;rw[←hwo];obtain⟨z,hz⟩:∃z,z=wr.heap.size:=⟨_,rfl⟩;rw[←hz];have hx0:wo.heap[z]?=some (.cells #[.int .i64 x.pos,.string x.name] 78 (0,0)):=by rw[hwo,hz];exact heap_alloc_new _ _
  have hLo:aF B wo pb v P aw (ed (xs.take n) f++L):=by rw[hwo];exact HL.out.new ((aB.refl _ _).alloc _)
  have hKo:aB (fun k=>k=pb) w wo:=by rw[hwo];exact HK.out.alloc _
  have hzp:z≠pb:=by omega
  have HX0:=Lib.hid hx0;have HKo:=Lib.hid hKo;have HLo:=Lib.hid hLo;clear hwo hz hx0 hKo hLo q0 q1 HL HK
  go_loopw [21] (fun j wq=>∃k:Nat,k≤n∧j=.int .i64 k∧aF B wq pb v P aw ((xs.take k).map (fun y=>(max x.pos y.pos,1))++(ed (xs.take n) f++L))∧aB (fun i=>i=pb) wo wq) (fun j _=>n-(intOf j).toNat)
  case atStart=>exact⟨0,Nat.zero_le _,rfl,HLo.out,aB.refl _ _⟩
  case round =>
  obtain⟨k,hkn,rfl,hL2,hk2⟩:=hrel;have hx2:=(hk2.block z (aG HX0.out) hzp).trans HX0.out;have x0:wr.cell? ⟨z,0,none⟩=some (.int .i64 x.pos):=by rw[cell_of_row _ _ _ _ _ _ hx2];rfl
  have x1:wr.cell? ⟨z,1,none⟩=some (.string x.name):=by rw[cell_of_row _ _ _ _ _ _ hx2];rfl
  have hzr:z<wr.heap.size:=aG hx2
  by_cases hlt3:k<n
  ·obtain⟨y,hy⟩:∃y,xs[k]?=some y:=⟨_,Ez (by omega)⟩
   have hkw:=HKo.out.trans hk2 (fun _ _ e=>e);have hsz2:=hkw.size;obtain⟨hc,hok⟩:=(aK B _ _) _ _ _ _ _ (hkw.below (B:=B) (by omega) (fun _ hi e=>by omega)) hbl (hcs k y hy);have y0:=hc.c0;have y1:=hc 1 _ rfl;have hbl2:bl<wr.heap.size:=by omega
   have HL2:=Lib.hid hL2;have HK2:=Lib.hid hk2;have HY:=Lib.hid hy;clear hL2 hk2 hkw hc hok hy hx2
   go_wp2_with fail
   all_goals
    refine(cW _ 1 81 (HL2.out.new ((aB.refl _ _).alloc _)) rfl).mono ?_;rintro e w2 ⟨rfl,hL3,hk3⟩;have HL3:=Lib.hid hL3;have HK3:=Lib.hid hk3;clear hL3 hk3
    go_wp2
    go_roundw
    case rel =>
     refine⟨k+1,by omega,by go_num,HL3.out.congr fun p=>?_,HK2.out.trans (((aB.refl _ _).alloc _).trans HK3.out (fun _ _ e=>e)) (fun _ _ e=>e)⟩;rw[aP HY.out]
     first
      | (simp[or_assoc,or_comm,or_left_comm];done)
      | (have hm:max x.pos y.pos=y.pos:=(by omega);simp[hm,or_assoc,or_comm,or_left_comm])
      | (have hm:max x.pos y.pos=x.pos:=(by omega);simp[hm,or_assoc,or_comm,or_left_comm])
    case measure=>simp[intOf];omega
  ·obtain rfl:k=n:=by omega
   have HL2:=Lib.hid hL2;have HK2:=Lib.hid hk2;clear hL2 hk2 hx2;have hasq:∀w',Kz wr w'→Calls Tryz.prog 74 #[.map (some b),.string x.name] w' fun e w2=>e=.returned (.bool (has f x.name))∧w'=w2:=fun w' hk=>by
    have hk3:aB (fun i=>i=pb) w w':=(HKo.out.trans HK2.out (fun _ _ e=>e)).trans hk (fun _ _ e=>e.elim);exact dB (hF.keep hk3 (fun k e _=>by subst e;exact hpb)) i b f hb hf x.name hsm
   have HH:=Lib.hid hasq;have HC:Hid (∀w',aB (fun i=>i=pb) wr w'→w'.cell? ⟨z,0,none⟩=some (.int .i64 x.pos)∧w'.cell? ⟨z,1,none⟩=some (.string x.name)):=fun w' hk =>
    ⟨(hk.cell (p:=⟨z,0,none⟩) hzr hzp).trans x0,(hk.cell (p:=⟨z,1,none⟩) hzr hzp).trans x1⟩
   have HLd:=Lib.hid (HL2.out.new ((aB.refl _ wr).drew));clear hasq
   go_wp2_with fail
   go_region_held3 (fun w'=>w'.cell? ⟨z,0,none⟩=some (.int .i64 x.pos)∧w'.cell? ⟨z,1,none⟩=some (.string x.name))
    (first|exact HC.out _ ((aB.refl _ wr).drew)|exact HC.out _ (((aB.refl _ wr).drew).trans (by assumption) (fun _ _ e=>e)))
    (first
     | (go_at_call 74;refine(HH.out _ ((aB.refl _ wr).drew)).mono ?_;rintro e w2 ⟨rfl,rfl⟩)
     | (go_at_call 73;refine(aO _ _ 2 80 HLd.out rfl).mono ?_;rintro e w2 ⟨rfl,hL3,hk3⟩))
   have HL3:=Lib.hid hL3;have HK3:=Lib.hid hk3;clear hL3 hk3
   go_wp2
   go_roundw
   case rel =>
    refine⟨k+1,by omega,by go_num,HL3.out.congr fun p=>?_,(HKo.out.trans HK2.out (fun _ _ e=>e)).trans (((aB.refl _ _).drew).trans HK3.out (fun _ _ e=>e)) (fun _ _ e=>e)⟩;rw[aP HX.out];simp only[List.mem_append,mD,List.mem_map];constructor
    ·rintro(h|⟨y,h1,rfl⟩|h|h)
     ·exact .inl (.inr (.inr h))
     ·exact .inl (.inr (.inl ⟨y,h1,rfl⟩))
     ·exact .inl (.inl h)
     ·exact .inr h
    ·rintro((h|⟨y,h1,rfl⟩|h)|h)
     ·exact .inr (.inr (.inl h))
     ·exact .inr (.inl ⟨y,h1,rfl⟩)
     ·exact .inl h
     ·exact .inr (.inr (.inr h))
   case measure=>simp[intOf];omega
 ·obtain rfl:n=xs.length:=by omega
  rw[List.take_length]at hL;have HL:=Lib.hid hL;have HK:=Lib.hid hk;clear hL hk
  go_wp2
  go_end0
  exact⟨rfl,HL.out,HK.out⟩
def ex(B:Nat)(named:ByteArray→Bool):Prop:=∀(w:World) (s:ByteArray),gm B w→B≤w.heap.size→ae s→Calls Tryz.prog 121 #[.string s] w fun e w'=>e=.returned (.bool (named s))∧Kz w w'
def cU(named:ByteArray→Bool)(s:ByteArray)(l:List Int):List Wr:=l.flatMap (fun Q7=>say (named s) Q7 0)++cZ (fun a b=>[(max a b,1)]) l
theorem lC{s:ByteArray}{l:List Int}{x:Int}{p:Wr}:p∈cU named s (l++[x])↔p∈cU named s l∨p∈say (named s) x 0∨p∈l.flatMap (fun y=>[(max x y,1)]):=by
 simp only[cU,List.mem_append,dG,List.flatMap_append,List.flatMap_cons,List.flatMap_nil,List.append_nil,List.mem_flatMap];constructor
 ·rintro((h|h)|(h|h))
  ·exact .inl (.inl h)
  ·exact .inr (.inl h)
  ·exact .inl (.inr h)
  ·exact .inr (.inr h)
 ·rintro((h|h)|(h|h))
  ·exact .inl (.inl h)
  ·exact .inr (.inl h)
  ·exact .inl (.inr h)
  ·exact .inr (.inr h)
theorem gE(x:Nm)(t:List Nm)(s:ByteArray):bK (x::t) s=if x.1=s then x.2::bK t s else bK t s:=by
 unfold bK
 by_cases h:x.1=s<;>simp[h]
theorem iF{t:List Nm}{s:ByteArray}{q:Int}:q∈bK t s↔(s,q)∈t:=by
 unfold bK;simp only[List.mem_map,List.mem_filter,decide_eq_true_eq];constructor
 ·rintro⟨⟨a,b⟩,⟨g,d⟩,e⟩
  simp only at d e;subst d;subst e;exact g
 ·intro h
  exact⟨(s,q),⟨h,rfl⟩,rfl⟩
theorem qM{named:ByteArray→Bool}{p:Wr}:∀{f:List Nm},p∈fb named f↔∃s,p∈cU named s (bK f s)
 | []=>by simp[fb,cU,bK,cZ]
 | x::t=>by
  have i:=qM (named:=named) (p:=p) (f:=t);have d:p∈fb named (x::t)↔p∈say (named x.1) x.2 0∨(∃q,(x.1,q)∈t∧p=(max q x.2,1))∨p∈fb named t:=by
   simp only[fb,List.flatMap_cons,cZ,List.mem_append,List.mem_flatMap];constructor
   ·rintro((h|h)|(⟨y,b,h⟩|h))
    ·exact .inl h
    ·exact .inr (.inr (.inl h))
    ·by_cases e:y.1=x.1
     ·simp only[e,if_true,List.mem_singleton]at h
      exact .inr (.inl ⟨y.2,by rw[←e];exact b,h⟩)
     ·simp[e]at h
    ·exact .inr (.inr (.inr h))
   ·rintro(h|⟨q,a,h⟩|(h|h))
    ·exact .inl (.inl h)
    ·exact .inr (.inl ⟨(x.1,q),a,by simp[h]⟩)
    ·exact .inl (.inr h)
    ·exact .inr (.inr h)
  have g:(∃s,p∈cU named s (bK (x::t) s))↔p∈say (named x.1) x.2 0∨(∃q,(x.1,q)∈t∧p=(max q x.2,1))∨∃s,p∈cU named s (bK t s):=by
   constructor
   ·rintro⟨s,h⟩
    rw[gE]at h
    by_cases e:x.1=s
    ·rw[if_pos e]at h
     simp only[cU,List.flatMap_cons,cZ,List.mem_append,List.mem_flatMap]at h;subst e
     rcases h with(h|h)|(⟨y,b,h⟩|h)
     ·exact .inl h
     ·exact .inr (.inr ⟨x.1,by simp only[cU,List.mem_append,List.mem_flatMap];exact .inl h⟩)
     ·exact .inr (.inl ⟨y,iF.1 b,by simpa using h⟩)
     ·exact .inr (.inr ⟨x.1,by simp only[cU,List.mem_append];exact .inr h⟩)
    ·rw[if_neg e]at h
     exact .inr (.inr ⟨s,h⟩)
   ·have j:∀s,p∈cU named s (bK t s)→p∈cU named s (bK (x::t) s):=fun s h=>by
     rw[gE]
     by_cases e:x.1=s
     ·rw[if_pos e]
      simp only[cU,List.flatMap_cons,cZ,List.mem_append]at h⊢
      rcases h with h|h
      ·exact .inl (.inr h)
      ·exact .inr (.inr h)
     ·rw[if_neg e];exact h
    rintro(h|⟨q,a,h⟩|⟨s,h⟩)
    ·exact⟨x.1,by rw[gE,if_pos rfl];simp only[cU,List.flatMap_cons,List.mem_append];exact .inl (.inl h)⟩
    ·exact⟨x.1,by rw[gE,if_pos rfl];simp only[cU,cZ,List.mem_append,List.mem_flatMap];exact .inr (.inl ⟨q,iF.2 a,by simp[h]⟩)⟩
    ·exact⟨s,j s h⟩
  rw[d,g,i]
theorem kr{b r n a:Nat}{D:DataW Value}{left:Lit→Bool}(h:w.ranges Tryz.prog 9 eM b r n D left a)(hk:aB (fun k=>k=pb) w w')(g:b≠pb)(l:r≠pb):w'.ranges Tryz.prog 9 eM b r n D left a:=
 h.kept (row:=some pb) ⟨hk.os,hk.tape,hk.output,hk.size,fun i j d=>hk.block i j (fun e=>d (by rw[e]))⟩ (fun e=>g (Option.some.inj e)) (fun e=>l (Option.some.inj e))
theorem uj{v:aV}{P:aC}(h:aF B w pb v P aw L)(a:Act)(an:a.tmps.size=44)(V:At a 0 (.pointer (some ⟨pb,0,none⟩)))
 {A:Option Addr}{c N:Nat}{l:List Int}{x:Int}(h5:At a 5 (.slice A N c))(h6:At a 6 (.int .i64 l.length))(W:At a 7 (.int .i64 x))(bd:l.length≤N)(bc:N≤c)(bj:l.length≤4194304)
 (b:0<l.length→∃g,A=some ⟨g,0,none⟩∧g<w.heap.size∧g≠pb∧∀(i:Nat) (y:Int),l[i]?=some y→w.cell? ⟨g,i,none⟩=some (.int .i64 y))(Q:Exit→Act→World→Prop)
 (hQ:∀U w',aA (fun i=>i==9||(rg 29 42 i)) a U→aF B w' pb v P aw (l.flatMap (fun y=>[(max x y,1)])++L)→aB (fun k=>k=pb) w w'→Q .normal U w'):
 (al Tryz.f71 [1,0,0,1,1,0,1,1,0,0,1,1,0,0,1,1]).wp Tryz.prog Q a w:=by
 have bf:=h.lt;have bl:l.length≤c:=by omega
 conv=>arg 2;whnf
 refine so (fun r w1=>aA (fun i=>i==29||i==30||i==31||i==32||i==33) a r∧At r 31 (.slice A l.length c)∧At r 32 (.int .i64 l.length)∧At r 33 (.int .i64 0)∧w1=w) ?_ ?_
 ·clear b
  obtain⟨T,d⟩:=a;refine rl ?_
  iterate 5 with_reducible refine st ?_
  with_reducible refine ln ?_
  refine⟨rfl,ag,aq,aq,aq,rfl⟩
 rintro a0 w0 ⟨u,a7,a6,a4,rfl⟩;have I:a0.tmps.size=44:=u.size.trans an;replace V:=u.Q7 V rfl;replace W:=u.Q7 W rfl;refine ai l.length (fun i=>i==9||(rg 33 42 i)) (fun i=>i==9||(rg 35 41 i)) (fun k _ w'=>aF B w' pb v P aw ((l.take k).flatMap (fun y=>[(max x y,1)])++L)∧aB (fun k=>k=pb) w0 w') (by omega) a4 a6 (by decide) rfl
  (by intro j;simp;omega) (by omega) (by decide) (fun k r D w C hI=>hI) ⟨by simpa using h,aB.refl _ _⟩ ?_ ?_
 ·rintro n r wr H C a5 ⟨E,hk⟩
  obtain⟨g,rfl,ac,ad,G⟩:=b (by omega);obtain⟨y,hy⟩:=ge H;have q0:wr.cell? ⟨g,n,none⟩=some (.int .i64 y):=(hk.cell (p:=⟨g,n,none⟩) ac ad).trans (G n y hy);have M:=C.Q7 V rfl;have O:=C.Q7 W rfl;have S:=C.Q7 a7 rfl;have J:r.tmps.size=44:=C.size.trans I;have bb:=hk.size;have be:g<wr.heap.size:=by omega
  have HY:=hh hy;have HL:=hh E;have HK:=hh hk;have a8:n≤c:=by omega
  clear hy E hk C G b;refine so (fun D w2=>aA (fun i=>i==35||i==36||i==9) r D∧At D 9 (.int .i64 y)∧w2=wr) ?_ ?_
  ·obtain⟨T,d⟩:=r
   refine rl ?_
   iterate 3 with_reducible refine st ?_
   with_reducible refine ln ?_
   refine⟨rfl,ag,aq,rfl⟩
  rintro D w2 ⟨q,bm,rfl⟩;replace M:=q.Q7 M rfl;replace O:=q.Q7 O rfl;have a9:=q.size.trans J;refine Code.wp_only (R:=fun a3 w3=>aA (fun i=>rg 37 41 i) D a3∧aF B w3 pb v P aw ([(max x y,1)]++((l.take n).flatMap (fun y=>[(max x y,1)])++L))∧aB (fun k=>k=pb) w2 w3) ?_ ?_
  ·clear q S a5 q0
   obtain⟨T,d⟩:=D;refine rl ?_
   iterate 4 with_reducible refine st ?_
   with_reducible refine Lz (fun K hK=>?_)
   go_simp;refine(cW _ 1 81 HL.out rfl).mono ?_;rintro e w4 ⟨rfl,Y,af⟩;with_reducible refine hK _ _ (ln ?_)
   refine⟨rfl,?_,?_,af⟩
   ·exact ag
   ·refine Y.congr fun p=>?_
    rw[show(if x<y then y else x)=max x y from by split<;>omega];exact Iff.rfl
  rintro a3 w3 ⟨X,Z,ah⟩;refine⟨(q.m).t X,Z.congr fun p=>?_,HK.out.trans ah (fun _ _ e=>e)⟩;rw[aP HY.out,List.flatMap_append,List.flatMap_cons,List.flatMap_nil,List.append_nil];simp only[List.mem_append];simp only[or_assoc,or_comm,or_left_comm]
 ·rintro U w' C ⟨E,hk⟩
  rw[List.take_length]at E;exact hQ _ _ ((u.m).t C) E hk
theorem tA{v:aV}{P:aC}(hN:ex B named)(h:aF B w pb v P aw L)(a:Act)(a8:a.tmps.size=44)(h0:At a 0 (.pointer (some ⟨pb,0,none⟩)))
 {A:Option Addr}{c:Nat}{r:List Int}{s:ByteArray}(hs:ae s)(h4:At a 4 (.string s))(h5:At a 5 (.slice A r.length c))(bp:r.length≤c)(bu:r.length≤4194304)
 (b:0<r.length→∃g,A=some ⟨g,0,none⟩∧g<w.heap.size∧g≠pb∧∀(i:Nat) (y:Int),r[i]?=some y→w.cell? ⟨g,i,none⟩=some (.int .i64 y))(Q:Exit→Act→World→Prop)
 (hQ:∀a' w',aA (fun i=>i==6||i==7||i==9||(rg 17 43 i)) a a'→aF B w' pb v P aw (cU named s r++L)→aB (fun k=>k=pb) w w'→Q .normal a' w'):
 (al Tryz.f71 [1,0,0,1,1,0,1]).wp Tryz.prog Q a w:=by
 have bt:=h.lt;have bo:=h.base
 conv=>arg 2;whnf
 refine so (fun C w1=>aA (fun i=>i==17||i==18||i==19) a C∧At C 17 (.slice A r.length c)∧At C 18 (.int .i64 r.length)∧At C 19 (.int .i64 0)∧w1=w) ?_ ?_
 ·clear b hN
  obtain⟨T,d⟩:=a;refine rl ?_
  iterate 3 with_reducible refine st ?_
  with_reducible refine ln ?_
  refine⟨rfl,ag,aq,aq,aq,rfl⟩
 rintro a0 w0 ⟨u,bj,bf,bd,rfl⟩;have U:a0.tmps.size=44:=u.size.trans a8;replace h0:=u.Q7 h0 rfl;replace h4:=u.Q7 h4 rfl;replace h5:=u.Q7 h5 rfl;refine ai r.length (fun i=>i==6||i==7||i==9||(rg 19 43 i)) (fun i=>i==6||i==7||i==9||(rg 21 42 i)) (fun k _ w'=>aF B w' pb v P aw (cU named s (r.take k)++L)∧aB (fun k=>k=pb) w0 w') (by omega) bd bf (by decide) rfl
  (by intro j;simp;omega) (by omega) (by decide) (fun k C E w D hI=>hI) ⟨by simpa[cU,cZ]using h,aB.refl _ _⟩ ?_ ?_
 ·rintro n C wr R D be ⟨N,hk⟩
  obtain⟨g,rfl,O,G,H⟩:=b (by omega);obtain⟨y,hy⟩:=ge R;have q0:wr.cell? ⟨g,n,none⟩=some (.int .i64 y):=(hk.cell (p:=⟨g,n,none⟩) O G).trans (H n y hy);have J:=D.Q7 h0 rfl;have Y:=D.Q7 h4 rfl;have M:=D.Q7 h5 rfl;have Z:=D.Q7 bj rfl;have V:C.tmps.size=44:=D.size.trans U;have bm:=hk.size;have a6:g<wr.heap.size:=by omega
  have HY:=hh hy;have HL:=hh N;have HK:=hh hk;have HG:=hh H;have bl:n≤c:=by omega
  clear hy N hk D H b;refine so (fun E w2=>aA (fun i=>i==21||i==22||i==23||i==6||i==7) C E∧At E 6 (.int .i64 n)∧At E 7 (.int .i64 y)∧w2=wr) ?_ ?_
  ·clear hN
   obtain⟨T,d⟩:=C;refine rl ?_
   iterate 5 with_reducible refine st ?_
   with_reducible refine ln ?_
   refine⟨rfl,ag,aq,aq,rfl⟩
  rintro E w2 ⟨l,bb,bc,rfl⟩;replace J:=l.Q7 J rfl;replace Y:=l.Q7 Y rfl;replace M:=l.Q7 M rfl;have W:=l.size.trans V;clear Z be q0;refine so (fun a3 w3=>aA (fun i=>rg 24 28 i) E a3∧aF B w3 pb v P aw (say (named s) y 0++(cU named s (r.take n)++L))∧aB (fun k=>k=pb) w2 w3) ?_ ?_
  ·have HN:=hh (hN w2 s HL.out.laid (by omega) hs)
   clear l hN;obtain⟨T,d⟩:=E;refine rl ?_
   iterate 2 with_reducible refine st ?_
   with_reducible refine Lz (fun K hK=>?_)
   go_simp;refine HN.out.mono ?_;rintro e w4 ⟨rfl,x⟩;with_reducible refine hK _ _ ?_;clear hK K
   have ad:=hh (HL.out.new x);have ac:=hh x;clear x;with_reducible refine st ?_;refine Lz (fun K hK=>?_)
   go_simp;refine(aO _ _ 0 5 ad.out rfl).mono ?_;rintro e w5 ⟨rfl,ah,a7⟩;with_reducible refine hK _ _ (ln ?_)
   refine⟨rfl,ag,ah,(ac.out.mono (fun _ _ h=>h.elim)).trans a7 (fun _ _ e=>e)⟩
  rintro a3 w3 ⟨q,an,I⟩;have X:=q.size.trans W;have S:(r.take n).length=n:=by rw[List.length_take];omega
  refine uj an a3 X (q.Q7 J rfl) (q.Q7 M rfl) (by rw[S];exact q.Q7 bb rfl) (q.Q7 bc rfl) (by omega) (by omega) (by omega) (fun _=>⟨g,rfl,Nat.lt_of_lt_of_le a6 I.size,G,fun i z hz=>?_⟩) _ (fun a4 w4 af a5 x=>?_)
  ·have a9:r[i]?=some z:=by rw[List.getElem?_take]at hz;split at hz;exact hz;cases hz
   exact((HK.out.trans I (fun _ _ e=>e)).cell (p:=⟨g,i,none⟩) O G).trans (HG.out i z a9)
  refine⟨((l.m).t q).t af,a5.congr fun p=>?_,(HK.out.trans I (fun _ _ e=>e)).trans x (fun _ _ e=>e)⟩;rw[aP HY.out];simp only[List.mem_append,lC];simp only[or_assoc,or_comm,or_left_comm]
 ·rintro a' w' D ⟨N,hk⟩
  rw[List.take_length]at N;exact hQ _ _ ((u.m).t D) N hk
theorem rS(f:List Nm)(s:ByteArray):(bK f s).length≤f.length:=by
 unfold bK;rw[List.length_map];exact List.length_filter_le _ _
theorem gY{k:Value}{a:Lit}(h:keyOf Tryz.prog 9 k=some a):∃s:ByteArray,k=.string s∧a=key s∧s.size≤maxLen:=by
 cases k<;>simp[keyOf,Tryz.underlying9,mapKey]at h
 exact⟨_,rfl,h.2.symm,h.1⟩
theorem rT{e:TypeId}{u:Value}{a:List Value}(h:w.ownsRow z e 1 u a.length a):∃A c,u=.slice A a.length c∧a.length≤c:=by
 rcases h.2 with⟨b,i⟩|⟨g,cap,d,b,_,_,j,_⟩
 ·exact⟨none,0,by rw[b,i],by omega⟩
 ·exact⟨_,_,b,j⟩
theorem fg{v:aV}{P:aC}(hN:ex B named)(h:aF B w pb v P aw L){Bf:Nat}{bs:List Nat}{fs:List (List Nm)}{D:Nat→DataW Value}{r:Nat→ByteArray→Value}(hF:bh Bf w bs fs D r)
 (i b:Nat)(f:List Nm)(hb:bs[i]?=some b)(hf:fs[i]?=some f)(c4:pb<Bf∧pb ∉ bs)(d6:f.length≤4194304)(b2:∀x∈f,ae x.1):
 Calls Tryz.prog 71 #[.pointer (some ⟨pb,0,none⟩),.map (some b)] w fun e w'=>e=.returned (.tuple #[])∧aF B w' pb v P aw (fb named f++L)∧aB (fun k=>k=pb) w w':=by
 have d7:=h.lt;have d3:=h.base;obtain⟨m1,m3⟩:=hF.map i b f hb hf;have bp:b≠pb:=fun e=>c4.2 (by rw[←e];exact List.mem_of_getElem? hb)
 have dl:=m1.lt;refine az Tryz.func71 Tryz.ntmps71 rfl (by simp) fun a b3 cx H=>?_
 have h0:At a 0 (.pointer (some ⟨pb,0,none⟩)):=H 0 _ rfl;have M:At a 1 (.map (some b)):=H 1 _ rfl;clear H
 conv=>arg 2;whnf
 refine so (fun O w1=>aA (fun i=>i==10||i==11) a O∧At O 11 (.pointer (some ⟨w.heap.size,0,none⟩))∧w1.ranges Tryz.prog 9 eM b w.heap.size f.length (D i) (Go.Maps.has (D i)) (Go.Maps.size (D i))∧w.grownBy w1 none) ?_ ?_
 ·clear hN hF m3
  obtain⟨T,d⟩:=a;refine rl ?_;with_reducible refine st ?_
  refine wpList_range_own _ rfl _ 135 rfl 9 35 Tryz.law9 Tryz.underlying135 _ b f.length (D i) (by simp[Act.eval,b3]) m1 ?_;intro w0 b0 cy d9;with_reducible refine ln ?_
  refine⟨rfl,?_,?_,b0,cy⟩
  ·(repeat (first|with_reducible apply aA.put|with_reducible apply aA.set))<;>first|with_reducible exact aA.refl _ _|rfl
  ·exact At.put_self
 rintro a0 w1 ⟨R,Y,an,hg⟩;have bf:Kz w w1:=aB.of_grown hg (fun _ e=>by cases e);have a8:=R.size.trans b3;replace h0:=R.Q7 h0 rfl;have bd:=h.new bf;have d1:w.heap.size<w1.heap.size:=an.lt;have b1:w.heap.size≠pb:=by omega
 have HN:=hh hN;have M3:=hh m3;have HF:=hh hF;have cb:=hh bf;have bc:∀s:ByteArray,s.size≤maxLen→Go.Maps.has (D i) (key s)=has f s:=fun s X=>(m3 s X).2.2
 clear hN hF m3 bf hg;refine ua (t:=13)
  (fun a' w'=>aA (fun i=>i==4||i==5||i==6||i==7||i==9||(rg 12 43 i)) a0 a'∧∃left C Lc,w'.ranges Tryz.prog 9 eM b w.heap.size f.length (D i) left C∧aF B w' pb v P aw (Lc++L)∧aB (fun k=>k=pb) w w' ∧
   (∀kl,left kl=true→Go.Maps.has (D i) kl=true)∧∀p,p∈Lc↔∃s:ByteArray,s.size≤maxLen∧left (key s)=false∧p∈cU named s (bK f s))
  (fun _ w'=>w'.rangeLeft b w.heap.size)
  (fun m a' w'=>aA (fun i=>i==4||i==5||i==6||i==7||i==9||(rg 12 43 i)) a0 a'∧∃(s:ByteArray) (left:Lit→Bool) (C:Nat) (Lc:List Wr),s.size≤maxLen∧has f s=true∧C<m∧(Instr.entry (.pointer (some ⟨w.heap.size,0,none⟩))).run Tryz.prog w'=.ok (.tuple #[.string s,r i s]) w' ∧
   w'.ranges Tryz.prog 9 eM b w.heap.size f.length (D i) (fun z=>left z && !z.sameKey (key s)) C∧aF B w' pb v P aw (Lc++L)∧aB (fun k=>k=pb) w w' ∧
   (∀kl,left kl=true→Go.Maps.has (D i) kl=true)∧∀p,p∈Lc↔∃s:ByteArray,s.size≤maxLen∧left (key s)=false∧p∈cU named s (bK f s))
  (fun a' w'=>a'.defers=[]∧∃Lc,aF B w' pb v P aw (Lc++L)∧aB (fun k=>k=pb) w w'∧∀p,p∈Lc↔∃s:ByteArray,s.size≤maxLen∧p∈cU named s (bK f s)) ?_ ?_ ?_ ?_
 ·refine⟨aA.refl _ _,_,_,[],an,by simpa using bd,cb.out.mono (fun _ _ h=>h.elim),fun _ h=>h,fun p=>⟨fun h=>by simp at h,fun⟨s,X,hn,hp⟩=>?_⟩⟩
  rw[bc s X]at hn;have:bK f s=[]:=by
   have:=jk f s;rw[hn]at this;have h2:¬ 0<(bK f s).length:=of_decide_eq_false this.symm;exact List.length_eq_zero_iff.1 (by omega)
  rw[this]at hp;simp[cU,cZ]at hp
 ·rintro O w2 ⟨Q,left,C,Lc,l,G,E,V,I⟩
  have Z:=Q.Q7 Y rfl;have K:O.tmps.size=44:=Q.size.trans a8;have bt:O.defers=[]:=Q.defers.trans (R.defers.trans cx);have HR:=hh l;have ad:=hh G;have ac:=hh E;have ah:=hh V;have af:=hh I;have a9:=hh Q;have d8:=l.lt;clear G E V I Q l an bd bc h h0 m1 R;refine rl ?_;refine wpList_next_ranges _ rfl _ rfl 9 Tryz.law9 eM (Value.string) (fun v:Value=>v) (fun ky kl hk=>by obtain⟨s,e,_⟩:=gY hk;exact⟨s,e⟩) (fun v y _=>⟨v,rfl⟩) b w.heap.size f.length (D i) left C (Z.eval (by omega)) HR.out ?_ ?_
  ·intro d4 c2
   obtain⟨T,d⟩:=O;simp only[Act.put];with_reducible refine st ?_;refine ln ?_
   refine⟨rfl,.inr ⟨?_,?_⟩⟩
   ·exact At.eval At.self (by simp;exact K▸(by decide:13<44))
   ·exact⟨bt,Lc,ad.out,ac.out,fun p=>by rw[af.out];exact⟨fun⟨s,M,_,h3⟩=>⟨s,M,h3⟩,fun⟨s,M,h3⟩=>⟨s,M,c2 _,h3⟩⟩⟩
  ·intro s c kl y w3 a4 a5 bx hR bo a7 cu bu c5 S
   obtain⟨s',e,rfl,X⟩:=gY a5
   cases e
   simp only[eM,Option.some.injEq]at hR;subst hR;have cw:c=r i s:=by
    have e1:=(M3.out s X).1;rw[bo]at e1;exact DataW.held.inj e1
   subst cw;have U:has f s=true:=by rw[←(M3.out s X).2.2];exact ah.out _ bx
   have bj:aB (fun k=>k=w.heap.size) w2 w3:=aB.of_grown bu (fun k e=>by cases e;rfl);have b4:bk w2 w.heap.size=none:=by
    obtain⟨es,ci,dk,d2,c0,_,_,_,_,e5,_⟩:=HR.out;unfold bk;rw[e5]
   have cp:=ad.out.keep bj (fun k hk _=>by subst hk;rw[b4];exact⟨by omega,by simp,by simp⟩);have c1:aB (fun k=>k=pb) w w3:=ac.out.trans bj (fun k hk e=>by omega);have bz:a4<w2.rangeLeft b w.heap.size:=by rw[HR.out.left_eq];exact cu
   clear bo a5 bu c5 bj b4 bx;have b5:=hh S;have cd:=hh a7;clear S a7;obtain⟨T,d⟩:=O;simp only[Act.put];with_reducible refine st ?_;refine ln ?_
   refine⟨rfl,.inl ⟨?_,?_,s,left,a4,Lc,X,U,bz,b5.out,cd.out,cp,c1,ah.out,af.out⟩⟩
   ·exact At.eval At.self (by simp;exact K▸(by decide:13<44))
   ·refine a9.out.trans (vs:=fun i=>i==12||i==13) ?_ (by intro j;simp;omega)
    (repeat (first|with_reducible apply aA.put|with_reducible apply aA.set))<;>first|with_reducible exact aA.refl _ _|rfl
 ·rintro m O w2 ⟨Q,s,left,C,Lc,X,U,cv,S,l,G,E,V,I⟩
  have c6:ae s:=by
   have M:=jk f s;rw[U]at M;obtain⟨q,hq⟩:=List.exists_mem_of_length_pos (of_decide_eq_true M.symm);exact b2 _ (iF.1 hq)
  obtain⟨A,c,hv,bm⟩:=rT (by rw[List.length_map];exact(M3.out s X).2.1);rw[List.length_map]at hv bm;have W:=(M3.out s X).2.1;have J:=W.keep E (fun k hk e=>by subst e;have:=(W.lt _ hk).1;omega);have a6:(bK f s).length≤4194304:=by have:=rS f s;omega
  have Z:=Q.Q7 Y rfl;have c8:=Q.Q7 h0 rfl;have K:O.tmps.size=44:=Q.size.trans a8;rw[hv]at S J;have cf:=hh J;have HR:=hh l;have ad:=hh G;have ac:=hh E;have ah:=hh V;have af:=hh I;have a9:=hh Q;clear G E V I Q l an bd bc h h0 m1 R W J hv Y;obtain⟨N,be⟩:∃n,n=(bK f s).length:=⟨_,rfl⟩;rw[←be]at S bm a6;have cc:=hh be;clear be;refine so (fun a2 w3=>aA (fun i=>i==14||i==15||i==16||i==4||i==5) O a2∧At a2 4 (.string s)∧At a2 5 (.slice A N c)∧w3=w2) ?_ ?_
  ·obtain⟨T,d⟩:=O
   refine rl ?_
   iterate 5 with_reducible refine st ?_
   with_reducible refine ln ?_
   refine⟨rfl,ag,aq,aq,rfl⟩
  rintro a2 w3 ⟨bb,c9,di,rfl⟩;have ct:=cc.out;subst ct;refine tA HN.out ad.out a2 (bb.size.trans K) (bb.Q7 c8 rfl) c6 c9 di bm a6 (fun d0=>?_) _ (fun a3 w4 cm cs bl=>?_)
  ·rcases cf.out.2 with⟨e1,e2⟩|⟨g,cap,cl,e1,hg,hh,ds,_,d5,c7⟩
   ·omega
   ·cases e1
    refine⟨g,rfl,aG hh,by omega,fun j y hy=>?_⟩;have h3:cl.toList[j]?=some (.int .i64 y):=by
     have h4:((bK f s).map (Value.int .i64))[j]?=some (.int .i64 y):=by rw[List.getElem?_map,hy];rfl
     rw[←c7,List.getElem?_take]at h4;split at h4
     ·exact h4
     ·cases h4
    rw[cell_of_row _ _ _ _ _ _ hh]
    simpa using h3
  refine⟨⟨(a9.out.t bb).t cm,_,C,cU named s (bK f s)++Lc,kr HR.out bl bp b1,by rw[List.append_assoc];exact cs,ac.out.trans bl (fun _ _ e=>e),fun kl bw=>ah.out kl (by simp at bw;exact bw.1),fun p=>?_⟩,?_⟩
  ·simp only[List.mem_append,af.out]
   constructor
   ·rintro(M|⟨u,M,h2,h3⟩)
    ·exact⟨s,X,by rw[WideAt.sameKey_self (jf s)];simp,M⟩
    ·exact⟨u,M,by simp[h2],h3⟩
   ·rintro⟨u,M,h2,h3⟩
    by_cases hus:u=s
    ·subst hus;exact .inl h3
    ·refine .inr ⟨u,M,?_,h3⟩
     have c3:(key u).sameKey (key s)=false:=by
      rw[Bool.eq_false_iff];exact fun e=>hus (lK (WideAt.sameKey_eq e))
     simpa[c3]using h2
  ·have h5:=(kr HR.out bl bp b1).left_eq
   show w4.rangeLeft b w.heap.size<m;rw[h5];exact cv
 ·rintro O w2 ⟨hd,Lc,G,E,I⟩
  refine ej rfl hd ⟨rfl,G.congr fun p=>?_,E⟩;simp only[List.mem_append,I,qM];constructor
  ·rintro(⟨s,_,h⟩|h)
   ·exact .inl ⟨s,h⟩
   ·exact .inr h
  ·rintro(⟨s,h⟩|h)
   ·refine .inl ⟨s,?_,h⟩
    by_cases hz:bK f s=[]
    ·rw[hz]at h;simp[cU,cZ]at h
    ·obtain⟨q,hq⟩:=List.exists_mem_of_ne_nil _ hz
     have:=b2 _ (iF.1 hq);unfold ae at this;unfold maxLen;show s.size≤_;have e:((s,q):Nm).1=s:=rfl;rw[e]at this;omega
   ·exact .inr h
def dA(w:World)(b n:Nat)(z:Value)(F:ByteArray→Value)(p:ByteArray→Bool):Prop:=
 ∃D,w.ownsMap Tryz.prog 9 eM b n D∧∀s:ByteArray,s.size≤maxLen→D.atKey (key s) (.held z)=.held (F s)∧Go.Maps.has D (key s)=p s
namespace dA
variable {w w':World} {b n:Nat} {z:Value} {F:ByteArray→Value} {p:ByteArray→Bool}
theorem lt(h:dA w b n z F p):b<w.heap.size:=by obtain⟨D,a,_⟩:=h;exact a.lt
theorem keep{S:Nat→Prop}(h:dA w b n z F p)(hk:aB S w w')(e:¬ S b):dA w' b n z F p:=by
 obtain⟨D,a,d⟩:=h;exact⟨D,ju a hk e,d⟩
theorem new(w:World)(b:Nat)(z:Value)(h:w.heap[b]?=some (.map #[] 0)):dA w b 0 z (fun _=>z) (fun _=>false):=by
 exact⟨.map [],⟨#[],0,h,⟨by simp,Go.MapKept.stamped_empty 0,by simp⟩,Nat.le_refl _,rfl⟩,fun s _=>⟨rfl,rfl⟩⟩
theorem run(h:dA w b n z F p){t e:TypeId}(l:Tryz.prog.underlying t=some (.map 9 e))(q:∀w,(zeroValue e).run Tryz.prog w=.ok z w){s:ByteArray}(d:s.size≤maxLen):
 (Instr.lookup t (.map (some b)) (.string s) false).run Tryz.prog w=.ok (F s) w:=by
 obtain⟨D,i,j⟩:=h;obtain⟨v,r,a,hv⟩:=i.lookup Tryz.law9 l (q w) (zd := .held z) (zp:=[]) rfl (Go.WideMaps.keyOf_string_mk Tryz.underlying9 d);have g:(DataW.held v:DataW Value)=.held (F s):=by
  simp only[eM,Option.some.injEq,Prod.mk.injEq]at hv;rw[←(j s d).1];exact hv.1
 rw[a,DataW.held.inj g]
theorem lookup{P:Program}(r:P=Tryz.prog)(h:dA w b n z F p){d:Array Oper}{rest:List Oper}{o:Oper}{a:Act}{Q:Exit→Act→World→Prop}
 (u:o.guard=none){m x:Operand}{t e:TypeId}(g:o.op=Op.lookup t m x false)(A:P.underlying t=some (.map 9 e))(B:∀w,(zeroValue e).run P w=.ok z w)
 (y:a.eval m=.map (some b)){s:ByteArray}(hx:a.eval x=.string s)(i:s.size≤maxLen)(q:wpList P d Q rest (a.put o.dst (F s)) w):wpList P d Q (o::rest) a w:=by
 subst r;obtain⟨D,j,l⟩:=h;refine eH _ u m x t g 9 e Tryz.law9 A z (B w) b n D y j _ (key s) hx (Go.WideMaps.keyOf_string_mk Tryz.underlying9 i) fun v hv=>?_
 rw[(l s i).1]at hv;rw[←DataW.held.inj hv];exact q
theorem update{P:Program}(B:P=Tryz.prog)(h:dA w b n z F p)(G:n<maxLen){i:Array Oper}{rest:List Oper}{o:Oper}{a:Act}{Q:Exit→Act→World→Prop}
 (C:o.guard=none){m x u:Operand}{t e:TypeId}(q:o.op=Op.mapUpdate t m x u)(r:P.underlying t=some (.map 9 e))
 (E:a.eval m=.map (some b)){s:ByteArray}(hx:a.eval x=.string s)(H:s.size≤maxLen){v:Value}(hv:a.eval u=v)
 (A:∀w',dA w' b (n+1) z (fun t=>if t=s then v else F t) (fun t=>decide (t=s)||p t)→aB (fun k=>k=b) w w'→wpList P i Q rest (a.put o.dst undef) w'):wpList P i Q (o::rest) a w:=by
 subst B;obtain⟨D,j,y⟩:=h;refine wpList_mapUpdate_own _ C m x u t q 9 e Tryz.law9 r eM b n D E j G _ _ (key s) hx hv (Go.WideMaps.keyOf_string_mk Tryz.underlying9 H) _ [] rfl fun w' g l=>A w' ⟨_,g,fun t r=>?_⟩ (aB.of_grown l (fun k e=>by cases e;rfl))
 obtain⟨I,J⟩:=y t r
 by_cases hts:t=s
 ·subst hts
  exact⟨by show _=DataW.held (if t=t then v else F t);rw[if_pos rfl];exact Go.Maps.atKey_put_same j.isMap (jf t) _ _,by rw[Go.Maps.has_put_same j.isMap (jf t)];simp⟩
 ·have d:key t≠key s:=fun e=>hts (lK e)
  exact⟨by show _=DataW.held (if t=s then v else F t);rw[if_neg hts];exact(Go.Maps.atKey_put_other d _ _).trans I,by rw[Go.Maps.has_put_other d,J];simp[hts]⟩
theorem lookup_ok{P:Program}(u:P=Tryz.prog)(h:dA w b n z F p){d:Array Oper}{rest:List Oper}{o:Oper}{a:Act}{Q:Exit→Act→World→Prop}
 (y:o.guard=none){m x:Operand}{t e:TypeId}(g:o.op=Op.lookup t m x true)(B:P.underlying t=some (.map 9 e))(C:∀w,(zeroValue e).run P w=.ok z w)
 (A:a.eval m=.map (some b)){s:ByteArray}(hx:a.eval x=.string s)(i:s.size≤maxLen)(r:wpList P d Q rest (a.put o.dst (.tuple #[F s,.bool (p s)])) w):wpList P d Q (o::rest) a w:=by
 subst u;obtain⟨D,q,j⟩:=h;refine wpList_lookup_own_ok _ y m x t g 9 e Tryz.law9 B eM (C w) (.held z) [] rfl b n D A q _ (key s) hx (Go.WideMaps.keyOf_string_mk Tryz.underlying9 i) fun v E hv=>?_
 have l:(DataW.held v:DataW Value)=.held (F s):=by
  simp only[eM,Option.some.injEq,Prod.mk.injEq]at hv;rw[←(j s i).1];exact hv.1
 rw[DataW.held.inj l,(j s i).2];exact r
end dA
end Go.Proofs.YtpblcjipmoblnaaGreatDoor
