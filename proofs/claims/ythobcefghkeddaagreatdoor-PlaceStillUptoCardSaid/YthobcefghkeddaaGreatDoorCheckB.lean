import Derived.Test.YthobcefghkeddaaGreatDoorImage
import Derived.Test.YthobcefghkeddaaGreatDoorPlansB
import Derived.Test.YthobcefghkeddaaGreatDoorMaps
set_option maxRecDepth 100000
set_option linter.all false
set_option maxHeartbeats 4000000
namespace Go.Proofs.YthobcefghkeddaaGreatDoor
open Go.RowKit Go.IntWalk Ck
variable {B pb:Nat} {w:World}
theorem oV{B:Nat}{w:World}{pb:Nat}{v:aY}{P:aF}{W W':Int→Int}(h:aG B w pb v P W []):aG B w pb v P W' []:=by
 obtain⟨f,o,g,j,d⟩:=h.look
 cases o with
 | none=>exact⟨h.laid,h.base,h.QT,f,none,g,j,d⟩
 | some m=>exact absurd d.1 ξ
theorem ri{g:List Wr×(Int→Int)}{a r:Int}:∀{l:List (List Wr×(Int→Int))} {k:Nat},l[k]?=some g→(∀x∈l.take k,x.1=[])→(a,r)∈g.1→(∀x∈g.1,Le (a,r) x)→qj l a (g.2 r)
 | [],k,h,_,_,_=>by simp at h
 | x::t,0,h,_,h1,h2=>by
  obtain rfl:x=g:=Option.some.inj h;exact .inr ⟨r,h1,h2,rfl⟩
 | x::t,k+1,h,he,h1,h2 =>.inl ⟨he x ξ,ri (l:=t) (by simpa using h) (fun y d=>he y (by simp[d])) h1 h2⟩
theorem nj:∀{l:List (List Wr×(Int→Int))},(∀x∈l,x.1=[])→qj l 0 0
 | [],_=>⟨rfl,rfl⟩
 | x::t,h =>.inl ⟨h x ξ,nj fun y d=>h y (by simp[d])⟩
def rZ(B pb:Nat)(v:aY)(P:aF)(l:List (List Wr×(Int→Int))):Prop:=
 l.length=8∧∀(k:Nat) (g:List Wr×(Int→Int)) (w:World),l[k]?=some g→aG B w pb v P g.2 []→Calls Tryz.prog (25+k) #[.pointer (some ⟨pb,0,none⟩)] w fun e w'=>e=.returned (.tuple #[])∧aG B w' pb v P g.2 g.1∧aD (fun k=>k=pb) w w'
theorem Ej{α:Type}{d j l q u v w x g:α}{k:Nat}(h:[d,j,l,q,u,v,w,x][k]?=some g):(k=0∧g=d)∨(k=1∧g=j)∨(k=2∧g=l)∨(k=3∧g=q)∨(k=4∧g=u)∨(k=5∧g=v)∨(k=6∧g=w)∨(k=7∧g=x):=by
 have hk:k<8:=by have:=(List.getElem?_eq_some_iff.1 h).1;simpa using this
 rcases(by omega:k=0∨k=1∨k=2∨k=3∨k=4∨k=5∨k=6∨k=7)with rfl|rfl|rfl|rfl|rfl|rfl|rfl|rfl<;>simp at h<;>subst h<;>simp
theorem Aj{v:aY}{P:aF}{named:ByteArray→Bool}(d:fX B named):rZ B pb v P (da named ae P):=by
 refine⟨rfl,fun k g w hk h=>?_⟩
 rcases Ej hk with⟨rfl,rfl⟩|⟨rfl,rfl⟩|⟨rfl,rfl⟩|⟨rfl,rfl⟩|⟨rfl,rfl⟩|⟨rfl,rfl⟩|⟨rfl,rfl⟩|⟨rfl,rfl⟩
 ·exact yF d h
 ·exact vb h
 ·exact Ch h
 ·exact ry h
 ·exact AM ni h
 ·exact BZ h
 ·exact xp h
 ·exact yV h
def fnV(pb k:Nat):Value := .func (.func (25+k)) #[.pointer (some ⟨pb,0,none⟩)] #[]
theorem ve{v:aY}{P:aF}{l:List (List Wr×(Int→Int))}(D:rZ B pb v P l){k:Nat}{g:List Wr×(Int→Int)}(hk:l[k]?=some g)(H:aG B w pb v P g.2 [])(a:Act)(N:a.tmps.size=53)(u:At a 6 (fnV pb k))(Q:Exit→Act→World→Prop)
 (I:∀E w',aE (fun i=>i==34||i==35) a E→aG B w' pb v P g.2 g.1→aD (fun k=>k=pb) w w'→Q .normal E w'):
 (b9 Tryz.f10 [1,1,0,1,0,0,1,1,0,0,1,0]).wp Tryz.prog Q a w:=by
 have L:k<8:=by have:=(List.getElem?_eq_some_iff.1 hk).1;rw[D.1]at this;exact this
 have q:=hh (D.2 k g w hk H);have y:=hh I;clear I D H hk;unfold fnV at u;have J:aE (fun i=>i==34||i==35) a a:=aE.refl _ _
 conv=>arg 2;whnf
 rcases(by omega:k=0∨k=1∨k=2∨k=3∨k=4∨k=5∨k=6∨k=7)with rfl|rfl|rfl|rfl|rfl|rfl|rfl|rfl
 ·have u:At a 6 (.func (.func 25) #[.pointer (some ⟨pb,0,none⟩)] #[]):=u
  have q:Hid (Calls Tryz.prog 25 #[.pointer (some ⟨pb,0,none⟩)] w fun e w'=>e=.returned (.tuple #[])∧aG B w' pb v P g.2 g.1∧aD (fun k=>k=pb) w w'):=q;obtain⟨T,d⟩:=a;refine rl ?_;with_reducible refine st ?_;refine Lz (fun K x=>?_)
  go_simp;refine q.out.mono ?_;rintro e C ⟨rfl,h,j⟩;with_reducible refine x _ _ (ln ?_)
  refine y.out _ _ ?_ h j;exact ag
 ·have u:At a 6 (.func (.func 26) #[.pointer (some ⟨pb,0,none⟩)] #[]):=u
  have q:Hid (Calls Tryz.prog 26 #[.pointer (some ⟨pb,0,none⟩)] w fun e w'=>e=.returned (.tuple #[])∧aG B w' pb v P g.2 g.1∧aD (fun k=>k=pb) w w'):=q;obtain⟨T,d⟩:=a;refine rl ?_;with_reducible refine st ?_;refine Lz (fun K x=>?_)
  go_simp;refine q.out.mono ?_;rintro e C ⟨rfl,h,j⟩;with_reducible refine x _ _ (ln ?_)
  refine y.out _ _ ?_ h j;exact ag
 ·have u:At a 6 (.func (.func 27) #[.pointer (some ⟨pb,0,none⟩)] #[]):=u
  have q:Hid (Calls Tryz.prog 27 #[.pointer (some ⟨pb,0,none⟩)] w fun e w'=>e=.returned (.tuple #[])∧aG B w' pb v P g.2 g.1∧aD (fun k=>k=pb) w w'):=q;obtain⟨T,d⟩:=a;refine rl ?_;with_reducible refine st ?_;refine Lz (fun K x=>?_)
  go_simp;refine q.out.mono ?_;rintro e C ⟨rfl,h,j⟩;with_reducible refine x _ _ (ln ?_)
  refine y.out _ _ ?_ h j;exact ag
 ·have u:At a 6 (.func (.func 28) #[.pointer (some ⟨pb,0,none⟩)] #[]):=u
  have q:Hid (Calls Tryz.prog 28 #[.pointer (some ⟨pb,0,none⟩)] w fun e w'=>e=.returned (.tuple #[])∧aG B w' pb v P g.2 g.1∧aD (fun k=>k=pb) w w'):=q;obtain⟨T,d⟩:=a;refine rl ?_;with_reducible refine st ?_;refine Lz (fun K x=>?_)
  go_simp;refine q.out.mono ?_;rintro e C ⟨rfl,h,j⟩;with_reducible refine x _ _ (ln ?_)
  refine y.out _ _ ?_ h j;exact ag
 ·have u:At a 6 (.func (.func 29) #[.pointer (some ⟨pb,0,none⟩)] #[]):=u
  have q:Hid (Calls Tryz.prog 29 #[.pointer (some ⟨pb,0,none⟩)] w fun e w'=>e=.returned (.tuple #[])∧aG B w' pb v P g.2 g.1∧aD (fun k=>k=pb) w w'):=q;obtain⟨T,d⟩:=a;refine rl ?_;with_reducible refine st ?_;refine Lz (fun K x=>?_)
  go_simp;refine q.out.mono ?_;rintro e C ⟨rfl,h,j⟩;with_reducible refine x _ _ (ln ?_)
  refine y.out _ _ ?_ h j;exact ag
 ·have u:At a 6 (.func (.func 30) #[.pointer (some ⟨pb,0,none⟩)] #[]):=u
  have q:Hid (Calls Tryz.prog 30 #[.pointer (some ⟨pb,0,none⟩)] w fun e w'=>e=.returned (.tuple #[])∧aG B w' pb v P g.2 g.1∧aD (fun k=>k=pb) w w'):=q;obtain⟨T,d⟩:=a;refine rl ?_;with_reducible refine st ?_;refine Lz (fun K x=>?_)
  go_simp;refine q.out.mono ?_;rintro e C ⟨rfl,h,j⟩;with_reducible refine x _ _ (ln ?_)
  refine y.out _ _ ?_ h j;exact ag
 ·have u:At a 6 (.func (.func 31) #[.pointer (some ⟨pb,0,none⟩)] #[]):=u
  have q:Hid (Calls Tryz.prog 31 #[.pointer (some ⟨pb,0,none⟩)] w fun e w'=>e=.returned (.tuple #[])∧aG B w' pb v P g.2 g.1∧aD (fun k=>k=pb) w w'):=q;obtain⟨T,d⟩:=a;refine rl ?_;with_reducible refine st ?_;refine Lz (fun K x=>?_)
  go_simp;refine q.out.mono ?_;rintro e C ⟨rfl,h,j⟩;with_reducible refine x _ _ (ln ?_)
  refine y.out _ _ ?_ h j;exact ag
 ·have u:At a 6 (.func (.func 32) #[.pointer (some ⟨pb,0,none⟩)] #[]):=u
  have q:Hid (Calls Tryz.prog 32 #[.pointer (some ⟨pb,0,none⟩)] w fun e w'=>e=.returned (.tuple #[])∧aG B w' pb v P g.2 g.1∧aD (fun k=>k=pb) w w'):=q;obtain⟨T,d⟩:=a;refine rl ?_;with_reducible refine st ?_;refine Lz (fun K x=>?_)
  go_simp;refine q.out.mono ?_;rintro e C ⟨rfl,h,j⟩;with_reducible refine x _ _ (ln ?_)
  refine y.out _ _ ?_ h j;exact ag
theorem mh{P:Program}{fn:Func}{a:Act}{s t:Nat}{u v:Value}(h:fn.results = #[.tmp s,.tmp t])(q:At a s u)(x:At a t v)(d:s<a.tmps.size)(g:t<a.tmps.size):(results fn a.tmps).run P w=.ok (.tuple #[u,v]) w:=by
 have j:a.tmps.getD s undef=u:=q.eval d;have l:a.tmps.getD t undef=v:=x.eval g;rw[results_tmp2 h,j,l]
theorem yn{v:aY}{P:aF}{named:ByteArray→Bool}(hN:fX B named)(hp:ax B w v P)(kt:io B w)(hB:B≤w.heap.size):
 Calls Tryz.prog 10 #[.agg (v.cells P).toArray] w fun e w'=>(∃a x:Int,e=.returned (.tuple #[.int .i64 a,.int .i64 x])∧qj (da named ae P) a x)∧Kz w w':=by
 have HP:=hh hp;have it:=hh kt;obtain⟨l,hl⟩:∃l,l=da named ae P:=⟨_,rfl⟩;have g8:∀pb,rZ B pb v P l:=fun pb=>by rw[hl];exact Aj hN
 have k8:=hh g8;rw[←hl];have mx:l.length=8:=(g8 0).1;clear hl g8 kt;obtain⟨A_rams,O,bf,ez,fl,fd⟩:=hp.QF;obtain⟨A_devices,y,X,cb,cu,cj⟩:=hp.Q5;obtain⟨A_regions,E,aa,cf,cx,cs⟩:=hp.Q3;obtain⟨A_subjects,u,V,bz,b5,b2⟩:=hp.Q4;obtain⟨A_channels,g,Q,bw,b3,b0⟩:=hp.Q8;obtain⟨A_irqs,N,be,ey,fk,fc⟩:=hp.QL;obtain⟨A_queues,I,ad,c6,dc,c8⟩:=hp.QB;obtain⟨A_plans,L,a5,en,eq,eo⟩:=hp.Q9;obtain⟨A_masters,D,Z,cd,cw,cp⟩:=hp.QD;obtain⟨A_starts,J,af,c7,di,c9⟩:=hp.QH;obtain⟨A_monitors,q,U,bx,b4,b1⟩:=hp.QC;obtain⟨A_forbids,C,Y,cc,cv,cm⟩:=hp.QG;have e0:(v.cells P).toArray = #[.int .i64 P.pos,.string P.name,.slice A_rams P.QF.length O,.slice A_devices P.Q5.length y,.slice A_regions P.Q3.length E,.slice A_subjects P.Q4.length u,.slice A_channels P.Q8.length g,.slice A_irqs P.QL.length N,.slice A_queues P.QB.length I,.slice A_plans P.Q9.length L,.slice A_masters P.QD.length D,.slice A_starts P.QH.length J,.slice A_monitors P.QC.length q,.slice A_forbids P.QG.length C]:=by
  rw[←bf,←X,←aa,←V,←Q,←be,←ad,←a5,←Z,←af,←U,←Y];rfl
 have e1:(v.cells P++[Value.nilIface]).toArray = #[.int .i64 P.pos,.string P.name,.slice A_rams P.QF.length O,.slice A_devices P.Q5.length y,.slice A_regions P.Q3.length E,.slice A_subjects P.Q4.length u,.slice A_channels P.Q8.length g,.slice A_irqs P.QL.length N,.slice A_queues P.QB.length I,.slice A_plans P.Q9.length L,.slice A_masters P.QD.length D,.slice A_starts P.QH.length J,.slice A_monitors P.QC.length q,.slice A_forbids P.QG.length C,.nilIface]:=by
  rw[←bf,←X,←aa,←V,←Q,←be,←ad,←a5,←Z,←af,←U,←Y];rfl
 rw[e0];have h8:=hh e1;clear e0 e1 hp bf fd ez fl X cj cb cu aa cs cf cx V b2 bz b5 Q b0 bw b3 be fc ey fk ad c8 c6 dc a5 eo en eq Z cp cd cw af c9 c7 di U b1 bx b4 Y cm cc cv;refine bU Tryz.func10 Tryz.ntmps10 rfl (by show 1≤53;decide) fun a lv hd h=>?_
 have h0:At a 0 (.agg #[.int .i64 P.pos,.string P.name,.slice A_rams P.QF.length O,.slice A_devices P.Q5.length y,.slice A_regions P.Q3.length E,.slice A_subjects P.Q4.length u,.slice A_channels P.Q8.length g,.slice A_irqs P.QL.length N,.slice A_queues P.QB.length I,.slice A_plans P.Q9.length L,.slice A_masters P.QD.length D,.slice A_starts P.QH.length J,.slice A_monitors P.QC.length q,.slice A_forbids P.QG.length C]):=h 0 _ rfl;clear h
 conv=>arg 2;whnf
 refine so (fun bo H=>aE (fun i=>i==1||i==2||i==3) a bo∧At bo 1 (.pointer (some ⟨w.heap.size,0,none⟩))∧At bo 2 (.int .i64 0)∧At bo 3 (.int .i64 0)∧H=w.alloc (.cells #[.int .i64 P.pos,.string P.name,.slice A_rams P.QF.length O,.slice A_devices P.Q5.length y,.slice A_regions P.Q3.length E,.slice A_subjects P.Q4.length u,.slice A_channels P.Q8.length g,.slice A_irqs P.QL.length N,.slice A_queues P.QB.length I,.slice A_plans P.Q9.length L,.slice A_masters P.QD.length D,.slice A_starts P.QH.length J,.slice A_monitors P.QC.length q,.slice A_forbids P.QG.length C] 33)) ?_ ?_
 ·have bm:aE (fun i=>i==1||i==2||i==3) a a:=aE.refl _ _
  obtain⟨T,d⟩:=a;refine rl ?_
  iterate 3 with_reducible refine st ?_
  refine ln ⟨rfl,ag,aq,aq,aq,rfl⟩
 rintro bo H ⟨c5,h1,h2,h3,dt⟩;replace h0:=c5.Q7 h0 rfl;have k1:=c5.size.trans lv;have lm:=c5.defers.trans hd;obtain⟨z,hz⟩:∃z,z=w.heap.size:=⟨_,rfl⟩;rw[←hz]at h1;have fz:H.heap[z]?=some (.cells #[.int .i64 P.pos,.string P.name,.slice A_rams P.QF.length O,.slice A_devices P.Q5.length y,.slice A_regions P.Q3.length E,.slice A_subjects P.Q4.length u,.slice A_channels P.Q8.length g,.slice A_irqs P.QL.length N,.slice A_queues P.QB.length I,.slice A_plans P.Q9.length L,.slice A_masters P.QD.length D,.slice A_starts P.QH.length J,.slice A_monitors P.QC.length q,.slice A_forbids P.QG.length C] 33 (0,0)):=by rw[dt,hz];exact heap_alloc_new _ _
 have hc:Kz w H:=by rw[dt];exact(aD.refl _ _).alloc _
 have ie:=hh hc;have q0:H.cell? ⟨z,0,none⟩=some (.int .i64 P.pos):=cr fz rfl;have q1:H.cell? ⟨z,1,none⟩=some (.string P.name):=cr fz rfl;have q2:H.cell? ⟨z,2,none⟩=some (.slice A_rams P.QF.length O):=cr fz rfl;have q3:H.cell? ⟨z,3,none⟩=some (.slice A_devices P.Q5.length y):=cr fz rfl;have q4:H.cell? ⟨z,4,none⟩=some (.slice A_regions P.Q3.length E):=cr fz rfl;have q5:H.cell? ⟨z,5,none⟩=some (.slice A_subjects P.Q4.length u):=cr fz rfl;have q6:H.cell? ⟨z,6,none⟩=some (.slice A_channels P.Q8.length g):=cr fz rfl;have q7:H.cell? ⟨z,7,none⟩=some (.slice A_irqs P.QL.length N):=cr fz rfl;have q8:H.cell? ⟨z,8,none⟩=some (.slice A_queues P.QB.length I):=cr fz rfl;have q9:H.cell? ⟨z,9,none⟩=some (.slice A_plans P.Q9.length L):=cr fz rfl;have l5:H.cell? ⟨z,10,none⟩=some (.slice A_masters P.QD.length D):=cr fz rfl;have l6:H.cell? ⟨z,11,none⟩=some (.slice A_starts P.QH.length J):=cr fz rfl;have l7:H.cell? ⟨z,12,none⟩=some (.slice A_monitors P.QC.length q):=cr fz rfl;have l9:H.cell? ⟨z,13,none⟩=some (.slice A_forbids P.QG.length C):=cr fz rfl;have hn:=hc.size;clear dt hz fz h0 hc;refine so (fun cy an=>aE (fun i=>i==4||(rg 9 11 i)) bo cy∧At cy 4 (.pointer (some ⟨H.heap.size,0,none⟩))∧an=H.alloc (.cells #[.int .i64 P.pos,.string P.name,.slice A_rams P.QF.length O,.slice A_devices P.Q5.length y,.slice A_regions P.Q3.length E,.slice A_subjects P.Q4.length u,.slice A_channels P.Q8.length g,.slice A_irqs P.QL.length N,.slice A_queues P.QB.length I,.slice A_plans P.Q9.length L,.slice A_masters P.QD.length D,.slice A_starts P.QH.length J,.slice A_monitors P.QC.length q,.slice A_forbids P.QG.length C,.nilIface] 77)) ?_ ?_
 ·have bm:aE (fun i=>i==4||(rg 9 11 i)) bo bo:=aE.refl _ _
  obtain⟨T,d⟩:=bo;refine rl ?_
  iterate 4 with_reducible refine st ?_
  refine ln ⟨rfl,ag,aq,rfl⟩
 rintro cy an ⟨bb,h4,d0⟩;replace h1:=bb.Q7 h1 rfl;replace h2:=bb.Q7 h2 rfl;replace h3:=bb.Q7 h3 rfl;have hm:=bb.size.trans k1;have jf:=bb.defers.trans lm;obtain⟨pb,hf⟩:∃z,z=H.heap.size:=⟨_,rfl⟩;rw[←hf]at h4;have fp:an.heap[pb]?=some (.cells #[.int .i64 P.pos,.string P.name,.slice A_rams P.QF.length O,.slice A_devices P.Q5.length y,.slice A_regions P.Q3.length E,.slice A_subjects P.Q4.length u,.slice A_channels P.Q8.length g,.slice A_irqs P.QL.length N,.slice A_queues P.QB.length I,.slice A_plans P.Q9.length L,.slice A_masters P.QD.length D,.slice A_starts P.QH.length J,.slice A_monitors P.QC.length q,.slice A_forbids P.QG.length C,.nilIface] 77 (0,0)):=by rw[d0,hf];exact heap_alloc_new _ _
 have a8:Kz w an:=ie.out.trans (by rw[d0];exact(aD.refl _ _).alloc _) (fun _ _ h=>h);rw[←h8.out]at fp;have ex:=a8.below (B:=B) hB (fun _ _ h=>h);have g9:aG B an pb v P cV []:=⟨it.out.below ex,χ,HP.out.below ex,.nilIface,none,fp,rfl,yU⟩;have ik:=hh g9;have ih:=hh a8;have m2:=g9.lt;have g5:=hh (show w.heap.size≤pb by omega);clear d0 hf fp a8 ex g9 ie HP it h8 hn q0 q1 q2 q3 q4 q5 q6 q7 q8 q9 l5 l6 l7 l9;refine wp_seq (wp_seq (Code.wp_only (R:=fun ew bl=>aE (fun i=>(rg 12 30 i)) cy ew∧At ew 28 (.slice (some ⟨an.heap.size,0,none⟩) 8 8)∧At ew 29 (.int .i64 (8:Nat))∧At ew 30 (.int .i64 0)∧bl=an.alloc (.cells #[.func (.func 25) #[.pointer (some ⟨pb,0,none⟩)] #[],.func (.func 26) #[.pointer (some ⟨pb,0,none⟩)] #[],.func (.func 27) #[.pointer (some ⟨pb,0,none⟩)] #[],.func (.func 28) #[.pointer (some ⟨pb,0,none⟩)] #[],.func (.func 29) #[.pointer (some ⟨pb,0,none⟩)] #[],.func (.func 30) #[.pointer (some ⟨pb,0,none⟩)] #[],.func (.func 31) #[.pointer (some ⟨pb,0,none⟩)] #[],.func (.func 32) #[.pointer (some ⟨pb,0,none⟩)] #[]] 1)) ?_ ?_))
 ·have bm:aE (fun i=>(rg 12 30 i)) cy cy:=aE.refl _ _
  obtain⟨T,d⟩:=cy;refine rl ?_
  iterate 19 with_reducible refine st ?_
  refine ln ⟨rfl,?_,?_,?_,?_,rfl⟩
  ·exact ag
  ·exact aq
  ·exact At.ne At.self ψ
  ·exact aq
 rintro ew bl ⟨a3,k6,l3,l0,d1⟩;replace h1:=a3.Q7 h1 rfl;replace h2:=a3.Q7 h2 rfl;replace h3:=a3.Q7 h3 rfl;replace h4:=a3.Q7 h4 rfl;have ea:=a3.size.trans hm;have e2:=a3.defers.trans jf;obtain⟨zf,hv⟩:∃z,z=an.heap.size:=⟨_,rfl⟩;rw[←hv]at k6;have ff:bl.heap[zf]?=some (.cells #[.func (.func 25) #[.pointer (some ⟨pb,0,none⟩)] #[],.func (.func 26) #[.pointer (some ⟨pb,0,none⟩)] #[],.func (.func 27) #[.pointer (some ⟨pb,0,none⟩)] #[],.func (.func 28) #[.pointer (some ⟨pb,0,none⟩)] #[],.func (.func 29) #[.pointer (some ⟨pb,0,none⟩)] #[],.func (.func 30) #[.pointer (some ⟨pb,0,none⟩)] #[],.func (.func 31) #[.pointer (some ⟨pb,0,none⟩)] #[],.func (.func 32) #[.pointer (some ⟨pb,0,none⟩)] #[]] 1 (0,0)):=by rw[d1,hv];exact heap_alloc_new _ _
 have e8:Kz an bl:=by rw[d1];exact(aD.refl _ _).alloc _
 have la:=hh (ik.out.new e8);have f4:Hid (Kz w bl):=ih.out.trans e8 (fun _ _ h=>h);have FF:=hh ff;have lx:zf≠pb:=χ
 have ms:=hh (show zf<bl.heap.size from aH ff);clear d1 hv ff e8 ik ih;refine bh 8 (fun i=>i==2||i==3||(rg 6 8 i)||(rg 30 52 i)) (fun i=>i==2||i==3||(rg 6 8 i)||(rg 32 51 i)) (fun k _ w'=>aG B w' pb v P cV []∧(∀x∈l.take k,x.1=[])∧aD (fun k=>k=pb) bl w') χ l0 l3 ψ rfl
  ζ χ ψ (fun k a1 a2 w hA hI=>hI) ⟨la.out,ξ,aD.refl _ _⟩ ?_ ?_
 ·rintro n b wr my hA h7 ⟨hL,fm,hk⟩
  obtain⟨gr,hg⟩:∃x,l[n]?=some x:=⟨_,Ez χ⟩;have fr:=(hk.block zf (aH FF.out) lx).trans FF.out;have q0:wr.cell? ⟨zf,n,none⟩=some (fnV pb n):=by
   rw[cell_of_row _ _ _ _ _ _ fr]
   rcases(by omega:n=0∨n=1∨n=2∨n=3∨n=4∨n=5∨n=6∨n=7)with rfl|rfl|rfl|rfl|rfl|rfl|rfl|rfl<;>rfl
  have al:=hA.Q7 h4 rfl;have f1:=hA.Q7 k6 rfl;have fs:=hA.size.trans ea;have ha:=hA.defers.trans e2;have m4:=aH fr;have m1:(n:Int)<8:=χ
  have HG:=hh hg;have ix:=hh fm;have HK:=hh hk;have HL:=hh hL;clear hg fm hk fr hA hL;obtain⟨fv,hb⟩:∃f,f=fnV pb n:=⟨_,rfl⟩;rw[←hb]at q0;have k7:=hh hb;clear hb;refine so (fun gf g1=>aE (fun i=>i==6||i==32||i==33) b gf∧At gf 6 (fv)∧g1=wr) ?_ ?_
  ·have bm:aE (fun i=>i==6||i==32||i==33) b b:=aE.refl _ _
   obtain⟨T,d⟩:=b;refine rl ?_
   iterate 3 with_reducible refine st ?_
   refine ln ⟨rfl,ag,aq,rfl⟩
  rintro gf g1 ⟨a4,k5,rfl⟩;replace al:=a4.Q7 al rfl;replace f1:=a4.Q7 f1 rfl;replace h7:=a4.Q7 h7 rfl;have ds:=a4.size.trans fs;have e5:=a4.defers.trans ha;clear q0 f1 h7;rw[k7.out]at k5;refine wp_seq (ve (k8.out pb) HG.out (oV HL.out) gf ds k5 _ ?_);intro c wc gl i5 kp;have k2:=gl.size.trans ds;have lp:=gl.defers.trans e5;replace al:=gl.Q7 al rfl;have f7:=hh i5;have f5:=hh kp;clear i5 kp;refine so (fun a9 ac=>aE (fun i=>i==7) c a9∧At a9 7 (.pointer (some ⟨wc.heap.size,0,none⟩))∧ac=wc.alloc (.cells #[.pointer none] 79)) ?_ ?_
  ·have bm:aE (fun i=>i==7) c c:=aE.refl _ _
   obtain⟨T,d⟩:=c;refine rl ?_;with_reducible refine st ?_
   refine ln ⟨rfl,ag,aq,rfl⟩
  rintro a9 ac ⟨bp,ca,d2⟩;replace al:=bp.Q7 al rfl;have fy:=bp.size.trans k2;have gw:=bp.defers.trans lp;obtain⟨tb,ho⟩:∃z,z=wc.heap.size:=⟨_,rfl⟩;rw[←ho]at ca;have ft:Var ac tb 79 (.pointer none):=by unfold Var;rw[d2,ho];exact heap_alloc_new _ _
  have he:Kz wc ac:=by rw[d2];exact(aD.refl _ _).alloc _
  have gn:=f7.out.new he;have m3:tb≠pb:=by have:=f7.out.lt;omega
  have i2:=hh (show wc.heap.size≤tb by omega);clear d2 ho;obtain⟨f,o,gy,kl,ky⟩:=gn.look;have l4:ac.cell? ⟨pb,14,none⟩=some f:=by
   rw[cell_of_row _ _ _ _ _ _ gy];simp only[List.getElem?_toArray];rw[List.getElem?_append_right (by simp[aY.cells])];rfl
  have f9:=hh gn;have f6:=hh he;have id:=hh ft;have eu:=hh ky;have fi:=gn.laid;clear gy he gn ft
  cases o with
  | none =>
   obtain rfl:f=.nilIface:=kl;have gx:gr.1=[]:=eu.out.none_iff;have W:=BH (.iface 81 (.pointer (some ⟨tb,0,none⟩))) ac;have HC:=hh W;clear W;refine wp_seq (wp_seq (Code.wp_only (R:=fun g7 g2=>aE (fun i=>(rg 36 42 i)) a9 g7∧At g7 42 (.bool true)∧g2=ac) ?_ ?_))
   ·have bm:aE (fun i=>(rg 36 42 i)) a9 a9:=aE.refl _ _
    obtain⟨T,d⟩:=a9;refine rl ?_
    iterate 5 with_reducible refine st ?_
    with_reducible refine Lz (fun K hK=>?_)
    go_simp;refine HC.out.mono ?_;rintro e w2 ⟨rfl,rfl⟩;with_reducible refine hK _ _ ?_;clear hK K;refine st ?_
    refine ln ⟨rfl,ag,aq,rfl⟩
   rintro g7 g2 ⟨bc,ee,rfl⟩;replace al:=bc.Q7 al rfl;replace ca:=bc.Q7 ca rfl;have ed:=bc.size.trans fy;have e6:=bc.defers.trans gw;refine wp_cond_split (ee.eval χ) (fun hq=>?_) (fun hq=>by cases hq);refine wp_exit ?_
   repeat with_reducible apply fV
   simp only[bq,if_true];refine⟨(aE.trans (aE.trans (aE.trans (aE.trans (aE.refl (fun i=>i==2||i==3||(rg 6 8 i)||(rg 32 51 i)) _) a4 ζ) gl ζ) bp ζ) bc ζ),?_,fun x hx=>?_,(HK.out.trans f5.out (fun _ _ h=>h)).trans f6.out (fun _ _ h=>h.elim)⟩
   ·have h1:=f9.out
    rw[gx]at h1;exact oV h1
   ·rw[aP HG.out]at hx
    rcases List.mem_append.1 hx with h|h
    ·exact ix.out x h
    ·obtain rfl:x=gr:=by simpa using h
     exact gx
  | some m =>
   obtain⟨eb,rfl,mu,dk⟩:=kl;have W:=tg ⟨eb,0,none⟩ tb ac fi.err id.out;have HC:=hh W;have i1:=hh dk;have ls:eb≠tb:=by rintro rfl;have h1:=id.out;unfold Var at h1;rw[dk]at h1;cases h1
   clear W dk;refine wp_seq (wp_seq (Code.wp_only (R:=fun c3 a0=>aE (fun i=>(rg 36 42 i)) a9 c3∧At c3 42 (.bool false)∧Var a0 tb 79 (.pointer (some ⟨eb,0,none⟩))∧aD (fun k=>k=tb) ac a0) ?_ ?_))
   ·have bm:aE (fun i=>(rg 36 42 i)) a9 a9:=aE.refl _ _
    obtain⟨T,d⟩:=a9;refine rl ?_
    iterate 5 with_reducible refine st ?_
    with_reducible refine Lz (fun K hK=>?_)
    go_simp;refine HC.out.mono ?_;rintro e w2 ⟨rfl,es,a8⟩;with_reducible refine hK _ _ ?_;clear hK K;refine st ?_
    refine ln ⟨rfl,?_,?_,?_,?_⟩
    ·exact ag
    ·exact aq
    ·exact es
    ·exact a8
   rintro c3 a0 ⟨bs,ee,es,a8⟩;replace al:=bs.Q7 al rfl;replace ca:=bs.Q7 ca rfl;have ed:=bs.size.trans fy;have e6:=bs.defers.trans gw;refine wp_cond_split (ee.eval χ) (fun hq=>by cases hq) (fun hq=>?_);refine wp_skip ?_;clear hq ee;have k0:=(a8.block eb (aH i1.out) ls).trans i1.out;have kk:pQ a0:=(fi.below ((f6.out.mono fun _ _ h=>h.elim:aD (fun k=>k=tb) wc ac) |> fun _=>a8.below (B:=B) (by have:=f9.out.base;have:=f9.out.lt;omega) (fun i hi e=>by have:=f7.out.base;have:=f7.out.lt;have:=i2.out;omega))).err;have i3:=hh es;have g3:=hh a8;have g6:=hh k0;have h9:=hh kk;clear es a8 k0 kk HC l4 fi;refine so (fun c4 a6=>aE (fun i=>i==8) c3 c4∧At c4 8 (.pointer (some ⟨a0.heap.size,0,none⟩))∧a6=a0.alloc (.cells #[.int .i64 0] 36)) ?_ ?_
   ·have bm:aE (fun i=>i==8) c3 c3:=aE.refl _ _
    obtain⟨T,d⟩:=c3;refine rl ?_;with_reducible refine st ?_
    refine ln ⟨rfl,ag,aq,rfl⟩
   rintro c4 a6 ⟨bt,h6,d3⟩;replace al:=bt.Q7 al rfl;replace ca:=bt.Q7 ca rfl;have f0:=bt.size.trans ed;have go:=bt.defers.trans e6;obtain⟨te,hr⟩:∃z,z=a0.heap.size:=⟨_,rfl⟩;rw[←hr]at h6;have fe:Var a6 te 36 (.int .i64 0):=by unfold Var;rw[d3,hr];exact heap_alloc_new _ _
   have e9:Kz a0 a6:=by rw[d3];exact(aD.refl _ _).alloc _
   have hs:=i3.out.keep e9 (fun h=>h);have hj:=(e9.block eb (aH g6.out) (fun h=>h)).trans g6.out;have kw:=i3.out.lt;have lb:=hh (show a0.heap.size≤te by omega);have lw:te≠tb:=χ
   have k3:te≠eb:=by have:=aH g6.out;omega
   have mk:te≠pb:=by have h1:=f9.out.lt;have h2:=g3.out.size;omega
   have c2:a6.cell? ⟨eb,2,none⟩=some (.iface 36 (.int .i64 (gr.2 m.2))):=cr hj rfl;have jn:=(e9.cell (p:=⟨0,0,none⟩) (World.block_lt_of_cell? _ ⟨0,0,none⟩ h9.out) (fun h=>h)).trans h9.out;have W:=BI eb te (gr.2 m.2) a6 jn c2 fe;have v7:a6.cell? ⟨tb,0,none⟩=some (.pointer (some ⟨eb,0,none⟩)):=hs.cell;have HC:=hh W;have i4:=hh hs;have i0:=hh hj;have k9:=hh e9;clear d3 hr fe e9 hs hj c2 jn W kw;refine so (fun eg a7=>aE (fun i=>(rg 43 46 i)) c4 eg∧Var a7 te 36 (.int .i64 (gr.2 m.2))∧aD (fun k=>k=te) a6 a7) ?_ ?_
   ·have bm:aE (fun i=>(rg 43 46 i)) c4 c4:=aE.refl _ _
    obtain⟨T,d⟩:=c4;refine rl ?_
    iterate 3 with_reducible refine st ?_
    with_reducible refine Lz (fun K hK=>?_)
    go_simp;refine HC.out.mono ?_;rintro e w2 ⟨rfl,es,a8⟩;with_reducible refine hK _ _ ?_;clear hK K
    refine ln ⟨rfl,?_,?_,?_⟩
    ·exact ag
    ·exact es
    ·exact a8
   rintro eg a7 ⟨bd,k4,gs⟩;replace al:=bd.Q7 al rfl;replace ca:=bd.Q7 ca rfl;replace h6:=bd.Q7 h6 rfl;have er:=bd.size.trans f0;have e7:=bd.defers.trans go;have v7:a7.cell? ⟨tb,0,none⟩=some (.pointer (some ⟨eb,0,none⟩)):=(gs.cell (p:=⟨tb,0,none⟩) i4.out.lt (fun h=>lw h.symm)).trans i4.out.cell;have v8:a7.cell? ⟨te,0,none⟩=some (.int .i64 (gr.2 m.2)):=k4.cell;have c0:a7.cell? ⟨eb,0,none⟩=some (.int .i64 m.1):=cr ((gs.block eb (aH i0.out) (fun h=>k3 h.symm)).trans i0.out) rfl;have g4:Hid (Kz w a7):=hh ((((((f4.out.trans HK.out (fun i hi e=>by have:=g5.out;omega)).trans f5.out (fun i hi e=>by have:=g5.out;omega)).trans f6.out (fun _ _ h=>h)).trans g3.out (fun i hi e=>by have h1:=i2.out;have h2:=f5.out.size;have h3:=HK.out.size;have h4:=f4.out.size;omega)).trans k9.out (fun _ _ h=>h)).trans gs (fun i hi e=>by have h0:=g3.out.size;have h1:=f6.out.size;have h2:=f5.out.size;have h3:=HK.out.size;have h4:=f4.out.size;have h5:=lb.out;omega));obtain⟨xe,hu⟩:∃x:Int,x=gr.2 m.2:=⟨_,rfl⟩;rw[←hu]at v8;have ll:=hh hu;obtain⟨xa,ht⟩:∃x:Int,x=m.1:=⟨_,rfl⟩;rw[←ht]at c0;have lc:=hh ht;clear k4 gs HC hu ht;refine so (fun d4 f2=>aE (fun i=>i==2||i==3||(rg 47 51 i)) eg d4∧At d4 2 (.int .i64 xa)∧At d4 3 (.int .i64 xe)∧f2=a7.drew) ?_ ?_
   ·have bm:aE (fun i=>i==2||i==3||(rg 47 51 i)) eg eg:=aE.refl _ _
    obtain⟨T,d⟩:=eg;refine wp_region_still_lit δ δ ?_
    iterate 7 with_reducible refine sl ?_
    with_reducible refine wpStill_nil ?_
    refine⟨rfl,ag,aq,aq,rfl⟩
   rintro d4 f2 ⟨d8,hw,hy,gu⟩;have mb:=d8.size.trans er;have lq:=d8.defers.trans e7;refine wp_ret ?_
   repeat (first|with_reducible apply bY|with_reducible apply bi)
   refine bodyPost_ret (v := .tuple #[.int .i64 xa,.int .i64 xe]) (mh rfl hw hy χ χ) lq ?_;refine⟨⟨xa,xe,rfl,?_⟩,by rw[gu];exact g4.out.drew⟩;rw[lc.out,ll.out];exact ri HG.out ix.out eu.out.1 eu.out.2
 ·rintro b wr hA ⟨hL,fm,hk⟩
  have fs:=hA.size.trans ea;have ha:=hA.defers.trans e2;have g4:Hid (Kz w wr):=f4.out.trans hk (fun i hi e=>by have:=g5.out;omega);have ja:∀x∈l,x.1=[]:=fun x hx=>fm x (by rw[List.take_of_length_le χ];exact hx)
  clear hA hL fm hk;refine so (fun d7 f3=>aE (fun i=>i==2||i==3) b d7∧At d7 2 (.int .i64 0)∧At d7 3 (.int .i64 0)∧f3=wr) ?_ ?_
  ·have bm:aE (fun i=>i==2||i==3) b b:=aE.refl _ _
   obtain⟨T,d⟩:=b;refine rl ?_
   iterate 2 with_reducible refine st ?_
   refine ln ⟨rfl,ag,aq,aq,rfl⟩
  rintro d7 f3 ⟨d9,hw,hy,rfl⟩;have ds:=d9.size.trans fs;have e5:=d9.defers.trans ha;refine wp_ret ?_
  repeat (first|with_reducible apply bY|with_reducible apply bi)
  refine bodyPost_ret (v := .tuple #[.int .i64 0,.int .i64 0]) (mh rfl hw hy χ χ) e5 ?_;exact⟨⟨0,0,rfl,nj ja⟩,g4.out⟩
