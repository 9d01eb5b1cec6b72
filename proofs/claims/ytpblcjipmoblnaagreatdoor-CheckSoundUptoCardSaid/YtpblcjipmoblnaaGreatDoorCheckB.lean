import Derived.Test.YtpblcjipmoblnaaGreatDoorImage
import Derived.Test.YtpblcjipmoblnaaGreatDoorMaps
set_option maxRecDepth 100000
set_option linter.all false
set_option maxHeartbeats 4000000
namespace Go.Proofs.YtpblcjipmoblnaaGreatDoor
open Go.RowKit Go.IntWalk Ck
variable {B pb:Nat} {w:World}
theorem oC{B:Nat}{w:World}{pb:Nat}{v:aR}{P:aC}{W W':Int→Int}(h:aE B w pb v P W []):aE B w pb v P W' []:=by
 obtain⟨f,o,g,j,d⟩:=h.look
 cases o with
 | none=>exact⟨h.laid,h.base,h.QP,f,none,g,j,d⟩
 | some m=>exact absurd d.1 ξ
theorem rG{g:List Wr×(Int→Int)}{a r:Int}:∀{l:List (List Wr×(Int→Int))} {k:Nat},l[k]?=some g→(∀x∈l.take k,x.1=[])→(a,r)∈g.1→(∀x∈g.1,Le (a,r) x)→jm l a (g.2 r)
 | [],k,h,_,_,_=>by simp at h
 | x::t,0,h,_,h1,h2=>by
  obtain rfl:x=g:=Option.some.inj h;exact .inr ⟨r,h1,h2,rfl⟩
 | x::t,k+1,h,he,h1,h2 =>.inl ⟨he x ξ,rG (l:=t) (by simpa using h) (fun y d=>he y (by simp[d])) h1 h2⟩
theorem nO:∀{l:List (List Wr×(Int→Int))},(∀x∈l,x.1=[])→jm l 0 0
 | [],_=>⟨rfl,rfl⟩
 | x::t,h =>.inl ⟨h x ξ,nO fun y d=>h y (by simp[d])⟩
def rA(B pb:Nat)(v:aR)(P:aC)(l:List (List Wr×(Int→Int))):Prop:=
 l.length=8∧∀(k:Nat) (g:List Wr×(Int→Int)) (w:World),l[k]?=some g→aE B w pb v P g.2 []→Calls Tryz.prog (49+k) #[.pointer (some ⟨pb,0,none⟩)] w fun e w'=>e=.returned (.tuple #[])∧aE B w' pb v P g.2 g.1∧aD (fun k=>k=pb) w w'
theorem Ch{α:Type}{d j l p q r u v g:α}{k:Nat}(h:[d,j,l,p,q,r,u,v][k]?=some g):(k=0∧g=d)∨(k=1∧g=j)∨(k=2∧g=l)∨(k=3∧g=p)∨(k=4∧g=q)∨(k=5∧g=r)∨(k=6∧g=u)∨(k=7∧g=v):=by
 have hk:k<8:=by have:=(List.getElem?_eq_some_iff.1 h).1;simpa using this
 rcases(by omega:k=0∨k=1∨k=2∨k=3∨k=4∨k=5∨k=6∨k=7)with rfl|rfl|rfl|rfl|rfl|rfl|rfl|rfl<;>simp at h<;>subst h<;>simp
theorem yy{v:aR}{P:aC}{named:ByteArray→Bool}(d:gG B named):rA B pb v P (dF named ax P):=by
 refine⟨rfl,fun k g w hk h=>?_⟩
 rcases Ch hk with⟨rfl,rfl⟩|⟨rfl,rfl⟩|⟨rfl,rfl⟩|⟨rfl,rfl⟩|⟨rfl,rfl⟩|⟨rfl,rfl⟩|⟨rfl,rfl⟩|⟨rfl,rfl⟩
 ·exact wN d h
 ·exact uI h
 ·exact BG h
 ·exact rY h
 ·exact yZ kU h
 ·exact zw h
 ·exact wF h
 ·exact wX h
def fnV(pb k:Nat):Value := .func (.func (49+k)) #[.pointer (some ⟨pb,0,none⟩)] #[]
theorem uL{v:aR}{P:aC}{l:List (List Wr×(Int→Int))}(y:rA B pb v P l){k:Nat}{g:List Wr×(Int→Int)}(hk:l[k]?=some g)(C:aE B w pb v P g.2 [])(a:Act)(I:a.tmps.size=53)(q:At a 6 (fnV pb k))(Q:Exit→Act→World→Prop)
 (D:∀A w',aA (fun i=>i==34||i==35) a A→aE B w' pb v P g.2 g.1→aD (fun k=>k=pb) w w'→Q .normal A w'):
 (bE Tryz.f21 [1,1,0,1,0,0,1,1,0,0,1,0]).wp Tryz.prog Q a w:=by
 have H:k<8:=by have:=(List.getElem?_eq_some_iff.1 hk).1;rw[y.1]at this;exact this
 have p:=hh (y.2 k g w hk C);have u:=hh D;clear D y C hk;unfold fnV at q;have E:aA (fun i=>i==34||i==35) a a:=aA.refl _ _
 conv=>arg 2;whnf
 rcases(by omega:k=0∨k=1∨k=2∨k=3∨k=4∨k=5∨k=6∨k=7)with rfl|rfl|rfl|rfl|rfl|rfl|rfl|rfl
 ·have q:At a 6 (.func (.func 49) #[.pointer (some ⟨pb,0,none⟩)] #[]):=q
  have p:Hid (Calls Tryz.prog 49 #[.pointer (some ⟨pb,0,none⟩)] w fun e w'=>e=.returned (.tuple #[])∧aE B w' pb v P g.2 g.1∧aD (fun k=>k=pb) w w'):=p;obtain⟨T,d⟩:=a;refine rl ?_;with_reducible refine st ?_;refine Lz (fun K r=>?_)
  go_simp;refine p.out.mono ?_;rintro e x ⟨rfl,h,j⟩;with_reducible refine r _ _ (ln ?_)
  refine u.out _ _ ?_ h j;exact ag
 ·have q:At a 6 (.func (.func 50) #[.pointer (some ⟨pb,0,none⟩)] #[]):=q
  have p:Hid (Calls Tryz.prog 50 #[.pointer (some ⟨pb,0,none⟩)] w fun e w'=>e=.returned (.tuple #[])∧aE B w' pb v P g.2 g.1∧aD (fun k=>k=pb) w w'):=p;obtain⟨T,d⟩:=a;refine rl ?_;with_reducible refine st ?_;refine Lz (fun K r=>?_)
  go_simp;refine p.out.mono ?_;rintro e x ⟨rfl,h,j⟩;with_reducible refine r _ _ (ln ?_)
  refine u.out _ _ ?_ h j;exact ag
 ·have q:At a 6 (.func (.func 51) #[.pointer (some ⟨pb,0,none⟩)] #[]):=q
  have p:Hid (Calls Tryz.prog 51 #[.pointer (some ⟨pb,0,none⟩)] w fun e w'=>e=.returned (.tuple #[])∧aE B w' pb v P g.2 g.1∧aD (fun k=>k=pb) w w'):=p;obtain⟨T,d⟩:=a;refine rl ?_;with_reducible refine st ?_;refine Lz (fun K r=>?_)
  go_simp;refine p.out.mono ?_;rintro e x ⟨rfl,h,j⟩;with_reducible refine r _ _ (ln ?_)
  refine u.out _ _ ?_ h j;exact ag
 ·have q:At a 6 (.func (.func 52) #[.pointer (some ⟨pb,0,none⟩)] #[]):=q
  have p:Hid (Calls Tryz.prog 52 #[.pointer (some ⟨pb,0,none⟩)] w fun e w'=>e=.returned (.tuple #[])∧aE B w' pb v P g.2 g.1∧aD (fun k=>k=pb) w w'):=p;obtain⟨T,d⟩:=a;refine rl ?_;with_reducible refine st ?_;refine Lz (fun K r=>?_)
  go_simp;refine p.out.mono ?_;rintro e x ⟨rfl,h,j⟩;with_reducible refine r _ _ (ln ?_)
  refine u.out _ _ ?_ h j;exact ag
 ·have q:At a 6 (.func (.func 53) #[.pointer (some ⟨pb,0,none⟩)] #[]):=q
  have p:Hid (Calls Tryz.prog 53 #[.pointer (some ⟨pb,0,none⟩)] w fun e w'=>e=.returned (.tuple #[])∧aE B w' pb v P g.2 g.1∧aD (fun k=>k=pb) w w'):=p;obtain⟨T,d⟩:=a;refine rl ?_;with_reducible refine st ?_;refine Lz (fun K r=>?_)
  go_simp;refine p.out.mono ?_;rintro e x ⟨rfl,h,j⟩;with_reducible refine r _ _ (ln ?_)
  refine u.out _ _ ?_ h j;exact ag
 ·have q:At a 6 (.func (.func 54) #[.pointer (some ⟨pb,0,none⟩)] #[]):=q
  have p:Hid (Calls Tryz.prog 54 #[.pointer (some ⟨pb,0,none⟩)] w fun e w'=>e=.returned (.tuple #[])∧aE B w' pb v P g.2 g.1∧aD (fun k=>k=pb) w w'):=p;obtain⟨T,d⟩:=a;refine rl ?_;with_reducible refine st ?_;refine Lz (fun K r=>?_)
  go_simp;refine p.out.mono ?_;rintro e x ⟨rfl,h,j⟩;with_reducible refine r _ _ (ln ?_)
  refine u.out _ _ ?_ h j;exact ag
 ·have q:At a 6 (.func (.func 55) #[.pointer (some ⟨pb,0,none⟩)] #[]):=q
  have p:Hid (Calls Tryz.prog 55 #[.pointer (some ⟨pb,0,none⟩)] w fun e w'=>e=.returned (.tuple #[])∧aE B w' pb v P g.2 g.1∧aD (fun k=>k=pb) w w'):=p;obtain⟨T,d⟩:=a;refine rl ?_;with_reducible refine st ?_;refine Lz (fun K r=>?_)
  go_simp;refine p.out.mono ?_;rintro e x ⟨rfl,h,j⟩;with_reducible refine r _ _ (ln ?_)
  refine u.out _ _ ?_ h j;exact ag
 ·have q:At a 6 (.func (.func 56) #[.pointer (some ⟨pb,0,none⟩)] #[]):=q
  have p:Hid (Calls Tryz.prog 56 #[.pointer (some ⟨pb,0,none⟩)] w fun e w'=>e=.returned (.tuple #[])∧aE B w' pb v P g.2 g.1∧aD (fun k=>k=pb) w w'):=p;obtain⟨T,d⟩:=a;refine rl ?_;with_reducible refine st ?_;refine Lz (fun K r=>?_)
  go_simp;refine p.out.mono ?_;rintro e x ⟨rfl,h,j⟩;with_reducible refine r _ _ (ln ?_)
  refine u.out _ _ ?_ h j;exact ag
theorem mO{P:Program}{fn:Func}{a:Act}{s t:Nat}{u v:Value}(h:fn.results = #[.tmp s,.tmp t])(p:At a s u)(q:At a t v)(d:s<a.tmps.size)(g:t<a.tmps.size):(results fn a.tmps).run P w=.ok (.tuple #[u,v]) w:=by
 have j:a.tmps.getD s undef=u:=p.eval d;have l:a.tmps.getD t undef=v:=q.eval g;rw[results_tmp2 h,j,l]
theorem mF{v:aR}{P:aC}{named:ByteArray→Bool}(hN:gG B named)(hp:ao B w v P)(k3:jI B w)(hB:B≤w.heap.size):
 Calls Tryz.prog 21 #[.agg (v.cells P).toArray] w fun e w'=>(∃a x:Int,e=.returned (.tuple #[.int .i64 a,.int .i64 x])∧jm (dF named ax P) a x)∧Kz w w':=by
 have HP:=hh hp;have i1:=hh k3;obtain⟨l,hl⟩:∃l,l=dF named ax P:=⟨_,rfl⟩;have ha:∀pb,rA B pb v P l:=fun pb=>by rw[hl];exact yy hN
 have ls:=hh ha;rw[←hl];have m7:l.length=8:=(ha 0).1;clear hl ha k3;obtain⟨A_rams,L,be,es,e9,e6⟩:=hp.QG;obtain⟨A_devices,u,U,cc,cu,cl⟩:=hp.Q4;obtain⟨A_regions,C,X,ci,cx,cs⟩:=hp.Q5;obtain⟨A_subjects,r,Q,bz,b5,b2⟩:=hp.Q3;obtain⟨A_channels,g,N,bw,b3,b0⟩:=hp.Q8;obtain⟨A_irqs,J,bd,er,e8,e5⟩:=hp.QJ;obtain⟨A_queues,E,Z,c5,c9,c7⟩:=hp.QC;obtain⟨A_plans,I,a5,ee,eg,ef⟩:=hp.Q9;obtain⟨A_masters,A,W,cf,cw,cp⟩:=hp.QB;obtain⟨A_starts,H,ac,c6,di,c8⟩:=hp.QE;obtain⟨A_monitors,q,O,bx,b4,b1⟩:=hp.QA;obtain⟨A_forbids,y,V,cd,cv,cm⟩:=hp.QD;have e0:(v.cells P).toArray = #[.int .i64 P.pos,.string P.name,.slice A_rams P.QG.length L,.slice A_devices P.Q4.length u,.slice A_regions P.Q5.length C,.slice A_subjects P.Q3.length r,.slice A_channels P.Q8.length g,.slice A_irqs P.QJ.length J,.slice A_queues P.QC.length E,.slice A_plans P.Q9.length I,.slice A_masters P.QB.length A,.slice A_starts P.QE.length H,.slice A_monitors P.QA.length q,.slice A_forbids P.QD.length y]:=by
  rw[←be,←U,←X,←Q,←N,←bd,←Z,←a5,←W,←ac,←O,←V];rfl
 have e1:(v.cells P++[Value.nilIface]).toArray = #[.int .i64 P.pos,.string P.name,.slice A_rams P.QG.length L,.slice A_devices P.Q4.length u,.slice A_regions P.Q5.length C,.slice A_subjects P.Q3.length r,.slice A_channels P.Q8.length g,.slice A_irqs P.QJ.length J,.slice A_queues P.QC.length E,.slice A_plans P.Q9.length I,.slice A_masters P.QB.length A,.slice A_starts P.QE.length H,.slice A_monitors P.QA.length q,.slice A_forbids P.QD.length y,.nilIface]:=by
  rw[←be,←U,←X,←Q,←N,←bd,←Z,←a5,←W,←ac,←O,←V];rfl
 rw[e0];have ie:=hh e1;clear e0 e1 hp be e6 es e9 U cl cc cu X cs ci cx Q b2 bz b5 N b0 bw b3 bd e5 er e8 Z c7 c5 c9 a5 ef ee eg W cp cf cw ac c8 c6 di O b1 bx b4 V cm cd cv;refine b9 Tryz.func21 Tryz.ntmps21 rfl (by show 1≤53;decide) fun a l7 hd h=>?_
 have h0:At a 0 (.agg #[.int .i64 P.pos,.string P.name,.slice A_rams P.QG.length L,.slice A_devices P.Q4.length u,.slice A_regions P.Q5.length C,.slice A_subjects P.Q3.length r,.slice A_channels P.Q8.length g,.slice A_irqs P.QJ.length J,.slice A_queues P.QC.length E,.slice A_plans P.Q9.length I,.slice A_masters P.QB.length A,.slice A_starts P.QE.length H,.slice A_monitors P.QA.length q,.slice A_forbids P.QD.length y]):=h 0 _ rfl;clear h
 conv=>arg 2;whnf
 refine so (fun bm D=>aA (fun i=>i==1||i==2||i==3) a bm∧At bm 1 (.pointer (some ⟨w.heap.size,0,none⟩))∧At bm 2 (.int .i64 0)∧At bm 3 (.int .i64 0)∧D=w.alloc (.cells #[.int .i64 P.pos,.string P.name,.slice A_rams P.QG.length L,.slice A_devices P.Q4.length u,.slice A_regions P.Q5.length C,.slice A_subjects P.Q3.length r,.slice A_channels P.Q8.length g,.slice A_irqs P.QJ.length J,.slice A_queues P.QC.length E,.slice A_plans P.Q9.length I,.slice A_masters P.QB.length A,.slice A_starts P.QE.length H,.slice A_monitors P.QA.length q,.slice A_forbids P.QD.length y] 34)) ?_ ?_
 ·have bl:aA (fun i=>i==1||i==2||i==3) a a:=aA.refl _ _
  obtain⟨T,d⟩:=a;refine rl ?_
  iterate 3 with_reducible refine st ?_
  refine ln ⟨rfl,ag,aq,aq,aq,rfl⟩
 rintro bm D ⟨c4,h1,h2,h3,dt⟩;replace h0:=c4.Q7 h0 rfl;have k7:=c4.size.trans l7;have l3:=c4.defers.trans hd;obtain⟨z,hz⟩:∃z,z=w.heap.size:=⟨_,rfl⟩;rw[←hz]at h1;have fz:D.heap[z]?=some (.cells #[.int .i64 P.pos,.string P.name,.slice A_rams P.QG.length L,.slice A_devices P.Q4.length u,.slice A_regions P.Q5.length C,.slice A_subjects P.Q3.length r,.slice A_channels P.Q8.length g,.slice A_irqs P.QJ.length J,.slice A_queues P.QC.length E,.slice A_plans P.Q9.length I,.slice A_masters P.QB.length A,.slice A_starts P.QE.length H,.slice A_monitors P.QA.length q,.slice A_forbids P.QD.length y] 34 (0,0)):=by rw[dt,hz];exact heap_alloc_new _ _
 have hf:Kz w D:=by rw[dt];exact(aD.refl _ _).alloc _
 have it:=hh hf;have q0:D.cell? ⟨z,0,none⟩=some (.int .i64 P.pos):=cr fz rfl;have q1:D.cell? ⟨z,1,none⟩=some (.string P.name):=cr fz rfl;have q2:D.cell? ⟨z,2,none⟩=some (.slice A_rams P.QG.length L):=cr fz rfl;have q3:D.cell? ⟨z,3,none⟩=some (.slice A_devices P.Q4.length u):=cr fz rfl;have q4:D.cell? ⟨z,4,none⟩=some (.slice A_regions P.Q5.length C):=cr fz rfl;have q5:D.cell? ⟨z,5,none⟩=some (.slice A_subjects P.Q3.length r):=cr fz rfl;have q6:D.cell? ⟨z,6,none⟩=some (.slice A_channels P.Q8.length g):=cr fz rfl;have q7:D.cell? ⟨z,7,none⟩=some (.slice A_irqs P.QJ.length J):=cr fz rfl;have q8:D.cell? ⟨z,8,none⟩=some (.slice A_queues P.QC.length E):=cr fz rfl;have q9:D.cell? ⟨z,9,none⟩=some (.slice A_plans P.Q9.length I):=cr fz rfl;have mx:D.cell? ⟨z,10,none⟩=some (.slice A_masters P.QB.length A):=cr fz rfl;have my:D.cell? ⟨z,11,none⟩=some (.slice A_starts P.QE.length H):=cr fz rfl;have m1:D.cell? ⟨z,12,none⟩=some (.slice A_monitors P.QA.length q):=cr fz rfl;have m2:D.cell? ⟨z,13,none⟩=some (.slice A_forbids P.QD.length y):=cr fz rfl;have hr:=hf.size;clear dt hz fz h0 hf;refine so (fun cy af=>aA (fun i=>i==4||(rg 9 11 i)) bm cy∧At cy 4 (.pointer (some ⟨D.heap.size,0,none⟩))∧af=D.alloc (.cells #[.int .i64 P.pos,.string P.name,.slice A_rams P.QG.length L,.slice A_devices P.Q4.length u,.slice A_regions P.Q5.length C,.slice A_subjects P.Q3.length r,.slice A_channels P.Q8.length g,.slice A_irqs P.QJ.length J,.slice A_queues P.QC.length E,.slice A_plans P.Q9.length I,.slice A_masters P.QB.length A,.slice A_starts P.QE.length H,.slice A_monitors P.QA.length q,.slice A_forbids P.QD.length y,.nilIface] 113)) ?_ ?_
 ·have bl:aA (fun i=>i==4||(rg 9 11 i)) bm bm:=aA.refl _ _
  obtain⟨T,d⟩:=bm;refine rl ?_
  iterate 4 with_reducible refine st ?_
  refine ln ⟨rfl,ag,aq,rfl⟩
 rintro cy af ⟨ba,h4,d0⟩;replace h1:=ba.Q7 h1 rfl;replace h2:=ba.Q7 h2 rfl;replace h3:=ba.Q7 h3 rfl;have ho:=ba.size.trans k7;have kt:=ba.defers.trans l3;obtain⟨pb,hm⟩:∃z,z=D.heap.size:=⟨_,rfl⟩;rw[←hm]at h4;have fp:af.heap[pb]?=some (.cells #[.int .i64 P.pos,.string P.name,.slice A_rams P.QG.length L,.slice A_devices P.Q4.length u,.slice A_regions P.Q5.length C,.slice A_subjects P.Q3.length r,.slice A_channels P.Q8.length g,.slice A_irqs P.QJ.length J,.slice A_queues P.QC.length E,.slice A_plans P.Q9.length I,.slice A_masters P.QB.length A,.slice A_starts P.QE.length H,.slice A_monitors P.QA.length q,.slice A_forbids P.QD.length y,.nilIface] 113 (0,0)):=by rw[d0,hm];exact heap_alloc_new _ _
 have a8:Kz w af:=it.out.trans (by rw[d0];exact(aD.refl _ _).alloc _) (fun _ _ h=>h);rw[←ie.out]at fp;have eq:=a8.below (B:=B) hB (fun _ _ h=>h);have hb:aE B af pb v P cq []:=⟨i1.out.below eq,χ,HP.out.below eq,.nilIface,none,fp,rfl,wW⟩;have i0:=hh hb;have ix:=hh a8;have nn:=hb.lt;have gw:=hh (show w.heap.size≤pb by omega);clear d0 hm fp a8 eq hb it HP i1 ie hr q0 q1 q2 q3 q4 q5 q6 q7 q8 q9 mx my m1 m2;refine wp_seq (wp_seq (Code.wp_only (R:=fun ep bf=>aA (fun i=>(rg 12 30 i)) cy ep∧At ep 28 (.slice (some ⟨af.heap.size,0,none⟩) 8 8)∧At ep 29 (.int .i64 (8:Nat))∧At ep 30 (.int .i64 0)∧bf=af.alloc (.cells #[.func (.func 49) #[.pointer (some ⟨pb,0,none⟩)] #[],.func (.func 50) #[.pointer (some ⟨pb,0,none⟩)] #[],.func (.func 51) #[.pointer (some ⟨pb,0,none⟩)] #[],.func (.func 52) #[.pointer (some ⟨pb,0,none⟩)] #[],.func (.func 53) #[.pointer (some ⟨pb,0,none⟩)] #[],.func (.func 54) #[.pointer (some ⟨pb,0,none⟩)] #[],.func (.func 55) #[.pointer (some ⟨pb,0,none⟩)] #[],.func (.func 56) #[.pointer (some ⟨pb,0,none⟩)] #[]] 1)) ?_ ?_))
 ·have bl:aA (fun i=>(rg 12 30 i)) cy cy:=aA.refl _ _
  obtain⟨T,d⟩:=cy;refine rl ?_
  iterate 19 with_reducible refine st ?_
  refine ln ⟨rfl,?_,?_,?_,?_,rfl⟩
  ·exact ag
  ·exact aq
  ·exact At.ne At.self ψ
  ·exact aq
 rintro ep bf ⟨a3,lm,mu,ms,d1⟩;replace h1:=a3.Q7 h1 rfl;replace h2:=a3.Q7 h2 rfl;replace h3:=a3.Q7 h3 rfl;replace h4:=a3.Q7 h4 rfl;have d8:=a3.size.trans ho;have eu:=a3.defers.trans kt;obtain⟨zf,h6⟩:∃z,z=af.heap.size:=⟨_,rfl⟩;rw[←h6]at lm;have ff:bf.heap[zf]?=some (.cells #[.func (.func 49) #[.pointer (some ⟨pb,0,none⟩)] #[],.func (.func 50) #[.pointer (some ⟨pb,0,none⟩)] #[],.func (.func 51) #[.pointer (some ⟨pb,0,none⟩)] #[],.func (.func 52) #[.pointer (some ⟨pb,0,none⟩)] #[],.func (.func 53) #[.pointer (some ⟨pb,0,none⟩)] #[],.func (.func 54) #[.pointer (some ⟨pb,0,none⟩)] #[],.func (.func 55) #[.pointer (some ⟨pb,0,none⟩)] #[],.func (.func 56) #[.pointer (some ⟨pb,0,none⟩)] #[]] 1 (0,0)):=by rw[d1,h6];exact heap_alloc_new _ _
 have ez:Kz af bf:=by rw[d1];exact(aD.refl _ _).alloc _
 have lw:=hh (i0.out.new ez);have f0:Hid (Kz w bf):=ix.out.trans ez (fun _ _ h=>h);have FF:=hh ff;have mk:zf≠pb:=χ
 have m5:=hh (show zf<bf.heap.size from aG ff);clear d1 h6 ff ez i0 ix;refine bj 8 (fun i=>i==2||i==3||(rg 6 8 i)||(rg 30 52 i)) (fun i=>i==2||i==3||(rg 6 8 i)||(rg 32 51 i)) (fun k _ w'=>aE B w' pb v P cq []∧(∀x∈l.take k,x.1=[])∧aD (fun k=>k=pb) bf w') χ ms mu ψ rfl
  ζ χ ψ (fun k a1 a2 w hA hI=>hI) ⟨lw.out,ξ,aD.refl _ _⟩ ?_ ?_
 ·rintro n b wr nd hA id ⟨hL,fc,hk⟩
  obtain⟨gr,hg⟩:∃x,l[n]?=some x:=⟨_,Ez χ⟩;have fr:=(hk.block zf (aG FF.out) mk).trans FF.out;have q0:wr.cell? ⟨zf,n,none⟩=some (fnV pb n):=by
   rw[cell_of_row _ _ _ _ _ _ fr]
   rcases(by omega:n=0∨n=1∨n=2∨n=3∨n=4∨n=5∨n=6∨n=7)with rfl|rfl|rfl|rfl|rfl|rfl|rfl|rfl<;>rfl
  have ad:=hA.Q7 h4 rfl;have fm:=hA.Q7 lm rfl;have fd:=hA.size.trans d8;have hc:=hA.defers.trans eu;have nu:=aG fr;have nm:(n:Int)<8:=χ
  have HG:=hh hg;have i2:=hh fc;have HK:=hh hk;have HL:=hh hL;clear hg fc hk fr hA hL;obtain⟨fv,he⟩:∃f,f=fnV pb n:=⟨_,rfl⟩;rw[←he]at q0;have lp:=hh he;clear he;refine so (fun f5 go=>aA (fun i=>i==6||i==32||i==33) b f5∧At f5 6 (fv)∧go=wr) ?_ ?_
  ·have bl:aA (fun i=>i==6||i==32||i==33) b b:=aA.refl _ _
   obtain⟨T,d⟩:=b;refine rl ?_
   iterate 3 with_reducible refine st ?_
   refine ln ⟨rfl,ag,aq,rfl⟩
  rintro f5 go ⟨a4,lb,rfl⟩;replace ad:=a4.Q7 ad rfl;replace fm:=a4.Q7 fm rfl;replace id:=a4.Q7 id rfl;have ds:=a4.size.trans fd;have ew:=a4.defers.trans hc;clear q0 fm id;rw[lp.out]at lb;refine wp_seq (uL (ls.out pb) HG.out (oC HL.out) f5 ds lb _ ?_);intro c wc f6 kk k2;have k8:=f6.size.trans ds;have l4:=f6.defers.trans ew;replace ad:=f6.Q7 ad rfl;have f3:=hh kk;have f1:=hh k2;clear kk k2;refine so (fun a9 Y=>aA (fun i=>i==7) c a9∧At a9 7 (.pointer (some ⟨wc.heap.size,0,none⟩))∧Y=wc.alloc (.cells #[.pointer none] 115)) ?_ ?_
  ·have bl:aA (fun i=>i==7) c c:=aA.refl _ _
   obtain⟨T,d⟩:=c;refine rl ?_;with_reducible refine st ?_
   refine ln ⟨rfl,ag,aq,rfl⟩
  rintro a9 Y ⟨bo,cb,d2⟩;replace ad:=bo.Q7 ad rfl;have fk:=bo.size.trans k8;have gg:=bo.defers.trans l4;obtain⟨tb,hs⟩:∃z,z=wc.heap.size:=⟨_,rfl⟩;rw[←hs]at cb;have ft:Var Y tb 115 (.pointer none):=by unfold Var;rw[d2,hs];exact heap_alloc_new _ _
  have hj:Kz wc Y:=by rw[d2];exact(aD.refl _ _).alloc _
  have f7:=f3.out.new hj;have nq:tb≠pb:=by have:=f3.out.lt;omega
  have ja:=hh (show wc.heap.size≤tb by omega);clear d2 hs;obtain⟨f,o,gn,k1,k5⟩:=f7.look;have mv:Y.cell? ⟨pb,14,none⟩=some f:=by
   rw[cell_of_row _ _ _ _ _ _ gn];simp only[List.getElem?_toArray];rw[List.getElem?_append_right (by simp[aR.cells])];rfl
  have f4:=hh f7;have f2:=hh hj;have ik:=hh ft;have eo:=hh k5;have e7:=f7.laid;clear gn hj f7 ft
  cases o with
  | none =>
   obtain rfl:f=.nilIface:=k1;have gl:gr.1=[]:=eo.out.none_iff;have S:=zS (.iface 117 (.pointer (some ⟨tb,0,none⟩))) Y;have HC:=hh S;clear S;refine wp_seq (wp_seq (Code.wp_only (R:=fun gy gp=>aA (fun i=>(rg 36 42 i)) a9 gy∧At gy 42 (.bool true)∧gp=Y) ?_ ?_))
   ·have bl:aA (fun i=>(rg 36 42 i)) a9 a9:=aA.refl _ _
    obtain⟨T,d⟩:=a9;refine rl ?_
    iterate 5 with_reducible refine st ?_
    with_reducible refine Lz (fun K hK=>?_)
    go_simp;refine HC.out.mono ?_;rintro e w2 ⟨rfl,rfl⟩;with_reducible refine hK _ _ ?_;clear hK K;refine st ?_
    refine ln ⟨rfl,ag,aq,rfl⟩
   rintro gy gp ⟨bb,ea,rfl⟩;replace ad:=bb.Q7 ad rfl;replace cb:=bb.Q7 cb rfl;have d9:=bb.size.trans fk;have ex:=bb.defers.trans gg;refine wp_cond_split (ea.eval χ) (fun hq=>?_) (fun hq=>by cases hq);refine wp_exit ?_
   repeat with_reducible apply g9
   simp only[cC,if_true];refine⟨(aA.trans (aA.trans (aA.trans (aA.trans (aA.refl (fun i=>i==2||i==3||(rg 6 8 i)||(rg 32 51 i)) _) a4 ζ) f6 ζ) bo ζ) bb ζ),?_,fun x hx=>?_,(HK.out.trans f1.out (fun _ _ h=>h)).trans f2.out (fun _ _ h=>h.elim)⟩
   ·have h1:=f4.out
    rw[gl]at h1;exact oC h1
   ·rw[aP HG.out]at hx
    rcases List.mem_append.1 hx with h|h
    ·exact i2.out x h
    ·obtain rfl:x=gr:=by simpa using h
     exact gl
  | some m =>
   obtain⟨eb,rfl,m6,dk⟩:=k1;have S:=se ⟨eb,0,none⟩ tb Y e7.err ik.out;have HC:=hh S;have i5:=hh dk;have l6:eb≠tb:=by rintro rfl;have h1:=ik.out;unfold Var at h1;rw[dk]at h1;cases h1
   clear S dk;refine wp_seq (wp_seq (Code.wp_only (R:=fun c1 a0=>aA (fun i=>(rg 36 42 i)) a9 c1∧At c1 42 (.bool false)∧Var a0 tb 115 (.pointer (some ⟨eb,0,none⟩))∧aD (fun k=>k=tb) Y a0) ?_ ?_))
   ·have bl:aA (fun i=>(rg 36 42 i)) a9 a9:=aA.refl _ _
    obtain⟨T,d⟩:=a9;refine rl ?_
    iterate 5 with_reducible refine st ?_
    with_reducible refine Lz (fun K hK=>?_)
    go_simp;refine HC.out.mono ?_;rintro e w2 ⟨rfl,en,a8⟩;with_reducible refine hK _ _ ?_;clear hK K;refine st ?_
    refine ln ⟨rfl,?_,?_,?_,?_⟩
    ·exact ag
    ·exact aq
    ·exact en
    ·exact a8
   rintro c1 a0 ⟨bp,ea,en,a8⟩;replace ad:=bp.Q7 ad rfl;replace cb:=bp.Q7 cb rfl;have d9:=bp.size.trans fk;have ex:=bp.defers.trans gg;refine wp_cond_split (ea.eval χ) (fun hq=>by cases hq) (fun hq=>?_);refine wp_skip ?_;clear hq ea;have k6:=(a8.block eb (aG i5.out) l6).trans i5.out;have k0:oy a0:=(e7.below ((f2.out.mono fun _ _ h=>h.elim:aD (fun k=>k=tb) wc Y) |> fun _=>a8.below (B:=B) (by have:=f4.out.base;have:=f4.out.lt;omega) (fun i hi e=>by have:=f3.out.base;have:=f3.out.lt;have:=ja.out;omega))).err;have jj:=hh en;have gs:=hh a8;have gx:=hh k6;have ih:=hh k0;clear en a8 k6 k0 HC mv e7;refine so (fun c3 a6=>aA (fun i=>i==8) c1 c3∧At c3 8 (.pointer (some ⟨a0.heap.size,0,none⟩))∧a6=a0.alloc (.cells #[.int .i64 0] 72)) ?_ ?_
   ·have bl:aA (fun i=>i==8) c1 c1:=aA.refl _ _
    obtain⟨T,d⟩:=c1;refine rl ?_;with_reducible refine st ?_
    refine ln ⟨rfl,ag,aq,rfl⟩
   rintro c3 a6 ⟨bt,h9,d3⟩;replace ad:=bt.Q7 ad rfl;replace cb:=bt.Q7 cb rfl;have fl:=bt.size.trans d9;have f8:=bt.defers.trans ex;obtain⟨te,ht⟩:∃z,z=a0.heap.size:=⟨_,rfl⟩;rw[←ht]at h9;have fe:Var a6 te 72 (.int .i64 0):=by unfold Var;rw[d3,ht];exact heap_alloc_new _ _
   have e2:Kz a0 a6:=by rw[d3];exact(aD.refl _ _).alloc _
   have hu:=jj.out.keep e2 (fun h=>h);have hn:=(e2.block eb (aG gx.out) (fun h=>h)).trans gx.out;have k4:=jj.out.lt;have l0:=hh (show a0.heap.size≤te by omega);have mb:te≠tb:=χ
   have k9:te≠eb:=by have:=aG gx.out;omega
   have m4:te≠pb:=by have h1:=f4.out.lt;have h2:=gs.out.size;omega
   have c2:a6.cell? ⟨eb,2,none⟩=some (.iface 72 (.int .i64 (gr.2 m.2))):=cr hn rfl;have ky:=(e2.cell (p:=⟨0,0,none⟩) (World.block_lt_of_cell? _ ⟨0,0,none⟩ ih.out) (fun h=>h)).trans ih.out;have S:=zU eb te (gr.2 m.2) a6 ky c2 fe;have v7:a6.cell? ⟨tb,0,none⟩=some (.pointer (some ⟨eb,0,none⟩)):=hu.cell;have HC:=hh S;have jn:=hh hu;have i3:=hh hn;have lv:=hh e2;clear d3 ht fe e2 hu hn c2 ky S k4;refine so (fun ed a7=>aA (fun i=>(rg 43 46 i)) c3 ed∧Var a7 te 72 (.int .i64 (gr.2 m.2))∧aD (fun k=>k=te) a6 a7) ?_ ?_
   ·have bl:aA (fun i=>(rg 43 46 i)) c3 c3:=aA.refl _ _
    obtain⟨T,d⟩:=c3;refine rl ?_
    iterate 3 with_reducible refine st ?_
    with_reducible refine Lz (fun K hK=>?_)
    go_simp;refine HC.out.mono ?_;rintro e w2 ⟨rfl,en,a8⟩;with_reducible refine hK _ _ ?_;clear hK K
    refine ln ⟨rfl,?_,?_,?_⟩
    ·exact ag
    ·exact en
    ·exact a8
   rintro ed a7 ⟨bc,la,f9⟩;replace ad:=bc.Q7 ad rfl;replace cb:=bc.Q7 cb rfl;replace h9:=bc.Q7 h9 rfl;have em:=bc.size.trans fl;have ey:=bc.defers.trans f8;have v7:a7.cell? ⟨tb,0,none⟩=some (.pointer (some ⟨eb,0,none⟩)):=(f9.cell (p:=⟨tb,0,none⟩) jn.out.lt (fun h=>mb h.symm)).trans jn.out.cell;have v8:a7.cell? ⟨te,0,none⟩=some (.int .i64 (gr.2 m.2)):=la.cell;have c0:a7.cell? ⟨eb,0,none⟩=some (.int .i64 m.1):=cr ((f9.block eb (aG i3.out) (fun h=>k9 h.symm)).trans i3.out) rfl;have gu:Hid (Kz w a7):=hh ((((((f0.out.trans HK.out (fun i hi e=>by have:=gw.out;omega)).trans f1.out (fun i hi e=>by have:=gw.out;omega)).trans f2.out (fun _ _ h=>h)).trans gs.out (fun i hi e=>by have h1:=ja.out;have h2:=f1.out.size;have h3:=HK.out.size;have h4:=f0.out.size;omega)).trans lv.out (fun _ _ h=>h)).trans f9 (fun i hi e=>by have h0:=gs.out.size;have h1:=f2.out.size;have h2:=f1.out.size;have h3:=HK.out.size;have h4:=f0.out.size;have h5:=l0.out;omega));obtain⟨xe,hy⟩:∃x:Int,x=gr.2 m.2:=⟨_,rfl⟩;rw[←hy]at v8;have l2:=hh hy;obtain⟨xa,hw⟩:∃x:Int,x=m.1:=⟨_,rfl⟩;rw[←hw]at c0;have l1:=hh hw;clear la f9 HC hy hw;refine so (fun d4 fs=>aA (fun i=>i==2||i==3||(rg 47 51 i)) ed d4∧At d4 2 (.int .i64 xa)∧At d4 3 (.int .i64 xe)∧fs=a7.drew) ?_ ?_
   ·have bl:aA (fun i=>i==2||i==3||(rg 47 51 i)) ed ed:=aA.refl _ _
    obtain⟨T,d⟩:=ed;refine wp_region_still_lit δ δ ?_
    iterate 7 with_reducible refine sl ?_
    with_reducible refine wpStill_nil ?_
    refine⟨rfl,ag,aq,aq,rfl⟩
   rintro d4 fs ⟨d6,h7,h8,gf⟩;have m3:=d6.size.trans em;have l5:=d6.defers.trans ey;refine wp_ret ?_
   repeat (first|with_reducible apply b7|with_reducible apply bH)
   refine bodyPost_ret (v := .tuple #[.int .i64 xa,.int .i64 xe]) (mO rfl h7 h8 χ χ) l5 ?_;refine⟨⟨xa,xe,rfl,?_⟩,by rw[gf];exact gu.out.drew⟩;rw[l1.out,l2.out];exact rG HG.out i2.out eo.out.1 eo.out.2
 ·rintro b wr hA ⟨hL,fc,hk⟩
  have fd:=hA.size.trans d8;have hc:=hA.defers.trans eu;have gu:Hid (Kz w wr):=f0.out.trans hk (fun i hi e=>by have:=gw.out;omega);have kl:∀x∈l,x.1=[]:=fun x hx=>fc x (by rw[List.take_of_length_le χ];exact hx)
  clear hA hL fc hk;refine so (fun d5 fy=>aA (fun i=>i==2||i==3) b d5∧At d5 2 (.int .i64 0)∧At d5 3 (.int .i64 0)∧fy=wr) ?_ ?_
  ·have bl:aA (fun i=>i==2||i==3) b b:=aA.refl _ _
   obtain⟨T,d⟩:=b;refine rl ?_
   iterate 2 with_reducible refine st ?_
   refine ln ⟨rfl,ag,aq,aq,rfl⟩
  rintro d5 fy ⟨d7,h7,h8,rfl⟩;have ds:=d7.size.trans fd;have ew:=d7.defers.trans hc;refine wp_ret ?_
  repeat (first|with_reducible apply b7|with_reducible apply bH)
  refine bodyPost_ret (v := .tuple #[.int .i64 0,.int .i64 0]) (mO rfl h7 h8 χ χ) ew ?_;exact⟨⟨0,0,rfl,nO kl⟩,gu.out⟩
