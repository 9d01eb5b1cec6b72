import Derived.Test.YthobcefghkeddaaGreatDoorImage
import Derived.Test.YthobcefghkeddaaGreatDoorPl12
set_option maxRecDepth 100000
set_option linter.all false
set_option maxHeartbeats 4000000
namespace Go.Proofs.YthobcefghkeddaaGreatDoor
section
open Go.RowKit Go.IntWalk Ck
variable {B pb:Nat} {w:World}
theorem oy{B:Nat}{w:World}{pb:Nat}{v:aY}{P:aF}{W W':Int→Int}(h:aG B w pb v P W []):aG B w pb v P W' []:=by
 obtain⟨f,o,g,j,d⟩:=h.look
 cases o with
 | none=>exact⟨h.laid,h.base,h.QT,f,none,g,j,d⟩
 | some m=>exact absurd d.1 ξ
theorem sG{g:List Wr×(Int→Int)}{a r:Int}:∀{l:List (List Wr×(Int→Int))} {k:Nat},l[k]?=some g→(∀x∈l.take k,x.1=[])→(a,r)∈g.1→(∀x∈g.1,Le (a,r) x)→r7 l a (g.2 r)
 | [],k,h,_,_,_=>by simp at h
 | x::t,0,h,_,h1,h2=>by
  obtain rfl:x=g:=ι h;exact .inr ⟨r,h1,h2,rfl⟩
 | x::t,k+1,h,he,h1,h2 =>.inl ⟨he x ξ,sG (l:=t) (by simpa using h) (fun y d=>he y (by simp[d])) h1 h2⟩
theorem oJ:∀{l:List (List Wr×(Int→Int))},(∀x∈l,x.1=[])→r7 l 0 0
 | [],_=>⟨rfl,rfl⟩
 | x::t,h =>.inl ⟨h x ξ,oJ fun y d=>h y (by simp[d])⟩
def sA(B pb:Nat)(v:aY)(P:aF)(l:List (List Wr×(Int→Int))):Prop:=
 l.length=8∧∀(k:Nat) (g:List Wr×(Int→Int)) (w:World),l[k]?=some g→aG B w pb v P g.2 []→Calls Tryz.prog (25+k) #[.pointer (some ⟨pb,0,none⟩)] w fun e w'=>e=.returned (.tuple #[])∧aG B w' pb v P g.2 g.1∧aD (fun k=>k=pb) w w'
theorem EX{α:Type}{d j l q u v w x g:α}{k:Nat}(h:[d,j,l,q,u,v,w,x][k]?=some g):(k=0∧g=d)∨(k=1∧g=j)∨(k=2∧g=l)∨(k=3∧g=q)∨(k=4∧g=u)∨(k=5∧g=v)∨(k=6∧g=w)∨(k=7∧g=x):=by
 have hk:k<8:=by have:=(ο.1 h).1;simpa using this
 rcases(by omega:k=0∨k=1∨k=2∨k=3∨k=4∨k=5∨k=6∨k=7)with rfl|rfl|rfl|rfl|rfl|rfl|rfl|rfl<;>simp at h<;>subst h<;>simp
theorem Ai{v:aY}{P:aF}{named:ByteArray→Bool}(d:fQ B named):sA B pb v P (dV named aX P):=by
 refine⟨rfl,fun k g w hk h=>?_⟩
 rcases EX hk with⟨rfl,rfl⟩|⟨rfl,rfl⟩|⟨rfl,rfl⟩|⟨rfl,rfl⟩|⟨rfl,rfl⟩|⟨rfl,rfl⟩|⟨rfl,rfl⟩|⟨rfl,rfl⟩
 ·exact yL d h
 ·exact vh h
 ·exact CZ h
 ·exact sT h
 ·exact AM oH h
 ·exact BX h
 ·exact y8 h
 ·exact yd h
def fnV(pb k:Nat):Value := .func (.func (25+k)) #[.pointer (some ⟨pb,0,none⟩)] #[]
theorem vk{v:aY}{P:aF}{l:List (List Wr×(Int→Int))}(D:sA B pb v P l){k:Nat}{g:List Wr×(Int→Int)}(hk:l[k]?=some g)(H:aG B w pb v P g.2 [])(a:Act)(N:a.tmps.size=53)(u:At a 6 (fnV pb k))(Q:Exit→Act→World→Prop)
 (I:∀E w',aE (fun i=>i==34||i==35) a E→aG B w' pb v P g.2 g.1→aD (fun k=>k=pb) w w'→Q .normal E w'):
 (ay Tryz.f10 [1,1,0,1,0,0,1,1,0,0,1,0]).wp Tryz.prog Q a w:=by
 have L:k<8:=by have:=(ο.1 hk).1;rw[D.1]at this;exact this
 have q:=hh (D.2 k g w hk H);have y:=hh I;clear I D H hk;unfold fnV at u;have J:aE (fun i=>i==34||i==35) a a:=aE.refl _ _
 conv=>arg 2;whnf
 rcases(by omega:k=0∨k=1∨k=2∨k=3∨k=4∨k=5∨k=6∨k=7)with rfl|rfl|rfl|rfl|rfl|rfl|rfl|rfl
 ·have u:At a 6 (.func (.func 25) #[.pointer (some ⟨pb,0,none⟩)] #[]):=u
  have q:Hid (Calls Tryz.prog 25 #[.pointer (some ⟨pb,0,none⟩)] w fun e w'=>e=.returned (.tuple #[])∧aG B w' pb v P g.2 g.1∧aD (fun k=>k=pb) w w'):=q;obtain⟨T,d⟩:=a;refine rl ?_;with_reducible refine st ?_;refine Lz (fun K x=>?_)
  go_simp;refine q.out.mono ?_;rintro e C ⟨rfl,h,j⟩;with_reducible refine x _ _ (ln ?_)
  refine y.out _ _ ?_ h j;exact ag
 ·have u:At a 6 (.func (.func 26) #[.pointer (some ⟨pb,0,none⟩)] #[]):=u
  have q:Hid (Calls Tryz.prog 26 #[.pointer (some ⟨pb,0,none⟩)] w fun e w'=>e=.returned (.tuple #[])∧aG B w' pb v P g.2 g.1∧aD (fun k=>k=pb) w w'):=q;obtain⟨T,d⟩:=a;refine rl ?_;with_reducible refine st ?_;refine Lz (fun K x=>?_)
  go_simp;refine q.out.mono ?_;rintro e C ⟨rfl,h,j⟩;with_reducible refine x _ _ (ln ?_)
  refine y.out _ _ ?_ h j;exact ag
 ·have u:At a 6 (.func (.func 27) #[.pointer (some ⟨pb,0,none⟩)] #[]):=u
  have q:Hid (Calls Tryz.prog 27 #[.pointer (some ⟨pb,0,none⟩)] w fun e w'=>e=.returned (.tuple #[])∧aG B w' pb v P g.2 g.1∧aD (fun k=>k=pb) w w'):=q;obtain⟨T,d⟩:=a;refine rl ?_;with_reducible refine st ?_;refine Lz (fun K x=>?_)
  go_simp;refine q.out.mono ?_;rintro e C ⟨rfl,h,j⟩;with_reducible refine x _ _ (ln ?_)
  refine y.out _ _ ?_ h j;exact ag
 ·have u:At a 6 (.func (.func 28) #[.pointer (some ⟨pb,0,none⟩)] #[]):=u
  have q:Hid (Calls Tryz.prog 28 #[.pointer (some ⟨pb,0,none⟩)] w fun e w'=>e=.returned (.tuple #[])∧aG B w' pb v P g.2 g.1∧aD (fun k=>k=pb) w w'):=q;obtain⟨T,d⟩:=a;refine rl ?_;with_reducible refine st ?_;refine Lz (fun K x=>?_)
  go_simp;refine q.out.mono ?_;rintro e C ⟨rfl,h,j⟩;with_reducible refine x _ _ (ln ?_)
  refine y.out _ _ ?_ h j;exact ag
 ·have u:At a 6 (.func (.func 29) #[.pointer (some ⟨pb,0,none⟩)] #[]):=u
  have q:Hid (Calls Tryz.prog 29 #[.pointer (some ⟨pb,0,none⟩)] w fun e w'=>e=.returned (.tuple #[])∧aG B w' pb v P g.2 g.1∧aD (fun k=>k=pb) w w'):=q;obtain⟨T,d⟩:=a;refine rl ?_;with_reducible refine st ?_;refine Lz (fun K x=>?_)
  go_simp;refine q.out.mono ?_;rintro e C ⟨rfl,h,j⟩;with_reducible refine x _ _ (ln ?_)
  refine y.out _ _ ?_ h j;exact ag
 ·have u:At a 6 (.func (.func 30) #[.pointer (some ⟨pb,0,none⟩)] #[]):=u
  have q:Hid (Calls Tryz.prog 30 #[.pointer (some ⟨pb,0,none⟩)] w fun e w'=>e=.returned (.tuple #[])∧aG B w' pb v P g.2 g.1∧aD (fun k=>k=pb) w w'):=q;obtain⟨T,d⟩:=a;refine rl ?_;with_reducible refine st ?_;refine Lz (fun K x=>?_)
  go_simp;refine q.out.mono ?_;rintro e C ⟨rfl,h,j⟩;with_reducible refine x _ _ (ln ?_)
  refine y.out _ _ ?_ h j;exact ag
 ·have u:At a 6 (.func (.func 31) #[.pointer (some ⟨pb,0,none⟩)] #[]):=u
  have q:Hid (Calls Tryz.prog 31 #[.pointer (some ⟨pb,0,none⟩)] w fun e w'=>e=.returned (.tuple #[])∧aG B w' pb v P g.2 g.1∧aD (fun k=>k=pb) w w'):=q;obtain⟨T,d⟩:=a;refine rl ?_;with_reducible refine st ?_;refine Lz (fun K x=>?_)
  go_simp;refine q.out.mono ?_;rintro e C ⟨rfl,h,j⟩;with_reducible refine x _ _ (ln ?_)
  refine y.out _ _ ?_ h j;exact ag
 ·have u:At a 6 (.func (.func 32) #[.pointer (some ⟨pb,0,none⟩)] #[]):=u
  have q:Hid (Calls Tryz.prog 32 #[.pointer (some ⟨pb,0,none⟩)] w fun e w'=>e=.returned (.tuple #[])∧aG B w' pb v P g.2 g.1∧aD (fun k=>k=pb) w w'):=q;obtain⟨T,d⟩:=a;refine rl ?_;with_reducible refine st ?_;refine Lz (fun K x=>?_)
  go_simp;refine q.out.mono ?_;rintro e C ⟨rfl,h,j⟩;with_reducible refine x _ _ (ln ?_)
  refine y.out _ _ ?_ h j;exact ag
theorem nI{P:Program}{fn:Func}{a:Act}{s t:Nat}{u v:Value}(h:fn.results = #[.tmp s,.tmp t])(q:At a s u)(x:At a t v)(d:s<a.tmps.size)(g:t<a.tmps.size):(results fn a.tmps).run P w=.ok (.tuple #[u,v]) w:=by
 have j:a.tmps.getD s undef=u:=q.eval d;have l:a.tmps.getD t undef=v:=x.eval g;rw[results_tmp2 h,j,l]
theorem qw{v:aY}{P:aF}{named:ByteArray→Bool}(hN:fQ B named)(hp:ak B w v P)(kk:gI B w)(hB:B≤w.heap.size):
 Calls Tryz.prog 10 #[.agg (v.cells P).toArray] w fun e w'=>(∃a x:Int,e=.returned (.tuple #[.int .i64 a,.int .i64 x])∧r7 (dV named aX P) a x)∧Kz w w':=by
 have HP:=hh hp;have ie:=hh kk;obtain⟨l,hl⟩:∃l,l=dV named aX P:=⟨_,rfl⟩;have g6:∀pb,sA B pb v P l:=fun pb=>by rw[hl];exact Ai hN
 have k4:=hh g6;rw[←hl];have mb:l.length=8:=(g6 0).1;clear hl g6 kk;obtain⟨A_rams,O,bg,ey,fk,fc⟩:=hp.QE;obtain⟨A_devices,y,X,ca,cs,cf⟩:=hp.Q5;obtain⟨A_regions,E,ac,cd,cw,cp⟩:=hp.Q3;obtain⟨A_subjects,u,V,bz,b5,b2⟩:=hp.Q4;obtain⟨A_channels,g,Q,bw,b3,b0⟩:=hp.Q8;obtain⟨A_irqs,N,bf,ew,fi,e9⟩:=hp.QM;obtain⟨A_queues,I,af,c5,c9,c7⟩:=hp.QB;obtain⟨A_plans,L,a6,ee,en,eg⟩:=hp.Q9;obtain⟨A_masters,D,Z,cc,cv,cm⟩:=hp.QD;obtain⟨A_starts,J,al,c6,dc,c8⟩:=hp.QH;obtain⟨A_monitors,q,U,bx,b4,b1⟩:=hp.QC;obtain⟨A_forbids,C,Y,cb,cu,cj⟩:=hp.QF;have e0:(v.cells P).toArray = #[.int .i64 P.pos,.string P.name,.slice A_rams P.QE.length O,.slice A_devices P.Q5.length y,.slice A_regions P.Q3.length E,.slice A_subjects P.Q4.length u,.slice A_channels P.Q8.length g,.slice A_irqs P.QM.length N,.slice A_queues P.QB.length I,.slice A_plans P.Q9.length L,.slice A_masters P.QD.length D,.slice A_starts P.QH.length J,.slice A_monitors P.QC.length q,.slice A_forbids P.QF.length C]:=by
  rw[←bg,←X,←ac,←V,←Q,←bf,←af,←a6,←Z,←al,←U,←Y];rfl
 have e1:(v.cells P++[Value.nilIface]).toArray = #[.int .i64 P.pos,.string P.name,.slice A_rams P.QE.length O,.slice A_devices P.Q5.length y,.slice A_regions P.Q3.length E,.slice A_subjects P.Q4.length u,.slice A_channels P.Q8.length g,.slice A_irqs P.QM.length N,.slice A_queues P.QB.length I,.slice A_plans P.Q9.length L,.slice A_masters P.QD.length D,.slice A_starts P.QH.length J,.slice A_monitors P.QC.length q,.slice A_forbids P.QF.length C,.nilIface]:=by
  rw[←bg,←X,←ac,←V,←Q,←bf,←af,←a6,←Z,←al,←U,←Y];rfl
 rw[e0];have h6:=hh e1;clear e0 e1 hp bg fc ey fk X cf ca cs ac cp cd cw V b2 bz b5 Q b0 bw b3 bf e9 ew fi af c7 c5 c9 a6 eg ee en Z cm cc cv al c8 c6 dc U b1 bx b4 Y cj cb cu;refine bL Tryz.func10 Tryz.ntmps10 rfl (by show 1≤53;decide) fun a lm hd h=>?_
 have h0:At a 0 (.agg #[.int .i64 P.pos,.string P.name,.slice A_rams P.QE.length O,.slice A_devices P.Q5.length y,.slice A_regions P.Q3.length E,.slice A_subjects P.Q4.length u,.slice A_channels P.Q8.length g,.slice A_irqs P.QM.length N,.slice A_queues P.QB.length I,.slice A_plans P.Q9.length L,.slice A_masters P.QD.length D,.slice A_starts P.QH.length J,.slice A_monitors P.QC.length q,.slice A_forbids P.QF.length C]):=h 0 _ rfl;clear h
 conv=>arg 2;whnf
 refine so (fun bo H=>aE (fun i=>i==1||i==2||i==3) a bo∧At bo 1 (.pointer (some ⟨w.heap.size,0,none⟩))∧At bo 2 (.int .i64 0)∧At bo 3 (.int .i64 0)∧H=w.alloc (.cells #[.int .i64 P.pos,.string P.name,.slice A_rams P.QE.length O,.slice A_devices P.Q5.length y,.slice A_regions P.Q3.length E,.slice A_subjects P.Q4.length u,.slice A_channels P.Q8.length g,.slice A_irqs P.QM.length N,.slice A_queues P.QB.length I,.slice A_plans P.Q9.length L,.slice A_masters P.QD.length D,.slice A_starts P.QH.length J,.slice A_monitors P.QC.length q,.slice A_forbids P.QF.length C] 33)) ?_ ?_
 ·have bm:aE (fun i=>i==1||i==2||i==3) a a:=aE.refl _ _
  obtain⟨T,d⟩:=a;refine rl ?_
  iterate 3 with_reducible refine st ?_
  refine ln ⟨rfl,ag,aq,aq,aq,rfl⟩
 rintro bo H ⟨c4,h1,h2,h3,ds⟩;replace h0:=c4.Q7 h0 rfl;have kt:=c4.size.trans lm;have la:=c4.defers.trans hd;obtain⟨z,hz⟩:∃z,z=w.heap.size:=⟨_,rfl⟩;rw[←hz]at h1;have fz:H.heap[z]?=some (.cells #[.int .i64 P.pos,.string P.name,.slice A_rams P.QE.length O,.slice A_devices P.Q5.length y,.slice A_regions P.Q3.length E,.slice A_subjects P.Q4.length u,.slice A_channels P.Q8.length g,.slice A_irqs P.QM.length N,.slice A_queues P.QB.length I,.slice A_plans P.Q9.length L,.slice A_masters P.QD.length D,.slice A_starts P.QH.length J,.slice A_monitors P.QC.length q,.slice A_forbids P.QF.length C] 33 (0,0)):=by rw[ds,hz];exact heap_alloc_new _ _
 have ha:Kz w H:=by rw[ds];exact(aD.refl _ _).alloc _
 have h9:=hh ha;have q0:H.cell? ⟨z,0,none⟩=some (.int .i64 P.pos):=cr fz rfl;have q1:H.cell? ⟨z,1,none⟩=some (.string P.name):=cr fz rfl;have q2:H.cell? ⟨z,2,none⟩=some (.slice A_rams P.QE.length O):=cr fz rfl;have q3:H.cell? ⟨z,3,none⟩=some (.slice A_devices P.Q5.length y):=cr fz rfl;have q4:H.cell? ⟨z,4,none⟩=some (.slice A_regions P.Q3.length E):=cr fz rfl;have q5:H.cell? ⟨z,5,none⟩=some (.slice A_subjects P.Q4.length u):=cr fz rfl;have q6:H.cell? ⟨z,6,none⟩=some (.slice A_channels P.Q8.length g):=cr fz rfl;have q7:H.cell? ⟨z,7,none⟩=some (.slice A_irqs P.QM.length N):=cr fz rfl;have q8:H.cell? ⟨z,8,none⟩=some (.slice A_queues P.QB.length I):=cr fz rfl;have q9:H.cell? ⟨z,9,none⟩=some (.slice A_plans P.Q9.length L):=cr fz rfl;have lx:H.cell? ⟨z,10,none⟩=some (.slice A_masters P.QD.length D):=cr fz rfl;have l0:H.cell? ⟨z,11,none⟩=some (.slice A_starts P.QH.length J):=cr fz rfl;have l3:H.cell? ⟨z,12,none⟩=some (.slice A_monitors P.QC.length q):=cr fz rfl;have l4:H.cell? ⟨z,13,none⟩=some (.slice A_forbids P.QF.length C):=cr fz rfl;have hj:=ha.size;clear ds hz fz h0 ha;refine so (fun cx a0=>aE (fun i=>i==4||(rg 9 11 i)) bo cx∧At cx 4 (.pointer (some ⟨H.heap.size,0,none⟩))∧a0=H.alloc (.cells #[.int .i64 P.pos,.string P.name,.slice A_rams P.QE.length O,.slice A_devices P.Q5.length y,.slice A_regions P.Q3.length E,.slice A_subjects P.Q4.length u,.slice A_channels P.Q8.length g,.slice A_irqs P.QM.length N,.slice A_queues P.QB.length I,.slice A_plans P.Q9.length L,.slice A_masters P.QD.length D,.slice A_starts P.QH.length J,.slice A_monitors P.QC.length q,.slice A_forbids P.QF.length C,.nilIface] 77)) ?_ ?_
 ·have bm:aE (fun i=>i==4||(rg 9 11 i)) bo bo:=aE.refl _ _
  obtain⟨T,d⟩:=bo;refine rl ?_
  iterate 4 with_reducible refine st ?_
  refine ln ⟨rfl,ag,aq,rfl⟩
 rintro cx a0 ⟨bc,h4,dt⟩;replace h1:=bc.Q7 h1 rfl;replace h2:=bc.Q7 h2 rfl;replace h3:=bc.Q7 h3 rfl;have hf:=bc.size.trans kt;have i4:=bc.defers.trans la;obtain⟨pb,hc⟩:∃z,z=H.heap.size:=⟨_,rfl⟩;rw[←hc]at h4;have fp:a0.heap[pb]?=some (.cells #[.int .i64 P.pos,.string P.name,.slice A_rams P.QE.length O,.slice A_devices P.Q5.length y,.slice A_regions P.Q3.length E,.slice A_subjects P.Q4.length u,.slice A_channels P.Q8.length g,.slice A_irqs P.QM.length N,.slice A_queues P.QB.length I,.slice A_plans P.Q9.length L,.slice A_masters P.QD.length D,.slice A_starts P.QH.length J,.slice A_monitors P.QC.length q,.slice A_forbids P.QF.length C,.nilIface] 77 (0,0)):=by rw[dt,hc];exact heap_alloc_new _ _
 have a9:Kz w a0:=h9.out.trans (by rw[dt];exact(aD.refl _ _).alloc _) (fun _ _ h=>h);rw[←h6.out]at fp;have eu:=a9.below (B:=B) hB (fun _ _ h=>h);have g7:aG B a0 pb v P cQ []:=⟨ie.out.below eu,χ,HP.out.below eu,.nilIface,none,fp,rfl,yZ⟩;have id:=hh g7;have ia:=hh a9;have mu:=g7.lt;have g3:=hh (show w.heap.size≤pb by omega);clear dt hc fp a9 eu g7 h9 HP ie h6 hj q0 q1 q2 q3 q4 q5 q6 q7 q8 q9 lx l0 l3 l4;refine wp_seq (wp_seq (Code.wp_only (R:=fun es bl=>aE (fun i=>(rg 12 30 i)) cx es∧At es 28 (.slice (some ⟨a0.heap.size,0,none⟩) 8 8)∧At es 29 (.int .i64 (8:Nat))∧At es 30 (.int .i64 0)∧bl=a0.alloc (.cells #[.func (.func 25) #[.pointer (some ⟨pb,0,none⟩)] #[],.func (.func 26) #[.pointer (some ⟨pb,0,none⟩)] #[],.func (.func 27) #[.pointer (some ⟨pb,0,none⟩)] #[],.func (.func 28) #[.pointer (some ⟨pb,0,none⟩)] #[],.func (.func 29) #[.pointer (some ⟨pb,0,none⟩)] #[],.func (.func 30) #[.pointer (some ⟨pb,0,none⟩)] #[],.func (.func 31) #[.pointer (some ⟨pb,0,none⟩)] #[],.func (.func 32) #[.pointer (some ⟨pb,0,none⟩)] #[]] 1)) ?_ ?_))
 ·have bm:aE (fun i=>(rg 12 30 i)) cx cx:=aE.refl _ _
  obtain⟨T,d⟩:=cx;refine rl ?_
  iterate 19 with_reducible refine st ?_
  refine ln ⟨rfl,?_,?_,?_,?_,rfl⟩
  ·exact ag
  ·exact aq
  ·exact At.ne At.self ψ
  ·exact aq
 rintro es bl ⟨a4,k2,lv,ls,d0⟩;replace h1:=a4.Q7 h1 rfl;replace h2:=a4.Q7 h2 rfl;replace h3:=a4.Q7 h3 rfl;replace h4:=a4.Q7 h4 rfl;have d9:=a4.size.trans hf;have ez:=a4.defers.trans i4;obtain⟨zf,ht⟩:∃z,z=a0.heap.size:=⟨_,rfl⟩;rw[←ht]at k2;have ff:bl.heap[zf]?=some (.cells #[.func (.func 25) #[.pointer (some ⟨pb,0,none⟩)] #[],.func (.func 26) #[.pointer (some ⟨pb,0,none⟩)] #[],.func (.func 27) #[.pointer (some ⟨pb,0,none⟩)] #[],.func (.func 28) #[.pointer (some ⟨pb,0,none⟩)] #[],.func (.func 29) #[.pointer (some ⟨pb,0,none⟩)] #[],.func (.func 30) #[.pointer (some ⟨pb,0,none⟩)] #[],.func (.func 31) #[.pointer (some ⟨pb,0,none⟩)] #[],.func (.func 32) #[.pointer (some ⟨pb,0,none⟩)] #[]] 1 (0,0)):=by rw[d0,ht];exact heap_alloc_new _ _
 have e7:Kz a0 bl:=by rw[d0];exact(aD.refl _ _).alloc _
 have k6:=hh (id.out.new e7);have f3:Hid (Kz w bl):=ia.out.trans e7 (fun _ _ h=>h);have FF:=hh ff;have lq:zf≠pb:=χ
 have l7:=hh (show zf<bl.heap.size from aI ff);clear d0 ht ff e7 id ia;refine bY 8 (fun i=>i==2||i==3||(rg 6 8 i)||(rg 30 52 i)) (fun i=>i==2||i==3||(rg 6 8 i)||(rg 32 51 i)) (fun k _ w'=>aG B w' pb v P cQ []∧(∀x∈l.take k,x.1=[])∧aD (fun k=>k=pb) bl w') χ ls lv ψ rfl
  ζ χ ψ (fun k a1 a2 w hA hI=>hI) ⟨k6.out,ξ,aD.refl _ _⟩ ?_ ?_
 ·rintro n b wr mk hA hy ⟨hL,fl,hk⟩
  obtain⟨gr,hg⟩:∃x,l[n]?=some x:=⟨_,Ez χ⟩;have fr:=(hk.block zf (aI FF.out) lq).trans FF.out;have q0:wr.cell? ⟨zf,n,none⟩=some (fnV pb n):=by
   rw[cell_of_row _ _ _ _ _ _ fr]
   rcases(by omega:n=0∨n=1∨n=2∨n=3∨n=4∨n=5∨n=6∨n=7)with rfl|rfl|rfl|rfl|rfl|rfl|rfl|rfl<;>rfl
  have an:=hA.Q7 h4 rfl;have f0:=hA.Q7 k2 rfl;have fm:=hA.size.trans d9;have g8:=hA.defers.trans ez;have my:=aI fr;have ms:(n:Int)<8:=χ
  have HG:=hh hg;have ih:=hh fl;have HK:=hh hk;have HL:=hh hL;clear hg fl hk fr hA hL;obtain⟨fv,g9⟩:∃f,f=fnV pb n:=⟨_,rfl⟩;rw[←g9]at q0;have k3:=hh g9;clear g9;refine so (fun f9 gy=>aE (fun i=>i==6||i==32||i==33) b f9∧At f9 6 (fv)∧gy=wr) ?_ ?_
  ·have bm:aE (fun i=>i==6||i==32||i==33) b b:=aE.refl _ _
   obtain⟨T,d⟩:=b;refine rl ?_
   iterate 3 with_reducible refine st ?_
   refine ln ⟨rfl,ag,aq,rfl⟩
  rintro f9 gy ⟨a5,k1,rfl⟩;replace an:=a5.Q7 an rfl;replace f0:=a5.Q7 f0 rfl;replace hy:=a5.Q7 hy rfl;have dk:=a5.size.trans fm;have e2:=a5.defers.trans g8;clear q0 f0 hy;rw[k3.out]at k1;refine wp_seq (vk (k4.out pb) HG.out (oy HL.out) f9 dk k1 _ ?_);intro c wc gf i2 jn;have kw:=gf.size.trans dk;have lb:=gf.defers.trans e2;replace an:=gf.Q7 an rfl;have f6:=hh i2;have f4:=hh jn;clear i2 jn;refine so (fun bb ad=>aE (fun i=>i==7) c bb∧At bb 7 (.pointer (some ⟨wc.heap.size,0,none⟩))∧ad=wc.alloc (.cells #[.pointer none] 79)) ?_ ?_
  ·have bm:aE (fun i=>i==7) c c:=aE.refl _ _
   obtain⟨T,d⟩:=c;refine rl ?_;with_reducible refine st ?_
   refine ln ⟨rfl,ag,aq,rfl⟩
  rintro bb ad ⟨bp,b6,d1⟩;replace an:=bp.Q7 an rfl;have fs:=bp.size.trans kw;have gu:=bp.defers.trans lb;obtain⟨tb,hm⟩:∃z,z=wc.heap.size:=⟨_,rfl⟩;rw[←hm]at b6;have ft:Var ad tb 79 (.pointer none):=by unfold Var;rw[d1,hm];exact heap_alloc_new _ _
  have hb:Kz wc ad:=by rw[d1];exact(aD.refl _ _).alloc _
  have gl:=f6.out.new hb;have mx:tb≠pb:=by have:=f6.out.lt;omega
  have ix:=hh (show wc.heap.size≤tb by omega);clear d1 hm;obtain⟨f,o,gx,jf,kp⟩:=gl.look;have lw:ad.cell? ⟨pb,14,none⟩=some f:=by
   rw[cell_of_row _ _ _ _ _ _ gx];simp only[List.getElem?_toArray];rw[List.getElem?_append_right (by simp[aY.cells])];rfl
  have f7:=hh gl;have f5:=hh hb;have h8:=hh ft;have er:=hh kp;have fd:=gl.laid;clear gx hb gl ft
  cases o with
  | none =>
   obtain rfl:f=.nilIface:=jf;have gw:gr.1=[]:=er.out.none_iff;have W:=BD (.iface 81 (.pointer (some ⟨tb,0,none⟩))) ad;have HC:=hh W;clear W;refine wp_seq (wp_seq (Code.wp_only (R:=fun g5 g0=>aE (fun i=>(rg 36 42 i)) bb g5∧At g5 42 (.bool true)∧g0=ad) ?_ ?_))
   ·have bm:aE (fun i=>(rg 36 42 i)) bb bb:=aE.refl _ _
    obtain⟨T,d⟩:=bb;refine rl ?_
    iterate 5 with_reducible refine st ?_
    with_reducible refine Lz (fun K hK=>?_)
    go_simp;refine HC.out.mono ?_;rintro e w2 ⟨rfl,rfl⟩;with_reducible refine hK _ _ ?_;clear hK K;refine st ?_
    refine ln ⟨rfl,ag,aq,rfl⟩
   rintro g5 g0 ⟨bd,ec,rfl⟩;replace an:=bd.Q7 an rfl;replace b6:=bd.Q7 b6 rfl;have ea:=bd.size.trans fs;have e5:=bd.defers.trans gu;refine wp_cond_split (ec.eval χ) (fun hq=>?_) (fun hq=>by cases hq);refine wp_exit ?_
   repeat with_reducible apply fO
   simp only[bi,if_true];refine⟨(aE.trans (aE.trans (aE.trans (aE.trans (aE.refl (fun i=>i==2||i==3||(rg 6 8 i)||(rg 32 51 i)) _) a5 ζ) gf ζ) bp ζ) bd ζ),?_,fun x hx=>?_,(HK.out.trans f4.out (fun _ _ h=>h)).trans f5.out (fun _ _ h=>h.elim)⟩
   ·have h1:=f7.out
    rw[gw]at h1;exact oy h1
   ·rw[aP HG.out]at hx
    rcases Ω.1 hx with h|h
    ·exact ih.out x h
    ·obtain rfl:x=gr:=by simpa using h
     exact gw
  | some m =>
   obtain⟨eb,rfl,l9,di⟩:=jf;have W:=uI ⟨eb,0,none⟩ tb ad fd.err h8.out;have HC:=hh W;have it:=hh di;have ll:eb≠tb:=by rintro rfl;have h1:=h8.out;unfold Var at h1;rw[di]at h1;cases h1
   clear W di;refine wp_seq (wp_seq (Code.wp_only (R:=fun cy a3=>aE (fun i=>(rg 36 42 i)) bb cy∧At cy 42 (.bool false)∧Var a3 tb 79 (.pointer (some ⟨eb,0,none⟩))∧aD (fun k=>k=tb) ad a3) ?_ ?_))
   ·have bm:aE (fun i=>(rg 36 42 i)) bb bb:=aE.refl _ _
    obtain⟨T,d⟩:=bb;refine rl ?_
    iterate 5 with_reducible refine st ?_
    with_reducible refine Lz (fun K hK=>?_)
    go_simp;refine HC.out.mono ?_;rintro e w2 ⟨rfl,eq,a9⟩;with_reducible refine hK _ _ ?_;clear hK K;refine st ?_
    refine ln ⟨rfl,?_,?_,?_,?_⟩
    ·exact ag
    ·exact aq
    ·exact eq
    ·exact a9
   rintro cy a3 ⟨bs,ec,eq,a9⟩;replace an:=bs.Q7 an rfl;replace b6:=bs.Q7 b6 rfl;have ea:=bs.size.trans fs;have e5:=bs.defers.trans gu;refine wp_cond_split (ec.eval χ) (fun hq=>by cases hq) (fun hq=>?_);refine wp_skip ?_;clear hq ec;have ks:=(a9.block eb (aI it.out) ll).trans it.out;have ja:pn a3:=(fd.below ((f5.out.mono fun _ _ h=>h.elim:aD (fun k=>k=tb) wc ad) |> fun _=>a9.below (B:=B) (by have:=f7.out.base;have:=f7.out.lt;omega) (fun i hi e=>by have:=f6.out.base;have:=f6.out.lt;have:=ix.out;omega))).err;have i0:=hh eq;have g1:=hh a9;have g4:=hh ks;have h7:=hh ja;clear eq a9 ks ja HC lw fd;refine so (fun c3 a7=>aE (fun i=>i==8) cy c3∧At c3 8 (.pointer (some ⟨a3.heap.size,0,none⟩))∧a7=a3.alloc (.cells #[.int .i64 0] 36)) ?_ ?_
   ·have bm:aE (fun i=>i==8) cy cy:=aE.refl _ _
    obtain⟨T,d⟩:=cy;refine rl ?_;with_reducible refine st ?_
    refine ln ⟨rfl,ag,aq,rfl⟩
   rintro c3 a7 ⟨bt,hw,d2⟩;replace an:=bt.Q7 an rfl;replace b6:=bt.Q7 b6 rfl;have fy:=bt.size.trans ea;have gn:=bt.defers.trans e5;obtain⟨te,hn⟩:∃z,z=a3.heap.size:=⟨_,rfl⟩;rw[←hn]at hw;have fe:Var a7 te 36 (.int .i64 0):=by unfold Var;rw[d2,hn];exact heap_alloc_new _ _
   have e8:Kz a3 a7:=by rw[d2];exact(aD.refl _ _).alloc _
   have ho:=i0.out.keep e8 (fun h=>h);have he:=(e8.block eb (aI g4.out) (fun h=>h)).trans g4.out;have kl:=i0.out.lt;have k7:=hh (show a3.heap.size≤te by omega);have lp:te≠tb:=χ
   have ky:te≠eb:=by have:=aI g4.out;omega
   have l6:te≠pb:=by have h1:=f7.out.lt;have h2:=g1.out.size;omega
   have c2:a7.cell? ⟨eb,2,none⟩=some (.iface 36 (.int .i64 (gr.2 m.2))):=cr he rfl;have i5:=(e8.cell (p:=⟨0,0,none⟩) (World.block_lt_of_cell? _ ⟨0,0,none⟩ h7.out) (fun h=>h)).trans h7.out;have W:=BF eb te (gr.2 m.2) a7 i5 c2 fe;have v7:a7.cell? ⟨tb,0,none⟩=some (.pointer (some ⟨eb,0,none⟩)):=ho.cell;have HC:=hh W;have i1:=hh ho;have ik:=hh he;have k5:=hh e8;clear d2 hn fe e8 ho he c2 i5 W kl;refine so (fun ed a8=>aE (fun i=>(rg 43 46 i)) c3 ed∧Var a8 te 36 (.int .i64 (gr.2 m.2))∧aD (fun k=>k=te) a7 a8) ?_ ?_
   ·have bm:aE (fun i=>(rg 43 46 i)) c3 c3:=aE.refl _ _
    obtain⟨T,d⟩:=c3;refine rl ?_
    iterate 3 with_reducible refine st ?_
    with_reducible refine Lz (fun K hK=>?_)
    go_simp;refine HC.out.mono ?_;rintro e w2 ⟨rfl,eq,a9⟩;with_reducible refine hK _ _ ?_;clear hK K
    refine ln ⟨rfl,?_,?_,?_⟩
    ·exact ag
    ·exact eq
    ·exact a9
   rintro ed a8 ⟨be,k0,go⟩;replace an:=be.Q7 an rfl;replace b6:=be.Q7 b6 rfl;replace hw:=be.Q7 hw rfl;have eo:=be.size.trans fy;have e6:=be.defers.trans gn;have v7:a8.cell? ⟨tb,0,none⟩=some (.pointer (some ⟨eb,0,none⟩)):=(go.cell (p:=⟨tb,0,none⟩) i1.out.lt (fun h=>lp h.symm)).trans i1.out.cell;have v8:a8.cell? ⟨te,0,none⟩=some (.int .i64 (gr.2 m.2)):=k0.cell;have c0:a8.cell? ⟨eb,0,none⟩=some (.int .i64 m.1):=cr ((go.block eb (aI ik.out) (fun h=>ky h.symm)).trans ik.out) rfl;have g2:Hid (Kz w a8):=hh ((((((f3.out.trans HK.out (fun i hi e=>by have:=g3.out;omega)).trans f4.out (fun i hi e=>by have:=g3.out;omega)).trans f5.out (fun _ _ h=>h)).trans g1.out (fun i hi e=>by have h1:=ix.out;have h2:=f4.out.size;have h3:=HK.out.size;have h4:=f3.out.size;omega)).trans k5.out (fun _ _ h=>h)).trans go (fun i hi e=>by have h0:=g1.out.size;have h1:=f5.out.size;have h2:=f4.out.size;have h3:=HK.out.size;have h4:=f3.out.size;have h5:=k7.out;omega));obtain⟨xe,hs⟩:∃x:Int,x=gr.2 m.2:=⟨_,rfl⟩;rw[←hs]at v8;have k9:=hh hs;obtain⟨xa,hr⟩:∃x:Int,x=m.1:=⟨_,rfl⟩;rw[←hr]at c0;have k8:=hh hr;clear k0 go HC hs hr;refine so (fun d3 f1=>aE (fun i=>i==2||i==3||(rg 47 51 i)) ed d3∧At d3 2 (.int .i64 xa)∧At d3 3 (.int .i64 xe)∧f1=a8.drew) ?_ ?_
   ·have bm:aE (fun i=>i==2||i==3||(rg 47 51 i)) ed ed:=aE.refl _ _
    obtain⟨T,d⟩:=ed;refine wp_region_still_lit δ δ ?_
    iterate 7 with_reducible refine sl ?_
    with_reducible refine wpStill_nil ?_
    refine⟨rfl,ag,aq,aq,rfl⟩
   rintro d3 f1 ⟨d7,hu,hv,gs⟩;have l5:=d7.size.trans eo;have lc:=d7.defers.trans e6;refine wp_ret ?_
   repeat (first|with_reducible apply ba|with_reducible apply bj)
   refine bodyPost_ret (v := .tuple #[.int .i64 xa,.int .i64 xe]) (nI rfl hu hv χ χ) lc ?_;refine⟨⟨xa,xe,rfl,?_⟩,by rw[gs];exact g2.out.drew⟩;rw[k8.out,k9.out];exact sG HG.out ih.out er.out.1 er.out.2
 ·rintro b wr hA ⟨hL,fl,hk⟩
  have fm:=hA.size.trans d9;have g8:=hA.defers.trans ez;have g2:Hid (Kz w wr):=f3.out.trans hk (fun i hi e=>by have:=g3.out;omega);have i3:∀x∈l,x.1=[]:=fun x hx=>fl x (by rw[List.take_of_length_le χ];exact hx)
  clear hA hL fl hk;refine so (fun d4 f2=>aE (fun i=>i==2||i==3) b d4∧At d4 2 (.int .i64 0)∧At d4 3 (.int .i64 0)∧f2=wr) ?_ ?_
  ·have bm:aE (fun i=>i==2||i==3) b b:=aE.refl _ _
   obtain⟨T,d⟩:=b;refine rl ?_
   iterate 2 with_reducible refine st ?_
   refine ln ⟨rfl,ag,aq,aq,rfl⟩
  rintro d4 f2 ⟨d8,hu,hv,rfl⟩;have dk:=d8.size.trans fm;have e2:=d8.defers.trans g8;refine wp_ret ?_
  repeat (first|with_reducible apply ba|with_reducible apply bj)
  refine bodyPost_ret (v := .tuple #[.int .i64 0,.int .i64 0]) (nI rfl hu hv χ χ) e2 ?_;exact⟨⟨0,0,rfl,oJ i3⟩,g2.out⟩
end
namespace Rs
open Go.RowKit Ck
def hdS(g t:SlE)(Q7 size al:Nat):Sta where
 i j:=match j with|0=>Q7|1=>size|2=>al|_=>(Q7+size:Nat)
 a j:=match j with|8=>g.A|_=>t.A
 n j:=match j with|8=>g.n|9=>g.c|10=>t.n|_=>t.c
def hdX:SV := .ag [.i .u64 (.x 0),.i .u64 (.bin .sub .u64 (.x 4) (.c 1))]
def GA:List (FuncId×List SV×SV):=[(60,[.one (.i .u64 (.x 0)),.one (.i .u64 (.x 1))],.tu [.i .u64 (.x 4),.b (.c true)]),(61,[.ag [.sl 8 8 9],hdX],.one (.b (.c true))),(62,[.ag [.sl 10 10 11],hdX],.one (.b (.c false)))]
def hdA(al:Nat):Fr:=[(0,.one (.i .u64 (.x 0))),(1,.one (.i .u64 (.x 1))),(2,.one (.i .u64 (.c al))),(3,.one (.b (.c true))),(4,.one (.p 0 0)),(5,.one (.p 1 0))]
theorem av.box{w:World}{b:Nat}{A:Option Addr}{n c:Nat}{u:Value}{l:List Sp}(h:av w u l)(D:Row w b [.slice A n c]):aJ w b u l:=by
 refine aJ.other h.Q7 fun d g K I y e=>?_
 obtain⟨A',c2,B,_,_,C⟩:=h;obtain⟨J,e3,_,e4⟩:=C d;rw[B,e3]at y
 cases y
 obtain⟨x,E⟩:=ge d;obtain⟨_,H,_⟩:=e4 0 x E;have q:=H 0 _ rfl;have v:=D.cell (j:=0) rfl;rw[←e]at v;rw[v]at q
 cases q
theorem tM{w I:World}{J d:Nat}{φg B:Nat→Prop}{j et:SlE}(hg:cP I J φg j w)(ht:cP I d B et w)(h0:I.heap.size≤w.heap.size){Q7 size al:Nat}(O:Q7%al=0)(hp:Q7%4096=0)(hs:size%4096=0)(ac:0<size)(hl:Q7+size≤4294967296)(C:al=4096∨al=2097152)
 (E:∀q,Q7≤q→q<Q7+size→φg q∧¬ B q):
 Calls Tryz.prog 59 #[.int .u64 Q7,.int .u64 size,.int .u64 al,.bool true,.pointer (some ⟨J,0,none⟩),.pointer (some ⟨d,0,none⟩)] w fun N w'=>N=.returned (.int .i64 0)∧aD (fun g=>g=d) w w'∧∃e',cP I d (fun q=>B q∨(Q7≤q∧q<Q7+size)) e' w'∧∀g o,e'.A=some ⟨g,o,none⟩→0<e'.n→w.heap.size≤g:=by
 obtain⟨R,hR⟩:∃R:Ending→World→Prop,R=fun N w'=>N=.returned (.int .i64 0)∧aD (fun g=>g=d) w w'∧∃e',cP I d (fun q=>B q∨(Q7≤q∧q<Q7+size)) e' w'∧∀g o,e'.A=some ⟨g,o,none⟩→0<e'.n→w.heap.size≤g:=⟨_,rfl⟩
 rw[←hR];obtain⟨W,l,r2,r3,r4,r5,r6⟩:=id hg;obtain⟨t1,l',t2,t3,t4,t5,t6⟩:=id ht;refine fnE (hdS j et Q7 size al) (fun r=>match r with|0=>(J,0)|_=>(d,0)) [.one (.i .u64 (.x 0)),.one (.i .u64 (.x 1)),.one (.i .u64 (.c al)),.one (.b (.c true)),.one (.p 0 0),.one (.p 1 0)] Tryz.func59 Tryz.ntmps59 rfl rfl (show 6≤53 by decide) H0 (fun _ h=>h.elim) trivial fun a hd hh=>?_
 have n0:Now (hdS j et Q7 size al) (fun r=>match r with|0=>(J,0)|_=>(d,0)) 53 Tryz.prog {} H0 ⟨hdA al,[],2,[]⟩ a w:=⟨hh.has,hh.mem,hh.ctx,hh.tb,hh.gh⟩;have L:∀κ,SV.den (hdS j et Q7 size al) κ hdX=.agg #[.int .u64 Q7,.int .u64 ((Q7+size-1:Nat):Int)]:=fun κ=>by
  show Value.agg #[.int .u64 (Q7:Int),.int .u64 (IntKind.u64.wrap (((Q7+size:Nat):Int)-1))]=_;rw[bR χ,show(((Q7+size:Nat):Int)-1)=((Q7+size-1:Nat):Int) by omega]
 have n1:=(((n0.row 0 [.sl 8 8 9] rfl W).row 1 [.sl 10 10 11] rfl t1).more [(.cmp .neq (.bin .rem .u64 (.x 0) (.c al)) (.c 0),false),(.cmp .gtr (.x 4) (.c 4294967296),false)] GA [] (vc (by
  show((Q7:Int).tmod al !=0)=false;rw[Int.tmod_eq_emod_of_nonneg χ];have:((Q7:Int)%al)=((Q7%al:Nat):Int):=χ
  rw[this,O];rfl) (by
  show decide (((Q7+size:Nat):Int)>4294967296)=false;exact decide_eq_false χ)) (fun y H w' u=>by
  rcases Ξ.1 H with rfl|H
  ·have:=dQ Q7 size (by unfold lim;omega) (by unfold lim;omega) w'
   rw[if_pos (by unfold lim;omega),decide_eq_true (by unfold lim;omega)]at this;exact this
  rcases Ξ.1 H with rfl|H
  ·have:=ku (av.box (r3.keep u) (W.keep u fun h=>h)) r5.ok Q7 (Q7+size-1) (by unfold lim;omega) (by unfold lim;omega) (W.keep u fun h=>h).lt
   rw[fE.2 fun q V q2=>(r6 q).2 (E q V χ).1]at this;show Calls Tryz.prog 61 #[.agg #[.slice j.A j.n j.c],SV.den (hdS j et Q7 size al) _ hdX] w' _;rw[L];exact this
  obtain rfl:=ρ.1 H;have:=nD (t3.keep u) t5.ok (x:=(Q7,Q7+size-1)) (by show Q7<lim;unfold lim;omega);show Calls Tryz.prog 62 #[.agg #[.slice et.A et.n et.c],SV.den (hdS j et Q7 size al) _ hdX] w' _;rw[L];refine this.mono fun e X ⟨⟨bb,V,q2⟩,q3⟩=>⟨?_,q3⟩
  have:bb=false:=by
   cases bb with
   | false=>rfl
   | true =>
    obtain⟨q,Y,K,Z⟩:=q2.1 rfl;have K:q≤Q7+size-1:=K;exact absurd ((t6 q).1 Z) (E q Y χ).2
  rw[V,this];rfl) (fun i x hx=>by cases hx))
 refine az 4 τ ((13,.one (.p 2 0))::hdA al) [(0,[.sl 8 8 9]),(1,[.sl 10 10 11]),(2,[.i .u64 (.x 0),.i .u64 (.bin .sub .u64 (.x 4) (.c 1))])] 3 [] hPp (by rcases C with rfl|rfl<;>kernel_rfl) n1 fun κ2 a2 w2 n2 v=>?_
 have Q:κ2 1=(d,0):=v.upto 1 (show 1<2 by decide);refine Cn 2 63 1 (.ag [.sl 10 10 11]) hdX [] (fun q=>B q∨(Q7≤q∧q<Q7+size)) w d δ n2 (fun _ h=>h) Q ⟨_,t1.keep v.keep fun h=>h⟩ v.keep.size (fun w' u=>?_) fun a3 w3 f3 g3 k3 d3=>?_
 ·rw[L]
  refine(l8 (x:=(Q7,Q7+size-1)) (t3.keep (v.keep.trans u fun _ _ h=>h)) t5 ⟨by show Q7<lim;unfold lim;omega,by show Q7+size-1<lim;unfold lim;omega,fun _=>⟨hp,by show(Q7+size-1+1)%4096=0;omega,by show Q7+size-1<4294967296;omega⟩⟩).mono fun e2 X ⟨u2,l2,Y,K,Z,z4,z5,z6⟩=>⟨u2,l2,Y,K,Z,z4,fun q=>(z5 q).trans ?_,z6⟩
  show aW l' q∨(Q7≤q∧q≤Q7+size-1)↔B q∨(Q7≤q∧q<Q7+size);rw[←t6];constructor
  ·rintro(h|h)
   ·exact .inl h
   ·exact .inr χ
  ·rintro(h|h)
   ·exact .inl h
   ·exact .inr χ
 ·refine dZ 2 τ [(10,.one (.i .i64 (.c 0)))] [] 3 [] hPp δ (f3.now (P:=Tryz.prog) 3 w3) fun κ4 a4 w4 n4 U=>?_
  refine fX 10 rfl n4.has rfl (U.agree.defers.trans (d3.trans (v.agree.defers.trans hd))) ?_;rw[hR];obtain⟨e',D⟩:=g3.e;exact⟨rfl,((v.keep.mono fun _ _ h=>h.elim).trans k3 fun _ _ h=>h).trans (U.keep.mono fun _ _ h=>h.elim) fun _ _ h=>h,e',(D.keep U.keep).mono h0,D.fresh⟩
