import Derived.Test.YthobcefghkeddaaGreatDoorImage
import Derived.Test.YthobcefghkeddaaGreatDoorPl12
set_option maxRecDepth 100000
set_option linter.all false
set_option maxHeartbeats 4000000
namespace Go.Proofs.YthobcefghkeddaaGreatDoor
section
open Go.RowKit Go.IntWalk Ck
variable {B pb:Nat} {w:World}
theorem oe{B:Nat}{w:World}{pb:Nat}{v:ae}{P:aF}{W W':Int→Int}(h:aG B w pb v P W []):aG B w pb v P W' []:=by
 obtain⟨f,o,g,j,d⟩:=h.look
 cases o with
 | none=>exact⟨h.laid,h.base,h.QU,f,none,g,j,d⟩
 | some m=>exact absurd d.1 ξ
theorem ry{g:List Wr×(Int→Int)}{a r:Int}:∀{l:List (List Wr×(Int→Int))} {k:Nat},l[k]?=some g→(∀x∈l.take k,x.1=[])→(a,r)∈g.1→(∀x∈g.1,Le (a,r) x)→qr l a (g.2 r)
 | [],k,h,_,_,_=>by simp at h
 | x::t,0,h,_,h1,h2=>by
  obtain rfl:x=g:=ι h;exact .inr ⟨r,h1,h2,rfl⟩
 | x::t,k+1,h,he,h1,h2 =>.inl ⟨he x ξ,ry (l:=t) (by simpa using h) (fun y d=>he y (by simp[d])) h1 h2⟩
theorem nt:∀{l:List (List Wr×(Int→Int))},(∀x∈l,x.1=[])→qr l 0 0
 | [],_=>⟨rfl,rfl⟩
 | x::t,h =>.inl ⟨h x ξ,nt fun y d=>h y (by simp[d])⟩
def ro(B pb:Nat)(v:ae)(P:aF)(l:List (List Wr×(Int→Int))):Prop:=
 l.length=8∧∀(k:Nat) (g:List Wr×(Int→Int)) (w:World),l[k]?=some g→aG B w pb v P g.2 []→Calls Tryz.prog (25+k) #[.pointer (some ⟨pb,0,none⟩)] w fun e w'=>e=.returned (.tuple #[])∧aG B w' pb v P g.2 g.1∧aD (fun k=>k=pb) w w'
theorem EZ{α:Type}{d j l q u v w x g:α}{k:Nat}(h:[d,j,l,q,u,v,w,x][k]?=some g):(k=0∧g=d)∨(k=1∧g=j)∨(k=2∧g=l)∨(k=3∧g=q)∨(k=4∧g=u)∨(k=5∧g=v)∨(k=6∧g=w)∨(k=7∧g=x):=by
 have hk:k<8:=by have:=(ο.1 h).1;simpa using this
 rcases(by omega:k=0∨k=1∨k=2∨k=3∨k=4∨k=5∨k=6∨k=7)with rfl|rfl|rfl|rfl|rfl|rfl|rfl|rfl<;>simp at h<;>subst h<;>simp
theorem Ag{v:ae}{P:aF}{named:ByteArray→Bool}(d:fU B named):ro B pb v P (dX named aa P):=by
 refine⟨rfl,fun k g w hk h=>?_⟩
 rcases EZ hk with⟨rfl,rfl⟩|⟨rfl,rfl⟩|⟨rfl,rfl⟩|⟨rfl,rfl⟩|⟨rfl,rfl⟩|⟨rfl,rfl⟩|⟨rfl,rfl⟩|⟨rfl,rfl⟩
 ·exact yE d h
 ·exact vc h
 ·exact Cc h
 ·exact sM h
 ·exact AL ns h
 ·exact BW h
 ·exact xp h
 ·exact yR h
def fnV(pb k:Nat):Value := .func (.func (25+k)) #[.pointer (some ⟨pb,0,none⟩)] #[]
theorem vg{v:ae}{P:aF}{l:List (List Wr×(Int→Int))}(D:ro B pb v P l){k:Nat}{g:List Wr×(Int→Int)}(hk:l[k]?=some g)(H:aG B w pb v P g.2 [])(a:Act)(N:a.tmps.size=53)(u:At a 6 (fnV pb k))(Q:Exit→Act→World→Prop)
 (I:∀E w',aE (fun i=>i==34||i==35) a E→aG B w' pb v P g.2 g.1→aD (fun k=>k=pb) w w'→Q .normal E w'):
 (ax Tryz.f10 [1,1,0,1,0,0,1,1,0,0,1,0]).wp Tryz.prog Q a w:=by
 have L:k<8:=by have:=(ο.1 hk).1;rw[D.1]at this;exact this
 have q:=hh (D.2 k g w hk H);have y:=hh I;clear I D H hk;unfold fnV at u;have J:aE (fun i=>i==34||i==35) a a:=aE.refl _ _
 conv=>arg 2;whnf
 rcases(by omega:k=0∨k=1∨k=2∨k=3∨k=4∨k=5∨k=6∨k=7)with rfl|rfl|rfl|rfl|rfl|rfl|rfl|rfl
 ·have u:At a 6 (.func (.func 25) #[.pointer (some ⟨pb,0,none⟩)] #[]):=u
  have q:Hid (Calls Tryz.prog 25 #[.pointer (some ⟨pb,0,none⟩)] w fun e w'=>e=.returned (.tuple #[])∧aG B w' pb v P g.2 g.1∧aD (fun k=>k=pb) w w'):=q;obtain⟨T,d⟩:=a;refine rl ?_;with_reducible refine st ?_;refine Lz (fun K x=>?_)
  go_simp;refine q.out.mono ?_;rintro e C ⟨rfl,h,j⟩;with_reducible refine x _ _ (ln ?_)
  refine y.out _ _ ?_ h j;exact ag
 ·have u:At a 6 (.func (.func 26) #[.pointer (some ⟨pb,0,none⟩)] #[]):=u
  have q:Hid (Calls Tryz.prog 26 #[.pointer (some ⟨pb,0,none⟩)] w fun e w'=>e=.returned (.tuple #[])∧aG B w' pb v P g.2 g.1∧aD (fun k=>k=pb) w w'):=q;obtain⟨T,d⟩:=a;refine rl ?_;with_reducible refine st ?_;refine Lz (fun K x=>?_)
  go_simp;refine q.out.mono ?_;rintro e C ⟨rfl,h,j⟩;with_reducible refine x _ _ (ln ?_)
  refine y.out _ _ ?_ h j;exact ag
 ·have u:At a 6 (.func (.func 27) #[.pointer (some ⟨pb,0,none⟩)] #[]):=u
  have q:Hid (Calls Tryz.prog 27 #[.pointer (some ⟨pb,0,none⟩)] w fun e w'=>e=.returned (.tuple #[])∧aG B w' pb v P g.2 g.1∧aD (fun k=>k=pb) w w'):=q;obtain⟨T,d⟩:=a;refine rl ?_;with_reducible refine st ?_;refine Lz (fun K x=>?_)
  go_simp;refine q.out.mono ?_;rintro e C ⟨rfl,h,j⟩;with_reducible refine x _ _ (ln ?_)
  refine y.out _ _ ?_ h j;exact ag
 ·have u:At a 6 (.func (.func 28) #[.pointer (some ⟨pb,0,none⟩)] #[]):=u
  have q:Hid (Calls Tryz.prog 28 #[.pointer (some ⟨pb,0,none⟩)] w fun e w'=>e=.returned (.tuple #[])∧aG B w' pb v P g.2 g.1∧aD (fun k=>k=pb) w w'):=q;obtain⟨T,d⟩:=a;refine rl ?_;with_reducible refine st ?_;refine Lz (fun K x=>?_)
  go_simp;refine q.out.mono ?_;rintro e C ⟨rfl,h,j⟩;with_reducible refine x _ _ (ln ?_)
  refine y.out _ _ ?_ h j;exact ag
 ·have u:At a 6 (.func (.func 29) #[.pointer (some ⟨pb,0,none⟩)] #[]):=u
  have q:Hid (Calls Tryz.prog 29 #[.pointer (some ⟨pb,0,none⟩)] w fun e w'=>e=.returned (.tuple #[])∧aG B w' pb v P g.2 g.1∧aD (fun k=>k=pb) w w'):=q;obtain⟨T,d⟩:=a;refine rl ?_;with_reducible refine st ?_;refine Lz (fun K x=>?_)
  go_simp;refine q.out.mono ?_;rintro e C ⟨rfl,h,j⟩;with_reducible refine x _ _ (ln ?_)
  refine y.out _ _ ?_ h j;exact ag
 ·have u:At a 6 (.func (.func 30) #[.pointer (some ⟨pb,0,none⟩)] #[]):=u
  have q:Hid (Calls Tryz.prog 30 #[.pointer (some ⟨pb,0,none⟩)] w fun e w'=>e=.returned (.tuple #[])∧aG B w' pb v P g.2 g.1∧aD (fun k=>k=pb) w w'):=q;obtain⟨T,d⟩:=a;refine rl ?_;with_reducible refine st ?_;refine Lz (fun K x=>?_)
  go_simp;refine q.out.mono ?_;rintro e C ⟨rfl,h,j⟩;with_reducible refine x _ _ (ln ?_)
  refine y.out _ _ ?_ h j;exact ag
 ·have u:At a 6 (.func (.func 31) #[.pointer (some ⟨pb,0,none⟩)] #[]):=u
  have q:Hid (Calls Tryz.prog 31 #[.pointer (some ⟨pb,0,none⟩)] w fun e w'=>e=.returned (.tuple #[])∧aG B w' pb v P g.2 g.1∧aD (fun k=>k=pb) w w'):=q;obtain⟨T,d⟩:=a;refine rl ?_;with_reducible refine st ?_;refine Lz (fun K x=>?_)
  go_simp;refine q.out.mono ?_;rintro e C ⟨rfl,h,j⟩;with_reducible refine x _ _ (ln ?_)
  refine y.out _ _ ?_ h j;exact ag
 ·have u:At a 6 (.func (.func 32) #[.pointer (some ⟨pb,0,none⟩)] #[]):=u
  have q:Hid (Calls Tryz.prog 32 #[.pointer (some ⟨pb,0,none⟩)] w fun e w'=>e=.returned (.tuple #[])∧aG B w' pb v P g.2 g.1∧aD (fun k=>k=pb) w w'):=q;obtain⟨T,d⟩:=a;refine rl ?_;with_reducible refine st ?_;refine Lz (fun K x=>?_)
  go_simp;refine q.out.mono ?_;rintro e C ⟨rfl,h,j⟩;with_reducible refine x _ _ (ln ?_)
  refine y.out _ _ ?_ h j;exact ag
theorem mo{P:Program}{fn:Func}{a:Act}{s t:Nat}{u v:Value}(h:fn.results = #[.tmp s,.tmp t])(q:At a s u)(x:At a t v)(d:s<a.tmps.size)(g:t<a.tmps.size):(results fn a.tmps).run P w=.ok (.tuple #[u,v]) w:=by
 have j:a.tmps.getD s undef=u:=q.eval d;have l:a.tmps.getD t undef=v:=x.eval g;rw[results_tmp2 h,j,l]
theorem yk{v:ae}{P:aF}{named:ByteArray→Bool}(hN:fU B named)(hp:bD B w v P)(ja:iH B w)(hB:B≤w.heap.size):
 Calls Tryz.prog 10 #[.agg (v.cells P).toArray] w fun e w'=>(∃a x:Int,e=.returned (.tuple #[.int .i64 a,.int .i64 x])∧qr (dX named aa P) a x)∧Kz w w':=by
 have HP:=hh hp;have h9:=hh ja;obtain⟨l,hl⟩:∃l,l=dX named aa P:=⟨_,rfl⟩;have g3:∀pb,ro B pb v P l:=fun pb=>by rw[hl];exact Ag hN
 have k1:=hh g3;rw[←hl];have l6:l.length=8:=(g3 0).1;clear hl g3 ja;obtain⟨A_rams,O,bg,eu,fd,e8⟩:=hp.QD;obtain⟨A_devices,y,X,ca,cs,cf⟩:=hp.Q5;obtain⟨A_regions,E,ac,cd,cw,cp⟩:=hp.Q3;obtain⟨A_subjects,u,V,bz,b5,b2⟩:=hp.Q4;obtain⟨A_channels,g,Q,bw,b3,b0⟩:=hp.Q8;obtain⟨A_irqs,N,bf,es,fc,e7⟩:=hp.QM;obtain⟨A_queues,I,af,c5,c9,c7⟩:=hp.QB;obtain⟨A_plans,L,a6,ee,ei,eg⟩:=hp.Q9;obtain⟨A_masters,D,Z,cc,cv,cm⟩:=hp.QC;obtain⟨A_starts,J,al,c6,dc,c8⟩:=hp.QI;obtain⟨A_monitors,q,U,bx,b4,b1⟩:=hp.QE;obtain⟨A_forbids,C,Y,cb,cu,cj⟩:=hp.QG;have e0:(v.cells P).toArray = #[.int .i64 P.pos,.string P.name,.slice A_rams P.QD.length O,.slice A_devices P.Q5.length y,.slice A_regions P.Q3.length E,.slice A_subjects P.Q4.length u,.slice A_channels P.Q8.length g,.slice A_irqs P.QM.length N,.slice A_queues P.QB.length I,.slice A_plans P.Q9.length L,.slice A_masters P.QC.length D,.slice A_starts P.QI.length J,.slice A_monitors P.QE.length q,.slice A_forbids P.QG.length C]:=by
  rw[←bg,←X,←ac,←V,←Q,←bf,←af,←a6,←Z,←al,←U,←Y];rfl
 have e1:(v.cells P++[Value.nilIface]).toArray = #[.int .i64 P.pos,.string P.name,.slice A_rams P.QD.length O,.slice A_devices P.Q5.length y,.slice A_regions P.Q3.length E,.slice A_subjects P.Q4.length u,.slice A_channels P.Q8.length g,.slice A_irqs P.QM.length N,.slice A_queues P.QB.length I,.slice A_plans P.Q9.length L,.slice A_masters P.QC.length D,.slice A_starts P.QI.length J,.slice A_monitors P.QE.length q,.slice A_forbids P.QG.length C,.nilIface]:=by
  rw[←bg,←X,←ac,←V,←Q,←bf,←af,←a6,←Z,←al,←U,←Y];rfl
 rw[e0];have hv:=hh e1;clear e0 e1 hp bg e8 eu fd X cf ca cs ac cp cd cw V b2 bz b5 Q b0 bw b3 bf e7 es fc af c7 c5 c9 a6 eg ee ei Z cm cc cv al c8 c6 dc U b1 bx b4 Y cj cb cu;refine bL Tryz.func10 Tryz.ntmps10 rfl (by show 1≤53;decide) fun a lb hd h=>?_
 have h0:At a 0 (.agg #[.int .i64 P.pos,.string P.name,.slice A_rams P.QD.length O,.slice A_devices P.Q5.length y,.slice A_regions P.Q3.length E,.slice A_subjects P.Q4.length u,.slice A_channels P.Q8.length g,.slice A_irqs P.QM.length N,.slice A_queues P.QB.length I,.slice A_plans P.Q9.length L,.slice A_masters P.QC.length D,.slice A_starts P.QI.length J,.slice A_monitors P.QE.length q,.slice A_forbids P.QG.length C]):=h 0 _ rfl;clear h
 conv=>arg 2;whnf
 refine so (fun bo H=>aE (fun i=>i==1||i==2||i==3) a bo∧At bo 1 (.pointer (some ⟨w.heap.size,0,none⟩))∧At bo 2 (.int .i64 0)∧At bo 3 (.int .i64 0)∧H=w.alloc (.cells #[.int .i64 P.pos,.string P.name,.slice A_rams P.QD.length O,.slice A_devices P.Q5.length y,.slice A_regions P.Q3.length E,.slice A_subjects P.Q4.length u,.slice A_channels P.Q8.length g,.slice A_irqs P.QM.length N,.slice A_queues P.QB.length I,.slice A_plans P.Q9.length L,.slice A_masters P.QC.length D,.slice A_starts P.QI.length J,.slice A_monitors P.QE.length q,.slice A_forbids P.QG.length C] 33)) ?_ ?_
 ·have bm:aE (fun i=>i==1||i==2||i==3) a a:=aE.refl _ _
  obtain⟨T,d⟩:=a;refine rl ?_
  iterate 3 with_reducible refine st ?_
  refine ln ⟨rfl,ag,aq,aq,aq,rfl⟩
 rintro bo H ⟨c4,h1,h2,h3,ds⟩;replace h0:=c4.Q7 h0 rfl;have kl:=c4.size.trans lb;have k7:=c4.defers.trans hd;obtain⟨z,hz⟩:∃z,z=w.heap.size:=⟨_,rfl⟩;rw[←hz]at h1;have fz:H.heap[z]?=some (.cells #[.int .i64 P.pos,.string P.name,.slice A_rams P.QD.length O,.slice A_devices P.Q5.length y,.slice A_regions P.Q3.length E,.slice A_subjects P.Q4.length u,.slice A_channels P.Q8.length g,.slice A_irqs P.QM.length N,.slice A_queues P.QB.length I,.slice A_plans P.Q9.length L,.slice A_masters P.QC.length D,.slice A_starts P.QI.length J,.slice A_monitors P.QE.length q,.slice A_forbids P.QG.length C] 33 (0,0)):=by rw[ds,hz];exact heap_alloc_new _ _
 have g7:Kz w H:=by rw[ds];exact(aD.refl _ _).alloc _
 have h6:=hh g7;have q0:H.cell? ⟨z,0,none⟩=some (.int .i64 P.pos):=cr fz rfl;have q1:H.cell? ⟨z,1,none⟩=some (.string P.name):=cr fz rfl;have q2:H.cell? ⟨z,2,none⟩=some (.slice A_rams P.QD.length O):=cr fz rfl;have q3:H.cell? ⟨z,3,none⟩=some (.slice A_devices P.Q5.length y):=cr fz rfl;have q4:H.cell? ⟨z,4,none⟩=some (.slice A_regions P.Q3.length E):=cr fz rfl;have q5:H.cell? ⟨z,5,none⟩=some (.slice A_subjects P.Q4.length u):=cr fz rfl;have q6:H.cell? ⟨z,6,none⟩=some (.slice A_channels P.Q8.length g):=cr fz rfl;have q7:H.cell? ⟨z,7,none⟩=some (.slice A_irqs P.QM.length N):=cr fz rfl;have q8:H.cell? ⟨z,8,none⟩=some (.slice A_queues P.QB.length I):=cr fz rfl;have q9:H.cell? ⟨z,9,none⟩=some (.slice A_plans P.Q9.length L):=cr fz rfl;have ls:H.cell? ⟨z,10,none⟩=some (.slice A_masters P.QC.length D):=cr fz rfl;have lv:H.cell? ⟨z,11,none⟩=some (.slice A_starts P.QI.length J):=cr fz rfl;have lw:H.cell? ⟨z,12,none⟩=some (.slice A_monitors P.QE.length q):=cr fz rfl;have lx:H.cell? ⟨z,13,none⟩=some (.slice A_forbids P.QG.length C):=cr fz rfl;have hc:=g7.size;clear ds hz fz h0 g7;refine so (fun cx a0=>aE (fun i=>i==4||(rg 9 11 i)) bo cx∧At cx 4 (.pointer (some ⟨H.heap.size,0,none⟩))∧a0=H.alloc (.cells #[.int .i64 P.pos,.string P.name,.slice A_rams P.QD.length O,.slice A_devices P.Q5.length y,.slice A_regions P.Q3.length E,.slice A_subjects P.Q4.length u,.slice A_channels P.Q8.length g,.slice A_irqs P.QM.length N,.slice A_queues P.QB.length I,.slice A_plans P.Q9.length L,.slice A_masters P.QC.length D,.slice A_starts P.QI.length J,.slice A_monitors P.QE.length q,.slice A_forbids P.QG.length C,.nilIface] 77)) ?_ ?_
 ·have bm:aE (fun i=>i==4||(rg 9 11 i)) bo bo:=aE.refl _ _
  obtain⟨T,d⟩:=bo;refine rl ?_
  iterate 4 with_reducible refine st ?_
  refine ln ⟨rfl,ag,aq,rfl⟩
 rintro cx a0 ⟨bc,h4,dt⟩;replace h1:=bc.Q7 h1 rfl;replace h2:=bc.Q7 h2 rfl;replace h3:=bc.Q7 h3 rfl;have hb:=bc.size.trans kl;have i1:=bc.defers.trans k7;obtain⟨pb,g9⟩:∃z,z=H.heap.size:=⟨_,rfl⟩;rw[←g9]at h4;have fp:a0.heap[pb]?=some (.cells #[.int .i64 P.pos,.string P.name,.slice A_rams P.QD.length O,.slice A_devices P.Q5.length y,.slice A_regions P.Q3.length E,.slice A_subjects P.Q4.length u,.slice A_channels P.Q8.length g,.slice A_irqs P.QM.length N,.slice A_queues P.QB.length I,.slice A_plans P.Q9.length L,.slice A_masters P.QC.length D,.slice A_starts P.QI.length J,.slice A_monitors P.QE.length q,.slice A_forbids P.QG.length C,.nilIface] 77 (0,0)):=by rw[dt,g9];exact heap_alloc_new _ _
 have a9:Kz w a0:=h6.out.trans (by rw[dt];exact(aD.refl _ _).alloc _) (fun _ _ h=>h);rw[←hv.out]at fp;have er:=a9.below (B:=B) hB (fun _ _ h=>h);have g4:aG B a0 pb v P cN []:=⟨h9.out.below er,χ,HP.out.below er,.nilIface,none,fp,rfl,yQ⟩;have h8:=hh g4;have h7:=hh a9;have mb:=g4.lt;have g0:=hh (show w.heap.size≤pb by omega);clear dt g9 fp a9 er g4 h6 HP h9 hv hc q0 q1 q2 q3 q4 q5 q6 q7 q8 q9 ls lv lw lx;refine wp_seq (wp_seq (Code.wp_only (R:=fun eq bl=>aE (fun i=>(rg 12 30 i)) cx eq∧At eq 28 (.slice (some ⟨a0.heap.size,0,none⟩) 8 8)∧At eq 29 (.int .i64 (8:Nat))∧At eq 30 (.int .i64 0)∧bl=a0.alloc (.cells #[.func (.func 25) #[.pointer (some ⟨pb,0,none⟩)] #[],.func (.func 26) #[.pointer (some ⟨pb,0,none⟩)] #[],.func (.func 27) #[.pointer (some ⟨pb,0,none⟩)] #[],.func (.func 28) #[.pointer (some ⟨pb,0,none⟩)] #[],.func (.func 29) #[.pointer (some ⟨pb,0,none⟩)] #[],.func (.func 30) #[.pointer (some ⟨pb,0,none⟩)] #[],.func (.func 31) #[.pointer (some ⟨pb,0,none⟩)] #[],.func (.func 32) #[.pointer (some ⟨pb,0,none⟩)] #[]] 1)) ?_ ?_))
 ·have bm:aE (fun i=>(rg 12 30 i)) cx cx:=aE.refl _ _
  obtain⟨T,d⟩:=cx;refine rl ?_
  iterate 19 with_reducible refine st ?_
  refine ln ⟨rfl,?_,?_,?_,?_,rfl⟩
  ·exact ag
  ·exact aq
  ·exact At.ne At.self ψ
  ·exact aq
 rintro eq bl ⟨a4,ky,lp,lm,d0⟩;replace h1:=a4.Q7 h1 rfl;replace h2:=a4.Q7 h2 rfl;replace h3:=a4.Q7 h3 rfl;replace h4:=a4.Q7 h4 rfl;have d9:=a4.size.trans hb;have ew:=a4.defers.trans i1;obtain⟨zf,ho⟩:∃z,z=a0.heap.size:=⟨_,rfl⟩;rw[←ho]at ky;have ff:bl.heap[zf]?=some (.cells #[.func (.func 25) #[.pointer (some ⟨pb,0,none⟩)] #[],.func (.func 26) #[.pointer (some ⟨pb,0,none⟩)] #[],.func (.func 27) #[.pointer (some ⟨pb,0,none⟩)] #[],.func (.func 28) #[.pointer (some ⟨pb,0,none⟩)] #[],.func (.func 29) #[.pointer (some ⟨pb,0,none⟩)] #[],.func (.func 30) #[.pointer (some ⟨pb,0,none⟩)] #[],.func (.func 31) #[.pointer (some ⟨pb,0,none⟩)] #[],.func (.func 32) #[.pointer (some ⟨pb,0,none⟩)] #[]] 1 (0,0)):=by rw[d0,ho];exact heap_alloc_new _ _
 have e5:Kz a0 bl:=by rw[d0];exact(aD.refl _ _).alloc _
 have k3:=hh (h8.out.new e5);have f1:Hid (Kz w bl):=h7.out.trans e5 (fun _ _ h=>h);have FF:=hh ff;have ll:zf≠pb:=χ
 have l4:=hh (show zf<bl.heap.size from aH ff);clear d0 ho ff e5 h8 h7;refine bX 8 (fun i=>i==2||i==3||(rg 6 8 i)||(rg 30 52 i)) (fun i=>i==2||i==3||(rg 6 8 i)||(rg 32 51 i)) (fun k _ w'=>aG B w' pb v P cN []∧(∀x∈l.take k,x.1=[])∧aD (fun k=>k=pb) bl w') χ lm lp ψ rfl
  ζ χ ψ (fun k a1 a2 w hA hI=>hI) ⟨k3.out,ξ,aD.refl _ _⟩ ?_ ?_
 ·rintro n b wr l7 hA hu ⟨hL,fi,hk⟩
  obtain⟨gr,hg⟩:∃x,l[n]?=some x:=⟨_,Ez χ⟩;have fr:=(hk.block zf (aH FF.out) ll).trans FF.out;have q0:wr.cell? ⟨zf,n,none⟩=some (fnV pb n):=by
   rw[cell_of_row _ _ _ _ _ _ fr]
   rcases(by omega:n=0∨n=1∨n=2∨n=3∨n=4∨n=5∨n=6∨n=7)with rfl|rfl|rfl|rfl|rfl|rfl|rfl|rfl<;>rfl
  have an:=hA.Q7 h4 rfl;have fs:=hA.Q7 ky rfl;have fk:=hA.size.trans d9;have g5:=hA.defers.trans ew;have ms:=aH fr;have l9:(n:Int)<8:=χ
  have HG:=hh hg;have ia:=hh fi;have HK:=hh hk;have HL:=hh hL;clear hg fi hk fr hA hL;obtain⟨fv,g6⟩:∃f,f=fnV pb n:=⟨_,rfl⟩;rw[←g6]at q0;have k0:=hh g6;clear g6;refine so (fun f6 gu=>aE (fun i=>i==6||i==32||i==33) b f6∧At f6 6 (fv)∧gu=wr) ?_ ?_
  ·have bm:aE (fun i=>i==6||i==32||i==33) b b:=aE.refl _ _
   obtain⟨T,d⟩:=b;refine rl ?_
   iterate 3 with_reducible refine st ?_
   refine ln ⟨rfl,ag,aq,rfl⟩
  rintro f6 gu ⟨a5,kw,rfl⟩;replace an:=a5.Q7 an rfl;replace fs:=a5.Q7 fs rfl;replace hu:=a5.Q7 hu rfl;have dk:=a5.size.trans fk;have ey:=a5.defers.trans g5;clear q0 fs hu;rw[k0.out]at kw;refine wp_seq (vg (k1.out pb) HG.out (oe HL.out) f6 dk kw _ ?_);intro c wc f7 ix i5;have kp:=f7.size.trans dk;have k8:=f7.defers.trans ey;replace an:=f7.Q7 an rfl;have f4:=hh ix;have f2:=hh i5;clear ix i5;refine so (fun bb ad=>aE (fun i=>i==7) c bb∧At bb 7 (.pointer (some ⟨wc.heap.size,0,none⟩))∧ad=wc.alloc (.cells #[.pointer none] 79)) ?_ ?_
  ·have bm:aE (fun i=>i==7) c c:=aE.refl _ _
   obtain⟨T,d⟩:=c;refine rl ?_;with_reducible refine st ?_
   refine ln ⟨rfl,ag,aq,rfl⟩
  rintro bb ad ⟨bp,b6,d1⟩;replace an:=bp.Q7 an rfl;have fl:=bp.size.trans kp;have gn:=bp.defers.trans k8;obtain⟨tb,he⟩:∃z,z=wc.heap.size:=⟨_,rfl⟩;rw[←he]at b6;have ft:Var ad tb 79 (.pointer none):=by unfold Var;rw[d1,he];exact heap_alloc_new _ _
  have g8:Kz wc ad:=by rw[d1];exact(aD.refl _ _).alloc _
  have f9:=f4.out.new g8;have mk:tb≠pb:=by have:=f4.out.lt;omega
  have ih:=hh (show wc.heap.size≤tb by omega);clear d1 he;obtain⟨f,o,gs,i4,jn⟩:=f9.look;have lq:ad.cell? ⟨pb,14,none⟩=some f:=by
   rw[cell_of_row _ _ _ _ _ _ gs];simp only[List.getElem?_toArray];rw[List.getElem?_append_right (by simp[ae.cells])];rfl
  have f5:=hh f9;have f3:=hh g8;have hy:=hh ft;have eo:=hh jn;have e9:=f9.laid;clear gs g8 f9 ft
  cases o with
  | none =>
   obtain rfl:f=.nilIface:=i4;have go:gr.1=[]:=eo.out.none_iff;have W:=BA (.iface 81 (.pointer (some ⟨tb,0,none⟩))) ad;have HC:=hh W;clear W;refine wp_seq (wp_seq (Code.wp_only (R:=fun g2 gw=>aE (fun i=>(rg 36 42 i)) bb g2∧At g2 42 (.bool true)∧gw=ad) ?_ ?_))
   ·have bm:aE (fun i=>(rg 36 42 i)) bb bb:=aE.refl _ _
    obtain⟨T,d⟩:=bb;refine rl ?_
    iterate 5 with_reducible refine st ?_
    with_reducible refine Lz (fun K hK=>?_)
    go_simp;refine HC.out.mono ?_;rintro e w2 ⟨rfl,rfl⟩;with_reducible refine hK _ _ ?_;clear hK K;refine st ?_
    refine ln ⟨rfl,ag,aq,rfl⟩
   rintro g2 gw ⟨bd,ec,rfl⟩;replace an:=bd.Q7 an rfl;replace b6:=bd.Q7 b6 rfl;have ea:=bd.size.trans fl;have ez:=bd.defers.trans gn;refine wp_cond_split (ec.eval χ) (fun hq=>?_) (fun hq=>by cases hq);refine wp_exit ?_
   repeat with_reducible apply eP
   simp only[bi,if_true];refine⟨(aE.trans (aE.trans (aE.trans (aE.trans (aE.refl (fun i=>i==2||i==3||(rg 6 8 i)||(rg 32 51 i)) _) a5 ζ) f7 ζ) bp ζ) bd ζ),?_,fun x hx=>?_,(HK.out.trans f2.out (fun _ _ h=>h)).trans f3.out (fun _ _ h=>h.elim)⟩
   ·have h1:=f5.out
    rw[go]at h1;exact oe h1
   ·rw[aO HG.out]at hx
    rcases Ω.1 hx with h|h
    ·exact ia.out x h
    ·obtain rfl:x=gr:=by simpa using h
     exact go
  | some m =>
   obtain⟨eb,rfl,l5,di⟩:=i4;have W:=uF ⟨eb,0,none⟩ tb ad e9.err hy.out;have HC:=hh W;have ie:=hh di;have la:eb≠tb:=by rintro rfl;have h1:=hy.out;unfold Var at h1;rw[di]at h1;cases h1
   clear W di;refine wp_seq (wp_seq (Code.wp_only (R:=fun cy a3=>aE (fun i=>(rg 36 42 i)) bb cy∧At cy 42 (.bool false)∧Var a3 tb 79 (.pointer (some ⟨eb,0,none⟩))∧aD (fun k=>k=tb) ad a3) ?_ ?_))
   ·have bm:aE (fun i=>(rg 36 42 i)) bb bb:=aE.refl _ _
    obtain⟨T,d⟩:=bb;refine rl ?_
    iterate 5 with_reducible refine st ?_
    with_reducible refine Lz (fun K hK=>?_)
    go_simp;refine HC.out.mono ?_;rintro e w2 ⟨rfl,en,a9⟩;with_reducible refine hK _ _ ?_;clear hK K;refine st ?_
    refine ln ⟨rfl,?_,?_,?_,?_⟩
    ·exact ag
    ·exact aq
    ·exact en
    ·exact a9
   rintro cy a3 ⟨bs,ec,en,a9⟩;replace an:=bs.Q7 an rfl;replace b6:=bs.Q7 b6 rfl;have ea:=bs.size.trans fl;have ez:=bs.defers.trans gn;refine wp_cond_split (ec.eval χ) (fun hq=>by cases hq) (fun hq=>?_);refine wp_skip ?_;clear hq ec;have kk:=(a9.block eb (aH ie.out) la).trans ie.out;have i3:pZ a3:=(e9.below ((f3.out.mono fun _ _ h=>h.elim:aD (fun k=>k=tb) wc ad) |> fun _=>a9.below (B:=B) (by have:=f5.out.base;have:=f5.out.lt;omega) (fun i hi e=>by have:=f4.out.base;have:=f4.out.lt;have:=ih.out;omega))).err;have ik:=hh en;have gx:=hh a9;have g1:=hh kk;have hw:=hh i3;clear en a9 kk i3 HC lq e9;refine so (fun c3 a7=>aE (fun i=>i==8) cy c3∧At c3 8 (.pointer (some ⟨a3.heap.size,0,none⟩))∧a7=a3.alloc (.cells #[.int .i64 0] 36)) ?_ ?_
   ·have bm:aE (fun i=>i==8) cy cy:=aE.refl _ _
    obtain⟨T,d⟩:=cy;refine rl ?_;with_reducible refine st ?_
    refine ln ⟨rfl,ag,aq,rfl⟩
   rintro c3 a7 ⟨bt,ht,d2⟩;replace an:=bt.Q7 an rfl;replace b6:=bt.Q7 b6 rfl;have fm:=bt.size.trans ea;have gc:=bt.defers.trans ez;obtain⟨te,hf⟩:∃z,z=a3.heap.size:=⟨_,rfl⟩;rw[←hf]at ht;have fe:Var a7 te 36 (.int .i64 0):=by unfold Var;rw[d2,hf];exact heap_alloc_new _ _
   have e6:Kz a3 a7:=by rw[d2];exact(aD.refl _ _).alloc _
   have hj:=ik.out.keep e6 (fun h=>h);have ha:=(e6.block eb (aH g1.out) (fun h=>h)).trans g1.out;have jf:=ik.out.lt;have k4:=hh (show a3.heap.size≤te by omega);have lc:te≠tb:=χ
   have ks:te≠eb:=by have:=aH g1.out;omega
   have l3:te≠pb:=by have h1:=f5.out.lt;have h2:=gx.out.size;omega
   have c2:a7.cell? ⟨eb,2,none⟩=some (.iface 36 (.int .i64 (gr.2 m.2))):=cr ha rfl;have i2:=(e6.cell (p:=⟨0,0,none⟩) (World.block_lt_of_cell? _ ⟨0,0,none⟩ hw.out) (fun h=>h)).trans hw.out;have W:=BB eb te (gr.2 m.2) a7 i2 c2 fe;have v7:a7.cell? ⟨tb,0,none⟩=some (.pointer (some ⟨eb,0,none⟩)):=hj.cell;have HC:=hh W;have it:=hh hj;have id:=hh ha;have k2:=hh e6;clear d2 hf fe e6 hj ha c2 i2 W jf;refine so (fun ed a8=>aE (fun i=>(rg 43 46 i)) c3 ed∧Var a8 te 36 (.int .i64 (gr.2 m.2))∧aD (fun k=>k=te) a7 a8) ?_ ?_
   ·have bm:aE (fun i=>(rg 43 46 i)) c3 c3:=aE.refl _ _
    obtain⟨T,d⟩:=c3;refine rl ?_
    iterate 3 with_reducible refine st ?_
    with_reducible refine Lz (fun K hK=>?_)
    go_simp;refine HC.out.mono ?_;rintro e w2 ⟨rfl,en,a9⟩;with_reducible refine hK _ _ ?_;clear hK K
    refine ln ⟨rfl,?_,?_,?_⟩
    ·exact ag
    ·exact en
    ·exact a9
   rintro ed a8 ⟨be,kt,gf⟩;replace an:=be.Q7 an rfl;replace b6:=be.Q7 b6 rfl;replace ht:=be.Q7 ht rfl;have ej:=be.size.trans fm;have e2:=be.defers.trans gc;have v7:a8.cell? ⟨tb,0,none⟩=some (.pointer (some ⟨eb,0,none⟩)):=(gf.cell (p:=⟨tb,0,none⟩) it.out.lt (fun h=>lc h.symm)).trans it.out.cell;have v8:a8.cell? ⟨te,0,none⟩=some (.int .i64 (gr.2 m.2)):=kt.cell;have c0:a8.cell? ⟨eb,0,none⟩=some (.int .i64 m.1):=cr ((gf.block eb (aH id.out) (fun h=>ks h.symm)).trans id.out) rfl;have gy:Hid (Kz w a8):=hh ((((((f1.out.trans HK.out (fun i hi e=>by have:=g0.out;omega)).trans f2.out (fun i hi e=>by have:=g0.out;omega)).trans f3.out (fun _ _ h=>h)).trans gx.out (fun i hi e=>by have h1:=ih.out;have h2:=f2.out.size;have h3:=HK.out.size;have h4:=f1.out.size;omega)).trans k2.out (fun _ _ h=>h)).trans gf (fun i hi e=>by have h0:=gx.out.size;have h1:=f3.out.size;have h2:=f2.out.size;have h3:=HK.out.size;have h4:=f1.out.size;have h5:=k4.out;omega));obtain⟨xe,hn⟩:∃x:Int,x=gr.2 m.2:=⟨_,rfl⟩;rw[←hn]at v8;have k6:=hh hn;obtain⟨xa,hm⟩:∃x:Int,x=m.1:=⟨_,rfl⟩;rw[←hm]at c0;have k5:=hh hm;clear kt gf HC hn hm;refine so (fun d3 fy=>aE (fun i=>i==2||i==3||(rg 47 51 i)) ed d3∧At d3 2 (.int .i64 xa)∧At d3 3 (.int .i64 xe)∧fy=a8.drew) ?_ ?_
   ·have bm:aE (fun i=>i==2||i==3||(rg 47 51 i)) ed ed:=aE.refl _ _
    obtain⟨T,d⟩:=ed;refine wp_region_still_lit δ δ ?_
    iterate 7 with_reducible refine sl ?_
    with_reducible refine wpStill_nil ?_
    refine⟨rfl,ag,aq,aq,rfl⟩
   rintro d3 fy ⟨d7,hr,hs,gl⟩;have l0:=d7.size.trans ej;have k9:=d7.defers.trans e2;refine wp_ret ?_
   repeat (first|with_reducible apply bQ|with_reducible apply bY)
   refine bodyPost_ret (v := .tuple #[.int .i64 xa,.int .i64 xe]) (mo rfl hr hs χ χ) k9 ?_;refine⟨⟨xa,xe,rfl,?_⟩,by rw[gl];exact gy.out.drew⟩;rw[k5.out,k6.out];exact ry HG.out ia.out eo.out.1 eo.out.2
 ·rintro b wr hA ⟨hL,fi,hk⟩
  have fk:=hA.size.trans d9;have g5:=hA.defers.trans ew;have gy:Hid (Kz w wr):=f1.out.trans hk (fun i hi e=>by have:=g0.out;omega);have i0:∀x∈l,x.1=[]:=fun x hx=>fi x (by rw[List.take_of_length_le χ];exact hx)
  clear hA hL fi hk;refine so (fun d4 f0=>aE (fun i=>i==2||i==3) b d4∧At d4 2 (.int .i64 0)∧At d4 3 (.int .i64 0)∧f0=wr) ?_ ?_
  ·have bm:aE (fun i=>i==2||i==3) b b:=aE.refl _ _
   obtain⟨T,d⟩:=b;refine rl ?_
   iterate 2 with_reducible refine st ?_
   refine ln ⟨rfl,ag,aq,aq,rfl⟩
  rintro d4 f0 ⟨d8,hr,hs,rfl⟩;have dk:=d8.size.trans fk;have ey:=d8.defers.trans g5;refine wp_ret ?_
  repeat (first|with_reducible apply bQ|with_reducible apply bY)
  refine bodyPost_ret (v := .tuple #[.int .i64 0,.int .i64 0]) (mo rfl hr hs χ χ) ey ?_;exact⟨⟨0,0,rfl,nt i0⟩,gy.out⟩
end
namespace Rs
open Go.RowKit Ck
theorem au.box{w:World}{b:Nat}{A:Option Addr}{n c:Nat}{u:Value}{l:List Sp}(h:au w u l)(D:Row w b [.slice A n c]):aJ w b u l:=by
 refine aJ.other h.Q7 fun d g K I y e=>?_
 obtain⟨A',c2,B,_,_,C⟩:=h;obtain⟨J,e3,_,e4⟩:=C d;rw[B,e3]at y
 cases y
 obtain⟨x,E⟩:=ge d;obtain⟨_,H,_⟩:=e4 0 x E;have q:=H 0 _ rfl;have v:=D.cell (j:=0) rfl;rw[←e]at v;rw[v]at q
 cases q
