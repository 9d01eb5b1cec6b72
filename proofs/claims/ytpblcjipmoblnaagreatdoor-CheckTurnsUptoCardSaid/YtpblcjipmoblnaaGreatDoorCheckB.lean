import Derived.Test.YtpblcjipmoblnaaGreatDoorAsE
import Derived.Test.YtpblcjipmoblnaaGreatDoorImage
import Derived.Test.YtpblcjipmoblnaaGreatDoorMaps
set_option maxRecDepth 100000
set_option maxHeartbeats 4000000
set_option linter.unusedVariables false
set_option linter.unusedSimpArgs false
set_option linter.unnecessarySimpa false
namespace Go.Proofs.YtpblcjipmoblnaaGreatDoor
open Go.RowKit Go.IntWalk Ck
variable {B pb:Nat} {w:World}
theorem mJ{B:Nat}{w:World}{pb:Nat}{v:aV}{P:aC}{W W':Int→Int}(h:aF B w pb v P W []):aF B w pb v P W' []:=by
 obtain⟨f,o,b,d,a⟩:=h.look
 cases o with
 | none=>exact⟨h.laid,h.base,h.QL,f,none,b,d,a⟩
 | some m=>exact absurd a.1 (by simp)
theorem pT{g:List Wr×(Int→Int)}{a r:Int}:∀{l:List (List Wr×(Int→Int))} {k:Nat},l[k]?=some g→(∀x∈l.take k,x.1=[])→(a,r)∈g.1→(∀x∈g.1,Le (a,r) x)→fW l a (g.2 r)
 | [],k,h,_,_,_=>by simp at h
 | x::t,0,h,_,h1,h2=>by
  obtain rfl:x=g:=Option.some.inj h;exact .inr ⟨r,h1,h2,rfl⟩
 | x::t,k+1,h,he,h1,h2 =>.inl ⟨he x (by simp),pT (l:=t) (by simpa using h) (fun y b=>he y (by simp[b])) h1 h2⟩
theorem lU:∀{l:List (List Wr×(Int→Int))},(∀x∈l,x.1=[])→fW l 0 0
 | [],_=>⟨rfl,rfl⟩
 | x::t,h =>.inl ⟨h x (by simp),lU fun y a=>h y (by simp[a])⟩
def pN(B pb:Nat)(v:aV)(P:aC)(l:List (List Wr×(Int→Int))):Prop:=
 l.length=8∧∀(k:Nat) (g:List Wr×(Int→Int)) (w:World),l[k]?=some g→aF B w pb v P g.2 []→Calls Tryz.prog (49+k) #[.pointer (some ⟨pb,0,none⟩)] w fun e w'=>e=.returned (.tuple #[])∧aF B w' pb v P g.2 g.1∧aB (fun k=>k=pb) w w'
theorem yz{α:Type}{a b d e i j l n g:α}{k:Nat}(h:[a,b,d,e,i,j,l,n][k]?=some g):(k=0∧g=a)∨(k=1∧g=b)∨(k=2∧g=d)∨(k=3∧g=e)∨(k=4∧g=i)∨(k=5∧g=j)∨(k=6∧g=l)∨(k=7∧g=n):=by
 have hk:k<8:=by have:=(List.getElem?_eq_some_iff.1 h).1;simpa using this
 rcases(by omega:k=0∨k=1∨k=2∨k=3∨k=4∨k=5∨k=6∨k=7)with rfl|rfl|rfl|rfl|rfl|rfl|rfl|rfl<;>simp at h<;>subst h<;>simp
theorem wF{v:aV}{P:aC}{named:ByteArray→Bool}(a:ex B named):pN B pb v P (cM named ay P):=by
 refine⟨rfl,fun k g w hk h=>?_⟩
 rcases yz hk with⟨rfl,rfl⟩|⟨rfl,rfl⟩|⟨rfl,rfl⟩|⟨rfl,rfl⟩|⟨rfl,rfl⟩|⟨rfl,rfl⟩|⟨rfl,rfl⟩|⟨rfl,rfl⟩
 ·exact tj a h
 ·exact s8 h
 ·exact yB h
 ·exact pn h
 ·exact vi jY h
 ·exact wh h
 ·exact tX h
 ·exact uC h
def fnV(pb k:Nat):Value := .func (.func (49+k)) #[.pointer (some ⟨pb,0,none⟩)] #[]
theorem sB{v:aV}{P:aC}{l:List (List Wr×(Int→Int))}(u:pN B pb v P l){k:Nat}{g:List Wr×(Int→Int)}(hk:l[k]?=some g)(y:aF B w pb v P g.2 [])(a:Act)(E:a.tmps.size=53)(n:At a 6 (fnV pb k))(Q:Exit→Act→World→Prop)
 (A:∀x w',aA (fun i=>i==34||i==35) a x→aF B w' pb v P g.2 g.1→aB (fun k=>k=pb) w w'→Q .normal x w'):
 (al Tryz.f21 [1,1,0,1,0,0,1,1,0,0,1,0]).wp Tryz.prog Q a w:=by
 have D:k<8:=by have:=(List.getElem?_eq_some_iff.1 hk).1;rw[u.1]at this;exact this
 have j:=hh (u.2 k g w hk y);have q:=hh A;clear A u y hk;unfold fnV at n;have C:aA (fun i=>i==34||i==35) a a:=aA.refl _ _
 conv=>arg 2;whnf
 rcases(by omega:k=0∨k=1∨k=2∨k=3∨k=4∨k=5∨k=6∨k=7)with rfl|rfl|rfl|rfl|rfl|rfl|rfl|rfl
 ·have n:At a 6 (.func (.func 49) #[.pointer (some ⟨pb,0,none⟩)] #[]):=n
  have j:Hid (Calls Tryz.prog 49 #[.pointer (some ⟨pb,0,none⟩)] w fun e w'=>e=.returned (.tuple #[])∧aF B w' pb v P g.2 g.1∧aB (fun k=>k=pb) w w'):=j;obtain⟨T,d⟩:=a;refine rl ?_;with_reducible refine st ?_;refine Lz (fun K p=>?_)
  go_simp;refine j.out.mono ?_;rintro e r ⟨rfl,b,h⟩;with_reducible refine p _ _ (ln ?_)
  refine q.out _ _ ?_ b h;exact ag
 ·have n:At a 6 (.func (.func 50) #[.pointer (some ⟨pb,0,none⟩)] #[]):=n
  have j:Hid (Calls Tryz.prog 50 #[.pointer (some ⟨pb,0,none⟩)] w fun e w'=>e=.returned (.tuple #[])∧aF B w' pb v P g.2 g.1∧aB (fun k=>k=pb) w w'):=j;obtain⟨T,d⟩:=a;refine rl ?_;with_reducible refine st ?_;refine Lz (fun K p=>?_)
  go_simp;refine j.out.mono ?_;rintro e r ⟨rfl,b,h⟩;with_reducible refine p _ _ (ln ?_)
  refine q.out _ _ ?_ b h;exact ag
 ·have n:At a 6 (.func (.func 51) #[.pointer (some ⟨pb,0,none⟩)] #[]):=n
  have j:Hid (Calls Tryz.prog 51 #[.pointer (some ⟨pb,0,none⟩)] w fun e w'=>e=.returned (.tuple #[])∧aF B w' pb v P g.2 g.1∧aB (fun k=>k=pb) w w'):=j;obtain⟨T,d⟩:=a;refine rl ?_;with_reducible refine st ?_;refine Lz (fun K p=>?_)
  go_simp;refine j.out.mono ?_;rintro e r ⟨rfl,b,h⟩;with_reducible refine p _ _ (ln ?_)
  refine q.out _ _ ?_ b h;exact ag
 ·have n:At a 6 (.func (.func 52) #[.pointer (some ⟨pb,0,none⟩)] #[]):=n
  have j:Hid (Calls Tryz.prog 52 #[.pointer (some ⟨pb,0,none⟩)] w fun e w'=>e=.returned (.tuple #[])∧aF B w' pb v P g.2 g.1∧aB (fun k=>k=pb) w w'):=j;obtain⟨T,d⟩:=a;refine rl ?_;with_reducible refine st ?_;refine Lz (fun K p=>?_)
  go_simp;refine j.out.mono ?_;rintro e r ⟨rfl,b,h⟩;with_reducible refine p _ _ (ln ?_)
  refine q.out _ _ ?_ b h;exact ag
 ·have n:At a 6 (.func (.func 53) #[.pointer (some ⟨pb,0,none⟩)] #[]):=n
  have j:Hid (Calls Tryz.prog 53 #[.pointer (some ⟨pb,0,none⟩)] w fun e w'=>e=.returned (.tuple #[])∧aF B w' pb v P g.2 g.1∧aB (fun k=>k=pb) w w'):=j;obtain⟨T,d⟩:=a;refine rl ?_;with_reducible refine st ?_;refine Lz (fun K p=>?_)
  go_simp;refine j.out.mono ?_;rintro e r ⟨rfl,b,h⟩;with_reducible refine p _ _ (ln ?_)
  refine q.out _ _ ?_ b h;exact ag
 ·have n:At a 6 (.func (.func 54) #[.pointer (some ⟨pb,0,none⟩)] #[]):=n
  have j:Hid (Calls Tryz.prog 54 #[.pointer (some ⟨pb,0,none⟩)] w fun e w'=>e=.returned (.tuple #[])∧aF B w' pb v P g.2 g.1∧aB (fun k=>k=pb) w w'):=j;obtain⟨T,d⟩:=a;refine rl ?_;with_reducible refine st ?_;refine Lz (fun K p=>?_)
  go_simp;refine j.out.mono ?_;rintro e r ⟨rfl,b,h⟩;with_reducible refine p _ _ (ln ?_)
  refine q.out _ _ ?_ b h;exact ag
 ·have n:At a 6 (.func (.func 55) #[.pointer (some ⟨pb,0,none⟩)] #[]):=n
  have j:Hid (Calls Tryz.prog 55 #[.pointer (some ⟨pb,0,none⟩)] w fun e w'=>e=.returned (.tuple #[])∧aF B w' pb v P g.2 g.1∧aB (fun k=>k=pb) w w'):=j;obtain⟨T,d⟩:=a;refine rl ?_;with_reducible refine st ?_;refine Lz (fun K p=>?_)
  go_simp;refine j.out.mono ?_;rintro e r ⟨rfl,b,h⟩;with_reducible refine p _ _ (ln ?_)
  refine q.out _ _ ?_ b h;exact ag
 ·have n:At a 6 (.func (.func 56) #[.pointer (some ⟨pb,0,none⟩)] #[]):=n
  have j:Hid (Calls Tryz.prog 56 #[.pointer (some ⟨pb,0,none⟩)] w fun e w'=>e=.returned (.tuple #[])∧aF B w' pb v P g.2 g.1∧aB (fun k=>k=pb) w w'):=j;obtain⟨T,d⟩:=a;refine rl ?_;with_reducible refine st ?_;refine Lz (fun K p=>?_)
  go_simp;refine j.out.mono ?_;rintro e r ⟨rfl,b,h⟩;with_reducible refine p _ _ (ln ?_)
  refine q.out _ _ ?_ b h;exact ag
theorem kq{P:Program}{fn:Func}{a:Act}{s t:Nat}{u v:Value}(h:fn.results = #[.tmp s,.tmp t])(i:At a s u)(j:At a t v)(b:s<a.tmps.size)(d:t<a.tmps.size):(results fn a.tmps).run P w=.ok (.tuple #[u,v]) w:=by
 have e:a.tmps.getD s undef=u:=i.eval b;have g:a.tmps.getD t undef=v:=j.eval d;rw[results_tmp2 h,e,g]
theorem jO{v:aV}{P:aC}{named:ByteArray→Bool}(hN:ex B named)(hp:cX B w v P)(k9:gm B w)(hB:B≤w.heap.size):
 Calls Tryz.prog 21 #[.agg (v.cells P).toArray] w fun e w'=>(∃a x:Int,e=.returned (.tuple #[.int .i64 a,.int .i64 x])∧fW (cM named ay P) a x)∧Kz w w':=by
 have HP:=hh hp;have i5:=hh k9;obtain⟨l,hl⟩:∃l,l=cM named ay P:=⟨_,rfl⟩;have hb:∀pb,pN B pb v P l:=fun pb=>by rw[hl];exact wF hN
 have l1:=hh hb;rw[←hl];have nl:l.length=8:=(hb 0).1;clear hl hb k9;obtain⟨A_rams,J,bb,er,fj,e9⟩:=hp.QF;obtain⟨A_devices,u,Q,b2,ci,cb⟩:=hp.Q4;obtain⟨A_regions,C,V,b5,cp,cf⟩:=hp.Q5;obtain⟨A_subjects,r,N,bp,b0,bw⟩:=hp.Q3;obtain⟨A_channels,g,L,bm,bx,bt⟩:=hp.Q8;obtain⟨A_irqs,I,a9,eo,fi,e8⟩:=hp.QG;obtain⟨A_queues,E,X,cw,c3,cy⟩:=hp.QC;obtain⟨A_plans,H,an,d6,d8,d7⟩:=hp.Q9;obtain⟨A_masters,A,U,b4,cm,cd⟩:=hp.QD;obtain⟨A_starts,G,Y,cx,c4,c1⟩:=hp.QE;obtain⟨A_monitors,q,M,bo,bz,bu⟩:=hp.QB;obtain⟨A_forbids,y,S,b3,cl,cc⟩:=hp.QA;have e0:(v.cells P).toArray = #[.int .i64 P.pos,.string P.name,.slice A_rams P.QF.length J,.slice A_devices P.Q4.length u,.slice A_regions P.Q5.length C,.slice A_subjects P.Q3.length r,.slice A_channels P.Q8.length g,.slice A_irqs P.QG.length I,.slice A_queues P.QC.length E,.slice A_plans P.Q9.length H,.slice A_masters P.QD.length A,.slice A_starts P.QE.length G,.slice A_monitors P.QB.length q,.slice A_forbids P.QA.length y]:=by
  rw[←bb,←Q,←V,←N,←L,←a9,←X,←an,←U,←Y,←M,←S];rfl
 have e1:(v.cells P++[Value.nilIface]).toArray = #[.int .i64 P.pos,.string P.name,.slice A_rams P.QF.length J,.slice A_devices P.Q4.length u,.slice A_regions P.Q5.length C,.slice A_subjects P.Q3.length r,.slice A_channels P.Q8.length g,.slice A_irqs P.QG.length I,.slice A_queues P.QC.length E,.slice A_plans P.Q9.length H,.slice A_masters P.QD.length A,.slice A_starts P.QE.length G,.slice A_monitors P.QB.length q,.slice A_forbids P.QA.length y,.nilIface]:=by
  rw[←bb,←Q,←V,←N,←L,←a9,←X,←an,←U,←Y,←M,←S];rfl
 rw[e0];have it:=hh e1;clear e0 e1 hp bb e9 er fj Q cb b2 ci V cf b5 cp N bw bp b0 L bt bm bx a9 e8 eo fi X cy cw c3 an d7 d6 d8 U cd b4 cm Y c1 cx c4 M bu bo bz S cc b3 cl;refine az Tryz.func21 Tryz.ntmps21 rfl (by show 1≤53;decide) fun a mk hd h=>?_
 have h0:At a 0 (.agg #[.int .i64 P.pos,.string P.name,.slice A_rams P.QF.length J,.slice A_devices P.Q4.length u,.slice A_regions P.Q5.length C,.slice A_subjects P.Q3.length r,.slice A_channels P.Q8.length g,.slice A_irqs P.QG.length I,.slice A_queues P.QC.length E,.slice A_plans P.Q9.length H,.slice A_masters P.QD.length A,.slice A_starts P.QE.length G,.slice A_monitors P.QB.length q,.slice A_forbids P.QA.length y]):=h 0 _ rfl;clear h
 conv=>arg 2;whnf
 refine so (fun be D=>aA (fun i=>i==1||i==2||i==3) a be∧At be 1 (.pointer (some ⟨w.heap.size,0,none⟩))∧At be 2 (.int .i64 0)∧At be 3 (.int .i64 0)∧D=w.alloc (.cells #[.int .i64 P.pos,.string P.name,.slice A_rams P.QF.length J,.slice A_devices P.Q4.length u,.slice A_regions P.Q5.length C,.slice A_subjects P.Q3.length r,.slice A_channels P.Q8.length g,.slice A_irqs P.QG.length I,.slice A_queues P.QC.length E,.slice A_plans P.Q9.length H,.slice A_masters P.QD.length A,.slice A_starts P.QE.length G,.slice A_monitors P.QB.length q,.slice A_forbids P.QA.length y] 34)) ?_ ?_
 ·have bd:aA (fun i=>i==1||i==2||i==3) a a:=aA.refl _ _
  obtain⟨T,d⟩:=a;refine rl ?_
  iterate 3 with_reducible refine st ?_
  refine ln ⟨rfl,ag,aq,aq,aq,rfl⟩
 rintro be D ⟨cv,h1,h2,h3,c7⟩;replace h0:=cv.Q7 h0 rfl;have li:=cv.size.trans mk;have l7:=cv.defers.trans hd;obtain⟨z,hz⟩:∃z,z=w.heap.size:=⟨_,rfl⟩;rw[←hz]at h1;have fz:D.heap[z]?=some (.cells #[.int .i64 P.pos,.string P.name,.slice A_rams P.QF.length J,.slice A_devices P.Q4.length u,.slice A_regions P.Q5.length C,.slice A_subjects P.Q3.length r,.slice A_channels P.Q8.length g,.slice A_irqs P.QG.length I,.slice A_queues P.QC.length E,.slice A_plans P.Q9.length H,.slice A_masters P.QD.length A,.slice A_starts P.QE.length G,.slice A_monitors P.QB.length q,.slice A_forbids P.QA.length y] 34 (0,0)):=by rw[c7,hz];exact heap_alloc_new _ _
 have hj:Kz w D:=by rw[c7];exact(aB.refl _ _).alloc _
 have i1:=hh hj;have q0:D.cell? ⟨z,0,none⟩=some (.int .i64 P.pos):=cr fz rfl;have q1:D.cell? ⟨z,1,none⟩=some (.string P.name):=cr fz rfl;have q2:D.cell? ⟨z,2,none⟩=some (.slice A_rams P.QF.length J):=cr fz rfl;have q3:D.cell? ⟨z,3,none⟩=some (.slice A_devices P.Q4.length u):=cr fz rfl;have q4:D.cell? ⟨z,4,none⟩=some (.slice A_regions P.Q5.length C):=cr fz rfl;have q5:D.cell? ⟨z,5,none⟩=some (.slice A_subjects P.Q3.length r):=cr fz rfl;have q6:D.cell? ⟨z,6,none⟩=some (.slice A_channels P.Q8.length g):=cr fz rfl;have q7:D.cell? ⟨z,7,none⟩=some (.slice A_irqs P.QG.length I):=cr fz rfl;have q8:D.cell? ⟨z,8,none⟩=some (.slice A_queues P.QC.length E):=cr fz rfl;have q9:D.cell? ⟨z,9,none⟩=some (.slice A_plans P.Q9.length H):=cr fz rfl;have m1:D.cell? ⟨z,10,none⟩=some (.slice A_masters P.QD.length A):=cr fz rfl;have m2:D.cell? ⟨z,11,none⟩=some (.slice A_starts P.QE.length G):=cr fz rfl;have m3:D.cell? ⟨z,12,none⟩=some (.slice A_monitors P.QB.length q):=cr fz rfl;have m4:D.cell? ⟨z,13,none⟩=some (.slice A_forbids P.QA.length y):=cr fz rfl;have hs:=hj.size;clear c7 hz fz h0 hj;refine so (fun cs ac=>aA (fun i=>i==4||(rg 9 11 i)) be cs∧At cs 4 (.pointer (some ⟨D.heap.size,0,none⟩))∧ac=D.alloc (.cells #[.int .i64 P.pos,.string P.name,.slice A_rams P.QF.length J,.slice A_devices P.Q4.length u,.slice A_regions P.Q5.length C,.slice A_subjects P.Q3.length r,.slice A_channels P.Q8.length g,.slice A_irqs P.QG.length I,.slice A_queues P.QC.length E,.slice A_plans P.Q9.length H,.slice A_masters P.QD.length A,.slice A_starts P.QE.length G,.slice A_monitors P.QB.length q,.slice A_forbids P.QA.length y,.nilIface] 113)) ?_ ?_
 ·have bd:aA (fun i=>i==4||(rg 9 11 i)) be be:=aA.refl _ _
  obtain⟨T,d⟩:=be;refine rl ?_
  iterate 4 with_reducible refine st ?_
  refine ln ⟨rfl,ag,aq,rfl⟩
 rintro cs ac ⟨a6,h4,c8⟩;replace h1:=a6.Q7 h1 rfl;replace h2:=a6.Q7 h2 rfl;replace h3:=a6.Q7 h3 rfl;have hr:=a6.size.trans li;have k4:=a6.defers.trans l7;obtain⟨pb,hn⟩:∃z,z=D.heap.size:=⟨_,rfl⟩;rw[←hn]at h4;have fp:ac.heap[pb]?=some (.cells #[.int .i64 P.pos,.string P.name,.slice A_rams P.QF.length J,.slice A_devices P.Q4.length u,.slice A_regions P.Q5.length C,.slice A_subjects P.Q3.length r,.slice A_channels P.Q8.length g,.slice A_irqs P.QG.length I,.slice A_queues P.QC.length E,.slice A_plans P.Q9.length H,.slice A_masters P.QD.length A,.slice A_starts P.QE.length G,.slice A_monitors P.QB.length q,.slice A_forbids P.QA.length y,.nilIface] 113 (0,0)):=by rw[c8,hn];exact heap_alloc_new _ _
 have a4:Kz w ac:=i1.out.trans (by rw[c8];exact(aB.refl _ _).alloc _) (fun _ _ h=>h);rw[←it.out]at fp;have en:=a4.below (B:=B) hB (fun _ _ h=>h);have hc:aF B ac pb v P aw []:=⟨i5.out.below en,by omega,HP.out.below en,.nilIface,none,fp,rfl,tz⟩;have i3:=hh hc;have i2:=hh a4;have nq:=hc.lt;have gx:=hh (show w.heap.size≤pb by omega);clear c8 hn fp a4 en hc i1 HP i5 it hs q0 q1 q2 q3 q4 q5 q6 q7 q8 q9 m1 m2 m3 m4;refine wp_seq (wp_seq (Code.wp_only (R:=fun em bc=>aA (fun i=>(rg 12 30 i)) cs em∧At em 28 (.slice (some ⟨ac.heap.size,0,none⟩) 8 8)∧At em 29 (.int .i64 (8:Nat))∧At em 30 (.int .i64 0)∧bc=ac.alloc (.cells #[.func (.func 49) #[.pointer (some ⟨pb,0,none⟩)] #[],.func (.func 50) #[.pointer (some ⟨pb,0,none⟩)] #[],.func (.func 51) #[.pointer (some ⟨pb,0,none⟩)] #[],.func (.func 52) #[.pointer (some ⟨pb,0,none⟩)] #[],.func (.func 53) #[.pointer (some ⟨pb,0,none⟩)] #[],.func (.func 54) #[.pointer (some ⟨pb,0,none⟩)] #[],.func (.func 55) #[.pointer (some ⟨pb,0,none⟩)] #[],.func (.func 56) #[.pointer (some ⟨pb,0,none⟩)] #[]] 1)) ?_ ?_))
 ·have bd:aA (fun i=>(rg 12 30 i)) cs cs:=aA.refl _ _
  obtain⟨T,d⟩:=cs;refine rl ?_
  iterate 19 with_reducible refine st ?_
  refine ln ⟨rfl,?_,?_,?_,?_,rfl⟩
  ·exact ag
  ·exact aq
  ·exact At.ne At.self (by decide)
  ·exact aq
 rintro em bc ⟨af,lv,my,mx,c9⟩;replace h1:=af.Q7 h1 rfl;replace h2:=af.Q7 h2 rfl;replace h3:=af.Q7 h3 rfl;replace h4:=af.Q7 h4 rfl;have d2:=af.size.trans hr;have es:=af.defers.trans k4;obtain⟨zf,h7⟩:∃z,z=ac.heap.size:=⟨_,rfl⟩;rw[←h7]at lv;have ff:bc.heap[zf]?=some (.cells #[.func (.func 49) #[.pointer (some ⟨pb,0,none⟩)] #[],.func (.func 50) #[.pointer (some ⟨pb,0,none⟩)] #[],.func (.func 51) #[.pointer (some ⟨pb,0,none⟩)] #[],.func (.func 52) #[.pointer (some ⟨pb,0,none⟩)] #[],.func (.func 53) #[.pointer (some ⟨pb,0,none⟩)] #[],.func (.func 54) #[.pointer (some ⟨pb,0,none⟩)] #[],.func (.func 55) #[.pointer (some ⟨pb,0,none⟩)] #[],.func (.func 56) #[.pointer (some ⟨pb,0,none⟩)] #[]] 1 (0,0)):=by rw[c9,h7];exact heap_alloc_new _ _
 have e6:Kz ac bc:=by rw[c9];exact(aB.refl _ _).alloc _
 have l3:=hh (i3.out.new e6);have f2:Hid (Kz w bc):=i2.out.trans e6 (fun _ _ h=>h);have FF:=hh ff;have mv:zf≠pb:=by omega
 have m7:=hh (show zf<bc.heap.size from aG ff);clear c9 h7 ff e6 i3 i2;refine ai 8 (fun i=>i==2||i==3||(rg 6 8 i)||(rg 30 52 i)) (fun i=>i==2||i==3||(rg 6 8 i)||(rg 32 51 i)) (fun k _ w'=>aF B w' pb v P aw []∧(∀x∈l.take k,x.1=[])∧aB (fun k=>k=pb) bc w') (by omega) mx my (by decide) rfl
  (by intro j;simp;omega) (by omega) (by decide) (fun k a1 a2 w hA hI=>hI) ⟨l3.out,by simp,aB.refl _ _⟩ ?_ ?_
 ·rintro n b wr nm hA ih ⟨hL,fl,hk⟩
  obtain⟨gr,hg⟩:∃x,l[n]?=some x:=⟨_,Ez (by omega)⟩;have fr:=(hk.block zf (aG FF.out) mv).trans FF.out;have q0:wr.cell? ⟨zf,n,none⟩=some (fnV pb n):=by
   rw[cell_of_row _ _ _ _ _ _ fr]
   rcases(by omega:n=0∨n=1∨n=2∨n=3∨n=4∨n=5∨n=6∨n=7)with rfl|rfl|rfl|rfl|rfl|rfl|rfl|rfl<;>rfl
  have Z:=hA.Q7 h4 rfl;have fy:=hA.Q7 lv rfl;have fm:=hA.size.trans d2;have he:=hA.defers.trans es;have nw:=aG fr;have nn:(n:Int)<8:=by omega
  have HG:=hh hg;have jj:=hh fl;have HK:=hh hk;have HL:=hh hL;clear hg fl hk fr hA hL;obtain⟨fv,hf⟩:∃f,f=fnV pb n:=⟨_,rfl⟩;rw[←hf]at q0;have l0:=hh hf;clear hf;refine so (fun f7 gp=>aA (fun i=>i==6||i==32||i==33) b f7∧At f7 6 (fv)∧gp=wr) ?_ ?_
  ·have bd:aA (fun i=>i==6||i==32||i==33) b b:=aA.refl _ _
   obtain⟨T,d⟩:=b;refine rl ?_
   iterate 3 with_reducible refine st ?_
   refine ln ⟨rfl,ag,aq,rfl⟩
  rintro f7 gp ⟨ah,ls,rfl⟩;replace Z:=ah.Q7 Z rfl;replace fy:=ah.Q7 fy rfl;replace ih:=ah.Q7 ih rfl;have c6:=ah.size.trans fm;have ev:=ah.defers.trans he;clear q0 fy ih;rw[l0.out]at ls;refine wp_seq (sB (l1.out pb) HG.out (mJ HL.out) f7 c6 ls _ ?_);intro c wc f8 k2 k8;have lj:=f8.size.trans c6;have mb:=f8.defers.trans ev;replace Z:=f8.Q7 Z rfl;have f5:=hh k2;have f3:=hh k8;clear k2 k8;refine so (fun a5 W=>aA (fun i=>i==7) c a5∧At a5 7 (.pointer (some ⟨wc.heap.size,0,none⟩))∧W=wc.alloc (.cells #[.pointer none] 115)) ?_ ?_
  ·have bd:aA (fun i=>i==7) c c:=aA.refl _ _
   obtain⟨T,d⟩:=c;refine rl ?_;with_reducible refine st ?_
   refine ln ⟨rfl,ag,aq,rfl⟩
  rintro a5 W ⟨bf,b1,di⟩;replace Z:=bf.Q7 Z rfl;have fs:=bf.size.trans lj;have gl:=bf.defers.trans mb;obtain⟨tb,ht⟩:∃z,z=wc.heap.size:=⟨_,rfl⟩;rw[←ht]at b1;have ft:Var W tb 115 (.pointer none):=by unfold Var;rw[di,ht];exact heap_alloc_new _ _
  have hm:Kz wc W:=by rw[di];exact(aB.refl _ _).alloc _
  have gb:=f5.out.new hm;have nu:tb≠pb:=by have:=f5.out.lt;omega
  have ky:=hh (show wc.heap.size≤tb by omega);clear di ht;obtain⟨f,o,go,k7,lb⟩:=gb.look;have m0:W.cell? ⟨pb,14,none⟩=some f:=by
   rw[cell_of_row _ _ _ _ _ _ go];simp only[List.getElem?_toArray];rw[List.getElem?_append_right (by simp[aV.cells])];rfl
  have f6:=hh gb;have f4:=hh hm;have i0:=hh ft;have el:=hh lb;have fc:=gb.laid;clear go hm gb ft
  cases o with
  | none =>
   obtain rfl:f=.nilIface:=k7;have gn:gr.1=[]:=el.out.none_iff;have O:=wP (.iface 117 (.pointer (some ⟨tb,0,none⟩))) W;have HC:=hh O;clear O;refine wp_seq (wp_seq (Code.wp_only (R:=fun ha gs=>aA (fun i=>(rg 36 42 i)) a5 ha∧At ha 42 (.bool true)∧gs=W) ?_ ?_))
   ·have bd:aA (fun i=>(rg 36 42 i)) a5 a5:=aA.refl _ _
    obtain⟨T,d⟩:=a5;refine rl ?_
    iterate 5 with_reducible refine st ?_
    with_reducible refine Lz (fun K hK=>?_)
    go_simp;refine HC.out.mono ?_;rintro e w2 ⟨rfl,rfl⟩;with_reducible refine hK _ _ ?_;clear hK K;refine st ?_
    refine ln ⟨rfl,ag,aq,rfl⟩
   rintro ha gs ⟨a7,d4,rfl⟩;replace Z:=a7.Q7 Z rfl;replace b1:=a7.Q7 b1 rfl;have d3:=a7.size.trans fs;have e2:=a7.defers.trans gl;refine wp_cond_split (d4.eval (by omega)) (fun hq=>?_) (fun hq=>by cases hq);refine wp_exit ?_
   repeat with_reducible apply eh
   simp only[dg,if_true];refine⟨(aA.trans (aA.trans (aA.trans (aA.trans (aA.refl (fun i=>i==2||i==3||(rg 6 8 i)||(rg 32 51 i)) _) ah (by intro j;simp;omega)) f8 (by intro j;simp;omega)) bf (by intro j;simp;omega)) a7 (by intro j;simp;omega)),?_,fun x hx=>?_,(HK.out.trans f3.out (fun _ _ h=>h)).trans f4.out (fun _ _ h=>h.elim)⟩
   ·have h1:=f6.out
    rw[gn]at h1;exact mJ h1
   ·rw[aP HG.out]at hx
    rcases List.mem_append.1 hx with h|h
    ·exact jj.out x h
    ·obtain rfl:x=gr:=by simpa using h
     exact gn
  | some m =>
   obtain⟨eb,rfl,nd,c5⟩:=k7;have O:=qu ⟨eb,0,none⟩ tb W fc.err i0.out;have HC:=hh O;have kl:=hh c5;have me:eb≠tb:=by rintro rfl;have h1:=i0.out;unfold Var at h1;rw[c5]at h1;cases h1
   clear O c5;refine wp_seq (wp_seq (Code.wp_only (R:=fun ct ad=>aA (fun i=>(rg 36 42 i)) a5 ct∧At ct 42 (.bool false)∧Var ad tb 115 (.pointer (some ⟨eb,0,none⟩))∧aB (fun k=>k=tb) W ad) ?_ ?_))
   ·have bd:aA (fun i=>(rg 36 42 i)) a5 a5:=aA.refl _ _
    obtain⟨T,d⟩:=a5;refine rl ?_
    iterate 5 with_reducible refine st ?_
    with_reducible refine Lz (fun K hK=>?_)
    go_simp;refine HC.out.mono ?_;rintro e w2 ⟨rfl,eg,a4⟩;with_reducible refine hK _ _ ?_;clear hK K;refine st ?_
    refine ln ⟨rfl,?_,?_,?_,?_⟩
    ·exact ag
    ·exact aq
    ·exact eg
    ·exact a4
   rintro ct ad ⟨bj,d4,eg,a4⟩;replace Z:=bj.Q7 Z rfl;replace b1:=bj.Q7 b1 rfl;have d3:=bj.size.trans fs;have e2:=bj.defers.trans gl;refine wp_cond_split (d4.eval (by omega)) (fun hq=>by cases hq) (fun hq=>?_);refine wp_skip ?_;clear hq d4;have le:=(a4.block eb (aG kl.out) me).trans kl.out;have k6:mt ad:=(fc.below ((f4.out.mono fun _ _ h=>h.elim:aB (fun k=>k=tb) wc W) |> fun _=>a4.below (B:=B) (by have:=f6.out.base;have:=f6.out.lt;omega) (fun i hi e=>by have:=f5.out.base;have:=f5.out.lt;have:=ky.out;omega))).err;have k0:=hh eg;have gt:=hh a4;have gy:=hh le;have ix:=hh k6;clear eg a4 le k6 HC m0 fc;refine so (fun cu a0=>aA (fun i=>i==8) ct cu∧At cu 8 (.pointer (some ⟨ad.heap.size,0,none⟩))∧a0=ad.alloc (.cells #[.int .i64 0] 72)) ?_ ?_
   ·have bd:aA (fun i=>i==8) ct ct:=aA.refl _ _
    obtain⟨T,d⟩:=ct;refine rl ?_;with_reducible refine st ?_
    refine ln ⟨rfl,ag,aq,rfl⟩
   rintro cu a0 ⟨bl,id,dk⟩;replace Z:=bl.Q7 Z rfl;replace b1:=bl.Q7 b1 rfl;have fx:=bl.size.trans d3;have gd:=bl.defers.trans e2;obtain⟨te,hu⟩:∃z,z=ad.heap.size:=⟨_,rfl⟩;rw[←hu]at id;have fe:Var a0 te 72 (.int .i64 0):=by unfold Var;rw[dk,hu];exact heap_alloc_new _ _
   have e7:Kz ad a0:=by rw[dk];exact(aB.refl _ _).alloc _
   have hw:=k0.out.keep e7 (fun h=>h);have ho:=(e7.block eb (aG gy.out) (fun h=>h)).trans gy.out;have la:=k0.out.lt;have l4:=hh (show ad.heap.size≤te by omega);have ms:te≠tb:=by omega
   have lo:te≠eb:=by have:=aG gy.out;omega
   have m6:te≠pb:=by have h1:=f6.out.lt;have h2:=gt.out.size;omega
   have c2:a0.cell? ⟨eb,2,none⟩=some (.iface 72 (.int .i64 (gr.2 m.2))):=cr ho rfl;have k5:=(e7.cell (p:=⟨0,0,none⟩) (World.block_lt_of_cell? _ ⟨0,0,none⟩ ix.out) (fun h=>h)).trans ix.out;have O:=wQ eb te (gr.2 m.2) a0 k5 c2 fe;have v7:a0.cell? ⟨tb,0,none⟩=some (.pointer (some ⟨eb,0,none⟩)):=hw.cell;have HC:=hh O;have k1:=hh hw;have kk:=hh ho;have l2:=hh e7;clear dk hu fe e7 hw ho c2 k5 O la;refine so (fun d5 a3=>aA (fun i=>(rg 43 46 i)) cu d5∧Var a3 te 72 (.int .i64 (gr.2 m.2))∧aB (fun k=>k=te) a0 a3) ?_ ?_
   ·have bd:aA (fun i=>(rg 43 46 i)) cu cu:=aA.refl _ _
    obtain⟨T,d⟩:=cu;refine rl ?_
    iterate 3 with_reducible refine st ?_
    with_reducible refine Lz (fun K hK=>?_)
    go_simp;refine HC.out.mono ?_;rintro e w2 ⟨rfl,eg,a4⟩;with_reducible refine hK _ _ ?_;clear hK K
    refine ln ⟨rfl,?_,?_,?_⟩
    ·exact ag
    ·exact eg
    ·exact a4
   rintro d5 a3 ⟨a8,lp,gf⟩;replace Z:=a8.Q7 Z rfl;replace b1:=a8.Q7 b1 rfl;replace id:=a8.Q7 id rfl;have d9:=a8.size.trans fx;have e5:=a8.defers.trans gd;have v7:a3.cell? ⟨tb,0,none⟩=some (.pointer (some ⟨eb,0,none⟩)):=(gf.cell (p:=⟨tb,0,none⟩) k1.out.lt (fun h=>ms h.symm)).trans k1.out.cell;have v8:a3.cell? ⟨te,0,none⟩=some (.int .i64 (gr.2 m.2)):=lp.cell;have c0:a3.cell? ⟨eb,0,none⟩=some (.int .i64 m.1):=cr ((gf.block eb (aG kk.out) (fun h=>lo h.symm)).trans kk.out) rfl;have gw:Hid (Kz w a3):=hh ((((((f2.out.trans HK.out (fun i hi e=>by have:=gx.out;omega)).trans f3.out (fun i hi e=>by have:=gx.out;omega)).trans f4.out (fun _ _ h=>h)).trans gt.out (fun i hi e=>by have h1:=ky.out;have h2:=f3.out.size;have h3:=HK.out.size;have h4:=f2.out.size;omega)).trans l2.out (fun _ _ h=>h)).trans gf (fun i hi e=>by have h0:=gt.out.size;have h1:=f4.out.size;have h2:=f3.out.size;have h3:=HK.out.size;have h4:=f2.out.size;have h5:=l4.out;omega));obtain⟨xe,h6⟩:∃x:Int,x=gr.2 m.2:=⟨_,rfl⟩;rw[←h6]at v8;have l6:=hh h6;obtain⟨xa,hy⟩:∃x:Int,x=m.1:=⟨_,rfl⟩;rw[←hy]at c0;have l5:=hh hy;clear lp gf HC h6 hy;refine so (fun dl f0=>aA (fun i=>i==2||i==3||(rg 47 51 i)) d5 dl∧At dl 2 (.int .i64 xa)∧At dl 3 (.int .i64 xe)∧f0=a3.drew) ?_ ?_
   ·have bd:aA (fun i=>i==2||i==3||(rg 47 51 i)) d5 d5:=aA.refl _ _
    obtain⟨T,d⟩:=d5;refine wp_region_still_lit (by kernel_rfl) (by kernel_rfl) ?_
    iterate 7 with_reducible refine sl ?_
    with_reducible refine wpStill_nil ?_
    refine⟨rfl,ag,aq,aq,rfl⟩
   rintro dl f0 ⟨d0,h8,h9,gg⟩;have m5:=d0.size.trans d9;have mc:=d0.defers.trans e5;refine wp_ret ?_
   repeat (first|with_reducible apply b8|with_reducible apply bG)
   refine bodyPost_ret (v := .tuple #[.int .i64 xa,.int .i64 xe]) (kq rfl h8 h9 (by omega) (by omega)) mc ?_;refine⟨⟨xa,xe,rfl,?_⟩,by rw[gg];exact gw.out.drew⟩;rw[l5.out,l6.out];exact pT HG.out jj.out el.out.1 el.out.2
 ·rintro b wr hA ⟨hL,fl,hk⟩
  have fm:=hA.size.trans d2;have he:=hA.defers.trans es;have gw:Hid (Kz w wr):=f2.out.trans hk (fun i hi e=>by have:=gx.out;omega);have k3:∀x∈l,x.1=[]:=fun x hx=>fl x (by rw[List.take_of_length_le (by omega)];exact hx)
  clear hA hL fl hk;refine so (fun ds f1=>aA (fun i=>i==2||i==3) b ds∧At ds 2 (.int .i64 0)∧At ds 3 (.int .i64 0)∧f1=wr) ?_ ?_
  ·have bd:aA (fun i=>i==2||i==3) b b:=aA.refl _ _
   obtain⟨T,d⟩:=b;refine rl ?_
   iterate 2 with_reducible refine st ?_
   refine ln ⟨rfl,ag,aq,aq,rfl⟩
  rintro ds f1 ⟨d1,h8,h9,rfl⟩;have c6:=d1.size.trans fm;have ev:=d1.defers.trans he;refine wp_ret ?_
  repeat (first|with_reducible apply b8|with_reducible apply bG)
  refine bodyPost_ret (v := .tuple #[.int .i64 0,.int .i64 0]) (kq rfl h8 h9 (by omega) (by omega)) ev ?_;exact⟨⟨0,0,rfl,lU k3⟩,gw.out⟩
end Go.Proofs.YtpblcjipmoblnaaGreatDoor
