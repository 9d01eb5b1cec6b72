import Derived.Test.YtpblcjipmoblnaaGreatDoorPlansB
import Derived.Test.YtpblcjipmoblnaaGreatDoorThings2
import Derived.Test.YtpblcjipmoblnaaGreatDoorOfC
import Derived.Test.YtpblcjipmoblnaaGreatDoorDraw
set_option maxRecDepth 100000
set_option maxHeartbeats 4000000
set_option linter.unusedVariables false
set_option linter.unusedSimpArgs false
set_option linter.unnecessarySimpa false
namespace Go.Proofs.YtpblcjipmoblnaaGreatDoor
open Go.RowKit Go.IntWalk Ck
variable {B:Nat} {w:World}
theorem qB(t:Nat)(h:t<2 ^ 64):t &&& (2 ^ 64-(7+1))=t / 8*8:=by
 apply Nat.eq_of_testBit_eq
 intro i;have b:t / 8*8=(t >>> 3) <<< 3:=by rw[Nat.shiftRight_eq_div_pow,Nat.shiftLeft_eq]
 have e:(7:Nat)=2 ^ 3-1:=rfl;rw[b,Nat.testBit_and,Nat.testBit_two_pow_sub_succ (by decide),e,Nat.testBit_two_pow_sub_one,Nat.testBit_shiftLeft,Nat.testBit_shiftRight]
 by_cases h3:i<3
 ·have a:¬ 3≤i:=by omega
  simp[h3,a]
 ·have a:3≤i:=by omega
  have d:3+(i-3)=i:=by omega
  rw[d]
  by_cases hi:i<64
  ·simp[h3,a,hi]
  ·have:t.testBit i=false:=Nat.testBit_lt_two_pow (Nat.lt_of_lt_of_le h (Nat.pow_le_pow_right (by omega) (by omega)))
   simp[this]
theorem yC{t:Nat}(h:t<9223372036854775808):bits .andNot .i64 (t:Int) 7=((t / 8*8:Nat):Int):=by
 show IntKind.i64.wrap ((BitVec.ofInt 64 (t:Int) &&& ~~~(7#64)).toNat:Int)=_;rw[BitVec.ofInt_natCast];have hv:(BitVec.ofNat 64 t &&& ~~~7#64).toNat=t / 8*8:=by
  rw[BitVec.toNat_and,BitVec.toNat_not,BitVec.toNat_ofNat,Nat.mod_eq_of_lt (by omega)];exact qB t (by omega)
 rw[hv];exact IntWalk.i64_in _ (by omega)
theorem xZ(M:Nat)(y:cK):(ay M y).1≤4096:=by
 unfold ay Ln.dC;simp only;split
 ·simp
 ·split
  ·simp
  ·unfold Ln.ew
   split
   ·simp
   ·simp;omega
theorem pc(x:eZ)(c:Nat):cE ay x c≤4096:=by
 unfold cE;split
 ·exact xZ _ _
 ·omega
def db(x:eZ):Nat→Nat
 | 0=>0
 | j+1=>db x j+(8+8*cE ay x j)
theorem kP(x:eZ):∀j,db x j≤j*32776
 | 0=>Nat.le_refl _
 | j+1=>by have:=kP x j;have:=pc x j;simp only[db];omega
theorem kp(x:eZ):db x 4=32+8*(cE ay x 0+cE ay x 1+cE ay x 2+cE ay x 3):=by simp only[db];omega
def jR(l:List Ck.Region):Nat:=(l.map fun x=>24+(x.text.size+7) / 8*8).sum
def fV(l:List eZ):Nat:=(l.map fun x=>32+8*(cE ay x 0+cE ay x 1+cE ay x 2+cE ay x 3)).sum
theorem tR(l:List Ck.Region)(x:Ck.Region):jR (l++[x])=jR l+(24+(x.text.size+7) / 8*8):=by simp[jR]
theorem rR(l:List eZ)(x:eZ):fV (l++[x])=fV l+db x 4:=by rw[kp];simp[fV]
theorem lI:∀(l:List Ck.Region),(∀x∈l,x.text.size≤2097152)→jR l≤l.length*2097192
 | [],_=>Nat.le_refl _
 | x::t,h=>by
  have b:=lI t fun y a=>h y (List.mem_cons_of_mem _ a)
  have d:=h x List.mem_cons_self;have e:jR (x::t)=(24+(x.text.size+7) / 8*8)+jR t:=by simp[jR]
  rw[e,List.length_cons];omega
theorem lh:∀(l:List eZ),fV l≤l.length*131104
 | []=>Nat.le_refl _
 | x::t=>by
  have a:=lh t;have b:=kP x 4;have e:fV (x::t)=db x 4+fV t:=by rw[kp];simp[fV]
  rw[e,List.length_cons];omega
theorem mP{ls:List cK}{c0:Nat}:(iY ls c0 = -1∧ls.find? (fun y=>decide (y.QP=c0))=none)∨∃(k:Nat) (y:cK),iY ls c0=k∧ls[k]?=some y∧ls.find? (fun y=>decide (y.QP=c0))=some y:=by
 by_cases h:∀y∈ls,y.QP≠c0
 ·exact .inl ⟨qV h,List.find?_eq_none.2 fun y b=>by simpa using h y b⟩
 ·right
  simp only[Classical.not_forall]at h;obtain⟨y,b,a⟩:=h;have a:y.QP=c0:=Classical.not_not.1 a;obtain⟨k,hk⟩:∃k,ls.findIdx? (fun y=>decide (y.QP=c0))=some k:=by
   rw[←Option.isSome_iff_exists,List.findIdx?_isSome,List.any_eq_true];exact⟨y,b,by simpa using a⟩
  obtain⟨d,e,g⟩:=List.findIdx?_eq_some_iff_getElem.1 hk;refine⟨k,ls[k],?_,Ez d,?_⟩
  ·unfold iY;rw[hk]
  ·rw[List.find?_eq_some_iff_getElem]
   exact⟨e,k,d,rfl,fun j i=>by simpa using g j i⟩
theorem uX{v:aV}{P:aC}(hp:cX B w v P)(hB:B≤w.heap.size):Calls Tryz.prog 60 #[.agg (v.cells P).toArray] w fun e w'=>e=.returned (.int .i64 (dV ay P))∧Kz w w':=by
 have n6:∀x∈P.Q5,x.text.size≤2097152:=dD hp.Q5 fun b o x hx=>hx.2.2.2.2.2.2
 obtain⟨A_rams,a3,fe,hl,hs,hq⟩:=hp.QF;obtain⟨A_devices,H,bm,d9,es,en⟩:=hp.Q4;obtain⟨A_regions,l,bt,le,ev,bd⟩:=hp.Q5;obtain⟨A_subjects,D,a7,c9,d2,d0⟩:=hp.Q3;obtain⟨A_channels,u,a5,c7,d1,dl⟩:=hp.Q8;obtain⟨A_irqs,a0,e9,hi,hr,ho⟩:=hp.QG;obtain⟨A_queues,N,cf,f0,f4,f2⟩:=hp.QC;obtain⟨A_plans,C,cx,o3,gr,cv⟩:=hp.Q9;obtain⟨A_masters,Q,bp,eg,bf,er⟩:=hp.QD;obtain⟨A_starts,Y,cl,f1,cc,f3⟩:=hp.QE;obtain⟨A_monitors,J,a6,c8,a4,ds⟩:=hp.QB;obtain⟨A_forbids,O,bo,eb,be,eo⟩:=hp.QA;have e0:(v.cells P).toArray = #[.int .i64 P.pos,.string P.name,.slice A_rams P.QF.length a3,.slice A_devices P.Q4.length H,.slice A_regions P.Q5.length l,.slice A_subjects P.Q3.length D,.slice A_channels P.Q8.length u,.slice A_irqs P.QG.length a0,.slice A_queues P.QC.length N,.slice A_plans P.Q9.length C,.slice A_masters P.QD.length Q,.slice A_starts P.QE.length Y,.slice A_monitors P.QB.length J,.slice A_forbids P.QA.length O]:=by
  rw[←fe,←bm,←bt,←a7,←a5,←e9,←cf,←cx,←bp,←cl,←a6,←bo];rfl
 rw[e0];unfold top at hs es ev d2 d1 hr f4 gr bf cc a4 be;have t3:=hh bd;have t2:=hh cv;have m1:=hh n6;clear e0 hp n6 fe hq bm en bt bd a7 d0 a5 dl e9 ho cf f2 cx cv bp er cl f3 a6 ds bo eo hl d9 c9 c7 hi f0 eg f1 c8 eb bf cc a4 be;refine az Tryz.func60 Tryz.ntmps60 rfl (by show 1≤104;decide) fun a uy hd h=>?_
 have h0:At a 0 (.agg #[.int .i64 P.pos,.string P.name,.slice A_rams P.QF.length a3,.slice A_devices P.Q4.length H,.slice A_regions P.Q5.length l,.slice A_subjects P.Q3.length D,.slice A_channels P.Q8.length u,.slice A_irqs P.QG.length a0,.slice A_queues P.QC.length N,.slice A_plans P.Q9.length C,.slice A_masters P.QD.length Q,.slice A_starts P.QE.length Y,.slice A_monitors P.QB.length J,.slice A_forbids P.QA.length O]):=h 0 _ rfl;clear h
 conv=>arg 2;whnf
 refine so (fun fm I=>aA (fun i=>i==1||i==2) a fm∧At fm 1 (.pointer (some ⟨w.heap.size,0,none⟩))∧I=w.alloc (.cells #[.int .i64 P.pos,.string P.name,.slice A_rams P.QF.length a3,.slice A_devices P.Q4.length H,.slice A_regions P.Q5.length l,.slice A_subjects P.Q3.length D,.slice A_channels P.Q8.length u,.slice A_irqs P.QG.length a0,.slice A_queues P.QC.length N,.slice A_plans P.Q9.length C,.slice A_masters P.QD.length Q,.slice A_starts P.QE.length Y,.slice A_monitors P.QB.length J,.slice A_forbids P.QA.length O] 34)) ?_ ?_
 ·have ad:aA (fun i=>i==1||i==2) a a:=aA.refl _ _
  obtain⟨T,d⟩:=a;refine rl ?_
  iterate 2 with_reducible refine st ?_
  refine ln ⟨rfl,ag,aq,rfl⟩
 rintro fm I ⟨fv,h1,f5⟩;replace h0:=fv.Q7 h0 rfl;have s5:=fv.size.trans uy;have t7:=fv.defers.trans hd;obtain⟨z,hz⟩:∃z,z=w.heap.size:=⟨_,rfl⟩;rw[←hz]at h1;have fz:I.heap[z]?=some (.cells #[.int .i64 P.pos,.string P.name,.slice A_rams P.QF.length a3,.slice A_devices P.Q4.length H,.slice A_regions P.Q5.length l,.slice A_subjects P.Q3.length D,.slice A_channels P.Q8.length u,.slice A_irqs P.QG.length a0,.slice A_queues P.QC.length N,.slice A_plans P.Q9.length C,.slice A_masters P.QD.length Q,.slice A_starts P.QE.length Y,.slice A_monitors P.QB.length J,.slice A_forbids P.QA.length O] 34 (0,0)):=by rw[f5,hz];exact heap_alloc_new _ _
 have m0:Hid (Kz w I):=hh (by rw[f5];exact(aB.refl _ _).alloc _);have HZ:Hid (z<I.heap.size∧w.heap.size≤I.heap.size):=hh ⟨aG fz,m0.out.size⟩;have q2:I.cell? ⟨z,2,none⟩=some (.slice A_rams P.QF.length a3):=cr fz rfl;have q3:I.cell? ⟨z,3,none⟩=some (.slice A_devices P.Q4.length H):=cr fz rfl;have q4:I.cell? ⟨z,4,none⟩=some (.slice A_regions P.Q5.length l):=cr fz rfl;have q5:I.cell? ⟨z,5,none⟩=some (.slice A_subjects P.Q3.length D):=cr fz rfl;have q6:I.cell? ⟨z,6,none⟩=some (.slice A_channels P.Q8.length u):=cr fz rfl;have q7:I.cell? ⟨z,7,none⟩=some (.slice A_irqs P.QG.length a0):=cr fz rfl;have q8:I.cell? ⟨z,8,none⟩=some (.slice A_queues P.QC.length N):=cr fz rfl;have q9:I.cell? ⟨z,9,none⟩=some (.slice A_plans P.Q9.length C):=cr fz rfl;have FZ:=hh fz;clear f5 hz fz h0;obtain⟨ob,li⟩:∃n:Nat,n=P.Q3.length+P.Q4.length:=⟨_,rfl⟩;have ps:IntKind.i64.wrap (((P.Q3.length:Nat):Int)+((P.Q4.length:Nat):Int))=(ob:Int):=by rw[li,i64_in _ (by omega)];omega
 obtain⟨oj,lj⟩:∃n:Nat,n=ob+P.Q8.length:=⟨_,rfl⟩;have px:IntKind.i64.wrap ((ob:Int)+((P.Q8.length:Nat):Int))=(oj:Int):=by rw[lj,i64_in _ (by omega)];omega
 obtain⟨ou,lo⟩:∃n:Nat,n=oj+P.QG.length:=⟨_,rfl⟩;have py:IntKind.i64.wrap ((oj:Int)+((P.QG.length:Nat):Int))=(ou:Int):=by rw[lo,i64_in _ (by omega)];omega
 obtain⟨o0,lp⟩:∃n:Nat,n=ou+P.QC.length:=⟨_,rfl⟩;have p0:IntKind.i64.wrap ((ou:Int)+((P.QC.length:Nat):Int))=(o0:Int):=by rw[lp,i64_in _ (by omega)];omega
 obtain⟨k5,l0⟩:∃n:Nat,n=o0+P.Q9.length:=⟨_,rfl⟩;have p1:IntKind.i64.wrap ((o0:Int)+((P.Q9.length:Nat):Int))=(k5:Int):=by rw[l0,i64_in _ (by omega)];omega
 obtain⟨o1,l1⟩:∃n:Nat,n=P.QF.length+P.Q4.length:=⟨_,rfl⟩;have p2:IntKind.i64.wrap (((P.QF.length:Nat):Int)+((P.Q4.length:Nat):Int))=(o1:Int):=by rw[l1,i64_in _ (by omega)];omega
 obtain⟨o2,l2⟩:∃n:Nat,n=16*o1:=⟨_,rfl⟩;have p5:IntKind.i64.wrap ((16:Int)*(o1:Int))=(o2:Int):=by rw[l2,i64_in _ (by omega)];omega
 obtain⟨k6,l3⟩:∃n:Nat,n=248+o2:=⟨_,rfl⟩;have p6:IntKind.i64.wrap ((248:Int)+(o2:Int))=(k6:Int):=by rw[l3,i64_in _ (by omega)];omega
 obtain⟨k7,l4⟩:∃n:Nat,n=8*k5:=⟨_,rfl⟩;have p9:IntKind.i64.wrap ((8:Int)*(k5:Int))=(k7:Int):=by rw[l4,i64_in _ (by omega)];omega
 obtain⟨d6,l5⟩:∃n:Nat,n=k6+k7:=⟨_,rfl⟩;have qf:IntKind.i64.wrap ((k6:Int)+(k7:Int))=(d6:Int):=by rw[l5,i64_in _ (by omega)];omega
 have HN:Hid (d6=248+16*(P.QF.length+P.Q4.length)+8*(P.Q3.length+P.Q4.length+P.Q8.length+P.QG.length+P.QC.length+P.Q9.length)):=hh (by omega);have o7:Hid ((k6:Int)+(k7:Int)=(d6:Int)):=hh (by omega);have u6:d6≤268435456:=by omega
 clear li lj lo lp l0 l1 l2 l3 l4 l5;refine so (fun fp it=>aA (fun i=>i==3||(rg 15 37 i)) fm fp∧At fp 3 (.int .i64 k5)∧it=I) ?_ ?_
 ·have ad:aA (fun i=>i==3||(rg 15 37 i)) fm fm:=aA.refl _ _
  obtain⟨T,d⟩:=fm;refine rl ?_
  iterate 24 with_reducible refine st ?_
  refine ln ⟨rfl,ag,aq,rfl⟩
 rintro fp it ⟨fy,k3,rfl⟩;replace h1:=fy.Q7 h1 rfl;have n2:=fy.size.trans s5;have sf:=fy.defers.trans t7;refine so (fun fr i0=>aA (fun i=>i==4||(rg 38 49 i)) fp fr∧At fr 4 (.int .i64 d6)∧i0=it) ?_ ?_
 ·have ad:aA (fun i=>i==4||(rg 38 49 i)) fp fp:=aA.refl _ _
  obtain⟨T,d⟩:=fp;refine rl ?_
  iterate 13 with_reducible refine st ?_
  refine ln ⟨rfl,?_,?_,rfl⟩
  ·exact ag
  ·rw[←o7.out];exact At.self
 rintro fr i0 ⟨c5,k4,rfl⟩;replace h1:=c5.Q7 h1 rfl;replace k3:=c5.Q7 k3 rfl;have kl:=c5.size.trans n2;have nl:=c5.defers.trans sf;clear ps px py p0 p1 p2 p5 p6 p9 qf;refine wp_seq (wp_seq (Code.wp_only (R:=fun ha i1=>aA (fun i=>(rg 50 53 i)) fr ha∧At ha 51 (.slice A_regions P.Q5.length l)∧At ha 52 (.int .i64 P.Q5.length)∧At ha 53 (.int .i64 0)∧i1=i0) ?_ ?_))
 ·have ad:aA (fun i=>(rg 50 53 i)) fr fr:=aA.refl _ _
  obtain⟨T,d⟩:=fr;refine rl ?_
  iterate 4 with_reducible refine st ?_
  refine ln ⟨rfl,ag,aq,aq,aq,rfl⟩
 rintro ha i1 ⟨b3,k1,k0,ky,rfl⟩;replace h1:=b3.Q7 h1 rfl;replace k3:=b3.Q7 k3 rfl;replace k4:=b3.Q7 k4 rfl;have e6:=b3.size.trans kl;have gf:=b3.defers.trans nl;clear k3;refine ai P.Q5.length (fun i=>i==4||i==6||(rg 53 65 i)) (fun i=>i==4||i==6||(rg 55 64 i)) (fun k a' w'=>At a' 4 (.int .i64 (d6+jR (P.Q5.take k):Nat))∧Kz i1 w') (by omega) ky k0 (by decide) rfl
  (by intro j;simp;omega) (by omega) (by decide) (fun k a1 a2 w W ⟨hI,hk⟩=>⟨W.Q7 hI rfl,hk⟩) ⟨by simpa[jR]using k4,aB.refl _ _⟩ ?_ ?_
 ·rintro n b wr n0 W fj ⟨g,hk⟩
  obtain⟨bl,off,rfl,m7,hm⟩:=t3.out (by omega);obtain⟨x,hx⟩:=ge n0;have cb:Kz w wr:=m0.out.trans hk (fun _ _ h=>h);obtain⟨hc,vn⟩:=(aK B _ _) _ _ _ _ _ (cb.below (B:=B) (by omega) (fun _ _ h=>h)) m7 (hm n x hx);have q0:=hc.c0;have r1:=hc 1 _ rfl;have r2:=hc 2 _ rfl;have r3:=hc 3 _ rfl;have r4:=hc 4 _ rfl;have r5:=hc 5 _ rfl;have r6:=hc 6 _ rfl;have r7:=hc 7 _ rfl;have r8:=hc 8 _ rfl;have r9:=hc 9 _ rfl;have bu:=W.Q7 k1 rfl;have V:=W.size.trans e6;have di:=W.defers.trans gf;have mc:=cb.size;have rj:bl<wr.heap.size:=by omega
  have nq:n≤l:=by omega
  have HX:=hh hx;have HK:=hh hk;have HA:=hh W;have h6:=aP hx;have go:Hid (jR (P.Q5.take (n+1))=jR (P.Q5.take n)+(24+(x.text.size+7) / 8*8)):=by rw[h6];exact tR _ _
  have n6:=m1.out x (List.mem_of_getElem? hx);have hu:=lI (P.Q5.take n) fun y hy=>m1.out y (List.mem_of_mem_take hy)
  have ht:(P.Q5.take n).length≤2097152:=by simp;omega
  obtain⟨rs,e5⟩:∃r,r=jR (P.Q5.take n):=⟨_,rfl⟩;rw[←e5]at go hu g;have s3:rs≤4400000000000:=by omega
  clear hx hm hc W hk cb h6 e5 hu ht q2 q3 q4 q5 q6 q7 q8 q9;refine so (fun fs c2=>aA (fun i=>i==6||i==55||i==56) b fs∧At fs 6 (.pointer (some ⟨wr.heap.size,0,none⟩))∧c2=wr.alloc (.cells #[.int .i64 x.pos,.string x.name,.int .u64 x.size,.bool x.fixed,.int .u64 x.Q7,.bool x.big,.bool x.wx,.int .u64 x.fill,.bool x.QS,.string x.text] 48)) ?_ ?_
  ·have ad:aA (fun i=>i==6||i==55||i==56) b b:=aA.refl _ _
   obtain⟨T,d⟩:=b;refine rl ?_
   iterate 4 with_reducible refine st ?_
   refine ln ⟨rfl,ag,aq,rfl⟩
  rintro fs c2 ⟨a8,n9,f6⟩;replace g:=a8.Q7 g rfl;replace bu:=a8.Q7 bu rfl;replace fj:=a8.Q7 fj rfl;have M:=a8.size.trans V;have an:=a8.defers.trans di;obtain⟨zx,f8⟩:∃z,z=wr.heap.size:=⟨_,rfl⟩;rw[←f8]at n9;have t9:c2.cell? ⟨zx,9,none⟩=some (.string x.text):=by rw[cell_of_row _ _ _ _ _ _ (show c2.heap[zx]?=some (.cells #[.int .i64 x.pos,.string x.name,.int .u64 x.size,.bool x.fixed,.int .u64 x.Q7,.bool x.big,.bool x.wx,.int .u64 x.fill,.bool x.QS,.string x.text] 48 (0,0)) by rw[f6,f8];exact heap_alloc_new _ _)];rfl
  have gs:Hid (Kz wr c2):=hh (by rw[f6];exact(aB.refl _ _).alloc _);clear f6 f8 q0 r1 r2 r3 r4 r5 r6 r7 r8 r9;obtain⟨b2,b5⟩:∃n:Nat,n=d6+rs:=⟨_,rfl⟩;rw[←b5]at g;obtain⟨k8,h3⟩:∃n:Nat,n=x.text.size+7:=⟨_,rfl⟩;have u2:IntKind.i64.wrap (((x.text.size:Nat):Int)+(7:Int))=(k8:Int):=by rw[h3,i64_in _ (by omega)];omega
  have Ft61:Hid (((x.text.size:Nat):Int)+(7:Int)=(k8:Int)):=hh (by omega);obtain⟨k9,h4⟩:∃n:Nat,n=k8 / 8*8:=⟨_,rfl⟩;have u3:bits BinOp.andNot IntKind.i64 (k8:Int) 7=(k9:Int):=by rw[h4];exact yC (by omega)
  obtain⟨h8,h5⟩:∃n:Nat,n=24+k9:=⟨_,rfl⟩;have u4:IntKind.i64.wrap ((24:Int)+(k9:Int))=(h8:Int):=by rw[h5,i64_in _ (by omega)];omega
  have Ft63:Hid ((24:Int)+(k9:Int)=(h8:Int)):=hh (by omega);obtain⟨nw,d3⟩:∃n:Nat,n=b2+h8:=⟨_,rfl⟩;have ql:IntKind.i64.wrap ((b2:Int)+(h8:Int))=(nw:Int):=by rw[d3,i64_in _ (by omega)];omega
  have Fnw:Hid ((b2:Int)+(h8:Int)=(nw:Int)):=hh (by omega);have fl:Hid (nw=d6+jR (P.Q5.take (n+1))):=hh (by rw[go.out,d3,h5,h4,h3,b5];omega);clear b5 h3 h4 h5 d3 go;refine Code.wp_only (R:=fun m2 ms=>aA (fun i=>i==4||(rg 57 64 i)) fs m2∧At m2 4 (.int .i64 nw)∧ms=c2) ?_ ?_
  ·have ad:aA (fun i=>i==4||(rg 57 64 i)) fs fs:=aA.refl _ _
   obtain⟨T,d⟩:=fs;refine rl ?_
   iterate 9 with_reducible refine st ?_
   refine ln ⟨rfl,?_,?_,rfl⟩
   ·exact ag
   ·first|exact At.self|(rw[←Fnw.out];exact At.self)
  rintro m2 ms ⟨a9,fi,rfl⟩;replace bu:=a9.Q7 bu rfl;replace fj:=a9.Q7 fj rfl;replace n9:=a9.Q7 n9 rfl;have U:=a9.size.trans M;have dk:=a9.defers.trans an;refine⟨?_,?_,HK.out.trans gs.out (fun _ _ h=>h)⟩
  ·refine aA.trans (a8.mono ?_) a9 ?_<;>(intro j;simp;omega)
  ·rw[←fl.out];exact fi
 ·rintro b wr W ⟨g,hk⟩
  rw[List.take_length]at g;replace h1:=W.Q7 h1 rfl;have V:=W.size.trans e6;have di:=W.defers.trans gf;have cb:Kz w wr:=m0.out.trans hk (fun _ _ h=>h);obtain⟨b0,m6⟩:∃n:Nat,n=d6+jR P.Q5:=⟨_,rfl⟩;rw[←m6]at g;have u5:b0≤4401000000000:=by have:=lI P.Q5 m1.out;omega
  have q9:wr.cell? ⟨z,9,none⟩=some (.slice A_plans P.Q9.length C):=cr ((hk.block z (aG FZ.out) (fun h=>h)).trans FZ.out) rfl;have tl:=hh m6;have pl:=hh cb;have mc:=cb.size;clear m6 hk cb W k1 k0 ky;refine wp_seq (wp_seq (Code.wp_only (R:=fun hb i2=>aA (fun i=>(rg 66 69 i)) b hb∧At hb 67 (.slice A_plans P.Q9.length C)∧At hb 68 (.int .i64 P.Q9.length)∧At hb 69 (.int .i64 0)∧i2=wr) ?_ ?_))
  ·have ad:aA (fun i=>(rg 66 69 i)) b b:=aA.refl _ _
   obtain⟨T,d⟩:=b;refine rl ?_
   iterate 4 with_reducible refine st ?_
   refine ln ⟨rfl,ag,aq,aq,aq,rfl⟩
  rintro hb i2 ⟨c6,k1,k0,ky,rfl⟩;replace h1:=c6.Q7 h1 rfl;replace g:=c6.Q7 g rfl;have M:=c6.size.trans V;have an:=c6.defers.trans di;refine ai P.Q9.length (fun i=>i==4||(rg 8 14 i)||(rg 69 102 i)) (fun i=>i==4||(rg 8 14 i)||(rg 71 101 i)) (fun k a' w'=>At a' 4 (.int .i64 (b0+fV (P.Q9.take k):Nat))∧Kz i2 w') (by omega) ky k0 (by decide) rfl
   (by intro j;simp;omega) (by omega) (by decide) (fun k a1 a2 w W ⟨hI,hk⟩=>⟨W.Q7 hI rfl,hk⟩) ⟨by simpa[fV]using g,aB.refl _ _⟩ ?_ ?_
  ·rintro n b wr n0 W fj ⟨g,hk⟩
   obtain⟨bl,off,rfl,m7,hm⟩:=t2.out (by omega);obtain⟨x,hx⟩:=ge n0;have cb:Kz w wr:=pl.out.trans hk (fun _ _ h=>h);obtain⟨lv,hc,kk,uv,s1,v1⟩:=(ek B) _ _ _ _ _ (cb.below (B:=B) (by omega) (fun _ _ h=>h)) m7 (hm n x hx);obtain⟨A_l,hf,rfl,t6,us,sy⟩:=kk;unfold top at us;have q0:=hc.c0;have r1:=hc 1 _ rfl;have r2:=hc 2 _ rfl;have r3:=hc 3 _ rfl;have bu:=W.Q7 k1 rfl;have V:=W.size.trans M;have di:=W.defers.trans an;have mc:=cb.size;have rj:bl<wr.heap.size:=by omega
   have nq:n≤C:=by omega
   have HX:=hh hx;have HK:=hh hk;have HA:=hh W;have h6:=aP hx;have go:Hid (fV (P.Q9.take (n+1))=fV (P.Q9.take n)+db x 4):=by rw[h6];exact rR _ _
   have hu:=lh (P.Q9.take n);have ht:(P.Q9.take n).length≤2097152:=by simp;omega
   obtain⟨rs,e5⟩:∃r,r=fV (P.Q9.take n):=⟨_,rfl⟩;rw[←e5]at go hu g;have s3:rs≤300000000000:=by omega
   have t1:Hid (aT B 4 (iS B) wr (.slice A_l x.QJ.length hf) x.QJ):=⟨A_l,hf,rfl,t6,by unfold top;omega,sy⟩;clear hx hm hc W hk cb h6 e5 hu ht sy q9;refine so (fun ft c3=>aA (fun i=>i==8||i==71||i==72) b ft∧At ft 8 (.pointer (some ⟨wr.heap.size,0,none⟩))∧c3=wr.alloc (.cells #[.int .i64 x.pos,.string x.name,.int .u64 x.QN,.slice A_l x.QJ.length hf] 62)) ?_ ?_
   ·have ad:aA (fun i=>i==8||i==71||i==72) b b:=aA.refl _ _
    obtain⟨T,d⟩:=b;refine rl ?_
    iterate 4 with_reducible refine st ?_
    refine ln ⟨rfl,ag,aq,rfl⟩
   rintro ft c3 ⟨bb,af,f7⟩;replace g:=bb.Q7 g rfl;replace bu:=bb.Q7 bu rfl;replace fj:=bb.Q7 fj rfl;have M:=bb.size.trans V;have an:=bb.defers.trans di;obtain⟨zx,f8⟩:∃z,z=wr.heap.size:=⟨_,rfl⟩;rw[←f8]at af;have fx:c3.heap[zx]?=some (.cells #[.int .i64 x.pos,.string x.name,.int .u64 x.QN,.slice A_l x.QJ.length hf] 62 (0,0)):=by rw[f7,f8];exact heap_alloc_new _ _
   have gs:Hid (Kz wr c3):=hh (by rw[f7];exact(aB.refl _ _).alloc _);have pp:=hh (t1.out.below (ca B) (gs.out.below (B:=B) (by omega) (fun _ _ h=>h)));have u0:=gs.out.size;have FX:=hh fx;clear f7 f8 fx q0 r1 r2 r3;have mv:Hid (B≤c3.heap.size):=hh (by omega);clear bu fj;refine so (fun he gn=>aA (fun i=>i==73) ft he∧At he 73 (.int .u64 (0:Nat))∧gn=c3) ?_ ?_
   ·have ad:aA (fun i=>i==73) ft ft:=aA.refl _ _
    obtain⟨T,d⟩:=ft;refine rl ?_;with_reducible refine st ?_
    refine ln ⟨rfl,?_,?_,rfl⟩
    ·exact ag
    ·exact At.self
   rintro he gn ⟨b4,ta,rfl⟩;replace g:=b4.Q7 g rfl;replace af:=b4.Q7 af rfl;have U:=b4.size.trans M;have dk:=b4.defers.trans an;obtain⟨b2,b5⟩:∃n:Nat,n=b0+rs:=⟨_,rfl⟩;rw[←b5]at g;have u8:b2≤4800000000000:=by omega
   have o6:=hh b5;clear b5;refine ub 4 (fun j a' w'=>aA (fun i=>i==4||(rg 9 14 i)||(rg 73 101 i)) he a'∧At a' 73 (.int .u64 (j:Nat))∧At a' 4 (.int .i64 (b2+db x j:Nat))∧Kz gn w') (fun j a' w'=>aA (fun i=>i==4||(rg 9 14 i)||(rg 73 101 i)) he a'∧At a' 73 (.int .u64 (j:Nat))∧At a' 4 (.int .i64 (b2+db x (j+1):Nat))∧Kz gn w') (fun a=>match a.eval (.tmp 73)with|.int _ x=>x.toNat|_=>0) ⟨aA.refl _ _,ta,by simpa[db]using g,aB.refl _ _⟩ ?_ ?_ ?_ ?_ ?_
   ·rintro j a' w' ⟨W,hj,_⟩
    rw[hj.eval (by rw[W.size,U];decide)];simp
   ·rintro j a' w' sm ⟨W,hj,cd⟩
    have V:=W.size.trans U;have HR:=hh cd;have e1:decide ((j:Int)<4)=decide (j<4):=decide_eq_decide.2 (by omega);clear cd;obtain⟨T,d⟩:=a';refine rl ?_;with_reducible refine st ?_
    refine ln ⟨rfl,⟨?_,?_,?_,HR.out.2⟩,?_⟩
    ·exact ag
    ·exact At.ne hj (by decide)
    ·exact At.ne HR.out.1 (by decide)
    ·exact(At.eval At.self (by have:=V;simp at this⊢; omega))
   ·rintro j b wr sm ⟨W,hj,g,hk⟩
    replace af:=W.Q7 af rfl;have V:=W.size.trans U;have di:=W.defers.trans dk;have HA:=hh W;have pg:=hh hk;have mb:=hk.size;have v3:=kP x j;have s4:=pc x j;obtain⟨ci,nd⟩:∃n:Nat,n=b2+db x j:=⟨_,rfl⟩;rw[←nd]at g;have u7:ci≤4900000000000:=by omega
    have o5:=hh nd;have i3:=(hk.block zx (aG FX.out) (fun h=>h)).trans FX.out;have r2:wr.cell? ⟨zx,2,none⟩=some (.int .u64 x.QN):=cr i3 rfl;have r3:wr.cell? ⟨zx,3,none⟩=some (.slice A_l x.QJ.length hf):=cr i3 rfl;have t0:=hh (pp.out.below (ca B) (hk.below (B:=B) mv.out (fun _ _ h=>h)));have FXR:=hh i3;clear W hk nd i3;refine so (fun bw bc=>aA (fun i=>i==9||i==75) b bw∧At bw 9 (.pointer (some ⟨wr.heap.size,0,none⟩))∧bc=wr.alloc (.cells #[.int .u64 j] 39)) ?_ ?_
    ·have ad:aA (fun i=>i==9||i==75) b b:=aA.refl _ _
     obtain⟨T,d⟩:=b;refine rl ?_
     iterate 3 with_reducible refine st ?_
     refine ln ⟨rfl,ag,aq,rfl⟩
    rintro bw bc ⟨S,d5,d4⟩;replace g:=S.Q7 g rfl;replace af:=S.Q7 af rfl;replace hj:=S.Q7 hj rfl;have M:=S.size.trans V;have an:=S.defers.trans di;obtain⟨zc,n7⟩:∃z,z=wr.heap.size:=⟨_,rfl⟩;rw[←n7]at d5;have fc:bc.heap[zc]?=some (.cells #[.int .u64 j] 39 (0,0)):=by rw[d4,n7];exact heap_alloc_new _ _
    have ct:Kz wr bc:=by rw[d4];exact(aB.refl _ _).alloc _
    replace r2:=(ct.cell (p:=⟨zx,2,none⟩) (aG FXR.out) (fun h=>h)).trans r2;replace r3:=(ct.cell (p:=⟨zx,3,none⟩) (aG FXR.out) (fun h=>h)).trans r3;have m4:B≤bc.heap.size:=Nat.le_trans mv.out (Nat.le_trans mb ct.size);have pm:=hh (t0.out.below (ca B) (ct.below (B:=B) (Nat.le_trans mv.out mb) (fun _ _ h=>h)));have mx:=hh (qU pm.out m4 fc);have pe:=hh ct;clear d4 n7 fc ct;refine so (fun bx gb=>aA (fun i=>i==10) bw bx∧At bx 10 (.int .i64 (1:Nat))∧gb=bc) ?_ ?_
    ·have ad:aA (fun i=>i==10) bw bw:=aA.refl _ _
     obtain⟨T,d⟩:=bw;refine rl ?_;with_reducible refine st ?_
     refine ln ⟨rfl,?_,?_,rfl⟩
     ·exact ag
     ·exact At.self
    rintro bx gb ⟨L,cy,rfl⟩;replace g:=L.Q7 g rfl;replace af:=L.Q7 af rfl;replace hj:=L.Q7 hj rfl;replace d5:=L.Q7 d5 rfl;have U:=L.size.trans M;have dk:=L.defers.trans an;refine wp_seq (wp_seq (Code.wp_only (R:=fun bz d8=>aA (fun i=>i==11||(rg 76 79 i)) bx bz∧At bz 11 (.int .i64 (iY x.QJ j))∧Kz gb d8) ?_ ?_))
    ·have ad:aA (fun i=>i==11||(rg 76 79 i)) bx bx:=aA.refl _ _
     obtain⟨T,d⟩:=bx;refine rl ?_
     iterate 3 with_reducible refine st ?_
     with_reducible refine Lz (fun K hK=>?_)
     go_simp;refine mx.out.mono ?_;rintro e w2 ⟨rfl,em⟩;with_reducible refine hK _ _ ?_;clear hK K;refine st ?_
     refine ln ⟨rfl,?_,?_,?_⟩
     ·exact ag
     ·exact aq
     ·exact em
    rintro bz d8 ⟨E,c1,em⟩;replace g:=E.Q7 g rfl;replace af:=E.Q7 af rfl;replace hj:=E.Q7 hj rfl;replace d5:=E.Q7 d5 rfl;replace cy:=E.Q7 cy rfl;have hw:=E.size.trans U;have jj:=E.defers.trans dk;obtain⟨ix,nn⟩:∃i:Int,i=iY x.QJ j:=⟨_,rfl⟩;rw[←nn]at c1;have my:=hh nn;have s7:=em.size;have pd:=hh em;replace r2:=(em.cell (p:=⟨zx,2,none⟩) (World.block_lt_of_cell? _ ⟨zx,2,none⟩ r2) (fun h=>h)).trans r2;replace r3:=(em.cell (p:=⟨zx,3,none⟩) (World.block_lt_of_cell? _ ⟨zx,3,none⟩ r3) (fun h=>h)).trans r3;obtain⟨q1,nm⟩:∃b,b=decide (0≤ix):=⟨_,rfl⟩;have vs:decide ((0:Int)≤ix)=q1:=nm.symm;have pb:=hh nm;have ri:B≤d8.heap.size:=Nat.le_trans m4 s7;have tv:=hh (pm.out.below (ca B) (em.below (B:=B) m4 (fun _ _ h=>h)));clear nn nm em;refine so (fun ah X=>aA (fun i=>(rg 80 81 i)) bz ah∧At ah 81 (.bool q1)∧X=d8) ?_ ?_
    ·have ad:aA (fun i=>(rg 80 81 i)) bz bz:=aA.refl _ _
     obtain⟨T,d⟩:=bz;refine rl ?_
     iterate 2 with_reducible refine st ?_
     refine ln ⟨rfl,ag,aq,rfl⟩
    rintro ah X ⟨q,h7,rfl⟩;replace g:=q.Q7 g rfl;replace af:=q.Q7 af rfl;replace hj:=q.Q7 hj rfl;replace d5:=q.Q7 d5 rfl;replace cy:=q.Q7 cy rfl;replace c1:=q.Q7 c1 rfl;have cw:=q.size.trans hw;have el:=q.defers.trans jj;have t4:Hid (∀(k:Nat) (y:cK),iY x.QJ j=k→x.QJ[k]?=some y→cE ay x j=(ay x.QN y).1):=hh fun k y hk hy=>by
     rcases mP (ls:=x.QJ) (c0:=j)with⟨e,_⟩|⟨k2,y2,e,e2,e3⟩
     ·rw[hk]at e;omega
     ·have:k=k2:=by rw[hk]at e;omega
      subst this;obtain rfl:y=y2:=Option.some.inj (hy.symm.trans e2);unfold cE;rw[e3]
    refine wp_cond_split (h7.eval (by omega)) (fun hg=>?_) (fun hg=>?_)
    ·have hn:0≤ix:=by have h1:=pb.out;rw[hg]at h1;exact of_decide_eq_true h1.symm
     obtain⟨k,y,ss,nu⟩:∃(k:Nat) (y:cK),iY x.QJ j=k∧x.QJ[k]?=some y:=by
      rcases mP (ls:=x.QJ) (c0:=j)with⟨e,_⟩|⟨k2,y2,e,e2,e3⟩
      ·rw[my.out,e]at hn;omega
      ·exact⟨k2,y2,e,e2⟩
     have up:k<x.QJ.length:=(List.getElem?_eq_some_iff.1 nu).1;obtain⟨_,_,e,r0,s2,s0⟩:=tv.out
     cases e
     obtain⟨lb,va,rfl,vw,ur⟩:=s0 (by omega);obtain⟨rv,i5,n1,v2,u9⟩:=ur k y nu;obtain⟨A_r,m3,rfl,ht⟩:=n1;have m5:aT B 4 ef X (.slice A_r y.runs.length m3) y.runs:=⟨A_r,m3,rfl,ht⟩;have n8:At ah 11 (.int .i64 k):=by rw[←ss,←my.out];exact c1
     refine wp_seq (sH (R:=Ln.dC x.QN y.needs y.runs) rfl r2 r3 up r0 (by unfold top at s2;omega) i5.c0 (i5 1 _ rfl) (i5 2 _ rfl) (i5 3 _ rfl) (qb x.QN y.needs A_r m3 y.runs y.pos y.QP X.drew (by unfold lim at s1;omega) (sQ m5) (by obtain⟨_,_,e2,_,h2,_⟩:=m5;unfold top at h2;omega) (sR (w:=X.drew) (m5.below (aK _ _ _) (((aB.refl (fun _=>False) X).drew).below (B:=B) ri (fun _ _ h=>h))) ri)) ah (by omega) af n8 _ ?_);intro c wz v gp ff gl la;have l6:(Ln.dC x.QN y.needs y.runs).1.length=cE ay x j:=by rw[t4.out k y ss nu];rfl
     rw[l6]at gl;obtain⟨A_v,vv,rfl⟩:∃A c,v=.slice A (cE ay x j) c:=by
      rcases gl.2 with⟨e1,e2⟩|⟨gg,cap,cu,e1,_⟩
      ·exact⟨_,_,by rw[e1,←e2]⟩
      ·exact⟨_,_,e1⟩
     have s6:=gp.size.trans cw;have t8:=gp.defers.trans el;replace g:=gp.Q7 g rfl;replace hj:=gp.Q7 hj rfl;have te:=hh gp;have sx:Kz X wz:=gH la rfl;have ts:=hh sx;obtain⟨d7,bj⟩:∃n:Nat,n=cE ay x j:=⟨_,rfl⟩;rw[←bj]at ff s4 gl;have gt:=hh bj;clear gp gl la sx bj l6;refine Code.wp_only (R:=fun b1 gd=>aA (fun i=>i==10||i==94||i==95) c b1∧At b1 10 (.int .i64 d7)∧gd=wz) ?_ ?_
     ·have ad:aA (fun i=>i==10||i==94||i==95) c c:=aA.refl _ _
      obtain⟨T,d⟩:=c;refine rl ?_
      iterate 3 with_reducible refine st ?_
      refine ln ⟨rfl,ag,aq,rfl⟩
     rintro b1 gd ⟨Z,cm,rfl⟩;replace g:=Z.Q7 g rfl;replace ff:=Z.Q7 ff rfl;replace hj:=Z.Q7 hj rfl;have n4:=Z.size.trans s6;have si:=Z.defers.trans t8;obtain⟨cp,e7⟩:∃n:Nat,n=8*d7:=⟨_,rfl⟩;have qm:IntKind.i64.wrap ((8:Int)*(d7:Int))=(cp:Int):=by rw[e7,i64_in _ (by omega)];omega
     have Ft98:Hid ((8:Int)*(d7:Int)=(cp:Int)):=hh (by omega);obtain⟨cs,e8⟩:∃n:Nat,n=8+cp:=⟨_,rfl⟩;have qq:IntKind.i64.wrap ((8:Int)+(cp:Int))=(cs:Int):=by rw[e8,i64_in _ (by omega)];omega
     have Ft99:Hid ((8:Int)+(cp:Int)=(cs:Int)):=hh (by omega);obtain⟨nw,d3⟩:∃n:Nat,n=ci+cs:=⟨_,rfl⟩;have ql:IntKind.i64.wrap ((ci:Int)+(cs:Int))=(nw:Int):=by rw[d3,i64_in _ (by omega)];omega
     have Fnw:Hid ((ci:Int)+(cs:Int)=(nw:Int)):=hh (by omega);have fl:Hid (nw=b2+db x (j+1)):=hh (by have h1:=o5.out;have h2:=gt.out;simp only[db];omega);clear e7 e8 d3;refine Code.wp_only (R:=fun gw h9=>aA (fun i=>i==4||(rg 96 100 i)) b1 gw∧At gw 4 (.int .i64 nw)∧h9=gd) ?_ ?_
     ·have ad:aA (fun i=>i==4||(rg 96 100 i)) b1 b1:=aA.refl _ _
      obtain⟨T,d⟩:=b1;refine rl ?_
      iterate 6 with_reducible refine st ?_
      refine ln ⟨rfl,?_,?_,rfl⟩
      ·exact ag
      ·first|exact At.self|(rw[←Fnw.out];exact At.self)
     rintro gw h9 ⟨ac,fi,rfl⟩;replace ff:=ac.Q7 ff rfl;replace hj:=ac.Q7 hj rfl;replace cm:=ac.Q7 cm rfl;have tb:=ac.size.trans n4;have um:=ac.defers.trans si;exact⟨(aA.trans (aA.trans (aA.trans (aA.trans (aA.trans (aA.trans (aA.trans HA.out S (by intro j;simp;omega)) L (by intro j;simp;omega)) E (by intro j;simp;omega)) q (by intro j;simp;omega)) te.out (by intro j;simp;omega)) Z (by intro j;simp;omega)) ac (by intro j;simp;omega)),hj,by rw[←fl.out];exact fi,((pg.out.trans pe.out (fun _ _ h=>h)).trans pd.out (fun _ _ h=>h)).trans ts.out (fun _ _ h=>h)⟩
    ·have hn:¬ 0≤ix:=by have h1:=pb.out;rw[hg]at h1;exact of_decide_eq_false h1.symm
     refine wp_skip ?_;have l7:cE ay x j=1:=by
      rcases mP (ls:=x.QJ) (c0:=j)with⟨e,e2⟩|⟨k2,y2,e,e2,e3⟩
      ·unfold cE;rw[e2]
      ·rw[my.out,e]at hn;omega
     obtain⟨d7,bj⟩:∃n:Nat,n=cE ay x j:=⟨_,rfl⟩;have cm:At ah 10 (.int .i64 d7):=by rw[bj,l7];exact cy
     rw[←bj]at s4;have gt:=hh bj;clear bj l7 cy;obtain⟨cp,e7⟩:∃n:Nat,n=8*d7:=⟨_,rfl⟩;have qm:IntKind.i64.wrap ((8:Int)*(d7:Int))=(cp:Int):=by rw[e7,i64_in _ (by omega)];omega
     have Ft98:Hid ((8:Int)*(d7:Int)=(cp:Int)):=hh (by omega);obtain⟨cs,e8⟩:∃n:Nat,n=8+cp:=⟨_,rfl⟩;have qq:IntKind.i64.wrap ((8:Int)+(cp:Int))=(cs:Int):=by rw[e8,i64_in _ (by omega)];omega
     have Ft99:Hid ((8:Int)+(cp:Int)=(cs:Int)):=hh (by omega);obtain⟨nw,d3⟩:∃n:Nat,n=ci+cs:=⟨_,rfl⟩;have ql:IntKind.i64.wrap ((ci:Int)+(cs:Int))=(nw:Int):=by rw[d3,i64_in _ (by omega)];omega
     have Fnw:Hid ((ci:Int)+(cs:Int)=(nw:Int)):=hh (by omega);have fl:Hid (nw=b2+db x (j+1)):=hh (by have h1:=o5.out;have h2:=gt.out;simp only[db];omega);clear e7 e8 d3;refine Code.wp_only (R:=fun gx id=>aA (fun i=>i==4||(rg 96 100 i)) ah gx∧At gx 4 (.int .i64 nw)∧id=X) ?_ ?_
     ·have ad:aA (fun i=>i==4||(rg 96 100 i)) ah ah:=aA.refl _ _
      obtain⟨T,d⟩:=ah;refine rl ?_
      iterate 6 with_reducible refine st ?_
      refine ln ⟨rfl,?_,?_,rfl⟩
      ·exact ag
      ·first|exact At.self|(rw[←Fnw.out];exact At.self)
     rintro gx id ⟨G,fi,rfl⟩;replace af:=G.Q7 af rfl;replace hj:=G.Q7 hj rfl;replace d5:=G.Q7 d5 rfl;replace c1:=G.Q7 c1 rfl;replace h7:=G.Q7 h7 rfl;replace cm:=G.Q7 cm rfl;have n3:=G.size.trans cw;have o4:=G.defers.trans el;exact⟨(aA.trans (aA.trans (aA.trans (aA.trans (aA.trans HA.out S (by intro j;simp;omega)) L (by intro j;simp;omega)) E (by intro j;simp;omega)) q (by intro j;simp;omega)) G (by intro j;simp;omega)),hj,by rw[←fl.out];exact fi,(pg.out.trans pe.out (fun _ _ h=>h)).trans pd.out (fun _ _ h=>h)⟩
   ·rintro j a' w' sm ⟨W,hj,cd⟩
    have V:=W.size.trans U;have HR:=hh cd;have e1:IntKind.u64.wrap ((j:Int)+1)=((j+1:Nat):Int):=by rw[u64_in _ (by omega)];omega
    clear cd;obtain⟨T,d⟩:=a';refine rl ?_
    iterate 2 with_reducible refine st ?_
    refine ln ⟨rfl,?_,?_,?_,HR.out.2⟩
    ·exact ag
    ·first|exact At.self|(rw[show((j+1:Nat):Int)=(j:Int)+1 from by omega];exact At.self)
    ·exact At.ne (At.ne HR.out.1 (by decide)) (by decide)
   ·rintro c wz ⟨W,hj,mk,nq⟩
    have fl:Hid (b2+db x 4=b0+fV (P.Q9.take (n+1))):=hh (by rw[go.out,o6.out];omega);rw[fl.out]at mk;exact⟨aA.trans (aA.trans (bb.m) b4 (by intro j;simp;omega)) W (by intro j;simp;omega),mk,(HK.out.trans gs.out (fun _ _ h=>h)).trans nq (fun _ _ h=>h)⟩
  ·rintro b wr W ⟨g,hk⟩
   rw[List.take_length]at g;have V:=W.size.trans M;have di:=W.defers.trans an;have me:b0+fV P.Q9=dV ay P:=by
    rw[tl.out,HN.out];unfold dV jR fV;omega
   rw[me]at g;obtain⟨tt,n5⟩:∃n:Nat,n=dV ay P:=⟨_,rfl⟩;rw[←n5]at g;have t5:=hh n5;clear n5 me;refine so (fun gy ih=>aA (fun i=>i==2||i==103) b gy∧At gy 2 (.int .i64 tt)∧ih=wr) ?_ ?_
   ·have ad:aA (fun i=>i==2||i==103) b b:=aA.refl _ _
    obtain⟨T,d⟩:=b;refine rl ?_
    iterate 2 with_reducible refine st ?_
    refine ln ⟨rfl,ag,aq,rfl⟩
   rintro gy ih ⟨c4,u1,rfl⟩;replace g:=c4.Q7 g rfl;have M:=c4.size.trans V;have an:=c4.defers.trans di;refine wp_ret ?_
   repeat (first|with_reducible apply b8|with_reducible apply bG)
   refine b9 (t:=2) rfl u1 (by rw[M];decide) an ?_;exact⟨by rw[t5.out],pl.out.trans hk (fun _ _ h=>h)⟩
theorem sM{P:aC}{m:Ck.Map}(h:ce P m=true):(ups m (aU P m.of)).length≤34:=by
 rw[lV]at h;simp only[Bool.and_eq_true,decide_eq_true_eq]at h;obtain⟨_,e,a⟩:=h;obtain⟨b,d⟩:m.Q7≤549755813888∧(aU P m.of).size≤549755813888-m.Q7:=by
  unfold below at a
  simpa using a
 simp[ups];omega
theorem lO{P:aC}:∀{l:List Ck.Map},(∀m∈l,ce P m=true)→(du P l).length≤34*l.length
 | [],_=>Nat.le_refl _
 | m::t,h=>by
  have b:=lO (l:=t) fun x hx=>h x (List.mem_cons_of_mem _ hx)
  have a:=sM (h m List.mem_cons_self);have e:du P (m::t)=(if(aU P m.of).size=0 then[]else(ups m (aU P m.of)).map (· / 512))++du P t:=by simp[du]
  rw[e,List.length_append,List.length_cons];split
  ·simp;omega
  ·rw[List.length_map];omega
theorem mG{P:aC}:∀{l:List Ck.Map},(∀m∈l,ce P m=true)→(dy P l).length≤34*l.length
 | [],_=>Nat.le_refl _
 | m::t,h=>by
  have b:=mG (l:=t) fun x hx=>h x (List.mem_cons_of_mem _ hx)
  have a:=sM (h m List.mem_cons_self);have e:dy P (m::t)=(if(aU P m.of).size=0∨(aU P m.of).big=true then[]else ups m (aU P m.of))++dy P t:=by simp[dy]
  rw[e,List.length_append,List.length_cons];split
  ·simp;omega
  ·omega
theorem qd(l:List Nat):l.eraseDups.length≤l.length:=kF (iM l) fun x hx=>List.mem_eraseDups.1 hx
theorem kK(P:aC)(l:List Ck.Map):bJ P l≤1+68*l.length:=by
 unfold bJ;split
 ·rename_i h
  have h:=List.all_eq_true.1 h;have a:=lO h;have b:=mG h;have d:=qd (du P l);have e:=qd (dy P l);omega
 ·omega
def gJ(P:aC)(ls:List (List Ck.Map)):Nat:=(ls.map (bJ P)).sum
theorem ns(P:aC)(ls:List (List Ck.Map))(l:List Ck.Map):gJ P (ls++[l])=gJ P ls+bJ P l:=by simp[gJ]
theorem jn(P:aC):∀(ls:List (List Ck.Map)),(∀l∈ls,l.length≤2097152)→gJ P ls≤ls.length*142606400
 | [],_=>by simp[gJ]
 | l::t,h=>by
  have b:=jn P t fun y a=>h y (List.mem_cons_of_mem _ a)
  have d:=h l List.mem_cons_self;have g:=kK P l;have e:gJ P (l::t)=bJ P l+gJ P t:=by simp[gJ]
  rw[e,List.length_cons];omega
theorem lu{flat:Nat→cK→Nat×Int×Int}{P:aC}{l:List Ck.Map}(b:l∈P.tabled)(a:bJ P l=0):ap flat P=0:=by
 unfold ap;rw[if_neg];intro h;have:=List.all_eq_true.1 h l b;rw[a]at this
 cases this
theorem tf{flat:Nat→cK→Nat×Int×Int}{P:aC}(h:∀l∈P.tabled,0<bJ P l):ap flat P=gJ P P.tabled+(dV flat P+4095) / 4096:=by
 unfold ap;rw[if_pos (List.all_eq_true.2 fun l a=>by simpa using h l a)];rfl
theorem wS(P:aC)(d:∀x∈P.Q5,x.text.size≤2097152)(h:P.QF.length≤2097152∧P.Q4.length≤2097152∧P.Q5.length≤2097152∧P.Q3.length≤2097152∧P.Q8.length≤2097152∧P.QG.length≤2097152∧P.QC.length≤2097152∧P.Q9.length≤2097152):dV ay P≤9000000000000:=by
 have a:=lI P.Q5 d;have b:=lh P.Q9;unfold jR at a;unfold fV at b;unfold dV;omega
def jT(l:List Ck.bE):List (List Ck.Map):=(l.map bE.maps).filter fun l=>decide (0<l.length)
theorem uO(l:List Ck.bE)(x:Ck.bE):jT (l++[x])=jT l++(if 0<x.maps.length then[x.maps]else[]):=by
 unfold jT;rw[List.map_append,List.filter_append]
 congr 1
 simp only[List.map_cons,List.map_nil,List.filter_cons,List.filter_nil]
 by_cases h:0<x.maps.length<;>simp[h]
theorem qh(l:List Ck.bE):(jT l).length≤l.length:=by
 unfold jT;exact Nat.le_trans (List.length_filter_le _ _) (by simp)
theorem jL{v:aV}{P:aC}(hp:cX B w v P)(hB:B≤w.heap.size):Calls Tryz.prog 22 #[.agg (v.cells P).toArray] w fun e w'=>e=.returned (.int .i64 (ap ay P))∧Kz w w':=by
 have ob:∀x∈P.Q3,x.maps.length≤2097152:=dD hp.Q3 fun b o x hx=>by obtain⟨_,_,_,⟨_,_,_,_,h,_⟩,_⟩:=hx;exact h
 have n5:∀x∈P.Q4,x.maps.length≤2097152:=dD hp.Q4 fun b o x hx=>by obtain⟨_,_,⟨_,_,_,_,h,_⟩,_⟩:=hx;exact h
 have o0:∀x∈P.Q5,x.text.size≤2097152:=dD hp.Q5 fun b o x hx=>hx.2.2.2.2.2.2
 have ou:=fun s=>lS hp s
 have HP:=hh hp;obtain⟨A_rams,O,e7,hq,cy,ht⟩:=hp.QF;obtain⟨A_devices,q,cb,k5,b3,b2⟩:=hp.Q4;obtain⟨A_regions,E,cf,en,a0,es⟩:=hp.Q5;obtain⟨A_subjects,g,bt,kl,bj,be⟩:=hp.Q3;obtain⟨A_channels,u,bo,d1,Z,d3⟩:=hp.Q8;obtain⟨A_irqs,N,e6,ho,cx,hs⟩:=hp.QG;obtain⟨A_queues,I,c4,fm,bb,ft⟩:=hp.QC;obtain⟨A_plans,M,di,gw,bx,gx⟩:=hp.Q9;obtain⟨A_masters,D,cd,em,b5,er⟩:=hp.QD;obtain⟨A_starts,J,c5,fp,c1,fv⟩:=hp.QE;obtain⟨A_monitors,A,bp,d2,bf,d4⟩:=hp.QB;obtain⟨A_forbids,C,cc,el,b4,eo⟩:=hp.QA;have e0:(v.cells P).toArray = #[.int .i64 P.pos,.string P.name,.slice A_rams P.QF.length O,.slice A_devices P.Q4.length q,.slice A_regions P.Q5.length E,.slice A_subjects P.Q3.length g,.slice A_channels P.Q8.length u,.slice A_irqs P.QG.length N,.slice A_queues P.QC.length I,.slice A_plans P.Q9.length M,.slice A_masters P.QD.length D,.slice A_starts P.QE.length J,.slice A_monitors P.QB.length A,.slice A_forbids P.QA.length C]:=by
  rw[←e7,←cb,←cf,←bt,←bo,←e6,←c4,←di,←cd,←c5,←bp,←cc];rfl
 rw[e0];unfold top at cy b3 a0 bj Z cx bb bx b5 c1 bf b4;have pd:=wS P o0 ⟨cy,b3,a0,bj,Z,cx,bb,bx⟩;have o5:=hh be;have o4:=hh b2;have lo:=hh ob;have la:=hh n5;have nm:=hh ou;have eb:Hid (∀w1,Kz w w1→Calls Tryz.prog 58 #[.agg #[.int .i64 P.pos,.string P.name,.slice A_rams P.QF.length O,.slice A_devices P.Q4.length q,.slice A_regions P.Q5.length E,.slice A_subjects P.Q3.length g,.slice A_channels P.Q8.length u,.slice A_irqs P.QG.length N,.slice A_queues P.QC.length I,.slice A_plans P.Q9.length M,.slice A_masters P.QD.length D,.slice A_starts P.QE.length J,.slice A_monitors P.QB.length A,.slice A_forbids P.QA.length C]] w1 fun e w'=>∃mb,e=.returned (.map (some mb))∧w1.heap.size≤mb∧mb<w'.heap.size∧cn w' mb P∧Kz w1 w'):=hh fun w1 hk=>by rw[←e0];exact jY (HP.out.below (hk.below (B:=B) hB (fun _ _ h=>h))) (Nat.le_trans hB hk.size)
 have gl:Hid (∀w1,Kz w w1→Calls Tryz.prog 60 #[.agg #[.int .i64 P.pos,.string P.name,.slice A_rams P.QF.length O,.slice A_devices P.Q4.length q,.slice A_regions P.Q5.length E,.slice A_subjects P.Q3.length g,.slice A_channels P.Q8.length u,.slice A_irqs P.QG.length N,.slice A_queues P.QC.length I,.slice A_plans P.Q9.length M,.slice A_masters P.QD.length D,.slice A_starts P.QE.length J,.slice A_monitors P.QB.length A,.slice A_forbids P.QA.length C]] w1 fun e w'=>e=.returned (.int .i64 (dV ay P))∧Kz w1 w'):=hh fun w1 hk=>by rw[←e0];exact uX (HP.out.below (hk.below (B:=B) hB (fun _ _ h=>h))) (Nat.le_trans hB hk.size)
 clear e0 hp ob n5 o0 ou e7 ht cb b2 cf es bt be bo d3 e6 hs c4 ft di gx cd er c5 fv bp d4 cc eo hq en d1 ho fm gw em fp d2 el cy a0 Z cx bb bx b5 c1 bf b4;refine az Tryz.func22 Tryz.ntmps22 rfl (by show 1≤58;decide) fun a ps hd h=>?_
 have h0:At a 0 (.agg #[.int .i64 P.pos,.string P.name,.slice A_rams P.QF.length O,.slice A_devices P.Q4.length q,.slice A_regions P.Q5.length E,.slice A_subjects P.Q3.length g,.slice A_channels P.Q8.length u,.slice A_irqs P.QG.length N,.slice A_queues P.QC.length I,.slice A_plans P.Q9.length M,.slice A_masters P.QD.length D,.slice A_starts P.QE.length J,.slice A_monitors P.QB.length A,.slice A_forbids P.QA.length C]):=h 0 _ rfl;clear h
 conv=>arg 2;whnf
 refine so (fun e9 H=>aA (fun i=>i==1||i==2) a e9∧At e9 1 (.pointer (some ⟨w.heap.size,0,none⟩))∧H=w.alloc (.cells #[.int .i64 P.pos,.string P.name,.slice A_rams P.QF.length O,.slice A_devices P.Q4.length q,.slice A_regions P.Q5.length E,.slice A_subjects P.Q3.length g,.slice A_channels P.Q8.length u,.slice A_irqs P.QG.length N,.slice A_queues P.QC.length I,.slice A_plans P.Q9.length M,.slice A_masters P.QD.length D,.slice A_starts P.QE.length J,.slice A_monitors P.QB.length A,.slice A_forbids P.QA.length C] 34)) ?_ ?_
 ·have a5:aA (fun i=>i==1||i==2) a a:=aA.refl _ _
  obtain⟨T,d⟩:=a;refine rl ?_
  iterate 2 with_reducible refine st ?_
  refine ln ⟨rfl,ag,aq,rfl⟩
 rintro e9 H ⟨fj,h1,fy⟩;replace h0:=fj.Q7 h0 rfl;have oj:=fj.size.trans ps;have pe:=fj.defers.trans hd;obtain⟨z,hz⟩:∃z,z=w.heap.size:=⟨_,rfl⟩;rw[←hz]at h1;have fz:H.heap[z]?=some (.cells #[.int .i64 P.pos,.string P.name,.slice A_rams P.QF.length O,.slice A_devices P.Q4.length q,.slice A_regions P.Q5.length E,.slice A_subjects P.Q3.length g,.slice A_channels P.Q8.length u,.slice A_irqs P.QG.length N,.slice A_queues P.QC.length I,.slice A_plans P.Q9.length M,.slice A_masters P.QD.length D,.slice A_starts P.QE.length J,.slice A_monitors P.QB.length A,.slice A_forbids P.QA.length C] 34 (0,0)):=by rw[fy,hz];exact heap_alloc_new _ _
 have m0:Hid (Kz w H):=hh (by rw[fy];exact(aB.refl _ _).alloc _);have FZ:=hh fz;have q0:H.cell? ⟨z,0,none⟩=some (.int .i64 P.pos):=cr fz rfl;have q1:H.cell? ⟨z,1,none⟩=some (.string P.name):=cr fz rfl;have q2:H.cell? ⟨z,2,none⟩=some (.slice A_rams P.QF.length O):=cr fz rfl;have q3:H.cell? ⟨z,3,none⟩=some (.slice A_devices P.Q4.length q):=cr fz rfl;have q4:H.cell? ⟨z,4,none⟩=some (.slice A_regions P.Q5.length E):=cr fz rfl;have q5:H.cell? ⟨z,5,none⟩=some (.slice A_subjects P.Q3.length g):=cr fz rfl;have q6:H.cell? ⟨z,6,none⟩=some (.slice A_channels P.Q8.length u):=cr fz rfl;have q7:H.cell? ⟨z,7,none⟩=some (.slice A_irqs P.QG.length N):=cr fz rfl;have q8:H.cell? ⟨z,8,none⟩=some (.slice A_queues P.QC.length I):=cr fz rfl;have q9:H.cell? ⟨z,9,none⟩=some (.slice A_plans P.Q9.length M):=cr fz rfl;have f5:H.cell? ⟨z,10,none⟩=some (.slice A_masters P.QD.length D):=cr fz rfl;have f6:H.cell? ⟨z,11,none⟩=some (.slice A_starts P.QE.length J):=cr fz rfl;have f7:H.cell? ⟨z,12,none⟩=some (.slice A_monitors P.QB.length A):=cr fz rfl;have f8:H.cell? ⟨z,13,none⟩=some (.slice A_forbids P.QA.length C):=cr fz rfl;clear fy hz fz h0;have nl:=hh (eb.out H m0.out);clear eb;refine so (fun fc dk=>aA (fun i=>i==3||i==11||i==12) e9 fc∧∃mb,At fc 3 (.map (some mb))∧H.heap.size≤mb∧mb<dk.heap.size∧cn dk mb P∧Kz H dk) ?_ ?_
 ·have a5:aA (fun i=>i==3||i==11||i==12) e9 e9:=aA.refl _ _
  obtain⟨T,d⟩:=e9;refine rl ?_;with_reducible refine st ?_;refine Lz (fun K hK=>?_)
  go_simp;refine nl.out.mono ?_;rintro e w2 ⟨mb,rfl,pl,pm,pp,G⟩;with_reducible refine hK _ _ ?_;clear hK K;refine st ?_
  refine ln ⟨rfl,ag,mb,aq,pl,pm,pp,G⟩
 rintro fc dk ⟨fl,mb,h3,qf,ql,hm,G⟩;replace h1:=fl.Q7 h1 rfl;have l6:=fl.size.trans oj;have n3:=fl.defers.trans pe;have HM:=hh hm;have m1:Hid (Kz w dk):=m0.out.trans G (fun _ _ h=>h);have FZ2:=hh ((G.block z (aG FZ.out) (fun h=>h)).trans FZ.out);replace q0:=(G.cell (p:=⟨z,0,none⟩) (aG FZ.out) (fun h=>h)).trans q0;replace q1:=(G.cell (p:=⟨z,1,none⟩) (aG FZ.out) (fun h=>h)).trans q1;replace q2:=(G.cell (p:=⟨z,2,none⟩) (aG FZ.out) (fun h=>h)).trans q2;replace q3:=(G.cell (p:=⟨z,3,none⟩) (aG FZ.out) (fun h=>h)).trans q3;replace q4:=(G.cell (p:=⟨z,4,none⟩) (aG FZ.out) (fun h=>h)).trans q4;replace q5:=(G.cell (p:=⟨z,5,none⟩) (aG FZ.out) (fun h=>h)).trans q5;replace q6:=(G.cell (p:=⟨z,6,none⟩) (aG FZ.out) (fun h=>h)).trans q6;replace q7:=(G.cell (p:=⟨z,7,none⟩) (aG FZ.out) (fun h=>h)).trans q7;replace q8:=(G.cell (p:=⟨z,8,none⟩) (aG FZ.out) (fun h=>h)).trans q8;replace q9:=(G.cell (p:=⟨z,9,none⟩) (aG FZ.out) (fun h=>h)).trans q9;replace f5:=(G.cell (p:=⟨z,10,none⟩) (aG FZ.out) (fun h=>h)).trans f5;replace f6:=(G.cell (p:=⟨z,11,none⟩) (aG FZ.out) (fun h=>h)).trans f6;replace f7:=(G.cell (p:=⟨z,12,none⟩) (aG FZ.out) (fun h=>h)).trans f7;replace f8:=(G.cell (p:=⟨z,13,none⟩) (aG FZ.out) (fun h=>h)).trans f8;clear hm G nl;refine so (fun fe i3=>aA (fun i=>i==4) fc fe∧At fe 4 (.int .i64 (0:Nat))∧i3=dk) ?_ ?_
 ·have a5:aA (fun i=>i==4) fc fc:=aA.refl _ _
  obtain⟨T,d⟩:=fc;refine rl ?_;with_reducible refine st ?_
  refine ln ⟨rfl,?_,?_,rfl⟩
  ·exact ag
  ·exact At.self
 rintro fe i3 ⟨d0,h4,rfl⟩;replace h1:=d0.Q7 h1 rfl;replace h3:=d0.Q7 h3 rfl;have k0:=d0.size.trans l6;have l2:=d0.defers.trans n3;refine wp_seq (wp_seq (Code.wp_only (R:=fun hj i5=>aA (fun i=>(rg 13 16 i)) fe hj∧At hj 14 (.slice A_subjects P.Q3.length g)∧At hj 15 (.int .i64 P.Q3.length)∧At hj 16 (.int .i64 0)∧i5=i3) ?_ ?_))
 ·have a5:aA (fun i=>(rg 13 16 i)) fe fe:=aA.refl _ _
  obtain⟨T,d⟩:=fe;refine rl ?_
  iterate 4 with_reducible refine st ?_
  refine ln ⟨rfl,ag,aq,aq,aq,rfl⟩
 rintro hj i5 ⟨cv,ix,it,ih,rfl⟩;replace h1:=cv.Q7 h1 rfl;replace h3:=cv.Q7 h3 rfl;replace h4:=cv.Q7 h4 rfl;have e2:=cv.size.trans k0;have go:=cv.defers.trans l2;refine ai P.Q3.length (fun i=>i==2||i==4||i==6||i==7||(rg 16 29 i)) (fun i=>i==2||i==4||i==6||i==7||(rg 18 28 i)) (fun k a' w'=>At a' 4 (.int .i64 (gJ P ((P.Q3.take k).map aS.maps):Nat))∧(∀x∈P.Q3.take k,0<bJ P x.maps)∧Kz i5 w') (by omega) ih it (by decide) rfl
  (by intro j;simp;omega) (by omega) (by decide) (fun k a1 a2 w hA ⟨hI,hk⟩=>⟨hA.Q7 hI rfl,hk⟩) ⟨by simpa[gJ]using h4,by simp,aB.refl _ _⟩ ?_ ?_
 ·rintro n b wr l3 hA f4 ⟨L,S,hk⟩
  obtain⟨bl,off,rfl,l1,hr⟩:=o5.out (by omega);obtain⟨x,hx⟩:=ge l3;have an:Kz w wr:=m1.out.trans hk (fun _ _ h=>h);obtain⟨mv,rv,hc,Y,ky,_,n2,_⟩:=(dQ B) _ _ _ _ _ (an.below (B:=B) (by omega) (fun _ _ h=>h)) l1 (hr n x hx);obtain⟨A_m,cu,rfl,Y⟩:=Y;obtain⟨A_r,nq,rfl,_⟩:=ky;have lb:Hid (aT B 5 cD wr (.slice A_m x.maps.length cu) x.maps):=hh ⟨A_m,cu,rfl,Y⟩;have q0:=hc.c0;have r1:=hc 1 _ rfl;have r2:=hc 2 _ rfl;have r3:=hc 3 _ rfl;have r4:=hc 4 _ rfl;have r5:=hc 5 _ rfl;have c6:=hA.Q7 ix rfl;have ac:=hA.Q7 h3 rfl;have c2:=hA.size.trans e2;have fr:=hA.defers.trans go;have k6:=an.size;have hw:=hk.size;have n1:bl<wr.heap.size:=by omega
  have pg:n≤g:=by omega
  have gy:=aP hx;have gt:Hid (gJ P ((P.Q3.take (n+1)).map aS.maps)=gJ P ((P.Q3.take n).map aS.maps)+bJ P x.maps):=by rw[gy,List.map_append];exact ns _ _ _
  have o6:Hid (0<bJ P x.maps→∀y∈P.Q3.take (n+1),0<bJ P y.maps):=hh fun h y hy=>by
   rw[gy]at hy
   rcases List.mem_append.1 hy with h1|h1
   ·exact S y h1
   ·obtain rfl:y=x:=by simpa using h1
    exact h
  have cw:x∈P.Q3:=List.mem_of_getElem? hx;have l5:=lo.out x cw;have hu:=jn P ((P.Q3.take n).map aS.maps) (fun l hl=>by obtain⟨y,hy,rfl⟩:=List.mem_map.1 hl;exact lo.out y (List.mem_of_mem_take hy));have ev:((P.Q3.take n).map aS.maps).length≤2097152:=by simp;omega
  have mc:=kK P x.maps;have ha:Hid (x.maps∈P.tabled):=hh (List.mem_append_left _ (List.mem_map.2 ⟨x,cw,rfl⟩));obtain⟨rs,c9⟩:∃r,r=gJ P ((P.Q3.take n).map aS.maps):=⟨_,rfl⟩;rw[←c9]at gt hu L;have n9:rs≤300000000000000:=by omega
  obtain⟨tb,e5⟩:∃t,t=bJ P x.maps:=⟨_,rfl⟩;have px:tb≤200000000:=by omega
  have ds:=hh e5;have kk:=hh an;have HK:=hh hk;have HA:=hh hA;have le:=hh (show cn wr mb P from by obtain⟨nn,h⟩:=HM.out;exact⟨nn,h.keep hk (fun h=>h)⟩);clear hx hr hc hA hk an gy c9 hu ev S Y n2 mc e5 cw l5 q1 q2 q3 q4 q5 q6 q7 q8 q9 f5 f6 f7 f8;refine so (fun ff c7=>aA (fun i=>i==6||i==18||i==19) b ff∧At ff 6 (.pointer (some ⟨wr.heap.size,0,none⟩))∧c7=wr.alloc (.cells #[.int .i64 x.pos,.string x.name,.int .u64 x.QP,.bool x.stopped,.slice A_m x.maps.length cu,.slice A_r x.QR.length nq] 52)) ?_ ?_
  ·have a5:aA (fun i=>i==6||i==18||i==19) b b:=aA.refl _ _
   obtain⟨T,d⟩:=b;refine rl ?_
   iterate 4 with_reducible refine st ?_
   refine ln ⟨rfl,ag,aq,rfl⟩
  rintro ff c7 ⟨a6,f3,f0⟩;replace L:=a6.Q7 L rfl;replace ac:=a6.Q7 ac rfl;replace c6:=a6.Q7 c6 rfl;replace f4:=a6.Q7 f4 rfl;have a3:=a6.size.trans c2;have bz:=a6.defers.trans fr;obtain⟨zx,f2⟩:∃z,z=wr.heap.size:=⟨_,rfl⟩;rw[←f2]at f3;have t4:c7.cell? ⟨zx,4,none⟩=some (.slice A_m x.maps.length cu):=by rw[cell_of_row _ _ _ _ _ _ (show c7.heap[zx]?=some (.cells #[.int .i64 x.pos,.string x.name,.int .u64 x.QP,.bool x.stopped,.slice A_m x.maps.length cu,.slice A_r x.QR.length nq] 52 (0,0)) by rw[f0,f2];exact heap_alloc_new _ _)];rfl
  have bw:Kz wr c7:=by rw[f0];exact(aB.refl _ _).alloc _
  have gs:=hh bw;have a9:=jZ (lb.out.below (aK _ _ _) (bw.below (B:=B) (by omega) (fun _ _ h=>h))) (Nat.le_trans (by omega) bw.size) (mb:=mb) (by obtain⟨nn,h⟩:=le.out;exact⟨nn,h.keep bw (fun h=>h)⟩:cn c7 mb P) (Nat.lt_of_lt_of_le (by omega) bw.size) nm.out;rw[←ds.out]at a9;have HC:=hh a9;clear f0 f2 bw a9 q0 r1 r2 r3 r4 r5 c6 f4;refine so (fun fi jj=>aA (fun i=>i==7||(rg 20 23 i)) ff fi∧At fi 7 (.int .i64 tb)∧Kz c7 jj) ?_ ?_
  ·have a5:aA (fun i=>i==7||(rg 20 23 i)) ff ff:=aA.refl _ _
   obtain⟨T,d⟩:=ff;refine rl ?_
   iterate 3 with_reducible refine st ?_
   with_reducible refine Lz (fun K hK=>?_)
   go_simp;refine HC.out.mono ?_;rintro e w2 ⟨rfl,G⟩;with_reducible refine hK _ _ ?_;clear hK K;refine st ?_
   refine ln ⟨rfl,?_,?_,?_⟩
   ·exact ag
   ·exact aq
   ·exact G
  rintro fi jj ⟨bu,k1,G⟩;replace L:=bu.Q7 L rfl;replace ac:=bu.Q7 ac rfl;replace f3:=bu.Q7 f3 rfl;have d5:=bu.size.trans a3;have fs:=bu.defers.trans bz;obtain⟨ze,f1⟩:∃b,b=decide (tb=0):=⟨_,rfl⟩;have e8:((tb:Int)==0)=ze:=by rw[f1];exact dK _ 0
  have hb:=hh f1;have d9:=hh G;clear f1 G;refine wp_seq (wp_seq (Code.wp_only (R:=fun ct gr=>aA (fun i=>i==24||i==25) fi ct∧At ct 25 (.bool ze)∧gr=jj) ?_ ?_))
  ·have a5:aA (fun i=>i==24||i==25) fi fi:=aA.refl _ _
   obtain⟨T,d⟩:=fi;refine rl ?_
   iterate 2 with_reducible refine st ?_
   refine ln ⟨rfl,ag,aq,rfl⟩
  rintro ct gr ⟨a7,h8,rfl⟩;replace L:=a7.Q7 L rfl;replace ac:=a7.Q7 ac rfl;replace f3:=a7.Q7 f3 rfl;replace k1:=a7.Q7 k1 rfl;have bm:=a7.size.trans d5;have cl:=a7.defers.trans fs;refine wp_cond_split (h8.eval (by omega)) (fun hg=>?_) (fun hg=>?_)
  ·have l7:bJ P x.maps=0:=by have h1:=hb.out;rw[hg]at h1;have:=of_decide_eq_true h1.symm;rw[←ds.out];exact this
   clear HC e8;refine so (fun lp k8=>aA (fun i=>i==2) ct lp∧At lp 2 (.int .i64 (0:Nat))∧k8=gr) ?_ ?_
   ·have a5:aA (fun i=>i==2) ct ct:=aA.refl _ _
    obtain⟨T,d⟩:=ct;refine rl ?_;with_reducible refine st ?_
    refine ln ⟨rfl,?_,?_,rfl⟩
    ·exact ag
    ·exact At.self
   rintro lp k8 ⟨hn,h7,rfl⟩;have U:=hn.size.trans bm;have af:=hn.defers.trans cl;refine wp_ret ?_
   repeat (first|with_reducible apply b8|with_reducible apply bG)
   refine b9 (t:=2) rfl h7 (by rw[U];decide) af ?_;exact⟨by rw[lu ha.out l7],(kk.out.trans gs.out (fun _ _ h=>h)).trans d9.out (fun _ _ h=>h)⟩
  ·have mk:0<bJ P x.maps:=by have h1:=hb.out;rw[hg]at h1;have:=of_decide_eq_false h1.symm;rw[←ds.out];omega
   refine wp_skip ?_;obtain⟨nw,fx⟩:∃n:Nat,n=rs+tb:=⟨_,rfl⟩;have o7:IntKind.i64.wrap ((rs:Int)+(tb:Int))=(nw:Int):=by rw[fx,i64_in _ (by omega)];omega
   have Fnw:Hid ((rs:Int)+(tb:Int)=(nw:Int)):=hh (by omega);have li:=hh fx;clear fx HC e8 hg;refine Code.wp_only (R:=fun ls k9=>aA (fun i=>i==4||(rg 26 28 i)) ct ls∧At ls 4 (.int .i64 nw)∧k9=gr) ?_ ?_
   ·have a5:aA (fun i=>i==4||(rg 26 28 i)) ct ct:=aA.refl _ _
    obtain⟨T,d⟩:=ct;refine rl ?_
    iterate 4 with_reducible refine st ?_
    refine ln ⟨rfl,?_,?_,rfl⟩
    ·exact ag
    ·first|exact At.self|(rw[←Fnw.out];exact At.self)
   rintro ls k9 ⟨a8,id,rfl⟩;replace ac:=a8.Q7 ac rfl;replace f3:=a8.Q7 f3 rfl;replace k1:=a8.Q7 k1 rfl;replace h8:=a8.Q7 h8 rfl;have U:=a8.size.trans bm;have af:=a8.defers.trans cl;exact⟨(aA.trans (aA.trans (aA.trans (aA.trans (aA.refl (fun i=>i==2||i==4||i==6||i==7||(rg 18 28 i)) _) a6 (by intro j;simp;omega)) bu (by intro j;simp;omega)) a7 (by intro j;simp;omega)) a8 (by intro j;simp;omega)),by rw[gt.out,←ds.out,←li.out];exact id,o6.out mk,((HK.out.trans gs.out (fun _ _ h=>h)).trans d9.out (fun _ _ h=>h))⟩
 ·rintro b wr hA ⟨L,S,hk⟩
  rw[List.take_length]at L S;replace h1:=hA.Q7 h1 rfl;replace h3:=hA.Q7 h3 rfl;have c2:=hA.size.trans e2;have fr:=hA.defers.trans go;have an:Kz w wr:=m1.out.trans hk (fun _ _ h=>h);have k4:=jn P (P.Q3.map aS.maps) (fun l hl=>by obtain⟨y,hy,rfl⟩:=List.mem_map.1 hl;exact lo.out y hy);have ev:(P.Q3.map aS.maps).length≤2097152:=by simp;omega
  obtain⟨b0,lv⟩:∃n:Nat,n=gJ P (P.Q3.map aS.maps):=⟨_,rfl⟩;rw[←lv]at L k4;have p6:b0≤300000000000000:=by omega
  have q0:wr.cell? ⟨z,0,none⟩=some (.int .i64 P.pos):=cr ((hk.block z (aG FZ2.out) (fun h=>h)).trans FZ2.out) rfl;have q1:wr.cell? ⟨z,1,none⟩=some (.string P.name):=cr ((hk.block z (aG FZ2.out) (fun h=>h)).trans FZ2.out) rfl;have q2:wr.cell? ⟨z,2,none⟩=some (.slice A_rams P.QF.length O):=cr ((hk.block z (aG FZ2.out) (fun h=>h)).trans FZ2.out) rfl;have q3:wr.cell? ⟨z,3,none⟩=some (.slice A_devices P.Q4.length q):=cr ((hk.block z (aG FZ2.out) (fun h=>h)).trans FZ2.out) rfl;have q4:wr.cell? ⟨z,4,none⟩=some (.slice A_regions P.Q5.length E):=cr ((hk.block z (aG FZ2.out) (fun h=>h)).trans FZ2.out) rfl;have q5:wr.cell? ⟨z,5,none⟩=some (.slice A_subjects P.Q3.length g):=cr ((hk.block z (aG FZ2.out) (fun h=>h)).trans FZ2.out) rfl;have q6:wr.cell? ⟨z,6,none⟩=some (.slice A_channels P.Q8.length u):=cr ((hk.block z (aG FZ2.out) (fun h=>h)).trans FZ2.out) rfl;have q7:wr.cell? ⟨z,7,none⟩=some (.slice A_irqs P.QG.length N):=cr ((hk.block z (aG FZ2.out) (fun h=>h)).trans FZ2.out) rfl;have q8:wr.cell? ⟨z,8,none⟩=some (.slice A_queues P.QC.length I):=cr ((hk.block z (aG FZ2.out) (fun h=>h)).trans FZ2.out) rfl;have q9:wr.cell? ⟨z,9,none⟩=some (.slice A_plans P.Q9.length M):=cr ((hk.block z (aG FZ2.out) (fun h=>h)).trans FZ2.out) rfl;have f5:wr.cell? ⟨z,10,none⟩=some (.slice A_masters P.QD.length D):=cr ((hk.block z (aG FZ2.out) (fun h=>h)).trans FZ2.out) rfl;have f6:wr.cell? ⟨z,11,none⟩=some (.slice A_starts P.QE.length J):=cr ((hk.block z (aG FZ2.out) (fun h=>h)).trans FZ2.out) rfl;have f7:wr.cell? ⟨z,12,none⟩=some (.slice A_monitors P.QB.length A):=cr ((hk.block z (aG FZ2.out) (fun h=>h)).trans FZ2.out) rfl;have f8:wr.cell? ⟨z,13,none⟩=some (.slice A_forbids P.QA.length C):=cr ((hk.block z (aG FZ2.out) (fun h=>h)).trans FZ2.out) rfl;have FZ3:=hh ((hk.block z (aG FZ2.out) (fun h=>h)).trans FZ2.out);have o3:=hh lv;have kk:=hh an;have m7:=hh S;have k6:=an.size;have hw:=hk.size;have le:=hh (show cn wr mb P from by obtain⟨nn,h⟩:=HM.out;exact⟨nn,h.keep hk (fun h=>h)⟩);clear lv hk an hA ix it ih S k4 ev h4;refine wp_seq (wp_seq (Code.wp_only (R:=fun eg gd=>aA (fun i=>(rg 30 33 i)) b eg∧At eg 31 (.slice A_devices P.Q4.length q)∧At eg 32 (.int .i64 P.Q4.length)∧At eg 33 (.int .i64 0)∧gd=wr) ?_ ?_))
  ·have a5:aA (fun i=>(rg 30 33 i)) b b:=aA.refl _ _
   obtain⟨T,d⟩:=b;refine rl ?_
   iterate 4 with_reducible refine st ?_
   refine ln ⟨rfl,ag,aq,aq,aq,rfl⟩
  rintro eg gd ⟨bd,ix,it,ih,rfl⟩;replace h1:=bd.Q7 h1 rfl;replace h3:=bd.Q7 h3 rfl;replace L:=bd.Q7 L rfl;have a3:=bd.size.trans c2;have bz:=bd.defers.trans fr;refine ai P.Q4.length (fun i=>i==2||i==4||i==9||i==10||(rg 33 50 i)) (fun i=>i==2||i==4||i==9||i==10||(rg 35 49 i)) (fun k a' w'=>At a' 4 (.int .i64 (b0+gJ P (jT (P.Q4.take k)):Nat))∧(∀l∈jT (P.Q4.take k),0<bJ P l)∧Kz gd w') (by omega) ih it (by decide) rfl
   (by intro j;simp;omega) (by omega) (by decide) (fun k a1 a2 w hA ⟨hI,hk⟩=>⟨hA.Q7 hI rfl,hk⟩) ⟨by simpa[gJ,jT]using L,by simp[jT],aB.refl _ _⟩ ?_ ?_
  ·rintro n b wr l3 hA f4 ⟨L,S,hk⟩
   obtain⟨bl,off,rfl,l1,hr⟩:=o4.out (by omega);obtain⟨x,hx⟩:=ge l3;have an:Kz w wr:=kk.out.trans hk (fun _ _ h=>h);obtain⟨mv,hc,Y,_⟩:=(eT B) _ _ _ _ _ (an.below (B:=B) (by omega) (fun _ _ h=>h)) l1 (hr n x hx);obtain⟨A_m,cu,rfl,Y⟩:=Y;have lb:Hid (aT B 5 cD wr (.slice A_m x.maps.length cu) x.maps):=hh ⟨A_m,cu,rfl,Y⟩;have q0:=hc.c0;have r1:=hc 1 _ rfl;have r2:=hc 2 _ rfl;have r3:=hc 3 _ rfl;have r4:=hc 4 _ rfl;have c6:=hA.Q7 ix rfl;have ac:=hA.Q7 h3 rfl;have c2:=hA.size.trans a3;have fr:=hA.defers.trans bz;have k6:=an.size;have hw:=hk.size;have n1:bl<wr.heap.size:=by omega
   have pg:n≤q:=by omega
   have gy:=aP hx;have gt:Hid (jT (P.Q4.take (n+1))=jT (P.Q4.take n)++(if 0<x.maps.length then[x.maps]else[])):=by rw[gy];exact uO _ _
   have cw:x∈P.Q4:=List.mem_of_getElem? hx;have l5:=la.out x cw;have hu:=jn P (jT (P.Q4.take n)) (fun l hl=>by obtain⟨y,hy,rfl⟩:=List.mem_map.1 (List.mem_filter.1 hl).1;exact la.out y (List.mem_of_mem_take hy));have ev:=qh (P.Q4.take n);have n8:(P.Q4.take n).length≤2097152:=by simp;omega
   have mc:=kK P x.maps;have ha:Hid (0<x.maps.length→x.maps∈P.tabled):=hh fun h=>List.mem_append_right _ (List.mem_filter.2 ⟨List.mem_map.2 ⟨x,cw,rfl⟩,by simpa using h⟩)
   obtain⟨dl,n4⟩:∃r,r=jT (P.Q4.take n):=⟨_,rfl⟩;rw[←n4]at gt hu L S ev;obtain⟨rs,c9⟩:∃r,r=b0+gJ P dl:=⟨_,rfl⟩;rw[←c9]at L;have n9:rs≤700000000000000:=by omega
   obtain⟨tb,e5⟩:∃t,t=bJ P x.maps:=⟨_,rfl⟩;have px:tb≤200000000:=by omega
   have ds:=hh e5;have nd:=hh c9;have m2:=hh an;have HK:=hh hk;have m6:=hh S;have m5:=hh (show cn wr mb P from by obtain⟨nn,h⟩:=le.out;exact⟨nn,h.keep hk (fun h=>h)⟩);skip;clear hx hr hc hA hk an gy n4 c9 hu ev n8 S Y mc e5 cw l5 q1 q2 q3 q4 q5 q6 q7 q8 q9 f5 f6 f7 f8;refine so (fun cm bc=>aA (fun i=>i==9||i==35||i==36) b cm∧At cm 9 (.pointer (some ⟨wr.heap.size,0,none⟩))∧bc=wr.alloc (.cells #[.int .i64 x.pos,.string x.name,.int .u64 x.Q7,.int .u64 x.size,.slice A_m x.maps.length cu] 45)) ?_ ?_
   ·have a5:aA (fun i=>i==9||i==35||i==36) b b:=aA.refl _ _
    obtain⟨T,d⟩:=b;refine rl ?_
    iterate 4 with_reducible refine st ?_
    refine ln ⟨rfl,ag,aq,rfl⟩
   rintro cm bc ⟨Q,d7,d6⟩;replace L:=Q.Q7 L rfl;replace ac:=Q.Q7 ac rfl;replace c6:=Q.Q7 c6 rfl;replace f4:=Q.Q7 f4 rfl;have a3:=Q.size.trans c2;have bz:=Q.defers.trans fr;obtain⟨zx,f2⟩:∃z,z=wr.heap.size:=⟨_,rfl⟩;rw[←f2]at d7;have t4:bc.cell? ⟨zx,4,none⟩=some (.slice A_m x.maps.length cu):=by rw[cell_of_row _ _ _ _ _ _ (show bc.heap[zx]?=some (.cells #[.int .i64 x.pos,.string x.name,.int .u64 x.Q7,.int .u64 x.size,.slice A_m x.maps.length cu] 45 (0,0)) by rw[d6,f2];exact heap_alloc_new _ _)];rfl
   have bw:Kz wr bc:=by rw[d6];exact(aB.refl _ _).alloc _
   have gs:=hh bw;have a9:=jZ (lb.out.below (aK _ _ _) (bw.below (B:=B) (by omega) (fun _ _ h=>h))) (Nat.le_trans (by omega) bw.size) (mb:=mb) (by obtain⟨nn,h⟩:=m5.out;exact⟨nn,h.keep bw (fun h=>h)⟩:cn bc mb P) (Nat.lt_of_lt_of_le (by omega) bw.size) nm.out;rw[←ds.out]at a9;have HC:=hh a9;clear d6 f2 bw a9 q0 r1 r2 r3 r4 c6 f4;obtain⟨me,l4⟩:∃b,b=decide (x.maps.length=0):=⟨_,rfl⟩;have o2:((x.maps.length:Int)==0)=me:=by rw[l4];exact dK _ 0
   have m4:=hh l4;clear l4;refine wp_seq (wp_seq (Code.wp_only (R:=fun cp gf=>aA (fun i=>(rg 37 40 i)) cm cp∧At cp 40 (.bool me)∧gf=bc) ?_ ?_))
   ·have a5:aA (fun i=>(rg 37 40 i)) cm cm:=aA.refl _ _
    obtain⟨T,d⟩:=cm;refine rl ?_
    iterate 4 with_reducible refine st ?_
    refine ln ⟨rfl,ag,aq,rfl⟩
   rintro cp gf ⟨V,o1,rfl⟩;replace L:=V.Q7 L rfl;replace ac:=V.Q7 ac rfl;replace d7:=V.Q7 d7 rfl;have d5:=V.size.trans a3;have fs:=V.defers.trans bz;refine wp_cond_split (o1.eval (by omega)) (fun hg=>?_) (fun hg=>?_)
   ·have h0:¬ 0<x.maps.length:=by have h1:=m4.out;rw[hg]at h1;have:=of_decide_eq_true h1.symm;omega
    refine wp_exit ?_
    repeat with_reducible apply eh
    simp only[dg,if_true];have e1:=gt.out;rw[if_neg h0,List.append_nil]at e1;rw[e1];exact⟨(aA.trans (aA.trans (aA.refl (fun i=>i==2||i==4||i==9||i==10||(rg 35 49 i)) _) Q (by intro j;simp;omega)) V (by intro j;simp;omega)),by rw[←nd.out];exact L,m6.out,(HK.out.trans gs.out (fun _ _ h=>h))⟩
   ·have n6:0<x.maps.length:=by have h1:=m4.out;rw[hg]at h1;have:=of_decide_eq_false h1.symm;omega
    refine wp_skip ?_;have e1:=gt.out;rw[if_pos n6]at e1;have my:=hh e1;clear e1 hg o2;refine so (fun cs gg=>aA (fun i=>i==10||(rg 41 44 i)) cp cs∧At cs 10 (.int .i64 tb)∧Kz gf gg) ?_ ?_
    ·have a5:aA (fun i=>i==10||(rg 41 44 i)) cp cp:=aA.refl _ _
     obtain⟨T,d⟩:=cp;refine rl ?_
     iterate 3 with_reducible refine st ?_
     with_reducible refine Lz (fun K hK=>?_)
     go_simp;refine HC.out.mono ?_;rintro e w2 ⟨rfl,G⟩;with_reducible refine hK _ _ ?_;clear hK K;refine st ?_
     refine ln ⟨rfl,?_,?_,?_⟩
     ·exact ag
     ·exact aq
     ·exact G
    rintro cs gg ⟨a4,gp,G⟩;replace L:=a4.Q7 L rfl;replace ac:=a4.Q7 ac rfl;replace d7:=a4.Q7 d7 rfl;have bm:=a4.size.trans d5;have cl:=a4.defers.trans fs;obtain⟨ze,f1⟩:∃b,b=decide (tb=0):=⟨_,rfl⟩;have e8:((tb:Int)==0)=ze:=by rw[f1];exact dK _ 0
    have hb:=hh f1;have d9:=hh G;clear f1 G;refine wp_seq (wp_seq (Code.wp_only (R:=fun ad d8=>aA (fun i=>i==45||i==46) cs ad∧At ad 46 (.bool ze)∧d8=gg) ?_ ?_))
    ·have a5:aA (fun i=>i==45||i==46) cs cs:=aA.refl _ _
     obtain⟨T,d⟩:=cs;refine rl ?_
     iterate 2 with_reducible refine st ?_
     refine ln ⟨rfl,ag,aq,rfl⟩
    rintro ad d8 ⟨W,h9,rfl⟩;replace L:=W.Q7 L rfl;replace ac:=W.Q7 ac rfl;replace d7:=W.Q7 d7 rfl;replace gp:=W.Q7 gp rfl;have U:=W.size.trans bm;have af:=W.defers.trans cl;refine wp_cond_split (h9.eval (by omega)) (fun hg=>?_) (fun hg=>?_)
    ·have l7:bJ P x.maps=0:=by have h1:=hb.out;rw[hg]at h1;have:=of_decide_eq_true h1.symm;rw[←ds.out];exact this
     clear HC e8;refine so (fun he i0=>aA (fun i=>i==2) ad he∧At he 2 (.int .i64 (0:Nat))∧i0=d8) ?_ ?_
     ·have a5:aA (fun i=>i==2) ad ad:=aA.refl _ _
      obtain⟨T,d⟩:=ad;refine rl ?_;with_reducible refine st ?_
      refine ln ⟨rfl,?_,?_,rfl⟩
      ·exact ag
      ·exact At.self
     rintro he i0 ⟨gn,h7,rfl⟩;have c3:=gn.size.trans U;have c8:=gn.defers.trans af;refine wp_ret ?_
     repeat (first|with_reducible apply b8|with_reducible apply bG)
     refine b9 (t:=2) rfl h7 (by rw[c3];decide) c8 ?_;exact⟨by rw[lu (ha.out n6) l7],(m2.out.trans gs.out (fun _ _ h=>h)).trans d9.out (fun _ _ h=>h)⟩
    ·have mk:0<bJ P x.maps:=by have h1:=hb.out;rw[hg]at h1;have:=of_decide_eq_false h1.symm;rw[←ds.out];omega
     refine wp_skip ?_;obtain⟨nw,fx⟩:∃n:Nat,n=rs+tb:=⟨_,rfl⟩;have o7:IntKind.i64.wrap ((rs:Int)+(tb:Int))=(nw:Int):=by rw[fx,i64_in _ (by omega)];omega
     have Fnw:Hid ((rs:Int)+(tb:Int)=(nw:Int)):=hh (by omega);have li:=hh fx;clear fx HC e8 hg;refine Code.wp_only (R:=fun hf i1=>aA (fun i=>i==4||(rg 47 49 i)) ad hf∧At hf 4 (.int .i64 nw)∧i1=d8) ?_ ?_
     ·have a5:aA (fun i=>i==4||(rg 47 49 i)) ad ad:=aA.refl _ _
      obtain⟨T,d⟩:=ad;refine rl ?_
      iterate 4 with_reducible refine st ?_
      refine ln ⟨rfl,?_,?_,rfl⟩
      ·exact ag
      ·first|exact At.self|(rw[←Fnw.out];exact At.self)
     rintro hf i1 ⟨X,id,rfl⟩;replace ac:=X.Q7 ac rfl;replace d7:=X.Q7 d7 rfl;replace gp:=X.Q7 gp rfl;replace h9:=X.Q7 h9 rfl;have c3:=X.size.trans U;have c8:=X.defers.trans af;have HV:b0+gJ P (dl++[x.maps])=nw:=by rw[ns,←ds.out,li.out,nd.out];omega
     refine⟨(aA.trans (aA.trans (aA.trans (aA.trans (aA.trans (aA.refl (fun i=>i==2||i==4||i==9||i==10||(rg 35 49 i)) _) Q (by intro j;simp;omega)) V (by intro j;simp;omega)) a4 (by intro j;simp;omega)) W (by intro j;simp;omega)) X (by intro j;simp;omega)),by rw[my.out,HV];exact id,fun l hl=>?_,((HK.out.trans gs.out (fun _ _ h=>h)).trans d9.out (fun _ _ h=>h))⟩;rw[my.out]at hl
     rcases List.mem_append.1 hl with h|h
     ·exact m6.out l h
     ·obtain rfl:l=x.maps:=by simpa using h
      exact mk
  ·rintro b wr hA ⟨L,S,hk⟩
   rw[List.take_length]at L S;replace h1:=hA.Q7 h1 rfl;have c2:=hA.size.trans a3;have fr:=hA.defers.trans bz;have an:Kz w wr:=kk.out.trans hk (fun _ _ h=>h);have n0:=jn P (jT P.Q4) (fun l hl=>by obtain⟨y,hy,rfl⟩:=List.mem_map.1 (List.mem_filter.1 hl).1;exact la.out y hy);have ev:=qh P.Q4;obtain⟨b1,l0⟩:∃n:Nat,n=b0+gJ P (jT P.Q4):=⟨_,rfl⟩;rw[←l0]at L;have p9:b1≤700000000000000:=by omega
   have n7:ap ay P=b1+(dV ay P+4095) / 4096:=by
    rw[tf (fun l hl=>by
     rcases List.mem_append.1 hl with h|h
     ·obtain⟨y,hy,rfl⟩:=List.mem_map.1 h;exact m7.out y hy
     ·exact S l h),l0,o3.out]
    congr 1
    unfold aC.tabled gJ jT;simp
   replace q0:=(hk.cell (p:=⟨z,0,none⟩) (aG FZ3.out) (fun h=>h)).trans q0;replace q1:=(hk.cell (p:=⟨z,1,none⟩) (aG FZ3.out) (fun h=>h)).trans q1;replace q2:=(hk.cell (p:=⟨z,2,none⟩) (aG FZ3.out) (fun h=>h)).trans q2;replace q3:=(hk.cell (p:=⟨z,3,none⟩) (aG FZ3.out) (fun h=>h)).trans q3;replace q4:=(hk.cell (p:=⟨z,4,none⟩) (aG FZ3.out) (fun h=>h)).trans q4;replace q5:=(hk.cell (p:=⟨z,5,none⟩) (aG FZ3.out) (fun h=>h)).trans q5;replace q6:=(hk.cell (p:=⟨z,6,none⟩) (aG FZ3.out) (fun h=>h)).trans q6;replace q7:=(hk.cell (p:=⟨z,7,none⟩) (aG FZ3.out) (fun h=>h)).trans q7;replace q8:=(hk.cell (p:=⟨z,8,none⟩) (aG FZ3.out) (fun h=>h)).trans q8;replace q9:=(hk.cell (p:=⟨z,9,none⟩) (aG FZ3.out) (fun h=>h)).trans q9;replace f5:=(hk.cell (p:=⟨z,10,none⟩) (aG FZ3.out) (fun h=>h)).trans f5;replace f6:=(hk.cell (p:=⟨z,11,none⟩) (aG FZ3.out) (fun h=>h)).trans f6;replace f7:=(hk.cell (p:=⟨z,12,none⟩) (aG FZ3.out) (fun h=>h)).trans f7;replace f8:=(hk.cell (p:=⟨z,13,none⟩) (aG FZ3.out) (fun h=>h)).trans f8;have mx:=hh (gl.out wr an);have m3:=hh an;have lj:=hh n7;clear l0 hk an hA ix it ih S n0 ev n7 h3 gl;obtain⟨ah,nu⟩:∃n:Nat,n=dV ay P:=⟨_,rfl⟩;rw[←nu]at mx lj pd;obtain⟨ms,k7⟩:∃n:Nat,n=ah+4096:=⟨_,rfl⟩;have py:IntKind.i64.wrap ((ah:Int)+(4096:Int))=(ms:Int):=by rw[k7,i64_in _ (by omega)];omega
   have Ft54:Hid ((ah:Int)+(4096:Int)=(ms:Int)):=hh (by omega);obtain⟨k2,h2⟩:∃n:Nat,n=ah+4095:=⟨_,rfl⟩;have p0:IntKind.i64.wrap ((ms:Int)-1)=(k2:Int):=by rw[h2,i64_in _ (by omega)];omega
   obtain⟨gb,h5⟩:∃n:Nat,n=k2 / 4096:=⟨_,rfl⟩;have p1:(k2:Int).tdiv 4096=(gb:Int):=by rw[h5,Int.tdiv_eq_ediv_of_nonneg (by omega)];omega
   have pb:(k2:Int) / 4096=(gb:Int):=by omega
   have p5:IntKind.i64.wrap (gb:Int)=(gb:Int):=i64_in _ (by omega);obtain⟨k3,h6⟩:∃n:Nat,n=b1+gb:=⟨_,rfl⟩;have p2:IntKind.i64.wrap ((b1:Int)+(gb:Int))=(k3:Int):=by rw[h6,i64_in _ (by omega)];omega
   have Ft57:Hid ((b1:Int)+(gb:Int)=(k3:Int)):=hh (by omega);have HV:Hid (k3=ap ay P):=hh (by rw[lj.out,h6,h5,h2]);clear nu k7 h2 h5 h6 lj;refine so (fun hi i2=>aA (fun i=>i==2||(rg 51 57 i)) b hi∧At hi 2 (.int .i64 k3)∧Kz wr i2) ?_ ?_
   ·have a5:aA (fun i=>i==2||(rg 51 57 i)) b b:=aA.refl _ _
    obtain⟨T,d⟩:=b;refine rl ?_
    iterate 2 with_reducible refine st ?_
    with_reducible refine Lz (fun K hK=>?_)
    go_simp;refine mx.out.mono ?_;rintro e w2 ⟨rfl,G⟩;with_reducible refine hK _ _ ?_;clear hK K
    iterate 5 with_reducible refine st ?_
    refine ln ⟨rfl,?_,?_,?_⟩
    ·exact ag
    ·first|exact At.self|(rw[←Ft57.out];exact At.self)
    ·exact G
   rintro hi i2 ⟨ci,h7,G⟩;replace h1:=ci.Q7 h1 rfl;replace L:=ci.Q7 L rfl;have a3:=ci.size.trans c2;have bz:=ci.defers.trans fr;refine wp_ret ?_
   repeat (first|with_reducible apply b8|with_reducible apply bG)
   refine b9 (t:=2) rfl h7 (by rw[a3];decide) bz ?_;exact⟨by rw[HV.out],m3.out.trans G (fun _ _ h=>h)⟩
theorem pU{v:aV}{P:aC}(hp:cX B w v P)(hB:B≤w.heap.size){A:Option Addr}{c:Nat}{l:List Ck.Map}(hs:aT B 5 cD w (.slice A l.length c) l):
 Calls Tryz.prog 34 #[.slice A l.length c,.agg (v.cells P).toArray] w fun e w'=>e=.returned (.int .i64 (bJ P l))∧Kz w w':=by
 have cy:=fun s=>lS hp s
 have HP:=hh hp;obtain⟨A_rams,E,be,b2,cc,b5⟩:=hp.QF;obtain⟨A_devices,p,J,a0,a8,a4⟩:=hp.Q4;obtain⟨A_regions,u,N,a3,bc,a7⟩:=hp.Q5;obtain⟨A_subjects,j,I,X,ah,ac⟩:=hp.Q3;obtain⟨A_channels,b,G,V,ad,Y⟩:=hp.Q8;obtain⟨A_irqs,D,bd,b1,cb,b4⟩:=hp.QG;obtain⟨A_queues,x,O,bj,bp,bm⟩:=hp.QC;obtain⟨A_plans,C,R,bx,b0,bz⟩:=hp.Q9;obtain⟨A_masters,r,M,a2,bb,a6⟩:=hp.QD;obtain⟨A_starts,y,Q,bl,bt,bo⟩:=hp.QE;obtain⟨A_monitors,g,H,W,af,Z⟩:=hp.QB;obtain⟨A_forbids,q,L,a1,a9,a5⟩:=hp.QA;have e0:(v.cells P).toArray = #[.int .i64 P.pos,.string P.name,.slice A_rams P.QF.length E,.slice A_devices P.Q4.length p,.slice A_regions P.Q5.length u,.slice A_subjects P.Q3.length j,.slice A_channels P.Q8.length b,.slice A_irqs P.QG.length D,.slice A_queues P.QC.length x,.slice A_plans P.Q9.length C,.slice A_masters P.QD.length r,.slice A_starts P.QE.length y,.slice A_monitors P.QB.length g,.slice A_forbids P.QA.length q]:=by
  rw[←be,←J,←N,←I,←G,←bd,←O,←R,←M,←Q,←H,←L];rfl
 rw[e0];have c3:=hh cy;have HS:=hh hs;have an:Hid (∀w1,Kz w w1→Calls Tryz.prog 58 #[.agg #[.int .i64 P.pos,.string P.name,.slice A_rams P.QF.length E,.slice A_devices P.Q4.length p,.slice A_regions P.Q5.length u,.slice A_subjects P.Q3.length j,.slice A_channels P.Q8.length b,.slice A_irqs P.QG.length D,.slice A_queues P.QC.length x,.slice A_plans P.Q9.length C,.slice A_masters P.QD.length r,.slice A_starts P.QE.length y,.slice A_monitors P.QB.length g,.slice A_forbids P.QA.length q]] w1 fun e w'=>∃mb,e=.returned (.map (some mb))∧w1.heap.size≤mb∧mb<w'.heap.size∧cn w' mb P∧Kz w1 w'):=hh fun w1 hk=>by rw[←e0];exact jY (HP.out.below (hk.below (B:=B) hB (fun _ _ h=>h))) (Nat.le_trans hB hk.size)
 clear e0 hp cy hs be b5 b2 cc J a4 a0 a8 N a7 a3 bc I ac X ah G Y V ad bd b4 b1 cb O bm bj bp R bz bx b0 M a6 a2 bb Q bo bl bt H Z W af L a5 a1 a9;refine az Tryz.func34 Tryz.ntmps34 rfl (by show 2≤9;decide) fun a c7 hd h=>?_
 have h0:At a 0 (.slice A l.length c):=h 0 _ rfl;have h1:At a 1 (.agg #[.int .i64 P.pos,.string P.name,.slice A_rams P.QF.length E,.slice A_devices P.Q4.length p,.slice A_regions P.Q5.length u,.slice A_subjects P.Q3.length j,.slice A_channels P.Q8.length b,.slice A_irqs P.QG.length D,.slice A_queues P.QC.length x,.slice A_plans P.Q9.length C,.slice A_masters P.QD.length r,.slice A_starts P.QE.length y,.slice A_monitors P.QB.length g,.slice A_forbids P.QA.length q]):=h 1 _ rfl;clear h
 conv=>arg 2;whnf
 refine so (fun bf n=>aA (fun i=>i==3||i==4) a bf∧At bf 3 (.pointer (some ⟨w.heap.size,0,none⟩))∧n=w.alloc (.cells #[.int .i64 P.pos,.string P.name,.slice A_rams P.QF.length E,.slice A_devices P.Q4.length p,.slice A_regions P.Q5.length u,.slice A_subjects P.Q3.length j,.slice A_channels P.Q8.length b,.slice A_irqs P.QG.length D,.slice A_queues P.QC.length x,.slice A_plans P.Q9.length C,.slice A_masters P.QD.length r,.slice A_starts P.QE.length y,.slice A_monitors P.QB.length g,.slice A_forbids P.QA.length q] 34)) ?_ ?_
 ·have c4:aA (fun i=>i==3||i==4) a a:=aA.refl _ _
  obtain⟨T,d⟩:=a;refine rl ?_
  iterate 2 with_reducible refine st ?_
  refine ln ⟨rfl,ag,aq,rfl⟩
 rintro bf n ⟨S,h3,bu⟩;replace h0:=S.Q7 h0 rfl;replace h1:=S.Q7 h1 rfl;have cx:=S.size.trans c7;have c5:=S.defers.trans hd;obtain⟨z,hz⟩:∃z,z=w.heap.size:=⟨_,rfl⟩;rw[←hz]at h3;have fz:n.heap[z]?=some (.cells #[.int .i64 P.pos,.string P.name,.slice A_rams P.QF.length E,.slice A_devices P.Q4.length p,.slice A_regions P.Q5.length u,.slice A_subjects P.Q3.length j,.slice A_channels P.Q8.length b,.slice A_irqs P.QG.length D,.slice A_queues P.QC.length x,.slice A_plans P.Q9.length C,.slice A_masters P.QD.length r,.slice A_starts P.QE.length y,.slice A_monitors P.QB.length g,.slice A_forbids P.QA.length q] 34 (0,0)):=by rw[bu,hz];exact heap_alloc_new _ _
 have ci:Kz w n:=by rw[bu];exact(aB.refl _ _).alloc _
 have c1:=hh ci;have q0:n.cell? ⟨z,0,none⟩=some (.int .i64 P.pos):=cr fz rfl;have q1:n.cell? ⟨z,1,none⟩=some (.string P.name):=cr fz rfl;have q2:n.cell? ⟨z,2,none⟩=some (.slice A_rams P.QF.length E):=cr fz rfl;have q3:n.cell? ⟨z,3,none⟩=some (.slice A_devices P.Q4.length p):=cr fz rfl;have q4:n.cell? ⟨z,4,none⟩=some (.slice A_regions P.Q5.length u):=cr fz rfl;have q5:n.cell? ⟨z,5,none⟩=some (.slice A_subjects P.Q3.length j):=cr fz rfl;have q6:n.cell? ⟨z,6,none⟩=some (.slice A_channels P.Q8.length b):=cr fz rfl;have q7:n.cell? ⟨z,7,none⟩=some (.slice A_irqs P.QG.length D):=cr fz rfl;have q8:n.cell? ⟨z,8,none⟩=some (.slice A_queues P.QC.length x):=cr fz rfl;have q9:n.cell? ⟨z,9,none⟩=some (.slice A_plans P.Q9.length C):=cr fz rfl;have c9:n.cell? ⟨z,10,none⟩=some (.slice A_masters P.QD.length r):=cr fz rfl;have di:n.cell? ⟨z,11,none⟩=some (.slice A_starts P.QE.length y):=cr fz rfl;have dk:n.cell? ⟨z,12,none⟩=some (.slice A_monitors P.QB.length g):=cr fz rfl;have dl:n.cell? ⟨z,13,none⟩=some (.slice A_forbids P.QA.length q):=cr fz rfl;have c2:=hh (an.out n ci);clear bu hz fz h1 ci an;refine so (fun cf cd=>aA (fun i=>(rg 4 8 i)) bf cf∧At cf 4 (.int .i64 (bJ P l:Nat))∧Kz w cd) ?_ ?_
 ·have c4:aA (fun i=>(rg 4 8 i)) bf bf:=aA.refl _ _
  obtain⟨T,d⟩:=bf;refine rl ?_
  iterate 2 with_reducible refine st ?_
  with_reducible refine Lz (fun K hK=>?_)
  go_simp;refine c2.out.mono ?_;rintro e w2 ⟨mb,rfl,c6,cv,cw,ct⟩;with_reducible refine hK _ _ ?_;clear hK K
  have bw:Kz w w2:=c1.out.trans ct (fun _ _ h=>h);have b3:=jZ (HS.out.below (aK _ _ _) (bw.below (B:=B) hB (fun _ _ h=>h))) (Nat.le_trans hB bw.size) cw cv c3.out;have HC:=hh b3;have cp:=hh bw;clear c6 cv cw ct b3 bw;with_reducible refine Lz (fun K hK=>?_)
  go_simp;refine HC.out.mono ?_;rintro e w3 ⟨rfl,cu⟩;with_reducible refine hK _ _ ?_;clear hK K
  have cl:Kz w w3:=cp.out.trans cu (fun _ _ h=>h);clear cu;with_reducible refine st ?_
  refine ln ⟨rfl,?_,?_,?_⟩
  ·exact ag
  ·exact aq
  ·exact cl
 rintro cf cd ⟨U,c8,cl⟩;replace h0:=U.Q7 h0 rfl;replace h3:=U.Q7 h3 rfl;have cm:=U.size.trans cx;have cs:=U.defers.trans c5;refine wp_ret ?_
 repeat (first|with_reducible apply b8|with_reducible apply bG)
 refine b9 (t:=4) rfl c8 (by rw[cm];decide) cs ?_;exact⟨rfl,cl⟩
theorem uC{Y:Nat}{v:aV}{P:aC}(h:aF B w Y v P sq []):Calls Tryz.prog 56 #[.pointer (some ⟨Y,0,none⟩)] w fun e w'=>e=.returned (.tuple #[])∧aF B w' Y v P sq (jh ay P)∧aB (fun k=>k=Y) w w':=by
 have hp:=h.QL;have HL:=hh h;have dl:=h.base;have ds:=h.lt;have HC:Hid (∀w1,Kz w w1→∀j x,(v.cells P)[j]?=some x→w1.cell? ⟨Y,j,none⟩=some x):=hh fun w1 hk j x hj=>(HL.out.new hk).cell hj
 obtain⟨A_rams,I,bo,b4,cd,cb⟩:=hp.QF;obtain⟨A_devices,r,R,a4,bd,a8⟩:=hp.Q4;obtain⟨A_regions,A,V,a7,bj,bc⟩:=hp.Q5;obtain⟨A_subjects,q,M,af,a3,a0⟩:=hp.Q3;obtain⟨A_channels,l,J,ac,a1,ah⟩:=hp.Q8;obtain⟨A_irqs,H,bm,b3,cc,b5⟩:=hp.QG;obtain⟨A_queues,C,W,bp,bx,bu⟩:=hp.QC;obtain⟨A_plans,G,Z,b0,b2,b1⟩:=hp.Q9;obtain⟨A_masters,y,U,a6,bf,bb⟩:=hp.QD;obtain⟨A_starts,D,X,bt,bz,bw⟩:=hp.QE;obtain⟨A_monitors,p,L,ad,a2,an⟩:=hp.QB;obtain⟨A_forbids,u,S,a5,be,a9⟩:=hp.QA;have e1:v.cells P=[.int .i64 P.pos,.string P.name,.slice A_rams P.QF.length I,.slice A_devices P.Q4.length r,.slice A_regions P.Q5.length A,.slice A_subjects P.Q3.length q,.slice A_channels P.Q8.length l,.slice A_irqs P.QG.length H,.slice A_queues P.QC.length C,.slice A_plans P.Q9.length G,.slice A_masters P.QD.length y,.slice A_starts P.QE.length D,.slice A_monitors P.QB.length p,.slice A_forbids P.QA.length u]:=by
  rw[←bo,←R,←V,←M,←J,←bm,←W,←Z,←U,←X,←L,←S];rfl
 rw[e1]at HC;have e0:(v.cells P).toArray = #[.int .i64 P.pos,.string P.name,.slice A_rams P.QF.length I,.slice A_devices P.Q4.length r,.slice A_regions P.Q5.length A,.slice A_subjects P.Q3.length q,.slice A_channels P.Q8.length l,.slice A_irqs P.QG.length H,.slice A_queues P.QC.length C,.slice A_plans P.Q9.length G,.slice A_masters P.QD.length y,.slice A_starts P.QE.length D,.slice A_monitors P.QB.length p,.slice A_forbids P.QA.length u]:=by rw[e1]
 have cl:Hid (∀w1,Kz w w1→Calls Tryz.prog 22 #[.agg #[.int .i64 P.pos,.string P.name,.slice A_rams P.QF.length I,.slice A_devices P.Q4.length r,.slice A_regions P.Q5.length A,.slice A_subjects P.Q3.length q,.slice A_channels P.Q8.length l,.slice A_irqs P.QG.length H,.slice A_queues P.QC.length C,.slice A_plans P.Q9.length G,.slice A_masters P.QD.length y,.slice A_starts P.QE.length D,.slice A_monitors P.QB.length p,.slice A_forbids P.QA.length u]] w1 fun e w'=>e=.returned (.int .i64 (ap ay P))∧Kz w1 w'):=hh fun w1 hk=>by rw[←e0];exact jL (HL.out.QL.below (hk.below (B:=B) (by omega) (fun _ _ h=>h))) (Nat.le_trans (by omega) hk.size)
 clear e0 e1 hp h bo cb b4 cd R a8 a4 bd V bc a7 bj M a0 af a3 J ah ac a1 bm b5 b3 cc W bu bp bx Z b1 b0 b2 U bb a6 bf X bw bt bz L an ad a2 S a9 a5 be;obtain⟨pg,ci⟩:∃n,n=ap ay P:=⟨_,rfl⟩;rw[←ci]at cl;have HS:Hid (jh ay P=say (decide (pg≤1024)) P.pos 0):=hh (by rw[ci];rfl);clear ci;have ct:decide ((pg:Int)≤1024)=decide (pg≤1024):=decide_eq_decide.2 (by omega);obtain⟨bl,cm⟩:∃b,b=decide (pg≤1024):=⟨_,rfl⟩;rw[←cm]at ct HS;clear cm;refine az Tryz.func56 Tryz.ntmps56 rfl (by show 1≤15;decide) fun a cp hd hh=>?_
 have h0:At a 0 (.pointer (some ⟨Y,0,none⟩)):=hh 0 _ rfl;clear hh
 conv=>arg 2;whnf
 refine dW 12 (fun i=>([.pointer (some ⟨Y,0,none⟩),.pointer (some ⟨Y,0,none⟩),.pointer (some ⟨Y,0,none⟩),.pointer (some ⟨Y,0,none⟩),.agg #[.int .i64 P.pos,.string P.name,.slice A_rams P.QF.length I,.slice A_devices P.Q4.length r,.slice A_regions P.Q5.length A,.slice A_subjects P.Q3.length q,.slice A_channels P.Q8.length l,.slice A_irqs P.QG.length H,.slice A_queues P.QC.length C,.slice A_plans P.Q9.length G,.slice A_masters P.QD.length y,.slice A_starts P.QE.length D,.slice A_monitors P.QB.length p,.slice A_forbids P.QA.length u],.int .i64 (pg:Nat),.bool bl,.pointer (some ⟨Y,0,none⟩),.pointer (some ⟨Y,0,none⟩),.pointer (some ⟨Y,0,none⟩),.pointer (some ⟨Y,0,none⟩),.int .i64 P.pos]:List Value).getD i undef) (fun w'=>Kz w.drew w') (by kernel_rfl) (by kernel_rfl) (aB.refl _ _) ?_ ?_
 ·intro i o hi Q N w' K hW hb g O
  have cs:N.tmps.size=15:=hb.size.trans cp;have d4:=hb.Q7 h0 rfl;have E:Kz w w':=((aB.refl (fun _=>False) w).drew).trans hW (fun _ _ h=>h)
  match i,hi,Q,g,O with
  | 0,_,Q,g,O =>
   obtain rfl:=oi Q;obtain⟨T,d⟩:=N;go_simp;exact O _ hW
  | 1,_,Q,g,O =>
   obtain rfl:=oi Q;obtain⟨T,d⟩:=N;go_simp;exact O _ hW
  | 2,_,Q,g,O =>
   obtain rfl:=oi Q;have c3:At N 3 (.pointer (some ⟨Y,0,none⟩)):=g 1 (by kernel_rfl) (by decide) 3 rfl;obtain⟨T,d⟩:=N;go_simp;exact O _ hW
  | 3,_,Q,g,O =>
   obtain rfl:=oi Q;have c4:At N 4 (.pointer (some ⟨Y,0,none⟩)):=g 2 (by kernel_rfl) (by decide) 4 rfl;obtain⟨T,d⟩:=N;go_simp;exact O _ hW
  | 4,_,Q,g,O =>
   obtain rfl:=oi Q;have c5:At N 5 (.pointer (some ⟨Y,0,none⟩)):=g 3 (by kernel_rfl) (by decide) 5 rfl;have q0:=HC.out w' E 0 _ rfl;have q1:=HC.out w' E 1 _ rfl;have q2:=HC.out w' E 2 _ rfl;have q3:=HC.out w' E 3 _ rfl;have q4:=HC.out w' E 4 _ rfl;have q5:=HC.out w' E 5 _ rfl;have q6:=HC.out w' E 6 _ rfl;have q7:=HC.out w' E 7 _ rfl;have q8:=HC.out w' E 8 _ rfl;have q9:=HC.out w' E 9 _ rfl;have d0:=HC.out w' E 10 _ rfl;have d1:=HC.out w' E 11 _ rfl;have d2:=HC.out w' E 12 _ rfl;have d3:=HC.out w' E 13 _ rfl;obtain⟨T,d⟩:=N;go_simp;exact O _ hW
  | 5,_,Q,g,O =>
   obtain rfl:=oi Q;have c6:At N 6 (.agg #[.int .i64 P.pos,.string P.name,.slice A_rams P.QF.length I,.slice A_devices P.Q4.length r,.slice A_regions P.Q5.length A,.slice A_subjects P.Q3.length q,.slice A_channels P.Q8.length l,.slice A_irqs P.QG.length H,.slice A_queues P.QC.length C,.slice A_plans P.Q9.length G,.slice A_masters P.QD.length y,.slice A_starts P.QE.length D,.slice A_monitors P.QB.length p,.slice A_forbids P.QA.length u]):=g 4 (by kernel_rfl) (by decide) 6 rfl;obtain⟨T,d⟩:=N;go_simp;refine(cl.out w' E).mono ?_;rintro e w2 ⟨rfl,cf⟩;exact O _ (hW.trans cf (fun _ _ h=>h))
  | 6,_,Q,g,O =>
   obtain rfl:=oi Q;have c7:At N 7 (.int .i64 (pg:Nat)):=g 5 (by kernel_rfl) (by decide) 7 rfl;obtain⟨T,d⟩:=N;go_simp;exact O _ hW
  | 7,_,Q,g,O =>
   obtain rfl:=oi Q;obtain⟨T,d⟩:=N;go_simp;exact O _ hW
  | 8,_,Q,g,O =>
   obtain rfl:=oi Q;have c9:At N 9 (.pointer (some ⟨Y,0,none⟩)):=g 7 (by kernel_rfl) (by decide) 9 rfl;obtain⟨T,d⟩:=N;go_simp;exact O _ hW
  | 9,_,Q,g,O =>
   obtain rfl:=oi Q;have di:At N 10 (.pointer (some ⟨Y,0,none⟩)):=g 8 (by kernel_rfl) (by decide) 10 rfl;obtain⟨T,d⟩:=N;go_simp;exact O _ hW
  | 10,_,Q,g,O =>
   obtain rfl:=oi Q;have dk:At N 11 (.pointer (some ⟨Y,0,none⟩)):=g 9 (by kernel_rfl) (by decide) 11 rfl;obtain⟨T,d⟩:=N;go_simp;exact O _ hW
  | 11,_,Q,g,O =>
   obtain rfl:=oi Q;have cy:At N 12 (.pointer (some ⟨Y,0,none⟩)):=g 10 (by kernel_rfl) (by decide) 12 rfl;have q0:=HC.out w' E 0 _ rfl;obtain⟨T,d⟩:=N;go_simp;exact O _ hW
 ·intro o Q N w' hW hb g
  obtain rfl:=oi Q;have cs:N.tmps.size=15:=hb.size.trans cp;have cx:=hb.defers.trans hd;have E:Kz w w':=((aB.refl (fun _=>False) w).drew).trans hW (fun _ _ h=>h);have c2:At N 2 (.pointer (some ⟨Y,0,none⟩)):=g 0 (by decide) 2 rfl;have c8:At N 8 (.bool bl):=g 6 (by decide) 8 rfl;have c1:At N 13 (.int .i64 P.pos):=g 11 (by decide) 13 rfl;have cv:=hh (HL.out.new E);have cu:=hh E;clear E hW hb g;obtain⟨T,d⟩:=N;with_reducible refine Lz (fun K O=>?_)
  go_simp;refine(aO _ _ 0 108 cv.out rfl).mono ?_;rintro e w2 ⟨rfl,cw,cf⟩;with_reducible refine O _ _ (ln ?_)
  refine ej rfl cx ⟨rfl,?_,(cu.out.mono fun _ _ h=>h.elim:aB (fun k=>k=Y) w w').trans cf (fun _ _ h=>h)⟩;rw[HS.out]
  simpa using cw
end Go.Proofs.YtpblcjipmoblnaaGreatDoor
