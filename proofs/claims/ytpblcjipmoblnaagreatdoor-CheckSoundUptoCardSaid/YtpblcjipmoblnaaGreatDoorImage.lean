import Derived.Test.YtpblcjipmoblnaaGreatDoorPlansB
import Derived.Test.YtpblcjipmoblnaaGreatDoorNames
set_option maxRecDepth 100000
set_option linter.all false
set_option maxHeartbeats 4000000
namespace Go.Proofs.YtpblcjipmoblnaaGreatDoor
open Go.RowKit Go.IntWalk Ck
theorem rp(t:Nat)(h:t<2 ^ 64):t &&& (2 ^ 64-(7+1))=t / 8*8:=by
 apply Nat.eq_of_testBit_eq
 intro i;have g:t / 8*8=(t >>> 3) <<< 3:=by rw[Nat.shiftRight_eq_div_pow,Nat.shiftLeft_eq]
 have l:(7:Nat)=2 ^ 3-1:=rfl;rw[g,Nat.testBit_and,Nat.testBit_two_pow_sub_succ ψ,l,Nat.testBit_two_pow_sub_one,Nat.testBit_shiftLeft,Nat.testBit_shiftRight]
 by_cases h3:i<3
 ·have d:¬ 3≤i:=χ
  simp[h3,d]
 ·have d:3≤i:=χ
  have j:3+(i-3)=i:=χ
  rw[j]
  by_cases hi:i<64
  ·simp[h3,d,hi]
  ·have:t.testBit i=false:=Nat.testBit_lt_two_pow (Nat.lt_of_lt_of_le h (Nat.pow_le_pow_right χ χ))
   simp[this]
theorem BJ{t:Nat}(h:t<9223372036854775808):bits .andNot .i64 (t:Int) 7=((t / 8*8:Nat):Int):=by
 show IntKind.i64.wrap ((BitVec.ofInt 64 (t:Int) &&& ~~~(7#64)).toNat:Int)=_;rw[BitVec.ofInt_natCast];have hv:(BitVec.ofNat 64 t &&& ~~~7#64).toNat=t / 8*8:=by
  rw[BitVec.toNat_and,BitVec.toNat_not,BitVec.toNat_ofNat,Nat.mod_eq_of_lt χ];exact rp t χ
 rw[hv];exact IntWalk.i64_in _ χ
theorem Ah(M:Nat)(y:cW):(ax M y).1≤4096:=by
 unfold ax Ln.co;simp only;split
 ·simp
 ·split
  ·simp
  ·unfold Ln.fI
   split
   ·simp
   ·simp;omega
theorem rQ(x:eX)(c:Nat):cJ ax x c≤4096:=by
 unfold cJ;split
 ·exact Ah _ _
 ·omega
def dX(x:eX):Nat→Nat
 | 0=>0
 | j+1=>dX x j+(8+8*cJ ax x j)
theorem lW(x:eX):∀j,dX x j≤j*32776
 | 0=>Nat.le_refl _
 | j+1=>by have:=lW x j;have:=rQ x j;simp only[dX];omega
theorem mN(x:eX):dX x 4=32+8*(cJ ax x 0+cJ ax x 1+cJ ax x 2+cJ ax x 3):=by simp only[dX];omega
def eO(l:List Ck.Region):Nat:=(l.map fun x=>24+(x.text.size+7) / 8*8).sum
def fZ(l:List eX):Nat:=(l.map fun x=>32+8*(cJ ax x 0+cJ ax x 1+cJ ax x 2+cJ ax x 3)).sum
theorem vz(l:List Ck.Region)(x:Ck.Region):eO (l++[x])=eO l+(24+(x.text.size+7) / 8*8):=by simp[eO]
theorem tR(l:List eX)(x:eX):fZ (l++[x])=fZ l+dX x 4:=by rw[mN];simp[fZ]
theorem mo:∀(l:List Ck.Region),(∀x∈l,x.text.size≤2097152)→eO l≤l.length*2097192
 | [],_=>Nat.le_refl _
 | x::t,h=>by
  have g:=mo t fun y d=>h y (List.mem_cons_of_mem _ d)
  have j:=h x List.mem_cons_self;have e:eO (x::t)=(24+(x.text.size+7) / 8*8)+eO t:=by simp[eO]
  rw[e,List.length_cons];omega
theorem nh:∀(l:List eX),fZ l≤l.length*131104
 | []=>Nat.le_refl _
 | x::t=>by
  have d:=nh t;have g:=lW x 4;have e:fZ (x::t)=dX x 4+fZ t:=by rw[mN];simp[fZ]
  rw[e,List.length_cons];omega
theorem oG{ls:List cW}{c0:Nat}:(jE ls c0 = -1∧ls.find? (fun y=>decide (y.QO=c0))=none)∨∃(k:Nat) (y:cW),jE ls c0=k∧ls[k]?=some y∧ls.find? (fun y=>decide (y.QO=c0))=some y:=by
 by_cases h:∀y∈ls,y.QO≠c0
 ·exact .inl ⟨sE h,List.find?_eq_none.2 fun y g=>by simpa using h y g⟩
 ·right
  simp only[Classical.not_forall]at h;obtain⟨y,g,d⟩:=h;have d:y.QO=c0:=Classical.not_not.1 d;obtain⟨k,hk⟩:∃k,ls.findIdx? (fun y=>decide (y.QO=c0))=some k:=by
   rw[←Option.isSome_iff_exists,List.findIdx?_isSome,List.any_eq_true];exact⟨y,g,by simpa using d⟩
  obtain⟨l,p,q⟩:=List.findIdx?_eq_some_iff_getElem.1 hk;refine⟨k,ls[k],?_,Ez l,?_⟩
  ·unfold jE;rw[hk]
  ·rw[List.find?_eq_some_iff_getElem]
   exact⟨p,k,l,rfl,fun j r=>by simpa using q j r⟩
theorem xN{B:Nat}{w:World}{v:aR}{P:aC}(hp:ao B w v P)(hB:B≤w.heap.size):Calls Tryz.prog 60 #[.agg (v.cells P).toArray] w fun e w'=>e=.returned (.int .i64 (dz ax P))∧Kz w w':=by
 have n4:∀x∈P.Q5,x.text.size≤2097152:=bg hp.Q5 fun b o x hx=>hx.2.2.2.2.2.2
 obtain⟨A_rams,a7,e6,hf,hq,hn⟩:=hp.QG;obtain⟨A_devices,I,bw,ef,es,ep⟩:=hp.Q4;obtain⟨A_regions,l,b1,k1,eu,bm⟩:=hp.Q5;obtain⟨A_subjects,D,bb,d1,d8,d6⟩:=hp.Q3;obtain⟨A_channels,u,a9,dt,d7,d4⟩:=hp.Q8;obtain⟨A_irqs,a6,e5,he,ho,hm⟩:=hp.QJ;obtain⟨A_queues,Q,cv,fs,f1,fy⟩:=hp.QC;obtain⟨A_plans,C,c5,o2,go,c3⟩:=hp.Q9;obtain⟨A_masters,U,bz,em,bp,er⟩:=hp.QB;obtain⟨A_starts,ac,cw,fv,cp,f0⟩:=hp.QE;obtain⟨A_monitors,L,ba,d0,a8,d5⟩:=hp.QA;obtain⟨A_forbids,S,bx,eg,bo,eq⟩:=hp.QD;have e0:(v.cells P).toArray = #[.int .i64 P.pos,.string P.name,.slice A_rams P.QG.length a7,.slice A_devices P.Q4.length I,.slice A_regions P.Q5.length l,.slice A_subjects P.Q3.length D,.slice A_channels P.Q8.length u,.slice A_irqs P.QJ.length a6,.slice A_queues P.QC.length Q,.slice A_plans P.Q9.length C,.slice A_masters P.QB.length U,.slice A_starts P.QE.length ac,.slice A_monitors P.QA.length L,.slice A_forbids P.QD.length S]:=by
  rw[←e6,←bw,←b1,←bb,←a9,←e5,←cv,←c5,←bz,←cw,←ba,←bx];rfl
 rw[e0];unfold top at hq es eu d8 d7 ho f1 go bp cp a8 bo;have tn:=hh bm;have tl:=hh c3;have mv:=hh n4;clear e0 hp n4 e6 hn bw ep b1 bm bb d6 a9 d4 e5 hm cv fy c5 c3 bz er cw f0 ba d5 bx eq hf ef d1 dt he fs em fv d0 eg bp cp a8 bo;refine b9 Tryz.func60 Tryz.ntmps60 rfl (by show 1≤104;decide) fun a t8 hd h=>?_
 have h0:At a 0 (.agg #[.int .i64 P.pos,.string P.name,.slice A_rams P.QG.length a7,.slice A_devices P.Q4.length I,.slice A_regions P.Q5.length l,.slice A_subjects P.Q3.length D,.slice A_channels P.Q8.length u,.slice A_irqs P.QJ.length a6,.slice A_queues P.QC.length Q,.slice A_plans P.Q9.length C,.slice A_masters P.QB.length U,.slice A_starts P.QE.length ac,.slice A_monitors P.QA.length L,.slice A_forbids P.QD.length S]):=h 0 _ rfl;clear h
 conv=>arg 2;whnf
 refine so (fun fe J=>aA (fun i=>i==1||i==2) a fe∧At fe 1 (.pointer (some ⟨w.heap.size,0,none⟩))∧J=w.alloc (.cells #[.int .i64 P.pos,.string P.name,.slice A_rams P.QG.length a7,.slice A_devices P.Q4.length I,.slice A_regions P.Q5.length l,.slice A_subjects P.Q3.length D,.slice A_channels P.Q8.length u,.slice A_irqs P.QJ.length a6,.slice A_queues P.QC.length Q,.slice A_plans P.Q9.length C,.slice A_masters P.QB.length U,.slice A_starts P.QE.length ac,.slice A_monitors P.QA.length L,.slice A_forbids P.QD.length S] 34)) ?_ ?_
 ·have a0:aA (fun i=>i==1||i==2) a a:=aA.refl _ _
  obtain⟨T,d⟩:=a;refine rl ?_
  iterate 2 with_reducible refine st ?_
  refine ln ⟨rfl,ag,aq,rfl⟩
 rintro fe J ⟨fp,h1,f2⟩;replace h0:=fp.Q7 h0 rfl;have s0:=fp.size.trans t8;have t1:=fp.defers.trans hd;obtain⟨z,hz⟩:∃z,z=w.heap.size:=⟨_,rfl⟩;rw[←hz]at h1;have fz:J.heap[z]?=some (.cells #[.int .i64 P.pos,.string P.name,.slice A_rams P.QG.length a7,.slice A_devices P.Q4.length I,.slice A_regions P.Q5.length l,.slice A_subjects P.Q3.length D,.slice A_channels P.Q8.length u,.slice A_irqs P.QJ.length a6,.slice A_queues P.QC.length Q,.slice A_plans P.Q9.length C,.slice A_masters P.QB.length U,.slice A_starts P.QE.length ac,.slice A_monitors P.QA.length L,.slice A_forbids P.QD.length S] 34 (0,0)):=by rw[f2,hz];exact heap_alloc_new _ _
 have mu:Hid (Kz w J):=hh (by rw[f2];exact(aD.refl _ _).alloc _);have HZ:Hid (z<J.heap.size∧w.heap.size≤J.heap.size):=hh ⟨aG fz,mu.out.size⟩;have q2:J.cell? ⟨z,2,none⟩=some (.slice A_rams P.QG.length a7):=cr fz rfl;have q3:J.cell? ⟨z,3,none⟩=some (.slice A_devices P.Q4.length I):=cr fz rfl;have q4:J.cell? ⟨z,4,none⟩=some (.slice A_regions P.Q5.length l):=cr fz rfl;have q5:J.cell? ⟨z,5,none⟩=some (.slice A_subjects P.Q3.length D):=cr fz rfl;have q6:J.cell? ⟨z,6,none⟩=some (.slice A_channels P.Q8.length u):=cr fz rfl;have q7:J.cell? ⟨z,7,none⟩=some (.slice A_irqs P.QJ.length a6):=cr fz rfl;have q8:J.cell? ⟨z,8,none⟩=some (.slice A_queues P.QC.length Q):=cr fz rfl;have q9:J.cell? ⟨z,9,none⟩=some (.slice A_plans P.Q9.length C):=cr fz rfl;have FZ:=hh fz;clear f2 hz fz h0;obtain⟨n8,k5⟩:∃n:Nat,n=P.Q3.length+P.Q4.length:=⟨_,rfl⟩;have pp:IntKind.i64.wrap (((P.Q3.length:Nat):Int)+((P.Q4.length:Nat):Int))=(n8:Int):=by rw[k5,i64_in _ χ];omega
 obtain⟨n9,k6⟩:∃n:Nat,n=n8+P.Q8.length:=⟨_,rfl⟩;have ps:IntKind.i64.wrap ((n8:Int)+((P.Q8.length:Nat):Int))=(n9:Int):=by rw[k6,i64_in _ χ];omega
 obtain⟨ob,k7⟩:∃n:Nat,n=n9+P.QJ.length:=⟨_,rfl⟩;have px:IntKind.i64.wrap ((n9:Int)+((P.QJ.length:Nat):Int))=(ob:Int):=by rw[k7,i64_in _ χ];omega
 obtain⟨oj,k8⟩:∃n:Nat,n=ob+P.QC.length:=⟨_,rfl⟩;have py:IntKind.i64.wrap ((ob:Int)+((P.QC.length:Nat):Int))=(oj:Int):=by rw[k8,i64_in _ χ];omega
 obtain⟨jn,k9⟩:∃n:Nat,n=oj+P.Q9.length:=⟨_,rfl⟩;have p0:IntKind.i64.wrap ((oj:Int)+((P.Q9.length:Nat):Int))=(jn:Int):=by rw[k9,i64_in _ χ];omega
 obtain⟨o0,la⟩:∃n:Nat,n=P.QG.length+P.Q4.length:=⟨_,rfl⟩;have p1:IntKind.i64.wrap (((P.QG.length:Nat):Int)+((P.Q4.length:Nat):Int))=(o0:Int):=by rw[la,i64_in _ χ];omega
 obtain⟨o1,lm⟩:∃n:Nat,n=16*o0:=⟨_,rfl⟩;have p2:IntKind.i64.wrap ((16:Int)*(o0:Int))=(o1:Int):=by rw[lm,i64_in _ χ];omega
 obtain⟨kk,lp⟩:∃n:Nat,n=248+o1:=⟨_,rfl⟩;have p3:IntKind.i64.wrap ((248:Int)+(o1:Int))=(kk:Int):=by rw[lp,i64_in _ χ];omega
 obtain⟨kl,lw⟩:∃n:Nat,n=8*jn:=⟨_,rfl⟩;have p4:IntKind.i64.wrap ((8:Int)*(jn:Int))=(kl:Int):=by rw[lw,i64_in _ χ];omega
 obtain⟨ed,l0⟩:∃n:Nat,n=kk+kl:=⟨_,rfl⟩;have p5:IntKind.i64.wrap ((kk:Int)+(kl:Int))=(ed:Int):=by rw[l0,i64_in _ χ];omega
 have HN:Hid (ed=248+16*(P.QG.length+P.Q4.length)+8*(P.Q3.length+P.Q4.length+P.Q8.length+P.QJ.length+P.QC.length+P.Q9.length)):=hh χ;have o6:Hid ((kk:Int)+(kl:Int)=(ed:Int)):=hh χ;have u0:ed≤268435456:=χ
 clear k5 k6 k7 k8 k9 la lm lp lw l0;refine so (fun ff id=>aA (fun i=>i==3||(rg 15 37 i)) fe ff∧At ff 3 (.int .i64 jn)∧id=J) ?_ ?_
 ·have a0:aA (fun i=>i==3||(rg 15 37 i)) fe fe:=aA.refl _ _
  obtain⟨T,d⟩:=fe;refine rl ?_
  iterate 24 with_reducible refine st ?_
  refine ln ⟨rfl,ag,aq,rfl⟩
 rintro ff id ⟨fr,k3,rfl⟩;replace h1:=fr.Q7 h1 rfl;have n0:=fr.size.trans s0;have qm:=fr.defers.trans t1;refine so (fun fk ie=>aA (fun i=>i==4||(rg 38 49 i)) ff fk∧At fk 4 (.int .i64 ed)∧ie=id) ?_ ?_
 ·have a0:aA (fun i=>i==4||(rg 38 49 i)) ff ff:=aA.refl _ _
  obtain⟨T,d⟩:=ff;refine rl ?_
  iterate 13 with_reducible refine st ?_
  refine ln ⟨rfl,?_,?_,rfl⟩
  ·exact ag
  ·rw[←o6.out];exact At.self
 rintro fk ie ⟨dk,k4,rfl⟩;replace h1:=dk.Q7 h1 rfl;replace k3:=dk.Q7 k3 rfl;have i3:=dk.size.trans n0;have m6:=dk.defers.trans qm;clear pp ps px py p0 p1 p2 p3 p4 p5;refine wp_seq (wp_seq (Code.wp_only (R:=fun gx ih=>aA (fun i=>(rg 50 53 i)) fk gx∧At gx 51 (.slice A_regions P.Q5.length l)∧At gx 52 (.int .i64 P.Q5.length)∧At gx 53 (.int .i64 0)∧ih=ie) ?_ ?_))
 ·have a0:aA (fun i=>(rg 50 53 i)) fk fk:=aA.refl _ _
  obtain⟨T,d⟩:=fk;refine rl ?_
  iterate 4 with_reducible refine st ?_
  refine ln ⟨rfl,ag,aq,aq,aq,rfl⟩
 rintro gx ih ⟨cd,jj,ja,i5,rfl⟩;replace h1:=cd.Q7 h1 rfl;replace k3:=cd.Q7 k3 rfl;replace k4:=cd.Q7 k4 rfl;have ex:=cd.size.trans i3;have f8:=cd.defers.trans m6;clear k3;refine bj P.Q5.length (fun i=>i==4||i==6||(rg 53 65 i)) (fun i=>i==4||i==6||(rg 55 64 i)) (fun k a' w'=>At a' 4 (.int .i64 (ed+eO (P.Q5.take k):Nat))∧Kz ih w') χ i5 ja ψ rfl
  ζ χ ψ (fun k a1 a2 w Y ⟨hI,hk⟩=>⟨Y.Q7 hI rfl,hk⟩) ⟨by simpa[eO]using k4,aD.refl _ _⟩ ?_ ?_
 ·rintro n b wr nq Y e9 ⟨g,hk⟩
  obtain⟨bl,off,rfl,m4,hi⟩:=tn.out χ;obtain⟨x,hx⟩:=ge nq;have cm:Kz w wr:=mu.out.trans hk (fun _ _ h=>h);obtain⟨hc,u5⟩:=(aF B _ _) _ _ _ _ _ (cm.below (B:=B) χ (fun _ _ h=>h)) m4 (hi n x hx);have q0:=hc.c0;have r1:=hc 1 _ rfl;have r2:=hc 2 _ rfl;have r3:=hc 3 _ rfl;have r4:=hc 4 _ rfl;have r5:=hc 5 _ rfl;have r6:=hc 6 _ rfl;have r7:=hc 7 _ rfl;have r8:=hc 8 _ rfl;have r9:=hc 9 _ rfl;have b2:=Y.Q7 jj rfl;have X:=Y.size.trans ex;have d2:=Y.defers.trans f8;have l4:=cm.size;have qf:bl<wr.heap.size:=χ
  have nm:n≤l:=χ
  have HX:=hh hx;have HK:=hh hk;have HA:=hh Y;have h4:=aP hx;have gl:Hid (eO (P.Q5.take (n+1))=eO (P.Q5.take n)+(24+(x.text.size+7) / 8*8)):=by rw[h4];exact vz _ _
  have n4:=mv.out x (List.mem_of_getElem? hx);have hs:=mo (P.Q5.take n) fun y hy=>mv.out y (List.mem_of_mem_take hy)
  have hr:(P.Q5.take n).length≤2097152:=η
  obtain⟨rs,ew⟩:∃r,r=eO (P.Q5.take n):=⟨_,rfl⟩;rw[←ew]at gl hs g;have sx:rs≤4400000000000:=χ
  clear hx hi hc Y hk cm h4 ew hs hr q2 q3 q4 q5 q6 q7 q8 q9;refine so (fun fl c8=>aA (fun i=>i==6||i==55||i==56) b fl∧At fl 6 (.pointer (some ⟨wr.heap.size,0,none⟩))∧c8=wr.alloc (.cells #[.int .i64 x.pos,.string x.name,.int .u64 x.size,.bool x.fixed,.int .u64 x.Q7,.bool x.big,.bool x.wx,.int .u64 x.fill,.bool x.QR,.string x.text] 48)) ?_ ?_
  ·have a0:aA (fun i=>i==6||i==55||i==56) b b:=aA.refl _ _
   obtain⟨T,d⟩:=b;refine rl ?_
   iterate 4 with_reducible refine st ?_
   refine ln ⟨rfl,ag,aq,rfl⟩
  rintro fl c8 ⟨bc,n7,f3⟩;replace g:=bc.Q7 g rfl;replace b2:=bc.Q7 b2 rfl;replace e9:=bc.Q7 e9 rfl;have O:=bc.size.trans X;have a5:=bc.defers.trans d2;obtain⟨zx,f5⟩:∃z,z=wr.heap.size:=⟨_,rfl⟩;rw[←f5]at n7;have t9:c8.cell? ⟨zx,9,none⟩=some (.string x.text):=by rw[cell_of_row _ _ _ _ _ _ (show c8.heap[zx]?=some (.cells #[.int .i64 x.pos,.string x.name,.int .u64 x.size,.bool x.fixed,.int .u64 x.Q7,.bool x.big,.bool x.wx,.int .u64 x.fill,.bool x.QR,.string x.text] 48 (0,0)) by rw[f3,f5];exact heap_alloc_new _ _)];rfl
  have gp:Hid (Kz wr c8):=hh (by rw[f3];exact(aD.refl _ _).alloc _);clear f3 f5 q0 r1 r2 r3 r4 r5 r6 r7 r8 r9;obtain⟨cc,cl⟩:∃n:Nat,n=ed+rs:=⟨_,rfl⟩;rw[←cl]at g;obtain⟨kt,hu⟩:∃n:Nat,n=x.text.size+7:=⟨_,rfl⟩;have ur:IntKind.i64.wrap (((x.text.size:Nat):Int)+(7:Int))=(kt:Int):=by rw[hu,i64_in _ χ];omega
  have Ft61:Hid (((x.text.size:Nat):Int)+(7:Int)=(kt:Int)):=hh χ;obtain⟨ky,hw⟩:∃n:Nat,n=kt / 8*8:=⟨_,rfl⟩;have us:bits BinOp.andNot IntKind.i64 (kt:Int) 7=(ky:Int):=by rw[hw];exact BJ χ
  obtain⟨h6,h3⟩:∃n:Nat,n=24+ky:=⟨_,rfl⟩;have uv:IntKind.i64.wrap ((24:Int)+(ky:Int))=(h6:Int):=by rw[h3,i64_in _ χ];omega
  have Ft63:Hid ((24:Int)+(ky:Int)=(h6:Int)):=hh χ;obtain⟨nw,d9⟩:∃n:Nat,n=cc+h6:=⟨_,rfl⟩;have p6:IntKind.i64.wrap ((cc:Int)+(h6:Int))=(nw:Int):=by rw[d9,i64_in _ χ];omega
  have Fnw:Hid ((cc:Int)+(h6:Int)=(nw:Int)):=hh χ;have fd:Hid (nw=ed+eO (P.Q5.take (n+1))):=hh (by rw[gl.out,d9,h3,hw,hu,cl];omega);clear cl hu hw h3 d9 gl;refine Code.wp_only (R:=fun mx l7=>aA (fun i=>i==4||(rg 57 64 i)) fl mx∧At mx 4 (.int .i64 nw)∧l7=c8) ?_ ?_
  ·have a0:aA (fun i=>i==4||(rg 57 64 i)) fl fl:=aA.refl _ _
   obtain⟨T,d⟩:=fl;refine rl ?_
   iterate 9 with_reducible refine st ?_
   refine ln ⟨rfl,?_,?_,rfl⟩
   ·exact ag
   ·first|exact At.self|(rw[←Fnw.out];exact At.self)
  rintro mx l7 ⟨bd,e8,rfl⟩;replace b2:=bd.Q7 b2 rfl;replace e9:=bd.Q7 e9 rfl;replace n7:=bd.Q7 n7 rfl;have W:=bd.size.trans O;have d3:=bd.defers.trans a5;refine⟨?_,?_,HK.out.trans gp.out (fun _ _ h=>h)⟩
  ·refine aA.trans (bc.mono ?_) bd ?_<;>(intro j;simp;omega)
  ·rw[←fd.out];exact e8
 ·rintro b wr Y ⟨g,hk⟩
  rw[List.take_length]at g;replace h1:=Y.Q7 h1 rfl;have X:=Y.size.trans ex;have d2:=Y.defers.trans f8;have cm:Kz w wr:=mu.out.trans hk (fun _ _ h=>h);obtain⟨b0,m3⟩:∃n:Nat,n=ed+eO P.Q5:=⟨_,rfl⟩;rw[←m3]at g;have uy:b0≤4401000000000:=by have:=mo P.Q5 mv.out;omega
  have q9:wr.cell? ⟨z,9,none⟩=some (.slice A_plans P.Q9.length C):=cr ((hk.block z (aG FZ.out) (fun h=>h)).trans FZ.out) rfl;have s6:=hh m3;have pg:=hh cm;have l4:=cm.size;clear m3 hk cm Y jj ja i5;refine wp_seq (wp_seq (Code.wp_only (R:=fun gy ik=>aA (fun i=>(rg 66 69 i)) b gy∧At gy 67 (.slice A_plans P.Q9.length C)∧At gy 68 (.int .i64 P.Q9.length)∧At gy 69 (.int .i64 0)∧ik=wr) ?_ ?_))
  ·have a0:aA (fun i=>(rg 66 69 i)) b b:=aA.refl _ _
   obtain⟨T,d⟩:=b;refine rl ?_
   iterate 4 with_reducible refine st ?_
   refine ln ⟨rfl,ag,aq,aq,aq,rfl⟩
  rintro gy ik ⟨ds,jj,ja,i5,rfl⟩;replace h1:=ds.Q7 h1 rfl;replace g:=ds.Q7 g rfl;have O:=ds.size.trans X;have a5:=ds.defers.trans d2;refine bj P.Q9.length (fun i=>i==4||(rg 8 14 i)||(rg 69 102 i)) (fun i=>i==4||(rg 8 14 i)||(rg 71 101 i)) (fun k a' w'=>At a' 4 (.int .i64 (b0+fZ (P.Q9.take k):Nat))∧Kz ik w') χ i5 ja ψ rfl
   ζ χ ψ (fun k a1 a2 w Y ⟨hI,hk⟩=>⟨Y.Q7 hI rfl,hk⟩) ⟨by simpa[fZ]using g,aD.refl _ _⟩ ?_ ?_
  ·rintro n b wr nq Y e9 ⟨g,hk⟩
   obtain⟨bl,off,rfl,m4,hi⟩:=tl.out χ;obtain⟨x,hx⟩:=ge nq;have cm:Kz w wr:=pg.out.trans hk (fun _ _ h=>h);obtain⟨lv,hc,i2,t7,sm,va⟩:=(dK B) _ _ _ _ _ (cm.below (B:=B) χ (fun _ _ h=>h)) m4 (hi n x hx);obtain⟨A_l,hb,rfl,t0,t6,sf⟩:=i2;unfold top at t6;have q0:=hc.c0;have r1:=hc 1 _ rfl;have r2:=hc 2 _ rfl;have r3:=hc 3 _ rfl;have b2:=Y.Q7 jj rfl;have X:=Y.size.trans O;have d2:=Y.defers.trans a5;have l4:=cm.size;have qf:bl<wr.heap.size:=χ
   have nm:n≤C:=χ
   have HX:=hh hx;have HK:=hh hk;have HA:=hh Y;have h4:=aP hx;have gl:Hid (fZ (P.Q9.take (n+1))=fZ (P.Q9.take n)+dX x 4):=by rw[h4];exact tR _ _
   have hs:=nh (P.Q9.take n);have hr:(P.Q9.take n).length≤2097152:=η
   obtain⟨rs,ew⟩:∃r,r=fZ (P.Q9.take n):=⟨_,rfl⟩;rw[←ew]at gl hs g;have sx:rs≤300000000000:=χ
   have ti:Hid (aJ B 4 (i7 B) wr (.slice A_l x.QH.length hb) x.QH):=⟨A_l,hb,rfl,t0,by unfold top;omega,sf⟩;clear hx hi hc Y hk cm h4 ew hs hr sf q9;refine so (fun fm c9=>aA (fun i=>i==8||i==71||i==72) b fm∧At fm 8 (.pointer (some ⟨wr.heap.size,0,none⟩))∧c9=wr.alloc (.cells #[.int .i64 x.pos,.string x.name,.int .u64 x.QM,.slice A_l x.QH.length hb] 62)) ?_ ?_
   ·have a0:aA (fun i=>i==8||i==71||i==72) b b:=aA.refl _ _
    obtain⟨T,d⟩:=b;refine rl ?_
    iterate 4 with_reducible refine st ?_
    refine ln ⟨rfl,ag,aq,rfl⟩
   rintro fm c9 ⟨be,a3,f4⟩;replace g:=be.Q7 g rfl;replace b2:=be.Q7 b2 rfl;replace e9:=be.Q7 e9 rfl;have O:=be.size.trans X;have a5:=be.defers.trans d2;obtain⟨zx,f5⟩:∃z,z=wr.heap.size:=⟨_,rfl⟩;rw[←f5]at a3;have fx:c9.heap[zx]?=some (.cells #[.int .i64 x.pos,.string x.name,.int .u64 x.QM,.slice A_l x.QH.length hb] 62 (0,0)):=by rw[f4,f5];exact heap_alloc_new _ _
   have gp:Hid (Kz wr c9):=hh (by rw[f4];exact(aD.refl _ _).alloc _);have pm:=hh (ti.out.below (cK B) (gp.out.below (B:=B) χ (fun _ _ h=>h)));have um:=gp.out.size;have FX:=hh fx;clear f4 f5 fx q0 r1 r2 r3;have mb:Hid (B≤c9.heap.size):=hh χ;clear b2 e9;refine so (fun ha gf=>aA (fun i=>i==73) fm ha∧At ha 73 (.int .u64 (0:Nat))∧gf=c9) ?_ ?_
   ·have a0:aA (fun i=>i==73) fm fm:=aA.refl _ _
    obtain⟨T,d⟩:=fm;refine rl ?_;with_reducible refine st ?_
    refine ln ⟨rfl,?_,?_,rfl⟩
    ·exact ag
    ·exact At.self
   rintro ha gf ⟨cf,s3,rfl⟩;replace g:=cf.Q7 g rfl;replace a3:=cf.Q7 a3 rfl;have W:=cf.size.trans O;have d3:=cf.defers.trans a5;obtain⟨cc,cl⟩:∃n:Nat,n=b0+rs:=⟨_,rfl⟩;rw[←cl]at g;have u2:cc≤4800000000000:=χ
   have o5:=hh cl;clear cl;refine sj 4 (fun j a' w'=>aA (fun i=>i==4||(rg 9 14 i)||(rg 73 101 i)) ha a'∧At a' 73 (.int .u64 (j:Nat))∧At a' 4 (.int .i64 (cc+dX x j:Nat))∧Kz gf w') (fun j a' w'=>aA (fun i=>i==4||(rg 9 14 i)||(rg 73 101 i)) ha a'∧At a' 73 (.int .u64 (j:Nat))∧At a' 4 (.int .i64 (cc+dX x (j+1):Nat))∧Kz gf w') (fun a=>match a.eval (.tmp 73)with|.int _ x=>x.toNat|_=>0) ⟨aA.refl _ _,s3,by simpa[dX]using g,aD.refl _ _⟩ ?_ ?_ ?_ ?_ ?_
   ·rintro j a' w' ⟨Y,hj,_⟩
    rw[hj.eval (by rw[Y.size,W];decide)];simp
   ·rintro j a' w' q1 ⟨Y,hj,cs⟩
    have X:=Y.size.trans W;have HR:=hh cs;have e1:decide ((j:Int)<4)=decide (j<4):=decide_eq_decide.2 χ;clear cs;obtain⟨T,d⟩:=a';refine rl ?_;with_reducible refine st ?_
    refine ln ⟨rfl,⟨?_,?_,?_,HR.out.2⟩,?_⟩
    ·exact ag
    ·exact At.ne hj ψ
    ·exact At.ne HR.out.1 ψ
    ·exact(At.eval At.self (by have:=X;simp at this⊢; omega))
   ·rintro j b wr q1 ⟨Y,hj,g,hk⟩
    replace a3:=Y.Q7 a3 rfl;have X:=Y.size.trans W;have d2:=Y.defers.trans d3;have HA:=hh Y;have pe:=hh hk;have l3:=hk.size;have vs:=lW x j;have sy:=rQ x j;obtain⟨ci,m5⟩:∃n:Nat,n=cc+dX x j:=⟨_,rfl⟩;rw[←m5]at g;have u1:ci≤4900000000000:=χ
    have o4:=hh m5;have it:=(hk.block zx (aG FX.out) (fun h=>h)).trans FX.out;have r2:wr.cell? ⟨zx,2,none⟩=some (.int .u64 x.QM):=cr it rfl;have r3:wr.cell? ⟨zx,3,none⟩=some (.slice A_l x.QH.length hb):=cr it rfl;have te:=hh (pm.out.below (cK B) (hk.below (B:=B) mb.out (fun _ _ h=>h)));have FXR:=hh it;clear Y hk m5 it;refine so (fun b3 bf=>aA (fun i=>i==9||i==75) b b3∧At b3 9 (.pointer (some ⟨wr.heap.size,0,none⟩))∧bf=wr.alloc (.cells #[.int .u64 j] 39)) ?_ ?_
    ·have a0:aA (fun i=>i==9||i==75) b b:=aA.refl _ _
     obtain⟨T,d⟩:=b;refine rl ?_
     iterate 3 with_reducible refine st ?_
     refine ln ⟨rfl,ag,aq,rfl⟩
    rintro b3 bf ⟨V,eb,ea⟩;replace g:=V.Q7 g rfl;replace a3:=V.Q7 a3 rfl;replace hj:=V.Q7 hj rfl;have O:=V.size.trans X;have a5:=V.defers.trans d2;obtain⟨zc,n5⟩:∃z,z=wr.heap.size:=⟨_,rfl⟩;rw[←n5]at eb;have fc:bf.heap[zc]?=some (.cells #[.int .u64 j] 39 (0,0)):=by rw[ea,n5];exact heap_alloc_new _ _
    have c2:Kz wr bf:=by rw[ea];exact(aD.refl _ _).alloc _
    replace r2:=(c2.cell (p:=⟨zx,2,none⟩) (aG FXR.out) (fun h=>h)).trans r2;replace r3:=(c2.cell (p:=⟨zx,3,none⟩) (aG FXR.out) (fun h=>h)).trans r3;have m1:B≤bf.heap.size:=Nat.le_trans mb.out (Nat.le_trans l3 c2.size);have pl:=hh (te.out.below (cK B) (c2.below (B:=B) (Nat.le_trans mb.out l3) (fun _ _ h=>h)));have mk:=hh (sD pl.out m1 fc);have pd:=hh c2;clear ea n5 fc c2;refine so (fun b4 f6=>aA (fun i=>i==10) b3 b4∧At b4 10 (.int .i64 (1:Nat))∧f6=bf) ?_ ?_
    ·have a0:aA (fun i=>i==10) b3 b3:=aA.refl _ _
     obtain⟨T,d⟩:=b3;refine rl ?_;with_reducible refine st ?_
     refine ln ⟨rfl,?_,?_,rfl⟩
     ·exact ag
     ·exact At.self
    rintro b4 f6 ⟨N,c6,rfl⟩;replace g:=N.Q7 g rfl;replace a3:=N.Q7 a3 rfl;replace hj:=N.Q7 hj rfl;replace eb:=N.Q7 eb rfl;have W:=N.size.trans O;have d3:=N.defers.trans a5;refine wp_seq (wp_seq (Code.wp_only (R:=fun b5 ee=>aA (fun i=>i==11||(rg 76 79 i)) b4 b5∧At b5 11 (.int .i64 (jE x.QH j))∧Kz f6 ee) ?_ ?_))
    ·have a0:aA (fun i=>i==11||(rg 76 79 i)) b4 b4:=aA.refl _ _
     obtain⟨T,d⟩:=b4;refine rl ?_
     iterate 3 with_reducible refine st ?_
     with_reducible refine Lz (fun K hK=>?_)
     go_simp;refine mk.out.mono ?_;rintro e w2 ⟨rfl,eo⟩;with_reducible refine hK _ _ ?_;clear hK K;refine st ?_
     refine ln ⟨rfl,?_,?_,?_⟩
     ·exact ag
     ·exact aq
     ·exact eo
    rintro b5 ee ⟨E,c7,eo⟩;replace g:=E.Q7 g rfl;replace a3:=E.Q7 a3 rfl;replace hj:=E.Q7 hj rfl;replace eb:=E.Q7 eb rfl;replace c6:=E.Q7 c6 rfl;have ht:=E.size.trans W;have i1:=E.defers.trans d3;obtain⟨ix,nd⟩:∃i:Int,i=jE x.QH j:=⟨_,rfl⟩;rw[←nd]at c7;have ms:=hh nd;have s2:=eo.size;have pb:=hh eo;replace r2:=(eo.cell (p:=⟨zx,2,none⟩) (World.block_lt_of_cell? _ ⟨zx,2,none⟩ r2) (fun h=>h)).trans r2;replace r3:=(eo.cell (p:=⟨zx,3,none⟩) (World.block_lt_of_cell? _ ⟨zx,3,none⟩ r3) (fun h=>h)).trans r3;obtain⟨ge,m7⟩:∃b,b=decide (0≤ix):=⟨_,rfl⟩;have u6:decide ((0:Int)≤ix)=ge:=m7.symm;have o7:=hh m7;have p9:B≤ee.heap.size:=Nat.le_trans m1 s2;have ta:=hh (pl.out.below (cK B) (eo.below (B:=B) m1 (fun _ _ h=>h)));clear nd m7 eo;refine so (fun a4 Z=>aA (fun i=>(rg 80 81 i)) b5 a4∧At a4 81 (.bool ge)∧Z=ee) ?_ ?_
    ·have a0:aA (fun i=>(rg 80 81 i)) b5 b5:=aA.refl _ _
     obtain⟨T,d⟩:=b5;refine rl ?_
     iterate 2 with_reducible refine st ?_
     refine ln ⟨rfl,ag,aq,rfl⟩
    rintro a4 Z ⟨q,h5,rfl⟩;replace g:=q.Q7 g rfl;replace a3:=q.Q7 a3 rfl;replace hj:=q.Q7 hj rfl;replace eb:=q.Q7 eb rfl;replace c6:=q.Q7 c6 rfl;replace c7:=q.Q7 c7 rfl;have c4:=q.size.trans ht;have en:=q.defers.trans i1;have ts:Hid (∀(k:Nat) (y:cW),jE x.QH j=k→x.QH[k]?=some y→cJ ax x j=(ax x.QM y).1):=hh fun k y hk hy=>by
     rcases oG (ls:=x.QH) (c0:=j)with⟨e,_⟩|⟨k2,y2,e,e2,e3⟩
     ·rw[hk]at e;omega
     ·have:k=k2:=by rw[hk]at e;omega
      subst this;obtain rfl:y=y2:=Option.some.inj (hy.symm.trans e2);unfold cJ;rw[e3]
    refine wp_cond_split (h5.eval χ) (fun hg=>?_) (fun hg=>?_)
    ·have hl:0≤ix:=by have h1:=o7.out;rw[hg]at h1;exact of_decide_eq_true h1.symm
     obtain⟨k,y,rk,nn⟩:∃(k:Nat) (y:cW),jE x.QH j=k∧x.QH[k]?=some y:=by
      rcases oG (ls:=x.QH) (c0:=j)with⟨e,_⟩|⟨k2,y2,e,e2,e3⟩
      ·rw[ms.out,e]at hl;omega
      ·exact⟨k2,y2,e,e2⟩
     have t4:k<x.QH.length:=(List.getElem?_eq_some_iff.1 nn).1;obtain⟨_,_,e,ql,sv,si⟩:=ta.out
     cases e
     obtain⟨lb,u4,rfl,u9,t5⟩:=si χ;obtain⟨rv,i0,nu,vn,u3⟩:=t5 k y nn;obtain⟨A_r,my,rfl,hr⟩:=nu;have m2:aJ B 4 ec Z (.slice A_r y.runs.length my) y.runs:=⟨A_r,my,rfl,hr⟩;have n6:At a4 11 (.int .i64 k):=by rw[←rk,←ms.out];exact c7
     refine wp_seq (uS (R:=Ln.co x.QM y.needs y.runs) rfl r2 r3 t4 ql (by unfold top at sv;omega) i0.c0 (i0 1 _ rfl) (i0 2 _ rfl) (i0 3 _ rfl) (oK x.QM y.needs A_r my y.runs y.pos y.QO Z.drew (by unfold lim at sm;omega) (ue m2) (by obtain⟨_,_,e2,_,h2,_⟩:=m2;unfold top at h2;omega) (qX (w:=Z.drew) (m2.below (aF _ _ _) (((aD.refl (fun _=>False) Z).drew).below (B:=B) p9 (fun _ _ h=>h))) p9)) a4 χ a3 n6 _ ?_);intro c wz v gn e7 f9 k0;have l1:(Ln.co x.QM y.needs y.runs).1.length=cJ ax x j:=by rw[ts.out k y rk nn];rfl
     rw[l1]at f9;obtain⟨A_v,u7,rfl⟩:∃A c,v=.slice A (cJ ax x j) c:=by
      rcases f9.2 with⟨e1,e2⟩|⟨gg,u8,cu,e1,_⟩
      ·exact⟨_,_,by rw[e1,←e2]⟩
      ·exact⟨_,_,e1⟩
     have s1:=gn.size.trans c4;have t2:=gn.defers.trans en;replace g:=gn.Q7 g rfl;replace hj:=gn.Q7 hj rfl;have s5:=hh gn;have r0:Kz Z wz:=gi k0 rfl;have s7:=hh r0;obtain⟨sl,bt⟩:∃n:Nat,n=cJ ax x j:=⟨_,rfl⟩;rw[←bt]at e7 sy f9;have gr:=hh bt;clear gn f9 k0 r0 bt l1;refine Code.wp_only (R:=fun cb f7=>aA (fun i=>i==10||i==94||i==95) c cb∧At cb 10 (.int .i64 sl)∧f7=wz) ?_ ?_
     ·have a0:aA (fun i=>i==10||i==94||i==95) c c:=aA.refl _ _
      obtain⟨T,d⟩:=c;refine rl ?_
      iterate 3 with_reducible refine st ?_
      refine ln ⟨rfl,ag,aq,rfl⟩
     rintro cb f7 ⟨ad,cx,rfl⟩;replace g:=ad.Q7 g rfl;replace e7:=ad.Q7 e7 rfl;replace hj:=ad.Q7 hj rfl;have n2:=ad.size.trans s1;have qq:=ad.defers.trans t2;obtain⟨cy,ey⟩:∃n:Nat,n=8*sl:=⟨_,rfl⟩;have p7:IntKind.i64.wrap ((8:Int)*(sl:Int))=(cy:Int):=by rw[ey,i64_in _ χ];omega
     have Ft98:Hid ((8:Int)*(sl:Int)=(cy:Int)):=hh χ;obtain⟨c1,ez⟩:∃n:Nat,n=8+cy:=⟨_,rfl⟩;have p8:IntKind.i64.wrap ((8:Int)+(cy:Int))=(c1:Int):=by rw[ez,i64_in _ χ];omega
     have Ft99:Hid ((8:Int)+(cy:Int)=(c1:Int)):=hh χ;obtain⟨nw,d9⟩:∃n:Nat,n=ci+c1:=⟨_,rfl⟩;have p6:IntKind.i64.wrap ((ci:Int)+(c1:Int))=(nw:Int):=by rw[d9,i64_in _ χ];omega
     have Fnw:Hid ((ci:Int)+(c1:Int)=(nw:Int)):=hh χ;have fd:Hid (nw=cc+dX x (j+1)):=hh (by have h1:=o4.out;have h2:=gr.out;simp only[dX];omega);clear ey ez d9;refine Code.wp_only (R:=fun gs h7=>aA (fun i=>i==4||(rg 96 100 i)) cb gs∧At gs 4 (.int .i64 nw)∧h7=f7) ?_ ?_
     ·have a0:aA (fun i=>i==4||(rg 96 100 i)) cb cb:=aA.refl _ _
      obtain⟨T,d⟩:=cb;refine rl ?_
      iterate 6 with_reducible refine st ?_
      refine ln ⟨rfl,?_,?_,rfl⟩
      ·exact ag
      ·first|exact At.self|(rw[←Fnw.out];exact At.self)
     rintro gs h7 ⟨af,e8,rfl⟩;replace e7:=af.Q7 e7 rfl;replace hj:=af.Q7 hj rfl;replace cx:=af.Q7 cx rfl;have s4:=af.size.trans n2;have t3:=af.defers.trans qq;exact⟨(aA.trans (aA.trans (aA.trans (aA.trans (aA.trans (aA.trans (aA.trans HA.out V ζ) N ζ) E ζ) q ζ) s5.out ζ) ad ζ) af ζ),hj,by rw[←fd.out];exact e8,((pe.out.trans pd.out (fun _ _ h=>h)).trans pb.out (fun _ _ h=>h)).trans s7.out (fun _ _ h=>h)⟩
    ·have hl:¬ 0≤ix:=by have h1:=o7.out;rw[hg]at h1;exact of_decide_eq_false h1.symm
     refine wp_skip ?_;have l2:cJ ax x j=1:=by
      rcases oG (ls:=x.QH) (c0:=j)with⟨e,e2⟩|⟨k2,y2,e,e2,e3⟩
      ·unfold cJ;rw[e2]
      ·rw[ms.out,e]at hl;omega
     obtain⟨sl,bt⟩:∃n:Nat,n=cJ ax x j:=⟨_,rfl⟩;have cx:At a4 10 (.int .i64 sl):=by rw[bt,l2];exact c6
     rw[←bt]at sy;have gr:=hh bt;clear bt l2 c6;obtain⟨cy,ey⟩:∃n:Nat,n=8*sl:=⟨_,rfl⟩;have p7:IntKind.i64.wrap ((8:Int)*(sl:Int))=(cy:Int):=by rw[ey,i64_in _ χ];omega
     have Ft98:Hid ((8:Int)*(sl:Int)=(cy:Int)):=hh χ;obtain⟨c1,ez⟩:∃n:Nat,n=8+cy:=⟨_,rfl⟩;have p8:IntKind.i64.wrap ((8:Int)+(cy:Int))=(c1:Int):=by rw[ez,i64_in _ χ];omega
     have Ft99:Hid ((8:Int)+(cy:Int)=(c1:Int)):=hh χ;obtain⟨nw,d9⟩:∃n:Nat,n=ci+c1:=⟨_,rfl⟩;have p6:IntKind.i64.wrap ((ci:Int)+(c1:Int))=(nw:Int):=by rw[d9,i64_in _ χ];omega
     have Fnw:Hid ((ci:Int)+(c1:Int)=(nw:Int)):=hh χ;have fd:Hid (nw=cc+dX x (j+1)):=hh (by have h1:=o4.out;have h2:=gr.out;simp only[dX];omega);clear ey ez d9;refine Code.wp_only (R:=fun gu h8=>aA (fun i=>i==4||(rg 96 100 i)) a4 gu∧At gu 4 (.int .i64 nw)∧h8=Z) ?_ ?_
     ·have a0:aA (fun i=>i==4||(rg 96 100 i)) a4 a4:=aA.refl _ _
      obtain⟨T,d⟩:=a4;refine rl ?_
      iterate 6 with_reducible refine st ?_
      refine ln ⟨rfl,?_,?_,rfl⟩
      ·exact ag
      ·first|exact At.self|(rw[←Fnw.out];exact At.self)
     rintro gu h8 ⟨H,e8,rfl⟩;replace a3:=H.Q7 a3 rfl;replace hj:=H.Q7 hj rfl;replace eb:=H.Q7 eb rfl;replace c7:=H.Q7 c7 rfl;replace h5:=H.Q7 h5 rfl;replace cx:=H.Q7 cx rfl;have n1:=H.size.trans c4;have o3:=H.defers.trans en;exact⟨(aA.trans (aA.trans (aA.trans (aA.trans (aA.trans HA.out V ζ) N ζ) E ζ) q ζ) H ζ),hj,by rw[←fd.out];exact e8,(pe.out.trans pd.out (fun _ _ h=>h)).trans pb.out (fun _ _ h=>h)⟩
   ·rintro j a' w' q1 ⟨Y,hj,cs⟩
    have X:=Y.size.trans W;have HR:=hh cs;have e1:IntKind.u64.wrap ((j:Int)+1)=((j+1:Nat):Int):=by rw[u64_in _ χ];omega
    clear cs;obtain⟨T,d⟩:=a';refine rl ?_
    iterate 2 with_reducible refine st ?_
    refine ln ⟨rfl,?_,?_,?_,HR.out.2⟩
    ·exact ag
    ·first|exact At.self|(rw[show((j+1:Nat):Int)=(j:Int)+1 from χ];exact At.self)
    ·exact At.ne (At.ne HR.out.1 ψ) ψ
   ·rintro c wz ⟨Y,hj,l6,nm⟩
    have fd:Hid (cc+dX x 4=b0+fZ (P.Q9.take (n+1))):=hh (by rw[gl.out,o5.out];omega);rw[fd.out]at l6;exact⟨aA.trans (aA.trans (be.m) cf ζ) Y ζ,l6,(HK.out.trans gp.out (fun _ _ h=>h)).trans nm (fun _ _ h=>h)⟩
  ·rintro b wr Y ⟨g,hk⟩
   rw[List.take_length]at g;have X:=Y.size.trans O;have d2:=Y.defers.trans a5;have l5:b0+fZ P.Q9=dz ax P:=by
    rw[s6.out,HN.out];unfold dz eO fZ;omega
   rw[l5]at g;obtain⟨tt,n3⟩:∃n:Nat,n=dz ax P:=⟨_,rfl⟩;rw[←n3]at g;have tu:=hh n3;clear n3 l5;refine so (fun gw h9=>aA (fun i=>i==2||i==103) b gw∧At gw 2 (.int .i64 tt)∧h9=wr) ?_ ?_
   ·have a0:aA (fun i=>i==2||i==103) b b:=aA.refl _ _
    obtain⟨T,d⟩:=b;refine rl ?_
    iterate 2 with_reducible refine st ?_
    refine ln ⟨rfl,ag,aq,rfl⟩
   rintro gw h9 ⟨di,up,rfl⟩;replace g:=di.Q7 g rfl;have O:=di.size.trans X;have a5:=di.defers.trans d2;refine wp_ret ?_
   repeat (first|with_reducible apply b7|with_reducible apply bH)
   refine bk (t:=2) rfl up (by rw[O];decide) a5 ?_;exact⟨by rw[tu.out],pg.out.trans hk (fun _ _ h=>h)⟩
theorem ub{P:aC}{m:Ck.Map}(h:da P m=true):(ups m (aS P m.of)).length≤34:=by
 rw[nR]at h;simp only[Bool.and_eq_true,decide_eq_true_eq]at h;obtain⟨_,l,d⟩:=h;obtain⟨g,j⟩:m.Q7≤549755813888∧(aS P m.of).size≤549755813888-m.Q7:=by
  unfold below at d
  simpa using d
 simp[ups];omega
theorem nJ{P:aC}:∀{l:List Ck.Map},(∀m∈l,da P m=true)→(eh P l).length≤34*l.length
 | [],_=>Nat.le_refl _
 | m::t,h=>by
  have g:=nJ (l:=t) fun x hx=>h x (List.mem_cons_of_mem _ hx)
  have d:=ub (h m List.mem_cons_self);have e:eh P (m::t)=(if(aS P m.of).size=0 then[]else(ups m (aS P m.of)).map (· / 512))++eh P t:=by simp[eh]
  rw[e,List.length_append,List.length_cons];split
  ·simp;omega
  ·rw[List.length_map];omega
theorem oA{P:aC}:∀{l:List Ck.Map},(∀m∈l,da P m=true)→(fB P l).length≤34*l.length
 | [],_=>Nat.le_refl _
 | m::t,h=>by
  have g:=oA (l:=t) fun x hx=>h x (List.mem_cons_of_mem _ hx)
  have d:=ub (h m List.mem_cons_self);have e:fB P (m::t)=(if(aS P m.of).size=0∨(aS P m.of).big=true then[]else ups m (aS P m.of))++fB P t:=by simp[fB]
  rw[e,List.length_append,List.length_cons];split
  ·simp;omega
  ·omega
theorem sR(l:List Nat):l.eraseDups.length≤l.length:=qr (oQ l) fun x hx=>List.mem_eraseDups.1 hx
theorem vg(P:aC)(l:List Ck.Map):bY P l≤1+68*l.length:=by
 unfold bY;split
 ·rename_i h
  have h:=List.all_eq_true.1 h;have d:=nJ h;have g:=oA h;have j:=sR (eh P l);have p:=sR (fB P l);omega
 ·omega
def jL(P:aC)(ls:List (List Ck.Map)):Nat:=(ls.map (bY P)).sum
theorem vh(P:aC)(ls:List (List Ck.Map))(l:List Ck.Map):jL P (ls++[l])=jL P ls+bY P l:=by simp[jL]
theorem qR(P:aC):∀(ls:List (List Ck.Map)),(∀l∈ls,l.length≤2097152)→jL P ls≤ls.length*142606400
 | [],_=>by simp[jL]
 | l::t,h=>by
  have g:=qR P t fun y d=>h y (List.mem_cons_of_mem _ d)
  have j:=h l List.mem_cons_self;have p:=vg P l;have e:jL P (l::t)=bY P l+jL P t:=by simp[jL]
  rw[e,List.length_cons];omega
theorem nr{br:Nat→cW→Nat×Int×Int}{P:aC}{l:List Ck.Map}(g:l∈P.tabled)(d:bY P l=0):pages br P=0:=by
 unfold pages;rw[if_neg];intro h;have:=List.all_eq_true.1 h l g;rw[d]at this
 cases this
theorem wJ{br:Nat→cW→Nat×Int×Int}{P:aC}(h:∀l∈P.tabled,0<bY P l):pages br P=jL P P.tabled+(dz br P+4095) / 4096:=by
 unfold pages;rw[if_pos (List.all_eq_true.2 fun l d=>by simpa using h l d)];rfl
theorem zY(P:aC)(j:∀x∈P.Q5,x.text.size≤2097152)(h:P.QG.length≤2097152∧P.Q4.length≤2097152∧P.Q5.length≤2097152∧P.Q3.length≤2097152∧P.Q8.length≤2097152∧P.QJ.length≤2097152∧P.QC.length≤2097152∧P.Q9.length≤2097152):dz ax P≤9000000000000:=by
 have d:=mo P.Q5 j;have g:=nh P.Q9;unfold eO at d;unfold fZ at g;unfold dz;omega
def km(l:List Ck.bA):List (List Ck.Map):=(l.map bA.QF).filter fun l=>decide (0<l.length)
theorem xE(l:List Ck.bA)(x:Ck.bA):km (l++[x])=km l++(if 0<x.QF.length then[x.QF]else[]):=by
 unfold km;rw[List.map_append,List.filter_append]
 congr 1
 simp only[List.map_cons,List.map_nil,List.filter_cons,List.filter_nil]
 by_cases h:0<x.QF.length<;>simp[h]
theorem sU(l:List Ck.bA):(km l).length≤l.length:=by
 unfold km;exact Nat.le_trans (List.length_filter_le _ _) ξ
namespace Rs
def pgS(e:Nat):Sta where
 i _:=e
def pgR:Fr:=[(4,.one (.i .i64 (.x 33))),(3,.one (.v 24)),(1,.one (.p 0 0))]
theorem zX{α:Type}{p:α→Prop}{l:List α}{k:Nat}{x:α}(hx:l[k]?=some x)(h:∀y∈l.take k,p y)(g:p x):∀y∈l.take (k+1),p y:=by
 intro y d;rw[List.take_add_one,hx]at d
 rcases List.mem_append.1 d with q|q
 ·exact h y q
 ·obtain rfl:y=x:=by simpa using q
  exact g
theorem lh{B:Nat}{w:World}{v:aR}{P:aC}(h:ao B w v P)(hB:B≤w.heap.size):Calls Tryz.prog 22 #[.agg (v.cells P).toArray] w fun e w'=>e=.returned (.int .i64 (pages ax P))∧Kz w w':=by
 have bm:∀x∈P.Q3,x.QF.length≤2097152:=bg h.Q3 fun b o x hx=>by obtain⟨_,_,_,⟨_,_,_,_,h,_⟩,_⟩:=hx;exact h
 have bl:∀x∈P.Q4,x.QF.length≤2097152:=bg h.Q4 fun b o x hx=>by obtain⟨_,_,⟨_,_,_,_,h,_⟩,_⟩:=hx;exact h
 have cc:∀x∈P.Q5,x.text.size≤2097152:=bg h.Q5 fun b o x hx=>hx.2.2.2.2.2.2
 have lt:∀{α:Type} {k:Nat} {R:World→Nat→Nat→α→Prop} {w:World} {v:Value} {xs:List α},aJ B k R w v xs→xs.length≤2097152:=fun h=>by obtain⟨_,_,_,_,C,_⟩:=h;exact C
 have b0:=zY P cc ⟨lt h.QG,lt h.Q4,lt h.Q5,lt h.Q3,lt h.Q8,lt h.QJ,lt h.QC,lt h.Q9⟩;have h3:=lt h.Q3;have h4:=lt h.Q4;have add:∀{x y:Nat},x+y≤2000000000000000→IntKind.i64.wrap ((x:Int)+y)=((x+y:Nat):Int):=fun h=>by rw[i64_in _ χ];omega
 have bd:=fun(l:List Ck.aj) (C:∀x∈l,x.QF.length≤2097152)=>qR P (l.map aj.QF) (by intro y hy;obtain⟨x,hx,rfl⟩:=List.mem_map.1 hy;exact C x hx)
 have be:=fun(l:List Ck.bA) (C:∀x∈l,x.QF.length≤2097152)=>qR P (km l) (by intro y hy;obtain⟨x,hx,rfl⟩:=List.mem_map.1 (List.mem_filter.1 hy).1;exact C x hx)
 refine fnE (cA v P) (fun _=>(0,0)) [.ag aa] Tryz.func22 Tryz.ntmps22 rfl (by rw[List.map_cons,b6 h (Agr.refl _ _)];rfl) ψ H0 (fun _ h=>h.elim) trivial fun a hd hh=>?_
 refine am 1 (fun _=>true) [(1,.one (.p 0 0))] [(0,aa)] 1 [] hPt δ hh fun κ1 a1 w1 n1 p1=>?_
 refine tF 1 58 [.ag aa] (.one (.v 24)) 24 (fun d w1=>∃X,d={ o:=fun _ =>.map (some X) }∧X<w1.heap.size∧fW w1 X P) (fun _=>true) [(3,.one (.v 24)),(1,.one (.p 0 0))] [(0,aa)] 1 δ n1 (fun w' u=>?_) fun κ2 a2 w2 d wt ⟨X,b2,cb,W⟩ kt n2 p2=>?_
 ·rw[List.map_cons,b6 h (Agr.refl _ _)]
  have hk:=K3 p1.keep u;exact(kU (ao.kept h hB hk) (by have:=hk.size;omega)).mono fun e ac ⟨X,he,_,C,W,hk⟩=>⟨_,⟨X,rfl,C,W⟩,he,hk⟩
 subst b2;have bz:Agr (lo 24) (cA v P) ((cA v P).put 24 { o:=fun _ =>.map (some X) }):=aQ _ _ _;have bx:=K3 p1.keep p2.keep;have tab:∀{S:Sta} {κ:Kap} {w3 w4:World} {V:Value} {l:List Ck.Map} (c:Nat),B≤w3.heap.size→aJ B 5 cU w3 V l→Kz w3 w4→Kz wt w4→S.o 24=.map (some X)→S.a 40=vA V→S.n 40=l.length→S.n c=vC V →
  Calls Tryz.prog 59 ([SV.one (.sl 40 40 c),.one (.v 24)].map (SV.den S κ)).toArray w4 fun e ac=>∃d,d=pgS (bY P l)∧e=.returned (SV.den (S.put 56 d) κ (.one (.i .i64 (.x 56))))∧Kz w4 ac:=by
  intro S κ w3 w4 V l c h1 h2 h3 h4 e1 I e3 e4;rw[show([SV.one (.sl 40 40 c),.one (.v 24)].map (SV.den S κ)).toArray = #[.slice (vA V) l.length (vC V),.map (some X)] by simp only[List.map_cons,List.map_nil,SV.den,Cl.den,e1,I,e3,e4]];obtain⟨nn,hq⟩:=W;exact(nQ (by rw[aU h2];exact h2.below (aF _ _ _) (h3.below (B:=B) h1 fun _ _ e=>e)) (Nat.le_trans h1 h3.size) ⟨nn,hq.keep h4 fun e=>e⟩ (Nat.lt_of_lt_of_le cb h4.size) (fun s=>nM h s)).mono fun e ac q=>⟨_,rfl,q.1,q.2⟩
 refine am 2 (fun _=>true) ((16,.one (.i .i64 (.c 0)))::(15,.one (.i .i64 (.ln 3)))::(14,.one (.sl 3 3 15)) :: [(4,.one (.i .i64 (.c 0))),(3,.one (.v 24)),(1,.one (.p 0 0))]) [(0,aa)] 1 [] hPt δ n2 fun κ3 a3 w3 n3 p3=>?_
 have ad:=K3 bx p3.keep;have bo:=K3 kt p3.keep;refine aM (Ag n3 P.Q3.length 32 16 3 ((15,.one (.i .i64 (.ln 3)))::(14,.one (.sl 3 3 15))::pgR) (fun _=>true) pgS (fun k e _=>e=jL P ((P.Q3.take k).map aj.QF)∧∀x∈P.Q3.take k,0<bY P x.QF) (fun _ _ _ _ _ h=>h) 0 hPt δ rfl χ ⟨rfl,ξ⟩ (n3.has.re ⟨rfl,rfl,rfl,rfl,rfl,rfl,trivial⟩) (fun k e a4 w4 hk Q hA H=>?_) fun e a4 w4 Q hA H=>?_)
 ·obtain⟨x,hx⟩:=ge hk
  obtain⟨he,D⟩:=Q.gh;have K:=Rs.K3 ad H;obtain⟨g,o,h1,h2,V,u',h5,W,hr,_⟩:=ai h.Q3 (bX B) hB K hx;obtain⟨κ',hu,n5⟩:=Q.elem (j:=3) (x:=kV x V u') (cl:=jQ 40) h1 ⟨h2,id⟩ hk h5 (ju W hr _ _ _) δ;refine aK (am 1 (fun _=>true) ((6,.one (.p 2 0))::fx 32 16 ((15,.one (.i .i64 (.ln 3)))::(14,.one (.sl 3 3 15))::pgR)) [(2,jQ 40),(0,aa)] 3 [] hPt δ n5 fun κ5 a5 w5 n6 Y=>?_);refine tF 3 59 [.one (.sl 40 40 42),.one (.v 24)] (.one (.i .i64 (.x 56))) 56 (fun d _=>d=pgS (bY P x.QF)) (fun _=>true) ((7,.one (.i .i64 (.x 56)))::fx 32 16 ((15,.one (.i .i64 (.ln 3)))::(14,.one (.sl 3 3 15))::pgR)) [(0,aa)] 3 δ n6 (fun w' u=>tab 42 (Nat.le_trans hB K.size) W (Rs.K3 Y.keep u) (Rs.K3 (Rs.K3 bo H) (Rs.K3 Y.keep u)) rfl rfl rfl rfl) fun κ6 a6 w6 d _ b3 _ n7 U=>?_
  subst b3;have L:=Rs.K3 H (Rs.K3 Y.keep U.keep);have ba:=(hA.trans Y.agree fun _ h=>h).trans U.agree fun _ h=>h
  cases eb:decide (bY P x.QF=0)with
  | true =>
   refine eJ 2 (fun _=>true) [(2,.one (.i .i64 (.c 0)))] [] 3 [] hPt δ (n7.fa [(.cmp .eql (.x 56) (.c 0),true)] (fac ((eQ _ 0).trans eb) cS)) fun κ7 a7 w7 n8 E=>b7 (bH ?_)
   refine fX 2 rfl n8.has rfl (E.agree.defers.trans (ba.defers.trans (p3.agree.defers.trans (p2.agree.defers.trans (p1.agree.defers.trans hd))))) ⟨?_,Rs.K3 ad (Rs.K3 L E.keep)⟩;rw[nr (List.mem_append_left _ (List.mem_map_of_mem (List.mem_of_getElem? hx))) (of_decide_eq_true eb)];rfl
  | false =>
   refine am 3 (fun _=>true) (fx 32 16 ((15,.one (.i .i64 (.ln 3)))::(14,.one (.sl 3 3 15)) :: [(4,.one (.i .i64 (.bin .add .i64 (.x 33) (.x 56)))),(3,.one (.v 24)),(1,.one (.p 0 0))])) [] 3 [] hPt δ (n7.fa [(.cmp .eql (.x 56) (.c 0),false)] (fac ((eQ _ 0).trans eb) cS)) fun κ7 a7 w7 n8 E=>cI rfl ?_
   have ez:e+bY P x.QF=jL P ((P.Q3.take (k+1)).map aj.QF):=by rw[he,List.take_add_one,hx];simp[jL]
   have hb:=bd (P.Q3.take (k+1)) fun y hy=>bm y (List.mem_of_mem_take hy)
   rw[←ez,List.length_map,List.length_take]at hb;refine⟨_,κ7,⟨ez,zX hx D (Nat.pos_of_ne_zero (of_decide_eq_false eb))⟩,fun r hr=>(E.upto r (by show r<3;omega)).trans ((U.upto r (by show r<3;omega)).trans ((Y.upto r (by show r<2;omega)).trans (hu r hr))),n8.has.re ⟨rfl,rfl,rfl,?_,rfl,rfl,trivial⟩,ba.trans E.agree fun _ h=>h,Rs.K3 L E.keep⟩;show Value.int .i64 (IntKind.i64.wrap ((e:Int)+bY P x.QF))=.int .i64 ((e+bY P x.QF:Nat):Int);rw[add χ]
 obtain⟨he,D⟩:=Q.gh;rw[List.take_length]at he D;have b1:=bd P.Q3 bm;rw[←he,List.length_map]at b1;refine am 1 (fun _=>true) ((33,.one (.i .i64 (.c 0)))::(32,.one (.i .i64 (.ln 1)))::(31,.one (.sl 1 1 13))::pgR) [(0,aa)] 1 [] hPt δ Q fun κ5 a5 w5 n5 Y=>?_
 have n6:=n5.downR [(1,.one (.p 0 0))] ⟨rfl,trivial⟩ δ;have af:=Rs.K3 (Rs.K3 ad H) Y.keep;have cd:=Rs.K3 (Rs.K3 bo H) Y.keep;have bf:=Y.agree.defers.trans (hA.defers.trans (p3.agree.defers.trans (p2.agree.defers.trans (p1.agree.defers.trans hd))));refine aM (Ag n6 P.Q4.length 32 33 1 ((32,.one (.i .i64 (.ln 1)))::(31,.one (.sl 1 1 13))::pgR) (fun _=>true) pgS (fun k I _=>I=e+jL P (km (P.Q4.take k))∧∀l∈km (P.Q4.take k),0<bY P l) (fun _ _ _ _ _ h=>h) e hPt δ rfl χ ⟨rfl,by simp[km]⟩ (n5.has.re ⟨rfl,rfl,rfl,rfl,rfl,rfl,trivial⟩) (fun k I a4 w4 hk Q hA H=>?_) fun I a4 w4 Q hA H=>?_)
 ·obtain⟨x,hx⟩:=ge hk
  obtain⟨N,p⟩:=Q.gh;have K:=Rs.K3 af H;obtain⟨g,o,h1,h2,V,h7,W,_⟩:=ai h.Q4 (bh B) hB K hx;obtain⟨κ',hu,n7⟩:=Q.elem (j:=1) (x:=oV x V) (cl:=kJ 40) h1 ⟨h2,id⟩ hk h7 (gB W _ _ _) δ;refine aK (am 1 (fun _=>true) ((9,.one (.p 2 0))::fx 32 33 ((32,.one (.i .i64 (.ln 1)))::(31,.one (.sl 1 1 13))::pgR)) [(2,kJ 40),(0,aa)] 3 [] hPt δ n7 fun κ6 a6 w6 n8 U=>?_);have J:km (P.Q4.take (k+1))=km (P.Q4.take k)++(if 0<x.QF.length then[x.QF]else[]):=by rw[List.take_add_one,hx];exact xE _ x
  cases eb:decide (x.QF.length=0)with
  | true =>
   have e0:¬ 0<x.QF.length:=by have:=of_decide_eq_true eb;omega
   rw[if_neg e0,List.append_nil]at J;refine xl 2 (.e 3) (fun _=>true) (fx 32 33 ((32,.one (.i .i64 (.ln 1)))::(31,.one (.sl 1 1 13))::pgR)) [] 3 [] hPt δ (n8.fa [(.cmp .eql (.ln 40) (.c 0),true)] (fac ((eQ _ 0).trans eb) cS)) fun κ7 a7 w7 n9 E=>?_
   exact⟨I,κ7,by show _=e+jL P (km (P.Q4.take (k+1)))∧∀l∈km (P.Q4.take (k+1)),_;rw[J];exact⟨N,p⟩,fun r hr=>(E.upto r (by show r<3;omega)).trans ((U.upto r (by show r<2;omega)).trans (hu r hr)),n9.has.re ⟨rfl,rfl,rfl,rfl,rfl,rfl,trivial⟩,(hA.trans U.agree fun _ h=>h).trans E.agree fun _ h=>h,Rs.K3 (Rs.K3 H U.keep) E.keep⟩
  | false =>
   have e0:0<x.QF.length:=Nat.pos_of_ne_zero (of_decide_eq_false eb);rw[if_pos e0]at J;refine am 2 (fun _=>true) ((9,.one (.p 2 0))::fx 32 33 ((32,.one (.i .i64 (.ln 1)))::(31,.one (.sl 1 1 13))::pgR)) [(2,kJ 40),(0,aa)] 3 [] hPt δ (n8.fa [(.cmp .eql (.ln 40) (.c 0),false)] (fac ((eQ _ 0).trans eb) cS)) fun κ7 a7 w7 n9 E=>?_
   have a0:=Rs.K3 U.keep E.keep;refine tF 3 59 [.one (.sl 40 40 41),.one (.v 24)] (.one (.i .i64 (.x 56))) 56 (fun d _=>d=pgS (bY P x.QF)) (fun _=>true) ((10,.one (.i .i64 (.x 56)))::fx 32 33 ((32,.one (.i .i64 (.ln 1)))::(31,.one (.sl 1 1 13))::pgR)) [(0,aa)] 3 δ (n9.fa [] cS) (fun w' u=>tab 41 (Nat.le_trans hB K.size) W (Rs.K3 a0 u) (Rs.K3 (Rs.K3 cd H) (Rs.K3 a0 u)) rfl rfl rfl rfl) fun κ8 a8 w8 d _ b4 _ bp p8=>?_
   subst b4;have bc:=Rs.K3 H (Rs.K3 a0 p8.keep);have bb:=((hA.trans U.agree fun _ h=>h).trans E.agree fun _ h=>h).trans p8.agree fun _ h=>h
   cases eb:decide (bY P x.QF=0)with
   | true =>
    refine eJ 2 (fun _=>true) [(2,.one (.i .i64 (.c 0)))] [] 3 [] hPt δ (bp.fa [(.cmp .eql (.x 56) (.c 0),true)] (fac ((eQ _ 0).trans eb) cS)) fun κ9 a9 w9 O Z=>b7 (bH ?_)
    refine fX 2 rfl O.has rfl (Z.agree.defers.trans (bb.defers.trans bf)) ⟨?_,Rs.K3 af (Rs.K3 bc Z.keep)⟩;rw[nr (List.mem_append_right _ (List.mem_filter.2 ⟨List.mem_map_of_mem (List.mem_of_getElem? hx),decide_eq_true e0⟩)) (of_decide_eq_true eb)];rfl
   | false =>
    refine am 3 (fun _=>true) (fx 32 33 ((32,.one (.i .i64 (.ln 1)))::(31,.one (.sl 1 1 13)) :: [(4,.one (.i .i64 (.bin .add .i64 (.x 33) (.x 56)))),(3,.one (.v 24)),(1,.one (.p 0 0))])) [] 3 [] hPt δ (bp.fa [(.cmp .eql (.x 56) (.c 0),false)] (fac ((eQ _ 0).trans eb) cS)) fun κ9 a9 w9 O Z=>cI rfl ?_
    have ez:I+bY P x.QF=e+jL P (km (P.Q4.take (k+1))):=by rw[N,J,vh,Nat.add_assoc]
    have hb:=be (P.Q4.take (k+1)) fun y hy=>bl y (List.mem_of_mem_take hy)
    have C:=sU (P.Q4.take (k+1));rw[List.length_take]at C;refine⟨_,κ9,⟨ez,by rw[J];exact fun l C=>(List.mem_append.1 C).elim (p l) fun q=>by obtain rfl:=List.mem_singleton.1 q;exact Nat.pos_of_ne_zero (of_decide_eq_false eb)⟩,fun r hr=>(Z.upto r (by show r<3;omega)).trans ((p8.upto r (by show r<3;omega)).trans ((E.upto r (by show r<3;omega)).trans ((U.upto r (by show r<2;omega)).trans (hu r hr)))),O.has.re ⟨rfl,rfl,rfl,?_,rfl,rfl,trivial⟩,bb.trans Z.agree fun _ h=>h,Rs.K3 bc Z.keep⟩;show Value.int .i64 (IntKind.i64.wrap ((I:Int)+bY P x.QF))=.int .i64 ((I+bY P x.QF:Nat):Int);rw[add χ]
 obtain⟨N,p⟩:=Q.gh;rw[List.take_length]at N p;have hb:=be P.Q4 bl;have C:=sU P.Q4;have L:=Rs.K3 af H;refine tF 2 60 [.ag aa] (.one (.i .i64 (.x 56))) 56 (fun d _=>d=pgS (dz ax P)) (fun _=>true) [(2,.one (.i .i64 (.bin .add .i64 (.x 33) (.bin .quo .i64 (.bin .sub .i64 (.bin .add .i64 (.x 56) (.c 4096)) (.c 1)) (.c 4096)))))] [] 1 δ Q (fun w' u=>?_) fun κ9 a9 w9 d _ b5 _ O Z=>?_
 ·have hk:=Rs.K3 L u
  rw[List.map_cons,b6 h (bz.trans ((aQ _ 32 _).mono fun j hj=>Nat.ble_eq_true_of_le (Nat.le_trans (Nat.le_of_ble_eq_true hj) ψ)))];exact(xN (ao.kept h hB hk) (by have:=hk.size;omega)).mono fun e ac q=>⟨_,rfl,q.1,q.2⟩
 subst b5;refine eJ 1 (fun _=>true) [(2,.one (.i .i64 (.bin .add .i64 (.x 33) (.bin .quo .i64 (.bin .sub .i64 (.bin .add .i64 (.x 56) (.c 4096)) (.c 1)) (.c 4096)))))] [] 1 [] hPt δ O fun cp ci cm cf bt=>?_
 refine fX 2 rfl cf.has rfl (bt.agree.defers.trans (Z.agree.defers.trans (hA.defers.trans bf))) ⟨?_,Rs.K3 (Rs.K3 L Z.keep) bt.keep⟩;rw[wJ (fun l C=>(List.mem_append.1 C).elim (fun q=>by obtain⟨x,hx,rfl⟩:=List.mem_map.1 q;exact D x hx) (p l)),show jL P P.tabled=I by rw[N,he];simp[jL,aC.tabled,km]];obtain⟨A,bw⟩:∃A,A=dz ax P:=⟨_,rfl⟩;rw[←bw]at b0⊢;show Ending.returned (Value.int .i64 (IntKind.i64.wrap ((I:Int)+IntKind.i64.wrap ((IntKind.i64.wrap (IntKind.i64.wrap ((A:Int)+4096)-1)).tdiv 4096))))=_;rw[i64_in ((A:Int)+4096) χ,i64_in ((A:Int)+4096-1) χ,Int.tdiv_eq_ediv_of_nonneg χ,i64_in (((A:Int)+4096-1) / 4096) χ,i64_in _ χ]
 congr 2
 omega
end Rs
theorem rI{B:Nat}{w:World}{v:aR}{P:aC}(hp:ao B w v P)(hB:B≤w.heap.size){A:Option Addr}{c:Nat}{l:List Ck.Map}(hs:aJ B 5 cU w (.slice A l.length c) l):
 Calls Tryz.prog 34 #[.slice A l.length c,.agg (v.cells P).toArray] w fun e w'=>e=.returned (.int .i64 (bY P l))∧Kz w w':=by
 have c8:=fun s=>nM hp s
 have HP:=hh hp;obtain⟨A_rams,I,bp,cf,cs,cm⟩:=hp.QG;obtain⟨A_devices,r,O,a6,be,ba⟩:=hp.Q4;obtain⟨A_regions,y,S,a9,bm,bd⟩:=hp.Q5;obtain⟨A_subjects,p,N,ad,a4,a1⟩:=hp.Q3;obtain⟨A_channels,g,J,Z,a2,af⟩:=hp.Q8;obtain⟨A_irqs,H,bo,cd,cp,cl⟩:=hp.QJ;obtain⟨A_queues,C,U,bw,b1,bz⟩:=hp.QC;obtain⟨A_plans,E,W,b5,cc,cb⟩:=hp.Q9;obtain⟨A_masters,x,R,a8,bl,bc⟩:=hp.QB;obtain⟨A_starts,D,V,bx,b2,b0⟩:=hp.QE;obtain⟨A_monitors,j,L,ac,a3,a0⟩:=hp.QA;obtain⟨A_forbids,u,Q,a7,bf,bb⟩:=hp.QD;have e0:(v.cells P).toArray = #[.int .i64 P.pos,.string P.name,.slice A_rams P.QG.length I,.slice A_devices P.Q4.length r,.slice A_regions P.Q5.length y,.slice A_subjects P.Q3.length p,.slice A_channels P.Q8.length g,.slice A_irqs P.QJ.length H,.slice A_queues P.QC.length C,.slice A_plans P.Q9.length E,.slice A_masters P.QB.length x,.slice A_starts P.QE.length D,.slice A_monitors P.QA.length j,.slice A_forbids P.QD.length u]:=by
  rw[←bp,←O,←S,←N,←J,←bo,←U,←W,←R,←V,←L,←Q];rfl
 rw[e0];have dk:=hh c8;have HS:=hh hs;have a5:Hid (∀w1,Kz w w1→Calls Tryz.prog 58 #[.agg #[.int .i64 P.pos,.string P.name,.slice A_rams P.QG.length I,.slice A_devices P.Q4.length r,.slice A_regions P.Q5.length y,.slice A_subjects P.Q3.length p,.slice A_channels P.Q8.length g,.slice A_irqs P.QJ.length H,.slice A_queues P.QC.length C,.slice A_plans P.Q9.length E,.slice A_masters P.QB.length x,.slice A_starts P.QE.length D,.slice A_monitors P.QA.length j,.slice A_forbids P.QD.length u]] w1 fun e w'=>∃mb,e=.returned (.map (some mb))∧w1.heap.size≤mb∧mb<w'.heap.size∧fW w' mb P∧Kz w1 w'):=hh fun w1 hk=>by rw[←e0];exact kU (HP.out.below (hk.below (B:=B) hB (fun _ _ h=>h))) (Nat.le_trans hB hk.size)
 clear e0 hp c8 hs bp cm cf cs O ba a6 be S bd a9 bm N a1 ad a4 J af Z a2 bo cl cd cp U bz bw b1 W cb b5 cc R bc a8 bl V b0 bx b2 L a0 ac a3 Q bb a7 bf;refine b9 Tryz.func34 Tryz.ntmps34 rfl (by show 2≤9;decide) fun a d1 hd h=>?_
 have h0:At a 0 (.slice A l.length c):=h 0 _ rfl;have h1:At a 1 (.agg #[.int .i64 P.pos,.string P.name,.slice A_rams P.QG.length I,.slice A_devices P.Q4.length r,.slice A_regions P.Q5.length y,.slice A_subjects P.Q3.length p,.slice A_channels P.Q8.length g,.slice A_irqs P.QJ.length H,.slice A_queues P.QC.length C,.slice A_plans P.Q9.length E,.slice A_masters P.QB.length x,.slice A_starts P.QE.length D,.slice A_monitors P.QA.length j,.slice A_forbids P.QD.length u]):=h 1 _ rfl;clear h
 conv=>arg 2;whnf
 refine so (fun bt q=>aA (fun i=>i==3||i==4) a bt∧At bt 3 (.pointer (some ⟨w.heap.size,0,none⟩))∧q=w.alloc (.cells #[.int .i64 P.pos,.string P.name,.slice A_rams P.QG.length I,.slice A_devices P.Q4.length r,.slice A_regions P.Q5.length y,.slice A_subjects P.Q3.length p,.slice A_channels P.Q8.length g,.slice A_irqs P.QJ.length H,.slice A_queues P.QC.length C,.slice A_plans P.Q9.length E,.slice A_masters P.QB.length x,.slice A_starts P.QE.length D,.slice A_monitors P.QA.length j,.slice A_forbids P.QD.length u] 34)) ?_ ?_
 ·have ds:aA (fun i=>i==3||i==4) a a:=aA.refl _ _
  obtain⟨T,d⟩:=a;refine rl ?_
  iterate 2 with_reducible refine st ?_
  refine ln ⟨rfl,ag,aq,rfl⟩
 rintro bt q ⟨X,h3,b3⟩;replace h0:=X.Q7 h0 rfl;replace h1:=X.Q7 h1 rfl;have c7:=X.size.trans d1;have dt:=X.defers.trans hd;obtain⟨z,hz⟩:∃z,z=w.heap.size:=⟨_,rfl⟩;rw[←hz]at h3;have fz:q.heap[z]?=some (.cells #[.int .i64 P.pos,.string P.name,.slice A_rams P.QG.length I,.slice A_devices P.Q4.length r,.slice A_regions P.Q5.length y,.slice A_subjects P.Q3.length p,.slice A_channels P.Q8.length g,.slice A_irqs P.QJ.length H,.slice A_queues P.QC.length C,.slice A_plans P.Q9.length E,.slice A_masters P.QB.length x,.slice A_starts P.QE.length D,.slice A_monitors P.QA.length j,.slice A_forbids P.QD.length u] 34 (0,0)):=by rw[b3,hz];exact heap_alloc_new _ _
 have cw:Kz w q:=by rw[b3];exact(aD.refl _ _).alloc _
 have c9:=hh cw;have q0:q.cell? ⟨z,0,none⟩=some (.int .i64 P.pos):=cr fz rfl;have q1:q.cell? ⟨z,1,none⟩=some (.string P.name):=cr fz rfl;have q2:q.cell? ⟨z,2,none⟩=some (.slice A_rams P.QG.length I):=cr fz rfl;have q3:q.cell? ⟨z,3,none⟩=some (.slice A_devices P.Q4.length r):=cr fz rfl;have q4:q.cell? ⟨z,4,none⟩=some (.slice A_regions P.Q5.length y):=cr fz rfl;have q5:q.cell? ⟨z,5,none⟩=some (.slice A_subjects P.Q3.length p):=cr fz rfl;have q6:q.cell? ⟨z,6,none⟩=some (.slice A_channels P.Q8.length g):=cr fz rfl;have q7:q.cell? ⟨z,7,none⟩=some (.slice A_irqs P.QJ.length H):=cr fz rfl;have q8:q.cell? ⟨z,8,none⟩=some (.slice A_queues P.QC.length C):=cr fz rfl;have q9:q.cell? ⟨z,9,none⟩=some (.slice A_plans P.Q9.length E):=cr fz rfl;have d3:q.cell? ⟨z,10,none⟩=some (.slice A_masters P.QB.length x):=cr fz rfl;have d4:q.cell? ⟨z,11,none⟩=some (.slice A_starts P.QE.length D):=cr fz rfl;have d5:q.cell? ⟨z,12,none⟩=some (.slice A_monitors P.QA.length j):=cr fz rfl;have d6:q.cell? ⟨z,13,none⟩=some (.slice A_forbids P.QD.length u):=cr fz rfl;have di:=hh (a5.out q cw);clear b3 hz fz h1 cw a5;refine so (fun cv cu=>aA (fun i=>(rg 4 8 i)) bt cv∧At cv 4 (.int .i64 (bY P l:Nat))∧Kz w cu) ?_ ?_
 ·have ds:aA (fun i=>(rg 4 8 i)) bt bt:=aA.refl _ _
  obtain⟨T,d⟩:=bt;refine rl ?_
  iterate 2 with_reducible refine st ?_
  with_reducible refine Lz (fun K hK=>?_)
  go_simp;refine di.out.mono ?_;rintro e w2 ⟨mb,rfl,d0,c5,c6,c3⟩;with_reducible refine hK _ _ ?_;clear hK K
  have b4:Kz w w2:=c9.out.trans c3 (fun _ _ h=>h);have ci:=nQ (HS.out.below (aF _ _ _) (b4.below (B:=B) hB (fun _ _ h=>h))) (Nat.le_trans hB b4.size) c6 c5 dk.out;have HC:=hh ci;have c1:=hh b4;clear d0 c5 c6 c3 ci b4;with_reducible refine Lz (fun K hK=>?_)
  go_simp;refine HC.out.mono ?_;rintro e w3 ⟨rfl,c4⟩;with_reducible refine hK _ _ ?_;clear hK K
  have cx:Kz w w3:=c1.out.trans c4 (fun _ _ h=>h);clear c4;with_reducible refine st ?_
  refine ln ⟨rfl,?_,?_,?_⟩
  ·exact ag
  ·exact aq
  ·exact cx
 rintro cv cu ⟨Y,d2,cx⟩;replace h0:=Y.Q7 h0 rfl;replace h3:=Y.Q7 h3 rfl;have cy:=Y.size.trans c7;have c2:=Y.defers.trans dt;refine wp_ret ?_
 repeat (first|with_reducible apply b7|with_reducible apply bH)
 refine bk (t:=4) rfl d2 (by rw[cy];decide) c2 ?_;exact⟨rfl,cx⟩
theorem wX{B:Nat}{w:World}{pb:Nat}{v:aR}{P:aC}(h:aE B w pb v P vR []):Calls Tryz.prog 56 #[.pointer (some ⟨pb,0,none⟩)] w fun e w'=>e=.returned (.tuple #[])∧aE B w' pb v P vR (lq ax P)∧aD (fun k=>k=pb) w w':=by
 have hp:=h.QP;have HL:=hh h;have d3:=h.base;have d4:=h.lt;have HC:Hid (∀w1,Kz w w1→∀j x,(v.cells P)[j]?=some x→w1.cell? ⟨pb,j,none⟩=some x):=hh fun w1 hk j x hj=>(HL.out.new hk).cell hj
 obtain⟨A_rams,J,bw,cd,cm,ci⟩:=hp.QG;obtain⟨A_devices,r,U,a7,bf,bb⟩:=hp.Q4;obtain⟨A_regions,A,X,ba,bp,be⟩:=hp.Q5;obtain⟨A_subjects,q,O,a0,a6,a3⟩:=hp.Q3;obtain⟨A_channels,l,L,ad,a4,a1⟩:=hp.Q8;obtain⟨A_irqs,I,bt,cc,cl,cf⟩:=hp.QJ;obtain⟨A_queues,C,Y,bx,b2,b0⟩:=hp.QC;obtain⟨A_plans,H,ac,b4,cb,b5⟩:=hp.Q9;obtain⟨A_masters,y,W,a9,bo,bd⟩:=hp.QB;obtain⟨A_starts,D,Z,bz,b3,b1⟩:=hp.QE;obtain⟨A_monitors,p,N,af,a5,a2⟩:=hp.QA;obtain⟨A_forbids,u,V,a8,bm,bc⟩:=hp.QD;have e1:v.cells P=[.int .i64 P.pos,.string P.name,.slice A_rams P.QG.length J,.slice A_devices P.Q4.length r,.slice A_regions P.Q5.length A,.slice A_subjects P.Q3.length q,.slice A_channels P.Q8.length l,.slice A_irqs P.QJ.length I,.slice A_queues P.QC.length C,.slice A_plans P.Q9.length H,.slice A_masters P.QB.length y,.slice A_starts P.QE.length D,.slice A_monitors P.QA.length p,.slice A_forbids P.QD.length u]:=by
  rw[←bw,←U,←X,←O,←L,←bt,←Y,←ac,←W,←Z,←N,←V];rfl
 rw[e1]at HC;have e0:(v.cells P).toArray = #[.int .i64 P.pos,.string P.name,.slice A_rams P.QG.length J,.slice A_devices P.Q4.length r,.slice A_regions P.Q5.length A,.slice A_subjects P.Q3.length q,.slice A_channels P.Q8.length l,.slice A_irqs P.QJ.length I,.slice A_queues P.QC.length C,.slice A_plans P.Q9.length H,.slice A_masters P.QB.length y,.slice A_starts P.QE.length D,.slice A_monitors P.QA.length p,.slice A_forbids P.QD.length u]:=by rw[e1]
 have cu:Hid (∀w1,Kz w w1→Calls Tryz.prog 22 #[.agg #[.int .i64 P.pos,.string P.name,.slice A_rams P.QG.length J,.slice A_devices P.Q4.length r,.slice A_regions P.Q5.length A,.slice A_subjects P.Q3.length q,.slice A_channels P.Q8.length l,.slice A_irqs P.QJ.length I,.slice A_queues P.QC.length C,.slice A_plans P.Q9.length H,.slice A_masters P.QB.length y,.slice A_starts P.QE.length D,.slice A_monitors P.QA.length p,.slice A_forbids P.QD.length u]] w1 fun e w'=>e=.returned (.int .i64 (pages ax P))∧Kz w1 w'):=hh fun w1 hk=>by rw[←e0];exact Rs.lh (HL.out.QP.below (hk.below (B:=B) χ (fun _ _ h=>h))) (Nat.le_trans χ hk.size)
 clear e0 e1 hp h bw ci cd cm U bb a7 bf X be ba bp O a3 a0 a6 L a1 ad a4 bt cf cc cl Y b0 bx b2 ac b5 b4 cb W bd a9 bo Z b1 bz b3 N a2 af a5 V bc a8 bm;obtain⟨pg,cs⟩:∃n,n=pages ax P:=⟨_,rfl⟩;rw[←cs]at cu;have HS:Hid (lq ax P=say (decide (pg≤1024)) P.pos 0):=hh (by rw[cs];rfl);clear cs;have cy:decide ((pg:Int)≤1024)=decide (pg≤1024):=decide_eq_decide.2 χ;obtain⟨bl,cv⟩:∃b,b=decide (pg≤1024):=⟨_,rfl⟩;rw[←cv]at cy HS;clear cv;refine b9 Tryz.func56 Tryz.ntmps56 rfl (by show 1≤15;decide) fun a cw hd hh=>?_
 have h0:At a 0 (.pointer (some ⟨pb,0,none⟩)):=hh 0 _ rfl;clear hh
 conv=>arg 2;whnf
 refine jJ 12 (fun i=>([.pointer (some ⟨pb,0,none⟩),.pointer (some ⟨pb,0,none⟩),.pointer (some ⟨pb,0,none⟩),.pointer (some ⟨pb,0,none⟩),.agg #[.int .i64 P.pos,.string P.name,.slice A_rams P.QG.length J,.slice A_devices P.Q4.length r,.slice A_regions P.Q5.length A,.slice A_subjects P.Q3.length q,.slice A_channels P.Q8.length l,.slice A_irqs P.QJ.length I,.slice A_queues P.QC.length C,.slice A_plans P.Q9.length H,.slice A_masters P.QB.length y,.slice A_starts P.QE.length D,.slice A_monitors P.QA.length p,.slice A_forbids P.QD.length u],.int .i64 (pg:Nat),.bool bl,.pointer (some ⟨pb,0,none⟩),.pointer (some ⟨pb,0,none⟩),.pointer (some ⟨pb,0,none⟩),.pointer (some ⟨pb,0,none⟩),.int .i64 P.pos]:List Value).getD i undef) (fun w'=>Kz w.drew w') δ δ (aD.refl _ _) ?_ ?_
 ·intro i o hi S Q w' K hW hb g R
  have cx:Q.tmps.size=15:=hb.size.trans cw;have d9:=hb.Q7 h0 rfl;have E:Kz w w':=((aD.refl (fun _=>False) w).drew).trans hW (fun _ _ h=>h)
  match i,hi,S,g,R with
  | 0,_,S,g,R =>
   obtain rfl:=oi S;obtain⟨T,d⟩:=Q;go_simp;exact R _ hW
  | 1,_,S,g,R =>
   obtain rfl:=oi S;obtain⟨T,d⟩:=Q;go_simp;exact R _ hW
  | 2,_,S,g,R =>
   obtain rfl:=oi S;have c8:At Q 3 (.pointer (some ⟨pb,0,none⟩)):=g 1 δ ψ 3 rfl;obtain⟨T,d⟩:=Q;go_simp;exact R _ hW
  | 3,_,S,g,R =>
   obtain rfl:=oi S;have c9:At Q 4 (.pointer (some ⟨pb,0,none⟩)):=g 2 δ ψ 4 rfl;obtain⟨T,d⟩:=Q;go_simp;exact R _ hW
  | 4,_,S,g,R =>
   obtain rfl:=oi S;have di:At Q 5 (.pointer (some ⟨pb,0,none⟩)):=g 3 δ ψ 5 rfl;have q0:=HC.out w' E 0 _ rfl;have q1:=HC.out w' E 1 _ rfl;have q2:=HC.out w' E 2 _ rfl;have q3:=HC.out w' E 3 _ rfl;have q4:=HC.out w' E 4 _ rfl;have q5:=HC.out w' E 5 _ rfl;have q6:=HC.out w' E 6 _ rfl;have q7:=HC.out w' E 7 _ rfl;have q8:=HC.out w' E 8 _ rfl;have q9:=HC.out w' E 9 _ rfl;have d5:=HC.out w' E 10 _ rfl;have d6:=HC.out w' E 11 _ rfl;have d7:=HC.out w' E 12 _ rfl;have d8:=HC.out w' E 13 _ rfl;obtain⟨T,d⟩:=Q;go_simp;exact R _ hW
  | 5,_,S,g,R =>
   obtain rfl:=oi S;have dk:At Q 6 (.agg #[.int .i64 P.pos,.string P.name,.slice A_rams P.QG.length J,.slice A_devices P.Q4.length r,.slice A_regions P.Q5.length A,.slice A_subjects P.Q3.length q,.slice A_channels P.Q8.length l,.slice A_irqs P.QJ.length I,.slice A_queues P.QC.length C,.slice A_plans P.Q9.length H,.slice A_masters P.QB.length y,.slice A_starts P.QE.length D,.slice A_monitors P.QA.length p,.slice A_forbids P.QD.length u]):=g 4 δ ψ 6 rfl;obtain⟨T,d⟩:=Q;go_simp;refine(cu.out w' E).mono ?_;rintro e w2 ⟨rfl,cp⟩;exact R _ (hW.trans cp (fun _ _ h=>h))
  | 6,_,S,g,R =>
   obtain rfl:=oi S;have ds:At Q 7 (.int .i64 (pg:Nat)):=g 5 δ ψ 7 rfl;obtain⟨T,d⟩:=Q;go_simp;exact R _ hW
  | 7,_,S,g,R =>
   obtain rfl:=oi S;obtain⟨T,d⟩:=Q;go_simp;exact R _ hW
  | 8,_,S,g,R =>
   obtain rfl:=oi S;have d0:At Q 9 (.pointer (some ⟨pb,0,none⟩)):=g 7 δ ψ 9 rfl;obtain⟨T,d⟩:=Q;go_simp;exact R _ hW
  | 9,_,S,g,R =>
   obtain rfl:=oi S;have d1:At Q 10 (.pointer (some ⟨pb,0,none⟩)):=g 8 δ ψ 10 rfl;obtain⟨T,d⟩:=Q;go_simp;exact R _ hW
  | 10,_,S,g,R =>
   obtain rfl:=oi S;have d2:At Q 11 (.pointer (some ⟨pb,0,none⟩)):=g 9 δ ψ 11 rfl;obtain⟨T,d⟩:=Q;go_simp;exact R _ hW
  | 11,_,S,g,R =>
   obtain rfl:=oi S;have c5:At Q 12 (.pointer (some ⟨pb,0,none⟩)):=g 10 δ ψ 12 rfl;have q0:=HC.out w' E 0 _ rfl;obtain⟨T,d⟩:=Q;go_simp;exact R _ hW
 ·intro o S Q w' hW hb g
  obtain rfl:=oi S;have cx:Q.tmps.size=15:=hb.size.trans cw;have c4:=hb.defers.trans hd;have E:Kz w w':=((aD.refl (fun _=>False) w).drew).trans hW (fun _ _ h=>h);have c7:At Q 2 (.pointer (some ⟨pb,0,none⟩)):=g 0 ψ 2 rfl;have dt:At Q 8 (.bool bl):=g 6 ψ 8 rfl;have c6:At Q 13 (.int .i64 P.pos):=g 11 ψ 13 rfl;have c2:=hh (HL.out.new E);have c1:=hh E;clear E hW hb g;obtain⟨T,d⟩:=Q;with_reducible refine Lz (fun K R=>?_)
  go_simp;refine(ae _ _ 0 108 c2.out rfl).mono ?_;rintro e w2 ⟨rfl,c3,cp⟩;with_reducible refine R _ _ (ln ?_)
  refine ek rfl c4 ⟨rfl,?_,(c1.out.mono fun _ _ h=>h.elim:aD (fun k=>k=pb) w w').trans cp (fun _ _ h=>h)⟩;rw[HS.out]
  simpa using c3
