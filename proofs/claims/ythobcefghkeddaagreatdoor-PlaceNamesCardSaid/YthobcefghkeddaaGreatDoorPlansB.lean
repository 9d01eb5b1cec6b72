import Derived.Test.YthobcefghkeddaaGreatDoorAhdP
import Derived.Test.YthobcefghkeddaaGreatDoorThings2
set_option maxRecDepth 100000
set_option linter.all false
set_option maxHeartbeats 4000000
namespace Go.Proofs.YthobcefghkeddaaGreatDoor
open Go.RowKit Go.IntWalk Ck
variable {e:Int} {B pb:Nat} {w:World} {L:List Wr}
theorem tY(M:Nat)(r:Run)(d:Bool):Ln.right M r d=0∨Ln.right M r d=90∨Ln.right M r d=80∨Ln.right M r d=91:=by
 unfold Ln.right
 repeat' split
 all_goals simp
theorem ks{M:Nat}{d:Bool}:∀{l:List Run} {i s:Nat} {a e:Int},Ln.bT M d i s l=some (a,e)→(e=90∨e=80∨e=91∨e=93)∧∃k:Nat,k<l.length∧a=(i+k:Nat)
 | [],_,_,_,_,h=>by simp[Ln.bT]at h
 | r::l,i,s,a,e,h=>by
  unfold Ln.bT at h;split at h
  ·split at h
   ·simp at h
    obtain⟨rfl,rfl⟩:=h;exact⟨ξ,0,ξ,ξ⟩
   ·obtain⟨g,k,hk,j⟩:=ks h
    exact⟨g,k+1,η,by rw[j];congr 1;omega⟩
  ·rename_i q
   simp at h;obtain⟨rfl,rfl⟩:=h;refine⟨?_,0,ξ,ξ⟩
   rcases tY M r d with h|h|h|h
   ·exact absurd h q
   ·exact .inl h
   ·exact .inr (.inl h)
   ·exact .inr (.inr (.inl h))
theorem xd{M:Nat}{y:cL}(h:¬ (M<1∨65536<M)):(aZ M y).2.2=0∨((aZ M y).2.2=90∨(aZ M y).2.2=80∨(aZ M y).2.2=91∨(aZ M y).2.2=93)∧(∃k:Nat,k<y.runs.length∧(aZ M y).2.1=k)∨(aZ M y).2.2=4∧(aZ M y).2.1 = -1:=by
 unfold aZ Ln.dG;simp only[if_neg h]
 cases hq:Ln.bT M y.needs 0 0 y.runs with
 | none =>
  simp only;unfold Ln.eU;split
  ·exact .inr (.inr ⟨rfl,rfl⟩)
  ·exact .inl rfl
 | some q =>
  obtain⟨a,e⟩:=q;obtain⟨d,k,hk,g⟩:=ks hq;exact .inr (.inl ⟨d,k,hk,by simpa using g⟩)
theorem yL(h:e=90∨e=80∨e=91∨e=93∨e=4):eI (dy e)=e:=by
 rcases h with rfl|rfl|rfl|rfl|rfl<;>rfl
def ia:List Int:=[90,80,91,93]
theorem Ap{e:Int}{k:Nat}{x:Int}(d:ia[k]?=some x)(g:e=x)(h:∀z∈ia.take k,e≠z):dy e=4+k:=by
 subst g
 match k,d with
 | 0,d=>obtain rfl:_=e:=Option.some.inj d;rfl
 | 1,d=>obtain rfl:_=e:=Option.some.inj d;rfl
 | 2,d=>obtain rfl:_=e:=Option.some.inj d;rfl
 | 3,d=>obtain rfl:_=e:=Option.some.inj d;rfl
 | k+4,d=>simp[ia]at d
theorem wn(d:∀z∈ia,e≠z):dy e=8:=by
 have g:=d 90 (by simp[ia]);have h:=d 80 (by simp[ia]);have j:=d 91 (by simp[ia]);have l:=d 93 (by simp[ia]);unfold dy;rw[if_neg g,if_neg h,if_neg j,if_neg l]
theorem zQ{v:aX}{P:aF}(h:aG B w pb v P eI L){M:Nat}(hM:¬ (M<1∨65536<M)){y:cL}{A_r:Option Addr}{a0:Nat}(hs:aK B 4 oq w (.slice A_r y.runs.length a0) y.runs):
 Calls Tryz.prog 102 #[.pointer (some ⟨pb,0,none⟩),.int .u64 M,.agg #[.int .i64 y.pos,.int .u64 y.QN,.bool y.needs,.slice A_r y.runs.length a0]] w fun e w'=>e=.returned (.tuple #[])∧aG B w' pb v P eI (kj (fun M y=>(aZ M y).2) M y++L)∧aD (fun k=>k=pb) w w':=by
 have gx:=h.base;have eb:=h.lt;have HL:=hh h;have hv:=xd (y:=y) hM;have ca:∀w1,Kz w w1→Calls Tryz.prog 120 #[.int .u64 M,.agg #[.int .i64 y.pos,.int .u64 y.QN,.bool y.needs,.slice A_r y.runs.length a0]] w1 (bu w1 (Ln.dG M y.needs y.runs)):=fun w1 hk =>
  sZ M y.needs A_r a0 y.runs y.pos y.QN w1 χ (vK hs) (by obtain⟨_,_,e2,_,h2,_⟩:=hs;unfold top at h2;omega) (vL (hs.below (aI _ _ _) (hk.below (B:=B) χ (fun _ _ h=>h))) (Nat.le_trans χ hk.size))
 obtain⟨R,hR⟩:∃R,R=Ln.dG M y.needs y.runs:=⟨_,rfl⟩;rw[←hR]at ca;obtain⟨ix,d7⟩:∃i:Int,i=R.2.1:=⟨_,rfl⟩;obtain⟨er,d2⟩:∃i:Int,i=R.2.2:=⟨_,rfl⟩;have hf:aZ M y=(R.1.length,ix,er):=by rw[d7,d2,hR];rfl
 have HW:Hid (kj (fun M y=>(aZ M y).2) M y=if er=0 then[]else[(if 0≤ix then((y.runs[ix.toNat]?).map Run.pos).getD 0 else y.pos,dy er)]):=hh (by unfold kj;simp only[hf]);rw[hf]at hv;simp only at hv;have HV:=hh hv;unfold bu at ca;rw[←d7,←d2]at ca;have ey:=hh ca;obtain⟨_,_,e,g2,hn,hl⟩:=hs
 cases e
 unfold top at hn;have f7:=hh hl;clear hv ca hR d7 d2 hf hl h;refine bK Tryz.func102 Tryz.ntmps102 rfl (by show 3≤51;decide) fun a gr hd h=>?_
 have h0:At a 0 (.pointer (some ⟨pb,0,none⟩)):=h 0 _ rfl;have Y:At a 1 (.int .u64 M):=h 1 _ rfl;have h2:At a 2 (.agg #[.int .i64 y.pos,.int .u64 y.QN,.bool y.needs,.slice A_r y.runs.length a0]):=h 2 _ rfl;clear h
 conv=>arg 2;whnf
 refine so (fun bb E=>aE (fun i=>i==5) a bb∧At bb 5 (.pointer (some ⟨w.heap.size,0,none⟩))∧E=w.alloc (.cells #[.int .i64 y.pos,.int .u64 y.QN,.bool y.needs,.slice A_r y.runs.length a0] 71)) ?_ ?_
 ·have af:aE (fun i=>i==5) a a:=aE.refl _ _
  obtain⟨T,d⟩:=a;refine rl ?_;with_reducible refine st ?_
  refine ln ⟨rfl,ag,aq,rfl⟩
 rintro bb E ⟨Z,h5,bp⟩;replace h0:=Z.Q7 h0 rfl;replace Y:=Z.Q7 Y rfl;replace h2:=Z.Q7 h2 rfl;have ff:=Z.size.trans gr;have gn:=Z.defers.trans hd;obtain⟨z,hz⟩:∃z,z=w.heap.size:=⟨_,rfl⟩;rw[←hz]at h5;have fz:E.heap[z]?=some (.cells #[.int .i64 y.pos,.int .u64 y.QN,.bool y.needs,.slice A_r y.runs.length a0] 71 (0,0)):=by rw[bp,hz];exact heap_alloc_new _ _
 have d8:Kz w E:=by rw[bp];exact(aD.refl _ _).alloc _
 have f2:=hh d8;have FZ:=hh fz;have g4:z≠pb:=χ
 have q0:E.cell? ⟨z,0,none⟩=some (.int .i64 y.pos):=cr fz rfl;have q1:E.cell? ⟨z,1,none⟩=some (.int .u64 y.QN):=cr fz rfl;have q2:E.cell? ⟨z,2,none⟩=some (.bool y.needs):=cr fz rfl;have q3:E.cell? ⟨z,3,none⟩=some (.slice A_r y.runs.length a0):=cr fz rfl;have HC:=hh (ey.out E d8);clear bp hz fz h2 d8 ey;refine so (fun a5 bx=>aE (fun i=>i==6||i==7||i==8||(rg 13 19 i)) bb a5∧At a5 7 (.int .i64 ix)∧At a5 8 (.int .i64 er)∧Kz E bx) ?_ ?_
 ·have af:aE (fun i=>i==6||i==7||i==8||(rg 13 19 i)) bb bb:=aE.refl _ _
  obtain⟨T,d⟩:=bb;refine rl ?_
  iterate 2 with_reducible refine st ?_
  with_reducible refine Lz (fun K hK=>?_)
  go_simp;refine HC.out.mono ?_;rintro e w2 ⟨fv,rfl,_,dc⟩;with_reducible refine hK _ _ ?_;clear hK K
  have a7:=jP dc rfl;clear dc
  iterate 7 with_reducible refine st ?_
  refine ln ⟨rfl,?_,?_,?_,?_⟩
  ·exact ag
  ·exact aq
  ·exact aq
  ·exact a7
 rintro a5 bx ⟨ac,N,g,a7⟩;replace h0:=ac.Q7 h0 rfl;replace Y:=ac.Q7 Y rfl;replace h5:=ac.Q7 h5 rfl;have eg:=ac.size.trans ff;have e9:=ac.defers.trans gn;have c3:Hid (Kz w bx):=f2.out.trans a7 (fun _ _ h=>h);replace q0:=(a7.cell (p:=⟨z,0,none⟩) (aH FZ.out) (fun h=>h)).trans q0;replace q3:=(a7.cell (p:=⟨z,3,none⟩) (aH FZ.out) (fun h=>h)).trans q3;clear a7 q1 q2 HC Y;obtain⟨z0,es⟩:∃b,b=decide (er=0):=⟨_,rfl⟩;have fs:(er==0)=z0:=by rw[es];exact je _ _
 have e6:=hh es;clear es;refine wp_seq (wp_seq (Code.wp_only (R:=fun bc cp=>aE (fun i=>i==20||i==21) a5 bc∧At bc 21 (.bool z0)∧cp=bx) ?_ ?_))
 ·have af:aE (fun i=>i==20||i==21) a5 a5:=aE.refl _ _
  obtain⟨T,d⟩:=a5;refine rl ?_
  iterate 2 with_reducible refine st ?_
  refine ln ⟨rfl,ag,aq,rfl⟩
 rintro bc cp ⟨O,fm,rfl⟩;replace h0:=O.Q7 h0 rfl;replace h5:=O.Q7 h5 rfl;replace N:=O.Q7 N rfl;replace g:=O.Q7 g rfl;have c8:=O.size.trans eg;have b4:=O.defers.trans e9;refine wp_cond_split (fm.eval χ) (fun hg=>?_) (fun hg=>?_)
 ·have b6:er=0:=by have Y:=e6.out;rw[hg]at Y;exact of_decide_eq_true Y.symm
  refine wp_ret ?_
  repeat (first|with_reducible apply bY|with_reducible apply ba)
  refine bodyPost_ret (results_none rfl _ _ _) b4 ⟨rfl,?_,(c3.out.mono fun _ _ h=>h.elim:aD (fun k=>k=pb) w _)⟩;rw[HW.out,if_pos b6];exact HL.out.new c3.out
 have b6:er≠0:=by have Y:=e6.out;rw[hg]at Y;exact of_decide_eq_false Y.symm
 refine wp_skip ?_;have eo:=HW.out;rw[if_neg b6]at eo;have e5:=hh eo;clear eo HW fs hg;refine so (fun bd cs=>aE (fun i=>i==9||i==22||i==23) bc bd∧At bd 9 (.int .i64 y.pos)∧cs=cp) ?_ ?_
 ·have af:aE (fun i=>i==9||i==22||i==23) bc bc:=aE.refl _ _
  obtain⟨T,d⟩:=bc;refine rl ?_
  iterate 3 with_reducible refine st ?_
  refine ln ⟨rfl,ag,aq,rfl⟩
 rintro bd cs ⟨Q,ew,rfl⟩;replace h0:=Q.Q7 h0 rfl;replace h5:=Q.Q7 h5 rfl;replace N:=Q.Q7 N rfl;replace g:=Q.Q7 g rfl;have cb:=Q.size.trans c8;have c6:=Q.defers.trans b4;obtain⟨gE,d4⟩:∃b,b=decide (0≤ix):=⟨_,rfl⟩;have ds:decide ((0:Int)≤ix)=gE:=d4.symm;have dt:=hh d4;clear d4;refine wp_seq (wp_seq (Code.wp_only (R:=fun a6 cv=>aE (fun i=>i==24||i==25) bd a6∧At a6 25 (.bool gE)∧cv=cs) ?_ ?_))
 ·have af:aE (fun i=>i==24||i==25) bd bd:=aE.refl _ _
  obtain⟨T,d⟩:=bd;refine rl ?_
  iterate 2 with_reducible refine st ?_
  refine ln ⟨rfl,ag,aq,rfl⟩
 rintro a6 cv ⟨H,dk,rfl⟩;replace h0:=H.Q7 h0 rfl;replace h5:=H.Q7 h5 rfl;replace N:=H.Q7 N rfl;replace g:=H.Q7 g rfl;replace ew:=H.Q7 ew rfl;have b1:=H.size.trans cb;have b5:=H.defers.trans c6;obtain⟨pl,ed⟩:∃p:Int,p=(if 0≤ix then((y.runs[ix.toNat]?).map Run.pos).getD 0 else y.pos):=⟨_,rfl⟩;rw[←ed]at e5;have c4:=hh ed;clear ed;refine Code.wp_only (R:=fun be cw=>aE (fun i=>i==9||(rg 26 31 i)) a6 be∧At be 9 (.int .i64 pl)∧cw=cv) ?_ ?_
 ·refine wp_cond_split (dk.eval χ) (fun hg=>?_) (fun hg=>?_)
  ·have eq:0≤ix:=by have Y:=dt.out;rw[hg]at Y;exact of_decide_eq_true Y.symm
   obtain⟨k,hk,ea⟩:∃k:Nat,k<y.runs.length∧ix=k:=by
    rcases HV.out with h|⟨_,h⟩|⟨_,h⟩
    ·exact absurd h b6
    ·exact h
    ·omega
   obtain⟨r,hr⟩:=ge hk;obtain⟨bl,off,rfl,gl,e8⟩:=f7.out χ;obtain⟨hc,_⟩:=(aI B _ _) _ _ _ _ _ (c3.out.below (B:=B) χ (fun _ _ h=>h)) gl (e8 k r hr);have r0:=hc.c0;have di:pl=r.pos:=by rw[c4.out,if_pos eq,ea];simp[hr]
   have gy:k≤a0:=χ
   have gw:At a6 7 (.int .i64 k):=by rw[←ea];exact N
   have af:aE (fun i=>i==9||(rg 26 31 i)) a6 a6:=aE.refl _ _;have f6:=hh di;clear hg e8 hc hr di ea c4 dt ds N dk;obtain⟨T,d⟩:=a6;refine rl ?_
   iterate 7 with_reducible refine st ?_
   refine ln ⟨rfl,?_,?_,rfl⟩
   ·exact ag
   ·rw[f6.out];exact At.self
  ·have eq:¬ 0≤ix:=by have Y:=dt.out;rw[hg]at Y;exact of_decide_eq_false Y.symm
   refine wp_skip ⟨rfl,aE.refl _ _,?_,rfl⟩;rw[c4.out,if_neg eq];exact ew
 rintro be cw ⟨U,al,rfl⟩;replace h0:=U.Q7 h0 rfl;replace h5:=U.Q7 h5 rfl;replace N:=U.Q7 N rfl;replace g:=U.Q7 g rfl;have bo:=U.size.trans b1;have b0:=U.defers.trans b5;refine so (fun bf a9=>aE (fun i=>i==10) be bf∧At bf 10 (.int .i64 (4:Nat))∧a9=cw) ?_ ?_
 ·have af:aE (fun i=>i==10) be be:=aE.refl _ _
  obtain⟨T,d⟩:=be;refine rl ?_;with_reducible refine st ?_
  refine ln ⟨rfl,?_,?_,rfl⟩
  ·exact ag
  ·exact At.self
 rintro bf a9 ⟨I,cc,rfl⟩;replace h0:=I.Q7 h0 rfl;replace h5:=I.Q7 h5 rfl;replace N:=I.Q7 N rfl;replace g:=I.Q7 g rfl;replace al:=I.Q7 al rfl;have a8:=I.size.trans bo;have bm:=I.defers.trans b0;clear ds c4;refine wp_seq (wp_seq (Code.wp_only (R:=fun bz an=>aE (fun i=>(rg 32 34 i)) bf bz∧At bz 32 (.slice (some ⟨a9.heap.size,0,none⟩) 4 4)∧At bz 33 (.int .i64 (4:Nat))∧At bz 34 (.int .i64 0)∧an=a9.alloc (.cells #[.int .i64 90,.int .i64 80,.int .i64 91,.int .i64 93] 36)) ?_ ?_))
 ·have af:aE (fun i=>(rg 32 34 i)) bf bf:=aE.refl _ _
  obtain⟨T,d⟩:=bf;refine rl ?_
  iterate 3 with_reducible refine st ?_
  refine ln ⟨rfl,?_,?_,?_,?_,rfl⟩
  ·exact ag
  ·exact aq
  ·exact At.ne At.self ψ
  ·exact aq
 rintro bz an ⟨u,fp,gu,gs,bs⟩;replace h0:=u.Q7 h0 rfl;replace h5:=u.Q7 h5 rfl;replace N:=u.Q7 N rfl;replace g:=u.Q7 g rfl;replace al:=u.Q7 al rfl;replace cc:=u.Q7 cc rfl;have J:=u.size.trans a8;have V:=u.defers.trans bm;obtain⟨ze,eu⟩:∃z,z=a9.heap.size:=⟨_,rfl⟩;rw[←eu]at fp;have fe:an.heap[ze]?=some (.cells #[.int .i64 90,.int .i64 80,.int .i64 91,.int .i64 93] 36 (0,0)):=by rw[bs,eu];exact heap_alloc_new _ _
 have f3:Hid (Kz w an):=hh (c3.out.trans (by rw[bs];exact(aD.refl _ _).alloc _) (fun _ _ h=>h));have FE:=hh fe;clear bs eu fe q0 q3;refine Code.wp_only (R:=fun c5 cx=>aE (fun i=>i==10||i==12||(rg 34 45 i)) bz c5∧At c5 10 (.int .i64 (dy er))∧Kz an cx) ?_ ?_
 ·refine bU 4 (fun i=>i==10||i==12||(rg 34 45 i)) (fun i=>i==10||i==12||(rg 36 44 i)) (fun k a' w'=>At a' 10 (.int .i64 (4+k:Nat))∧(∀z∈ia.take k,er≠z)∧Kz an w') χ gs gu ψ rfl
   ζ χ ψ (fun k a1 a2 w hA ⟨hI,hk⟩=>⟨hA.Q7 hI rfl,hk⟩) ⟨by simpa using cc,ξ,aD.refl _ _⟩ ?_ ?_
  ·rintro n b wr eb hA ex ⟨C,c7,hk⟩
   obtain⟨x,hx⟩:∃x,ia[n]?=some x:=⟨_,Ez (show n<ia.length from eb)⟩;have fr:=(hk.block ze (aH FE.out) (fun h=>h)).trans FE.out;have q0:wr.cell? ⟨ze,n,none⟩=some (.int .i64 x):=by
    rw[cell_of_row _ _ _ _ _ _ fr]
    match n,eb,hx with
    | 0,_,hx=>obtain rfl:_=x:=Option.some.inj hx;rfl
    | 1,_,hx=>obtain rfl:_=x:=Option.some.inj hx;rfl
    | 2,_,hx=>obtain rfl:_=x:=Option.some.inj hx;rfl
    | 3,_,hx=>obtain rfl:_=x:=Option.some.inj hx;rfl
   have cj:=hA.Q7 fp rfl;replace g:=hA.Q7 g rfl;have fi:=hA.size.trans J;have go:=hA.defers.trans V;have g3:=aH fr;have g1:(n:Int)<4:=χ
   have HX:=hh hx;have ez:=hh c7;have HK:=hh hk;have HA:=hh hA;clear hx c7 hk fr hA;refine so (fun W a4=>aE (fun i=>i==12||i==36||i==37) b W∧At W 12 (.int .i64 x)∧a4=wr) ?_ ?_
   ·have af:aE (fun i=>i==12||i==36||i==37) b b:=aE.refl _ _
    obtain⟨T,d⟩:=b;refine rl ?_
    iterate 3 with_reducible refine st ?_
    refine ln ⟨rfl,ag,aq,rfl⟩
   rintro W a4 ⟨l,bw,rfl⟩;replace C:=l.Q7 C rfl;replace g:=l.Q7 g rfl;replace cj:=l.Q7 cj rfl;replace ex:=l.Q7 ex rfl;have en:=l.size.trans fi;have fc:=l.defers.trans go;obtain⟨sm,ee⟩:∃b,b=(er==x):=⟨_,rfl⟩;have bg:=zX er x a4;rw[←ee]at bg;have HC:=hh bg;have e0:=hh ee;clear ee bg cj ex q0;refine wp_seq (wp_seq (Code.wp_only (R:=fun X bt=>aE (fun i=>(rg 38 42 i)) W X∧At X 42 (.bool sm)∧bt=a4) ?_ ?_))
   ·have af:aE (fun i=>(rg 38 42 i)) W W:=aE.refl _ _
    obtain⟨T,d⟩:=W;refine rl ?_
    iterate 4 with_reducible refine st ?_
    with_reducible refine Lz (fun K hK=>?_)
    go_simp;refine HC.out.mono ?_;rintro e w2 ⟨rfl,rfl⟩;with_reducible refine hK _ _ ?_;clear hK K
    refine ln ⟨rfl,ag,aq,rfl⟩
   rintro X bt ⟨q,cf,rfl⟩;replace C:=q.Q7 C rfl;replace g:=q.Q7 g rfl;replace bw:=q.Q7 bw rfl;have c9:=q.size.trans en;have d1:=q.defers.trans fc;refine wp_cond_split (cf.eval χ) (fun hg=>?_) (fun hg=>?_)
   ·have d3:er=x:=by have Y:=e0.out;rw[hg]at Y;exact eq_of_beq Y.symm
    refine wp_exit ?_
    repeat with_reducible apply fJ
    simp only[br];rw[if_neg ψ];simp only[if_true];refine⟨rfl,(aE.trans HA.out (aE.trans (aE.trans (aE.refl (fun i=>i==10||i==12||(rg 36 44 i)) b) l ζ) q ζ) ζ),?_,HK.out⟩;rw[Ap HX.out d3 ez.out];exact C
   ·have d3:er≠x:=by have Y:=e0.out;rw[hg]at Y;exact fun e=>by subst e;simp at Y
    refine wp_skip ?_;have e1:IntKind.i64.wrap (((4+n:Nat):Int)+1)=((4+(n+1):Nat):Int):=by rw[i64_in _ χ];omega
    obtain⟨cu,d0⟩:∃c:Nat,c=4+n:=⟨_,rfl⟩;obtain⟨e7,b3⟩:∃c:Nat,c=4+(n+1):=⟨_,rfl⟩;rw[←d0,←b3]at e1;rw[←d0]at C;have f1:=hh b3;have f0:Hid ((cu:Int)+1=(e7:Int)):=hh χ;clear d0 b3 HC hg;refine Code.wp_only (R:=fun b2 cm=>aE (fun i=>i==10||i==43||i==44) X b2∧At b2 10 (.int .i64 e7)∧cm=bt) ?_ ?_
    ·have af:aE (fun i=>i==10||i==43||i==44) X X:=aE.refl _ _
     obtain⟨T,d⟩:=X;refine rl ?_
     iterate 3 with_reducible refine st ?_
     refine ln ⟨rfl,?_,?_,rfl⟩
     ·exact ag
     ·first|exact At.self|(rw[←f0.out];exact At.self)
    rintro b2 cm ⟨D,cd,rfl⟩;replace g:=D.Q7 g rfl;replace bw:=D.Q7 bw rfl;replace cf:=D.Q7 cf rfl;have fk:=D.size.trans c9;have fy:=D.defers.trans d1;refine⟨(aE.trans (aE.trans (aE.trans (aE.refl (fun i=>i==10||i==12||(rg 36 44 i)) _) l ζ) q ζ) D ζ),by rw[←f1.out];exact cd,fun z hz=>?_,HK.out⟩;rw[aO HX.out]at hz
    rcases List.mem_append.1 hz with h|h
    ·exact ez.out z h
    ·obtain rfl:z=x:=by simpa using h
     exact d3
  ·rintro b wr hA ⟨C,c7,hk⟩
   refine⟨rfl,hA,?_,hk⟩;rw[wn (by simpa[ia]using c7)];exact C
 rintro c5 cx ⟨ad,cd,fd⟩;replace h0:=ad.Q7 h0 rfl;replace g:=ad.Q7 g rfl;replace al:=ad.Q7 al rfl;have cy:=ad.size.trans J;have a3:=ad.defers.trans V;have d9:Kz w cx:=f3.out.trans fd (fun _ _ h=>h);have f5:=hh (HL.out.new d9);have f4:=hh d9;have fl:eI (dy er)=er:=yL (by rcases HV.out with h|⟨h,_⟩|⟨h,_⟩;exact absurd h b6;rcases h with h|h|h|h<;>simp[h];exact .inr (.inr (.inr (.inr h))));have f9:=hh fl;clear fd d9 fl;obtain⟨T,d⟩:=c5;refine rl ?_
 iterate 4 with_reducible refine st ?_
 with_reducible refine Lz (fun K hK=>?_)
 go_simp;refine(cE pl (dy er) er f5.out f9.out).mono ?_;rintro e w2 ⟨rfl,gf,a7⟩;with_reducible refine hK _ _ (ln ?_)
 refine eL rfl a3 ⟨rfl,?_,(f4.out.mono fun _ _ h=>h.elim:aD (fun k=>k=pb) w _).trans a7 (fun _ _ h=>h)⟩;rw[e5.out];exact gf
def kR(w:World)(b:Nat)(P:aF):Prop:=∃n p,cV w b n (.int .u64 0) (fun s =>.int .u64 (kz P s:Nat)) p
theorem C7(w:World):(zeroValue 41).run Tryz.prog w=.ok (.int .u64 0) w:=δ
theorem kR.keep{S:Nat→Prop}{w':World}{b:Nat}{P:aF}(h:kR w b P)(hk:aD S w w')(d:¬ S b):kR w' b P:=by
 obtain⟨n,p,h⟩:=h;exact⟨n,p,h.keep hk d⟩
def jz(P:aF)(y:cL)(r:Run):List Wr:=say (decide (r.QI=ByteArray.empty)||decide (kz P r.QI=y.QN)) r.pos 3
def ku:Nat→cL→Int×Int:=fun M y=>(aZ M y).2
def jZ(P:aF)(M:Nat)(y:cL):List Wr:=jJ P y++kj ku M y
theorem tj{v:aX}{P:aF}(h:aG B w pb v P eI L){mc mb:Nat}(bz:w.heap[mc]?=some (.cells #[.map (some mb)] 180 (0,0)))(bt:kR w mb P)(b0:mc≠pb∧mb≠pb){y:cL}{A_r:Option Addr}{X:Nat}(hs:aK B 4 oq w (.slice A_r y.runs.length X) y.runs)(c3:y.QN<lim)
 {zy:Nat}(a8:w.heap[zy]?=some (.cells #[.int .i64 y.pos,.int .u64 y.QN,.bool y.needs,.slice A_r y.runs.length X] 71 (0,0)))(cu:zy≠pb)(a:Act)(cs:a.tmps.size=130)(h0:At a 0 (.pointer (some ⟨pb,0,none⟩)))(h2:At a 2 (.pointer (some ⟨mc,0,none⟩)))(h8:At a 8 (.pointer (some ⟨zy,0,none⟩)))(Q:Exit→Act→World→Prop)
 (hQ:∀a' w',aE (fun i=>i==10||(rg 99 122 i)) a a'→aG B w' pb v P eI (y.runs.flatMap (jz P y)++L)→aD (fun k=>k=pb) w w'→Q .normal a' w'):
 (ay Tryz.f31 [1,1,1,1,1,0,0,1,1,0,0,1,1,1,0,0,1,1,0,0,1,1,0]).wp Tryz.prog Q a w:=by
 have hd:a.defers=a.defers:=rfl;have c9:=h.lt;have c7:=h.base;have bf:=hh bz;have b5:=hh bt;have HL:=hh h;have bo:=hh a8;obtain⟨_,_,e,dc,hn,hl⟩:=hs
 cases e
 unfold top at hn;have cb:=hh hl;have HQ:=hh hQ;have q3:w.cell? ⟨zy,3,none⟩=some (.slice A_r y.runs.length X):=cr a8 rfl;clear h bz bt hl a8 hQ
 conv=>arg 2;whnf
 refine so (fun W ac=>aE (fun i=>(rg 99 102 i)) a W∧At W 100 (.slice A_r y.runs.length X)∧At W 101 (.int .i64 y.runs.length)∧At W 102 (.int .i64 0)∧ac=w) ?_ ?_
 ·have a0:aE (fun i=>(rg 99 102 i)) a a:=aE.refl _ _
  obtain⟨T,d⟩:=a;refine rl ?_
  iterate 4 with_reducible refine st ?_
  refine ln ⟨rfl,ag,aq,aq,aq,rfl⟩
 rintro W ac ⟨C,cx,cw,cv,rfl⟩;replace h0:=C.Q7 h0 rfl;replace h2:=C.Q7 h2 rfl;replace h8:=C.Q7 h8 rfl;have b1:=C.size.trans cs;have cd:=C.defers.trans hd;refine bU y.runs.length (fun i=>i==10||(rg 102 122 i)) (fun i=>i==10||(rg 104 121 i)) (fun k _ w'=>aG B w' pb v P eI ((y.runs.take k).flatMap (jz P y)++L)∧aD (fun k=>k=pb) ac w') χ cv cw ψ rfl
  ζ χ ψ (fun k a1 a2 w hA hI=>hI) ⟨by simpa using HL.out,aD.refl _ _⟩ ?_ ?_
 ·rintro n b wr bx hA a9 ⟨hL,hk⟩
  obtain⟨bl,off,rfl,cc,bw⟩:=cb.out χ;obtain⟨x,hx⟩:=ge bx;obtain⟨hc,b3⟩:=(aI B _ _) _ _ _ _ _ (hk.below (B:=B) χ (fun _ hi e=>χ)) cc (bw n x hx);have q0:=hc.c0;have q1:=hc 1 _ rfl;have q2:=hc 2 _ rfl;have q3:=hc 3 _ rfl;have O:=hA.Q7 h0 rfl;have U:=hA.Q7 h2 rfl;have V:=hA.Q7 h8 rfl;have Z:=hA.Q7 cx rfl;have b2:=hA.size.trans b1;have cf:=hA.defers.trans cd;have c4:=hk.size;have cy:bl<wr.heap.size:=χ
  have c8:n≤X:=χ
  have HX:=hh hx;have ca:=hh hL;have HK:=hh hk;have bg:=hh ((hk.block mc (aH bf.out) (by exact b0.1)).trans bf.out);have b6:=hh (b5.out.keep hk (by exact b0.2));have bm:=hh ((hk.block zy (aH bo.out) cu).trans bo.out);have di:=hL.lt;clear hx bw hc hA hk hL;refine so (fun D l=>aE (fun i=>i==10||i==104||i==105) b D∧At D 10 (.pointer (some ⟨wr.heap.size,0,none⟩))∧l=wr.alloc (.cells #[.int .i64 x.pos,.string x.QI,.int .u64 x.QS,.int .u64 x.per] 99)) ?_ ?_
  ·have a0:aE (fun i=>i==10||i==104||i==105) b b:=aE.refl _ _
   obtain⟨T,d⟩:=b;refine rl ?_
   iterate 4 with_reducible refine st ?_
   refine ln ⟨rfl,ag,aq,rfl⟩
  rintro D l ⟨g,E,J⟩;replace O:=g.Q7 O rfl;replace U:=g.Q7 U rfl;replace V:=g.Q7 V rfl;replace Z:=g.Q7 Z rfl;replace a9:=g.Q7 a9 rfl;have Y:=g.size.trans b2;have an:=g.defers.trans cf;obtain⟨zr,a7⟩:∃z,z=wr.heap.size:=⟨_,rfl⟩;rw[←a7]at E;have fr:l.heap[zr]?=some (.cells #[.int .i64 x.pos,.string x.QI,.int .u64 x.QS,.int .u64 x.per] 99 (0,0)):=by rw[J,a7];exact heap_alloc_new _ _
  have N:Kz wr l:=by rw[J];exact(aD.refl _ _).alloc _
  have p0:l.cell? ⟨zr,0,none⟩=some (.int .i64 x.pos):=cr fr rfl;have p1:l.cell? ⟨zr,1,none⟩=some (.string x.QI):=cr fr rfl;have pm:l.cell? ⟨mc,0,none⟩=some (.map (some mb)):=cell_of_one ((N.block mc (aH bg.out) (fun h=>h)).trans bg.out);have py:l.cell? ⟨zy,1,none⟩=some (.int .u64 y.QN):=cr ((N.block zy (aH bm.out) (fun h=>h)).trans bm.out) rfl;have cj:(Instr.lookup 180 (.map (some mb)) (.string x.QI) false).run Tryz.prog l=.ok (.int .u64 (kz P x.QI:Nat)) l:=by
   obtain⟨nn,pp,cm⟩:=b6.out.keep N (fun h=>h);exact cm.run Tryz.underlying180 C7 (Nat.le_trans b3.2.2.2 (by unfold maxLen;omega))
  have bd:=hh (ca.out.new N);have bb:=hh (HK.out.trans N (fun _ _ h=>h.elim));clear J a7 fr N q0 q1 q2 q3 Z a9;obtain⟨cp,a5⟩:∃n:Nat,n=kz P x.QI:=⟨_,rfl⟩;rw[←a5]at cj;obtain⟨be,a4⟩:∃b,b=decide (x.QI=ByteArray.empty):=⟨_,rfl⟩;have b4:(x.QI.toList==ByteArray.toList { data := #[] })=be:=by rw[a4];exact bQ _ _
  have c6:(x.QI.toList==[])=be:=by rw[←b4,fN]
  obtain⟨bc,a3⟩:∃b,b=decide (cp=y.QN):=⟨_,rfl⟩;have c5:((cp:Int)==(y.QN:Int))=bc:=by rw[a3];exact eX _ _
  have HS:Hid (jz P y x=say (be||bc) x.pos 3):=by rw[a4,a3,a5];rfl
  clear a4 a3 a5;have dk:=aU
  cases be
  ·skip
   refine Code.wp_only (R:=fun bp ad=>aE (fun i=>(rg 106 121 i)) D bp∧aG B ad pb v P eI (say (false||bc) x.pos 3++((y.runs.take n).flatMap (jz P y)++L))∧aD (fun k=>k=pb) l ad) ?_ ?_
   ·have a0:aE (fun i=>(rg 106 121 i)) D D:=aE.refl _ _
    obtain⟨T,d⟩:=D;refine rl ?_
    iterate 15 with_reducible refine st ?_
    with_reducible refine Lz (fun K hK=>?_)
    go_simp;refine(aR bc x.pos 3 100 bd.out rfl).mono ?_;rintro e w2 ⟨rfl,H,I⟩;with_reducible refine hK _ _ ?_;clear hK K
    refine ln ⟨rfl,?_,?_,?_⟩
    ·exact ag
    ·simpa using H
    ·exact I
   rintro bp ad ⟨q,H,I⟩;replace O:=q.Q7 O rfl;replace U:=q.Q7 U rfl;replace V:=q.Q7 V rfl;replace E:=q.Q7 E rfl;have al:=q.size.trans Y;have a6:=q.defers.trans an;refine⟨(aE.trans (aE.trans (aE.refl (fun i=>i==10||(rg 104 121 i)) _) g ζ) q ζ),H.congr fun p=>?_,bb.out.trans I (fun _ _ h=>h)⟩;rw[aO HX.out,List.flatMap_append,List.flatMap_cons,List.flatMap_nil,List.append_nil,HS.out];simp only[List.mem_append,Bool.false_or,Bool.true_or]
   try simp only[or_assoc,or_comm,or_left_comm]
  ·skip
   refine Code.wp_only (R:=fun bs af=>aE (fun i=>(rg 106 121 i)) D bs∧aG B af pb v P eI (say (true) x.pos 3++((y.runs.take n).flatMap (jz P y)++L))∧aD (fun k=>k=pb) l af) ?_ ?_
   ·have a0:aE (fun i=>(rg 106 121 i)) D D:=aE.refl _ _
    obtain⟨T,d⟩:=D;refine rl ?_
    iterate 15 with_reducible refine st ?_
    with_reducible refine Lz (fun K hK=>?_)
    go_simp;refine(aR true x.pos 3 100 bd.out rfl).mono ?_;rintro e w2 ⟨rfl,H,I⟩;with_reducible refine hK _ _ ?_;clear hK K
    refine ln ⟨rfl,?_,?_,?_⟩
    ·exact ag
    ·simpa using H
    ·exact I
   rintro bs af ⟨u,H,I⟩;replace O:=u.Q7 O rfl;replace U:=u.Q7 U rfl;replace V:=u.Q7 V rfl;replace E:=u.Q7 E rfl;have al:=u.size.trans Y;have a6:=u.defers.trans an;refine⟨(aE.trans (aE.trans (aE.refl (fun i=>i==10||(rg 104 121 i)) _) g ζ) u ζ),H.congr fun p=>?_,bb.out.trans I (fun _ _ h=>h)⟩;rw[aO HX.out,List.flatMap_append,List.flatMap_cons,List.flatMap_nil,List.append_nil,HS.out];simp only[List.mem_append,Bool.false_or,Bool.true_or]
   try simp only[or_assoc,or_comm,or_left_comm]
 ·rintro b wr hA ⟨hL,hk⟩
  rw[List.take_length]at hL;exact HQ.out _ _ (aE.trans (C.m) hA ζ) hL hk
theorem rm{v:aX}{P:aF}(h:aG B w pb v P eI L){mc mb:Nat}(cb:w.heap[mc]?=some (.cells #[.map (some mb)] 180 (0,0)))(b2:kR w mb P)(af:mc≠pb∧mb≠pb){x:gM}(hM:¬ (x.QK<1∨65536<x.QK)){A_l:Option Addr}{ac:Nat}(hs:aK B 4 (jW B) w (.slice A_l x.QL.length ac) x.QL)
 {zx:Nat}(bd:w.heap[zx]?=some (.cells #[.int .i64 x.pos,.string x.name,.int .u64 x.QK,.slice A_l x.QL.length ac] 68 (0,0)))(cj:zx≠pb)(a:Act)(dk:a.tmps.size=130)(h0:At a 0 (.pointer (some ⟨pb,0,none⟩)))(h2:At a 2 (.pointer (some ⟨mc,0,none⟩)))(h6:At a 6 (.pointer (some ⟨zx,0,none⟩)))(Q:Exit→Act→World→Prop)
 (hQ:∀a' w',aE (fun i=>i==8||i==10||(rg 85 128 i)) a a'→aG B w' pb v P eI (x.QL.flatMap (jZ P x.QK)++L)→aD (fun k=>k=pb) w w'→Q .normal a' w'):
 (ay Tryz.f31 [1,1,1,1,1,0,0,1,1,0,0,1,1]).wp Tryz.prog Q a w:=by
 have hd:a.defers=a.defers:=rfl;have eb:=h.lt;have d9:=h.base;have bo:=hh cb;have cu:=hh b2;have HL:=hh h;have bx:=hh bd;obtain⟨_,_,e,ed,hn,hl⟩:=hs
 cases e
 unfold top at hn;have c4:=hh hl;have HQ:=hh hQ;have q3:w.cell? ⟨zx,3,none⟩=some (.slice A_l x.QL.length ac):=cr bd rfl;clear h cb b2 hl bd hQ
 conv=>arg 2;whnf
 refine so (fun Z a3=>aE (fun i=>(rg 85 88 i)) a Z∧At Z 86 (.slice A_l x.QL.length ac)∧At Z 87 (.int .i64 x.QL.length)∧At Z 88 (.int .i64 0)∧a3=w) ?_ ?_
 ·have a7:aE (fun i=>(rg 85 88 i)) a a:=aE.refl _ _
  obtain⟨T,d⟩:=a;refine rl ?_
  iterate 4 with_reducible refine st ?_
  refine ln ⟨rfl,ag,aq,aq,aq,rfl⟩
 rintro Z a3 ⟨q,d3,d2,d1,rfl⟩;replace h0:=q.Q7 h0 rfl;replace h2:=q.Q7 h2 rfl;replace h6:=q.Q7 h6 rfl;have cc:=q.size.trans dk;have c8:=q.defers.trans hd;refine bU x.QL.length (fun i=>i==8||i==10||(rg 88 128 i)) (fun i=>i==8||i==10||(rg 90 127 i)) (fun k _ w'=>aG B w' pb v P eI ((x.QL.take k).flatMap (jZ P x.QK)++L)∧aD (fun k=>k=pb) a3 w') χ d1 d2 ψ rfl
  ζ χ ψ (fun k a1 a2 w hA hI=>hI) ⟨by simpa using HL.out,aD.refl _ _⟩ ?_ ?_
 ·rintro n b wr ca hA bf ⟨hL,hk⟩
  obtain⟨bl,off,rfl,c7,b5⟩:=c4.out χ;obtain⟨y,hx⟩:=ge ca;have b1:=hk.below (B:=B) χ (fun _ hi e=>χ);obtain⟨rv,hc,E,_,b3⟩:=(co B) _ _ _ _ _ b1 c7 (b5 n y hx);obtain⟨A_r,ad,rfl,E⟩:=E;have c5:Hid (aK B 4 oq wr (.slice A_r y.runs.length ad) y.runs):=hh ⟨A_r,ad,rfl,E⟩;have q0:=hc.c0;have q1:=hc 1 _ rfl;have q2:=hc 2 _ rfl;have q3:=hc 3 _ rfl;have H:=hA.Q7 h0 rfl;have an:=hA.Q7 h2 rfl;have N:=hA.Q7 h6 rfl;have a0:=hA.Q7 d3 rfl;have cd:=hA.size.trans cc;have c9:=hA.defers.trans c8;have d8:=hk.size;have d4:bl<wr.heap.size:=χ
  have ea:n≤ac:=χ
  have HX:=hh hx;have cy:=hh hL;have HK:=hh hk;have bp:=hh ((hk.block mc (aH bo.out) (by exact af.1)).trans bo.out);have cv:=hh (cu.out.keep hk (by exact af.2));have bw:=hh ((hk.block zx (aH bx.out) cj).trans bx.out);have ee:=hL.lt;clear hx b5 hc hA hk hL E b1;refine so (fun U C=>aE (fun i=>i==8||i==90||i==91) b U∧At U 8 (.pointer (some ⟨wr.heap.size,0,none⟩))∧C=wr.alloc (.cells #[.int .i64 y.pos,.int .u64 y.QN,.bool y.needs,.slice A_r y.runs.length ad] 71)) ?_ ?_
  ·have a7:aE (fun i=>i==8||i==90||i==91) b b:=aE.refl _ _
   obtain⟨T,d⟩:=b;refine rl ?_
   iterate 4 with_reducible refine st ?_
   refine ln ⟨rfl,ag,aq,rfl⟩
  rintro U C ⟨g,O,V⟩;replace H:=g.Q7 H rfl;replace an:=g.Q7 an rfl;replace N:=g.Q7 N rfl;replace a0:=g.Q7 a0 rfl;replace bf:=g.Q7 bf rfl;have bc:=g.size.trans cd;have b6:=g.defers.trans c9;obtain⟨zy,be⟩:∃z,z=wr.heap.size:=⟨_,rfl⟩;rw[←be]at O;have fy:C.heap[zy]?=some (.cells #[.int .i64 y.pos,.int .u64 y.QN,.bool y.needs,.slice A_r y.runs.length ad] 71 (0,0)):=by rw[V,be];exact heap_alloc_new _ _
  have J:Kz wr C:=by rw[V];exact(aD.refl _ _).alloc _
  have p0:C.cell? ⟨zy,0,none⟩=some (.int .i64 y.pos):=cr fy rfl;have p1:C.cell? ⟨zy,1,none⟩=some (.int .u64 y.QN):=cr fy rfl;have al:zy≠pb:=χ
  have FY:=hh fy;have bm:=hh ((J.block mc (aH bp.out) (fun h=>h)).trans bp.out);have cs:=hh (cv.out.keep J (fun h=>h));have bt:=hh ((J.block zx (aH bw.out) (fun h=>h)).trans bw.out);have bs:=hh (c5.out.below (aI _ _ _) (J.below (B:=B) χ (fun _ _ h=>h)));have cx:=hh (cy.out.new J);have cw:=hh (HK.out.trans J (fun _ _ h=>h.elim));have ds:=J.size;clear V be fy J q0 q1 q2 q3 a0 bf;obtain⟨b4,a8⟩:∃b,b=decide (y.QN<4):=⟨_,rfl⟩;have cm:decide ((y.QN:Int)<4)=b4:=by rw[a8];exact decide_eq_decide.2 χ
  have cp:=hh a8;clear a8;refine so (fun a6 a4=>aE (fun i=>(rg 92 98 i)) U a6∧aG B a4 pb v P eI (say b4 y.pos 3++((x.QL.take n).flatMap (jZ P x.QK)++L))∧aD (fun k=>k=pb) C a4) ?_ ?_
  ·have a7:aE (fun i=>(rg 92 98 i)) U U:=aE.refl _ _
   obtain⟨T,d⟩:=U;refine rl ?_
   iterate 6 with_reducible refine st ?_
   with_reducible refine Lz (fun K hK=>?_)
   go_simp;refine(aR b4 y.pos 3 100 cx.out rfl).mono ?_;rintro e w2 ⟨rfl,Y,D⟩;with_reducible refine hK _ _ ?_;clear hK K
   refine ln ⟨rfl,?_,?_,?_⟩
   ·exact ag
   ·exact Y
   ·exact D
  rintro a6 a4 ⟨l,Y,D⟩;replace H:=l.Q7 H rfl;replace an:=l.Q7 an rfl;replace N:=l.Q7 N rfl;replace O:=l.Q7 O rfl;have W:=l.size.trans bc;have a9:=l.defers.trans b6;have FY2:=(D.block zy (aH FY.out) al).trans FY.out;refine wp_seq (tj Y ((D.block mc (aH bm.out) af.1).trans bm.out) (cs.out.keep D af.2) af (bs.out.below (aI _ _ _) (D.below (B:=B) χ (fun _ hi e=>χ))) b3 FY2 al a6 W H an O _ ?_);intro c wc X b0 bb;have cf:=X.size.trans W;have dc:=X.defers.trans a9;replace H:=X.Q7 H rfl;replace N:=X.Q7 N rfl;replace O:=X.Q7 O rfl;have FY3:=(bb.block zy (aH FY2) al).trans FY2;have I:aD (fun k=>k=pb) C wc:=D.trans bb (fun _ _ h=>h);have FX3:=(I.block zx (aH bt.out) cj).trans bt.out;have px:wc.cell? ⟨zx,2,none⟩=some (.int .u64 x.QK):=cr FX3 rfl;have s0:wc.cell? ⟨zy,0,none⟩=some (.int .i64 y.pos):=cr FY3 rfl;have s1:wc.cell? ⟨zy,1,none⟩=some (.int .u64 y.QN):=cr FY3 rfl;have s2:wc.cell? ⟨zy,2,none⟩=some (.bool y.needs):=cr FY3 rfl;have s3:wc.cell? ⟨zy,3,none⟩=some (.slice A_r y.runs.length ad):=cr FY3 rfl;have c3:=hh (zQ b0 hM (bs.out.below (aI _ _ _) (I.below (B:=B) χ (fun _ hi e=>χ))));have bg:=hh I;have dt:=I.size;clear FY2 FY3 FX3 D bb I Y b0 p0 p1 cm;refine Code.wp_only (R:=fun bz a5=>aE (fun i=>(rg 123 127 i)) c bz∧aG B a5 pb v P eI (kj ku x.QK y++(y.runs.flatMap (jz P y)++(say b4 y.pos 3++((x.QL.take n).flatMap (jZ P x.QK)++L))))∧aD (fun k=>k=pb) wc a5) ?_ ?_
  ·have a7:aE (fun i=>(rg 123 127 i)) c c:=aE.refl _ _
   obtain⟨T,d⟩:=c;refine rl ?_
   iterate 4 with_reducible refine st ?_
   with_reducible refine Lz (fun K hK=>?_)
   go_simp;refine c3.out.mono ?_;rintro e w2 ⟨rfl,Y,D⟩;with_reducible refine hK _ _ ?_;clear hK K
   refine ln ⟨rfl,?_,?_,?_⟩
   ·exact ag
   ·exact Y
   ·exact D
  rintro bz a5 ⟨u,c6,di⟩;replace H:=u.Q7 H rfl;replace N:=u.Q7 N rfl;replace O:=u.Q7 O rfl;have d0:=u.size.trans cf;have d7:=u.defers.trans dc;have HS:jZ P x.QK y=(say b4 y.pos 3++y.runs.flatMap (jz P y))++kj ku x.QK y:=by rw[cp.out];rfl
  refine⟨(aE.trans (aE.trans (aE.trans (aE.trans (aE.refl (fun i=>i==8||i==10||(rg 90 127 i)) _) g ζ) l ζ) X ζ) u ζ),c6.congr fun p=>?_,(cw.out.trans bg.out (fun _ _ h=>h)).trans di (fun _ _ h=>h)⟩;rw[aO HX.out,List.flatMap_append,List.flatMap_cons,List.flatMap_nil,List.append_nil,HS];simp only[List.mem_append]
  try simp only[or_assoc,or_comm,or_left_comm]
 ·rintro b wr hA ⟨hL,hk⟩
  rw[List.take_length]at hL;exact HQ.out _ _ (aE.trans (q.m) hA ζ) hL hk
theorem rj{v:aX}{P:aF}(h:aG B w pb v P eI L){mc mb:Nat}(bx:w.heap[mc]?=some (.cells #[.map (some mb)] 180 (0,0)))(bp:kR w mb P)(a8:mc≠pb∧mb≠pb)(a:Act)(c5:a.tmps.size=130)(h0:At a 0 (.pointer (some ⟨pb,0,none⟩)))(h2:At a 2 (.pointer (some ⟨mc,0,none⟩)))(Q:Exit→Act→World→Prop)
 (hQ:∀a' w',aE (fun i=>i==6||i==8||i==10||(rg 63 129 i)) a a'→aG B w' pb v P eI (P.Q9.flatMap (jp ku P)++L)→aD (fun k=>k=pb) w w'→Q .normal a' w'):
 (ay Tryz.f31 [1,1,1,1]).wp Tryz.prog Q a w:=by
 have hd:a.defers=a.defers:=rfl;have dt:=h.lt;have dk:=h.base;have bf:=hh bx;have cd:=hh bp;have HL:=hh h;obtain⟨A_p,a0,b2,d0,hn,hl⟩:=h.QR.Q9;unfold top at hn;have cu:=hh hl;have HQ:=hh hQ;have q9:w.cell? ⟨pb,9,none⟩=some (.slice A_p P.Q9.length a0):=by rw[←b2];exact h.cell rfl
 clear h bx bp hl hQ b2
 conv=>arg 2;whnf
 refine so (fun W Z=>aE (fun i=>(rg 63 69 i)) a W∧At W 67 (.slice A_p P.Q9.length a0)∧At W 68 (.int .i64 P.Q9.length)∧At W 69 (.int .i64 0)∧Z=w) ?_ ?_
 ·have a3:aE (fun i=>(rg 63 69 i)) a a:=aE.refl _ _
  obtain⟨T,d⟩:=a;refine rl ?_
  iterate 7 with_reducible refine st ?_
  refine ln ⟨rfl,ag,aq,aq,aq,rfl⟩
 rintro W Z ⟨y,c8,c7,c6,rfl⟩;replace h0:=y.Q7 h0 rfl;replace h2:=y.Q7 h2 rfl;have bz:=y.size.trans c5;have cy:=y.defers.trans hd;refine bU P.Q9.length (fun i=>i==6||i==8||i==10||(rg 69 129 i)) (fun i=>i==6||i==8||i==10||(rg 71 128 i)) (fun k _ w'=>aG B w' pb v P eI ((P.Q9.take k).flatMap (jp ku P)++L)∧aD (fun k=>k=pb) Z w') χ c6 c7 ψ rfl
  ζ χ ψ (fun k a1 a2 w hA hI=>hI) ⟨by simpa using HL.out,aD.refl _ _⟩ ?_ ?_
 ·rintro n b wr bw hA bc ⟨hL,hk⟩
  obtain⟨bl,off,rfl,cx,bs⟩:=cu.out χ;obtain⟨x,hx⟩:=ge bw;have bo:=hk.below (B:=B) χ (fun _ hi e=>χ);obtain⟨lv,hc,u,_,dc,_⟩:=(eM B) _ _ _ _ _ bo cx (bs n x hx);obtain⟨A_l,af,rfl,u⟩:=u;have cp:Hid (aK B 4 (jW B) wr (.slice A_l x.QL.length af) x.QL):=hh ⟨A_l,af,rfl,u⟩;have q0:=hc.c0;have q1:=hc 1 _ rfl;have q2:=hc 2 _ rfl;have q3:=hc 3 _ rfl;have I:=hA.Q7 h0 rfl;have J:=hA.Q7 h2 rfl;have Y:=hA.Q7 c8 rfl;have b0:=hA.size.trans bz;have c3:=hA.defers.trans cy;have di:=hk.size;have c9:bl<wr.heap.size:=χ
  have ds:n≤a0:=χ
  have HX:=hh hx;have cm:=hh hL;have HK:=hh hk;have bg:=hh ((hk.block mc (aH bf.out) (by exact a8.1)).trans bf.out);have cf:=hh (cd.out.keep hk (by exact a8.2));have d1:=hL.lt;clear hx bs hc hA hk hL u bo q9;refine so (fun E C=>aE (fun i=>i==6||i==71||i==72) b E∧At E 6 (.pointer (some ⟨wr.heap.size,0,none⟩))∧C=wr.alloc (.cells #[.int .i64 x.pos,.string x.name,.int .u64 x.QK,.slice A_l x.QL.length af] 68)) ?_ ?_
  ·have a3:aE (fun i=>i==6||i==71||i==72) b b:=aE.refl _ _
   obtain⟨T,d⟩:=b;refine rl ?_
   iterate 4 with_reducible refine st ?_
   refine ln ⟨rfl,ag,aq,rfl⟩
  rintro E C ⟨g,V,H⟩;replace I:=g.Q7 I rfl;replace J:=g.Q7 J rfl;replace Y:=g.Q7 Y rfl;replace bc:=g.Q7 bc rfl;have a9:=g.size.trans b0;have bt:=g.defers.trans c3;obtain⟨zx,bb⟩:∃z,z=wr.heap.size:=⟨_,rfl⟩;rw[←bb]at V;have fx:C.heap[zx]?=some (.cells #[.int .i64 x.pos,.string x.name,.int .u64 x.QK,.slice A_l x.QL.length af] 68 (0,0)):=by rw[H,bb];exact heap_alloc_new _ _
  have U:Kz wr C:=by rw[H];exact(aD.refl _ _).alloc _
  have p0:C.cell? ⟨zx,0,none⟩=some (.int .i64 x.pos):=cr fx rfl;have p2:C.cell? ⟨zx,2,none⟩=some (.int .u64 x.QK):=cr fx rfl;have b3:zx≠pb:=χ
  have FX:=hh fx;have cs:=hh ((U.block mc (aH bg.out) (fun h=>h)).trans bg.out);have cc:=hh (cf.out.keep U (fun h=>h));have cj:=hh (cp.out.below (co _) (U.below (B:=B) χ (fun _ _ h=>h)));have be:=hh (cm.out.new U);have bd:=hh (HK.out.trans U (fun _ _ h=>h.elim));clear H bb fx U q0 q1 q2 q3 Y bc;obtain⟨lo,X⟩:∃b,b=decide (x.QK<1):=⟨_,rfl⟩;have b5:decide ((x.QK:Int)<1)=lo:=by rw[X];exact decide_eq_decide.2 χ
  obtain⟨hi,a6⟩:∃b,b=decide (65536<x.QK):=⟨_,rfl⟩;have b4:decide ((65536:Int)<(x.QK:Int))=hi:=by rw[a6];exact decide_eq_decide.2 χ
  have b6:decide (x.QK=0)=lo:=by rw[X];exact decide_eq_decide.2 χ
  have ca:decide ((x.QK:Int)=0)=lo:=by rw[X];exact decide_eq_decide.2 χ
  have al:Hid ((lo||hi)=decide (x.QK<1∨65536<x.QK)):=hh (by rw[X,a6,Bool.decide_or]);clear X a6;have d2:=aU;refine wp_seq (wp_seq (Code.wp_only (R:=fun D ac=>aE (fun i=>(rg 73 80 i)) E D∧At D 80 (.bool (lo||hi))∧ac=C) ?_ ?_))
  ·have a3:aE (fun i=>(rg 73 80 i)) E E:=aE.refl _ _
   obtain⟨T,d⟩:=E;refine rl ?_
   iterate 4 with_reducible refine st ?_
   cases lo
   ·skip
    iterate 4 with_reducible refine st ?_
    refine ln ⟨rfl,?_,?_,rfl⟩
    ·exact ag
    ·simp only[Bool.false_or,Bool.true_or];exact At.self
   ·skip
    iterate 4 with_reducible refine st ?_
    refine ln ⟨rfl,?_,?_,rfl⟩
    ·exact ag
    ·simp only[Bool.false_or,Bool.true_or];exact At.self
  rintro D ac ⟨l,an,rfl⟩;replace I:=l.Q7 I rfl;replace J:=l.Q7 J rfl;replace V:=l.Q7 V rfl;have O:=l.size.trans a9;have a5:=l.defers.trans bt;refine wp_cond_split (an.eval χ) (fun hg=>?_) (fun hg=>?_)
  ·have N:x.QK<1∨65536<x.QK:=by have h1:=al.out;rw[hg]at h1;exact of_decide_eq_true h1.symm
   clear hg b5 b4 b6 ca an;refine so (fun bm ad=>aE (fun i=>(rg 81 84 i)) D bm∧aG B ad pb v P eI ((x.pos,2)::((P.Q9.take n).flatMap (jp ku P)++L))∧aD (fun k=>k=pb) ac ad) ?_ ?_
   ·have a3:aE (fun i=>(rg 81 84 i)) D D:=aE.refl _ _
    obtain⟨T,d⟩:=D;refine rl ?_
    iterate 3 with_reducible refine st ?_
    with_reducible refine Lz (fun K hK=>?_)
    go_simp;refine(cE x.pos 2 92 be.out rfl).mono ?_;rintro e w2 ⟨rfl,a4,a7⟩;with_reducible refine hK _ _ ?_;clear hK K
    refine ln ⟨rfl,?_,?_,?_⟩
    ·exact ag
    ·exact a4
    ·exact a7
   rintro bm ad ⟨q,a4,a7⟩;replace I:=q.Q7 I rfl;replace J:=q.Q7 J rfl;replace V:=q.Q7 V rfl;have b1:=q.size.trans O;have cb:=q.defers.trans a5;refine wp_exit ?_
   repeat with_reducible apply fJ
   simp only[br,if_true];refine⟨(aE.trans (aE.trans (aE.trans (aE.refl (fun i=>i==6||i==8||i==10||(rg 71 128 i)) _) g ζ) l ζ) q ζ),a4.congr fun p=>?_,bd.out.trans a7 (fun _ _ h=>h)⟩;rw[aO HX.out,List.flatMap_append,List.flatMap_cons,List.flatMap_nil,List.append_nil,show jp ku P x=[(x.pos,2)] from by unfold jp;rw[if_pos N]];simp only[List.mem_append,List.mem_cons,List.mem_nil_iff,or_false]
   try simp only[or_assoc,or_comm,or_left_comm]
  ·have N:¬ (x.QK<1∨65536<x.QK):=by have h1:=al.out;rw[hg]at h1;exact of_decide_eq_false h1.symm
   refine wp_skip ?_;refine rm be.out cs.out cc.out a8 N cj.out FX.out b3 D O I J V _ ?_;intro c wc cv cw c4;refine⟨(aE.trans (aE.trans (aE.trans (aE.refl (fun i=>i==6||i==8||i==10||(rg 71 128 i)) _) g ζ) l ζ) cv ζ),cw.congr fun p=>?_,bd.out.trans c4 (fun _ _ h=>h)⟩;rw[aO HX.out,List.flatMap_append,List.flatMap_cons,List.flatMap_nil,List.append_nil,show jp ku P x=x.QL.flatMap (jZ P x.QK) from by unfold jp;rw[if_neg N];rfl];simp only[List.mem_append]
   try simp only[or_assoc,or_comm,or_left_comm]
 ·rintro b wr hA ⟨hL,hk⟩
  rw[List.take_length]at hL;exact HQ.out _ _ (aE.trans (y.m) hA ζ) hL hk
end Go.Proofs.YthobcefghkeddaaGreatDoor
namespace Go.Proofs.YthobcefghkeddaaGreatDoor
open Go.RowKit Go.IntWalk Go.Shelf Ck
variable {w:World} {B:Nat}
attribute [local go_sem] Oper.semAt_some
def Bd(P:aF)(l:List (Fin P.Q4.length)):ByteArray→Value:=qK (fun i=>P.Q4[i].name) (fun i =>.int .u64 (P.Q4[i].QN:Nat)) (fun _ =>.int .u64 0) l
theorem AG(P:aF)(s:ByteArray):Bd P (List.finRange _) s=.int .u64 (kz P s:Nat):=by
 unfold Bd kz;rw[iD,jL P.Q4]
 cases(List.finRange P.Q4.length).find? fun i=>decide (P.Q4[i].name=s)<;>rfl
theorem uj{P:Program}{f:FuncId}{fn:Func}{N:Nat}{args:Array Value}{R:Ending→World→Prop}(q:P.funcs[f]?=some fn)(j:fn.ntmps=N)(l:fn.body.isSome=true)(u:args.size≤N)
 (h:∀a:Act,a.tmps.size=N→a.defers=[]→(∀i v,args[i]?=some v→At a i v)→(ay fn []).wp P (bodyPostM Fence.wide 9 P fn R) a w):Calls P f args w R:=by
 obtain⟨c,d⟩:=Option.isSome_iff_exists.1 l;have e:ay fn []=c:=by unfold ay;rw[d];rfl
 rw[e]at h;refine(callsIn_wide (n:=9)).1 (callsIn_of_wp_marks q d trivial (wpIn_wide.2 (h _ ?_ rfl fun i v g=>?_)))
 ·simp[j];omega
 ·intro x
  have hi:i<args.size:=(Array.getElem?_eq_some_iff.1 g).1;show(args++Array.replicate (fn.ntmps-args.size) undef)[i]=v;rw[Array.getElem_append_left hi];exact(Array.getElem?_eq_some_iff.1 g).2
theorem yr{β:Type}{N k:Nat}{cs:Array Value}{t:TypeId}{z:Nat×Nat}:OwnFrom N (fun(_:β) W=>W.heap[k]?=some (.cells cs t z)):=Own.from (ch k cs t z) N
theorem AT(T:Array Value)(p q:Nat)(u v:Value):(#[p,q].zip #[u,v]).foldl (fun(t:Array Value) (x:Nat×Value)=>match x with|(p,v)=>t.setIfInBounds p v) T=(T.setIfInBounds p u).setIfInBounds q v:=by
 simp[List.zip_toArray]
theorem tk{v:aX}{P:aF}(hp:bO B w v P)(V:B≤w.heap.size){A_s:Option Addr}{U:Nat}(y:v.Q4=.slice A_s P.Q4.length U){C mc bx:Nat}(hm:w.heap[C]?=some (.map #[] 0))(Y:w.heap[mc]?=some (.cells #[.map (some C)] 180 (0,0)))(X:w.heap[bx]?=some (.cells #[.slice A_s P.Q4.length U] 25 (0,0)))
 (bc:B≤C)(a:Act)(ac:a.tmps.size=130)(h2:At a 2 (.pointer (some ⟨mc,0,none⟩)))(a2:At a 55 (.func (.func 127) #[] #[.pointer (some ⟨bx,0,none⟩)]))(Q:Exit→Act→World→Prop)
 (hQ:∀D W,w.heap.size≤D→kR W C P→W.heap[mc]?=some (.cells #[.map (some C)] 180 (0,0))→aD (fun k=>k=C) w W→W.heap[D]?=some (.deferred (some []))→Q .normal { a with defers:={ target := .collected D,args := #[] }::a.defers } W):
 (ay Tryz.f31 [1,1,1,0,1]).wp Tryz.prog Q a w:=by
 have H:=hp.Q4;rw[y]at H;obtain⟨_,_,e,a6,hn,hl⟩:=H
 cases e
 unfold top at hn;have HQ:=hh hQ;have a8:=aH Y;have af:=aH hm;have a4:=aH X;have a7:mc≠C:=by rintro rfl;rw[Y]at hm;cases hm
 have a5:bx≠C:=by rintro rfl;rw[X]at hm;cases hm
 clear hQ
 conv=>arg 2;whnf
 refine wp_block ((wpIn_wide (n:=9)).1 ?_);obtain⟨q,Z,I⟩:=ld (σ:=(Option Addr×Nat)×(Option Addr×Nat)) (fun(x:aa) s=>[.int .i64 x.pos,.string x.name,.int .u64 x.QN,.bool x.stopped,.slice s.1.1 x.QA.length s.1.2,.slice s.2.1 x.QO.length s.2.2]) (fun x _=>aW x.name) (fun b o x hx=>by
  obtain⟨u,u2,hc,⟨Am,cm,rfl,_⟩,⟨Ar,cR,rfl,_⟩,_,_,H⟩:=hx;exact⟨((Am,cm),(Ar,cR)),hc,H⟩) hl
 obtain⟨vs,y⟩:∃vs:Nat→Nat→Value,vs=fun j c=>if h:j<P.Q4.length then([.int .i64 P.Q4[j].pos,.string P.Q4[j].name,.int .u64 P.Q4[j].QN,.bool P.Q4[j].stopped,.slice (q j).1.1 P.Q4[j].QA.length (q j).1.2,.slice (q j).2.1 P.Q4[j].QO.length (q j).2.2]:List Value).getD c undef else undef:=⟨_,rfl⟩
 have hA:0<P.Q4.length→∃b off,A_s=some ⟨b,off,none⟩∧b<w.heap.size∧b≠C∧∀j c,j<P.Q4.length→c<6→w.cell? ⟨b,off+j*6+c,none⟩=some (vs j c):=fun al=>by
  obtain⟨b,off,h1,h2,E⟩:=Z al;refine⟨b,off,h1,χ,χ,fun j c hj hc=>?_⟩;rw[y];simp only[dif_pos hj];refine(E j hj) c _ ?_
  match c,hc with
  | 0,_=>rfl
  | 1,_=>rfl
  | 2,_=>rfl
  | 3,_=>rfl
  | 4,_=>rfl
  | 5,_=>rfl
 have O:=pY Fence.wide 8 trivial rfl ψ bx C w.heap.size P.Q4.length U A_s vs χ a6 ⟨a4,a5⟩ w (Nat.le_refl _) (cell_of_one X) hA;rw[show(fun x:Fin P.Q4.length=>(#[.int .i64 (x.val:Int),.agg #[vs x.val 0,vs x.val 1,vs x.val 2,vs x.val 3,vs x.val 4,vs x.val 5]]:Array Value))=fun x =>#[.int .i64 (x.val:Int),.agg #[.int .i64 P.Q4[x.val].pos,.string P.Q4[x.val].name,.int .u64 P.Q4[x.val].QN,.bool P.Q4[x.val].stopped,.slice (q x.val).1.1 P.Q4[x.val].QA.length (q x.val).1.2,.slice (q x.val).2.1 P.Q4[x.val].QO.length (q x.val).2.2]] from by
  funext x
  rw[y];simp only[dif_pos x.isLt];rfl]at O
 have a1:a.eval (.tmp 55)=.func (.func 127) #[] #[.pointer (some ⟨bx,0,none⟩)]:=a2.eval (by rw[ac];decide);refine wpIn_rangeFunc_ownH (F:=Fence.wide) (n:=9) rfl ψ (gf:=127) (lb := #[.pointer (some ⟨bx,0,none⟩)]) a1 trivial (enters_of Tryz.func127 δ rfl)
  O km (vZ (Nat.le_refl _)) (Below.refl _ _) (fun _=>rfl)
  (fun g W=>(cV W C g.length (.int .u64 0) (Bd P g.reverse) (qI (fun i=>P.Q4[i].name) (fun _=>false) g.reverse)∧W.heap[mc]?=some (.cells #[.map (some C)] 180 (0,0)))∧(aD (fun k=>k=C) w W))
  (fun _ _ _=>False)
  (OwnFrom.and (OwnFrom.and (fun s A B row H hg hr=>cV.own H hg (fun r e=>(hr r e).1) af) yr) (fun s A B row H hg hr=>H.trans (aD.of_grown hg (S:=fun k=>w.heap.size≤k) (fun k e=>(hr k e).1)) (fun i hi h=>χ)))
  (fun _ _ _ _ _ H _ _=>H)
  ⟨⟨cV.new _ _ _ hm,Y⟩,aD.refl _ _⟩
  (fun x (a':Act) (W:World)=>∃Bx:Nat,W.heap[Bx]?=some (Obj.cells #[.int .i64 P.Q4[x.val].pos,.string P.Q4[x.val].name,.int .u64 P.Q4[x.val].QN,.bool P.Q4[x.val].stopped,.slice (q x.val).1.1 P.Q4[x.val].QA.length (q x.val).1.2,.slice (q x.val).2.1 P.Q4[x.val].QO.length (q x.val).2.2] 45 (0,0))∧a'.tmps.size=130∧At a' 2 (.pointer (some ⟨mc,0,none⟩))∧At a' 4 (.pointer (some ⟨Bx,0,none⟩)))
  (fun x a' s A B row H hg hr=>by
   obtain⟨Bx,h2,E⟩:=H;exact⟨Bx,gX h2 hg (fun r e=>(hr r e).2),E⟩)
  ?assign ?body ?done ?stop
 case assign =>
  rintro l g x W K ⟨⟨R,E⟩,V⟩ L;have ad:=aH E;have HK:=hh L;clear O hA I Z y hl L hp;obtain⟨T,d⟩:=a;have a9:((T.setIfInBounds 56 (.int .i64 (x.val:Int))).setIfInBounds 57 (.agg #[.int .i64 P.Q4[x.val].pos,.string P.Q4[x.val].name,.int .u64 P.Q4[x.val].QN,.bool P.Q4[x.val].stopped,.slice (q x.val).1.1 P.Q4[x.val].QA.length (q x.val).1.2,.slice (q x.val).2.1 P.Q4[x.val].QO.length (q x.val).2.2])).size=130:=by simpa using ac
  refine wpIn_region_lit ?_;rw[AT]
  dsimp only
  iterate 2
   with_reducible refine wpListIn_step (fun K L=>?_)
   go_simp;with_reducible refine L _ _ ?_;clear L K
  refine wpListIn_nil ?_;refine HK.out _ _ ((KeepsOthers.alloc _ _).from _) ((aD.refl _ _).alloc _) ⟨⟨R.keep (((aD.refl (fun _=>False) _).alloc _)) (fun h=>h),(Below.heap_alloc _ _ _ ad).trans E⟩,V.alloc _⟩ ⟨W.heap.size,heap_alloc_new _ _,?_,?_,?_⟩
  ·simpa using ac
  ·(repeat (first|with_reducible exact At.self|with_reducible apply At.ne));all_goals first|decide|with_reducible exact h2
  ·exact aq
 case body =>
  rintro l g x a' W hl _ ⟨⟨R,E⟩,V⟩ ⟨Bx,hX,J,k2,k4⟩ bb;have q1:W.cell? ⟨Bx,1,none⟩=some (.string P.Q4[x.val].name):=cr hX rfl;have q2:W.cell? ⟨Bx,2,none⟩=some (.int .u64 P.Q4[x.val].QN):=cr hX rfl;have qm:=cell_of_one E;have an:=I x.val x.isLt;have HS:=hh R;have H3:=hh E;have HB:=hh V;have a0:Hid (aW P.Q4[x.val].name):=hh an;clear R E V hX O hA I Z y an hp;obtain⟨T,d⟩:=a';refine wpIn_block (wpIn_region_lit ?_)
  iterate 5
   with_reducible refine wpListIn_step (fun K L=>?_)
   go_simp;with_reducible refine L _ _ ?_;clear L K
  refine cV.updateIn rfl HS.out (by unfold maxLen;omega) rfl rfl Tryz.underlying180 (At.eval (by exact aq) (by have:=J;simp at this⊢; omega)) (At.eval (by exact aq) (by have:=J;simp at this⊢; omega)) (Nat.le_trans a0.out (by unfold maxLen;omega)) (At.eval (by exact aq) (by have:=J;simp at this⊢; omega)) ?_;intro w2 a3 N;refine wpListIn_nil ?_;have e1:(g++[x]).reverse=x::g.reverse:=ξ
  have e2:(g++[x]).length=g.length+1:=ξ
  refine⟨iE N af,N.mono fun _ _ h =>.inl h,⟨?_,(N.block _ (aH H3.out) a7).trans H3.out⟩,HB.out.trans N (fun _ _ h=>h)⟩;rw[e1,e2];exact a3
 case done =>
  rintro D ys W hD rfl ⟨⟨R,E⟩,V⟩ L;rw[kP]at R;have f1:Bd P (List.finRange _)=fun s =>.int .u64 (kz P s:Nat):=funext fun s=>AG P s
  rw[f1]at R;exact HQ.out D W hD ⟨_,_,R⟩ E V L
 case stop =>
  rintro D c g W _ _ h _;exact h.elim
theorem qD{w':World}{pb:Nat}{v:aX}{P:aF}{W:Int→Int}{L:List Wr}(h:aG B w pb v P W L){m:Nat}(hk:aD (fun k=>k=m) w w')(l:m<w.heap.size→B≤m∧gF w m=none):aG B w' pb v P W L:=
 h.keep hk fun k q j=>by
  subst q;obtain⟨g,d⟩:=l j;exact⟨g,by rw[d];simp,by rw[d];simp⟩
theorem x7{pb:Nat}{v:aX}{P:aF}(h:aG B w pb v P eI []):Calls Tryz.prog 31 #[.pointer (some ⟨pb,0,none⟩)] w fun e w'=>e=.returned (.tuple #[])∧aG B w' pb v P eI (i6 ku P)∧aD (fun k=>k=pb) w w':=by
 have ez:=h.base;have e2:=h.lt;obtain⟨A_t,ds,c3,_,eo,_⟩:=h.QR.QH;obtain⟨A_p,b4,cy,e0,eg,cv⟩:=h.QR.Q9;obtain⟨A_m,dk,cx,_,ee,_⟩:=h.QR.QD;obtain⟨A_s,Z,er,e1,en,ea⟩:=h.QR.Q4;unfold top at eo eg ee en;have eu:w.cell? ⟨pb,11,none⟩=some (.slice A_t P.QH.length ds):=by rw[←c3];exact h.cell rfl
 have q0:w.cell? ⟨pb,0,none⟩=some (.int .i64 P.pos):=h.cell rfl;have c8:=hh (h.new ((aD.refl _ w).drew));have b3:=hh cv;have bg:=hh er;clear h cv ea c3;refine uj Tryz.func31 Tryz.ntmps31 rfl (by show 1≤130;decide) fun a eq hd hh=>?_
 have h0:At a 0 (.pointer (some ⟨pb,0,none⟩)):=hh 0 _ rfl;clear hh
 conv=>arg 2;whnf
 obtain⟨bs,hbs⟩:∃b,b=decide (0<P.QH.length):=⟨_,rfl⟩;have c4:decide ((0:Int)<(P.QH.length:Int))=bs:=by rw[hbs];exact decide_eq_decide.2 χ
 have c5:decide (0<P.QH.length)=bs:=hbs.symm;have c7:=hh hbs;clear hbs;refine so (fun V u=>aE (fun i=>(rg 11 24 i)) a V∧aG B u pb v P eI (say bs P.pos 0)∧aD (fun k=>k=pb) w u) ?_ ?_
 ·have a0:aE (fun i=>(rg 11 24 i)) a a:=aE.refl _ _
  obtain⟨T,d⟩:=a;refine wp_region_still_tail 13 δ δ ?_;simp only[List.take_succ_cons,List.take_zero,List.drop_succ_cons,List.drop_zero]
  iterate 13 with_reducible refine sl ?_
  with_reducible refine wpStill_nil ?_;refine Lz (fun K hK=>?_)
  go_simp;refine(aR bs P.pos 0 107 c8.out rfl).mono ?_;rintro e w2 ⟨rfl,bo,bw⟩;with_reducible refine hK _ _ (ln ?_)
  refine⟨rfl,ag,by simpa using bo,((aD.refl _ _).drew).trans bw (fun _ _ e=>e)⟩
 rintro V u ⟨L,q,af⟩;replace h0:=L.Q7 h0 rfl;have cw:=L.size.trans eq;have d7:=L.defers.trans hd;have p9:u.cell? ⟨pb,9,none⟩=some (.slice A_p P.Q9.length b4):=by rw[←cy];exact q.cell rfl
 have es:u.cell? ⟨pb,10,none⟩=some (.slice A_m P.QD.length dk):=by rw[←cx];exact q.cell rfl
 have p5:u.cell? ⟨pb,5,none⟩=some (.slice A_s P.Q4.length Z):=by rw[←bg.out];exact q.cell rfl
 clear cy cx c4 c5 q0 eu;obtain⟨bp,a3⟩:∃b,b=decide (1<P.Q9.length):=⟨_,rfl⟩;have bc:decide ((1:Int)<(P.Q9.length:Int))=bp:=by rw[a3];exact decide_eq_decide.2 χ
 have bd:decide (1<P.Q9.length)=bp:=a3.symm;have b0:=hh a3;clear a3;have b2:=hh q;have b1:=hh af;clear q af;refine wp_seq (wp_seq (Code.wp_only (R:=fun I U=>aE (fun i=>(rg 25 31 i)) V I∧At I 31 (.bool bp)∧U=u) ?_ ?_))
 ·have a0:aE (fun i=>(rg 25 31 i)) V V:=aE.refl _ _
  obtain⟨T,d⟩:=V;refine rl ?_
  iterate 7 with_reducible refine st ?_
  refine ln ⟨rfl,ag,aq,rfl⟩
 rintro I U ⟨N,bb,rfl⟩;replace h0:=N.Q7 h0 rfl;have bz:=N.size.trans cw;have cd:=N.defers.trans d7;refine Code.wp_only (R:=fun X g=>aE (fun i=>(rg 32 48 i)) I X∧aG B g pb v P eI (say bs P.pos 0++(match P.Q9[1]? with|some x=>say (decide (0<P.QD.length)) x.pos 1|none=>[]))∧aD (fun k=>k=pb) U g) ?_ ?_
 ·refine wp_cond_split (bb.eval χ) (fun hg=>?_) (fun hg=>?_)
  ·have a8:1<P.Q9.length:=by have h1:=b0.out;rw[hg]at h1;exact of_decide_eq_true h1.symm
   obtain⟨x,hx⟩:=ge a8;obtain⟨bl,off,rfl,d3,a6⟩:=b3.out χ;obtain⟨lv,hc,_⟩:=(eM B) _ _ _ _ _ (b1.out.below (B:=B) χ (fun _ hi e=>χ)) d3 (a6 1 x hx);have r0:=hc.c0;rw[Nat.one_mul]at r0;obtain⟨bm,a2⟩:∃b,b=decide (0<P.QD.length):=⟨_,rfl⟩;have ex:decide ((0:Int)<(P.QD.length:Int))=bm:=by rw[a2];exact decide_eq_decide.2 χ
   have ey:decide (0<P.QD.length)=bm:=a2.symm;have HX:=hh hx;have c6:=hh a2;have e5:1≤b4:=χ
   have e6:(1:Int)<(P.Q9.length:Int):=χ
   have dc:=hh (b2.out.new ((aD.refl _ U).drew));clear a2 hx hc a6 hg bc bd bb;have a0:aE (fun i=>(rg 32 48 i)) I I:=aE.refl _ _;obtain⟨T,d⟩:=I;refine wp_region_still_tail 16 δ δ ?_;simp only[List.take_succ_cons,List.take_zero,List.drop_succ_cons,List.drop_zero]
   iterate 16 with_reducible refine sl ?_
   with_reducible refine wpStill_nil ?_;refine Lz (fun K hK=>?_)
   go_simp;refine(aR bm x.pos 1 106 dc.out rfl).mono ?_;rintro e w2 ⟨rfl,bo,bw⟩;with_reducible refine hK _ _ (ln ?_)
   refine⟨rfl,?_,bo.congr fun p=>?_,((aD.refl _ _).drew).trans bw (fun _ _ e=>e)⟩
   ·exact ag
   ·rw[HX.out,c6.out]
    simp only[List.mem_append]
    try simp only[or_comm]
  ·have a8:¬ 1<P.Q9.length:=by have h1:=b0.out;rw[hg]at h1;exact of_decide_eq_false h1.symm
   refine wp_skip ⟨rfl,aE.refl _ _,?_,aD.refl _ _⟩;rw[List.getElem?_eq_none χ]
   simpa using b2.out
 rintro X g ⟨O,a1,cj⟩;replace h0:=O.Q7 h0 rfl;have a5:=O.size.trans bz;have bt:=O.defers.trans cd;have p5:g.cell? ⟨pb,5,none⟩=some (.slice A_s P.Q4.length Z):=by rw[←bg.out];exact a1.cell rfl
 have c9:=hh a1;have be:Hid (aD (fun k=>k=pb) w g):=b1.out.trans cj (fun _ _ h=>h);have a9:=a1.lt;clear a1 cj p9 es bc bd b3;have ed:=@run_makeMap Tryz.prog;refine so (fun J j=>aE (fun i=>i==2||i==49) X J∧At J 2 (.pointer (some ⟨g.heap.size+1,0,none⟩))∧j=(g.alloc (.map #[] 0)).alloc (.cells #[.map (some g.heap.size)] 180)) ?_ ?_
 ·have a0:aE (fun i=>i==2||i==49) X X:=aE.refl _ _
  obtain⟨T,d⟩:=X;refine rl ?_
  iterate 3 with_reducible refine st ?_
  refine ln ⟨rfl,ag,aq,rfl⟩
 rintro J j ⟨Q,h2,l⟩;replace h0:=Q.Q7 h0 rfl;have al:=Q.size.trans a5;have a4:=Q.defers.trans bt;clear ed;obtain⟨mb,Y⟩:∃m,m=g.heap.size:=⟨_,rfl⟩;rw[←Y]at h2 l;have s4:j.heap.size=mb+2:=by rw[l,Y];simp
 have f1:j.heap[mb]?=some (.map #[] 0):=by rw[l,Y,Below.heap_alloc _ _ _ ξ];exact heap_alloc_new _ _
 have f2:j.heap[mb+1]?=some (.cells #[.map (some mb)] 180 (0,0)):=by
  rw[l];have:=heap_alloc_new (g.alloc (.map #[] 0)) (.cells #[.map (some mb)] 180)
  rwa[World.size_alloc,←Y]at this
 have cm:Kz g j:=by rw[l];exact((aD.refl _ _).alloc _).alloc _
 replace p5:=(cm.cell (p:=⟨pb,5,none⟩) a9 (fun h=>h)).trans p5;have bf:=hh Y;have di:=hh s4;clear l Y s4;refine wp_seq (wp_seq (Code.wp_only (R:=fun E H=>aE (fun i=>(rg 50 55 i)) J E∧At E 55 (.func (.func 127) #[] #[.pointer (some ⟨j.heap.size,0,none⟩)])∧H=j.alloc (.cells #[.slice A_s P.Q4.length Z] 25)) ?_ ?_))
 ·have a0:aE (fun i=>(rg 50 55 i)) J J:=aE.refl _ _
  obtain⟨T,d⟩:=J;refine rl ?_
  iterate 5 with_reducible refine st ?_
  with_reducible refine Lz (fun K hK=>?_)
  go_simp;refine((callsIn_wide (n:=9)).1 (od Fence.wide 9 trivial rfl A_s P.Q4.length Z _)).mono ?_;rintro e w5 ⟨rfl,rfl⟩;with_reducible refine hK _ _ ?_;clear hK K
  refine ln ⟨rfl,ag,aq,rfl⟩
 rintro E H ⟨C,b5,an⟩;replace h0:=C.Q7 h0 rfl;replace h2:=C.Q7 h2 rfl;have y:=C.size.trans al;have ac:=C.defers.trans a4;obtain⟨bx,cc⟩:∃m,m=j.heap.size:=⟨_,rfl⟩;rw[←cc]at b5;have f3:H.heap[bx]?=some (.cells #[.slice A_s P.Q4.length Z] 25 (0,0)):=by rw[an,cc];exact heap_alloc_new _ _
 have ad:Kz j H:=by rw[an];exact(aD.refl _ _).alloc _
 have a7:Kz g H:=cm.trans ad (fun _ _ h=>h);have cb:=c9.out.new a7;have ew:pb<mb:=by rw[bf.out];exact a9
 have e8:=ad.size;have e7:=di.out;refine tk cb.QR χ bg.out ((ad.block mb (aH f1) (fun h=>h)).trans f1) ((ad.block (mb+1) (aH f2) (fun h=>h)).trans f2) f3 χ E y h2 b5 _ ?_;intro D W hD d4 eb cp hK;with_reducible apply bJ
 have d2:=qD cb cp (fun _=>⟨χ,by unfold gF;rw[(ad.block mb (aH f1) (fun h=>h)).trans f1]⟩);refine rj d2 eb d4 ⟨χ,χ⟩ { tmps:=E.tmps,defers:={ target := .collected D,args := #[] }::E.defers } y h0 h2 _ ?_;intro a' w' dt d1 cf;have d8:a'.defers=[{ target := .collected D,args := #[] }]:=by rw[dt.defers];show _::E.defers=_;rw[show E.defers=[] from ac]
 have d0:D≠pb:=χ
 have b6:w'.heap[D]?=some (.deferred (some [])):=(cf.block D (aH hK) d0).trans hK;have cu:aD (fun k=>k=D) w' (w'.putObj D (.deferred none)):=aD.of_grown (grownBy_putObj' w' D (.deferred none)) (fun k e=>by cases e;rfl);have ca:=qD d1 cu (fun _=>⟨χ,by unfold gF;rw[b6]⟩);have d9:aD (fun k=>k=pb) w w':=((be.out.trans a7 (fun _ _ h=>h.elim)).trans cp (fun i hi e=>by have:=be.out.size;have:=bf.out;omega)).trans cf (fun _ _ h=>h);have cs:aD (fun k=>k=pb) w (w'.putObj D (.deferred none)):=d9.trans cu (fun i hi e=>by have:=be.out.size;have:=bf.out;omega);show LeavesInM Fence.wide 9 Tryz.prog Tryz.f31 a'.tmps _ a'.defers .returning w';rw[d8];refine⟨ξ,.inl ⟨_,_,rfl,run_takeDeferred b6,?_⟩⟩;refine⟨_,results_none rfl _ _ _,rfl,ca.congr fun p=>?_,cs⟩;unfold i6;rw[c7.out];simp only[List.mem_append]
 try simp only[or_assoc,or_comm,or_left_comm]
 exact Iff.rfl
