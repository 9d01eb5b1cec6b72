import Derived.Test.YthobcefghkeddaaGreatDoorAhdP
import Derived.Test.YthobcefghkeddaaGreatDoorThings2
set_option maxRecDepth 100000
set_option linter.all false
set_option maxHeartbeats 4000000
namespace Go.Proofs.YthobcefghkeddaaGreatDoor
section
open Go.RowKit Go.IntWalk Ck
variable {e:Int} {B pb:Nat} {w:World} {L:List Wr}
theorem uU(M:Nat)(r:Run)(d:Bool):Ln.right M r d=0∨Ln.right M r d=90∨Ln.right M r d=80∨Ln.right M r d=91:=by
 unfold Ln.right
 repeat' split
 all_goals simp
theorem lJ{M:Nat}{d:Bool}:∀{l:List Run} {i s:Nat} {a e:Int},Ln.bg M d i s l=some (a,e)→(e=90∨e=80∨e=91∨e=93)∧∃k:Nat,k<l.length∧a=(i+k:Nat)
 | [],_,_,_,_,h=>by simp[Ln.bg]at h
 | r::l,i,s,a,e,h=>by
  unfold Ln.bg at h;split at h
  ·split at h
   ·simp at h
    obtain⟨rfl,rfl⟩:=h;exact⟨ξ,0,ξ,ξ⟩
   ·obtain⟨g,k,hk,j⟩:=lJ h
    exact⟨g,k+1,η,by rw[j];congr 1;omega⟩
  ·rename_i q
   simp at h;obtain⟨rfl,rfl⟩:=h;refine⟨?_,0,ξ,ξ⟩
   rcases uU M r d with h|h|h|h
   ·exact absurd h q
   ·exact .inl h
   ·exact .inr (.inl h)
   ·exact .inr (.inr (.inl h))
theorem yZ{M:Nat}{y:cN}(h:¬ (M<1∨65536<M)):(ae M y).2.2=0∨((ae M y).2.2=90∨(ae M y).2.2=80∨(ae M y).2.2=91∨(ae M y).2.2=93)∧(∃k:Nat,k<y.runs.length∧(ae M y).2.1=k)∨(ae M y).2.2=4∧(ae M y).2.1 = -1:=by
 unfold ae Ln.dJ;simp only[if_neg h]
 cases hq:Ln.bg M y.needs 0 0 y.runs with
 | none =>
  simp only;unfold Ln.ep;split
  ·exact .inr (.inr ⟨rfl,rfl⟩)
  ·exact .inl rfl
 | some q =>
  obtain⟨a,e⟩:=q;obtain⟨d,k,hk,g⟩:=lJ hq;exact .inr (.inl ⟨d,k,hk,by simpa using g⟩)
theorem zG(h:e=90∨e=80∨e=91∨e=93∨e=4):fG (eO e)=e:=by
 rcases h with rfl|rfl|rfl|rfl|rfl<;>rfl
def iy:List Int:=[90,80,91,93]
theorem Bo{e:Int}{k:Nat}{x:Int}(d:iy[k]?=some x)(g:e=x)(h:∀z∈iy.take k,e≠z):eO e=4+k:=by
 subst g
 match k,d with
 | 0,d=>obtain rfl:_=e:=Option.some.inj d;rfl
 | 1,d=>obtain rfl:_=e:=Option.some.inj d;rfl
 | 2,d=>obtain rfl:_=e:=Option.some.inj d;rfl
 | 3,d=>obtain rfl:_=e:=Option.some.inj d;rfl
 | k+4,d=>simp[iy]at d
theorem xk(d:∀z∈iy,e≠z):eO e=8:=by
 have g:=d 90 (by simp[iy]);have h:=d 80 (by simp[iy]);have j:=d 91 (by simp[iy]);have l:=d 93 (by simp[iy]);unfold eO;rw[if_neg g,if_neg h,if_neg j,if_neg l]
theorem Aa{v:aY}{P:aF}(h:aG B w pb v P fG L){M:Nat}(hM:¬ (M<1∨65536<M)){y:cN}{A_r:Option Addr}{an:Nat}(hs:aL B 4 kE w (.slice A_r y.runs.length an) y.runs):
 Calls Tryz.prog 102 #[.pointer (some ⟨pb,0,none⟩),.int .u64 M,.agg #[.int .i64 y.pos,.int .u64 y.QN,.bool y.needs,.slice A_r y.runs.length an]] w fun e w'=>e=.returned (.tuple #[])∧aG B w' pb v P fG (lD (fun M y=>(ae M y).2) M y++L)∧aD (fun k=>k=pb) w w':=by
 have gy:=h.base;have ed:=h.lt;have HL:=hh h;have hv:=yZ (y:=y) hM;have cb:∀w1,Kz w w1→Calls Tryz.prog 120 #[.int .u64 M,.agg #[.int .i64 y.pos,.int .u64 y.QN,.bool y.needs,.slice A_r y.runs.length an]] w1 (cE w1 (Ln.dJ M y.needs y.runs)):=fun w1 hk =>
  tF M y.needs A_r an y.runs y.pos y.QN w1 χ (wI hs) (by obtain⟨_,_,e2,_,h2,_⟩:=hs;unfold top at h2;omega) (wJ (hs.below (aJ _ _ _) (hk.below (B:=B) χ (fun _ _ h=>h))) (Nat.le_trans χ hk.size))
 obtain⟨R,hR⟩:∃R,R=Ln.dJ M y.needs y.runs:=⟨_,rfl⟩;rw[←hR]at cb;obtain⟨ix,d8⟩:∃i:Int,i=R.2.1:=⟨_,rfl⟩;obtain⟨er,d3⟩:∃i:Int,i=R.2.2:=⟨_,rfl⟩;have hf:ae M y=(R.1.length,ix,er):=by rw[d8,d3,hR];rfl
 have HW:Hid (lD (fun M y=>(ae M y).2) M y=if er=0 then[]else[(if 0≤ix then((y.runs[ix.toNat]?).map Run.pos).getD 0 else y.pos,eO er)]):=hh (by unfold lD;simp only[hf]);rw[hf]at hv;simp only at hv;have HV:=hh hv;unfold cE at cb;rw[←d8,←d3]at cb;have ez:=hh cb;obtain⟨_,_,e,g3,hn,hl⟩:=hs
 cases e
 unfold top at hn;have f9:=hh hl;clear hv cb hR d8 d3 hf hl h;refine bU Tryz.func102 Tryz.ntmps102 rfl (by show 3≤51;decide) fun a gs hd h=>?_
 have h0:At a 0 (.pointer (some ⟨pb,0,none⟩)):=h 0 _ rfl;have Y:At a 1 (.int .u64 M):=h 1 _ rfl;have h2:At a 2 (.agg #[.int .i64 y.pos,.int .u64 y.QN,.bool y.needs,.slice A_r y.runs.length an]):=h 2 _ rfl;clear h
 conv=>arg 2;whnf
 refine so (fun a9 E=>aE (fun i=>i==5) a a9∧At a9 5 (.pointer (some ⟨w.heap.size,0,none⟩))∧E=w.alloc (.cells #[.int .i64 y.pos,.int .u64 y.QN,.bool y.needs,.slice A_r y.runs.length an] 71)) ?_ ?_
 ·have ad:aE (fun i=>i==5) a a:=aE.refl _ _
  obtain⟨T,d⟩:=a;refine rl ?_;with_reducible refine st ?_
  refine ln ⟨rfl,ag,aq,rfl⟩
 rintro a9 E ⟨Z,h5,bp⟩;replace h0:=Z.Q7 h0 rfl;replace Y:=Z.Q7 Y rfl;replace h2:=Z.Q7 h2 rfl;have fi:=Z.size.trans gs;have go:=Z.defers.trans hd;obtain⟨z,hz⟩:∃z,z=w.heap.size:=⟨_,rfl⟩;rw[←hz]at h5;have fz:E.heap[z]?=some (.cells #[.int .i64 y.pos,.int .u64 y.QN,.bool y.needs,.slice A_r y.runs.length an] 71 (0,0)):=by rw[bp,hz];exact heap_alloc_new _ _
 have d9:Kz w E:=by rw[bp];exact(aD.refl _ _).alloc _
 have f3:=hh d9;have FZ:=hh fz;have g5:z≠pb:=χ
 have q0:E.cell? ⟨z,0,none⟩=some (.int .i64 y.pos):=cr fz rfl;have q1:E.cell? ⟨z,1,none⟩=some (.int .u64 y.QN):=cr fz rfl;have q2:E.cell? ⟨z,2,none⟩=some (.bool y.needs):=cr fz rfl;have q3:E.cell? ⟨z,3,none⟩=some (.slice A_r y.runs.length an):=cr fz rfl;have HC:=hh (ez.out E d9);clear bp hz fz h2 d9 ez;refine so (fun a4 bx=>aE (fun i=>i==6||i==7||i==8||(rg 13 19 i)) a9 a4∧At a4 7 (.int .i64 ix)∧At a4 8 (.int .i64 er)∧Kz E bx) ?_ ?_
 ·have ad:aE (fun i=>i==6||i==7||i==8||(rg 13 19 i)) a9 a9:=aE.refl _ _
  obtain⟨T,d⟩:=a9;refine rl ?_
  iterate 2 with_reducible refine st ?_
  with_reducible refine Lz (fun K hK=>?_)
  go_simp;refine HC.out.mono ?_;rintro e w2 ⟨fv,rfl,_,di⟩;with_reducible refine hK _ _ ?_;clear hK K
  have a6:=jg di rfl;clear di
  iterate 7 with_reducible refine st ?_
  refine ln ⟨rfl,?_,?_,?_,?_⟩
  ·exact ag
  ·exact aq
  ·exact aq
  ·exact a6
 rintro a4 bx ⟨aa,N,g,a6⟩;replace h0:=aa.Q7 h0 rfl;replace Y:=aa.Q7 Y rfl;replace h5:=aa.Q7 h5 rfl;have en:=aa.size.trans fi;have fc:=aa.defers.trans go;have c4:Hid (Kz w bx):=f3.out.trans a6 (fun _ _ h=>h);replace q0:=(a6.cell (p:=⟨z,0,none⟩) (aH FZ.out) (fun h=>h)).trans q0;replace q3:=(a6.cell (p:=⟨z,3,none⟩) (aH FZ.out) (fun h=>h)).trans q3;clear a6 q1 q2 HC Y;obtain⟨z0,eu⟩:∃b,b=decide (er=0):=⟨_,rfl⟩;have fy:(er==0)=z0:=by rw[eu];exact jq _ _
 have e7:=hh eu;clear eu;refine wp_seq (wp_seq (Code.wp_only (R:=fun bb cs=>aE (fun i=>i==20||i==21) a4 bb∧At bb 21 (.bool z0)∧cs=bx) ?_ ?_))
 ·have ad:aE (fun i=>i==20||i==21) a4 a4:=aE.refl _ _
  obtain⟨T,d⟩:=a4;refine rl ?_
  iterate 2 with_reducible refine st ?_
  refine ln ⟨rfl,ag,aq,rfl⟩
 rintro bb cs ⟨O,fp,rfl⟩;replace h0:=O.Q7 h0 rfl;replace h5:=O.Q7 h5 rfl;replace N:=O.Q7 N rfl;replace g:=O.Q7 g rfl;have c9:=O.size.trans en;have b4:=O.defers.trans fc;refine wp_cond_split (fp.eval χ) (fun hg=>?_) (fun hg=>?_)
 ·have ca:er=0:=by have Y:=e7.out;rw[hg]at Y;exact of_decide_eq_true Y.symm
  refine wp_ret ?_
  repeat (first|with_reducible apply bY|with_reducible apply bi)
  refine bodyPost_ret (results_none rfl _ _ _) b4 ⟨rfl,?_,(c4.out.mono fun _ _ h=>h.elim:aD (fun k=>k=pb) w _)⟩;rw[HW.out,if_pos ca];exact HL.out.new c4.out
 have ca:er≠0:=by have Y:=e7.out;rw[hg]at Y;exact of_decide_eq_false Y.symm
 refine wp_skip ?_;have eq:=HW.out;rw[if_neg ca]at eq;have e6:=hh eq;clear eq HW fy hg;refine so (fun bc cv=>aE (fun i=>i==9||i==22||i==23) bb bc∧At bc 9 (.int .i64 y.pos)∧cv=cs) ?_ ?_
 ·have ad:aE (fun i=>i==9||i==22||i==23) bb bb:=aE.refl _ _
  obtain⟨T,d⟩:=bb;refine rl ?_
  iterate 3 with_reducible refine st ?_
  refine ln ⟨rfl,ag,aq,rfl⟩
 rintro bc cv ⟨Q,ex,rfl⟩;replace h0:=Q.Q7 h0 rfl;replace h5:=Q.Q7 h5 rfl;replace N:=Q.Q7 N rfl;replace g:=Q.Q7 g rfl;have cc:=Q.size.trans c9;have c7:=Q.defers.trans b4;obtain⟨gE,d7⟩:∃b,b=decide (0≤ix):=⟨_,rfl⟩;have dt:decide ((0:Int)≤ix)=gE:=d7.symm;have d0:=hh d7;clear d7;refine wp_seq (wp_seq (Code.wp_only (R:=fun a5 cw=>aE (fun i=>i==24||i==25) bc a5∧At a5 25 (.bool gE)∧cw=cv) ?_ ?_))
 ·have ad:aE (fun i=>i==24||i==25) bc bc:=aE.refl _ _
  obtain⟨T,d⟩:=bc;refine rl ?_
  iterate 2 with_reducible refine st ?_
  refine ln ⟨rfl,ag,aq,rfl⟩
 rintro a5 cw ⟨H,ds,rfl⟩;replace h0:=H.Q7 h0 rfl;replace h5:=H.Q7 h5 rfl;replace N:=H.Q7 N rfl;replace g:=H.Q7 g rfl;replace ex:=H.Q7 ex rfl;have b1:=H.size.trans cc;have b5:=H.defers.trans c7;obtain⟨pl,ee⟩:∃p:Int,p=(if 0≤ix then((y.runs[ix.toNat]?).map Run.pos).getD 0 else y.pos):=⟨_,rfl⟩;rw[←ee]at e6;have c5:=hh ee;clear ee;refine Code.wp_only (R:=fun bd cx=>aE (fun i=>i==9||(rg 26 31 i)) a5 bd∧At bd 9 (.int .i64 pl)∧cx=cw) ?_ ?_
 ·refine wp_cond_split (ds.eval χ) (fun hg=>?_) (fun hg=>?_)
  ·have es:0≤ix:=by have Y:=d0.out;rw[hg]at Y;exact of_decide_eq_true Y.symm
   obtain⟨k,hk,eb⟩:∃k:Nat,k<y.runs.length∧ix=k:=by
    rcases HV.out with h|⟨_,h⟩|⟨_,h⟩
    ·exact absurd h ca
    ·exact h
    ·omega
   obtain⟨r,hr⟩:=ge hk;obtain⟨bl,off,rfl,gn,e9⟩:=f9.out χ;obtain⟨hc,_⟩:=(aJ B _ _) _ _ _ _ _ (c4.out.below (B:=B) χ (fun _ _ h=>h)) gn (e9 k r hr);have r0:=hc.c0;have dk:pl=r.pos:=by rw[c5.out,if_pos es,eb];simp[hr]
   have g1:k≤an:=χ
   have gx:At a5 7 (.int .i64 k):=by rw[←eb];exact N
   have ad:aE (fun i=>i==9||(rg 26 31 i)) a5 a5:=aE.refl _ _;have f7:=hh dk;clear hg e9 hc hr dk eb c5 d0 dt N ds;obtain⟨T,d⟩:=a5;refine rl ?_
   iterate 7 with_reducible refine st ?_
   refine ln ⟨rfl,?_,?_,rfl⟩
   ·exact ag
   ·rw[f7.out];exact At.self
  ·have es:¬ 0≤ix:=by have Y:=d0.out;rw[hg]at Y;exact of_decide_eq_false Y.symm
   refine wp_skip ⟨rfl,aE.refl _ _,?_,rfl⟩;rw[c5.out,if_neg es];exact ex
 rintro bd cx ⟨U,af,rfl⟩;replace h0:=U.Q7 h0 rfl;replace h5:=U.Q7 h5 rfl;replace N:=U.Q7 N rfl;replace g:=U.Q7 g rfl;have bo:=U.size.trans b1;have b0:=U.defers.trans b5;refine so (fun be a8=>aE (fun i=>i==10) bd be∧At be 10 (.int .i64 (4:Nat))∧a8=cx) ?_ ?_
 ·have ad:aE (fun i=>i==10) bd bd:=aE.refl _ _
  obtain⟨T,d⟩:=bd;refine rl ?_;with_reducible refine st ?_
  refine ln ⟨rfl,?_,?_,rfl⟩
  ·exact ag
  ·exact At.self
 rintro be a8 ⟨I,cd,rfl⟩;replace h0:=I.Q7 h0 rfl;replace h5:=I.Q7 h5 rfl;replace N:=I.Q7 N rfl;replace g:=I.Q7 g rfl;replace af:=I.Q7 af rfl;have a7:=I.size.trans bo;have bm:=I.defers.trans b0;clear dt c5;refine wp_seq (wp_seq (Code.wp_only (R:=fun bz al=>aE (fun i=>(rg 32 34 i)) be bz∧At bz 32 (.slice (some ⟨a8.heap.size,0,none⟩) 4 4)∧At bz 33 (.int .i64 (4:Nat))∧At bz 34 (.int .i64 0)∧al=a8.alloc (.cells #[.int .i64 90,.int .i64 80,.int .i64 91,.int .i64 93] 36)) ?_ ?_))
 ·have ad:aE (fun i=>(rg 32 34 i)) be be:=aE.refl _ _
  obtain⟨T,d⟩:=be;refine rl ?_
  iterate 3 with_reducible refine st ?_
  refine ln ⟨rfl,?_,?_,?_,?_,rfl⟩
  ·exact ag
  ·exact aq
  ·exact At.ne At.self ψ
  ·exact aq
 rintro bz al ⟨u,fs,gw,gu,bs⟩;replace h0:=u.Q7 h0 rfl;replace h5:=u.Q7 h5 rfl;replace N:=u.Q7 N rfl;replace g:=u.Q7 g rfl;replace af:=u.Q7 af rfl;replace cd:=u.Q7 cd rfl;have J:=u.size.trans a7;have V:=u.defers.trans bm;obtain⟨ze,ew⟩:∃z,z=a8.heap.size:=⟨_,rfl⟩;rw[←ew]at fs;have fe:al.heap[ze]?=some (.cells #[.int .i64 90,.int .i64 80,.int .i64 91,.int .i64 93] 36 (0,0)):=by rw[bs,ew];exact heap_alloc_new _ _
 have f4:Hid (Kz w al):=hh (c4.out.trans (by rw[bs];exact(aD.refl _ _).alloc _) (fun _ _ h=>h));have FE:=hh fe;clear bs ew fe q0 q3;refine Code.wp_only (R:=fun c6 cy=>aE (fun i=>i==10||i==12||(rg 34 45 i)) bz c6∧At c6 10 (.int .i64 (eO er))∧Kz al cy) ?_ ?_
 ·refine bh 4 (fun i=>i==10||i==12||(rg 34 45 i)) (fun i=>i==10||i==12||(rg 36 44 i)) (fun k a' w'=>At a' 10 (.int .i64 (4+k:Nat))∧(∀z∈iy.take k,er≠z)∧Kz al w') χ gu gw ψ rfl
   ζ χ ψ (fun k a1 a2 w hA ⟨hI,hk⟩=>⟨hA.Q7 hI rfl,hk⟩) ⟨by simpa using cd,ξ,aD.refl _ _⟩ ?_ ?_
  ·rintro n b wr ed hA ey ⟨C,c8,hk⟩
   obtain⟨x,hx⟩:∃x,iy[n]?=some x:=⟨_,Ez (show n<iy.length from ed)⟩;have fr:=(hk.block ze (aH FE.out) (fun h=>h)).trans FE.out;have q0:wr.cell? ⟨ze,n,none⟩=some (.int .i64 x):=by
    rw[cell_of_row _ _ _ _ _ _ fr]
    match n,ed,hx with
    | 0,_,hx=>obtain rfl:_=x:=Option.some.inj hx;rfl
    | 1,_,hx=>obtain rfl:_=x:=Option.some.inj hx;rfl
    | 2,_,hx=>obtain rfl:_=x:=Option.some.inj hx;rfl
    | 3,_,hx=>obtain rfl:_=x:=Option.some.inj hx;rfl
   have cm:=hA.Q7 fs rfl;replace g:=hA.Q7 g rfl;have fk:=hA.size.trans J;have gr:=hA.defers.trans V;have g4:=aH fr;have g2:(n:Int)<4:=χ
   have HX:=hh hx;have e0:=hh c8;have HK:=hh hk;have HA:=hh hA;clear hx c8 hk fr hA;refine so (fun W a3=>aE (fun i=>i==12||i==36||i==37) b W∧At W 12 (.int .i64 x)∧a3=wr) ?_ ?_
   ·have ad:aE (fun i=>i==12||i==36||i==37) b b:=aE.refl _ _
    obtain⟨T,d⟩:=b;refine rl ?_
    iterate 3 with_reducible refine st ?_
    refine ln ⟨rfl,ag,aq,rfl⟩
   rintro W a3 ⟨l,bw,rfl⟩;replace C:=l.Q7 C rfl;replace g:=l.Q7 g rfl;replace cm:=l.Q7 cm rfl;replace ey:=l.Q7 ey rfl;have eo:=l.size.trans fk;have fd:=l.defers.trans gr;obtain⟨sm,eg⟩:∃b,b=(er==x):=⟨_,rfl⟩;have bf:=Af er x a3;rw[←eg]at bf;have HC:=hh bf;have e5:=hh eg;clear eg bf cm ey q0;refine wp_seq (wp_seq (Code.wp_only (R:=fun X bt=>aE (fun i=>(rg 38 42 i)) W X∧At X 42 (.bool sm)∧bt=a3) ?_ ?_))
   ·have ad:aE (fun i=>(rg 38 42 i)) W W:=aE.refl _ _
    obtain⟨T,d⟩:=W;refine rl ?_
    iterate 4 with_reducible refine st ?_
    with_reducible refine Lz (fun K hK=>?_)
    go_simp;refine HC.out.mono ?_;rintro e w2 ⟨rfl,rfl⟩;with_reducible refine hK _ _ ?_;clear hK K
    refine ln ⟨rfl,ag,aq,rfl⟩
   rintro X bt ⟨q,cj,rfl⟩;replace C:=q.Q7 C rfl;replace g:=q.Q7 g rfl;replace bw:=q.Q7 bw rfl;have dc:=q.size.trans eo;have d2:=q.defers.trans fd;refine wp_cond_split (cj.eval χ) (fun hg=>?_) (fun hg=>?_)
   ·have d4:er=x:=by have Y:=e5.out;rw[hg]at Y;exact eq_of_beq Y.symm
    refine wp_exit ?_
    repeat with_reducible apply fV
    simp only[bq];rw[if_neg ψ];simp only[if_true];refine⟨rfl,(aE.trans HA.out (aE.trans (aE.trans (aE.refl (fun i=>i==10||i==12||(rg 36 44 i)) b) l ζ) q ζ) ζ),?_,HK.out⟩;rw[Bo HX.out d4 e0.out];exact C
   ·have d4:er≠x:=by have Y:=e5.out;rw[hg]at Y;exact fun e=>by subst e;simp at Y
    refine wp_skip ?_;have e1:IntKind.i64.wrap (((4+n:Nat):Int)+1)=((4+(n+1):Nat):Int):=by rw[i64_in _ χ];omega
    obtain⟨cu,d1⟩:∃c:Nat,c=4+n:=⟨_,rfl⟩;obtain⟨e8,b3⟩:∃c:Nat,c=4+(n+1):=⟨_,rfl⟩;rw[←d1,←b3]at e1;rw[←d1]at C;have f2:=hh b3;have f1:Hid ((cu:Int)+1=(e8:Int)):=hh χ;clear d1 b3 HC hg;refine Code.wp_only (R:=fun b2 cp=>aE (fun i=>i==10||i==43||i==44) X b2∧At b2 10 (.int .i64 e8)∧cp=bt) ?_ ?_
    ·have ad:aE (fun i=>i==10||i==43||i==44) X X:=aE.refl _ _
     obtain⟨T,d⟩:=X;refine rl ?_
     iterate 3 with_reducible refine st ?_
     refine ln ⟨rfl,?_,?_,rfl⟩
     ·exact ag
     ·first|exact At.self|(rw[←f1.out];exact At.self)
    rintro b2 cp ⟨D,cf,rfl⟩;replace g:=D.Q7 g rfl;replace bw:=D.Q7 bw rfl;replace cj:=D.Q7 cj rfl;have fl:=D.size.trans dc;have f0:=D.defers.trans d2;refine⟨(aE.trans (aE.trans (aE.trans (aE.refl (fun i=>i==10||i==12||(rg 36 44 i)) _) l ζ) q ζ) D ζ),by rw[←f2.out];exact cf,fun z hz=>?_,HK.out⟩;rw[aP HX.out]at hz
    rcases List.mem_append.1 hz with h|h
    ·exact e0.out z h
    ·obtain rfl:z=x:=by simpa using h
     exact d4
  ·rintro b wr hA ⟨C,c8,hk⟩
   refine⟨rfl,hA,?_,hk⟩;rw[xk (by simpa[iy]using c8)];exact C
 rintro c6 cy ⟨ac,cf,ff⟩;replace h0:=ac.Q7 h0 rfl;replace g:=ac.Q7 g rfl;replace af:=ac.Q7 af rfl;have c3:=ac.size.trans J;have a0:=ac.defers.trans V;have ea:Kz w cy:=f4.out.trans ff (fun _ _ h=>h);have f6:=hh (HL.out.new ea);have f5:=hh ea;have fm:fG (eO er)=er:=zG (by rcases HV.out with h|⟨h,_⟩|⟨h,_⟩;exact absurd h ca;rcases h with h|h|h|h<;>simp[h];exact .inr (.inr (.inr (.inr h))));have gf:=hh fm;clear ff ea fm;obtain⟨T,d⟩:=c6;refine rl ?_
 iterate 4 with_reducible refine st ?_
 with_reducible refine Lz (fun K hK=>?_)
 go_simp;refine(cI pl (eO er) er f6.out gf.out).mono ?_;rintro e w2 ⟨rfl,gl,a6⟩;with_reducible refine hK _ _ (ln ?_)
 refine ec rfl a0 ⟨rfl,?_,(f5.out.mono fun _ _ h=>h.elim:aD (fun k=>k=pb) w _).trans a6 (fun _ _ h=>h)⟩;rw[e6.out];exact gl
def kc(w:World)(b:Nat)(P:aF):Prop:=∃n p,ci w b n (.int .u64 0) (fun s =>.int .u64 (lN P s:Nat)) p
theorem D6(w:World):(zeroValue 41).run Tryz.prog w=.ok (.int .u64 0) w:=δ
theorem kc.keep{S:Nat→Prop}{w':World}{b:Nat}{P:aF}(h:kc w b P)(hk:aD S w w')(d:¬ S b):kc w' b P:=by
 obtain⟨n,p,h⟩:=h;exact⟨n,p,h.keep hk d⟩
def kJ(P:aF)(y:cN)(r:Run):List Wr:=say (decide (r.QI=ByteArray.empty)||decide (lN P r.QI=y.QN)) r.pos 3
def lK:Nat→cN→Int×Int:=fun M y=>(ae M y).2
def jm(P:aF)(M:Nat)(y:cN):List Wr:=jV P y++lD lK M y
theorem ua{v:aY}{P:aF}(h:aG B w pb v P fG L){mc mb:Nat}(bz:w.heap[mc]?=some (.cells #[.map (some mb)] 180 (0,0)))(bt:kc w mb P)(b0:mc≠pb∧mb≠pb){y:cN}{A_r:Option Addr}{X:Nat}(hs:aL B 4 kE w (.slice A_r y.runs.length X) y.runs)(c4:y.QN<lim)
 {zy:Nat}(a7:w.heap[zy]?=some (.cells #[.int .i64 y.pos,.int .u64 y.QN,.bool y.needs,.slice A_r y.runs.length X] 71 (0,0)))(cv:zy≠pb)(a:Act)(cu:a.tmps.size=130)(h0:At a 0 (.pointer (some ⟨pb,0,none⟩)))(h2:At a 2 (.pointer (some ⟨mc,0,none⟩)))(h8:At a 8 (.pointer (some ⟨zy,0,none⟩)))(Q:Exit→Act→World→Prop)
 (hQ:∀a' w',aE (fun i=>i==10||(rg 99 122 i)) a a'→aG B w' pb v P fG (y.runs.flatMap (kJ P y)++L)→aD (fun k=>k=pb) w w'→Q .normal a' w'):
 (b9 Tryz.f31 [1,1,1,1,1,0,0,1,1,0,0,1,1,1,0,0,1,1,0,0,1,1,0]).wp Tryz.prog Q a w:=by
 have hd:a.defers=a.defers:=rfl;have dc:=h.lt;have c8:=h.base;have bd:=hh bz;have b5:=hh bt;have HL:=hh h;have bo:=hh a7;obtain⟨_,_,e,di,hn,hl⟩:=hs
 cases e
 unfold top at hn;have cc:=hh hl;have HQ:=hh hQ;have q3:w.cell? ⟨zy,3,none⟩=some (.slice A_r y.runs.length X):=cr a7 rfl;clear h bz bt hl a7 hQ
 conv=>arg 2;whnf
 refine so (fun W aa=>aE (fun i=>(rg 99 102 i)) a W∧At W 100 (.slice A_r y.runs.length X)∧At W 101 (.int .i64 y.runs.length)∧At W 102 (.int .i64 0)∧aa=w) ?_ ?_
 ·have an:aE (fun i=>(rg 99 102 i)) a a:=aE.refl _ _
  obtain⟨T,d⟩:=a;refine rl ?_
  iterate 4 with_reducible refine st ?_
  refine ln ⟨rfl,ag,aq,aq,aq,rfl⟩
 rintro W aa ⟨C,cy,cx,cw,rfl⟩;replace h0:=C.Q7 h0 rfl;replace h2:=C.Q7 h2 rfl;replace h8:=C.Q7 h8 rfl;have b1:=C.size.trans cu;have cf:=C.defers.trans hd;refine bh y.runs.length (fun i=>i==10||(rg 102 122 i)) (fun i=>i==10||(rg 104 121 i)) (fun k _ w'=>aG B w' pb v P fG ((y.runs.take k).flatMap (kJ P y)++L)∧aD (fun k=>k=pb) aa w') χ cw cx ψ rfl
  ζ χ ψ (fun k a1 a2 w hA hI=>hI) ⟨by simpa using HL.out,aD.refl _ _⟩ ?_ ?_
 ·rintro n b wr bx hA a8 ⟨hL,hk⟩
  obtain⟨bl,off,rfl,cd,bw⟩:=cc.out χ;obtain⟨x,hx⟩:=ge bx;obtain⟨hc,b3⟩:=(aJ B _ _) _ _ _ _ _ (hk.below (B:=B) χ (fun _ hi e=>χ)) cd (bw n x hx);have q0:=hc.c0;have q1:=hc 1 _ rfl;have q2:=hc 2 _ rfl;have q3:=hc 3 _ rfl;have O:=hA.Q7 h0 rfl;have U:=hA.Q7 h2 rfl;have V:=hA.Q7 h8 rfl;have Z:=hA.Q7 cy rfl;have b2:=hA.size.trans b1;have cj:=hA.defers.trans cf;have c5:=hk.size;have c3:bl<wr.heap.size:=χ
  have c9:n≤X:=χ
  have HX:=hh hx;have cb:=hh hL;have HK:=hh hk;have bf:=hh ((hk.block mc (aH bd.out) (by exact b0.1)).trans bd.out);have ca:=hh (b5.out.keep hk (by exact b0.2));have bm:=hh ((hk.block zy (aH bo.out) cv).trans bo.out);have dk:=hL.lt;clear hx bw hc hA hk hL;refine so (fun D l=>aE (fun i=>i==10||i==104||i==105) b D∧At D 10 (.pointer (some ⟨wr.heap.size,0,none⟩))∧l=wr.alloc (.cells #[.int .i64 x.pos,.string x.QI,.int .u64 x.QR,.int .u64 x.per] 99)) ?_ ?_
  ·have an:aE (fun i=>i==10||i==104||i==105) b b:=aE.refl _ _
   obtain⟨T,d⟩:=b;refine rl ?_
   iterate 4 with_reducible refine st ?_
   refine ln ⟨rfl,ag,aq,rfl⟩
  rintro D l ⟨g,E,J⟩;replace O:=g.Q7 O rfl;replace U:=g.Q7 U rfl;replace V:=g.Q7 V rfl;replace Z:=g.Q7 Z rfl;replace a8:=g.Q7 a8 rfl;have Y:=g.size.trans b2;have al:=g.defers.trans cj;obtain⟨zr,a6⟩:∃z,z=wr.heap.size:=⟨_,rfl⟩;rw[←a6]at E;have fr:l.heap[zr]?=some (.cells #[.int .i64 x.pos,.string x.QI,.int .u64 x.QR,.int .u64 x.per] 99 (0,0)):=by rw[J,a6];exact heap_alloc_new _ _
  have N:Kz wr l:=by rw[J];exact(aD.refl _ _).alloc _
  have p0:l.cell? ⟨zr,0,none⟩=some (.int .i64 x.pos):=cr fr rfl;have p1:l.cell? ⟨zr,1,none⟩=some (.string x.QI):=cr fr rfl;have pm:l.cell? ⟨mc,0,none⟩=some (.map (some mb)):=cell_of_one ((N.block mc (aH bf.out) (fun h=>h)).trans bf.out);have py:l.cell? ⟨zy,1,none⟩=some (.int .u64 y.QN):=cr ((N.block zy (aH bm.out) (fun h=>h)).trans bm.out) rfl;have cm:(Instr.lookup 180 (.map (some mb)) (.string x.QI) false).run Tryz.prog l=.ok (.int .u64 (lN P x.QI:Nat)) l:=by
   obtain⟨nn,pp,cs⟩:=ca.out.keep N (fun h=>h);exact cs.run Tryz.underlying180 D6 (Nat.le_trans b3.2.2.2 (by unfold maxLen;omega))
  have bb:=hh (cb.out.new N);have a9:=hh (HK.out.trans N (fun _ _ h=>h.elim));clear J a6 fr N q0 q1 q2 q3 Z a8;obtain⟨cp,a4⟩:∃n:Nat,n=lN P x.QI:=⟨_,rfl⟩;rw[←a4]at cm;obtain⟨be,a3⟩:∃b,b=decide (x.QI=ByteArray.empty):=⟨_,rfl⟩;have b4:(x.QI.toList==ByteArray.toList { data := #[] })=be:=by rw[a3];exact ba _ _
  have c7:(x.QI.toList==[])=be:=by rw[←b4,fY]
  obtain⟨bc,a0⟩:∃b,b=decide (cp=y.QN):=⟨_,rfl⟩;have c6:((cp:Int)==(y.QN:Int))=bc:=by rw[a0];exact fA _ _
  have HS:Hid (kJ P y x=say (be||bc) x.pos 3):=by rw[a3,a0,a4];rfl
  clear a3 a0 a4;have ds:=aX
  cases be
  ·skip
   refine Code.wp_only (R:=fun bp ac=>aE (fun i=>(rg 106 121 i)) D bp∧aG B ac pb v P fG (say (false||bc) x.pos 3++((y.runs.take n).flatMap (kJ P y)++L))∧aD (fun k=>k=pb) l ac) ?_ ?_
   ·have an:aE (fun i=>(rg 106 121 i)) D D:=aE.refl _ _
    obtain⟨T,d⟩:=D;refine rl ?_
    iterate 15 with_reducible refine st ?_
    with_reducible refine Lz (fun K hK=>?_)
    go_simp;refine(aT bc x.pos 3 100 bb.out rfl).mono ?_;rintro e w2 ⟨rfl,H,I⟩;with_reducible refine hK _ _ ?_;clear hK K
    refine ln ⟨rfl,?_,?_,?_⟩
    ·exact ag
    ·simpa using H
    ·exact I
   rintro bp ac ⟨q,H,I⟩;replace O:=q.Q7 O rfl;replace U:=q.Q7 U rfl;replace V:=q.Q7 V rfl;replace E:=q.Q7 E rfl;have af:=q.size.trans Y;have a5:=q.defers.trans al;refine⟨(aE.trans (aE.trans (aE.refl (fun i=>i==10||(rg 104 121 i)) _) g ζ) q ζ),H.congr fun p=>?_,a9.out.trans I (fun _ _ h=>h)⟩;rw[aP HX.out,List.flatMap_append,List.flatMap_cons,List.flatMap_nil,List.append_nil,HS.out];simp only[List.mem_append,Bool.false_or,Bool.true_or]
   try simp only[or_assoc,or_comm,or_left_comm]
  ·skip
   refine Code.wp_only (R:=fun bs ad=>aE (fun i=>(rg 106 121 i)) D bs∧aG B ad pb v P fG (say (true) x.pos 3++((y.runs.take n).flatMap (kJ P y)++L))∧aD (fun k=>k=pb) l ad) ?_ ?_
   ·have an:aE (fun i=>(rg 106 121 i)) D D:=aE.refl _ _
    obtain⟨T,d⟩:=D;refine rl ?_
    iterate 15 with_reducible refine st ?_
    with_reducible refine Lz (fun K hK=>?_)
    go_simp;refine(aT true x.pos 3 100 bb.out rfl).mono ?_;rintro e w2 ⟨rfl,H,I⟩;with_reducible refine hK _ _ ?_;clear hK K
    refine ln ⟨rfl,?_,?_,?_⟩
    ·exact ag
    ·simpa using H
    ·exact I
   rintro bs ad ⟨u,H,I⟩;replace O:=u.Q7 O rfl;replace U:=u.Q7 U rfl;replace V:=u.Q7 V rfl;replace E:=u.Q7 E rfl;have af:=u.size.trans Y;have a5:=u.defers.trans al;refine⟨(aE.trans (aE.trans (aE.refl (fun i=>i==10||(rg 104 121 i)) _) g ζ) u ζ),H.congr fun p=>?_,a9.out.trans I (fun _ _ h=>h)⟩;rw[aP HX.out,List.flatMap_append,List.flatMap_cons,List.flatMap_nil,List.append_nil,HS.out];simp only[List.mem_append,Bool.false_or,Bool.true_or]
   try simp only[or_assoc,or_comm,or_left_comm]
 ·rintro b wr hA ⟨hL,hk⟩
  rw[List.take_length]at hL;exact HQ.out _ _ (aE.trans (C.m) hA ζ) hL hk
theorem sG{v:aY}{P:aF}(h:aG B w pb v P fG L){mc mb:Nat}(cc:w.heap[mc]?=some (.cells #[.map (some mb)] 180 (0,0)))(b2:kc w mb P)(ad:mc≠pb∧mb≠pb){x:gD}(hM:¬ (x.QJ<1∨65536<x.QJ)){A_l:Option Addr}{aa:Nat}(hs:aL B 4 (gY B) w (.slice A_l x.QM.length aa) x.QM)
 {zx:Nat}(bc:w.heap[zx]?=some (.cells #[.int .i64 x.pos,.string x.name,.int .u64 x.QJ,.slice A_l x.QM.length aa] 68 (0,0)))(cm:zx≠pb)(a:Act)(ds:a.tmps.size=130)(h0:At a 0 (.pointer (some ⟨pb,0,none⟩)))(h2:At a 2 (.pointer (some ⟨mc,0,none⟩)))(h6:At a 6 (.pointer (some ⟨zx,0,none⟩)))(Q:Exit→Act→World→Prop)
 (hQ:∀a' w',aE (fun i=>i==8||i==10||(rg 85 128 i)) a a'→aG B w' pb v P fG (x.QM.flatMap (jm P x.QJ)++L)→aD (fun k=>k=pb) w w'→Q .normal a' w'):
 (b9 Tryz.f31 [1,1,1,1,1,0,0,1,1,0,0,1,1]).wp Tryz.prog Q a w:=by
 have hd:a.defers=a.defers:=rfl;have ed:=h.lt;have ea:=h.base;have bo:=hh cc;have cv:=hh b2;have HL:=hh h;have bx:=hh bc;obtain⟨_,_,e,ee,hn,hl⟩:=hs
 cases e
 unfold top at hn;have c5:=hh hl;have HQ:=hh hQ;have q3:w.cell? ⟨zx,3,none⟩=some (.slice A_l x.QM.length aa):=cr bc rfl;clear h cc b2 hl bc hQ
 conv=>arg 2;whnf
 refine so (fun Z a0=>aE (fun i=>(rg 85 88 i)) a Z∧At Z 86 (.slice A_l x.QM.length aa)∧At Z 87 (.int .i64 x.QM.length)∧At Z 88 (.int .i64 0)∧a0=w) ?_ ?_
 ·have a6:aE (fun i=>(rg 85 88 i)) a a:=aE.refl _ _
  obtain⟨T,d⟩:=a;refine rl ?_
  iterate 4 with_reducible refine st ?_
  refine ln ⟨rfl,ag,aq,aq,aq,rfl⟩
 rintro Z a0 ⟨q,d4,d3,d2,rfl⟩;replace h0:=q.Q7 h0 rfl;replace h2:=q.Q7 h2 rfl;replace h6:=q.Q7 h6 rfl;have cd:=q.size.trans ds;have c9:=q.defers.trans hd;refine bh x.QM.length (fun i=>i==8||i==10||(rg 88 128 i)) (fun i=>i==8||i==10||(rg 90 127 i)) (fun k _ w'=>aG B w' pb v P fG ((x.QM.take k).flatMap (jm P x.QJ)++L)∧aD (fun k=>k=pb) a0 w') χ d2 d3 ψ rfl
  ζ χ ψ (fun k a1 a2 w hA hI=>hI) ⟨by simpa using HL.out,aD.refl _ _⟩ ?_ ?_
 ·rintro n b wr cb hA be ⟨hL,hk⟩
  obtain⟨bl,off,rfl,c8,b5⟩:=c5.out χ;obtain⟨y,hx⟩:=ge cb;have b1:=hk.below (B:=B) χ (fun _ hi e=>χ);obtain⟨rv,hc,E,_,b3⟩:=(dB B) _ _ _ _ _ b1 c8 (b5 n y hx);obtain⟨A_r,ac,rfl,E⟩:=E;have c6:Hid (aL B 4 kE wr (.slice A_r y.runs.length ac) y.runs):=hh ⟨A_r,ac,rfl,E⟩;have q0:=hc.c0;have q1:=hc 1 _ rfl;have q2:=hc 2 _ rfl;have q3:=hc 3 _ rfl;have H:=hA.Q7 h0 rfl;have al:=hA.Q7 h2 rfl;have N:=hA.Q7 h6 rfl;have an:=hA.Q7 d4 rfl;have cf:=hA.size.trans cd;have dc:=hA.defers.trans c9;have d9:=hk.size;have d7:bl<wr.heap.size:=χ
  have eb:n≤aa:=χ
  have HX:=hh hx;have c3:=hh hL;have HK:=hh hk;have bp:=hh ((hk.block mc (aH bo.out) (by exact ad.1)).trans bo.out);have cw:=hh (cv.out.keep hk (by exact ad.2));have bw:=hh ((hk.block zx (aH bx.out) cm).trans bx.out);have eg:=hL.lt;clear hx b5 hc hA hk hL E b1;refine so (fun U C=>aE (fun i=>i==8||i==90||i==91) b U∧At U 8 (.pointer (some ⟨wr.heap.size,0,none⟩))∧C=wr.alloc (.cells #[.int .i64 y.pos,.int .u64 y.QN,.bool y.needs,.slice A_r y.runs.length ac] 71)) ?_ ?_
  ·have a6:aE (fun i=>i==8||i==90||i==91) b b:=aE.refl _ _
   obtain⟨T,d⟩:=b;refine rl ?_
   iterate 4 with_reducible refine st ?_
   refine ln ⟨rfl,ag,aq,rfl⟩
  rintro U C ⟨g,O,V⟩;replace H:=g.Q7 H rfl;replace al:=g.Q7 al rfl;replace N:=g.Q7 N rfl;replace an:=g.Q7 an rfl;replace be:=g.Q7 be rfl;have bb:=g.size.trans cf;have ca:=g.defers.trans dc;obtain⟨zy,bd⟩:∃z,z=wr.heap.size:=⟨_,rfl⟩;rw[←bd]at O;have fy:C.heap[zy]?=some (.cells #[.int .i64 y.pos,.int .u64 y.QN,.bool y.needs,.slice A_r y.runs.length ac] 71 (0,0)):=by rw[V,bd];exact heap_alloc_new _ _
  have J:Kz wr C:=by rw[V];exact(aD.refl _ _).alloc _
  have p0:C.cell? ⟨zy,0,none⟩=some (.int .i64 y.pos):=cr fy rfl;have p1:C.cell? ⟨zy,1,none⟩=some (.int .u64 y.QN):=cr fy rfl;have af:zy≠pb:=χ
  have FY:=hh fy;have bm:=hh ((J.block mc (aH bp.out) (fun h=>h)).trans bp.out);have cu:=hh (cw.out.keep J (fun h=>h));have bt:=hh ((J.block zx (aH bw.out) (fun h=>h)).trans bw.out);have bs:=hh (c6.out.below (aJ _ _ _) (J.below (B:=B) χ (fun _ _ h=>h)));have cy:=hh (c3.out.new J);have cx:=hh (HK.out.trans J (fun _ _ h=>h.elim));have dt:=J.size;clear V bd fy J q0 q1 q2 q3 an be;obtain⟨b4,a7⟩:∃b,b=decide (y.QN<4):=⟨_,rfl⟩;have cp:decide ((y.QN:Int)<4)=b4:=by rw[a7];exact decide_eq_decide.2 χ
  have cs:=hh a7;clear a7;refine so (fun a5 a3=>aE (fun i=>(rg 92 98 i)) U a5∧aG B a3 pb v P fG (say b4 y.pos 3++((x.QM.take n).flatMap (jm P x.QJ)++L))∧aD (fun k=>k=pb) C a3) ?_ ?_
  ·have a6:aE (fun i=>(rg 92 98 i)) U U:=aE.refl _ _
   obtain⟨T,d⟩:=U;refine rl ?_
   iterate 6 with_reducible refine st ?_
   with_reducible refine Lz (fun K hK=>?_)
   go_simp;refine(aT b4 y.pos 3 100 cy.out rfl).mono ?_;rintro e w2 ⟨rfl,Y,D⟩;with_reducible refine hK _ _ ?_;clear hK K
   refine ln ⟨rfl,?_,?_,?_⟩
   ·exact ag
   ·exact Y
   ·exact D
  rintro a5 a3 ⟨l,Y,D⟩;replace H:=l.Q7 H rfl;replace al:=l.Q7 al rfl;replace N:=l.Q7 N rfl;replace O:=l.Q7 O rfl;have W:=l.size.trans bb;have a8:=l.defers.trans ca;have FY2:=(D.block zy (aH FY.out) af).trans FY.out;refine wp_seq (ua Y ((D.block mc (aH bm.out) ad.1).trans bm.out) (cu.out.keep D ad.2) ad (bs.out.below (aJ _ _ _) (D.below (B:=B) χ (fun _ hi e=>χ))) b3 FY2 af a5 W H al O _ ?_);intro c wc X b0 a9;have cj:=X.size.trans W;have di:=X.defers.trans a8;replace H:=X.Q7 H rfl;replace N:=X.Q7 N rfl;replace O:=X.Q7 O rfl;have FY3:=(a9.block zy (aH FY2) af).trans FY2;have I:aD (fun k=>k=pb) C wc:=D.trans a9 (fun _ _ h=>h);have FX3:=(I.block zx (aH bt.out) cm).trans bt.out;have px:wc.cell? ⟨zx,2,none⟩=some (.int .u64 x.QJ):=cr FX3 rfl;have s0:wc.cell? ⟨zy,0,none⟩=some (.int .i64 y.pos):=cr FY3 rfl;have s1:wc.cell? ⟨zy,1,none⟩=some (.int .u64 y.QN):=cr FY3 rfl;have s2:wc.cell? ⟨zy,2,none⟩=some (.bool y.needs):=cr FY3 rfl;have s3:wc.cell? ⟨zy,3,none⟩=some (.slice A_r y.runs.length ac):=cr FY3 rfl;have c4:=hh (Aa b0 hM (bs.out.below (aJ _ _ _) (I.below (B:=B) χ (fun _ hi e=>χ))));have bf:=hh I;have d0:=I.size;clear FY2 FY3 FX3 D a9 I Y b0 p0 p1 cp;refine Code.wp_only (R:=fun bz a4=>aE (fun i=>(rg 123 127 i)) c bz∧aG B a4 pb v P fG (lD lK x.QJ y++(y.runs.flatMap (kJ P y)++(say b4 y.pos 3++((x.QM.take n).flatMap (jm P x.QJ)++L))))∧aD (fun k=>k=pb) wc a4) ?_ ?_
  ·have a6:aE (fun i=>(rg 123 127 i)) c c:=aE.refl _ _
   obtain⟨T,d⟩:=c;refine rl ?_
   iterate 4 with_reducible refine st ?_
   with_reducible refine Lz (fun K hK=>?_)
   go_simp;refine c4.out.mono ?_;rintro e w2 ⟨rfl,Y,D⟩;with_reducible refine hK _ _ ?_;clear hK K
   refine ln ⟨rfl,?_,?_,?_⟩
   ·exact ag
   ·exact Y
   ·exact D
  rintro bz a4 ⟨u,c7,dk⟩;replace H:=u.Q7 H rfl;replace N:=u.Q7 N rfl;replace O:=u.Q7 O rfl;have d1:=u.size.trans cj;have d8:=u.defers.trans di;have HS:jm P x.QJ y=(say b4 y.pos 3++y.runs.flatMap (kJ P y))++lD lK x.QJ y:=by rw[cs.out];rfl
  refine⟨(aE.trans (aE.trans (aE.trans (aE.trans (aE.refl (fun i=>i==8||i==10||(rg 90 127 i)) _) g ζ) l ζ) X ζ) u ζ),c7.congr fun p=>?_,(cx.out.trans bf.out (fun _ _ h=>h)).trans dk (fun _ _ h=>h)⟩;rw[aP HX.out,List.flatMap_append,List.flatMap_cons,List.flatMap_nil,List.append_nil,HS];simp only[List.mem_append]
  try simp only[or_assoc,or_comm,or_left_comm]
 ·rintro b wr hA ⟨hL,hk⟩
  rw[List.take_length]at hL;exact HQ.out _ _ (aE.trans (q.m) hA ζ) hL hk
theorem sF{v:aY}{P:aF}(h:aG B w pb v P fG L){mc mb:Nat}(bx:w.heap[mc]?=some (.cells #[.map (some mb)] 180 (0,0)))(bp:kc w mb P)(a7:mc≠pb∧mb≠pb)(a:Act)(c6:a.tmps.size=130)(h0:At a 0 (.pointer (some ⟨pb,0,none⟩)))(h2:At a 2 (.pointer (some ⟨mc,0,none⟩)))(Q:Exit→Act→World→Prop)
 (hQ:∀a' w',aE (fun i=>i==6||i==8||i==10||(rg 63 129 i)) a a'→aG B w' pb v P fG (P.Q9.flatMap (jz lK P)++L)→aD (fun k=>k=pb) w w'→Q .normal a' w'):
 (b9 Tryz.f31 [1,1,1,1]).wp Tryz.prog Q a w:=by
 have hd:a.defers=a.defers:=rfl;have d0:=h.lt;have ds:=h.base;have be:=hh bx;have cf:=hh bp;have HL:=hh h;obtain⟨A_p,an,b2,d1,hn,hl⟩:=h.QT.Q9;unfold top at hn;have cv:=hh hl;have HQ:=hh hQ;have q9:w.cell? ⟨pb,9,none⟩=some (.slice A_p P.Q9.length an):=by rw[←b2];exact h.cell rfl
 clear h bx bp hl hQ b2
 conv=>arg 2;whnf
 refine so (fun W Z=>aE (fun i=>(rg 63 69 i)) a W∧At W 67 (.slice A_p P.Q9.length an)∧At W 68 (.int .i64 P.Q9.length)∧At W 69 (.int .i64 0)∧Z=w) ?_ ?_
 ·have a0:aE (fun i=>(rg 63 69 i)) a a:=aE.refl _ _
  obtain⟨T,d⟩:=a;refine rl ?_
  iterate 7 with_reducible refine st ?_
  refine ln ⟨rfl,ag,aq,aq,aq,rfl⟩
 rintro W Z ⟨y,c9,c8,c7,rfl⟩;replace h0:=y.Q7 h0 rfl;replace h2:=y.Q7 h2 rfl;have bz:=y.size.trans c6;have c3:=y.defers.trans hd;refine bh P.Q9.length (fun i=>i==6||i==8||i==10||(rg 69 129 i)) (fun i=>i==6||i==8||i==10||(rg 71 128 i)) (fun k _ w'=>aG B w' pb v P fG ((P.Q9.take k).flatMap (jz lK P)++L)∧aD (fun k=>k=pb) Z w') χ c7 c8 ψ rfl
  ζ χ ψ (fun k a1 a2 w hA hI=>hI) ⟨by simpa using HL.out,aD.refl _ _⟩ ?_ ?_
 ·rintro n b wr bw hA bb ⟨hL,hk⟩
  obtain⟨bl,off,rfl,cy,bs⟩:=cv.out χ;obtain⟨x,hx⟩:=ge bw;have bo:=hk.below (B:=B) χ (fun _ hi e=>χ);obtain⟨lv,hc,u,_,di,_⟩:=(ef B) _ _ _ _ _ bo cy (bs n x hx);obtain⟨A_l,ad,rfl,u⟩:=u;have cs:Hid (aL B 4 (gY B) wr (.slice A_l x.QM.length ad) x.QM):=hh ⟨A_l,ad,rfl,u⟩;have q0:=hc.c0;have q1:=hc 1 _ rfl;have q2:=hc 2 _ rfl;have q3:=hc 3 _ rfl;have I:=hA.Q7 h0 rfl;have J:=hA.Q7 h2 rfl;have Y:=hA.Q7 c9 rfl;have b0:=hA.size.trans bz;have c4:=hA.defers.trans c3;have dk:=hk.size;have dc:bl<wr.heap.size:=χ
  have dt:n≤an:=χ
  have HX:=hh hx;have cp:=hh hL;have HK:=hh hk;have bf:=hh ((hk.block mc (aH be.out) (by exact a7.1)).trans be.out);have cj:=hh (cf.out.keep hk (by exact a7.2));have d2:=hL.lt;clear hx bs hc hA hk hL u bo q9;refine so (fun E C=>aE (fun i=>i==6||i==71||i==72) b E∧At E 6 (.pointer (some ⟨wr.heap.size,0,none⟩))∧C=wr.alloc (.cells #[.int .i64 x.pos,.string x.name,.int .u64 x.QJ,.slice A_l x.QM.length ad] 68)) ?_ ?_
  ·have a0:aE (fun i=>i==6||i==71||i==72) b b:=aE.refl _ _
   obtain⟨T,d⟩:=b;refine rl ?_
   iterate 4 with_reducible refine st ?_
   refine ln ⟨rfl,ag,aq,rfl⟩
  rintro E C ⟨g,V,H⟩;replace I:=g.Q7 I rfl;replace J:=g.Q7 J rfl;replace Y:=g.Q7 Y rfl;replace bb:=g.Q7 bb rfl;have a8:=g.size.trans b0;have bt:=g.defers.trans c4;obtain⟨zx,a9⟩:∃z,z=wr.heap.size:=⟨_,rfl⟩;rw[←a9]at V;have fx:C.heap[zx]?=some (.cells #[.int .i64 x.pos,.string x.name,.int .u64 x.QJ,.slice A_l x.QM.length ad] 68 (0,0)):=by rw[H,a9];exact heap_alloc_new _ _
  have U:Kz wr C:=by rw[H];exact(aD.refl _ _).alloc _
  have p0:C.cell? ⟨zx,0,none⟩=some (.int .i64 x.pos):=cr fx rfl;have p2:C.cell? ⟨zx,2,none⟩=some (.int .u64 x.QJ):=cr fx rfl;have b3:zx≠pb:=χ
  have FX:=hh fx;have cu:=hh ((U.block mc (aH bf.out) (fun h=>h)).trans bf.out);have cd:=hh (cj.out.keep U (fun h=>h));have cm:=hh (cs.out.below (dB _) (U.below (B:=B) χ (fun _ _ h=>h)));have bd:=hh (cp.out.new U);have bc:=hh (HK.out.trans U (fun _ _ h=>h.elim));clear H a9 fx U q0 q1 q2 q3 Y bb;obtain⟨lo,X⟩:∃b,b=decide (x.QJ<1):=⟨_,rfl⟩;have b5:decide ((x.QJ:Int)<1)=lo:=by rw[X];exact decide_eq_decide.2 χ
  obtain⟨hi,a5⟩:∃b,b=decide (65536<x.QJ):=⟨_,rfl⟩;have b4:decide ((65536:Int)<(x.QJ:Int))=hi:=by rw[a5];exact decide_eq_decide.2 χ
  have ca:decide (x.QJ=0)=lo:=by rw[X];exact decide_eq_decide.2 χ
  have cb:decide ((x.QJ:Int)=0)=lo:=by rw[X];exact decide_eq_decide.2 χ
  have af:Hid ((lo||hi)=decide (x.QJ<1∨65536<x.QJ)):=hh (by rw[X,a5,Bool.decide_or]);clear X a5;have d3:=aX;refine wp_seq (wp_seq (Code.wp_only (R:=fun D aa=>aE (fun i=>(rg 73 80 i)) E D∧At D 80 (.bool (lo||hi))∧aa=C) ?_ ?_))
  ·have a0:aE (fun i=>(rg 73 80 i)) E E:=aE.refl _ _
   obtain⟨T,d⟩:=E;refine rl ?_
   iterate 4 with_reducible refine st ?_
   cases lo
   ·skip
    iterate 4 with_reducible refine st ?_
    refine ln ⟨rfl,?_,?_,rfl⟩
    ·exact ag
    ·simp only[Bool.false_or,Bool.true_or];exact At.self
   ·skip
    iterate 4 with_reducible refine st ?_
    refine ln ⟨rfl,?_,?_,rfl⟩
    ·exact ag
    ·simp only[Bool.false_or,Bool.true_or];exact At.self
  rintro D aa ⟨l,al,rfl⟩;replace I:=l.Q7 I rfl;replace J:=l.Q7 J rfl;replace V:=l.Q7 V rfl;have O:=l.size.trans a8;have a4:=l.defers.trans bt;refine wp_cond_split (al.eval χ) (fun hg=>?_) (fun hg=>?_)
  ·have N:x.QJ<1∨65536<x.QJ:=by have h1:=af.out;rw[hg]at h1;exact of_decide_eq_true h1.symm
   clear hg b5 b4 ca cb al;refine so (fun bm ac=>aE (fun i=>(rg 81 84 i)) D bm∧aG B ac pb v P fG ((x.pos,2)::((P.Q9.take n).flatMap (jz lK P)++L))∧aD (fun k=>k=pb) aa ac) ?_ ?_
   ·have a0:aE (fun i=>(rg 81 84 i)) D D:=aE.refl _ _
    obtain⟨T,d⟩:=D;refine rl ?_
    iterate 3 with_reducible refine st ?_
    with_reducible refine Lz (fun K hK=>?_)
    go_simp;refine(cI x.pos 2 92 bd.out rfl).mono ?_;rintro e w2 ⟨rfl,a3,a6⟩;with_reducible refine hK _ _ ?_;clear hK K
    refine ln ⟨rfl,?_,?_,?_⟩
    ·exact ag
    ·exact a3
    ·exact a6
   rintro bm ac ⟨q,a3,a6⟩;replace I:=q.Q7 I rfl;replace J:=q.Q7 J rfl;replace V:=q.Q7 V rfl;have b1:=q.size.trans O;have cc:=q.defers.trans a4;refine wp_exit ?_
   repeat with_reducible apply fV
   simp only[bq,if_true];refine⟨(aE.trans (aE.trans (aE.trans (aE.refl (fun i=>i==6||i==8||i==10||(rg 71 128 i)) _) g ζ) l ζ) q ζ),a3.congr fun p=>?_,bc.out.trans a6 (fun _ _ h=>h)⟩;rw[aP HX.out,List.flatMap_append,List.flatMap_cons,List.flatMap_nil,List.append_nil,show jz lK P x=[(x.pos,2)] from by unfold jz;rw[if_pos N]];simp only[List.mem_append,List.mem_cons,List.mem_nil_iff,or_false]
   try simp only[or_assoc,or_comm,or_left_comm]
  ·have N:¬ (x.QJ<1∨65536<x.QJ):=by have h1:=af.out;rw[hg]at h1;exact of_decide_eq_false h1.symm
   refine wp_skip ?_;refine sG bd.out cu.out cd.out a7 N cm.out FX.out b3 D O I J V _ ?_;intro c wc cw cx c5;refine⟨(aE.trans (aE.trans (aE.trans (aE.refl (fun i=>i==6||i==8||i==10||(rg 71 128 i)) _) g ζ) l ζ) cw ζ),cx.congr fun p=>?_,bc.out.trans c5 (fun _ _ h=>h)⟩;rw[aP HX.out,List.flatMap_append,List.flatMap_cons,List.flatMap_nil,List.append_nil,show jz lK P x=x.QM.flatMap (jm P x.QJ) from by unfold jz;rw[if_neg N];rfl];simp only[List.mem_append]
   try simp only[or_assoc,or_comm,or_left_comm]
 ·rintro b wr hA ⟨hL,hk⟩
  rw[List.take_length]at hL;exact HQ.out _ _ (aE.trans (y.m) hA ζ) hL hk
end
open Go.RowKit Go.IntWalk Go.Shelf Ck
variable {w:World} {B:Nat}
attribute [local go_sem] Oper.semAt_some
def Cd(P:aF)(l:List (Fin P.Q4.length)):ByteArray→Value:=qb (fun i=>P.Q4[i].name) (fun i =>.int .u64 (P.Q4[i].QN:Nat)) (fun _ =>.int .u64 0) l
theorem BA(P:aF)(s:ByteArray):Cd P (List.finRange _) s=.int .u64 (lN P s:Nat):=by
 unfold Cd lN;rw[iU,jY P.Q4]
 cases(List.finRange P.Q4.length).find? fun i=>decide (P.Q4[i].name=s)<;>rfl
theorem vg{P:Program}{f:FuncId}{fn:Func}{N:Nat}{args:Array Value}{R:Ending→World→Prop}(q:P.funcs[f]?=some fn)(j:fn.ntmps=N)(l:fn.body.isSome=true)(u:args.size≤N)
 (h:∀a:Act,a.tmps.size=N→a.defers=[]→(∀i v,args[i]?=some v→At a i v)→(b9 fn []).wp P (bodyPostM Fence.wide 9 P fn R) a w):Calls P f args w R:=by
 obtain⟨c,d⟩:=Option.isSome_iff_exists.1 l;have e:b9 fn []=c:=by unfold b9;rw[d];rfl
 rw[e]at h;refine(callsIn_wide (n:=9)).1 (callsIn_of_wp_marks q d trivial (wpIn_wide.2 (h _ ?_ rfl fun i v g=>?_)))
 ·simp[j];omega
 ·intro x
  have hi:i<args.size:=(Array.getElem?_eq_some_iff.1 g).1;show(args++Array.replicate (fn.ntmps-args.size) undef)[i]=v;rw[Array.getElem_append_left hi];exact(Array.getElem?_eq_some_iff.1 g).2
theorem A7{β:Type}{N k:Nat}{cs:Array Value}{t:TypeId}{z:Nat×Nat}:OwnFrom N (fun(_:β) W=>W.heap[k]?=some (.cells cs t z)):=Own.from (dA k cs t z) N
theorem BU(T:Array Value)(p q:Nat)(u v:Value):(#[p,q].zip #[u,v]).foldl (fun(t:Array Value) (x:Nat×Value)=>match x with|(p,v)=>t.setIfInBounds p v) T=(T.setIfInBounds p u).setIfInBounds q v:=by
 simp[List.zip_toArray]
theorem ub{v:aY}{P:aF}(hp:ax B w v P)(V:B≤w.heap.size){A_s:Option Addr}{U:Nat}(y:v.Q4=.slice A_s P.Q4.length U){C mc bx:Nat}(hm:w.heap[C]?=some (.map #[] 0))(Y:w.heap[mc]?=some (.cells #[.map (some C)] 180 (0,0)))(X:w.heap[bx]?=some (.cells #[.slice A_s P.Q4.length U] 25 (0,0)))
 (bb:B≤C)(a:Act)(aa:a.tmps.size=130)(h2:At a 2 (.pointer (some ⟨mc,0,none⟩)))(a1:At a 55 (.func (.func 127) #[] #[.pointer (some ⟨bx,0,none⟩)]))(Q:Exit→Act→World→Prop)
 (hQ:∀D W,w.heap.size≤D→kc W C P→W.heap[mc]?=some (.cells #[.map (some C)] 180 (0,0))→aD (fun k=>k=C) w W→W.heap[D]?=some (.deferred (some []))→Q .normal { a with defers:={ target := .collected D,args := #[] }::a.defers } W):
 (b9 Tryz.f31 [1,1,1,0,1]).wp Tryz.prog Q a w:=by
 have H:=hp.Q4;rw[y]at H;obtain⟨_,_,e,a5,hn,hl⟩:=H
 cases e
 unfold top at hn;have HQ:=hh hQ;have a7:=aH Y;have ad:=aH hm;have a3:=aH X;have a6:mc≠C:=by rintro rfl;rw[Y]at hm;cases hm
 have a4:bx≠C:=by rintro rfl;rw[X]at hm;cases hm
 clear hQ
 conv=>arg 2;whnf
 refine wp_block ((wpIn_wide (n:=9)).1 ?_);obtain⟨q,Z,I⟩:=mD (σ:=(Option Addr×Nat)×(Option Addr×Nat)) (fun(x:aZ) s=>[.int .i64 x.pos,.string x.name,.int .u64 x.QN,.bool x.stopped,.slice s.1.1 x.QA.length s.1.2,.slice s.2.1 x.QO.length s.2.2]) (fun x _=>aW x.name) (fun b o x hx=>by
  obtain⟨u,u2,hc,⟨Am,cm,rfl,_⟩,⟨Ar,cR,rfl,_⟩,_,_,H⟩:=hx;exact⟨((Am,cm),(Ar,cR)),hc,H⟩) hl
 obtain⟨vs,y⟩:∃vs:Nat→Nat→Value,vs=fun j c=>if h:j<P.Q4.length then([.int .i64 P.Q4[j].pos,.string P.Q4[j].name,.int .u64 P.Q4[j].QN,.bool P.Q4[j].stopped,.slice (q j).1.1 P.Q4[j].QA.length (q j).1.2,.slice (q j).2.1 P.Q4[j].QO.length (q j).2.2]:List Value).getD c undef else undef:=⟨_,rfl⟩
 have hA:0<P.Q4.length→∃b off,A_s=some ⟨b,off,none⟩∧b<w.heap.size∧b≠C∧∀j c,j<P.Q4.length→c<6→w.cell? ⟨b,off+j*6+c,none⟩=some (vs j c):=fun af=>by
  obtain⟨b,off,h1,h2,E⟩:=Z af;refine⟨b,off,h1,χ,χ,fun j c hj hc=>?_⟩;rw[y];simp only[dif_pos hj];refine(E j hj) c _ ?_
  match c,hc with
  | 0,_=>rfl
  | 1,_=>rfl
  | 2,_=>rfl
  | 3,_=>rfl
  | 4,_=>rfl
  | 5,_=>rfl
 have O:=qA Fence.wide 8 trivial rfl ψ bx C w.heap.size P.Q4.length U A_s vs χ a5 ⟨a3,a4⟩ w (Nat.le_refl _) (cell_of_one X) hA;rw[show(fun x:Fin P.Q4.length=>(#[.int .i64 (x.val:Int),.agg #[vs x.val 0,vs x.val 1,vs x.val 2,vs x.val 3,vs x.val 4,vs x.val 5]]:Array Value))=fun x =>#[.int .i64 (x.val:Int),.agg #[.int .i64 P.Q4[x.val].pos,.string P.Q4[x.val].name,.int .u64 P.Q4[x.val].QN,.bool P.Q4[x.val].stopped,.slice (q x.val).1.1 P.Q4[x.val].QA.length (q x.val).1.2,.slice (q x.val).2.1 P.Q4[x.val].QO.length (q x.val).2.2]] from by
  funext x
  rw[y];simp only[dif_pos x.isLt];rfl]at O
 have a0:a.eval (.tmp 55)=.func (.func 127) #[] #[.pointer (some ⟨bx,0,none⟩)]:=a1.eval (by rw[aa];decide);refine wpIn_rangeFunc_ownH (F:=Fence.wide) (n:=9) rfl ψ (gf:=127) (lb := #[.pointer (some ⟨bx,0,none⟩)]) a0 trivial (enters_of Tryz.func127 δ rfl)
  O lE (wV (Nat.le_refl _)) (Below.refl _ _) (fun _=>rfl)
  (fun g W=>(ci W C g.length (.int .u64 0) (Cd P g.reverse) (qa (fun i=>P.Q4[i].name) (fun _=>false) g.reverse)∧W.heap[mc]?=some (.cells #[.map (some C)] 180 (0,0)))∧(aD (fun k=>k=C) w W))
  (fun _ _ _=>False)
  (OwnFrom.and (OwnFrom.and (fun s A B row H hg hr=>ci.own H hg (fun r e=>(hr r e).1) ad) A7) (fun s A B row H hg hr=>H.trans (aD.of_grown hg (S:=fun k=>w.heap.size≤k) (fun k e=>(hr k e).1)) (fun i hi h=>χ)))
  (fun _ _ _ _ _ H _ _=>H)
  ⟨⟨ci.new _ _ _ hm,Y⟩,aD.refl _ _⟩
  (fun x (a':Act) (W:World)=>∃Bx:Nat,W.heap[Bx]?=some (Obj.cells #[.int .i64 P.Q4[x.val].pos,.string P.Q4[x.val].name,.int .u64 P.Q4[x.val].QN,.bool P.Q4[x.val].stopped,.slice (q x.val).1.1 P.Q4[x.val].QA.length (q x.val).1.2,.slice (q x.val).2.1 P.Q4[x.val].QO.length (q x.val).2.2] 45 (0,0))∧a'.tmps.size=130∧At a' 2 (.pointer (some ⟨mc,0,none⟩))∧At a' 4 (.pointer (some ⟨Bx,0,none⟩)))
  (fun x a' s A B row H hg hr=>by
   obtain⟨Bx,h2,E⟩:=H;exact⟨Bx,gq h2 hg (fun r e=>(hr r e).2),E⟩)
  ?assign ?body ?done ?stop
 case assign =>
  rintro l g x W K ⟨⟨R,E⟩,V⟩ L;have ac:=aH E;have HK:=hh L;clear O hA I Z y hl L hp;obtain⟨T,d⟩:=a;have a8:((T.setIfInBounds 56 (.int .i64 (x.val:Int))).setIfInBounds 57 (.agg #[.int .i64 P.Q4[x.val].pos,.string P.Q4[x.val].name,.int .u64 P.Q4[x.val].QN,.bool P.Q4[x.val].stopped,.slice (q x.val).1.1 P.Q4[x.val].QA.length (q x.val).1.2,.slice (q x.val).2.1 P.Q4[x.val].QO.length (q x.val).2.2])).size=130:=by simpa using aa
  refine wpIn_region_lit ?_;rw[BU]
  dsimp only
  iterate 2
   with_reducible refine wpListIn_step (fun K L=>?_)
   go_simp;with_reducible refine L _ _ ?_;clear L K
  refine wpListIn_nil ?_;refine HK.out _ _ ((KeepsOthers.alloc _ _).from _) ((aD.refl _ _).alloc _) ⟨⟨R.keep (((aD.refl (fun _=>False) _).alloc _)) (fun h=>h),(Below.heap_alloc _ _ _ ac).trans E⟩,V.alloc _⟩ ⟨W.heap.size,heap_alloc_new _ _,?_,?_,?_⟩
  ·simpa using aa
  ·(repeat (first|with_reducible exact At.self|with_reducible apply At.ne));all_goals first|decide|with_reducible exact h2
  ·exact aq
 case body =>
  rintro l g x a' W hl _ ⟨⟨R,E⟩,V⟩ ⟨Bx,hX,J,k2,k4⟩ a9;have q1:W.cell? ⟨Bx,1,none⟩=some (.string P.Q4[x.val].name):=cr hX rfl;have q2:W.cell? ⟨Bx,2,none⟩=some (.int .u64 P.Q4[x.val].QN):=cr hX rfl;have qm:=cell_of_one E;have al:=I x.val x.isLt;have HS:=hh R;have H3:=hh E;have HB:=hh V;have an:Hid (aW P.Q4[x.val].name):=hh al;clear R E V hX O hA I Z y al hp;obtain⟨T,d⟩:=a';refine wpIn_block (wpIn_region_lit ?_)
  iterate 5
   with_reducible refine wpListIn_step (fun K L=>?_)
   go_simp;with_reducible refine L _ _ ?_;clear L K
  refine ci.updateIn rfl HS.out (by unfold maxLen;omega) rfl rfl Tryz.underlying180 (At.eval (by exact aq) (by have:=J;simp at this⊢; omega)) (At.eval (by exact aq) (by have:=J;simp at this⊢; omega)) (Nat.le_trans an.out (by unfold maxLen;omega)) (At.eval (by exact aq) (by have:=J;simp at this⊢; omega)) ?_;intro w2 a2 N;refine wpListIn_nil ?_;have e1:(g++[x]).reverse=x::g.reverse:=ξ
  have e2:(g++[x]).length=g.length+1:=ξ
  refine⟨iV N ad,N.mono fun _ _ h =>.inl h,⟨?_,(N.block _ (aH H3.out) a6).trans H3.out⟩,HB.out.trans N (fun _ _ h=>h)⟩;rw[e1,e2];exact a2
 case done =>
  rintro D ys W hD rfl ⟨⟨R,E⟩,V⟩ L;rw[kX]at R;have f1:Cd P (List.finRange _)=fun s =>.int .u64 (lN P s:Nat):=funext fun s=>BA P s
  rw[f1]at R;exact HQ.out D W hD ⟨_,_,R⟩ E V L
 case stop =>
  rintro D c g W _ _ h _;exact h.elim
theorem qX{w':World}{pb:Nat}{v:aY}{P:aF}{W:Int→Int}{L:List Wr}(h:aG B w pb v P W L){m:Nat}(hk:aD (fun k=>k=m) w w')(l:m<w.heap.size→B≤m∧gQ w m=none):aG B w' pb v P W L:=
 h.keep hk fun k q j=>by
  subst q;obtain⟨g,d⟩:=l j;exact⟨g,by rw[d];simp,by rw[d];simp⟩
theorem xp{pb:Nat}{v:aY}{P:aF}(h:aG B w pb v P fG []):Calls Tryz.prog 31 #[.pointer (some ⟨pb,0,none⟩)] w fun e w'=>e=.returned (.tuple #[])∧aG B w' pb v P fG (kM lK P)∧aD (fun k=>k=pb) w w':=by
 have e0:=h.base;have e5:=h.lt;obtain⟨A_t,dt,c4,_,eq,_⟩:=h.QT.QH;obtain⟨A_p,b4,c3,e1,en,cw⟩:=h.QT.Q9;obtain⟨A_m,ds,cy,_,eg,_⟩:=h.QT.QD;obtain⟨A_s,Z,es,e2,eo,eb⟩:=h.QT.Q4;unfold top at eq en eg eo;have ew:w.cell? ⟨pb,11,none⟩=some (.slice A_t P.QH.length dt):=by rw[←c4];exact h.cell rfl
 have q0:w.cell? ⟨pb,0,none⟩=some (.int .i64 P.pos):=h.cell rfl;have c9:=hh (h.new ((aD.refl _ w).drew));have b3:=hh cw;have bf:=hh es;clear h cw eb c4;refine vg Tryz.func31 Tryz.ntmps31 rfl (by show 1≤130;decide) fun a er hd hh=>?_
 have h0:At a 0 (.pointer (some ⟨pb,0,none⟩)):=hh 0 _ rfl;clear hh
 conv=>arg 2;whnf
 obtain⟨bs,hbs⟩:∃b,b=decide (0<P.QH.length):=⟨_,rfl⟩;have c5:decide ((0:Int)<(P.QH.length:Int))=bs:=by rw[hbs];exact decide_eq_decide.2 χ
 have c6:decide (0<P.QH.length)=bs:=hbs.symm;have c8:=hh hbs;clear hbs;refine so (fun V u=>aE (fun i=>(rg 11 24 i)) a V∧aG B u pb v P fG (say bs P.pos 0)∧aD (fun k=>k=pb) w u) ?_ ?_
 ·have an:aE (fun i=>(rg 11 24 i)) a a:=aE.refl _ _
  obtain⟨T,d⟩:=a;refine wp_region_still_tail 13 δ δ ?_;simp only[List.take_succ_cons,List.take_zero,List.drop_succ_cons,List.drop_zero]
  iterate 13 with_reducible refine sl ?_
  with_reducible refine wpStill_nil ?_;refine Lz (fun K hK=>?_)
  go_simp;refine(aT bs P.pos 0 107 c9.out rfl).mono ?_;rintro e w2 ⟨rfl,bo,bw⟩;with_reducible refine hK _ _ (ln ?_)
  refine⟨rfl,ag,by simpa using bo,((aD.refl _ _).drew).trans bw (fun _ _ e=>e)⟩
 rintro V u ⟨L,q,ad⟩;replace h0:=L.Q7 h0 rfl;have cx:=L.size.trans er;have d8:=L.defers.trans hd;have p9:u.cell? ⟨pb,9,none⟩=some (.slice A_p P.Q9.length b4):=by rw[←c3];exact q.cell rfl
 have eu:u.cell? ⟨pb,10,none⟩=some (.slice A_m P.QD.length ds):=by rw[←cy];exact q.cell rfl
 have p5:u.cell? ⟨pb,5,none⟩=some (.slice A_s P.Q4.length Z):=by rw[←bf.out];exact q.cell rfl
 clear c3 cy c5 c6 q0 ew;obtain⟨bp,a2⟩:∃b,b=decide (1<P.Q9.length):=⟨_,rfl⟩;have bb:decide ((1:Int)<(P.Q9.length:Int))=bp:=by rw[a2];exact decide_eq_decide.2 χ
 have bc:decide (1<P.Q9.length)=bp:=a2.symm;have b0:=hh a2;clear a2;have b2:=hh q;have b1:=hh ad;clear q ad;refine wp_seq (wp_seq (Code.wp_only (R:=fun I U=>aE (fun i=>(rg 25 31 i)) V I∧At I 31 (.bool bp)∧U=u) ?_ ?_))
 ·have an:aE (fun i=>(rg 25 31 i)) V V:=aE.refl _ _
  obtain⟨T,d⟩:=V;refine rl ?_
  iterate 7 with_reducible refine st ?_
  refine ln ⟨rfl,ag,aq,rfl⟩
 rintro I U ⟨N,a9,rfl⟩;replace h0:=N.Q7 h0 rfl;have bz:=N.size.trans cx;have cf:=N.defers.trans d8;refine Code.wp_only (R:=fun X g=>aE (fun i=>(rg 32 48 i)) I X∧aG B g pb v P fG (say bs P.pos 0++(match P.Q9[1]? with|some x=>say (decide (0<P.QD.length)) x.pos 1|none=>[]))∧aD (fun k=>k=pb) U g) ?_ ?_
 ·refine wp_cond_split (a9.eval χ) (fun hg=>?_) (fun hg=>?_)
  ·have a7:1<P.Q9.length:=by have h1:=b0.out;rw[hg]at h1;exact of_decide_eq_true h1.symm
   obtain⟨x,hx⟩:=ge a7;obtain⟨bl,off,rfl,d4,a5⟩:=b3.out χ;obtain⟨lv,hc,_⟩:=(ef B) _ _ _ _ _ (b1.out.below (B:=B) χ (fun _ hi e=>χ)) d4 (a5 1 x hx);have r0:=hc.c0;rw[Nat.one_mul]at r0;obtain⟨bm,a1⟩:∃b,b=decide (0<P.QD.length):=⟨_,rfl⟩;have ey:decide ((0:Int)<(P.QD.length:Int))=bm:=by rw[a1];exact decide_eq_decide.2 χ
   have ez:decide (0<P.QD.length)=bm:=a1.symm;have HX:=hh hx;have c7:=hh a1;have e6:1≤b4:=χ
   have e7:(1:Int)<(P.Q9.length:Int):=χ
   have di:=hh (b2.out.new ((aD.refl _ U).drew));clear a1 hx hc a5 hg bb bc a9;have an:aE (fun i=>(rg 32 48 i)) I I:=aE.refl _ _;obtain⟨T,d⟩:=I;refine wp_region_still_tail 16 δ δ ?_;simp only[List.take_succ_cons,List.take_zero,List.drop_succ_cons,List.drop_zero]
   iterate 16 with_reducible refine sl ?_
   with_reducible refine wpStill_nil ?_;refine Lz (fun K hK=>?_)
   go_simp;refine(aT bm x.pos 1 106 di.out rfl).mono ?_;rintro e w2 ⟨rfl,bo,bw⟩;with_reducible refine hK _ _ (ln ?_)
   refine⟨rfl,?_,bo.congr fun p=>?_,((aD.refl _ _).drew).trans bw (fun _ _ e=>e)⟩
   ·exact ag
   ·rw[HX.out,c7.out]
    simp only[List.mem_append]
    try simp only[or_comm]
  ·have a7:¬ 1<P.Q9.length:=by have h1:=b0.out;rw[hg]at h1;exact of_decide_eq_false h1.symm
   refine wp_skip ⟨rfl,aE.refl _ _,?_,aD.refl _ _⟩;rw[List.getElem?_eq_none χ]
   simpa using b2.out
 rintro X g ⟨O,a0,cm⟩;replace h0:=O.Q7 h0 rfl;have a4:=O.size.trans bz;have bt:=O.defers.trans cf;have p5:g.cell? ⟨pb,5,none⟩=some (.slice A_s P.Q4.length Z):=by rw[←bf.out];exact a0.cell rfl
 have dc:=hh a0;have bd:Hid (aD (fun k=>k=pb) w g):=b1.out.trans cm (fun _ _ h=>h);have a8:=a0.lt;clear a0 cm p9 eu bb bc b3;have ee:=@run_makeMap Tryz.prog;refine so (fun J j=>aE (fun i=>i==2||i==49) X J∧At J 2 (.pointer (some ⟨g.heap.size+1,0,none⟩))∧j=(g.alloc (.map #[] 0)).alloc (.cells #[.map (some g.heap.size)] 180)) ?_ ?_
 ·have an:aE (fun i=>i==2||i==49) X X:=aE.refl _ _
  obtain⟨T,d⟩:=X;refine rl ?_
  iterate 3 with_reducible refine st ?_
  refine ln ⟨rfl,ag,aq,rfl⟩
 rintro J j ⟨Q,h2,l⟩;replace h0:=Q.Q7 h0 rfl;have af:=Q.size.trans a4;have a3:=Q.defers.trans bt;clear ee;obtain⟨mb,Y⟩:∃m,m=g.heap.size:=⟨_,rfl⟩;rw[←Y]at h2 l;have s4:j.heap.size=mb+2:=by rw[l,Y];simp
 have f1:j.heap[mb]?=some (.map #[] 0):=by rw[l,Y,Below.heap_alloc _ _ _ ξ];exact heap_alloc_new _ _
 have f2:j.heap[mb+1]?=some (.cells #[.map (some mb)] 180 (0,0)):=by
  rw[l];have:=heap_alloc_new (g.alloc (.map #[] 0)) (.cells #[.map (some mb)] 180)
  rwa[World.size_alloc,←Y]at this
 have cp:Kz g j:=by rw[l];exact((aD.refl _ _).alloc _).alloc _
 replace p5:=(cp.cell (p:=⟨pb,5,none⟩) a8 (fun h=>h)).trans p5;have be:=hh Y;have dk:=hh s4;clear l Y s4;refine wp_seq (wp_seq (Code.wp_only (R:=fun E H=>aE (fun i=>(rg 50 55 i)) J E∧At E 55 (.func (.func 127) #[] #[.pointer (some ⟨j.heap.size,0,none⟩)])∧H=j.alloc (.cells #[.slice A_s P.Q4.length Z] 25)) ?_ ?_))
 ·have an:aE (fun i=>(rg 50 55 i)) J J:=aE.refl _ _
  obtain⟨T,d⟩:=J;refine rl ?_
  iterate 5 with_reducible refine st ?_
  with_reducible refine Lz (fun K hK=>?_)
  go_simp;refine((callsIn_wide (n:=9)).1 (pC Fence.wide 9 trivial rfl A_s P.Q4.length Z _)).mono ?_;rintro e w5 ⟨rfl,rfl⟩;with_reducible refine hK _ _ ?_;clear hK K
  refine ln ⟨rfl,ag,aq,rfl⟩
 rintro E H ⟨C,b5,al⟩;replace h0:=C.Q7 h0 rfl;replace h2:=C.Q7 h2 rfl;have y:=C.size.trans af;have aa:=C.defers.trans a3;obtain⟨bx,cd⟩:∃m,m=j.heap.size:=⟨_,rfl⟩;rw[←cd]at b5;have f3:H.heap[bx]?=some (.cells #[.slice A_s P.Q4.length Z] 25 (0,0)):=by rw[al,cd];exact heap_alloc_new _ _
 have ac:Kz j H:=by rw[al];exact(aD.refl _ _).alloc _
 have a6:Kz g H:=cp.trans ac (fun _ _ h=>h);have cc:=dc.out.new a6;have ex:pb<mb:=by rw[be.out];exact a8
 have e9:=ac.size;have e8:=dk.out;refine ub cc.QT χ bf.out ((ac.block mb (aH f1) (fun h=>h)).trans f1) ((ac.block (mb+1) (aH f2) (fun h=>h)).trans f2) f3 χ E y h2 b5 _ ?_;intro D W hD d7 ed cs hK;with_reducible apply bT
 have d3:=qX cc cs (fun _=>⟨χ,by unfold gQ;rw[(ac.block mb (aH f1) (fun h=>h)).trans f1]⟩);refine sF d3 ed d7 ⟨χ,χ⟩ { tmps:=E.tmps,defers:={ target := .collected D,args := #[] }::E.defers } y h0 h2 _ ?_;intro a' w' d0 d2 cj;have d9:a'.defers=[{ target := .collected D,args := #[] }]:=by rw[d0.defers];show _::E.defers=_;rw[show E.defers=[] from aa]
 have d1:D≠pb:=χ
 have ca:w'.heap[D]?=some (.deferred (some [])):=(cj.block D (aH hK) d1).trans hK;have cv:aD (fun k=>k=D) w' (w'.putObj D (.deferred none)):=aD.of_grown (grownBy_putObj' w' D (.deferred none)) (fun k e=>by cases e;rfl);have cb:=qX d2 cv (fun _=>⟨χ,by unfold gQ;rw[ca]⟩);have ea:aD (fun k=>k=pb) w w':=((bd.out.trans a6 (fun _ _ h=>h.elim)).trans cs (fun i hi e=>by have:=bd.out.size;have:=be.out;omega)).trans cj (fun _ _ h=>h);have cu:aD (fun k=>k=pb) w (w'.putObj D (.deferred none)):=ea.trans cv (fun i hi e=>by have:=bd.out.size;have:=be.out;omega);show LeavesInM Fence.wide 9 Tryz.prog Tryz.f31 a'.tmps _ a'.defers .returning w';rw[d9];refine⟨ξ,.inl ⟨_,_,rfl,run_takeDeferred ca,?_⟩⟩;refine⟨_,results_none rfl _ _ _,rfl,cb.congr fun p=>?_,cu⟩;unfold kM;rw[c8.out];simp only[List.mem_append]
 try simp only[or_assoc,or_comm,or_left_comm]
 exact Iff.rfl
