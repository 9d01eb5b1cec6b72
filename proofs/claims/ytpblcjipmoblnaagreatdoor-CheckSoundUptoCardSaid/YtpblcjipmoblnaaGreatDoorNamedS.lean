import Derived.Test.YtpblcjipmoblnaaGreatDoorParse
import Derived.Test.YtpblcjipmoblnaaGreatDoorFormatU
import Derived.Test.YtpblcjipmoblnaaGreatDoorLegal
set_option maxRecDepth 100000
set_option linter.all false
set_option maxHeartbeats 4000000
namespace Go.Proofs.YtpblcjipmoblnaaGreatDoor
open Go.RowKit Go.IntWalk Go.Lib Go.Sort
variable {QU:Nat→Nat} {w:World} {p s:ByteArray}
def dD(p:ByteArray):Bool:=match parseUintB 64 p.data.toList with
 | .ok u=>decide ((⟨(decDigits u).toArray⟩:ByteArray)=p)
 | _=>false
theorem rt(y:jp QU w)(V:p.size≤281474976710656)(a:Act)(W:a.tmps.size=41)(A:At a 5 (.string p))(Q:Exit→Act→World→Prop)
 (C:∀j w' (u:Nat) g,aA (fun i=>i==6||i==7||(rg 27 31 i)) a j→At j 6 (.int .u64 u)→At j 7 g→u<18446744073709551616→((g=.nilIface∧parseUintB 64 p.data.toList=.ok u)∨((∃N,g=.iface 293 (.pointer (some ⟨N,0,none⟩)))∧∀u,parseUintB 64 p.data.toList ≠ .ok u))→Below w.heap.size w w'→Q .normal j w'):
 (bE Tryz.f121 [1,1,1,0,1,0,0,1,1,0,0,1,0]).wp Tryz.prog Q a w:=by
 obtain⟨e3,r,l⟩:=y.e3;obtain⟨e4,v,q⟩:=y.e4;have I:=hh (wI p V w r l v q);clear r v l q y
 conv=>arg 2;whnf
 refine Code.wp_only (R:=fun j w'=>aA (fun i=>i==6||i==7||(rg 27 31 i)) a j∧∃(u:Nat) (g:Value),At j 6 (.int .u64 u)∧At j 7 g∧u<18446744073709551616∧((g=.nilIface∧parseUintB 64 p.data.toList=.ok u)∨((∃N,g=.iface 293 (.pointer (some ⟨N,0,none⟩)))∧∀u,parseUintB 64 p.data.toList ≠ .ok u))∧Below w.heap.size w w') ?_ (fun L X ⟨O,u,g,S,r,v,A,U⟩=>C L X u g O S r v A U);clear C;obtain⟨T,d⟩:=a;refine rl ?_;with_reducible refine st ?_;refine Lz (fun K B=>?_)
 go_simp;refine I.out.mono ?_;rintro e Y ⟨u,g,rfl,E,h,D⟩;have x:=hh h;have H:=hh D;have J:=hh E;clear h D E;with_reducible refine B _ _ ?_;clear B K
 iterate 5 with_reducible refine st ?_
 with_reducible refine ln ?_
 refine⟨rfl,ag,u,g,aq,aq,J.out,x.out,H.out⟩
theorem tc(D:jp QU w)(a:Act)(L:a.tmps.size=41)(X:At a 5 (.string p)){u:Nat}{y:Value}(Y:At a 6 (.int .u64 u))(Z:At a 7 y)(O:u<18446744073709551616)(I:(y=.nilIface∧parseUintB 64 p.data.toList=.ok u)∨((∃N,y=.iface 293 (.pointer (some ⟨N,0,none⟩)))∧∀u,parseUintB 64 p.data.toList ≠ .ok u))(Q:Exit→Act→World→Prop)
 (C:∀g w',aA (fun i=>(rg 32 39 i)) a g→At g 39 (.bool (!dD p))→Below w.heap.size w w'→Q .normal g w'):
 (bE Tryz.f121 [1,1,1,0,1,0,0,1,1,0,0,1,1,0]).wp Tryz.prog Q a w:=by
 have r:=hh (oJ u O w D.pow);clear D
 conv=>arg 2;whnf
 refine Code.wp_only (R:=fun g w'=>aA (fun i=>(rg 32 39 i)) a g∧At g 39 (.bool (!dD p))∧Below w.heap.size w w') ?_ (fun H W h=>C H W h.1 h.2.1 h.2.2);clear C;have S:=al
 rcases I with⟨rfl,q⟩|⟨⟨N,rfl⟩,l⟩
 ·obtain⟨x,hx⟩:∃x,x=(⟨(decDigits u).toArray⟩:ByteArray):=⟨_,rfl⟩
  obtain⟨b,A⟩:∃b,b=decide (x=p):=⟨_,rfl⟩;have v:Hid (dD p=b):=hh (by unfold dD;rw[q,A,hx]);have U:(x.toList==p.toList)=b:=by rw[A];exact aw _ _
  have V:(x.toList !=p.toList)=!b:=by rw[←U];rfl
  rw[←hx]at r;clear hx A q;obtain⟨T,d⟩:=a;refine rl ?_
  iterate 4 with_reducible refine st ?_
  with_reducible refine Lz (fun K B=>?_)
  go_simp;refine r.out.mono ?_;rintro e V ⟨rfl,k,os,rfl⟩;have E:Hid (Below w.heap.size w (grow (w.drewN k) os)):=hh ⟨rfl,rfl,rfl,by show _≤(w.heap++os).size;simp,fun j J=>by show(w.heap++os)[j]?=_;exact Array.getElem?_append_left J⟩;with_reducible refine B _ _ ?_;clear B K
  iterate 3 with_reducible refine st ?_
  with_reducible refine ln ?_
  refine⟨rfl,?_,?_,?_⟩
  ·exact ag
  ·rw[v.out]
   exact aq
  ·exact E.out
 ·have v:Hid (dD p=false):=hh (by unfold dD;cases hq:parseUintB 64 p.data.toList with|ok u=>exact absurd hq (l u)|_=>rfl)
  clear l r;obtain⟨T,d⟩:=a;refine rl ?_
  iterate 8 with_reducible refine st ?_
  with_reducible refine ln ?_
  refine⟨rfl,?_,?_,?_⟩
  ·exact ag
  ·rw[v.out,Bool.not_false]
   exact aq
  ·exact Below.refl _ _
theorem vT(h:zZ w):WhiteTab 7 w:=by
 obtain⟨p,q,g,d,j⟩:=h;exact⟨p.1,p.2,q.1,q.2,g,d 0 _ rfl,d 1 _ rfl,d 2 _ rfl,j⟩
def dot:ByteArray:=⟨#[46]⟩
def de(s:ByteArray):List ByteArray:=splitB dot 0 (countB s dot) s
theorem lf(s:ByteArray):(de s).length=countB s dot+1:=splitB_all dot ψ 0 _ s rfl
noncomputable def fj(QU:Nat→Nat)(s:ByteArray):Bool := !(decide (64<s.size) || !gc QU ((de s).getD 0 ByteArray.empty))&&(de s).tail.all dD
theorem rq(C:s.size<4294967281){m:Int}(q:w.cell? ⟨6,0,none⟩=some (.int .i64 m))(a:Act)(D:a.tmps.size=41)(E:At a 0 (.string s))(Q:Exit→Act→World→Prop)
 (u:∀g,aA (fun i=>i==3||i==8||i==9) a g→At g 3 (.slice (some ⟨w.heap.size,0,none⟩) (de s).length (de s).length)→Q .normal g (w.alloc (.cells ((de s).map Value.string).toArray 9))):
 (bE Tryz.f121 [1,0]).wp Tryz.prog Q a w:=by
 have l:=Tryz.strings_Split s dot m w C q ψ;rw[←lf]at l;have p:=hh l;clear l q
 conv=>arg 2;whnf
 refine Code.wp_only (R:=fun g w'=>aA (fun i=>i==3||i==8||i==9) a g∧At g 3 (.slice (some ⟨w.heap.size,0,none⟩) (de s).length (de s).length)∧w'=w.alloc (.cells ((de s).map Value.string).toArray 9)) ?_ (fun y I h=>by obtain⟨A,B,rfl⟩:=h;exact u y A B);clear u;obtain⟨n,v⟩:∃n,n=(de s).length:=⟨_,rfl⟩;rw[←v]at p⊢;clear v;obtain⟨T,d⟩:=a;refine rl ?_;with_reducible refine st ?_;refine Lz (fun K r=>?_)
 go_simp;refine(show Calls Tryz.prog 140 #[.string s,.string dot] w _ from p.out).mono ?_;rintro e H ⟨rfl,j⟩;have x:=hh j;clear j;with_reducible refine r _ _ ?_;clear r K;refine st ?_;refine ln ?_
 refine⟨rfl,ag,aq,x.out⟩
theorem td(q:∀w',Below w.heap.size w w'→jp QU w')(a:Act)(J:a.tmps.size=41)(O:At a 0 (.string s)){Z n:Nat}(E:1≤n)(S:At a 3 (.slice (some ⟨Z,0,none⟩) n n))(U:w.cell? ⟨Z,0,none⟩=some (.string p))(Q:Exit→Act→World→Prop)
 (A:∀g w',aA (fun i=>rg 10 19 i) a g→At g 19 (.bool (decide (64<s.size) || !gc QU p))→Below w.heap.size w w'→Q .normal g w'):
 (bE Tryz.f121 [1,1,0,0]).wp Tryz.prog Q a w:=by
 have v:=hh (wT (s:=p) (fun w' D=>(q w' D).QU) (q w (Below.refl _ _)).space (vT (q w (Below.refl _ _)).white));clear q
 conv=>arg 2;whnf
 refine Code.wp_only (R:=fun g w'=>aA (fun i=>rg 10 19 i) a g∧At g 19 (.bool (decide (64<s.size) || !gc QU p))∧Below w.heap.size w w') ?_ (fun C N h=>A C N h.1 h.2.1 h.2.2);clear A;have L:=al;obtain⟨l,B⟩:∃l,l=gc QU p:=⟨_,rfl⟩;rw[←B]at v⊢;clear B
 by_cases b1:64<s.size
 ·have r:Hid ((decide (64<s.size) || !l)=true):=hh (by simp[b1])
  have x:(64:Int)<(s.size:Int):=χ
  clear v;obtain⟨T,d⟩:=a;refine rl ?_
  iterate 10 with_reducible refine st ?_
  with_reducible refine ln ?_
  refine⟨rfl,?_,?_,Below.refl _ _⟩
  ·exact ag
  ·rw[r.out]
   exact aq
 ·have r:Hid ((decide (64<s.size) || !l)=!l):=hh (by simp[b1])
  have x:¬ (64:Int)<(s.size:Int):=χ
  have H:0<n:=E;have I:(0:Int)<(n:Int):=χ
  obtain⟨T,d⟩:=a;refine rl ?_
  iterate 7 with_reducible refine st ?_
  with_reducible refine Lz (fun K y=>?_)
  go_simp;refine v.out.mono ?_;rintro e V ⟨rfl,j⟩;have u:=hh j;clear j;with_reducible refine y _ _ ?_;clear y K
  iterate 2 with_reducible refine st ?_
  with_reducible refine ln ?_
  refine⟨rfl,?_,?_,u.out⟩
  ·exact ag
  ·rw[r.out]
   exact aq
theorem tZ(hS:∀w',Below w.heap.size w w'→jp QU w')(hs:s.size<4294967281)(ad:∀p∈de s,p.size≤281474976710656):
 Calls Tryz.prog 121 #[.string s] w fun e w'=>e=.returned (.bool (fj QU s))∧Below w.heap.size w w':=by
 obtain⟨m6,h6⟩:=(hS w (Below.refl _ _)).max;obtain⟨p0,l,bt⟩:∃p0 l,de s=p0::l:=by
  cases h:de s with
  | nil=>have:=lf s;rw[h]at this;simp at this
  | cons a b=>exact⟨a,b,rfl⟩
 have cs:l.length≤4294967296:=by have h1:=lf s;rw[bt,List.length_cons]at h1;have:=countB_le dot ψ s.size s (Nat.le_refl _);omega
 refine b9 Tryz.func121 Tryz.ntmps121 rfl ξ fun a cp cd C=>?_
 have h0:At a 0 (.string s):=C 0 _ rfl;clear C
 conv=>arg 2;whnf
 refine so (fun a1 B=>aA (fun i=>i==2) a a1∧B=w) ?_ ?_
 ·obtain⟨T,d⟩:=a
  refine rl ?_;with_reducible refine st ?_;refine ln ?_
  refine⟨rfl,?_,rfl⟩;exact ag
 rintro a1 B ⟨Q,rfl⟩;have ac:=Q.size.trans cp;have j0:=Q.Q7 h0 rfl;refine wp_seq (rq hs h6 a1 ac j0 _ (fun a2 S k3=>?_));rw[bt]at k3 ad⊢;obtain⟨r,K⟩:∃x,x=B.alloc (.cells ((p0::l).map Value.string).toArray 9):=⟨_,rfl⟩;rw[←K];have hk:Kz B r:=by rw[K];exact(aD.refl _ _).alloc _
 have W:Below B.heap.size B r:=hk.below (Nat.le_refl _) (fun _ _ h=>h);have v:∀j p,(p0::l)[j]?=some p→r.cell? ⟨B.heap.size,j,none⟩=some (.string p):=fun j p hj=>by
  have ci:r.heap[B.heap.size]?=some (.cells ((p0::l).map Value.string).toArray 9):=by rw[K];exact Array.getElem?_push_size
  rw[cell_of_row _ _ _ _ _ _ ci,List.getElem?_toArray,List.getElem?_map,hj];rfl
 have bx:B.heap.size<r.heap.size:=by rw[K];simp
 obtain⟨Z,hZ⟩:∃z,z=B.heap.size:=⟨_,rfl⟩;rw[←hZ]at k3 v bx;clear hZ;have bm:∀w',Below r.heap.size r w'→jp QU w':=fun w' hb=>hS w' (W.trans (hb.mono hk.size))
 have I:=S.size.trans ac;have j0:=S.Q7 j0 rfl;refine wp_seq (wp_seq (td bm a2 I j0 ξ k3 (v 0 p0 rfl) _ (fun a3 w3 U b2 bo=>?_)));have E:a3.defers=[]:=U.defers.trans (S.defers.trans (Q.defers.trans cd));have af:=U.size.trans I;have bd:=b2.eval χ;obtain⟨b,hb⟩:∃b,b=(decide (64<s.size) || !gc QU p0):=⟨_,rfl⟩;rw[←hb]at bd;have bc:Hid (fj QU s=(!b&&l.all dD)):=hh (by unfold fj;rw[bt,hb];rfl);have cb:Below B.heap.size B w3:=W.trans (bo.mono hk.size);clear hb b2 K
 cases b
 rotate_left
 ·refine wp_cond_true bd ?_
  refine so (fun L X=>At L 2 (.bool false)∧L.tmps.size=41∧L.defers=[]∧X=w3) ?_ ?_
  ·obtain⟨T,d⟩:=a3
   refine rl ?_;with_reducible refine st ?_;refine ln ?_
   refine⟨rfl,?_,by simpa using af,E,rfl⟩;exact aq
  rintro L X ⟨k2,cm,cc,rfl⟩;refine wp_ret ?_
  repeat with_reducible apply bH
  exact bk (t:=2) rfl k2 (by rw[cm];decide) cc ⟨by rw[bc.out];rfl,cb⟩
 refine wp_cond_false bd (wp_skip ?_)
 repeat with_reducible apply bu
 have k3:=U.Q7 k3 rfl;have cy:Z<w3.heap.size:=Nat.lt_of_lt_of_le bx bo.size;have q:∀X,Below r.heap.size r X→∀j p,l[j]?=some p→X.cell? ⟨Z,1+j,none⟩=some (.string p):=fun X hb j p hj=>(hb.cell (p:=⟨Z,1+j,none⟩) bx).trans (v (1+j) p (by rw[Nat.add_comm];simpa using hj))
 clear U S Q v h6;refine wp_seq (wp_seq (Code.wp_only (R:=fun L X=>aA (fun i=>i==20||i==21||i==22||i==23) a3 L∧(∃o,At L 21 (.slice (some ⟨Z,o,none⟩) l.length l.length)∧(0<l.length→o=1))∧At L 22 (.int .i64 l.length)∧At L 23 (.int .i64 0)∧X=w3) ?_ ?_))
 ·obtain⟨n,hn⟩:∃n,n=l.length:=⟨_,rfl⟩
  rw[←hn]at cs⊢;rw[List.length_cons,←hn]at k3;have c2:(1:Int)≤(n:Int)+1:=χ
  clear hn q;obtain⟨T,d⟩:=a3;refine rl ?_
  iterate 4 with_reducible refine st ?_
  with_reducible refine ln ?_
  refine⟨rfl,?_,⟨if n=0 then 0 else 1,?_,fun h=>if_neg χ⟩,?_,?_,rfl⟩
  ·exact ag
  ·have e:(Value.slice (if n=0 then some ⟨Z,0,none⟩else some ⟨Z,1,none⟩) n n)=.slice (some ⟨Z,if n=0 then 0 else 1,none⟩) n n:=by split<;>rfl
   rw[←e];exact At.ne (At.ne At.self ψ) ψ
  ·(repeat (first|with_reducible exact At.self|with_reducible apply At.ne));all_goals first|decide|exact At.self
  ·(repeat (first|with_reducible exact At.self|with_reducible apply At.ne));all_goals first|decide|exact At.self
 rintro L X ⟨be,⟨o,cu,ho⟩,cv,cw,rfl⟩;have a0:=be.size.trans af;refine bj l.length (fun i=>i==5||i==6||i==7||(rg 23 40 i)) (fun i=>i==5||i==6||i==7||(rg 25 39 i)) (fun k a' w'=>(l.take k).all dD=true∧Below r.heap.size r w') χ cw cv ψ rfl
  ζ χ ψ (fun k a1 a2 w hA hI=>hI) ⟨rfl,bo⟩ ?_ ?_
 ·rintro k a5 w5 cf y c3 ⟨g,A⟩
  obtain rfl:o=1:=ho χ;obtain⟨p,hp⟩:=ge cf;have q0:=q w5 A k p hp;have c4:=y.Q7 cu rfl;have J:=y.size.trans a0;have H:a5.defers=[]:=y.defers.trans (be.defers.trans E);have c1:(k:Int)<(l.length:Int):=χ
  have cl:=ad p (List.mem_cons_of_mem _ (List.mem_of_getElem? hp));have HP:=hh hp;have bz:=hh g;clear hp g q;refine so (fun a6 w6=>aA (fun i=>i==5||i==25||i==26) a5 a6∧At a6 5 (.string p)∧w6=w5) ?_ ?_
  ·obtain⟨T,d⟩:=a5
   refine rl ?_
   iterate 3 with_reducible refine st ?_
   with_reducible refine ln ?_
   refine⟨rfl,ag,aq,rfl⟩
  rintro a6 w6 ⟨bf,b3,rfl⟩;have ba:=bf.size.trans J;refine wp_seq (rt (bm _ A) cl a6 ba b3 _ (fun a7 w7 u er V k6 k7 hu hc b4=>?_));have D:Below r.heap.size r w7:=A.trans (b4.mono A.size);have bb:=V.size.trans ba;refine wp_seq (tc (bm _ D) a7 bb (V.Q7 b3 rfl) k6 k7 hu hc _ (fun a8 w8 bl cx b5=>?_));have Y:Below r.heap.size r w8:=D.trans (b5.mono D.size);have b1:=bl.size.trans bb;have b0:a8.defers=[]:=bl.defers.trans (V.defers.trans (bf.defers.trans H));have O:=cx.eval χ
  cases hnu:dD p with
  | true =>
   rw[hnu]at O;refine wp_cond_false O (wp_skip ?_);refine⟨((bf.m).t V).t bl,?_,Y⟩;rw[aP HP.out,List.all_append,bz.out];simp[hnu]
  | false =>
   rw[hnu]at O;refine wp_cond_true O ?_;refine so (fun N w9=>At N 2 (.bool false)∧N.tmps.size=41∧N.defers=[]∧w9=w8) ?_ ?_
   ·clear hnu
    obtain⟨T,d⟩:=a8;refine rl ?_;with_reducible refine st ?_;refine ln ?_
    refine⟨rfl,?_,by simpa using b1,b0,rfl⟩;exact aq
   rintro N w9 ⟨k2,bw,bp,rfl⟩;refine wp_ret ?_
   repeat (first|with_reducible apply b7|with_reducible apply bH)
   refine bk (t:=2) rfl k2 (by rw[bw];decide) bp ⟨?_,W.trans (Y.mono hk.size)⟩;have e:l.all dD=false:=by
    rw[Bool.eq_false_iff];intro h;have:=List.all_eq_true.1 h p (List.mem_of_getElem? HP.out);rw[hnu]at this
    cases this
   rw[bc.out,e];rfl
 ·rintro a5 w5 y ⟨g,A⟩
  rw[List.take_length]at g;have J:=y.size.trans a0;have H:a5.defers=[]:=y.defers.trans (be.defers.trans E)
  repeat with_reducible apply bu
  refine so (fun N w9=>At N 2 (.bool true)∧N.tmps.size=41∧N.defers=[]∧w9=w5) ?_ ?_
  ·obtain⟨T,d⟩:=a5
   refine rl ?_;with_reducible refine st ?_;refine ln ?_
   refine⟨rfl,?_,by simpa using J,H,rfl⟩;exact aq
  rintro N w9 ⟨k2,bw,bp,rfl⟩;refine wp_ret ?_;exact bk (t:=2) rfl k2 (by rw[bw];decide) bp ⟨by rw[bc.out,g];rfl,W.trans (A.mono hk.size)⟩
theorem nk(g:ByteArray)(d:Nat):∀(k:Nat) (s:ByteArray),∀p∈splitB g d k s,p.size≤s.size
 | 0,s,p,h=>by
  have:p=s:=by simpa[splitB]using h
  rw[this];exact Nat.le_refl _
 | k+1,s,p,h=>by
  unfold splitB at h;split at h
  ·have:p=s:=by simpa using h
   rw[this];exact Nat.le_refl _
  ·rcases List.mem_cons.1 h with h|h
   ·rw[h,ByteArray.size_extract];omega
   ·have:=nk g d k _ p h
    rw[ByteArray.size_extract]at this;omega
theorem kb{B:Nat}:gG B (fj kn):=by
 have j:∀w,jI B w→jp kn w:=fun w h=>h.scan w (Below.refl _ _)
 intro w s g d r;unfold aX at r;refine(tZ (QU:=kn) (fun w' l=>j w' (g.below (l.mono d))) χ (fun p q=>?_)).mono fun e w' h=>⟨h.1,aD.of_below h.2 (fun i u v=>χ)⟩
 have:=nk dot 0 _ s p q;omega
