import Derived.Test.YtpblcjipmoblnaaGreatDoorParse
import Derived.Test.YtpblcjipmoblnaaGreatDoorFormatU
import Derived.Test.YtpblcjipmoblnaaGreatDoorLegal
set_option maxRecDepth 100000
set_option maxHeartbeats 4000000
set_option linter.unusedVariables false
set_option linter.unusedSimpArgs false
set_option linter.unnecessarySimpa false
namespace Go.Proofs.YtpblcjipmoblnaaGreatDoor
open Go.RowKit Go.IntWalk Go.Lib Go.Sort
variable {QV:Nat→Nat} {w:World} {p s:ByteArray}
def dF(p:ByteArray):Bool:=match parseUintB 64 p.data.toList with
 | .ok u=>decide ((⟨(decDigits u).toArray⟩:ByteArray)=p)
 | _=>false
theorem qI(v:jG QV w)(M:p.size≤281474976710656)(a:Act)(O:a.tmps.size=41)(x:At a 5 (.string p))(Q:Exit→Act→World→Prop)
 (A:∀h w' (u:Nat) b,aA (fun i=>i==6||i==7||(rg 27 31 i)) a h→At h 6 (.int .u64 u)→At h 7 b→u<18446744073709551616→((b=.nilIface∧parseUintB 64 p.data.toList=.ok u)∨((∃N,b=.iface 293 (.pointer (some ⟨N,0,none⟩)))∧∀u,parseUintB 64 p.data.toList ≠ .ok u))→Below w.heap.size w w'→Q .normal h w'):
 (al Tryz.f121 [1,1,1,0,1,0,0,1,1,0,0,1,0]).wp Tryz.prog Q a w:=by
 obtain⟨e3,n,j⟩:=v.e3;obtain⟨e4,q,l⟩:=v.e4;have E:=hh (td p M w n j q l);clear n q j l v
 conv=>arg 2;whnf
 refine Code.wp_only (R:=fun h w'=>aA (fun i=>i==6||i==7||(rg 27 31 i)) a h∧∃(u:Nat) (b:Value),At h 6 (.int .u64 u)∧At h 7 b∧u<18446744073709551616∧((b=.nilIface∧parseUintB 64 p.data.toList=.ok u)∨((∃N,b=.iface 293 (.pointer (some ⟨N,0,none⟩)))∧∀u,parseUintB 64 p.data.toList ≠ .ok u))∧Below w.heap.size w w') ?_ (fun H S ⟨I,u,b,J,n,q,x,L⟩=>A H S u b I J n q x L);clear A;obtain⟨T,d⟩:=a;refine rl ?_;with_reducible refine st ?_;refine Lz (fun K y=>?_)
 go_simp;refine E.out.mono ?_;rintro e U ⟨u,b,rfl,C,g,B⟩;have r:=hh g;have D:=hh B;have G:=hh C;clear g B C;with_reducible refine y _ _ ?_;clear y K
 iterate 5 with_reducible refine st ?_
 with_reducible refine ln ?_
 refine⟨rfl,ag,u,b,aq,aq,G.out,r.out,D.out⟩
theorem rX(C:jG QV w)(a:Act)(I:a.tmps.size=41)(U:At a 5 (.string p)){u:Nat}{v:Value}(V:At a 6 (.int .u64 u))(W:At a 7 v)(J:u<18446744073709551616)(G:(v=.nilIface∧parseUintB 64 p.data.toList=.ok u)∨((∃N,v=.iface 293 (.pointer (some ⟨N,0,none⟩)))∧∀u,parseUintB 64 p.data.toList ≠ .ok u))(Q:Exit→Act→World→Prop)
 (B:∀g w',aA (fun i=>(rg 32 39 i)) a g→At g 39 (.bool (!dF p))→Below w.heap.size w w'→Q .normal g w'):
 (al Tryz.f121 [1,1,1,0,1,0,0,1,1,0,0,1,1,0]).wp Tryz.prog Q a w:=by
 have q:=hh (mV u J w C.pow);clear C
 conv=>arg 2;whnf
 refine Code.wp_only (R:=fun g w'=>aA (fun i=>(rg 32 39 i)) a g∧At g 39 (.bool (!dF p))∧Below w.heap.size w w') ?_ (fun E S h=>B E S h.1 h.2.1 h.2.2);clear B;have L:=aJ
 rcases G with⟨rfl,n⟩|⟨⟨N,rfl⟩,l⟩
 ·obtain⟨x,hx⟩:∃x,x=(⟨(decDigits u).toArray⟩:ByteArray):=⟨_,rfl⟩
  obtain⟨b,y⟩:∃b,b=decide (x=p):=⟨_,rfl⟩;have r:Hid (dF p=b):=hh (by unfold dF;rw[n,y,hx]);have M:(x.toList==p.toList)=b:=by rw[y];exact bv _ _
  have O:(x.toList !=p.toList)=!b:=by rw[←M];rfl
  rw[←hx]at q;clear hx y n;obtain⟨T,d⟩:=a;refine rl ?_
  iterate 4 with_reducible refine st ?_
  with_reducible refine Lz (fun K A=>?_)
  go_simp;refine q.out.mono ?_;rintro e O ⟨rfl,k,os,rfl⟩;have D:Hid (Below w.heap.size w (grow (w.drewN k) os)):=hh ⟨rfl,rfl,rfl,by show _≤(w.heap++os).size;simp,fun j H=>by show(w.heap++os)[j]?=_;exact Array.getElem?_append_left H⟩;with_reducible refine A _ _ ?_;clear A K
  iterate 3 with_reducible refine st ?_
  with_reducible refine ln ?_
  refine⟨rfl,?_,?_,?_⟩
  ·exact ag
  ·rw[r.out]
   exact aq
  ·exact D.out
 ·have r:Hid (dF p=false):=hh (by unfold dF;cases hq:parseUintB 64 p.data.toList with|ok u=>exact absurd hq (l u)|_=>rfl)
  clear l q;obtain⟨T,d⟩:=a;refine rl ?_
  iterate 8 with_reducible refine st ?_
  with_reducible refine ln ?_
  refine⟨rfl,?_,?_,?_⟩
  ·exact ag
  ·rw[r.out,Bool.not_false]
   exact aq
  ·exact Below.refl _ _
theorem su(h:wU w):WhiteTab 7 w:=by
 obtain⟨p,q,b,a,d⟩:=h;exact⟨p.1,p.2,q.1,q.2,b,a 0 _ rfl,a 1 _ rfl,a 2 _ rfl,d⟩
def dot:ByteArray:=⟨#[46]⟩
def dm(s:ByteArray):List ByteArray:=splitB dot 0 (countB s dot) s
theorem kW(s:ByteArray):(dm s).length=countB s dot+1:=splitB_all dot (by decide) 0 _ s rfl
noncomputable def eD(QV:Nat→Nat)(s:ByteArray):Bool := !(decide (64<s.size) || !gG QV ((dm s).getD 0 ByteArray.empty))&&(dm s).tail.all dF
theorem qH(B:s.size<4294967281){m:Int}(p:w.cell? ⟨6,0,none⟩=some (.int .i64 m))(a:Act)(C:a.tmps.size=41)(D:At a 0 (.string s))(Q:Exit→Act→World→Prop)
 (r:∀b,aA (fun i=>i==3||i==8||i==9) a b→At b 3 (.slice (some ⟨w.heap.size,0,none⟩) (dm s).length (dm s).length)→Q .normal b (w.alloc (.cells ((dm s).map Value.string).toArray 9))):
 (al Tryz.f121 [1,0]).wp Tryz.prog Q a w:=by
 have j:=Tryz.strings_Split s dot m w B p (by decide);rw[←kW]at j;have l:=hh j;clear j p
 conv=>arg 2;whnf
 refine Code.wp_only (R:=fun b w'=>aA (fun i=>i==3||i==8||i==9) a b∧At b 3 (.slice (some ⟨w.heap.size,0,none⟩) (dm s).length (dm s).length)∧w'=w.alloc (.cells ((dm s).map Value.string).toArray 9)) ?_ (fun x G h=>by obtain⟨y,A,rfl⟩:=h;exact r x y A);clear r;obtain⟨n,u⟩:∃n,n=(dm s).length:=⟨_,rfl⟩;rw[←u]at l⊢;clear u;obtain⟨T,d⟩:=a;refine rl ?_;with_reducible refine st ?_;refine Lz (fun K q=>?_)
 go_simp;refine(show Calls Tryz.prog 140 #[.string s,.string dot] w _ from l.out).mono ?_;rintro e E ⟨rfl,g⟩;have v:=hh g;clear g;with_reducible refine q _ _ ?_;clear q K;refine st ?_;refine ln ?_
 refine⟨rfl,ag,aq,v.out⟩
theorem rY(j:∀w',Below w.heap.size w w'→jG QV w')(a:Act)(H:a.tmps.size=41)(L:At a 0 (.string s)){Z n:Nat}(D:1≤n)(M:At a 3 (.slice (some ⟨Z,0,none⟩) n n))(N:w.cell? ⟨Z,0,none⟩=some (.string p))(Q:Exit→Act→World→Prop)
 (y:∀b w',aA (fun i=>rg 10 19 i) a b→At b 19 (.bool (decide (64<s.size) || !gG QV p))→Below w.heap.size w w'→Q .normal b w'):
 (al Tryz.f121 [1,1,0,0]).wp Tryz.prog Q a w:=by
 have u:=hh (tr (s:=p) (fun w' C=>(j w' C).QV) (j w (Below.refl _ _)).space (su (j w (Below.refl _ _)).white));clear j
 conv=>arg 2;whnf
 refine Code.wp_only (R:=fun b w'=>aA (fun i=>rg 10 19 i) a b∧At b 19 (.bool (decide (64<s.size) || !gG QV p))∧Below w.heap.size w w') ?_ (fun B J h=>y B J h.1 h.2.1 h.2.2);clear y;have I:=aJ;obtain⟨l,A⟩:∃l,l=gG QV p:=⟨_,rfl⟩;rw[←A]at u⊢;clear A
 by_cases b1:64<s.size
 ·have q:Hid ((decide (64<s.size) || !l)=true):=hh (by simp[b1])
  have v:(64:Int)<(s.size:Int):=by omega
  clear u;obtain⟨T,d⟩:=a;refine rl ?_
  iterate 10 with_reducible refine st ?_
  with_reducible refine ln ?_
  refine⟨rfl,?_,?_,Below.refl _ _⟩
  ·exact ag
  ·rw[q.out]
   exact aq
 ·have q:Hid ((decide (64<s.size) || !l)=!l):=hh (by simp[b1])
  have v:¬ (64:Int)<(s.size:Int):=by omega
  have E:0<n:=D;have G:(0:Int)<(n:Int):=by omega
  obtain⟨T,d⟩:=a;refine rl ?_
  iterate 7 with_reducible refine st ?_
  with_reducible refine Lz (fun K x=>?_)
  go_simp;refine u.out.mono ?_;rintro e O ⟨rfl,g⟩;have r:=hh g;clear g;with_reducible refine x _ _ ?_;clear x K
  iterate 2 with_reducible refine st ?_
  with_reducible refine ln ?_
  refine⟨rfl,?_,?_,r.out⟩
  ·exact ag
  ·rw[q.out]
   exact aq
theorem rW(hS:∀w',Below w.heap.size w w'→jG QV w')(hs:s.size<4294967281)(Y:∀p∈dm s,p.size≤281474976710656):
 Calls Tryz.prog 121 #[.string s] w fun e w'=>e=.returned (.bool (eD QV s))∧Below w.heap.size w w':=by
 obtain⟨m6,h6⟩:=(hS w (Below.refl _ _)).max;obtain⟨p0,l,bl⟩:∃p0 l,dm s=p0::l:=by
  cases h:dm s with
  | nil=>have:=kW s;rw[h]at this;simp at this
  | cons a b=>exact⟨a,b,rfl⟩
 have cf:l.length≤4294967296:=by have h1:=kW s;rw[bl,List.length_cons]at h1;have:=countB_le dot (by decide) s.size s (Nat.le_refl _);omega
 refine az Tryz.func121 Tryz.ntmps121 rfl (by simp) fun a cd b3 C=>?_
 have h0:At a 0 (.string s):=C 0 _ rfl;clear C
 conv=>arg 2;whnf
 refine so (fun a1 B=>aA (fun i=>i==2) a a1∧B=w) ?_ ?_
 ·obtain⟨T,d⟩:=a
  refine rl ?_;with_reducible refine st ?_;refine ln ?_
  refine⟨rfl,?_,rfl⟩;exact ag
 rintro a1 B ⟨N,rfl⟩;have X:=N.size.trans cd;have j0:=N.Q7 h0 rfl;refine wp_seq (qH hs h6 a1 X j0 _ (fun a2 O k3=>?_));rw[bl]at k3 Y⊢;obtain⟨r,J⟩:∃x,x=B.alloc (.cells ((p0::l).map Value.string).toArray 9):=⟨_,rfl⟩;rw[←J];have hk:Kz B r:=by rw[J];exact(aB.refl _ _).alloc _
 have U:Below B.heap.size B r:=hk.below (Nat.le_refl _) (fun _ _ h=>h);have v:∀j p,(p0::l)[j]?=some p→r.cell? ⟨B.heap.size,j,none⟩=some (.string p):=fun j p hj=>by
  have b5:r.heap[B.heap.size]?=some (.cells ((p0::l).map Value.string).toArray 9):=by rw[J];exact Array.getElem?_push_size
  rw[cell_of_row _ _ _ _ _ _ b5,List.getElem?_toArray,List.getElem?_map,hj];rfl
 have bo:B.heap.size<r.heap.size:=by rw[J];simp
 obtain⟨Z,hZ⟩:∃z,z=B.heap.size:=⟨_,rfl⟩;rw[←hZ]at k3 v bo;clear hZ;have be:∀w',Below r.heap.size r w'→jG QV w':=fun w' hb=>hS w' (U.trans (hb.mono hk.size))
 have H:=O.size.trans X;have j0:=O.Q7 j0 rfl;refine wp_seq (wp_seq (rY be a2 H j0 (by simp) k3 (v 0 p0 rfl) _ (fun a3 w3 Q bw bf=>?_)));have E:a3.defers=[]:=Q.defers.trans (O.defers.trans (N.defers.trans b3));have ac:=Q.size.trans H;have a0:=bw.eval (by omega);obtain⟨b,hb⟩:∃b,b=(decide (64<s.size) || !gG QV p0):=⟨_,rfl⟩;rw[←hb]at a0;have an:Hid (eD QV s=(!b&&l.all dF)):=hh (by unfold eD;rw[bl,hb];rfl);have b1:Below B.heap.size B w3:=U.trans (bf.mono hk.size);clear hb bw J
 cases b
 rotate_left
 ·refine wp_cond_true a0 ?_
  refine so (fun K V=>At K 2 (.bool false)∧K.tmps.size=41∧K.defers=[]∧V=w3) ?_ ?_
  ·obtain⟨T,d⟩:=a3
   refine rl ?_;with_reducible refine st ?_;refine ln ?_
   refine⟨rfl,?_,by simpa using ac,E,rfl⟩;exact aq
  rintro K V ⟨k2,cc,b2,rfl⟩;refine wp_ret ?_
  repeat with_reducible apply bG
  exact b9 (t:=2) rfl k2 (by rw[cc];decide) b2 ⟨by rw[an.out];rfl,b1⟩
 refine wp_cond_false a0 (wp_skip ?_)
 repeat with_reducible apply aY
 have k3:=Q.Q7 k3 rfl;have cs:Z<w3.heap.size:=Nat.lt_of_lt_of_le bo bf.size;have q:∀V,Below r.heap.size r V→∀j p,l[j]?=some p→V.cell? ⟨Z,1+j,none⟩=some (.string p):=fun V hb j p hj=>(hb.cell (p:=⟨Z,1+j,none⟩) bo).trans (v (1+j) p (by rw[Nat.add_comm];simpa using hj))
 clear Q O N v h6;refine wp_seq (wp_seq (Code.wp_only (R:=fun K V=>aA (fun i=>i==20||i==21||i==22||i==23) a3 K∧(∃o,At K 21 (.slice (some ⟨Z,o,none⟩) l.length l.length)∧(0<l.length→o=1))∧At K 22 (.int .i64 l.length)∧At K 23 (.int .i64 0)∧V=w3) ?_ ?_))
 ·obtain⟨n,hn⟩:∃n,n=l.length:=⟨_,rfl⟩
  rw[←hn]at cf⊢;rw[List.length_cons,←hn]at k3;have cu:(1:Int)≤(n:Int)+1:=by omega
  clear hn q;obtain⟨T,d⟩:=a3;refine rl ?_
  iterate 4 with_reducible refine st ?_
  with_reducible refine ln ?_
  refine⟨rfl,?_,⟨if n=0 then 0 else 1,?_,fun h=>if_neg (by omega)⟩,?_,?_,rfl⟩
  ·exact ag
  ·have e:(Value.slice (if n=0 then some ⟨Z,0,none⟩else some ⟨Z,1,none⟩) n n)=.slice (some ⟨Z,if n=0 then 0 else 1,none⟩) n n:=by split<;>rfl
   rw[←e];exact At.ne (At.ne At.self (by decide)) (by decide)
  ·(repeat (first|with_reducible exact At.self|with_reducible apply At.ne));all_goals first|decide|exact At.self
  ·(repeat (first|with_reducible exact At.self|with_reducible apply At.ne));all_goals first|decide|exact At.self
 rintro K V ⟨bb,⟨o,ci,ho⟩,cl,cm,rfl⟩;have ad:=bb.size.trans ac;refine ai l.length (fun i=>i==5||i==6||i==7||(rg 23 40 i)) (fun i=>i==5||i==6||i==7||(rg 25 39 i)) (fun k a' w'=>(l.take k).all dF=true∧Below r.heap.size r w') (by omega) cm cl (by decide) rfl
  (by intro j;simp;omega) (by omega) (by decide) (fun k a1 a2 w hA hI=>hI) ⟨rfl,bf⟩ ?_ ?_
 ·rintro k a5 w5 b4 y cv ⟨g,A⟩
  obtain rfl:o=1:=ho (by omega);obtain⟨p,hp⟩:=ge b4;have q0:=q w5 A k p hp;have cw:=y.Q7 ci rfl;have I:=y.size.trans ad;have G:a5.defers=[]:=y.defers.trans (bb.defers.trans E);have ct:(k:Int)<(l.length:Int):=by omega
  have cb:=Y p (List.mem_cons_of_mem _ (List.mem_of_getElem? hp));have HP:=hh hp;have bp:=hh g;clear hp g q;refine so (fun a6 w6=>aA (fun i=>i==5||i==25||i==26) a5 a6∧At a6 5 (.string p)∧w6=w5) ?_ ?_
  ·obtain⟨T,d⟩:=a5
   refine rl ?_
   iterate 3 with_reducible refine st ?_
   with_reducible refine ln ?_
   refine⟨rfl,ag,aq,rfl⟩
  rintro a6 w6 ⟨bc,bx,rfl⟩;have af:=bc.size.trans I;refine wp_seq (qI (be _ A) cb a6 af bx _ (fun a7 w7 u er S k6 k7 hu hc bz=>?_));have D:Below r.heap.size r w7:=A.trans (bz.mono A.size);have ah:=S.size.trans af;refine wp_seq (rX (be _ D) a7 ah (S.Q7 bx rfl) k6 k7 hu hc _ (fun a8 w8 bd cp b0=>?_));have W:Below r.heap.size r w8:=D.trans (b0.mono D.size);have bu:=bd.size.trans ah;have bt:a8.defers=[]:=bd.defers.trans (S.defers.trans (bc.defers.trans G));have M:=cp.eval (by omega)
  cases hnu:dF p with
  | true =>
   rw[hnu]at M;refine wp_cond_false M (wp_skip ?_);refine⟨((bc.m).t S).t bd,?_,W⟩;rw[aP HP.out,List.all_append,bp.out];simp[hnu]
  | false =>
   rw[hnu]at M;refine wp_cond_true M ?_;refine so (fun L w9=>At L 2 (.bool false)∧L.tmps.size=41∧L.defers=[]∧w9=w8) ?_ ?_
   ·clear hnu
    obtain⟨T,d⟩:=a8;refine rl ?_;with_reducible refine st ?_;refine ln ?_
    refine⟨rfl,?_,by simpa using bu,bt,rfl⟩;exact aq
   rintro L w9 ⟨k2,bm,bj,rfl⟩;refine wp_ret ?_
   repeat (first|with_reducible apply b8|with_reducible apply bG)
   refine b9 (t:=2) rfl k2 (by rw[bm];decide) bj ⟨?_,U.trans (W.mono hk.size)⟩;have e:l.all dF=false:=by
    rw[Bool.eq_false_iff];intro h;have:=List.all_eq_true.1 h p (List.mem_of_getElem? HP.out);rw[hnu]at this
    cases this
   rw[an.out,e];rfl
 ·rintro a5 w5 y ⟨g,A⟩
  rw[List.take_length]at g;have I:=y.size.trans ad;have G:a5.defers=[]:=y.defers.trans (bb.defers.trans E)
  repeat with_reducible apply aY
  refine so (fun L w9=>At L 2 (.bool true)∧L.tmps.size=41∧L.defers=[]∧w9=w5) ?_ ?_
  ·obtain⟨T,d⟩:=a5
   refine rl ?_;with_reducible refine st ?_;refine ln ?_
   refine⟨rfl,?_,by simpa using I,G,rfl⟩;exact aq
  rintro L w9 ⟨k2,bm,bj,rfl⟩;refine wp_ret ?_;exact b9 (t:=2) rfl k2 (by rw[bm];decide) bj ⟨by rw[an.out,g];rfl,U.trans (A.mono hk.size)⟩
theorem lq(b:ByteArray)(a:Nat):∀(k:Nat) (s:ByteArray),∀p∈splitB b a k s,p.size≤s.size
 | 0,s,p,h=>by
  have:p=s:=by simpa[splitB]using h
  rw[this];exact Nat.le_refl _
 | k+1,s,p,h=>by
  unfold splitB at h;split at h
  ·have:p=s:=by simpa using h
   rw[this];exact Nat.le_refl _
  ·rcases List.mem_cons.1 h with h|h
   ·rw[h,ByteArray.size_extract];omega
   ·have:=lq b a k _ p h
    rw[ByteArray.size_extract]at this;omega
theorem iC{B:Nat}:ex B (eD ib):=by
 have d:∀w,gm B w→jG ib w:=fun w h=>h.scan w (Below.refl _ _)
 intro w s b a l;unfold ae at l;refine(rW (QV:=ib) (fun w' g=>d w' (b.below (g.mono a))) (by omega) (fun p j=>?_)).mono fun e w' h=>⟨h.1,aB.of_below h.2 (fun i n q=>by omega)⟩
 have:=lq dot 0 _ s p j;omega
end Go.Proofs.YtpblcjipmoblnaaGreatDoor
