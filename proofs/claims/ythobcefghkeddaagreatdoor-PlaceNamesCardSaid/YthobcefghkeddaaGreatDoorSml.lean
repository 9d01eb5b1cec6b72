import Derived.Test.YthobcefghkeddaaGreatDoorParse
import Derived.Test.YthobcefghkeddaaGreatDoorFormatU
import Derived.Test.YthobcefghkeddaaGreatDoorLegal
import Derived.Test.YthobcefghkeddaaGreatDoorAhdP
set_option maxRecDepth 100000
set_option linter.all false
set_option maxHeartbeats 4000000
namespace Go.Proofs.YthobcefghkeddaaGreatDoor
open Go.RowKit Go.IntWalk Go.Lib Go.Sort
variable {QT:Nat→Nat} {w:World} {p s:ByteArray}
def cX(p:ByteArray):Bool:=match parseUintB 64 p.data.toList with
 | .ok u=>decide ((⟨(decDigits u).toArray⟩:ByteArray)=p)
 | _=>false
theorem rx(B:jT QT w)(Y:p.size≤281474976710656)(a:Act)(Z:a.tmps.size=41)(C:At a 5 (.string p))(Q:Exit→Act→World→Prop)
 (E:∀j w' (u:Nat) g,aE (fun i=>i==6||i==7||(rg 27 31 i)) a j→At j 6 (.int .u64 u)→At j 7 g→u<18446744073709551616→((g=.nilIface∧parseUintB 64 p.data.toList=.ok u)∨((∃N,g=.iface 314 (.pointer (some ⟨N,0,none⟩)))∧∀u,parseUintB 64 p.data.toList ≠ .ok u))→Below w.heap.size w w'→Q .normal j w'):
 (ay Tryz.f122 [1,1,1,0,1,0,0,1,1,0,0,1,0]).wp Tryz.prog Q a w:=by
 obtain⟨e3,v,l⟩:=B.e3;obtain⟨e4,x,q⟩:=B.e4;have L:=hh (xC p Y w v l x q);clear v x l q B
 conv=>arg 2;whnf
 refine Code.wp_only (R:=fun j w'=>aE (fun i=>i==6||i==7||(rg 27 31 i)) a j∧∃(u:Nat) (g:Value),At j 6 (.int .u64 u)∧At j 7 g∧u<18446744073709551616∧((g=.nilIface∧parseUintB 64 p.data.toList=.ok u)∨((∃N,g=.iface 314 (.pointer (some ⟨N,0,none⟩)))∧∀u,parseUintB 64 p.data.toList ≠ .ok u))∧Below w.heap.size w w') ?_ (fun U w4 ⟨V,u,g,W,v,x,C,X⟩=>E U w4 u g V W v x C X);clear E;obtain⟨T,d⟩:=a;refine rl ?_;with_reducible refine st ?_;refine Lz (fun K D=>?_)
 go_simp;refine L.out.mono ?_;rintro e w2 ⟨u,g,rfl,I,h,H⟩;have y:=hh h;have J:=hh H;have O:=hh I;clear h H I;with_reducible refine D _ _ ?_;clear D K
 iterate 5 with_reducible refine st ?_
 with_reducible refine ln ?_
 refine⟨rfl,ag,u,g,aq,aq,O.out,y.out,J.out⟩
theorem uJ(I:jT QT w)(a:Act)(V:a.tmps.size=41)(h5:At a 5 (.string p)){u:Nat}{B:Value}(h6:At a 6 (.int .u64 u))(h7:At a 7 B)(W:u<18446744073709551616)(O:(B=.nilIface∧parseUintB 64 p.data.toList=.ok u)∨((∃N,B=.iface 314 (.pointer (some ⟨N,0,none⟩)))∧∀u,parseUintB 64 p.data.toList ≠ .ok u))(Q:Exit→Act→World→Prop)
 (H:∀g w',aE (fun i=>(rg 32 39 i)) a g→At g 39 (.bool (!cX p))→Below w.heap.size w w'→Q .normal g w'):
 (ay Tryz.f122 [1,1,1,0,1,0,0,1,1,0,0,1,1,0]).wp Tryz.prog Q a w:=by
 have v:=hh (oK u W w I.pow);clear I
 conv=>arg 2;whnf
 refine Code.wp_only (R:=fun g w'=>aE (fun i=>(rg 32 39 i)) a g∧At g 39 (.bool (!cX p))∧Below w.heap.size w w') ?_ (fun L w4 h=>H L w4 h.1 h.2.1 h.2.2);clear H;have X:=aU
 rcases O with⟨rfl,q⟩|⟨⟨N,rfl⟩,l⟩
 ·obtain⟨x,D⟩:∃x,x=(⟨(decDigits u).toArray⟩:ByteArray):=⟨_,rfl⟩
  obtain⟨b,C⟩:∃b,b=decide (x=p):=⟨_,rfl⟩;have y:Hid (cX p=b):=hh (by unfold cX;rw[q,C,D]);have Y:(x.toList==p.toList)=b:=by rw[C];exact bQ _ _
  have Z:(x.toList !=p.toList)=!b:=by rw[←Y];rfl
  rw[←D]at v;clear D C q;obtain⟨T,d⟩:=a;refine rl ?_
  iterate 4 with_reducible refine st ?_
  with_reducible refine Lz (fun K E=>?_)
  go_simp;refine v.out.mono ?_;rintro e Z ⟨rfl,k,os,rfl⟩;have J:Hid (Below w.heap.size w (grow (w.drewN k) os)):=hh ⟨rfl,rfl,rfl,by show _≤(w.heap++os).size;simp,fun j U=>by show(w.heap++os)[j]?=_;exact Array.getElem?_append_left U⟩;with_reducible refine E _ _ ?_;clear E K
  iterate 3 with_reducible refine st ?_
  with_reducible refine ln ?_
  refine⟨rfl,?_,?_,?_⟩
  ·exact ag
  ·rw[y.out]
   exact aq
  ·exact J.out
 ·have y:Hid (cX p=false):=hh (by unfold cX;cases hq:parseUintB 64 p.data.toList with|ok u=>exact absurd hq (l u)|_=>rfl)
  clear l v;obtain⟨T,d⟩:=a;refine rl ?_
  iterate 8 with_reducible refine st ?_
  with_reducible refine ln ?_
  refine⟨rfl,?_,?_,?_⟩
  ·exact ag
  ·rw[y.out,Bool.not_false]
   exact aq
  ·exact Below.refl _ _
theorem wI(h:AQ w):WhiteTab 7 w:=by
 obtain⟨p,q,g,d,j⟩:=h;exact⟨p.1,p.2,q.1,q.2,g,d 0 _ rfl,d 1 _ rfl,d 2 _ rfl,j⟩
def dot:ByteArray:=⟨#[46]⟩
def dL(s:ByteArray):List ByteArray:=splitB dot 0 (countB s dot) s
theorem lW(s:ByteArray):(dL s).length=countB s dot+1:=splitB_all dot ψ 0 _ s rfl
noncomputable def ci(QT:Nat→Nat)(s:ByteArray):Bool := !(decide (64<s.size) || !g8 QT ((dL s).getD 0 ByteArray.empty))&&(dL s).tail.all cX
theorem ru(H:s.size<4294967281){m:Int}(u:w.cell? ⟨6,0,none⟩=some (.int .i64 m))(a:Act)(I:a.tmps.size=41)(J:At a 0 (.string s))(Q:Exit→Act→World→Prop)
 (x:∀g,aE (fun i=>i==3||i==8||i==9) a g→At g 3 (.slice (some ⟨w.heap.size,0,none⟩) (dL s).length (dL s).length)→Q .normal g (w.alloc (.cells ((dL s).map Value.string).toArray 9))):
 (ay Tryz.f122 [1,0]).wp Tryz.prog Q a w:=by
 have l:=Tryz.strings_Split s dot m w H u ψ;rw[←lW]at l;have q:=hh l;clear l u
 conv=>arg 2;whnf
 refine Code.wp_only (R:=fun g w'=>aE (fun i=>i==3||i==8||i==9) a g∧At g 3 (.slice (some ⟨w.heap.size,0,none⟩) (dL s).length (dL s).length)∧w'=w.alloc (.cells ((dL s).map Value.string).toArray 9)) ?_ (fun C N h=>by obtain⟨D,E,rfl⟩:=h;exact x C D E);clear x;obtain⟨n,y⟩:∃n,n=(dL s).length:=⟨_,rfl⟩;rw[←y]at q⊢;clear y;obtain⟨T,d⟩:=a;refine rl ?_;with_reducible refine st ?_;refine Lz (fun K v=>?_)
 go_simp;refine(show Calls Tryz.prog 145 #[.string s,.string dot] w _ from q.out).mono ?_;rintro e L ⟨rfl,j⟩;have B:=hh j;clear j;with_reducible refine v _ _ ?_;clear v K;refine st ?_;refine ln ?_
 refine⟨rfl,ag,aq,B.out⟩
theorem uK(q:∀w',Below w.heap.size w w'→jT QT w')(a:Act)(N:a.tmps.size=41)(V:At a 0 (.string s)){Z n:Nat}(I:1≤n)(W:At a 3 (.slice (some ⟨Z,0,none⟩) n n))(X:w.cell? ⟨Z,0,none⟩=some (.string p))(Q:Exit→Act→World→Prop)
 (C:∀g w',aE (fun i=>rg 10 19 i) a g→At g 19 (.bool (decide (64<s.size) || !g8 QT p))→Below w.heap.size w w'→Q .normal g w'):
 (ay Tryz.f122 [1,1,0,0]).wp Tryz.prog Q a w:=by
 have x:=hh (xS (s:=p) (fun w' H=>(q w' H).QT) (q w (Below.refl _ _)).space (wI (q w (Below.refl _ _)).white));clear q
 conv=>arg 2;whnf
 refine Code.wp_only (R:=fun g w'=>aE (fun i=>rg 10 19 i) a g∧At g 19 (.bool (decide (64<s.size) || !g8 QT p))∧Below w.heap.size w w') ?_ (fun E U h=>C E U h.1 h.2.1 h.2.2);clear C;have O:=aU;obtain⟨l,D⟩:∃l,l=g8 QT p:=⟨_,rfl⟩;rw[←D]at x⊢;clear D
 by_cases b1:64<s.size
 ·have u:Hid ((decide (64<s.size) || !l)=true):=hh (by simp[b1])
  have y:(64:Int)<(s.size:Int):=χ
  clear x;obtain⟨T,d⟩:=a;refine rl ?_
  iterate 10 with_reducible refine st ?_
  with_reducible refine ln ?_
  refine⟨rfl,?_,?_,Below.refl _ _⟩
  ·exact ag
  ·rw[u.out]
   exact aq
 ·have u:Hid ((decide (64<s.size) || !l)=!l):=hh (by simp[b1])
  have y:¬ (64:Int)<(s.size:Int):=χ
  have J:0<n:=I;have L:(0:Int)<(n:Int):=χ
  obtain⟨T,d⟩:=a;refine rl ?_
  iterate 7 with_reducible refine st ?_
  with_reducible refine Lz (fun K B=>?_)
  go_simp;refine x.out.mono ?_;rintro e Y ⟨rfl,j⟩;have v:=hh j;clear j;with_reducible refine B _ _ ?_;clear B K
  iterate 2 with_reducible refine st ?_
  with_reducible refine ln ?_
  refine⟨rfl,?_,?_,v.out⟩
  ·exact ag
  ·rw[u.out]
   exact aq
theorem uI(hS:∀w',Below w.heap.size w w'→jT QT w')(hs:s.size<4294967281)(al:∀p∈dL s,p.size≤281474976710656):
 Calls Tryz.prog 122 #[.string s] w fun e w'=>e=.returned (.bool (ci QT s))∧Below w.heap.size w w':=by
 obtain⟨m6,h6⟩:=(hS w (Below.refl _ _)).max;obtain⟨p0,l,bs⟩:∃p0 l,dL s=p0::l:=by
  cases h:dL s with
  | nil=>have:=lW s;rw[h]at this;simp at this
  | cons a b=>exact⟨a,b,rfl⟩
 have cm:l.length≤4294967296:=by have h1:=lW s;rw[bs,List.length_cons]at h1;have:=countB_le dot ψ s.size s (Nat.le_refl _);omega
 refine bK Tryz.func122 Tryz.ntmps122 rfl ξ fun a cj ca E=>?_
 have h0:At a 0 (.string s):=E 0 _ rfl;clear E
 conv=>arg 2;whnf
 refine so (fun a1 D=>aE (fun i=>i==2) a a1∧D=w) ?_ ?_
 ·obtain⟨T,d⟩:=a
  refine rl ?_;with_reducible refine st ?_;refine ln ?_
  refine⟨rfl,?_,rfl⟩;exact ag
 rintro a1 D ⟨V,rfl⟩;have af:=V.size.trans cj;have j0:=V.Q7 h0 rfl;refine wp_seq (ru hs h6 a1 af j0 _ (fun a2 W k3=>?_));rw[bs]at k3 al⊢;obtain⟨v,N⟩:∃x,x=D.alloc (.cells ((p0::l).map Value.string).toArray 9):=⟨_,rfl⟩;rw[←N];have hk:Kz D v:=by rw[N];exact(aD.refl _ _).alloc _
 have ac:Below D.heap.size D v:=hk.below (Nat.le_refl _) (fun _ _ h=>h);have y:∀j p,(p0::l)[j]?=some p→v.cell? ⟨D.heap.size,j,none⟩=some (.string p):=fun j p hj=>by
  have cc:v.heap[D.heap.size]?=some (.cells ((p0::l).map Value.string).toArray 9):=by rw[N];exact Array.getElem?_push_size
  rw[cell_of_row _ _ _ _ _ _ cc,List.getElem?_toArray,List.getElem?_map,hj];rfl
 have bw:D.heap.size<v.heap.size:=by rw[N];simp
 obtain⟨Z,hZ⟩:∃z,z=D.heap.size:=⟨_,rfl⟩;rw[←hZ]at k3 y bw;clear hZ;have bm:∀w',Below v.heap.size v w'→jT QT w':=fun w' hb=>hS w' (ac.trans (hb.mono hk.size))
 have K:=W.size.trans af;have j0:=W.Q7 j0 rfl;refine wp_seq (wp_seq (uK bm a2 K j0 ξ k3 (y 0 p0 rfl) _ (fun a3 w3 X b1 bo=>?_)));have I:a3.defers=[]:=X.defers.trans (W.defers.trans (V.defers.trans ca));have an:=X.size.trans K;have be:=b1.eval χ;obtain⟨b,hb⟩:∃b,b=(decide (64<s.size) || !g8 QT p0):=⟨_,rfl⟩;rw[←hb]at be;have bd:Hid (ci QT s=(!b&&l.all cX)):=hh (by unfold ci;rw[bs,hb];rfl);have b5:Below D.heap.size D w3:=ac.trans (bo.mono hk.size);clear hb b1 N
 cases b
 rotate_left
 ·refine wp_cond_true be ?_
  refine so (fun O w4=>At O 2 (.bool false)∧O.tmps.size=41∧O.defers=[]∧w4=w3) ?_ ?_
  ·obtain⟨T,d⟩:=a3
   refine rl ?_;with_reducible refine st ?_;refine ln ?_
   refine⟨rfl,?_,by simpa using an,I,rfl⟩;exact aq
  rintro O w4 ⟨k2,cf,b6,rfl⟩;refine wp_ret ?_
  repeat with_reducible apply ba
  exact bk (t:=2) rfl k2 (by rw[cf];decide) b6 ⟨by rw[bd.out];rfl,b5⟩
 refine wp_cond_false be (wp_skip ?_)
 repeat with_reducible apply bJ
 have k3:=X.Q7 k3 rfl;have cw:Z<w3.heap.size:=Nat.lt_of_lt_of_le bw bo.size;have q:∀w4,Below v.heap.size v w4→∀j p,l[j]?=some p→w4.cell? ⟨Z,1+j,none⟩=some (.string p):=fun w4 hb j p hj=>(hb.cell (p:=⟨Z,1+j,none⟩) bw).trans (y (1+j) p (by rw[Nat.add_comm];simpa using hj))
 clear X W V y h6;refine wp_seq (wp_seq (Code.wp_only (R:=fun O w4=>aE (fun i=>i==20||i==21||i==22||i==23) a3 O∧(∃o,At O 21 (.slice (some ⟨Z,o,none⟩) l.length l.length)∧(0<l.length→o=1))∧At O 22 (.int .i64 l.length)∧At O 23 (.int .i64 0)∧w4=w3) ?_ ?_))
 ·obtain⟨n,hn⟩:∃n,n=l.length:=⟨_,rfl⟩
  rw[←hn]at cm⊢;rw[List.length_cons,←hn]at k3;have cy:(1:Int)≤(n:Int)+1:=χ
  clear hn q;obtain⟨T,d⟩:=a3;refine rl ?_
  iterate 4 with_reducible refine st ?_
  with_reducible refine ln ?_
  refine⟨rfl,?_,⟨if n=0 then 0 else 1,?_,fun h=>if_neg χ⟩,?_,?_,rfl⟩
  ·exact ag
  ·have e:(Value.slice (if n=0 then some ⟨Z,0,none⟩else some ⟨Z,1,none⟩) n n)=.slice (some ⟨Z,if n=0 then 0 else 1,none⟩) n n:=by split<;>rfl
   rw[←e];exact At.ne (At.ne At.self ψ) ψ
  ·(repeat (first|with_reducible exact At.self|with_reducible apply At.ne));all_goals first|decide|exact At.self
  ·(repeat (first|with_reducible exact At.self|with_reducible apply At.ne));all_goals first|decide|exact At.self
 rintro O w4 ⟨bf,⟨o,cp,ho⟩,cs,cu,rfl⟩;have a0:=bf.size.trans an;refine bU l.length (fun i=>i==5||i==6||i==7||(rg 23 40 i)) (fun i=>i==5||i==6||i==7||(rg 25 39 i)) (fun k a' w'=>(l.take k).all cX=true∧Below v.heap.size v w') χ cu cs ψ rfl
  ζ χ ψ (fun k a1 a2 w hA hI=>hI) ⟨rfl,bo⟩ ?_ ?_
 ·rintro k a5 w5 cb B c3 ⟨g,C⟩
  obtain rfl:o=1:=ho χ;obtain⟨p,hp⟩:=ge cb;have q0:=q w5 C k p hp;have c4:=B.Q7 cp rfl;have L:=B.size.trans a0;have J:a5.defers=[]:=B.defers.trans (bf.defers.trans I);have cx:(k:Int)<(l.length:Int):=χ
  have cd:=al p (List.mem_cons_of_mem _ (List.mem_of_getElem? hp));have HP:=hh hp;have bx:=hh g;clear hp g q;refine so (fun a6 w6=>aE (fun i=>i==5||i==25||i==26) a5 a6∧At a6 5 (.string p)∧w6=w5) ?_ ?_
  ·obtain⟨T,d⟩:=a5
   refine rl ?_
   iterate 3 with_reducible refine st ?_
   with_reducible refine ln ?_
   refine⟨rfl,ag,aq,rfl⟩
  rintro a6 w6 ⟨bg,b2,rfl⟩;have bb:=bg.size.trans L;refine wp_seq (rx (bm _ C) cd a6 bb b2 _ (fun a7 w7 u er Y k6 k7 hu hc b3=>?_));have H:Below v.heap.size v w7:=C.trans (b3.mono C.size);have bc:=Y.size.trans bb;refine wp_seq (uJ (bm _ H) a7 bc (Y.Q7 b2 rfl) k6 k7 hu hc _ (fun a8 w8 bl cv b4=>?_));have ad:Below v.heap.size v w8:=H.trans (b4.mono H.size);have b0:=bl.size.trans bc;have bz:a8.defers=[]:=bl.defers.trans (Y.defers.trans (bg.defers.trans J));have U:=cv.eval χ
  cases hnu:cX p with
  | true =>
   rw[hnu]at U;refine wp_cond_false U (wp_skip ?_);refine⟨((bg.m).t Y).t bl,?_,ad⟩;rw[aO HP.out,List.all_append,bx.out];simp[hnu]
  | false =>
   rw[hnu]at U;refine wp_cond_true U ?_;refine so (fun Q w9=>At Q 2 (.bool false)∧Q.tmps.size=41∧Q.defers=[]∧w9=w8) ?_ ?_
   ·clear hnu
    obtain⟨T,d⟩:=a8;refine rl ?_;with_reducible refine st ?_;refine ln ?_
    refine⟨rfl,?_,by simpa using b0,bz,rfl⟩;exact aq
   rintro Q w9 ⟨k2,bt,bp,rfl⟩;refine wp_ret ?_
   repeat (first|with_reducible apply bY|with_reducible apply ba)
   refine bk (t:=2) rfl k2 (by rw[bt];decide) bp ⟨?_,ac.trans (ad.mono hk.size)⟩;have e:l.all cX=false:=by
    rw[Bool.eq_false_iff];intro h;have:=List.all_eq_true.1 h p (List.mem_of_getElem? HP.out);rw[hnu]at this
    cases this
   rw[bd.out,e];rfl
 ·rintro a5 w5 B ⟨g,C⟩
  rw[List.take_length]at g;have L:=B.size.trans a0;have J:a5.defers=[]:=B.defers.trans (bf.defers.trans I)
  repeat with_reducible apply bJ
  refine so (fun Q w9=>At Q 2 (.bool true)∧Q.tmps.size=41∧Q.defers=[]∧w9=w5) ?_ ?_
  ·obtain⟨T,d⟩:=a5
   refine rl ?_;with_reducible refine st ?_;refine ln ?_
   refine⟨rfl,?_,by simpa using L,J,rfl⟩;exact aq
  rintro Q w9 ⟨k2,bt,bp,rfl⟩;refine wp_ret ?_;exact bk (t:=2) rfl k2 (by rw[bt];decide) bp ⟨by rw[bd.out,g];rfl,ac.trans (C.mono hk.size)⟩
theorem ng(g:ByteArray)(d:Nat):∀(k:Nat) (s:ByteArray),∀p∈splitB g d k s,p.size≤s.size
 | 0,s,p,h=>by
  have:p=s:=by simpa[splitB]using h
  rw[this];exact Nat.le_refl _
 | k+1,s,p,h=>by
  unfold splitB at h;split at h
  ·have:p=s:=by simpa using h
   rw[this];exact Nat.le_refl _
  ·rcases List.mem_cons.1 h with h|h
   ·rw[h,ByteArray.size_extract];omega
   ·have:=ng g d k _ p h
    rw[ByteArray.size_extract]at this;omega
theorem np{B:Nat}:fL B (ci gK):=by
 have j:∀w,fH B w→jT gK w:=fun w h=>h.scan w (Below.refl _ _)
 intro w s g d u;unfold aW at u;refine(uI (QT:=gK) (fun w' l=>j w' (g.below (l.mono d))) χ (fun p q=>?_)).mono fun e w' h=>⟨h.1,aD.of_below h.2 (fun i v x=>χ)⟩
 have:=ng dot 0 _ s p q;omega
end Go.Proofs.YthobcefghkeddaaGreatDoor
namespace Go.Proofs.YthobcefghkeddaaGreatDoor.Ck
variable {sz:Nat} {st:List iQ}
theorem CG(q:Nat):dQ (smP sz st) q↔65536≤q∧q<106496:=by
 unfold dQ rng;constructor
 ·rintro⟨r,h,d,g,j⟩
  obtain rfl:=List.mem_singleton.1 h;exact⟨d,g⟩
 ·exact fun⟨d,g⟩=>⟨_,List.mem_singleton.2 rfl,d,g,χ⟩
theorem jY(q:Nat):bR (smP sz st) q↔77824≤q∧q<106496:=by
 unfold bR;rw[CG];constructor
 ·rintro⟨⟨g,h⟩,j⟩
  have:=j smB (List.mem_cons_of_mem _ (List.mem_singleton.2 rfl)) rfl;unfold rng at this;have:¬ (65536≤q∧q<65536+12288∧q<4294967296):=this;omega
 ·rintro⟨g,h⟩
  refine⟨χ,fun x d l=>?_⟩
  rcases List.mem_cons.1 d with rfl|d
  ·cases l
  ·obtain rfl:=List.mem_singleton.1 d
   unfold rng;show ¬ (65536≤q∧q<65536+12288∧_);omega
theorem yV:fA (smP 8192 st) 1=(some ⟨[77824,65536],86016,1⟩, -1,0):=by
 have j:fit (bR (smP 8192 st)) 8192 4096=some 77824:=fY.2 ⟨ψ,⟨⟨19,rfl⟩,fun q g d=>(jY q).2 χ⟩,fun q u ⟨_,h⟩=>by
  have:=(jY q).1 (h q (Nat.le_refl _) χ);omega⟩
 have l:fit (off (bR (smP 8192 st)) 77824 8192) (1*4096) 4096=some 86016:=fY.2 ⟨ψ,⟨⟨21,rfl⟩,fun q g d=>⟨(jY q).2 χ,by unfold rng;omega⟩⟩,fun q u ⟨_,h⟩=>by
  have h:=h q (Nat.le_refl _) χ;have g:=(jY q).1 h.1;have d:=h.2;unfold rng at d;omega⟩
 have h:fD (bR (smP 8192 st)) [] (smP 8192 st).Q3=.inr ([77824,65536],off (bR (smP 8192 st)) 77824 8192):=by
  show fD _ [] [smA 8192,smB]=_;rw[fD,if_neg ψ];show(match fit (bR (smP 8192 st)) 8192 4096 with|some p=>fD (off (bR (smP 8192 st)) p 8192) ([]++[p]) [smB]|none =>.inl 0)=_;rw[j];rfl
 unfold fA;rw[h];show(match fit (off (bR (smP 8192 st)) 77824 8192) (1*4096) 4096 with|none=>((none:Option Lay),(-1:Int),(110:Int))|some p=>(some (⟨[77824,65536],p,1⟩:Lay), -1,0))=_;rw[l]
theorem Ai(pg:Nat):fA (smP 32768 st) pg=(none,0,110):=by
 have d:fit (bR (smP 32768 st)) 32768 4096=none:=oN.2 (.inr fun p ⟨_,h⟩=>by
  have g:=(jY p).1 (h p (Nat.le_refl _) χ);have j:=(jY _).1 (h (p+32767) χ χ);omega)
 have h:fD (bR (smP 32768 st)) [] (smP 32768 st).Q3=.inl 0:=by
  show fD _ [] [smA 32768,smB]=_;rw[fD,if_neg ψ];show(match fit (bR (smP 32768 st)) 32768 4096 with|some p=>fD (off (bR (smP 32768 st)) p 32768) ([]++[p]) [smB]|none =>.inl 0)=_;rw[d]
 unfold fA;rw[h];rfl
theorem nR(h:lR (smP sz st) (smA sz)=[]):fS (smP sz st)=[]:=by
 have j:eT [⟨0,65536,40960⟩] 65536 (ck 65536 12288)=true:=by
  unfold eT;simp only[decide_eq_true_eq];intro p g d;exact⟨_,List.mem_singleton.2 rfl,g,Nat.le_trans d ψ⟩
 have l:kN (smP sz st) smB=[]:=by
  unfold kN;rw[if_pos (show smB.fixed=true from rfl)];show say (_||(_&&eT [⟨0,65536,40960⟩] 65536 (ck 65536 12288))) _ _=[];rw[j];rfl
 have d:lR (smP sz st) smB=[]:=by
  unfold lR;rw[l];rfl
 show(lR (smP sz st) (smA sz)++(lR (smP sz st) smB++[]))++dS 3 (smP sz st).fixed=[];rw[h,d];rfl
theorem nQ:jV (ci gK) aZ (smP 8192 smQ):=by
 intro g d;simp only[dE,List.mem_cons,List.mem_nil_iff,or_false]at d
 rcases d with rfl|rfl|rfl|rfl|rfl|rfl|rfl|rfl
 ·show jF (ci gK) (smP 8192 smQ)=[];kernel_rfl
 ·show fG (smP 8192 smQ)=[];kernel_rfl
 ·show t8 (smP 8192 smQ)=[];kernel_rfl
 ·exact nR δ
 ·show jr (smP 8192 smQ)=[];kernel_rfl
 ·show rK (smP 8192 smQ)=[];kernel_rfl
 ·show i6 (fun M y=>(aZ M y).2) (smP 8192 smQ)=[];kernel_rfl
 ·show kK aZ (smP 8192 smQ)=[];kernel_rfl
theorem wZ:jV (ci gK) aZ (smP 32768 smQ):=by
 intro g d;simp only[dE,List.mem_cons,List.mem_nil_iff,or_false]at d
 rcases d with rfl|rfl|rfl|rfl|rfl|rfl|rfl|rfl
 ·show jF (ci gK) (smP 32768 smQ)=[];kernel_rfl
 ·show fG (smP 32768 smQ)=[];kernel_rfl
 ·show t8 (smP 32768 smQ)=[];kernel_rfl
 ·exact nR δ
 ·show jr (smP 32768 smQ)=[];kernel_rfl
 ·show rK (smP 32768 smQ)=[];kernel_rfl
 ·show i6 (fun M y=>(aZ M y).2) (smP 32768 smQ)=[];kernel_rfl
 ·show kK aZ (smP 32768 smQ)=[];kernel_rfl
theorem rW(sz:Nat):pages aZ (smP sz st)=1:=δ
theorem rV:¬ jV (ci gK) aZ (smP 32768 []):=fun h=>by
 have:=h (i6 (fun M y=>(aZ M y).2) (smP 32768 []),eI) (by simp[dE])
 cases this
