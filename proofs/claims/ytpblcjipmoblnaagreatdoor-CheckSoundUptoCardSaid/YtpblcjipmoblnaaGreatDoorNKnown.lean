import Derived.Test.YtpblcjipmoblnaaGreatDoorNums
import Derived.Test.YtpblcjipmoblnaaGreatDoorNamedS
import Derived.Test.YtpblcjipmoblnaaGreatDoorCheckB
set_option maxRecDepth 100000
set_option linter.all false
set_option maxHeartbeats 4000000
namespace Go.Proofs.YtpblcjipmoblnaaGreatDoor
open Go.RowKit Ck
theorem g2:fq fT=[]:=δ
theorem g3:sY fT=[]:=δ
theorem g4:fS fT=[]:=δ
theorem g5:kP fT=[]:=δ
theorem g6:rD fT=[]:=δ
theorem g7:jS (fun M y=>(ax M y).2) fT=[]:=δ
theorem pg0:pages ax fT=4:=δ
theorem g8:lq ax fT=[]:=δ
theorem tb0:bY fT [⟨4,bs [114],4096,true,false⟩]=3:=δ
theorem g1:jU (fj kn) fT=[]:=δ
theorem tA{a x:Int}(h:jm (dF (fj kn) ax fT) a x):a=0∧x=0:=by
 unfold dF at h;rw[g1,g2,g3,g4,g5,g6,g7,g8]at h
 simpa[jm]using h
theorem z1:jU (fj kn) me=[]:=δ
theorem z2:fq me=[]:=δ
theorem z3:sY me=[]:=δ
theorem z4:fS me=[]:=δ
theorem z5:kP me=[]:=δ
theorem z6:rD me=[]:=δ
theorem z7:jS (fun M y=>(ax M y).2) me=[(3,0)]:=δ
theorem sw{a x:Int}(h:jm (dF (fj kn) ax me) a x):a=3∧x=107:=by
 unfold dF at h;rw[z1,z2,z3,z4,z5,z6,z7]at h;simp only[jm]at h
 rcases h with⟨_,h⟩|⟨r,h,_⟩
 rcases h with⟨_,h⟩|⟨r,h,_⟩
 rcases h with⟨_,h⟩|⟨r,h,_⟩
 rcases h with⟨_,h⟩|⟨r,h,_⟩
 rcases h with⟨_,h⟩|⟨r,h,_⟩
 rcases h with⟨_,h⟩|⟨r,h,_⟩
 rcases h with⟨h,_⟩|⟨r,h,_,d⟩
 ·cases h
 ·simp only[List.mem_singleton,Prod.mk.injEq]at h
  obtain⟨rfl,rfl⟩:=h;exact⟨rfl,d⟩
 all_goals cases h
open Go.IntWalk
variable {w w':World} {z:Nat}
theorem jI.mono{B B':Nat}(h:jI B w)(d:B≤B'):jI B' w:=⟨by have:=h.pos;omega,h.err,fun w' g=>h.scan w' (g.mono d)⟩
theorem aD.below0(h:Kz w w'){B:Nat}(d:B≤w.heap.size):Below B w w':=h.below d (fun _ _ e=>e)
def Cc:Ck.Map:=⟨4,bs [114],4096,true,false⟩
def kz(w:World)(z:Nat):Prop:=z+9≤w.heap.size∧∀i o,(jx z)[i]?=some o→w.heap[z+i]?=some o
theorem kz.keep(h:kz w z)(hk:Kz w w'):kz w' z:=
 ⟨Nat.le_trans h.1 hk.size,fun i o d=>(hk.block _ (aG (h.2 i o d)) (fun e=>e)).trans (h.2 i o d)⟩
def xD(i:Nat):Nat:=if i=29 then 0 else i+15
def ZAt(a:Act)(w:World)(s:Nat)(v:Nat→Value):Prop:=∃z,At a s (v z)∧kz w z
def vH(i:Nat)(a:Act)(w:World):Prop:=match i with
 | 0=>At a 15 (.int .i64 0)
 | 1=>At a 16 (.bool true)
 | 2=>At a 17 (.bool true)
 | 3=>At a 18 (.int .i64 0)
 | 4=>At a 19 (.bool true)
 | 5=>At a 20 (.bool true)
 | 6=>At a 21 (.bool true)
 | 7=>At a 22 (.int .i64 3)
 | 8=>At a 23 (.bool true)
 | 9=>At a 24 (.bool true)
 | 10=>At a 25 (.bool true)
 | 11=>At a 26 (.int .i64 107)
 | 12=>At a 27 (.bool true)
 | 13=>At a 28 (.bool true)
 | 14=>At a 29 (.bool true)
 | 15=>ZAt a w 30 (fun z =>.agg ((v0 z).cells fT).toArray)
 | 16=>At a 31 (.int .i64 4)
 | 17=>At a 32 (.bool true)
 | 18=>At a 33 (.bool true)
 | 19=>At a 34 (.bool true)
 | 20=>ZAt a w 35 (fun z =>.agg ((v0 z).cells fT).toArray)
 | 21=>ZAt a w 36 (fun z =>.slice (some ⟨z+1+1+1+1,0,none⟩) 1 1)
 | 22=>ZAt a w 37 (fun z =>.pointer (some ⟨z+1+1+1+1,0,none⟩))
 | 23=>ZAt a w 38 (fun z =>.pointer (some ⟨z+1+1+1+1,4,none⟩))
 | 24=>ZAt a w 39 (fun z =>.slice (some ⟨z+1+1+1,0,none⟩) 1 1)
 | 25=>ZAt a w 40 (fun z =>.agg ((v0 z).cells fT).toArray)
 | 26=>At a 41 (.int .i64 3)
 | 27=>At a 42 (.bool true)
 | 28=>At a 43 (.bool true)
 | 29=>At a 0 (.bool true)
 | _=>True
theorem wv{T:Array Value}{d:List Deferred}{w w':World}{s:Nat}{v:Value}:∀{j:Nat},vH j ⟨T,d⟩ w→s≠xD j→Kz w w'→vH j ⟨T.setIfInBounds s v,d⟩ w'
 | 0,h,hs,_=>At.ne h hs
 | 1,h,hs,_=>At.ne h hs
 | 2,h,hs,_=>At.ne h hs
 | 3,h,hs,_=>At.ne h hs
 | 4,h,hs,_=>At.ne h hs
 | 5,h,hs,_=>At.ne h hs
 | 6,h,hs,_=>At.ne h hs
 | 7,h,hs,_=>At.ne h hs
 | 8,h,hs,_=>At.ne h hs
 | 9,h,hs,_=>At.ne h hs
 | 10,h,hs,_=>At.ne h hs
 | 11,h,hs,_=>At.ne h hs
 | 12,h,hs,_=>At.ne h hs
 | 13,h,hs,_=>At.ne h hs
 | 14,h,hs,_=>At.ne h hs
 | 15,⟨z,h,hz⟩,hs,hk=>⟨z,At.ne h hs,hz.keep hk⟩
 | 16,h,hs,_=>At.ne h hs
 | 17,h,hs,_=>At.ne h hs
 | 18,h,hs,_=>At.ne h hs
 | 19,h,hs,_=>At.ne h hs
 | 20,⟨z,h,hz⟩,hs,hk=>⟨z,At.ne h hs,hz.keep hk⟩
 | 21,⟨z,h,hz⟩,hs,hk=>⟨z,At.ne h hs,hz.keep hk⟩
 | 22,⟨z,h,hz⟩,hs,hk=>⟨z,At.ne h hs,hz.keep hk⟩
 | 23,⟨z,h,hz⟩,hs,hk=>⟨z,At.ne h hs,hz.keep hk⟩
 | 24,⟨z,h,hz⟩,hs,hk=>⟨z,At.ne h hs,hz.keep hk⟩
 | 25,⟨z,h,hz⟩,hs,hk=>⟨z,At.ne h hs,hz.keep hk⟩
 | 26,h,hs,_=>At.ne h hs
 | 27,h,hs,_=>At.ne h hs
 | 28,h,hs,_=>At.ne h hs
 | 29,h,hs,_=>At.ne h hs
 | _+30,_,_,_=>trivial
def wsK(i:Nat):Bool:=i==0||(rg 15 43 i)
structure BP (a:Act) (w:World) (L:Nat→Bool) (a':Act) (w':World):Prop where
 agree:aA wsK a a'
 keep:Kz w w'
 fact:∀j,j<30→L j=true→vH j a' w'
theorem zl{i:Nat}(h:i<30):wsK (xD i)=true:=by
 unfold wsK xD;split
 ·rfl
 ·simp;omega
theorem BP.put{a:Act}{L:Nat→Bool}{T:Array Value}{d:List Deferred}{g:World}(i:Nat){v:Value}(h:BP a w L ⟨T,d⟩ w')(r:i<30)(hk:Kz w' g)(q:vH i ⟨T.setIfInBounds (xD i) v,d⟩ g):
 BP a w (fun j=>j==i||L j) ⟨T.setIfInBounds (xD i) v,d⟩ g:=by
 refine⟨h.agree.set (zl r) v,h.keep.trans hk (fun _ _ e=>e),fun j u p=>?_⟩
 by_cases e:j=i
 ·rw[e];exact q
 ·have l:L j=true:=by simpa[e]using p
  exact wv (h.fact j u l) (by unfold xD;split<;>split<;>omega) hk
theorem mG{w:World}:Calls Tryz.prog 33 #[] w fun e w'=>∃z,e=.returned (.agg ((v0 z).cells fT).toArray)∧kz w' z∧Kz w w':=
 (pv w).mono fun e w' ⟨z,d,_,g,h,j⟩=>⟨z,d,⟨g,h⟩,j⟩
theorem CN(h:kz w z):Calls Tryz.prog 22 #[.agg ((v0 z).cells fT).toArray] w fun e w'=>e=.returned (.int .i64 4)∧Kz w w':=
 (Rs.lh (ni (B:=w.heap.size) h.2 h.1) (Nat.le_refl _)).mono fun e w' hh=>⟨by rw[hh.1,pg0];rfl,hh.2⟩
theorem CM{y:Nat}(h:kz w z)(d:kz w y):Calls Tryz.prog 34 #[.slice (some ⟨y+1+1+1,0,none⟩) 1 1,.agg ((v0 z).cells fT).toArray] w fun e w'=>e=.returned (.int .i64 3)∧Kz w w':=
 (rI (l:=[Cc]) (ni (B:=w.heap.size) h.2 h.1) (Nat.le_refl _) (db (b:=y+1+1+1) (by have:=d.1;omega) ⟨dT (d.2 3 _ rfl),by simp[Cc,Ck.Map.Ok,dU,aX,bs,lim,ByteArray.size]⟩)).mono
  fun e w' hh=>⟨by rw[hh.1];exact congrArg (fun n:Nat=>Ending.returned (.int .i64 (n:Int))) tb0,hh.2⟩
theorem qe(a:Act)(bf:a.tmps.size=44)(h1:At a 1 (.int .i64 0))(h2:At a 2 (.int .i64 0))(h3:At a 3 (.int .i64 3))(h4:At a 4 (.int .i64 107))(Q:Exit→Act→World→Prop)
 (hQ:∀l w',aA wsK a l→At l 0 (.bool true)→Kz w w'→Q .normal l w'):(bE Tryz.f8 [1,1,1,0]).wp Tryz.prog Q a w:=by
 have HQ:=hh hQ;clear hQ
 conv=>arg 2;whnf
 refine kL (BP a w) δ δ ⟨aA.refl _ _,(aD.refl _ _).drew,fun j _ h=>by cases h⟩ ?_ ?_
 ·rintro L l w' i op g q y u K x
  have B:=g.agree.Q7 h1 rfl;have C:=g.agree.Q7 h2 rfl;have D:=g.agree.Q7 h3 rfl;have E:=g.agree.Q7 h4 rfl;have bt:=g.agree.size.trans bf;clear h1 h2 h3 h4 bf HQ;have A:i<30:=by
   have:=(List.getElem?_eq_some_iff.1 q).1
   simpa using this
  rcases(by omega:i=0∨i=1∨i=2∨i=3∨i=4∨i=5∨i=6∨i=7∨i=8∨i=9∨i=10∨i=11∨i=12∨i=13∨i=14∨i=15∨i=16∨i=17∨i=18∨i=19∨i=20∨i=21∨i=22∨i=23∨i=24∨i=25∨i=26∨i=27∨i=28∨i=29)with rfl|rfl|rfl|rfl|rfl|rfl|rfl|rfl|rfl|rfl|rfl|rfl|rfl|rfl|rfl|rfl|rfl|rfl|rfl|rfl|rfl|rfl|rfl|rfl|rfl|rfl|rfl|rfl|rfl|rfl
  ·obtain rfl:=Option.some.inj (q:some _=some op)
   clear q A y;clear u;clear C D E;have r:=hh g;clear g;obtain⟨T,d⟩:=l;go_simp;refine x _ _ ?_;exact r.out.put 0 ψ (aD.refl _ _) At.self
  ·obtain rfl:=Option.some.inj (q:some _=some op)
   clear q A y;have p:L 0=true:=by have:=u;simp[Region.binds]at this;simp[this]
   have d0:=p;clear u;have c0:At l 15 (.int .i64 0):=g.fact 0 ψ d0;clear d0 p;clear B C D E;have r:=hh g;clear g;obtain⟨T,d⟩:=l;go_simp;refine x _ _ ?_;exact r.out.put 1 ψ (aD.refl _ _) At.self
  ·obtain rfl:=Option.some.inj (q:some _=some op)
   clear q A y;have p:L 1=true:=by have:=u;simp[Region.binds]at this;simp[this]
   have d1:=p;clear u;have c1:At l 16 (.bool true):=g.fact 1 ψ d1;clear d1 p;clear B C D E;have r:=hh g;clear g;obtain⟨T,d⟩:=l;go_simp;refine x _ _ ?_;exact r.out.put 2 ψ (aD.refl _ _) At.self
  ·obtain rfl:=Option.some.inj (q:some _=some op)
   clear q A y;have p:L 2=true:=by have:=u;simp[Region.binds]at this;simp[this]
   have O:=p;clear u;have c2:At l 17 (.bool true):=g.fact 2 ψ O;clear O p;clear B D E;have r:=hh g;clear g;obtain⟨T,d⟩:=l;go_simp;refine x _ _ ?_;exact r.out.put 3 ψ (aD.refl _ _) At.self
  ·obtain rfl:=Option.some.inj (q:some _=some op)
   clear q A y;have p:L 3=true∧L 2=true:=by have:=u;simp[Region.binds]at this;simp[this]
   obtain⟨d3,O⟩:=p;clear u;have c3:At l 18 (.int .i64 0):=g.fact 3 ψ d3;have c2:At l 17 (.bool true):=g.fact 2 ψ O;clear d3 O;clear B C D E;have r:=hh g;clear g;obtain⟨T,d⟩:=l;go_simp;refine x _ _ ?_;exact r.out.put 4 ψ (aD.refl _ _) At.self
  ·obtain rfl:=Option.some.inj (q:some _=some op)
   clear q A y;have p:L 2=true∧L 4=true:=by have:=u;simp[Region.binds]at this;simp[this]
   obtain⟨O,d4⟩:=p;clear u;have c2:At l 17 (.bool true):=g.fact 2 ψ O;have c4:At l 19 (.bool true):=g.fact 4 ψ d4;clear O d4;clear B C D E;have r:=hh g;clear g;obtain⟨T,d⟩:=l;go_simp;refine x _ _ ?_;exact r.out.put 5 ψ (aD.refl _ _) At.self
  ·obtain rfl:=Option.some.inj (q:some _=some op)
   clear q A y;have p:L 5=true∧L 2=true:=by have:=u;simp[Region.binds]at this;simp[this]
   obtain⟨d5,O⟩:=p;clear u;have c5:At l 20 (.bool true):=g.fact 5 ψ d5;have c2:At l 17 (.bool true):=g.fact 2 ψ O;clear d5 O;clear B C D E;have r:=hh g;clear g;obtain⟨T,d⟩:=l;go_simp;refine x _ _ ?_;exact r.out.put 6 ψ (aD.refl _ _) At.self
  ·obtain rfl:=Option.some.inj (q:some _=some op)
   clear q A y;have p:L 6=true:=by have:=u;simp[Region.binds]at this;simp[this]
   have S:=p;clear u;have c6:At l 21 (.bool true):=g.fact 6 ψ S;clear S p;clear B C E;have r:=hh g;clear g;obtain⟨T,d⟩:=l;go_simp;refine x _ _ ?_;exact r.out.put 7 ψ (aD.refl _ _) At.self
  ·obtain rfl:=Option.some.inj (q:some _=some op)
   clear q A y;have p:L 7=true∧L 6=true:=by have:=u;simp[Region.binds]at this;simp[this]
   obtain⟨d7,S⟩:=p;clear u;have c7:At l 22 (.int .i64 3):=g.fact 7 ψ d7;have c6:At l 21 (.bool true):=g.fact 6 ψ S;clear d7 S;clear B C D E;have r:=hh g;clear g;obtain⟨T,d⟩:=l;go_simp;refine x _ _ ?_;exact r.out.put 8 ψ (aD.refl _ _) At.self
  ·obtain rfl:=Option.some.inj (q:some _=some op)
   clear q A y;have p:L 6=true∧L 8=true:=by have:=u;simp[Region.binds]at this;simp[this]
   obtain⟨S,d8⟩:=p;clear u;have c6:At l 21 (.bool true):=g.fact 6 ψ S;have c8:At l 23 (.bool true):=g.fact 8 ψ d8;clear S d8;clear B C D E;have r:=hh g;clear g;obtain⟨T,d⟩:=l;go_simp;refine x _ _ ?_;exact r.out.put 9 ψ (aD.refl _ _) At.self
  ·obtain rfl:=Option.some.inj (q:some _=some op)
   clear q A y;have p:L 9=true∧L 6=true:=by have:=u;simp[Region.binds]at this;simp[this]
   obtain⟨d9,S⟩:=p;clear u;have c9:At l 24 (.bool true):=g.fact 9 ψ d9;have c6:At l 21 (.bool true):=g.fact 6 ψ S;clear d9 S;clear B C D E;have r:=hh g;clear g;obtain⟨T,d⟩:=l;go_simp;refine x _ _ ?_;exact r.out.put 10 ψ (aD.refl _ _) At.self
  ·obtain rfl:=Option.some.inj (q:some _=some op)
   clear q A y;have p:L 10=true:=by have:=u;simp[Region.binds]at this;simp[this]
   have H:=p;clear u;have V:At l 25 (.bool true):=g.fact 10 ψ H;clear H p;clear B C D;have r:=hh g;clear g;obtain⟨T,d⟩:=l;go_simp;refine x _ _ ?_;exact r.out.put 11 ψ (aD.refl _ _) At.self
  ·obtain rfl:=Option.some.inj (q:some _=some op)
   clear q A y;have p:L 11=true∧L 10=true:=by have:=u;simp[Region.binds]at this;simp[this]
   obtain⟨Y,H⟩:=p;clear u;have bw:At l 26 (.int .i64 107):=g.fact 11 ψ Y;have V:At l 25 (.bool true):=g.fact 10 ψ H;clear Y H;clear B C D E;have r:=hh g;clear g;obtain⟨T,d⟩:=l;go_simp;refine x _ _ ?_;exact r.out.put 12 ψ (aD.refl _ _) At.self
  ·obtain rfl:=Option.some.inj (q:some _=some op)
   clear q A y;have p:L 10=true∧L 12=true:=by have:=u;simp[Region.binds]at this;simp[this]
   obtain⟨H,Z⟩:=p;clear u;have V:At l 25 (.bool true):=g.fact 10 ψ H;have bx:At l 27 (.bool true):=g.fact 12 ψ Z;clear H Z;clear B C D E;have r:=hh g;clear g;obtain⟨T,d⟩:=l;go_simp;refine x _ _ ?_;exact r.out.put 13 ψ (aD.refl _ _) At.self
  ·obtain rfl:=Option.some.inj (q:some _=some op)
   clear q A y;have p:L 13=true∧L 10=true:=by have:=u;simp[Region.binds]at this;simp[this]
   obtain⟨ac,H⟩:=p;clear u;have bz:At l 28 (.bool true):=g.fact 13 ψ ac;have V:At l 25 (.bool true):=g.fact 10 ψ H;clear ac H;clear B C D E;have r:=hh g;clear g;obtain⟨T,d⟩:=l;go_simp;refine x _ _ ?_;exact r.out.put 14 ψ (aD.refl _ _) At.self
  ·obtain rfl:=Option.some.inj (q:some _=some op)
   clear q A y;have p:L 14=true:=by have:=u;simp[Region.binds]at this;simp[this]
   have I:=p;clear u;have W:At l 29 (.bool true):=g.fact 14 ψ I;clear I p;clear B C D E;have HC:=hh (fun w:World=>@mG w);have r:=hh g;clear g;obtain⟨T,d⟩:=l;go_simp;refine mG.mono ?_;rintro e w2 ⟨z,rfl,hz,hk⟩;refine x _ _ ?_;exact r.out.put 15 ψ hk ⟨z,At.self,hz⟩
  ·obtain rfl:=Option.some.inj (q:some _=some op)
   clear q A y;have p:L 15=true∧L 14=true:=by have:=u;simp[Region.binds]at this;simp[this]
   obtain⟨ad,I⟩:=p;clear u;obtain⟨cl,b0,a9⟩:ZAt l w' 30 (fun z =>.agg ((v0 z).cells fT).toArray):=g.fact 15 ψ ad;have E15:=hh a9;have W:At l 29 (.bool true):=g.fact 14 ψ I;clear a9;clear ad I;clear B C D E;have r:=hh g;clear g;obtain⟨T,d⟩:=l;go_simp;refine(CN E15.out).mono ?_;rintro e w2 ⟨rfl,hk⟩;refine x _ _ ?_;exact r.out.put 16 ψ hk At.self
  ·obtain rfl:=Option.some.inj (q:some _=some op)
   clear q A y;have p:L 16=true∧L 14=true:=by have:=u;simp[Region.binds]at this;simp[this]
   obtain⟨N,I⟩:=p;clear u;have bm:At l 31 (.int .i64 4):=g.fact 16 ψ N;have W:At l 29 (.bool true):=g.fact 14 ψ I;clear N I;clear B C D E;have r:=hh g;clear g;obtain⟨T,d⟩:=l;go_simp;refine x _ _ ?_;exact r.out.put 17 ψ (aD.refl _ _) At.self
  ·obtain rfl:=Option.some.inj (q:some _=some op)
   clear q A y;have p:L 14=true∧L 17=true:=by have:=u;simp[Region.binds]at this;simp[this]
   obtain⟨I,af⟩:=p;clear u;have W:At l 29 (.bool true):=g.fact 14 ψ I;have b1:At l 32 (.bool true):=g.fact 17 ψ af;clear I af;clear B C D E;have r:=hh g;clear g;obtain⟨T,d⟩:=l;go_simp;refine x _ _ ?_;exact r.out.put 18 ψ (aD.refl _ _) At.self
  ·obtain rfl:=Option.some.inj (q:some _=some op)
   clear q A y;have p:L 18=true∧L 16=true:=by have:=u;simp[Region.binds]at this;simp[this]
   obtain⟨a0,N⟩:=p;clear u;have b2:At l 33 (.bool true):=g.fact 18 ψ a0;have bm:At l 31 (.int .i64 4):=g.fact 16 ψ N;clear a0 N;clear B C D E;have r:=hh g;clear g;obtain⟨T,d⟩:=l;go_simp;refine x _ _ ?_;exact r.out.put 19 ψ (aD.refl _ _) At.self
  ·obtain rfl:=Option.some.inj (q:some _=some op)
   clear q A y;have p:L 19=true:=by have:=u;simp[Region.binds]at this;simp[this]
   have v:=p;clear u;have J:At l 34 (.bool true):=g.fact 19 ψ v;clear v p;clear B C D E;have HC:=hh (fun w:World=>@mG w);have r:=hh g;clear g;obtain⟨T,d⟩:=l;go_simp;refine mG.mono ?_;rintro e w2 ⟨z,rfl,hz,hk⟩;refine x _ _ ?_;exact r.out.put 20 ψ hk ⟨z,At.self,hz⟩
  ·obtain rfl:=Option.some.inj (q:some _=some op)
   clear q A y;have p:L 20=true∧L 19=true:=by have:=u;simp[Region.binds]at this;simp[this]
   obtain⟨R,v⟩:=p;clear u;obtain⟨bp,bo,U⟩:ZAt l w' 35 (fun z =>.agg ((v0 z).cells fT).toArray):=g.fact 20 ψ R;have E20:=hh U;have J:At l 34 (.bool true):=g.fact 19 ψ v;clear U;clear R v;clear B C D E;have r:=hh g;clear g;obtain⟨T,d⟩:=l;go_simp;refine x _ _ ?_;exact r.out.put 21 ψ (aD.refl _ _) ⟨_,At.self,E20.out⟩
  ·obtain rfl:=Option.some.inj (q:some _=some op)
   clear q A y;have p:L 21=true∧L 19=true:=by have:=u;simp[Region.binds]at this;simp[this]
   obtain⟨a1,v⟩:=p;clear u;obtain⟨cm,b3,ba⟩:ZAt l w' 36 (fun z =>.slice (some ⟨z+1+1+1+1,0,none⟩) 1 1):=g.fact 21 ψ a1;have E21:=hh ba;have J:At l 34 (.bool true):=g.fact 19 ψ v;clear ba;clear a1 v;clear B C D E;have r:=hh g;clear g;obtain⟨T,d⟩:=l;go_simp;refine x _ _ ?_;exact r.out.put 22 ψ (aD.refl _ _) ⟨_,At.self,E21.out⟩
  ·obtain rfl:=Option.some.inj (q:some _=some op)
   clear q A y;have p:L 22=true∧L 19=true:=by have:=u;simp[Region.binds]at this;simp[this]
   obtain⟨a2,v⟩:=p;clear u;obtain⟨cp,b4,bb⟩:ZAt l w' 37 (fun z =>.pointer (some ⟨z+1+1+1+1,0,none⟩)):=g.fact 22 ψ a2;have E22:=hh bb;have J:At l 34 (.bool true):=g.fact 19 ψ v;clear bb;clear a2 v;clear B C D E;have r:=hh g;clear g;obtain⟨T,d⟩:=l;go_simp;refine x _ _ ?_;exact r.out.put 23 ψ (aD.refl _ _) ⟨_,At.self,E22.out⟩
  ·obtain rfl:=Option.some.inj (q:some _=some op)
   clear q A y;have p:L 23=true∧L 19=true:=by have:=u;simp[Region.binds]at this;simp[this]
   obtain⟨a3,v⟩:=p;clear u;obtain⟨bl,b5,X⟩:ZAt l w' 38 (fun z =>.pointer (some ⟨z+1+1+1+1,4,none⟩)):=g.fact 23 ψ a3;have E23:=hh X;have J:At l 34 (.bool true):=g.fact 19 ψ v;have q4:w'.cell? ⟨bl+1+1+1+1,4,none⟩=some (.slice (some ⟨bl+1+1+1,0,none⟩) 1 1):=cr (X.2 4 _ rfl) rfl;clear X;clear a3 v;clear B C D E;have r:=hh g;clear g;obtain⟨T,d⟩:=l;go_simp;refine x _ _ ?_;exact r.out.put 24 ψ (aD.refl _ _) ⟨_,At.self,E23.out⟩
  ·obtain rfl:=Option.some.inj (q:some _=some op)
   clear q A y;have p:L 20=true∧L 19=true:=by have:=u;simp[Region.binds]at this;simp[this]
   obtain⟨R,v⟩:=p;clear u;obtain⟨bp,bo,U⟩:ZAt l w' 35 (fun z =>.agg ((v0 z).cells fT).toArray):=g.fact 20 ψ R;have E20:=hh U;have J:At l 34 (.bool true):=g.fact 19 ψ v;clear U;clear R v;clear B C D E;have HC:=hh (fun w:World=>@mG w);have r:=hh g;clear g;obtain⟨T,d⟩:=l;go_simp;refine mG.mono ?_;rintro e w2 ⟨z,rfl,hz,hk⟩;refine x _ _ ?_;exact r.out.put 25 ψ hk ⟨z,At.self,hz⟩
  ·obtain rfl:=Option.some.inj (q:some _=some op)
   clear q A y;have p:L 24=true∧L 25=true∧L 19=true:=by have:=u;simp[Region.binds]at this;simp[this]
   obtain⟨a4,a5,v⟩:=p;clear u;obtain⟨cs,cb,bc⟩:ZAt l w' 39 (fun z =>.slice (some ⟨z+1+1+1,0,none⟩) 1 1):=g.fact 24 ψ a4;have E24:=hh bc;obtain⟨cu,cc,bd⟩:ZAt l w' 40 (fun z =>.agg ((v0 z).cells fT).toArray):=g.fact 25 ψ a5;have E25:=hh bd;have J:At l 34 (.bool true):=g.fact 19 ψ v;clear bc bd;clear a4 a5 v;clear B C D E;have r:=hh g;clear g;obtain⟨T,d⟩:=l;go_simp;refine(CM E25.out E24.out).mono ?_;rintro e w2 ⟨rfl,hk⟩;refine x _ _ ?_;exact r.out.put 26 ψ hk At.self
  ·obtain rfl:=Option.some.inj (q:some _=some op)
   clear q A y;have p:L 26=true∧L 19=true:=by have:=u;simp[Region.binds]at this;simp[this]
   obtain⟨a6,v⟩:=p;clear u;have cd:At l 41 (.int .i64 3):=g.fact 26 ψ a6;have J:At l 34 (.bool true):=g.fact 19 ψ v;clear a6 v;clear B C D E;have r:=hh g;clear g;obtain⟨T,d⟩:=l;go_simp;refine x _ _ ?_;exact r.out.put 27 ψ (aD.refl _ _) At.self
  ·obtain rfl:=Option.some.inj (q:some _=some op)
   clear q A y;have p:L 19=true∧L 27=true:=by have:=u;simp[Region.binds]at this;simp[this]
   obtain⟨v,a7⟩:=p;clear u;have J:At l 34 (.bool true):=g.fact 19 ψ v;have cf:At l 42 (.bool true):=g.fact 27 ψ a7;clear v a7;clear B C D E;have r:=hh g;clear g;obtain⟨T,d⟩:=l;go_simp;refine x _ _ ?_;exact r.out.put 28 ψ (aD.refl _ _) At.self
  ·obtain rfl:=Option.some.inj (q:some _=some op)
   clear q A y;have a8:L 28=true:=by have:=u;simp[Region.binds]at this;exact this.1
   clear u;have ci:At l 43 (.bool true):=g.fact 28 ψ a8;clear a8;clear B C D E;have r:=hh g;clear g;obtain⟨T,d⟩:=l;go_simp;refine x _ _ ?_;exact r.out.put 29 ψ (aD.refl _ _) At.self
 ·rintro L l w' g be
  exact HQ.out l w' g.agree (g.fact 29 ψ (be 29 ψ)) g.keep
theorem tq(A:jI w.heap.size w):Calls Tryz.prog 8 #[] w fun e w'=>e=.returned (.bool true)∧Kz w w':=by
 go_enter Tryz.func8,Tryz.ntmps8
 go_wp2_with fail
 refine(pv w).mono ?_;rintro e E ⟨z,rfl,K,D,C,hk⟩;have p:jI w.heap.size E:=A.below (hk.below0 (Nat.le_refl _));have g:=hh p;have H:=hh (ni (B:=E.heap.size) C D);have q:=hh hk;clear A p C hk K D
 go_wp2_with fail
 refine(mF kb H.out (g.out.mono q.out.size) (Nat.le_refl _)).mono ?_;rintro e N ⟨⟨a,x,rfl,h⟩,j⟩;obtain⟨rfl,rfl⟩:=tA h;have d:=hh j;clear h j
 go_wp2_with fail
 refine(mF (v:=vZ) (P:=me) kb (AK _ _) ((g.out.below (d.out.below0 q.out.size)).mono (Nat.le_trans q.out.size d.out.size)) (Nat.le_refl _)).mono ?_;rintro e O ⟨⟨a,x,rfl,h⟩,l⟩;obtain⟨rfl,rfl⟩:=sw h;have r:=hh l;clear h l
 go_wp2_with fail
 refine qe _ rfl (fun _=>rfl) (fun _=>rfl) (fun _=>rfl) (fun _=>rfl) _ (fun I L y J u=>?_);refine ‹∀(a:Act) (w:World),Code.wp _ Code.ret _ a w→_› I L ?_;refine wp_ret ?_;refine bk rfl J (by rw[y.size];exact(show(0:Nat)<44 by decide)) y.defers ⟨rfl,((q.out.trans d.out (fun _ _ e=>e)).trans r.out (fun _ _ e=>e)).trans u (fun _ _ e=>e)⟩
