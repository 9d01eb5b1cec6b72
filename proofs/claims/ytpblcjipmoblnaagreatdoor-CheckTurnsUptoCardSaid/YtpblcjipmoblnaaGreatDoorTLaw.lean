import Derived.Test.YtpblcjipmoblnaaGreatDoorNums
import Derived.Test.YtpblcjipmoblnaaGreatDoorNamedS
import Derived.Test.YtpblcjipmoblnaaGreatDoorCheckB
import Derived.Test.YtpblcjipmoblnaaGreatDoorTurnL
set_option maxRecDepth 100000
set_option maxHeartbeats 4000000
set_option linter.unusedVariables false
set_option linter.unusedSimpArgs false
set_option linter.unnecessarySimpa false
namespace Go.Proofs.YtpblcjipmoblnaaGreatDoor
open Go.RowKit Ck
theorem g2:eU fJ=[]:=by kernel_rfl
theorem g3:nZ fJ=[]:=by kernel_rfl
theorem g4:eB fJ=[]:=by kernel_rfl
theorem g5:iV fJ=[]:=by kernel_rfl
theorem g6:nD fJ=[]:=by kernel_rfl
theorem g7:gK (fun M y=>(ay M y).2) fJ=[]:=by kernel_rfl
theorem pg0:ap ay fJ=4:=by kernel_rfl
theorem g8:jh ay fJ=[]:=by kernel_rfl
theorem tb0:bJ fJ [⟨4,bs [114],4096,true,false⟩]=3:=by kernel_rfl
theorem g1:gL (eD ib) fJ=[]:=by kernel_rfl
theorem rG{a x:Int}(h:fW (cM (eD ib) ay fJ) a x):a=0∧x=0:=by
 unfold cM at h;rw[g1,g2,g3,g4,g5,g6,g7,g8]at h
 simpa[fW]using h
theorem z1:gL (eD ib) lB=[]:=by kernel_rfl
theorem z2:eU lB=[]:=by kernel_rfl
theorem z3:nZ lB=[]:=by kernel_rfl
theorem z4:eB lB=[]:=by kernel_rfl
theorem z5:iV lB=[]:=by kernel_rfl
theorem z6:nD lB=[]:=by kernel_rfl
theorem z7:gK (fun M y=>(ay M y).2) lB=[(3,0)]:=by kernel_rfl
theorem rF{a x:Int}(h:fW (cM (eD ib) ay lB) a x):a=3∧x=107:=by
 unfold cM at h;rw[z1,z2,z3,z4,z5,z6,z7]at h;simp only[fW]at h
 rcases h with⟨_,h⟩|⟨r,h,_⟩
 rcases h with⟨_,h⟩|⟨r,h,_⟩
 rcases h with⟨_,h⟩|⟨r,h,_⟩
 rcases h with⟨_,h⟩|⟨r,h,_⟩
 rcases h with⟨_,h⟩|⟨r,h,_⟩
 rcases h with⟨_,h⟩|⟨r,h,_⟩
 rcases h with⟨h,_⟩|⟨r,h,_,b⟩
 ·cases h
 ·simp only[List.mem_singleton,Prod.mk.injEq]at h
  obtain⟨rfl,rfl⟩:=h;exact⟨rfl,b⟩
 all_goals cases h
open Go.IntWalk
variable {B z n0 zq:Nat} {w w' w0:World} {u:Value} {ts:List Int}
theorem gm.mono{B':Nat}(h:gm B w)(a:B≤B'):gm B' w:=⟨by have:=h.pos;omega,h.err,fun w' b=>h.scan w' (b.mono a)⟩
theorem aB.below0(h:Kz w w'){B:Nat}(a:B≤w.heap.size):Below B w w':=h.below a (fun _ _ e=>e)
def yv:Ck.Map:=⟨4,bs [114],4096,true,false⟩
def kz(w:World)(z:Nat):Prop:=z+9≤w.heap.size∧∀i o,(jK z)[i]?=some o→w.heap[z+i]?=some o
theorem kz.keep(h:kz w z)(hk:Kz w w'):kz w' z:=
 ⟨Nat.le_trans h.1 hk.size,fun i o a=>(hk.block _ (aG (h.2 i o a)) (fun e=>e)).trans (h.2 i o a)⟩
def uN(i:Nat):Nat:=if i=29 then 0 else i+15
def ZAt(a:Act)(w:World)(s:Nat)(v:Nat→Value):Prop:=∃z,At a s (v z)∧kz w z
def sc(i:Nat)(a:Act)(w:World):Prop:=match i with
 | 0=>At a 15 (.int .i64 0)
 | 1=>At a 16 (.bool true)
 | 2=>At a 17 (.bool true)
 | 3=>At a 18 (.int .i64 0)
 | 4=>At a 19 (.bool true)
 | 5=>At a 20 (.bool true)
 | 6=>At a 21 (.bool true)
 | 7=>At a 22 (.int .i64 3)
 | 8=>At a 23 (.bool true)
 | 9=>At a 24 (.bool true)
 | 10=>At a 25 (.bool true)
 | 11=>At a 26 (.int .i64 107)
 | 12=>At a 27 (.bool true)
 | 13=>At a 28 (.bool true)
 | 14=>At a 29 (.bool true)
 | 15=>ZAt a w 30 (fun z =>.agg ((v0 z).cells fJ).toArray)
 | 16=>At a 31 (.int .i64 4)
 | 17=>At a 32 (.bool true)
 | 18=>At a 33 (.bool true)
 | 19=>At a 34 (.bool true)
 | 20=>ZAt a w 35 (fun z =>.agg ((v0 z).cells fJ).toArray)
 | 21=>ZAt a w 36 (fun z =>.slice (some ⟨z+1+1+1+1,0,none⟩) 1 1)
 | 22=>ZAt a w 37 (fun z =>.pointer (some ⟨z+1+1+1+1,0,none⟩))
 | 23=>ZAt a w 38 (fun z =>.pointer (some ⟨z+1+1+1+1,4,none⟩))
 | 24=>ZAt a w 39 (fun z =>.slice (some ⟨z+1+1+1,0,none⟩) 1 1)
 | 25=>ZAt a w 40 (fun z =>.agg ((v0 z).cells fJ).toArray)
 | 26=>At a 41 (.int .i64 3)
 | 27=>At a 42 (.bool true)
 | 28=>At a 43 (.bool true)
 | 29=>At a 0 (.bool true)
 | _=>True
theorem uJ{T:Array Value}{d:List Deferred}{w w':World}{s:Nat}{v:Value}:∀{j:Nat},sc j ⟨T,d⟩ w→s≠uN j→Kz w w'→sc j ⟨T.setIfInBounds s v,d⟩ w'
 | 0,h,hs,_=>At.ne h hs
 | 1,h,hs,_=>At.ne h hs
 | 2,h,hs,_=>At.ne h hs
 | 3,h,hs,_=>At.ne h hs
 | 4,h,hs,_=>At.ne h hs
 | 5,h,hs,_=>At.ne h hs
 | 6,h,hs,_=>At.ne h hs
 | 7,h,hs,_=>At.ne h hs
 | 8,h,hs,_=>At.ne h hs
 | 9,h,hs,_=>At.ne h hs
 | 10,h,hs,_=>At.ne h hs
 | 11,h,hs,_=>At.ne h hs
 | 12,h,hs,_=>At.ne h hs
 | 13,h,hs,_=>At.ne h hs
 | 14,h,hs,_=>At.ne h hs
 | 15,⟨z,h,hz⟩,hs,hk=>⟨z,At.ne h hs,hz.keep hk⟩
 | 16,h,hs,_=>At.ne h hs
 | 17,h,hs,_=>At.ne h hs
 | 18,h,hs,_=>At.ne h hs
 | 19,h,hs,_=>At.ne h hs
 | 20,⟨z,h,hz⟩,hs,hk=>⟨z,At.ne h hs,hz.keep hk⟩
 | 21,⟨z,h,hz⟩,hs,hk=>⟨z,At.ne h hs,hz.keep hk⟩
 | 22,⟨z,h,hz⟩,hs,hk=>⟨z,At.ne h hs,hz.keep hk⟩
 | 23,⟨z,h,hz⟩,hs,hk=>⟨z,At.ne h hs,hz.keep hk⟩
 | 24,⟨z,h,hz⟩,hs,hk=>⟨z,At.ne h hs,hz.keep hk⟩
 | 25,⟨z,h,hz⟩,hs,hk=>⟨z,At.ne h hs,hz.keep hk⟩
 | 26,h,hs,_=>At.ne h hs
 | 27,h,hs,_=>At.ne h hs
 | 28,h,hs,_=>At.ne h hs
 | 29,h,hs,_=>At.ne h hs
 | _+30,_,_,_=>trivial
def wsK(i:Nat):Bool:=i==0||(rg 15 43 i)
structure yE (a:Act) (w:World) (L:Nat→Bool) (a':Act) (w':World):Prop where
 agree:aA wsK a a'
 keep:Kz w w'
 fact:∀j,j<30→L j=true→sc j a' w'
theorem wY{i:Nat}(h:i<30):wsK (uN i)=true:=by
 unfold wsK uN;split
 ·rfl
 ·simp;omega
theorem yE.put{a:Act}{L:Nat→Bool}{T:Array Value}{d:List Deferred}{b:World}(i:Nat){v:Value}(h:yE a w L ⟨T,d⟩ w')(p:i<30)(hk:Kz w' b)(n:sc i ⟨T.setIfInBounds (uN i) v,d⟩ b):
 yE a w (fun j=>j==i||L j) ⟨T.setIfInBounds (uN i) v,d⟩ b:=by
 refine⟨h.agree.set (wY p) v,h.keep.trans hk (fun _ _ e=>e),fun j q l=>?_⟩
 by_cases e:j=i
 ·rw[e];exact n
 ·have g:L j=true:=by simpa[e]using l
  exact uJ (h.fact j q g) (by unfold uN;split<;>split<;>omega) hk
theorem kh{w:World}:Calls Tryz.prog 33 #[] w fun e w'=>∃z,e=.returned (.agg ((v0 z).cells fJ).toArray)∧kz w' z∧Kz w w':=
 (oC w).mono fun e w' ⟨z,a,_,b,d,g⟩=>⟨z,a,⟨b,d⟩,g⟩
theorem yl(h:kz w z):Calls Tryz.prog 22 #[.agg ((v0 z).cells fJ).toArray] w fun e w'=>e=.returned (.int .i64 4)∧Kz w w':=
 (jL (lk (B:=w.heap.size) h.2 h.1) (Nat.le_refl _)).mono fun e w' hh=>⟨by rw[hh.1,pg0];rfl,hh.2⟩
theorem yk{y:Nat}(h:kz w z)(a:kz w y):Calls Tryz.prog 34 #[.slice (some ⟨y+1+1+1,0,none⟩) 1 1,.agg ((v0 z).cells fJ).toArray] w fun e w'=>e=.returned (.int .i64 3)∧Kz w w':=
 (pU (l:=[yv]) (lk (B:=w.heap.size) h.2 h.1) (Nat.le_refl _) (dj (b:=y+1+1+1) (by have:=a.1;omega) ⟨dS (a.2 3 _ rfl),by simp[yv,Ck.Map.Ok,dN,ae,bs,lim,ByteArray.size]⟩)).mono
  fun e w' hh=>⟨by rw[hh.1];exact congrArg (fun n:Nat=>Ending.returned (.int .i64 (n:Int))) tb0,hh.2⟩
theorem p7(a:Act)(a9:a.tmps.size=44)(h1:At a 1 (.int .i64 0))(h2:At a 2 (.int .i64 0))(h3:At a 3 (.int .i64 3))(h4:At a 4 (.int .i64 107))(Q:Exit→Act→World→Prop)
 (hQ:∀g w',aA wsK a g→At g 0 (.bool true)→Kz w w'→Q .normal g w'):(al Tryz.f8 [1,1,1,0]).wp Tryz.prog Q a w:=by
 have HQ:=hh hQ;clear hQ
 conv=>arg 2;whnf
 refine jU (yE a w) (by kernel_rfl) (by kernel_rfl) ⟨aA.refl _ _,(aB.refl _ _).drew,fun j _ h=>by cases h⟩ ?_ ?_
 ·rintro L g w' i op b n v q K u
  have y:=b.agree.Q7 h1 rfl;have A:=b.agree.Q7 h2 rfl;have B:=b.agree.Q7 h3 rfl;have C:=b.agree.Q7 h4 rfl;have bf:=b.agree.size.trans a9;clear h1 h2 h3 h4 a9 HQ;have x:i<30:=by
   have:=(List.getElem?_eq_some_iff.1 n).1
   simpa using this
  rcases(by omega:i=0∨i=1∨i=2∨i=3∨i=4∨i=5∨i=6∨i=7∨i=8∨i=9∨i=10∨i=11∨i=12∨i=13∨i=14∨i=15∨i=16∨i=17∨i=18∨i=19∨i=20∨i=21∨i=22∨i=23∨i=24∨i=25∨i=26∨i=27∨i=28∨i=29)with rfl|rfl|rfl|rfl|rfl|rfl|rfl|rfl|rfl|rfl|rfl|rfl|rfl|rfl|rfl|rfl|rfl|rfl|rfl|rfl|rfl|rfl|rfl|rfl|rfl|rfl|rfl|rfl|rfl|rfl
  ·obtain rfl:=Option.some.inj (n:some _=some op)
   clear n x v;clear q;clear A B C;have p:=hh b;clear b;obtain⟨T,d⟩:=g;go_simp;refine u _ _ ?_;exact p.out.put 0 (by decide) (aB.refl _ _) At.self
  ·obtain rfl:=Option.some.inj (n:some _=some op)
   clear n x v;have l:L 0=true:=by have:=q;simp[Region.binds]at this;simp[this]
   have d0:=l;clear q;have c0:At g 15 (.int .i64 0):=b.fact 0 (by decide) d0;clear d0 l;clear y A B C;have p:=hh b;clear b;obtain⟨T,d⟩:=g;go_simp;refine u _ _ ?_;exact p.out.put 1 (by decide) (aB.refl _ _) At.self
  ·obtain rfl:=Option.some.inj (n:some _=some op)
   clear n x v;have l:L 1=true:=by have:=q;simp[Region.binds]at this;simp[this]
   have d1:=l;clear q;have c1:At g 16 (.bool true):=b.fact 1 (by decide) d1;clear d1 l;clear y A B C;have p:=hh b;clear b;obtain⟨T,d⟩:=g;go_simp;refine u _ _ ?_;exact p.out.put 2 (by decide) (aB.refl _ _) At.self
  ·obtain rfl:=Option.some.inj (n:some _=some op)
   clear n x v;have l:L 2=true:=by have:=q;simp[Region.binds]at this;simp[this]
   have I:=l;clear q;have c2:At g 17 (.bool true):=b.fact 2 (by decide) I;clear I l;clear y B C;have p:=hh b;clear b;obtain⟨T,d⟩:=g;go_simp;refine u _ _ ?_;exact p.out.put 3 (by decide) (aB.refl _ _) At.self
  ·obtain rfl:=Option.some.inj (n:some _=some op)
   clear n x v;have l:L 3=true∧L 2=true:=by have:=q;simp[Region.binds]at this;simp[this]
   obtain⟨d3,I⟩:=l;clear q;have c3:At g 18 (.int .i64 0):=b.fact 3 (by decide) d3;have c2:At g 17 (.bool true):=b.fact 2 (by decide) I;clear d3 I;clear y A B C;have p:=hh b;clear b;obtain⟨T,d⟩:=g;go_simp;refine u _ _ ?_;exact p.out.put 4 (by decide) (aB.refl _ _) At.self
  ·obtain rfl:=Option.some.inj (n:some _=some op)
   clear n x v;have l:L 2=true∧L 4=true:=by have:=q;simp[Region.binds]at this;simp[this]
   obtain⟨I,d4⟩:=l;clear q;have c2:At g 17 (.bool true):=b.fact 2 (by decide) I;have c4:At g 19 (.bool true):=b.fact 4 (by decide) d4;clear I d4;clear y A B C;have p:=hh b;clear b;obtain⟨T,d⟩:=g;go_simp;refine u _ _ ?_;exact p.out.put 5 (by decide) (aB.refl _ _) At.self
  ·obtain rfl:=Option.some.inj (n:some _=some op)
   clear n x v;have l:L 5=true∧L 2=true:=by have:=q;simp[Region.binds]at this;simp[this]
   obtain⟨d5,I⟩:=l;clear q;have c5:At g 20 (.bool true):=b.fact 5 (by decide) d5;have c2:At g 17 (.bool true):=b.fact 2 (by decide) I;clear d5 I;clear y A B C;have p:=hh b;clear b;obtain⟨T,d⟩:=g;go_simp;refine u _ _ ?_;exact p.out.put 6 (by decide) (aB.refl _ _) At.self
  ·obtain rfl:=Option.some.inj (n:some _=some op)
   clear n x v;have l:L 6=true:=by have:=q;simp[Region.binds]at this;simp[this]
   have M:=l;clear q;have c6:At g 21 (.bool true):=b.fact 6 (by decide) M;clear M l;clear y A C;have p:=hh b;clear b;obtain⟨T,d⟩:=g;go_simp;refine u _ _ ?_;exact p.out.put 7 (by decide) (aB.refl _ _) At.self
  ·obtain rfl:=Option.some.inj (n:some _=some op)
   clear n x v;have l:L 7=true∧L 6=true:=by have:=q;simp[Region.binds]at this;simp[this]
   obtain⟨d7,M⟩:=l;clear q;have c7:At g 22 (.int .i64 3):=b.fact 7 (by decide) d7;have c6:At g 21 (.bool true):=b.fact 6 (by decide) M;clear d7 M;clear y A B C;have p:=hh b;clear b;obtain⟨T,d⟩:=g;go_simp;refine u _ _ ?_;exact p.out.put 8 (by decide) (aB.refl _ _) At.self
  ·obtain rfl:=Option.some.inj (n:some _=some op)
   clear n x v;have l:L 6=true∧L 8=true:=by have:=q;simp[Region.binds]at this;simp[this]
   obtain⟨M,d8⟩:=l;clear q;have c6:At g 21 (.bool true):=b.fact 6 (by decide) M;have c8:At g 23 (.bool true):=b.fact 8 (by decide) d8;clear M d8;clear y A B C;have p:=hh b;clear b;obtain⟨T,d⟩:=g;go_simp;refine u _ _ ?_;exact p.out.put 9 (by decide) (aB.refl _ _) At.self
  ·obtain rfl:=Option.some.inj (n:some _=some op)
   clear n x v;have l:L 9=true∧L 6=true:=by have:=q;simp[Region.binds]at this;simp[this]
   obtain⟨d9,M⟩:=l;clear q;have c9:At g 24 (.bool true):=b.fact 9 (by decide) d9;have c6:At g 21 (.bool true):=b.fact 6 (by decide) M;clear d9 M;clear y A B C;have p:=hh b;clear b;obtain⟨T,d⟩:=g;go_simp;refine u _ _ ?_;exact p.out.put 10 (by decide) (aB.refl _ _) At.self
  ·obtain rfl:=Option.some.inj (n:some _=some op)
   clear n x v;have l:L 10=true:=by have:=q;simp[Region.binds]at this;simp[this]
   have D:=l;clear q;have O:At g 25 (.bool true):=b.fact 10 (by decide) D;clear D l;clear y A B;have p:=hh b;clear b;obtain⟨T,d⟩:=g;go_simp;refine u _ _ ?_;exact p.out.put 11 (by decide) (aB.refl _ _) At.self
  ·obtain rfl:=Option.some.inj (n:some _=some op)
   clear n x v;have l:L 11=true∧L 10=true:=by have:=q;simp[Region.binds]at this;simp[this]
   obtain⟨U,D⟩:=l;clear q;have bj:At g 26 (.int .i64 107):=b.fact 11 (by decide) U;have O:At g 25 (.bool true):=b.fact 10 (by decide) D;clear U D;clear y A B C;have p:=hh b;clear b;obtain⟨T,d⟩:=g;go_simp;refine u _ _ ?_;exact p.out.put 12 (by decide) (aB.refl _ _) At.self
  ·obtain rfl:=Option.some.inj (n:some _=some op)
   clear n x v;have l:L 10=true∧L 12=true:=by have:=q;simp[Region.binds]at this;simp[this]
   obtain⟨D,V⟩:=l;clear q;have O:At g 25 (.bool true):=b.fact 10 (by decide) D;have bl:At g 27 (.bool true):=b.fact 12 (by decide) V;clear D V;clear y A B C;have p:=hh b;clear b;obtain⟨T,d⟩:=g;go_simp;refine u _ _ ?_;exact p.out.put 13 (by decide) (aB.refl _ _) At.self
  ·obtain rfl:=Option.some.inj (n:some _=some op)
   clear n x v;have l:L 13=true∧L 10=true:=by have:=q;simp[Region.binds]at this;simp[this]
   obtain⟨W,D⟩:=l;clear q;have bm:At g 28 (.bool true):=b.fact 13 (by decide) W;have O:At g 25 (.bool true):=b.fact 10 (by decide) D;clear W D;clear y A B C;have p:=hh b;clear b;obtain⟨T,d⟩:=g;go_simp;refine u _ _ ?_;exact p.out.put 14 (by decide) (aB.refl _ _) At.self
  ·obtain rfl:=Option.some.inj (n:some _=some op)
   clear n x v;have l:L 14=true:=by have:=q;simp[Region.binds]at this;simp[this]
   have E:=l;clear q;have R:At g 29 (.bool true):=b.fact 14 (by decide) E;clear E l;clear y A B C;have HC:=hh (fun w:World=>@kh w);have p:=hh b;clear b;obtain⟨T,d⟩:=g;go_simp;refine kh.mono ?_;rintro e w2 ⟨z,rfl,hz,hk⟩;refine u _ _ ?_;exact p.out.put 15 (by decide) hk ⟨z,At.self,hz⟩
  ·obtain rfl:=Option.some.inj (n:some _=some op)
   clear n x v;have l:L 15=true∧L 14=true:=by have:=q;simp[Region.binds]at this;simp[this]
   obtain⟨X,E⟩:=l;clear q;obtain⟨b4,bo,a3⟩:ZAt g w' 30 (fun z =>.agg ((v0 z).cells fJ).toArray):=b.fact 15 (by decide) X;have E15:=hh a3;have R:At g 29 (.bool true):=b.fact 14 (by decide) E;clear a3;clear X E;clear y A B C;have p:=hh b;clear b;obtain⟨T,d⟩:=g;go_simp;refine(yl E15.out).mono ?_;rintro e w2 ⟨rfl,hk⟩;refine u _ _ ?_;exact p.out.put 16 (by decide) hk At.self
  ·obtain rfl:=Option.some.inj (n:some _=some op)
   clear n x v;have l:L 16=true∧L 14=true:=by have:=q;simp[Region.binds]at this;simp[this]
   obtain⟨H,E⟩:=l;clear q;have bc:At g 31 (.int .i64 4):=b.fact 16 (by decide) H;have R:At g 29 (.bool true):=b.fact 14 (by decide) E;clear H E;clear y A B C;have p:=hh b;clear b;obtain⟨T,d⟩:=g;go_simp;refine u _ _ ?_;exact p.out.put 17 (by decide) (aB.refl _ _) At.self
  ·obtain rfl:=Option.some.inj (n:some _=some op)
   clear n x v;have l:L 14=true∧L 17=true:=by have:=q;simp[Region.binds]at this;simp[this]
   obtain⟨E,Y⟩:=l;clear q;have R:At g 29 (.bool true):=b.fact 14 (by decide) E;have bp:At g 32 (.bool true):=b.fact 17 (by decide) Y;clear E Y;clear y A B C;have p:=hh b;clear b;obtain⟨T,d⟩:=g;go_simp;refine u _ _ ?_;exact p.out.put 18 (by decide) (aB.refl _ _) At.self
  ·obtain rfl:=Option.some.inj (n:some _=some op)
   clear n x v;have l:L 18=true∧L 16=true:=by have:=q;simp[Region.binds]at this;simp[this]
   obtain⟨Z,H⟩:=l;clear q;have bt:At g 33 (.bool true):=b.fact 18 (by decide) Z;have bc:At g 31 (.int .i64 4):=b.fact 16 (by decide) H;clear Z H;clear y A B C;have p:=hh b;clear b;obtain⟨T,d⟩:=g;go_simp;refine u _ _ ?_;exact p.out.put 19 (by decide) (aB.refl _ _) At.self
  ·obtain rfl:=Option.some.inj (n:some _=some op)
   clear n x v;have l:L 19=true:=by have:=q;simp[Region.binds]at this;simp[this]
   have r:=l;clear q;have G:At g 34 (.bool true):=b.fact 19 (by decide) r;clear r l;clear y A B C;have HC:=hh (fun w:World=>@kh w);have p:=hh b;clear b;obtain⟨T,d⟩:=g;go_simp;refine kh.mono ?_;rintro e w2 ⟨z,rfl,hz,hk⟩;refine u _ _ ?_;exact p.out.put 20 (by decide) hk ⟨z,At.self,hz⟩
  ·obtain rfl:=Option.some.inj (n:some _=some op)
   clear n x v;have l:L 20=true∧L 19=true:=by have:=q;simp[Region.binds]at this;simp[this]
   obtain⟨J,r⟩:=l;clear q;obtain⟨be,bd,N⟩:ZAt g w' 35 (fun z =>.agg ((v0 z).cells fJ).toArray):=b.fact 20 (by decide) J;have E20:=hh N;have G:At g 34 (.bool true):=b.fact 19 (by decide) r;clear N;clear J r;clear y A B C;have p:=hh b;clear b;obtain⟨T,d⟩:=g;go_simp;refine u _ _ ?_;exact p.out.put 21 (by decide) (aB.refl _ _) ⟨_,At.self,E20.out⟩
  ·obtain rfl:=Option.some.inj (n:some _=some op)
   clear n x v;have l:L 21=true∧L 19=true:=by have:=q;simp[Region.binds]at this;simp[this]
   obtain⟨ac,r⟩:=l;clear q;obtain⟨b5,bu,a4⟩:ZAt g w' 36 (fun z =>.slice (some ⟨z+1+1+1+1,0,none⟩) 1 1):=b.fact 21 (by decide) ac;have E21:=hh a4;have G:At g 34 (.bool true):=b.fact 19 (by decide) r;clear a4;clear ac r;clear y A B C;have p:=hh b;clear b;obtain⟨T,d⟩:=g;go_simp;refine u _ _ ?_;exact p.out.put 22 (by decide) (aB.refl _ _) ⟨_,At.self,E21.out⟩
  ·obtain rfl:=Option.some.inj (n:some _=some op)
   clear n x v;have l:L 22=true∧L 19=true:=by have:=q;simp[Region.binds]at this;simp[this]
   obtain⟨ad,r⟩:=l;clear q;obtain⟨cb,bw,a5⟩:ZAt g w' 37 (fun z =>.pointer (some ⟨z+1+1+1+1,0,none⟩)):=b.fact 22 (by decide) ad;have E22:=hh a5;have G:At g 34 (.bool true):=b.fact 19 (by decide) r;clear a5;clear ad r;clear y A B C;have p:=hh b;clear b;obtain⟨T,d⟩:=g;go_simp;refine u _ _ ?_;exact p.out.put 23 (by decide) (aB.refl _ _) ⟨_,At.self,E22.out⟩
  ·obtain rfl:=Option.some.inj (n:some _=some op)
   clear n x v;have l:L 23=true∧L 19=true:=by have:=q;simp[Region.binds]at this;simp[this]
   obtain⟨af,r⟩:=l;clear q;obtain⟨bb,bx,S⟩:ZAt g w' 38 (fun z =>.pointer (some ⟨z+1+1+1+1,4,none⟩)):=b.fact 23 (by decide) af;have E23:=hh S;have G:At g 34 (.bool true):=b.fact 19 (by decide) r;have q4:w'.cell? ⟨bb+1+1+1+1,4,none⟩=some (.slice (some ⟨bb+1+1+1,0,none⟩) 1 1):=cr (S.2 4 _ rfl) rfl;clear S;clear af r;clear y A B C;have p:=hh b;clear b;obtain⟨T,d⟩:=g;go_simp;refine u _ _ ?_;exact p.out.put 24 (by decide) (aB.refl _ _) ⟨_,At.self,E23.out⟩
  ·obtain rfl:=Option.some.inj (n:some _=some op)
   clear n x v;have l:L 20=true∧L 19=true:=by have:=q;simp[Region.binds]at this;simp[this]
   obtain⟨J,r⟩:=l;clear q;obtain⟨be,bd,N⟩:ZAt g w' 35 (fun z =>.agg ((v0 z).cells fJ).toArray):=b.fact 20 (by decide) J;have E20:=hh N;have G:At g 34 (.bool true):=b.fact 19 (by decide) r;clear N;clear J r;clear y A B C;have HC:=hh (fun w:World=>@kh w);have p:=hh b;clear b;obtain⟨T,d⟩:=g;go_simp;refine kh.mono ?_;rintro e w2 ⟨z,rfl,hz,hk⟩;refine u _ _ ?_;exact p.out.put 25 (by decide) hk ⟨z,At.self,hz⟩
  ·obtain rfl:=Option.some.inj (n:some _=some op)
   clear n x v;have l:L 24=true∧L 25=true∧L 19=true:=by have:=q;simp[Region.binds]at this;simp[this]
   obtain⟨ah,an,r⟩:=l;clear q;obtain⟨cc,bz,a6⟩:ZAt g w' 39 (fun z =>.slice (some ⟨z+1+1+1,0,none⟩) 1 1):=b.fact 24 (by decide) ah;have E24:=hh a6;obtain⟨cd,b0,a7⟩:ZAt g w' 40 (fun z =>.agg ((v0 z).cells fJ).toArray):=b.fact 25 (by decide) an;have E25:=hh a7;have G:At g 34 (.bool true):=b.fact 19 (by decide) r;clear a6 a7;clear ah an r;clear y A B C;have p:=hh b;clear b;obtain⟨T,d⟩:=g;go_simp;refine(yk E25.out E24.out).mono ?_;rintro e w2 ⟨rfl,hk⟩;refine u _ _ ?_;exact p.out.put 26 (by decide) hk At.self
  ·obtain rfl:=Option.some.inj (n:some _=some op)
   clear n x v;have l:L 26=true∧L 19=true:=by have:=q;simp[Region.binds]at this;simp[this]
   obtain⟨a0,r⟩:=l;clear q;have b1:At g 41 (.int .i64 3):=b.fact 26 (by decide) a0;have G:At g 34 (.bool true):=b.fact 19 (by decide) r;clear a0 r;clear y A B C;have p:=hh b;clear b;obtain⟨T,d⟩:=g;go_simp;refine u _ _ ?_;exact p.out.put 27 (by decide) (aB.refl _ _) At.self
  ·obtain rfl:=Option.some.inj (n:some _=some op)
   clear n x v;have l:L 19=true∧L 27=true:=by have:=q;simp[Region.binds]at this;simp[this]
   obtain⟨r,a1⟩:=l;clear q;have G:At g 34 (.bool true):=b.fact 19 (by decide) r;have b2:At g 42 (.bool true):=b.fact 27 (by decide) a1;clear r a1;clear y A B C;have p:=hh b;clear b;obtain⟨T,d⟩:=g;go_simp;refine u _ _ ?_;exact p.out.put 28 (by decide) (aB.refl _ _) At.self
  ·obtain rfl:=Option.some.inj (n:some _=some op)
   clear n x v;have a2:L 28=true:=by have:=q;simp[Region.binds]at this;exact this.1
   clear q;have b3:At g 43 (.bool true):=b.fact 28 (by decide) a2;clear a2;clear y A B C;have p:=hh b;clear b;obtain⟨T,d⟩:=g;go_simp;refine u _ _ ?_;exact p.out.put 29 (by decide) (aB.refl _ _) At.self
 ·rintro L g w' b a8
  exact HQ.out g w' b.agree (b.fact 29 (by decide) (a8 29 (by decide))) b.keep
theorem mN(r:gm w.heap.size w):Calls Tryz.prog 8 #[] w fun e w'=>e=.returned (.bool true)∧Kz w w':=by
 go_enter Tryz.func8,Tryz.ntmps8
 go_wp2_with fail
 refine(oC w).mono ?_;rintro e A ⟨z,rfl,G,y,u,hk⟩;have j:gm w.heap.size A:=r.below (hk.below0 (Nat.le_refl _));have d:=hh j;have C:=hh (lk (B:=A.heap.size) u y);have l:=hh hk;clear r j u hk G y
 go_wp2_with fail
 refine(jO iC C.out (d.out.mono l.out.size) (Nat.le_refl _)).mono ?_;rintro e I ⟨⟨a,x,rfl,g⟩,h⟩;obtain⟨rfl,rfl⟩:=rG g;have b:=hh h;clear g h
 go_wp2_with fail
 refine(jO (v:=vZ) (P:=lB) iC (xG _ _) ((d.out.below (b.out.below0 l.out.size)).mono (Nat.le_trans l.out.size b.out.size)) (Nat.le_refl _)).mono ?_;rintro e J ⟨⟨a,x,rfl,g⟩,i⟩;obtain⟨rfl,rfl⟩:=rF g;have n:=hh i;clear g i
 go_wp2_with fail
 refine p7 _ rfl (fun _=>rfl) (fun _=>rfl) (fun _=>rfl) (fun _=>rfl) _ (fun D H q E p=>?_);refine ‹∀(a:Act) (w:World),Code.wp _ Code.ret _ a w→_› D H ?_;refine wp_ret ?_;refine b9 rfl E (by rw[q.size];exact(show(0:Nat)<44 by decide)) q.defers ⟨rfl,((l.out.trans b.out (fun _ _ e=>e)).trans n.out (fun _ _ e=>e)).trans p (fun _ _ e=>e)⟩
theorem bq{v:aV}{P:aC}(h:w.heap[z]?=some (.cells (v.cells P).toArray 34 (0,0))):w.cell? ⟨z,0,none⟩=some (.int .i64 P.pos)∧w.cell? ⟨z,1,none⟩=some (.string P.name)∧w.cell? ⟨z,2,none⟩=some v.QF∧w.cell? ⟨z,3,none⟩=some v.Q4∧w.cell? ⟨z,4,none⟩=some v.Q5∧w.cell? ⟨z,5,none⟩=some v.Q3∧w.cell? ⟨z,6,none⟩=some v.Q8∧w.cell? ⟨z,7,none⟩=some v.QG∧w.cell? ⟨z,8,none⟩=some v.QC∧w.cell? ⟨z,9,none⟩=some v.Q9∧w.cell? ⟨z,10,none⟩=some v.QD∧w.cell? ⟨z,11,none⟩=some v.QE∧w.cell? ⟨z,12,none⟩=some v.QB∧w.cell? ⟨z,13,none⟩=some v.QA:=
 ⟨(cell_of_row _ _ _ _ _ _ h).trans rfl,(cell_of_row _ _ _ _ _ _ h).trans rfl,(cell_of_row _ _ _ _ _ _ h).trans rfl,(cell_of_row _ _ _ _ _ _ h).trans rfl,(cell_of_row _ _ _ _ _ _ h).trans rfl,(cell_of_row _ _ _ _ _ _ h).trans rfl,(cell_of_row _ _ _ _ _ _ h).trans rfl,(cell_of_row _ _ _ _ _ _ h).trans rfl,(cell_of_row _ _ _ _ _ _ h).trans rfl,(cell_of_row _ _ _ _ _ _ h).trans rfl,(cell_of_row _ _ _ _ _ _ h).trans rfl,(cell_of_row _ _ _ _ _ _ h).trans rfl,(cell_of_row _ _ _ _ _ _ h).trans rfl,(cell_of_row _ _ _ _ _ _ h).trans rfl⟩
theorem dL{cs:Array Value}{t:TypeId}(h:w.heap[z]?=some (.cells cs t (0,0)))(j:Nat):w.frozen? ⟨z,j,none⟩=false:=frozen_of_row w z j cs t h
theorem Cop.below{R:Nat→Array Value→Prop}{v:aV}{P:aC}(h:Cop R n0 w0 zq v P w):cX w.heap.size w v P:=(h.QL.same (D':=fun _ b=>b<w.heap.size) (fun _ _ a=>a.1) (fun _=>aW.refl)).below
def dP(B:Nat)(w:World)(u:Value)(ts:List Int):Prop:=aM (fun b=>b<B) 1 gu w u ts
theorem dP.keep(h:dP B w u ts)(hk:Kz w w')(d:B≤w.heap.size):dP B w' u ts:=
 aD h (fun _ a=>a) (aW.of_keep hk fun b a=>⟨Nat.lt_of_lt_of_le a d,fun x=>x⟩)
theorem vq{R:Nat→Array Value→Prop}{v:aV}{P:aC}(h:Cop R n0 w0 zq v P w)(H:dP B w u ts)(y:B≤w.heap.size)(ac:B≤n0)(a:Act)(ad:a.tmps.size=116)(h5:At a 5 (.pointer (some ⟨zq,0,none⟩)))(h1:At a 1 u)(Q:Exit→Act→World→Prop)
 (M:∀J w' g v',g.Perm P.QF→aA (fun i=>rg 16 20 i) a J→Cop (fun _ _=>False) n0 w0 zq { v with QF:=v' } { P with QF:=g } w'→dP B w' u ts→B≤w'.heap.size→Q .normal J w'):(al Tryz.f4 [1,1,1,0]).wp Tryz.prog Q a w:=by
 have U:=hh M;have E:Hid (∀b,b<B→b=zq→False):=hh fun b l e=>by have:=h.zq;omega
 have q:w.cell? ⟨zq,2,none⟩=some v.QF:=(cell_of_row _ _ _ _ _ _ h.cell).trans rfl;have I:=hh h;have V:=hh (uz (D:=Dm n0 w) h.QL.QF H (fun b l=>Nat.lt_of_lt_of_le l y));have W:=hh H;clear M h H;have Z:aA (fun i=>rg 16 20 i) a a:=aA.refl _ _
 conv=>arg 2;whnf
 obtain⟨T,d⟩:=a;refine rl ?_
 iterate 3 with_reducible refine st ?_
 with_reducible refine Lz (fun K L=>?_)
 go_simp;refine V.out.mono ?_;rintro e x ⟨v2,rfl,O,hk⟩;obtain⟨g,N,j⟩:=I.out.turn_rams O hk;have p:=(I.out.step hk).cell;have q2:x.cell? ⟨zq,2,none⟩=some v.QF:=(cell_of_row _ _ _ _ _ _ p).trans rfl;have Y:x.frozen? ⟨zq,2,none⟩=false:=dL p _;obtain⟨A2,c2,X,_⟩:∃A c,v2=.slice A g.length c∧True:=by obtain⟨A,c,e,_⟩:=j.QL.QF;exact⟨A,c,e,trivial⟩
 subst X;have C:=hh j;have S:=hh N;have n:=(ba x zq 2 (.slice A2 g.length c2));have G:Hid (dP B (x.setCell ⟨zq,2,none⟩ (.slice A2 g.length c2)) u ts):=hh (aD (W.out.keep hk y) (fun _ l=>l) (aW.of_keep n fun b l=>⟨Nat.lt_of_lt_of_le l (Nat.le_trans y hk.size),fun e=>E.out b l e⟩));have r:B≤(x.setCell ⟨zq,2,none⟩ (.slice A2 g.length c2)).heap.size:=Nat.le_trans (Nat.le_trans y hk.size) n.size;clear j N hk n O p;with_reducible refine L _ _ ?_;clear L K
 iterate 2 with_reducible refine st ?_
 refine ln (U.out _ _ g _ S.out ?_ C.out G.out r);exact ag
theorem qS{R:Nat→Array Value→Prop}{v:aV}{P:aC}(h:Cop R n0 w0 zq v P w)(H:dP B w u ts)(y:B≤w.heap.size)(ac:B≤n0)(a:Act)(ad:a.tmps.size=116)(h5:At a 5 (.pointer (some ⟨zq,0,none⟩)))(h1:At a 1 u)(Q:Exit→Act→World→Prop)
 (M:∀J w' g v',g.Perm P.Q4→aA (fun i=>rg 21 25 i) a J→Cop (fun _ _=>False) n0 w0 zq { v with Q4:=v' } { P with Q4:=g } w'→dP B w' u ts→B≤w'.heap.size→Q .normal J w'):(al Tryz.f4 [1,1,1,1,0]).wp Tryz.prog Q a w:=by
 have U:=hh M;have E:Hid (∀b,b<B→b=zq→False):=hh fun b l e=>by have:=h.zq;omega
 have q:w.cell? ⟨zq,3,none⟩=some v.Q4:=(cell_of_row _ _ _ _ _ _ h.cell).trans rfl;have I:=hh h;have V:=hh (ux (D:=Dm n0 w) h.QL.Q4 H (fun b l=>Nat.lt_of_lt_of_le l y));have W:=hh H;clear M h H;have Z:aA (fun i=>rg 21 25 i) a a:=aA.refl _ _
 conv=>arg 2;whnf
 obtain⟨T,d⟩:=a;refine rl ?_
 iterate 3 with_reducible refine st ?_
 with_reducible refine Lz (fun K L=>?_)
 go_simp;refine V.out.mono ?_;rintro e x ⟨v2,rfl,O,hk⟩;obtain⟨g,N,j⟩:=I.out.turn_devices O hk;have p:=(I.out.step hk).cell;have q2:x.cell? ⟨zq,3,none⟩=some v.Q4:=(cell_of_row _ _ _ _ _ _ p).trans rfl;have Y:x.frozen? ⟨zq,3,none⟩=false:=dL p _;obtain⟨A2,c2,X,_⟩:∃A c,v2=.slice A g.length c∧True:=by obtain⟨A,c,e,_⟩:=j.QL.Q4;exact⟨A,c,e,trivial⟩
 subst X;have C:=hh j;have S:=hh N;have n:=(ba x zq 3 (.slice A2 g.length c2));have G:Hid (dP B (x.setCell ⟨zq,3,none⟩ (.slice A2 g.length c2)) u ts):=hh (aD (W.out.keep hk y) (fun _ l=>l) (aW.of_keep n fun b l=>⟨Nat.lt_of_lt_of_le l (Nat.le_trans y hk.size),fun e=>E.out b l e⟩));have r:B≤(x.setCell ⟨zq,3,none⟩ (.slice A2 g.length c2)).heap.size:=Nat.le_trans (Nat.le_trans y hk.size) n.size;clear j N hk n O p;with_reducible refine L _ _ ?_;clear L K
 iterate 2 with_reducible refine st ?_
 refine ln (U.out _ _ g _ S.out ?_ C.out G.out r);exact ag
theorem qQ{R:Nat→Array Value→Prop}{v:aV}{P:aC}(h:Cop R n0 w0 zq v P w)(H:dP B w u ts)(y:B≤w.heap.size)(ac:B≤n0)(a:Act)(ad:a.tmps.size=116)(h5:At a 5 (.pointer (some ⟨zq,0,none⟩)))(h1:At a 1 u)(Q:Exit→Act→World→Prop)
 (M:∀J w' g v',g.Perm P.Q5→aA (fun i=>rg 26 30 i) a J→Cop (fun _ _=>False) n0 w0 zq { v with Q5:=v' } { P with Q5:=g } w'→dP B w' u ts→B≤w'.heap.size→Q .normal J w'):(al Tryz.f4 [1,1,1,1,1,0]).wp Tryz.prog Q a w:=by
 have U:=hh M;have E:Hid (∀b,b<B→b=zq→False):=hh fun b l e=>by have:=h.zq;omega
 have q:w.cell? ⟨zq,4,none⟩=some v.Q5:=(cell_of_row _ _ _ _ _ _ h.cell).trans rfl;have I:=hh h;have V:=hh (uw (D:=Dm n0 w) h.QL.Q5 H (fun b l=>Nat.lt_of_lt_of_le l y));have W:=hh H;clear M h H;have Z:aA (fun i=>rg 26 30 i) a a:=aA.refl _ _
 conv=>arg 2;whnf
 obtain⟨T,d⟩:=a;refine rl ?_
 iterate 3 with_reducible refine st ?_
 with_reducible refine Lz (fun K L=>?_)
 go_simp;refine V.out.mono ?_;rintro e x ⟨v2,rfl,O,hk⟩;obtain⟨g,N,j⟩:=I.out.turn_regions O hk;have p:=(I.out.step hk).cell;have q2:x.cell? ⟨zq,4,none⟩=some v.Q5:=(cell_of_row _ _ _ _ _ _ p).trans rfl;have Y:x.frozen? ⟨zq,4,none⟩=false:=dL p _;obtain⟨A2,c2,X,_⟩:∃A c,v2=.slice A g.length c∧True:=by obtain⟨A,c,e,_⟩:=j.QL.Q5;exact⟨A,c,e,trivial⟩
 subst X;have C:=hh j;have S:=hh N;have n:=(ba x zq 4 (.slice A2 g.length c2));have G:Hid (dP B (x.setCell ⟨zq,4,none⟩ (.slice A2 g.length c2)) u ts):=hh (aD (W.out.keep hk y) (fun _ l=>l) (aW.of_keep n fun b l=>⟨Nat.lt_of_lt_of_le l (Nat.le_trans y hk.size),fun e=>E.out b l e⟩));have r:B≤(x.setCell ⟨zq,4,none⟩ (.slice A2 g.length c2)).heap.size:=Nat.le_trans (Nat.le_trans y hk.size) n.size;clear j N hk n O p;with_reducible refine L _ _ ?_;clear L K
 iterate 2 with_reducible refine st ?_
 refine ln (U.out _ _ g _ S.out ?_ C.out G.out r);exact ag
theorem p3{R:Nat→Array Value→Prop}{v:aV}{P:aC}(h:Cop R n0 w0 zq v P w)(H:dP B w u ts)(y:B≤w.heap.size)(ac:B≤n0)(a:Act)(ad:a.tmps.size=116)(h5:At a 5 (.pointer (some ⟨zq,0,none⟩)))(h1:At a 1 u)(Q:Exit→Act→World→Prop)
 (M:∀J w' g v',g.Perm P.Q3→aA (fun i=>rg 31 35 i) a J→Cop (fun _ _=>False) n0 w0 zq { v with Q3:=v' } { P with Q3:=g } w'→dP B w' u ts→B≤w'.heap.size→Q .normal J w'):(al Tryz.f4 [1,1,1,1,1,1,0]).wp Tryz.prog Q a w:=by
 have U:=hh M;have E:Hid (∀b,b<B→b=zq→False):=hh fun b l e=>by have:=h.zq;omega
 have q:w.cell? ⟨zq,5,none⟩=some v.Q3:=(cell_of_row _ _ _ _ _ _ h.cell).trans rfl;have I:=hh h;have V:=hh (uu (D:=Dm n0 w) h.QL.Q3 H (fun b l=>Nat.lt_of_lt_of_le l y));have W:=hh H;clear M h H;have Z:aA (fun i=>rg 31 35 i) a a:=aA.refl _ _
 conv=>arg 2;whnf
 obtain⟨T,d⟩:=a;refine rl ?_
 iterate 3 with_reducible refine st ?_
 with_reducible refine Lz (fun K L=>?_)
 go_simp;refine V.out.mono ?_;rintro e x ⟨v2,rfl,O,hk⟩;obtain⟨g,N,j⟩:=I.out.turn_subjects O hk;have p:=(I.out.step hk).cell;have q2:x.cell? ⟨zq,5,none⟩=some v.Q3:=(cell_of_row _ _ _ _ _ _ p).trans rfl;have Y:x.frozen? ⟨zq,5,none⟩=false:=dL p _;obtain⟨A2,c2,X,_⟩:∃A c,v2=.slice A g.length c∧True:=by obtain⟨A,c,e,_⟩:=j.QL.Q3;exact⟨A,c,e,trivial⟩
 subst X;have C:=hh j;have S:=hh N;have n:=(ba x zq 5 (.slice A2 g.length c2));have G:Hid (dP B (x.setCell ⟨zq,5,none⟩ (.slice A2 g.length c2)) u ts):=hh (aD (W.out.keep hk y) (fun _ l=>l) (aW.of_keep n fun b l=>⟨Nat.lt_of_lt_of_le l (Nat.le_trans y hk.size),fun e=>E.out b l e⟩));have r:B≤(x.setCell ⟨zq,5,none⟩ (.slice A2 g.length c2)).heap.size:=Nat.le_trans (Nat.le_trans y hk.size) n.size;clear j N hk n O p;with_reducible refine L _ _ ?_;clear L K
 iterate 2 with_reducible refine st ?_
 refine ln (U.out _ _ g _ S.out ?_ C.out G.out r);exact ag
theorem p4{R:Nat→Array Value→Prop}{v:aV}{P:aC}(h:Cop R n0 w0 zq v P w)(H:dP B w u ts)(y:B≤w.heap.size)(ac:B≤n0)(a:Act)(ad:a.tmps.size=116)(h5:At a 5 (.pointer (some ⟨zq,0,none⟩)))(h1:At a 1 u)(Q:Exit→Act→World→Prop)
 (M:∀J w' g v',g.Perm P.Q8→aA (fun i=>rg 36 40 i) a J→Cop (fun _ _=>False) n0 w0 zq { v with Q8:=v' } { P with Q8:=g } w'→dP B w' u ts→B≤w'.heap.size→Q .normal J w'):(al Tryz.f4 [1,1,1,1,1,1,1,0]).wp Tryz.prog Q a w:=by
 have U:=hh M;have E:Hid (∀b,b<B→b=zq→False):=hh fun b l e=>by have:=h.zq;omega
 have q:w.cell? ⟨zq,6,none⟩=some v.Q8:=(cell_of_row _ _ _ _ _ _ h.cell).trans rfl;have I:=hh h;have V:=hh (ut (D:=Dm n0 w) h.QL.Q8 H (fun b l=>Nat.lt_of_lt_of_le l y));have W:=hh H;clear M h H;have Z:aA (fun i=>rg 36 40 i) a a:=aA.refl _ _
 conv=>arg 2;whnf
 obtain⟨T,d⟩:=a;refine rl ?_
 iterate 3 with_reducible refine st ?_
 with_reducible refine Lz (fun K L=>?_)
 go_simp;refine V.out.mono ?_;rintro e x ⟨v2,rfl,O,hk⟩;obtain⟨g,N,j⟩:=I.out.turn_channels O hk;have p:=(I.out.step hk).cell;have q2:x.cell? ⟨zq,6,none⟩=some v.Q8:=(cell_of_row _ _ _ _ _ _ p).trans rfl;have Y:x.frozen? ⟨zq,6,none⟩=false:=dL p _;obtain⟨A2,c2,X,_⟩:∃A c,v2=.slice A g.length c∧True:=by obtain⟨A,c,e,_⟩:=j.QL.Q8;exact⟨A,c,e,trivial⟩
 subst X;have C:=hh j;have S:=hh N;have n:=(ba x zq 6 (.slice A2 g.length c2));have G:Hid (dP B (x.setCell ⟨zq,6,none⟩ (.slice A2 g.length c2)) u ts):=hh (aD (W.out.keep hk y) (fun _ l=>l) (aW.of_keep n fun b l=>⟨Nat.lt_of_lt_of_le l (Nat.le_trans y hk.size),fun e=>E.out b l e⟩));have r:B≤(x.setCell ⟨zq,6,none⟩ (.slice A2 g.length c2)).heap.size:=Nat.le_trans (Nat.le_trans y hk.size) n.size;clear j N hk n O p;with_reducible refine L _ _ ?_;clear L K
 iterate 2 with_reducible refine st ?_
 refine ln (U.out _ _ g _ S.out ?_ C.out G.out r);exact ag
theorem vt{R:Nat→Array Value→Prop}{v:aV}{P:aC}(h:Cop R n0 w0 zq v P w)(H:dP B w u ts)(y:B≤w.heap.size)(ac:B≤n0)(a:Act)(ad:a.tmps.size=116)(h5:At a 5 (.pointer (some ⟨zq,0,none⟩)))(h1:At a 1 u)(Q:Exit→Act→World→Prop)
 (M:∀J w' g v',g.Perm P.QG→aA (fun i=>rg 41 45 i) a J→Cop (fun _ _=>False) n0 w0 zq { v with QG:=v' } { P with QG:=g } w'→dP B w' u ts→B≤w'.heap.size→Q .normal J w'):(al Tryz.f4 [1,1,1,1,1,1,1,1,0]).wp Tryz.prog Q a w:=by
 have U:=hh M;have E:Hid (∀b,b<B→b=zq→False):=hh fun b l e=>by have:=h.zq;omega
 have q:w.cell? ⟨zq,7,none⟩=some v.QG:=(cell_of_row _ _ _ _ _ _ h.cell).trans rfl;have I:=hh h;have V:=hh (uq (D:=Dm n0 w) h.QL.QG H (fun b l=>Nat.lt_of_lt_of_le l y));have W:=hh H;clear M h H;have Z:aA (fun i=>rg 41 45 i) a a:=aA.refl _ _
 conv=>arg 2;whnf
 obtain⟨T,d⟩:=a;refine rl ?_
 iterate 3 with_reducible refine st ?_
 with_reducible refine Lz (fun K L=>?_)
 go_simp;refine V.out.mono ?_;rintro e x ⟨v2,rfl,O,hk⟩;obtain⟨g,N,j⟩:=I.out.turn_irqs O hk;have p:=(I.out.step hk).cell;have q2:x.cell? ⟨zq,7,none⟩=some v.QG:=(cell_of_row _ _ _ _ _ _ p).trans rfl;have Y:x.frozen? ⟨zq,7,none⟩=false:=dL p _;obtain⟨A2,c2,X,_⟩:∃A c,v2=.slice A g.length c∧True:=by obtain⟨A,c,e,_⟩:=j.QL.QG;exact⟨A,c,e,trivial⟩
 subst X;have C:=hh j;have S:=hh N;have n:=(ba x zq 7 (.slice A2 g.length c2));have G:Hid (dP B (x.setCell ⟨zq,7,none⟩ (.slice A2 g.length c2)) u ts):=hh (aD (W.out.keep hk y) (fun _ l=>l) (aW.of_keep n fun b l=>⟨Nat.lt_of_lt_of_le l (Nat.le_trans y hk.size),fun e=>E.out b l e⟩));have r:B≤(x.setCell ⟨zq,7,none⟩ (.slice A2 g.length c2)).heap.size:=Nat.le_trans (Nat.le_trans y hk.size) n.size;clear j N hk n O p;with_reducible refine L _ _ ?_;clear L K
 iterate 2 with_reducible refine st ?_
 refine ln (U.out _ _ g _ S.out ?_ C.out G.out r);exact ag
theorem tu{R:Nat→Array Value→Prop}{v:aV}{P:aC}(h:Cop R n0 w0 zq v P w)(H:dP B w u ts)(y:B≤w.heap.size)(ac:B≤n0)(a:Act)(ad:a.tmps.size=116)(h5:At a 5 (.pointer (some ⟨zq,0,none⟩)))(h1:At a 1 u)(Q:Exit→Act→World→Prop)
 (M:∀J w' g v',g.Perm P.Q9→aA (fun i=>rg 46 50 i) a J→Cop (fun _ _=>False) n0 w0 zq { v with Q9:=v' } { P with Q9:=g } w'→dP B w' u ts→B≤w'.heap.size→Q .normal J w'):(al Tryz.f4 [1,1,1,1,1,1,1,1,1,0]).wp Tryz.prog Q a w:=by
 have U:=hh M;have E:Hid (∀b,b<B→b=zq→False):=hh fun b l e=>by have:=h.zq;omega
 have q:w.cell? ⟨zq,9,none⟩=some v.Q9:=(cell_of_row _ _ _ _ _ _ h.cell).trans rfl;have I:=hh h;have V:=hh (uo (D:=Dm n0 w) h.QL.Q9 H (fun b l=>Nat.lt_of_lt_of_le l y));have W:=hh H;clear M h H;have Z:aA (fun i=>rg 46 50 i) a a:=aA.refl _ _
 conv=>arg 2;whnf
 obtain⟨T,d⟩:=a;refine rl ?_
 iterate 3 with_reducible refine st ?_
 with_reducible refine Lz (fun K L=>?_)
 go_simp;refine V.out.mono ?_;rintro e x ⟨v2,rfl,O,hk⟩;obtain⟨g,N,j⟩:=I.out.turn_plans O hk;have p:=(I.out.step hk).cell;have q2:x.cell? ⟨zq,9,none⟩=some v.Q9:=(cell_of_row _ _ _ _ _ _ p).trans rfl;have Y:x.frozen? ⟨zq,9,none⟩=false:=dL p _;obtain⟨A2,c2,X,_⟩:∃A c,v2=.slice A g.length c∧True:=by obtain⟨A,c,e,_⟩:=j.QL.Q9;exact⟨A,c,e,trivial⟩
 subst X;have C:=hh j;have S:=hh N;have n:=(ba x zq 9 (.slice A2 g.length c2));have G:Hid (dP B (x.setCell ⟨zq,9,none⟩ (.slice A2 g.length c2)) u ts):=hh (aD (W.out.keep hk y) (fun _ l=>l) (aW.of_keep n fun b l=>⟨Nat.lt_of_lt_of_le l (Nat.le_trans y hk.size),fun e=>E.out b l e⟩));have r:B≤(x.setCell ⟨zq,9,none⟩ (.slice A2 g.length c2)).heap.size:=Nat.le_trans (Nat.le_trans y hk.size) n.size;clear j N hk n O p;with_reducible refine L _ _ ?_;clear L K
 iterate 2 with_reducible refine st ?_
 refine ln (U.out _ _ g _ S.out ?_ C.out G.out r);exact ag
theorem rf{R:Nat→Array Value→Prop}{v:aV}{P:aC}(h:Cop R n0 w0 zq v P w)(H:dP B w u ts)(y:B≤w.heap.size)(ac:B≤n0)(a:Act)(ad:a.tmps.size=116)(h5:At a 5 (.pointer (some ⟨zq,0,none⟩)))(h1:At a 1 u)(Q:Exit→Act→World→Prop)
 (M:∀J w' g v',g.Perm P.QC→aA (fun i=>rg 51 55 i) a J→Cop (fun _ _=>False) n0 w0 zq { v with QC:=v' } { P with QC:=g } w'→dP B w' u ts→B≤w'.heap.size→Q .normal J w'):(al Tryz.f4 [1,1,1,1,1,1,1,1,1,1,0]).wp Tryz.prog Q a w:=by
 have U:=hh M;have E:Hid (∀b,b<B→b=zq→False):=hh fun b l e=>by have:=h.zq;omega
 have q:w.cell? ⟨zq,8,none⟩=some v.QC:=(cell_of_row _ _ _ _ _ _ h.cell).trans rfl;have I:=hh h;have V:=hh (un (D:=Dm n0 w) h.QL.QC H (fun b l=>Nat.lt_of_lt_of_le l y));have W:=hh H;clear M h H;have Z:aA (fun i=>rg 51 55 i) a a:=aA.refl _ _
 conv=>arg 2;whnf
 obtain⟨T,d⟩:=a;refine rl ?_
 iterate 3 with_reducible refine st ?_
 with_reducible refine Lz (fun K L=>?_)
 go_simp;refine V.out.mono ?_;rintro e x ⟨v2,rfl,O,hk⟩;obtain⟨g,N,j⟩:=I.out.turn_queues O hk;have p:=(I.out.step hk).cell;have q2:x.cell? ⟨zq,8,none⟩=some v.QC:=(cell_of_row _ _ _ _ _ _ p).trans rfl;have Y:x.frozen? ⟨zq,8,none⟩=false:=dL p _;obtain⟨A2,c2,X,_⟩:∃A c,v2=.slice A g.length c∧True:=by obtain⟨A,c,e,_⟩:=j.QL.QC;exact⟨A,c,e,trivial⟩
 subst X;have C:=hh j;have S:=hh N;have n:=(ba x zq 8 (.slice A2 g.length c2));have G:Hid (dP B (x.setCell ⟨zq,8,none⟩ (.slice A2 g.length c2)) u ts):=hh (aD (W.out.keep hk y) (fun _ l=>l) (aW.of_keep n fun b l=>⟨Nat.lt_of_lt_of_le l (Nat.le_trans y hk.size),fun e=>E.out b l e⟩));have r:B≤(x.setCell ⟨zq,8,none⟩ (.slice A2 g.length c2)).heap.size:=Nat.le_trans (Nat.le_trans y hk.size) n.size;clear j N hk n O p;with_reducible refine L _ _ ?_;clear L K
 iterate 2 with_reducible refine st ?_
 refine ln (U.out _ _ g _ S.out ?_ C.out G.out r);exact ag
theorem qR{R:Nat→Array Value→Prop}{v:aV}{P:aC}(h:Cop R n0 w0 zq v P w)(H:dP B w u ts)(y:B≤w.heap.size)(ac:B≤n0)(a:Act)(ad:a.tmps.size=116)(h5:At a 5 (.pointer (some ⟨zq,0,none⟩)))(h1:At a 1 u)(Q:Exit→Act→World→Prop)
 (M:∀J w' g v',g.Perm P.QA→aA (fun i=>rg 56 60 i) a J→Cop (fun _ _=>False) n0 w0 zq { v with QA:=v' } { P with QA:=g } w'→dP B w' u ts→B≤w'.heap.size→Q .normal J w'):(al Tryz.f4 [1,1,1,1,1,1,1,1,1,1,1,0]).wp Tryz.prog Q a w:=by
 have U:=hh M;have E:Hid (∀b,b<B→b=zq→False):=hh fun b l e=>by have:=h.zq;omega
 have q:w.cell? ⟨zq,13,none⟩=some v.QA:=(cell_of_row _ _ _ _ _ _ h.cell).trans rfl;have I:=hh h;have V:=hh (ul (D:=Dm n0 w) h.QL.QA H (fun b l=>Nat.lt_of_lt_of_le l y));have W:=hh H;clear M h H;have Z:aA (fun i=>rg 56 60 i) a a:=aA.refl _ _
 conv=>arg 2;whnf
 obtain⟨T,d⟩:=a;refine rl ?_
 iterate 3 with_reducible refine st ?_
 with_reducible refine Lz (fun K L=>?_)
 go_simp;refine V.out.mono ?_;rintro e x ⟨v2,rfl,O,hk⟩;obtain⟨g,N,j⟩:=I.out.turn_forbids O hk;have p:=(I.out.step hk).cell;have q2:x.cell? ⟨zq,13,none⟩=some v.QA:=(cell_of_row _ _ _ _ _ _ p).trans rfl;have Y:x.frozen? ⟨zq,13,none⟩=false:=dL p _;obtain⟨A2,c2,X,_⟩:∃A c,v2=.slice A g.length c∧True:=by obtain⟨A,c,e,_⟩:=j.QL.QA;exact⟨A,c,e,trivial⟩
 subst X;have C:=hh j;have S:=hh N;have n:=(ba x zq 13 (.slice A2 g.length c2));have G:Hid (dP B (x.setCell ⟨zq,13,none⟩ (.slice A2 g.length c2)) u ts):=hh (aD (W.out.keep hk y) (fun _ l=>l) (aW.of_keep n fun b l=>⟨Nat.lt_of_lt_of_le l (Nat.le_trans y hk.size),fun e=>E.out b l e⟩));have r:B≤(x.setCell ⟨zq,13,none⟩ (.slice A2 g.length c2)).heap.size:=Nat.le_trans (Nat.le_trans y hk.size) n.size;clear j N hk n O p;with_reducible refine L _ _ ?_;clear L K
 iterate 2 with_reducible refine st ?_
 refine ln (U.out _ _ g _ S.out ?_ C.out G.out r);exact ag
theorem vr{v:aV}{P:aC}(a7:Cop (fun _ _=>False) n0 w0 zq v P w)(c3:dP B w u ts)(cv:B≤w.heap.size)(es:B≤n0)(a:Act)(ah:a.tmps.size=116)(h5:At a 5 (.pointer (some ⟨zq,0,none⟩)))(h1:At a 1 u)(Q:Exit→Act→World→Prop)
 (hQ:∀C w' G,kG P.Q3 G→aA (fun i=>i==6||(rg 61 80 i)) a C→Cop (fun _ _=>False) n0 w0 zq v { P with Q3:=G } w'→dP B w' u ts→B≤w'.heap.size→Q .normal C w'):(al Tryz.f4 [1,1,1,1,1,1,1,1,1,1,1,1,0]).wp Tryz.prog Q a w:=by
 have cx:P.Q3.length≤2097152:=by obtain⟨_,_,_,_,h,_⟩:=a7.QL.Q3;exact h
 have HQ:=hh hQ;clear hQ
 conv=>arg 2;whnf
 refine so (fun a1 w1=>aA (fun i=>i==6) a a1∧At a1 6 (.int .i64 0)∧w1=w) ?_ ?_
 ·have a6:aA (fun i=>i==6) a a:=aA.refl _ _
  obtain⟨T,d⟩:=a;refine rl ?_;with_reducible refine st ?_
  refine ln ⟨rfl,ag,aq,rfl⟩
 rintro a1 w1 ⟨cu,V,rfl⟩;refine gz P.Q3.length (fun k C w'=>aA (fun i=>i==6||(rg 61 80 i)) a C∧At C 6 (.int .i64 (k:Nat))∧∃G,kG P.Q3 G∧Cop (fun _ _=>False) n0 w0 zq v { P with Q3:=G } w'∧dP B w' u ts∧B≤w'.heap.size) (fun k C w'=>aA (fun i=>i==6||(rg 61 80 i)) a C∧At C 6 (.int .i64 (k:Nat))∧∃G,kG P.Q3 G∧Cop (fun _ _=>False) n0 w0 zq v { P with Q3:=G } w'∧dP B w' u ts∧B≤w'.heap.size) (fun a=>match a.eval (.tmp 6)with|.int _ x=>x.toNat|_=>0) ⟨cu.m,V,P.Q3,rb _,a7,c3,cv⟩ ?_ ?_ ?_ ?_ ?_
 ·rintro k C w' ⟨N,hk,_⟩
  rw[hk.eval (by rw[N.size];omega)];show((k:Nat):Int).toNat=k;omega
 ·rintro k b O e5 ⟨N,V,G,hM,S,hU,M⟩
  have W:=hM.len;have an:=N.Q7 h5 rfl;have X:=N.size.trans ah;obtain⟨A0,c0,e0,cw,e6,_⟩:=S.QL.Q3;replace e0:v.Q3=.slice A0 P.Q3.length c0:=by rw[←W];exact e0
  have q:O.cell? ⟨zq,5,none⟩=some (.slice A0 P.Q3.length c0):=by rw[cell_of_row _ _ _ _ _ _ S.cell,←e0];rfl
  have bb:(decide ((k:Int)<(P.Q3.length:Int)))=decide (k<P.Q3.length):=by simp
  have HC:=hh S;have HA:=hh N;have HU:=hh hU;have HM:=hh hM;clear S N e0 hU hM W;have a6:aA (fun i=>rg 61 65 i) b b:=aA.refl _ _;obtain⟨T,d⟩:=b;refine rl ?_
  iterate 5 with_reducible refine st ?_
  refine ln ?_;refine⟨rfl,⟨HA.out.trans (vs:=fun i=>rg 61 65 i) (by exact ag) (by intro j;simp;omega),ar,G,HM.out,HC.out,HU.out,M⟩,?_⟩;refine At.eval (i:=65) ?_ (by simp;have:=X;simp at this;omega)
  first|(exact aq)|(rw[←bb];exact aq)
 ·rintro k b O af ⟨N,V,G,hM,S,hU,M⟩
  have W:=hM.len;rw[←W]at af cx;have an:=N.Q7 h5 rfl;have bm:=N.Q7 h1 rfl;have X:=N.size.trans ah;obtain⟨x,hx⟩:=ge af;obtain⟨b2,H⟩:=S.QI.Q3;replace H:O.ownsRow n0 52 6 v.Q3 G.length b2:=H;obtain⟨l,Z,U⟩:∃g c,v.Q3=.slice (some ⟨g,0,none⟩) G.length c:=by obtain⟨g,c,e,_⟩:=H.form (by omega);exact⟨g,c,e⟩
  obtain⟨ev,a9,e2⟩:=aL H (g:=l) (by rw[U];rfl);have bf:aM (Dm n0 O 52) 6 (cA (Dm n0 O)) O v.Q3 G:=S.QL.Q3;rw[U]at bf;obtain⟨A,c1,e,cw,_,hl⟩:=bf;obtain⟨rfl,rfl⟩:some ⟨l,0,none⟩=A∧Z=c1:=by simpa using e
  obtain⟨b0,off,e,_,hr⟩:=hl (by omega);obtain⟨rfl,rfl⟩:l=b0∧0=off:=by simpa using e
  obtain⟨mv,rv,R,bc,c2,_⟩:=hr k x hx;rw[Nat.zero_add]at R;have q:O.cell? ⟨zq,5,none⟩=some (.slice (some ⟨l,0,none⟩) G.length Z):=by rw[cell_of_row _ _ _ _ _ _ S.cell,←U];rfl
  have qm:O.cell? ⟨l,k*6+4,none⟩=some mv:=R 4 _ rfl;have fz:O.frozen? ⟨l,k*6+4,none⟩=false:=by rw[U]at H;exact H.frozenAt _
  have c4:=aG S.cell;have bd:Hid (∀w',Kz O.drew w'→w'.cell? ⟨zq,5,none⟩=some (.slice (some ⟨l,0,none⟩) G.length Z)):=hh fun w' hw=>(hw.cell (p:=⟨zq,5,none⟩) c4 (fun x=>x)).trans q
  have be:Hid (∀w',Kz O.drew w'→w'.cell? ⟨l,k*6+4,none⟩=some mv):=hh fun w' hw=>(hw.cell (p:=⟨l,k*6+4,none⟩) a9 (fun x=>x)).trans qm
  have cy:Hid (∀w',Kz O.drew w'→w'.frozen? ⟨l,k*6+4,none⟩=false):=hh fun w' hw=>(hw.frozen (p:=⟨l,k*6+4,none⟩) a9 (fun x=>x)).trans fz
  have HC:=hh S;have HA:=hh N;have HM:=hh bc;have HX:=hh hx;have HV:=hh U;have HU:=hh hU;have bz:=hh hM;clear S N H hl hr R bc c2 q qm fz hx U e hU hM W;refine cS 13 (fun jj w_ u_=>if jj=10 then∃ms:List Ck.Map,ms.Perm x.maps∧aM (Dm n0 w_ 71) 5 cD w_ u_ ms else u_=([.pointer (some ⟨zq,5,none⟩),.slice (some ⟨l,0,none⟩) G.length Z,.int .i64 (k:Nat),.pointer (some ⟨zq,5,none⟩),.slice (some ⟨l,0,none⟩) G.length Z,.int .i64 (k:Nat),.pointer (some ⟨l,k*6,none⟩),.pointer (some ⟨l,k*6+4,none⟩),mv,u,undef,.pointer (some ⟨l,k*6,none⟩),.pointer (some ⟨l,k*6+4,none⟩)]:List Value).getD jj undef) (fun w'=>Kz O.drew w') (by kernel_rfl) (by kernel_rfl) (aB.refl _ _) ?_ ?_
  ·intro i o hi n C w' K I J y r
   have bl:C.tmps.size=116:=J.size.trans (by first|assumption|(simp only[Array.size_setIfInBounds];assumption));have Y:=J.Q7 V rfl;have a2:=J.Q7 an rfl;have a0:=J.Q7 bm rfl
   match i,hi,n,y,r with
   | 0,_,n,y,r =>
    obtain rfl:=oi n;obtain⟨T,d⟩:=C;go_simp;exact r (.pointer (some ⟨zq,5,none⟩)) _ I (fun _ _ h=>h) rfl
   | 1,_,n,y,r =>
    obtain rfl:=oi n;obtain⟨c6,d6,b3⟩:=y 0 (by kernel_rfl) (by decide) 68 rfl;obtain rfl:c6=.pointer (some ⟨zq,5,none⟩):=b3;have qq:=bd.out w' I;obtain⟨T,d⟩:=C;go_simp;exact r (.slice (some ⟨l,0,none⟩) G.length Z) _ I (fun _ _ h=>h) rfl
   | 2,_,n,y,r =>
    obtain rfl:=oi n;obtain⟨T,d⟩:=C;go_simp;exact r (.int .i64 (k:Nat)) _ I (fun _ _ h=>h) rfl
   | 3,_,n,y,r =>
    obtain rfl:=oi n;obtain⟨T,d⟩:=C;go_simp;exact r (.pointer (some ⟨zq,5,none⟩)) _ I (fun _ _ h=>h) rfl
   | 4,_,n,y,r =>
    obtain rfl:=oi n;obtain⟨c9,d9,cb⟩:=y 3 (by kernel_rfl) (by decide) 71 rfl;obtain rfl:c9=.pointer (some ⟨zq,5,none⟩):=cb;have qq:=bd.out w' I;obtain⟨T,d⟩:=C;go_simp;exact r (.slice (some ⟨l,0,none⟩) G.length Z) _ I (fun _ _ h=>h) rfl
   | 5,_,n,y,r =>
    obtain rfl:=oi n;obtain⟨T,d⟩:=C;go_simp;exact r (.int .i64 (k:Nat)) _ I (fun _ _ h=>h) rfl
   | 6,_,n,y,r =>
    obtain rfl:=oi n;obtain⟨di,eb,cc⟩:=y 4 (by kernel_rfl) (by decide) 72 rfl;obtain rfl:di=.slice (some ⟨l,0,none⟩) G.length Z:=cc;obtain⟨dk,eg,cf⟩:=y 5 (by kernel_rfl) (by decide) 73 rfl;obtain rfl:dk=.int .i64 (k:Nat):=cf;obtain⟨T,d⟩:=C;go_simp;exact r (.pointer (some ⟨l,k*6,none⟩)) _ I (fun _ _ h=>h) rfl
   | 7,_,n,y,r =>
    obtain rfl:=oi n;obtain⟨dl,el,ci⟩:=y 6 (by kernel_rfl) (by decide) 74 rfl;obtain rfl:dl=.pointer (some ⟨l,k*6,none⟩):=ci;obtain⟨T,d⟩:=C;go_simp;exact r (.pointer (some ⟨l,k*6+4,none⟩)) _ I (fun _ _ h=>h) rfl
   | 8,_,n,y,r =>
    obtain rfl:=oi n;obtain⟨ds,en,cl⟩:=y 7 (by kernel_rfl) (by decide) 75 rfl;obtain rfl:ds=.pointer (some ⟨l,k*6+4,none⟩):=cl;have qq:=be.out w' I;obtain⟨T,d⟩:=C;go_simp;exact r (mv) _ I (fun _ _ h=>h) rfl
   | 9,_,n,y,r =>
    obtain rfl:=oi n;obtain⟨T,d⟩:=C;go_simp;exact r (u) _ I (fun _ _ h=>h) rfl
   | 10,_,n,y,r =>
    obtain rfl:=oi n;obtain⟨d0,eo,cp⟩:=y 8 (by kernel_rfl) (by decide) 76 rfl;obtain rfl:d0=mv:=cp;obtain⟨d1,er,ct⟩:=y 9 (by kernel_rfl) (by decide) 77 rfl;obtain rfl:d1=u:=ct;have E:=((aB.refl (fun _=>False) O).drew).trans I (fun _ _ h=>h);have a8:=uk (D:=fun _ _=>False) (aD HM.out (D':=Dm n0 w' 71) (fun b J=>J.keep E) (bM E _)) (HU.out.keep E M) (fun b J=>Nat.lt_of_lt_of_le J (Nat.le_trans M E.size));have bu:=hh a8;have d5:n0≤w'.heap.size:=by have:=E.size;omega
    clear a8 E;have bx:=hh r;clear r;obtain⟨T,d⟩:=C;go_simp;refine bu.out.mono ?_;rintro e w2 ⟨c5,rfl,⟨ys,cs,hp,g1,_,g2⟩,g3⟩;refine bx.out c5 w2 (I.trans g3 (fun _ _ h=>h)) (fun jj u' h=>?_) ⟨ys,hp,b6 iq (D:=fun _ _=>False) (D':=fun _ _=>False) g1 g2 (by rw[hp.length_eq];obtain⟨_,_,_,_,h,_⟩:=HM.out;exact h) (fun g hg=>by obtain⟨_,h2,h3⟩:=aL g2 hg;exact⟨h2,.inr h3⟩) (fun _ _ _ h=>h) (fun _ h=>False.elim h)⟩
    by_cases hj9:jj=10
    ·subst hj9
     obtain⟨ms,h1,h2⟩:∃ms:List Ck.Map,ms.Perm x.maps∧aM (Dm n0 w' 71) 5 cD w' u' ms:=h;exact⟨ms,h1,aD h2 (fun b J=>J.keep g3) (bM g3 _)⟩
    ·rw[if_neg hj9]at h⊢; exact h
   | 11,_,n,y,r =>
    obtain rfl:=oi n;obtain⟨c7,d7,b4⟩:=y 1 (by kernel_rfl) (by decide) 69 rfl;obtain rfl:c7=.slice (some ⟨l,0,none⟩) G.length Z:=b4;obtain⟨c8,d8,b5⟩:=y 2 (by kernel_rfl) (by decide) 70 rfl;obtain rfl:c8=.int .i64 (k:Nat):=b5;obtain⟨T,d⟩:=C;go_simp;exact r (.pointer (some ⟨l,k*6,none⟩)) _ I (fun _ _ h=>h) rfl
   | 12,_,n,y,r =>
    obtain rfl:=oi n;obtain⟨bp,d3,a4⟩:=y 11 (by kernel_rfl) (by decide) 79 rfl;obtain rfl:bp=.pointer (some ⟨l,k*6,none⟩):=a4;obtain⟨T,d⟩:=C;go_simp;exact r (.pointer (some ⟨l,k*6+4,none⟩)) _ I (fun _ _ h=>h) rfl
   | i+13,hi,_,_,_=>omega
  ·intro o n C w' I J y
   obtain rfl:=oi n;have bl:C.tmps.size=116:=J.size.trans (by first|assumption|(simp only[Array.size_setIfInBounds];assumption));have Y:=J.Q7 V rfl;have a2:=J.Q7 an rfl;have a0:=J.Q7 bm rfl;obtain⟨bo,d2,L⟩:=y 10 (by decide) 78 rfl;replace L:∃ms:List Ck.Map,ms.Perm x.maps∧aM (Dm n0 w' 71) 5 cD w' bo ms:=L;obtain⟨bt,d4,a5⟩:=y 12 (by decide) 80 rfl;obtain rfl:bt=.pointer (some ⟨l,k*6+4,none⟩):=a5;obtain⟨T,d⟩:=C;have E:=((aB.refl (fun _=>False) O).drew).trans I (fun _ _ h=>h);have qq:=be.out w' I;have qf:=cy.out w' I;obtain⟨ms,hp,L⟩:=L;have ac:=(HC.out.step E).set_maps HV.out HX.out L;have bw:=hh ac;have HB:=hh J;obtain⟨Am,cm,em,_⟩:=L;subst em;have ad:=ba w' l (k*6+4) (.slice Am ms.length cm);have b1:Hid (dP B (w'.setCell ⟨l,k*6+4,none⟩ (.slice Am ms.length cm)) u ts):=hh (aD (HU.out.keep E M) (fun _ J=>J) (aW.of_keep ad fun b J=>⟨Nat.lt_of_lt_of_le J (Nat.le_trans M E.size),fun e=>by omega⟩));have bj:B≤(w'.setCell ⟨l,k*6+4,none⟩ (.slice Am ms.length cm)).heap.size:=Nat.le_trans (Nat.le_trans M E.size) ad.size;have a3:=hh (bz.out.set_ HX.out hp);clear ac J E I ad hp;with_reducible refine st (ln ?_)
   refine⟨HA.out.trans (HB.out.agree (ws:=fun i=>rg 61 80 i) (by kernel_rfl)) (by intro j;simp;omega),Y,_,a3.out,bw.out,b1.out,bj⟩
 ·rintro k b O af ⟨N,V,hI⟩
  have X:=N.size.trans ah;have e1:IntKind.i64.wrap ((k:Int)+1)=((k+1:Nat):Int):=by rw[i64_in _ (by omega)];omega
  have HI:=hh hI;have HA:=hh N;clear hI N;have a6:aA (fun i=>i==6||i==66||i==67) b b:=aA.refl _ _;obtain⟨T,d⟩:=b;refine rl ?_
  iterate 3 with_reducible refine st ?_
  refine ln ⟨rfl,HA.out.trans (vs:=fun i=>i==6||i==66||i==67) (by exact ag) (by intro j;simp;omega),?_,HI.out⟩;rw[show((k+1:Nat):Int)=(k:Int)+1 by omega];exact aq
 ·rintro b O ⟨N,_,G,hM,S,hU,M⟩
  exact HQ.out b O G hM N S hU M
theorem ww{v:aV}{P:aC}{A:Array Value}(hk:Kz w0 w)(B:n0=w0.heap.size)(p:gB (Dm n0 w) w v P)(q:pL n0 w v P)(u:w.heap[z]?=some (.cells A 34 (0,0)))(x:n0≤z):Cop (fun _ _=>False) n0 w0 z v P (w.setRow z (v.cells P).toArray):=by
 have h:=lf (cs:=(v.cells P).toArray) u;have l:bk w z=some 34:=by unfold bk;rw[u]
 have y:∀k,bk (w.setRow z (v.cells P).toArray) k=bk w k:=fun k=>by
  by_cases e:k=z
  ·subst e;unfold bk;rw[setRow_heap w k _ _ _ _ u,u]
  ·unfold bk;rw[setRow_other w z k _ e]
 have d:∀T b,Dm n0 w T b→Dm n0 (w.setRow z (v.cells P).toArray) T b:=fun T b a=>⟨Nat.lt_of_lt_of_le a.1 h.size,a.2.imp id fun e=>(y b).trans e⟩
 have j:∀T,T≠34→aW (Dm n0 w T) w (w.setRow z (v.cells P).toArray):=fun T r=>aW.of_keep h fun b a=>⟨a.1,a.ne x l r⟩
 exact⟨hk.trans h (fun i C e=>by omega),B,setRow_heap w z _ _ _ _ u,x,fun _ _ e=>e.elim,⟨aD p.QF (fun b a=>d _ b a) (j _ (by decide)),ao.same p.Q4 (fun b a=>d _ b a) (j _ (by decide)) (fun T _ b a=>d T b a) (fun T r=>j T (by subst r;decide)),aD p.Q5 (fun b a=>d _ b a) (j _ (by decide)),aj.same p.Q3 (fun b a=>d _ b a) (j _ (by decide)) (fun T _ b a=>d T b a) (fun T r=>j T (by rcases r with rfl|rfl<;>decide)),aD p.Q8 (fun b a=>d _ b a) (j _ (by decide)),aD p.QG (fun b a=>d _ b a) (j _ (by decide)),aD p.QC (fun b a=>d _ b a) (j _ (by decide)),au.same p.Q9 (fun b a=>d _ b a) (j _ (by decide)) (fun T _ b a=>d T b a) (fun T r=>j T (by rcases r with rfl|rfl<;>decide)),aD p.QD (fun b a=>d _ b a) (j _ (by decide)),aD p.QE (fun b a=>d _ b a) (j _ (by decide)),aD p.QB (fun b a=>d _ b a) (j _ (by decide)),aD p.QA (fun b a=>d _ b a) (j _ (by decide)),p.pos,p.name⟩,⟨let⟨cs,hcs⟩:=q.QF;⟨cs,aR hcs h (fun g n e=>by have:=(aL hcs n).2.2;rw[e,l]at this;exact absurd (Option.some.inj this) (by decide))⟩,let⟨cs,hcs⟩:=q.Q4;⟨cs,aR hcs h (fun g n e=>by have:=(aL hcs n).2.2;rw[e,l]at this;exact absurd (Option.some.inj this) (by decide))⟩,let⟨cs,hcs⟩:=q.Q5;⟨cs,aR hcs h (fun g n e=>by have:=(aL hcs n).2.2;rw[e,l]at this;exact absurd (Option.some.inj this) (by decide))⟩,let⟨cs,hcs⟩:=q.Q3;⟨cs,aR hcs h (fun g n e=>by have:=(aL hcs n).2.2;rw[e,l]at this;exact absurd (Option.some.inj this) (by decide))⟩,let⟨cs,hcs⟩:=q.Q8;⟨cs,aR hcs h (fun g n e=>by have:=(aL hcs n).2.2;rw[e,l]at this;exact absurd (Option.some.inj this) (by decide))⟩,let⟨cs,hcs⟩:=q.QG;⟨cs,aR hcs h (fun g n e=>by have:=(aL hcs n).2.2;rw[e,l]at this;exact absurd (Option.some.inj this) (by decide))⟩,let⟨cs,hcs⟩:=q.QC;⟨cs,aR hcs h (fun g n e=>by have:=(aL hcs n).2.2;rw[e,l]at this;exact absurd (Option.some.inj this) (by decide))⟩,let⟨cs,hcs⟩:=q.Q9;⟨cs,aR hcs h (fun g n e=>by have:=(aL hcs n).2.2;rw[e,l]at this;exact absurd (Option.some.inj this) (by decide))⟩,let⟨cs,hcs⟩:=q.QD;⟨cs,aR hcs h (fun g n e=>by have:=(aL hcs n).2.2;rw[e,l]at this;exact absurd (Option.some.inj this) (by decide))⟩,let⟨cs,hcs⟩:=q.QE;⟨cs,aR hcs h (fun g n e=>by have:=(aL hcs n).2.2;rw[e,l]at this;exact absurd (Option.some.inj this) (by decide))⟩,let⟨cs,hcs⟩:=q.QB;⟨cs,aR hcs h (fun g n e=>by have:=(aL hcs n).2.2;rw[e,l]at this;exact absurd (Option.some.inj this) (by decide))⟩,let⟨cs,hcs⟩:=q.QA;⟨cs,aR hcs h (fun g n e=>by have:=(aL hcs n).2.2;rw[e,l]at this;exact absurd (Option.some.inj this) (by decide))⟩⟩⟩
theorem tB{v:aV}{P:aC}(hp:cX B w v P)(hu:dP B w u ts)(h3:gm B w)(hB:B≤w.heap.size):
 Calls Tryz.prog 4 #[.agg (v.cells P).toArray,u] w fun e w'=>e=.returned (.bool true)∧Kz w w':=by
 have HP:=hh hp;have HU:=hh hu;have HL:=hh h3;refine az Tryz.func4 Tryz.ntmps4 rfl (by show 2≤116;decide) fun a m6 j h=>?_
 have h0:At a 0 (.agg #[.int .i64 P.pos,.string P.name,v.QF,v.Q4,v.Q5,v.Q3,v.Q8,v.QG,v.QC,v.Q9,v.QD,v.QE,v.QB,v.QA]):=h 0 _ rfl;have D:At a 1 u:=h 1 _ rfl;clear h hp hu h3
 conv=>arg 2;whnf
 refine so (fun bf W=>aA (fun i=>i==2||i==4) a bf∧At bf 2 (.pointer (some ⟨w.heap.size,0,none⟩))∧W=w.alloc (.cells #[.int .i64 P.pos,.string P.name,v.QF,v.Q4,v.Q5,v.Q3,v.Q8,v.QG,v.QC,v.Q9,v.QD,v.QE,v.QB,v.QA] 34)) ?_ ?_
 ·have bb:aA (fun i=>i==2||i==4) a a:=aA.refl _ _
  obtain⟨T,d⟩:=a;refine rl ?_
  iterate 2 with_reducible refine st ?_
  refine ln ⟨rfl,ag,aq,rfl⟩
 rintro bf W ⟨an,E,bl⟩;replace h0:=an.Q7 h0 rfl;replace D:=an.Q7 D rfl;have i5:=an.size.trans m6;have my:=an.defers.trans j;obtain⟨z,hz⟩:∃z,z=w.heap.size:=⟨_,rfl⟩;rw[←hz]at E;have X:Kz w W:=by rw[bl];exact(aB.refl _ _).alloc _
 have fz:W.heap[z]?=some (.cells (v.cells P).toArray 34 (0,0)):=by rw[bl,hz];exact heap_alloc_new _ _
 have k2:=hh X;have FZ:=hh fz;have HG:Hid (Calls Tryz.prog 9 #[.agg #[.int .i64 P.pos,.string P.name,v.QF,v.Q4,v.Q5,v.Q3,v.Q8,v.QG,v.QC,v.Q9,v.QD,v.QE,v.QB,v.QA]] W fun e w'=>∃b:Bool,e=.returned (.bool b)∧Kz W w'):=hh (uF (HP.out.below (X.below0 hB)) (Nat.le_trans hB X.size));obtain⟨q0,q1,q2,q3,q4,q5,q6,q7,q8,q9,O,S,U,V⟩:=bq fz;clear bl hz h0 X fz;refine wp_seq (wp_seq (Code.wp_only (R:=fun a2 w2=>aA (fun i=>i==11||i==12) bf a2∧(∃b:Bool,At a2 12 (.bool b))∧Kz W w2) ?_ ?_))
 ·have bb:aA (fun i=>i==11||i==12) bf bf:=aA.refl _ _
  obtain⟨T,d⟩:=bf;refine rl ?_;with_reducible refine st ?_;refine Lz (fun K l=>?_)
  go_simp;refine HG.out.mono ?_;rintro e w2 ⟨b,rfl,G⟩;with_reducible refine l _ _ (ln ?_)
  refine⟨rfl,ag,⟨b,aq⟩,G⟩
 rintro a2 w2 ⟨c1,⟨gb,f4⟩,G⟩;have D:=c1.Q7 D rfl;have E:=c1.Q7 E rfl;have bo:=c1.size.trans i5;have ht:=c1.defers.trans my;have L:Kz w w2:=k2.out.trans G (fun _ _ h=>h);have gr:gm w2.heap.size w2:=(HL.out.below (L.below0 hB)).mono (Nat.le_trans hB L.size);have J:B≤w2.heap.size:=Nat.le_trans hB L.size;have gt:cX B w2 v P:=HP.out.below (L.below0 hB);have gy:dP B w2 u ts:=HU.out.keep L hB;have bz:=(G.block z (aG FZ.out) (fun x=>x)).trans FZ.out;clear HG q0 q1 q2 q3 q4 q5 q6 q7 q8 q9 O S U V;refine wp_cond_split (f4.eval (by omega)) (fun hg=>?_) (fun hg=>?_)
 ·clear hg
  have en:=hh (mN gr);have b5:=hh L;refine so (fun a9 w9=>aA (fun i=>i==4||i==13) a2 a9∧At a9 4 (.bool true)∧Kz w2 w9) ?_ ?_
  ·have bb:aA (fun i=>i==4||i==13) a2 a2:=aA.refl _ _
   skip;obtain⟨T,d⟩:=a2;refine rl ?_;with_reducible refine Lz (fun K l=>?_)
   go_simp;refine en.out.mono ?_;rintro e w9 ⟨rfl,bj⟩;with_reducible refine l _ _ ?_;clear l K;refine st ?_
   refine ln ⟨rfl,ag,aq,bj⟩
  rintro a9 w9 ⟨N,h4,bj⟩;refine wp_ret ?_
  repeat (first|with_reducible apply b8|with_reducible apply bG)
  refine b9 (t:=4) rfl h4 (by rw[N.size,bo];decide) (N.defers.trans ht) ?_;exact⟨rfl,b5.out.trans bj (fun _ _ h=>h)⟩
 refine wp_skip ?_;show Code.wp _ _ _ _ _;clear hg f4 gb;have be:=hh (s9 gt J);have e8:Hid (Calls Tryz.prog 10 #[.agg #[.int .i64 P.pos,.string P.name,v.QF,v.Q4,v.Q5,v.Q3,v.Q8,v.QG,v.QC,v.Q9,v.QD,v.QE,v.QB,v.QA]] w2 fun e w'=>∃v',e=.returned (.agg (v'.cells P).toArray)∧gB (Dm w2.heap.size w') w' v' P∧pL w2.heap.size w' v' P∧Kz w2 w'):=be;clear be;obtain⟨q0,q1,q2,q3,q4,q5,q6,q7,q8,q9,O,S,U,V⟩:=bq bz;have c9:=hh L;have M:=hh bz;have fl:=hh gy;clear L bz G gt gr gy;refine so (fun a3 w3=>aA (fun i=>i==5||i==14||i==15) a2 a3∧∃zq v2,At a3 5 (.pointer (some ⟨zq,0,none⟩))∧Cop (fun _ _=>False) w2.heap.size w2 zq v2 P w3) ?_ ?_
 ·have bb:aA (fun i=>i==5||i==14||i==15) a2 a2:=aA.refl _ _
  obtain⟨T,d⟩:=a2;refine rl ?_;with_reducible refine st ?_;refine Lz (fun K l=>?_)
  go_simp;refine e8.out.mono ?_;rintro e w3 ⟨v2,rfl,id,h6,c6⟩;with_reducible refine l _ _ ?_;clear l K
  have ff:=hh id;have k5:=hh h6;have fc:=hh c6;clear id h6 c6 q0 q1 q2 q3 q4 q5 q6 q7 q8 q9 O S U V;with_reducible refine st ?_
  refine wpList_store_row rfl 34 (.tmp 5) (.tmp 15) rfl w3.heap.size (v2.cells P).toArray (At.eval At.self (by simp;have:=bo;simp at this;omega)) (At.eval (by exact aq) (by simp;have:=bo;simp at this;omega)) 34 #[.int .i64 0,.string { data := #[] },.slice none 0 0,.slice none 0 0,.slice none 0 0,.slice none 0 0,.slice none 0 0,.slice none 0 0,.slice none 0 0,.slice none 0 0,.slice none 0 0,.slice none 0 0,.slice none 0 0,.slice none 0 0] (heap_alloc_new _ _) Tryz.info34C rfl ff.out.ones (ln ⟨rfl,?_,w3.heap.size,v2,?_,?_⟩)
  ·show aA _ _ ⟨_,_⟩
   exact ag
  ·show At ⟨_,_⟩ _ _
   exact At.self
  ·have c7:Kz w3 (w3.alloc (.cells #[.int .i64 0,.string { data := #[] },.slice none 0 0,.slice none 0 0,.slice none 0 0,.slice none 0 0,.slice none 0 0,.slice none 0 0,.slice none 0 0,.slice none 0 0,.slice none 0 0,.slice none 0 0,.slice none 0 0,.slice none 0 0] 34)):=(aB.refl _ _).alloc _
   exact ww (fc.out.trans c7 (fun _ _ h=>h)) rfl (ff.out.same (fun T b A=>A.keep c7) (fun T=>bM c7 T)) (k5.out.keep c7) (heap_alloc_new _ _) fc.out.size
 rintro a3 w3 ⟨cb,zq,v2,y,c3⟩;have D:=cb.Q7 D rfl;have E:=cb.Q7 E rfl;have d7:=cb.size.trans bo;have mb:=cb.defers.trans ht;have ha:=fl.out.keep c3.keep J;have l0:=Nat.le_trans J c3.keep.size;clear e8 q0 q1 q2 q3 q4 q5 q6 q7 q8 q9 O S U V;refine wp_seq (vq c3 ha l0 J a3 d7 y D _ fun a4 w4 y4 u4 ih bp gf hc l1=>?_);replace D:=bp.Q7 D rfl;replace E:=bp.Q7 E rfl;replace y:=bp.Q7 y rfl;have d8:=bp.size.trans d7;have mc:=bp.defers.trans mb;refine wp_seq (qS gf hc l1 J a4 d8 y D _ fun a5 w5 y5 u5 it bt gg hf l2=>?_);replace D:=bt.Q7 D rfl;replace E:=bt.Q7 E rfl;replace y:=bt.Q7 y rfl;have d9:=bt.size.trans d8;have me:=bt.defers.trans mc;refine wp_seq (qQ gg hf l2 J a5 d9 y D _ fun a6 w6 y6 u6 ix bu gl hj l3=>?_);replace D:=bu.Q7 D rfl;replace E:=bu.Q7 E rfl;replace y:=bu.Q7 y rfl;have eb:=bu.size.trans d9;have mk:=bu.defers.trans me;refine wp_seq (p3 gl hj l3 J a6 eb y D _ fun a7 w7 y7 u7 i0 bw gn hk l4=>?_);replace D:=bw.Q7 D rfl;replace E:=bw.Q7 E rfl;replace y:=bw.Q7 y rfl;have eg:=bw.size.trans eb;have ms:=bw.defers.trans mk;refine wp_seq (p4 gn hk l4 J a7 eg y D _ fun a8 w8 y8 u8 i1 bx go hl l5=>?_);replace D:=bx.Q7 D rfl;replace E:=bx.Q7 E rfl;replace y:=bx.Q7 y rfl;have el:=bx.size.trans eg;have mv:=bx.defers.trans ms;refine wp_seq (vt go hl l5 J a8 el y D _ fun a9 w9 y9 u9 i2 N gp hm l6=>?_);replace D:=N.Q7 D rfl;replace E:=N.Q7 E rfl;replace y:=N.Q7 y rfl;have em:=N.size.trans el;have mx:=N.defers.trans mv;refine wp_seq (tu gp hm l6 J a9 em y D _ fun k8 n0 nm m7 d4 Y dk d1 f5=>?_);replace D:=Y.Q7 D rfl;replace E:=Y.Q7 E rfl;replace y:=Y.Q7 y rfl;have ci:=Y.size.trans em;have hn:=Y.defers.trans mx;refine wp_seq (rf dk d1 f5 J k8 ci y D _ fun k9 n1 nn nd d5 Z dl d2 f6=>?_);replace D:=Z.Q7 D rfl;replace E:=Z.Q7 E rfl;replace y:=Z.Q7 y rfl;have cl:=Z.size.trans ci;have hq:=Z.defers.trans hn;refine wp_seq (qR dl d2 f6 J k9 cl y D _ fun la n2 nq nl d6 ac ds d3 f7=>?_);replace D:=ac.Q7 D rfl;replace E:=ac.Q7 E rfl;replace y:=ac.Q7 y rfl;have cm:=ac.size.trans cl;have hr:=ac.defers.trans hq;refine wp_seq (vr ds d3 f7 J la cm y D _ fun cx bd ss hM a1 d0 gx bc=>?_);replace E:=a1.Q7 E rfl;replace y:=a1.Q7 y rfl;have ev:=a1.size.trans cm;have hs:=a1.defers.trans hr;obtain⟨QQ,er⟩:∃Q:aC,Q={ { { { { { { { { { P with QF:=y4 }with Q4:=y5 }with Q5:=y6 }with Q3:=y7 }with Q8:=y8 }with QG:=y9 }with Q9:=nm }with QC:=nn }with QA:=nq }with Q3:=ss }:=⟨_,rfl⟩;have hT:Turned P QQ:=by
  rw[er];obtain⟨zs,m1,m2,m3⟩:=hM;exact⟨rfl,ih,it,ix,⟨zs,by rw[m1];exact i0,m2,m3⟩,i1,i2,d5,d4,d6,rfl,rfl,rfl⟩
 obtain⟨r,ky⟩:∃x:aV,x={ { { { { { { { { v2 with QF:=u4 }with Q4:=u5 }with Q5:=u6 }with Q3:=u7 }with Q8:=u8 }with QG:=u9 }with Q9:=m7 }with QC:=nd }with QA:=nl }:=⟨_,rfl⟩;have hC:Cop (fun _ _=>False) w2.heap.size w2 zq r QQ bd:=by rw[er,ky];exact d0
 have c8:Kz w bd:=c9.out.trans hC.keep (fun _ _ h=>h);have k0:=(hC.keep.block z (aG M.out) (fun x=>x)).trans M.out;have gw:cX B bd v P:=HP.out.below (c8.below0 hB);have gs:gm B bd:=HL.out.below (c8.below0 hB);have HC:=hh hC;have HT:=hh hT;have k3:=hh c8;have eo:=hh k0;have fi:=hh gw;have fe:=hh gs;clear c3 gf gg gl gn go gp dk dl ds d0 ih it ix i0 i1 i2 d4 d5 d6 ha hc hf hj hk hl hm d1 d2 d3 gx hM er ky hC hT c8 k0 gw gs c9 M fl D cb bp bt bu bw bx N Y Z ac a1;obtain⟨q0,q1,q2,q3,q4,q5,q6,q7,q8,q9,O,S,U,V⟩:=bq eo.out;have b0:Hid (Calls Tryz.prog 21 #[.agg #[.int .i64 P.pos,.string P.name,v.QF,v.Q4,v.Q5,v.Q3,v.Q8,v.QG,v.QC,v.Q9,v.QD,v.QE,v.QB,v.QA]] bd fun e w'=>(∃a x:Int,e=.returned (.tuple #[.int .i64 a,.int .i64 x])∧fW (cM (eD ib) ay P) a x)∧Kz bd w'):=hh (jO iC fi.out fe.out bc);refine so (fun b1 x1=>aA (fun i=>i==7||i==8||(rg 81 85 i)) cx b1∧∃p1 e1:Int,At b1 7 (.int .i64 p1)∧At b1 8 (.int .i64 e1)∧fW (cM (eD ib) ay P) p1 e1∧Kz bd x1) ?_ ?_
 ·have bb:aA (fun i=>i==7||i==8||(rg 81 85 i)) cx cx:=aA.refl _ _
  obtain⟨T,d⟩:=cx;refine rl ?_;with_reducible refine st ?_;refine Lz (fun K l=>?_)
  go_simp;refine b0.out.mono ?_;rintro e x1 ⟨⟨p1,e1,rfl,c4⟩,X⟩;with_reducible refine l _ _ ?_;clear l K
  iterate 5 with_reducible refine st ?_
  refine ln ⟨rfl,ag,p1,e1,aq,aq,c4,X⟩
 rintro b1 x1 ⟨c2,p1,e1,h7,h8,c4,X⟩;replace E:=c2.Q7 E rfl;replace y:=c2.Q7 y rfl;have jj:=c2.size.trans ev;have m0:=c2.defers.trans hs;have fj:=hh c4;have b4:=hh X;have be:=hh (HC.out.step X);clear b0 c4 X q0 q1 q2 q3 q4 q5 q6 q7 q8 q9 O S U V;obtain⟨q0,q1,q2,q3,q4,q5,q6,q7,q8,q9,O,S,U,V⟩:=bq be.out.cell;have b0:Hid (Calls Tryz.prog 21 #[.agg #[.int .i64 QQ.pos,.string QQ.name,r.QF,r.Q4,r.Q5,r.Q3,r.Q8,r.QG,r.QC,r.Q9,r.QD,r.QE,r.QB,r.QA]] x1 fun e w'=>(∃a x:Int,e=.returned (.tuple #[.int .i64 a,.int .i64 x])∧fW (cM (eD ib) ay QQ) a x)∧Kz x1 w'):=hh (jO iC be.out.below ((fe.out.below (b4.out.below0 bc)).mono (Nat.le_trans bc b4.out.size)) (Nat.le_refl _));refine so (fun b2 x2=>aA (fun i=>i==9||i==10||(rg 86 90 i)) b1 b2∧∃p2 e2:Int,At b2 9 (.int .i64 p2)∧At b2 10 (.int .i64 e2)∧fW (cM (eD ib) ay QQ) p2 e2∧Kz x1 x2) ?_ ?_
 ·have bb:aA (fun i=>i==9||i==10||(rg 86 90 i)) b1 b1:=aA.refl _ _
  obtain⟨T,d⟩:=b1;refine rl ?_;with_reducible refine st ?_;refine Lz (fun K l=>?_)
  go_simp;refine b0.out.mono ?_;rintro e x2 ⟨⟨p2,e2,rfl,c5⟩,G⟩;with_reducible refine l _ _ ?_;clear l K
  iterate 5 with_reducible refine st ?_
  refine ln ⟨rfl,ag,p2,e2,aq,aq,c5,G⟩
 rintro b2 x2 ⟨ad,p2,e2,h9,cy,c5,G⟩;replace E:=ad.Q7 E rfl;replace y:=ad.Q7 y rfl;replace h7:=ad.Q7 h7 rfl;replace h8:=ad.Q7 h8 rfl;have kk:=ad.size.trans jj;have m4:=ad.defers.trans m0;obtain⟨hw,hy⟩:=HT.out.law fj.out c5;have gd:=be.out.step G;have cf:Kz bd x2:=b4.out.trans G (fun _ _ h=>h);have bz:=(cf.block z (aG eo.out) (fun x=>x)).trans eo.out;have af:=hh gd;have k4:=hh cf;have M:=hh bz;have k7:=hh (fi.out.below (cf.below0 bc));have f8:B≤x2.heap.size:=Nat.le_trans bc cf.size;clear b0 c5 G gd cf bz be fj HT q0 q1 q2 q3 q4 q5 q6 q7 q8 q9 O S U V;refine wp_seq (wp_seq (Code.wp_only (R:=fun b3 x3=>aA (fun i=>(rg 91 114 i)) b2 b3∧At b3 114 (.bool false)∧Kz x2 x3) ?_ ?_))
 ·have k1:=hh hy
  have e9:=hh hw;clear hw hy
  by_cases he:e1=0
  ·obtain⟨rfl,rfl,i3⟩:=k1.out he
   have cd:=e9.out.1 he;subst he;subst cd;have k6:=hh i3;clear i3;have bb:aA (fun i=>(rg 91 114 i)) b2 b2:=aA.refl _ _;refine dW 23 (fun i=>([.int .i64 0,.bool true,.int .i64 0,.bool true,.bool false,.bool false,.int .i64 0,.bool true,.bool true,.int .i64 0,.bool false,.bool false,.int .i64 0,.bool false,.bool false,.bool false,.agg #[.int .i64 P.pos,.string P.name,v.QF,v.Q4,v.Q5,v.Q3,v.Q8,v.QG,v.QC,v.Q9,v.QD,v.QE,v.QB,v.QA],.int .i64 (ap ay P),.agg #[.int .i64 QQ.pos,.string QQ.name,r.QF,r.Q4,r.Q5,r.Q3,r.Q8,r.QG,r.QC,r.Q9,r.QD,r.QE,r.QB,r.QA],.int .i64 (ap ay P),.bool false,.bool false,.bool false]:List Value).getD i undef) (fun w'=>Kz x2.drew w') (by kernel_rfl) (by kernel_rfl) ?_ ?_ ?_
   ·first|exact hWd|exact aB.refl _ _
   ·intro i o hi n g w' K q A j l
    have cp:g.tmps.size=116:=A.size.trans (by first|assumption|(simp only[Array.size_setIfInBounds];assumption));have cs:=A.Q7 E rfl;have ct:=A.Q7 y rfl;have cu:=A.Q7 h7 rfl;have cv:=A.Q7 h8 rfl;have cw:=A.Q7 h9 rfl;have bm:=A.Q7 cy rfl
    match i,hi,n,j,l with
    | 0,_,n,j,l =>
     obtain rfl:=oi n;obtain⟨T,d⟩:=g;go_simp;exact l _ q
    | 1,_,n,j,l =>
     obtain rfl:=oi n;have lb:At g 91 (.int .i64 0):=j 0 (by kernel_rfl) (by decide) 91 rfl;obtain⟨T,d⟩:=g;go_simp;exact l _ q
    | 2,_,n,j,l =>
     obtain rfl:=oi n;obtain⟨T,d⟩:=g;go_simp;exact l _ q
    | 3,_,n,j,l =>
     obtain rfl:=oi n;have li:At g 93 (.int .i64 0):=j 2 (by kernel_rfl) (by decide) 93 rfl;obtain⟨T,d⟩:=g;go_simp;exact l _ q
    | 4,_,n,j,l =>
     obtain rfl:=oi n;have le:At g 92 (.bool true):=j 1 (by kernel_rfl) (by decide) 92 rfl;have lj:At g 94 (.bool true):=j 3 (by kernel_rfl) (by decide) 94 rfl;obtain⟨T,d⟩:=g;go_simp;exact l _ q
    | 5,_,n,j,l =>
     obtain rfl:=oi n;have lo:At g 95 (.bool false):=j 4 (by kernel_rfl) (by decide) 95 rfl;obtain⟨T,d⟩:=g;go_simp;exact l _ q
    | 6,_,n,j,l =>
     obtain rfl:=oi n;have ah:At g 96 (.bool false):=j 5 (by kernel_rfl) (by decide) 96 rfl;have p:=aJ;obtain⟨T,d⟩:=g;go_simp;exact l _ q
    | 7,_,n,j,l =>
     obtain rfl:=oi n;have lp:At g 97 (.int .i64 0):=j 6 (by kernel_rfl) (by decide) 97 rfl;have ah:At g 96 (.bool false):=j 5 (by kernel_rfl) (by decide) 96 rfl;have p:=aJ;obtain⟨T,d⟩:=g;go_simp;exact l _ q
    | 8,_,n,j,l =>
     obtain rfl:=oi n;have ls:At g 98 (.bool true):=j 7 (by kernel_rfl) (by decide) 98 rfl;have ah:At g 96 (.bool false):=j 5 (by kernel_rfl) (by decide) 96 rfl;have p:=aJ;obtain⟨T,d⟩:=g;go_simp;exact l _ q
    | 9,_,n,j,l =>
     obtain rfl:=oi n;have I:At g 99 (.bool true):=j 8 (by kernel_rfl) (by decide) 99 rfl;have p:=aJ;obtain⟨T,d⟩:=g;go_simp;exact l _ q
    | 10,_,n,j,l =>
     obtain rfl:=oi n;have lv:At g 100 (.int .i64 0):=j 9 (by kernel_rfl) (by decide) 100 rfl;have I:At g 99 (.bool true):=j 8 (by kernel_rfl) (by decide) 99 rfl;have p:=aJ;obtain⟨T,d⟩:=g;go_simp;exact l _ q
    | 11,_,n,j,l =>
     obtain rfl:=oi n;have fm:At g 101 (.bool false):=j 10 (by kernel_rfl) (by decide) 101 rfl;have I:At g 99 (.bool true):=j 8 (by kernel_rfl) (by decide) 99 rfl;have p:=aJ;obtain⟨T,d⟩:=g;go_simp;exact l _ q
    | 12,_,n,j,l =>
     obtain rfl:=oi n;have a0:At g 102 (.bool false):=j 11 (by kernel_rfl) (by decide) 102 rfl;have p:=aJ;obtain⟨T,d⟩:=g;go_simp;exact l _ q
    | 13,_,n,j,l =>
     obtain rfl:=oi n;have fp:At g 103 (.int .i64 0):=j 12 (by kernel_rfl) (by decide) 103 rfl;have a0:At g 102 (.bool false):=j 11 (by kernel_rfl) (by decide) 102 rfl;have p:=aJ;obtain⟨T,d⟩:=g;go_simp;exact l _ q
    | 14,_,n,j,l =>
     obtain rfl:=oi n;have a0:At g 102 (.bool false):=j 11 (by kernel_rfl) (by decide) 102 rfl;have fr:At g 104 (.bool false):=j 13 (by kernel_rfl) (by decide) 104 rfl;have I:At g 99 (.bool true):=j 8 (by kernel_rfl) (by decide) 99 rfl;have p:=aJ;obtain⟨T,d⟩:=g;go_simp;exact l _ q
    | 15,_,n,j,l =>
     obtain rfl:=oi n;have fs:At g 105 (.bool false):=j 14 (by kernel_rfl) (by decide) 105 rfl;have I:At g 99 (.bool true):=j 8 (by kernel_rfl) (by decide) 99 rfl;have p:=aJ;obtain⟨T,d⟩:=g;go_simp;exact l _ q
    | 16,_,n,j,l =>
     obtain rfl:=oi n;have C:At g 106 (.bool false):=j 15 (by kernel_rfl) (by decide) 106 rfl;have H:=((aB.refl (fun _=>False) x2).drew).trans q (fun _ _ h=>h);obtain⟨q0,q1,q2,q3,q4,q5,q6,q7,q8,q9,O,S,U,V⟩:=bq ((H.block z (aG M.out) (fun x=>x)).trans M.out);obtain⟨r0,r1,r2,r3,r4,r5,r6,r7,r8,r9,e0,e5,e6,e7⟩:=bq ((H.block zq (aG af.out.cell) (fun x=>x)).trans af.out.cell);have p:=aJ;obtain⟨T,d⟩:=g;go_simp;exact l _ q
    | 17,_,n,j,l =>
     obtain rfl:=oi n;have ft:At g 107 (.agg #[.int .i64 P.pos,.string P.name,v.QF,v.Q4,v.Q5,v.Q3,v.Q8,v.QG,v.QC,v.Q9,v.QD,v.QE,v.QB,v.QA]):=j 16 (by kernel_rfl) (by decide) 107 rfl;have C:At g 106 (.bool false):=j 15 (by kernel_rfl) (by decide) 106 rfl;have H:=((aB.refl (fun _=>False) x2).drew).trans q (fun _ _ h=>h);obtain⟨q0,q1,q2,q3,q4,q5,q6,q7,q8,q9,O,S,U,V⟩:=bq ((H.block z (aG M.out) (fun x=>x)).trans M.out);obtain⟨r0,r1,r2,r3,r4,r5,r6,r7,r8,r9,e0,e5,e6,e7⟩:=bq ((H.block zq (aG af.out.cell) (fun x=>x)).trans af.out.cell);have p:=aJ;obtain⟨T,d⟩:=g;go_simp;refine((show Calls Tryz.prog 22 #[.agg #[.int .i64 P.pos,.string P.name,v.QF,v.Q4,v.Q5,v.Q3,v.Q8,v.QG,v.QC,v.Q9,v.QD,v.QE,v.QB,v.QA]] w' _ from jL (k7.out.below (H.below0 f8)) (Nat.le_trans f8 H.size))).mono ?_;rintro e y2 ⟨rfl,G⟩;exact l _ (q.trans G (fun _ _ h=>h))
    | 18,_,n,j,l =>
     obtain rfl:=oi n;have C:At g 106 (.bool false):=j 15 (by kernel_rfl) (by decide) 106 rfl;have H:=((aB.refl (fun _=>False) x2).drew).trans q (fun _ _ h=>h);obtain⟨q0,q1,q2,q3,q4,q5,q6,q7,q8,q9,O,S,U,V⟩:=bq ((H.block z (aG M.out) (fun x=>x)).trans M.out);obtain⟨r0,r1,r2,r3,r4,r5,r6,r7,r8,r9,e0,e5,e6,e7⟩:=bq ((H.block zq (aG af.out.cell) (fun x=>x)).trans af.out.cell);have p:=aJ;obtain⟨T,d⟩:=g;go_simp;exact l _ q
    | 19,_,n,j,l =>
     obtain rfl:=oi n;have fx:At g 109 (.agg #[.int .i64 QQ.pos,.string QQ.name,r.QF,r.Q4,r.Q5,r.Q3,r.Q8,r.QG,r.QC,r.Q9,r.QD,r.QE,r.QB,r.QA]):=j 18 (by kernel_rfl) (by decide) 109 rfl;have C:At g 106 (.bool false):=j 15 (by kernel_rfl) (by decide) 106 rfl;have H:=((aB.refl (fun _=>False) x2).drew).trans q (fun _ _ h=>h);obtain⟨q0,q1,q2,q3,q4,q5,q6,q7,q8,q9,O,S,U,V⟩:=bq ((H.block z (aG M.out) (fun x=>x)).trans M.out);obtain⟨r0,r1,r2,r3,r4,r5,r6,r7,r8,r9,e0,e5,e6,e7⟩:=bq ((H.block zq (aG af.out.cell) (fun x=>x)).trans af.out.cell);have p:=aJ;obtain⟨T,d⟩:=g;go_simp;refine((show Calls Tryz.prog 22 #[.agg #[.int .i64 QQ.pos,.string QQ.name,r.QF,r.Q4,r.Q5,r.Q3,r.Q8,r.QG,r.QC,r.Q9,r.QD,r.QE,r.QB,r.QA]] w' _ from jL ((af.out.step H).below) (Nat.le_refl _))).mono ?_;rintro e y2 ⟨rfl,G⟩;rw[←k6.out];exact l _ (q.trans G (fun _ _ h=>h))
    | 20,_,n,j,l =>
     obtain rfl:=oi n;have fv:At g 108 (.int .i64 (ap ay P)):=j 17 (by kernel_rfl) (by decide) 108 rfl;have fy:At g 110 (.int .i64 (ap ay P)):=j 19 (by kernel_rfl) (by decide) 110 rfl;have C:At g 106 (.bool false):=j 15 (by kernel_rfl) (by decide) 106 rfl;have p:=aJ;obtain⟨T,d⟩:=g;go_simp;exact l _ q
    | 21,_,n,j,l =>
     obtain rfl:=oi n;have C:At g 106 (.bool false):=j 15 (by kernel_rfl) (by decide) 106 rfl;have f0:At g 111 (.bool false):=j 20 (by kernel_rfl) (by decide) 111 rfl;have I:At g 99 (.bool true):=j 8 (by kernel_rfl) (by decide) 99 rfl;have p:=aJ;obtain⟨T,d⟩:=g;go_simp;exact l _ q
    | 22,_,n,j,l =>
     obtain rfl:=oi n;have I:At g 99 (.bool true):=j 8 (by kernel_rfl) (by decide) 99 rfl;have f1:At g 112 (.bool false):=j 21 (by kernel_rfl) (by decide) 112 rfl;have ah:At g 96 (.bool false):=j 5 (by kernel_rfl) (by decide) 96 rfl;have p:=aJ;obtain⟨T,d⟩:=g;go_simp;exact l _ q
    | i+23,hi,_,_,_=>omega
   ·intro o n g w' q A j
    obtain rfl:=oi n;have cp:g.tmps.size=116:=A.size.trans (by first|assumption|(simp only[Array.size_setIfInBounds];assumption));have cs:=A.Q7 E rfl;have ct:=A.Q7 y rfl;have cu:=A.Q7 h7 rfl;have cv:=A.Q7 h8 rfl;have cw:=A.Q7 h9 rfl;have bm:=A.Q7 cy rfl;have ah:At g 96 (.bool false):=j 5 (by decide) 96 rfl;have f2:At g 113 (.bool false):=j 22 (by decide) 113 rfl;have HW:=hh q;have cc:=A.agree (ws:=fun i=>(rg 91 114 i)) (by kernel_rfl);have HB:=hh cc;obtain⟨T,d⟩:=g;clear q A cc;with_reducible refine st (ln ?_)
    refine⟨rfl,HB.out.set rfl _,?_,((aB.refl (fun _=>False) x2).drew).trans HW.out (fun _ _ h=>h)⟩;exact aq
  ·have cd:e2≠0:=fun h=>he (e9.out.2 h)
   have t1:(e1==0)=false:=by simpa using he
   have t2:(e2==0)=false:=by simpa using cd
   have nu:decide (e1=0)=false:=decide_eq_false he;have nw:decide (e2=0)=false:=decide_eq_false cd;clear he cd;have bb:aA (fun i=>(rg 91 114 i)) b2 b2:=aA.refl _ _;refine dW 23 (fun i=>([.int .i64 e1,.bool false,.int .i64 e2,.bool false,.bool false,.bool false,.int .i64 e1,.bool false,.bool false,undef,undef,undef,undef,undef,undef,undef,undef,undef,undef,undef,undef,undef,.bool false]:List Value).getD i undef) (fun w'=>Kz x2.drew w') (by kernel_rfl) (by kernel_rfl) ?_ ?_ ?_
   ·first|exact hWd|exact aB.refl _ _
   ·intro i o hi n g w' K q A j l
    have cp:g.tmps.size=116:=A.size.trans (by first|assumption|(simp only[Array.size_setIfInBounds];assumption));have cs:=A.Q7 E rfl;have ct:=A.Q7 y rfl;have cu:=A.Q7 h7 rfl;have cv:=A.Q7 h8 rfl;have cw:=A.Q7 h9 rfl;have bm:=A.Q7 cy rfl
    match i,hi,n,j,l with
    | 0,_,n,j,l =>
     obtain rfl:=oi n;obtain⟨T,d⟩:=g;go_simp;exact l _ q
    | 1,_,n,j,l =>
     obtain rfl:=oi n;have lb:At g 91 (.int .i64 e1):=j 0 (by kernel_rfl) (by decide) 91 rfl;obtain⟨T,d⟩:=g;go_simp;exact l _ q
    | 2,_,n,j,l =>
     obtain rfl:=oi n;obtain⟨T,d⟩:=g;go_simp;exact l _ q
    | 3,_,n,j,l =>
     obtain rfl:=oi n;have li:At g 93 (.int .i64 e2):=j 2 (by kernel_rfl) (by decide) 93 rfl;obtain⟨T,d⟩:=g;go_simp;exact l _ q
    | 4,_,n,j,l =>
     obtain rfl:=oi n;have le:At g 92 (.bool false):=j 1 (by kernel_rfl) (by decide) 92 rfl;have lj:At g 94 (.bool false):=j 3 (by kernel_rfl) (by decide) 94 rfl;obtain⟨T,d⟩:=g;go_simp;exact l _ q
    | 5,_,n,j,l =>
     obtain rfl:=oi n;have lo:At g 95 (.bool false):=j 4 (by kernel_rfl) (by decide) 95 rfl;obtain⟨T,d⟩:=g;go_simp;exact l _ q
    | 6,_,n,j,l =>
     obtain rfl:=oi n;have ah:At g 96 (.bool false):=j 5 (by kernel_rfl) (by decide) 96 rfl;have p:=aJ;obtain⟨T,d⟩:=g;go_simp;exact l _ q
    | 7,_,n,j,l =>
     obtain rfl:=oi n;have lp:At g 97 (.int .i64 e1):=j 6 (by kernel_rfl) (by decide) 97 rfl;have ah:At g 96 (.bool false):=j 5 (by kernel_rfl) (by decide) 96 rfl;have p:=aJ;obtain⟨T,d⟩:=g;go_simp;exact l _ q
    | 8,_,n,j,l =>
     obtain rfl:=oi n;have ls:At g 98 (.bool false):=j 7 (by kernel_rfl) (by decide) 98 rfl;have ah:At g 96 (.bool false):=j 5 (by kernel_rfl) (by decide) 96 rfl;have p:=aJ;obtain⟨T,d⟩:=g;go_simp;exact l _ q
    | 9,_,n,j,l =>
     obtain rfl:=oi n;have I:At g 99 (.bool false):=j 8 (by kernel_rfl) (by decide) 99 rfl;have p:=aJ;obtain⟨T,d⟩:=g;go_simp;exact l _ q
    | 10,_,n,j,l =>
     obtain rfl:=oi n;have lv:At g 100 (undef):=j 9 (by kernel_rfl) (by decide) 100 rfl;have I:At g 99 (.bool false):=j 8 (by kernel_rfl) (by decide) 99 rfl;have p:=aJ;obtain⟨T,d⟩:=g;go_simp;exact l _ q
    | 11,_,n,j,l =>
     obtain rfl:=oi n;have fm:At g 101 (undef):=j 10 (by kernel_rfl) (by decide) 101 rfl;have I:At g 99 (.bool false):=j 8 (by kernel_rfl) (by decide) 99 rfl;have p:=aJ;obtain⟨T,d⟩:=g;go_simp;exact l _ q
    | 12,_,n,j,l =>
     obtain rfl:=oi n;have a0:At g 102 (undef):=j 11 (by kernel_rfl) (by decide) 102 rfl;have p:=aJ;obtain⟨T,d⟩:=g;go_simp;exact l _ q
    | 13,_,n,j,l =>
     obtain rfl:=oi n;have fp:At g 103 (undef):=j 12 (by kernel_rfl) (by decide) 103 rfl;have a0:At g 102 (undef):=j 11 (by kernel_rfl) (by decide) 102 rfl;have p:=aJ;obtain⟨T,d⟩:=g;go_simp;exact l _ q
    | 14,_,n,j,l =>
     obtain rfl:=oi n;have a0:At g 102 (undef):=j 11 (by kernel_rfl) (by decide) 102 rfl;have fr:At g 104 (undef):=j 13 (by kernel_rfl) (by decide) 104 rfl;have I:At g 99 (.bool false):=j 8 (by kernel_rfl) (by decide) 99 rfl;have p:=aJ;obtain⟨T,d⟩:=g;go_simp;exact l _ q
    | 15,_,n,j,l =>
     obtain rfl:=oi n;have fs:At g 105 (undef):=j 14 (by kernel_rfl) (by decide) 105 rfl;have I:At g 99 (.bool false):=j 8 (by kernel_rfl) (by decide) 99 rfl;have p:=aJ;obtain⟨T,d⟩:=g;go_simp;exact l _ q
    | 16,_,n,j,l =>
     obtain rfl:=oi n;have C:At g 106 (undef):=j 15 (by kernel_rfl) (by decide) 106 rfl;have p:=aJ;obtain⟨T,d⟩:=g;go_simp;exact l _ q
    | 17,_,n,j,l =>
     obtain rfl:=oi n;have ft:At g 107 (undef):=j 16 (by kernel_rfl) (by decide) 107 rfl;have C:At g 106 (undef):=j 15 (by kernel_rfl) (by decide) 106 rfl;have p:=aJ;obtain⟨T,d⟩:=g;go_simp;exact l _ q
    | 18,_,n,j,l =>
     obtain rfl:=oi n;have C:At g 106 (undef):=j 15 (by kernel_rfl) (by decide) 106 rfl;have p:=aJ;obtain⟨T,d⟩:=g;go_simp;exact l _ q
    | 19,_,n,j,l =>
     obtain rfl:=oi n;have fx:At g 109 (undef):=j 18 (by kernel_rfl) (by decide) 109 rfl;have C:At g 106 (undef):=j 15 (by kernel_rfl) (by decide) 106 rfl;have p:=aJ;obtain⟨T,d⟩:=g;go_simp;exact l _ q
    | 20,_,n,j,l =>
     obtain rfl:=oi n;have fv:At g 108 (undef):=j 17 (by kernel_rfl) (by decide) 108 rfl;have fy:At g 110 (undef):=j 19 (by kernel_rfl) (by decide) 110 rfl;have C:At g 106 (undef):=j 15 (by kernel_rfl) (by decide) 106 rfl;have p:=aJ;obtain⟨T,d⟩:=g;go_simp;exact l _ q
    | 21,_,n,j,l =>
     obtain rfl:=oi n;have C:At g 106 (undef):=j 15 (by kernel_rfl) (by decide) 106 rfl;have f0:At g 111 (undef):=j 20 (by kernel_rfl) (by decide) 111 rfl;have I:At g 99 (.bool false):=j 8 (by kernel_rfl) (by decide) 99 rfl;have p:=aJ;obtain⟨T,d⟩:=g;go_simp;exact l _ q
    | 22,_,n,j,l =>
     obtain rfl:=oi n;have I:At g 99 (.bool false):=j 8 (by kernel_rfl) (by decide) 99 rfl;have f1:At g 112 (undef):=j 21 (by kernel_rfl) (by decide) 112 rfl;have ah:At g 96 (.bool false):=j 5 (by kernel_rfl) (by decide) 96 rfl;have p:=aJ;obtain⟨T,d⟩:=g;go_simp;exact l _ q
    | i+23,hi,_,_,_=>omega
   ·intro o n g w' q A j
    obtain rfl:=oi n;have cp:g.tmps.size=116:=A.size.trans (by first|assumption|(simp only[Array.size_setIfInBounds];assumption));have cs:=A.Q7 E rfl;have ct:=A.Q7 y rfl;have cu:=A.Q7 h7 rfl;have cv:=A.Q7 h8 rfl;have cw:=A.Q7 h9 rfl;have bm:=A.Q7 cy rfl;have ah:At g 96 (.bool false):=j 5 (by decide) 96 rfl;have f2:At g 113 (.bool false):=j 22 (by decide) 113 rfl;have HW:=hh q;have cc:=A.agree (ws:=fun i=>(rg 91 114 i)) (by kernel_rfl);have HB:=hh cc;obtain⟨T,d⟩:=g;clear q A cc;with_reducible refine st (ln ?_)
    refine⟨rfl,HB.out.set rfl _,?_,((aB.refl (fun _=>False) x2).drew).trans HW.out (fun _ _ h=>h)⟩;exact aq
 rintro b3 x3 ⟨di,f3,c6⟩;have kl:=di.size.trans kk;have m5:=di.defers.trans m4;have es:Kz w x3:=(k3.out.trans k4.out (fun _ _ h=>h)).trans c6 (fun _ _ h=>h);have l7:gm x3.heap.size x3:=(HL.out.below (es.below0 hB)).mono (Nat.le_trans hB es.size);refine wp_cond_false (f3.eval (by omega)) (wp_skip ?_);show Code.wp _ _ _ _ _;have en:=hh (mN l7);have b5:=hh es;refine so (fun a9 w9=>aA (fun i=>i==4||i==115) b3 a9∧At a9 4 (.bool true)∧Kz x3 w9) ?_ ?_
 ·have bb:aA (fun i=>i==4||i==115) b3 b3:=aA.refl _ _
  skip;obtain⟨T,d⟩:=b3;refine rl ?_;with_reducible refine Lz (fun K l=>?_)
  go_simp;refine en.out.mono ?_;rintro e w9 ⟨rfl,bj⟩;with_reducible refine l _ _ ?_;clear l K;refine st ?_
  refine ln ⟨rfl,ag,aq,bj⟩
 rintro a9 w9 ⟨N,h4,bj⟩;refine wp_ret ?_
 repeat (first|with_reducible apply b8|with_reducible apply bG)
 refine b9 (t:=4) rfl h4 (by rw[N.size,kl];decide) (N.defers.trans m5) ?_;exact⟨rfl,b5.out.trans bj (fun _ _ h=>h)⟩
end Go.Proofs.YtpblcjipmoblnaaGreatDoor
