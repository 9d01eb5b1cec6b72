import Derived.Test.YtpblcjipmoblnaaGreatDoorWho
import Derived.Test.YtpblcjipmoblnaaGreatDoorBack
import Derived.Maps.OwnIn
import Derived.Test.YtpblcjipmoblnaaGreatDoorDraw
import Derived.Test.YtpblcjipmoblnaaGreatDoorAsE
import Derived.Test.YtpblcjipmoblnaaGreatDoorSpanP
set_option maxRecDepth 100000
set_option maxHeartbeats 4000000
set_option linter.unusedVariables false
set_option linter.unusedSimpArgs false
set_option linter.unnecessarySimpa false
namespace Go.Proofs.YtpblcjipmoblnaaGreatDoor
open Go.RowKit Go.IntWalk Go.Shelf Ck
variable {b:Nat} {p:ByteArray→Bool}
attribute [local go_sem] Oper.semAt_some
theorem g0{β:Type}(k:Nat)(cs:Array Value)(t:TypeId)(z:Nat×Nat):Own (fun(_:β) W=>W.heap[k]?=some (.cells cs t z)):=fun s A B row a g h=>by
 refine(g.block k (aG a) fun e=>?_).trans a;obtain⟨o,b,d⟩:=h k e.symm;rw[a]at b
 cases b
 cases d
theorem mQ{A B:World}{row:Option Nat}{k:Nat}{cs:Array Value}{t:TypeId}{z:Nat×Nat}(h:A.heap[k]?=some (.cells cs t z))(a:A.grownBy B row)(b:∀r,row=some r→∃o:Obj,A.heap[r]?=some o∧o.isCells=false):B.heap[k]?=some (.cells cs t z):=
 g0 k cs t z () A B row h a b
theorem iH{N:Nat}{W W':World}(hk:aB (fun k=>k=b) W W')(d:b<N):KeepsFrom N W W':=
 ⟨hk.size,fun k o a h _=>(hk.block k (aG h) (by show k≠b;omega)).trans h⟩
theorem dA.updateIn{F0:Fence}{y:Nat}{w:World}{n:Nat}{z:Value}{F:ByteArray→Value}{P:Program}(C:P=Tryz.prog)(h:dA w b n z F p)(H:n<maxLen){i:Array Oper}{rest:List Oper}{o:Oper}{a:Act}{Q:Exit→Act→World→Prop}
 (E:o.guard=none){m x u:Operand}{t e:TypeId}(q:o.op=Op.mapUpdate t m x u)(r:P.underlying t=some (.map 9 e))
 (G:a.eval m=.map (some b)){s:ByteArray}(hx:a.eval x=.string s)(I:s.size≤maxLen){v:Value}(hv:a.eval u=v)
 (B:∀w',dA w' b (n+1) z (fun t=>if t=s then v else F t) (fun t=>decide (t=s)||p t)→aB (fun k=>k=b) w w'→wpListIn F0 y P i Q rest (a.put o.dst undef) w'):wpListIn F0 y P i Q (o::rest) a w:=by
 subst C;obtain⟨D,j,A⟩:=h;refine wpListIn_mapUpdate_own _ E m x u t q 9 e Tryz.law9 r eM b n D G j H _ _ (key s) hx hv (Go.WideMaps.keyOf_string_mk Tryz.underlying9 I) _ [] rfl fun w' g l=>B w' ⟨_,g,fun t r=>?_⟩ (aB.of_grown l (fun k e=>by cases e;rfl))
 obtain⟨J,K⟩:=A t r
 by_cases hts:t=s
 ·subst hts
  exact⟨by show _=DataW.held (if t=t then v else F t);rw[if_pos rfl];exact Go.Maps.atKey_put_same j.isMap (jf t) _ _,by rw[Go.Maps.has_put_same j.isMap (jf t)];simp⟩
 ·have d:key t≠key s:=fun e=>hts (lK e)
  exact⟨by show _=DataW.held (if t=s then v else F t);rw[if_neg hts];exact(Go.Maps.atKey_put_other d _ _).trans J,by rw[Go.Maps.has_put_other d,K];simp[hts]⟩
theorem dA.own{n N:Nat}{z:Value}{F:ByteArray→Value}{W W':World}{row:Option Nat}(i:dA W b n z F p)(g:W.grownBy W' row)(h:∀r,row=some r→N≤r)(j:b<N):dA W' b n z F p:=by
 obtain⟨D,a,d⟩:=i;exact⟨D,a.kept g (fun e=>by have:=h _ e.symm;omega),d⟩
def oK{α:Type}(nm:α→ByteArray)(va:α→Value)(F:ByteArray→Value):List α→ByteArray→Value
 | [],s=>F s
 | x::t,s=>if s=nm x then va x else oK nm va F t s
def oJ{α:Type}(nm:α→ByteArray)(p:ByteArray→Bool):List α→ByteArray→Bool
 | [],s=>p s
 | x::t,s=>decide (s=nm x)||oJ nm p t s
theorem iG{α:Type}{a:α→ByteArray}{b:α→Value}{F:ByteArray→Value}(s:ByteArray):∀l:List α,oK a b F l s=match l.find? (fun x=>decide (a x=s))with|some x=>b x|none=>F s
 | []=>rfl
 | x::t=>by
  simp only[oK,List.find?_cons]
  by_cases h:s=a x
  ·simp[h]
  ·have d:¬ a x=s:=fun e=>h e.symm
   simp[h,d,iG s t]
theorem je{α:Type}{a:α→ByteArray}{p:ByteArray→Bool}(s:ByteArray):∀l:List α,oJ a p l s=match l.find? (fun x=>decide (a x=s))with|some _=>true|none=>p s
 | []=>rfl
 | x::t=>by
  simp only[oJ,List.find?_cons]
  by_cases h:s=a x
  ·simp[h]
  ·have b:¬ a x=s:=fun e=>h e.symm
   simp[h,b,je s t]
theorem jl(len:Nat):(bg len len).reverse=List.finRange len:=by
 unfold bg;rw[List.take_of_length_le (by simp),List.reverse_reverse]
theorem jA{α:Type}(l:List α)(p:α→Bool):l.find? p=((List.finRange l.length).find? (fun i=>p l[i])).map (fun i=>l[i]):=by
 have:l=(List.finRange l.length).map (fun i=>l[i]):=by
  apply List.ext_getElem
  ·simp
  ·intro i a b;simp
 conv=>lhs;rw[this]
 rw[List.find?_map];rfl
theorem qZ(w:World)(a b d e:Obj):((((w.alloc a).alloc b).alloc d).alloc e).heap.size=w.heap.size+4∧((((w.alloc a).alloc b).alloc d).alloc e).heap[w.heap.size]?=some a∧((((w.alloc a).alloc b).alloc d).alloc e).heap[w.heap.size+1]?=some b ∧
 ((((w.alloc a).alloc b).alloc d).alloc e).heap[w.heap.size+1+1]?=some d∧((((w.alloc a).alloc b).alloc d).alloc e).heap[w.heap.size+1+1+1]?=some e∧Below w.heap.size w ((((w.alloc a).alloc b).alloc d).alloc e):=by
 have g:(w.alloc a).heap.size=w.heap.size+1:=by simp
 have h:((w.alloc a).alloc b).heap.size=w.heap.size+1+1:=by simp
 have i:(((w.alloc a).alloc b).alloc d).heap.size=w.heap.size+1+1+1:=by simp
 refine⟨by simp,?_,?_,?_,?_,?_⟩
 ·rw[Below.heap_alloc _ _ _ (by omega),Below.heap_alloc _ _ _ (by omega),Below.heap_alloc _ _ _ (by omega),heap_alloc_new]
 ·rw[Below.heap_alloc _ _ _ (by omega),Below.heap_alloc _ _ _ (by omega),←g,heap_alloc_new]
 ·rw[Below.heap_alloc _ _ _ (by omega),←h,heap_alloc_new]
 ·rw[←i,heap_alloc_new]
 ·exact((((Below.refl _ w).alloc (Nat.le_refl _) _).alloc (by omega) _).alloc (by omega) _).alloc (by omega) _
theorem kZ{α σ:Type}[Inhabited σ]{B k:Nat}{R:World→Nat→Nat→α→Prop}{w:World}{A:Option Addr}{a:List α}(row:α→σ→List Value)(Φ:α→σ→Prop)(p:∀b o x,R w b o x→∃s,aN w b o (row x s)∧Φ x s)(h:mr B k R w A a):
 ∃l:Nat→σ,(0<a.length→∃b off,A=some ⟨b,off,none⟩∧b<B∧∀j (d:j<a.length),aN w b (off+j*k) (row a[j] (l j)))∧∀i (g:i<a.length),Φ a[i] (l i):=by
 rcases Nat.eq_zero_or_pos a.length with v|e
 ·exact⟨fun _=>default,fun h=>by omega,fun i g=>by omega⟩
 ·obtain⟨b,off,n,q,r⟩:=h e
  have hx:∀j,∃s,∀d:j<a.length,aN w b (off+j*k) (row a[j] s)∧Φ a[j] s:=fun j=>by
   by_cases d:j<a.length
   ·obtain⟨s,u⟩:=p _ _ _ (r j a[j] (Ez d))
    exact⟨s,fun _=>u⟩
   ·exact⟨default,fun h=>absurd h d⟩
  exact⟨fun j=>Classical.choose (hx j),fun _=>⟨b,off,n,q,fun j d=>(Classical.choose_spec (hx j) d).1⟩,fun i g=>(Classical.choose_spec (hx i) g).2⟩
end Go.Proofs.YtpblcjipmoblnaaGreatDoor
namespace Go.Proofs.YtpblcjipmoblnaaGreatDoor
open Go.RowKit Go.IntWalk Ck
variable {w:World}
theorem vu(w:World)(a:Nat)(c0 QP n c:Nat)(p:Int)(d:Bool)(A:Option Addr)(b:w.heap[a]?=some (.cells #[.int .u64 c0] 39 (0,0))):
 Calls Tryz.prog 113 #[.agg #[.int .i64 p,.int .u64 QP,.bool d,.slice A n c],.pointer (some ⟨a,0,none⟩)] w fun e w'=>e=.returned (.bool (decide (QP=c0)))∧Kz w w':=by
 have h:(w.alloc (.cells #[.int .i64 p,.int .u64 QP,.bool d,.slice A n c] 92)).cell? ⟨a,0,none⟩=some (.int .u64 c0):=cell_of_one ((Below.heap_alloc _ _ _ (aG b)).trans b);have g:((QP:Int)==(c0:Int))=decide (QP=c0):=dK _ _;clear b
 go_enter Tryz.func113,Tryz.ntmps113
 go_wp2
 go_ret
 exact⟨by simp[g],(aB.refl _ _).alloc _⟩
def iY(ls:List cK)(c0:Nat):Int:=match ls.findIdx? (fun y=>decide (y.QP=c0))with|some i=>i|none =>-1
theorem qV{ls:List cK}{c0:Nat}(h:∀y∈ls,y.QP≠c0):iY ls c0 = -1:=by
 unfold iY;rw[List.findIdx?_eq_none_iff.2 (fun y a=>by simpa using h y a)]
theorem wE{ls:List cK}{c0 k:Nat}{x:cK}(hx:ls[k]?=some x)(b:x.QP=c0)(h:∀y∈ls.take k,y.QP≠c0):iY ls c0=k:=by
 unfold iY;obtain⟨hk,a⟩:=List.getElem?_eq_some_iff.1 hx;rw[List.findIdx?_eq_some_iff_getElem.2 ⟨hk,by rw[a];simpa using b,fun j d=>by
  have:=h (ls[j]'(by omega)) (List.mem_take_iff_getElem.2 ⟨j,by omega,rfl⟩)
  simpa using this⟩]
theorem qU{B:Nat}{A:Option Addr}{c:Nat}{ls:List cK}(hs:aT B 4 (iS B) w (.slice A ls.length c) ls)(hB:B≤w.heap.size){bz c0:Nat}(hb:w.heap[bz]?=some (.cells #[.int .u64 c0] 39 (0,0))):
 Calls Tryz.prog 112 #[.slice A ls.length c,.func (.func 113) #[] #[.pointer (some ⟨bz,0,none⟩)]] w fun e w'=>e=.returned (.int .i64 (iY ls c0))∧Kz w w':=by
 obtain⟨_,_,e,b4,hn,hl⟩:=hs
 cases e
 unfold top at hn;have bj:=hh hl;have HB:=hh hb;have bc:=aG hb;clear hl hb;refine az Tryz.func112 Tryz.ntmps112 rfl (by show 2≤19;decide) fun a bw hd h=>?_
 have h0:At a 0 (.slice A ls.length c):=h 0 _ rfl;have h1:At a 1 (.func (.func 113) #[] #[.pointer (some ⟨bz,0,none⟩)]):=h 1 _ rfl;clear h
 conv=>arg 2;whnf
 refine so (fun D O=>aA (fun i=>i==4) a D∧O=w) ?_ ?_
 ·have G:aA (fun i=>i==4) a a:=aA.refl _ _
  obtain⟨T,d⟩:=a;refine rl ?_;with_reducible refine st ?_
  refine ln ⟨rfl,ag,rfl⟩
 rintro D O ⟨p,rfl⟩;replace h0:=p.Q7 h0 rfl;replace h1:=p.Q7 h1 rfl;have be:=p.size.trans bw;have bt:=p.defers.trans hd;refine wp_seq (wp_seq (Code.wp_only (R:=fun V Q=>aA (fun i=>i==6||i==7||i==8) D V∧At V 7 (.int .i64 ls.length)∧At V 8 (.int .i64 0)∧Q=O) ?_ ?_))
 ·have G:aA (fun i=>i==6||i==7||i==8) D D:=aA.refl _ _
  obtain⟨T,d⟩:=D;refine rl ?_
  iterate 3 with_reducible refine st ?_
  refine ln ⟨rfl,ag,aq,aq,rfl⟩
 rintro V Q ⟨q,b0,bx,rfl⟩;replace h0:=q.Q7 h0 rfl;replace h1:=q.Q7 h1 rfl;have L:=q.size.trans be;have an:=q.defers.trans bt;refine ai ls.length (fun i=>i==4||i==5||(rg 8 18 i)) (fun i=>i==4||i==5||(rg 10 17 i)) (fun k _ w'=>(∀y∈ls.take k,y.QP≠c0)∧Kz Q w') (by omega) bx b0 (by decide) rfl
  (by intro j;simp;omega) (by omega) (by decide) (fun k a1 a2 w W hI=>hI) ⟨by simp,aB.refl _ _⟩ ?_ ?_
 ·rintro n b wr bu W ah ⟨J,hk⟩
  obtain⟨bl,off,rfl,bo,bd⟩:=bj.out (by omega);obtain⟨x,hx⟩:=ge bu;obtain⟨vv,hc,⟨A_r,bm,rfl,_⟩,_,bp⟩:=(ca B) _ _ _ _ _ (hk.below (B:=B) (by omega) (fun _ _ h=>h)) bo (bd n x hx);have q0:=hc.c0;have q1:=hc 1 _ rfl;have q2:=hc 2 _ rfl;have q3:=hc 3 _ rfl;have ac:=W.Q7 h0 rfl;have ad:=W.Q7 h1 rfl;have M:=W.size.trans L;have a7:=W.defers.trans an;have b2:=hk.size;have b1:bl<wr.heap.size:=by omega
  have b3:n≤c:=by omega
  have H:=vu wr bz c0 x.QP x.runs.length bm x.pos x.needs A_r ((hk.block bz bc (fun h=>h)).trans HB.out);have HX:=hh hx;have HC:=hh H;have HK:=hh hk;have bb:=hh J;clear hx bd hc W hk J H bp;refine so (fun r S=>aA (fun i=>i==10||i==5) b r∧At r 5 (.int .i64 n)∧S=wr) ?_ ?_
  ·have G:aA (fun i=>i==10||i==5) b b:=aA.refl _ _
   obtain⟨T,d⟩:=b;refine rl ?_
   iterate 2 with_reducible refine st ?_
   refine ln ⟨rfl,ag,aq,rfl⟩
  rintro r S ⟨l,af,rfl⟩;replace ac:=l.Q7 ac rfl;replace ad:=l.Q7 ad rfl;replace ah:=l.Q7 ah rfl;have C:=l.size.trans M;have I:=l.defers.trans a7;refine so (fun u U=>aA (fun i=>(rg 11 16 i)) r u∧At u 16 (.bool (decide (x.QP=c0)))∧Kz S U) ?_ ?_
  ·have G:aA (fun i=>(rg 11 16 i)) r r:=aA.refl _ _
   obtain⟨T,d⟩:=r;refine rl ?_
   iterate 5 with_reducible refine st ?_
   with_reducible refine Lz (fun K hK=>?_)
   go_simp;refine HC.out.mono ?_;rintro e w2 ⟨rfl,Y⟩;with_reducible refine hK _ _ ?_;clear hK K
   refine ln ⟨rfl,?_,?_,?_⟩
   ·exact ag
   ·exact aq
   ·exact Y
  rintro u U ⟨g,bf,Y⟩;replace ac:=g.Q7 ac rfl;replace ad:=g.Q7 ad rfl;replace ah:=g.Q7 ah rfl;replace af:=g.Q7 af rfl;have Z:=g.size.trans C;have a8:=g.defers.trans I;refine wp_cond_split (bf.eval (by omega)) (fun hy=>?_) (fun hy=>?_)
  ·have a6:x.QP=c0:=of_decide_eq_true hy
   refine so (fun a4 a0=>aA (fun i=>i==4||i==17) u a4∧At a4 4 (.int .i64 n)∧a0=U) ?_ ?_
   ·have G:aA (fun i=>i==4||i==17) u u:=aA.refl _ _
    obtain⟨T,d⟩:=u;refine rl ?_
    iterate 2 with_reducible refine st ?_
    refine ln ⟨rfl,ag,aq,rfl⟩
   rintro a4 a0 ⟨v,a9,rfl⟩;replace af:=v.Q7 af rfl;have N:=v.size.trans Z;have X:=v.defers.trans a8;refine wp_ret ?_
   repeat (first|with_reducible apply b8|with_reducible apply bG)
   refine b9 (t:=4) rfl a9 (by rw[N];decide) X ?_;exact⟨by rw[wE HX.out a6 bb.out],HK.out.trans Y (fun _ _ h=>h)⟩
  ·have a6:x.QP≠c0:=of_decide_eq_false hy
   refine wp_skip ?_;refine⟨?_,fun y hy=>?_,HK.out.trans Y (fun _ _ h=>h)⟩
   ·refine aA.trans (l.mono ?_) g ?_<;>(intro j;simp;omega)
   ·rw[aP HX.out]at hy
    rcases List.mem_append.1 hy with h|h
    ·exact bb.out y h
    ·obtain rfl:y=x:=by simpa using h
     exact a6
 ·rintro b wr W ⟨J,hk⟩
  rw[List.take_length]at J;have M:=W.size.trans L;have a7:=W.defers.trans an;refine so (fun a5 a3=>aA (fun i=>i==4) b a5∧At a5 4 (.int .i64 (-1))∧a3=wr) ?_ ?_
  ·have G:aA (fun i=>i==4) b b:=aA.refl _ _
   obtain⟨T,d⟩:=b;refine rl ?_;with_reducible refine st ?_
   refine ln ⟨rfl,ag,aq,rfl⟩
  rintro a5 a3 ⟨E,a9,rfl⟩;have C:=E.size.trans M;have I:=E.defers.trans a7;refine wp_ret ?_
  repeat (first|with_reducible apply b8|with_reducible apply bG)
  refine b9 (t:=4) rfl a9 (by rw[C];decide) I ?_;exact⟨by rw[qV J],hk⟩
theorem Tryz.lawU:Go.Maps.Keyed Tryz.prog 39:=Go.Maps.int_keyed Tryz.underlying39
def upN(m:Ck.Map)(s:Nat):Nat:=(m.Q7+s-1) / 2097152+1-m.Q7 / 2097152
def PUp(m:Ck.Map)(y j:Nat):Prop:=∃i,i<j∧y=(m.Q7 / 2097152+i) / 512
def pK(m:Ck.Map)(big:Bool)(y j:Nat):Prop:=big=false∧∃i,i<j∧y=m.Q7 / 2097152+i
theorem oY{m:Ck.Map}{x:jF}(hb:below m.Q7 x.size 549755813888=true)(hp:0<x.size)(b2:x.size≤67108864){u A nu nl:Nat}{Su Sl:List Nat}(hu:dz 39 w u nu Su)(hl:dz 39 w A nl Sl)(b4:nu≤140737488355000)(b3:nl≤140737488355000)(b5:u≠A)
 {zm zx:Nat}(be:w.heap[zm]?=some (.cells (Ck.Map.cells m).toArray 71 (0,0)))(L:w.heap[zx]?=some (.cells #[.int .u64 x.size,.bool x.big,.bool x.wx] 182 (0,0)))(cd:zm≠u∧zm≠A∧zx≠u∧zx≠A)(a:Act)(J:a.tmps.size=76)
 (h5:At a 5 (.map (some u)))(h6:At a 6 (.map (some A)))(h8:At a 8 (.pointer (some ⟨zm,0,none⟩)))(h9:At a 9 (.pointer (some ⟨zx,0,none⟩)))(bm:At a 11 (.int .u64 (m.Q7 / 2097152:Nat)))(Q:Exit→Act→World→Prop)
 (hQ:∀p w' Su' Sl',aA (fun i=>i==11||(rg 48 68 i)) a p→dz 39 w' u (nu+upN m x.size) Su'→dz 39 w' A (nl+upN m x.size) Sl'→(∀y,y∈Su'↔y∈Su∨PUp m y (upN m x.size))→(∀y,y∈Sl'↔y∈Sl∨pK m x.big y (upN m x.size))→aB (fun k=>k=u∨k=A) w w'→Q .normal p w'):
 (al Tryz.f59 [1,1,0,1,0,0,1,1,0,0,1,1,1,1,1]).wp Tryz.prog Q a w:=by
 obtain⟨b0,b1⟩:m.Q7≤549755813888∧x.size≤549755813888-m.Q7:=by
  unfold below at hb
  simpa using hb
 have bx:m.Q7 / 2097152≤(m.Q7+x.size-1) / 2097152:=by omega
 have cb:upN m x.size≤34:=by unfold upN;omega
 conv=>arg 2;whnf
 refine gz (upN m x.size) (fun j p w'=>aA (fun i=>i==11||(rg 48 68 i)) a p∧At p 11 (.int .u64 ((m.Q7 / 2097152+j:Nat):Int))∧∃Su' Sl',dz 39 w' u (nu+j) Su'∧dz 39 w' A (nl+j) Sl'∧(∀y,y∈Su'↔y∈Su∨PUp m y j)∧(∀y,y∈Sl'↔y∈Sl∨pK m x.big y j)∧aB (fun k=>k=u∨k=A) w w')
  (fun j p w'=>aA (fun i=>i==11||(rg 48 68 i)) a p∧At p 11 (.int .u64 ((m.Q7 / 2097152+j:Nat):Int))∧∃Su' Sl',dz 39 w' u (nu+(j+1)) Su'∧dz 39 w' A (nl+(j+1)) Sl'∧(∀y,y∈Su'↔y∈Su∨PUp m y (j+1))∧(∀y,y∈Sl'↔y∈Sl∨pK m x.big y (j+1))∧aB (fun k=>k=u∨k=A) w w')
  (fun a=>match a.eval (.tmp 11)with|.int _ x=>x.toNat-m.Q7 / 2097152|_=>0) ⟨aA.refl _ _,bm,Su,Sl,hu,hl,fun y=>⟨.inl,fun h=>h.elim id fun⟨i,hi,_⟩=>by omega⟩,fun y=>⟨.inl,fun h=>h.elim id fun⟨_,i,hi,_⟩=>by omega⟩,aB.refl _ _⟩ ?_ ?_ ?_ ?_ ?_
 ·rintro k p w' ⟨v,hk,_⟩
  rw[hk.eval (by rw[v.size,J];decide)];show((m.Q7 / 2097152+k:Nat):Int).toNat-m.Q7 / 2097152=k;omega
 ·rintro k p w' a5 ⟨v,hk,b⟩
  have R:=hh b;obtain⟨Su',Sl',_,_,_,_,V⟩:=b;have k8:=v.Q7 h8 rfl;have k9:=v.Q7 h9 rfl;have g:=v.size.trans J;have q2:w'.cell? ⟨zm,2,none⟩=some (.int .u64 m.Q7):=cr ((V.block zm (aG be) (by omega)).trans be) rfl;have p0:w'.cell? ⟨zx,0,none⟩=some (.int .u64 x.size):=cr ((V.block zx (aG L) (by omega)).trans L) rfl;obtain⟨r,n⟩:∃r,r=m.Q7 / 2097152+k:=⟨_,rfl⟩;obtain⟨s,hs⟩:∃s,s=m.Q7+x.size:=⟨_,rfl⟩;obtain⟨s1,Y⟩:∃s1,s1=m.Q7+x.size-1:=⟨_,rfl⟩;rw[←n]at hk;have e1:IntKind.u64.wrap ((m.Q7:Int)+(x.size:Int))=(s:Int):=by rw[hs,u64_in _ (by omega)];omega
  have e2:IntKind.u64.wrap ((s:Int)-1)=(s1:Int):=by rw[Y,hs,u64_in _ (by omega)];omega
  have B:=hh n;have HS:=hh hs;have bl:=hh Y;clear n hs Y;obtain⟨T,d⟩:=p;refine rl ?_
  iterate 9 with_reducible refine st ?_
  with_reducible refine ln ?_
  refine⟨rfl,⟨?_,?_,?_⟩,?_⟩
  ·exact ag
  ·rw[←B.out]
   (repeat (first|with_reducible exact At.self|with_reducible apply At.ne));all_goals first|decide|with_reducible exact hk
  ·exact R.out
  ·refine(At.eval At.self (by have:=g;simp at this⊢; omega)).trans ?_
   have N:=B.out;have h3:=bl.out
   congr 1
   exact decide_eq_decide.2 (by unfold upN;omega)
 ·rintro k p w' a5 ⟨v,hk,Su',Sl',Z,W,X,I,V⟩
  have k5:=v.Q7 h5 rfl;have k6:=v.Q7 h6 rfl;have k9:=v.Q7 h9 rfl;have g:=v.size.trans J;have K:=(V.block zx (aG L) (by omega)).trans L;obtain⟨r,n⟩:∃r,r=m.Q7 / 2097152+k:=⟨_,rfl⟩;obtain⟨q,hq⟩:∃q,q=r / 512:=⟨_,rfl⟩;rw[←n]at hk;have cc:r<2097152:=by omega
  have bz:(r:Int) / 512=(q:Int):=by omega
  have bu:q<lim:=by unfold lim;omega
  have bc:r<lim:=by unfold lim;omega
  have B:=hh n;have HQ:=hh hq;clear n hq;refine so (fun S w1=>aA (fun i=>(rg 48 68 i)) p S∧dz 39 w1 u (nu+(k+1)) (dz.add Su' q)∧aB (fun k=>k=u) w' w1) ?_ ?_
  ·have HU:=hh Z
   clear Z W X I V K;have a0:aA (fun i=>(rg 48 68 i)) p p:=aA.refl _ _;obtain⟨T,d⟩:=p;refine rl ?_
   iterate 4 with_reducible refine st ?_
   refine dz.update rfl HU.out Tryz.lawU Tryz.underlying39 (by unfold maxLen;omega) rfl rfl Tryz.underlying207 (At.eval ar (by have:=g;simp at this⊢; omega)) (y:=q) (At.eval ar (by have:=g;simp at this⊢; omega)) bu (At.eval ar (by have:=g;simp at this⊢; omega)) ?_;intro w2 bw bp;refine ln ⟨rfl,?_,bw,bp⟩;simp only[Act.put];exact ag
  rintro S w1 ⟨C,a9,H⟩;replace k6:=C.Q7 k6 rfl;replace k9:=C.Q7 k9 rfl;replace hk:=C.Q7 hk rfl;have a8:=C.size.trans g;have a7:=W.keep H (by show ¬ A=u;omega);have bd:=(H.block zx (aG K) (by show zx≠u;omega)).trans K;have p1:w1.cell? ⟨zx,1,none⟩=some (.bool x.big):=cr bd rfl;have a3:aB (fun k=>k=u∨k=A) w w1:=V.trans H (fun _ _ h =>.inl h);have bb:∀y,y∈dz.add Su' q↔y∈Su∨PUp m y (k+1):=fun y=>by
   rw[dz.mem_add,X y];have N:=B.out;have h2:=HQ.out;constructor
   ·rintro(e|h|⟨i,hi,e⟩)
    ·exact .inr ⟨k,by omega,by rw[e,h2,N]⟩
    ·exact .inl h
    ·exact .inr ⟨i,by omega,e⟩
   ·rintro(h|⟨i,hi,e⟩)
    ·exact .inr (.inl h)
    ·rcases Nat.lt_or_ge i k with h|h
     ·exact .inr (.inr ⟨i,h,e⟩)
     ·obtain rfl:i=k:=by omega
      exact .inl (by rw[e,h2,N])
  have O:∀y,(x.big=false→(y∈dz.add Sl' r↔y∈Sl∨pK m x.big y (k+1)))∧(x.big=true→(y∈Sl'↔y∈Sl∨pK m x.big y (k+1))):=fun y=>by
   have N:=B.out;constructor
   ·intro l
    rw[dz.mem_add,I y];constructor
    ·rintro(e|h|⟨bo,i,hi,e⟩)
     ·exact .inr ⟨l,k,by omega,by rw[e,N]⟩
     ·exact .inl h
     ·exact .inr ⟨l,i,by omega,e⟩
    ·rintro(h|⟨bo,i,hi,e⟩)
     ·exact .inr (.inl h)
     ·rcases Nat.lt_or_ge i k with h|h
      ·exact .inr (.inr ⟨l,i,h,e⟩)
      ·obtain rfl:i=k:=by omega
       exact .inl (by rw[e,N])
   ·intro l
    rw[I y];unfold pK;rw[l];simp
  have an:=hh bb;have M:=hh O;have ah:=hh a9;have af:=hh a7;have ad:=hh a3;have bj:Hid (aA (fun i=>i==11||(rg 48 68 i)) a S):=v.t C;clear bb O a9 a7 a3 Z W X I V K v C H bd;refine so (fun U w2=>aA (fun i=>(rg 48 68 i)) S U∧At U 65 (.bool !x.big)∧w2=w1) ?_ ?_
  ·have a0:aA (fun i=>(rg 48 68 i)) S S:=aA.refl _ _
   obtain⟨T,d⟩:=S;refine rl ?_
   iterate 3 with_reducible refine st ?_
   refine ln ⟨rfl,ag,aq,rfl⟩
  rintro U w2 ⟨D,bf,rfl⟩;have G:=D.size.trans a8;replace k6:=D.Q7 k6 rfl;replace hk:=D.Q7 hk rfl;have a6:At U 11 (.int .u64 ((m.Q7 / 2097152+k:Nat):Int)):=by rw[←B.out];exact hk
  have ac:Hid (aA (fun i=>i==11||(rg 48 68 i)) a U):=bj.out.t D;clear D;refine wp_cond_split (bf.eval (by omega)) (fun l=>?_) (fun l=>?_)
  ·have E:x.big=false:=by simpa using l
   have a0:aA (fun i=>i==11||(rg 48 68 i)) a U:=ac.out;clear l bf;obtain⟨T,d⟩:=U;refine rl ?_
   iterate 3 with_reducible refine st ?_
   refine dz.update rfl af.out Tryz.lawU Tryz.underlying39 (by unfold maxLen;omega) rfl rfl Tryz.underlying207 (At.eval ar (by have:=G;simp at this⊢; omega)) (y:=r) (At.eval ar (by have:=G;simp at this⊢; omega)) bc (At.eval ar (by have:=G;simp at this⊢; omega)) ?_;intro w3 bt a4;refine ln ?_;simp only[Act.put];refine⟨?_,?_,_,_,ah.out.keep a4 (by show ¬ u=A;omega),bt,an.out,fun y=>(M.out y).1 E,ad.out.trans a4 (fun _ _ h =>.inr h)⟩
   ·exact ag
   ·(repeat (first|with_reducible exact At.self|with_reducible apply At.ne));all_goals first|decide|with_reducible exact a6
  ·have E:x.big=true:=by simpa using l
   refine wp_skip ?_;exact⟨ac.out,a6,_,_,ah.out,af.out.mono (by omega),an.out,fun y=>(M.out y).2 E,ad.out⟩
 ·rintro k p w' a5 ⟨v,hk,b⟩
  have g:=v.size.trans J;obtain⟨r,n⟩:∃r,r=m.Q7 / 2097152+k:=⟨_,rfl⟩;have e0:m.Q7 / 2097152+(k+1)=r+1:=by omega
  rw[←n]at hk;have e1:IntKind.u64.wrap ((r:Int)+1)=(r:Int)+1:=u64_in _ (by omega);have HR:=hh b;clear b n;rw[e0];obtain⟨T,d⟩:=p;refine rl ?_
  iterate 3 with_reducible refine st ?_
  refine ln ⟨rfl,?_,?_,HR.out⟩
  ·exact ag
  ·have e2:((r+1:Nat):Int)=(r:Int)+1:=by omega
   rw[e2];exact aq
 ·rintro p w' ⟨v,_,Su',Sl',N,h2,h3,h4,h5⟩
  exact hQ p w' Su' Sl' v N h2 h3 h4 h5
theorem lV(P:aC)(m:Ck.Map):ce P m=((eL P m.of).isSome&&(decide ((aU P m.of).size≤67108864)&&below m.Q7 (aU P m.of).size 549755813888)):=by
 unfold ce aU
 cases eL P m.of<;>simp
theorem qP{S L:List Nat}(a:S.Nodup)(h:∀y,y∈S↔y∈L):S.length=L.eraseDups.length:=by
 have b:=kF a (m:=L.eraseDups) (fun x hx=>List.mem_eraseDups.2 ((h x).1 hx));have d:=kF (iM L) (m:=S) (fun x hx=>(h x).2 (List.mem_eraseDups.1 hx));omega
theorem rA(P:aC)(l:List Ck.Map)(m:Ck.Map)(y:Nat):y∈du P (l++[m])↔y∈du P l∨(0<(aU P m.of).size∧PUp m y (upN m (aU P m.of).size)):=by
 unfold du PUp upN ups;rw[List.flatMap_append,List.mem_append];refine or_congr Iff.rfl ?_;simp only[List.flatMap_cons,List.flatMap_nil,List.append_nil];split
 ·rename_i h;simp;omega
 ·rename_i h
  simp only[List.mem_map,List.mem_range];constructor
  ·rintro⟨z,⟨i,a,rfl⟩,rfl⟩;exact⟨by omega,i,a,by rw[Nat.add_comm]⟩
  ·rintro⟨_,i,a,rfl⟩;exact⟨_,⟨i,a,rfl⟩,by rw[Nat.add_comm]⟩
theorem re(P:aC)(l:List Ck.Map)(m:Ck.Map)(y:Nat):y∈dy P (l++[m])↔y∈dy P l∨(0<(aU P m.of).size∧pK m (aU P m.of).big y (upN m (aU P m.of).size)):=by
 unfold dy pK upN ups;rw[List.flatMap_append,List.mem_append];refine or_congr Iff.rfl ?_;simp only[List.flatMap_cons,List.flatMap_nil,List.append_nil];split
 ·rename_i h
  rcases h with h|h
  ·simp;omega
  ·simp[h]
 ·rename_i h
  have b:(aU P m.of).big=false:=by cases hb:(aU P m.of).big<;>simp_all
  have d:¬ (aU P m.of).size=0:=fun e=>h (.inl e)
  simp only[List.mem_map,List.mem_range];constructor
  ·rintro⟨i,a,rfl⟩;exact⟨by omega,b,i,a,by rw[Nat.add_comm]⟩
  ·rintro⟨_,_,i,a,rfl⟩;exact⟨i,a,by rw[Nat.add_comm]⟩
theorem jZ{B:Nat}{P:aC}{A:Option Addr}{c:Nat}{l:List Ck.Map}(hs:aT B 5 cD w (.slice A l.length c) l)(hB:B≤w.heap.size){mb:Nat}(hm:cn w mb P)(ih:mb<w.heap.size)(fc:∀s,(aU P s).size<lim):
 Calls Tryz.prog 59 #[.slice A l.length c,.map (some mb)] w fun e w'=>e=.returned (.int .i64 (bJ P l))∧Kz w w':=by
 obtain⟨_,_,e,i1,hn,hl⟩:=hs
 cases e
 unfold top at hn;have HM:=hh hm;have f4:=hh fc;have fy:=hh hl;clear hm fc hl;refine az Tryz.func59 Tryz.ntmps59 rfl (by show 2≤76;decide) fun a e7 hd h=>?_
 have h0:At a 0 (.slice A l.length c):=h 0 _ rfl;have M:At a 1 (.map (some mb)):=h 1 _ rfl;clear h
 conv=>arg 2;whnf
 refine so (fun a1 w1=>aA (fun i=>i==4) a a1∧At a1 4 (.int .i64 (0:Nat))∧w1=w) ?_ ?_
 ·obtain⟨T,d⟩:=a
  refine rl ?_;with_reducible refine st ?_
  refine ln ⟨rfl,?_,?_,rfl⟩
  ·exact ag
  ·exact At.self
 rintro a1 w1 ⟨an,h4,rfl⟩;replace h0:=an.Q7 h0 rfl;replace M:=an.Q7 M rfl;have b2:=an.size.trans e7;have d8:=an.defers.trans hd;clear an e7 hd;refine so (fun a2 w2=>aA (fun i=>i==5||i==6||i==12||i==13) a1 a2∧At a2 5 (.map (some w1.heap.size))∧At a2 6 (.map (some (w1.heap.size+1)))∧w2=(w1.alloc (.map #[] 0)).alloc (.map #[] 0)) ?_ ?_
 ·have ix:=@run_makeMap Tryz.prog
  have Y:aA (fun i=>i==5||i==6||i==12||i==13) a1 a1:=aA.refl _ _;obtain⟨T,d⟩:=a1;refine rl ?_
  iterate 4 with_reducible refine st ?_
  refine ln ⟨rfl,ag,aq,aq,rfl⟩
 rintro a2 w2 ⟨W,h5,h6,bm⟩;replace h0:=W.Q7 h0 rfl;replace M:=W.Q7 M rfl;replace h4:=W.Q7 h4 rfl;have b3:=W.size.trans b2;have d9:=W.defers.trans d8;obtain⟨u,S⟩:∃u,u=w1.heap.size:=⟨_,rfl⟩;have s2:w2.heap.size=u+2:=by rw[bm,S];simp
 have f1:w2.heap[u]?=some (.map #[] 0):=by rw[bm,S,Below.heap_alloc _ _ _ (by simp)];exact heap_alloc_new _ _
 have f2:w2.heap[u+1]?=some (.map #[] 0):=by
  rw[bm,S];have:=heap_alloc_new (w1.alloc (.map #[] 0)) (.map #[] 0)
  rwa[World.size_alloc]at this
 have eg:Kz w1 w2:=by rw[bm];exact((aB.refl _ _).alloc _).alloc _
 rw[←S]at h5 h6;have i0:mb<u:=by omega
 have hw:B≤u:=by omega
 have HU:=hh S;clear bm W b2 d8 S;refine wp_seq (wp_seq (Code.wp_only (R:=fun a3 w3=>aA (fun i=>i==14||i==15||i==16) a2 a3∧At a3 14 (.slice A l.length c)∧At a3 15 (.int .i64 l.length)∧At a3 16 (.int .i64 0)∧w3=w2) ?_ ?_))
 ·have Y:aA (fun i=>i==14||i==15||i==16) a2 a2:=aA.refl _ _
  obtain⟨T,d⟩:=a2;refine rl ?_
  iterate 3 with_reducible refine st ?_
  refine ln ⟨rfl,ag,aq,aq,aq,rfl⟩
 rintro a3 w3 ⟨O,hf,he,ha,rfl⟩;replace M:=O.Q7 M rfl;replace h4:=O.Q7 h4 rfl;replace h5:=O.Q7 h5 rfl;replace h6:=O.Q7 h6 rfl;have b4:=O.size.trans b3;have eb:=O.defers.trans d9;clear O b3 d9 h0;have cf:=hh eg;clear eg;refine ai l.length (fun i=>(rg 8 11 i)||(rg 16 69 i)) (fun i=>(rg 8 11 i)||(rg 18 68 i))
  (fun k _ w'=>∃nu nl Su Sl,dz 39 w' u nu Su∧dz 39 w' (u+1) nl Sl∧nu≤34*k∧nl≤34*k∧(∀y,y∈Su↔y∈du P (l.take k))∧(∀y,y∈Sl↔y∈dy P (l.take k))∧(∀m∈l.take k,ce P m=true)∧aB (fun k=>k=u∨k=u+1) w3 w') (by omega) ha he (by decide) rfl
  (by intro j;simp;omega) (by omega) (by decide) (fun k a1 a2 w N hI=>hI) ⟨0,0,[],[],dz.new _ _ _ f1,dz.new _ _ _ f2,Nat.zero_le _,Nat.zero_le _,by simp[du],by simp[dy],by simp,aB.refl _ _⟩ ?_ ?_
 ·rintro n a4 wr go N hb ⟨nu,nl,Su,Sl,S,hl,eo,en,ad,ac,Z,hk⟩
  obtain⟨bl,off,rfl,gb,d7⟩:=fy.out (by omega);obtain⟨m,hx⟩:=ge go;have cm:aB (fun k=>k=u∨k=u+1) w1 wr:=(cf.out.mono fun _ _ h=>h.elim:aB (fun k=>k=u∨k=u+1) w1 w3).trans hk (fun _ _ h=>h);obtain⟨hc,cb⟩:=(aK B _ _) _ _ _ _ _ (cm.below (B:=B) (by omega) (fun _ hi e=>by omega)) gb (d7 n m hx);have q0:=hc.c0;have q1:=hc 1 _ rfl;have q2:=hc 2 _ rfl;have q3:=hc 3 _ rfl;have q4:=hc 4 _ rfl;have c2:=N.Q7 M rfl;have U:=N.Q7 h4 rfl;have g:=N.Q7 h5 rfl;have p:=N.Q7 h6 rfl;have fj:=N.Q7 hf rfl;have I:=N.size.trans b4;have cs:=N.defers.trans eb;have hj:=hk.size;have hg:bl<wr.heap.size:=by omega
  have h8:n≤c:=by omega
  obtain⟨x,af⟩:∃x,x=aU P m.of:=⟨_,rfl⟩;have gx:x.size<lim:=by rw[af];exact f4.out _
  obtain⟨ok,bd⟩:∃b,b=(eL P m.of).isSome:=⟨_,rfl⟩;have bu:=aP hx;have f5:Hid (ce P m=(ok&&(decide (x.size≤67108864)&&below m.Q7 x.size 549755813888))):=by rw[bd,af];exact lV P m
  have d4:Hid (∀y,y∈du P (l.take (n+1))↔y∈du P (l.take n)∨(0<x.size∧PUp m y (upN m x.size))):=hh fun y=>by rw[bu,af];exact rA P _ m y
  have di:Hid (∀y,y∈dy P (l.take (n+1))↔y∈dy P (l.take n)∨(0<x.size∧pK m x.big y (upN m x.size))):=hh fun y=>by rw[bu,af];exact re P _ m y
  have d2:Hid (∀m'∈l.take (n+1),m'∈l.take n∨m'=m):=hh fun m' bp=>by rw[bu]at bp;simpa using bp
  have fz:Hid (m∈l):=hh (List.mem_of_getElem? hx);have ds:Hid (∃nn,dA wr mb nn (.agg #[.int .u64 0,.bool false,.bool false]) (fun s=>uM (aU P s)) (fun s=>(eL P s).isSome)):=by
   obtain⟨nn,bt⟩:=HM.out;exact⟨nn,bt.keep cm (by show ¬ (mb=u∨mb=u+1);omega)⟩
  have cd:=hh S;have cc:=hh hl;have d1:=hh ad;have dl:=hh ac;have dk:=hh Z;have HK:=hh hk;have f7:=hh af;have f0:=hh bd;have i2:=S.lt;have h9:=hl.lt;clear hx d7 hc N S hl ad ac Z hk af bd bu cm;refine so (fun a5 w5=>aA (fun i=>i==18||i==19||i==8) a4 a5∧At a5 8 (.pointer (some ⟨wr.heap.size,0,none⟩))∧w5=wr.alloc (.cells #[.int .i64 m.pos,.string m.of,.int .u64 m.Q7,.bool m.write,.bool m.exec] 71)) ?_ ?_
  ·have Y:aA (fun i=>i==18||i==19||i==8) a4 a4:=aA.refl _ _
   obtain⟨T,d⟩:=a4;refine rl ?_
   iterate 4 with_reducible refine st ?_
   refine ln ⟨rfl,ag,aq,rfl⟩
  rintro a5 w5 ⟨E,r,bw⟩;obtain⟨zm,bx⟩:∃z,z=wr.heap.size:=⟨_,rfl⟩;rw[←bx]at r;have fm:w5.heap[zm]?=some (.cells #[.int .i64 m.pos,.string m.of,.int .u64 m.Q7,.bool m.write,.bool m.exec] 71 (0,0)):=by rw[bw,bx];exact heap_alloc_new _ _
  have f3:Hid (w5.heap.size=wr.heap.size+1):=hh (by rw[bw];simp);have el:Kz wr w5:=by rw[bw];exact(aB.refl _ _).alloc _
  have q1:w5.cell? ⟨zm,1,none⟩=some (.string m.of):=cr fm rfl;replace c2:=E.Q7 c2 rfl;replace U:=E.Q7 U rfl;replace g:=E.Q7 g rfl;replace p:=E.Q7 p rfl;have be:=E.size.trans I;have gd:=E.defers.trans cs;have f8:=hh bx;have c8:=hh el;have fr:Hid (aA (fun i=>(rg 8 11 i)||(rg 18 68 i)) a4 a5):=E.m;have FM:=hh fm;clear bw E bx el q0 q2 q3 q4 hb fj fm
  -- r5
  refine so (fun a6 w6=>aA (fun i=>i==9||i==10||(rg 20 26 i)) a5 a6∧At a6 9 (.pointer (some ⟨w5.heap.size,0,none⟩))∧At a6 10 (.bool ok)∧w6=w5.alloc (.cells #[.int .u64 x.size,.bool x.big,.bool x.wx] 182)) ?_ ?_
  ·have Y:aA (fun i=>i==9||i==10||(rg 20 26 i)) a5 a5:=aA.refl _ _
   obtain⟨nn,bt⟩:=ds.out;have d0:=hh (bt.keep c8.out (fun h=>h));clear bt;have em:m.of.size≤maxLen:=Nat.le_trans cb.2.2 (by unfold maxLen;omega);obtain⟨T,d⟩:=a5;refine rl ?_
   iterate 3 with_reducible refine st ?_
   refine dA.lookup_ok rfl d0.out rfl rfl Tryz.underlying121 sL (At.eval ar (by have:=be;simp at this⊢; omega)) (At.eval ar (by have:=be;simp at this⊢; omega)) em ?_;rw[←f7.out,←f0.out];simp only[Act.put,uM]
   iterate 6 with_reducible refine st ?_
   refine ln ⟨rfl,ag,aq,aq,rfl⟩
  rintro a6 w6 ⟨G,L,ho,cw⟩;obtain⟨zx,c1⟩:∃z,z=w5.heap.size:=⟨_,rfl⟩;rw[←c1]at L;have fx:w6.heap[zx]?=some (.cells #[.int .u64 x.size,.bool x.big,.bool x.wx] 182 (0,0)):=by rw[cw,c1];exact heap_alloc_new _ _
  have cu:Kz w5 w6:=by rw[cw];exact(aB.refl _ _).alloc _
  have cl:=(cu.block zm (aG FM.out) (fun h=>h)).trans FM.out;have H:Kz wr w6:=c8.out.trans cu (fun _ _ h=>h);have q2:w6.cell? ⟨zm,2,none⟩=some (.int .u64 m.Q7):=cr cl rfl;have p0:w6.cell? ⟨zx,0,none⟩=some (.int .u64 x.size):=cr fx rfl;have HZ:Hid (zm≠u∧zm≠u+1∧zx≠u∧zx≠u+1):=hh (by have:=f8.out;have:=f3.out;omega);replace U:=G.Q7 U rfl;replace g:=G.Q7 g rfl;replace p:=G.Q7 p rfl;replace r:=G.Q7 r rfl;have e8:=G.size.trans be;have gf:=G.defers.trans gd;have fs:Hid (aA (fun i=>(rg 8 11 i)||(rg 18 68 i)) a4 a6):=fr.out.t G;have hp:=hh H;have FX:=hh fx;have FM6:=hh cl;have d3:=hh (cd.out.keep H (fun h=>h));have c9:=hh (cc.out.keep H (fun h=>h));have ah:Hid (aB (fun k=>k=u∨k=u+1) w3 w6):=HK.out.trans H (fun _ _ h=>h.elim);clear cw G c1 cu fx cl q1 H c2 ds;obtain⟨gt,bo⟩:∃b,b=decide (67108864<x.size):=⟨_,rfl⟩;obtain⟨d5,V⟩:∃b,b=below m.Q7 x.size 549755813888:=⟨_,rfl⟩;have fl:decide ((67108864:Int)<(x.size:Int))=gt:=by rw[bo];exact decide_eq_decide.2 (by omega)
  have cp:=jP m.Q7 x.size 549755813888 w6 (by have:=cb.2.1;unfold lim at this;omega) (by unfold lim at gx;omega) (by decide);rw[←V]at cp;have c5:=hh cp;have b0:Hid (ce P m=(ok&&(!gt&&d5))):=hh (by rw[f5.out,bo,V];congr 2;rw[←decide_not];exact decide_eq_decide.2 (by omega));have c7:=hh bo;have c6:=hh V;clear bo V cp;refine wp_seq (wp_seq (Code.wp_only (R:=fun a7 w7=>aA (fun i=>(rg 27 41 i)) a6 a7∧At a7 41 (.bool (!ce P m))∧w7=w6) ?_ ?_))
  ·have Y:aA (fun i=>(rg 27 41 i)) a6 a6:=aA.refl _ _
   have i3:=aJ;rw[b0.out];obtain⟨T,d⟩:=a6;refine rl ?_
   iterate 3 with_reducible refine st ?_
   cases ok
   ·iterate 12
     with_reducible refine st ?_
    refine ln ⟨rfl,?_,?_,rfl⟩
    ·exact ag
    ·first|(simp only[Bool.false_and,Bool.true_and,Bool.not_false,Bool.not_true,Bool.and_false];exact At.self)|(exact aq)
   ·iterate 5
     with_reducible refine st ?_
    cases gt
    ·iterate 4
      with_reducible refine st ?_
     with_reducible refine Lz (fun K hK=>?_)
     go_simp;refine c5.out.mono ?_;rintro e w7 ⟨rfl,rfl⟩;with_reducible refine hK _ _ ?_;clear hK K
     iterate 2 with_reducible refine st ?_
     refine ln ⟨rfl,?_,?_,rfl⟩
     ·exact ag
     ·first|(simp only[Bool.false_and,Bool.true_and,Bool.not_false,Bool.not_true,Bool.and_false];exact At.self)|(exact aq)
    ·iterate 7
      with_reducible refine st ?_
     refine ln ⟨rfl,?_,?_,rfl⟩
     ·exact ag
     ·first|(simp only[Bool.false_and,Bool.true_and,Bool.not_false,Bool.not_true,Bool.and_false];exact At.self)|(exact aq)
  rintro a7 w7 ⟨v,ff,rfl⟩;replace U:=v.Q7 U rfl;replace g:=v.Q7 g rfl;replace p:=v.Q7 p rfl;replace r:=v.Q7 r rfl;replace L:=v.Q7 L rfl;have bf:=v.size.trans e8;have gg:=v.defers.trans gf;have c3:Hid (aA (fun i=>(rg 8 11 i)||(rg 18 68 i)) a4 a7):=fs.out.t v;clear v;refine wp_cond_split (ff.eval (by omega)) (fun b1=>?_) (fun bb=>?_)
  ·-- it ends with 0
   have gr:bJ P l=0:=by
    unfold bJ;rw[if_neg];intro h;have:=List.all_eq_true.1 h m fz.out;rw[this]at b1
    cases b1
   refine so (fun C w8=>C.tmps.size=76∧C.defers=[]∧At C 4 (.int .i64 (0:Nat))∧w8=w7) ?_ ?_
   ·obtain⟨T,d⟩:=a7
    refine rl ?_;with_reducible refine st ?_
    refine ln ⟨rfl,?_,gg,?_,rfl⟩
    ·have:=bf;simp at this⊢; omega
    ·exact At.self
   rintro C w8 ⟨J,ct,k4,rfl⟩;refine wp_ret ?_
   repeat (first|with_reducible apply b8|with_reducible apply bG)
   refine b9 (t:=4) rfl k4 (by rw[J];decide) ct ?_;exact⟨by rw[gr],(cf.out.trans ah.out (fun i hi h=>by have:=HU.out;omega))⟩
  ·have bc:ce P m=true:=by simpa using bb
   refine wp_skip ?_;have ev:(ok&&(!gt&&d5))=true:=by rw[←b0.out];exact bc
   simp only[Bool.and_eq_true,Bool.not_eq_true']at ev;obtain⟨gp,er,es⟩:=ev;have gy:x.size≤67108864:=by have M:=c7.out;rw[er]at M;have:=of_decide_eq_false M.symm;omega
   have a0:below m.Q7 x.size 549755813888=true:=by rw[←c6.out];exact es
   have bz:Hid (∀m'∈l.take (n+1),ce P m'=true):=hh fun m' bp=>by
    rcases d2.out m' bp with h|rfl
    ·exact dk.out m' h
    ·exact bc
   clear bb gp er es c6 c7 fl ff bc dk d2 c5;obtain⟨ze,cy⟩:∃b,b=decide (x.size=0):=⟨_,rfl⟩;have fp:((x.size:Int)==0)=ze:=by rw[cy];exact dK _ 0
   have ci:=hh cy;clear cy;refine wp_seq (wp_seq (Code.wp_only (R:=fun C w8=>aA (fun i=>(rg 42 44 i)) a7 C∧At C 44 (.bool ze)∧w8=w7) ?_ ?_))
   ·have Y:aA (fun i=>(rg 42 44 i)) a7 a7:=aA.refl _ _
    obtain⟨T,d⟩:=a7;refine rl ?_
    iterate 3 with_reducible refine st ?_
    refine ln ⟨rfl,ag,aq,rfl⟩
   rintro C w8 ⟨Q,fi,rfl⟩;replace g:=Q.Q7 g rfl;replace p:=Q.Q7 p rfl;replace r:=Q.Q7 r rfl;replace L:=Q.Q7 L rfl;have J:=Q.size.trans bf;have c4:Hid (aA (fun i=>(rg 8 11 i)||(rg 18 68 i)) a4 C):=c3.out.t Q;clear Q bf c3 U;refine wp_cond_split (fi.eval (by omega)) (fun hz=>?_) (fun hz=>?_)
   ·refine wp_exit ?_
    have fe:¬ 0<x.size:=by have M:=ci.out;rw[hz]at M;have:=of_decide_eq_true M.symm;omega
    repeat with_reducible apply eh
    simp only[dg,if_true];exact⟨c4.out,nu,nl,Su,Sl,d3.out,c9.out,by omega,by omega,fun y=>by rw[d4.out y,d1.out y];exact⟨.inl,fun h=>h.elim id fun h=>absurd h.1 fe⟩,fun y=>by rw[di.out y,dl.out y];exact⟨.inl,fun h=>h.elim id fun h=>absurd h.1 fe⟩,bz.out,ah.out⟩
   ·have cx:0<x.size:=by have M:=ci.out;rw[hz]at M;have:=of_decide_eq_false M.symm;omega
    refine wp_skip ?_;have gw:upN m x.size≤34:=by
     obtain⟨h3,h7⟩:m.Q7≤549755813888∧x.size≤549755813888-m.Q7:=by
      unfold below at a0
      simpa using a0
     unfold upN;omega
    obtain⟨q,hq⟩:∃q,q=m.Q7 / 2097152:=⟨_,rfl⟩;have ht:(m.Q7:Int) / 2097152=(q:Int):=by omega
    have HQ:=hh hq;clear hz hq fi ci fp;refine so (fun a9 w9=>aA (fun i=>i==11||(rg 45 47 i)) C a9∧At a9 11 (.int .u64 q)∧w9=w8) ?_ ?_
    ·have Y:aA (fun i=>i==11||(rg 45 47 i)) C C:=aA.refl _ _
     obtain⟨T,d⟩:=C;refine rl ?_
     iterate 4 with_reducible refine st ?_
     refine ln ⟨rfl,?_,?_,rfl⟩
     ·exact ag
     ·first|(simp only[Bool.false_and,Bool.true_and,Bool.not_false,Bool.not_true,Bool.and_false];exact At.self)|(exact aq)
    rintro a9 w9 ⟨X,b5,rfl⟩;replace g:=X.Q7 g rfl;replace p:=X.Q7 p rfl;replace r:=X.Q7 r rfl;replace L:=X.Q7 L rfl;have e9:=X.size.trans J;have ft:Hid (aA (fun i=>(rg 8 11 i)||(rg 18 68 i)) a4 a9):=c4.out.t X;rw[HQ.out]at b5;obtain⟨z1,z2,z3,z4⟩:=HZ.out;refine oY a0 cx gy d3.out c9.out (by omega) (by omega) (by omega) (zm:=zm) (zx:=zx) FM6.out FX.out ⟨z1,z2,z3,z4⟩ a9 e9 g p r L b5 _ ?_;intro hr i5 Su' Sl' d6 gs gn e6 e5 gl;refine⟨ft.out.t d6,_,_,Su',Sl',gs,gn,by omega,by omega,fun y=>?_,fun y=>?_,bz.out,ah.out.trans gl (fun _ _ h=>h)⟩
    ·rw[e6 y,d4.out y,d1.out y];exact or_congr Iff.rfl ⟨fun h=>⟨cx,h⟩,fun h=>h.2⟩
    ·rw[e5 y,di.out y,dl.out y];exact or_congr Iff.rfl ⟨fun h=>⟨cx,h⟩,fun h=>h.2⟩
 ·rintro a4 w4 N ⟨nu,nl,Su,Sl,S,hl,eo,en,ad,ac,Z,hk⟩
  rw[List.take_length]at ad ac Z;replace h5:=N.Q7 h5 rfl;replace h6:=N.Q7 h6 rfl;have I:=N.size.trans b4;have cs:=N.defers.trans eb;have cd:=hh S;have cc:=hh hl;have h2:=Nat.le_trans (by obtain⟨D,o1,_,o3,_⟩:=S;rw[←o3];exact o1.size_le:Su.length≤nu) eo;have hy:=Nat.le_trans (by obtain⟨D,o1,_,o3,_⟩:=hl;rw[←o3];exact o1.size_le:Sl.length≤nl) en;have bj:bJ P l=1+Su.length+Sl.length:=by
   unfold bJ;rw[if_pos (List.all_eq_true.2 Z),qP (by obtain⟨D,_,o2,_⟩:=S;exact o2) ad,qP (by obtain⟨D,_,o2,_⟩:=hl;exact o2) ac]
  have e1:IntKind.i64.wrap ((1:Int)+(Su.length:Int))=((1+Su.length:Nat):Int):=by rw[i64_in _ (by omega)];omega
  obtain⟨s1,e0⟩:∃s,s=1+Su.length:=⟨_,rfl⟩;rw[←e0]at e1 bj;have e2:IntKind.i64.wrap ((s1:Int)+(Sl.length:Int))=((bJ P l:Nat):Int):=by rw[bj,i64_in _ (by omega)];omega
  obtain⟨tt,cv⟩:∃t,t=bJ P l:=⟨_,rfl⟩;rw[←cv]at e2;have f6:=hh cv;have fv:Hid (Kz w1 w4):=hh (cf.out.trans hk (fun i hi h=>by have:=HU.out;omega));clear bj e0 cv S hl ad ac Z hk N;refine so (fun C w8=>C.tmps.size=76∧C.defers=[]∧At C 4 (.int .i64 tt)∧w8=w4) ?_ ?_
  ·obtain⟨T,d⟩:=a4
   refine rl ?_;with_reducible refine st ?_
   refine dz.len rfl cd.out rfl rfl Tryz.underlying207 (At.eval ar (by have:=I;simp at this⊢; omega)) ?_;simp only[Act.put]
   iterate 2 with_reducible refine st ?_
   refine dz.len rfl cc.out rfl rfl Tryz.underlying207 (At.eval ar (by have:=I;simp at this⊢; omega)) ?_;simp only[Act.put]
   iterate 2 with_reducible refine st ?_
   refine ln ⟨rfl,?_,cs,?_,rfl⟩
   ·have:=I;simp at this⊢; omega
   ·exact At.self
  rintro C w8 ⟨J,ct,k4,rfl⟩;refine wp_ret ?_
  repeat (first|with_reducible apply b8|with_reducible apply bG)
  refine b9 (t:=4) rfl k4 (by rw[J];decide) ct ?_;exact⟨by rw[f6.out],fv.out⟩
end Go.Proofs.YtpblcjipmoblnaaGreatDoor
namespace Go.Proofs.YtpblcjipmoblnaaGreatDoor
open Go.RowKit Go.IntWalk Go.Shelf Ck
attribute [local go_sem] Oper.semAt_some
abbrev zT:Value := .agg #[.int .u64 0,.bool false,.bool false]
def xj(P:aC)(l:List (Fin P.Q4.length)):ByteArray→Value:=oK (fun i=>P.Q4[i].name) (fun i =>.agg #[.int .u64 (P.Q4[i].size:Nat),.bool false,.bool false]) (fun _=>zT) l
def xi(P:aC)(l:List (Fin P.Q4.length)):ByteArray→Bool:=oJ (fun i=>P.Q4[i].name) (fun _=>false) l
def xC(P:aC)(l:List (Fin P.Q5.length)):ByteArray→Value:=oK (fun i=>P.Q5[i].name) (fun i =>.agg #[.int .u64 (P.Q5[i].size:Nat),.bool P.Q5[i].big,.bool P.Q5[i].wx]) (xj P (List.finRange _)) l
def xB(P:aC)(l:List (Fin P.Q5.length)):ByteArray→Bool:=oJ (fun i=>P.Q5[i].name) (xi P (List.finRange _)) l
theorem wM(P:aC)(s:ByteArray):xj P (List.finRange _) s=match P.Q4.find? (fun x=>decide (x.name=s))with|some x =>.agg #[.int .u64 (x.size:Nat),.bool false,.bool false]|none=>zT:=by
 unfold xj;rw[iG,jA P.Q4]
 cases(List.finRange P.Q4.length).find? fun i=>decide (P.Q4[i].name=s)<;>rfl
theorem wL(P:aC)(s:ByteArray):xi P (List.finRange _) s=(P.Q4.find? (fun x=>decide (x.name=s))).isSome:=by
 unfold xi;rw[je,jA P.Q4]
 cases(List.finRange P.Q4.length).find? fun i=>decide (P.Q4[i].name=s)<;>rfl
theorem vO(P:aC)(s:ByteArray):xC P (List.finRange _) s=uM (aU P s):=by
 unfold xC aU eL;rw[iG,jA P.Q5,wM]
 cases(List.finRange P.Q5.length).find? fun i=>decide (P.Q5[i].name=s)with
 | some i=>rfl
 | none =>
  simp only[Option.map_none]
  cases P.Q4.find? fun x=>decide (x.name=s)<;>rfl
theorem vN(P:aC)(s:ByteArray):xB P (List.finRange _) s=(eL P s).isSome:=by
 unfold xB eL;rw[je,jA P.Q5,wL]
 cases(List.finRange P.Q5.length).find? fun i=>decide (P.Q5[i].name=s)with
 | some i=>rfl
 | none =>
  simp only[Option.map_none]
  cases P.Q4.find? fun x=>decide (x.name=s)<;>rfl
theorem jY:mo:=by
 intro B w v P hp hB;obtain⟨A_rams,ad,bz,cv,c3,cy⟩:=hp.QF;obtain⟨A_devices,g,V,be,bp,S⟩:=hp.Q4;obtain⟨A_regions,a,Z,bl,bw,U⟩:=hp.Q5;obtain⟨A_subjects,y,Q,a5,bc,a8⟩:=hp.Q3;obtain⟨A_channels,p,M,a3,a9,a6⟩:=hp.Q8;obtain⟨A_irqs,ac,bx,cu,c2,cx⟩:=hp.QG;obtain⟨A_queues,H,an,b1,cc,b5⟩:=hp.QC;obtain⟨A_plans,J,a2,cl,cs,cp⟩:=hp.Q9;obtain⟨A_masters,G,Y,bj,bu,bo⟩:=hp.QD;obtain⟨A_starts,I,a0,b4,cd,cb⟩:=hp.QE;obtain⟨A_monitors,q,O,a4,bb,a7⟩:=hp.QB;obtain⟨A_forbids,E,X,bf,bt,bm⟩:=hp.QA;have e0:(v.cells P).toArray = #[.int .i64 P.pos,.string P.name,.slice A_rams P.QF.length ad,.slice A_devices P.Q4.length g,.slice A_regions P.Q5.length a,.slice A_subjects P.Q3.length y,.slice A_channels P.Q8.length p,.slice A_irqs P.QG.length ac,.slice A_queues P.QC.length H,.slice A_plans P.Q9.length J,.slice A_masters P.QD.length G,.slice A_starts P.QE.length I,.slice A_monitors P.QB.length q,.slice A_forbids P.QA.length E]:=by
  rw[←bz,←V,←Z,←Q,←M,←bx,←an,←a2,←Y,←a0,←O,←X];rfl
 rw[e0];unfold top at bp bw;have c8:=hh S;have ci:=hh U;clear e0 hp bz V Z Q M bx an a2 Y a0 O X cy S U a8 a6 cx b5 cp bo cb a7 bm cv a5 a3 cu b1 cl bj b4 a4 bf c3 bc a9 c2 cc cs bu cd bb bt;refine(callsIn_wide (n:=9)).1 ?_;refine callsIn_of_wp_marks Tryz.func58 rfl trivial ?_;simp only[Tryz.ntmps58,List.size_toArray,List.length_cons,List.length_nil,Nat.reduceAdd,Nat.reduceSub,Array.replicate_succ,Array.replicate_zero,List.push_toArray,List.append_toArray,List.nil_append,List.cons_append];have e5:=@run_makeMap Tryz.prog
 gi_wp2
 refine⟨trivial,?_⟩;refine(mj Fence.wide 8 trivial rfl _ _ _ _).mono ?_;rintro e w' ⟨rfl,rfl⟩
 gi_wp2
 obtain⟨W0,d6⟩:∃W0,W0=(((w.alloc (.cells #[.int .i64 P.pos,.string P.name,.slice A_rams P.QF.length ad,.slice A_devices P.Q4.length g,.slice A_regions P.Q5.length a,.slice A_subjects P.Q3.length y,.slice A_channels P.Q8.length p,.slice A_irqs P.QG.length ac,.slice A_queues P.QC.length H,.slice A_plans P.Q9.length J,.slice A_masters P.QD.length G,.slice A_starts P.QE.length I,.slice A_monitors P.QB.length q,.slice A_forbids P.QA.length E] 34)).alloc (.map #[] 0)).alloc (.cells #[.map (some (w.heap.size+1))] 121)).alloc (.cells #[.slice A_devices P.Q4.length g] 24):=⟨_,rfl⟩;have hf:=qZ w (.cells #[.int .i64 P.pos,.string P.name,.slice A_rams P.QF.length ad,.slice A_devices P.Q4.length g,.slice A_regions P.Q5.length a,.slice A_subjects P.Q3.length y,.slice A_channels P.Q8.length p,.slice A_irqs P.QG.length ac,.slice A_queues P.QC.length H,.slice A_plans P.Q9.length J,.slice A_masters P.QD.length G,.slice A_starts P.QE.length I,.slice A_monitors P.QB.length q,.slice A_forbids P.QA.length E] 34) (.map #[] 0) (.cells #[.map (some (w.heap.size+1))] 121) (.cells #[.slice A_devices P.Q4.length g] 24);rw[←d6]at hf⊢;obtain⟨s0,b0,m0,b2,b3,hb⟩:=hf;clear d6;obtain⟨sf,bd,L⟩:=kZ (σ:=Option Addr×Nat) (fun(x:Ck.bE) s=>[.int .i64 x.pos,.string x.name,.int .u64 x.Q7,.int .u64 x.size,.slice s.1 x.maps.length s.2]) (fun x _=>ae x.name) (fun b o x hx=>by
  obtain⟨u,hc,⟨Am,cm,rfl,_⟩,_,_,_,hs⟩:=hx;exact⟨(Am,cm),hc,hs⟩) c8.out
 obtain⟨vs,a1⟩:∃vs:Nat→Nat→Value,vs=fun j c=>if h:j<P.Q4.length then([.int .i64 P.Q4[j].pos,.string P.Q4[j].name,.int .u64 P.Q4[j].Q7,.int .u64 P.Q4[j].size,.slice (sf j).1 P.Q4[j].maps.length (sf j).2]:List Value).getD c undef else undef:=⟨_,rfl⟩
 have hA:0<P.Q4.length→∃b off,A_devices=some ⟨b,off,none⟩∧b<w.heap.size+4∧b≠w.heap.size+1∧∀j c,j<P.Q4.length→c<5→W0.cell? ⟨b,off+j*5+c,none⟩=some (vs j c):=fun c4=>by
  obtain⟨b,off,h1,R,h3⟩:=bd c4;refine⟨b,off,h1,by omega,by omega,fun j c hj hc=>?_⟩;rw[a1];simp only[dif_pos hj];refine(h3 j hj).below hb (by omega) c _ ?_
  match c,hc with
  | 0,_=>rfl
  | 1,_=>rfl
  | 2,_=>rfl
  | 3,_=>rfl
  | 4,_=>rfl
 have ah:=nb Fence.wide 8 trivial rfl (by decide) (w.heap.size+1+1+1) (w.heap.size+1) (w.heap.size+4) P.Q4.length g A_devices vs (by omega) be ⟨by omega,by omega⟩ W0 (by omega) (cell_of_one b3) hA;rw[show(fun x:Fin P.Q4.length=>(#[.int .i64 (x.val:Int),.agg #[vs x.val 0,vs x.val 1,vs x.val 2,vs x.val 3,vs x.val 4]]:Array Value))=fun x =>#[.int .i64 (x.val:Int),.agg #[.int .i64 P.Q4[x.val].pos,.string P.Q4[x.val].name,.int .u64 P.Q4[x.val].Q7,.int .u64 P.Q4[x.val].size,.slice (sf x.val).1 P.Q4[x.val].maps.length (sf x.val).2]] from by
  funext x
  rw[a1];simp only[dif_pos x.isLt];rfl]at ah
 refine wpIn_rangeFunc_ownH (F:=Fence.wide) (n:=9) rfl (by decide) (gf:=134) (lb := #[.pointer (some ⟨w.heap.size+1+1+1,0,none⟩)]) rfl trivial (enters_of Tryz.func134 (by kernel_rfl) rfl)
  ah oL (vz (by omega)) (Below.refl _ _) (fun _=>rfl)
  (fun C W=>(dA W (w.heap.size+1) C.length zT (xj P C.reverse) (xi P C.reverse)∧W.heap[w.heap.size+1+1]?=some (.cells #[.map (some (w.heap.size+1))] 121 (0,0))∧W.heap[w.heap.size]?=some (.cells #[.int .i64 P.pos,.string P.name,.slice A_rams P.QF.length ad,.slice A_devices P.Q4.length g,.slice A_regions P.Q5.length a,.slice A_subjects P.Q3.length y,.slice A_channels P.Q8.length p,.slice A_irqs P.QG.length ac,.slice A_queues P.QC.length H,.slice A_plans P.Q9.length J,.slice A_masters P.QD.length G,.slice A_starts P.QE.length I,.slice A_monitors P.QB.length q,.slice A_forbids P.QA.length E] 34 (0,0)))∧Below w.heap.size w W)
  (fun _ _ _=>False)
  (OwnFrom.and (OwnFrom.and (fun s A B row hs hg hr=>dA.own hs hg (fun r e=>(hr r e).1) (by omega)) (OwnFrom.and (Own.from (g0 _ _ _ _) _) (Own.from (g0 _ _ _ _) _))) (ownFrom_below (Nat.le_refl _) (by omega)))
  (fun _ _ _ _ _ hs _ _=>hs)
  ⟨⟨dA.new _ _ _ m0,b2,b0⟩,hb⟩
  (fun x (a':Act) (W:World)=>∃Bx:Nat,W.heap[Bx]?=some (Obj.cells #[.int .i64 P.Q4[x.val].pos,.string P.Q4[x.val].name,.int .u64 P.Q4[x.val].Q7,.int .u64 P.Q4[x.val].size,.slice (sf x.val).1 P.Q4[x.val].maps.length (sf x.val).2] 45 (0,0))∧a'.tmps.size=36∧At a' 3 (.pointer (some ⟨w.heap.size+1+1,0,none⟩))∧At a' 5 (.pointer (some ⟨Bx,0,none⟩)))
  (fun x a' s A B row hs hg hr=>by
   obtain⟨Bx,R,h3⟩:=hs;exact⟨Bx,mQ R hg (fun r e=>(hr r e).2),h3⟩)
  ?assign ?body ?done ?stop
 case assign =>
  rintro l C x W K ⟨⟨hS,R,h0⟩,hB⟩ hK;have c1:=aG R;clear ah hA L bd a1 c8 ci
  gi_wp2
  exact hK _ _ ((KeepsOthers.alloc _ _).from _) ((aB.refl _ _).alloc _) ⟨⟨hS.keep (((aB.refl (fun _=>False) _).alloc _)) (fun h=>h),(Below.heap_alloc _ _ _ c1).trans R,(Below.heap_alloc _ _ _ (aG h0)).trans h0⟩,hB.alloc hB.size _⟩ ⟨W.heap.size,heap_alloc_new _ _,rfl,fun _=>rfl,fun _=>rfl⟩
 case body =>
  rintro l C x a' W hl _ ⟨⟨hS,R,h0⟩,hB⟩ ⟨Bx,hX,cf,k3,k5⟩ en;have q1:W.cell? ⟨Bx,1,none⟩=some (.string P.Q4[x.val].name):=cr hX rfl;have q3:W.cell? ⟨Bx,3,none⟩=some (.int .u64 P.Q4[x.val].size):=cr hX rfl;have qm:=cell_of_one R;have c5:=L x.val x.isLt;have HS:=hh hS;have H2:=hh R;have H0:=hh h0;have HB:=hh hB;have dk:Hid (ae P.Q4[x.val].name):=hh c5;clear hS R h0 hB hX ah hA L bd a1 c8 ci c5;obtain⟨T,d⟩:=a';refine wpIn_block (wpIn_region_lit ?_)
  iterate 6
   with_reducible refine wpListIn_step (fun K hK=>?_)
   go_simp;with_reducible refine hK _ _ ?_;clear hK K
  refine dA.updateIn rfl HS.out (by unfold maxLen;omega) rfl rfl Tryz.underlying121 (At.eval (by exact aq) (by have:=cf;simp at this⊢; omega)) (At.eval (by exact aq) (by have:=cf;simp at this⊢; omega)) (Nat.le_trans dk.out (by unfold maxLen;omega)) (At.eval (by exact aq) (by have:=cf;simp at this⊢; omega)) ?_;intro w2 dl af;refine wpListIn_nil ?_;have e1:(C++[x]).reverse=x::C.reverse:=by simp
  have e2:(C++[x]).length=C.length+1:=by simp
  refine⟨iH af (by omega),af.mono fun _ _ h =>.inl h,⟨?_,(af.block _ (aG H2.out) (by show _≠_;omega)).trans H2.out,(af.block _ (aG H0.out) (by show _≠_;omega)).trans H0.out⟩,HB.out.trans (af.below HB.out.size fun i hi e=>by omega)⟩;rw[e1,e2];exact dl
 case done =>
  rintro D ys W hD rfl ⟨⟨hS,R,h0⟩,hB⟩ hK;rw[jl,iQ (Nat.le_refl _)]at hS;have q4:W.cell? ⟨w.heap.size,4,none⟩=some (.slice A_regions P.Q5.length a):=cr h0 rfl;have HS:=hh hS;have H2:=hh R;have H0:=hh h0;have HB:=hh hB;have c7:=hh hK;have eg:=aG hK;clear hS R h0 hB ah hA L bd a1 c8 hK
  gi_wp2
  refine⟨trivial,?_⟩;refine(mi Fence.wide 8 trivial rfl _ _ _ _).mono ?_;rintro e w' ⟨rfl,rfl⟩
  gi_wp2
  have d7:Hid (KeepsFrom 0 W W):=hh (KeepsFrom.refl _ _);obtain⟨W1,ct⟩:∃W1,W1=W.alloc (.cells #[.slice A_regions P.Q5.length a] 25):=⟨_,rfl⟩;have s1:W1.heap.size=W.heap.size+1:=by rw[ct];simp
  have em:W1.heap[W.heap.size]?=some (.cells #[.slice A_regions P.Q5.length a] 25 (0,0)):=by rw[ct];exact heap_alloc_new _ _
  have cw:Kz W W1:=by rw[ct];exact(aB.refl _ _).alloc _
  rw[←ct];clear ct d7;have d4:Below w.heap.size w W1:=HB.out.trans (cw.below HB.out.size fun _ _ h=>h);have er:=HB.out.size;have el:=HS.out.keep cw (fun h=>h);have d8:=(cw.block _ (aG H2.out) (fun h=>h)).trans H2.out;have eb:=(cw.block _ eg (fun h=>h)).trans c7.out;have eo:=HS.out.lt;have es:=aG H2.out;clear cw;obtain⟨sf,bd,L⟩:=kZ (σ:=Unit) (fun(x:Ck.Region) _=>Ck.Region.cells x) (fun x _=>ae x.name) (fun b o x hx=>⟨(),hx.1,hx.2.2.2.2.2.1⟩) ci.out;obtain⟨vs,a1⟩:∃vs:Nat→Nat→Value,vs=fun j c=>if h:j<P.Q5.length then(Ck.Region.cells P.Q5[j]).getD c undef else undef:=⟨_,rfl⟩
  have hA:0<P.Q5.length→∃b off,A_regions=some ⟨b,off,none⟩∧b<W.heap.size+1∧b≠w.heap.size+1∧∀j c,j<P.Q5.length→c<10→W1.cell? ⟨b,off+j*10+c,none⟩=some (vs j c):=fun c4=>by
   obtain⟨b,off,h1,R,h3⟩:=bd c4;refine⟨b,off,h1,by omega,by omega,fun j c hj hc=>?_⟩;rw[a1];simp only[dif_pos hj];refine(h3 j hj).below d4 (by omega) c _ ?_
   match c,hc with
   | 0,_=>rfl
   | 1,_=>rfl
   | 2,_=>rfl
   | 3,_=>rfl
   | 4,_=>rfl
   | 5,_=>rfl
   | 6,_=>rfl
   | 7,_=>rfl
   | 8,_=>rfl
   | 9,_=>rfl
  have ah:=na Fence.wide 8 trivial rfl (by decide) W.heap.size (w.heap.size+1) (W.heap.size+1) P.Q5.length a A_regions vs (by omega) bl ⟨by omega,by omega⟩ W1 (by omega) (cell_of_one em) hA;rw[show(fun x:Fin P.Q5.length=>(#[.int .i64 (x.val:Int),.agg #[vs x.val 0,vs x.val 1,vs x.val 2,vs x.val 3,vs x.val 4,vs x.val 5,vs x.val 6,vs x.val 7,vs x.val 8,vs x.val 9]]:Array Value))=fun x =>#[.int .i64 (x.val:Int),.agg #[.int .i64 P.Q5[x.val].pos,.string P.Q5[x.val].name,.int .u64 P.Q5[x.val].size,.bool P.Q5[x.val].fixed,.int .u64 P.Q5[x.val].Q7,.bool P.Q5[x.val].big,.bool P.Q5[x.val].wx,.int .u64 P.Q5[x.val].fill,.bool P.Q5[x.val].QS,.string P.Q5[x.val].text]] from by
   funext x
   rw[a1];simp only[dif_pos x.isLt];rfl]at ah
  refine wpIn_rangeFunc_ownH (F:=Fence.wide) (n:=9) rfl (by decide) (gf:=135) (lb := #[.pointer (some ⟨W.heap.size,0,none⟩)]) rfl trivial (enters_of Tryz.func135 (by kernel_rfl) rfl)
   ah oL (vz (by omega)) (Below.refl _ _) (fun _=>rfl)
   (fun C W=>(dA W (w.heap.size+1) (P.Q4.length+C.length) zT (xC P C.reverse) (xB P C.reverse)∧W.heap[w.heap.size+1+1]?=some (.cells #[.map (some (w.heap.size+1))] 121 (0,0))∧W.heap[D]?=some (.deferred (some [])))∧Below w.heap.size w W)
   (fun _ _ _=>False)
   (OwnFrom.and (OwnFrom.and (fun s A B row hs hg hr=>dA.own hs hg (fun r e=>(hr r e).1) (by omega)) (OwnFrom.and (Own.from (g0 _ _ _ _) _) (fun s A B row hs hg hr=>(hg.block D (aG hs) (fun e=>by have:=(hr D e.symm).1;omega)).trans hs))) (ownFrom_below (Nat.le_refl _) (by omega)))
   (fun _ _ _ _ _ hs _ _=>hs)
   ⟨⟨el,d8,eb⟩,d4⟩
   (fun x (a':Act) (W:World)=>∃Bx:Nat,W.heap[Bx]?=some (Obj.cells #[.int .i64 P.Q5[x.val].pos,.string P.Q5[x.val].name,.int .u64 P.Q5[x.val].size,.bool P.Q5[x.val].fixed,.int .u64 P.Q5[x.val].Q7,.bool P.Q5[x.val].big,.bool P.Q5[x.val].wx,.int .u64 P.Q5[x.val].fill,.bool P.Q5[x.val].QS,.string P.Q5[x.val].text] 48 (0,0))∧a'.tmps.size=36∧At a' 3 (.pointer (some ⟨w.heap.size+1+1,0,none⟩))∧At a' 7 (.pointer (some ⟨Bx,0,none⟩)))
   (fun x a' s A B row hs hg hr=>by
    obtain⟨Bx,R,h3⟩:=hs;exact⟨Bx,mQ R hg (fun r e=>(hr r e).2),h3⟩)
   ?assign2 ?body2 ?done2 ?stop2
  case assign2 =>
   rintro l C x W K ⟨⟨hS,R,h0⟩,hB⟩ hK;have c1:=aG R;clear ah hA L bd a1 ci HS H2 H0 HB c7
   gi_wp2
   exact hK _ _ ((KeepsOthers.alloc _ _).from _) ((aB.refl _ _).alloc _) ⟨⟨hS.keep (((aB.refl (fun _=>False) _).alloc _)) (fun h=>h),(Below.heap_alloc _ _ _ c1).trans R,(Below.heap_alloc _ _ _ (aG h0)).trans h0⟩,hB.alloc hB.size _⟩ ⟨W.heap.size,heap_alloc_new _ _,rfl,fun _=>rfl,fun _=>rfl⟩
  case body2 =>
   rintro l C x a' W hl _ ⟨⟨hS,R,h0⟩,hB⟩ ⟨Bx,hX,cf,k3,k7⟩ en;have q1:W.cell? ⟨Bx,1,none⟩=some (.string P.Q5[x.val].name):=cr hX rfl;have q2:W.cell? ⟨Bx,2,none⟩=some (.int .u64 P.Q5[x.val].size):=cr hX rfl;have q5:W.cell? ⟨Bx,5,none⟩=some (.bool P.Q5[x.val].big):=cr hX rfl;have q6:W.cell? ⟨Bx,6,none⟩=some (.bool P.Q5[x.val].wx):=cr hX rfl;have qm:=cell_of_one R;have c5:=L x.val x.isLt;have di:=hh hS;have d1:=hh R;have d0:=hh h0;have c6:=hh hB;have dk:Hid (ae P.Q5[x.val].name):=hh c5;clear hS R h0 hB hX ah hA L bd a1 ci c5 HS H2 H0 HB c7;obtain⟨T,d⟩:=a';refine wpIn_block (wpIn_region_lit ?_)
   iterate 10
    with_reducible refine wpListIn_step (fun K hK=>?_)
    go_simp;with_reducible refine hK _ _ ?_;clear hK K
   refine dA.updateIn rfl di.out (by unfold maxLen;omega) rfl rfl Tryz.underlying121 (At.eval (by exact aq) (by have:=cf;simp at this⊢; omega)) (At.eval (by exact aq) (by have:=cf;simp at this⊢; omega)) (Nat.le_trans dk.out (by unfold maxLen;omega)) (At.eval (by exact aq) (by have:=cf;simp at this⊢; omega)) ?_;intro w2 dl af;refine wpListIn_nil ?_;have e1:(C++[x]).reverse=x::C.reverse:=by simp
   have e2:P.Q4.length+(C++[x]).length=P.Q4.length+C.length+1:=by simp;omega
   refine⟨iH af (by omega),af.mono fun _ _ h =>.inl h,⟨?_,(af.block _ (aG d1.out) (by show _≠_;omega)).trans d1.out,(af.block _ (aG d0.out) (by show _≠_;omega)).trans d0.out⟩,c6.out.trans (af.below c6.out.size fun i hi e=>by omega)⟩;rw[e1,e2];exact dl
  case done2 =>
   rintro D2 ys W2 ev rfl ⟨⟨hS,R,d5⟩,hB⟩ hK;rw[jl]at hS;have qm:=cell_of_one R;have di:=hh hS;have c6:=hh hB;have d2:=hh d5;have d3:=hh hK;clear hS R d5 hB hK ah hA L bd a1 ci HS H2 H0 HB c7
   gi_wp2
   have e2:D2≠D:=by omega
   have c9:(W2.putObj D2 (.deferred none)).heap[D]?=some (.deferred (some [])):=((grownBy_putObj' W2 D2 (.deferred none)).block D (aG d2.out) (fun e=>e2 (by cases e;rfl))).trans d2.out;refine⟨by simp,.inl ⟨_,_,rfl,run_takeDeferred d3.out,?_⟩⟩;refine⟨by simp,.inl ⟨_,_,rfl,run_takeDeferred c9,?_⟩⟩;have d9:Below w.heap.size w ((W2.putObj D2 (.deferred none)).putObj D (.deferred none)):=(c6.out.trans (belowK_b (w:=w) (Nat.le_refl _) W2 D2 _ (.deferred none) (by omega) d3.out rfl rfl)).trans (belowK_b (w:=w) (Nat.le_refl _) _ D _ (.deferred none) (by omega) c9 rfl rfl);have ds:=(di.out.own (N:=w.heap.size+2) (grownBy_putObj' W2 D2 (.deferred none)) (fun r e=>by cases e;omega) (by omega)).own (N:=w.heap.size+2) (grownBy_putObj' _ D (.deferred none)) (fun r e=>by cases e;omega) (by omega);have f1:xC P (List.finRange _)=fun s=>uM (aU P s):=funext fun s=>vO P s
   have f2:xB P (List.finRange _)=fun s=>(eL P s).isSome:=funext fun s=>vN P s
   rw[f1,f2]at ds;exact⟨_,results_tmp rfl _ _ _,w.heap.size+1,rfl,by omega,ds.lt,⟨_,ds⟩,aB.of_below d9 fun i h1 R=>by omega⟩
  case stop2 =>
   rintro D c C W _ _ h _;exact h.elim
 case stop =>
  rintro D c C W _ _ h _;exact h.elim
end Go.Proofs.YtpblcjipmoblnaaGreatDoor
