import Derived.Test.YtpblcjipmoblnaaGreatDoorTheirs3
import Derived.Test.YtpblcjipmoblnaaGreatDoorBack
import Derived.Maps.OwnIn
set_option maxRecDepth 100000
set_option linter.all false
set_option maxHeartbeats 4000000
namespace Go.Proofs.YtpblcjipmoblnaaGreatDoor
open Go.RowKit Go.IntWalk Go.Shelf Ck
variable {b:Nat} {p:ByteArray→Bool}
attribute [local go_sem] Oper.semAt_some
theorem gN{β:Type}(k:Nat)(cs:Array Value)(t:TypeId)(z:Nat×Nat):Own (fun(_:β) W=>W.heap[k]?=some (.cells cs t z)):=fun s A B row d j l=>by
 refine(j.block k (aG d) fun e=>?_).trans d;obtain⟨o,g,h⟩:=l k e.symm;rw[d]at g
 cases g
 cases h
theorem oH{A B:World}{row:Option Nat}{k:Nat}{cs:Array Value}{t:TypeId}{z:Nat×Nat}(h:A.heap[k]?=some (.cells cs t z))(d:A.grownBy B row)(g:∀r,row=some r→∃o:Obj,A.heap[r]?=some o∧o.isCells=false):B.heap[k]?=some (.cells cs t z):=
 gN k cs t z () A B row h d g
theorem io{N:Nat}{W W':World}(hk:aD (fun k=>k=b) W W')(g:b<N):KeepsFrom N W W':=
 ⟨hk.size,fun k o d h _=>(hk.block k (aG h) (by show k≠b;omega)).trans h⟩
theorem dC.updateIn{F0:Fence}{A:Nat}{w:World}{n:Nat}{z:Value}{F:ByteArray→Value}{P:Program}(E:P=Tryz.prog)(h:dC w b n z F p)(J:n<maxLen){j:Array Oper}{rest:List Oper}{o:Oper}{a:Act}{Q:Exit→Act→World→Prop}
 (H:o.guard=none){m x u:Operand}{t e:TypeId}(r:o.op=Op.mapUpdate t m x u)(y:P.underlying t=some (.map 9 e))
 (I:a.eval m=.map (some b)){s:ByteArray}(hx:a.eval x=.string s)(K:s.size≤maxLen){v:Value}(hv:a.eval u=v)
 (C:∀w',dC w' b (n+1) z (fun t=>if t=s then v else F t) (fun t=>decide (t=s)||p t)→aD (fun k=>k=b) w w'→wpListIn F0 A P j Q rest (a.put o.dst undef) w'):wpListIn F0 A P j Q (o::rest) a w:=by
 subst E;obtain⟨D,l,B⟩:=h;refine wpListIn_mapUpdate_own _ H m x u t r 9 e Tryz.law9 y eG b n D I l J _ _ (key s) hx hv (Go.WideMaps.keyOf_string_mk Tryz.underlying9 K) _ [] rfl fun w' g q=>C w' ⟨_,g,fun t y=>?_⟩ (aD.of_grown q (fun k e=>by cases e;rfl))
 obtain⟨L,N⟩:=B t y
 by_cases hts:t=s
 ·subst hts
  exact⟨by show _=DataW.held (if t=t then v else F t);rw[if_pos rfl];exact Go.Maps.atKey_put_same l.isMap (ke t) _ _,by rw[Go.Maps.has_put_same l.isMap (ke t)];simp⟩
 ·have d:key t≠key s:=fun e=>hts (mq e)
  exact⟨by show _=DataW.held (if t=s then v else F t);rw[if_neg hts];exact(Go.Maps.atKey_put_other d _ _).trans L,by rw[Go.Maps.has_put_other d,N];simp[hts]⟩
theorem dC.own{n N:Nat}{z:Value}{F:ByteArray→Value}{W W':World}{row:Option Nat}(l:dC W b n z F p)(h:W.grownBy W' row)(j:∀r,row=some r→N≤r)(q:b<N):dC W' b n z F p:=by
 obtain⟨D,d,g⟩:=l;exact⟨D,d.kept h (fun e=>by have:=j _ e.symm;omega),g⟩
def qE{α:Type}(nm:α→ByteArray)(va:α→Value)(F:ByteArray→Value):List α→ByteArray→Value
 | [],s=>F s
 | x::t,s=>if s=nm x then va x else qE nm va F t s
def qD{α:Type}(nm:α→ByteArray)(p:ByteArray→Bool):List α→ByteArray→Bool
 | [],s=>p s
 | x::t,s=>decide (s=nm x)||qD nm p t s
theorem im{α:Type}{d:α→ByteArray}{g:α→Value}{F:ByteArray→Value}(s:ByteArray):∀l:List α,qE d g F l s=match l.find? (fun x=>decide (d x=s))with|some x=>g x|none=>F s
 | []=>rfl
 | x::t=>by
  simp only[qE,List.find?_cons]
  by_cases h:s=d x
  ·simp[h]
  ·have j:¬ d x=s:=fun e=>h e.symm
   simp[h,j,im s t]
theorem kd{α:Type}{d:α→ByteArray}{p:ByteArray→Bool}(s:ByteArray):∀l:List α,qD d p l s=match l.find? (fun x=>decide (d x=s))with|some _=>true|none=>p s
 | []=>rfl
 | x::t=>by
  simp only[qD,List.find?_cons]
  by_cases h:s=d x
  ·simp[h]
  ·have g:¬ d x=s:=fun e=>h e.symm
   simp[h,g,kd s t]
theorem ko(len:Nat):(bi len len).reverse=List.finRange len:=by
 unfold bi;rw[List.take_of_length_le ξ,List.reverse_reverse]
theorem je{α:Type}(l:List α)(p:α→Bool):l.find? p=((List.finRange l.length).find? (fun i=>p l[i])).map (fun i=>l[i]):=by
 have:l=(List.finRange l.length).map (fun i=>l[i]):=by
  apply List.ext_getElem
  ·simp
  ·intro i d g;simp
 conv=>lhs;rw[this]
 rw[List.find?_map];rfl
theorem sK(w:World)(d g h j:Obj):((((w.alloc d).alloc g).alloc h).alloc j).heap.size=w.heap.size+4∧((((w.alloc d).alloc g).alloc h).alloc j).heap[w.heap.size]?=some d∧((((w.alloc d).alloc g).alloc h).alloc j).heap[w.heap.size+1]?=some g ∧
 ((((w.alloc d).alloc g).alloc h).alloc j).heap[w.heap.size+1+1]?=some h∧((((w.alloc d).alloc g).alloc h).alloc j).heap[w.heap.size+1+1+1]?=some j∧Below w.heap.size w ((((w.alloc d).alloc g).alloc h).alloc j):=by
 have l:(w.alloc d).heap.size=w.heap.size+1:=ξ
 have p:((w.alloc d).alloc g).heap.size=w.heap.size+1+1:=ξ
 have q:(((w.alloc d).alloc g).alloc h).heap.size=w.heap.size+1+1+1:=ξ
 refine⟨ξ,?_,?_,?_,?_,?_⟩
 ·rw[Below.heap_alloc _ _ _ χ,Below.heap_alloc _ _ _ χ,Below.heap_alloc _ _ _ χ,heap_alloc_new]
 ·rw[Below.heap_alloc _ _ _ χ,Below.heap_alloc _ _ _ χ,←l,heap_alloc_new]
 ·rw[Below.heap_alloc _ _ _ χ,←p,heap_alloc_new]
 ·rw[←q,heap_alloc_new]
 ·exact((((Below.refl _ w).alloc (Nat.le_refl _) _).alloc χ _).alloc χ _).alloc χ _
theorem lk{α σ:Type}[Inhabited σ]{B k:Nat}{R:World→Nat→Nat→α→Prop}{w:World}{A:Option Addr}{xs:List α}(row:α→σ→List Value)(Φ:α→σ→Prop)(r:∀b o x,R w b o x→∃s,aL w b o (row x s)∧Φ x s)(h:ov B k R w A xs):
 ∃p:Nat→σ,(0<xs.length→∃b off,A=some ⟨b,off,none⟩∧b<B∧∀j (d:j<xs.length),aL w b (off+j*k) (row xs[j] (p j)))∧∀i (l:i<xs.length),Φ xs[i] (p i):=by
 rcases Nat.eq_zero_or_pos xs.length with C|g
 ·exact⟨fun _=>default,fun h=>χ,fun i l=>χ⟩
 ·obtain⟨b,off,q,u,v⟩:=h g
  have hx:∀j,∃s,∀d:j<xs.length,aL w b (off+j*k) (row xs[j] s)∧Φ xs[j] s:=fun j=>by
   by_cases d:j<xs.length
   ·obtain⟨s,y⟩:=r _ _ _ (v j xs[j] (Ez d))
    exact⟨s,fun _=>y⟩
   ·exact⟨default,fun h=>absurd h d⟩
  exact⟨fun j=>Classical.choose (hx j),fun _=>⟨b,off,q,u,fun j d=>(Classical.choose_spec (hx j) d).1⟩,fun i l=>(Classical.choose_spec (hx i) l).2⟩
end Go.Proofs.YtpblcjipmoblnaaGreatDoor
namespace Go.Proofs.YtpblcjipmoblnaaGreatDoor
open Go.RowKit Go.IntWalk Ck
variable {w:World}
theorem yl(w:World)(d:Nat)(c0 QO n c:Nat)(p:Int)(h:Bool)(A:Option Addr)(g:w.heap[d]?=some (.cells #[.int .u64 c0] 39 (0,0))):
 Calls Tryz.prog 113 #[.agg #[.int .i64 p,.int .u64 QO,.bool h,.slice A n c],.pointer (some ⟨d,0,none⟩)] w fun e w'=>e=.returned (.bool (decide (QO=c0)))∧Kz w w':=by
 have l:(w.alloc (.cells #[.int .i64 p,.int .u64 QO,.bool h,.slice A n c] 92)).cell? ⟨d,0,none⟩=some (.int .u64 c0):=cell_of_one ((Below.heap_alloc _ _ _ (aG g)).trans g);have j:((QO:Int)==(c0:Int))=decide (QO=c0):=eQ _ _;clear g
 go_enter Tryz.func113,Tryz.ntmps113
 go_wp2
 go_ret
 exact⟨by simp[j],(aD.refl _ _).alloc _⟩
def jE(ls:List cW)(c0:Nat):Int:=match ls.findIdx? (fun y=>decide (y.QO=c0))with|some i=>i|none =>-1
theorem sE{ls:List cW}{c0:Nat}(h:∀y∈ls,y.QO≠c0):jE ls c0 = -1:=by
 unfold jE;rw[List.findIdx?_eq_none_iff.2 (fun y d=>by simpa using h y d)]
theorem yw{ls:List cW}{c0 k:Nat}{x:cW}(hx:ls[k]?=some x)(g:x.QO=c0)(h:∀y∈ls.take k,y.QO≠c0):jE ls c0=k:=by
 unfold jE;obtain⟨hk,d⟩:=List.getElem?_eq_some_iff.1 hx;rw[List.findIdx?_eq_some_iff_getElem.2 ⟨hk,by rw[d];simpa using g,fun j l=>by
  have:=h (ls[j]' χ) (List.mem_take_iff_getElem.2 ⟨j,χ,rfl⟩)
  simpa using this⟩]
theorem sD{B:Nat}{A:Option Addr}{c:Nat}{ls:List cW}(hs:aJ B 4 (i7 B) w (.slice A ls.length c) ls)(hB:B≤w.heap.size){bz c0:Nat}(hb:w.heap[bz]?=some (.cells #[.int .u64 c0] 39 (0,0))):
 Calls Tryz.prog 112 #[.slice A ls.length c,.func (.func 113) #[] #[.pointer (some ⟨bz,0,none⟩)]] w fun e w'=>e=.returned (.int .i64 (jE ls c0))∧Kz w w':=by
 obtain⟨_,_,e,cf,hn,hl⟩:=hs
 cases e
 unfold top at hn;have bt:=hh hl;have HB:=hh hb;have bf:=aG hb;clear hl hb;refine b9 Tryz.func112 Tryz.ntmps112 rfl (by show 2≤19;decide) fun a b3 hd h=>?_
 have h0:At a 0 (.slice A ls.length c):=h 0 _ rfl;have h1:At a 1 (.func (.func 113) #[] #[.pointer (some ⟨bz,0,none⟩)]):=h 1 _ rfl;clear h
 conv=>arg 2;whnf
 refine so (fun D S=>aA (fun i=>i==4) a D∧S=w) ?_ ?_
 ·have H:aA (fun i=>i==4) a a:=aA.refl _ _
  obtain⟨T,d⟩:=a;refine rl ?_;with_reducible refine st ?_
  refine ln ⟨rfl,ag,rfl⟩
 rintro D S ⟨p,rfl⟩;replace h0:=p.Q7 h0 rfl;replace h1:=p.Q7 h1 rfl;have bo:=p.size.trans b3;have b1:=p.defers.trans hd;refine wp_seq (wp_seq (Code.wp_only (R:=fun X U=>aA (fun i=>i==6||i==7||i==8) D X∧At X 7 (.int .i64 ls.length)∧At X 8 (.int .i64 0)∧U=S) ?_ ?_))
 ·have H:aA (fun i=>i==6||i==7||i==8) D D:=aA.refl _ _
  obtain⟨T,d⟩:=D;refine rl ?_
  iterate 3 with_reducible refine st ?_
  refine ln ⟨rfl,ag,aq,aq,rfl⟩
 rintro X U ⟨q,b5,b4,rfl⟩;replace h0:=q.Q7 h0 rfl;replace h1:=q.Q7 h1 rfl;have N:=q.size.trans bo;have a5:=q.defers.trans b1;refine bj ls.length (fun i=>i==4||i==5||(rg 8 18 i)) (fun i=>i==4||i==5||(rg 10 17 i)) (fun k _ w'=>(∀y∈ls.take k,y.QO≠c0)∧Kz U w') χ b4 b5 ψ rfl
  ζ χ ψ (fun k a1 a2 w Y hI=>hI) ⟨ξ,aD.refl _ _⟩ ?_ ?_
 ·rintro n b wr b2 Y a4 ⟨L,hk⟩
  obtain⟨bl,off,rfl,bx,bm⟩:=bt.out χ;obtain⟨x,hx⟩:=ge b2;obtain⟨vv,hc,⟨A_r,bw,rfl,_⟩,_,b0⟩:=(cK B) _ _ _ _ _ (hk.below (B:=B) χ (fun _ _ h=>h)) bx (bm n x hx);have q0:=hc.c0;have q1:=hc 1 _ rfl;have q2:=hc 2 _ rfl;have q3:=hc 3 _ rfl;have af:=Y.Q7 h0 rfl;have a0:=Y.Q7 h1 rfl;have O:=Y.size.trans N;have bb:=Y.defers.trans a5;have cc:=hk.size;have cb:bl<wr.heap.size:=χ
  have cd:n≤c:=χ
  have I:=yl wr bz c0 x.QO x.runs.length bw x.pos x.needs A_r ((hk.block bz bf (fun h=>h)).trans HB.out);have HX:=hh hx;have HC:=hh I;have HK:=hh hk;have be:=hh L;clear hx bm hc Y hk L I b0;refine so (fun r V=>aA (fun i=>i==10||i==5) b r∧At r 5 (.int .i64 n)∧V=wr) ?_ ?_
  ·have H:aA (fun i=>i==10||i==5) b b:=aA.refl _ _
   obtain⟨T,d⟩:=b;refine rl ?_
   iterate 2 with_reducible refine st ?_
   refine ln ⟨rfl,ag,aq,rfl⟩
  rintro r V ⟨l,a3,rfl⟩;replace af:=l.Q7 af rfl;replace a0:=l.Q7 a0 rfl;replace a4:=l.Q7 a4 rfl;have C:=l.size.trans O;have J:=l.defers.trans bb;refine so (fun u W=>aA (fun i=>(rg 11 16 i)) r u∧At u 16 (.bool (decide (x.QO=c0)))∧Kz V W) ?_ ?_
  ·have H:aA (fun i=>(rg 11 16 i)) r r:=aA.refl _ _
   obtain⟨T,d⟩:=r;refine rl ?_
   iterate 5 with_reducible refine st ?_
   with_reducible refine Lz (fun K hK=>?_)
   go_simp;refine HC.out.mono ?_;rintro e w2 ⟨rfl,ac⟩;with_reducible refine hK _ _ ?_;clear hK K
   refine ln ⟨rfl,?_,?_,?_⟩
   ·exact ag
   ·exact aq
   ·exact ac
  rintro u W ⟨g,bp,ac⟩;replace af:=g.Q7 af rfl;replace a0:=g.Q7 a0 rfl;replace a4:=g.Q7 a4 rfl;replace a3:=g.Q7 a3 rfl;have ad:=g.size.trans C;have bc:=g.defers.trans J;refine wp_cond_split (bp.eval χ) (fun hy=>?_) (fun hy=>?_)
  ·have ba:x.QO=c0:=of_decide_eq_true hy
   refine so (fun a8 a6=>aA (fun i=>i==4||i==17) u a8∧At a8 4 (.int .i64 n)∧a6=W) ?_ ?_
   ·have H:aA (fun i=>i==4||i==17) u u:=aA.refl _ _
    obtain⟨T,d⟩:=u;refine rl ?_
    iterate 2 with_reducible refine st ?_
    refine ln ⟨rfl,ag,aq,rfl⟩
   rintro a8 a6 ⟨v,bd,rfl⟩;replace a3:=v.Q7 a3 rfl;have Q:=v.size.trans ad;have Z:=v.defers.trans bc;refine wp_ret ?_
   repeat (first|with_reducible apply b7|with_reducible apply bH)
   refine bk (t:=4) rfl bd (by rw[Q];decide) Z ?_;exact⟨by rw[yw HX.out ba be.out],HK.out.trans ac (fun _ _ h=>h)⟩
  ·have ba:x.QO≠c0:=of_decide_eq_false hy
   refine wp_skip ?_;refine⟨?_,fun y hy=>?_,HK.out.trans ac (fun _ _ h=>h)⟩
   ·refine aA.trans (l.mono ?_) g ?_<;>(intro j;simp;omega)
   ·rw[aP HX.out]at hy
    rcases List.mem_append.1 hy with h|h
    ·exact be.out y h
    ·obtain rfl:y=x:=by simpa using h
     exact ba
 ·rintro b wr Y ⟨L,hk⟩
  rw[List.take_length]at L;have O:=Y.size.trans N;have bb:=Y.defers.trans a5;refine so (fun a9 a7=>aA (fun i=>i==4) b a9∧At a9 4 (.int .i64 (-1))∧a7=wr) ?_ ?_
  ·have H:aA (fun i=>i==4) b b:=aA.refl _ _
   obtain⟨T,d⟩:=b;refine rl ?_;with_reducible refine st ?_
   refine ln ⟨rfl,ag,aq,rfl⟩
  rintro a9 a7 ⟨E,bd,rfl⟩;have C:=E.size.trans O;have J:=E.defers.trans bb;refine wp_ret ?_
  repeat (first|with_reducible apply b7|with_reducible apply bH)
  refine bk (t:=4) rfl bd (by rw[C];decide) J ?_;exact⟨by rw[sE L],hk⟩
theorem Tryz.lawU:Go.Maps.Keyed Tryz.prog 39:=Go.Maps.int_keyed Tryz.underlying39
def upN(m:Ck.Map)(s:Nat):Nat:=(m.Q7+s-1) / 2097152+1-m.Q7 / 2097152
def PUp(m:Ck.Map)(y j:Nat):Prop:=∃i,i<j∧y=(m.Q7 / 2097152+i) / 512
def qz(m:Ck.Map)(big:Bool)(y j:Nat):Prop:=big=false∧∃i,i<j∧y=m.Q7 / 2097152+i
theorem qQ{m:Ck.Map}{x:jl}(hb:below m.Q7 x.size 549755813888=true)(hp:0<x.size)(cd:x.size≤67108864){u lo nu nl:Nat}{Su Sl:List Nat}(hu:dn 39 w u nu Su)(hl:dn 39 w lo nl Sl)(ci:nu≤140737488355000)(cf:nl≤140737488355000)(cl:u≠lo)
 {zm zx:Nat}(bo:w.heap[zm]?=some (.cells (Ck.Map.cells m).toArray 71 (0,0)))(O:w.heap[zx]?=some (.cells #[.int .u64 x.size,.bool x.big,.bool x.wx] 182 (0,0)))(cs:zm≠u∧zm≠lo∧zx≠u∧zx≠lo)(a:Act)(L:a.tmps.size=76)
 (h5:At a 5 (.map (some u)))(h6:At a 6 (.map (some lo)))(h8:At a 8 (.pointer (some ⟨zm,0,none⟩)))(h9:At a 9 (.pointer (some ⟨zx,0,none⟩)))(bx:At a 11 (.int .u64 (m.Q7 / 2097152:Nat)))(Q:Exit→Act→World→Prop)
 (hQ:∀v w' Su' Sl',aA (fun i=>i==11||(rg 48 68 i)) a v→dn 39 w' u (nu+upN m x.size) Su'→dn 39 w' lo (nl+upN m x.size) Sl'→(∀y,y∈Su'↔y∈Su∨PUp m y (upN m x.size))→(∀y,y∈Sl'↔y∈Sl∨qz m x.big y (upN m x.size))→aD (fun k=>k=u∨k=lo) w w'→Q .normal v w'):
 (bE Tryz.f59 [1,1,0,1,0,0,1,1,0,0,1,1,1,1,1]).wp Tryz.prog Q a w:=by
 obtain⟨cb,cc⟩:m.Q7≤549755813888∧x.size≤549755813888-m.Q7:=by
  unfold below at hb
  simpa using hb
 have b4:m.Q7 / 2097152≤(m.Q7+x.size-1) / 2097152:=χ
 have cm:upN m x.size≤34:=by unfold upN;omega
 conv=>arg 2;whnf
 refine gY (upN m x.size) (fun j v w'=>aA (fun i=>i==11||(rg 48 68 i)) a v∧At v 11 (.int .u64 ((m.Q7 / 2097152+j:Nat):Int))∧∃Su' Sl',dn 39 w' u (nu+j) Su'∧dn 39 w' lo (nl+j) Sl'∧(∀y,y∈Su'↔y∈Su∨PUp m y j)∧(∀y,y∈Sl'↔y∈Sl∨qz m x.big y j)∧aD (fun k=>k=u∨k=lo) w w')
  (fun j v w'=>aA (fun i=>i==11||(rg 48 68 i)) a v∧At v 11 (.int .u64 ((m.Q7 / 2097152+j:Nat):Int))∧∃Su' Sl',dn 39 w' u (nu+(j+1)) Su'∧dn 39 w' lo (nl+(j+1)) Sl'∧(∀y,y∈Su'↔y∈Su∨PUp m y (j+1))∧(∀y,y∈Sl'↔y∈Sl∨qz m x.big y (j+1))∧aD (fun k=>k=u∨k=lo) w w')
  (fun a=>match a.eval (.tmp 11)with|.int _ x=>x.toNat-m.Q7 / 2097152|_=>0) ⟨aA.refl _ _,bx,Su,Sl,hu,hl,fun y=>⟨.inl,fun h=>h.elim id fun⟨i,hi,_⟩=>χ⟩,fun y=>⟨.inl,fun h=>h.elim id fun⟨_,i,hi,_⟩=>χ⟩,aD.refl _ _⟩ ?_ ?_ ?_ ?_ ?_
 ·rintro k v w' ⟨B,hk,_⟩
  rw[hk.eval (by rw[B.size,L];decide)];show((m.Q7 / 2097152+k:Nat):Int).toNat-m.Q7 / 2097152=k;omega
 ·rintro k v w' ba ⟨B,hk,g⟩
  have V:=hh g;obtain⟨Su',Sl',_,_,_,_,Y⟩:=g;have k8:=B.Q7 h8 rfl;have k9:=B.Q7 h9 rfl;have l:=B.size.trans L;have q2:w'.cell? ⟨zm,2,none⟩=some (.int .u64 m.Q7):=cr ((Y.block zm (aG bo) χ).trans bo) rfl;have p0:w'.cell? ⟨zx,0,none⟩=some (.int .u64 x.size):=cr ((Y.block zx (aG O) χ).trans O) rfl;obtain⟨A,r⟩:∃A,A=m.Q7 / 2097152+k:=⟨_,rfl⟩;obtain⟨s,hs⟩:∃s,s=m.Q7+x.size:=⟨_,rfl⟩;obtain⟨s1,ad⟩:∃s1,s1=m.Q7+x.size-1:=⟨_,rfl⟩;rw[←r]at hk;have e1:IntKind.u64.wrap ((m.Q7:Int)+(x.size:Int))=(s:Int):=by rw[hs,u64_in _ χ];omega
  have e2:IntKind.u64.wrap ((s:Int)-1)=(s1:Int):=by rw[ad,hs,u64_in _ χ];omega
  have C:=hh r;have HS:=hh hs;have bw:=hh ad;clear r hs ad;obtain⟨T,d⟩:=v;refine rl ?_
  iterate 9 with_reducible refine st ?_
  with_reducible refine ln ?_
  refine⟨rfl,⟨?_,?_,?_⟩,?_⟩
  ·exact ag
  ·rw[←C.out]
   (repeat (first|with_reducible exact At.self|with_reducible apply At.ne));all_goals first|decide|with_reducible exact hk
  ·exact V.out
  ·refine(At.eval At.self (by have:=l;simp at this⊢; omega)).trans ?_
   have S:=C.out;have h3:=bw.out
   congr 1
   exact decide_eq_decide.2 (by unfold upN;omega)
 ·rintro k v w' ba ⟨B,hk,Su',Sl',af,Z,ac,K,Y⟩
  have k5:=B.Q7 h5 rfl;have k6:=B.Q7 h6 rfl;have k9:=B.Q7 h9 rfl;have l:=B.size.trans L;have N:=(Y.block zx (aG O) χ).trans O;obtain⟨A,r⟩:∃A,A=m.Q7 / 2097152+k:=⟨_,rfl⟩;obtain⟨q,hq⟩:∃q,q=A / 512:=⟨_,rfl⟩;rw[←r]at hk;have cp:A<2097152:=χ
  have b5:(A:Int) / 512=(q:Int):=χ
  have b2:q<lim:=by unfold lim;omega
  have bl:A<lim:=by unfold lim;omega
  have C:=hh r;have HQ:=hh hq;clear r hq;refine so (fun W w1=>aA (fun i=>(rg 48 68 i)) v W∧dn 39 w1 u (nu+(k+1)) (dn.add Su' q)∧aD (fun k=>k=u) w' w1) ?_ ?_
  ·have HU:=hh af
   clear af Z ac K Y N;have a7:aA (fun i=>(rg 48 68 i)) v v:=aA.refl _ _;obtain⟨T,d⟩:=v;refine rl ?_
   iterate 4 with_reducible refine st ?_
   refine dn.update rfl HU.out Tryz.lawU Tryz.underlying39 (by unfold maxLen;omega) rfl rfl Tryz.underlying207 (At.eval ar (by have:=l;simp at this⊢; omega)) (y:=q) (At.eval ar (by have:=l;simp at this⊢; omega)) b2 (At.eval ar (by have:=l;simp at this⊢; omega)) ?_;intro w2 b3 b0;refine ln ⟨rfl,?_,b3,b0⟩;simp only[Act.put];exact ag
  rintro W w1 ⟨D,be,J⟩;replace k6:=D.Q7 k6 rfl;replace k9:=D.Q7 k9 rfl;replace hk:=D.Q7 hk rfl;have bd:=D.size.trans l;have bc:=Z.keep J (by show ¬ lo=u;omega);have bm:=(J.block zx (aG N) (by show zx≠u;omega)).trans N;have p1:w1.cell? ⟨zx,1,none⟩=some (.bool x.big):=cr bm rfl;have a8:aD (fun k=>k=u∨k=lo) w w1:=Y.trans J (fun _ _ h =>.inl h);have bf:∀y,y∈dn.add Su' q↔y∈Su∨PUp m y (k+1):=fun y=>by
   rw[dn.mem_add,ac y];have S:=C.out;have h2:=HQ.out;constructor
   ·rintro(e|h|⟨i,hi,e⟩)
    ·exact .inr ⟨k,χ,by rw[e,h2,S]⟩
    ·exact .inl h
    ·exact .inr ⟨i,χ,e⟩
   ·rintro(h|⟨i,hi,e⟩)
    ·exact .inr (.inl h)
    ·rcases Nat.lt_or_ge i k with h|h
     ·exact .inr (.inr ⟨i,h,e⟩)
     ·obtain rfl:i=k:=χ
      exact .inl (by rw[e,h2,S])
  have U:∀y,(x.big=false→(y∈dn.add Sl' A↔y∈Sl∨qz m x.big y (k+1)))∧(x.big=true→(y∈Sl'↔y∈Sl∨qz m x.big y (k+1))):=fun y=>by
   have S:=C.out;constructor
   ·intro p
    rw[dn.mem_add,K y];constructor
    ·rintro(e|h|⟨bz,i,hi,e⟩)
     ·exact .inr ⟨p,k,χ,by rw[e,S]⟩
     ·exact .inl h
     ·exact .inr ⟨p,i,χ,e⟩
    ·rintro(h|⟨bz,i,hi,e⟩)
     ·exact .inr (.inl h)
     ·rcases Nat.lt_or_ge i k with h|h
      ·exact .inr (.inr ⟨p,i,h,e⟩)
      ·obtain rfl:i=k:=χ
       exact .inl (by rw[e,S])
   ·intro p
    rw[K y];unfold qz;rw[p];simp
  have a6:=hh bf;have R:=hh U;have a5:=hh be;have a4:=hh bc;have a3:=hh a8;have bt:Hid (aA (fun i=>i==11||(rg 48 68 i)) a W):=B.t D;clear bf U be bc a8 af Z ac K Y N B D J bm;refine so (fun X w2=>aA (fun i=>(rg 48 68 i)) W X∧At X 65 (.bool !x.big)∧w2=w1) ?_ ?_
  ·have a7:aA (fun i=>(rg 48 68 i)) W W:=aA.refl _ _
   obtain⟨T,d⟩:=W;refine rl ?_
   iterate 3 with_reducible refine st ?_
   refine ln ⟨rfl,ag,aq,rfl⟩
  rintro X w2 ⟨E,bp,rfl⟩;have I:=E.size.trans bd;replace k6:=E.Q7 k6 rfl;replace hk:=E.Q7 hk rfl;have bb:At X 11 (.int .u64 ((m.Q7 / 2097152+k:Nat):Int)):=by rw[←C.out];exact hk
  have a0:Hid (aA (fun i=>i==11||(rg 48 68 i)) a X):=bt.out.t E;clear E;refine wp_cond_split (bp.eval χ) (fun p=>?_) (fun p=>?_)
  ·have H:x.big=false:=by simpa using p
   have a7:aA (fun i=>i==11||(rg 48 68 i)) a X:=a0.out;clear p bp;obtain⟨T,d⟩:=X;refine rl ?_
   iterate 3 with_reducible refine st ?_
   refine dn.update rfl a4.out Tryz.lawU Tryz.underlying39 (by unfold maxLen;omega) rfl rfl Tryz.underlying207 (At.eval ar (by have:=I;simp at this⊢; omega)) (y:=A) (At.eval ar (by have:=I;simp at this⊢; omega)) bl (At.eval ar (by have:=I;simp at this⊢; omega)) ?_;intro w3 b1 a9;refine ln ?_;simp only[Act.put];refine⟨?_,?_,_,_,a5.out.keep a9 (by show ¬ u=lo;omega),b1,a6.out,fun y=>(R.out y).1 H,a3.out.trans a9 (fun _ _ h =>.inr h)⟩
   ·exact ag
   ·(repeat (first|with_reducible exact At.self|with_reducible apply At.ne));all_goals first|decide|with_reducible exact bb
  ·have H:x.big=true:=by simpa using p
   refine wp_skip ?_;exact⟨a0.out,bb,_,_,a5.out,a4.out.mono χ,a6.out,fun y=>(R.out y).2 H,a3.out⟩
 ·rintro k v w' ba ⟨B,hk,g⟩
  have l:=B.size.trans L;obtain⟨A,r⟩:∃A,A=m.Q7 / 2097152+k:=⟨_,rfl⟩;have e0:m.Q7 / 2097152+(k+1)=A+1:=χ
  rw[←r]at hk;have e1:IntKind.u64.wrap ((A:Int)+1)=(A:Int)+1:=u64_in _ χ;have HR:=hh g;clear g r;rw[e0];obtain⟨T,d⟩:=v;refine rl ?_
  iterate 3 with_reducible refine st ?_
  refine ln ⟨rfl,?_,?_,HR.out⟩
  ·exact ag
  ·have e2:((A+1:Nat):Int)=(A:Int)+1:=χ
   rw[e2];exact aq
 ·rintro v w' ⟨B,_,Su',Sl',S,h2,h3,h4,h5⟩
  exact hQ v w' Su' Sl' B S h2 h3 h4 h5
theorem nR(P:aC)(m:Ck.Map):da P m=((eD P m.of).isSome&&(decide ((aS P m.of).size≤67108864)&&below m.Q7 (aS P m.of).size 549755813888)):=by
 unfold da aS
 cases eD P m.of<;>simp
theorem sB{S L:List Nat}(d:S.Nodup)(h:∀y,y∈S↔y∈L):S.length=L.eraseDups.length:=by
 have g:=qr d (m:=L.eraseDups) (fun x hx=>List.mem_eraseDups.2 ((h x).1 hx));have j:=qr (oQ L) (m:=S) (fun x hx=>(h x).2 (List.mem_eraseDups.1 hx));omega
theorem sk(P:aC)(l:List Ck.Map)(m:Ck.Map)(y:Nat):y∈eh P (l++[m])↔y∈eh P l∨(0<(aS P m.of).size∧PUp m y (upN m (aS P m.of).size)):=by
 unfold eh PUp upN ups;rw[List.flatMap_append,List.mem_append];refine or_congr Iff.rfl ?_;simp only[List.flatMap_cons,List.flatMap_nil,List.append_nil];split
 ·rename_i h;simp;omega
 ·rename_i h
  simp only[List.mem_map,List.mem_range];constructor
  ·rintro⟨z,⟨i,d,rfl⟩,rfl⟩;exact⟨χ,i,d,by rw[Nat.add_comm]⟩
  ·rintro⟨_,i,d,rfl⟩;exact⟨_,⟨i,d,rfl⟩,by rw[Nat.add_comm]⟩
theorem tk(P:aC)(l:List Ck.Map)(m:Ck.Map)(y:Nat):y∈fB P (l++[m])↔y∈fB P l∨(0<(aS P m.of).size∧qz m (aS P m.of).big y (upN m (aS P m.of).size)):=by
 unfold fB qz upN ups;rw[List.flatMap_append,List.mem_append];refine or_congr Iff.rfl ?_;simp only[List.flatMap_cons,List.flatMap_nil,List.append_nil];split
 ·rename_i h
  rcases h with h|h
  ·simp;omega
  ·simp[h]
 ·rename_i h
  have g:(aS P m.of).big=false:=by cases hb:(aS P m.of).big<;>simp_all
  have j:¬ (aS P m.of).size=0:=fun e=>h (.inl e)
  simp only[List.mem_map,List.mem_range];constructor
  ·rintro⟨i,d,rfl⟩;exact⟨χ,g,i,d,by rw[Nat.add_comm]⟩
  ·rintro⟨_,_,i,d,rfl⟩;exact⟨i,d,by rw[Nat.add_comm]⟩
theorem nQ{B:Nat}{P:aC}{A:Option Addr}{c:Nat}{l:List Ck.Map}(hs:aJ B 5 cU w (.slice A l.length c) l)(hB:B≤w.heap.size){mb:Nat}(hm:fW w mb P)(h8:mb<w.heap.size)(e7:∀s,(aS P s).size<lim):
 Calls Tryz.prog 59 #[.slice A l.length c,.map (some mb)] w fun e w'=>e=.returned (.int .i64 (bY P l))∧Kz w w':=by
 obtain⟨_,_,e,ih,hn,hl⟩:=hs
 cases e
 unfold top at hn;have HM:=hh hm;have f0:=hh e7;have fs:=hh hl;clear hm e7 hl;refine b9 Tryz.func59 Tryz.ntmps59 rfl (by show 2≤76;decide) fun a e0 hd h=>?_
 have h0:At a 0 (.slice A l.length c):=h 0 _ rfl;have O:At a 1 (.map (some mb)):=h 1 _ rfl;clear h
 conv=>arg 2;whnf
 refine so (fun a1 w1=>aA (fun i=>i==4) a a1∧At a1 4 (.int .i64 (0:Nat))∧w1=w) ?_ ?_
 ·obtain⟨T,d⟩:=a
  refine rl ?_;with_reducible refine st ?_
  refine ln ⟨rfl,?_,?_,rfl⟩
  ·exact ag
  ·exact At.self
 rintro a1 w1 ⟨bc,h4,rfl⟩;replace h0:=bc.Q7 h0 rfl;replace O:=bc.Q7 O rfl;have cc:=bc.size.trans e0;have ef:=bc.defers.trans hd;clear bc e0 hd;refine so (fun a2 w2=>aA (fun i=>i==5||i==6||i==12||i==13) a1 a2∧At a2 5 (.map (some w1.heap.size))∧At a2 6 (.map (some (w1.heap.size+1)))∧w2=(w1.alloc (.map #[] 0)).alloc (.map #[] 0)) ?_ ?_
 ·have h9:=@run_makeMap Tryz.prog
  have ac:aA (fun i=>i==5||i==6||i==12||i==13) a1 a1:=aA.refl _ _;obtain⟨T,d⟩:=a1;refine rl ?_
  iterate 4 with_reducible refine st ?_
  refine ln ⟨rfl,ag,aq,aq,rfl⟩
 rintro a2 w2 ⟨Y,h5,h6,bw⟩;replace h0:=Y.Q7 h0 rfl;replace O:=Y.Q7 O rfl;replace h4:=Y.Q7 h4 rfl;have cd:=Y.size.trans cc;have eg:=Y.defers.trans ef;obtain⟨u,V⟩:∃u,u=w1.heap.size:=⟨_,rfl⟩;have s2:w2.heap.size=u+2:=by rw[bw,V];simp
 have f1:w2.heap[u]?=some (.map #[] 0):=by rw[bw,V,Below.heap_alloc _ _ _ ξ];exact heap_alloc_new _ _
 have f2:w2.heap[u+1]?=some (.map #[] 0):=by
  rw[bw,V];have:=heap_alloc_new (w1.alloc (.map #[] 0)) (.map #[] 0)
  rwa[World.size_alloc]at this
 have en:Kz w1 w2:=by rw[bw];exact((aD.refl _ _).alloc _).alloc _
 rw[←V]at h5 h6;have ie:mb<u:=χ
 have hr:B≤u:=χ
 have HU:=hh V;clear bw Y cc ef V;refine wp_seq (wp_seq (Code.wp_only (R:=fun a3 w3=>aA (fun i=>i==14||i==15||i==16) a2 a3∧At a3 14 (.slice A l.length c)∧At a3 15 (.int .i64 l.length)∧At a3 16 (.int .i64 0)∧w3=w2) ?_ ?_))
 ·have ac:aA (fun i=>i==14||i==15||i==16) a2 a2:=aA.refl _ _
  obtain⟨T,d⟩:=a2;refine rl ?_
  iterate 3 with_reducible refine st ?_
  refine ln ⟨rfl,ag,aq,aq,aq,rfl⟩
 rintro a3 w3 ⟨S,hb,ha,gx,rfl⟩;replace O:=S.Q7 O rfl;replace h4:=S.Q7 h4 rfl;replace h5:=S.Q7 h5 rfl;replace h6:=S.Q7 h6 rfl;have cf:=S.size.trans cd;have em:=S.defers.trans eg;clear S cd eg h0;have cs:=hh en;clear en;refine bj l.length (fun i=>(rg 8 11 i)||(rg 16 69 i)) (fun i=>(rg 8 11 i)||(rg 18 68 i))
  (fun k _ w'=>∃nu nl Su Sl,dn 39 w' u nu Su∧dn 39 w' (u+1) nl Sl∧nu≤34*k∧nl≤34*k∧(∀y,y∈Su↔y∈eh P (l.take k))∧(∀y,y∈Sl↔y∈fB P (l.take k))∧(∀m∈l.take k,da P m=true)∧aD (fun k=>k=u∨k=u+1) w3 w') χ gx ha ψ rfl
  ζ χ ψ (fun k a1 a2 w Q hI=>hI) ⟨0,0,[],[],dn.new _ _ _ f1,dn.new _ _ _ f2,Nat.zero_le _,Nat.zero_le _,by simp[eh],by simp[fB],ξ,aD.refl _ _⟩ ?_ ?_
 ·rintro n a4 wr gn Q gy ⟨nu,nl,Su,Sl,V,hl,er,eq,a0,af,ad,hk⟩
  obtain⟨bl,off,rfl,f7,ee⟩:=fs.out χ;obtain⟨m,hx⟩:=ge gn;have cw:aD (fun k=>k=u∨k=u+1) w1 wr:=(cs.out.mono fun _ _ h=>h.elim:aD (fun k=>k=u∨k=u+1) w1 w3).trans hk (fun _ _ h=>h);obtain⟨hc,cl⟩:=(aF B _ _) _ _ _ _ _ (cw.below (B:=B) χ (fun _ hi e=>χ)) f7 (ee n m hx);have q0:=hc.c0;have q1:=hc 1 _ rfl;have q2:=hc 2 _ rfl;have q3:=hc 3 _ rfl;have q4:=hc 4 _ rfl;have c8:=Q.Q7 O rfl;have W:=Q.Q7 h4 rfl;have g:=Q.Q7 h5 rfl;have p:=Q.Q7 h6 rfl;have fd:=Q.Q7 hb rfl;have J:=Q.size.trans cf;have cy:=Q.defers.trans em;have hf:=hk.size;have he:bl<wr.heap.size:=χ
  have h3:n≤c:=χ
  obtain⟨x,ba⟩:∃x,x=aS P m.of:=⟨_,rfl⟩;have gu:x.size<lim:=by rw[ba];exact f0.out _
  obtain⟨ok,bm⟩:∃b,b=(eD P m.of).isSome:=⟨_,rfl⟩;have b1:=aP hx;have f3:Hid (da P m=(ok&&(decide (x.size≤67108864)&&below m.Q7 x.size 549755813888))):=by rw[bm,ba];exact nR P m
  have ea:Hid (∀y,y∈eh P (l.take (n+1))↔y∈eh P (l.take n)∨(0<x.size∧PUp m y (upN m x.size))):=hh fun y=>by rw[b1,ba];exact sk P _ m y
  have d2:Hid (∀y,y∈fB P (l.take (n+1))↔y∈fB P (l.take n)∨(0<x.size∧qz m x.big y (upN m x.size))):=hh fun y=>by rw[b1,ba];exact tk P _ m y
  have d8:Hid (∀m'∈l.take (n+1),m'∈l.take n∨m'=m):=hh fun m' bz=>by rw[b1]at bz;simpa using bz
  have fv:Hid (m∈l):=hh (List.mem_of_getElem? hx);have d5:Hid (∃nn,dC wr mb nn (.agg #[.int .u64 0,.bool false,.bool false]) (fun s=>xB (aS P s)) (fun s=>(eD P s).isSome)):=by
   obtain⟨nn,b0⟩:=HM.out;exact⟨nn,b0.keep cw (by show ¬ (mb=u∨mb=u+1);omega)⟩
  have cp:=hh V;have cm:=hh hl;have d7:=hh a0;have d4:=hh af;have d3:=hh ad;have HK:=hh hk;have f5:=hh ba;have fy:=hh bm;have ik:=V.lt;have h7:=hl.lt;clear hx ee hc Q V hl a0 af ad hk ba bm b1 cw;refine so (fun a5 w5=>aA (fun i=>i==18||i==19||i==8) a4 a5∧At a5 8 (.pointer (some ⟨wr.heap.size,0,none⟩))∧w5=wr.alloc (.cells #[.int .i64 m.pos,.string m.of,.int .u64 m.Q7,.bool m.write,.bool m.exec] 71)) ?_ ?_
  ·have ac:aA (fun i=>i==18||i==19||i==8) a4 a4:=aA.refl _ _
   obtain⟨T,d⟩:=a4;refine rl ?_
   iterate 4 with_reducible refine st ?_
   refine ln ⟨rfl,ag,aq,rfl⟩
  rintro a5 w5 ⟨E,r,b2⟩;obtain⟨zm,b3⟩:∃z,z=wr.heap.size:=⟨_,rfl⟩;rw[←b3]at r;have fm:w5.heap[zm]?=some (.cells #[.int .i64 m.pos,.string m.of,.int .u64 m.Q7,.bool m.write,.bool m.exec] 71 (0,0)):=by rw[b2,b3];exact heap_alloc_new _ _
  have fz:Hid (w5.heap.size=wr.heap.size+1):=hh (by rw[b2];simp);have eo:Kz wr w5:=by rw[b2];exact(aD.refl _ _).alloc _
  have q1:w5.cell? ⟨zm,1,none⟩=some (.string m.of):=cr fm rfl;replace c8:=E.Q7 c8 rfl;replace W:=E.Q7 W rfl;replace g:=E.Q7 g rfl;replace p:=E.Q7 p rfl;have bo:=E.size.trans J;have f8:=E.defers.trans cy;have f6:=hh b3;have d0:=hh eo;have fk:Hid (aA (fun i=>(rg 8 11 i)||(rg 18 68 i)) a4 a5):=E.m;have FM:=hh fm;clear b2 E b3 eo q0 q2 q3 q4 gy fd fm
  -- r5
  refine so (fun a6 w6=>aA (fun i=>i==9||i==10||(rg 20 26 i)) a5 a6∧At a6 9 (.pointer (some ⟨w5.heap.size,0,none⟩))∧At a6 10 (.bool ok)∧w6=w5.alloc (.cells #[.int .u64 x.size,.bool x.big,.bool x.wx] 182)) ?_ ?_
  ·have ac:aA (fun i=>i==9||i==10||(rg 20 26 i)) a5 a5:=aA.refl _ _
   obtain⟨nn,b0⟩:=d5.out;have d6:=hh (b0.keep d0.out (fun h=>h));clear b0;have ep:m.of.size≤maxLen:=Nat.le_trans cl.2.2 (by unfold maxLen;omega);obtain⟨T,d⟩:=a5;refine rl ?_
   iterate 3 with_reducible refine st ?_
   refine dC.lookup_ok rfl d6.out rfl rfl Tryz.underlying121 uZ (At.eval ar (by have:=bo;simp at this⊢; omega)) (At.eval ar (by have:=bo;simp at this⊢; omega)) ep ?_;rw[←f5.out,←fy.out];simp only[Act.put,xB]
   iterate 6 with_reducible refine st ?_
   refine ln ⟨rfl,ag,aq,aq,rfl⟩
  rintro a6 w6 ⟨H,N,hg,c4⟩;obtain⟨zx,c7⟩:∃z,z=w5.heap.size:=⟨_,rfl⟩;rw[←c7]at N;have fx:w6.heap[zx]?=some (.cells #[.int .u64 x.size,.bool x.big,.bool x.wx] 182 (0,0)):=by rw[c4,c7];exact heap_alloc_new _ _
  have c2:Kz w5 w6:=by rw[c4];exact(aD.refl _ _).alloc _
  have cv:=(c2.block zm (aG FM.out) (fun h=>h)).trans FM.out;have I:Kz wr w6:=d0.out.trans c2 (fun _ _ h=>h);have q2:w6.cell? ⟨zm,2,none⟩=some (.int .u64 m.Q7):=cr cv rfl;have p0:w6.cell? ⟨zx,0,none⟩=some (.int .u64 x.size):=cr fx rfl;have HZ:Hid (zm≠u∧zm≠u+1∧zx≠u∧zx≠u+1):=hh (by have:=f6.out;have:=fz.out;omega);replace W:=H.Q7 W rfl;replace g:=H.Q7 g rfl;replace p:=H.Q7 p rfl;replace r:=H.Q7 r rfl;have e5:=H.size.trans bo;have f9:=H.defers.trans f8;have fl:Hid (aA (fun i=>(rg 8 11 i)||(rg 18 68 i)) a4 a6):=fk.out.t H;have hj:=hh I;have FX:=hh fx;have FM6:=hh cv;have d9:=hh (cp.out.keep I (fun h=>h));have d1:=hh (cm.out.keep I (fun h=>h));have bb:Hid (aD (fun k=>k=u∨k=u+1) w3 w6):=HK.out.trans I (fun _ _ h=>h.elim);clear c4 H c7 c2 fx cv q1 I c8 d5;obtain⟨gt,bx⟩:∃b,b=decide (67108864<x.size):=⟨_,rfl⟩;obtain⟨eb,X⟩:∃b,b=below m.Q7 x.size 549755813888:=⟨_,rfl⟩;have fe:decide ((67108864:Int)<(x.size:Int))=gt:=by rw[bx];exact decide_eq_decide.2 χ
  have cx:=kG m.Q7 x.size 549755813888 w6 (by have:=cl.2.1;unfold lim at this;omega) (by unfold lim at gu;omega) ψ;rw[←X]at cx;have dk:=hh cx;have b5:Hid (da P m=(ok&&(!gt&&eb))):=hh (by rw[f3.out,bx,X];congr 2;rw[←decide_not];exact decide_eq_decide.2 χ);have dt:=hh bx;have ds:=hh X;clear bx X cx;refine wp_seq (wp_seq (Code.wp_only (R:=fun a7 w7=>aA (fun i=>(rg 27 41 i)) a6 a7∧At a7 41 (.bool (!da P m))∧w7=w6) ?_ ?_))
  ·have ac:aA (fun i=>(rg 27 41 i)) a6 a6:=aA.refl _ _
   have ix:=al;rw[b5.out];obtain⟨T,d⟩:=a6;refine rl ?_
   iterate 3 with_reducible refine st ?_
   cases ok
   ·iterate 12
     with_reducible refine st ?_
    refine ln ⟨rfl,?_,?_,rfl⟩
    ·exact ag
    ·first|(simp only[Bool.false_and,Bool.true_and,Bool.not_false,Bool.not_true,Bool.and_false];exact At.self)|(exact aq)
   ·iterate 5
     with_reducible refine st ?_
    cases gt
    ·iterate 4
      with_reducible refine st ?_
     with_reducible refine Lz (fun K hK=>?_)
     go_simp;refine dk.out.mono ?_;rintro e w7 ⟨rfl,rfl⟩;with_reducible refine hK _ _ ?_;clear hK K
     iterate 2 with_reducible refine st ?_
     refine ln ⟨rfl,?_,?_,rfl⟩
     ·exact ag
     ·first|(simp only[Bool.false_and,Bool.true_and,Bool.not_false,Bool.not_true,Bool.and_false];exact At.self)|(exact aq)
    ·iterate 7
      with_reducible refine st ?_
     refine ln ⟨rfl,?_,?_,rfl⟩
     ·exact ag
     ·first|(simp only[Bool.false_and,Bool.true_and,Bool.not_false,Bool.not_true,Bool.and_false];exact At.self)|(exact aq)
  rintro a7 w7 ⟨v,e9,rfl⟩;replace W:=v.Q7 W rfl;replace g:=v.Q7 g rfl;replace p:=v.Q7 p rfl;replace r:=v.Q7 r rfl;replace N:=v.Q7 N rfl;have bp:=v.size.trans e5;have gf:=v.defers.trans f9;have c9:Hid (aA (fun i=>(rg 8 11 i)||(rg 18 68 i)) a4 a7):=fl.out.t v;clear v;refine wp_cond_split (e9.eval χ) (fun cb=>?_) (fun be=>?_)
  ·-- it ends with 0
   have gp:bY P l=0:=by
    unfold bY;rw[if_neg];intro h;have:=List.all_eq_true.1 h m fv.out;rw[this]at cb
    cases cb
   refine so (fun C w8=>C.tmps.size=76∧C.defers=[]∧At C 4 (.int .i64 (0:Nat))∧w8=w7) ?_ ?_
   ·obtain⟨T,d⟩:=a7
    refine rl ?_;with_reducible refine st ?_
    refine ln ⟨rfl,?_,gf,?_,rfl⟩
    ·have:=bp;simp at this⊢; omega
    ·exact At.self
   rintro C w8 ⟨L,c1,k4,rfl⟩;refine wp_ret ?_
   repeat (first|with_reducible apply b7|with_reducible apply bH)
   refine bk (t:=4) rfl k4 (by rw[L];decide) c1 ?_;exact⟨by rw[gp],(cs.out.trans bb.out (fun i hi h=>by have:=HU.out;omega))⟩
  ·have bf:da P m=true:=by simpa using be
   refine wp_skip ?_;have ew:(ok&&(!gt&&eb))=true:=by rw[←b5.out];exact bf
   simp only[Bool.and_eq_true,Bool.not_eq_true']at ew;obtain⟨go,es,eu⟩:=ew;have gw:x.size≤67108864:=by have O:=dt.out;rw[es]at O;have:=of_decide_eq_false O.symm;omega
   have bd:below m.Q7 x.size 549755813888=true:=by rw[←ds.out];exact eu
   have b4:Hid (∀m'∈l.take (n+1),da P m'=true):=hh fun m' bz=>by
    rcases d8.out m' bz with h|rfl
    ·exact d3.out m' h
    ·exact bf
   clear be go es eu ds dt fe e9 bf d3 d8 dk;obtain⟨ze,c6⟩:∃b,b=decide (x.size=0):=⟨_,rfl⟩;have ff:((x.size:Int)==0)=ze:=by rw[c6];exact eQ _ 0
   have cu:=hh c6;clear c6;refine wp_seq (wp_seq (Code.wp_only (R:=fun C w8=>aA (fun i=>(rg 42 44 i)) a7 C∧At C 44 (.bool ze)∧w8=w7) ?_ ?_))
   ·have ac:aA (fun i=>(rg 42 44 i)) a7 a7:=aA.refl _ _
    obtain⟨T,d⟩:=a7;refine rl ?_
    iterate 3 with_reducible refine st ?_
    refine ln ⟨rfl,ag,aq,rfl⟩
   rintro C w8 ⟨U,fc,rfl⟩;replace g:=U.Q7 g rfl;replace p:=U.Q7 p rfl;replace r:=U.Q7 r rfl;replace N:=U.Q7 N rfl;have L:=U.size.trans bp;have di:Hid (aA (fun i=>(rg 8 11 i)||(rg 18 68 i)) a4 C):=c9.out.t U;clear U bp c9 W;refine wp_cond_split (fc.eval χ) (fun hz=>?_) (fun hz=>?_)
   ·refine wp_exit ?_
    have e8:¬ 0<x.size:=by have O:=cu.out;rw[hz]at O;have:=of_decide_eq_true O.symm;omega
    repeat with_reducible apply g9
    simp only[cC,if_true];exact⟨di.out,nu,nl,Su,Sl,d9.out,d1.out,χ,χ,fun y=>by rw[ea.out y,d7.out y];exact⟨.inl,fun h=>h.elim id fun h=>absurd h.1 e8⟩,fun y=>by rw[d2.out y,d4.out y];exact⟨.inl,fun h=>h.elim id fun h=>absurd h.1 e8⟩,b4.out,bb.out⟩
   ·have c5:0<x.size:=by have O:=cu.out;rw[hz]at O;have:=of_decide_eq_false O.symm;omega
    refine wp_skip ?_;have gs:upN m x.size≤34:=by
     obtain⟨hy,h2⟩:m.Q7≤549755813888∧x.size≤549755813888-m.Q7:=by
      unfold below at bd
      simpa using bd
     unfold upN;omega
    obtain⟨q,hq⟩:∃q,q=m.Q7 / 2097152:=⟨_,rfl⟩;have hp:(m.Q7:Int) / 2097152=(q:Int):=χ
    have HQ:=hh hq;clear hz hq fc cu ff;refine so (fun a9 w9=>aA (fun i=>i==11||(rg 45 47 i)) C a9∧At a9 11 (.int .u64 q)∧w9=w8) ?_ ?_
    ·have ac:aA (fun i=>i==11||(rg 45 47 i)) C C:=aA.refl _ _
     obtain⟨T,d⟩:=C;refine rl ?_
     iterate 4 with_reducible refine st ?_
     refine ln ⟨rfl,?_,?_,rfl⟩
     ·exact ag
     ·first|(simp only[Bool.false_and,Bool.true_and,Bool.not_false,Bool.not_true,Bool.and_false];exact At.self)|(exact aq)
    rintro a9 w9 ⟨Z,ci,rfl⟩;replace g:=Z.Q7 g rfl;replace p:=Z.Q7 p rfl;replace r:=Z.Q7 r rfl;replace N:=Z.Q7 N rfl;have e6:=Z.size.trans L;have fp:Hid (aA (fun i=>(rg 8 11 i)||(rg 18 68 i)) a4 a9):=di.out.t Z;rw[HQ.out]at ci;obtain⟨z1,z2,z3,z4⟩:=HZ.out;refine qQ bd c5 gw d9.out d1.out χ χ χ (zm:=zm) (zx:=zx) FM6.out FX.out ⟨z1,z2,z3,z4⟩ a9 e6 g p r N ci _ ?_;intro ho i0 Su' Sl' ed gr gl ez ey gg;refine⟨fp.out.t ed,_,_,Su',Sl',gr,gl,χ,χ,fun y=>?_,fun y=>?_,b4.out,bb.out.trans gg (fun _ _ h=>h)⟩
    ·rw[ez y,ea.out y,d7.out y];exact or_congr Iff.rfl ⟨fun h=>⟨c5,h⟩,fun h=>h.2⟩
    ·rw[ey y,d2.out y,d4.out y];exact or_congr Iff.rfl ⟨fun h=>⟨c5,h⟩,fun h=>h.2⟩
 ·rintro a4 w4 Q ⟨nu,nl,Su,Sl,V,hl,er,eq,a0,af,ad,hk⟩
  rw[List.take_length]at a0 af ad;replace h5:=Q.Q7 h5 rfl;replace h6:=Q.Q7 h6 rfl;have J:=Q.size.trans cf;have cy:=Q.defers.trans em;have cp:=hh V;have cm:=hh hl;have hw:=Nat.le_trans (by obtain⟨D,o1,_,o3,_⟩:=V;rw[←o3];exact o1.size_le:Su.length≤nu) er;have ht:=Nat.le_trans (by obtain⟨D,o1,_,o3,_⟩:=hl;rw[←o3];exact o1.size_le:Sl.length≤nl) eq;have bt:bY P l=1+Su.length+Sl.length:=by
   unfold bY;rw[if_pos (List.all_eq_true.2 ad),sB (by obtain⟨D,_,o2,_⟩:=V;exact o2) a0,sB (by obtain⟨D,_,o2,_⟩:=hl;exact o2) af]
  have e1:IntKind.i64.wrap ((1:Int)+(Su.length:Int))=((1+Su.length:Nat):Int):=by rw[i64_in _ χ];omega
  obtain⟨s1,ex⟩:∃s,s=1+Su.length:=⟨_,rfl⟩;rw[←ex]at e1 bt;have e2:IntKind.i64.wrap ((s1:Int)+(Sl.length:Int))=((bY P l:Nat):Int):=by rw[bt,i64_in _ χ];omega
  obtain⟨tt,c3⟩:∃t,t=bY P l:=⟨_,rfl⟩;rw[←c3]at e2;have f4:=hh c3;have fr:Hid (Kz w1 w4):=hh (cs.out.trans hk (fun i hi h=>by have:=HU.out;omega));clear bt ex c3 V hl a0 af ad hk Q;refine so (fun C w8=>C.tmps.size=76∧C.defers=[]∧At C 4 (.int .i64 tt)∧w8=w4) ?_ ?_
  ·obtain⟨T,d⟩:=a4
   refine rl ?_;with_reducible refine st ?_
   refine dn.len rfl cp.out rfl rfl Tryz.underlying207 (At.eval ar (by have:=J;simp at this⊢; omega)) ?_;simp only[Act.put]
   iterate 2 with_reducible refine st ?_
   refine dn.len rfl cm.out rfl rfl Tryz.underlying207 (At.eval ar (by have:=J;simp at this⊢; omega)) ?_;simp only[Act.put]
   iterate 2 with_reducible refine st ?_
   refine ln ⟨rfl,?_,cy,?_,rfl⟩
   ·have:=J;simp at this⊢; omega
   ·exact At.self
  rintro C w8 ⟨L,c1,k4,rfl⟩;refine wp_ret ?_
  repeat (first|with_reducible apply b7|with_reducible apply bH)
  refine bk (t:=4) rfl k4 (by rw[L];decide) c1 ?_;exact⟨by rw[f4.out],fr.out⟩
end Go.Proofs.YtpblcjipmoblnaaGreatDoor
namespace Go.Proofs.YtpblcjipmoblnaaGreatDoor
open Go.RowKit Go.IntWalk Go.Shelf Ck
attribute [local go_sem] Oper.semAt_some
abbrev zT:Value := .agg #[.int .u64 0,.bool false,.bool false]
def Az(P:aC)(l:List (Fin P.Q4.length)):ByteArray→Value:=qE (fun i=>P.Q4[i].name) (fun i =>.agg #[.int .u64 (P.Q4[i].size:Nat),.bool false,.bool false]) (fun _=>zT) l
def Av(P:aC)(l:List (Fin P.Q4.length)):ByteArray→Bool:=qD (fun i=>P.Q4[i].name) (fun _=>false) l
def AF(P:aC)(l:List (Fin P.Q5.length)):ByteArray→Value:=qE (fun i=>P.Q5[i].name) (fun i =>.agg #[.int .u64 (P.Q5[i].size:Nat),.bool P.Q5[i].big,.bool P.Q5[i].wx]) (Az P (List.finRange _)) l
def AE(P:aC)(l:List (Fin P.Q5.length)):ByteArray→Bool:=qD (fun i=>P.Q5[i].name) (Av P (List.finRange _)) l
theorem zM(P:aC)(s:ByteArray):Az P (List.finRange _) s=match P.Q4.find? (fun x=>decide (x.name=s))with|some x =>.agg #[.int .u64 (x.size:Nat),.bool false,.bool false]|none=>zT:=by
 unfold Az;rw[im,je P.Q4]
 cases(List.finRange P.Q4.length).find? fun i=>decide (P.Q4[i].name=s)<;>rfl
theorem zL(P:aC)(s:ByteArray):Av P (List.finRange _) s=(P.Q4.find? (fun x=>decide (x.name=s))).isSome:=by
 unfold Av;rw[kd,je P.Q4]
 cases(List.finRange P.Q4.length).find? fun i=>decide (P.Q4[i].name=s)<;>rfl
theorem yC(P:aC)(s:ByteArray):AF P (List.finRange _) s=xB (aS P s):=by
 unfold AF aS eD;rw[im,je P.Q5,zM]
 cases(List.finRange P.Q5.length).find? fun i=>decide (P.Q5[i].name=s)with
 | some i=>rfl
 | none =>
  simp only[Option.map_none]
  cases P.Q4.find? fun x=>decide (x.name=s)<;>rfl
theorem yB(P:aC)(s:ByteArray):AE P (List.finRange _) s=(eD P s).isSome:=by
 unfold AE eD;rw[kd,je P.Q5,zL]
 cases(List.finRange P.Q5.length).find? fun i=>decide (P.Q5[i].name=s)with
 | some i=>rfl
 | none =>
  simp only[Option.map_none]
  cases P.Q4.find? fun x=>decide (x.name=s)<;>rfl
theorem kU:ot:=by
 intro B w v P hp hB;obtain⟨A_rams,a1,cd,c4,di,c7⟩:=hp.QG;obtain⟨A_devices,p,Z,bo,b1,X⟩:=hp.Q4;obtain⟨A_regions,g,af,bw,cb,Y⟩:=hp.Q5;obtain⟨A_subjects,C,U,ba,bl,bd⟩:=hp.Q3;obtain⟨A_channels,q,R,a8,be,bb⟩:=hp.Q8;obtain⟨A_irqs,a0,cc,c3,c9,c6⟩:=hp.QJ;obtain⟨A_queues,J,a4,cf,cs,cl⟩:=hp.QC;obtain⟨A_plans,O,a7,cx,c1,cy⟩:=hp.Q9;obtain⟨A_masters,I,ad,bt,b5,bz⟩:=hp.QB;obtain⟨A_starts,L,a5,ci,cu,cp⟩:=hp.QE;obtain⟨A_monitors,y,S,a9,bf,bc⟩:=hp.QA;obtain⟨A_forbids,H,ac,bp,b4,bx⟩:=hp.QD;have e0:(v.cells P).toArray = #[.int .i64 P.pos,.string P.name,.slice A_rams P.QG.length a1,.slice A_devices P.Q4.length p,.slice A_regions P.Q5.length g,.slice A_subjects P.Q3.length C,.slice A_channels P.Q8.length q,.slice A_irqs P.QJ.length a0,.slice A_queues P.QC.length J,.slice A_plans P.Q9.length O,.slice A_masters P.QB.length I,.slice A_starts P.QE.length L,.slice A_monitors P.QA.length y,.slice A_forbids P.QD.length H]:=by
  rw[←cd,←Z,←af,←U,←R,←cc,←a4,←a7,←ad,←a5,←S,←ac];rfl
 rw[e0];unfold top at b1 cb;have d1:=hh X;have cw:=hh Y;clear e0 hp cd Z af U R cc a4 a7 ad a5 S ac c7 X Y bd bb c6 cl cy bz cp bc bx c4 ba a8 c3 cf cx bt ci a9 bp di bl be c9 cs c1 b5 cu bf b4;refine(callsIn_wide (n:=9)).1 ?_;refine callsIn_of_wp_marks Tryz.func58 rfl trivial ?_;simp only[Tryz.ntmps58,List.size_toArray,List.length_cons,List.length_nil,Nat.reduceAdd,Nat.reduceSub,Array.replicate_succ,Array.replicate_zero,List.push_toArray,List.append_toArray,List.nil_append,List.cons_append];have ey:=@run_makeMap Tryz.prog
 gi_wp2
 refine⟨trivial,?_⟩;refine(og Fence.wide 8 trivial rfl _ _ _ _).mono ?_;rintro e w' ⟨rfl,rfl⟩
 gi_wp2
 obtain⟨W0,ee⟩:∃W0,W0=(((w.alloc (.cells #[.int .i64 P.pos,.string P.name,.slice A_rams P.QG.length a1,.slice A_devices P.Q4.length p,.slice A_regions P.Q5.length g,.slice A_subjects P.Q3.length C,.slice A_channels P.Q8.length q,.slice A_irqs P.QJ.length a0,.slice A_queues P.QC.length J,.slice A_plans P.Q9.length O,.slice A_masters P.QB.length I,.slice A_starts P.QE.length L,.slice A_monitors P.QA.length y,.slice A_forbids P.QD.length H] 34)).alloc (.map #[] 0)).alloc (.cells #[.map (some (w.heap.size+1))] 121)).alloc (.cells #[.slice A_devices P.Q4.length p] 24):=⟨_,rfl⟩;have hf:=sK w (.cells #[.int .i64 P.pos,.string P.name,.slice A_rams P.QG.length a1,.slice A_devices P.Q4.length p,.slice A_regions P.Q5.length g,.slice A_subjects P.Q3.length C,.slice A_channels P.Q8.length q,.slice A_irqs P.QJ.length a0,.slice A_queues P.QC.length J,.slice A_plans P.Q9.length O,.slice A_masters P.QB.length I,.slice A_starts P.QE.length L,.slice A_monitors P.QA.length y,.slice A_forbids P.QD.length H] 34) (.map #[] 0) (.cells #[.map (some (w.heap.size+1))] 121) (.cells #[.slice A_devices P.Q4.length p] 24);rw[←ee]at hf⊢;obtain⟨s0,b0,m0,b2,b3,hb⟩:=hf;clear ee;obtain⟨sf,bm,Q⟩:=lk (σ:=Option Addr×Nat) (fun(x:Ck.bA) s=>[.int .i64 x.pos,.string x.name,.int .u64 x.Q7,.int .u64 x.size,.slice s.1 x.QF.length s.2]) (fun x _=>aX x.name) (fun b o x hx=>by
  obtain⟨u,hc,⟨Am,cm,rfl,_⟩,_,_,_,hs⟩:=hx;exact⟨(Am,cm),hc,hs⟩) d1.out
 obtain⟨vs,a6⟩:∃vs:Nat→Nat→Value,vs=fun j c=>if h:j<P.Q4.length then([.int .i64 P.Q4[j].pos,.string P.Q4[j].name,.int .u64 P.Q4[j].Q7,.int .u64 P.Q4[j].size,.slice (sf j).1 P.Q4[j].QF.length (sf j).2]:List Value).getD c undef else undef:=⟨_,rfl⟩
 have hA:0<P.Q4.length→∃b off,A_devices=some ⟨b,off,none⟩∧b<w.heap.size+4∧b≠w.heap.size+1∧∀j c,j<P.Q4.length→c<5→W0.cell? ⟨b,off+j*5+c,none⟩=some (vs j c):=fun dk=>by
  obtain⟨b,off,h1,V,h3⟩:=bm dk;refine⟨b,off,h1,χ,χ,fun j c hj hc=>?_⟩;rw[a6];simp only[dif_pos hj];refine(h3 j hj).below hb χ c _ ?_
  match c,hc with
  | 0,_=>rfl
  | 1,_=>rfl
  | 2,_=>rfl
  | 3,_=>rfl
  | 4,_=>rfl
 have a3:=pU Fence.wide 8 trivial rfl ψ (w.heap.size+1+1+1) (w.heap.size+1) (w.heap.size+4) P.Q4.length p A_devices vs χ bo ⟨χ,χ⟩ W0 χ (cell_of_one b3) hA;rw[show(fun x:Fin P.Q4.length=>(#[.int .i64 (x.val:Int),.agg #[vs x.val 0,vs x.val 1,vs x.val 2,vs x.val 3,vs x.val 4]]:Array Value))=fun x =>#[.int .i64 (x.val:Int),.agg #[.int .i64 P.Q4[x.val].pos,.string P.Q4[x.val].name,.int .u64 P.Q4[x.val].Q7,.int .u64 P.Q4[x.val].size,.slice (sf x.val).1 P.Q4[x.val].QF.length (sf x.val).2]] from by
  funext x
  rw[a6];simp only[dif_pos x.isLt];rfl]at a3
 refine wpIn_rangeFunc_ownH (F:=Fence.wide) (n:=9) rfl ψ (gf:=134) (lb := #[.pointer (some ⟨w.heap.size+1+1+1,0,none⟩)]) rfl trivial (enters_of Tryz.func134 δ rfl)
  a3 qG (yp χ) (Below.refl _ _) (fun _=>rfl)
  (fun E W=>(dC W (w.heap.size+1) E.length zT (Az P E.reverse) (Av P E.reverse)∧W.heap[w.heap.size+1+1]?=some (.cells #[.map (some (w.heap.size+1))] 121 (0,0))∧W.heap[w.heap.size]?=some (.cells #[.int .i64 P.pos,.string P.name,.slice A_rams P.QG.length a1,.slice A_devices P.Q4.length p,.slice A_regions P.Q5.length g,.slice A_subjects P.Q3.length C,.slice A_channels P.Q8.length q,.slice A_irqs P.QJ.length a0,.slice A_queues P.QC.length J,.slice A_plans P.Q9.length O,.slice A_masters P.QB.length I,.slice A_starts P.QE.length L,.slice A_monitors P.QA.length y,.slice A_forbids P.QD.length H] 34 (0,0)))∧Below w.heap.size w W)
  (fun _ _ _=>False)
  (OwnFrom.and (OwnFrom.and (fun s A B row hs hg hr=>dC.own hs hg (fun r e=>(hr r e).1) χ) (OwnFrom.and (Own.from (gN _ _ _ _) _) (Own.from (gN _ _ _ _) _))) (ownFrom_below (Nat.le_refl _) χ))
  (fun _ _ _ _ _ hs _ _=>hs)
  ⟨⟨dC.new _ _ _ m0,b2,b0⟩,hb⟩
  (fun x (a':Act) (W:World)=>∃Bx:Nat,W.heap[Bx]?=some (Obj.cells #[.int .i64 P.Q4[x.val].pos,.string P.Q4[x.val].name,.int .u64 P.Q4[x.val].Q7,.int .u64 P.Q4[x.val].size,.slice (sf x.val).1 P.Q4[x.val].QF.length (sf x.val).2] 45 (0,0))∧a'.tmps.size=36∧At a' 3 (.pointer (some ⟨w.heap.size+1+1,0,none⟩))∧At a' 5 (.pointer (some ⟨Bx,0,none⟩)))
  (fun x a' s A B row hs hg hr=>by
   obtain⟨Bx,V,h3⟩:=hs;exact⟨Bx,oH V hg (fun r e=>(hr r e).2),h3⟩)
  ?assign ?body ?done ?stop
 case assign =>
  rintro l E x W K ⟨⟨hS,V,h0⟩,hB⟩ hK;have c8:=aG V;clear a3 hA Q bm a6 d1 cw
  gi_wp2
  exact hK _ _ ((KeepsOthers.alloc _ _).from _) ((aD.refl _ _).alloc _) ⟨⟨hS.keep (((aD.refl (fun _=>False) _).alloc _)) (fun h=>h),(Below.heap_alloc _ _ _ c8).trans V,(Below.heap_alloc _ _ _ (aG h0)).trans h0⟩,hB.alloc hB.size _⟩ ⟨W.heap.size,heap_alloc_new _ _,rfl,fun _=>rfl,fun _=>rfl⟩
 case body =>
  rintro l E x a' W hl _ ⟨⟨hS,V,h0⟩,hB⟩ ⟨Bx,hX,cv,k3,k5⟩ er;have q1:W.cell? ⟨Bx,1,none⟩=some (.string P.Q4[x.val].name):=cr hX rfl;have q3:W.cell? ⟨Bx,3,none⟩=some (.int .u64 P.Q4[x.val].size):=cr hX rfl;have qm:=cell_of_one V;have ds:=Q x.val x.isLt;have HS:=hh hS;have H2:=hh V;have H0:=hh h0;have HB:=hh hB;have d4:Hid (aX P.Q4[x.val].name):=hh ds;clear hS V h0 hB hX a3 hA Q bm a6 d1 cw ds;obtain⟨T,d⟩:=a';refine wpIn_block (wpIn_region_lit ?_)
  iterate 6
   with_reducible refine wpListIn_step (fun K hK=>?_)
   go_simp;with_reducible refine hK _ _ ?_;clear hK K
  refine dC.updateIn rfl HS.out (by unfold maxLen;omega) rfl rfl Tryz.underlying121 (At.eval (by exact aq) (by have:=cv;simp at this⊢; omega)) (At.eval (by exact aq) (by have:=cv;simp at this⊢; omega)) (Nat.le_trans d4.out (by unfold maxLen;omega)) (At.eval (by exact aq) (by have:=cv;simp at this⊢; omega)) ?_;intro w2 d5 a2;refine wpListIn_nil ?_;have e1:(E++[x]).reverse=x::E.reverse:=ξ
  have e2:(E++[x]).length=E.length+1:=ξ
  refine⟨io a2 χ,a2.mono fun _ _ h =>.inl h,⟨?_,(a2.block _ (aG H2.out) (by show _≠_;omega)).trans H2.out,(a2.block _ (aG H0.out) (by show _≠_;omega)).trans H0.out⟩,HB.out.trans (a2.below HB.out.size fun i hi e=>χ)⟩;rw[e1,e2];exact d5
 case done =>
  rintro D ys W hD rfl ⟨⟨hS,V,h0⟩,hB⟩ hK;rw[ko,iw (Nat.le_refl _)]at hS;have q4:W.cell? ⟨w.heap.size,4,none⟩=some (.slice A_regions P.Q5.length g):=cr h0 rfl;have HS:=hh hS;have H2:=hh V;have H0:=hh h0;have HB:=hh hB;have d0:=hh hK;have eo:=aG hK;clear hS V h0 hB a3 hA Q bm a6 d1 hK
  gi_wp2
  refine⟨trivial,?_⟩;refine(oe Fence.wide 8 trivial rfl _ _ _ _).mono ?_;rintro e w' ⟨rfl,rfl⟩
  gi_wp2
  have ef:Hid (KeepsFrom 0 W W):=hh (KeepsFrom.refl _ _);obtain⟨W1,c2⟩:∃W1,W1=W.alloc (.cells #[.slice A_regions P.Q5.length g] 25):=⟨_,rfl⟩;have s1:W1.heap.size=W.heap.size+1:=by rw[c2];simp
  have eq:W1.heap[W.heap.size]?=some (.cells #[.slice A_regions P.Q5.length g] 25 (0,0)):=by rw[c2];exact heap_alloc_new _ _
  have c5:Kz W W1:=by rw[c2];exact(aD.refl _ _).alloc _
  rw[←c2];clear c2 ef;have eb:Below w.heap.size w W1:=HB.out.trans (c5.below HB.out.size fun _ _ h=>h);have eu:=HB.out.size;have ep:=HS.out.keep c5 (fun h=>h);have eg:=(c5.block _ (aG H2.out) (fun h=>h)).trans H2.out;have en:=(c5.block _ eo (fun h=>h)).trans d0.out;have es:=HS.out.lt;have ew:=aG H2.out;clear c5;obtain⟨sf,bm,Q⟩:=lk (σ:=Unit) (fun(x:Ck.Region) _=>Ck.Region.cells x) (fun x _=>aX x.name) (fun b o x hx=>⟨(),hx.1,hx.2.2.2.2.2.1⟩) cw.out;obtain⟨vs,a6⟩:∃vs:Nat→Nat→Value,vs=fun j c=>if h:j<P.Q5.length then(Ck.Region.cells P.Q5[j]).getD c undef else undef:=⟨_,rfl⟩
  have hA:0<P.Q5.length→∃b off,A_regions=some ⟨b,off,none⟩∧b<W.heap.size+1∧b≠w.heap.size+1∧∀j c,j<P.Q5.length→c<10→W1.cell? ⟨b,off+j*10+c,none⟩=some (vs j c):=fun dk=>by
   obtain⟨b,off,h1,V,h3⟩:=bm dk;refine⟨b,off,h1,χ,χ,fun j c hj hc=>?_⟩;rw[a6];simp only[dif_pos hj];refine(h3 j hj).below eb χ c _ ?_
   match c,hc with
   | 0,_=>rfl
   | 1,_=>rfl
   | 2,_=>rfl
   | 3,_=>rfl
   | 4,_=>rfl
   | 5,_=>rfl
   | 6,_=>rfl
   | 7,_=>rfl
   | 8,_=>rfl
   | 9,_=>rfl
  have a3:=pT Fence.wide 8 trivial rfl ψ W.heap.size (w.heap.size+1) (W.heap.size+1) P.Q5.length g A_regions vs χ bw ⟨χ,χ⟩ W1 χ (cell_of_one eq) hA;rw[show(fun x:Fin P.Q5.length=>(#[.int .i64 (x.val:Int),.agg #[vs x.val 0,vs x.val 1,vs x.val 2,vs x.val 3,vs x.val 4,vs x.val 5,vs x.val 6,vs x.val 7,vs x.val 8,vs x.val 9]]:Array Value))=fun x =>#[.int .i64 (x.val:Int),.agg #[.int .i64 P.Q5[x.val].pos,.string P.Q5[x.val].name,.int .u64 P.Q5[x.val].size,.bool P.Q5[x.val].fixed,.int .u64 P.Q5[x.val].Q7,.bool P.Q5[x.val].big,.bool P.Q5[x.val].wx,.int .u64 P.Q5[x.val].fill,.bool P.Q5[x.val].QR,.string P.Q5[x.val].text]] from by
   funext x
   rw[a6];simp only[dif_pos x.isLt];rfl]at a3
  refine wpIn_rangeFunc_ownH (F:=Fence.wide) (n:=9) rfl ψ (gf:=135) (lb := #[.pointer (some ⟨W.heap.size,0,none⟩)]) rfl trivial (enters_of Tryz.func135 δ rfl)
   a3 qG (yp χ) (Below.refl _ _) (fun _=>rfl)
   (fun E W=>(dC W (w.heap.size+1) (P.Q4.length+E.length) zT (AF P E.reverse) (AE P E.reverse)∧W.heap[w.heap.size+1+1]?=some (.cells #[.map (some (w.heap.size+1))] 121 (0,0))∧W.heap[D]?=some (.deferred (some [])))∧Below w.heap.size w W)
   (fun _ _ _=>False)
   (OwnFrom.and (OwnFrom.and (fun s A B row hs hg hr=>dC.own hs hg (fun r e=>(hr r e).1) χ) (OwnFrom.and (Own.from (gN _ _ _ _) _) (fun s A B row hs hg hr=>(hg.block D (aG hs) (fun e=>by have:=(hr D e.symm).1;omega)).trans hs))) (ownFrom_below (Nat.le_refl _) χ))
   (fun _ _ _ _ _ hs _ _=>hs)
   ⟨⟨ep,eg,en⟩,eb⟩
   (fun x (a':Act) (W:World)=>∃Bx:Nat,W.heap[Bx]?=some (Obj.cells #[.int .i64 P.Q5[x.val].pos,.string P.Q5[x.val].name,.int .u64 P.Q5[x.val].size,.bool P.Q5[x.val].fixed,.int .u64 P.Q5[x.val].Q7,.bool P.Q5[x.val].big,.bool P.Q5[x.val].wx,.int .u64 P.Q5[x.val].fill,.bool P.Q5[x.val].QR,.string P.Q5[x.val].text] 48 (0,0))∧a'.tmps.size=36∧At a' 3 (.pointer (some ⟨w.heap.size+1+1,0,none⟩))∧At a' 7 (.pointer (some ⟨Bx,0,none⟩)))
   (fun x a' s A B row hs hg hr=>by
    obtain⟨Bx,V,h3⟩:=hs;exact⟨Bx,oH V hg (fun r e=>(hr r e).2),h3⟩)
   ?assign2 ?body2 ?done2 ?stop2
  case assign2 =>
   rintro l E x W K ⟨⟨hS,V,h0⟩,hB⟩ hK;have c8:=aG V;clear a3 hA Q bm a6 cw HS H2 H0 HB d0
   gi_wp2
   exact hK _ _ ((KeepsOthers.alloc _ _).from _) ((aD.refl _ _).alloc _) ⟨⟨hS.keep (((aD.refl (fun _=>False) _).alloc _)) (fun h=>h),(Below.heap_alloc _ _ _ c8).trans V,(Below.heap_alloc _ _ _ (aG h0)).trans h0⟩,hB.alloc hB.size _⟩ ⟨W.heap.size,heap_alloc_new _ _,rfl,fun _=>rfl,fun _=>rfl⟩
  case body2 =>
   rintro l E x a' W hl _ ⟨⟨hS,V,h0⟩,hB⟩ ⟨Bx,hX,cv,k3,k7⟩ er;have q1:W.cell? ⟨Bx,1,none⟩=some (.string P.Q5[x.val].name):=cr hX rfl;have q2:W.cell? ⟨Bx,2,none⟩=some (.int .u64 P.Q5[x.val].size):=cr hX rfl;have q5:W.cell? ⟨Bx,5,none⟩=some (.bool P.Q5[x.val].big):=cr hX rfl;have q6:W.cell? ⟨Bx,6,none⟩=some (.bool P.Q5[x.val].wx):=cr hX rfl;have qm:=cell_of_one V;have ds:=Q x.val x.isLt;have d3:=hh hS;have d8:=hh V;have d7:=hh h0;have dt:=hh hB;have d4:Hid (aX P.Q5[x.val].name):=hh ds;clear hS V h0 hB hX a3 hA Q bm a6 cw ds HS H2 H0 HB d0;obtain⟨T,d⟩:=a';refine wpIn_block (wpIn_region_lit ?_)
   iterate 10
    with_reducible refine wpListIn_step (fun K hK=>?_)
    go_simp;with_reducible refine hK _ _ ?_;clear hK K
   refine dC.updateIn rfl d3.out (by unfold maxLen;omega) rfl rfl Tryz.underlying121 (At.eval (by exact aq) (by have:=cv;simp at this⊢; omega)) (At.eval (by exact aq) (by have:=cv;simp at this⊢; omega)) (Nat.le_trans d4.out (by unfold maxLen;omega)) (At.eval (by exact aq) (by have:=cv;simp at this⊢; omega)) ?_;intro w2 d5 a2;refine wpListIn_nil ?_;have e1:(E++[x]).reverse=x::E.reverse:=ξ
   have e2:P.Q4.length+(E++[x]).length=P.Q4.length+E.length+1:=η
   refine⟨io a2 χ,a2.mono fun _ _ h =>.inl h,⟨?_,(a2.block _ (aG d8.out) (by show _≠_;omega)).trans d8.out,(a2.block _ (aG d7.out) (by show _≠_;omega)).trans d7.out⟩,dt.out.trans (a2.below dt.out.size fun i hi e=>χ)⟩;rw[e1,e2];exact d5
  case done2 =>
   rintro D2 ys W2 ex rfl ⟨⟨hS,V,ed⟩,hB⟩ hK;rw[ko]at hS;have qm:=cell_of_one V;have d3:=hh hS;have dt:=hh hB;have d9:=hh ed;have ea:=hh hK;clear hS V ed hB hK a3 hA Q bm a6 cw HS H2 H0 HB d0
   gi_wp2
   have e2:D2≠D:=χ
   have d2:(W2.putObj D2 (.deferred none)).heap[D]?=some (.deferred (some [])):=((grownBy_putObj' W2 D2 (.deferred none)).block D (aG d9.out) (fun e=>e2 (by cases e;rfl))).trans d9.out;refine⟨ξ,.inl ⟨_,_,rfl,run_takeDeferred ea.out,?_⟩⟩;refine⟨ξ,.inl ⟨_,_,rfl,run_takeDeferred d2,?_⟩⟩;have em:Below w.heap.size w ((W2.putObj D2 (.deferred none)).putObj D (.deferred none)):=(dt.out.trans (belowK_b (w:=w) (Nat.le_refl _) W2 D2 _ (.deferred none) χ ea.out rfl rfl)).trans (belowK_b (w:=w) (Nat.le_refl _) _ D _ (.deferred none) χ d2 rfl rfl);have d6:=(d3.out.own (N:=w.heap.size+2) (grownBy_putObj' W2 D2 (.deferred none)) (fun r e=>by cases e;omega) χ).own (N:=w.heap.size+2) (grownBy_putObj' _ D (.deferred none)) (fun r e=>by cases e;omega) χ;have f1:AF P (List.finRange _)=fun s=>xB (aS P s):=funext fun s=>yC P s
   have f2:AE P (List.finRange _)=fun s=>(eD P s).isSome:=funext fun s=>yB P s
   rw[f1,f2]at d6;exact⟨_,results_tmp rfl _ _ _,w.heap.size+1,rfl,χ,d6.lt,⟨_,d6⟩,aD.of_below em fun i h1 V=>χ⟩
  case stop2 =>
   rintro D c E W _ _ h _;exact h.elim
 case stop =>
  rintro D c E W _ _ h _;exact h.elim
