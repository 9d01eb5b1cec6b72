import Derived.Test.YthobcefghkeddaaGreatDoorScan2
import Derived.Test.YthobcefghkeddaaGreatDoorBack
import Derived.Maps.OwnIn
set_option maxRecDepth 100000
set_option linter.all false
set_option maxHeartbeats 4000000
namespace Go.Proofs.YthobcefghkeddaaGreatDoor
section
open Go.RowKit Go.IntWalk Go.Shelf Ck
variable {b:Nat} {p:ByteArray→Bool}
attribute [local go_sem] Oper.semAt_some
theorem cq{β:Type}(k:Nat)(cs:Array Value)(t:TypeId)(z:Nat×Nat):Own (fun(_:β) W=>W.heap[k]?=some (.cells cs t z)):=fun s A B row d j l=>by
 refine(j.block k (aH d) fun e=>?_).trans d;obtain⟨o,g,h⟩:=l k e.symm;rw[d]at g
 cases g
 cases h
theorem iC{A B:World}{row:Option Nat}{k:Nat}{cs:Array Value}{t:TypeId}{z:Nat×Nat}(h:A.heap[k]?=some (.cells cs t z))(d:A.grownBy B row)(g:∀r,row=some r→∃o:Obj,A.heap[r]?=some o∧o.isCells=false):B.heap[k]?=some (.cells cs t z):=
 cq k cs t z () A B row h d g
theorem iX{N:Nat}{W W':World}(hk:aD (fun k=>k=b) W W')(g:b<N):KeepsFrom N W W':=
 ⟨hk.size,fun k o d h _=>(hk.block k (aH h) (by show k≠b;omega)).trans h⟩
theorem cV.updateIn{F0:Fence}{B:Nat}{w:World}{n:Nat}{z:Value}{F:ByteArray→Value}{P:Program}(H:P=Tryz.prog)(h:cV w b n z F p)(K:n<maxLen){ops:Array Oper}{rest:List Oper}{o:Oper}{a:Act}{Q:Exit→Act→World→Prop}
 (I:o.guard=none){m x u:Operand}{t e:TypeId}(q:o.op=Op.mapUpdate t m x u)(y:P.underlying t=some (.map 9 e))
 (J:a.eval m=.map (some b)){s:ByteArray}(O:a.eval x=.string s)(L:s.size≤maxLen){v:Value}(N:a.eval u=v)
 (E:∀w',cV w' b (n+1) z (fun t=>if t=s then v else F t) (fun t=>decide (t=s)||p t)→aD (fun k=>k=b) w w'→wpListIn F0 B P ops Q rest (a.put o.dst undef) w'):wpListIn F0 B P ops Q (o::rest) a w:=by
 subst H;obtain⟨D,j,C⟩:=h;refine wpListIn_mapUpdate_own _ I m x u t q 9 e Tryz.law9 y dx b n D J j K _ _ (key s) O N (Go.WideMaps.keyOf_string_mk Tryz.underlying9 L) _ [] rfl fun w' g l=>E w' ⟨_,g,fun t y=>?_⟩ (aD.of_grown l (fun k e=>by cases e;rfl))
 obtain⟨R,U⟩:=C t y
 by_cases hts:t=s
 ·subst hts
  exact⟨by show _=DataW.held (if t=t then v else F t);rw[if_pos rfl];exact Go.Maps.atKey_put_same j.isMap (kc t) _ _,by rw[Go.Maps.has_put_same j.isMap (kc t)];simp⟩
 ·have d:key t≠key s:=fun e=>hts (nW e)
  exact⟨by show _=DataW.held (if t=s then v else F t);rw[if_neg hts];exact(Go.Maps.atKey_put_other d _ _).trans R,by rw[Go.Maps.has_put_other d,U];simp[hts]⟩
theorem cV.own{n N:Nat}{z:Value}{F:ByteArray→Value}{W W':World}{row:Option Nat}(l:cV W b n z F p)(h:W.grownBy W' row)(j:∀r,row=some r→N≤r)(q:b<N):cV W' b n z F p:=by
 obtain⟨D,d,g⟩:=l;exact⟨D,d.kept h (fun e=>by have:=j _ e.symm;omega),g⟩
def qi{α:Type}(nm:α→ByteArray)(va:α→Value)(F:ByteArray→Value):List α→ByteArray→Value
 | [],s=>F s
 | x::t,s=>if s=nm x then va x else qi nm va F t s
def qg{α:Type}(nm:α→ByteArray)(p:ByteArray→Bool):List α→ByteArray→Bool
 | [],s=>p s
 | x::t,s=>decide (s=nm x)||qg nm p t s
theorem iW{α:Type}{d:α→ByteArray}{g:α→Value}{F:ByteArray→Value}(s:ByteArray):∀l:List α,qi d g F l s=match l.find? (fun x=>decide (d x=s))with|some x=>g x|none=>F s
 | []=>rfl
 | x::t=>by
  simp only[qi,List.find?_cons]
  by_cases h:s=d x
  ·simp[h]
  ·have j:¬ d x=s:=fun e=>h e.symm
   simp[h,j,iW s t]
theorem kZ{α:Type}{d:α→ByteArray}{p:ByteArray→Bool}(s:ByteArray):∀l:List α,qg d p l s=match l.find? (fun x=>decide (d x=s))with|some _=>true|none=>p s
 | []=>rfl
 | x::t=>by
  simp only[qg,List.find?_cons]
  by_cases h:s=d x
  ·simp[h]
  ·have g:¬ d x=s:=fun e=>h e.symm
   simp[h,g,kZ s t]
theorem ki(len:Nat):(bI len len).reverse=List.finRange len:=by
 unfold bI;rw[List.take_of_length_le ξ,List.reverse_reverse]
theorem jd{α:Type}(l:List α)(p:α→Bool):l.find? p=((List.finRange l.length).find? (fun i=>p l[i])).map (fun i=>l[i]):=by
 have:l=(List.finRange l.length).map (fun i=>l[i]):=by
  apply List.ext_getElem
  ·simp
  ·intro i d g;simp
 conv=>lhs;rw[this]
 rw[List.find?_map];rfl
theorem nC(w:World)(d g h j:Obj):((((w.alloc d).alloc g).alloc h).alloc j).heap.size=w.heap.size+4∧((((w.alloc d).alloc g).alloc h).alloc j).heap[w.heap.size]?=some d∧((((w.alloc d).alloc g).alloc h).alloc j).heap[w.heap.size+1]?=some g ∧
 ((((w.alloc d).alloc g).alloc h).alloc j).heap[w.heap.size+1+1]?=some h∧((((w.alloc d).alloc g).alloc h).alloc j).heap[w.heap.size+1+1+1]?=some j∧Below w.heap.size w ((((w.alloc d).alloc g).alloc h).alloc j):=by
 have l:(w.alloc d).heap.size=w.heap.size+1:=ξ
 have q:((w.alloc d).alloc g).heap.size=w.heap.size+1+1:=ξ
 have u:(((w.alloc d).alloc g).alloc h).heap.size=w.heap.size+1+1+1:=ξ
 refine⟨ξ,?_,?_,?_,?_,?_⟩
 ·rw[Below.heap_alloc _ _ _ χ,Below.heap_alloc _ _ _ χ,Below.heap_alloc _ _ _ χ,heap_alloc_new]
 ·rw[Below.heap_alloc _ _ _ χ,Below.heap_alloc _ _ _ χ,←l,heap_alloc_new]
 ·rw[Below.heap_alloc _ _ _ χ,←q,heap_alloc_new]
 ·rw[←u,heap_alloc_new]
 ·exact((((Below.refl _ w).alloc (Γ _) _).alloc χ _).alloc χ _).alloc χ _
theorem mL{α σ:Type}[Inhabited σ]{B k:Nat}{R:World→Nat→Nat→α→Prop}{w:World}{A:Option Addr}{xs:List α}(row:α→σ→List Value)(Φ:α→σ→Prop)(v:∀b o x,R w b o x→∃s,aL w b o (row x s)∧Φ x s)(h:pX B k R w A xs):
 ∃q:Nat→σ,(0<xs.length→∃b off,A=some ⟨b,off,none⟩∧b<B∧∀j (d:j<xs.length),aL w b (off+j*k) (row xs[j] (q j)))∧∀i (hi:i<xs.length),Φ xs[i] (q i):=by
 rcases ϑ xs.length with E|g
 ·exact⟨fun _=>default,fun h=>χ,fun i hi=>χ⟩
 ·obtain⟨b,off,u,y,C⟩:=h g
  have l:∀j,∃s,∀d:j<xs.length,aL w b (off+j*k) (row xs[j] s)∧Φ xs[j] s:=fun j=>by
   by_cases d:j<xs.length
   ·obtain⟨s,D⟩:=v _ _ _ (C j xs[j] (Ez d))
    exact⟨s,fun _=>D⟩
   ·exact⟨default,fun h=>absurd h d⟩
  exact⟨fun j=>Classical.choose (l j),fun _=>⟨b,off,u,y,fun j d=>(Classical.choose_spec (l j) d).1⟩,fun i hi=>(Classical.choose_spec (l i) hi).2⟩
end
section
open Go.RowKit Go.IntWalk Ck
theorem Tryz.lawU:Go.Maps.Keyed Tryz.prog 41:=Go.Maps.int_keyed Tryz.underlying41
def upN(m:Ck.Map)(s:Nat):Nat:=(m.Q7+s-1) / 2097152+1-m.Q7 / 2097152
def PUp(m:Ck.Map)(y j:Nat):Prop:=∃i,i<j∧y=(m.Q7 / 2097152+i) / 512
def rn(m:Ck.Map)(big:Bool)(y j:Nat):Prop:=big=false∧∃i,i<j∧y=m.Q7 / 2097152+i
theorem qz{w:World}{m:Ck.Map}{x:jl}(hb:below m.Q7 x.size 549755813888=true)(hp:0<x.size)(b6:x.size≤67108864){u lo nu nl:Nat}{Su Sl:List Nat}(hu:da 41 w u nu Su)(hl:da 41 w lo nl Sl)(cb:nu≤140737488355000)(ca:nl≤140737488355000)(cc:u≠lo)
 {zm zx:Nat}(bm:w.heap[zm]?=some (.cells (Ck.Map.cells m).toArray 93 (0,0)))(V:w.heap[zx]?=some (.cells #[.int .u64 x.size,.bool x.big,.bool x.wx] 178 (0,0)))(cj:zm≠u∧zm≠lo∧zx≠u∧zx≠lo)(a:Act)(R:a.tmps.size=76)
 (h5:At a 5 (.map (some u)))(h6:At a 6 (.map (some lo)))(h8:At a 8 (.pointer (some ⟨zm,0,none⟩)))(h9:At a 9 (.pointer (some ⟨zx,0,none⟩)))(bt:At a 11 (.int .u64 (m.Q7 / 2097152:Nat)))(Q:Exit→Act→World→Prop)
 (hQ:∀C w' Su' Sl',aE (fun i=>i==11||(rg 48 68 i)) a C→da 41 w' u (nu+upN m x.size) Su'→da 41 w' lo (nl+upN m x.size) Sl'→(∀y,y∈Su'↔y∈Su∨PUp m y (upN m x.size))→(∀y,y∈Sl'↔y∈Sl∨rn m x.big y (upN m x.size))→aD (fun k=>k=u∨k=lo) w w'→Q .normal C w'):
 (ax Tryz.f66 [1,1,0,1,0,0,1,1,0,0,1,1,1,1,1]).wp Tryz.prog Q a w:=by
 obtain⟨b4,b5⟩:m.Q7≤549755813888∧x.size≤549755813888-m.Q7:=by
  unfold below at hb
  simpa using hb
 have b2:m.Q7 / 2097152≤(m.Q7+x.size-1) / 2097152:=χ
 have cd:upN m x.size≤34:=by unfold upN;omega
 conv=>arg 2;whnf
 refine qv (upN m x.size) (fun j C w'=>aE (fun i=>i==11||(rg 48 68 i)) a C∧At C 11 (.int .u64 ((m.Q7 / 2097152+j:Nat):Int))∧∃Su' Sl',da 41 w' u (nu+j) Su'∧da 41 w' lo (nl+j) Sl'∧(∀y,y∈Su'↔y∈Su∨PUp m y j)∧(∀y,y∈Sl'↔y∈Sl∨rn m x.big y j)∧aD (fun k=>k=u∨k=lo) w w')
  (fun j C w'=>aE (fun i=>i==11||(rg 48 68 i)) a C∧At C 11 (.int .u64 ((m.Q7 / 2097152+j:Nat):Int))∧∃Su' Sl',da 41 w' u (nu+(j+1)) Su'∧da 41 w' lo (nl+(j+1)) Sl'∧(∀y,y∈Su'↔y∈Su∨PUp m y (j+1))∧(∀y,y∈Sl'↔y∈Sl∨rn m x.big y (j+1))∧aD (fun k=>k=u∨k=lo) w w')
  (fun a=>match a.eval (.tmp 11)with|.int _ x=>x.toNat-m.Q7 / 2097152|_=>0) ⟨aE.refl _ _,bt,Su,Sl,hu,hl,fun y=>⟨.inl,fun h=>h.elim id fun⟨i,hi,_⟩=>χ⟩,fun y=>⟨.inl,fun h=>h.elim id fun⟨_,i,hi,_⟩=>χ⟩,aD.refl _ _⟩ ?_ ?_ ?_ ?_ ?_
 ·rintro k C w' ⟨E,hk,_⟩
  rw[hk.eval (by rw[E.size,R];decide)];show((m.Q7 / 2097152+k:Nat):Int).toNat-m.Q7 / 2097152=k;omega
 ·rintro k C w' a9 ⟨E,hk,g⟩
  have Z:=hh g;obtain⟨Su',Sl',_,_,_,_,hK⟩:=g;have k8:=E.Q7 h8 rfl;have k9:=E.Q7 h9 rfl;have l:=E.size.trans R;have q2:w'.cell? ⟨zm,2,none⟩=some (.int .u64 m.Q7):=cr ((hK.block zm (aH bm) χ).trans bm) rfl;have p0:w'.cell? ⟨zx,0,none⟩=some (.int .u64 x.size):=cr ((hK.block zx (aH V) χ).trans V) rfl;obtain⟨D,B⟩:∃D,D=m.Q7 / 2097152+k:=⟨_,rfl⟩;obtain⟨s,hs⟩:∃s,s=m.Q7+x.size:=⟨_,rfl⟩;obtain⟨s1,af⟩:∃s1,s1=m.Q7+x.size-1:=⟨_,rfl⟩;rw[←B]at hk;have e1:IntKind.u64.wrap ((m.Q7:Int)+(x.size:Int))=(s:Int):=by rw[hs,u64_in _ χ];omega
  have e2:IntKind.u64.wrap ((s:Int)-1)=(s1:Int):=by rw[af,hs,u64_in _ χ];omega
  have H:=hh B;have HS:=hh hs;have bs:=hh af;clear B hs af;obtain⟨T,d⟩:=C;refine rl ?_
  iterate 9 with_reducible refine st ?_
  with_reducible refine ln ?_
  refine⟨rfl,⟨?_,?_,?_⟩,?_⟩
  ·exact ag
  ·rw[←H.out]
   (repeat (first|with_reducible exact At.self|with_reducible apply At.ne));all_goals first|decide|with_reducible exact hk
  ·exact Z.out
  ·refine(At.eval At.self (by have:=l;simp at this⊢; omega)).trans ?_
   have X:=H.out;have h3:=bs.out
   congr 1
   exact decide_eq_decide.2 (by unfold upN;omega)
 ·rintro k C w' a9 ⟨E,hk,Su',Sl',al,ac,ad,O,hK⟩
  have k5:=E.Q7 h5 rfl;have k6:=E.Q7 h6 rfl;have k9:=E.Q7 h9 rfl;have l:=E.size.trans R;have U:=(hK.block zx (aH V) χ).trans V;obtain⟨D,B⟩:∃D,D=m.Q7 / 2097152+k:=⟨_,rfl⟩;obtain⟨q,hq⟩:∃q,q=D / 512:=⟨_,rfl⟩;rw[←B]at hk;have cf:D<2097152:=χ
  have b3:(D:Int) / 512=(q:Int):=χ
  have b0:q<lim:=by unfold lim;omega
  have bg:D<lim:=by unfold lim;omega
  have H:=hh B;have HQ:=hh hq;clear B hq;refine so (fun a1 w1=>aE (fun i=>(rg 48 68 i)) C a1∧da 41 w1 u (nu+(k+1)) (da.add Su' q)∧aD (fun k=>k=u) w' w1) ?_ ?_
  ·have HU:=hh al
   clear al ac ad O hK U;have a6:aE (fun i=>(rg 48 68 i)) C C:=aE.refl _ _;obtain⟨T,d⟩:=C;refine rl ?_
   iterate 4 with_reducible refine st ?_
   refine da.update rfl HU.out Tryz.lawU Tryz.underlying41 (by unfold maxLen;omega) rfl rfl Tryz.underlying211 (At.eval ar (by have:=l;simp at this⊢; omega)) (y:=q) (At.eval ar (by have:=l;simp at this⊢; omega)) b0 (At.eval ar (by have:=l;simp at this⊢; omega)) ?_;intro w2 b1 bx;refine ln ⟨rfl,?_,b1,bx⟩;simp only[Act.put];exact ag
  rintro a1 w1 ⟨I,be,N⟩;replace k6:=I.Q7 k6 rfl;replace k9:=I.Q7 k9 rfl;replace hk:=I.Q7 hk rfl;have bd:=I.size.trans l;have bc:=ac.keep N (by show ¬ lo=u;omega);have bl:=(N.block zx (aH U) (by show zx≠u;omega)).trans U;have p1:w1.cell? ⟨zx,1,none⟩=some (.bool x.big):=cr bl rfl;have a7:aD (fun k=>k=u∨k=lo) w w1:=hK.trans N (fun _ _ h =>.inl h);have bf:∀y,y∈da.add Su' q↔y∈Su∨PUp m y (k+1):=fun y=>by
   rw[da.mem_add,ad y];have X:=H.out;have h2:=HQ.out;constructor
   ·rintro(e|h|⟨i,hi,e⟩)
    ·exact .inr ⟨k,χ,by rw[e,h2,X]⟩
    ·exact .inl h
    ·exact .inr ⟨i,χ,e⟩
   ·rintro(h|⟨i,hi,e⟩)
    ·exact .inr (.inl h)
    ·rcases Ψ i k with h|h
     ·exact .inr (.inr ⟨i,h,e⟩)
     ·obtain rfl:i=k:=χ
      exact .inl (by rw[e,h2,X])
  have Y:∀y,(x.big=false→(y∈da.add Sl' D↔y∈Sl∨rn m x.big y (k+1)))∧(x.big=true→(y∈Sl'↔y∈Sl∨rn m x.big y (k+1))):=fun y=>by
   have X:=H.out;constructor
   ·intro v
    rw[da.mem_add,O y];constructor
    ·rintro(e|h|⟨bw,i,hi,e⟩)
     ·exact .inr ⟨v,k,χ,by rw[e,X]⟩
     ·exact .inl h
     ·exact .inr ⟨v,i,χ,e⟩
    ·rintro(h|⟨bw,i,hi,e⟩)
     ·exact .inr (.inl h)
     ·rcases Ψ i k with h|h
      ·exact .inr (.inr ⟨v,i,h,e⟩)
      ·obtain rfl:i=k:=χ
       exact .inl (by rw[e,X])
   ·intro v
    rw[O y];unfold rn;rw[v];simp
  have a5:=hh bf;have W:=hh Y;have a4:=hh be;have a3:=hh bc;have a0:=hh a7;have bp:Hid (aE (fun i=>i==11||(rg 48 68 i)) a a1):=E.t I;clear bf Y be bc a7 al ac ad O hK U E I N bl;refine so (fun a2 w2=>aE (fun i=>(rg 48 68 i)) a1 a2∧At a2 65 (.bool !x.big)∧w2=w1) ?_ ?_
  ·have a6:aE (fun i=>(rg 48 68 i)) a1 a1:=aE.refl _ _
   obtain⟨T,d⟩:=a1;refine rl ?_
   iterate 3 with_reducible refine st ?_
   refine ln ⟨rfl,ag,aq,rfl⟩
  rintro a2 w2 ⟨J,bo,rfl⟩;have L:=J.size.trans bd;replace k6:=J.Q7 k6 rfl;replace hk:=J.Q7 hk rfl;have bb:At a2 11 (.int .u64 ((m.Q7 / 2097152+k:Nat):Int)):=by rw[←H.out];exact hk
  have an:Hid (aE (fun i=>i==11||(rg 48 68 i)) a a2):=bp.out.t J;clear J;refine wp_cond_split (bo.eval χ) (fun v=>?_) (fun v=>?_)
  ·have K:x.big=false:=by simpa using v
   have a6:aE (fun i=>i==11||(rg 48 68 i)) a a2:=an.out;clear v bo;obtain⟨T,d⟩:=a2;refine rl ?_
   iterate 3 with_reducible refine st ?_
   refine da.update rfl a3.out Tryz.lawU Tryz.underlying41 (by unfold maxLen;omega) rfl rfl Tryz.underlying211 (At.eval ar (by have:=L;simp at this⊢; omega)) (y:=D) (At.eval ar (by have:=L;simp at this⊢; omega)) bg (At.eval ar (by have:=L;simp at this⊢; omega)) ?_;intro w3 bz a8;refine ln ?_;simp only[Act.put];refine⟨?_,?_,_,_,a4.out.keep a8 (by show ¬ u=lo;omega),bz,a5.out,fun y=>(W.out y).1 K,a0.out.trans a8 (fun _ _ h =>.inr h)⟩
   ·exact ag
   ·(repeat (first|with_reducible exact At.self|with_reducible apply At.ne));all_goals first|decide|with_reducible exact bb
  ·have K:x.big=true:=by simpa using v
   refine wp_skip ?_;exact⟨an.out,bb,_,_,a4.out,a3.out.mono χ,a5.out,fun y=>(W.out y).2 K,a0.out⟩
 ·rintro k C w' a9 ⟨E,hk,g⟩
  have l:=E.size.trans R;obtain⟨D,B⟩:∃D,D=m.Q7 / 2097152+k:=⟨_,rfl⟩;have e0:m.Q7 / 2097152+(k+1)=D+1:=χ
  rw[←B]at hk;have e1:IntKind.u64.wrap ((D:Int)+1)=(D:Int)+1:=u64_in _ χ;have HR:=hh g;clear g B;rw[e0];obtain⟨T,d⟩:=C;refine rl ?_
  iterate 3 with_reducible refine st ?_
  refine ln ⟨rfl,?_,?_,HR.out⟩
  ·exact ag
  ·have e2:((D+1:Nat):Int)=(D:Int)+1:=χ
   rw[e2];exact aq
 ·rintro C w' ⟨E,_,Su',Sl',X,h2,h3,h4,h5⟩
  exact hQ C w' Su' Sl' E X h2 h3 h4 h5
theorem nv(P:aF)(m:Ck.Map):dJ P m=((fC P m.of).isSome&&(decide ((aP P m.of).size≤67108864)&&below m.Q7 (aP P m.of).size 549755813888)):=by
 unfold dJ aP
 cases fC P m.of<;>simp
theorem t8{S L:List Nat}(g:S.Nodup)(h:∀y,y∈S↔y∈L):S.length=L.eraseDups.length:=by
 have j:=rW g (m:=L.eraseDups) (fun x d=>List.mem_eraseDups.2 ((h x).1 d));have l:=rW (pG L) (m:=S) (fun x d=>(h x).2 (List.mem_eraseDups.1 d));omega
theorem uL(P:aF)(l:List Ck.Map)(m:Ck.Map)(y:Nat):y∈eO P (l++[m])↔y∈eO P l∨(0<(aP P m.of).size∧PUp m y (upN m (aP P m.of).size)):=by
 unfold eO PUp upN ups;rw[List.flatMap_append,List.mem_append];refine or_congr Iff.rfl ?_;simp only[List.flatMap_cons,List.flatMap_nil,List.append_nil];split
 ·rename_i h;simp;omega
 ·rename_i h
  simp only[List.mem_map,List.mem_range];constructor
  ·rintro⟨z,⟨i,hi,rfl⟩,rfl⟩;exact⟨χ,i,hi,by rw[Nat.add_comm]⟩
  ·rintro⟨_,i,hi,rfl⟩;exact⟨_,⟨i,hi,rfl⟩,by rw[Nat.add_comm]⟩
theorem vL(P:aF)(l:List Ck.Map)(m:Ck.Map)(y:Nat):y∈eV P (l++[m])↔y∈eV P l∨(0<(aP P m.of).size∧rn m (aP P m.of).big y (upN m (aP P m.of).size)):=by
 unfold eV rn upN ups;rw[List.flatMap_append,List.mem_append];refine or_congr Iff.rfl ?_;simp only[List.flatMap_cons,List.flatMap_nil,List.append_nil];split
 ·rename_i h
  rcases h with h|h
  ·simp;omega
  ·simp[h]
 ·rename_i h
  have d:(aP P m.of).big=false:=by cases hb:(aP P m.of).big<;>simp_all
  have g:¬ (aP P m.of).size=0:=fun e=>h (.inl e)
  simp only[List.mem_map,List.mem_range];constructor
  ·rintro⟨i,hi,rfl⟩;exact⟨χ,d,i,hi,by rw[Nat.add_comm]⟩
  ·rintro⟨_,_,i,hi,rfl⟩;exact⟨i,hi,by rw[Nat.add_comm]⟩
theorem uR{B:Nat}{w:World}{P:aF}{A:Option Addr}{c:Nat}{l:List Ck.Map}(hs:aM B 5 eK w (.slice A l.length c) l)(hB:B≤w.heap.size){mb:Nat}(hm:gN w mb P)(ht:mb<w.heap.size)(fc:∀s,(aP P s).size<lim):
 Calls Tryz.prog 66 #[.slice A l.length c,.map (some mb)] w fun e w'=>e=.returned (.int .i64 (bP P l))∧Kz w w':=by
 obtain⟨_,_,e,hy,hn,hl⟩:=hs
 cases e
 unfold top at hn;have HM:=hh hm;have f4:=hh fc;have fy:=hh hl;clear hm fc hl;refine bL Tryz.func66 Tryz.ntmps66 rfl (by show 2≤76;decide) fun a e7 hd h=>?_
 have h0:At a 0 (.slice A l.length c):=h 0 _ rfl;have U:At a 1 (.map (some mb)):=h 1 _ rfl;clear h
 conv=>arg 2;whnf
 refine so (fun a1 w1=>aE (fun i=>i==4) a a1∧At a1 4 (.int .i64 (0:Nat))∧w1=w) ?_ ?_
 ·obtain⟨T,d⟩:=a
  refine rl ?_;with_reducible refine st ?_
  refine ln ⟨rfl,?_,?_,rfl⟩
  ·exact ag
  ·exact At.self
 rintro a1 w1 ⟨be,h4,rfl⟩;replace h0:=be.Q7 h0 rfl;replace U:=be.Q7 U rfl;have ca:=be.size.trans e7;have ei:=be.defers.trans hd;clear be e7 hd;refine so (fun a2 w2=>aE (fun i=>i==5||i==6||i==12||i==13) a1 a2∧At a2 5 (.map (some w1.heap.size))∧At a2 6 (.map (some (w1.heap.size+1)))∧w2=(w1.alloc (.map #[] 0)).alloc (.map #[] 0)) ?_ ?_
 ·have hv:=@run_makeMap Tryz.prog
  have al:aE (fun i=>i==5||i==6||i==12||i==13) a1 a1:=aE.refl _ _;obtain⟨T,d⟩:=a1;refine rl ?_
  iterate 4 with_reducible refine st ?_
  refine ln ⟨rfl,ag,aq,aq,rfl⟩
 rintro a2 w2 ⟨ad,h5,h6,bw⟩;replace h0:=ad.Q7 h0 rfl;replace U:=ad.Q7 U rfl;replace h4:=ad.Q7 h4 rfl;have cb:=ad.size.trans ca;have ej:=ad.defers.trans ei;obtain⟨u,Y⟩:∃u,u=w1.heap.size:=⟨_,rfl⟩;have s2:w2.heap.size=u+2:=by rw[bw,Y];simp
 have f1:w2.heap[u]?=some (.map #[] 0):=by rw[bw,Y,Below.heap_alloc _ _ _ ξ];exact heap_alloc_new _ _
 have f2:w2.heap[u+1]?=some (.map #[] 0):=by
  rw[bw,Y];have:=heap_alloc_new (w1.alloc (.map #[] 0)) (.map #[] 0)
  rwa[World.size_alloc]at this
 have eo:Kz w1 w2:=by rw[bw];exact((aD.refl _ _).alloc _).alloc _
 rw[←Y]at h5 h6;have hw:mb<u:=χ
 have he:B≤u:=χ
 have HU:=hh Y;clear bw ad ca ei Y;refine wp_seq (wp_seq (Code.wp_only (R:=fun a3 w3=>aE (fun i=>i==14||i==15||i==16) a2 a3∧At a3 14 (.slice A l.length c)∧At a3 15 (.int .i64 l.length)∧At a3 16 (.int .i64 0)∧w3=w2) ?_ ?_))
 ·have al:aE (fun i=>i==14||i==15||i==16) a2 a2:=aE.refl _ _
  obtain⟨T,d⟩:=a2;refine rl ?_
  iterate 3 with_reducible refine st ?_
  refine ln ⟨rfl,ag,aq,aq,aq,rfl⟩
 rintro a3 w3 ⟨W,g5,g4,g2,rfl⟩;replace U:=W.Q7 U rfl;replace h4:=W.Q7 h4 rfl;replace h5:=W.Q7 h5 rfl;replace h6:=W.Q7 h6 rfl;have cc:=W.size.trans cb;have en:=W.defers.trans ej;clear W cb ej h0;have cp:=hh eo;clear eo;refine bX l.length (fun i=>(rg 8 11 i)||(rg 16 69 i)) (fun i=>(rg 8 11 i)||(rg 18 68 i))
  (fun k _ w'=>∃nu nl Su Sl,da 41 w' u nu Su∧da 41 w' (u+1) nl Sl∧nu≤34*k∧nl≤34*k∧(∀y,y∈Su↔y∈eO P (l.take k))∧(∀y,y∈Sl↔y∈eV P (l.take k))∧(∀m∈l.take k,dJ P m=true)∧aD (fun k=>k=u∨k=u+1) w3 w') χ g2 g4 ψ rfl
  ζ χ ψ (fun k a1 a2 w V hI=>hI) ⟨0,0,[],[],da.new _ _ _ f1,da.new _ _ _ f2,Nat.zero_le _,Nat.zero_le _,by simp[eO],by simp[eV],ξ,aD.refl _ _⟩ ?_ ?_
 ·rintro n a4 wr gs V g3 ⟨nu,nl,Su,Sl,Y,hl,eu,es,bb,a0,an,hk⟩
  obtain⟨bl,off,rfl,gc,eg⟩:=fy.out χ;obtain⟨m,hx⟩:=ge gs;have cv:aD (fun k=>k=u∨k=u+1) w1 wr:=(cp.out.mono fun _ _ h=>h.elim:aD (fun k=>k=u∨k=u+1) w1 w3).trans hk (fun _ _ h=>h);obtain⟨hc,cf⟩:=(aI B _ _) _ _ _ _ _ (cv.below (B:=B) χ (fun _ hi e=>χ)) gc (eg n m hx);have q0:=hc.c0;have q1:=hc 1 _ rfl;have q2:=hc 2 _ rfl;have q3:=hc 3 _ rfl;have q4:=hc 4 _ rfl;have c9:=V.Q7 U rfl;have Z:=V.Q7 h4 rfl;have g:=V.Q7 h5 rfl;have v:=V.Q7 h6 rfl;have fi:=V.Q7 g5 rfl;have N:=V.size.trans cc;have cx:=V.defers.trans en;have g7:=hk.size;have g6:bl<wr.heap.size:=χ
  have hp:n≤c:=χ
  obtain⟨x,bc⟩:∃x,x=aP P m.of:=⟨_,rfl⟩;have g0:x.size<lim:=by rw[bc];exact f4.out _
  obtain⟨ok,bo⟩:∃b,b=(fC P m.of).isSome:=⟨_,rfl⟩;have b1:=aO hx;have f5:Hid (dJ P m=(ok&&(decide (x.size≤67108864)&&below m.Q7 x.size 549755813888))):=by rw[bo,bc];exact nv P m
  have ec:Hid (∀y,y∈eO P (l.take (n+1))↔y∈eO P (l.take n)∨(0<x.size∧PUp m y (upN m x.size))):=hh fun y=>by rw[b1,bc];exact uL P _ m y
  have d2:Hid (∀y,y∈eV P (l.take (n+1))↔y∈eV P (l.take n)∨(0<x.size∧rn m x.big y (upN m x.size))):=hh fun y=>by rw[b1,bc];exact vL P _ m y
  have ea:Hid (∀m'∈l.take (n+1),m'∈l.take n∨m'=m):=hh fun m' bz=>by rw[b1]at bz;simpa using bz
  have fz:Hid (m∈l):=hh (γ hx);have d7:Hid (∃nn,cV wr mb nn (.agg #[.int .u64 0,.bool false,.bool false]) (fun s=>yf (aP P s)) (fun s=>(fC P s).isSome)):=by
   obtain⟨nn,b0⟩:=HM.out;exact⟨nn,b0.keep cv (by show ¬ (mb=u∨mb=u+1);omega)⟩
  have cm:=hh Y;have cj:=hh hl;have d9:=hh bb;have d4:=hh a0;have d3:=hh an;have HK:=hh hk;have f7:=hh bc;have f0:=hh bo;have h2:=Y.lt;have hr:=hl.lt;clear hx eg hc V Y hl bb a0 an hk bc bo b1 cv;refine so (fun a5 w5=>aE (fun i=>i==18||i==19||i==8) a4 a5∧At a5 8 (.pointer (some ⟨wr.heap.size,0,none⟩))∧w5=wr.alloc (.cells #[.int .i64 m.pos,.string m.of,.int .u64 m.Q7,.bool m.write,.bool m.exec] 93)) ?_ ?_
  ·have al:aE (fun i=>i==18||i==19||i==8) a4 a4:=aE.refl _ _
   obtain⟨T,d⟩:=a4;refine rl ?_
   iterate 4 with_reducible refine st ?_
   refine ln ⟨rfl,ag,aq,rfl⟩
  rintro a5 w5 ⟨I,C,b2⟩;obtain⟨zm,b3⟩:∃z,z=wr.heap.size:=⟨_,rfl⟩;rw[←b3]at C;have fm:w5.heap[zm]?=some (.cells #[.int .i64 m.pos,.string m.of,.int .u64 m.Q7,.bool m.write,.bool m.exec] 93 (0,0)):=by rw[b2,b3];exact heap_alloc_new _ _
  have f3:Hid (w5.heap.size=wr.heap.size+1):=hh (by rw[b2];simp);have eq:Kz wr w5:=by rw[b2];exact(aD.refl _ _).alloc _
  have q1:w5.cell? ⟨zm,1,none⟩=some (.string m.of):=cr fm rfl;replace c9:=I.Q7 c9 rfl;replace Z:=I.Q7 Z rfl;replace g:=I.Q7 g rfl;replace v:=I.Q7 v rfl;have bp:=I.size.trans N;have gf:=I.defers.trans cx;have f9:=hh b3;have d0:=hh eq;have fp:Hid (aE (fun i=>(rg 8 11 i)||(rg 18 68 i)) a4 a5):=I.m;have FM:=hh fm;clear b2 I b3 eq q0 q2 q3 q4 g3 fi fm
  -- r5
  refine so (fun a6 w6=>aE (fun i=>i==9||i==10||(rg 20 26 i)) a5 a6∧At a6 9 (.pointer (some ⟨w5.heap.size,0,none⟩))∧At a6 10 (.bool ok)∧w6=w5.alloc (.cells #[.int .u64 x.size,.bool x.big,.bool x.wx] 178)) ?_ ?_
  ·have al:aE (fun i=>i==9||i==10||(rg 20 26 i)) a5 a5:=aE.refl _ _
   obtain⟨nn,b0⟩:=d7.out;have d8:=hh (b0.keep d0.out (fun h=>h));clear b0;have er:m.of.size≤maxLen:=Δ cf.2.2 (by unfold maxLen;omega);obtain⟨T,d⟩:=a5;refine rl ?_
   iterate 3 with_reducible refine st ?_
   refine cV.lookup_ok rfl d8.out rfl rfl Tryz.underlying133 wH (At.eval ar (by have:=bp;simp at this⊢; omega)) (At.eval ar (by have:=bp;simp at this⊢; omega)) er ?_;rw[←f7.out,←f0.out];simp only[Act.put,yf]
   iterate 6 with_reducible refine st ?_
   refine ln ⟨rfl,ag,aq,aq,rfl⟩
  rintro a6 w6 ⟨J,Q,g8,c5⟩;obtain⟨zx,c8⟩:∃z,z=w5.heap.size:=⟨_,rfl⟩;rw[←c8]at Q;have fx:w6.heap[zx]?=some (.cells #[.int .u64 x.size,.bool x.big,.bool x.wx] 178 (0,0)):=by rw[c5,c8];exact heap_alloc_new _ _
  have c3:Kz w5 w6:=by rw[c5];exact(aD.refl _ _).alloc _
  have cu:=(c3.block zm (aH FM.out) (fun h=>h)).trans FM.out;have L:Kz wr w6:=d0.out.trans c3 (fun _ _ h=>h);have q2:w6.cell? ⟨zm,2,none⟩=some (.int .u64 m.Q7):=cr cu rfl;have p0:w6.cell? ⟨zx,0,none⟩=some (.int .u64 x.size):=cr fx rfl;have HZ:Hid (zm≠u∧zm≠u+1∧zx≠u∧zx≠u+1):=hh (by have:=f9.out;have:=f3.out;omega);replace Z:=J.Q7 Z rfl;replace g:=J.Q7 g rfl;replace v:=J.Q7 v rfl;replace C:=J.Q7 C rfl;have e8:=J.size.trans bp;have gl:=J.defers.trans gf;have fr:Hid (aE (fun i=>(rg 8 11 i)||(rg 18 68 i)) a4 a6):=fp.out.t J;have g9:=hh L;have FX:=hh fx;have FM6:=hh cu;have eb:=hh (cm.out.keep L (fun h=>h));have d1:=hh (cj.out.keep L (fun h=>h));have bd:Hid (aD (fun k=>k=u∨k=u+1) w3 w6):=HK.out.trans L (fun _ _ h=>h.elim);clear c5 J c8 c3 fx cu q1 L c9 d7;obtain⟨gt,bx⟩:∃b,b=decide (67108864<x.size):=⟨_,rfl⟩;obtain⟨ed,ac⟩:∃b,b=below m.Q7 x.size 549755813888:=⟨_,rfl⟩;have fk:decide ((67108864:Int)<(x.size:Int))=gt:=by rw[bx];exact decide_eq_decide.2 χ
  have cw:=jx m.Q7 x.size 549755813888 w6 (by have:=cf.2.1;unfold lim at this;omega) (by unfold lim at g0;omega) ψ;rw[←ac]at cw;have dk:=hh cw;have b5:Hid (dJ P m=(ok&&(!gt&&ed))):=hh (by rw[f5.out,bx,ac];congr 2;rw[←decide_not];exact decide_eq_decide.2 χ);have dt:=hh bx;have ds:=hh ac;clear bx ac cw;refine wp_seq (wp_seq (Code.wp_only (R:=fun a7 w7=>aE (fun i=>(rg 27 41 i)) a6 a7∧At a7 41 (.bool (!dJ P m))∧w7=w6) ?_ ?_))
  ·have al:aE (fun i=>(rg 27 41 i)) a6 a6:=aE.refl _ _
   have h3:=aU;rw[b5.out];obtain⟨T,d⟩:=a6;refine rl ?_
   iterate 3 with_reducible refine st ?_
   cases ok
   ·iterate 12
     with_reducible refine st ?_
    refine ln ⟨rfl,?_,?_,rfl⟩
    ·exact ag
    ·first|(simp only[Bool.false_and,Bool.true_and,Bool.not_false,Bool.not_true,Bool.and_false];exact At.self)|(exact aq)
   ·iterate 5
     with_reducible refine st ?_
    cases gt
    ·iterate 4
      with_reducible refine st ?_
     with_reducible refine Lz (fun K hK=>?_)
     go_simp;refine dk.out.mono ?_;rintro e w7 ⟨rfl,rfl⟩;with_reducible refine hK _ _ ?_;clear hK K
     iterate 2 with_reducible refine st ?_
     refine ln ⟨rfl,?_,?_,rfl⟩
     ·exact ag
     ·first|(simp only[Bool.false_and,Bool.true_and,Bool.not_false,Bool.not_true,Bool.and_false];exact At.self)|(exact aq)
    ·iterate 7
      with_reducible refine st ?_
     refine ln ⟨rfl,?_,?_,rfl⟩
     ·exact ag
     ·first|(simp only[Bool.false_and,Bool.true_and,Bool.not_false,Bool.not_true,Bool.and_false];exact At.self)|(exact aq)
  rintro a7 w7 ⟨E,fe,rfl⟩;replace Z:=E.Q7 Z rfl;replace g:=E.Q7 g rfl;replace v:=E.Q7 v rfl;replace C:=E.Q7 C rfl;replace Q:=E.Q7 Q rfl;have bs:=E.size.trans e8;have gn:=E.defers.trans gl;have dc:Hid (aE (fun i=>(rg 8 11 i)||(rg 18 68 i)) a4 a7):=fr.out.t E;clear E;refine wp_cond_split (fe.eval χ) (fun b6=>?_) (fun bg=>?_)
  ·-- it ends with 0
   have gw:bP P l=0:=by
    unfold bP;rw[if_neg];intro h;have:=υ.1 h m fz.out;rw[this]at b6
    cases b6
   refine so (fun H w8=>H.tmps.size=76∧H.defers=[]∧At H 4 (.int .i64 (0:Nat))∧w8=w7) ?_ ?_
   ·obtain⟨T,d⟩:=a7
    refine rl ?_;with_reducible refine st ?_
    refine ln ⟨rfl,?_,gn,?_,rfl⟩
    ·have:=bs;simp at this⊢; omega
    ·exact At.self
   rintro H w8 ⟨O,cy,k4,rfl⟩;refine wp_ret ?_
   repeat (first|with_reducible apply bQ|with_reducible apply bY)
   refine br (t:=4) rfl k4 (by rw[O];decide) cy ?_;exact⟨by rw[gw],(cp.out.trans bd.out (fun i hi h=>by have:=HU.out;omega))⟩
  ·have bm:dJ P m=true:=by simpa using bg
   refine wp_skip ?_;have ez:(ok&&(!gt&&ed))=true:=by rw[←b5.out];exact bm
   simp only[Bool.and_eq_true,Bool.not_eq_true']at ez;obtain⟨gu,ew,ey⟩:=ez;have g1:x.size≤67108864:=by have U:=dt.out;rw[ew]at U;have:=of_decide_eq_false U.symm;omega
   have bf:below m.Q7 x.size 549755813888=true:=by rw[←ds.out];exact ey
   have b4:Hid (∀m'∈l.take (n+1),dJ P m'=true):=hh fun m' bz=>by
    rcases ea.out m' bz with h|rfl
    ·exact d3.out m' h
    ·exact bm
   clear bg gu ew ey ds dt fk fe bm d3 ea dk;obtain⟨ze,c7⟩:∃b,b=decide (x.size=0):=⟨_,rfl⟩;have fl:((x.size:Int)==0)=ze:=by rw[c7];exact eh _ 0
   have cs:=hh c7;clear c7;refine wp_seq (wp_seq (Code.wp_only (R:=fun H w8=>aE (fun i=>(rg 42 44 i)) a7 H∧At H 44 (.bool ze)∧w8=w7) ?_ ?_))
   ·have al:aE (fun i=>(rg 42 44 i)) a7 a7:=aE.refl _ _
    obtain⟨T,d⟩:=a7;refine rl ?_
    iterate 3 with_reducible refine st ?_
    refine ln ⟨rfl,ag,aq,rfl⟩
   rintro H w8 ⟨X,ff,rfl⟩;replace g:=X.Q7 g rfl;replace v:=X.Q7 v rfl;replace C:=X.Q7 C rfl;replace Q:=X.Q7 Q rfl;have O:=X.size.trans bs;have di:Hid (aE (fun i=>(rg 8 11 i)||(rg 18 68 i)) a4 H):=dc.out.t X;clear X bs dc Z;refine wp_cond_split (ff.eval χ) (fun hz=>?_) (fun hz=>?_)
   ·refine wp_exit ?_
    have fd:¬ 0<x.size:=by have U:=cs.out;rw[hz]at U;have:=of_decide_eq_true U.symm;omega
    repeat with_reducible apply eP
    simp only[bi,if_true];exact⟨di.out,nu,nl,Su,Sl,eb.out,d1.out,χ,χ,fun y=>by rw[ec.out y,d9.out y];exact⟨.inl,fun h=>h.elim id fun h=>absurd h.1 fd⟩,fun y=>by rw[d2.out y,d4.out y];exact⟨.inl,fun h=>h.elim id fun h=>absurd h.1 fd⟩,b4.out,bd.out⟩
   ·have c6:0<x.size:=by have U:=cs.out;rw[hz]at U;have:=of_decide_eq_false U.symm;omega
    refine wp_skip ?_;have gy:upN m x.size≤34:=by
     obtain⟨hj,ho⟩:m.Q7≤549755813888∧x.size≤549755813888-m.Q7:=by
      unfold below at bf
      simpa using bf
     unfold upN;omega
    obtain⟨q,hq⟩:∃q,q=m.Q7 / 2097152:=⟨_,rfl⟩;have hb:(m.Q7:Int) / 2097152=(q:Int):=χ
    have HQ:=hh hq;clear hz hq ff cs fl;refine so (fun a9 w9=>aE (fun i=>i==11||(rg 45 47 i)) H a9∧At a9 11 (.int .u64 q)∧w9=w8) ?_ ?_
    ·have al:aE (fun i=>i==11||(rg 45 47 i)) H H:=aE.refl _ _
     obtain⟨T,d⟩:=H;refine rl ?_
     iterate 4 with_reducible refine st ?_
     refine ln ⟨rfl,?_,?_,rfl⟩
     ·exact ag
     ·first|(simp only[Bool.false_and,Bool.true_and,Bool.not_false,Bool.not_true,Bool.and_false];exact At.self)|(exact aq)
    rintro a9 w9 ⟨af,cd,rfl⟩;replace g:=af.Q7 g rfl;replace v:=af.Q7 v rfl;replace C:=af.Q7 C rfl;replace Q:=af.Q7 Q rfl;have e9:=af.size.trans O;have fs:Hid (aE (fun i=>(rg 8 11 i)||(rg 18 68 i)) a4 a9):=di.out.t af;rw[HQ.out]at cd;obtain⟨z1,z2,z3,z4⟩:=HZ.out;refine qz bf c6 g1 eb.out d1.out χ χ χ (zm:=zm) (zx:=zx) FM6.out FX.out ⟨z1,z2,z3,z4⟩ a9 e9 g v C Q cd _ ?_;intro ha h7 Su' Sl' ee gx gr e6 e5 go;refine⟨fs.out.t ee,_,_,Su',Sl',gx,gr,χ,χ,fun y=>?_,fun y=>?_,b4.out,bd.out.trans go (fun _ _ h=>h)⟩
    ·rw[e6 y,ec.out y,d9.out y];exact or_congr Iff.rfl ⟨fun h=>⟨c6,h⟩,fun h=>h.2⟩
    ·rw[e5 y,d2.out y,d4.out y];exact or_congr Iff.rfl ⟨fun h=>⟨c6,h⟩,fun h=>h.2⟩
 ·rintro a4 w4 V ⟨nu,nl,Su,Sl,Y,hl,eu,es,bb,a0,an,hk⟩
  rw[List.take_length]at bb a0 an;replace h5:=V.Q7 h5 rfl;replace h6:=V.Q7 h6 rfl;have N:=V.size.trans cc;have cx:=V.defers.trans en;have cm:=hh Y;have cj:=hh hl;have hg:=Δ (by obtain⟨D,o1,_,o3,_⟩:=Y;rw[←o3];exact o1.size_le:Su.length≤nu) eu;have hf:=Δ (by obtain⟨D,o1,_,o3,_⟩:=hl;rw[←o3];exact o1.size_le:Sl.length≤nl) es;have bt:bP P l=1+Su.length+Sl.length:=by
   unfold bP;rw[if_pos (υ.2 an),t8 (by obtain⟨D,_,o2,_⟩:=Y;exact o2) bb,t8 (by obtain⟨D,_,o2,_⟩:=hl;exact o2) a0]
  have e1:IntKind.i64.wrap ((1:Int)+(Su.length:Int))=((1+Su.length:Nat):Int):=by rw[i64_in _ χ];omega
  obtain⟨s1,e0⟩:∃s,s=1+Su.length:=⟨_,rfl⟩;rw[←e0]at e1 bt;have e2:IntKind.i64.wrap ((s1:Int)+(Sl.length:Int))=((bP P l:Nat):Int):=by rw[bt,i64_in _ χ];omega
  obtain⟨tt,c4⟩:∃t,t=bP P l:=⟨_,rfl⟩;rw[←c4]at e2;have f6:=hh c4;have fv:Hid (Kz w1 w4):=hh (cp.out.trans hk (fun i hi h=>by have:=HU.out;omega));clear bt e0 c4 Y hl bb a0 an hk V;refine so (fun H w8=>H.tmps.size=76∧H.defers=[]∧At H 4 (.int .i64 tt)∧w8=w4) ?_ ?_
  ·obtain⟨T,d⟩:=a4
   refine rl ?_;with_reducible refine st ?_
   refine da.len rfl cm.out rfl rfl Tryz.underlying211 (At.eval ar (by have:=N;simp at this⊢; omega)) ?_;simp only[Act.put]
   iterate 2 with_reducible refine st ?_
   refine da.len rfl cj.out rfl rfl Tryz.underlying211 (At.eval ar (by have:=N;simp at this⊢; omega)) ?_;simp only[Act.put]
   iterate 2 with_reducible refine st ?_
   refine ln ⟨rfl,?_,cx,?_,rfl⟩
   ·have:=N;simp at this⊢; omega
   ·exact At.self
  rintro H w8 ⟨O,cy,k4,rfl⟩;refine wp_ret ?_
  repeat (first|with_reducible apply bQ|with_reducible apply bY)
  refine br (t:=4) rfl k4 (by rw[O];decide) cy ?_;exact⟨by rw[f6.out],fv.out⟩
open Go.Shelf
attribute [local go_sem] Oper.semAt_some
abbrev zT:Value := .agg #[.int .u64 0,.bool false,.bool false]
def CW(P:aF)(l:List (Fin P.Q5.length)):ByteArray→Value:=qi (fun i=>P.Q5[i].name) (fun i =>.agg #[.int .u64 (P.Q5[i].size:Nat),.bool false,.bool false]) (fun _=>zT) l
def CV(P:aF)(l:List (Fin P.Q5.length)):ByteArray→Bool:=qg (fun i=>P.Q5[i].name) (fun _=>false) l
def Bl(P:aF)(l:List (Fin P.Q3.length)):ByteArray→Value:=qi (fun i=>P.Q3[i].name) (fun i =>.agg #[.int .u64 (P.Q3[i].size:Nat),.bool P.Q3[i].big,.bool P.Q3[i].wx]) (CW P (List.finRange _)) l
def Bk(P:aF)(l:List (Fin P.Q3.length)):ByteArray→Bool:=qg (fun i=>P.Q3[i].name) (CV P (List.finRange _)) l
theorem B3(P:aF)(s:ByteArray):CW P (List.finRange _) s=match P.Q5.find? (fun x=>decide (x.name=s))with|some x =>.agg #[.int .u64 (x.size:Nat),.bool false,.bool false]|none=>zT:=by
 unfold CW;rw[iW,jd P.Q5]
 cases(List.finRange P.Q5.length).find? fun i=>decide (P.Q5[i].name=s)<;>rfl
theorem B1(P:aF)(s:ByteArray):CV P (List.finRange _) s=(P.Q5.find? (fun x=>decide (x.name=s))).isSome:=by
 unfold CV;rw[kZ,jd P.Q5]
 cases(List.finRange P.Q5.length).find? fun i=>decide (P.Q5[i].name=s)<;>rfl
theorem zo(P:aF)(s:ByteArray):Bl P (List.finRange _) s=yf (aP P s):=by
 unfold Bl aP fC;rw[iW,jd P.Q3,B3]
 cases(List.finRange P.Q3.length).find? fun i=>decide (P.Q3[i].name=s)with
 | some i=>rfl
 | none =>
  simp only[Option.map_none]
  cases P.Q5.find? fun x=>decide (x.name=s)<;>rfl
theorem zl(P:aF)(s:ByteArray):Bk P (List.finRange _) s=(fC P s).isSome:=by
 unfold Bk fC;rw[kZ,jd P.Q3,B1]
 cases(List.finRange P.Q3.length).find? fun i=>decide (P.Q3[i].name=s)with
 | some i=>rfl
 | none =>
  simp only[Option.map_none]
  cases P.Q5.find? fun x=>decide (x.name=s)<;>rfl
theorem ns:pV:=by
 intro B w v P hp hB;obtain⟨A_rams,a1,ca,c4,dc,c7⟩:=hp.QD;obtain⟨A_devices,q,ad,bo,bz,Z⟩:=hp.Q5;obtain⟨A_regions,g,an,bt,b5,ac⟩:=hp.Q3;obtain⟨A_subjects,E,X,bb,bl,be⟩:=hp.Q4;obtain⟨A_channels,y,U,a8,bf,bc⟩:=hp.Q8;obtain⟨A_irqs,a0,b6,c3,c9,c6⟩:=hp.QM;obtain⟨A_queues,L,a4,cb,cj,cd⟩:=hp.QB;obtain⟨A_plans,Q,a7,cv,cx,cw⟩:=hp.Q9;obtain⟨A_masters,J,al,bs,b4,bx⟩:=hp.QC;obtain⟨A_starts,O,a5,cc,cp,cf⟩:=hp.QI;obtain⟨A_monitors,C,V,a9,bg,bd⟩:=hp.QE;obtain⟨A_forbids,I,af,bp,b1,bw⟩:=hp.QG;have e0:(v.cells P).toArray = #[.int .i64 P.pos,.string P.name,.slice A_rams P.QD.length a1,.slice A_devices P.Q5.length q,.slice A_regions P.Q3.length g,.slice A_subjects P.Q4.length E,.slice A_channels P.Q8.length y,.slice A_irqs P.QM.length a0,.slice A_queues P.QB.length L,.slice A_plans P.Q9.length Q,.slice A_masters P.QC.length J,.slice A_starts P.QI.length O,.slice A_monitors P.QE.length C,.slice A_forbids P.QG.length I]:=by
  rw[←ca,←ad,←an,←X,←U,←b6,←a4,←a7,←al,←a5,←V,←af];rfl
 rw[e0];unfold top at bz b5;have d0:=hh Z;have cu:=hh ac;clear e0 hp ca ad an X U b6 a4 a7 al a5 V af c7 Z ac be bc c6 cd cw bx cf bd bw c4 bb a8 c3 cb cv bs cc a9 bp dc bl bf c9 cj cx b4 cp bg b1;refine(callsIn_wide (n:=9)).1 ?_;refine callsIn_of_wp_marks Tryz.func65 rfl trivial ?_;simp only[Tryz.ntmps65,List.size_toArray,List.length_cons,List.length_nil,Nat.reduceAdd,Nat.reduceSub,Array.replicate_succ,Array.replicate_zero,List.push_toArray,List.append_toArray,List.nil_append,List.cons_append];have e5:=@run_makeMap Tryz.prog
 gi_wp2
 refine⟨trivial,?_⟩;refine(pO Fence.wide 8 trivial rfl _ _ _ _).mono ?_;rintro e w' ⟨rfl,rfl⟩
 gi_wp2
 obtain⟨W0,ee⟩:∃W0,W0=(((w.alloc (.cells #[.int .i64 P.pos,.string P.name,.slice A_rams P.QD.length a1,.slice A_devices P.Q5.length q,.slice A_regions P.Q3.length g,.slice A_subjects P.Q4.length E,.slice A_channels P.Q8.length y,.slice A_irqs P.QM.length a0,.slice A_queues P.QB.length L,.slice A_plans P.Q9.length Q,.slice A_masters P.QC.length J,.slice A_starts P.QI.length O,.slice A_monitors P.QE.length C,.slice A_forbids P.QG.length I] 33)).alloc (.map #[] 0)).alloc (.cells #[.map (some (w.heap.size+1))] 133)).alloc (.cells #[.slice A_devices P.Q5.length q] 23):=⟨_,rfl⟩;have hf:=nC w (.cells #[.int .i64 P.pos,.string P.name,.slice A_rams P.QD.length a1,.slice A_devices P.Q5.length q,.slice A_regions P.Q3.length g,.slice A_subjects P.Q4.length E,.slice A_channels P.Q8.length y,.slice A_irqs P.QM.length a0,.slice A_queues P.QB.length L,.slice A_plans P.Q9.length Q,.slice A_masters P.QC.length J,.slice A_starts P.QI.length O,.slice A_monitors P.QE.length C,.slice A_forbids P.QG.length I] 33) (.map #[] 0) (.cells #[.map (some (w.heap.size+1))] 133) (.cells #[.slice A_devices P.Q5.length q] 23);rw[←ee]at hf⊢;obtain⟨s0,b0,m0,b2,b3,hb⟩:=hf;clear ee;obtain⟨sf,bm,R⟩:=mL (σ:=Option Addr×Nat) (fun(x:Ck.bR) s=>[.int .i64 x.pos,.string x.name,.int .u64 x.Q7,.int .u64 x.size,.slice s.1 x.QA.length s.2]) (fun x _=>aV x.name) (fun b o x hx=>by
  obtain⟨u,hc,⟨Am,cm,rfl,_⟩,_,_,_,hs⟩:=hx;exact⟨(Am,cm),hc,hs⟩) d0.out
 obtain⟨vs,a6⟩:∃vs:Nat→Nat→Value,vs=fun j c=>if h:j<P.Q5.length then([.int .i64 P.Q5[j].pos,.string P.Q5[j].name,.int .u64 P.Q5[j].Q7,.int .u64 P.Q5[j].size,.slice (sf j).1 P.Q5[j].QA.length (sf j).2]:List Value).getD c undef else undef:=⟨_,rfl⟩
 have hA:0<P.Q5.length→∃b off,A_devices=some ⟨b,off,none⟩∧b<w.heap.size+4∧b≠w.heap.size+1∧∀j c,j<P.Q5.length→c<5→W0.cell? ⟨b,off+j*5+c,none⟩=some (vs j c):=fun di=>by
  obtain⟨b,off,h1,Y,h3⟩:=bm di;refine⟨b,off,h1,χ,χ,fun j c hj hc=>?_⟩;rw[a6];simp only[dif_pos hj];refine(h3 j hj).below hb χ c _ ?_
  match c,hc with
  | 0,_=>rfl
  | 1,_=>rfl
  | 2,_=>rfl
  | 3,_=>rfl
  | 4,_=>rfl
 have a3:=qE Fence.wide 8 trivial rfl ψ (w.heap.size+1+1+1) (w.heap.size+1) (w.heap.size+4) P.Q5.length q A_devices vs χ bo ⟨χ,χ⟩ W0 χ (cell_of_one b3) hA;rw[show(fun x:Fin P.Q5.length=>(#[.int .i64 (x.val:Int),.agg #[vs x.val 0,vs x.val 1,vs x.val 2,vs x.val 3,vs x.val 4]]:Array Value))=fun x =>#[.int .i64 (x.val:Int),.agg #[.int .i64 P.Q5[x.val].pos,.string P.Q5[x.val].name,.int .u64 P.Q5[x.val].Q7,.int .u64 P.Q5[x.val].size,.slice (sf x.val).1 P.Q5[x.val].QA.length (sf x.val).2]] from by
  funext x
  rw[a6];simp only[dif_pos x.isLt];rfl]at a3
 refine wpIn_rangeFunc_ownH (F:=Fence.wide) (n:=9) rfl ψ (gf:=138) (lb := #[.pointer (some ⟨w.heap.size+1+1+1,0,none⟩)]) rfl trivial (enters_of Tryz.func138 δ rfl)
  a3 lI (wZ χ) (Below.refl _ _) (fun _=>rfl)
  (fun H W=>(cV W (w.heap.size+1) H.length zT (CW P H.reverse) (CV P H.reverse)∧W.heap[w.heap.size+1+1]?=some (.cells #[.map (some (w.heap.size+1))] 133 (0,0))∧W.heap[w.heap.size]?=some (.cells #[.int .i64 P.pos,.string P.name,.slice A_rams P.QD.length a1,.slice A_devices P.Q5.length q,.slice A_regions P.Q3.length g,.slice A_subjects P.Q4.length E,.slice A_channels P.Q8.length y,.slice A_irqs P.QM.length a0,.slice A_queues P.QB.length L,.slice A_plans P.Q9.length Q,.slice A_masters P.QC.length J,.slice A_starts P.QI.length O,.slice A_monitors P.QE.length C,.slice A_forbids P.QG.length I] 33 (0,0)))∧Below w.heap.size w W)
  (fun _ _ _=>False)
  (OwnFrom.and (OwnFrom.and (fun s A B row hs hg hr=>cV.own hs hg (fun r e=>(hr r e).1) χ) (OwnFrom.and (Own.from (cq _ _ _ _) _) (Own.from (cq _ _ _ _) _))) (ownFrom_below (Γ _) χ))
  (fun _ _ _ _ _ hs _ _=>hs)
  ⟨⟨cV.new _ _ _ m0,b2,b0⟩,hb⟩
  (fun x (a':Act) (W:World)=>∃Bx:Nat,W.heap[Bx]?=some (Obj.cells #[.int .i64 P.Q5[x.val].pos,.string P.Q5[x.val].name,.int .u64 P.Q5[x.val].Q7,.int .u64 P.Q5[x.val].size,.slice (sf x.val).1 P.Q5[x.val].QA.length (sf x.val).2] 65 (0,0))∧a'.tmps.size=36∧At a' 3 (.pointer (some ⟨w.heap.size+1+1,0,none⟩))∧At a' 5 (.pointer (some ⟨Bx,0,none⟩)))
  (fun x a' s A B row hs hg hr=>by
   obtain⟨Bx,Y,h3⟩:=hs;exact⟨Bx,iC Y hg (fun r e=>(hr r e).2),h3⟩)
  ?assign ?body ?done ?stop
 case assign =>
  rintro l H x W K ⟨⟨hS,Y,h0⟩,hB⟩ hK;have c8:=aH Y;clear a3 hA R bm a6 d0 cu
  gi_wp2
  exact hK _ _ ((KeepsOthers.alloc _ _).from _) ((aD.refl _ _).alloc _) ⟨⟨hS.keep (((aD.refl (fun _=>False) _).alloc _)) (fun h=>h),(Below.heap_alloc _ _ _ c8).trans Y,(Below.heap_alloc _ _ _ (aH h0)).trans h0⟩,hB.alloc hB.size _⟩ ⟨W.heap.size,heap_alloc_new _ _,rfl,fun _=>rfl,fun _=>rfl⟩
 case body =>
  rintro l H x a' W hl _ ⟨⟨hS,Y,h0⟩,hB⟩ ⟨Bx,hX,cs,k3,k5⟩ es;have q1:W.cell? ⟨Bx,1,none⟩=some (.string P.Q5[x.val].name):=cr hX rfl;have q3:W.cell? ⟨Bx,3,none⟩=some (.int .u64 P.Q5[x.val].size):=cr hX rfl;have qm:=cell_of_one Y;have dk:=R x.val x.isLt;have HS:=hh hS;have H2:=hh Y;have H0:=hh h0;have HB:=hh hB;have d3:Hid (aV P.Q5[x.val].name):=hh dk;clear hS Y h0 hB hX a3 hA R bm a6 d0 cu dk;obtain⟨T,d⟩:=a';refine wpIn_block (wpIn_region_lit ?_)
  iterate 6
   with_reducible refine wpListIn_step (fun K hK=>?_)
   go_simp;with_reducible refine hK _ _ ?_;clear hK K
  refine cV.updateIn rfl HS.out (by unfold maxLen;omega) rfl rfl Tryz.underlying133 (At.eval (by exact aq) (by have:=cs;simp at this⊢; omega)) (At.eval (by exact aq) (by have:=cs;simp at this⊢; omega)) (Δ d3.out (by unfold maxLen;omega)) (At.eval (by exact aq) (by have:=cs;simp at this⊢; omega)) ?_;intro w2 d4 a2;refine wpListIn_nil ?_;have e1:(H++[x]).reverse=x::H.reverse:=ξ
  have e2:(H++[x]).length=H.length+1:=ξ
  refine⟨iX a2 χ,a2.mono fun _ _ h =>.inl h,⟨?_,(a2.block _ (aH H2.out) (by show _≠_;omega)).trans H2.out,(a2.block _ (aH H0.out) (by show _≠_;omega)).trans H0.out⟩,HB.out.trans (a2.below HB.out.size fun i hi e=>χ)⟩;rw[e1,e2];exact d4
 case done =>
  rintro D ys W hD rfl ⟨⟨hS,Y,h0⟩,hB⟩ hK;rw[ki,io (Γ _)]at hS;have q4:W.cell? ⟨w.heap.size,4,none⟩=some (.slice A_regions P.Q3.length g):=cr h0 rfl;have HS:=hh hS;have H2:=hh Y;have H0:=hh h0;have HB:=hh hB;have dt:=hh hK;have eo:=aH hK;clear hS Y h0 hB a3 hA R bm a6 d0 hK
  gi_wp2
  refine⟨trivial,?_⟩;refine(pN Fence.wide 8 trivial rfl _ _ _ _).mono ?_;rintro e w' ⟨rfl,rfl⟩
  gi_wp2
  have eg:Hid (KeepsFrom 0 W W):=hh (KeepsFrom.refl _ _);obtain⟨W1,cy⟩:∃W1,W1=W.alloc (.cells #[.slice A_regions P.Q3.length g] 24):=⟨_,rfl⟩;have s1:W1.heap.size=W.heap.size+1:=by rw[cy];simp
  have er:W1.heap[W.heap.size]?=some (.cells #[.slice A_regions P.Q3.length g] 24 (0,0)):=by rw[cy];exact heap_alloc_new _ _
  have c5:Kz W W1:=by rw[cy];exact(aD.refl _ _).alloc _
  rw[←cy];clear cy eg;have ec:Below w.heap.size w W1:=HB.out.trans (c5.below HB.out.size fun _ _ h=>h);have ew:=HB.out.size;have eq:=HS.out.keep c5 (fun h=>h);have ei:=(c5.block _ (aH H2.out) (fun h=>h)).trans H2.out;have en:=(c5.block _ eo (fun h=>h)).trans dt.out;have eu:=HS.out.lt;have ey:=aH H2.out;clear c5;obtain⟨sf,bm,R⟩:=mL (σ:=Unit) (fun(x:Ck.Region) _=>Ck.Region.cells x) (fun x _=>aV x.name) (fun b o x hx=>⟨(),hx.1,hx.2.2.2.2.2.1⟩) cu.out;obtain⟨vs,a6⟩:∃vs:Nat→Nat→Value,vs=fun j c=>if h:j<P.Q3.length then(Ck.Region.cells P.Q3[j]).getD c undef else undef:=⟨_,rfl⟩
  have hA:0<P.Q3.length→∃b off,A_regions=some ⟨b,off,none⟩∧b<W.heap.size+1∧b≠w.heap.size+1∧∀j c,j<P.Q3.length→c<10→W1.cell? ⟨b,off+j*10+c,none⟩=some (vs j c):=fun di=>by
   obtain⟨b,off,h1,Y,h3⟩:=bm di;refine⟨b,off,h1,χ,χ,fun j c hj hc=>?_⟩;rw[a6];simp only[dif_pos hj];refine(h3 j hj).below ec χ c _ ?_
   match c,hc with
   | 0,_=>rfl
   | 1,_=>rfl
   | 2,_=>rfl
   | 3,_=>rfl
   | 4,_=>rfl
   | 5,_=>rfl
   | 6,_=>rfl
   | 7,_=>rfl
   | 8,_=>rfl
   | 9,_=>rfl
  have a3:=qD Fence.wide 8 trivial rfl ψ W.heap.size (w.heap.size+1) (W.heap.size+1) P.Q3.length g A_regions vs χ bt ⟨χ,χ⟩ W1 χ (cell_of_one er) hA;rw[show(fun x:Fin P.Q3.length=>(#[.int .i64 (x.val:Int),.agg #[vs x.val 0,vs x.val 1,vs x.val 2,vs x.val 3,vs x.val 4,vs x.val 5,vs x.val 6,vs x.val 7,vs x.val 8,vs x.val 9]]:Array Value))=fun x =>#[.int .i64 (x.val:Int),.agg #[.int .i64 P.Q3[x.val].pos,.string P.Q3[x.val].name,.int .u64 P.Q3[x.val].size,.bool P.Q3[x.val].fixed,.int .u64 P.Q3[x.val].Q7,.bool P.Q3[x.val].big,.bool P.Q3[x.val].wx,.int .u64 P.Q3[x.val].fill,.bool P.Q3[x.val].QQ,.string P.Q3[x.val].text]] from by
   funext x
   rw[a6];simp only[dif_pos x.isLt];rfl]at a3
  refine wpIn_rangeFunc_ownH (F:=Fence.wide) (n:=9) rfl ψ (gf:=139) (lb := #[.pointer (some ⟨W.heap.size,0,none⟩)]) rfl trivial (enters_of Tryz.func139 δ rfl)
   a3 lI (wZ χ) (Below.refl _ _) (fun _=>rfl)
   (fun H W=>(cV W (w.heap.size+1) (P.Q5.length+H.length) zT (Bl P H.reverse) (Bk P H.reverse)∧W.heap[w.heap.size+1+1]?=some (.cells #[.map (some (w.heap.size+1))] 133 (0,0))∧W.heap[D]?=some (.deferred (some [])))∧Below w.heap.size w W)
   (fun _ _ _=>False)
   (OwnFrom.and (OwnFrom.and (fun s A B row hs hg hr=>cV.own hs hg (fun r e=>(hr r e).1) χ) (OwnFrom.and (Own.from (cq _ _ _ _) _) (fun s A B row hs hg hr=>(hg.block D (aH hs) (fun e=>by have:=(hr D e.symm).1;omega)).trans hs))) (ownFrom_below (Γ _) χ))
   (fun _ _ _ _ _ hs _ _=>hs)
   ⟨⟨eq,ei,en⟩,ec⟩
   (fun x (a':Act) (W:World)=>∃Bx:Nat,W.heap[Bx]?=some (Obj.cells #[.int .i64 P.Q3[x.val].pos,.string P.Q3[x.val].name,.int .u64 P.Q3[x.val].size,.bool P.Q3[x.val].fixed,.int .u64 P.Q3[x.val].Q7,.bool P.Q3[x.val].big,.bool P.Q3[x.val].wx,.int .u64 P.Q3[x.val].fill,.bool P.Q3[x.val].QQ,.string P.Q3[x.val].text] 53 (0,0))∧a'.tmps.size=36∧At a' 3 (.pointer (some ⟨w.heap.size+1+1,0,none⟩))∧At a' 7 (.pointer (some ⟨Bx,0,none⟩)))
   (fun x a' s A B row hs hg hr=>by
    obtain⟨Bx,Y,h3⟩:=hs;exact⟨Bx,iC Y hg (fun r e=>(hr r e).2),h3⟩)
   ?assign2 ?body2 ?done2 ?stop2
  case assign2 =>
   rintro l H x W K ⟨⟨hS,Y,h0⟩,hB⟩ hK;have c8:=aH Y;clear a3 hA R bm a6 cu HS H2 H0 HB dt
   gi_wp2
   exact hK _ _ ((KeepsOthers.alloc _ _).from _) ((aD.refl _ _).alloc _) ⟨⟨hS.keep (((aD.refl (fun _=>False) _).alloc _)) (fun h=>h),(Below.heap_alloc _ _ _ c8).trans Y,(Below.heap_alloc _ _ _ (aH h0)).trans h0⟩,hB.alloc hB.size _⟩ ⟨W.heap.size,heap_alloc_new _ _,rfl,fun _=>rfl,fun _=>rfl⟩
  case body2 =>
   rintro l H x a' W hl _ ⟨⟨hS,Y,h0⟩,hB⟩ ⟨Bx,hX,cs,k3,k7⟩ es;have q1:W.cell? ⟨Bx,1,none⟩=some (.string P.Q3[x.val].name):=cr hX rfl;have q2:W.cell? ⟨Bx,2,none⟩=some (.int .u64 P.Q3[x.val].size):=cr hX rfl;have q5:W.cell? ⟨Bx,5,none⟩=some (.bool P.Q3[x.val].big):=cr hX rfl;have q6:W.cell? ⟨Bx,6,none⟩=some (.bool P.Q3[x.val].wx):=cr hX rfl;have qm:=cell_of_one Y;have dk:=R x.val x.isLt;have d2:=hh hS;have d9:=hh Y;have d8:=hh h0;have ds:=hh hB;have d3:Hid (aV P.Q3[x.val].name):=hh dk;clear hS Y h0 hB hX a3 hA R bm a6 cu dk HS H2 H0 HB dt;obtain⟨T,d⟩:=a';refine wpIn_block (wpIn_region_lit ?_)
   iterate 10
    with_reducible refine wpListIn_step (fun K hK=>?_)
    go_simp;with_reducible refine hK _ _ ?_;clear hK K
   refine cV.updateIn rfl d2.out (by unfold maxLen;omega) rfl rfl Tryz.underlying133 (At.eval (by exact aq) (by have:=cs;simp at this⊢; omega)) (At.eval (by exact aq) (by have:=cs;simp at this⊢; omega)) (Δ d3.out (by unfold maxLen;omega)) (At.eval (by exact aq) (by have:=cs;simp at this⊢; omega)) ?_;intro w2 d4 a2;refine wpListIn_nil ?_;have e1:(H++[x]).reverse=x::H.reverse:=ξ
   have e2:P.Q5.length+(H++[x]).length=P.Q5.length+H.length+1:=η
   refine⟨iX a2 χ,a2.mono fun _ _ h =>.inl h,⟨?_,(a2.block _ (aH d9.out) (by show _≠_;omega)).trans d9.out,(a2.block _ (aH d8.out) (by show _≠_;omega)).trans d8.out⟩,ds.out.trans (a2.below ds.out.size fun i hi e=>χ)⟩;rw[e1,e2];exact d4
  case done2 =>
   rintro D2 ys W2 ez rfl ⟨⟨hS,Y,ed⟩,hB⟩ hK;rw[ki]at hS;have qm:=cell_of_one Y;have d2:=hh hS;have ds:=hh hB;have ea:=hh ed;have eb:=hh hK;clear hS Y ed hB hK a3 hA R bm a6 cu HS H2 H0 HB dt
   gi_wp2
   have e2:D2≠D:=χ
   have d1:(W2.putObj D2 (.deferred none)).heap[D]?=some (.deferred (some [])):=((grownBy_putObj' W2 D2 (.deferred none)).block D (aH ea.out) (fun e=>e2 (by cases e;rfl))).trans ea.out;refine⟨ξ,.inl ⟨_,_,rfl,run_takeDeferred eb.out,?_⟩⟩;refine⟨ξ,.inl ⟨_,_,rfl,run_takeDeferred d1,?_⟩⟩;have ej:Below w.heap.size w ((W2.putObj D2 (.deferred none)).putObj D (.deferred none)):=(ds.out.trans (belowK_b (w:=w) (Γ _) W2 D2 _ (.deferred none) χ eb.out rfl rfl)).trans (belowK_b (w:=w) (Γ _) _ D _ (.deferred none) χ d1 rfl rfl);have d7:=(d2.out.own (N:=w.heap.size+2) (grownBy_putObj' W2 D2 (.deferred none)) (fun r e=>by cases e;omega) χ).own (N:=w.heap.size+2) (grownBy_putObj' _ D (.deferred none)) (fun r e=>by cases e;omega) χ;have f1:Bl P (List.finRange _)=fun s=>yf (aP P s):=funext fun s=>zo P s
   have f2:Bk P (List.finRange _)=fun s=>(fC P s).isSome:=funext fun s=>zl P s
   rw[f1,f2]at d7;exact⟨_,results_tmp rfl _ _ _,w.heap.size+1,rfl,χ,d7.lt,⟨_,d7⟩,aD.of_below ej fun i h1 Y=>χ⟩
  case stop2 =>
   rintro D c H W _ _ h _;exact h.elim
 case stop =>
  rintro D c H W _ _ h _;exact h.elim
end
section
open Go.RowKit Go.IntWalk Ck
variable {e:Int} {B pb:Nat} {w:World} {L:List Wr}
theorem ua(M:Nat)(r:Run)(d:Bool):Ln.right M r d=0∨Ln.right M r d=90∨Ln.right M r d=80∨Ln.right M r d=91:=by
 unfold Ln.right
 repeat' split
 all_goals simp
theorem lN{M:Nat}{d:Bool}:∀{l:List Run} {i s:Nat} {a e:Int},Ln.bV M d i s l=some (a,e)→(e=90∨e=80∨e=91∨e=93)∧∃k:Nat,k<l.length∧a=(i+k:Nat)
 | [],_,_,_,_,h=>by simp[Ln.bV]at h
 | r::l,i,s,a,e,h=>by
  unfold Ln.bV at h;split at h
  ·split at h
   ·simp at h
    obtain⟨rfl,rfl⟩:=h;exact⟨ξ,0,ξ,ξ⟩
   ·obtain⟨g,k,hk,j⟩:=lN h
    exact⟨g,k+1,η,by rw[j];congr 1;omega⟩
  ·rename_i q
   simp at h;obtain⟨rfl,rfl⟩:=h;refine⟨?_,0,ξ,ξ⟩
   rcases ua M r d with h|h|h|h
   ·exact absurd h q
   ·exact .inl h
   ·exact .inr (.inl h)
   ·exact .inr (.inr (.inl h))
theorem yU{M:Nat}{y:cK}(h:¬ (M<1∨65536<M)):(aa M y).2.2=0∨((aa M y).2.2=90∨(aa M y).2.2=80∨(aa M y).2.2=91∨(aa M y).2.2=93)∧(∃k:Nat,k<y.runs.length∧(aa M y).2.1=k)∨(aa M y).2.2=4∧(aa M y).2.1 = -1:=by
 unfold aa Ln.dE;simp only[if_neg h]
 cases hq:Ln.bV M y.needs 0 0 y.runs with
 | none =>
  simp only;unfold Ln.eZ;split
  ·exact .inr (.inr ⟨rfl,rfl⟩)
  ·exact .inl rfl
 | some q =>
  obtain⟨a,e⟩:=q;obtain⟨d,k,hk,g⟩:=lN hq;exact .inr (.inl ⟨d,k,hk,by simpa using g⟩)
theorem zD(h:e=90∨e=80∨e=91∨e=93∨e=4):fA (eG e)=e:=by
 rcases h with rfl|rfl|rfl|rfl|rfl<;>rfl
def jD:List Int:=[90,80,91,93]
theorem Bm{e:Int}{k:Nat}{x:Int}(d:jD[k]?=some x)(g:e=x)(h:∀z∈jD.take k,e≠z):eG e=4+k:=by
 subst g
 match k,d with
 | 0,d=>obtain rfl:_=e:=ι d;rfl
 | 1,d=>obtain rfl:_=e:=ι d;rfl
 | 2,d=>obtain rfl:_=e:=ι d;rfl
 | 3,d=>obtain rfl:_=e:=ι d;rfl
 | k+4,d=>simp[jD]at d
theorem xn(d:∀z∈jD,e≠z):eG e=8:=by
 have g:=d 90 (by simp[jD]);have h:=d 80 (by simp[jD]);have j:=d 91 (by simp[jD]);have l:=d 93 (by simp[jD]);unfold eG;rw[if_neg g,if_neg h,if_neg j,if_neg l]
theorem AY{v:ae}{P:aF}(h:aG B w pb v P fA L){M:Nat}(hM:¬ (M<1∨65536<M)){y:cK}{A_r:Option Addr}{a0:Nat}(hs:aM B 4 nG w (.slice A_r y.runs.length a0) y.runs):
 Calls Tryz.prog 102 #[.pointer (some ⟨pb,0,none⟩),.int .u64 M,.agg #[.int .i64 y.pos,.int .u64 y.QN,.bool y.needs,.slice A_r y.runs.length a0]] w fun e w'=>e=.returned (.tuple #[])∧aG B w' pb v P fA (lH (fun M y=>(aa M y).2) M y++L)∧aD (fun k=>k=pb) w w':=by
 have gs:=h.base;have eb:=h.lt;have HL:=hh h;have hv:=yU (y:=y) hM;have ca:∀w1,Kz w w1→Calls Tryz.prog 120 #[.int .u64 M,.agg #[.int .i64 y.pos,.int .u64 y.QN,.bool y.needs,.slice A_r y.runs.length a0]] w1 (bu w1 (Ln.dE M y.needs y.runs)):=fun w1 hk =>
  tX M y.needs A_r a0 y.runs y.pos y.QN w1 χ (wM hs) (by obtain⟨_,_,e2,_,h2,_⟩:=hs;unfold top at h2;omega) (wN (hs.below (aI _ _ _) (hk.below (B:=B) χ (fun _ _ h=>h))) (Δ χ hk.size))
 obtain⟨R,hR⟩:∃R,R=Ln.dE M y.needs y.runs:=⟨_,rfl⟩;rw[←hR]at ca;obtain⟨ix,d7⟩:∃i:Int,i=R.2.1:=⟨_,rfl⟩;obtain⟨er,d2⟩:∃i:Int,i=R.2.2:=⟨_,rfl⟩;have hf:aa M y=(R.1.length,ix,er):=by rw[d7,d2,hR];rfl
 have HW:Hid (lH (fun M y=>(aa M y).2) M y=if er=0 then[]else[(if 0≤ix then((y.runs[ix.toNat]?).map Run.pos).getD 0 else y.pos,eG er)]):=hh (by unfold lH;simp only[hf]);rw[hf]at hv;simp only at hv;have HV:=hh hv;unfold bu at ca;rw[←d7,←d2]at ca;have eu:=hh ca;obtain⟨_,_,e,gx,hn,hl⟩:=hs
 cases e
 unfold top at hn;have f5:=hh hl;clear hv ca hR d7 d2 hf hl h;refine bL Tryz.func102 Tryz.ntmps102 rfl (by show 3≤51;decide) fun a gl hd h=>?_
 have h0:At a 0 (.pointer (some ⟨pb,0,none⟩)):=h 0 _ rfl;have Y:At a 1 (.int .u64 M):=h 1 _ rfl;have h2:At a 2 (.agg #[.int .i64 y.pos,.int .u64 y.QN,.bool y.needs,.slice A_r y.runs.length a0]):=h 2 _ rfl;clear h
 conv=>arg 2;whnf
 refine so (fun bb E=>aE (fun i=>i==5) a bb∧At bb 5 (.pointer (some ⟨w.heap.size,0,none⟩))∧E=w.alloc (.cells #[.int .i64 y.pos,.int .u64 y.QN,.bool y.needs,.slice A_r y.runs.length a0] 71)) ?_ ?_
 ·have af:aE (fun i=>i==5) a a:=aE.refl _ _
  obtain⟨T,d⟩:=a;refine rl ?_;with_reducible refine st ?_
  refine ln ⟨rfl,ag,aq,rfl⟩
 rintro bb E ⟨Z,h5,bp⟩;replace h0:=Z.Q7 h0 rfl;replace Y:=Z.Q7 Y rfl;replace h2:=Z.Q7 h2 rfl;have fc:=Z.size.trans gl;have gc:=Z.defers.trans hd;obtain⟨z,hz⟩:∃z,z=w.heap.size:=⟨_,rfl⟩;rw[←hz]at h5;have fz:E.heap[z]?=some (.cells #[.int .i64 y.pos,.int .u64 y.QN,.bool y.needs,.slice A_r y.runs.length a0] 71 (0,0)):=by rw[bp,hz];exact heap_alloc_new _ _
 have d8:Kz w E:=by rw[bp];exact(aD.refl _ _).alloc _
 have f0:=hh d8;have FZ:=hh fz;have g0:z≠pb:=χ
 have q0:E.cell? ⟨z,0,none⟩=some (.int .i64 y.pos):=cr fz rfl;have q1:E.cell? ⟨z,1,none⟩=some (.int .u64 y.QN):=cr fz rfl;have q2:E.cell? ⟨z,2,none⟩=some (.bool y.needs):=cr fz rfl;have q3:E.cell? ⟨z,3,none⟩=some (.slice A_r y.runs.length a0):=cr fz rfl;have HC:=hh (eu.out E d8);clear bp hz fz h2 d8 eu;refine so (fun a5 bx=>aE (fun i=>i==6||i==7||i==8||(rg 13 19 i)) bb a5∧At a5 7 (.int .i64 ix)∧At a5 8 (.int .i64 er)∧Kz E bx) ?_ ?_
 ·have af:aE (fun i=>i==6||i==7||i==8||(rg 13 19 i)) bb bb:=aE.refl _ _
  obtain⟨T,d⟩:=bb;refine rl ?_
  iterate 2 with_reducible refine st ?_
  with_reducible refine Lz (fun K hK=>?_)
  go_simp;refine HC.out.mono ?_;rintro e w2 ⟨fv,rfl,_,dc⟩;with_reducible refine hK _ _ ?_;clear hK K
  have a7:=jj dc rfl;clear dc
  iterate 7 with_reducible refine st ?_
  refine ln ⟨rfl,?_,?_,?_,?_⟩
  ·exact ag
  ·exact aq
  ·exact aq
  ·exact a7
 rintro a5 bx ⟨ac,N,g,a7⟩;replace h0:=ac.Q7 h0 rfl;replace Y:=ac.Q7 Y rfl;replace h5:=ac.Q7 h5 rfl;have ee:=ac.size.trans fc;have e7:=ac.defers.trans gc;have c3:Hid (Kz w bx):=f0.out.trans a7 (fun _ _ h=>h);replace q0:=(a7.cell (p:=⟨z,0,none⟩) (aH FZ.out) (fun h=>h)).trans q0;replace q3:=(a7.cell (p:=⟨z,3,none⟩) (aH FZ.out) (fun h=>h)).trans q3;clear a7 q1 q2 HC Y;obtain⟨z0,en⟩:∃b,b=decide (er=0):=⟨_,rfl⟩;have fm:(er==0)=z0:=by rw[en];exact jv _ _
 have e0:=hh en;clear en;refine wp_seq (wp_seq (Code.wp_only (R:=fun bc cp=>aE (fun i=>i==20||i==21) a5 bc∧At bc 21 (.bool z0)∧cp=bx) ?_ ?_))
 ·have af:aE (fun i=>i==20||i==21) a5 a5:=aE.refl _ _
  obtain⟨T,d⟩:=a5;refine rl ?_
  iterate 2 with_reducible refine st ?_
  refine ln ⟨rfl,ag,aq,rfl⟩
 rintro bc cp ⟨O,fk,rfl⟩;replace h0:=O.Q7 h0 rfl;replace h5:=O.Q7 h5 rfl;replace N:=O.Q7 N rfl;replace g:=O.Q7 g rfl;have c8:=O.size.trans ee;have b4:=O.defers.trans e7;refine wp_cond_split (fk.eval χ) (fun hg=>?_) (fun hg=>?_)
 ·have b6:er=0:=by have Y:=e0.out;rw[hg]at Y;exact of_decide_eq_true Y.symm
  refine wp_ret ?_
  repeat (first|with_reducible apply bQ|with_reducible apply bY)
  refine bodyPost_ret (results_none rfl _ _ _) b4 ⟨rfl,?_,(c3.out.mono fun _ _ h=>h.elim:aD (fun k=>k=pb) w _)⟩;rw[HW.out,if_pos b6];exact HL.out.new c3.out
 have b6:er≠0:=by have Y:=e0.out;rw[hg]at Y;exact of_decide_eq_false Y.symm
 refine wp_skip ?_;have ei:=HW.out;rw[if_neg b6]at ei;have ez:=hh ei;clear ei HW fm hg;refine so (fun bd cs=>aE (fun i=>i==9||i==22||i==23) bc bd∧At bd 9 (.int .i64 y.pos)∧cs=cp) ?_ ?_
 ·have af:aE (fun i=>i==9||i==22||i==23) bc bc:=aE.refl _ _
  obtain⟨T,d⟩:=bc;refine rl ?_
  iterate 3 with_reducible refine st ?_
  refine ln ⟨rfl,ag,aq,rfl⟩
 rintro bd cs ⟨Q,eq,rfl⟩;replace h0:=Q.Q7 h0 rfl;replace h5:=Q.Q7 h5 rfl;replace N:=Q.Q7 N rfl;replace g:=Q.Q7 g rfl;have cb:=Q.size.trans c8;have c6:=Q.defers.trans b4;obtain⟨gE,d4⟩:∃b,b=decide (0≤ix):=⟨_,rfl⟩;have ds:decide ((0:Int)≤ix)=gE:=d4.symm;have dt:=hh d4;clear d4;refine wp_seq (wp_seq (Code.wp_only (R:=fun a6 cv=>aE (fun i=>i==24||i==25) bd a6∧At a6 25 (.bool gE)∧cv=cs) ?_ ?_))
 ·have af:aE (fun i=>i==24||i==25) bd bd:=aE.refl _ _
  obtain⟨T,d⟩:=bd;refine rl ?_
  iterate 2 with_reducible refine st ?_
  refine ln ⟨rfl,ag,aq,rfl⟩
 rintro a6 cv ⟨H,dk,rfl⟩;replace h0:=H.Q7 h0 rfl;replace h5:=H.Q7 h5 rfl;replace N:=H.Q7 N rfl;replace g:=H.Q7 g rfl;replace eq:=H.Q7 eq rfl;have b1:=H.size.trans cb;have b5:=H.defers.trans c6;obtain⟨pl,ec⟩:∃p:Int,p=(if 0≤ix then((y.runs[ix.toNat]?).map Run.pos).getD 0 else y.pos):=⟨_,rfl⟩;rw[←ec]at ez;have c4:=hh ec;clear ec;refine Code.wp_only (R:=fun be cw=>aE (fun i=>i==9||(rg 26 31 i)) a6 be∧At be 9 (.int .i64 pl)∧cw=cv) ?_ ?_
 ·refine wp_cond_split (dk.eval χ) (fun hg=>?_) (fun hg=>?_)
  ·have ej:0≤ix:=by have Y:=dt.out;rw[hg]at Y;exact of_decide_eq_true Y.symm
   obtain⟨k,hk,ea⟩:∃k:Nat,k<y.runs.length∧ix=k:=by
    rcases HV.out with h|⟨_,h⟩|⟨_,h⟩
    ·exact absurd h b6
    ·exact h
    ·omega
   obtain⟨r,hr⟩:=ge hk;obtain⟨bl,off,rfl,f9,e6⟩:=f5.out χ;obtain⟨hc,_⟩:=(aI B _ _) _ _ _ _ _ (c3.out.below (B:=B) χ (fun _ _ h=>h)) f9 (e6 k r hr);have r0:=hc.c0;have di:pl=r.pos:=by rw[c4.out,if_pos ej,ea];simp[hr]
   have gu:k≤a0:=χ
   have gr:At a6 7 (.int .i64 k):=by rw[←ea];exact N
   have af:aE (fun i=>i==9||(rg 26 31 i)) a6 a6:=aE.refl _ _;have f4:=hh di;clear hg e6 hc hr di ea c4 dt ds N dk;obtain⟨T,d⟩:=a6;refine rl ?_
   iterate 7 with_reducible refine st ?_
   refine ln ⟨rfl,?_,?_,rfl⟩
   ·exact ag
   ·rw[f4.out];exact At.self
  ·have ej:¬ 0≤ix:=by have Y:=dt.out;rw[hg]at Y;exact of_decide_eq_false Y.symm
   refine wp_skip ⟨rfl,aE.refl _ _,?_,rfl⟩;rw[c4.out,if_neg ej];exact eq
 rintro be cw ⟨U,al,rfl⟩;replace h0:=U.Q7 h0 rfl;replace h5:=U.Q7 h5 rfl;replace N:=U.Q7 N rfl;replace g:=U.Q7 g rfl;have bo:=U.size.trans b1;have b0:=U.defers.trans b5;refine so (fun bf a9=>aE (fun i=>i==10) be bf∧At bf 10 (.int .i64 (4:Nat))∧a9=cw) ?_ ?_
 ·have af:aE (fun i=>i==10) be be:=aE.refl _ _
  obtain⟨T,d⟩:=be;refine rl ?_;with_reducible refine st ?_
  refine ln ⟨rfl,?_,?_,rfl⟩
  ·exact ag
  ·exact At.self
 rintro bf a9 ⟨I,cc,rfl⟩;replace h0:=I.Q7 h0 rfl;replace h5:=I.Q7 h5 rfl;replace N:=I.Q7 N rfl;replace g:=I.Q7 g rfl;replace al:=I.Q7 al rfl;have a8:=I.size.trans bo;have bm:=I.defers.trans b0;clear ds c4;refine wp_seq (wp_seq (Code.wp_only (R:=fun bz an=>aE (fun i=>(rg 32 34 i)) bf bz∧At bz 32 (.slice (some ⟨a9.heap.size,0,none⟩) 4 4)∧At bz 33 (.int .i64 (4:Nat))∧At bz 34 (.int .i64 0)∧an=a9.alloc (.cells #[.int .i64 90,.int .i64 80,.int .i64 91,.int .i64 93] 36)) ?_ ?_))
 ·have af:aE (fun i=>(rg 32 34 i)) bf bf:=aE.refl _ _
  obtain⟨T,d⟩:=bf;refine rl ?_
  iterate 3 with_reducible refine st ?_
  refine ln ⟨rfl,?_,?_,?_,?_,rfl⟩
  ·exact ag
  ·exact aq
  ·exact At.ne At.self ψ
  ·exact aq
 rintro bz an ⟨u,fl,go,gn,bs⟩;replace h0:=u.Q7 h0 rfl;replace h5:=u.Q7 h5 rfl;replace N:=u.Q7 N rfl;replace g:=u.Q7 g rfl;replace al:=u.Q7 al rfl;replace cc:=u.Q7 cc rfl;have J:=u.size.trans a8;have V:=u.defers.trans bm;obtain⟨ze,eo⟩:∃z,z=a9.heap.size:=⟨_,rfl⟩;rw[←eo]at fl;have fe:an.heap[ze]?=some (.cells #[.int .i64 90,.int .i64 80,.int .i64 91,.int .i64 93] 36 (0,0)):=by rw[bs,eo];exact heap_alloc_new _ _
 have f1:Hid (Kz w an):=hh (c3.out.trans (by rw[bs];exact(aD.refl _ _).alloc _) (fun _ _ h=>h));have FE:=hh fe;clear bs eo fe q0 q3;refine Code.wp_only (R:=fun c5 cx=>aE (fun i=>i==10||i==12||(rg 34 45 i)) bz c5∧At c5 10 (.int .i64 (eG er))∧Kz an cx) ?_ ?_
 ·refine bX 4 (fun i=>i==10||i==12||(rg 34 45 i)) (fun i=>i==10||i==12||(rg 36 44 i)) (fun k a' w'=>At a' 10 (.int .i64 (4+k:Nat))∧(∀z∈jD.take k,er≠z)∧Kz an w') χ gn go ψ rfl
   ζ χ ψ (fun k a1 a2 w hA ⟨hI,hk⟩=>⟨hA.Q7 hI rfl,hk⟩) ⟨by simpa using cc,ξ,aD.refl _ _⟩ ?_ ?_
  ·rintro n b wr eb hA es ⟨C,c7,hk⟩
   obtain⟨x,hx⟩:∃x,jD[n]?=some x:=⟨_,Ez (show n<jD.length from eb)⟩;have fr:=(hk.block ze (aH FE.out) (fun h=>h)).trans FE.out;have q0:wr.cell? ⟨ze,n,none⟩=some (.int .i64 x):=by
    rw[cell_of_row _ _ _ _ _ _ fr]
    match n,eb,hx with
    | 0,_,hx=>obtain rfl:_=x:=ι hx;rfl
    | 1,_,hx=>obtain rfl:_=x:=ι hx;rfl
    | 2,_,hx=>obtain rfl:_=x:=ι hx;rfl
    | 3,_,hx=>obtain rfl:_=x:=ι hx;rfl
   have cj:=hA.Q7 fl rfl;replace g:=hA.Q7 g rfl;have fd:=hA.size.trans J;have gf:=hA.defers.trans V;have gy:=aH fr;have gw:(n:Int)<4:=χ
   have HX:=hh hx;have ew:=hh c7;have HK:=hh hk;have HA:=hh hA;clear hx c7 hk fr hA;refine so (fun W a4=>aE (fun i=>i==12||i==36||i==37) b W∧At W 12 (.int .i64 x)∧a4=wr) ?_ ?_
   ·have af:aE (fun i=>i==12||i==36||i==37) b b:=aE.refl _ _
    obtain⟨T,d⟩:=b;refine rl ?_
    iterate 3 with_reducible refine st ?_
    refine ln ⟨rfl,ag,aq,rfl⟩
   rintro W a4 ⟨l,bw,rfl⟩;replace C:=l.Q7 C rfl;replace g:=l.Q7 g rfl;replace cj:=l.Q7 cj rfl;replace es:=l.Q7 es rfl;have eg:=l.size.trans fd;have e8:=l.defers.trans gf;obtain⟨sm,ed⟩:∃b,b=(er==x):=⟨_,rfl⟩;have bg:=Ac er x a4;rw[←ed]at bg;have HC:=hh bg;have ey:=hh ed;clear ed bg cj es q0;refine wp_seq (wp_seq (Code.wp_only (R:=fun X bt=>aE (fun i=>(rg 38 42 i)) W X∧At X 42 (.bool sm)∧bt=a4) ?_ ?_))
   ·have af:aE (fun i=>(rg 38 42 i)) W W:=aE.refl _ _
    obtain⟨T,d⟩:=W;refine rl ?_
    iterate 4 with_reducible refine st ?_
    with_reducible refine Lz (fun K hK=>?_)
    go_simp;refine HC.out.mono ?_;rintro e w2 ⟨rfl,rfl⟩;with_reducible refine hK _ _ ?_;clear hK K
    refine ln ⟨rfl,ag,aq,rfl⟩
   rintro X bt ⟨q,cf,rfl⟩;replace C:=q.Q7 C rfl;replace g:=q.Q7 g rfl;replace bw:=q.Q7 bw rfl;have c9:=q.size.trans eg;have d1:=q.defers.trans e8;refine wp_cond_split (cf.eval χ) (fun hg=>?_) (fun hg=>?_)
   ·have d3:er=x:=by have Y:=ey.out;rw[hg]at Y;exact eq_of_beq Y.symm
    refine wp_exit ?_
    repeat with_reducible apply eP
    simp only[bi];rw[if_neg ψ];simp only[if_true];refine⟨rfl,(aE.trans HA.out (aE.trans (aE.trans (aE.refl (fun i=>i==10||i==12||(rg 36 44 i)) b) l ζ) q ζ) ζ),?_,HK.out⟩;rw[Bm HX.out d3 ew.out];exact C
   ·have d3:er≠x:=by have Y:=ey.out;rw[hg]at Y;exact fun e=>by subst e;simp at Y
    refine wp_skip ?_;have e1:IntKind.i64.wrap (((4+n:Nat):Int)+1)=((4+(n+1):Nat):Int):=by rw[i64_in _ χ];omega
    obtain⟨cu,d0⟩:∃c:Nat,c=4+n:=⟨_,rfl⟩;obtain⟨e5,b3⟩:∃c:Nat,c=4+(n+1):=⟨_,rfl⟩;rw[←d0,←b3]at e1;rw[←d0]at C;have fy:=hh b3;have fs:Hid ((cu:Int)+1=(e5:Int)):=hh χ;clear d0 b3 HC hg;refine Code.wp_only (R:=fun b2 cm=>aE (fun i=>i==10||i==43||i==44) X b2∧At b2 10 (.int .i64 e5)∧cm=bt) ?_ ?_
    ·have af:aE (fun i=>i==10||i==43||i==44) X X:=aE.refl _ _
     obtain⟨T,d⟩:=X;refine rl ?_
     iterate 3 with_reducible refine st ?_
     refine ln ⟨rfl,?_,?_,rfl⟩
     ·exact ag
     ·first|exact At.self|(rw[←fs.out];exact At.self)
    rintro b2 cm ⟨D,cd,rfl⟩;replace g:=D.Q7 g rfl;replace bw:=D.Q7 bw rfl;replace cf:=D.Q7 cf rfl;have ff:=D.size.trans c9;have fp:=D.defers.trans d1;refine⟨(aE.trans (aE.trans (aE.trans (aE.refl (fun i=>i==10||i==12||(rg 36 44 i)) _) l ζ) q ζ) D ζ),by rw[←fy.out];exact cd,fun z hz=>?_,HK.out⟩;rw[aO HX.out]at hz
    rcases Ω.1 hz with h|h
    ·exact ew.out z h
    ·obtain rfl:z=x:=by simpa using h
     exact d3
  ·rintro b wr hA ⟨C,c7,hk⟩
   refine⟨rfl,hA,?_,hk⟩;rw[xn (by simpa[jD]using c7)];exact C
 rintro c5 cx ⟨ad,cd,e9⟩;replace h0:=ad.Q7 h0 rfl;replace g:=ad.Q7 g rfl;replace al:=ad.Q7 al rfl;have cy:=ad.size.trans J;have a3:=ad.defers.trans V;have d9:Kz w cx:=f1.out.trans e9 (fun _ _ h=>h);have f3:=hh (HL.out.new d9);have f2:=hh d9;have fi:fA (eG er)=er:=zD (by rcases HV.out with h|⟨h,_⟩|⟨h,_⟩;exact absurd h b6;rcases h with h|h|h|h<;>simp[h];exact .inr (.inr (.inr (.inr h))));have f6:=hh fi;clear e9 d9 fi;obtain⟨T,d⟩:=c5;refine rl ?_
 iterate 4 with_reducible refine st ?_
 with_reducible refine Lz (fun K hK=>?_)
 go_simp;refine(fX pl (eG er) er f3.out f6.out).mono ?_;rintro e w2 ⟨rfl,f7,a7⟩;with_reducible refine hK _ _ (ln ?_)
 refine dL rfl a3 ⟨rfl,?_,(f2.out.mono fun _ _ h=>h.elim:aD (fun k=>k=pb) w _).trans a7 (fun _ _ h=>h)⟩;rw[ez.out];exact f7
def km(w:World)(b:Nat)(P:aF):Prop:=∃n p,cV w b n (.int .u64 0) (fun s =>.int .u64 (lR P s:Nat)) p
theorem Cu(w:World):(zeroValue 41).run Tryz.prog w=.ok (.int .u64 0) w:=δ
theorem km.keep{S:Nat→Prop}{w':World}{b:Nat}{P:aF}(h:km w b P)(hk:aD S w w')(d:¬ S b):km w' b P:=by
 obtain⟨n,p,h⟩:=h;exact⟨n,p,h.keep hk d⟩
def kP(P:aF)(y:cK)(r:Run):List Wr:=say (decide (r.QH=ByteArray.empty)||decide (lR P r.QH=y.QN)) r.pos 3
def lO:Nat→cK→Int×Int:=fun M y=>(aa M y).2
def js(P:aF)(M:Nat)(y:cK):List Wr:=jY P y++lH lO M y
theorem ue{v:ae}{P:aF}(h:aG B w pb v P fA L){mc mb:Nat}(bz:w.heap[mc]?=some (.cells #[.map (some mb)] 180 (0,0)))(bt:km w mb P)(b0:mc≠pb∧mb≠pb){y:cK}{A_r:Option Addr}{X:Nat}(hs:aM B 4 nG w (.slice A_r y.runs.length X) y.runs)(c3:y.QN<lim)
 {zy:Nat}(a8:w.heap[zy]?=some (.cells #[.int .i64 y.pos,.int .u64 y.QN,.bool y.needs,.slice A_r y.runs.length X] 71 (0,0)))(cu:zy≠pb)(a:Act)(cs:a.tmps.size=130)(h0:At a 0 (.pointer (some ⟨pb,0,none⟩)))(h2:At a 2 (.pointer (some ⟨mc,0,none⟩)))(h8:At a 8 (.pointer (some ⟨zy,0,none⟩)))(Q:Exit→Act→World→Prop)
 (hQ:∀a' w',aE (fun i=>i==10||(rg 99 122 i)) a a'→aG B w' pb v P fA (y.runs.flatMap (kP P y)++L)→aD (fun k=>k=pb) w w'→Q .normal a' w'):
 (ax Tryz.f31 [1,1,1,1,1,0,0,1,1,0,0,1,1,1,0,0,1,1,0,0,1,1,0]).wp Tryz.prog Q a w:=by
 have hd:a.defers=a.defers:=rfl;have c9:=h.lt;have c7:=h.base;have bf:=hh bz;have b5:=hh bt;have HL:=hh h;have bo:=hh a8;obtain⟨_,_,e,dc,hn,hl⟩:=hs
 cases e
 unfold top at hn;have cb:=hh hl;have HQ:=hh hQ;have q3:w.cell? ⟨zy,3,none⟩=some (.slice A_r y.runs.length X):=cr a8 rfl;clear h bz bt hl a8 hQ
 conv=>arg 2;whnf
 refine so (fun W ac=>aE (fun i=>(rg 99 102 i)) a W∧At W 100 (.slice A_r y.runs.length X)∧At W 101 (.int .i64 y.runs.length)∧At W 102 (.int .i64 0)∧ac=w) ?_ ?_
 ·have a0:aE (fun i=>(rg 99 102 i)) a a:=aE.refl _ _
  obtain⟨T,d⟩:=a;refine rl ?_
  iterate 4 with_reducible refine st ?_
  refine ln ⟨rfl,ag,aq,aq,aq,rfl⟩
 rintro W ac ⟨C,cx,cw,cv,rfl⟩;replace h0:=C.Q7 h0 rfl;replace h2:=C.Q7 h2 rfl;replace h8:=C.Q7 h8 rfl;have b1:=C.size.trans cs;have cd:=C.defers.trans hd;refine bX y.runs.length (fun i=>i==10||(rg 102 122 i)) (fun i=>i==10||(rg 104 121 i)) (fun k _ w'=>aG B w' pb v P fA ((y.runs.take k).flatMap (kP P y)++L)∧aD (fun k=>k=pb) ac w') χ cv cw ψ rfl
  ζ χ ψ (fun k a1 a2 w hA hI=>hI) ⟨by simpa using HL.out,aD.refl _ _⟩ ?_ ?_
 ·rintro n b wr bx hA a9 ⟨hL,hk⟩
  obtain⟨bl,off,rfl,cc,bw⟩:=cb.out χ;obtain⟨x,hx⟩:=ge bx;obtain⟨hc,b3⟩:=(aI B _ _) _ _ _ _ _ (hk.below (B:=B) χ (fun _ hi e=>χ)) cc (bw n x hx);have q0:=hc.c0;have q1:=hc 1 _ rfl;have q2:=hc 2 _ rfl;have q3:=hc 3 _ rfl;have O:=hA.Q7 h0 rfl;have U:=hA.Q7 h2 rfl;have V:=hA.Q7 h8 rfl;have Z:=hA.Q7 cx rfl;have b2:=hA.size.trans b1;have cf:=hA.defers.trans cd;have c4:=hk.size;have cy:bl<wr.heap.size:=χ
  have c8:n≤X:=χ
  have HX:=hh hx;have ca:=hh hL;have HK:=hh hk;have bg:=hh ((hk.block mc (aH bf.out) (by exact b0.1)).trans bf.out);have b6:=hh (b5.out.keep hk (by exact b0.2));have bm:=hh ((hk.block zy (aH bo.out) cu).trans bo.out);have di:=hL.lt;clear hx bw hc hA hk hL;refine so (fun D l=>aE (fun i=>i==10||i==104||i==105) b D∧At D 10 (.pointer (some ⟨wr.heap.size,0,none⟩))∧l=wr.alloc (.cells #[.int .i64 x.pos,.string x.QH,.int .u64 x.QS,.int .u64 x.per] 99)) ?_ ?_
  ·have a0:aE (fun i=>i==10||i==104||i==105) b b:=aE.refl _ _
   obtain⟨T,d⟩:=b;refine rl ?_
   iterate 4 with_reducible refine st ?_
   refine ln ⟨rfl,ag,aq,rfl⟩
  rintro D l ⟨g,E,J⟩;replace O:=g.Q7 O rfl;replace U:=g.Q7 U rfl;replace V:=g.Q7 V rfl;replace Z:=g.Q7 Z rfl;replace a9:=g.Q7 a9 rfl;have Y:=g.size.trans b2;have an:=g.defers.trans cf;obtain⟨zr,a7⟩:∃z,z=wr.heap.size:=⟨_,rfl⟩;rw[←a7]at E;have fr:l.heap[zr]?=some (.cells #[.int .i64 x.pos,.string x.QH,.int .u64 x.QS,.int .u64 x.per] 99 (0,0)):=by rw[J,a7];exact heap_alloc_new _ _
  have N:Kz wr l:=by rw[J];exact(aD.refl _ _).alloc _
  have p0:l.cell? ⟨zr,0,none⟩=some (.int .i64 x.pos):=cr fr rfl;have p1:l.cell? ⟨zr,1,none⟩=some (.string x.QH):=cr fr rfl;have pm:l.cell? ⟨mc,0,none⟩=some (.map (some mb)):=cell_of_one ((N.block mc (aH bg.out) (fun h=>h)).trans bg.out);have py:l.cell? ⟨zy,1,none⟩=some (.int .u64 y.QN):=cr ((N.block zy (aH bm.out) (fun h=>h)).trans bm.out) rfl;have cj:(Instr.lookup 180 (.map (some mb)) (.string x.QH) false).run Tryz.prog l=.ok (.int .u64 (lR P x.QH:Nat)) l:=by
   obtain⟨nn,pp,cm⟩:=b6.out.keep N (fun h=>h);exact cm.run Tryz.underlying180 Cu (Δ b3.2.2.2 (by unfold maxLen;omega))
  have bd:=hh (ca.out.new N);have bb:=hh (HK.out.trans N (fun _ _ h=>h.elim));clear J a7 fr N q0 q1 q2 q3 Z a9;obtain⟨cp,a5⟩:∃n:Nat,n=lR P x.QH:=⟨_,rfl⟩;rw[←a5]at cj;obtain⟨be,a4⟩:∃b,b=decide (x.QH=ByteArray.empty):=⟨_,rfl⟩;have b4:(x.QH.toList==ByteArray.toList { data := #[] })=be:=by rw[a4];exact bU _ _
  have c6:(x.QH.toList==[])=be:=by rw[←b4,fW]
  obtain⟨bc,a3⟩:∃b,b=decide (cp=y.QN):=⟨_,rfl⟩;have c5:((cp:Int)==(y.QN:Int))=bc:=by rw[a3];exact eh _ _
  have HS:Hid (kP P y x=say (be||bc) x.pos 3):=by rw[a4,a3,a5];rfl
  clear a4 a3 a5;have dk:=aU
  cases be
  ·skip
   refine Code.wp_only (R:=fun bp ad=>aE (fun i=>(rg 106 121 i)) D bp∧aG B ad pb v P fA (say (false||bc) x.pos 3++((y.runs.take n).flatMap (kP P y)++L))∧aD (fun k=>k=pb) l ad) ?_ ?_
   ·have a0:aE (fun i=>(rg 106 121 i)) D D:=aE.refl _ _
    obtain⟨T,d⟩:=D;refine rl ?_
    iterate 15 with_reducible refine st ?_
    with_reducible refine Lz (fun K hK=>?_)
    go_simp;refine(aR bc x.pos 3 100 bd.out rfl).mono ?_;rintro e w2 ⟨rfl,H,I⟩;with_reducible refine hK _ _ ?_;clear hK K
    refine ln ⟨rfl,?_,?_,?_⟩
    ·exact ag
    ·simpa using H
    ·exact I
   rintro bp ad ⟨q,H,I⟩;replace O:=q.Q7 O rfl;replace U:=q.Q7 U rfl;replace V:=q.Q7 V rfl;replace E:=q.Q7 E rfl;have al:=q.size.trans Y;have a6:=q.defers.trans an;refine⟨(aE.trans (aE.trans (aE.refl (fun i=>i==10||(rg 104 121 i)) _) g ζ) q ζ),H.congr fun p=>?_,bb.out.trans I (fun _ _ h=>h)⟩;rw[aO HX.out,List.flatMap_append,List.flatMap_cons,List.flatMap_nil,List.append_nil,HS.out];simp only[List.mem_append,Bool.false_or,Bool.true_or]
   try simp only[or_assoc,or_comm,or_left_comm]
  ·skip
   refine Code.wp_only (R:=fun bs af=>aE (fun i=>(rg 106 121 i)) D bs∧aG B af pb v P fA (say (true) x.pos 3++((y.runs.take n).flatMap (kP P y)++L))∧aD (fun k=>k=pb) l af) ?_ ?_
   ·have a0:aE (fun i=>(rg 106 121 i)) D D:=aE.refl _ _
    obtain⟨T,d⟩:=D;refine rl ?_
    iterate 15 with_reducible refine st ?_
    with_reducible refine Lz (fun K hK=>?_)
    go_simp;refine(aR true x.pos 3 100 bd.out rfl).mono ?_;rintro e w2 ⟨rfl,H,I⟩;with_reducible refine hK _ _ ?_;clear hK K
    refine ln ⟨rfl,?_,?_,?_⟩
    ·exact ag
    ·simpa using H
    ·exact I
   rintro bs af ⟨u,H,I⟩;replace O:=u.Q7 O rfl;replace U:=u.Q7 U rfl;replace V:=u.Q7 V rfl;replace E:=u.Q7 E rfl;have al:=u.size.trans Y;have a6:=u.defers.trans an;refine⟨(aE.trans (aE.trans (aE.refl (fun i=>i==10||(rg 104 121 i)) _) g ζ) u ζ),H.congr fun p=>?_,bb.out.trans I (fun _ _ h=>h)⟩;rw[aO HX.out,List.flatMap_append,List.flatMap_cons,List.flatMap_nil,List.append_nil,HS.out];simp only[List.mem_append,Bool.false_or,Bool.true_or]
   try simp only[or_assoc,or_comm,or_left_comm]
 ·rintro b wr hA ⟨hL,hk⟩
  rw[List.take_length]at hL;exact HQ.out _ _ (aE.trans (C.m) hA ζ) hL hk
theorem sU{v:ae}{P:aF}(h:aG B w pb v P fA L){mc mb:Nat}(cb:w.heap[mc]?=some (.cells #[.map (some mb)] 180 (0,0)))(b2:km w mb P)(af:mc≠pb∧mb≠pb){x:jp}(hM:¬ (x.QJ<1∨65536<x.QJ)){A_l:Option Addr}{ac:Nat}(hs:aM B 4 (iu B) w (.slice A_l x.QL.length ac) x.QL)
 {zx:Nat}(bd:w.heap[zx]?=some (.cells #[.int .i64 x.pos,.string x.name,.int .u64 x.QJ,.slice A_l x.QL.length ac] 68 (0,0)))(cj:zx≠pb)(a:Act)(dk:a.tmps.size=130)(h0:At a 0 (.pointer (some ⟨pb,0,none⟩)))(h2:At a 2 (.pointer (some ⟨mc,0,none⟩)))(h6:At a 6 (.pointer (some ⟨zx,0,none⟩)))(Q:Exit→Act→World→Prop)
 (hQ:∀a' w',aE (fun i=>i==8||i==10||(rg 85 128 i)) a a'→aG B w' pb v P fA (x.QL.flatMap (js P x.QJ)++L)→aD (fun k=>k=pb) w w'→Q .normal a' w'):
 (ax Tryz.f31 [1,1,1,1,1,0,0,1,1,0,0,1,1]).wp Tryz.prog Q a w:=by
 have hd:a.defers=a.defers:=rfl;have eb:=h.lt;have d9:=h.base;have bo:=hh cb;have cu:=hh b2;have HL:=hh h;have bx:=hh bd;obtain⟨_,_,e,ec,hn,hl⟩:=hs
 cases e
 unfold top at hn;have c4:=hh hl;have HQ:=hh hQ;have q3:w.cell? ⟨zx,3,none⟩=some (.slice A_l x.QL.length ac):=cr bd rfl;clear h cb b2 hl bd hQ
 conv=>arg 2;whnf
 refine so (fun Z a3=>aE (fun i=>(rg 85 88 i)) a Z∧At Z 86 (.slice A_l x.QL.length ac)∧At Z 87 (.int .i64 x.QL.length)∧At Z 88 (.int .i64 0)∧a3=w) ?_ ?_
 ·have a7:aE (fun i=>(rg 85 88 i)) a a:=aE.refl _ _
  obtain⟨T,d⟩:=a;refine rl ?_
  iterate 4 with_reducible refine st ?_
  refine ln ⟨rfl,ag,aq,aq,aq,rfl⟩
 rintro Z a3 ⟨q,d3,d2,d1,rfl⟩;replace h0:=q.Q7 h0 rfl;replace h2:=q.Q7 h2 rfl;replace h6:=q.Q7 h6 rfl;have cc:=q.size.trans dk;have c8:=q.defers.trans hd;refine bX x.QL.length (fun i=>i==8||i==10||(rg 88 128 i)) (fun i=>i==8||i==10||(rg 90 127 i)) (fun k _ w'=>aG B w' pb v P fA ((x.QL.take k).flatMap (js P x.QJ)++L)∧aD (fun k=>k=pb) a3 w') χ d1 d2 ψ rfl
  ζ χ ψ (fun k a1 a2 w hA hI=>hI) ⟨by simpa using HL.out,aD.refl _ _⟩ ?_ ?_
 ·rintro n b wr ca hA bf ⟨hL,hk⟩
  obtain⟨bl,off,rfl,c7,b5⟩:=c4.out χ;obtain⟨y,hx⟩:=ge ca;have b1:=hk.below (B:=B) χ (fun _ hi e=>χ);obtain⟨rv,hc,E,_,b3⟩:=(d5 B) _ _ _ _ _ b1 c7 (b5 n y hx);obtain⟨A_r,ad,rfl,E⟩:=E;have c5:Hid (aM B 4 nG wr (.slice A_r y.runs.length ad) y.runs):=hh ⟨A_r,ad,rfl,E⟩;have q0:=hc.c0;have q1:=hc 1 _ rfl;have q2:=hc 2 _ rfl;have q3:=hc 3 _ rfl;have H:=hA.Q7 h0 rfl;have an:=hA.Q7 h2 rfl;have N:=hA.Q7 h6 rfl;have a0:=hA.Q7 d3 rfl;have cd:=hA.size.trans cc;have c9:=hA.defers.trans c8;have d8:=hk.size;have d4:bl<wr.heap.size:=χ
  have ea:n≤ac:=χ
  have HX:=hh hx;have cy:=hh hL;have HK:=hh hk;have bp:=hh ((hk.block mc (aH bo.out) (by exact af.1)).trans bo.out);have cv:=hh (cu.out.keep hk (by exact af.2));have bw:=hh ((hk.block zx (aH bx.out) cj).trans bx.out);have ed:=hL.lt;clear hx b5 hc hA hk hL E b1;refine so (fun U C=>aE (fun i=>i==8||i==90||i==91) b U∧At U 8 (.pointer (some ⟨wr.heap.size,0,none⟩))∧C=wr.alloc (.cells #[.int .i64 y.pos,.int .u64 y.QN,.bool y.needs,.slice A_r y.runs.length ad] 71)) ?_ ?_
  ·have a7:aE (fun i=>i==8||i==90||i==91) b b:=aE.refl _ _
   obtain⟨T,d⟩:=b;refine rl ?_
   iterate 4 with_reducible refine st ?_
   refine ln ⟨rfl,ag,aq,rfl⟩
  rintro U C ⟨g,O,V⟩;replace H:=g.Q7 H rfl;replace an:=g.Q7 an rfl;replace N:=g.Q7 N rfl;replace a0:=g.Q7 a0 rfl;replace bf:=g.Q7 bf rfl;have bc:=g.size.trans cd;have b6:=g.defers.trans c9;obtain⟨zy,be⟩:∃z,z=wr.heap.size:=⟨_,rfl⟩;rw[←be]at O;have fy:C.heap[zy]?=some (.cells #[.int .i64 y.pos,.int .u64 y.QN,.bool y.needs,.slice A_r y.runs.length ad] 71 (0,0)):=by rw[V,be];exact heap_alloc_new _ _
  have J:Kz wr C:=by rw[V];exact(aD.refl _ _).alloc _
  have p0:C.cell? ⟨zy,0,none⟩=some (.int .i64 y.pos):=cr fy rfl;have p1:C.cell? ⟨zy,1,none⟩=some (.int .u64 y.QN):=cr fy rfl;have al:zy≠pb:=χ
  have FY:=hh fy;have bm:=hh ((J.block mc (aH bp.out) (fun h=>h)).trans bp.out);have cs:=hh (cv.out.keep J (fun h=>h));have bt:=hh ((J.block zx (aH bw.out) (fun h=>h)).trans bw.out);have bs:=hh (c5.out.below (aI _ _ _) (J.below (B:=B) χ (fun _ _ h=>h)));have cx:=hh (cy.out.new J);have cw:=hh (HK.out.trans J (fun _ _ h=>h.elim));have ds:=J.size;clear V be fy J q0 q1 q2 q3 a0 bf;obtain⟨b4,a8⟩:∃b,b=decide (y.QN<4):=⟨_,rfl⟩;have cm:decide ((y.QN:Int)<4)=b4:=by rw[a8];exact decide_eq_decide.2 χ
  have cp:=hh a8;clear a8;refine so (fun a6 a4=>aE (fun i=>(rg 92 98 i)) U a6∧aG B a4 pb v P fA (say b4 y.pos 3++((x.QL.take n).flatMap (js P x.QJ)++L))∧aD (fun k=>k=pb) C a4) ?_ ?_
  ·have a7:aE (fun i=>(rg 92 98 i)) U U:=aE.refl _ _
   obtain⟨T,d⟩:=U;refine rl ?_
   iterate 6 with_reducible refine st ?_
   with_reducible refine Lz (fun K hK=>?_)
   go_simp;refine(aR b4 y.pos 3 100 cx.out rfl).mono ?_;rintro e w2 ⟨rfl,Y,D⟩;with_reducible refine hK _ _ ?_;clear hK K
   refine ln ⟨rfl,?_,?_,?_⟩
   ·exact ag
   ·exact Y
   ·exact D
  rintro a6 a4 ⟨l,Y,D⟩;replace H:=l.Q7 H rfl;replace an:=l.Q7 an rfl;replace N:=l.Q7 N rfl;replace O:=l.Q7 O rfl;have W:=l.size.trans bc;have a9:=l.defers.trans b6;have FY2:=(D.block zy (aH FY.out) al).trans FY.out;refine wp_seq (ue Y ((D.block mc (aH bm.out) af.1).trans bm.out) (cs.out.keep D af.2) af (bs.out.below (aI _ _ _) (D.below (B:=B) χ (fun _ hi e=>χ))) b3 FY2 al a6 W H an O _ ?_);intro c wc X b0 bb;have cf:=X.size.trans W;have dc:=X.defers.trans a9;replace H:=X.Q7 H rfl;replace N:=X.Q7 N rfl;replace O:=X.Q7 O rfl;have FY3:=(bb.block zy (aH FY2) al).trans FY2;have I:aD (fun k=>k=pb) C wc:=D.trans bb (fun _ _ h=>h);have FX3:=(I.block zx (aH bt.out) cj).trans bt.out;have px:wc.cell? ⟨zx,2,none⟩=some (.int .u64 x.QJ):=cr FX3 rfl;have s0:wc.cell? ⟨zy,0,none⟩=some (.int .i64 y.pos):=cr FY3 rfl;have s1:wc.cell? ⟨zy,1,none⟩=some (.int .u64 y.QN):=cr FY3 rfl;have s2:wc.cell? ⟨zy,2,none⟩=some (.bool y.needs):=cr FY3 rfl;have s3:wc.cell? ⟨zy,3,none⟩=some (.slice A_r y.runs.length ad):=cr FY3 rfl;have c3:=hh (AY b0 hM (bs.out.below (aI _ _ _) (I.below (B:=B) χ (fun _ hi e=>χ))));have bg:=hh I;have dt:=I.size;clear FY2 FY3 FX3 D bb I Y b0 p0 p1 cm;refine Code.wp_only (R:=fun bz a5=>aE (fun i=>(rg 123 127 i)) c bz∧aG B a5 pb v P fA (lH lO x.QJ y++(y.runs.flatMap (kP P y)++(say b4 y.pos 3++((x.QL.take n).flatMap (js P x.QJ)++L))))∧aD (fun k=>k=pb) wc a5) ?_ ?_
  ·have a7:aE (fun i=>(rg 123 127 i)) c c:=aE.refl _ _
   obtain⟨T,d⟩:=c;refine rl ?_
   iterate 4 with_reducible refine st ?_
   with_reducible refine Lz (fun K hK=>?_)
   go_simp;refine c3.out.mono ?_;rintro e w2 ⟨rfl,Y,D⟩;with_reducible refine hK _ _ ?_;clear hK K
   refine ln ⟨rfl,?_,?_,?_⟩
   ·exact ag
   ·exact Y
   ·exact D
  rintro bz a5 ⟨u,c6,di⟩;replace H:=u.Q7 H rfl;replace N:=u.Q7 N rfl;replace O:=u.Q7 O rfl;have d0:=u.size.trans cf;have d7:=u.defers.trans dc;have HS:js P x.QJ y=(say b4 y.pos 3++y.runs.flatMap (kP P y))++lH lO x.QJ y:=by rw[cp.out];rfl
  refine⟨(aE.trans (aE.trans (aE.trans (aE.trans (aE.refl (fun i=>i==8||i==10||(rg 90 127 i)) _) g ζ) l ζ) X ζ) u ζ),c6.congr fun p=>?_,(cw.out.trans bg.out (fun _ _ h=>h)).trans di (fun _ _ h=>h)⟩;rw[aO HX.out,List.flatMap_append,List.flatMap_cons,List.flatMap_nil,List.append_nil,HS];simp only[List.mem_append]
  try simp only[or_assoc,or_comm,or_left_comm]
 ·rintro b wr hA ⟨hL,hk⟩
  rw[List.take_length]at hL;exact HQ.out _ _ (aE.trans (q.m) hA ζ) hL hk
theorem sT{v:ae}{P:aF}(h:aG B w pb v P fA L){mc mb:Nat}(bx:w.heap[mc]?=some (.cells #[.map (some mb)] 180 (0,0)))(bp:km w mb P)(a8:mc≠pb∧mb≠pb)(a:Act)(c5:a.tmps.size=130)(h0:At a 0 (.pointer (some ⟨pb,0,none⟩)))(h2:At a 2 (.pointer (some ⟨mc,0,none⟩)))(Q:Exit→Act→World→Prop)
 (hQ:∀a' w',aE (fun i=>i==6||i==8||i==10||(rg 63 129 i)) a a'→aG B w' pb v P fA (P.Q9.flatMap (kG lO P)++L)→aD (fun k=>k=pb) w w'→Q .normal a' w'):
 (ax Tryz.f31 [1,1,1,1]).wp Tryz.prog Q a w:=by
 have hd:a.defers=a.defers:=rfl;have dt:=h.lt;have dk:=h.base;have bf:=hh bx;have cd:=hh bp;have HL:=hh h;obtain⟨A_p,a0,b2,d0,hn,hl⟩:=h.QU.Q9;unfold top at hn;have cu:=hh hl;have HQ:=hh hQ;have q9:w.cell? ⟨pb,9,none⟩=some (.slice A_p P.Q9.length a0):=by rw[←b2];exact h.cell rfl
 clear h bx bp hl hQ b2
 conv=>arg 2;whnf
 refine so (fun W Z=>aE (fun i=>(rg 63 69 i)) a W∧At W 67 (.slice A_p P.Q9.length a0)∧At W 68 (.int .i64 P.Q9.length)∧At W 69 (.int .i64 0)∧Z=w) ?_ ?_
 ·have a3:aE (fun i=>(rg 63 69 i)) a a:=aE.refl _ _
  obtain⟨T,d⟩:=a;refine rl ?_
  iterate 7 with_reducible refine st ?_
  refine ln ⟨rfl,ag,aq,aq,aq,rfl⟩
 rintro W Z ⟨y,c8,c7,c6,rfl⟩;replace h0:=y.Q7 h0 rfl;replace h2:=y.Q7 h2 rfl;have bz:=y.size.trans c5;have cy:=y.defers.trans hd;refine bX P.Q9.length (fun i=>i==6||i==8||i==10||(rg 69 129 i)) (fun i=>i==6||i==8||i==10||(rg 71 128 i)) (fun k _ w'=>aG B w' pb v P fA ((P.Q9.take k).flatMap (kG lO P)++L)∧aD (fun k=>k=pb) Z w') χ c6 c7 ψ rfl
  ζ χ ψ (fun k a1 a2 w hA hI=>hI) ⟨by simpa using HL.out,aD.refl _ _⟩ ?_ ?_
 ·rintro n b wr bw hA bc ⟨hL,hk⟩
  obtain⟨bl,off,rfl,cx,bs⟩:=cu.out χ;obtain⟨x,hx⟩:=ge bw;have bo:=hk.below (B:=B) χ (fun _ hi e=>χ);obtain⟨lv,hc,u,_,dc,_⟩:=(eR B) _ _ _ _ _ bo cx (bs n x hx);obtain⟨A_l,af,rfl,u⟩:=u;have cp:Hid (aM B 4 (iu B) wr (.slice A_l x.QL.length af) x.QL):=hh ⟨A_l,af,rfl,u⟩;have q0:=hc.c0;have q1:=hc 1 _ rfl;have q2:=hc 2 _ rfl;have q3:=hc 3 _ rfl;have I:=hA.Q7 h0 rfl;have J:=hA.Q7 h2 rfl;have Y:=hA.Q7 c8 rfl;have b0:=hA.size.trans bz;have c3:=hA.defers.trans cy;have di:=hk.size;have c9:bl<wr.heap.size:=χ
  have ds:n≤a0:=χ
  have HX:=hh hx;have cm:=hh hL;have HK:=hh hk;have bg:=hh ((hk.block mc (aH bf.out) (by exact a8.1)).trans bf.out);have cf:=hh (cd.out.keep hk (by exact a8.2));have d1:=hL.lt;clear hx bs hc hA hk hL u bo q9;refine so (fun E C=>aE (fun i=>i==6||i==71||i==72) b E∧At E 6 (.pointer (some ⟨wr.heap.size,0,none⟩))∧C=wr.alloc (.cells #[.int .i64 x.pos,.string x.name,.int .u64 x.QJ,.slice A_l x.QL.length af] 68)) ?_ ?_
  ·have a3:aE (fun i=>i==6||i==71||i==72) b b:=aE.refl _ _
   obtain⟨T,d⟩:=b;refine rl ?_
   iterate 4 with_reducible refine st ?_
   refine ln ⟨rfl,ag,aq,rfl⟩
  rintro E C ⟨g,V,H⟩;replace I:=g.Q7 I rfl;replace J:=g.Q7 J rfl;replace Y:=g.Q7 Y rfl;replace bc:=g.Q7 bc rfl;have a9:=g.size.trans b0;have bt:=g.defers.trans c3;obtain⟨zx,bb⟩:∃z,z=wr.heap.size:=⟨_,rfl⟩;rw[←bb]at V;have fx:C.heap[zx]?=some (.cells #[.int .i64 x.pos,.string x.name,.int .u64 x.QJ,.slice A_l x.QL.length af] 68 (0,0)):=by rw[H,bb];exact heap_alloc_new _ _
  have U:Kz wr C:=by rw[H];exact(aD.refl _ _).alloc _
  have p0:C.cell? ⟨zx,0,none⟩=some (.int .i64 x.pos):=cr fx rfl;have p2:C.cell? ⟨zx,2,none⟩=some (.int .u64 x.QJ):=cr fx rfl;have b3:zx≠pb:=χ
  have FX:=hh fx;have cs:=hh ((U.block mc (aH bg.out) (fun h=>h)).trans bg.out);have cc:=hh (cf.out.keep U (fun h=>h));have cj:=hh (cp.out.below (d5 _) (U.below (B:=B) χ (fun _ _ h=>h)));have be:=hh (cm.out.new U);have bd:=hh (HK.out.trans U (fun _ _ h=>h.elim));clear H bb fx U q0 q1 q2 q3 Y bc;obtain⟨lo,X⟩:∃b,b=decide (x.QJ<1):=⟨_,rfl⟩;have b5:decide ((x.QJ:Int)<1)=lo:=by rw[X];exact decide_eq_decide.2 χ
  obtain⟨hi,a6⟩:∃b,b=decide (65536<x.QJ):=⟨_,rfl⟩;have b4:decide ((65536:Int)<(x.QJ:Int))=hi:=by rw[a6];exact decide_eq_decide.2 χ
  have b6:decide (x.QJ=0)=lo:=by rw[X];exact decide_eq_decide.2 χ
  have ca:decide ((x.QJ:Int)=0)=lo:=by rw[X];exact decide_eq_decide.2 χ
  have al:Hid ((lo||hi)=decide (x.QJ<1∨65536<x.QJ)):=hh (by rw[X,a6,Bool.decide_or]);clear X a6;have d2:=aU;refine wp_seq (wp_seq (Code.wp_only (R:=fun D ac=>aE (fun i=>(rg 73 80 i)) E D∧At D 80 (.bool (lo||hi))∧ac=C) ?_ ?_))
  ·have a3:aE (fun i=>(rg 73 80 i)) E E:=aE.refl _ _
   obtain⟨T,d⟩:=E;refine rl ?_
   iterate 4 with_reducible refine st ?_
   cases lo
   ·skip
    iterate 4 with_reducible refine st ?_
    refine ln ⟨rfl,?_,?_,rfl⟩
    ·exact ag
    ·simp only[Bool.false_or,Bool.true_or];exact At.self
   ·skip
    iterate 4 with_reducible refine st ?_
    refine ln ⟨rfl,?_,?_,rfl⟩
    ·exact ag
    ·simp only[Bool.false_or,Bool.true_or];exact At.self
  rintro D ac ⟨l,an,rfl⟩;replace I:=l.Q7 I rfl;replace J:=l.Q7 J rfl;replace V:=l.Q7 V rfl;have O:=l.size.trans a9;have a5:=l.defers.trans bt;refine wp_cond_split (an.eval χ) (fun hg=>?_) (fun hg=>?_)
  ·have N:x.QJ<1∨65536<x.QJ:=by have h1:=al.out;rw[hg]at h1;exact of_decide_eq_true h1.symm
   clear hg b5 b4 b6 ca an;refine so (fun bm ad=>aE (fun i=>(rg 81 84 i)) D bm∧aG B ad pb v P fA ((x.pos,2)::((P.Q9.take n).flatMap (kG lO P)++L))∧aD (fun k=>k=pb) ac ad) ?_ ?_
   ·have a3:aE (fun i=>(rg 81 84 i)) D D:=aE.refl _ _
    obtain⟨T,d⟩:=D;refine rl ?_
    iterate 3 with_reducible refine st ?_
    with_reducible refine Lz (fun K hK=>?_)
    go_simp;refine(fX x.pos 2 92 be.out rfl).mono ?_;rintro e w2 ⟨rfl,a4,a7⟩;with_reducible refine hK _ _ ?_;clear hK K
    refine ln ⟨rfl,?_,?_,?_⟩
    ·exact ag
    ·exact a4
    ·exact a7
   rintro bm ad ⟨q,a4,a7⟩;replace I:=q.Q7 I rfl;replace J:=q.Q7 J rfl;replace V:=q.Q7 V rfl;have b1:=q.size.trans O;have cb:=q.defers.trans a5;refine wp_exit ?_
   repeat with_reducible apply eP
   simp only[bi,if_true];refine⟨(aE.trans (aE.trans (aE.trans (aE.refl (fun i=>i==6||i==8||i==10||(rg 71 128 i)) _) g ζ) l ζ) q ζ),a4.congr fun p=>?_,bd.out.trans a7 (fun _ _ h=>h)⟩;rw[aO HX.out,List.flatMap_append,List.flatMap_cons,List.flatMap_nil,List.append_nil,show kG lO P x=[(x.pos,2)] from by unfold kG;rw[if_pos N]];simp only[List.mem_append,List.mem_cons,List.mem_nil_iff,or_false]
   try simp only[or_assoc,or_comm,or_left_comm]
  ·have N:¬ (x.QJ<1∨65536<x.QJ):=by have h1:=al.out;rw[hg]at h1;exact of_decide_eq_false h1.symm
   refine wp_skip ?_;refine sU be.out cs.out cc.out a8 N cj.out FX.out b3 D O I J V _ ?_;intro c wc cv cw c4;refine⟨(aE.trans (aE.trans (aE.trans (aE.refl (fun i=>i==6||i==8||i==10||(rg 71 128 i)) _) g ζ) l ζ) cv ζ),cw.congr fun p=>?_,bd.out.trans c4 (fun _ _ h=>h)⟩;rw[aO HX.out,List.flatMap_append,List.flatMap_cons,List.flatMap_nil,List.append_nil,show kG lO P x=x.QL.flatMap (js P x.QJ) from by unfold kG;rw[if_neg N];rfl];simp only[List.mem_append]
   try simp only[or_assoc,or_comm,or_left_comm]
 ·rintro b wr hA ⟨hL,hk⟩
  rw[List.take_length]at hL;exact HQ.out _ _ (aE.trans (y.m) hA ζ) hL hk
end
open Go.RowKit Go.IntWalk Go.Shelf Ck
variable {w:World} {B:Nat}
attribute [local go_sem] Oper.semAt_some
def CZ(P:aF)(l:List (Fin P.Q4.length)):ByteArray→Value:=qi (fun i=>P.Q4[i].name) (fun i =>.int .u64 (P.Q4[i].QN:Nat)) (fun _ =>.int .u64 0) l
theorem B5(P:aF)(s:ByteArray):CZ P (List.finRange _) s=.int .u64 (lR P s:Nat):=by
 unfold CZ lR;rw[iW,jd P.Q4]
 cases(List.finRange P.Q4.length).find? fun i=>decide (P.Q4[i].name=s)<;>rfl
theorem vh{P:Program}{f:FuncId}{fn:Func}{N:Nat}{args:Array Value}{R:Ending→World→Prop}(q:P.funcs[f]?=some fn)(j:fn.ntmps=N)(l:fn.body.isSome=true)(u:args.size≤N)
 (h:∀a:Act,a.tmps.size=N→a.defers=[]→(∀i v,args[i]?=some v→At a i v)→(ax fn []).wp P (bodyPostM Fence.wide 9 P fn R) a w):Calls P f args w R:=by
 obtain⟨c,d⟩:=Option.isSome_iff_exists.1 l;have e:ax fn []=c:=by unfold ax;rw[d];rfl
 rw[e]at h;refine(callsIn_wide (n:=9)).1 (callsIn_of_wp_marks q d trivial (wpIn_wide.2 (h _ ?_ rfl fun i v g=>?_)))
 ·simp[j];omega
 ·intro x
  have hi:i<args.size:=(ϱ.1 g).1;show(args++Array.replicate (fn.ntmps-args.size) undef)[i]=v;rw[Array.getElem_append_left hi];exact(ϱ.1 g).2
theorem zz{β:Type}{N k:Nat}{cs:Array Value}{t:TypeId}{z:Nat×Nat}:OwnFrom N (fun(_:β) W=>W.heap[k]?=some (.cells cs t z)):=Own.from (cq k cs t z) N
theorem BR(T:Array Value)(p q:Nat)(u v:Value):(#[p,q].zip #[u,v]).foldl (fun(t:Array Value) (x:Nat×Value)=>match x with|(p,v)=>t.setIfInBounds p v) T=(T.setIfInBounds p u).setIfInBounds q v:=by
 simp[List.zip_toArray]
theorem uf{v:ae}{P:aF}(hp:bD B w v P)(V:B≤w.heap.size){A_s:Option Addr}{U:Nat}(y:v.Q4=.slice A_s P.Q4.length U){C mc bx:Nat}(hm:w.heap[C]?=some (.map #[] 0))(Y:w.heap[mc]?=some (.cells #[.map (some C)] 180 (0,0)))(X:w.heap[bx]?=some (.cells #[.slice A_s P.Q4.length U] 25 (0,0)))
 (bc:B≤C)(a:Act)(ac:a.tmps.size=130)(h2:At a 2 (.pointer (some ⟨mc,0,none⟩)))(a2:At a 55 (.func (.func 127) #[] #[.pointer (some ⟨bx,0,none⟩)]))(Q:Exit→Act→World→Prop)
 (hQ:∀D W,w.heap.size≤D→km W C P→W.heap[mc]?=some (.cells #[.map (some C)] 180 (0,0))→aD (fun k=>k=C) w W→W.heap[D]?=some (.deferred (some []))→Q .normal { a with defers:={ target := .collected D,args := #[] }::a.defers } W):
 (ax Tryz.f31 [1,1,1,0,1]).wp Tryz.prog Q a w:=by
 have H:=hp.Q4;rw[y]at H;obtain⟨_,_,e,a6,hn,hl⟩:=H
 cases e
 unfold top at hn;have HQ:=hh hQ;have a8:=aH Y;have af:=aH hm;have a4:=aH X;have a7:mc≠C:=by rintro rfl;rw[Y]at hm;cases hm
 have a5:bx≠C:=by rintro rfl;rw[X]at hm;cases hm
 clear hQ
 conv=>arg 2;whnf
 refine wp_block ((wpIn_wide (n:=9)).1 ?_);obtain⟨q,Z,I⟩:=mL (σ:=(Option Addr×Nat)×(Option Addr×Nat)) (fun(x:ak) s=>[.int .i64 x.pos,.string x.name,.int .u64 x.QN,.bool x.stopped,.slice s.1.1 x.QA.length s.1.2,.slice s.2.1 x.QO.length s.2.2]) (fun x _=>aV x.name) (fun b o x hx=>by
  obtain⟨u,u2,hc,⟨Am,cm,rfl,_⟩,⟨Ar,cR,rfl,_⟩,_,_,H⟩:=hx;exact⟨((Am,cm),(Ar,cR)),hc,H⟩) hl
 obtain⟨vs,y⟩:∃vs:Nat→Nat→Value,vs=fun j c=>if h:j<P.Q4.length then([.int .i64 P.Q4[j].pos,.string P.Q4[j].name,.int .u64 P.Q4[j].QN,.bool P.Q4[j].stopped,.slice (q j).1.1 P.Q4[j].QA.length (q j).1.2,.slice (q j).2.1 P.Q4[j].QO.length (q j).2.2]:List Value).getD c undef else undef:=⟨_,rfl⟩
 have hA:0<P.Q4.length→∃b off,A_s=some ⟨b,off,none⟩∧b<w.heap.size∧b≠C∧∀j c,j<P.Q4.length→c<6→w.cell? ⟨b,off+j*6+c,none⟩=some (vs j c):=fun al=>by
  obtain⟨b,off,h1,h2,E⟩:=Z al;refine⟨b,off,h1,χ,χ,fun j c hj hc=>?_⟩;rw[y];simp only[dif_pos hj];refine(E j hj) c _ ?_
  match c,hc with
  | 0,_=>rfl
  | 1,_=>rfl
  | 2,_=>rfl
  | 3,_=>rfl
  | 4,_=>rfl
  | 5,_=>rfl
 have O:=qG Fence.wide 8 trivial rfl ψ bx C w.heap.size P.Q4.length U A_s vs χ a6 ⟨a4,a5⟩ w (Γ _) (cell_of_one X) hA;rw[show(fun x:Fin P.Q4.length=>(#[.int .i64 (x.val:Int),.agg #[vs x.val 0,vs x.val 1,vs x.val 2,vs x.val 3,vs x.val 4,vs x.val 5]]:Array Value))=fun x =>#[.int .i64 (x.val:Int),.agg #[.int .i64 P.Q4[x.val].pos,.string P.Q4[x.val].name,.int .u64 P.Q4[x.val].QN,.bool P.Q4[x.val].stopped,.slice (q x.val).1.1 P.Q4[x.val].QA.length (q x.val).1.2,.slice (q x.val).2.1 P.Q4[x.val].QO.length (q x.val).2.2]] from by
  funext x
  rw[y];simp only[dif_pos x.isLt];rfl]at O
 have a1:a.eval (.tmp 55)=.func (.func 127) #[] #[.pointer (some ⟨bx,0,none⟩)]:=a2.eval (by rw[ac];decide);refine wpIn_rangeFunc_ownH (F:=Fence.wide) (n:=9) rfl ψ (gf:=127) (lb := #[.pointer (some ⟨bx,0,none⟩)]) a1 trivial (enters_of Tryz.func127 δ rfl)
  O lI (wZ (Γ _)) (Below.refl _ _) (fun _=>rfl)
  (fun g W=>(cV W C g.length (.int .u64 0) (CZ P g.reverse) (qg (fun i=>P.Q4[i].name) (fun _=>false) g.reverse)∧W.heap[mc]?=some (.cells #[.map (some C)] 180 (0,0)))∧(aD (fun k=>k=C) w W))
  (fun _ _ _=>False)
  (OwnFrom.and (OwnFrom.and (fun s A B row H hg hr=>cV.own H hg (fun r e=>(hr r e).1) af) zz) (fun s A B row H hg hr=>H.trans (aD.of_grown hg (S:=fun k=>w.heap.size≤k) (fun k e=>(hr k e).1)) (fun i hi h=>χ)))
  (fun _ _ _ _ _ H _ _=>H)
  ⟨⟨cV.new _ _ _ hm,Y⟩,aD.refl _ _⟩
  (fun x (a':Act) (W:World)=>∃Bx:Nat,W.heap[Bx]?=some (Obj.cells #[.int .i64 P.Q4[x.val].pos,.string P.Q4[x.val].name,.int .u64 P.Q4[x.val].QN,.bool P.Q4[x.val].stopped,.slice (q x.val).1.1 P.Q4[x.val].QA.length (q x.val).1.2,.slice (q x.val).2.1 P.Q4[x.val].QO.length (q x.val).2.2] 45 (0,0))∧a'.tmps.size=130∧At a' 2 (.pointer (some ⟨mc,0,none⟩))∧At a' 4 (.pointer (some ⟨Bx,0,none⟩)))
  (fun x a' s A B row H hg hr=>by
   obtain⟨Bx,h2,E⟩:=H;exact⟨Bx,iC h2 hg (fun r e=>(hr r e).2),E⟩)
  ?assign ?body ?done ?stop
 case assign =>
  rintro l g x W K ⟨⟨R,E⟩,V⟩ L;have ad:=aH E;have HK:=hh L;clear O hA I Z y hl L hp;obtain⟨T,d⟩:=a;have a9:((T.setIfInBounds 56 (.int .i64 (x.val:Int))).setIfInBounds 57 (.agg #[.int .i64 P.Q4[x.val].pos,.string P.Q4[x.val].name,.int .u64 P.Q4[x.val].QN,.bool P.Q4[x.val].stopped,.slice (q x.val).1.1 P.Q4[x.val].QA.length (q x.val).1.2,.slice (q x.val).2.1 P.Q4[x.val].QO.length (q x.val).2.2])).size=130:=by simpa using ac
  refine wpIn_region_lit ?_;rw[BR]
  dsimp only
  iterate 2
   with_reducible refine wpListIn_step (fun K L=>?_)
   go_simp;with_reducible refine L _ _ ?_;clear L K
  refine wpListIn_nil ?_;refine HK.out _ _ ((KeepsOthers.alloc _ _).from _) ((aD.refl _ _).alloc _) ⟨⟨R.keep (((aD.refl (fun _=>False) _).alloc _)) (fun h=>h),(Below.heap_alloc _ _ _ ad).trans E⟩,V.alloc _⟩ ⟨W.heap.size,heap_alloc_new _ _,?_,?_,?_⟩
  ·simpa using ac
  ·(repeat (first|with_reducible exact At.self|with_reducible apply At.ne));all_goals first|decide|with_reducible exact h2
  ·exact aq
 case body =>
  rintro l g x a' W hl _ ⟨⟨R,E⟩,V⟩ ⟨Bx,hX,J,k2,k4⟩ bb;have q1:W.cell? ⟨Bx,1,none⟩=some (.string P.Q4[x.val].name):=cr hX rfl;have q2:W.cell? ⟨Bx,2,none⟩=some (.int .u64 P.Q4[x.val].QN):=cr hX rfl;have qm:=cell_of_one E;have an:=I x.val x.isLt;have HS:=hh R;have H3:=hh E;have HB:=hh V;have a0:Hid (aV P.Q4[x.val].name):=hh an;clear R E V hX O hA I Z y an hp;obtain⟨T,d⟩:=a';refine wpIn_block (wpIn_region_lit ?_)
  iterate 5
   with_reducible refine wpListIn_step (fun K L=>?_)
   go_simp;with_reducible refine L _ _ ?_;clear L K
  refine cV.updateIn rfl HS.out (by unfold maxLen;omega) rfl rfl Tryz.underlying180 (At.eval (by exact aq) (by have:=J;simp at this⊢; omega)) (At.eval (by exact aq) (by have:=J;simp at this⊢; omega)) (Δ a0.out (by unfold maxLen;omega)) (At.eval (by exact aq) (by have:=J;simp at this⊢; omega)) ?_;intro w2 a3 N;refine wpListIn_nil ?_;have e1:(g++[x]).reverse=x::g.reverse:=ξ
  have e2:(g++[x]).length=g.length+1:=ξ
  refine⟨iX N af,N.mono fun _ _ h =>.inl h,⟨?_,(N.block _ (aH H3.out) a7).trans H3.out⟩,HB.out.trans N (fun _ _ h=>h)⟩;rw[e1,e2];exact a3
 case done =>
  rintro D ys W hD rfl ⟨⟨R,E⟩,V⟩ L;rw[ki]at R;have f1:CZ P (List.finRange _)=fun s =>.int .u64 (lR P s:Nat):=funext fun s=>B5 P s
  rw[f1]at R;exact HQ.out D W hD ⟨_,_,R⟩ E V L
 case stop =>
  rintro D c g W _ _ h _;exact h.elim
theorem qc{w':World}{pb:Nat}{v:ae}{P:aF}{W:Int→Int}{L:List Wr}(h:aG B w pb v P W L){m:Nat}(hk:aD (fun k=>k=m) w w')(l:m<w.heap.size→B≤m∧gb w m=none):aG B w' pb v P W L:=
 h.keep hk fun k q j=>by
  subst q;obtain⟨g,d⟩:=l j;exact⟨g,by rw[d];simp,by rw[d];simp⟩
theorem xp{pb:Nat}{v:ae}{P:aF}(h:aG B w pb v P fA []):Calls Tryz.prog 31 #[.pointer (some ⟨pb,0,none⟩)] w fun e w'=>e=.returned (.tuple #[])∧aG B w' pb v P fA (kW lO P)∧aD (fun k=>k=pb) w w':=by
 have ew:=h.base;have e0:=h.lt;obtain⟨A_t,ds,c3,_,ei,_⟩:=h.QU.QI;obtain⟨A_p,b4,cy,ey,ee,cv⟩:=h.QU.Q9;obtain⟨A_m,dk,cx,_,ed,_⟩:=h.QU.QC;obtain⟨A_s,Z,en,ez,eg,ea⟩:=h.QU.Q4;unfold top at ei ee ed eg;have eq:w.cell? ⟨pb,11,none⟩=some (.slice A_t P.QI.length ds):=by rw[←c3];exact h.cell rfl
 have q0:w.cell? ⟨pb,0,none⟩=some (.int .i64 P.pos):=h.cell rfl;have c8:=hh (h.new ((aD.refl _ w).drew));have b3:=hh cv;have bg:=hh en;clear h cv ea c3;refine vh Tryz.func31 Tryz.ntmps31 rfl (by show 1≤130;decide) fun a ej hd hh=>?_
 have h0:At a 0 (.pointer (some ⟨pb,0,none⟩)):=hh 0 _ rfl;clear hh
 conv=>arg 2;whnf
 obtain⟨bs,hbs⟩:∃b,b=decide (0<P.QI.length):=⟨_,rfl⟩;have c4:decide ((0:Int)<(P.QI.length:Int))=bs:=by rw[hbs];exact decide_eq_decide.2 χ
 have c5:decide (0<P.QI.length)=bs:=hbs.symm;have c7:=hh hbs;clear hbs;refine so (fun V u=>aE (fun i=>(rg 11 24 i)) a V∧aG B u pb v P fA (say bs P.pos 0)∧aD (fun k=>k=pb) w u) ?_ ?_
 ·have a0:aE (fun i=>(rg 11 24 i)) a a:=aE.refl _ _
  obtain⟨T,d⟩:=a;refine wp_region_still_tail 13 δ δ ?_;simp only[List.take_succ_cons,List.take_zero,List.drop_succ_cons,List.drop_zero]
  iterate 13 with_reducible refine sl ?_
  with_reducible refine wpStill_nil ?_;refine Lz (fun K hK=>?_)
  go_simp;refine(aR bs P.pos 0 107 c8.out rfl).mono ?_;rintro e w2 ⟨rfl,bo,bw⟩;with_reducible refine hK _ _ (ln ?_)
  refine⟨rfl,ag,by simpa using bo,((aD.refl _ _).drew).trans bw (fun _ _ e=>e)⟩
 rintro V u ⟨L,q,af⟩;replace h0:=L.Q7 h0 rfl;have cw:=L.size.trans ej;have d7:=L.defers.trans hd;have p9:u.cell? ⟨pb,9,none⟩=some (.slice A_p P.Q9.length b4):=by rw[←cy];exact q.cell rfl
 have eo:u.cell? ⟨pb,10,none⟩=some (.slice A_m P.QC.length dk):=by rw[←cx];exact q.cell rfl
 have p5:u.cell? ⟨pb,5,none⟩=some (.slice A_s P.Q4.length Z):=by rw[←bg.out];exact q.cell rfl
 clear cy cx c4 c5 q0 eq;obtain⟨bp,a3⟩:∃b,b=decide (1<P.Q9.length):=⟨_,rfl⟩;have bc:decide ((1:Int)<(P.Q9.length:Int))=bp:=by rw[a3];exact decide_eq_decide.2 χ
 have bd:decide (1<P.Q9.length)=bp:=a3.symm;have b0:=hh a3;clear a3;have b2:=hh q;have b1:=hh af;clear q af;refine wp_seq (wp_seq (Code.wp_only (R:=fun I U=>aE (fun i=>(rg 25 31 i)) V I∧At I 31 (.bool bp)∧U=u) ?_ ?_))
 ·have a0:aE (fun i=>(rg 25 31 i)) V V:=aE.refl _ _
  obtain⟨T,d⟩:=V;refine rl ?_
  iterate 7 with_reducible refine st ?_
  refine ln ⟨rfl,ag,aq,rfl⟩
 rintro I U ⟨N,bb,rfl⟩;replace h0:=N.Q7 h0 rfl;have bz:=N.size.trans cw;have cd:=N.defers.trans d7;refine Code.wp_only (R:=fun X g=>aE (fun i=>(rg 32 48 i)) I X∧aG B g pb v P fA (say bs P.pos 0++(match P.Q9[1]? with|some x=>say (decide (0<P.QC.length)) x.pos 1|none=>[]))∧aD (fun k=>k=pb) U g) ?_ ?_
 ·refine wp_cond_split (bb.eval χ) (fun hg=>?_) (fun hg=>?_)
  ·have a8:1<P.Q9.length:=by have h1:=b0.out;rw[hg]at h1;exact of_decide_eq_true h1.symm
   obtain⟨x,hx⟩:=ge a8;obtain⟨bl,off,rfl,d3,a6⟩:=b3.out χ;obtain⟨lv,hc,_⟩:=(eR B) _ _ _ _ _ (b1.out.below (B:=B) χ (fun _ hi e=>χ)) d3 (a6 1 x hx);have r0:=hc.c0;rw[Nat.one_mul]at r0;obtain⟨bm,a2⟩:∃b,b=decide (0<P.QC.length):=⟨_,rfl⟩;have es:decide ((0:Int)<(P.QC.length:Int))=bm:=by rw[a2];exact decide_eq_decide.2 χ
   have eu:decide (0<P.QC.length)=bm:=a2.symm;have HX:=hh hx;have c6:=hh a2;have e1:1≤b4:=χ
   have e2:(1:Int)<(P.Q9.length:Int):=χ
   have dc:=hh (b2.out.new ((aD.refl _ U).drew));clear a2 hx hc a6 hg bc bd bb;have a0:aE (fun i=>(rg 32 48 i)) I I:=aE.refl _ _;obtain⟨T,d⟩:=I;refine wp_region_still_tail 16 δ δ ?_;simp only[List.take_succ_cons,List.take_zero,List.drop_succ_cons,List.drop_zero]
   iterate 16 with_reducible refine sl ?_
   with_reducible refine wpStill_nil ?_;refine Lz (fun K hK=>?_)
   go_simp;refine(aR bm x.pos 1 106 dc.out rfl).mono ?_;rintro e w2 ⟨rfl,bo,bw⟩;with_reducible refine hK _ _ (ln ?_)
   refine⟨rfl,?_,bo.congr fun p=>?_,((aD.refl _ _).drew).trans bw (fun _ _ e=>e)⟩
   ·exact ag
   ·rw[HX.out,c6.out]
    simp only[List.mem_append]
    try simp only[or_comm]
  ·have a8:¬ 1<P.Q9.length:=by have h1:=b0.out;rw[hg]at h1;exact of_decide_eq_false h1.symm
   refine wp_skip ⟨rfl,aE.refl _ _,?_,aD.refl _ _⟩;rw[List.getElem?_eq_none χ]
   simpa using b2.out
 rintro X g ⟨O,a1,cj⟩;replace h0:=O.Q7 h0 rfl;have a5:=O.size.trans bz;have bt:=O.defers.trans cd;have p5:g.cell? ⟨pb,5,none⟩=some (.slice A_s P.Q4.length Z):=by rw[←bg.out];exact a1.cell rfl
 have c9:=hh a1;have be:Hid (aD (fun k=>k=pb) w g):=b1.out.trans cj (fun _ _ h=>h);have a9:=a1.lt;clear a1 cj p9 eo bc bd b3;have ec:=@run_makeMap Tryz.prog;refine so (fun J j=>aE (fun i=>i==2||i==49) X J∧At J 2 (.pointer (some ⟨g.heap.size+1,0,none⟩))∧j=(g.alloc (.map #[] 0)).alloc (.cells #[.map (some g.heap.size)] 180)) ?_ ?_
 ·have a0:aE (fun i=>i==2||i==49) X X:=aE.refl _ _
  obtain⟨T,d⟩:=X;refine rl ?_
  iterate 3 with_reducible refine st ?_
  refine ln ⟨rfl,ag,aq,rfl⟩
 rintro J j ⟨Q,h2,l⟩;replace h0:=Q.Q7 h0 rfl;have al:=Q.size.trans a5;have a4:=Q.defers.trans bt;clear ec;obtain⟨mb,Y⟩:∃m,m=g.heap.size:=⟨_,rfl⟩;rw[←Y]at h2 l;have s4:j.heap.size=mb+2:=by rw[l,Y];simp
 have f1:j.heap[mb]?=some (.map #[] 0):=by rw[l,Y,Below.heap_alloc _ _ _ ξ];exact heap_alloc_new _ _
 have f2:j.heap[mb+1]?=some (.cells #[.map (some mb)] 180 (0,0)):=by
  rw[l];have:=heap_alloc_new (g.alloc (.map #[] 0)) (.cells #[.map (some mb)] 180)
  rwa[World.size_alloc,←Y]at this
 have cm:Kz g j:=by rw[l];exact((aD.refl _ _).alloc _).alloc _
 replace p5:=(cm.cell (p:=⟨pb,5,none⟩) a9 (fun h=>h)).trans p5;have bf:=hh Y;have di:=hh s4;clear l Y s4;refine wp_seq (wp_seq (Code.wp_only (R:=fun E H=>aE (fun i=>(rg 50 55 i)) J E∧At E 55 (.func (.func 127) #[] #[.pointer (some ⟨j.heap.size,0,none⟩)])∧H=j.alloc (.cells #[.slice A_s P.Q4.length Z] 25)) ?_ ?_))
 ·have a0:aE (fun i=>(rg 50 55 i)) J J:=aE.refl _ _
  obtain⟨T,d⟩:=J;refine rl ?_
  iterate 5 with_reducible refine st ?_
  with_reducible refine Lz (fun K hK=>?_)
  go_simp;refine((callsIn_wide (n:=9)).1 (pP Fence.wide 9 trivial rfl A_s P.Q4.length Z _)).mono ?_;rintro e w5 ⟨rfl,rfl⟩;with_reducible refine hK _ _ ?_;clear hK K
  refine ln ⟨rfl,ag,aq,rfl⟩
 rintro E H ⟨C,b5,an⟩;replace h0:=C.Q7 h0 rfl;replace h2:=C.Q7 h2 rfl;have y:=C.size.trans al;have ac:=C.defers.trans a4;obtain⟨bx,cc⟩:∃m,m=j.heap.size:=⟨_,rfl⟩;rw[←cc]at b5;have f3:H.heap[bx]?=some (.cells #[.slice A_s P.Q4.length Z] 25 (0,0)):=by rw[an,cc];exact heap_alloc_new _ _
 have ad:Kz j H:=by rw[an];exact(aD.refl _ _).alloc _
 have a7:Kz g H:=cm.trans ad (fun _ _ h=>h);have cb:=c9.out.new a7;have er:pb<mb:=by rw[bf.out];exact a9
 have e6:=ad.size;have e5:=di.out;refine uf cb.QU χ bg.out ((ad.block mb (aH f1) (fun h=>h)).trans f1) ((ad.block (mb+1) (aH f2) (fun h=>h)).trans f2) f3 χ E y h2 b5 _ ?_;intro D W hD d4 eb cp hK;with_reducible apply bK
 have d2:=qc cb cp (fun _=>⟨χ,by unfold gb;rw[(ad.block mb (aH f1) (fun h=>h)).trans f1]⟩);refine sT d2 eb d4 ⟨χ,χ⟩ { tmps:=E.tmps,defers:={ target := .collected D,args := #[] }::E.defers } y h0 h2 _ ?_;intro a' w' dt d1 cf;have d8:a'.defers=[{ target := .collected D,args := #[] }]:=by rw[dt.defers];show _::E.defers=_;rw[show E.defers=[] from ac]
 have d0:D≠pb:=χ
 have b6:w'.heap[D]?=some (.deferred (some [])):=(cf.block D (aH hK) d0).trans hK;have cu:aD (fun k=>k=D) w' (w'.putObj D (.deferred none)):=aD.of_grown (grownBy_putObj' w' D (.deferred none)) (fun k e=>by cases e;rfl);have ca:=qc d1 cu (fun _=>⟨χ,by unfold gb;rw[b6]⟩);have d9:aD (fun k=>k=pb) w w':=((be.out.trans a7 (fun _ _ h=>h.elim)).trans cp (fun i hi e=>by have:=be.out.size;have:=bf.out;omega)).trans cf (fun _ _ h=>h);have cs:aD (fun k=>k=pb) w (w'.putObj D (.deferred none)):=d9.trans cu (fun i hi e=>by have:=be.out.size;have:=bf.out;omega);show LeavesInM Fence.wide 9 Tryz.prog Tryz.f31 a'.tmps _ a'.defers .returning w';rw[d8];refine⟨ξ,.inl ⟨_,_,rfl,run_takeDeferred b6,?_⟩⟩;refine⟨_,results_none rfl _ _ _,rfl,ca.congr fun p=>?_,cs⟩;unfold kW;rw[c7.out];simp only[List.mem_append]
 try simp only[or_assoc,or_comm,or_left_comm]
 exact Iff.rfl
