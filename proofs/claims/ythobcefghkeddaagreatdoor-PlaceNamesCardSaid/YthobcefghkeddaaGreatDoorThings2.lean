import Derived.Test.YthobcefghkeddaaGreatDoorScan2
import Derived.Test.YthobcefghkeddaaGreatDoorBack
import Derived.Maps.OwnIn
set_option maxRecDepth 100000
set_option linter.all false
set_option maxHeartbeats 4000000
namespace Go.Proofs.YthobcefghkeddaaGreatDoor
open Go.RowKit Go.IntWalk Go.Shelf Ck
variable {b:Nat} {p:ByteArray→Bool}
attribute [local go_sem] Oper.semAt_some
theorem ch{β:Type}(k:Nat)(cs:Array Value)(t:TypeId)(z:Nat×Nat):Own (fun(_:β) W=>W.heap[k]?=some (.cells cs t z)):=fun s A B row d j l=>by
 refine(j.block k (aH d) fun e=>?_).trans d;obtain⟨o,g,h⟩:=l k e.symm;rw[d]at g
 cases g
 cases h
theorem gX{A B:World}{row:Option Nat}{k:Nat}{cs:Array Value}{t:TypeId}{z:Nat×Nat}(h:A.heap[k]?=some (.cells cs t z))(d:A.grownBy B row)(g:∀r,row=some r→∃o:Obj,A.heap[r]?=some o∧o.isCells=false):B.heap[k]?=some (.cells cs t z):=
 ch k cs t z () A B row h d g
theorem iE{N:Nat}{W W':World}(hk:aD (fun k=>k=b) W W')(g:b<N):KeepsFrom N W W':=
 ⟨hk.size,fun k o d h _=>(hk.block k (aH h) (by show k≠b;omega)).trans h⟩
theorem cV.updateIn{F0:Fence}{B:Nat}{w:World}{n:Nat}{z:Value}{F:ByteArray→Value}{P:Program}(H:P=Tryz.prog)(h:cV w b n z F p)(K:n<maxLen){ops:Array Oper}{rest:List Oper}{o:Oper}{a:Act}{Q:Exit→Act→World→Prop}
 (I:o.guard=none){m x u:Operand}{t e:TypeId}(q:o.op=Op.mapUpdate t m x u)(y:P.underlying t=some (.map 9 e))
 (J:a.eval m=.map (some b)){s:ByteArray}(O:a.eval x=.string s)(L:s.size≤maxLen){v:Value}(N:a.eval u=v)
 (E:∀w',cV w' b (n+1) z (fun t=>if t=s then v else F t) (fun t=>decide (t=s)||p t)→aD (fun k=>k=b) w w'→wpListIn F0 B P ops Q rest (a.put o.dst undef) w'):wpListIn F0 B P ops Q (o::rest) a w:=by
 subst H;obtain⟨D,j,C⟩:=h;refine wpListIn_mapUpdate_own _ I m x u t q 9 e Tryz.law9 y dl b n D J j K _ _ (key s) O N (Go.WideMaps.keyOf_string_mk Tryz.underlying9 L) _ [] rfl fun w' g l=>E w' ⟨_,g,fun t y=>?_⟩ (aD.of_grown l (fun k e=>by cases e;rfl))
 obtain⟨R,U⟩:=C t y
 by_cases hts:t=s
 ·subst hts
  exact⟨by show _=DataW.held (if t=t then v else F t);rw[if_pos rfl];exact Go.Maps.atKey_put_same j.isMap (kI t) _ _,by rw[Go.Maps.has_put_same j.isMap (kI t)];simp⟩
 ·have d:key t≠key s:=fun e=>hts (mo e)
  exact⟨by show _=DataW.held (if t=s then v else F t);rw[if_neg hts];exact(Go.Maps.atKey_put_other d _ _).trans R,by rw[Go.Maps.has_put_other d,U];simp[hts]⟩
theorem cV.own{n N:Nat}{z:Value}{F:ByteArray→Value}{W W':World}{row:Option Nat}(l:cV W b n z F p)(h:W.grownBy W' row)(j:∀r,row=some r→N≤r)(q:b<N):cV W' b n z F p:=by
 obtain⟨D,d,g⟩:=l;exact⟨D,d.kept h (fun e=>by have:=j _ e.symm;omega),g⟩
def qK{α:Type}(nm:α→ByteArray)(va:α→Value)(F:ByteArray→Value):List α→ByteArray→Value
 | [],s=>F s
 | x::t,s=>if s=nm x then va x else qK nm va F t s
def qI{α:Type}(nm:α→ByteArray)(p:ByteArray→Bool):List α→ByteArray→Bool
 | [],s=>p s
 | x::t,s=>decide (s=nm x)||qI nm p t s
theorem iD{α:Type}{d:α→ByteArray}{g:α→Value}{F:ByteArray→Value}(s:ByteArray):∀l:List α,qK d g F l s=match l.find? (fun x=>decide (d x=s))with|some x=>g x|none=>F s
 | []=>rfl
 | x::t=>by
  simp only[qK,List.find?_cons]
  by_cases h:s=d x
  ·simp[h]
  ·have j:¬ d x=s:=fun e=>h e.symm
   simp[h,j,iD s t]
theorem kH{α:Type}{d:α→ByteArray}{p:ByteArray→Bool}(s:ByteArray):∀l:List α,qI d p l s=match l.find? (fun x=>decide (d x=s))with|some _=>true|none=>p s
 | []=>rfl
 | x::t=>by
  simp only[qI,List.find?_cons]
  by_cases h:s=d x
  ·simp[h]
  ·have g:¬ d x=s:=fun e=>h e.symm
   simp[h,g,kH s t]
theorem kP(len:Nat):(bH len len).reverse=List.finRange len:=by
 unfold bH;rw[List.take_of_length_le ξ,List.reverse_reverse]
theorem jL{α:Type}(l:List α)(p:α→Bool):l.find? p=((List.finRange l.length).find? (fun i=>p l[i])).map (fun i=>l[i]):=by
 have:l=(List.finRange l.length).map (fun i=>l[i]):=by
  apply List.ext_getElem
  ·simp
  ·intro i d g;simp
 conv=>lhs;rw[this]
 rw[List.find?_map];rfl
theorem mZ(w:World)(d g h j:Obj):((((w.alloc d).alloc g).alloc h).alloc j).heap.size=w.heap.size+4∧((((w.alloc d).alloc g).alloc h).alloc j).heap[w.heap.size]?=some d∧((((w.alloc d).alloc g).alloc h).alloc j).heap[w.heap.size+1]?=some g ∧
 ((((w.alloc d).alloc g).alloc h).alloc j).heap[w.heap.size+1+1]?=some h∧((((w.alloc d).alloc g).alloc h).alloc j).heap[w.heap.size+1+1+1]?=some j∧Below w.heap.size w ((((w.alloc d).alloc g).alloc h).alloc j):=by
 have l:(w.alloc d).heap.size=w.heap.size+1:=ξ
 have q:((w.alloc d).alloc g).heap.size=w.heap.size+1+1:=ξ
 have u:(((w.alloc d).alloc g).alloc h).heap.size=w.heap.size+1+1+1:=ξ
 refine⟨ξ,?_,?_,?_,?_,?_⟩
 ·rw[Below.heap_alloc _ _ _ χ,Below.heap_alloc _ _ _ χ,Below.heap_alloc _ _ _ χ,heap_alloc_new]
 ·rw[Below.heap_alloc _ _ _ χ,Below.heap_alloc _ _ _ χ,←l,heap_alloc_new]
 ·rw[Below.heap_alloc _ _ _ χ,←q,heap_alloc_new]
 ·rw[←u,heap_alloc_new]
 ·exact((((Below.refl _ w).alloc (Nat.le_refl _) _).alloc χ _).alloc χ _).alloc χ _
theorem ld{α σ:Type}[Inhabited σ]{B k:Nat}{R:World→Nat→Nat→α→Prop}{w:World}{A:Option Addr}{xs:List α}(row:α→σ→List Value)(Φ:α→σ→Prop)(v:∀b o x,R w b o x→∃s,aM w b o (row x s)∧Φ x s)(h:ov B k R w A xs):
 ∃q:Nat→σ,(0<xs.length→∃b off,A=some ⟨b,off,none⟩∧b<B∧∀j (d:j<xs.length),aM w b (off+j*k) (row xs[j] (q j)))∧∀i (hi:i<xs.length),Φ xs[i] (q i):=by
 rcases Nat.eq_zero_or_pos xs.length with E|g
 ·exact⟨fun _=>default,fun h=>χ,fun i hi=>χ⟩
 ·obtain⟨b,off,u,y,C⟩:=h g
  have l:∀j,∃s,∀d:j<xs.length,aM w b (off+j*k) (row xs[j] s)∧Φ xs[j] s:=fun j=>by
   by_cases d:j<xs.length
   ·obtain⟨s,D⟩:=v _ _ _ (C j xs[j] (Ez d))
    exact⟨s,fun _=>D⟩
   ·exact⟨default,fun h=>absurd h d⟩
  exact⟨fun j=>Classical.choose (l j),fun _=>⟨b,off,u,y,fun j d=>(Classical.choose_spec (l j) d).1⟩,fun i hi=>(Classical.choose_spec (l i) hi).2⟩
end Go.Proofs.YthobcefghkeddaaGreatDoor
namespace Go.Proofs.YthobcefghkeddaaGreatDoor
open Go.RowKit Go.IntWalk Ck
theorem Tryz.lawU:Go.Maps.Keyed Tryz.prog 41:=Go.Maps.int_keyed Tryz.underlying41
def upN(m:Ck.Map)(s:Nat):Nat:=(m.Q7+s-1) / 2097152+1-m.Q7 / 2097152
def PUp(m:Ck.Map)(y j:Nat):Prop:=∃i,i<j∧y=(m.Q7 / 2097152+i) / 512
def rH(m:Ck.Map)(big:Bool)(y j:Nat):Prop:=big=false∧∃i,i<j∧y=m.Q7 / 2097152+i
theorem qa{w:World}{m:Ck.Map}{x:jR}(hb:below m.Q7 x.size 549755813888=true)(hp:0<x.size)(b6:x.size≤67108864){u lo nu nl:Nat}{Su Sl:List Nat}(hu:dT 41 w u nu Su)(hl:dT 41 w lo nl Sl)(cb:nu≤140737488355000)(ca:nl≤140737488355000)(cc:u≠lo)
 {zm zx:Nat}(bm:w.heap[zm]?=some (.cells (Ck.Map.cells m).toArray 93 (0,0)))(V:w.heap[zx]?=some (.cells #[.int .u64 x.size,.bool x.big,.bool x.wx] 178 (0,0)))(cj:zm≠u∧zm≠lo∧zx≠u∧zx≠lo)(a:Act)(R:a.tmps.size=76)
 (h5:At a 5 (.map (some u)))(h6:At a 6 (.map (some lo)))(h8:At a 8 (.pointer (some ⟨zm,0,none⟩)))(h9:At a 9 (.pointer (some ⟨zx,0,none⟩)))(bt:At a 11 (.int .u64 (m.Q7 / 2097152:Nat)))(Q:Exit→Act→World→Prop)
 (hQ:∀C w' Su' Sl',aE (fun i=>i==11||(rg 48 68 i)) a C→dT 41 w' u (nu+upN m x.size) Su'→dT 41 w' lo (nl+upN m x.size) Sl'→(∀y,y∈Su'↔y∈Su∨PUp m y (upN m x.size))→(∀y,y∈Sl'↔y∈Sl∨rH m x.big y (upN m x.size))→aD (fun k=>k=u∨k=lo) w w'→Q .normal C w'):
 (ay Tryz.f66 [1,1,0,1,0,0,1,1,0,0,1,1,1,1,1]).wp Tryz.prog Q a w:=by
 obtain⟨b4,b5⟩:m.Q7≤549755813888∧x.size≤549755813888-m.Q7:=by
  unfold below at hb
  simpa using hb
 have b2:m.Q7 / 2097152≤(m.Q7+x.size-1) / 2097152:=χ
 have cd:upN m x.size≤34:=by unfold upN;omega
 conv=>arg 2;whnf
 refine AW (upN m x.size) (fun j C w'=>aE (fun i=>i==11||(rg 48 68 i)) a C∧At C 11 (.int .u64 ((m.Q7 / 2097152+j:Nat):Int))∧∃Su' Sl',dT 41 w' u (nu+j) Su'∧dT 41 w' lo (nl+j) Sl'∧(∀y,y∈Su'↔y∈Su∨PUp m y j)∧(∀y,y∈Sl'↔y∈Sl∨rH m x.big y j)∧aD (fun k=>k=u∨k=lo) w w')
  (fun j C w'=>aE (fun i=>i==11||(rg 48 68 i)) a C∧At C 11 (.int .u64 ((m.Q7 / 2097152+j:Nat):Int))∧∃Su' Sl',dT 41 w' u (nu+(j+1)) Su'∧dT 41 w' lo (nl+(j+1)) Sl'∧(∀y,y∈Su'↔y∈Su∨PUp m y (j+1))∧(∀y,y∈Sl'↔y∈Sl∨rH m x.big y (j+1))∧aD (fun k=>k=u∨k=lo) w w')
  (fun a=>match a.eval (.tmp 11)with|.int _ x=>x.toNat-m.Q7 / 2097152|_=>0) ⟨aE.refl _ _,bt,Su,Sl,hu,hl,fun y=>⟨.inl,fun h=>h.elim id fun⟨i,hi,_⟩=>χ⟩,fun y=>⟨.inl,fun h=>h.elim id fun⟨_,i,hi,_⟩=>χ⟩,aD.refl _ _⟩ ?_ ?_ ?_ ?_ ?_
 ·rintro k C w' ⟨E,hk,_⟩
  rw[hk.eval (by rw[E.size,R];decide)];show((m.Q7 / 2097152+k:Nat):Int).toNat-m.Q7 / 2097152=k;omega
 ·rintro k C w' a9 ⟨E,hk,g⟩
  have Z:=hh g;obtain⟨Su',Sl',_,_,_,_,hK⟩:=g;have k8:=E.Q7 h8 rfl;have k9:=E.Q7 h9 rfl;have l:=E.size.trans R;have q2:w'.cell? ⟨zm,2,none⟩=some (.int .u64 m.Q7):=cr ((hK.block zm (aH bm) χ).trans bm) rfl;have p0:w'.cell? ⟨zx,0,none⟩=some (.int .u64 x.size):=cr ((hK.block zx (aH V) χ).trans V) rfl;obtain⟨D,B⟩:∃D,D=m.Q7 / 2097152+k:=⟨_,rfl⟩;obtain⟨s,hs⟩:∃s,s=m.Q7+x.size:=⟨_,rfl⟩;obtain⟨s1,af⟩:∃s1,s1=m.Q7+x.size-1:=⟨_,rfl⟩;rw[←B]at hk;have e1:IntKind.u64.wrap ((m.Q7:Int)+(x.size:Int))=(s:Int):=by rw[hs,u64_in _ χ];omega
  have e2:IntKind.u64.wrap ((s:Int)-1)=(s1:Int):=by rw[af,hs,u64_in _ χ];omega
  have H:=hh B;have HS:=hh hs;have bs:=hh af;clear B hs af;obtain⟨T,d⟩:=C;refine rl ?_
  iterate 9 with_reducible refine st ?_
  with_reducible refine ln ?_
  refine⟨rfl,⟨?_,?_,?_⟩,?_⟩
  ·exact ag
  ·rw[←H.out]
   (repeat (first|with_reducible exact At.self|with_reducible apply At.ne));all_goals first|decide|with_reducible exact hk
  ·exact Z.out
  ·refine(At.eval At.self (by have:=l;simp at this⊢; omega)).trans ?_
   have X:=H.out;have h3:=bs.out
   congr 1
   exact decide_eq_decide.2 (by unfold upN;omega)
 ·rintro k C w' a9 ⟨E,hk,Su',Sl',al,ac,ad,O,hK⟩
  have k5:=E.Q7 h5 rfl;have k6:=E.Q7 h6 rfl;have k9:=E.Q7 h9 rfl;have l:=E.size.trans R;have U:=(hK.block zx (aH V) χ).trans V;obtain⟨D,B⟩:∃D,D=m.Q7 / 2097152+k:=⟨_,rfl⟩;obtain⟨q,hq⟩:∃q,q=D / 512:=⟨_,rfl⟩;rw[←B]at hk;have cf:D<2097152:=χ
  have b3:(D:Int) / 512=(q:Int):=χ
  have b0:q<lim:=by unfold lim;omega
  have bg:D<lim:=by unfold lim;omega
  have H:=hh B;have HQ:=hh hq;clear B hq;refine so (fun a1 w1=>aE (fun i=>(rg 48 68 i)) C a1∧dT 41 w1 u (nu+(k+1)) (dT.add Su' q)∧aD (fun k=>k=u) w' w1) ?_ ?_
  ·have HU:=hh al
   clear al ac ad O hK U;have a6:aE (fun i=>(rg 48 68 i)) C C:=aE.refl _ _;obtain⟨T,d⟩:=C;refine rl ?_
   iterate 4 with_reducible refine st ?_
   refine dT.update rfl HU.out Tryz.lawU Tryz.underlying41 (by unfold maxLen;omega) rfl rfl Tryz.underlying211 (At.eval ar (by have:=l;simp at this⊢; omega)) (y:=q) (At.eval ar (by have:=l;simp at this⊢; omega)) b0 (At.eval ar (by have:=l;simp at this⊢; omega)) ?_;intro w2 b1 bx;refine ln ⟨rfl,?_,b1,bx⟩;simp only[Act.put];exact ag
  rintro a1 w1 ⟨I,be,N⟩;replace k6:=I.Q7 k6 rfl;replace k9:=I.Q7 k9 rfl;replace hk:=I.Q7 hk rfl;have bd:=I.size.trans l;have bc:=ac.keep N (by show ¬ lo=u;omega);have bl:=(N.block zx (aH U) (by show zx≠u;omega)).trans U;have p1:w1.cell? ⟨zx,1,none⟩=some (.bool x.big):=cr bl rfl;have a7:aD (fun k=>k=u∨k=lo) w w1:=hK.trans N (fun _ _ h =>.inl h);have bf:∀y,y∈dT.add Su' q↔y∈Su∨PUp m y (k+1):=fun y=>by
   rw[dT.mem_add,ad y];have X:=H.out;have h2:=HQ.out;constructor
   ·rintro(e|h|⟨i,hi,e⟩)
    ·exact .inr ⟨k,χ,by rw[e,h2,X]⟩
    ·exact .inl h
    ·exact .inr ⟨i,χ,e⟩
   ·rintro(h|⟨i,hi,e⟩)
    ·exact .inr (.inl h)
    ·rcases Nat.lt_or_ge i k with h|h
     ·exact .inr (.inr ⟨i,h,e⟩)
     ·obtain rfl:i=k:=χ
      exact .inl (by rw[e,h2,X])
  have Y:∀y,(x.big=false→(y∈dT.add Sl' D↔y∈Sl∨rH m x.big y (k+1)))∧(x.big=true→(y∈Sl'↔y∈Sl∨rH m x.big y (k+1))):=fun y=>by
   have X:=H.out;constructor
   ·intro v
    rw[dT.mem_add,O y];constructor
    ·rintro(e|h|⟨bw,i,hi,e⟩)
     ·exact .inr ⟨v,k,χ,by rw[e,X]⟩
     ·exact .inl h
     ·exact .inr ⟨v,i,χ,e⟩
    ·rintro(h|⟨bw,i,hi,e⟩)
     ·exact .inr (.inl h)
     ·rcases Nat.lt_or_ge i k with h|h
      ·exact .inr (.inr ⟨v,i,h,e⟩)
      ·obtain rfl:i=k:=χ
       exact .inl (by rw[e,X])
   ·intro v
    rw[O y];unfold rH;rw[v];simp
  have a5:=hh bf;have W:=hh Y;have a4:=hh be;have a3:=hh bc;have a0:=hh a7;have bp:Hid (aE (fun i=>i==11||(rg 48 68 i)) a a1):=E.t I;clear bf Y be bc a7 al ac ad O hK U E I N bl;refine so (fun a2 w2=>aE (fun i=>(rg 48 68 i)) a1 a2∧At a2 65 (.bool !x.big)∧w2=w1) ?_ ?_
  ·have a6:aE (fun i=>(rg 48 68 i)) a1 a1:=aE.refl _ _
   obtain⟨T,d⟩:=a1;refine rl ?_
   iterate 3 with_reducible refine st ?_
   refine ln ⟨rfl,ag,aq,rfl⟩
  rintro a2 w2 ⟨J,bo,rfl⟩;have L:=J.size.trans bd;replace k6:=J.Q7 k6 rfl;replace hk:=J.Q7 hk rfl;have bb:At a2 11 (.int .u64 ((m.Q7 / 2097152+k:Nat):Int)):=by rw[←H.out];exact hk
  have an:Hid (aE (fun i=>i==11||(rg 48 68 i)) a a2):=bp.out.t J;clear J;refine wp_cond_split (bo.eval χ) (fun v=>?_) (fun v=>?_)
  ·have K:x.big=false:=by simpa using v
   have a6:aE (fun i=>i==11||(rg 48 68 i)) a a2:=an.out;clear v bo;obtain⟨T,d⟩:=a2;refine rl ?_
   iterate 3 with_reducible refine st ?_
   refine dT.update rfl a3.out Tryz.lawU Tryz.underlying41 (by unfold maxLen;omega) rfl rfl Tryz.underlying211 (At.eval ar (by have:=L;simp at this⊢; omega)) (y:=D) (At.eval ar (by have:=L;simp at this⊢; omega)) bg (At.eval ar (by have:=L;simp at this⊢; omega)) ?_;intro w3 bz a8;refine ln ?_;simp only[Act.put];refine⟨?_,?_,_,_,a4.out.keep a8 (by show ¬ u=lo;omega),bz,a5.out,fun y=>(W.out y).1 K,a0.out.trans a8 (fun _ _ h =>.inr h)⟩
   ·exact ag
   ·(repeat (first|with_reducible exact At.self|with_reducible apply At.ne));all_goals first|decide|with_reducible exact bb
  ·have K:x.big=true:=by simpa using v
   refine wp_skip ?_;exact⟨an.out,bb,_,_,a4.out,a3.out.mono χ,a5.out,fun y=>(W.out y).2 K,a0.out⟩
 ·rintro k C w' a9 ⟨E,hk,g⟩
  have l:=E.size.trans R;obtain⟨D,B⟩:∃D,D=m.Q7 / 2097152+k:=⟨_,rfl⟩;have e0:m.Q7 / 2097152+(k+1)=D+1:=χ
  rw[←B]at hk;have e1:IntKind.u64.wrap ((D:Int)+1)=(D:Int)+1:=u64_in _ χ;have HR:=hh g;clear g B;rw[e0];obtain⟨T,d⟩:=C;refine rl ?_
  iterate 3 with_reducible refine st ?_
  refine ln ⟨rfl,?_,?_,HR.out⟩
  ·exact ag
  ·have e2:((D+1:Nat):Int)=(D:Int)+1:=χ
   rw[e2];exact aq
 ·rintro C w' ⟨E,_,Su',Sl',X,h2,h3,h4,h5⟩
  exact hQ C w' Su' Sl' E X h2 h3 h4 h5
theorem nL(P:aF)(m:Ck.Map):da P m=((fO P m.of).isSome&&(decide ((aQ P m.of).size≤67108864)&&below m.Q7 (aQ P m.of).size 549755813888)):=by
 unfold da aQ
 cases fO P m.of<;>simp
theorem sI{S L:List Nat}(g:S.Nodup)(h:∀y,y∈S↔y∈L):S.length=L.eraseDups.length:=by
 have j:=r7 g (m:=L.eraseDups) (fun x d=>List.mem_eraseDups.2 ((h x).1 d));have l:=r7 (oU L) (m:=S) (fun x d=>(h x).2 (List.mem_eraseDups.1 d));omega
theorem tJ(P:aF)(l:List Ck.Map)(m:Ck.Map)(y:Nat):y∈eJ P (l++[m])↔y∈eJ P l∨(0<(aQ P m.of).size∧PUp m y (upN m (aQ P m.of).size)):=by
 unfold eJ PUp upN ups;rw[List.flatMap_append,List.mem_append];refine or_congr Iff.rfl ?_;simp only[List.flatMap_cons,List.flatMap_nil,List.append_nil];split
 ·rename_i h;simp;omega
 ·rename_i h
  simp only[List.mem_map,List.mem_range];constructor
  ·rintro⟨z,⟨i,hi,rfl⟩,rfl⟩;exact⟨χ,i,hi,by rw[Nat.add_comm]⟩
  ·rintro⟨_,i,hi,rfl⟩;exact⟨_,⟨i,hi,rfl⟩,by rw[Nat.add_comm]⟩
theorem uQ(P:aF)(l:List Ck.Map)(m:Ck.Map)(y:Nat):y∈eQ P (l++[m])↔y∈eQ P l∨(0<(aQ P m.of).size∧rH m (aQ P m.of).big y (upN m (aQ P m.of).size)):=by
 unfold eQ rH upN ups;rw[List.flatMap_append,List.mem_append];refine or_congr Iff.rfl ?_;simp only[List.flatMap_cons,List.flatMap_nil,List.append_nil];split
 ·rename_i h
  rcases h with h|h
  ·simp;omega
  ·simp[h]
 ·rename_i h
  have d:(aQ P m.of).big=false:=by cases hb:(aQ P m.of).big<;>simp_all
  have g:¬ (aQ P m.of).size=0:=fun e=>h (.inl e)
  simp only[List.mem_map,List.mem_range];constructor
  ·rintro⟨i,hi,rfl⟩;exact⟨χ,d,i,hi,by rw[Nat.add_comm]⟩
  ·rintro⟨_,_,i,hi,rfl⟩;exact⟨i,hi,by rw[Nat.add_comm]⟩
theorem tP{B:Nat}{w:World}{P:aF}{A:Option Addr}{c:Nat}{l:List Ck.Map}(hs:aK B 5 eH w (.slice A l.length c) l)(hB:B≤w.heap.size){mb:Nat}(hm:fb w mb P)(h3:mb<w.heap.size)(fe:∀s,(aQ P s).size<lim):
 Calls Tryz.prog 66 #[.slice A l.length c,.map (some mb)] w fun e w'=>e=.returned (.int .i64 (bV P l))∧Kz w w':=by
 obtain⟨_,_,e,h9,hn,hl⟩:=hs
 cases e
 unfold top at hn;have HM:=hh hm;have f6:=hh fe;have f0:=hh hl;clear hm fe hl;refine bK Tryz.func66 Tryz.ntmps66 rfl (by show 2≤76;decide) fun a e9 hd h=>?_
 have h0:At a 0 (.slice A l.length c):=h 0 _ rfl;have U:At a 1 (.map (some mb)):=h 1 _ rfl;clear h
 conv=>arg 2;whnf
 refine so (fun a1 w1=>aE (fun i=>i==4) a a1∧At a1 4 (.int .i64 (0:Nat))∧w1=w) ?_ ?_
 ·obtain⟨T,d⟩:=a
  refine rl ?_;with_reducible refine st ?_
  refine ln ⟨rfl,?_,?_,rfl⟩
  ·exact ag
  ·exact At.self
 rintro a1 w1 ⟨be,h4,rfl⟩;replace h0:=be.Q7 h0 rfl;replace U:=be.Q7 U rfl;have ca:=be.size.trans e9;have eo:=be.defers.trans hd;clear be e9 hd;refine so (fun a2 w2=>aE (fun i=>i==5||i==6||i==12||i==13) a1 a2∧At a2 5 (.map (some w1.heap.size))∧At a2 6 (.map (some (w1.heap.size+1)))∧w2=(w1.alloc (.map #[] 0)).alloc (.map #[] 0)) ?_ ?_
 ·have h7:=@run_makeMap Tryz.prog
  have al:aE (fun i=>i==5||i==6||i==12||i==13) a1 a1:=aE.refl _ _;obtain⟨T,d⟩:=a1;refine rl ?_
  iterate 4 with_reducible refine st ?_
  refine ln ⟨rfl,ag,aq,aq,rfl⟩
 rintro a2 w2 ⟨ad,h5,h6,bw⟩;replace h0:=ad.Q7 h0 rfl;replace U:=ad.Q7 U rfl;replace h4:=ad.Q7 h4 rfl;have cb:=ad.size.trans ca;have eq:=ad.defers.trans eo;obtain⟨u,Y⟩:∃u,u=w1.heap.size:=⟨_,rfl⟩;have s2:w2.heap.size=u+2:=by rw[bw,Y];simp
 have f1:w2.heap[u]?=some (.map #[] 0):=by rw[bw,Y,Below.heap_alloc _ _ _ ξ];exact heap_alloc_new _ _
 have f2:w2.heap[u+1]?=some (.map #[] 0):=by
  rw[bw,Y];have:=heap_alloc_new (w1.alloc (.map #[] 0)) (.map #[] 0)
  rwa[World.size_alloc]at this
 have es:Kz w1 w2:=by rw[bw];exact((aD.refl _ _).alloc _).alloc _
 rw[←Y]at h5 h6;have h8:mb<u:=χ
 have hp:B≤u:=χ
 have HU:=hh Y;clear bw ad ca eo Y;refine wp_seq (wp_seq (Code.wp_only (R:=fun a3 w3=>aE (fun i=>i==14||i==15||i==16) a2 a3∧At a3 14 (.slice A l.length c)∧At a3 15 (.int .i64 l.length)∧At a3 16 (.int .i64 0)∧w3=w2) ?_ ?_))
 ·have al:aE (fun i=>i==14||i==15||i==16) a2 a2:=aE.refl _ _
  obtain⟨T,d⟩:=a2;refine rl ?_
  iterate 3 with_reducible refine st ?_
  refine ln ⟨rfl,ag,aq,aq,aq,rfl⟩
 rintro a3 w3 ⟨W,ha,g9,g6,rfl⟩;replace U:=W.Q7 U rfl;replace h4:=W.Q7 h4 rfl;replace h5:=W.Q7 h5 rfl;replace h6:=W.Q7 h6 rfl;have cc:=W.size.trans cb;have er:=W.defers.trans eq;clear W cb eq h0;have cp:=hh es;clear es;refine bU l.length (fun i=>(rg 8 11 i)||(rg 16 69 i)) (fun i=>(rg 8 11 i)||(rg 18 68 i))
  (fun k _ w'=>∃nu nl Su Sl,dT 41 w' u nu Su∧dT 41 w' (u+1) nl Sl∧nu≤34*k∧nl≤34*k∧(∀y,y∈Su↔y∈eJ P (l.take k))∧(∀y,y∈Sl↔y∈eQ P (l.take k))∧(∀m∈l.take k,da P m=true)∧aD (fun k=>k=u∨k=u+1) w3 w') χ g6 g9 ψ rfl
  ζ χ ψ (fun k a1 a2 w V hI=>hI) ⟨0,0,[],[],dT.new _ _ _ f1,dT.new _ _ _ f2,Nat.zero_le _,Nat.zero_le _,by simp[eJ],by simp[eQ],ξ,aD.refl _ _⟩ ?_ ?_
 ·rintro n a4 wr gx V g7 ⟨nu,nl,Su,Sl,Y,hl,ey,ex,bb,a0,an,hk⟩
  obtain⟨bl,off,rfl,gn,en⟩:=f0.out χ;obtain⟨m,hx⟩:=ge gx;have cv:aD (fun k=>k=u∨k=u+1) w1 wr:=(cp.out.mono fun _ _ h=>h.elim:aD (fun k=>k=u∨k=u+1) w1 w3).trans hk (fun _ _ h=>h);obtain⟨hc,cf⟩:=(aI B _ _) _ _ _ _ _ (cv.below (B:=B) χ (fun _ hi e=>χ)) gn (en n m hx);have q0:=hc.c0;have q1:=hc 1 _ rfl;have q2:=hc 2 _ rfl;have q3:=hc 3 _ rfl;have q4:=hc 4 _ rfl;have c9:=V.Q7 U rfl;have Z:=V.Q7 h4 rfl;have g:=V.Q7 h5 rfl;have v:=V.Q7 h6 rfl;have fl:=V.Q7 ha rfl;have N:=V.size.trans cc;have cx:=V.defers.trans er;have he:=hk.size;have hb:bl<wr.heap.size:=χ
  have hy:n≤c:=χ
  obtain⟨x,bc⟩:∃x,x=aQ P m.of:=⟨_,rfl⟩;have g4:x.size<lim:=by rw[bc];exact f6.out _
  obtain⟨ok,bo⟩:∃b,b=(fO P m.of).isSome:=⟨_,rfl⟩;have b1:=aO hx;have f7:Hid (da P m=(ok&&(decide (x.size≤67108864)&&below m.Q7 x.size 549755813888))):=by rw[bo,bc];exact nL P m
  have ed:Hid (∀y,y∈eJ P (l.take (n+1))↔y∈eJ P (l.take n)∨(0<x.size∧PUp m y (upN m x.size))):=hh fun y=>by rw[b1,bc];exact tJ P _ m y
  have d2:Hid (∀y,y∈eQ P (l.take (n+1))↔y∈eQ P (l.take n)∨(0<x.size∧rH m x.big y (upN m x.size))):=hh fun y=>by rw[b1,bc];exact uQ P _ m y
  have ea:Hid (∀m'∈l.take (n+1),m'∈l.take n∨m'=m):=hh fun m' bz=>by rw[b1]at bz;simpa using bz
  have f3:Hid (m∈l):=hh (List.mem_of_getElem? hx);have d7:Hid (∃nn,cV wr mb nn (.agg #[.int .u64 0,.bool false,.bool false]) (fun s=>xm (aQ P s)) (fun s=>(fO P s).isSome)):=by
   obtain⟨nn,b0⟩:=HM.out;exact⟨nn,b0.keep cv (by show ¬ (mb=u∨mb=u+1);omega)⟩
  have cm:=hh Y;have cj:=hh hl;have d9:=hh bb;have d4:=hh a0;have d3:=hh an;have HK:=hh hk;have gf:=hh bc;have f4:=hh bo;have ie:=Y.lt;have h2:=hl.lt;clear hx en hc V Y hl bb a0 an hk bc bo b1 cv;refine so (fun a5 w5=>aE (fun i=>i==18||i==19||i==8) a4 a5∧At a5 8 (.pointer (some ⟨wr.heap.size,0,none⟩))∧w5=wr.alloc (.cells #[.int .i64 m.pos,.string m.of,.int .u64 m.Q7,.bool m.write,.bool m.exec] 93)) ?_ ?_
  ·have al:aE (fun i=>i==18||i==19||i==8) a4 a4:=aE.refl _ _
   obtain⟨T,d⟩:=a4;refine rl ?_
   iterate 4 with_reducible refine st ?_
   refine ln ⟨rfl,ag,aq,rfl⟩
  rintro a5 w5 ⟨I,C,b2⟩;obtain⟨zm,b3⟩:∃z,z=wr.heap.size:=⟨_,rfl⟩;rw[←b3]at C;have fm:w5.heap[zm]?=some (.cells #[.int .i64 m.pos,.string m.of,.int .u64 m.Q7,.bool m.write,.bool m.exec] 93 (0,0)):=by rw[b2,b3];exact heap_alloc_new _ _
  have f5:Hid (w5.heap.size=wr.heap.size+1):=hh (by rw[b2];simp);have eu:Kz wr w5:=by rw[b2];exact(aD.refl _ _).alloc _
  have q1:w5.cell? ⟨zm,1,none⟩=some (.string m.of):=cr fm rfl;replace c9:=I.Q7 c9 rfl;replace Z:=I.Q7 Z rfl;replace g:=I.Q7 g rfl;replace v:=I.Q7 v rfl;have bp:=I.size.trans N;have go:=I.defers.trans cx;have gl:=hh b3;have d0:=hh eu;have fs:Hid (aE (fun i=>(rg 8 11 i)||(rg 18 68 i)) a4 a5):=I.m;have FM:=hh fm;clear b2 I b3 eu q0 q2 q3 q4 g7 fl fm
  -- r5
  refine so (fun a6 w6=>aE (fun i=>i==9||i==10||(rg 20 26 i)) a5 a6∧At a6 9 (.pointer (some ⟨w5.heap.size,0,none⟩))∧At a6 10 (.bool ok)∧w6=w5.alloc (.cells #[.int .u64 x.size,.bool x.big,.bool x.wx] 178)) ?_ ?_
  ·have al:aE (fun i=>i==9||i==10||(rg 20 26 i)) a5 a5:=aE.refl _ _
   obtain⟨nn,b0⟩:=d7.out;have d8:=hh (b0.keep d0.out (fun h=>h));clear b0;have ew:m.of.size≤maxLen:=Nat.le_trans cf.2.2 (by unfold maxLen;omega);obtain⟨T,d⟩:=a5;refine rl ?_
   iterate 3 with_reducible refine st ?_
   refine cV.lookup_ok rfl d8.out rfl rfl Tryz.underlying133 vF (At.eval ar (by have:=bp;simp at this⊢; omega)) (At.eval ar (by have:=bp;simp at this⊢; omega)) ew ?_;rw[←gf.out,←f4.out];simp only[Act.put,xm]
   iterate 6 with_reducible refine st ?_
   refine ln ⟨rfl,ag,aq,aq,rfl⟩
  rintro a6 w6 ⟨J,Q,hf,c5⟩;obtain⟨zx,c8⟩:∃z,z=w5.heap.size:=⟨_,rfl⟩;rw[←c8]at Q;have fx:w6.heap[zx]?=some (.cells #[.int .u64 x.size,.bool x.big,.bool x.wx] 178 (0,0)):=by rw[c5,c8];exact heap_alloc_new _ _
  have c3:Kz w5 w6:=by rw[c5];exact(aD.refl _ _).alloc _
  have cu:=(c3.block zm (aH FM.out) (fun h=>h)).trans FM.out;have L:Kz wr w6:=d0.out.trans c3 (fun _ _ h=>h);have q2:w6.cell? ⟨zm,2,none⟩=some (.int .u64 m.Q7):=cr cu rfl;have p0:w6.cell? ⟨zx,0,none⟩=some (.int .u64 x.size):=cr fx rfl;have HZ:Hid (zm≠u∧zm≠u+1∧zx≠u∧zx≠u+1):=hh (by have:=gl.out;have:=f5.out;omega);replace Z:=J.Q7 Z rfl;replace g:=J.Q7 g rfl;replace v:=J.Q7 v rfl;replace C:=J.Q7 C rfl;have fc:=J.size.trans bp;have gr:=J.defers.trans go;have fv:Hid (aE (fun i=>(rg 8 11 i)||(rg 18 68 i)) a4 a6):=fs.out.t J;have hg:=hh L;have FX:=hh fx;have FM6:=hh cu;have eb:=hh (cm.out.keep L (fun h=>h));have d1:=hh (cj.out.keep L (fun h=>h));have bd:Hid (aD (fun k=>k=u∨k=u+1) w3 w6):=HK.out.trans L (fun _ _ h=>h.elim);clear c5 J c8 c3 fx cu q1 L c9 d7;obtain⟨gt,bx⟩:∃b,b=decide (67108864<x.size):=⟨_,rfl⟩;obtain⟨ee,ac⟩:∃b,b=below m.Q7 x.size 549755813888:=⟨_,rfl⟩;have fp:decide ((67108864:Int)<(x.size:Int))=gt:=by rw[bx];exact decide_eq_decide.2 χ
  have cw:=jj m.Q7 x.size 549755813888 w6 (by have:=cf.2.1;unfold lim at this;omega) (by unfold lim at g4;omega) ψ;rw[←ac]at cw;have dk:=hh cw;have b5:Hid (da P m=(ok&&(!gt&&ee))):=hh (by rw[f7.out,bx,ac];congr 2;rw[←decide_not];exact decide_eq_decide.2 χ);have dt:=hh bx;have ds:=hh ac;clear bx ac cw;refine wp_seq (wp_seq (Code.wp_only (R:=fun a7 w7=>aE (fun i=>(rg 27 41 i)) a6 a7∧At a7 41 (.bool (!da P m))∧w7=w6) ?_ ?_))
  ·have al:aE (fun i=>(rg 27 41 i)) a6 a6:=aE.refl _ _
   have ih:=aU;rw[b5.out];obtain⟨T,d⟩:=a6;refine rl ?_
   iterate 3 with_reducible refine st ?_
   cases ok
   ·iterate 12
     with_reducible refine st ?_
    refine ln ⟨rfl,?_,?_,rfl⟩
    ·exact ag
    ·first|(simp only[Bool.false_and,Bool.true_and,Bool.not_false,Bool.not_true,Bool.and_false];exact At.self)|(exact aq)
   ·iterate 5
     with_reducible refine st ?_
    cases gt
    ·iterate 4
      with_reducible refine st ?_
     with_reducible refine Lz (fun K hK=>?_)
     go_simp;refine dk.out.mono ?_;rintro e w7 ⟨rfl,rfl⟩;with_reducible refine hK _ _ ?_;clear hK K
     iterate 2 with_reducible refine st ?_
     refine ln ⟨rfl,?_,?_,rfl⟩
     ·exact ag
     ·first|(simp only[Bool.false_and,Bool.true_and,Bool.not_false,Bool.not_true,Bool.and_false];exact At.self)|(exact aq)
    ·iterate 7
      with_reducible refine st ?_
     refine ln ⟨rfl,?_,?_,rfl⟩
     ·exact ag
     ·first|(simp only[Bool.false_and,Bool.true_and,Bool.not_false,Bool.not_true,Bool.and_false];exact At.self)|(exact aq)
  rintro a7 w7 ⟨E,fi,rfl⟩;replace Z:=E.Q7 Z rfl;replace g:=E.Q7 g rfl;replace v:=E.Q7 v rfl;replace C:=E.Q7 C rfl;replace Q:=E.Q7 Q rfl;have bs:=E.size.trans fc;have gs:=E.defers.trans gr;have dc:Hid (aE (fun i=>(rg 8 11 i)||(rg 18 68 i)) a4 a7):=fv.out.t E;clear E;refine wp_cond_split (fi.eval χ) (fun b6=>?_) (fun bg=>?_)
  ·-- it ends with 0
   have g1:bV P l=0:=by
    unfold bV;rw[if_neg];intro h;have:=List.all_eq_true.1 h m f3.out;rw[this]at b6
    cases b6
   refine so (fun H w8=>H.tmps.size=76∧H.defers=[]∧At H 4 (.int .i64 (0:Nat))∧w8=w7) ?_ ?_
   ·obtain⟨T,d⟩:=a7
    refine rl ?_;with_reducible refine st ?_
    refine ln ⟨rfl,?_,gs,?_,rfl⟩
    ·have:=bs;simp at this⊢; omega
    ·exact At.self
   rintro H w8 ⟨O,cy,k4,rfl⟩;refine wp_ret ?_
   repeat (first|with_reducible apply bY|with_reducible apply ba)
   refine bk (t:=4) rfl k4 (by rw[O];decide) cy ?_;exact⟨by rw[g1],(cp.out.trans bd.out (fun i hi h=>by have:=HU.out;omega))⟩
  ·have bm:da P m=true:=by simpa using bg
   refine wp_skip ?_;have e5:(ok&&(!gt&&ee))=true:=by rw[←b5.out];exact bm
   simp only[Bool.and_eq_true,Bool.not_eq_true']at e5;obtain⟨gy,ez,e0⟩:=e5;have g5:x.size≤67108864:=by have U:=dt.out;rw[ez]at U;have:=of_decide_eq_false U.symm;omega
   have bf:below m.Q7 x.size 549755813888=true:=by rw[←ds.out];exact e0
   have b4:Hid (∀m'∈l.take (n+1),da P m'=true):=hh fun m' bz=>by
    rcases ea.out m' bz with h|rfl
    ·exact d3.out m' h
    ·exact bm
   clear bg gy ez e0 ds dt fp fi bm d3 ea dk;obtain⟨ze,c7⟩:∃b,b=decide (x.size=0):=⟨_,rfl⟩;have fr:((x.size:Int)==0)=ze:=by rw[c7];exact eX _ 0
   have cs:=hh c7;clear c7;refine wp_seq (wp_seq (Code.wp_only (R:=fun H w8=>aE (fun i=>(rg 42 44 i)) a7 H∧At H 44 (.bool ze)∧w8=w7) ?_ ?_))
   ·have al:aE (fun i=>(rg 42 44 i)) a7 a7:=aE.refl _ _
    obtain⟨T,d⟩:=a7;refine rl ?_
    iterate 3 with_reducible refine st ?_
    refine ln ⟨rfl,ag,aq,rfl⟩
   rintro H w8 ⟨X,fk,rfl⟩;replace g:=X.Q7 g rfl;replace v:=X.Q7 v rfl;replace C:=X.Q7 C rfl;replace Q:=X.Q7 Q rfl;have O:=X.size.trans bs;have di:Hid (aE (fun i=>(rg 8 11 i)||(rg 18 68 i)) a4 H):=dc.out.t X;clear X bs dc Z;refine wp_cond_split (fk.eval χ) (fun hz=>?_) (fun hz=>?_)
   ·refine wp_exit ?_
    have ff:¬ 0<x.size:=by have U:=cs.out;rw[hz]at U;have:=of_decide_eq_true U.symm;omega
    repeat with_reducible apply fJ
    simp only[br,if_true];exact⟨di.out,nu,nl,Su,Sl,eb.out,d1.out,χ,χ,fun y=>by rw[ed.out y,d9.out y];exact⟨.inl,fun h=>h.elim id fun h=>absurd h.1 ff⟩,fun y=>by rw[d2.out y,d4.out y];exact⟨.inl,fun h=>h.elim id fun h=>absurd h.1 ff⟩,b4.out,bd.out⟩
   ·have c6:0<x.size:=by have U:=cs.out;rw[hz]at U;have:=of_decide_eq_false U.symm;omega
    refine wp_skip ?_;have g3:upN m x.size≤34:=by
     obtain⟨hv,hw⟩:m.Q7≤549755813888∧x.size≤549755813888-m.Q7:=by
      unfold below at bf
      simpa using bf
     unfold upN;omega
    obtain⟨q,hq⟩:∃q,q=m.Q7 / 2097152:=⟨_,rfl⟩;have ho:(m.Q7:Int) / 2097152=(q:Int):=χ
    have HQ:=hh hq;clear hz hq fk cs fr;refine so (fun a9 w9=>aE (fun i=>i==11||(rg 45 47 i)) H a9∧At a9 11 (.int .u64 q)∧w9=w8) ?_ ?_
    ·have al:aE (fun i=>i==11||(rg 45 47 i)) H H:=aE.refl _ _
     obtain⟨T,d⟩:=H;refine rl ?_
     iterate 4 with_reducible refine st ?_
     refine ln ⟨rfl,?_,?_,rfl⟩
     ·exact ag
     ·first|(simp only[Bool.false_and,Bool.true_and,Bool.not_false,Bool.not_true,Bool.and_false];exact At.self)|(exact aq)
    rintro a9 w9 ⟨af,cd,rfl⟩;replace g:=af.Q7 g rfl;replace v:=af.Q7 v rfl;replace C:=af.Q7 C rfl;replace Q:=af.Q7 Q rfl;have fd:=af.size.trans O;have fy:Hid (aE (fun i=>(rg 8 11 i)||(rg 18 68 i)) a4 a9):=di.out.t af;rw[HQ.out]at cd;obtain⟨z1,z2,z3,z4⟩:=HZ.out;refine qa bf c6 g5 eb.out d1.out χ χ χ (zm:=zm) (zx:=zx) FM6.out FX.out ⟨z1,z2,z3,z4⟩ a9 fd g v C Q cd _ ?_;intro hj ik Su' Sl' eg g2 gw e8 e7 gu;refine⟨fy.out.t eg,_,_,Su',Sl',g2,gw,χ,χ,fun y=>?_,fun y=>?_,b4.out,bd.out.trans gu (fun _ _ h=>h)⟩
    ·rw[e8 y,ed.out y,d9.out y];exact or_congr Iff.rfl ⟨fun h=>⟨c6,h⟩,fun h=>h.2⟩
    ·rw[e7 y,d2.out y,d4.out y];exact or_congr Iff.rfl ⟨fun h=>⟨c6,h⟩,fun h=>h.2⟩
 ·rintro a4 w4 V ⟨nu,nl,Su,Sl,Y,hl,ey,ex,bb,a0,an,hk⟩
  rw[List.take_length]at bb a0 an;replace h5:=V.Q7 h5 rfl;replace h6:=V.Q7 h6 rfl;have N:=V.size.trans cc;have cx:=V.defers.trans er;have cm:=hh Y;have cj:=hh hl;have ht:=Nat.le_trans (by obtain⟨D,o1,_,o3,_⟩:=Y;rw[←o3];exact o1.size_le:Su.length≤nu) ey;have hr:=Nat.le_trans (by obtain⟨D,o1,_,o3,_⟩:=hl;rw[←o3];exact o1.size_le:Sl.length≤nl) ex;have bt:bV P l=1+Su.length+Sl.length:=by
   unfold bV;rw[if_pos (List.all_eq_true.2 an),sI (by obtain⟨D,_,o2,_⟩:=Y;exact o2) bb,sI (by obtain⟨D,_,o2,_⟩:=hl;exact o2) a0]
  have e1:IntKind.i64.wrap ((1:Int)+(Su.length:Int))=((1+Su.length:Nat):Int):=by rw[i64_in _ χ];omega
  obtain⟨s1,e6⟩:∃s,s=1+Su.length:=⟨_,rfl⟩;rw[←e6]at e1 bt;have e2:IntKind.i64.wrap ((s1:Int)+(Sl.length:Int))=((bV P l:Nat):Int):=by rw[bt,i64_in _ χ];omega
  obtain⟨tt,c4⟩:∃t,t=bV P l:=⟨_,rfl⟩;rw[←c4]at e2;have f9:=hh c4;have fz:Hid (Kz w1 w4):=hh (cp.out.trans hk (fun i hi h=>by have:=HU.out;omega));clear bt e6 c4 Y hl bb a0 an hk V;refine so (fun H w8=>H.tmps.size=76∧H.defers=[]∧At H 4 (.int .i64 tt)∧w8=w4) ?_ ?_
  ·obtain⟨T,d⟩:=a4
   refine rl ?_;with_reducible refine st ?_
   refine dT.len rfl cm.out rfl rfl Tryz.underlying211 (At.eval ar (by have:=N;simp at this⊢; omega)) ?_;simp only[Act.put]
   iterate 2 with_reducible refine st ?_
   refine dT.len rfl cj.out rfl rfl Tryz.underlying211 (At.eval ar (by have:=N;simp at this⊢; omega)) ?_;simp only[Act.put]
   iterate 2 with_reducible refine st ?_
   refine ln ⟨rfl,?_,cx,?_,rfl⟩
   ·have:=N;simp at this⊢; omega
   ·exact At.self
  rintro H w8 ⟨O,cy,k4,rfl⟩;refine wp_ret ?_
  repeat (first|with_reducible apply bY|with_reducible apply ba)
  refine bk (t:=4) rfl k4 (by rw[O];decide) cy ?_;exact⟨by rw[f9.out],fz.out⟩
open Go.Shelf
attribute [local go_sem] Oper.semAt_some
abbrev zT:Value := .agg #[.int .u64 0,.bool false,.bool false]
def Bc(P:aF)(l:List (Fin P.Q5.length)):ByteArray→Value:=qK (fun i=>P.Q5[i].name) (fun i =>.agg #[.int .u64 (P.Q5[i].size:Nat),.bool false,.bool false]) (fun _=>zT) l
def Bb(P:aF)(l:List (Fin P.Q5.length)):ByteArray→Bool:=qI (fun i=>P.Q5[i].name) (fun _=>false) l
def Ao(P:aF)(l:List (Fin P.Q3.length)):ByteArray→Value:=qK (fun i=>P.Q3[i].name) (fun i =>.agg #[.int .u64 (P.Q3[i].size:Nat),.bool P.Q3[i].big,.bool P.Q3[i].wx]) (Bc P (List.finRange _)) l
def An(P:aF)(l:List (Fin P.Q3.length)):ByteArray→Bool:=qI (fun i=>P.Q3[i].name) (Bb P (List.finRange _)) l
theorem AD(P:aF)(s:ByteArray):Bc P (List.finRange _) s=match P.Q5.find? (fun x=>decide (x.name=s))with|some x =>.agg #[.int .u64 (x.size:Nat),.bool false,.bool false]|none=>zT:=by
 unfold Bc;rw[iD,jL P.Q5]
 cases(List.finRange P.Q5.length).find? fun i=>decide (P.Q5[i].name=s)<;>rfl
theorem AC(P:aF)(s:ByteArray):Bb P (List.finRange _) s=(P.Q5.find? (fun x=>decide (x.name=s))).isSome:=by
 unfold Bb;rw[kH,jL P.Q5]
 cases(List.finRange P.Q5.length).find? fun i=>decide (P.Q5[i].name=s)<;>rfl
theorem ym(P:aF)(s:ByteArray):Ao P (List.finRange _) s=xm (aQ P s):=by
 unfold Ao aQ fO;rw[iD,jL P.Q3,AD]
 cases(List.finRange P.Q3.length).find? fun i=>decide (P.Q3[i].name=s)with
 | some i=>rfl
 | none =>
  simp only[Option.map_none]
  cases P.Q5.find? fun x=>decide (x.name=s)<;>rfl
theorem yl(P:aF)(s:ByteArray):An P (List.finRange _) s=(fO P s).isSome:=by
 unfold An fO;rw[kH,jL P.Q3,AC]
 cases(List.finRange P.Q3.length).find? fun i=>decide (P.Q3[i].name=s)with
 | some i=>rfl
 | none =>
  simp only[Option.map_none]
  cases P.Q5.find? fun x=>decide (x.name=s)<;>rfl
theorem nI:oo:=by
 intro B w v P hp hB;obtain⟨A_rams,a1,ca,c4,dc,c7⟩:=hp.QF;obtain⟨A_devices,q,ad,bo,bz,Z⟩:=hp.Q5;obtain⟨A_regions,g,an,bt,b5,ac⟩:=hp.Q3;obtain⟨A_subjects,E,X,bb,bl,be⟩:=hp.Q4;obtain⟨A_channels,y,U,a8,bf,bc⟩:=hp.Q8;obtain⟨A_irqs,a0,b6,c3,c9,c6⟩:=hp.QM;obtain⟨A_queues,L,a4,cb,cj,cd⟩:=hp.QB;obtain⟨A_plans,Q,a7,cv,cx,cw⟩:=hp.Q9;obtain⟨A_masters,J,al,bs,b4,bx⟩:=hp.QD;obtain⟨A_starts,O,a5,cc,cp,cf⟩:=hp.QH;obtain⟨A_monitors,C,V,a9,bg,bd⟩:=hp.QE;obtain⟨A_forbids,I,af,bp,b1,bw⟩:=hp.QG;have e0:(v.cells P).toArray = #[.int .i64 P.pos,.string P.name,.slice A_rams P.QF.length a1,.slice A_devices P.Q5.length q,.slice A_regions P.Q3.length g,.slice A_subjects P.Q4.length E,.slice A_channels P.Q8.length y,.slice A_irqs P.QM.length a0,.slice A_queues P.QB.length L,.slice A_plans P.Q9.length Q,.slice A_masters P.QD.length J,.slice A_starts P.QH.length O,.slice A_monitors P.QE.length C,.slice A_forbids P.QG.length I]:=by
  rw[←ca,←ad,←an,←X,←U,←b6,←a4,←a7,←al,←a5,←V,←af];rfl
 rw[e0];unfold top at bz b5;have d0:=hh Z;have cu:=hh ac;clear e0 hp ca ad an X U b6 a4 a7 al a5 V af c7 Z ac be bc c6 cd cw bx cf bd bw c4 bb a8 c3 cb cv bs cc a9 bp dc bl bf c9 cj cx b4 cp bg b1;refine(callsIn_wide (n:=9)).1 ?_;refine callsIn_of_wp_marks Tryz.func65 rfl trivial ?_;simp only[Tryz.ntmps65,List.size_toArray,List.length_cons,List.length_nil,Nat.reduceAdd,Nat.reduceSub,Array.replicate_succ,Array.replicate_zero,List.push_toArray,List.append_toArray,List.nil_append,List.cons_append];have e7:=@run_makeMap Tryz.prog
 gi_wp2
 refine⟨trivial,?_⟩;refine(oc Fence.wide 8 trivial rfl _ _ _ _).mono ?_;rintro e w' ⟨rfl,rfl⟩
 gi_wp2
 obtain⟨W0,eg⟩:∃W0,W0=(((w.alloc (.cells #[.int .i64 P.pos,.string P.name,.slice A_rams P.QF.length a1,.slice A_devices P.Q5.length q,.slice A_regions P.Q3.length g,.slice A_subjects P.Q4.length E,.slice A_channels P.Q8.length y,.slice A_irqs P.QM.length a0,.slice A_queues P.QB.length L,.slice A_plans P.Q9.length Q,.slice A_masters P.QD.length J,.slice A_starts P.QH.length O,.slice A_monitors P.QE.length C,.slice A_forbids P.QG.length I] 33)).alloc (.map #[] 0)).alloc (.cells #[.map (some (w.heap.size+1))] 133)).alloc (.cells #[.slice A_devices P.Q5.length q] 23):=⟨_,rfl⟩;have hf:=mZ w (.cells #[.int .i64 P.pos,.string P.name,.slice A_rams P.QF.length a1,.slice A_devices P.Q5.length q,.slice A_regions P.Q3.length g,.slice A_subjects P.Q4.length E,.slice A_channels P.Q8.length y,.slice A_irqs P.QM.length a0,.slice A_queues P.QB.length L,.slice A_plans P.Q9.length Q,.slice A_masters P.QD.length J,.slice A_starts P.QH.length O,.slice A_monitors P.QE.length C,.slice A_forbids P.QG.length I] 33) (.map #[] 0) (.cells #[.map (some (w.heap.size+1))] 133) (.cells #[.slice A_devices P.Q5.length q] 23);rw[←eg]at hf⊢;obtain⟨s0,b0,m0,b2,b3,hb⟩:=hf;clear eg;obtain⟨sf,bm,R⟩:=ld (σ:=Option Addr×Nat) (fun(x:Ck.bE) s=>[.int .i64 x.pos,.string x.name,.int .u64 x.Q7,.int .u64 x.size,.slice s.1 x.QA.length s.2]) (fun x _=>aW x.name) (fun b o x hx=>by
  obtain⟨u,hc,⟨Am,cm,rfl,_⟩,_,_,_,hs⟩:=hx;exact⟨(Am,cm),hc,hs⟩) d0.out
 obtain⟨vs,a6⟩:∃vs:Nat→Nat→Value,vs=fun j c=>if h:j<P.Q5.length then([.int .i64 P.Q5[j].pos,.string P.Q5[j].name,.int .u64 P.Q5[j].Q7,.int .u64 P.Q5[j].size,.slice (sf j).1 P.Q5[j].QA.length (sf j).2]:List Value).getD c undef else undef:=⟨_,rfl⟩
 have hA:0<P.Q5.length→∃b off,A_devices=some ⟨b,off,none⟩∧b<w.heap.size+4∧b≠w.heap.size+1∧∀j c,j<P.Q5.length→c<5→W0.cell? ⟨b,off+j*5+c,none⟩=some (vs j c):=fun di=>by
  obtain⟨b,off,h1,Y,h3⟩:=bm di;refine⟨b,off,h1,χ,χ,fun j c hj hc=>?_⟩;rw[a6];simp only[dif_pos hj];refine(h3 j hj).below hb χ c _ ?_
  match c,hc with
  | 0,_=>rfl
  | 1,_=>rfl
  | 2,_=>rfl
  | 3,_=>rfl
  | 4,_=>rfl
 have a3:=pX Fence.wide 8 trivial rfl ψ (w.heap.size+1+1+1) (w.heap.size+1) (w.heap.size+4) P.Q5.length q A_devices vs χ bo ⟨χ,χ⟩ W0 χ (cell_of_one b3) hA;rw[show(fun x:Fin P.Q5.length=>(#[.int .i64 (x.val:Int),.agg #[vs x.val 0,vs x.val 1,vs x.val 2,vs x.val 3,vs x.val 4]]:Array Value))=fun x =>#[.int .i64 (x.val:Int),.agg #[.int .i64 P.Q5[x.val].pos,.string P.Q5[x.val].name,.int .u64 P.Q5[x.val].Q7,.int .u64 P.Q5[x.val].size,.slice (sf x.val).1 P.Q5[x.val].QA.length (sf x.val).2]] from by
  funext x
  rw[a6];simp only[dif_pos x.isLt];rfl]at a3
 refine wpIn_rangeFunc_ownH (F:=Fence.wide) (n:=9) rfl ψ (gf:=138) (lb := #[.pointer (some ⟨w.heap.size+1+1+1,0,none⟩)]) rfl trivial (enters_of Tryz.func138 δ rfl)
  a3 km (vZ χ) (Below.refl _ _) (fun _=>rfl)
  (fun H W=>(cV W (w.heap.size+1) H.length zT (Bc P H.reverse) (Bb P H.reverse)∧W.heap[w.heap.size+1+1]?=some (.cells #[.map (some (w.heap.size+1))] 133 (0,0))∧W.heap[w.heap.size]?=some (.cells #[.int .i64 P.pos,.string P.name,.slice A_rams P.QF.length a1,.slice A_devices P.Q5.length q,.slice A_regions P.Q3.length g,.slice A_subjects P.Q4.length E,.slice A_channels P.Q8.length y,.slice A_irqs P.QM.length a0,.slice A_queues P.QB.length L,.slice A_plans P.Q9.length Q,.slice A_masters P.QD.length J,.slice A_starts P.QH.length O,.slice A_monitors P.QE.length C,.slice A_forbids P.QG.length I] 33 (0,0)))∧Below w.heap.size w W)
  (fun _ _ _=>False)
  (OwnFrom.and (OwnFrom.and (fun s A B row hs hg hr=>cV.own hs hg (fun r e=>(hr r e).1) χ) (OwnFrom.and (Own.from (ch _ _ _ _) _) (Own.from (ch _ _ _ _) _))) (ownFrom_below (Nat.le_refl _) χ))
  (fun _ _ _ _ _ hs _ _=>hs)
  ⟨⟨cV.new _ _ _ m0,b2,b0⟩,hb⟩
  (fun x (a':Act) (W:World)=>∃Bx:Nat,W.heap[Bx]?=some (Obj.cells #[.int .i64 P.Q5[x.val].pos,.string P.Q5[x.val].name,.int .u64 P.Q5[x.val].Q7,.int .u64 P.Q5[x.val].size,.slice (sf x.val).1 P.Q5[x.val].QA.length (sf x.val).2] 65 (0,0))∧a'.tmps.size=36∧At a' 3 (.pointer (some ⟨w.heap.size+1+1,0,none⟩))∧At a' 5 (.pointer (some ⟨Bx,0,none⟩)))
  (fun x a' s A B row hs hg hr=>by
   obtain⟨Bx,Y,h3⟩:=hs;exact⟨Bx,gX Y hg (fun r e=>(hr r e).2),h3⟩)
  ?assign ?body ?done ?stop
 case assign =>
  rintro l H x W K ⟨⟨hS,Y,h0⟩,hB⟩ hK;have c8:=aH Y;clear a3 hA R bm a6 d0 cu
  gi_wp2
  exact hK _ _ ((KeepsOthers.alloc _ _).from _) ((aD.refl _ _).alloc _) ⟨⟨hS.keep (((aD.refl (fun _=>False) _).alloc _)) (fun h=>h),(Below.heap_alloc _ _ _ c8).trans Y,(Below.heap_alloc _ _ _ (aH h0)).trans h0⟩,hB.alloc hB.size _⟩ ⟨W.heap.size,heap_alloc_new _ _,rfl,fun _=>rfl,fun _=>rfl⟩
 case body =>
  rintro l H x a' W hl _ ⟨⟨hS,Y,h0⟩,hB⟩ ⟨Bx,hX,cs,k3,k5⟩ ex;have q1:W.cell? ⟨Bx,1,none⟩=some (.string P.Q5[x.val].name):=cr hX rfl;have q3:W.cell? ⟨Bx,3,none⟩=some (.int .u64 P.Q5[x.val].size):=cr hX rfl;have qm:=cell_of_one Y;have dk:=R x.val x.isLt;have HS:=hh hS;have H2:=hh Y;have H0:=hh h0;have HB:=hh hB;have d3:Hid (aW P.Q5[x.val].name):=hh dk;clear hS Y h0 hB hX a3 hA R bm a6 d0 cu dk;obtain⟨T,d⟩:=a';refine wpIn_block (wpIn_region_lit ?_)
  iterate 6
   with_reducible refine wpListIn_step (fun K hK=>?_)
   go_simp;with_reducible refine hK _ _ ?_;clear hK K
  refine cV.updateIn rfl HS.out (by unfold maxLen;omega) rfl rfl Tryz.underlying133 (At.eval (by exact aq) (by have:=cs;simp at this⊢; omega)) (At.eval (by exact aq) (by have:=cs;simp at this⊢; omega)) (Nat.le_trans d3.out (by unfold maxLen;omega)) (At.eval (by exact aq) (by have:=cs;simp at this⊢; omega)) ?_;intro w2 d4 a2;refine wpListIn_nil ?_;have e1:(H++[x]).reverse=x::H.reverse:=ξ
  have e2:(H++[x]).length=H.length+1:=ξ
  refine⟨iE a2 χ,a2.mono fun _ _ h =>.inl h,⟨?_,(a2.block _ (aH H2.out) (by show _≠_;omega)).trans H2.out,(a2.block _ (aH H0.out) (by show _≠_;omega)).trans H0.out⟩,HB.out.trans (a2.below HB.out.size fun i hi e=>χ)⟩;rw[e1,e2];exact d4
 case done =>
  rintro D ys W hD rfl ⟨⟨hS,Y,h0⟩,hB⟩ hK;rw[kP,iP (Nat.le_refl _)]at hS;have q4:W.cell? ⟨w.heap.size,4,none⟩=some (.slice A_regions P.Q3.length g):=cr h0 rfl;have HS:=hh hS;have H2:=hh Y;have H0:=hh h0;have HB:=hh hB;have dt:=hh hK;have es:=aH hK;clear hS Y h0 hB a3 hA R bm a6 d0 hK
  gi_wp2
  refine⟨trivial,?_⟩;refine(oa Fence.wide 8 trivial rfl _ _ _ _).mono ?_;rintro e w' ⟨rfl,rfl⟩
  gi_wp2
  have en:Hid (KeepsFrom 0 W W):=hh (KeepsFrom.refl _ _);obtain⟨W1,cy⟩:∃W1,W1=W.alloc (.cells #[.slice A_regions P.Q3.length g] 24):=⟨_,rfl⟩;have s1:W1.heap.size=W.heap.size+1:=by rw[cy];simp
  have ew:W1.heap[W.heap.size]?=some (.cells #[.slice A_regions P.Q3.length g] 24 (0,0)):=by rw[cy];exact heap_alloc_new _ _
  have c5:Kz W W1:=by rw[cy];exact(aD.refl _ _).alloc _
  rw[←cy];clear cy en;have ed:Below w.heap.size w W1:=HB.out.trans (c5.below HB.out.size fun _ _ h=>h);have ez:=HB.out.size;have eu:=HS.out.keep c5 (fun h=>h);have eo:=(c5.block _ (aH H2.out) (fun h=>h)).trans H2.out;have er:=(c5.block _ es (fun h=>h)).trans dt.out;have ey:=HS.out.lt;have e5:=aH H2.out;clear c5;obtain⟨sf,bm,R⟩:=ld (σ:=Unit) (fun(x:Ck.Region) _=>Ck.Region.cells x) (fun x _=>aW x.name) (fun b o x hx=>⟨(),hx.1,hx.2.2.2.2.2.1⟩) cu.out;obtain⟨vs,a6⟩:∃vs:Nat→Nat→Value,vs=fun j c=>if h:j<P.Q3.length then(Ck.Region.cells P.Q3[j]).getD c undef else undef:=⟨_,rfl⟩
  have hA:0<P.Q3.length→∃b off,A_regions=some ⟨b,off,none⟩∧b<W.heap.size+1∧b≠w.heap.size+1∧∀j c,j<P.Q3.length→c<10→W1.cell? ⟨b,off+j*10+c,none⟩=some (vs j c):=fun di=>by
   obtain⟨b,off,h1,Y,h3⟩:=bm di;refine⟨b,off,h1,χ,χ,fun j c hj hc=>?_⟩;rw[a6];simp only[dif_pos hj];refine(h3 j hj).below ed χ c _ ?_
   match c,hc with
   | 0,_=>rfl
   | 1,_=>rfl
   | 2,_=>rfl
   | 3,_=>rfl
   | 4,_=>rfl
   | 5,_=>rfl
   | 6,_=>rfl
   | 7,_=>rfl
   | 8,_=>rfl
   | 9,_=>rfl
  have a3:=pW Fence.wide 8 trivial rfl ψ W.heap.size (w.heap.size+1) (W.heap.size+1) P.Q3.length g A_regions vs χ bt ⟨χ,χ⟩ W1 χ (cell_of_one ew) hA;rw[show(fun x:Fin P.Q3.length=>(#[.int .i64 (x.val:Int),.agg #[vs x.val 0,vs x.val 1,vs x.val 2,vs x.val 3,vs x.val 4,vs x.val 5,vs x.val 6,vs x.val 7,vs x.val 8,vs x.val 9]]:Array Value))=fun x =>#[.int .i64 (x.val:Int),.agg #[.int .i64 P.Q3[x.val].pos,.string P.Q3[x.val].name,.int .u64 P.Q3[x.val].size,.bool P.Q3[x.val].fixed,.int .u64 P.Q3[x.val].Q7,.bool P.Q3[x.val].big,.bool P.Q3[x.val].wx,.int .u64 P.Q3[x.val].fill,.bool P.Q3[x.val].QP,.string P.Q3[x.val].text]] from by
   funext x
   rw[a6];simp only[dif_pos x.isLt];rfl]at a3
  refine wpIn_rangeFunc_ownH (F:=Fence.wide) (n:=9) rfl ψ (gf:=139) (lb := #[.pointer (some ⟨W.heap.size,0,none⟩)]) rfl trivial (enters_of Tryz.func139 δ rfl)
   a3 km (vZ χ) (Below.refl _ _) (fun _=>rfl)
   (fun H W=>(cV W (w.heap.size+1) (P.Q5.length+H.length) zT (Ao P H.reverse) (An P H.reverse)∧W.heap[w.heap.size+1+1]?=some (.cells #[.map (some (w.heap.size+1))] 133 (0,0))∧W.heap[D]?=some (.deferred (some [])))∧Below w.heap.size w W)
   (fun _ _ _=>False)
   (OwnFrom.and (OwnFrom.and (fun s A B row hs hg hr=>cV.own hs hg (fun r e=>(hr r e).1) χ) (OwnFrom.and (Own.from (ch _ _ _ _) _) (fun s A B row hs hg hr=>(hg.block D (aH hs) (fun e=>by have:=(hr D e.symm).1;omega)).trans hs))) (ownFrom_below (Nat.le_refl _) χ))
   (fun _ _ _ _ _ hs _ _=>hs)
   ⟨⟨eu,eo,er⟩,ed⟩
   (fun x (a':Act) (W:World)=>∃Bx:Nat,W.heap[Bx]?=some (Obj.cells #[.int .i64 P.Q3[x.val].pos,.string P.Q3[x.val].name,.int .u64 P.Q3[x.val].size,.bool P.Q3[x.val].fixed,.int .u64 P.Q3[x.val].Q7,.bool P.Q3[x.val].big,.bool P.Q3[x.val].wx,.int .u64 P.Q3[x.val].fill,.bool P.Q3[x.val].QP,.string P.Q3[x.val].text] 53 (0,0))∧a'.tmps.size=36∧At a' 3 (.pointer (some ⟨w.heap.size+1+1,0,none⟩))∧At a' 7 (.pointer (some ⟨Bx,0,none⟩)))
   (fun x a' s A B row hs hg hr=>by
    obtain⟨Bx,Y,h3⟩:=hs;exact⟨Bx,gX Y hg (fun r e=>(hr r e).2),h3⟩)
   ?assign2 ?body2 ?done2 ?stop2
  case assign2 =>
   rintro l H x W K ⟨⟨hS,Y,h0⟩,hB⟩ hK;have c8:=aH Y;clear a3 hA R bm a6 cu HS H2 H0 HB dt
   gi_wp2
   exact hK _ _ ((KeepsOthers.alloc _ _).from _) ((aD.refl _ _).alloc _) ⟨⟨hS.keep (((aD.refl (fun _=>False) _).alloc _)) (fun h=>h),(Below.heap_alloc _ _ _ c8).trans Y,(Below.heap_alloc _ _ _ (aH h0)).trans h0⟩,hB.alloc hB.size _⟩ ⟨W.heap.size,heap_alloc_new _ _,rfl,fun _=>rfl,fun _=>rfl⟩
  case body2 =>
   rintro l H x a' W hl _ ⟨⟨hS,Y,h0⟩,hB⟩ ⟨Bx,hX,cs,k3,k7⟩ ex;have q1:W.cell? ⟨Bx,1,none⟩=some (.string P.Q3[x.val].name):=cr hX rfl;have q2:W.cell? ⟨Bx,2,none⟩=some (.int .u64 P.Q3[x.val].size):=cr hX rfl;have q5:W.cell? ⟨Bx,5,none⟩=some (.bool P.Q3[x.val].big):=cr hX rfl;have q6:W.cell? ⟨Bx,6,none⟩=some (.bool P.Q3[x.val].wx):=cr hX rfl;have qm:=cell_of_one Y;have dk:=R x.val x.isLt;have d2:=hh hS;have d9:=hh Y;have d8:=hh h0;have ds:=hh hB;have d3:Hid (aW P.Q3[x.val].name):=hh dk;clear hS Y h0 hB hX a3 hA R bm a6 cu dk HS H2 H0 HB dt;obtain⟨T,d⟩:=a';refine wpIn_block (wpIn_region_lit ?_)
   iterate 10
    with_reducible refine wpListIn_step (fun K hK=>?_)
    go_simp;with_reducible refine hK _ _ ?_;clear hK K
   refine cV.updateIn rfl d2.out (by unfold maxLen;omega) rfl rfl Tryz.underlying133 (At.eval (by exact aq) (by have:=cs;simp at this⊢; omega)) (At.eval (by exact aq) (by have:=cs;simp at this⊢; omega)) (Nat.le_trans d3.out (by unfold maxLen;omega)) (At.eval (by exact aq) (by have:=cs;simp at this⊢; omega)) ?_;intro w2 d4 a2;refine wpListIn_nil ?_;have e1:(H++[x]).reverse=x::H.reverse:=ξ
   have e2:P.Q5.length+(H++[x]).length=P.Q5.length+H.length+1:=η
   refine⟨iE a2 χ,a2.mono fun _ _ h =>.inl h,⟨?_,(a2.block _ (aH d9.out) (by show _≠_;omega)).trans d9.out,(a2.block _ (aH d8.out) (by show _≠_;omega)).trans d8.out⟩,ds.out.trans (a2.below ds.out.size fun i hi e=>χ)⟩;rw[e1,e2];exact d4
  case done2 =>
   rintro D2 ys W2 e6 rfl ⟨⟨hS,Y,ee⟩,hB⟩ hK;rw[kP]at hS;have qm:=cell_of_one Y;have d2:=hh hS;have ds:=hh hB;have ea:=hh ee;have eb:=hh hK;clear hS Y ee hB hK a3 hA R bm a6 cu HS H2 H0 HB dt
   gi_wp2
   have e2:D2≠D:=χ
   have d1:(W2.putObj D2 (.deferred none)).heap[D]?=some (.deferred (some [])):=((grownBy_putObj' W2 D2 (.deferred none)).block D (aH ea.out) (fun e=>e2 (by cases e;rfl))).trans ea.out;refine⟨ξ,.inl ⟨_,_,rfl,run_takeDeferred eb.out,?_⟩⟩;refine⟨ξ,.inl ⟨_,_,rfl,run_takeDeferred d1,?_⟩⟩;have eq:Below w.heap.size w ((W2.putObj D2 (.deferred none)).putObj D (.deferred none)):=(ds.out.trans (belowK_b (w:=w) (Nat.le_refl _) W2 D2 _ (.deferred none) χ eb.out rfl rfl)).trans (belowK_b (w:=w) (Nat.le_refl _) _ D _ (.deferred none) χ d1 rfl rfl);have d7:=(d2.out.own (N:=w.heap.size+2) (grownBy_putObj' W2 D2 (.deferred none)) (fun r e=>by cases e;omega) χ).own (N:=w.heap.size+2) (grownBy_putObj' _ D (.deferred none)) (fun r e=>by cases e;omega) χ;have f1:Ao P (List.finRange _)=fun s=>xm (aQ P s):=funext fun s=>ym P s
   have f2:An P (List.finRange _)=fun s=>(fO P s).isSome:=funext fun s=>yl P s
   rw[f1,f2]at d7;exact⟨_,results_tmp rfl _ _ _,w.heap.size+1,rfl,χ,d7.lt,⟨_,d7⟩,aD.of_below eq fun i h1 Y=>χ⟩
  case stop2 =>
   rintro D c H W _ _ h _;exact h.elim
 case stop =>
  rintro D c H W _ _ h _;exact h.elim
