import Derived.Test.YthobcefghkeddaaGreatDoorClone
import Derived.Test.YthobcefghkeddaaGreatDoorBack
import Derived.Maps.OwnIn
set_option maxRecDepth 100000
set_option linter.all false
set_option maxHeartbeats 4000000
namespace Go.Proofs.YthobcefghkeddaaGreatDoor
section
open Go.RowKit Go.IntWalk Go.Shelf Ck
variable {b:Nat} {p:ByteArray→Bool}
attribute [local go_sem] Oper.semAt_some
theorem dA{β:Type}(k:Nat)(cs:Array Value)(t:TypeId)(z:Nat×Nat):Own (fun(_:β) W=>W.heap[k]?=some (.cells cs t z)):=fun s A B row d j l=>by
 refine(j.block k (aH d) fun e=>?_).trans d;obtain⟨o,g,h⟩:=l k e.symm;rw[d]at g
 cases g
 cases h
theorem gq{A B:World}{row:Option Nat}{k:Nat}{cs:Array Value}{t:TypeId}{z:Nat×Nat}(h:A.heap[k]?=some (.cells cs t z))(d:A.grownBy B row)(g:∀r,row=some r→∃o:Obj,A.heap[r]?=some o∧o.isCells=false):B.heap[k]?=some (.cells cs t z):=
 dA k cs t z () A B row h d g
theorem iV{N:Nat}{W W':World}(hk:aD (fun k=>k=b) W W')(g:b<N):KeepsFrom N W W':=
 ⟨hk.size,fun k o d h _=>(hk.block k (aH h) (by show k≠b;omega)).trans h⟩
theorem ci.updateIn{F0:Fence}{B:Nat}{w:World}{n:Nat}{z:Value}{F:ByteArray→Value}{P:Program}(H:P=Tryz.prog)(h:ci w b n z F p)(K:n<maxLen){ops:Array Oper}{rest:List Oper}{o:Oper}{a:Act}{Q:Exit→Act→World→Prop}
 (I:o.guard=none){m x u:Operand}{t e:TypeId}(q:o.op=Op.mapUpdate t m x u)(y:P.underlying t=some (.map 9 e))
 (J:a.eval m=.map (some b)){s:ByteArray}(O:a.eval x=.string s)(L:s.size≤maxLen){v:Value}(N:a.eval u=v)
 (E:∀w',ci w' b (n+1) z (fun t=>if t=s then v else F t) (fun t=>decide (t=s)||p t)→aD (fun k=>k=b) w w'→wpListIn F0 B P ops Q rest (a.put o.dst undef) w'):wpListIn F0 B P ops Q (o::rest) a w:=by
 subst H;obtain⟨D,j,C⟩:=h;refine wpListIn_mapUpdate_own _ I m x u t q 9 e Tryz.law9 y eE b n D J j K _ _ (key s) O N (Go.WideMaps.keyOf_string_mk Tryz.underlying9 L) _ [] rfl fun w' g l=>E w' ⟨_,g,fun t y=>?_⟩ (aD.of_grown l (fun k e=>by cases e;rfl))
 obtain⟨R,U⟩:=C t y
 by_cases hts:t=s
 ·subst hts
  exact⟨by show _=DataW.held (if t=t then v else F t);rw[if_pos rfl];exact Go.Maps.atKey_put_same j.isMap (kQ t) _ _,by rw[Go.Maps.has_put_same j.isMap (kQ t)];simp⟩
 ·have d:key t≠key s:=fun e=>hts (nR e)
  exact⟨by show _=DataW.held (if t=s then v else F t);rw[if_neg hts];exact(Go.Maps.atKey_put_other d _ _).trans R,by rw[Go.Maps.has_put_other d,U];simp[hts]⟩
theorem ci.own{n N:Nat}{z:Value}{F:ByteArray→Value}{W W':World}{row:Option Nat}(l:ci W b n z F p)(h:W.grownBy W' row)(j:∀r,row=some r→N≤r)(q:b<N):ci W' b n z F p:=by
 obtain⟨D,d,g⟩:=l;exact⟨D,d.kept h (fun e=>by have:=j _ e.symm;omega),g⟩
def qb{α:Type}(nm:α→ByteArray)(va:α→Value)(F:ByteArray→Value):List α→ByteArray→Value
 | [],s=>F s
 | x::t,s=>if s=nm x then va x else qb nm va F t s
def qa{α:Type}(nm:α→ByteArray)(p:ByteArray→Bool):List α→ByteArray→Bool
 | [],s=>p s
 | x::t,s=>decide (s=nm x)||qa nm p t s
theorem iU{α:Type}{d:α→ByteArray}{g:α→Value}{F:ByteArray→Value}(s:ByteArray):∀l:List α,qb d g F l s=match l.find? (fun x=>decide (d x=s))with|some x=>g x|none=>F s
 | []=>rfl
 | x::t=>by
  simp only[qb,List.find?_cons]
  by_cases h:s=d x
  ·simp[h]
  ·have j:¬ d x=s:=fun e=>h e.symm
   simp[h,j,iU s t]
theorem kP{α:Type}{d:α→ByteArray}{p:ByteArray→Bool}(s:ByteArray):∀l:List α,qa d p l s=match l.find? (fun x=>decide (d x=s))with|some _=>true|none=>p s
 | []=>rfl
 | x::t=>by
  simp only[qa,List.find?_cons]
  by_cases h:s=d x
  ·simp[h]
  ·have g:¬ d x=s:=fun e=>h e.symm
   simp[h,g,kP s t]
theorem kX(len:Nat):(bL len len).reverse=List.finRange len:=by
 unfold bL;rw[List.take_of_length_le ξ,List.reverse_reverse]
theorem jY{α:Type}(l:List α)(p:α→Bool):l.find? p=((List.finRange l.length).find? (fun i=>p l[i])).map (fun i=>l[i]):=by
 have:l=(List.finRange l.length).map (fun i=>l[i]):=by
  apply List.ext_getElem
  ·simp
  ·intro i d g;simp
 conv=>lhs;rw[this]
 rw[List.find?_map];rfl
theorem mt(w:World)(d g h j:Obj):((((w.alloc d).alloc g).alloc h).alloc j).heap.size=w.heap.size+4∧((((w.alloc d).alloc g).alloc h).alloc j).heap[w.heap.size]?=some d∧((((w.alloc d).alloc g).alloc h).alloc j).heap[w.heap.size+1]?=some g ∧
 ((((w.alloc d).alloc g).alloc h).alloc j).heap[w.heap.size+1+1]?=some h∧((((w.alloc d).alloc g).alloc h).alloc j).heap[w.heap.size+1+1+1]?=some j∧Below w.heap.size w ((((w.alloc d).alloc g).alloc h).alloc j):=by
 have l:(w.alloc d).heap.size=w.heap.size+1:=ξ
 have q:((w.alloc d).alloc g).heap.size=w.heap.size+1+1:=ξ
 have u:(((w.alloc d).alloc g).alloc h).heap.size=w.heap.size+1+1+1:=ξ
 refine⟨ξ,?_,?_,?_,?_,?_⟩
 ·rw[Below.heap_alloc _ _ _ χ,Below.heap_alloc _ _ _ χ,Below.heap_alloc _ _ _ χ,heap_alloc_new]
 ·rw[Below.heap_alloc _ _ _ χ,Below.heap_alloc _ _ _ χ,←l,heap_alloc_new]
 ·rw[Below.heap_alloc _ _ _ χ,←q,heap_alloc_new]
 ·rw[←u,heap_alloc_new]
 ·exact((((Below.refl _ w).alloc (Nat.le_refl _) _).alloc χ _).alloc χ _).alloc χ _
theorem mD{α σ:Type}[Inhabited σ]{B k:Nat}{R:World→Nat→Nat→α→Prop}{w:World}{A:Option Addr}{xs:List α}(row:α→σ→List Value)(Φ:α→σ→Prop)(v:∀b o x,R w b o x→∃s,aM w b o (row x s)∧Φ x s)(h:pO B k R w A xs):
 ∃q:Nat→σ,(0<xs.length→∃b off,A=some ⟨b,off,none⟩∧b<B∧∀j (d:j<xs.length),aM w b (off+j*k) (row xs[j] (q j)))∧∀i (hi:i<xs.length),Φ xs[i] (q i):=by
 rcases Nat.eq_zero_or_pos xs.length with E|g
 ·exact⟨fun _=>default,fun h=>χ,fun i hi=>χ⟩
 ·obtain⟨b,off,u,y,C⟩:=h g
  have l:∀j,∃s,∀d:j<xs.length,aM w b (off+j*k) (row xs[j] s)∧Φ xs[j] s:=fun j=>by
   by_cases d:j<xs.length
   ·obtain⟨s,D⟩:=v _ _ _ (C j xs[j] (Ez d))
    exact⟨s,fun _=>D⟩
   ·exact⟨default,fun h=>absurd h d⟩
  exact⟨fun j=>Classical.choose (l j),fun _=>⟨b,off,u,y,fun j d=>(Classical.choose_spec (l j) d).1⟩,fun i hi=>(Classical.choose_spec (l i) hi).2⟩
end
open Go.RowKit Go.IntWalk Ck
theorem Tryz.lawU:Go.Maps.Keyed Tryz.prog 41:=Go.Maps.int_keyed Tryz.underlying41
def upN(m:Ck.Map)(s:Nat):Nat:=(m.Q7+s-1) / 2097152+1-m.Q7 / 2097152
def PUp(m:Ck.Map)(y j:Nat):Prop:=∃i,i<j∧y=(m.Q7 / 2097152+i) / 512
def rY(m:Ck.Map)(big:Bool)(y j:Nat):Prop:=big=false∧∃i,i<j∧y=m.Q7 / 2097152+i
theorem qr{w:World}{m:Ck.Map}{x:iB}(hb:below m.Q7 x.size 549755813888=true)(hp:0<x.size)(ca:x.size≤67108864){u lo nu nl:Nat}{Su Sl:List Nat}(hu:de 41 w u nu Su)(hl:de 41 w lo nl Sl)(cc:nu≤140737488355000)(cb:nl≤140737488355000)(cd:u≠lo)
 {zm zx:Nat}(bm:w.heap[zm]?=some (.cells (Ck.Map.cells m).toArray 93 (0,0)))(V:w.heap[zx]?=some (.cells #[.int .u64 x.size,.bool x.big,.bool x.wx] 178 (0,0)))(cm:zm≠u∧zm≠lo∧zx≠u∧zx≠lo)(a:Act)(R:a.tmps.size=76)
 (h5:At a 5 (.map (some u)))(h6:At a 6 (.map (some lo)))(h8:At a 8 (.pointer (some ⟨zm,0,none⟩)))(h9:At a 9 (.pointer (some ⟨zx,0,none⟩)))(bt:At a 11 (.int .u64 (m.Q7 / 2097152:Nat)))(Q:Exit→Act→World→Prop)
 (hQ:∀C w' Su' Sl',aE (fun i=>i==11||(rg 48 68 i)) a C→de 41 w' u (nu+upN m x.size) Su'→de 41 w' lo (nl+upN m x.size) Sl'→(∀y,y∈Su'↔y∈Su∨PUp m y (upN m x.size))→(∀y,y∈Sl'↔y∈Sl∨rY m x.big y (upN m x.size))→aD (fun k=>k=u∨k=lo) w w'→Q .normal C w'):
 (b9 Tryz.f66 [1,1,0,1,0,0,1,1,0,0,1,1,1,1,1]).wp Tryz.prog Q a w:=by
 obtain⟨b4,b5⟩:m.Q7≤549755813888∧x.size≤549755813888-m.Q7:=by
  unfold below at hb
  simpa using hb
 have b2:m.Q7 / 2097152≤(m.Q7+x.size-1) / 2097152:=χ
 have cf:upN m x.size≤34:=by unfold upN;omega
 conv=>arg 2;whnf
 refine wD (upN m x.size) (fun j C w'=>aE (fun i=>i==11||(rg 48 68 i)) a C∧At C 11 (.int .u64 ((m.Q7 / 2097152+j:Nat):Int))∧∃Su' Sl',de 41 w' u (nu+j) Su'∧de 41 w' lo (nl+j) Sl'∧(∀y,y∈Su'↔y∈Su∨PUp m y j)∧(∀y,y∈Sl'↔y∈Sl∨rY m x.big y j)∧aD (fun k=>k=u∨k=lo) w w')
  (fun j C w'=>aE (fun i=>i==11||(rg 48 68 i)) a C∧At C 11 (.int .u64 ((m.Q7 / 2097152+j:Nat):Int))∧∃Su' Sl',de 41 w' u (nu+(j+1)) Su'∧de 41 w' lo (nl+(j+1)) Sl'∧(∀y,y∈Su'↔y∈Su∨PUp m y (j+1))∧(∀y,y∈Sl'↔y∈Sl∨rY m x.big y (j+1))∧aD (fun k=>k=u∨k=lo) w w')
  (fun a=>match a.eval (.tmp 11)with|.int _ x=>x.toNat-m.Q7 / 2097152|_=>0) ⟨aE.refl _ _,bt,Su,Sl,hu,hl,fun y=>⟨.inl,fun h=>h.elim id fun⟨i,hi,_⟩=>χ⟩,fun y=>⟨.inl,fun h=>h.elim id fun⟨_,i,hi,_⟩=>χ⟩,aD.refl _ _⟩ ?_ ?_ ?_ ?_ ?_
 ·rintro k C w' ⟨E,hk,_⟩
  rw[hk.eval (by rw[E.size,R];decide)];show((m.Q7 / 2097152+k:Nat):Int).toNat-m.Q7 / 2097152=k;omega
 ·rintro k C w' a8 ⟨E,hk,g⟩
  have Z:=hh g;obtain⟨Su',Sl',_,_,_,_,hK⟩:=g;have k8:=E.Q7 h8 rfl;have k9:=E.Q7 h9 rfl;have l:=E.size.trans R;have q2:w'.cell? ⟨zm,2,none⟩=some (.int .u64 m.Q7):=cr ((hK.block zm (aH bm) χ).trans bm) rfl;have p0:w'.cell? ⟨zx,0,none⟩=some (.int .u64 x.size):=cr ((hK.block zx (aH V) χ).trans V) rfl;obtain⟨D,B⟩:∃D,D=m.Q7 / 2097152+k:=⟨_,rfl⟩;obtain⟨s,hs⟩:∃s,s=m.Q7+x.size:=⟨_,rfl⟩;obtain⟨s1,ad⟩:∃s1,s1=m.Q7+x.size-1:=⟨_,rfl⟩;rw[←B]at hk;have e1:IntKind.u64.wrap ((m.Q7:Int)+(x.size:Int))=(s:Int):=by rw[hs,u64_in _ χ];omega
  have e2:IntKind.u64.wrap ((s:Int)-1)=(s1:Int):=by rw[ad,hs,u64_in _ χ];omega
  have H:=hh B;have HS:=hh hs;have bs:=hh ad;clear B hs ad;obtain⟨T,d⟩:=C;refine rl ?_
  iterate 9 with_reducible refine st ?_
  with_reducible refine ln ?_
  refine⟨rfl,⟨?_,?_,?_⟩,?_⟩
  ·exact ag
  ·rw[←H.out]
   (repeat (first|with_reducible exact At.self|with_reducible apply At.ne));all_goals first|decide|with_reducible exact hk
  ·exact Z.out
  ·refine(At.eval At.self (by have:=l;simp at this⊢; omega)).trans ?_
   have X:=H.out;have h3:=bs.out
   congr 1
   exact decide_eq_decide.2 (by unfold upN;omega)
 ·rintro k C w' a8 ⟨E,hk,Su',Sl',af,aa,ac,O,hK⟩
  have k5:=E.Q7 h5 rfl;have k6:=E.Q7 h6 rfl;have k9:=E.Q7 h9 rfl;have l:=E.size.trans R;have U:=(hK.block zx (aH V) χ).trans V;obtain⟨D,B⟩:∃D,D=m.Q7 / 2097152+k:=⟨_,rfl⟩;obtain⟨q,hq⟩:∃q,q=D / 512:=⟨_,rfl⟩;rw[←B]at hk;have cj:D<2097152:=χ
  have b3:(D:Int) / 512=(q:Int):=χ
  have b0:q<lim:=by unfold lim;omega
  have bf:D<lim:=by unfold lim;omega
  have H:=hh B;have HQ:=hh hq;clear B hq;refine so (fun a1 w1=>aE (fun i=>(rg 48 68 i)) C a1∧de 41 w1 u (nu+(k+1)) (de.add Su' q)∧aD (fun k=>k=u) w' w1) ?_ ?_
  ·have HU:=hh af
   clear af aa ac O hK U;have a5:aE (fun i=>(rg 48 68 i)) C C:=aE.refl _ _;obtain⟨T,d⟩:=C;refine rl ?_
   iterate 4 with_reducible refine st ?_
   refine de.update rfl HU.out Tryz.lawU Tryz.underlying41 (by unfold maxLen;omega) rfl rfl Tryz.underlying211 (At.eval ar (by have:=l;simp at this⊢; omega)) (y:=q) (At.eval ar (by have:=l;simp at this⊢; omega)) b0 (At.eval ar (by have:=l;simp at this⊢; omega)) ?_;intro w2 b1 bx;refine ln ⟨rfl,?_,b1,bx⟩;simp only[Act.put];exact ag
  rintro a1 w1 ⟨I,bd,N⟩;replace k6:=I.Q7 k6 rfl;replace k9:=I.Q7 k9 rfl;replace hk:=I.Q7 hk rfl;have bc:=I.size.trans l;have bb:=aa.keep N (by show ¬ lo=u;omega);have bl:=(N.block zx (aH U) (by show zx≠u;omega)).trans U;have p1:w1.cell? ⟨zx,1,none⟩=some (.bool x.big):=cr bl rfl;have a6:aD (fun k=>k=u∨k=lo) w w1:=hK.trans N (fun _ _ h =>.inl h);have be:∀y,y∈de.add Su' q↔y∈Su∨PUp m y (k+1):=fun y=>by
   rw[de.mem_add,ac y];have X:=H.out;have h2:=HQ.out;constructor
   ·rintro(e|h|⟨i,hi,e⟩)
    ·exact .inr ⟨k,χ,by rw[e,h2,X]⟩
    ·exact .inl h
    ·exact .inr ⟨i,χ,e⟩
   ·rintro(h|⟨i,hi,e⟩)
    ·exact .inr (.inl h)
    ·rcases Nat.lt_or_ge i k with h|h
     ·exact .inr (.inr ⟨i,h,e⟩)
     ·obtain rfl:i=k:=χ
      exact .inl (by rw[e,h2,X])
  have Y:∀y,(x.big=false→(y∈de.add Sl' D↔y∈Sl∨rY m x.big y (k+1)))∧(x.big=true→(y∈Sl'↔y∈Sl∨rY m x.big y (k+1))):=fun y=>by
   have X:=H.out;constructor
   ·intro v
    rw[de.mem_add,O y];constructor
    ·rintro(e|h|⟨bw,i,hi,e⟩)
     ·exact .inr ⟨v,k,χ,by rw[e,X]⟩
     ·exact .inl h
     ·exact .inr ⟨v,i,χ,e⟩
    ·rintro(h|⟨bw,i,hi,e⟩)
     ·exact .inr (.inl h)
     ·rcases Nat.lt_or_ge i k with h|h
      ·exact .inr (.inr ⟨v,i,h,e⟩)
      ·obtain rfl:i=k:=χ
       exact .inl (by rw[e,X])
   ·intro v
    rw[O y];unfold rY;rw[v];simp
  have a4:=hh be;have W:=hh Y;have a3:=hh bd;have a0:=hh bb;have an:=hh a6;have bp:Hid (aE (fun i=>i==11||(rg 48 68 i)) a a1):=E.t I;clear be Y bd bb a6 af aa ac O hK U E I N bl;refine so (fun a2 w2=>aE (fun i=>(rg 48 68 i)) a1 a2∧At a2 65 (.bool !x.big)∧w2=w1) ?_ ?_
  ·have a5:aE (fun i=>(rg 48 68 i)) a1 a1:=aE.refl _ _
   obtain⟨T,d⟩:=a1;refine rl ?_
   iterate 3 with_reducible refine st ?_
   refine ln ⟨rfl,ag,aq,rfl⟩
  rintro a2 w2 ⟨J,bo,rfl⟩;have L:=J.size.trans bc;replace k6:=J.Q7 k6 rfl;replace hk:=J.Q7 hk rfl;have a9:At a2 11 (.int .u64 ((m.Q7 / 2097152+k:Nat):Int)):=by rw[←H.out];exact hk
  have al:Hid (aE (fun i=>i==11||(rg 48 68 i)) a a2):=bp.out.t J;clear J;refine wp_cond_split (bo.eval χ) (fun v=>?_) (fun v=>?_)
  ·have K:x.big=false:=by simpa using v
   have a5:aE (fun i=>i==11||(rg 48 68 i)) a a2:=al.out;clear v bo;obtain⟨T,d⟩:=a2;refine rl ?_
   iterate 3 with_reducible refine st ?_
   refine de.update rfl a0.out Tryz.lawU Tryz.underlying41 (by unfold maxLen;omega) rfl rfl Tryz.underlying211 (At.eval ar (by have:=L;simp at this⊢; omega)) (y:=D) (At.eval ar (by have:=L;simp at this⊢; omega)) bf (At.eval ar (by have:=L;simp at this⊢; omega)) ?_;intro w3 bz a7;refine ln ?_;simp only[Act.put];refine⟨?_,?_,_,_,a3.out.keep a7 (by show ¬ u=lo;omega),bz,a4.out,fun y=>(W.out y).1 K,an.out.trans a7 (fun _ _ h =>.inr h)⟩
   ·exact ag
   ·(repeat (first|with_reducible exact At.self|with_reducible apply At.ne));all_goals first|decide|with_reducible exact a9
  ·have K:x.big=true:=by simpa using v
   refine wp_skip ?_;exact⟨al.out,a9,_,_,a3.out,a0.out.mono χ,a4.out,fun y=>(W.out y).2 K,an.out⟩
 ·rintro k C w' a8 ⟨E,hk,g⟩
  have l:=E.size.trans R;obtain⟨D,B⟩:∃D,D=m.Q7 / 2097152+k:=⟨_,rfl⟩;have e0:m.Q7 / 2097152+(k+1)=D+1:=χ
  rw[←B]at hk;have e1:IntKind.u64.wrap ((D:Int)+1)=(D:Int)+1:=u64_in _ χ;have HR:=hh g;clear g B;rw[e0];obtain⟨T,d⟩:=C;refine rl ?_
  iterate 3 with_reducible refine st ?_
  refine ln ⟨rfl,?_,?_,HR.out⟩
  ·exact ag
  ·have e2:((D+1:Nat):Int)=(D:Int)+1:=χ
   rw[e2];exact aq
 ·rintro C w' ⟨E,_,Su',Sl',X,h2,h3,h4,h5⟩
  exact hQ C w' Su' Sl' E X h2 h3 h4 h5
theorem nk(P:aF)(m:Ck.Map):d5 P m=((eC P m.of).isSome&&(decide ((aR P m.of).size≤67108864)&&below m.Q7 (aR P m.of).size 549755813888)):=by
 unfold d5 aR
 cases eC P m.of<;>simp
theorem sh{S L:List Nat}(g:S.Nodup)(h:∀y,y∈S↔y∈L):S.length=L.eraseDups.length:=by
 have j:=rP g (m:=L.eraseDups) (fun x d=>List.mem_eraseDups.2 ((h x).1 d));have l:=rP (ot L) (m:=S) (fun x d=>(h x).2 (List.mem_eraseDups.1 d));omega
theorem tx(P:aF)(l:List Ck.Map)(m:Ck.Map)(y:Nat):y∈dW P (l++[m])↔y∈dW P l∨(0<(aR P m.of).size∧PUp m y (upN m (aR P m.of).size)):=by
 unfold dW PUp upN ups;rw[List.flatMap_append,List.mem_append];refine or_congr Iff.rfl ?_;simp only[List.flatMap_cons,List.flatMap_nil,List.append_nil];split
 ·rename_i h;simp;omega
 ·rename_i h
  simp only[List.mem_map,List.mem_range];constructor
  ·rintro⟨z,⟨i,hi,rfl⟩,rfl⟩;exact⟨χ,i,hi,by rw[Nat.add_comm]⟩
  ·rintro⟨_,i,hi,rfl⟩;exact⟨_,⟨i,hi,rfl⟩,by rw[Nat.add_comm]⟩
theorem vK(P:aF)(l:List Ck.Map)(m:Ck.Map)(y:Nat):y∈dZ P (l++[m])↔y∈dZ P l∨(0<(aR P m.of).size∧rY m (aR P m.of).big y (upN m (aR P m.of).size)):=by
 unfold dZ rY upN ups;rw[List.flatMap_append,List.mem_append];refine or_congr Iff.rfl ?_;simp only[List.flatMap_cons,List.flatMap_nil,List.append_nil];split
 ·rename_i h
  rcases h with h|h
  ·simp;omega
  ·simp[h]
 ·rename_i h
  have d:(aR P m.of).big=false:=by cases hb:(aR P m.of).big<;>simp_all
  have g:¬ (aR P m.of).size=0:=fun e=>h (.inl e)
  simp only[List.mem_map,List.mem_range];constructor
  ·rintro⟨i,hi,rfl⟩;exact⟨χ,d,i,hi,by rw[Nat.add_comm]⟩
  ·rintro⟨_,_,i,hi,rfl⟩;exact⟨i,hi,by rw[Nat.add_comm]⟩
theorem uJ{B:Nat}{w:World}{P:aF}{A:Option Addr}{c:Nat}{l:List Ck.Map}(hs:aL B 5 dO w (.slice A l.length c) l)(hB:B≤w.heap.size){mb:Nat}(hm:gC w mb P)(h3:mb<w.heap.size)(ff:∀s,(aR P s).size<lim):
 Calls Tryz.prog 66 #[.slice A l.length c,.map (some mb)] w fun e w'=>e=.returned (.int .i64 (bV P l))∧Kz w w':=by
 obtain⟨_,_,e,h9,hn,hl⟩:=hs
 cases e
 unfold top at hn;have HM:=hh hm;have f7:=hh ff;have f3:=hh hl;clear hm ff hl;refine bU Tryz.func66 Tryz.ntmps66 rfl (by show 2≤76;decide) fun a fc hd h=>?_
 have h0:At a 0 (.slice A l.length c):=h 0 _ rfl;have U:At a 1 (.map (some mb)):=h 1 _ rfl;clear h
 conv=>arg 2;whnf
 refine so (fun a1 w1=>aE (fun i=>i==4) a a1∧At a1 4 (.int .i64 (0:Nat))∧w1=w) ?_ ?_
 ·obtain⟨T,d⟩:=a
  refine rl ?_;with_reducible refine st ?_
  refine ln ⟨rfl,?_,?_,rfl⟩
  ·exact ag
  ·exact At.self
 rintro a1 w1 ⟨bd,h4,rfl⟩;replace h0:=bd.Q7 h0 rfl;replace U:=bd.Q7 U rfl;have cb:=bd.size.trans fc;have eq:=bd.defers.trans hd;clear bd fc hd;refine so (fun a2 w2=>aE (fun i=>i==5||i==6||i==12||i==13) a1 a2∧At a2 5 (.map (some w1.heap.size))∧At a2 6 (.map (some (w1.heap.size+1)))∧w2=(w1.alloc (.map #[] 0)).alloc (.map #[] 0)) ?_ ?_
 ·have h7:=@run_makeMap Tryz.prog
  have af:aE (fun i=>i==5||i==6||i==12||i==13) a1 a1:=aE.refl _ _;obtain⟨T,d⟩:=a1;refine rl ?_
  iterate 4 with_reducible refine st ?_
  refine ln ⟨rfl,ag,aq,aq,rfl⟩
 rintro a2 w2 ⟨ac,h5,h6,bw⟩;replace h0:=ac.Q7 h0 rfl;replace U:=ac.Q7 U rfl;replace h4:=ac.Q7 h4 rfl;have cc:=ac.size.trans cb;have er:=ac.defers.trans eq;obtain⟨u,Y⟩:∃u,u=w1.heap.size:=⟨_,rfl⟩;have s2:w2.heap.size=u+2:=by rw[bw,Y];simp
 have f1:w2.heap[u]?=some (.map #[] 0):=by rw[bw,Y,Below.heap_alloc _ _ _ ξ];exact heap_alloc_new _ _
 have f2:w2.heap[u+1]?=some (.map #[] 0):=by
  rw[bw,Y];have:=heap_alloc_new (w1.alloc (.map #[] 0)) (.map #[] 0)
  rwa[World.size_alloc]at this
 have eu:Kz w1 w2:=by rw[bw];exact((aD.refl _ _).alloc _).alloc _
 rw[←Y]at h5 h6;have h8:mb<u:=χ
 have hp:B≤u:=χ
 have HU:=hh Y;clear bw ac cb eq Y;refine wp_seq (wp_seq (Code.wp_only (R:=fun a3 w3=>aE (fun i=>i==14||i==15||i==16) a2 a3∧At a3 14 (.slice A l.length c)∧At a3 15 (.int .i64 l.length)∧At a3 16 (.int .i64 0)∧w3=w2) ?_ ?_))
 ·have af:aE (fun i=>i==14||i==15||i==16) a2 a2:=aE.refl _ _
  obtain⟨T,d⟩:=a2;refine rl ?_
  iterate 3 with_reducible refine st ?_
  refine ln ⟨rfl,ag,aq,aq,aq,rfl⟩
 rintro a3 w3 ⟨W,ha,g9,g7,rfl⟩;replace U:=W.Q7 U rfl;replace h4:=W.Q7 h4 rfl;replace h5:=W.Q7 h5 rfl;replace h6:=W.Q7 h6 rfl;have cd:=W.size.trans cc;have es:=W.defers.trans er;clear W cc er h0;have cs:=hh eu;clear eu;refine bh l.length (fun i=>(rg 8 11 i)||(rg 16 69 i)) (fun i=>(rg 8 11 i)||(rg 18 68 i))
  (fun k _ w'=>∃nu nl Su Sl,de 41 w' u nu Su∧de 41 w' (u+1) nl Sl∧nu≤34*k∧nl≤34*k∧(∀y,y∈Su↔y∈dW P (l.take k))∧(∀y,y∈Sl↔y∈dZ P (l.take k))∧(∀m∈l.take k,d5 P m=true)∧aD (fun k=>k=u∨k=u+1) w3 w') χ g7 g9 ψ rfl
  ζ χ ψ (fun k a1 a2 w V hI=>hI) ⟨0,0,[],[],de.new _ _ _ f1,de.new _ _ _ f2,Nat.zero_le _,Nat.zero_le _,by simp[dW],by simp[dZ],ξ,aD.refl _ _⟩ ?_ ?_
 ·rintro n a4 wr gy V g8 ⟨nu,nl,Su,Sl,Y,hl,ez,ey,a0,an,al,hk⟩
  obtain⟨bl,off,rfl,go,eo⟩:=f3.out χ;obtain⟨m,hx⟩:=ge gy;have cw:aD (fun k=>k=u∨k=u+1) w1 wr:=(cs.out.mono fun _ _ h=>h.elim:aD (fun k=>k=u∨k=u+1) w1 w3).trans hk (fun _ _ h=>h);obtain⟨hc,cj⟩:=(aJ B _ _) _ _ _ _ _ (cw.below (B:=B) χ (fun _ hi e=>χ)) go (eo n m hx);have q0:=hc.c0;have q1:=hc 1 _ rfl;have q2:=hc 2 _ rfl;have q3:=hc 3 _ rfl;have q4:=hc 4 _ rfl;have dc:=V.Q7 U rfl;have Z:=V.Q7 h4 rfl;have g:=V.Q7 h5 rfl;have v:=V.Q7 h6 rfl;have fp:=V.Q7 ha rfl;have N:=V.size.trans cd;have cy:=V.defers.trans es;have he:=hk.size;have hb:bl<wr.heap.size:=χ
  have hy:n≤c:=χ
  obtain⟨x,bb⟩:∃x,x=aR P m.of:=⟨_,rfl⟩;have g5:x.size<lim:=by rw[bb];exact f7.out _
  obtain⟨ok,bo⟩:∃b,b=(eC P m.of).isSome:=⟨_,rfl⟩;have b1:=aP hx;have f9:Hid (d5 P m=(ok&&(decide (x.size≤67108864)&&below m.Q7 x.size 549755813888))):=by rw[bo,bb];exact nk P m
  have ee:Hid (∀y,y∈dW P (l.take (n+1))↔y∈dW P (l.take n)∨(0<x.size∧PUp m y (upN m x.size))):=hh fun y=>by rw[b1,bb];exact tx P _ m y
  have d3:Hid (∀y,y∈dZ P (l.take (n+1))↔y∈dZ P (l.take n)∨(0<x.size∧rY m x.big y (upN m x.size))):=hh fun y=>by rw[b1,bb];exact vK P _ m y
  have eb:Hid (∀m'∈l.take (n+1),m'∈l.take n∨m'=m):=hh fun m' bz=>by rw[b1]at bz;simpa using bz
  have f4:Hid (m∈l):=hh (List.mem_of_getElem? hx);have d8:Hid (∃nn,ci wr mb nn (.agg #[.int .u64 0,.bool false,.bool false]) (fun s=>yj (aR P s)) (fun s=>(eC P s).isSome)):=by
   obtain⟨nn,b0⟩:=HM.out;exact⟨nn,b0.keep cw (by show ¬ (mb=u∨mb=u+1);omega)⟩
  have cp:=hh Y;have cm:=hh hl;have ea:=hh a0;have d7:=hh an;have d4:=hh al;have HK:=hh hk;have gl:=hh bb;have f5:=hh bo;have ie:=Y.lt;have h2:=hl.lt;clear hx eo hc V Y hl a0 an al hk bb bo b1 cw;refine so (fun a5 w5=>aE (fun i=>i==18||i==19||i==8) a4 a5∧At a5 8 (.pointer (some ⟨wr.heap.size,0,none⟩))∧w5=wr.alloc (.cells #[.int .i64 m.pos,.string m.of,.int .u64 m.Q7,.bool m.write,.bool m.exec] 93)) ?_ ?_
  ·have af:aE (fun i=>i==18||i==19||i==8) a4 a4:=aE.refl _ _
   obtain⟨T,d⟩:=a4;refine rl ?_
   iterate 4 with_reducible refine st ?_
   refine ln ⟨rfl,ag,aq,rfl⟩
  rintro a5 w5 ⟨I,C,b2⟩;obtain⟨zm,b3⟩:∃z,z=wr.heap.size:=⟨_,rfl⟩;rw[←b3]at C;have fm:w5.heap[zm]?=some (.cells #[.int .i64 m.pos,.string m.of,.int .u64 m.Q7,.bool m.write,.bool m.exec] 93 (0,0)):=by rw[b2,b3];exact heap_alloc_new _ _
  have f6:Hid (w5.heap.size=wr.heap.size+1):=hh (by rw[b2];simp);have ew:Kz wr w5:=by rw[b2];exact(aD.refl _ _).alloc _
  have q1:w5.cell? ⟨zm,1,none⟩=some (.string m.of):=cr fm rfl;replace dc:=I.Q7 dc rfl;replace Z:=I.Q7 Z rfl;replace g:=I.Q7 g rfl;replace v:=I.Q7 v rfl;have bp:=I.size.trans N;have gr:=I.defers.trans cy;have gn:=hh b3;have d1:=hh ew;have fv:Hid (aE (fun i=>(rg 8 11 i)||(rg 18 68 i)) a4 a5):=I.m;have FM:=hh fm;clear b2 I b3 ew q0 q2 q3 q4 g8 fp fm
  -- r5
  refine so (fun a6 w6=>aE (fun i=>i==9||i==10||(rg 20 26 i)) a5 a6∧At a6 9 (.pointer (some ⟨w5.heap.size,0,none⟩))∧At a6 10 (.bool ok)∧w6=w5.alloc (.cells #[.int .u64 x.size,.bool x.big,.bool x.wx] 178)) ?_ ?_
  ·have af:aE (fun i=>i==9||i==10||(rg 20 26 i)) a5 a5:=aE.refl _ _
   obtain⟨nn,b0⟩:=d8.out;have d9:=hh (b0.keep d1.out (fun h=>h));clear b0;have ex:m.of.size≤maxLen:=Nat.le_trans cj.2.2 (by unfold maxLen;omega);obtain⟨T,d⟩:=a5;refine rl ?_
   iterate 3 with_reducible refine st ?_
   refine ci.lookup_ok rfl d9.out rfl rfl Tryz.underlying133 wA (At.eval ar (by have:=bp;simp at this⊢; omega)) (At.eval ar (by have:=bp;simp at this⊢; omega)) ex ?_;rw[←gl.out,←f5.out];simp only[Act.put,yj]
   iterate 6 with_reducible refine st ?_
   refine ln ⟨rfl,ag,aq,aq,rfl⟩
  rintro a6 w6 ⟨J,Q,hf,c6⟩;obtain⟨zx,c9⟩:∃z,z=w5.heap.size:=⟨_,rfl⟩;rw[←c9]at Q;have fx:w6.heap[zx]?=some (.cells #[.int .u64 x.size,.bool x.big,.bool x.wx] 178 (0,0)):=by rw[c6,c9];exact heap_alloc_new _ _
  have c4:Kz w5 w6:=by rw[c6];exact(aD.refl _ _).alloc _
  have cv:=(c4.block zm (aH FM.out) (fun h=>h)).trans FM.out;have L:Kz wr w6:=d1.out.trans c4 (fun _ _ h=>h);have q2:w6.cell? ⟨zm,2,none⟩=some (.int .u64 m.Q7):=cr cv rfl;have p0:w6.cell? ⟨zx,0,none⟩=some (.int .u64 x.size):=cr fx rfl;have HZ:Hid (zm≠u∧zm≠u+1∧zx≠u∧zx≠u+1):=hh (by have:=gn.out;have:=f6.out;omega);replace Z:=J.Q7 Z rfl;replace g:=J.Q7 g rfl;replace v:=J.Q7 v rfl;replace C:=J.Q7 C rfl;have fd:=J.size.trans bp;have gs:=J.defers.trans gr;have fy:Hid (aE (fun i=>(rg 8 11 i)||(rg 18 68 i)) a4 a6):=fv.out.t J;have hg:=hh L;have FX:=hh fx;have FM6:=hh cv;have ed:=hh (cp.out.keep L (fun h=>h));have d2:=hh (cm.out.keep L (fun h=>h));have bc:Hid (aD (fun k=>k=u∨k=u+1) w3 w6):=HK.out.trans L (fun _ _ h=>h.elim);clear c6 J c9 c4 fx cv q1 L dc d8;obtain⟨gt,bx⟩:∃b,b=decide (67108864<x.size):=⟨_,rfl⟩;obtain⟨eg,aa⟩:∃b,b=below m.Q7 x.size 549755813888:=⟨_,rfl⟩;have fr:decide ((67108864:Int)<(x.size:Int))=gt:=by rw[bx];exact decide_eq_decide.2 χ
  have cx:=jt m.Q7 x.size 549755813888 w6 (by have:=cj.2.1;unfold lim at this;omega) (by unfold lim at g5;omega) ψ;rw[←aa]at cx;have ds:=hh cx;have b5:Hid (d5 P m=(ok&&(!gt&&eg))):=hh (by rw[f9.out,bx,aa];congr 2;rw[←decide_not];exact decide_eq_decide.2 χ);have d0:=hh bx;have dt:=hh aa;clear bx aa cx;refine wp_seq (wp_seq (Code.wp_only (R:=fun a7 w7=>aE (fun i=>(rg 27 41 i)) a6 a7∧At a7 41 (.bool (!d5 P m))∧w7=w6) ?_ ?_))
  ·have af:aE (fun i=>(rg 27 41 i)) a6 a6:=aE.refl _ _
   have ih:=aX;rw[b5.out];obtain⟨T,d⟩:=a6;refine rl ?_
   iterate 3 with_reducible refine st ?_
   cases ok
   ·iterate 12
     with_reducible refine st ?_
    refine ln ⟨rfl,?_,?_,rfl⟩
    ·exact ag
    ·first|(simp only[Bool.false_and,Bool.true_and,Bool.not_false,Bool.not_true,Bool.and_false];exact At.self)|(exact aq)
   ·iterate 5
     with_reducible refine st ?_
    cases gt
    ·iterate 4
      with_reducible refine st ?_
     with_reducible refine Lz (fun K hK=>?_)
     go_simp;refine ds.out.mono ?_;rintro e w7 ⟨rfl,rfl⟩;with_reducible refine hK _ _ ?_;clear hK K
     iterate 2 with_reducible refine st ?_
     refine ln ⟨rfl,?_,?_,rfl⟩
     ·exact ag
     ·first|(simp only[Bool.false_and,Bool.true_and,Bool.not_false,Bool.not_true,Bool.and_false];exact At.self)|(exact aq)
    ·iterate 7
      with_reducible refine st ?_
     refine ln ⟨rfl,?_,?_,rfl⟩
     ·exact ag
     ·first|(simp only[Bool.false_and,Bool.true_and,Bool.not_false,Bool.not_true,Bool.and_false];exact At.self)|(exact aq)
  rintro a7 w7 ⟨E,fk,rfl⟩;replace Z:=E.Q7 Z rfl;replace g:=E.Q7 g rfl;replace v:=E.Q7 v rfl;replace C:=E.Q7 C rfl;replace Q:=E.Q7 Q rfl;have bs:=E.size.trans fd;have gu:=E.defers.trans gs;have di:Hid (aE (fun i=>(rg 8 11 i)||(rg 18 68 i)) a4 a7):=fy.out.t E;clear E;refine wp_cond_split (fk.eval χ) (fun ca=>?_) (fun bf=>?_)
  ·-- it ends with 0
   have g2:bV P l=0:=by
    unfold bV;rw[if_neg];intro h;have:=List.all_eq_true.1 h m f4.out;rw[this]at ca
    cases ca
   refine so (fun H w8=>H.tmps.size=76∧H.defers=[]∧At H 4 (.int .i64 (0:Nat))∧w8=w7) ?_ ?_
   ·obtain⟨T,d⟩:=a7
    refine rl ?_;with_reducible refine st ?_
    refine ln ⟨rfl,?_,gu,?_,rfl⟩
    ·have:=bs;simp at this⊢; omega
    ·exact At.self
   rintro H w8 ⟨O,c3,k4,rfl⟩;refine wp_ret ?_
   repeat (first|with_reducible apply bY|with_reducible apply bi)
   refine bv (t:=4) rfl k4 (by rw[O];decide) c3 ?_;exact⟨by rw[g2],(cs.out.trans bc.out (fun i hi h=>by have:=HU.out;omega))⟩
  ·have bm:d5 P m=true:=by simpa using bf
   refine wp_skip ?_;have e6:(ok&&(!gt&&eg))=true:=by rw[←b5.out];exact bm
   simp only[Bool.and_eq_true,Bool.not_eq_true']at e6;obtain⟨g1,e0,e5⟩:=e6;have g6:x.size≤67108864:=by have U:=d0.out;rw[e0]at U;have:=of_decide_eq_false U.symm;omega
   have be:below m.Q7 x.size 549755813888=true:=by rw[←dt.out];exact e5
   have b4:Hid (∀m'∈l.take (n+1),d5 P m'=true):=hh fun m' bz=>by
    rcases eb.out m' bz with h|rfl
    ·exact d4.out m' h
    ·exact bm
   clear bf g1 e0 e5 dt d0 fr fk bm d4 eb ds;obtain⟨ze,c8⟩:∃b,b=decide (x.size=0):=⟨_,rfl⟩;have fs:((x.size:Int)==0)=ze:=by rw[c8];exact fA _ 0
   have cu:=hh c8;clear c8;refine wp_seq (wp_seq (Code.wp_only (R:=fun H w8=>aE (fun i=>(rg 42 44 i)) a7 H∧At H 44 (.bool ze)∧w8=w7) ?_ ?_))
   ·have af:aE (fun i=>(rg 42 44 i)) a7 a7:=aE.refl _ _
    obtain⟨T,d⟩:=a7;refine rl ?_
    iterate 3 with_reducible refine st ?_
    refine ln ⟨rfl,ag,aq,rfl⟩
   rintro H w8 ⟨X,fl,rfl⟩;replace g:=X.Q7 g rfl;replace v:=X.Q7 v rfl;replace C:=X.Q7 C rfl;replace Q:=X.Q7 Q rfl;have O:=X.size.trans bs;have dk:Hid (aE (fun i=>(rg 8 11 i)||(rg 18 68 i)) a4 H):=di.out.t X;clear X bs di Z;refine wp_cond_split (fl.eval χ) (fun hz=>?_) (fun hz=>?_)
   ·refine wp_exit ?_
    have fi:¬ 0<x.size:=by have U:=cu.out;rw[hz]at U;have:=of_decide_eq_true U.symm;omega
    repeat with_reducible apply fV
    simp only[bq,if_true];exact⟨dk.out,nu,nl,Su,Sl,ed.out,d2.out,χ,χ,fun y=>by rw[ee.out y,ea.out y];exact⟨.inl,fun h=>h.elim id fun h=>absurd h.1 fi⟩,fun y=>by rw[d3.out y,d7.out y];exact⟨.inl,fun h=>h.elim id fun h=>absurd h.1 fi⟩,b4.out,bc.out⟩
   ·have c7:0<x.size:=by have U:=cu.out;rw[hz]at U;have:=of_decide_eq_false U.symm;omega
    refine wp_skip ?_;have g4:upN m x.size≤34:=by
     obtain⟨hv,hw⟩:m.Q7≤549755813888∧x.size≤549755813888-m.Q7:=by
      unfold below at be
      simpa using be
     unfold upN;omega
    obtain⟨q,hq⟩:∃q,q=m.Q7 / 2097152:=⟨_,rfl⟩;have ho:(m.Q7:Int) / 2097152=(q:Int):=χ
    have HQ:=hh hq;clear hz hq fl cu fs;refine so (fun a9 w9=>aE (fun i=>i==11||(rg 45 47 i)) H a9∧At a9 11 (.int .u64 q)∧w9=w8) ?_ ?_
    ·have af:aE (fun i=>i==11||(rg 45 47 i)) H H:=aE.refl _ _
     obtain⟨T,d⟩:=H;refine rl ?_
     iterate 4 with_reducible refine st ?_
     refine ln ⟨rfl,?_,?_,rfl⟩
     ·exact ag
     ·first|(simp only[Bool.false_and,Bool.true_and,Bool.not_false,Bool.not_true,Bool.and_false];exact At.self)|(exact aq)
    rintro a9 w9 ⟨ad,cf,rfl⟩;replace g:=ad.Q7 g rfl;replace v:=ad.Q7 v rfl;replace C:=ad.Q7 C rfl;replace Q:=ad.Q7 Q rfl;have fe:=ad.size.trans O;have fz:Hid (aE (fun i=>(rg 8 11 i)||(rg 18 68 i)) a4 a9):=dk.out.t ad;rw[HQ.out]at cf;obtain⟨z1,z2,z3,z4⟩:=HZ.out;refine qr be c7 g6 ed.out d2.out χ χ χ (zm:=zm) (zx:=zx) FM6.out FX.out ⟨z1,z2,z3,z4⟩ a9 fe g v C Q cf _ ?_;intro hj ik Su' Sl' en g3 gx e9 e8 gw;refine⟨fz.out.t en,_,_,Su',Sl',g3,gx,χ,χ,fun y=>?_,fun y=>?_,b4.out,bc.out.trans gw (fun _ _ h=>h)⟩
    ·rw[e9 y,ee.out y,ea.out y];exact or_congr Iff.rfl ⟨fun h=>⟨c7,h⟩,fun h=>h.2⟩
    ·rw[e8 y,d3.out y,d7.out y];exact or_congr Iff.rfl ⟨fun h=>⟨c7,h⟩,fun h=>h.2⟩
 ·rintro a4 w4 V ⟨nu,nl,Su,Sl,Y,hl,ez,ey,a0,an,al,hk⟩
  rw[List.take_length]at a0 an al;replace h5:=V.Q7 h5 rfl;replace h6:=V.Q7 h6 rfl;have N:=V.size.trans cd;have cy:=V.defers.trans es;have cp:=hh Y;have cm:=hh hl;have ht:=Nat.le_trans (by obtain⟨D,o1,_,o3,_⟩:=Y;rw[←o3];exact o1.size_le:Su.length≤nu) ez;have hr:=Nat.le_trans (by obtain⟨D,o1,_,o3,_⟩:=hl;rw[←o3];exact o1.size_le:Sl.length≤nl) ey;have bt:bV P l=1+Su.length+Sl.length:=by
   unfold bV;rw[if_pos (List.all_eq_true.2 al),sh (by obtain⟨D,_,o2,_⟩:=Y;exact o2) a0,sh (by obtain⟨D,_,o2,_⟩:=hl;exact o2) an]
  have e1:IntKind.i64.wrap ((1:Int)+(Su.length:Int))=((1+Su.length:Nat):Int):=by rw[i64_in _ χ];omega
  obtain⟨s1,e7⟩:∃s,s=1+Su.length:=⟨_,rfl⟩;rw[←e7]at e1 bt;have e2:IntKind.i64.wrap ((s1:Int)+(Sl.length:Int))=((bV P l:Nat):Int):=by rw[bt,i64_in _ χ];omega
  obtain⟨tt,c5⟩:∃t,t=bV P l:=⟨_,rfl⟩;rw[←c5]at e2;have gf:=hh c5;have f0:Hid (Kz w1 w4):=hh (cs.out.trans hk (fun i hi h=>by have:=HU.out;omega));clear bt e7 c5 Y hl a0 an al hk V;refine so (fun H w8=>H.tmps.size=76∧H.defers=[]∧At H 4 (.int .i64 tt)∧w8=w4) ?_ ?_
  ·obtain⟨T,d⟩:=a4
   refine rl ?_;with_reducible refine st ?_
   refine de.len rfl cp.out rfl rfl Tryz.underlying211 (At.eval ar (by have:=N;simp at this⊢; omega)) ?_;simp only[Act.put]
   iterate 2 with_reducible refine st ?_
   refine de.len rfl cm.out rfl rfl Tryz.underlying211 (At.eval ar (by have:=N;simp at this⊢; omega)) ?_;simp only[Act.put]
   iterate 2 with_reducible refine st ?_
   refine ln ⟨rfl,?_,cy,?_,rfl⟩
   ·have:=N;simp at this⊢; omega
   ·exact At.self
  rintro H w8 ⟨O,c3,k4,rfl⟩;refine wp_ret ?_
  repeat (first|with_reducible apply bY|with_reducible apply bi)
  refine bv (t:=4) rfl k4 (by rw[O];decide) c3 ?_;exact⟨by rw[gf.out],f0.out⟩
open Go.Shelf
attribute [local go_sem] Oper.semAt_some
abbrev zT:Value := .agg #[.int .u64 0,.bool false,.bool false]
def Cb(P:aF)(l:List (Fin P.Q5.length)):ByteArray→Value:=qb (fun i=>P.Q5[i].name) (fun i =>.agg #[.int .u64 (P.Q5[i].size:Nat),.bool false,.bool false]) (fun _=>zT) l
def Ca(P:aF)(l:List (Fin P.Q5.length)):ByteArray→Bool:=qa (fun i=>P.Q5[i].name) (fun _=>false) l
def Bn(P:aF)(l:List (Fin P.Q3.length)):ByteArray→Value:=qb (fun i=>P.Q3[i].name) (fun i =>.agg #[.int .u64 (P.Q3[i].size:Nat),.bool P.Q3[i].big,.bool P.Q3[i].wx]) (Cb P (List.finRange _)) l
def Bm(P:aF)(l:List (Fin P.Q3.length)):ByteArray→Bool:=qa (fun i=>P.Q3[i].name) (Ca P (List.finRange _)) l
theorem B7(P:aF)(s:ByteArray):Cb P (List.finRange _) s=match P.Q5.find? (fun x=>decide (x.name=s))with|some x =>.agg #[.int .u64 (x.size:Nat),.bool false,.bool false]|none=>zT:=by
 unfold Cb;rw[iU,jY P.Q5]
 cases(List.finRange P.Q5.length).find? fun i=>decide (P.Q5[i].name=s)<;>rfl
theorem B6(P:aF)(s:ByteArray):Ca P (List.finRange _) s=(P.Q5.find? (fun x=>decide (x.name=s))).isSome:=by
 unfold Ca;rw[kP,jY P.Q5]
 cases(List.finRange P.Q5.length).find? fun i=>decide (P.Q5[i].name=s)<;>rfl
theorem zo(P:aF)(s:ByteArray):Bn P (List.finRange _) s=yj (aR P s):=by
 unfold Bn aR eC;rw[iU,jY P.Q3,B7]
 cases(List.finRange P.Q3.length).find? fun i=>decide (P.Q3[i].name=s)with
 | some i=>rfl
 | none =>
  simp only[Option.map_none]
  cases P.Q5.find? fun x=>decide (x.name=s)<;>rfl
theorem zl(P:aF)(s:ByteArray):Bm P (List.finRange _) s=(eC P s).isSome:=by
 unfold Bm eC;rw[kP,jY P.Q3,B6]
 cases(List.finRange P.Q3.length).find? fun i=>decide (P.Q3[i].name=s)with
 | some i=>rfl
 | none =>
  simp only[Option.map_none]
  cases P.Q5.find? fun x=>decide (x.name=s)<;>rfl
theorem ni:pK:=by
 intro B w v P hp hB;obtain⟨A_rams,a0,cb,c5,di,c8⟩:=hp.QF;obtain⟨A_devices,q,ac,bo,bz,Z⟩:=hp.Q5;obtain⟨A_regions,g,al,bt,b5,aa⟩:=hp.Q3;obtain⟨A_subjects,E,X,a9,bl,bd⟩:=hp.Q4;obtain⟨A_channels,y,U,a7,be,bb⟩:=hp.Q8;obtain⟨A_irqs,an,ca,c4,dc,c7⟩:=hp.QL;obtain⟨A_queues,L,a3,cc,cp,cf⟩:=hp.QB;obtain⟨A_plans,Q,a6,cw,cy,cx⟩:=hp.Q9;obtain⟨A_masters,J,af,bs,b4,bx⟩:=hp.QD;obtain⟨A_starts,O,a4,cd,cs,cj⟩:=hp.QH;obtain⟨A_monitors,C,V,a8,bf,bc⟩:=hp.QC;obtain⟨A_forbids,I,ad,bp,b1,bw⟩:=hp.QG;have e0:(v.cells P).toArray = #[.int .i64 P.pos,.string P.name,.slice A_rams P.QF.length a0,.slice A_devices P.Q5.length q,.slice A_regions P.Q3.length g,.slice A_subjects P.Q4.length E,.slice A_channels P.Q8.length y,.slice A_irqs P.QL.length an,.slice A_queues P.QB.length L,.slice A_plans P.Q9.length Q,.slice A_masters P.QD.length J,.slice A_starts P.QH.length O,.slice A_monitors P.QC.length C,.slice A_forbids P.QG.length I]:=by
  rw[←cb,←ac,←al,←X,←U,←ca,←a3,←a6,←af,←a4,←V,←ad];rfl
 rw[e0];unfold top at bz b5;have d1:=hh Z;have cv:=hh aa;clear e0 hp cb ac al X U ca a3 a6 af a4 V ad c8 Z aa bd bb c7 cf cx bx cj bc bw c5 a9 a7 c4 cc cw bs cd a8 bp di bl be dc cp cy b4 cs bf b1;refine(callsIn_wide (n:=9)).1 ?_;refine callsIn_of_wp_marks Tryz.func65 rfl trivial ?_;simp only[Tryz.ntmps65,List.size_toArray,List.length_cons,List.length_nil,Nat.reduceAdd,Nat.reduceSub,Array.replicate_succ,Array.replicate_zero,List.push_toArray,List.append_toArray,List.nil_append,List.cons_append];have e8:=@run_makeMap Tryz.prog
 gi_wp2
 refine⟨trivial,?_⟩;refine(oz Fence.wide 8 trivial rfl _ _ _ _).mono ?_;rintro e w' ⟨rfl,rfl⟩
 gi_wp2
 obtain⟨W0,en⟩:∃W0,W0=(((w.alloc (.cells #[.int .i64 P.pos,.string P.name,.slice A_rams P.QF.length a0,.slice A_devices P.Q5.length q,.slice A_regions P.Q3.length g,.slice A_subjects P.Q4.length E,.slice A_channels P.Q8.length y,.slice A_irqs P.QL.length an,.slice A_queues P.QB.length L,.slice A_plans P.Q9.length Q,.slice A_masters P.QD.length J,.slice A_starts P.QH.length O,.slice A_monitors P.QC.length C,.slice A_forbids P.QG.length I] 33)).alloc (.map #[] 0)).alloc (.cells #[.map (some (w.heap.size+1))] 133)).alloc (.cells #[.slice A_devices P.Q5.length q] 23):=⟨_,rfl⟩;have hf:=mt w (.cells #[.int .i64 P.pos,.string P.name,.slice A_rams P.QF.length a0,.slice A_devices P.Q5.length q,.slice A_regions P.Q3.length g,.slice A_subjects P.Q4.length E,.slice A_channels P.Q8.length y,.slice A_irqs P.QL.length an,.slice A_queues P.QB.length L,.slice A_plans P.Q9.length Q,.slice A_masters P.QD.length J,.slice A_starts P.QH.length O,.slice A_monitors P.QC.length C,.slice A_forbids P.QG.length I] 33) (.map #[] 0) (.cells #[.map (some (w.heap.size+1))] 133) (.cells #[.slice A_devices P.Q5.length q] 23);rw[←en]at hf⊢;obtain⟨s0,b0,m0,b2,b3,hb⟩:=hf;clear en;obtain⟨sf,bm,R⟩:=mD (σ:=Option Addr×Nat) (fun(x:Ck.bB) s=>[.int .i64 x.pos,.string x.name,.int .u64 x.Q7,.int .u64 x.size,.slice s.1 x.QA.length s.2]) (fun x _=>aW x.name) (fun b o x hx=>by
  obtain⟨u,hc,⟨Am,cm,rfl,_⟩,_,_,_,hs⟩:=hx;exact⟨(Am,cm),hc,hs⟩) d1.out
 obtain⟨vs,a5⟩:∃vs:Nat→Nat→Value,vs=fun j c=>if h:j<P.Q5.length then([.int .i64 P.Q5[j].pos,.string P.Q5[j].name,.int .u64 P.Q5[j].Q7,.int .u64 P.Q5[j].size,.slice (sf j).1 P.Q5[j].QA.length (sf j).2]:List Value).getD c undef else undef:=⟨_,rfl⟩
 have hA:0<P.Q5.length→∃b off,A_devices=some ⟨b,off,none⟩∧b<w.heap.size+4∧b≠w.heap.size+1∧∀j c,j<P.Q5.length→c<5→W0.cell? ⟨b,off+j*5+c,none⟩=some (vs j c):=fun dk=>by
  obtain⟨b,off,h1,Y,h3⟩:=bm dk;refine⟨b,off,h1,χ,χ,fun j c hj hc=>?_⟩;rw[a5];simp only[dif_pos hj];refine(h3 j hj).below hb χ c _ ?_
  match c,hc with
  | 0,_=>rfl
  | 1,_=>rfl
  | 2,_=>rfl
  | 3,_=>rfl
  | 4,_=>rfl
 have a2:=pz Fence.wide 8 trivial rfl ψ (w.heap.size+1+1+1) (w.heap.size+1) (w.heap.size+4) P.Q5.length q A_devices vs χ bo ⟨χ,χ⟩ W0 χ (cell_of_one b3) hA;rw[show(fun x:Fin P.Q5.length=>(#[.int .i64 (x.val:Int),.agg #[vs x.val 0,vs x.val 1,vs x.val 2,vs x.val 3,vs x.val 4]]:Array Value))=fun x =>#[.int .i64 (x.val:Int),.agg #[.int .i64 P.Q5[x.val].pos,.string P.Q5[x.val].name,.int .u64 P.Q5[x.val].Q7,.int .u64 P.Q5[x.val].size,.slice (sf x.val).1 P.Q5[x.val].QA.length (sf x.val).2]] from by
  funext x
  rw[a5];simp only[dif_pos x.isLt];rfl]at a2
 refine wpIn_rangeFunc_ownH (F:=Fence.wide) (n:=9) rfl ψ (gf:=138) (lb := #[.pointer (some ⟨w.heap.size+1+1+1,0,none⟩)]) rfl trivial (enters_of Tryz.func138 δ rfl)
  a2 lE (wV χ) (Below.refl _ _) (fun _=>rfl)
  (fun H W=>(ci W (w.heap.size+1) H.length zT (Cb P H.reverse) (Ca P H.reverse)∧W.heap[w.heap.size+1+1]?=some (.cells #[.map (some (w.heap.size+1))] 133 (0,0))∧W.heap[w.heap.size]?=some (.cells #[.int .i64 P.pos,.string P.name,.slice A_rams P.QF.length a0,.slice A_devices P.Q5.length q,.slice A_regions P.Q3.length g,.slice A_subjects P.Q4.length E,.slice A_channels P.Q8.length y,.slice A_irqs P.QL.length an,.slice A_queues P.QB.length L,.slice A_plans P.Q9.length Q,.slice A_masters P.QD.length J,.slice A_starts P.QH.length O,.slice A_monitors P.QC.length C,.slice A_forbids P.QG.length I] 33 (0,0)))∧Below w.heap.size w W)
  (fun _ _ _=>False)
  (OwnFrom.and (OwnFrom.and (fun s A B row hs hg hr=>ci.own hs hg (fun r e=>(hr r e).1) χ) (OwnFrom.and (Own.from (dA _ _ _ _) _) (Own.from (dA _ _ _ _) _))) (ownFrom_below (Nat.le_refl _) χ))
  (fun _ _ _ _ _ hs _ _=>hs)
  ⟨⟨ci.new _ _ _ m0,b2,b0⟩,hb⟩
  (fun x (a':Act) (W:World)=>∃Bx:Nat,W.heap[Bx]?=some (Obj.cells #[.int .i64 P.Q5[x.val].pos,.string P.Q5[x.val].name,.int .u64 P.Q5[x.val].Q7,.int .u64 P.Q5[x.val].size,.slice (sf x.val).1 P.Q5[x.val].QA.length (sf x.val).2] 65 (0,0))∧a'.tmps.size=36∧At a' 3 (.pointer (some ⟨w.heap.size+1+1,0,none⟩))∧At a' 5 (.pointer (some ⟨Bx,0,none⟩)))
  (fun x a' s A B row hs hg hr=>by
   obtain⟨Bx,Y,h3⟩:=hs;exact⟨Bx,gq Y hg (fun r e=>(hr r e).2),h3⟩)
  ?assign ?body ?done ?stop
 case assign =>
  rintro l H x W K ⟨⟨hS,Y,h0⟩,hB⟩ hK;have c9:=aH Y;clear a2 hA R bm a5 d1 cv
  gi_wp2
  exact hK _ _ ((KeepsOthers.alloc _ _).from _) ((aD.refl _ _).alloc _) ⟨⟨hS.keep (((aD.refl (fun _=>False) _).alloc _)) (fun h=>h),(Below.heap_alloc _ _ _ c9).trans Y,(Below.heap_alloc _ _ _ (aH h0)).trans h0⟩,hB.alloc hB.size _⟩ ⟨W.heap.size,heap_alloc_new _ _,rfl,fun _=>rfl,fun _=>rfl⟩
 case body =>
  rintro l H x a' W hl _ ⟨⟨hS,Y,h0⟩,hB⟩ ⟨Bx,hX,cu,k3,k5⟩ ey;have q1:W.cell? ⟨Bx,1,none⟩=some (.string P.Q5[x.val].name):=cr hX rfl;have q3:W.cell? ⟨Bx,3,none⟩=some (.int .u64 P.Q5[x.val].size):=cr hX rfl;have qm:=cell_of_one Y;have ds:=R x.val x.isLt;have HS:=hh hS;have H2:=hh Y;have H0:=hh h0;have HB:=hh hB;have d4:Hid (aW P.Q5[x.val].name):=hh ds;clear hS Y h0 hB hX a2 hA R bm a5 d1 cv ds;obtain⟨T,d⟩:=a';refine wpIn_block (wpIn_region_lit ?_)
  iterate 6
   with_reducible refine wpListIn_step (fun K hK=>?_)
   go_simp;with_reducible refine hK _ _ ?_;clear hK K
  refine ci.updateIn rfl HS.out (by unfold maxLen;omega) rfl rfl Tryz.underlying133 (At.eval (by exact aq) (by have:=cu;simp at this⊢; omega)) (At.eval (by exact aq) (by have:=cu;simp at this⊢; omega)) (Nat.le_trans d4.out (by unfold maxLen;omega)) (At.eval (by exact aq) (by have:=cu;simp at this⊢; omega)) ?_;intro w2 d7 a1;refine wpListIn_nil ?_;have e1:(H++[x]).reverse=x::H.reverse:=ξ
  have e2:(H++[x]).length=H.length+1:=ξ
  refine⟨iV a1 χ,a1.mono fun _ _ h =>.inl h,⟨?_,(a1.block _ (aH H2.out) (by show _≠_;omega)).trans H2.out,(a1.block _ (aH H0.out) (by show _≠_;omega)).trans H0.out⟩,HB.out.trans (a1.below HB.out.size fun i hi e=>χ)⟩;rw[e1,e2];exact d7
 case done =>
  rintro D ys W hD rfl ⟨⟨hS,Y,h0⟩,hB⟩ hK;rw[kX,ii (Nat.le_refl _)]at hS;have q4:W.cell? ⟨w.heap.size,4,none⟩=some (.slice A_regions P.Q3.length g):=cr h0 rfl;have HS:=hh hS;have H2:=hh Y;have H0:=hh h0;have HB:=hh hB;have d0:=hh hK;have eu:=aH hK;clear hS Y h0 hB a2 hA R bm a5 d1 hK
  gi_wp2
  refine⟨trivial,?_⟩;refine(oy Fence.wide 8 trivial rfl _ _ _ _).mono ?_;rintro e w' ⟨rfl,rfl⟩
  gi_wp2
  have eo:Hid (KeepsFrom 0 W W):=hh (KeepsFrom.refl _ _);obtain⟨W1,c3⟩:∃W1,W1=W.alloc (.cells #[.slice A_regions P.Q3.length g] 24):=⟨_,rfl⟩;have s1:W1.heap.size=W.heap.size+1:=by rw[c3];simp
  have ex:W1.heap[W.heap.size]?=some (.cells #[.slice A_regions P.Q3.length g] 24 (0,0)):=by rw[c3];exact heap_alloc_new _ _
  have c6:Kz W W1:=by rw[c3];exact(aD.refl _ _).alloc _
  rw[←c3];clear c3 eo;have ee:Below w.heap.size w W1:=HB.out.trans (c6.below HB.out.size fun _ _ h=>h);have e5:=HB.out.size;have ew:=HS.out.keep c6 (fun h=>h);have eq:=(c6.block _ (aH H2.out) (fun h=>h)).trans H2.out;have es:=(c6.block _ eu (fun h=>h)).trans d0.out;have ez:=HS.out.lt;have e6:=aH H2.out;clear c6;obtain⟨sf,bm,R⟩:=mD (σ:=Unit) (fun(x:Ck.Region) _=>Ck.Region.cells x) (fun x _=>aW x.name) (fun b o x hx=>⟨(),hx.1,hx.2.2.2.2.2.1⟩) cv.out;obtain⟨vs,a5⟩:∃vs:Nat→Nat→Value,vs=fun j c=>if h:j<P.Q3.length then(Ck.Region.cells P.Q3[j]).getD c undef else undef:=⟨_,rfl⟩
  have hA:0<P.Q3.length→∃b off,A_regions=some ⟨b,off,none⟩∧b<W.heap.size+1∧b≠w.heap.size+1∧∀j c,j<P.Q3.length→c<10→W1.cell? ⟨b,off+j*10+c,none⟩=some (vs j c):=fun dk=>by
   obtain⟨b,off,h1,Y,h3⟩:=bm dk;refine⟨b,off,h1,χ,χ,fun j c hj hc=>?_⟩;rw[a5];simp only[dif_pos hj];refine(h3 j hj).below ee χ c _ ?_
   match c,hc with
   | 0,_=>rfl
   | 1,_=>rfl
   | 2,_=>rfl
   | 3,_=>rfl
   | 4,_=>rfl
   | 5,_=>rfl
   | 6,_=>rfl
   | 7,_=>rfl
   | 8,_=>rfl
   | 9,_=>rfl
  have a2:=pw Fence.wide 8 trivial rfl ψ W.heap.size (w.heap.size+1) (W.heap.size+1) P.Q3.length g A_regions vs χ bt ⟨χ,χ⟩ W1 χ (cell_of_one ex) hA;rw[show(fun x:Fin P.Q3.length=>(#[.int .i64 (x.val:Int),.agg #[vs x.val 0,vs x.val 1,vs x.val 2,vs x.val 3,vs x.val 4,vs x.val 5,vs x.val 6,vs x.val 7,vs x.val 8,vs x.val 9]]:Array Value))=fun x =>#[.int .i64 (x.val:Int),.agg #[.int .i64 P.Q3[x.val].pos,.string P.Q3[x.val].name,.int .u64 P.Q3[x.val].size,.bool P.Q3[x.val].fixed,.int .u64 P.Q3[x.val].Q7,.bool P.Q3[x.val].big,.bool P.Q3[x.val].wx,.int .u64 P.Q3[x.val].fill,.bool P.Q3[x.val].QP,.string P.Q3[x.val].text]] from by
   funext x
   rw[a5];simp only[dif_pos x.isLt];rfl]at a2
  refine wpIn_rangeFunc_ownH (F:=Fence.wide) (n:=9) rfl ψ (gf:=139) (lb := #[.pointer (some ⟨W.heap.size,0,none⟩)]) rfl trivial (enters_of Tryz.func139 δ rfl)
   a2 lE (wV χ) (Below.refl _ _) (fun _=>rfl)
   (fun H W=>(ci W (w.heap.size+1) (P.Q5.length+H.length) zT (Bn P H.reverse) (Bm P H.reverse)∧W.heap[w.heap.size+1+1]?=some (.cells #[.map (some (w.heap.size+1))] 133 (0,0))∧W.heap[D]?=some (.deferred (some [])))∧Below w.heap.size w W)
   (fun _ _ _=>False)
   (OwnFrom.and (OwnFrom.and (fun s A B row hs hg hr=>ci.own hs hg (fun r e=>(hr r e).1) χ) (OwnFrom.and (Own.from (dA _ _ _ _) _) (fun s A B row hs hg hr=>(hg.block D (aH hs) (fun e=>by have:=(hr D e.symm).1;omega)).trans hs))) (ownFrom_below (Nat.le_refl _) χ))
   (fun _ _ _ _ _ hs _ _=>hs)
   ⟨⟨ew,eq,es⟩,ee⟩
   (fun x (a':Act) (W:World)=>∃Bx:Nat,W.heap[Bx]?=some (Obj.cells #[.int .i64 P.Q3[x.val].pos,.string P.Q3[x.val].name,.int .u64 P.Q3[x.val].size,.bool P.Q3[x.val].fixed,.int .u64 P.Q3[x.val].Q7,.bool P.Q3[x.val].big,.bool P.Q3[x.val].wx,.int .u64 P.Q3[x.val].fill,.bool P.Q3[x.val].QP,.string P.Q3[x.val].text] 53 (0,0))∧a'.tmps.size=36∧At a' 3 (.pointer (some ⟨w.heap.size+1+1,0,none⟩))∧At a' 7 (.pointer (some ⟨Bx,0,none⟩)))
   (fun x a' s A B row hs hg hr=>by
    obtain⟨Bx,Y,h3⟩:=hs;exact⟨Bx,gq Y hg (fun r e=>(hr r e).2),h3⟩)
   ?assign2 ?body2 ?done2 ?stop2
  case assign2 =>
   rintro l H x W K ⟨⟨hS,Y,h0⟩,hB⟩ hK;have c9:=aH Y;clear a2 hA R bm a5 cv HS H2 H0 HB d0
   gi_wp2
   exact hK _ _ ((KeepsOthers.alloc _ _).from _) ((aD.refl _ _).alloc _) ⟨⟨hS.keep (((aD.refl (fun _=>False) _).alloc _)) (fun h=>h),(Below.heap_alloc _ _ _ c9).trans Y,(Below.heap_alloc _ _ _ (aH h0)).trans h0⟩,hB.alloc hB.size _⟩ ⟨W.heap.size,heap_alloc_new _ _,rfl,fun _=>rfl,fun _=>rfl⟩
  case body2 =>
   rintro l H x a' W hl _ ⟨⟨hS,Y,h0⟩,hB⟩ ⟨Bx,hX,cu,k3,k7⟩ ey;have q1:W.cell? ⟨Bx,1,none⟩=some (.string P.Q3[x.val].name):=cr hX rfl;have q2:W.cell? ⟨Bx,2,none⟩=some (.int .u64 P.Q3[x.val].size):=cr hX rfl;have q5:W.cell? ⟨Bx,5,none⟩=some (.bool P.Q3[x.val].big):=cr hX rfl;have q6:W.cell? ⟨Bx,6,none⟩=some (.bool P.Q3[x.val].wx):=cr hX rfl;have qm:=cell_of_one Y;have ds:=R x.val x.isLt;have d3:=hh hS;have ea:=hh Y;have d9:=hh h0;have dt:=hh hB;have d4:Hid (aW P.Q3[x.val].name):=hh ds;clear hS Y h0 hB hX a2 hA R bm a5 cv ds HS H2 H0 HB d0;obtain⟨T,d⟩:=a';refine wpIn_block (wpIn_region_lit ?_)
   iterate 10
    with_reducible refine wpListIn_step (fun K hK=>?_)
    go_simp;with_reducible refine hK _ _ ?_;clear hK K
   refine ci.updateIn rfl d3.out (by unfold maxLen;omega) rfl rfl Tryz.underlying133 (At.eval (by exact aq) (by have:=cu;simp at this⊢; omega)) (At.eval (by exact aq) (by have:=cu;simp at this⊢; omega)) (Nat.le_trans d4.out (by unfold maxLen;omega)) (At.eval (by exact aq) (by have:=cu;simp at this⊢; omega)) ?_;intro w2 d7 a1;refine wpListIn_nil ?_;have e1:(H++[x]).reverse=x::H.reverse:=ξ
   have e2:P.Q5.length+(H++[x]).length=P.Q5.length+H.length+1:=η
   refine⟨iV a1 χ,a1.mono fun _ _ h =>.inl h,⟨?_,(a1.block _ (aH ea.out) (by show _≠_;omega)).trans ea.out,(a1.block _ (aH d9.out) (by show _≠_;omega)).trans d9.out⟩,dt.out.trans (a1.below dt.out.size fun i hi e=>χ)⟩;rw[e1,e2];exact d7
  case done2 =>
   rintro D2 ys W2 e7 rfl ⟨⟨hS,Y,eg⟩,hB⟩ hK;rw[kX]at hS;have qm:=cell_of_one Y;have d3:=hh hS;have dt:=hh hB;have eb:=hh eg;have ed:=hh hK;clear hS Y eg hB hK a2 hA R bm a5 cv HS H2 H0 HB d0
   gi_wp2
   have e2:D2≠D:=χ
   have d2:(W2.putObj D2 (.deferred none)).heap[D]?=some (.deferred (some [])):=((grownBy_putObj' W2 D2 (.deferred none)).block D (aH eb.out) (fun e=>e2 (by cases e;rfl))).trans eb.out;refine⟨ξ,.inl ⟨_,_,rfl,run_takeDeferred ed.out,?_⟩⟩;refine⟨ξ,.inl ⟨_,_,rfl,run_takeDeferred d2,?_⟩⟩;have er:Below w.heap.size w ((W2.putObj D2 (.deferred none)).putObj D (.deferred none)):=(dt.out.trans (belowK_b (w:=w) (Nat.le_refl _) W2 D2 _ (.deferred none) χ ed.out rfl rfl)).trans (belowK_b (w:=w) (Nat.le_refl _) _ D _ (.deferred none) χ d2 rfl rfl);have d8:=(d3.out.own (N:=w.heap.size+2) (grownBy_putObj' W2 D2 (.deferred none)) (fun r e=>by cases e;omega) χ).own (N:=w.heap.size+2) (grownBy_putObj' _ D (.deferred none)) (fun r e=>by cases e;omega) χ;have f1:Bn P (List.finRange _)=fun s=>yj (aR P s):=funext fun s=>zo P s
   have f2:Bm P (List.finRange _)=fun s=>(eC P s).isSome:=funext fun s=>zl P s
   rw[f1,f2]at d8;exact⟨_,results_tmp rfl _ _ _,w.heap.size+1,rfl,χ,d8.lt,⟨_,d8⟩,aD.of_below er fun i h1 Y=>χ⟩
  case stop2 =>
   rintro D c H W _ _ h _;exact h.elim
 case stop =>
  rintro D c H W _ _ h _;exact h.elim
