import Derived.Test.YtpblcjipmoblnaaGreatDoorSmap
import Derived.Maps.Views
import Derived.Test.YtpblcjipmoblnaaGreatDoorSpanP
import Derived.Test.YtpblcjipmoblnaaGreatDoorDraw
set_option maxRecDepth 100000
set_option maxHeartbeats 4000000
set_option linter.unusedVariables false
set_option linter.unusedSimpArgs false
set_option linter.unnecessarySimpa false
namespace Go.Proofs.YtpblcjipmoblnaaGreatDoor
open Go.RowKit Go.IntWalk Ck
def uM(t:jF):Value := .agg #[.int .u64 t.size,.bool t.big,.bool t.wx]
theorem sL(w:World):(zeroValue 182).run Tryz.prog w=.ok (.agg #[.int .u64 0,.bool false,.bool false]) w:=by kernel_rfl
def cn(w:World)(b:Nat)(P:aC):Prop:=∃n,dA w b n (.agg #[.int .u64 0,.bool false,.bool false]) (fun s=>uM (aU P s)) (fun s=>(eL P s).isSome)
def mo:Prop:=∀{B:Nat} {w:World} {v:aV} {P:aC},cX B w v P→B≤w.heap.size→Calls Tryz.prog 58 #[.agg (v.cells P).toArray] w fun e w'=>∃mb,e=.returned (.map (some mb))∧w.heap.size≤mb∧mb<w'.heap.size∧cn w' mb P∧Kz w w'
theorem lS{B:Nat}{w:World}{v:aV}{P:aC}(h:cX B w v P)(s:ByteArray):(aU P s).size<lim:=by
 unfold aU eL;split
 ·rename_i x hx
  have hx:=List.mem_of_find?_eq_some hx;obtain⟨A,c,_,_,_,b⟩:=h.Q5;obtain⟨e,off,_,_,a⟩:=b (List.length_pos_of_mem hx);obtain⟨k,hk⟩:=List.getElem?_of_mem hx;exact(a k x hk).2.2.1
 ·cases hd:P.Q4.find? (fun x=>decide (x.name=s))with
  | none=>simp
  | some x =>
   have hx:=List.mem_of_find?_eq_some hd;obtain⟨A,c,_,_,_,b⟩:=h.Q4;obtain⟨e,off,_,_,a⟩:=b (List.length_pos_of_mem hx);obtain⟨k,hk⟩:=List.getElem?_of_mem hx;obtain⟨l,j,_,i,g,d,_⟩:=a k x hk;exact d
theorem yZ{B:Nat}{w:World}{u:Value}{l:List Ck.Map}(h:aT B 5 cD w u l):∀x∈l,x.Ok:=by
 intro x hx;obtain⟨A,c,_,_,_,b⟩:=h;obtain⟨d,off,_,_,a⟩:=b (List.length_pos_of_mem hx);obtain⟨k,hk⟩:=List.getElem?_of_mem hx;exact(a k x hk).2
def rC(x:Nat):Lit := .int .u64 x
def dz(k:TypeId)(w:World)(b n:Nat)(S:List Nat):Prop:=
 ∃D,w.ownsMap (H:=Value) Tryz.prog k unitElem b n D∧S.Nodup∧Go.Maps.size D=S.length∧∀x,x<lim→(Go.Maps.has D (rC x)=true↔x∈S)
namespace dz
variable {k:TypeId} {w w':World} {b n:Nat} {S:List Nat}
theorem lt(h:dz k w b n S):b<w.heap.size:=by obtain⟨D,a,_⟩:=h;exact a.lt
theorem keep{T:Nat→Prop}(h:dz k w b n S)(hk:aB T w w')(i:¬ T b):dz k w' b n S:=by
 obtain⟨D,⟨d,c,a,e⟩,g⟩:=h;exact⟨D,⟨d,c,(hk.block b (aG a) i).trans a,e⟩,g⟩
theorem mono{a:Nat}(h:dz k w b n S)(p:n≤a):dz k w b a S:=by
 obtain⟨D,⟨d,c,e,g,i,j⟩,l⟩:=h;exact⟨D,⟨d,c,e,g,Nat.le_trans i p,j⟩,l⟩
theorem new(k:TypeId)(w:World)(b:Nat)(h:w.heap[b]?=some (.map #[] 0)):dz k w b 0 []:=
 ⟨.map [],⟨#[],0,h,⟨by simp,Go.MapKept.stamped_empty 0,by simp⟩,Nat.le_refl _,rfl⟩,List.nodup_nil,rfl,fun x _=>by simp[Go.Maps.has]⟩
theorem wk(x:Nat):WideAt.IsKeyLit (rC x):=by unfold rC;trivial
theorem ug{x y:Nat}(h:rC x=rC y):x=y:=by
 unfold rC at h
 injection h with _ h
 omega
def add(S:List Nat)(x:Nat):List Nat:=if x∈S then S else x::S
theorem mem_add{S:List Nat}{x y:Nat}:y∈add S x↔y=x∨y∈S:=by
 unfold add;split
 ·rename_i h
  exact⟨.inr,fun e=>e.elim (fun e=>e▸h) id⟩
 ·simp
theorem update{P:Program}(E:P=Tryz.prog)(h:dz k w b n S)(K:Go.Maps.Keyed Tryz.prog k)(H:Tryz.prog.underlying k=some (.int .u64))(r:n<maxLen){j:Array Oper}{rest:List Oper}{o:Oper}{a:Act}{Q:Exit→Act→World→Prop}
 (G:o.guard=none){m x u:Operand}{t e:TypeId}(v:o.op=Op.mapUpdate t m x u)(J:P.underlying t=some (.map k e))
 (d:a.eval m=.map (some b)){y:Nat}(hx:a.eval x=.int .u64 y)(B:y<lim)(hv:a.eval u=.agg #[])
 (C:∀w',dz k w' b (n+1) (add S y)→aB (fun k=>k=b) w w'→wpList P j Q rest (a.put o.dst undef) w'):wpList P j Q (o::rest) a w:=by
 subst E;obtain⟨D,l,g,I,p⟩:=h;have A:(Lit.int .u64 (y:Int)).wf=true:=by
  have M:IntKind.u64.min=0:=rfl;have N:IntKind.u64.max=18446744073709551615:=rfl;unfold lim at B;simp only[Lit.wf,Bool.and_eq_true,decide_eq_true_eq];omega
 refine wpList_mapUpdate_own _ G m x u t v k e K J unitElem b n D d l r _ _ (rC y) hx hv (Go.Maps.keyOf_int_mk H A) _ [] unitElem_mk fun w' i q=>C w' ⟨_,i,?_,?_,fun z L=>?_⟩ (aB.of_grown q (fun k e=>by cases e;rfl))
 ·unfold add
  split
  ·exact g
  ·rename_i r;exact List.nodup_cons.2 ⟨r,g⟩
 ·rw[Go.Maps.size_put (l.tidy K),I]
  unfold add
  by_cases d:y∈S
  ·rw[if_pos ((p y B).2 d),if_pos d]
  ·rw[if_neg (fun e=>d ((p y B).1 e)),if_neg d];rfl
 ·rw[mem_add]
  by_cases hzy:z=y
  ·subst hzy
   rw[Go.Maps.has_put_same l.isMap (wk z)];simp
  ·rw[Go.Maps.has_put_other (fun e=>hzy (ug e)),p z L]
   simp[hzy]
theorem len{P:Program}(l:P=Tryz.prog)(h:dz k w b n S){d:Array Oper}{rest:List Oper}{o:Oper}{a:Act}{Q:Exit→Act→World→Prop}(p:o.guard=none){m:Operand}{t e:TypeId}
 (g:o.op=Op.call { callee:=Callee.builtin Builtin.len,args := #[m],argTypes := #[t] })(u:P.underlying t=some (.map k e))(q:a.eval m=.map (some b))
 (j:wpList P d Q rest (a.put o.dst (.int .i64 S.length)) w):wpList P d Q (o::rest) a w:=by
 subst l;obtain⟨D,i,_,r,_⟩:=h;exact wpList_len_own _ p m t g k e u unitElem b n D q i (by rw[r];exact j)
end dz
end Go.Proofs.YtpblcjipmoblnaaGreatDoor
namespace Go.Proofs.YtpblcjipmoblnaaGreatDoor
open Go.RowKit Go.IntWalk
variable {QV:Nat→Nat} {w:World}
def iP(QV:Nat→Nat)(b:Nat):Nat:=if 127<b then 0 else QV b
theorem oP(h:mw QV w)(b:Nat)(u:b<256):
 Calls Tryz.prog 152 #[.int .u8 b] w fun e w'=>e=.returned (.int .u8 (iP QV b))∧w'=w:=by
 unfold iP
 by_cases h1:127<b
 ·have d:decide ((127:Int)<(b:Int))=true:=by simp;omega
  go_enter Tryz.func152,Tryz.ntmps152
  go_wp2
  go_ret
  exact⟨by simp[h1],rfl⟩
 ·have d:decide ((127:Int)<(b:Int))=false:=by simp;omega
  have q:(b:Int)<128:=by omega
  have i:b<128:=by omega
  have j:=h b i;have r:¬ ((127:Int)<(b:Int)):=by omega
  obtain⟨p,a⟩:∃n,n=QV b:=⟨_,rfl⟩;rw[←a]at j;have g:=hh a;have l:=hh h1;clear h a h1 d
  go_enter Tryz.func152,Tryz.ntmps152
  go_wp2
  go_ret
  exact⟨by rw[←g.out];rfl,rfl⟩
def jX(QV:Nat→Nat)(b:Nat):Bool:=decide (iP QV b=3)||decide (iP QV b=4)
theorem uc(h:mw QV w)(b:Nat)(j:b<256):
 Calls Tryz.prog 156 #[.int .u8 b] w fun e w'=>e=.returned (.bool (jX QV b))∧w'=w:=by
 have a:=oP h b j;unfold jX
 generalize iP QV b=c at a⊢
 clear h
 by_cases h3:c=3
 ·subst h3
  go_enter Tryz.func156,Tryz.ntmps156
  go_wp2_with (go_at_call 152;refine a.mono ?_;rintro e w' ⟨rfl,rfl⟩)
  go_ret
  exact⟨by simp,rfl⟩
 ·obtain⟨t,d⟩:∃t,decide (c=4)=t:=⟨_,rfl⟩
  have e3:((c:Int)==3)=false:=by simp;omega
  have e4:((c:Int)==4)=t:=by rw[←d];exact dK c 4
  have g:Hid (decide (c=3)=false):=hh (decide_eq_false h3);have i:=hh d;clear h3 d
  go_enter Tryz.func156,Tryz.ntmps156
  go_wp2_with (go_at_call 152;refine a.mono ?_;rintro e w' ⟨rfl,rfl⟩)
  go_ret
  exact⟨by rw[i.out,g.out];rfl,rfl⟩
def jo(QV:Nat→Nat)(x:Nat):Bool:=decide (127<x) || !jX QV x
theorem pZ(h:mw QV w)(x:Nat)(hx:x≤1114111):
 Calls Tryz.prog 155 #[.int .i32 x] w fun e w'=>e=.returned (.bool (jo QV x))∧w'=w:=by
 unfold jo
 by_cases h1:127<x
 ·have d:(127:Int)<(x:Int):=by omega
  have H:Hid ((decide (127<x) || !jX QV x)=true):=hh (by simp[h1]);clear h
  go_enter Tryz.func155,Tryz.ntmps155
  go_wp2
  go_ret
  exact⟨by rw[H.out];rfl,rfl⟩
 ·have d:¬ ((127:Int)<(x:Int)):=by omega
  have a:=uc h x (by omega);have H:Hid ((decide (127<x) || !jX QV x)=!jX QV x):=hh (by simp[h1]);have g:IntKind.u8.wrap (x:Int)=(x:Int):=u8_in _ (by omega);rw[H.out]
  generalize jX QV x=b at a⊢
  clear h h1
  go_enter Tryz.func155,Tryz.ntmps155
  go_wp2_with (go_at_call 156;refine a.mono ?_;rintro e w' ⟨rfl,rfl⟩)
  go_ret
  exact⟨rfl,rfl⟩
end Go.Proofs.YtpblcjipmoblnaaGreatDoor
namespace Go.Proofs.YtpblcjipmoblnaaGreatDoor
open Go.RowKit Go.IntWalk Ck
variable {w:World} {l:List Sp}
def eC(x:Sp):List Value:=[.int .u64 x.1,.int .u64 x.2]
theorem qA(a b:Nat)(w:World):Calls Tryz.prog 125 #[.agg #[.int .u64 a,.int .u64 b]] w fun e w'=>e=.returned (.bool (decide (b<a)))∧Kz w w':=by
 go_enter Tryz.func125,Tryz.ntmps125
 go_wp2
 go_ret
 exact⟨rfl,(aB.refl _ _).alloc _⟩
def bZ(w:World)(pb:Nat)(u:Value)(l:List Sp):Prop:=
 ∃A c,u=.slice A l.length c∧l.length≤c∧l.length≤4194304∧(0<l.length→∃g,A=some ⟨g,0,none⟩∧g<w.heap.size∧g≠pb ∧
  ∀(i:Nat) (s:Sp),l[i]?=some s→w.cell? ⟨g,i*2,none⟩=some (.int .u64 s.1)∧w.cell? ⟨g,i*2+1,none⟩=some (.int .u64 s.2)∧s.1<lim∧s.2<lim)
theorem bZ.keep{w':World}{pb:Nat}{u:Value}(h:bZ w pb u l)(hk:aB (fun k=>k=pb) w w'):bZ w' pb u l:=by
 obtain⟨A,c,e,n,q,r⟩:=h;refine⟨A,c,e,n,q,fun j=>?_⟩;obtain⟨g,e,a,b,v⟩:=r j;refine⟨g,e,Nat.lt_of_lt_of_le a hk.size,b,fun i s x=>?_⟩;obtain⟨c1,c2,d⟩:=v i s x;exact⟨(hk.cell (p:=⟨g,i*2,none⟩) a b).trans c1,(hk.cell (p:=⟨g,i*2+1,none⟩) a b).trans c2,d⟩
theorem sn{P:Program}{b j t:Nat}{R1 body:Code}{Q:Exit→Act→World→Prop}{a:Act}(I:Act→World→Prop)(μ:Act→World→Nat)(J:Nat→Act→World→Prop)(Done:Act→World→Prop)(l:I a w)
 (n:∀a w,I a w→R1.wp P (km fun d w'=>(d.eval (.tmp t)=.bool true∧J (μ a w) d w')∨(d.eval (.tmp t)=.bool false∧Done d w')) a w)
 (u:∀m a w,J m a w→body.wp P (km fun d w'=>I d w'∧μ d w'<m) a w)
 (v:∀a w,Done a w→Q .normal a w):
 (Code.block b (Code.loop (Code.seq (Code.seq R1 (Code.cond (.tmp t) .skip (.exit b))) (Code.block j body)))).wp P Q a w:=by
 refine wp_block (wp_loop I μ l ?_);intro a w q;refine wp_seq (wp_seq (Code.wp_only (n a w q) fun g i h=>?_))
 rcases h with⟨e,r⟩|⟨e,p⟩
 ·refine wp_cond_true e (wp_skip (wp_block (Code.wp_only (u _ g i r) fun x y hh=>?_)))
  exact hh
 ·refine wp_cond_false e (wp_exit ?_)
  show Exit.inBlock b Q (.exit b) g i;simp only[Exit.inBlock,if_true];exact v _ _ p
theorem oI(h:gh l){i j:Nat}{s t:Sp}(q:i≤j)(g:l[i]?=some s)(d:l[j]?=some t):s.2≤t.2:=by
 rcases Nat.lt_or_ge i j with e|e
 ·obtain⟨a,n⟩:=List.getElem?_eq_some_iff.1 g
  obtain⟨b,p⟩:=List.getElem?_eq_some_iff.1 d;have:=List.pairwise_iff_getElem.1 h.apart i j a b e;have r:=h.some_ t (List.mem_of_getElem? d);rw[n,p]at this;omega
 ·have:i=j:=by omega
  subst this;have:=Option.some.inj (g.symm.trans d);subst this;exact Nat.le_refl _
theorem wH{pb:Nat}{u:Value}(hu:bZ w pb u l)(hl:gh l)(p:Nat)(hp:p<lim):
 Calls Tryz.prog 126 #[.agg #[u],.int .u64 p] w fun e w'=>(∃i:Nat,e=.returned (.int .i64 i)∧i≤l.length∧(∀j s,j<i→l[j]?=some s→s.2<p)∧∀s,l[i]?=some s→p≤s.2)∧Kz w w':=by
 obtain⟨A,c,rfl,hc,b1,r⟩:=hu;unfold lim at hp;refine az Tryz.func126 Tryz.ntmps126 rfl (by simp) fun a I L C=>?_
 have h0:At a 0 (.agg #[.slice A l.length c]):=C 0 _ rfl;have h1:At a 1 (.int .u64 p):=C 1 _ rfl;clear C
 conv=>arg 2;whnf
 refine so (fun a1 w1=>aA (fun i=>i==2||i==4) a a1∧At a1 2 (.pointer (some ⟨w.heap.size,0,none⟩))∧w1=w.alloc (.cells #[.slice A l.length c] 175)) ?_ ?_
 ·clear r
  obtain⟨T,d⟩:=a;refine rl ?_
  iterate 2 with_reducible refine st ?_
  with_reducible refine ln ?_
  refine⟨rfl,ag,aq,rfl⟩
 rintro a1 w1 ⟨W,h2,Y⟩;have ad:Kz w w1:=by rw[Y];exact(aB.refl _ _).alloc _
 obtain⟨z,hz⟩:∃z,z=w.heap.size:=⟨_,rfl⟩;rw[←hz]at h2;have bb:w1.cell? ⟨z,0,none⟩=some (.slice A l.length c):=by rw[Y,hz];exact aX w [.slice A l.length c] 175 0 _ rfl
 have bc:z<w1.heap.size:=by rw[Y,hz];simp
 replace h1:=W.Q7 h1 rfl;replace I:=W.size.trans I;replace L:=W.defers.trans L;clear W h0 Y hz;refine so (fun a2 w2=>aA (fun i=>i==8||i==9||i==10||i==5||i==6) a1 a2∧At a2 5 (.int .i64 (0:Nat))∧At a2 6 (.int .i64 l.length)∧w2=w1.drew) ?_ ?_
 ·clear r ad
  obtain⟨T,d⟩:=a1;refine wp_region_still_lit (by kernel_rfl) (by kernel_rfl) ?_
  iterate 5 with_reducible refine sl ?_
  with_reducible refine wpStill_nil ?_
  refine⟨rfl,?_,?_,?_,rfl⟩
  ·exact ag
  ·show At _ 5 (.int .i64 0)
   exact aq
  ·exact aq
 rintro a2 w2 ⟨K,h5,h6,Z⟩;have af:Kz w w2:=by rw[Z];exact ad.drew
 have cl:w2.cell? ⟨z,0,none⟩=some (.slice A l.length c):=by rw[Z];exact bb
 have b2:z<w2.heap.size:=by rw[Z];exact bc
 replace h1:=K.Q7 h1 rfl;replace h2:=K.Q7 h2 rfl;replace I:=K.size.trans I;replace L:=K.defers.trans L;clear K Z bb ad bc w1;refine wp_seq (sn (t:=13)
  (fun D w'=>aA (fun i=>i==5||i==6||i==7||(rg 11 28 i)) a2 D∧w'=w2∧∃i j:Nat,At D 5 (.int .i64 i)∧At D 6 (.int .i64 j)∧i≤j∧j≤l.length∧(∀k s,k<i→l[k]?=some s→s.2<p)∧∀k s,j≤k→l[k]?=some s→p≤s.2)
  (fun D _=>(intOf (D.eval (.tmp 6))-intOf (D.eval (.tmp 5))).toNat)
  (fun m D w'=>aA (fun i=>i==5||i==6||i==7||(rg 11 28 i)) a2 D∧w'=w2∧∃i j:Nat,At D 5 (.int .i64 i)∧At D 6 (.int .i64 j)∧i<j∧m=j-i∧j≤l.length∧(∀k s,k<i→l[k]?=some s→s.2<p)∧∀k s,j≤k→l[k]?=some s→p≤s.2)
  (fun D w'=>D.defers=[]∧D.tmps.size=30∧w'=w2∧∃i:Nat,At D 5 (.int .i64 i)∧i≤l.length∧(∀k s,k<i→l[k]?=some s→s.2<p)∧∀k s,i≤k→l[k]?=some s→p≤s.2)
  ⟨aA.refl _ _,rfl,0,l.length,h5,h6,Nat.zero_le _,Nat.le_refl _,fun k s hk _=>by omega,fun k s hk hs=>by have:=(List.getElem?_eq_some_iff.1 hs).1;omega⟩ ?_ ?_ ?_)
 ·rintro U w3 ⟨N,rfl,i,j,G,J,bl,X,y,v⟩
  have M:=N.size.trans I;have an:=N.defers.trans L;have e5:=G.eval (by omega);have e6:=J.eval (by omega);have S:=hh y;have Q:=hh v;have HA:=hh N;obtain⟨t,ht⟩:∃b,decide (i<j)=b:=⟨_,rfl⟩;clear y v N r;refine Code.wp_only (R:=fun E w4=>aA (fun i=>i==11||i==12||i==13) U E∧At E 13 (.bool t)∧w4=w3) ?_ ?_
  ·clear e5 e6
   obtain⟨T,d⟩:=U;refine rl ?_
   iterate 3 with_reducible refine st ?_
   with_reducible refine ln ?_
   refine⟨rfl,ag,aq,rfl⟩
  rintro E w4 ⟨n,bz,rfl⟩;have ah:=bz.eval (by have:=n.size;omega);have hm:(intOf (U.eval (.tmp 6))-intOf (U.eval (.tmp 5))).toNat=j-i:=by rw[e5,e6];simp[intOf]<;>omega
  rw[hm];refine⟨rfl,?_⟩
  cases t with
  | true=>exact .inl ⟨ah,HA.out.t n,rfl,i,j,n.Q7 G rfl,n.Q7 J rfl,of_decide_eq_true ht,rfl,X,S.out,Q.out⟩
  | false =>
   have:i=j:=by have:=of_decide_eq_false ht;omega
   subst this;exact .inr ⟨ah,n.defers.trans an,n.size.trans M,rfl,i,n.Q7 G rfl,X,S.out,Q.out⟩
 ·rintro m U w3 ⟨N,rfl,i,j,G,J,bl,hm,X,y,v⟩
  have M:=N.size.trans I;have k1:=N.Q7 h1 rfl;have k2:=N.Q7 h2 rfl;obtain⟨q,hq⟩:∃q,q=(i+j) / 2:=⟨_,rfl⟩;have cc:i≤q:=by omega
  have cd:q<j:=by omega
  obtain⟨s,hs⟩:∃s,l[q]?=some s:=⟨_,Ez (by omega)⟩;obtain⟨g,rfl,bj,_,a0⟩:=r (by omega);obtain⟨c1,c2,c3,c4⟩:=a0 q s hs;have q1:w3.cell? ⟨g,q*2+1,none⟩=some (.int .u64 s.2):=(af.cell (p:=⟨g,q*2+1,none⟩) bj (fun h=>h)).trans c2;have b4:g<w3.heap.size:=by have:=af.size;omega
  unfold lim at c4;have a7:((i:Int)+(j:Int)) / 2=(q:Int):=by omega
  have bo:((i:Int)+(j:Int)).tdiv 2=(q:Int):=by rw[Int.tdiv_eq_ediv_of_nonneg (by omega)];exact a7
  have bt:IntKind.i64.wrap ((i:Int)+(j:Int))=(i:Int)+(j:Int):=i64_in _ (by omega);have bp:IntKind.i64.wrap (q:Int)=(q:Int):=i64_in _ (by omega);have ci:IntKind.i64.wrap ((q:Int)+1)=(q:Int)+1:=i64_in _ (by omega);have cf:q<l.length:=by omega
  have bu:decide ((i:Int)+(j:Int) = -9223372036854775808)=false:=decide_eq_false (by omega);have cb:q≤c:=by omega
  have S:=hh y;have Q:=hh v;have HA:=hh N;have HS:=hh hs;have HM:=hh hm;clear y v N r a0 c1 c2 hq hs hm;refine so (fun E w4=>aA (fun i=>i==14||i==15||i==16||i==17||i==7) U E∧At E 7 (.int .i64 q)∧w4=w3) ?_ ?_
  ·obtain⟨T,d⟩:=U
   refine rl ?_
   iterate 5 with_reducible refine st ?_
   with_reducible refine ln ?_
   refine⟨rfl,ag,aq,rfl⟩
  rintro E w4 ⟨n,k7,rfl⟩;clear a7 bo bt bp bu;have a8:=n.size.trans M;have j1:=n.Q7 k1 rfl;have j2:=n.Q7 k2 rfl;have j5:=n.Q7 G rfl;have j6:=n.Q7 J rfl;obtain⟨t,ht⟩:∃b,decide (s.2<p)=b:=⟨_,rfl⟩;refine so (fun a5 w5=>aA (fun i=>rg 18 25 i) E a5∧At a5 25 (.bool t)∧w5=w4) ?_ ?_
  ·clear k1 k2 G J n
   obtain⟨T,d⟩:=E;refine rl ?_
   iterate 8 with_reducible refine st ?_
   with_reducible refine ln ?_
   refine⟨rfl,ag,aq,rfl⟩
  rintro a5 w5 ⟨H,bd,rfl⟩;have ac:=H.size.trans a8;have V:=bd.eval (by omega);have l5:=H.Q7 j5 rfl;have l6:=H.Q7 j6 rfl;have l7:=H.Q7 k7 rfl;have O:=hh (HA.out.trans ((n.mono (by intro j;simp;omega:∀x,_→(fun i=>i==7||(rg 14 25 i)) x=true)).t H) (by intro j;simp;omega));clear n H k1 k2 G J k7 j1 j2 j5 j6 bd
  cases t with
  | true =>
   refine wp_cond_true V ?_;have b5:s.2<p:=of_decide_eq_true ht;refine Code.wp_only (R:=fun a6 w6=>aA (fun i=>i==26||i==27||i==5) a5 a6∧At a6 5 (.int .i64 ((q:Int)+1))∧w6=w5) ?_ ?_
   ·clear V O
    obtain⟨T,d⟩:=a5;refine rl ?_
    iterate 3 with_reducible refine st ?_
    with_reducible refine ln ?_
    refine⟨rfl,ag,aq,rfl⟩
   rintro a6 w6 ⟨B,G,rfl⟩;have J:=B.Q7 l6 rfl;have a9:=B.size.trans ac;have e5:=G.eval (by omega);have e6:=J.eval (by omega);have b0:At a6 5 (.int .i64 ((q+1:Nat):Int)):=by rw[show((q+1:Nat):Int)=(q:Int)+1 by omega];exact G
   refine⟨rfl,⟨O.out.t B,rfl,q+1,j,b0,J,by omega,X,fun k u hk hu=>?_,Q.out⟩,?_⟩
   ·have:=oI hl (by omega:k≤q) hu HS.out;omega
   ·rw[e5,e6,HM.out];simp[intOf];omega
  | false =>
   refine wp_cond_false V ?_;have b3:¬ s.2<p:=of_decide_eq_false ht;refine Code.wp_only (R:=fun a6 w6=>aA (fun i=>i==28||i==6) a5 a6∧At a6 6 (.int .i64 q)∧w6=w5) ?_ ?_
   ·clear V O
    obtain⟨T,d⟩:=a5;refine rl ?_
    iterate 2 with_reducible refine st ?_
    with_reducible refine ln ?_
    refine⟨rfl,ag,aq,rfl⟩
   rintro a6 w6 ⟨B,J,rfl⟩;have G:=B.Q7 l5 rfl;have a9:=B.size.trans ac;have e5:=G.eval (by omega);have e6:=J.eval (by omega);refine⟨rfl,⟨O.out.t B,rfl,i,q,G,J,by omega,by omega,S.out,fun k u hk hu=>?_⟩,?_⟩
   ·have:=oI hl hk HS.out hu;omega
   ·rw[e5,e6,HM.out];simp[intOf];omega
 ·rintro U w3 ⟨be,bw,rfl,i,G,bm,y,v⟩
  with_reducible apply aY
  refine so (fun E w4=>At E 4 (.int .i64 i)∧E.tmps.size=30∧E.defers=[]∧w4=w3) ?_ ?_
  ·clear r y v
   obtain⟨T,d⟩:=U;refine rl ?_
   iterate 2 with_reducible refine st ?_
   with_reducible refine ln ?_
   refine⟨rfl,?_,by simpa using bw,be,rfl⟩;exact aq
  rintro E w4 ⟨h4,bx,bf,rfl⟩;exact wp_ret (b9 (t:=4) rfl h4 (by rw[bx];decide) bf ⟨⟨i,rfl,bm,y,fun s hs=>v i s (Nat.le_refl _) hs⟩,af⟩)
end Go.Proofs.YtpblcjipmoblnaaGreatDoor
namespace Go.Proofs.YtpblcjipmoblnaaGreatDoor
open Go.RowKit Go.IntWalk Ck
open Classical in
noncomputable def dM(l:List Sp)(a b:Nat):Bool:=decide (∀p,a≤p→p≤b→dq l p)
theorem jC{l:List Sp}{a b:Nat}:dM l a b=true↔∀p,a≤p→p≤b→dq l p:=by unfold dM;simp
theorem rz{w:World}{pb:Nat}{u:Value}{l:List Sp}(hu:bZ w pb u l)(hl:gh l)(a b:Nat)(ha:a<lim)(hb:b<lim)(bo:pb<w.heap.size):
 Calls Tryz.prog 102 #[.agg #[u],.agg #[.int .u64 a,.int .u64 b]] w fun e w'=>e=.returned (.bool (dM l a b))∧Kz w w':=by
 unfold lim at ha hb;refine az Tryz.func102 Tryz.ntmps102 rfl (by simp) fun ac V S v=>?_
 have h0:At ac 0 (.agg #[u]):=v 0 _ rfl;have Z:At ac 1 (.agg #[.int .u64 a,.int .u64 b]):=v 1 _ rfl;clear v;obtain⟨A,c,rfl,hc,a6,n⟩:=hu
 conv=>arg 2;whnf
 refine so (fun X I=>aA (fun i=>i==2||i==3||i==4) ac X∧At X 2 (.pointer (some ⟨w.heap.size,0,none⟩))∧At X 3 (.pointer (some ⟨w.heap.size+1,0,none⟩))∧I=(w.alloc (.cells #[.slice A l.length c] 175)).alloc (.cells #[.int .u64 a,.int .u64 b] 180)) ?_ ?_
 ·clear n
  obtain⟨T,d⟩:=ac;refine rl ?_
  iterate 3 with_reducible refine st ?_
  with_reducible refine ln ?_
  refine⟨rfl,ag,aq,aq,rfl⟩
 rintro X I ⟨Q,O,h3,x⟩;have U:Kz w I:=by rw[x];exact((aB.refl _ _).alloc _).alloc _
 obtain⟨z,hz⟩:∃z,z=w.heap.size:=⟨_,rfl⟩;obtain⟨y,hy⟩:∃z,z=w.heap.size+1:=⟨_,rfl⟩;rw[←hz]at O;rw[←hy]at h3;have x0:I.cell? ⟨z,0,none⟩=some (.slice A l.length c):=by
  rw[x,hz];exact(((aB.refl (fun _=>False) _).alloc _).cell (p:=⟨w.heap.size,0,none⟩) (by simp) (fun h=>h)).trans (aX w [.slice A l.length c] 175 0 _ rfl)
 have y0:I.cell? ⟨y,0,none⟩=some (.int .u64 a):=by rw[x,hy];have:=aX (w.alloc (.cells #[.slice A l.length c] 175)) [.int .u64 a,.int .u64 b] 180 0 _ rfl;simpa using this
 have y1:I.cell? ⟨y,1,none⟩=some (.int .u64 b):=by rw[x,hy];have:=aX (w.alloc (.cells #[.slice A l.length c] 175)) [.int .u64 a,.int .u64 b] 180 1 _ rfl;simpa using this
 have zs:z<I.heap.size∧y<I.heap.size:=by rw[x,hz,hy];simp;omega
 replace V:=Q.size.trans V;replace S:=Q.defers.trans S;have a8:bZ I pb (.slice A l.length c) l:=bZ.keep (w:=w) ⟨A,c,rfl,hc,a6,n⟩ (U.mono fun _ _ h=>h.elim);have HU:=hh a8;clear Q h0 Z x hz hy n a8;refine wp_seq (wp_seq (Code.wp_only (R:=fun Y W=>aA (fun i=>i==6||i==7) X Y∧At Y 7 (.bool (decide (b<a)))∧Kz I W) ?_ ?_))
 ·obtain⟨T,d⟩:=X
  refine rl ?_;with_reducible refine st ?_;refine Lz (fun K hK=>?_)
  go_simp;refine(qA a b I).mono ?_;rintro e W ⟨rfl,q⟩;with_reducible refine hK _ _ (ln ?_)
  refine⟨rfl,ag,aq,q⟩
 rintro Y W ⟨C,k7,q⟩;have N:=C.size.trans V;have M:=C.defers.trans S;have e7:=k7.eval (by omega);have j2:=C.Q7 O rfl;have j3:=C.Q7 h3 rfl;have x0:=(q.cell (p:=⟨z,0,none⟩) zs.1 (fun h=>h)).trans x0;have y0:=(q.cell (p:=⟨y,0,none⟩) zs.2 (fun h=>h)).trans y0;have y1:=(q.cell (p:=⟨y,1,none⟩) zs.2 (fun h=>h)).trans y1;have J:z<W.heap.size∧y<W.heap.size:=⟨Nat.lt_of_lt_of_le zs.1 q.size,Nat.lt_of_lt_of_le zs.2 q.size⟩;have ah:=hh (HU.out.keep (q.mono fun _ _ h=>h.elim));have af:=hh (U.trans q (fun _ _ h=>h));clear C q U k7 zs
 by_cases hba:b<a
 ·rw[decide_eq_true hba]at e7
  refine wp_cond_true e7 ?_;refine so (fun B L=>At B 4 (.bool true)∧B.tmps.size=39∧B.defers=[]∧L=W) ?_ ?_
  ·obtain⟨T,d⟩:=Y
   refine rl ?_;with_reducible refine st ?_;refine ln ?_
   refine⟨rfl,?_,by simpa using N,M,rfl⟩;exact aq
  rintro B L ⟨h4,bd,bb,rfl⟩;refine wp_ret ?_
  repeat (first|with_reducible apply b8|with_reducible apply bG)
  refine b9 (t:=4) rfl h4 (by rw[bd];decide) bb ⟨?_,af.out⟩;have e:dM l a b=true:=jC.2 fun p Z O=>by omega
  rw[e]
 ·rw[decide_eq_false hba]at e7
  refine wp_cond_false e7 (wp_skip ?_)
  repeat with_reducible apply aY
  refine so (fun B L=>aA (fun i=>i==5||(rg 8 11 i)) Y B∧(∃i:Nat,At B 5 (.int .i64 i)∧i≤l.length∧(∀j s,j<i→l[j]?=some s→s.2<a)∧∀s,l[i]?=some s→a≤s.2)∧Kz W L) ?_ ?_
  ·obtain⟨T,d⟩:=Y
   refine rl ?_
   iterate 3 with_reducible refine st ?_
   with_reducible refine Lz (fun K hK=>?_)
   go_simp;refine(wH ah.out hl a (by unfold lim;omega)).mono ?_;rintro e L ⟨⟨i,rfl,hi,h5,h6⟩,r⟩;with_reducible refine hK _ _ ?_;clear hK K
   have H5:=hh h5;have H6:=hh h6;clear h5 h6;with_reducible refine st ?_;refine ln ?_
   refine⟨rfl,ag,⟨i,aq,hi,H5.out,H6.out⟩,r⟩
  rintro B L ⟨D,⟨i,k5,hi,a7,a0⟩,r⟩;have G:=D.size.trans N;have E:=D.defers.trans M;have l2:=D.Q7 j2 rfl;have l3:=D.Q7 j3 rfl;have x0:=(r.cell (p:=⟨z,0,none⟩) J.1 (fun h=>h)).trans x0;have y0:=(r.cell (p:=⟨y,0,none⟩) J.2 (fun h=>h)).trans y0;have y1:=(r.cell (p:=⟨y,1,none⟩) J.2 (fun h=>h)).trans y1;have bp:z<L.heap.size∧y<L.heap.size:=⟨Nat.lt_of_lt_of_le J.1 r.size,Nat.lt_of_lt_of_le J.2 r.size⟩;have bf:=ah.out.keep (r.mono fun _ _ h=>h.elim);have ad:=hh (ry hl (by omega:a≤b) a7 a0);have a9:=hh (af.out.trans r (fun _ _ h=>h));obtain⟨_,_,e,_,_,n⟩:=bf
  cases e
  clear D r a7 a0 j2 j3
  suffices H:(Code.wp Tryz.prog (al Tryz.f102 [1,1,1,0]) (km fun a4 w4=>At a4 4 (.bool (dM l a b))∧a4.tmps.size=39∧a4.defers=[]∧w4=L.drew) B L) from
   wp_seq (Code.wp_only H fun a4 w4 ⟨h4,be,bc,bl⟩=>wp_ret (b9 (t:=4) rfl h4 (by rw[be];decide) bc ⟨rfl,by rw[bl];exact a9.out.drew⟩))
  conv=>arg 2;whnf
  by_cases hil:i<l.length
  ·obtain⟨s,hs⟩:=ge hil
   obtain⟨g,rfl,hg,_,an⟩:=n (by omega);obtain⟨c1,c2,c3,c4⟩:=an i s hs;unfold lim at c3 c4;have bm:i≤c:=by omega
   obtain⟨b1,e1⟩:∃t,decide (s.1≤a)=t:=⟨_,rfl⟩;obtain⟨b2,e2⟩:∃t,decide (b≤s.2)=t:=⟨_,rfl⟩;have HV:Hid (dM l a b=(b1&&b2)):=by
    show dM l a b=_;rw[←e1,←e2,Bool.eq_iff_iff];rw[jC,ad.out];simp only[Bool.and_eq_true,decide_eq_true_eq];constructor
    ·rintro⟨t,ht,Z,O⟩
     have:=Option.some.inj (hs.symm.trans ht);subst this;exact⟨Z,O⟩
    ·rintro⟨Z,O⟩
     exact⟨s,hs,Z,O⟩
   have bj:=aJ;have a5:decide (i<l.length)=true:=decide_eq_true hil;clear hs n an;obtain⟨T,d⟩:=B;refine wp_region_still_lit (by kernel_rfl) (by kernel_rfl) ?_
   cases b1
   ·skip
    iterate 28 with_reducible refine sl ?_
    with_reducible refine wpStill_nil ?_
    refine⟨rfl,?_,by simpa using G,E,rfl⟩;rw[show dM l a b=false from HV.out];exact aq
   ·skip
    iterate 28 with_reducible refine sl ?_
    with_reducible refine wpStill_nil ?_
    refine⟨rfl,?_,by simpa using G,E,rfl⟩;rw[show dM l a b=b2 from HV.out.trans (Bool.true_and _)];exact aq
  ·have HV:Hid (dM l a b=false):=by
    show dM l a b=_;rw[Bool.eq_false_iff,Ne,jC,ad.out];rintro⟨t,ht,_⟩;exact hil (List.getElem?_eq_some_iff.1 ht).1
   have bj:=aJ;have a5:decide (i<l.length)=false:=decide_eq_false hil;clear n;obtain⟨T,d⟩:=B;refine wp_region_still_lit (by kernel_rfl) (by kernel_rfl) ?_
   iterate 28 with_reducible refine sl ?_
   with_reducible refine wpStill_nil ?_
   refine⟨rfl,?_,by simpa using G,E,rfl⟩;rw[show dM l a b=false from HV.out];exact aq
end Go.Proofs.YtpblcjipmoblnaaGreatDoor
namespace Go.Proofs.YtpblcjipmoblnaaGreatDoor
open Go.RowKit Go.IntWalk Ck
variable {B pb:Nat} {w:World} {L:List Wr}
theorem sr{v:aV}{P:aC}(h:aF B w pb v P dh L)(a:Act)(cc:a.tmps.size=185)
 (h0:At a 0 (.pointer (some ⟨pb,0,none⟩))){zx:Nat}{A:Option Addr}{c:Nat}{l:List Ck.gi}(c1:At a 3 (.pointer (some ⟨zx,0,none⟩)))(hq:w.cell? ⟨zx,5,none⟩=some (.slice A l.length c))(Z:aT B 4 eX w (.slice A l.length c) l){zy:Nat}{y:aS}{A_mapsy A_rulesy:Option Addr}{a6 ad:Nat}(HO:Hid (∀w0,aB (fun k=>k=pb) w w0→aN w0 zy 0 [.int .i64 y.pos,.string y.name,.int .u64 y.QP,.bool y.stopped,.slice A_mapsy y.maps.length a6,.slice A_rulesy y.QR.length ad]))(hy:At a 3 (.pointer (some ⟨zy,0,none⟩)))(Q:Exit→Act→World→Prop)
 (hQ:∀a' w',aA (fun i=>i==5||(rg 31 64 i)) a a'→aF B w' pb v P dh (l.flatMap (gD y)++L)→aB (fun k=>k=pb) w w'→Q .normal a' w'):
 (al Tryz.f54 [0,1,0,0,1,1,0,0,1,1]).wp Tryz.prog Q a w:=by
 have cy:=Z;obtain⟨_,_,e,cx,cb,hl⟩:=Z
 cases e
 unfold top at cb;have cw:=h.lt;have cv:=h.base
 conv=>arg 2;whnf
 refine so (fun a1 w1=>aA (fun i=>i==31||i==32||i==33||i==34) a a1∧At a1 32 (.slice A l.length c)∧At a1 33 (.int .i64 l.length)∧At a1 34 (.int .i64 0)∧w1=w) ?_ ?_
 ·clear hl
  obtain⟨T,d⟩:=a;refine rl ?_
  iterate 4 with_reducible refine st ?_
  with_reducible refine ln ?_
  refine⟨rfl,ag,aq,aq,aq,rfl⟩
 rintro a0 w0 ⟨bd,cm,cl,cf,rfl⟩;have b1:a0.tmps.size=185:=bd.size.trans cc;replace h0:=bd.Q7 h0 rfl;replace hy:=bd.Q7 hy rfl;refine ai l.length (fun i=>i==5||(rg 34 64 i)) (fun i=>i==5||(rg 36 63 i)) (fun k _ w'=>aF B w' pb v P dh ((l.take k).flatMap (gD y)++L)∧aB (fun k=>k=pb) w0 w') (by omega) cf cl (by decide) rfl
  (by intro j;simp;omega) (by omega) (by decide) (fun k a1 a2 w hA hI=>hI) ⟨by simpa[List.take_zero]using h,aB.refl _ _⟩ ?_ ?_
 ·rintro n a1 wr b0 hA ci ⟨hL,hk⟩
  obtain⟨bl,off,rfl,b5,bz⟩:=hl (by omega);obtain⟨x,hx⟩:=ge b0;obtain⟨hc,cu⟩:=(aK B _ _) _ _ _ _ _ (hk.below (B:=B) (by omega) (fun _ hi e=>by omega)) b5 (bz n x hx);have q0:=hc.c0;have q1:=hc 1 _ rfl;have q2:=hc 2 _ rfl;have q3:=hc 3 _ rfl;have bm:=hA.Q7 h0 rfl;have ac:=hA.Q7 hy rfl;have b4:=hA.Q7 cm rfl;have b2:a1.tmps.size=185:=hA.size.trans b1;have ct:=hk.size;have cp:bl<wr.heap.size:=by omega
  have HX:=hh hx;have HL:=hh hL;have HK:=hh hk;have cs:n≤c:=by omega
  have HA:=hh hA;clear hx hL hk hc hA bz;refine so (fun a2 w2=>aA (fun i=>i==36||i==37||i==5) a1 a2∧At a2 5 (.pointer (some ⟨wr.heap.size,0,none⟩))∧w2=wr.alloc (Obj.cells #[.int .i64 x.pos,.int .i64 x.how,.string x.to,.int .u64 x.QK] 85)) ?_ ?_
  ·skip
   obtain⟨T,d⟩:=a1;refine rl ?_
   iterate 4 with_reducible refine st ?_
   with_reducible refine ln ?_
   refine⟨rfl,ag,aq,rfl⟩
  rintro a2 wo ⟨a7,bw,bj⟩;obtain⟨z,hz⟩:∃z,z=wr.heap.size:=⟨_,rfl⟩;rw[←hz]at bw;have H:aN wo z 0 [.int .i64 x.pos,.int .i64 x.how,.string x.to,.int .u64 x.QK]:=by rw[bj,hz];exact aX _ _ _
  have bu:z<wo.heap.size:=by rw[bj,hz];simp
  have b3:z≠pb:=by omega
  have bf:Kz wr wo:=by rw[bj];exact(aB.refl _ _).alloc _
  have bt:=hh (HL.out.new bf);have G:=hh (HK.out.trans bf (fun _ _ h=>h.elim));have bx:Hid (aB (fun k=>k=pb) wr wo):=bf.mono (fun _ _ h=>h.elim);have bm:=a7.Q7 bm rfl;replace ac:=a7.Q7 ac rfl;have bp:=a7.size.trans b2;have an:Hid (aA (fun i=>i==5||(rg 36 63 i)) a1 a2):=a7.m;clear bj hz bf HL HK a7 q0 q1 q2 q3;clear b4 ci hl;refine so (fun a' w'=>aA (fun i=>(rg 38 49 i)) a2 a'∧aF B w' pb v P dh (say (!decide (x.how=1)||decide (x.QK<64)) x.pos 1++((l.take n).flatMap (gD y)++L))∧aB (fun k=>k=pb) wo w') ?_ ?_
  ·skip
   clear an HX;have a9:=H.c0;have a8:=H 1 _ rfl;have bo:=H 2 _ rfl;have O:=H 3 _ rfl;have bc:=(HO.out _ G.out).c0;have ah:=(HO.out _ G.out) 1 _ rfl;have bb:=(HO.out _ G.out) 2 _ rfl;have M:=(HO.out _ G.out) 3 _ rfl;have af:=(HO.out _ G.out) 4 _ rfl;have X:=(HO.out _ G.out) 5 _ rfl;clear H;obtain⟨q,g⟩:∃b,b=decide (x.how=1):=⟨_,rfl⟩;have I:((x.how:Int)==1)=q:=by rw[g];exact eG _ _
   have J:((x.how:Int)!=1)=!q:=by rw[g];exact iJ _ _
   obtain⟨D,C⟩:∃b,b=decide (x.QK<64):=⟨_,rfl⟩;have Y:decide ((x.QK:Int)<64)=D:=by rw[C];exact decide_eq_decide.2 (by omega)
   have HS:Hid (say (!decide (x.how=1)||decide (x.QK<64)) x.pos 1=say ((!q||D)) x.pos 1):=by rw[g,C];rfl
   clear g;clear C;have a5:=bt;have cd:=aJ;obtain⟨T,d⟩:=a2;refine rl ?_
   iterate 5 with_reducible refine st ?_
   cases q
   ·iterate 6
     with_reducible refine st ?_
    with_reducible refine Lz (fun K hK=>?_)
    go_simp;refine(aO _ _ 1 101 a5.out rfl).mono ?_;rintro e w2 ⟨rfl,U,V⟩;with_reducible refine hK _ _ (ln ?_)
    refine⟨rfl,?_,?_,?_⟩
    ·exact ag
    ·have Z:=HS.out
     try simp only[bS]at Z
     rw[Z];exact U
    ·exact V
   ·iterate 6
     with_reducible refine st ?_
    with_reducible refine Lz (fun K hK=>?_)
    go_simp;refine(aO _ _ 1 101 a5.out rfl).mono ?_;rintro e w2 ⟨rfl,U,V⟩;with_reducible refine hK _ _ (ln ?_)
    refine⟨rfl,?_,?_,?_⟩
    ·exact ag
    ·have Z:=HS.out
     try simp only[bS]at Z
     rw[Z];exact U
    ·exact V
  rintro a3 w3 ⟨N,be,W⟩;replace H:=H.keep W bu b3;replace bu:z<w3.heap.size:=Nat.lt_of_lt_of_le bu W.size;replace bt:=hh be;replace G:=hh (G.out.trans W (fun _ _ e=>e));replace bx:=hh (bx.out.trans W (fun _ _ e=>e));replace bm:=N.Q7 bm rfl;replace bw:=N.Q7 bw rfl;replace ac:=N.Q7 ac rfl;replace bp:=N.size.trans bp;replace an:Hid (aA (fun i=>i==5||(rg 36 63 i)) a1 a3):=an.out.t N;clear N be W;refine Code.wp_only (R:=fun a' w'=>aA (fun i=>(rg 50 63 i)) a3 a'∧aF B w' pb v P dh (say (!decide (x.how=1) || !decide (x.to=y.name)) x.pos 3++(say (!decide (x.how=1)||decide (x.QK<64)) x.pos 1++((l.take n).flatMap (gD y)++L)))∧aB (fun k=>k=pb) w3 w') ?_ ?_
  ·skip
   clear an HX;have a9:=H.c0;have a8:=H 1 _ rfl;have bo:=H 2 _ rfl;have O:=H 3 _ rfl;have bc:=(HO.out _ G.out).c0;have ah:=(HO.out _ G.out) 1 _ rfl;have bb:=(HO.out _ G.out) 2 _ rfl;have M:=(HO.out _ G.out) 3 _ rfl;have af:=(HO.out _ G.out) 4 _ rfl;have X:=(HO.out _ G.out) 5 _ rfl;clear H;obtain⟨q,g⟩:∃b,b=decide (x.how=1):=⟨_,rfl⟩;have I:((x.how:Int)==1)=q:=by rw[g];exact eG _ _
   have J:((x.how:Int)!=1)=!q:=by rw[g];exact iJ _ _
   obtain⟨u,r⟩:∃b,b=decide (x.to=y.name):=⟨_,rfl⟩;have E:(x.to.toList==y.name.toList)=u:=by rw[r];exact bv _ _
   have S:(x.to.toList !=y.name.toList)=!u:=by rw[←E];rfl
   have HS:Hid (say (!decide (x.how=1) || !decide (x.to=y.name)) x.pos 3=say ((!q || !u)) x.pos 3):=by rw[g,r];rfl
   clear g;clear r;have a5:=bt;have cd:=aJ;obtain⟨T,d⟩:=a3;refine rl ?_
   iterate 5 with_reducible refine st ?_
   cases q
   ·iterate 8
     with_reducible refine st ?_
    with_reducible refine Lz (fun K hK=>?_)
    go_simp;refine(aO _ _ 3 102 a5.out rfl).mono ?_;rintro e w2 ⟨rfl,U,V⟩;with_reducible refine hK _ _ (ln ?_)
    refine⟨rfl,?_,?_,?_⟩
    ·exact ag
    ·have Z:=HS.out
     try simp only[bS]at Z
     rw[Z];exact U
    ·exact V
   ·iterate 8
     with_reducible refine st ?_
    with_reducible refine Lz (fun K hK=>?_)
    go_simp;refine(aO _ _ 3 102 a5.out rfl).mono ?_;rintro e w2 ⟨rfl,U,V⟩;with_reducible refine hK _ _ (ln ?_)
    refine⟨rfl,?_,?_,?_⟩
    ·exact ag
    ·have Z:=HS.out
     try simp only[bS]at Z
     rw[Z];exact U
    ·exact V
  rintro a4 w4 ⟨N,be,W⟩;refine⟨an.out.t N,be.congr fun p=>?_,G.out.trans W (fun _ _ e=>e)⟩;rw[aP HX.out,List.flatMap_append,List.flatMap_cons,List.flatMap_nil,List.append_nil];simp only[List.mem_append,gD]
  try simp only[or_assoc,or_comm,or_left_comm]
 ·rintro a' w' hA ⟨hL,hk⟩
  rw[List.take_length]at hL;exact hQ _ _ ((bd.m).t hA) hL hk
theorem oU{v:aV}{P:aC}(h:aF B w pb v P dh L)(a:Act)(b2:a.tmps.size=185)
 (h0:At a 0 (.pointer (some ⟨pb,0,none⟩)))(Q:Exit→Act→World→Prop)
 (hQ:∀a' w',aA (fun i=>i==3||i==5||(rg 14 65 i)) a a'→aF B w' pb v P dh (P.Q3.flatMap eI++L)→aB (fun k=>k=pb) w w'→Q .normal a' w'):
 (al Tryz.f54 [0]).wp Tryz.prog Q a w:=by
 have hs:=h.QL.Q3;obtain⟨A,c,hu,cp,b1,hl⟩:=hs;unfold top at b1;have cm:=h.lt;have cl:=h.base;have hq:w.cell? ⟨pb,5,none⟩=some v.Q3:=h.cell rfl;rw[hu]at hq;clear hu
 conv=>arg 2;whnf
 refine so (fun I w1=>aA (fun i=>i==14||i==15||i==16||i==17||i==18||i==19||i==20) a I∧At I 18 (.slice A P.Q3.length c)∧At I 19 (.int .i64 P.Q3.length)∧At I 20 (.int .i64 0)∧w1=w) ?_ ?_
 ·clear hl
  obtain⟨T,d⟩:=a;refine rl ?_
  iterate 7 with_reducible refine st ?_
  with_reducible refine ln ?_
  refine⟨rfl,ag,aq,aq,aq,rfl⟩
 rintro a0 w0 ⟨an,cb,b5,b3,rfl⟩;have be:a0.tmps.size=185:=an.size.trans b2;replace h0:=an.Q7 h0 rfl;refine ai P.Q3.length (fun i=>i==3||i==5||(rg 20 65 i)) (fun i=>i==3||i==5||(rg 22 64 i)) (fun k _ w'=>aF B w' pb v P dh ((P.Q3.take k).flatMap eI++L)∧aB (fun k=>k=pb) w0 w') (by omega) b3 b5 (by decide) rfl
  (by intro j;simp;omega) (by omega) (by decide) (fun k I a2 w hA hI=>hI) ⟨by simpa[List.take_zero]using h,aB.refl _ _⟩ ?_ ?_
 ·rintro n I wr bd hA b4 ⟨hL,hk⟩
  obtain⟨bl,off,rfl,bx,bc⟩:=hl (by omega);obtain⟨x,hx⟩:=ge bd;obtain⟨bt,bp,hc,C,u,ci⟩:=(dQ B) _ _ _ _ _ (hk.below (B:=B) (by omega) (fun _ hi e=>by omega)) bx (bc n x hx);have bb:=hh C;obtain⟨A_mapsx,y,rfl,a7,J,_⟩:=C;unfold top at J;have G:=hh u;obtain⟨A_rulesx,r,rfl,a5,H,_⟩:=u;unfold top at H;have q0:=hc.c0;have q1:=hc 1 _ rfl;have q2:=hc 2 _ rfl;have q3:=hc 3 _ rfl;have q4:=hc 4 _ rfl;have q5:=hc 5 _ rfl;have N:=hA.Q7 h0 rfl;have bj:=hA.Q7 cb rfl;have bf:I.tmps.size=185:=hA.size.trans be;have cf:=hk.size;have cc:bl<wr.heap.size:=by omega
  have HX:=hh hx;have HL:=hh hL;have HK:=hh hk;have cd:n≤c:=by omega
  have HA:=hh hA;clear hx hL hk hc hA bc;refine so (fun a2 w2=>aA (fun i=>i==22||i==23||i==3) I a2∧At a2 3 (.pointer (some ⟨wr.heap.size,0,none⟩))∧w2=wr.alloc (Obj.cells #[.int .i64 x.pos,.string x.name,.int .u64 x.QP,.bool x.stopped,.slice A_mapsx x.maps.length y,.slice A_rulesx x.QR.length r] 52)) ?_ ?_
  ·skip
   obtain⟨T,d⟩:=I;refine rl ?_
   iterate 4 with_reducible refine st ?_
   with_reducible refine ln ?_
   refine⟨rfl,ag,aq,rfl⟩
  rintro a2 wo ⟨U,O,X⟩;obtain⟨z,hz⟩:∃z,z=wr.heap.size:=⟨_,rfl⟩;rw[←hz]at O;have q:aN wo z 0 [.int .i64 x.pos,.string x.name,.int .u64 x.QP,.bool x.stopped,.slice A_mapsx x.maps.length y,.slice A_rulesx x.QR.length r]:=by rw[X,hz];exact aX _ _ _
  have Y:z<wo.heap.size:=by rw[X,hz];simp
  have ac:z≠pb:=by omega
  have W:Kz wr wo:=by rw[X];exact(aB.refl _ _).alloc _
  have ah:=hh (HL.out.new W);have ad:=hh (HK.out.trans W (fun _ _ h=>h.elim));have af:Hid (aB (fun k=>k=pb) wr wo):=W.mono (fun _ _ h=>h.elim);have N:=U.Q7 N rfl;have M:=U.size.trans bf;have S:Hid (aA (fun i=>i==3||i==5||(rg 22 64 i)) I a2):=U.m;clear X hz W HL HK U q0 q1 q2 q3 q4 q5;clear bj b4 hl;refine so (fun a' w'=>aA (fun i=>(rg 24 30 i)) a2 a'∧aF B w' pb v P dh (say (decide (x.QP<4)) x.pos 0++((P.Q3.take n).flatMap eI++L))∧aB (fun k=>k=pb) wo w') ?_ ?_
  ·skip
   clear S HX;have bo:=q.c0;have a9:=q 1 _ rfl;have bm:=q 2 _ rfl;have Z:=q 3 _ rfl;have a8:=q 4 _ rfl;have a6:=q 5 _ rfl;clear q;obtain⟨l,g⟩:∃b,b=decide (x.QP<4):=⟨_,rfl⟩;have R:decide ((x.QP:Int)<4)=l:=by rw[g];exact decide_eq_decide.2 (by omega)
   have HS:Hid (say (decide (x.QP<4)) x.pos 0=say (l) x.pos 0):=by rw[g];rfl
   clear g;have bu:=ah;obtain⟨T,d⟩:=a2;refine rl ?_
   iterate 6 with_reducible refine st ?_
   with_reducible refine Lz (fun K hK=>?_)
   go_simp;refine(aO _ _ 0 100 bu.out rfl).mono ?_;rintro e w2 ⟨rfl,bw,bz⟩;with_reducible refine hK _ _ (ln ?_)
   refine⟨rfl,?_,?_,?_⟩
   ·exact ag
   ·have hs:=HS.out
    try simp only[bS]at hs
    rw[hs];exact bw
   ·exact bz
  rintro a3 w3 ⟨D,V,E⟩;replace q:=q.keep E Y ac;replace Y:z<w3.heap.size:=Nat.lt_of_lt_of_le Y E.size;replace ah:=hh V;replace ad:=hh (ad.out.trans E (fun _ _ e=>e));replace af:=hh (af.out.trans E (fun _ _ e=>e));replace N:=D.Q7 N rfl;replace O:=D.Q7 O rfl;replace M:=D.size.trans M;replace S:Hid (aA (fun i=>i==3||i==5||(rg 22 64 i)) I a3):=S.out.t D;clear D V E;refine sr ah.out a3 M N O (q 5 _ rfl) (G.out.below (aK _ _ _) (af.out.below (B:=B) (by omega) (fun _ hi e=>by omega))) (hh fun w4 b0=>q.keep b0 Y ac) O _ (fun a4 w4 D V E=>?_);refine⟨S.out.t D,V.congr fun p=>?_,ad.out.trans E (fun _ _ e=>e)⟩;rw[aP HX.out,List.flatMap_append,List.flatMap_cons,List.flatMap_nil,List.append_nil];simp only[List.mem_append,eI]
  try simp only[or_assoc,or_comm,or_left_comm]
 ·rintro a' w' hA ⟨hL,hk⟩
  rw[List.take_length]at hL;exact hQ _ _ ((an.m).t hA) hL hk
theorem ue{v:aV}{P:aC}(h:aF B w pb v P dh L)(a:Act)(bf:a.tmps.size=185)
 (h0:At a 0 (.pointer (some ⟨pb,0,none⟩)))(Q:Exit→Act→World→Prop)
 (hQ:∀V w',aA (fun i=>i==7||(rg 66 83 i)) a V→aF B w' pb v P dh (P.QG.flatMap (fun x=>say (decide (x.QK<64)) x.pos 1)++L)→aB (fun k=>k=pb) w w'→Q .normal V w'):
 (al Tryz.f54 [1,0]).wp Tryz.prog Q a w:=by
 have hs:=h.QL.QG;obtain⟨A,c,hu,b5,be,hl⟩:=hs;unfold top at be;have b4:=h.lt;have b3:=h.base;have hq:w.cell? ⟨pb,7,none⟩=some v.QG:=h.cell rfl;rw[hu]at hq;clear hu
 conv=>arg 2;whnf
 refine so (fun u w1=>aA (fun i=>i==66||i==67||i==68||i==69||i==70||i==71||i==72) a u∧At u 70 (.slice A P.QG.length c)∧At u 71 (.int .i64 P.QG.length)∧At u 72 (.int .i64 0)∧w1=w) ?_ ?_
 ·clear hl
  obtain⟨T,d⟩:=a;refine rl ?_
  iterate 7 with_reducible refine st ?_
  with_reducible refine ln ?_
  refine⟨rfl,ag,aq,aq,aq,rfl⟩
 rintro a0 w0 ⟨J,bp,bo,bj,rfl⟩;have Z:a0.tmps.size=185:=J.size.trans bf;replace h0:=J.Q7 h0 rfl;refine ai P.QG.length (fun i=>i==7||(rg 72 83 i)) (fun i=>i==7||(rg 74 82 i)) (fun k _ w'=>aF B w' pb v P dh ((P.QG.take k).flatMap (fun x=>say (decide (x.QK<64)) x.pos 1)++L)∧aB (fun k=>k=pb) w0 w') (by omega) bj bo (by decide) rfl
  (by intro j;simp;omega) (by omega) (by decide) (fun k u I w E hI=>hI) ⟨by simpa[List.take_zero]using h,aB.refl _ _⟩ ?_ ?_
 ·rintro n u S Y E bm ⟨W,hk⟩
  obtain⟨bl,off,rfl,bb,X⟩:=hl (by omega);obtain⟨x,hx⟩:=ge Y;obtain⟨M,b1⟩:=(aK B _ _) _ _ _ _ _ (hk.below (B:=B) (by omega) (fun _ hi e=>by omega)) bb (X n x hx);have q0:=M.c0;have q1:=M 1 _ rfl;have q2:=M 2 _ rfl;have q3:=M 3 _ rfl;have q4:=M 4 _ rfl;have q5:=M 5 _ rfl;have ad:=E.Q7 h0 rfl;have af:=E.Q7 bp rfl;have ac:u.tmps.size=185:=E.size.trans Z;have bz:=hk.size;have bu:bl<S.heap.size:=by omega
  have HX:=hh hx;have HL:=hh W;have HK:=hh hk;have bw:n≤c:=by omega
  have HA:=hh E;clear hx W hk M E X;refine so (fun I w2=>aA (fun i=>i==74||i==75||i==7) u I∧At I 7 (.pointer (some ⟨S.heap.size,0,none⟩))∧w2=S.alloc (Obj.cells #[.int .i64 x.pos,.string x.name,.string x.QH,.string x.to,.int .u64 x.QK,.bool x.masked] 58)) ?_ ?_
  ·skip
   obtain⟨T,d⟩:=u;refine rl ?_
   iterate 4 with_reducible refine st ?_
   with_reducible refine ln ?_
   refine⟨rfl,ag,aq,rfl⟩
  rintro I wo ⟨y,bt,D⟩;obtain⟨z,hz⟩:∃z,z=S.heap.size:=⟨_,rfl⟩;rw[←hz]at bt;have q:aN wo z 0 [.int .i64 x.pos,.string x.name,.string x.QH,.string x.to,.int .u64 x.QK,.bool x.masked]:=by rw[D,hz];exact aX _ _ _
  have cb:z<wo.heap.size:=by rw[D,hz];simp
  have b0:z≠pb:=by omega
  have C:Kz S wo:=by rw[D];exact(aB.refl _ _).alloc _
  have a5:=hh (HL.out.new C);have a4:=hh (HK.out.trans C (fun _ _ h=>h.elim));have b2:Hid (aB (fun k=>k=pb) S wo):=C.mono (fun _ _ h=>h.elim);have ad:=y.Q7 ad rfl;have bx:=y.size.trans ac;have U:Hid (aA (fun i=>i==7||(rg 74 82 i)) u I):=y.m;clear D hz C HL HK y q0 q1 q2 q3 q4 q5;clear af bm hl;refine Code.wp_only (R:=fun V w'=>aA (fun i=>(rg 76 82 i)) I V∧aF B w' pb v P dh (say (decide (x.QK<64)) x.pos 1++((P.QG.take n).flatMap (fun x=>say (decide (x.QK<64)) x.pos 1)++L))∧aB (fun k=>k=pb) wo w') ?_ ?_
  ·skip
   clear U HX;have ah:=q.c0;have O:=q 1 _ rfl;have N:=q 2 _ rfl;have an:=q 3 _ rfl;have H:=q 4 _ rfl;have G:=q 5 _ rfl;clear q;obtain⟨l,g⟩:∃b,b=decide (x.QK<64):=⟨_,rfl⟩;have r:decide ((x.QK:Int)<64)=l:=by rw[g];exact decide_eq_decide.2 (by omega)
   have HS:Hid (say (decide (x.QK<64)) x.pos 1=say (l) x.pos 1):=by rw[g];rfl
   clear g;have a6:=a5;obtain⟨T,d⟩:=I;refine rl ?_
   iterate 6 with_reducible refine st ?_
   with_reducible refine Lz (fun K hK=>?_)
   go_simp;refine(aO _ _ 1 101 a6.out rfl).mono ?_;rintro e w2 ⟨rfl,a8,bc⟩;with_reducible refine hK _ _ (ln ?_)
   refine⟨rfl,?_,?_,?_⟩
   ·exact ag
   ·have hs:=HS.out
    try simp only[bS]at hs
    rw[hs];exact a8
   ·exact bc
  rintro a3 w3 ⟨a7,a9,bd⟩;refine⟨U.out.t a7,a9.congr fun p=>?_,a4.out.trans bd (fun _ _ e=>e)⟩;rw[aP HX.out,List.flatMap_append,List.flatMap_cons,List.flatMap_nil,List.append_nil];simp only[List.mem_append,List.mem_append]
  try simp only[or_assoc,or_comm,or_left_comm]
 ·rintro V w' E ⟨W,hk⟩
  rw[List.take_length]at W;exact hQ _ _ ((J.m).t E) W hk
theorem pO{v:aV}{P:aC}(h:aF B w pb v P dh L)(a:Act)(bc:a.tmps.size=185)
 (h0:At a 0 (.pointer (some ⟨pb,0,none⟩)))(Q:Exit→Act→World→Prop)
 (hQ:∀O w',aA (fun i=>i==11||(rg 128 147 i)) a O→aF B w' pb v P dh (P.QA.flatMap (fun x=>say (!decide (x.QH=x.to)) x.pos 3)++L)→aB (fun k=>k=pb) w w'→Q .normal O w'):
 (al Tryz.f54 [1,1,1,0]).wp Tryz.prog Q a w:=by
 have hs:=h.QL.QA;obtain⟨A,c,hu,b2,bb,hl⟩:=hs;unfold top at bb;have b1:=h.lt;have b0:=h.base;have hq:w.cell? ⟨pb,13,none⟩=some v.QA:=h.cell rfl;rw[hu]at hq;clear hu
 conv=>arg 2;whnf
 refine so (fun u w1=>aA (fun i=>i==128||i==129||i==130||i==131||i==132||i==133||i==134) a u∧At u 132 (.slice A P.QA.length c)∧At u 133 (.int .i64 P.QA.length)∧At u 134 (.int .i64 0)∧w1=w) ?_ ?_
 ·clear hl
  obtain⟨T,d⟩:=a;refine rl ?_
  iterate 7 with_reducible refine st ?_
  with_reducible refine ln ?_
  refine⟨rfl,ag,aq,aq,aq,rfl⟩
 rintro a0 w0 ⟨I,bj,bf,bd,rfl⟩;have W:a0.tmps.size=185:=I.size.trans bc;replace h0:=I.Q7 h0 rfl;refine ai P.QA.length (fun i=>i==11||(rg 134 147 i)) (fun i=>i==11||(rg 136 146 i)) (fun k _ w'=>aF B w' pb v P dh ((P.QA.take k).flatMap (fun x=>say (!decide (x.QH=x.to)) x.pos 3)++L)∧aB (fun k=>k=pb) w0 w') (by omega) bd bf (by decide) rfl
  (by intro j;simp;omega) (by omega) (by decide) (fun k u H w G hI=>hI) ⟨by simpa[List.take_zero]using h,aB.refl _ _⟩ ?_ ?_
 ·rintro n u M V G be ⟨S,hk⟩
  obtain⟨bl,off,rfl,a7,U⟩:=hl (by omega);obtain⟨x,hx⟩:=ge V;obtain⟨hc,bx⟩:=(aK B _ _) _ _ _ _ _ (hk.below (B:=B) (by omega) (fun _ hi e=>by omega)) a7 (U n x hx);have q0:=hc.c0;have q1:=hc 1 _ rfl;have q2:=hc 2 _ rfl;have Y:=G.Q7 h0 rfl;have Z:=G.Q7 bj rfl;have X:u.tmps.size=185:=G.size.trans W;have bu:=hk.size;have bo:bl<M.heap.size:=by omega
  have HX:=hh hx;have HL:=hh S;have HK:=hh hk;have bp:n≤c:=by omega
  have HA:=hh G;clear hx S hk hc G U;refine so (fun H w2=>aA (fun i=>i==136||i==137||i==11) u H∧At H 11 (.pointer (some ⟨M.heap.size,0,none⟩))∧w2=M.alloc (Obj.cells #[.int .i64 x.pos,.string x.QH,.string x.to] 68)) ?_ ?_
  ·skip
   obtain⟨T,d⟩:=u;refine rl ?_
   iterate 4 with_reducible refine st ?_
   with_reducible refine ln ?_
   refine⟨rfl,ag,aq,rfl⟩
  rintro H wo ⟨y,bm,D⟩;obtain⟨z,hz⟩:∃z,z=M.heap.size:=⟨_,rfl⟩;rw[←hz]at bm;have E:aN wo z 0 [.int .i64 x.pos,.string x.QH,.string x.to]:=by rw[D,hz];exact aX _ _ _
  have b3:z<wo.heap.size:=by rw[D,hz];simp
  have bw:z≠pb:=by omega
  have C:Kz M wo:=by rw[D];exact(aB.refl _ _).alloc _
  have ah:=hh (HL.out.new C);have af:=hh (HK.out.trans C (fun _ _ h=>h.elim));have bz:Hid (aB (fun k=>k=pb) M wo):=C.mono (fun _ _ h=>h.elim);have Y:=y.Q7 Y rfl;have bt:=y.size.trans X;have N:Hid (aA (fun i=>i==11||(rg 136 146 i)) u H):=y.m;clear D hz C HL HK y q0 q1 q2;clear Z be hl;refine Code.wp_only (R:=fun O w'=>aA (fun i=>(rg 138 146 i)) H O∧aF B w' pb v P dh (say (!decide (x.QH=x.to)) x.pos 3++((P.QA.take n).flatMap (fun x=>say (!decide (x.QH=x.to)) x.pos 3)++L))∧aB (fun k=>k=pb) wo w') ?_ ?_
  ·skip
   clear N HX;have ac:=E.c0;have J:=E 1 _ rfl;have ad:=E 2 _ rfl;clear E;obtain⟨l,g⟩:∃b,b=decide (x.QH=x.to):=⟨_,rfl⟩;have q:(x.QH.toList==x.to.toList)=l:=by rw[g];exact bv _ _
   have r:(x.QH.toList !=x.to.toList)=!l:=by rw[←q];rfl
   have HS:Hid (say (!decide (x.QH=x.to)) x.pos 3=say (!l) x.pos 3):=by rw[g];rfl
   clear g;have an:=ah;obtain⟨T,d⟩:=H;refine rl ?_
   iterate 8 with_reducible refine st ?_
   with_reducible refine Lz (fun K hK=>?_)
   go_simp;refine(aO _ _ 3 102 an.out rfl).mono ?_;rintro e w2 ⟨rfl,a5,a8⟩;with_reducible refine hK _ _ (ln ?_)
   refine⟨rfl,?_,?_,?_⟩
   ·exact ag
   ·have hs:=HS.out
    try simp only[bS]at hs
    rw[hs];exact a5
   ·exact a8
  rintro a3 w3 ⟨a4,a6,a9⟩;refine⟨N.out.t a4,a6.congr fun p=>?_,af.out.trans a9 (fun _ _ e=>e)⟩;rw[aP HX.out,List.flatMap_append,List.flatMap_cons,List.flatMap_nil,List.append_nil];simp only[List.mem_append,List.mem_append]
  try simp only[or_assoc,or_comm,or_left_comm]
 ·rintro O w' G ⟨S,hk⟩
  rw[List.take_length]at S;exact hQ _ _ ((I.m).t G) S hk
theorem qz{v:aV}{P:aC}(h:aF B w pb v P dh L)(a:Act)(b1:a.tmps.size=185)
 (h0:At a 0 (.pointer (some ⟨pb,0,none⟩)))(Q:Exit→Act→World→Prop)
 (hQ:∀a' w',aA (fun i=>i==13||(rg 148 184 i)) a a'→aF B w' pb v P dh (P.QC.flatMap fE++L)→aB (fun k=>k=pb) w w'→Q .normal a' w'):
 (al Tryz.f54 [1,1,1,1]).wp Tryz.prog Q a w:=by
 have V:=h.QL.QC;obtain⟨A,c,hu,cm,b0,hl⟩:=V;unfold top at b0;have cl:=h.lt;have ci:=h.base;have hq:w.cell? ⟨pb,8,none⟩=some v.QC:=h.cell rfl;rw[hu]at hq;clear hu
 conv=>arg 2;whnf
 refine so (fun a1 w1=>aA (fun i=>i==148||i==149||i==150||i==151||i==152||i==153||i==154) a a1∧At a1 152 (.slice A P.QC.length c)∧At a1 153 (.int .i64 P.QC.length)∧At a1 154 (.int .i64 0)∧w1=w) ?_ ?_
 ·clear hl
  obtain⟨T,d⟩:=a;refine rl ?_
  iterate 7 with_reducible refine st ?_
  with_reducible refine ln ?_
  refine⟨rfl,ag,aq,aq,aq,rfl⟩
 rintro a0 w0 ⟨be,b5,b4,b2,rfl⟩;have bt:a0.tmps.size=185:=be.size.trans b1;replace h0:=be.Q7 h0 rfl;refine ai P.QC.length (fun i=>i==13||(rg 154 184 i)) (fun i=>i==13||(rg 156 183 i)) (fun k _ w'=>aF B w' pb v P dh ((P.QC.take k).flatMap fE++L)∧aB (fun k=>k=pb) w0 w') (by omega) b2 b4 (by decide) rfl
  (by intro j;simp;omega) (by omega) (by decide) (fun k a1 a2 w hA hI=>hI) ⟨by simpa[List.take_zero]using h,aB.refl _ _⟩ ?_ ?_
 ·rintro n a1 wr bp hA b3 ⟨hL,hk⟩
  obtain⟨bl,off,rfl,bz,bo⟩:=hl (by omega);obtain⟨x,hx⟩:=ge bp;obtain⟨hc,cf⟩:=(aK B _ _) _ _ _ _ _ (hk.below (B:=B) (by omega) (fun _ hi e=>by omega)) bz (bo n x hx);have q0:=hc.c0;have q1:=hc 1 _ rfl;have q2:=hc 2 _ rfl;have q3:=hc 3 _ rfl;have q4:=hc 4 _ rfl;have q5:=hc 5 _ rfl;have a8:=hA.Q7 h0 rfl;have bx:=hA.Q7 b5 rfl;have bu:a1.tmps.size=185:=hA.size.trans bt;have cd:=hk.size;have cb:bl<wr.heap.size:=by omega
  have HX:=hh hx;have HL:=hh hL;have HK:=hh hk;have cc:n≤c:=by omega
  have HA:=hh hA;clear hx hL hk hc hA bo;refine so (fun a2 w2=>aA (fun i=>i==156||i==157||i==13) a1 a2∧At a2 13 (.pointer (some ⟨wr.heap.size,0,none⟩))∧w2=wr.alloc (Obj.cells #[.int .i64 x.pos,.string x.name,.string x.QH,.string x.to,.int .i64 x.how,.int .u64 x.depth] 65)) ?_ ?_
  ·skip
   obtain⟨T,d⟩:=a1;refine rl ?_
   iterate 4 with_reducible refine st ?_
   with_reducible refine ln ?_
   refine⟨rfl,ag,aq,rfl⟩
  rintro a2 wo ⟨an,bj,a7⟩;obtain⟨z,hz⟩:∃z,z=wr.heap.size:=⟨_,rfl⟩;rw[←hz]at bj;have G:aN wo z 0 [.int .i64 x.pos,.string x.name,.string x.QH,.string x.to,.int .i64 x.how,.int .u64 x.depth]:=by rw[a7,hz];exact aX _ _ _
  have bf:z<wo.heap.size:=by rw[a7,hz];simp
  have bw:z≠pb:=by omega
  have a6:Kz wr wo:=by rw[a7];exact(aB.refl _ _).alloc _
  have bd:=hh (HL.out.new a6);have bc:=hh (HK.out.trans a6 (fun _ _ h=>h.elim));have bm:Hid (aB (fun k=>k=pb) wr wo):=a6.mono (fun _ _ h=>h.elim);have a8:=an.Q7 a8 rfl;have bb:=an.size.trans bu;have Y:Hid (aA (fun i=>i==13||(rg 156 183 i)) a1 a2):=an.m;clear a7 hz a6 HL HK an q0 q1 q2 q3 q4 q5;clear bx b3 hl;refine so (fun a' w'=>aA (fun i=>(rg 158 174 i)) a2 a'∧aF B w' pb v P dh (say (decide (x.how=3)||decide (1≤x.depth)&&decide (x.depth≤64)) x.pos 2++((P.QC.take n).flatMap fE++L))∧aB (fun k=>k=pb) wo w') ?_ ?_
  ·skip
   clear Y HX;have ad:=G.c0;have W:=G 1 _ rfl;have S:=G 2 _ rfl;have a9:=G 3 _ rfl;have ac:=G 4 _ rfl;have O:=G 5 _ rfl;clear G;obtain⟨y,r⟩:∃b,b=decide (x.how=3):=⟨_,rfl⟩;have af:((x.how:Int)==3)=y:=by rw[r];exact eG _ _
   have ah:((x.how:Int)!=3)=!y:=by rw[r];exact iJ _ _
   obtain⟨C,u⟩:∃b,b=decide (1≤x.depth):=⟨_,rfl⟩;have X:decide (1≤(x.depth:Int))=C:=by rw[u];exact decide_eq_decide.2 (by omega)
   obtain⟨D,q⟩:∃b,b=decide (x.depth≤64):=⟨_,rfl⟩;have U:decide ((x.depth:Int)≤64)=D:=by rw[q];exact decide_eq_decide.2 (by omega)
   have HS:Hid (say (decide (x.how=3)||decide (1≤x.depth)&&decide (x.depth≤64)) x.pos 2=say ((y||(C&&D))) x.pos 2):=by rw[r,u,q];rfl
   clear r;clear u;clear q;have Z:=bd;have cp:=aJ;obtain⟨T,d⟩:=a2;refine rl ?_
   iterate 5 with_reducible refine st ?_
   cases y
   ·iterate 4
     with_reducible refine st ?_
    cases C
    ·iterate 7
      with_reducible refine st ?_
     with_reducible refine Lz (fun K hK=>?_)
     go_simp;refine(aO _ _ 2 113 Z.out rfl).mono ?_;rintro e w2 ⟨rfl,J,M⟩;with_reducible refine hK _ _ (ln ?_)
     refine⟨rfl,?_,?_,?_⟩
     ·exact ag
     ·have V:=HS.out
      try simp only[bS]at V
      rw[V];exact J
     ·exact M
    ·iterate 7
      with_reducible refine st ?_
     with_reducible refine Lz (fun K hK=>?_)
     go_simp;refine(aO _ _ 2 113 Z.out rfl).mono ?_;rintro e w2 ⟨rfl,J,M⟩;with_reducible refine hK _ _ (ln ?_)
     refine⟨rfl,?_,?_,?_⟩
     ·exact ag
     ·have V:=HS.out
      try simp only[bS]at V
      rw[V];exact J
     ·exact M
   ·iterate 11
     with_reducible refine st ?_
    with_reducible refine Lz (fun K hK=>?_)
    go_simp;refine(aO _ _ 2 113 Z.out rfl).mono ?_;rintro e w2 ⟨rfl,J,M⟩;with_reducible refine hK _ _ (ln ?_)
    refine⟨rfl,?_,?_,?_⟩
    ·exact ag
    ·have V:=HS.out
     try simp only[bS]at V
     rw[V];exact J
    ·exact M
  rintro a3 w3 ⟨I,a5,N⟩;replace G:=G.keep N bf bw;replace bf:z<w3.heap.size:=Nat.lt_of_lt_of_le bf N.size;replace bd:=hh a5;replace bc:=hh (bc.out.trans N (fun _ _ e=>e));replace bm:=hh (bm.out.trans N (fun _ _ e=>e));replace a8:=I.Q7 a8 rfl;replace bj:=I.Q7 bj rfl;replace bb:=I.size.trans bb;replace Y:Hid (aA (fun i=>i==13||(rg 156 183 i)) a1 a3):=Y.out.t I;clear I a5 N;refine Code.wp_only (R:=fun a' w'=>aA (fun i=>(rg 175 183 i)) a3 a'∧aF B w' pb v P dh (say (!decide (x.QH=x.to)) x.pos 3++(say (decide (x.how=3)||decide (1≤x.depth)&&decide (x.depth≤64)) x.pos 2++((P.QC.take n).flatMap fE++L)))∧aB (fun k=>k=pb) w3 w') ?_ ?_
  ·skip
   clear Y HX;have ad:=G.c0;have W:=G 1 _ rfl;have S:=G 2 _ rfl;have a9:=G 3 _ rfl;have ac:=G 4 _ rfl;have O:=G 5 _ rfl;clear G;obtain⟨l,g⟩:∃b,b=decide (x.QH=x.to):=⟨_,rfl⟩;have E:(x.QH.toList==x.to.toList)=l:=by rw[g];exact bv _ _
   have H:(x.QH.toList !=x.to.toList)=!l:=by rw[←E];rfl
   have HS:Hid (say (!decide (x.QH=x.to)) x.pos 3=say (!l) x.pos 3):=by rw[g];rfl
   clear g;have Z:=bd;obtain⟨T,d⟩:=a3;refine rl ?_
   iterate 8 with_reducible refine st ?_
   with_reducible refine Lz (fun K hK=>?_)
   go_simp;refine(aO _ _ 3 102 Z.out rfl).mono ?_;rintro e w2 ⟨rfl,J,M⟩;with_reducible refine hK _ _ (ln ?_)
   refine⟨rfl,?_,?_,?_⟩
   ·exact ag
   ·have V:=HS.out
    try simp only[bS]at V
    rw[V];exact J
   ·exact M
  rintro a4 w4 ⟨I,a5,N⟩;refine⟨Y.out.t I,a5.congr fun p=>?_,bc.out.trans N (fun _ _ e=>e)⟩;rw[aP HX.out,List.flatMap_append,List.flatMap_cons,List.flatMap_nil,List.append_nil];simp only[List.mem_append,fE]
  try simp only[or_assoc,or_comm,or_left_comm]
 ·rintro a' w' hA ⟨hL,hk⟩
  rw[List.take_length]at hL;exact hQ _ _ ((be.m).t hA) hL hk
def kt(c:Ck.b7)(y:ByteArray)(m:Ck.Map):Bool := !decide (m.of=c.over)||(decide (y=c.QH)||decide (y=c.to) && !m.write)
theorem uZ(w:World):(zeroValue 3).run Tryz.prog w=.ok (.int .i64 0) w:=by kernel_rfl
theorem tE{M:Nat}{cnt0 n0:Nat}(hB:B≤M)(hM:M<w.heap.size)(a:Act)(d8:a.tmps.size=85){zc:Nat}{c:Ck.b7}(HC:Hid (∀w0,aB (fun k=>k=M) w w0→aN w0 zc 0 [.int .i64 c.pos,.string c.name,.string c.QH,.string c.to,.bool c.shared,.string c.over,.int .i64 c.how,.int .u64 c.QK]))(h3:At a 3 (.pointer (some ⟨zc,0,none⟩)))(h5:At a 5 (.map (some M)))
 {zy:Nat}{y:aS}{A_rulesy:Option Addr}{J g:Nat}{A_mapsy:Option Addr}(HY:Hid (∀w0,aB (fun k=>k=M) w w0→aN w0 zy 0 [.int .i64 y.pos,.string y.name,.int .u64 y.QP,.bool y.stopped,.slice A_mapsy y.maps.length g,.slice A_rulesy y.QR.length J]))(h7:At a 7 (.pointer (some ⟨zy,0,none⟩)))(cv:y.name.size≤maxLen)
 (hs:aT B 5 cD w (.slice A_mapsy y.maps.length g) y.maps){n:Nat}{V:ByteArray→Nat}{p:ByteArray→Bool}{bm:ByteArray→Prop}(hn:n≤8796093022208)(hE:dA w M n (.int .i64 0) (fun s =>.int .i64 (V s)) p)(S:∀s,V s≤n∧(0<V s↔bm s))(Q:Exit→Act→World→Prop)
 (hQ:∀a' w' (n':Nat) (q:ByteArray→Nat) p',aA (fun i=>i==4||i==9||(rg 23 56 i)) a a'→n'≤n+y.maps.length→dA w' M n' (.int .i64 0) (fun s =>.int .i64 (q s)) p'→(∀s,q s≤n'∧(0<q s↔(bm s∨(s=y.name∧∃m∈y.maps,m.of=c.over))))→(∀m∈y.maps,kt c y.name m=true)→aB (fun k=>k=M) w w'→Q .normal a' w')
 (hR:∀a' w',At a' 4 (.bool false)→a'.tmps.size=85→a'.defers=a.defers→(∃m∈y.maps,kt c y.name m=false)→aB (fun k=>k=M) w w'→Q .ret a' w'):
 (al Tryz.f103 [1,1,0,1,0,0,1,1,0,0,1]).wp Tryz.prog Q a w:=by
 have fe:=hs;obtain⟨_,_,e,fc,d5,hl⟩:=hs
 cases e
 unfold top at d5;have hq:=HY.out _ (aB.refl _ _) 4 _ rfl
 conv=>arg 2;whnf
 refine so (fun I w1=>aA (fun i=>(rg 23 26 i)) a I∧At I 24 (.slice A_mapsy y.maps.length g)∧At I 25 (.int .i64 y.maps.length)∧At I 26 (.int .i64 0)∧w1=w) ?_ ?_
 ·clear hl hE S HC HY
  obtain⟨T,d⟩:=a;refine rl ?_
  iterate 4 with_reducible refine st ?_
  with_reducible refine ln ?_
  refine⟨rfl,ag,aq,aq,aq,rfl⟩
 rintro a0 w0 ⟨K,em,el,eb,rfl⟩;have cw:a0.tmps.size=85:=K.size.trans d8;replace h3:=K.Q7 h3 rfl;replace h5:=K.Q7 h5 rfl;replace h7:=K.Q7 h7 rfl;refine ai y.maps.length (fun i=>i==4||i==9||(rg 26 56 i)) (fun i=>i==4||i==9||(rg 28 55 i)) (fun k _ w'=>∃(n':Nat) (q:ByteArray→Nat) (p':ByteArray→Bool),n'≤n+k∧dA w' M n' (.int .i64 0) (fun s =>.int .i64 (q s)) p'∧(∀s,q s≤n'∧(0<q s↔(bm s∨(s=y.name∧∃m∈y.maps.take k,m.of=c.over))))∧(∀m∈y.maps.take k,kt c y.name m=true)∧aB (fun k=>k=M) w0 w') (by omega) eb el (by decide) rfl
  (by intro j;simp;omega) (by omega) (by decide) (fun k I U w O hI=>hI) ⟨n,V,p,by omega,hE,fun s=>⟨(S s).1,by rw[(S s).2];simp⟩,by simp,aB.refl _ _⟩ ?_ ?_
 ·rintro k I wr cs O eg ⟨n1,l,p1,cu,X,D,E,hk⟩
  obtain⟨bl,off,rfl,d3,bj⟩:=hl (by omega);obtain⟨m,hx⟩:=ge cs;obtain⟨hc,e0⟩:=(aK B _ _) _ _ _ _ _ (hk.below (B:=B) (by omega) (fun _ hi e=>by omega)) d3 (bj k m hx);have q0:=hc.c0;have q1:=hc 1 _ rfl;have q2:=hc 2 _ rfl;have q3:=hc 3 _ rfl;have q4:=hc 4 _ rfl;have c7:=O.Q7 h3 rfl;have c9:=O.Q7 h5 rfl;have dk:=O.Q7 h7 rfl;have dl:=O.Q7 em rfl;have cx:I.tmps.size=85:=O.size.trans cw;have ev:=hk.size;have er:bl<wr.heap.size:=by omega
  have es:k≤g:=by omega
  have cl:I.defers=a0.defers:=O.defers;have HX:=hh hx;have HK:=hh hk;have HA:=hh O;have HE:=hh X;have H:=hh D;have cd:=hh E;have e9:=hh hE;have eo:=hh S;have e8:=hh bj;have ct:m∈y.maps:=List.mem_of_getElem? hx;clear hx hk hc O bj X D E hE S hl;refine so (fun U w2=>aA (fun i=>i==28||i==29||i==9) I U∧At U 9 (.pointer (some ⟨wr.heap.size,0,none⟩))∧w2=wr.alloc (Obj.cells #[.int .i64 m.pos,.string m.of,.int .u64 m.Q7,.bool m.write,.bool m.exec] 71)) ?_ ?_
  ·clear HC HY
   obtain⟨T,d⟩:=I;refine rl ?_
   iterate 4 with_reducible refine st ?_
   with_reducible refine ln ?_
   refine⟨rfl,ag,aq,rfl⟩
  rintro U wo ⟨G,bz,Z⟩;obtain⟨z,hz⟩:∃z,z=wr.heap.size:=⟨_,rfl⟩;rw[←hz]at bz;have bx:aN wo z 0 [.int .i64 m.pos,.string m.of,.int .u64 m.Q7,.bool m.write,.bool m.exec]:=by rw[Z,hz];exact aX _ _ _
  have bu:Kz wr wo:=by rw[Z];exact(aB.refl _ _).alloc _
  have fj:z≠M:=by have:=HE.out.lt;omega
  have fl:z<wo.heap.size:=by rw[Z,hz];simp
  have Y:aB (fun k=>k=M) w0 wo:=HK.out.trans bu (fun _ _ h=>h.elim);have a6:=hh (HE.out.keep bu (fun h=>h));have xc:=HC.out _ Y;have xy:=HY.out _ Y;have ah:U.tmps.size=85:=G.size.trans cx;have c4:=G.Q7 c7 rfl;have c5:=G.Q7 c9 rfl;have c6:=G.Q7 dk rfl;have af:U.defers=a0.defers:=G.defers.trans cl;have b3:Hid (aA (fun i=>i==4||i==9||(rg 28 55 i)) I U):=G.m;have a7:=hh Y;clear Z hz bu HE HK G Y q0 q1 q2 q3 q4 dl eg c7 c9 dk;have e5:=bx 1 _ rfl;have en:=bx 3 _ rfl;have e6:=xc 5 _ rfl;have e1:=xc 2 _ rfl;have e7:=xc 3 _ rfl;have e2:=xy 1 _ rfl;clear xc xy bx;obtain⟨bo,W⟩:∃b,b=decide (m.of=c.over):=⟨_,rfl⟩;obtain⟨bf,a9⟩:∃b,b=decide (y.name=c.QH):=⟨_,rfl⟩;obtain⟨bt,bb⟩:∃b,b=decide (y.name=c.to):=⟨_,rfl⟩;obtain⟨bw,bc⟩:∃b,b=m.write:=⟨_,rfl⟩;rw[←bc]at en;have b0:(m.of.toList==c.over.toList)=bo:=by rw[W];exact bv _ _
  have ds:(m.of.toList !=c.over.toList)=!bo:=by rw[←b0];rfl
  have b1:(y.name.toList==c.QH.toList)=bf:=by rw[a9];exact bv _ _
  have d0:(y.name.toList !=c.QH.toList)=!bf:=by rw[←b1];rfl
  have b2:(y.name.toList==c.to.toList)=bt:=by rw[bb];exact bv _ _
  have d1:(y.name.toList !=c.to.toList)=!bt:=by rw[←b2];rfl
  have ac:Hid (kt c y.name m=(!bo||(bf||bt && !bw))):=by rw[W,a9,bb,bc];rfl
  have cb:=hh W;clear W a9 bb bc;refine wp_seq (wp_seq (Code.wp_only (R:=fun a3 w3=>aA (fun i=>(rg 30 34 i)) U a3∧At a3 34 (.bool (!bo))∧w3=wo) ?_ ?_))
  ·clear HC HY b1 d0 b2 d1
   obtain⟨T,d⟩:=U;refine rl ?_
   iterate 5 with_reducible refine st ?_
   with_reducible refine ln ?_
   refine⟨rfl,ag,aq,rfl⟩
  rintro a3 w3 ⟨A,c8,rfl⟩;have ci:=c8.eval (by rw[A.size,ah];decide);have an:=A.size.trans ah;have c1:=A.Q7 c4 rfl;have c2:=A.Q7 c5 rfl;have c3:=A.Q7 c6 rfl;have d9:=A.Q7 bz rfl;have cm:=A.defers.trans af;have L:Hid (aA (fun i=>i==4||i==9||(rg 28 55 i)) I a3):=b3.out.t A;clear A c4 c5 c6 bz b3 af
  cases bo
  ·refine wp_cond_true ci (wp_exit ?_)
   repeat with_reducible apply eh
   simp only[dg,if_true];have d6:m.of≠c.over:=of_decide_eq_false cb.out.symm;refine⟨L.out,n1,l,p1,by omega,a6.out,fun s=>⟨(H.out s).1,?_⟩,?_,a7.out⟩
   ·rw[(H.out s).2,aP HX.out]
    simp[d6]
   ·rw[aP HX.out]
    intro x hx
    rcases List.mem_append.1 hx with hx|hx
    ·exact cd.out x hx
    ·have e:x=m:=by simpa using hx
     subst e;rw[ac.out];rfl
  ·refine wp_cond_false ci (wp_skip ?_)
   with_reducible apply aY
   refine wp_seq (wp_seq (Code.wp_only (R:=fun a4 w4=>aA (fun i=>(rg 35 50 i)) a3 a4∧At a4 50 (.bool (!bf&&(!bt||bw)))∧w4=w3) ?_ ?_))
   ·clear HC HY b0 ds
    have ff:=aJ;obtain⟨T,d⟩:=a3;refine rl ?_
    cases bf<;>cases bt<;>cases bw
    all_goals
     iterate 16 with_reducible refine st ?_
     with_reducible refine ln ?_
     refine⟨rfl,?_,?_,rfl⟩
     ·exact ag
     ·try simp only[Bool.not_true,Bool.not_false,Bool.true_and,Bool.false_and,Bool.true_or,Bool.false_or,Bool.or_true,Bool.or_false,Bool.and_true,Bool.and_false]
      exact aq
   rintro a4 w4 ⟨C,di,rfl⟩;have a8:=di.eval (by rw[C.size,an];decide);have r:=C.size.trans an;have fm:=C.Q7 c1 rfl;have fp:=C.Q7 c2 rfl;have fr:=C.Q7 c3 rfl;have cp:=C.defers.trans cm;have b4:Hid (aA (fun i=>i==4||i==9||(rg 28 55 i)) I a4):=L.out.t C;clear C c1 c2 c3 d9 L;obtain⟨cf,N⟩:∃b,b=(!bf&&(!bt||bw)):=⟨_,rfl⟩;rw[←N]at a8;have ad:kt c y.name m=!cf:=by rw[ac.out,N];cases bf<;>cases bt<;>cases bw<;>rfl
   have b5:=hh ad;clear ad N b0 ds b1 d0 b2 d1
   cases cf
   ·refine wp_cond_false a8 (wp_skip ?_)
    with_reducible apply aY
    have d4:=(H.out y.name).1;obtain⟨cy,bd⟩:∃u,u=l y.name:=⟨_,rfl⟩;rw[←bd]at d4;have cc:=hh bd;clear bd;refine Code.wp_only (R:=fun a5 w5=>aA (fun i=>(rg 51 55 i)) a4 a5∧dA w5 M (n1+1) (.int .i64 0) (fun t=>if t=y.name then .int .i64 ((cy:Int)+1)else .int .i64 (l t)) (fun t=>decide (t=y.name)||p1 t)∧aB (fun k=>k=M) w4 w5) ?_ ?_
    ·clear HC HY
     obtain⟨T,d⟩:=a4;refine rl ?_
     iterate 3 with_reducible refine st ?_
     refine dA.lookup rfl a6.out rfl rfl Tryz.underlying224 uZ (At.eval (by exact aq) (by have:=r;simp at this⊢; omega)) (At.eval (by exact aq) (by have:=r;simp at this⊢; omega)) cv ?_;rw[←cc.out];simp only[Act.put];have fi:IntKind.i64.wrap ((cy:Int)+1)=(cy:Int)+1:=IntWalk.i64_in _ (by omega);with_reducible refine st ?_
     refine dA.update rfl a6.out (by unfold maxLen;omega) rfl rfl Tryz.underlying224 (At.eval (by exact aq) (by have:=r;simp at this⊢; omega)) (At.eval (by exact aq) (by have:=r;simp at this⊢; omega)) cv (v := .int .i64 ((cy:Int)+1)) (At.eval (by exact aq) (by have:=r;simp at this⊢; omega)) ?_;intro w5 be bp;with_reducible refine ln ?_
     refine⟨rfl,?_,be,bp⟩;simp only[Act.put]
     (repeat (first|with_reducible apply aA.put|with_reducible apply aA.set))<;>first|with_reducible exact aA.refl _ _|rfl
    rintro a5 w5 ⟨d2,be,bp⟩;have d7:m.of=c.over:=of_decide_eq_true cb.out.symm;refine⟨b4.out.t d2,n1+1,fun t=>if t=y.name then l y.name+1 else l t,fun t=>decide (t=y.name)||p1 t,by omega,?_,fun s=>⟨?_,?_⟩,?_,a7.out.trans bp (fun _ _ e=>e)⟩
    ·have e:(fun t=>if t=y.name then Value.int .i64 ((cy:Int)+1)else Value.int .i64 (l t))=fun t=>Value.int .i64 ((if t=y.name then l y.name+1 else l t:Nat):Int):=by
      funext t
      by_cases ht:t=y.name
      ·simp[ht,cc.out]
      ·simp[ht]
     rw[←e];exact be
    ·by_cases hsy:s=y.name
     ·simp only[hsy,if_true];have:=(H.out y.name).1;omega
     ·simp only[hsy,if_false];have:=(H.out s).1;omega
    ·rw[aP HX.out]
     by_cases hsy:s=y.name
     ·simp only[hsy,if_true]
      exact⟨fun _ =>.inr ⟨trivial,m,by simp,d7⟩,fun _=>by omega⟩
     ·simp only[hsy,if_false]
      rw[(H.out s).2];simp[hsy]
    ·rw[aP HX.out]
     intro x hx
     rcases List.mem_append.1 hx with hx|hx
     ·exact cd.out x hx
     ·have e:x=m:=by simpa using hx
      subst e;exact b5.out
   ·refine wp_cond_true a8 ?_
    refine so (fun a5 w5=>At a5 4 (.bool false)∧a5.tmps.size=85∧a5.defers=a4.defers∧w5=w4) ?_ ?_
    ·obtain⟨T,d⟩:=a4
     refine rl ?_;with_reducible refine st ?_;refine ln ?_
     refine⟨rfl,?_,?_,rfl,rfl⟩
     ·exact aq
     ·simpa using r
    rintro a5 w5 ⟨k4,k5,k6,rfl⟩;refine wp_ret ?_
    repeat with_reducible apply bG
    exact hR _ _ k4 k5 (k6.trans (cp.trans K.defers)) ⟨m,ct,b5.out⟩ a7.out
 ·rintro a' w' O ⟨n1,l,p1,cu,X,D,E,hk⟩
  rw[List.take_length]at D E;exact hQ _ _ _ _ _ ((K.m).t O) cu X D E hk
theorem vW(m:Ck.Map)(c:Ck.b7)(a:Nat)(w:World)(d:a<w.heap.size)(q:w.cell? ⟨a,5,none⟩=some (.string c.over)):
 Calls Tryz.prog 128 #[.agg #[.int .i64 m.pos,.string m.of,.int .u64 m.Q7,.bool m.write,.bool m.exec],.pointer (some ⟨a,0,none⟩)] w fun e w'=>e=.returned (.bool (decide (m.of=c.over)))∧Kz w w':=by
 have b:(m.of.toList==c.over.toList)=decide (m.of=c.over):=bv _ _
 go_enter Tryz.func128,Tryz.ntmps128
 go_wp2
 go_ret
 exact⟨rfl,(aB.refl _ _).alloc _⟩
theorem rn{A:Option Addr}{cc:Nat}{l:List Ck.Map}(hs:aT B 5 cD w (.slice A l.length cc) l)(hB:B≤w.heap.size)(c:Ck.b7)(S:Nat)(hz:S<w.heap.size)(q:w.cell? ⟨S,5,none⟩=some (.string c.over)):
 Calls Tryz.prog 147 #[.slice A l.length cc,.func (.func 128) #[] #[.pointer (some ⟨S,0,none⟩)]] w fun e w'=>(∃i:Int,e=.returned (.int .i64 i)∧(0≤i↔∃m∈l,m.of=c.over))∧Kz w w':=by
 obtain⟨_,_,e,bp,bc,hl⟩:=hs
 cases e
 unfold top at bc;refine az Tryz.func147 Tryz.ntmps147 rfl (by simp) fun a u r g=>?_
 have O:At a 0 (.slice A l.length cc):=g 0 _ rfl;have J:At a 1 (.func (.func 128) #[] #[.pointer (some ⟨S,0,none⟩)]):=g 1 _ rfl;clear g
 conv=>arg 2;whnf
 refine so (fun U w1=>aA (fun i=>i==4) a U∧w1=w) ?_ ?_
 ·clear hl
  obtain⟨T,d⟩:=a;refine rl ?_;with_reducible refine st ?_;refine ln ?_
  refine⟨rfl,ag,rfl⟩
 rintro U w1 ⟨b,rfl⟩;replace O:=b.Q7 O rfl;replace J:=b.Q7 J rfl;replace u:=b.size.trans u;replace r:=b.defers.trans r;clear b;refine wp_seq (wp_seq (Code.wp_only (R:=fun V w2=>aA (fun i=>i==6||i==7||i==8) U V∧At V 7 (.int .i64 l.length)∧At V 8 (.int .i64 0)∧w2=w1) ?_ ?_))
 ·clear hl
  obtain⟨T,d⟩:=U;refine rl ?_
  iterate 3 with_reducible refine st ?_
  with_reducible refine ln ?_
  refine⟨rfl,ag,aq,aq,rfl⟩
 rintro V w2 ⟨v,a7,a0,rfl⟩;replace O:=v.Q7 O rfl;replace J:=v.Q7 J rfl;replace u:=v.size.trans u;replace r:=v.defers.trans r;clear v;refine ai l.length (fun i=>i==4||i==5||(rg 8 18 i)) (fun i=>i==4||i==5||(rg 10 17 i)) (fun k _ w'=>(∀m∈l.take k,m.of≠c.over)∧Kz w2 w') (by omega) a0 a7 (by decide) rfl
  (by intro j;simp;omega) (by omega) (by decide) (fun k U V w b hI=>hI) ⟨by simp,aB.refl _ _⟩ ?_ ?_
 ·rintro k a3 wr bb b be ⟨D,hk⟩
  obtain⟨bl,off,rfl,a9,X⟩:=hl (by omega);obtain⟨m,hx⟩:=ge bb;obtain⟨Q,bo⟩:=(aK B _ _) _ _ _ _ _ (hk.below (B:=B) (by omega) (fun _ hi e=>e)) a9 (X k m hx);have q0:=Q.c0;have q1:=Q 1 _ rfl;have q2:=Q 2 _ rfl;have q3:=Q 3 _ rfl;have q4:=Q 4 _ rfl;have af:=b.Q7 O rfl;have ah:=b.Q7 J rfl;have E:=b.size.trans u;have C:=b.defers.trans r;have bm:=hk.size;have bf:bl<wr.heap.size:=by omega
  have bj:k≤cc:=by omega
  have L:=hh (vW m c S wr (by omega) ((hk.cell (p:=⟨S,5,none⟩) hz (fun h=>h)).trans q));have HX:=hh hx;have a8:=hh D;have HK:=hh hk;have HA:=hh b;clear hx D hk b Q X hl;refine so (fun W w4=>aA (fun i=>i==10||i==5) a3 W∧At W 5 (.int .i64 k)∧w4=wr) ?_ ?_
  ·obtain⟨T,d⟩:=a3
   refine rl ?_
   iterate 2 with_reducible refine st ?_
   with_reducible refine ln ?_
   refine⟨rfl,ag,aq,rfl⟩
  rintro W w4 ⟨n,bd,rfl⟩;have bu:=n.Q7 af rfl;have bw:=n.Q7 ah rfl;have ac:=n.size.trans E;have Y:=n.defers.trans C;refine so (fun a5 w5=>aA (fun i=>(rg 11 16 i)) W a5∧At a5 16 (.bool (decide (m.of=c.over)))∧Kz w4 w5) ?_ ?_
  ·clear af ah be n
   obtain⟨T,d⟩:=W;refine rl ?_
   iterate 5 with_reducible refine st ?_
   with_reducible refine Lz (fun K hK=>?_)
   go_simp;refine L.out.mono ?_;rintro e w5 ⟨rfl,I⟩;with_reducible refine hK _ _ (ln ?_)
   refine⟨rfl,ag,aq,I⟩
  rintro a5 w5 ⟨y,an,I⟩;have ad:=y.size.trans ac;have H:=an.eval (by omega);have bt:=y.Q7 bd rfl
  by_cases hov:m.of=c.over
  ·rw[decide_eq_true hov]at H
   refine wp_cond_true H ?_;refine so (fun G w6=>At G 4 (.int .i64 k)∧G.tmps.size=19∧G.defers=[]∧w6=w5) ?_ ?_
   ·have Z:=y.defers.trans Y
    clear y;obtain⟨T,d⟩:=a5;refine rl ?_
    iterate 2 with_reducible refine st ?_
    with_reducible refine ln ?_
    refine⟨rfl,?_,by simpa using ad,Z,rfl⟩;exact aq
   rintro G w6 ⟨h4,N,M,rfl⟩;refine wp_ret ?_
   repeat (first|with_reducible apply b8|with_reducible apply bG)
   refine b9 (t:=4) rfl h4 (by rw[N];decide) M ⟨⟨_,rfl,⟨fun _=>⟨m,List.mem_of_getElem? HX.out,hov⟩,fun _=>by omega⟩⟩,HK.out.trans I (fun _ _ e=>e)⟩
  ·rw[decide_eq_false hov]at H
   refine wp_cond_false H (wp_skip ?_);refine⟨(n.m).t y,fun x hx=>?_,HK.out.trans I (fun _ _ e=>e)⟩;rw[aP HX.out]at hx
   rcases List.mem_append.1 hx with hx|hx
   ·exact a8.out x hx
   ·have e:x=m:=by simpa using hx
    subst e;exact hov
 ·rintro a3 w3 b ⟨D,hk⟩
  rw[List.take_length]at D;have E:=b.size.trans u;have C:=b.defers.trans r;clear b O J a0 a7 hl;show Code.wp _ _ _ _ _;refine so (fun G w6=>At G 4 (.int .i64 (-1))∧G.tmps.size=19∧G.defers=[]∧w6=w3) ?_ ?_
  ·obtain⟨T,d⟩:=a3
   refine rl ?_;with_reducible refine st ?_;refine ln ?_
   refine⟨rfl,?_,by simpa using E,C,rfl⟩;exact aq
  rintro G w6 ⟨h4,N,M,rfl⟩;refine wp_ret (b9 (t:=4) rfl h4 (by rw[N];decide) M ⟨⟨_,rfl,⟨fun h=>by omega,fun⟨m,J,h2⟩=>absurd h2 (D m J)⟩⟩,hk⟩)
theorem nY{A:Option Addr}{b:Nat}{l:List Ck.Map}(p:aT B 5 cD w (.slice A l.length b) l)(n:B≤w.heap.size)(c:Ck.b7)(a:Nat)(r:a<w.heap.size)(q:w.cell? ⟨a,5,none⟩=some (.string c.over)):
 Calls Tryz.prog 127 #[.slice A l.length b,.func (.func 128) #[] #[.pointer (some ⟨a,0,none⟩)]] w fun e w'=>e=.returned (.bool (l.any fun m=>decide (m.of=c.over)))∧Kz w w':=by
 go_enter Tryz.func127,Tryz.ntmps127
 go_wp2_with fail
 refine(rn p n c a r q).mono ?_;rintro e w' ⟨⟨i,rfl,d⟩,hk⟩;have g:=hh d;have h:=hh hk;clear d hk
 go_wp2
 go_ret
 refine⟨?_,h.out⟩;have j:decide (0≤i)=l.any fun m=>decide (m.of=c.over):=by
  rw[Bool.eq_iff_iff,decide_eq_true_eq,g.out,List.any_eq_true];simp
 simp[←j]
theorem kJ{P:aC}{c:Ck.b7}:dY P c=((P.Q3.all fun x=>x.maps.all fun m=>kt c x.name m)&&(P.Q4.all fun x =>!x.maps.any fun m=>decide (m.of=c.over))&&(P.Q3.any fun x=>decide (x.name=c.QH)&&x.maps.any fun m=>decide (m.of=c.over))&&(P.Q3.any fun x=>decide (x.name=c.to)&&x.maps.any fun m=>decide (m.of=c.over))):=by
 have e:(fun x:Ck.bE=>x.maps.all fun m =>!decide (m.of=c.over))=fun x =>!x.maps.any fun m=>decide (m.of=c.over):=by
  funext x
  rw[List.not_any_eq_all_not]
 unfold dY;rw[e];rfl
def qW(l:List aS)(c:Ck.b7)(s:ByteArray):Prop:=∃x∈l,x.name=s∧∃m∈x.maps,m.of=c.over
theorem sa{l:List aS}{c:Ck.b7}{s:ByteArray}:qW l c s↔(l.any fun x=>decide (x.name=s)&&x.maps.any fun m=>decide (m.of=c.over))=true:=by
 simp[qW,List.any_eq_true]
theorem rE{v:aV}{P:aC}{W:Int→Int}(h:aF B w pb v P W L){c:Ck.b7}(C:c.Ok):
 Calls Tryz.prog 103 #[.pointer (some ⟨pb,0,none⟩),.agg #[.int .i64 c.pos,.string c.name,.string c.QH,.string c.to,.bool c.shared,.string c.over,.int .i64 c.how,.int .u64 c.QK]] w fun e w'=>e=.returned (.bool (dY P c))∧Kz w w':=by
 have gl:=h.lt;have gd:=h.base;have fx:=@run_makeMap Tryz.prog;refine az Tryz.func103 Tryz.ntmps103 rfl (by simp) fun a bp bc N=>?_
 have h0:At a 0 (.pointer (some ⟨pb,0,none⟩)):=N 0 _ rfl;have h1:At a 1 (.agg #[.int .i64 c.pos,.string c.name,.string c.QH,.string c.to,.bool c.shared,.string c.over,.int .i64 c.how,.int .u64 c.QK]):=N 1 _ rfl;clear N
 conv=>arg 2;whnf
 refine so (fun a1 w1=>aA (fun i=>i==3||i==4) a a1∧At a1 3 (.pointer (some ⟨w.heap.size,0,none⟩))∧w1=w.alloc (.cells #[.int .i64 c.pos,.string c.name,.string c.QH,.string c.to,.bool c.shared,.string c.over,.int .i64 c.how,.int .u64 c.QK] 55)) ?_ ?_
 ·clear C
  obtain⟨T,d⟩:=a;refine rl ?_
  iterate 2 with_reducible refine st ?_
  with_reducible refine ln ?_
  refine⟨rfl,ag,aq,rfl⟩
 rintro a1 w1 ⟨b2,h3,cb⟩;have c6:Kz w w1:=by rw[cb];exact(aB.refl _ _).alloc _
 obtain⟨U,ci⟩:∃z,z=w.heap.size:=⟨_,rfl⟩;rw[←ci]at h3;have c1:aN w1 U 0 [.int .i64 c.pos,.string c.name,.string c.QH,.string c.to,.bool c.shared,.string c.over,.int .i64 c.how,.int .u64 c.QK]:=by rw[cb,ci];exact aX _ _ _
 have e0:U<w1.heap.size:=by rw[cb,ci];simp
 replace h0:=b2.Q7 h0 rfl;replace bp:=b2.size.trans bp;replace bc:=b2.defers.trans bc;clear b2 cb h1;refine so (fun a2 w2=>aA (fun i=>i==12||i==5) a1 a2∧At a2 5 (.map (some w1.heap.size))∧w2=w1.alloc (.map #[] 0)) ?_ ?_
 ·clear C c1
  obtain⟨T,d⟩:=a1;refine rl ?_
  iterate 2 with_reducible refine st ?_
  with_reducible refine ln ?_
  refine⟨rfl,ag,aq,rfl⟩
 rintro a2 w2 ⟨ac,h5,dl⟩;have bj:Kz w1 w2:=by rw[dl];exact(aB.refl _ _).alloc _
 obtain⟨M,hM⟩:∃z,z=w1.heap.size:=⟨_,rfl⟩;rw[←hM]at h5;have ah:dA w2 M 0 (.int .i64 0) (fun _ =>.int .i64 0) (fun _=>false):=dA.new _ _ _ (by rw[dl,hM];exact heap_alloc_new _ _);have d6:M≠U:=by omega
 have gg:w.heap.size≤M:=by have:=c6.size;omega
 have gf:M<w2.heap.size:=ah.lt;have c9:Kz w w2:=c6.trans bj (fun _ _ h=>h);have HC:Hid (∀w0,aB (fun k=>k=M) w2 w0→aN w0 U 0 [.int .i64 c.pos,.string c.name,.string c.QH,.string c.to,.bool c.shared,.string c.over,.int .i64 c.how,.int .u64 c.QK]):=fun w0 hk=>(c1.keep bj e0 (fun h=>h)).keep hk (by have:=bj.size;omega) (fun e=>d6 e.symm)
 have an:=h.new c9;replace h0:=ac.Q7 h0 rfl;replace h3:=ac.Q7 h3 rfl;replace bp:=ac.size.trans bp;replace bc:=ac.defers.trans bc;have d1:=hh c9;have fm:B≤M:=by omega
 have gb:B≤w2.heap.size:=by omega
 have f8:U<w2.heap.size:=by have:=bj.size;omega
 have fz:pb≠M:=by omega
 clear ac dl hM fx c6 bj c9 h c1 ci e0 d6;obtain⟨A,cc,hu,el,b5,hl⟩:=an.QL.Q3;unfold top at b5;have hq:w2.cell? ⟨pb,5,none⟩=some v.Q3:=an.cell rfl;rw[hu]at hq;clear hu;refine wp_seq (wp_seq (Code.wp_only (R:=fun a3 w3=>aA (fun i=>(rg 13 19 i)) a2 a3∧At a3 17 (.slice A P.Q3.length cc)∧At a3 18 (.int .i64 P.Q3.length)∧At a3 19 (.int .i64 0)∧w3=w2) ?_ ?_))
 ·clear hl ah HC C
  obtain⟨T,d⟩:=a2;refine rl ?_
  iterate 7 with_reducible refine st ?_
  with_reducible refine ln ?_
  refine⟨rfl,ag,aq,aq,aq,rfl⟩
 rintro a3 w3 ⟨ad,b0,bz,bx,rfl⟩;have i0:=ad.Q7 h0 rfl;have i3:=ad.Q7 h3 rfl;have i5:=ad.Q7 h5 rfl;have cu:=ad.size.trans bp;have cp:=ad.defers.trans bc;clear hq;refine ai P.Q3.length (fun i=>i==4||i==7||i==9||(rg 19 57 i)) (fun i=>i==4||i==7||i==9||(rg 21 56 i)) (fun k _ w'=>∃(n:Nat) (I:ByteArray→Nat) (p:ByteArray→Bool),n≤k*2097152∧dA w' M n (.int .i64 0) (fun s =>.int .i64 (I s)) p∧(∀s,I s≤n∧(0<I s↔qW (P.Q3.take k) c s))∧(∀x∈P.Q3.take k,∀m∈x.maps,kt c x.name m=true)∧aB (fun k=>k=M) w3 w') (by omega) bx bz (by decide) rfl
  (by intro j;simp;omega) (by omega) (by decide) (fun k a1 a2 w G hI=>hI) ⟨0,fun _=>0,fun _=>false,by omega,ah,fun s=>⟨Nat.le_refl _,by simp[qW]⟩,by simp,aB.refl _ _⟩ ?_ ?_
 ·rintro k a4 Z bm G e7 ⟨n,I,p,hn,hE,X,l,hk⟩
  obtain⟨bl,off,rfl,cy,bb⟩:=hl (by omega);obtain⟨x,hx⟩:=ge bm;obtain⟨u1,u2,O,bo,f2,cw⟩:=(dQ B) _ _ _ _ _ (hk.below (B:=B) (by omega) (fun _ hi e=>by omega)) cy (bb k x hx);have cx:=hh bo;obtain⟨A_mapsx,g,rfl,fy,di,_⟩:=bo;obtain⟨A_rulesx,u,rfl,_,_,_⟩:=f2;unfold top at di;have q0:=O.c0;have q1:=O 1 _ rfl;have q2:=O 2 _ rfl;have q3:=O 3 _ rfl;have q4:=O 4 _ rfl;have q5:=O 5 _ rfl;have f6:=G.Q7 i0 rfl;have cl:=G.Q7 i3 rfl;have f7:=G.Q7 i5 rfl;have cv:=G.Q7 b0 rfl;have bu:=G.size.trans cu;have bd:=G.defers.trans cp;have ev:=hk.size;have d9:bl<Z.heap.size:=by omega
  have em:k≤cc:=by omega
  have HX:=hh hx;have HK:=hh hk;have HA:=hh G;have HE:=hh hE;have b1:=hh X;have HG:=hh l;have go:n≤4398046511104:=by omega
  clear hx hk O G bb hE X l hl ah;refine so (fun a5 w5=>aA (fun i=>i==21||i==22||i==7) a4 a5∧At a5 7 (.pointer (some ⟨Z.heap.size,0,none⟩))∧w5=Z.alloc (Obj.cells #[.int .i64 x.pos,.string x.name,.int .u64 x.QP,.bool x.stopped,.slice A_mapsx x.maps.length g,.slice A_rulesx x.QR.length u] 52)) ?_ ?_
  ·clear HC C
   obtain⟨T,d⟩:=a4;refine rl ?_
   iterate 4 with_reducible refine st ?_
   with_reducible refine ln ?_
   refine⟨rfl,ag,aq,rfl⟩
  rintro a5 wo ⟨q,e5,E⟩;obtain⟨z,hz⟩:∃z,z=Z.heap.size:=⟨_,rfl⟩;rw[←hz]at e5;have cd:aN wo z 0 [.int .i64 x.pos,.string x.name,.int .u64 x.QP,.bool x.stopped,.slice A_mapsx x.maps.length g,.slice A_rulesx x.QR.length u]:=by rw[E,hz];exact aX _ _ _
  have r:Kz Z wo:=by rw[E];exact(aB.refl _ _).alloc _
  have f4:z≠M:=by have:=HE.out.lt;omega
  have e1:z<wo.heap.size:=by rw[E,hz];simp
  have b4:aB (fun k=>k=M) w3 wo:=HK.out.trans r (fun _ _ h=>h.elim);have er:=b4.size;have es:=r.size;have S:=q.size.trans bu;have Q:=q.defers.trans bd;refine tE (cnt0:=0) (n0:=0) fm (by omega) a5 S (hh fun w0 c5=>HC.out w0 (b4.trans c5 (fun _ _ e=>e))) (q.Q7 cl rfl) (q.Q7 f7 rfl) (hh fun w0 c5=>cd.keep c5 e1 f4) e5 (by have:=cw.2.2;unfold ae at this;unfold maxLen;omega) (cx.out.below (aK _ _ _) (r.below (B:=B) (by omega) (fun _ _ e=>e))) (by omega) (HE.out.keep r (fun e=>e)) b1.out _ (fun a6 w6 n6 d3 p6 J gn fp cm fs c7=>?_) (fun a6 w6 h4 f0 fr D c7=>?_)
  ·refine⟨(q.m).t J,n6,d3,p6,by omega,fp,fun s=>⟨(cm s).1,?_⟩,?_,b4.trans c7 (fun _ _ e=>e)⟩
   ·rw[(cm s).2,aP HX.out]
    simp only[qW,List.mem_append,List.mem_singleton];constructor
    ·rintro(⟨y,H,h1,h2⟩|⟨rfl,h2⟩)
     ·exact⟨y,.inl H,h1,h2⟩
     ·exact⟨x,.inr rfl,rfl,h2⟩
    ·rintro⟨y,H|rfl,h1,h2⟩
     ·exact .inl ⟨y,H,h1,h2⟩
     ·exact .inr ⟨h1.symm,h2⟩
   ·rw[aP HX.out]
    intro y H
    rcases List.mem_append.1 H with H|H
    ·exact HG.out y H
    ·have e:y=x:=by simpa using H
     subst e;exact fs
  ·repeat (first|with_reducible apply b8|with_reducible apply bG)
   refine b9 (t:=4) rfl h4 (by rw[f0];decide) (fr.trans Q) ⟨?_,d1.out.trans (b4.trans c7 (fun _ _ e=>e)) (fun i hi e=>by omega)⟩;obtain⟨m,hm,hb⟩:=D;have e:dY P c=false:=by
    rw[kJ,Bool.eq_false_iff];intro hh;simp only[Bool.and_eq_true,List.all_eq_true]at hh;have:=hh.1.1.1 x (List.mem_of_getElem? HX.out) m hm;rw[hb]at this
    cases this
   rw[e]
 ·rintro a4 w4 V ⟨n,I,p,hn,hE,X,l,hk⟩
  rw[List.take_length]at X l;have j0:=V.Q7 i0 rfl;have j3:=V.Q7 i3 rfl;have j5:=V.Q7 i5 rfl;have bu:=V.size.trans cu;have bd:=V.defers.trans cp;have ev:=hk.size;have d5:Kz w w4:=d1.out.trans hk (fun i hi e=>by omega);have HE:=hh hE;have b1:=hh X;have HG:=hh l;have HK:=hh hk;have d0:=hh d5;have xc:=(HC.out w4 hk) 5 _ rfl;have x2:=(HC.out w4 hk) 2 _ rfl;have x3:=(HC.out w4 hk) 3 _ rfl;clear hE X l V b0 bz bx i0 i3 i5 hl ah el b5 A cc;with_reducible apply aY
  obtain⟨A,cc,hu,el,b5,hl⟩:=an.QL.Q4;unfold top at b5;have hq:w4.cell? ⟨pb,3,none⟩=some v.Q4:=(hk.cell (p:=⟨pb,3,none⟩) (by have:=an.lt;omega) fz).trans (an.cell rfl);rw[hu]at hq;clear hu hk d5;refine wp_seq (wp_seq (Code.wp_only (R:=fun a5 w5=>aA (fun i=>(rg 58 64 i)) a4 a5∧At a5 62 (.slice A P.Q4.length cc)∧At a5 63 (.int .i64 P.Q4.length)∧At a5 64 (.int .i64 0)∧w5=w4) ?_ ?_))
  ·clear hl HC C
   obtain⟨T,d⟩:=a4;refine rl ?_
   iterate 7 with_reducible refine st ?_
   with_reducible refine ln ?_
   refine⟨rfl,ag,aq,aq,aq,rfl⟩
  rintro a5 w5 ⟨q,b0,bz,bx,rfl⟩;have l0:=q.Q7 j0 rfl;have l3:=q.Q7 j3 rfl;have l5:=q.Q7 j5 rfl;have S:=q.size.trans bu;have Q:=q.defers.trans bd;clear hq;refine ai P.Q4.length (fun i=>i==4||i==11||(rg 64 72 i)) (fun i=>i==4||i==11||(rg 66 71 i)) (fun k _ w'=>(∀x∈P.Q4.take k,(x.maps.any fun m=>decide (m.of=c.over))=false)∧Kz w5 w') (by omega) bx bz (by decide) rfl
   (by intro j;simp;omega) (by omega) (by decide) (fun k a1 a2 w G hI=>hI) ⟨by simp,aB.refl _ _⟩ ?_ ?_
  ·rintro k a6 Z bm G e7 ⟨Y,hk⟩
   obtain⟨bl,off,rfl,cy,bb⟩:=hl (by omega);obtain⟨x,hx⟩:=ge bm;obtain⟨u1,O,bo,cw⟩:=(eT B) _ _ _ _ _ ((HK.out.trans hk (fun _ _ h=>h.elim)).below (B:=B) (by omega) (fun _ hi e=>by omega)) cy (bb k x hx);have cx:=hh bo;obtain⟨A_mapsx,g,rfl,fy,di,_⟩:=bo;unfold top at di;have q0:=O.c0;have q1:=O 1 _ rfl;have q2:=O 2 _ rfl;have q3:=O 3 _ rfl;have q4:=O 4 _ rfl;have f6:=G.Q7 l0 rfl;have cl:=G.Q7 l3 rfl;have cv:=G.Q7 b0 rfl;have bw:=G.size.trans S;have be:=G.defers.trans Q;have es:=hk.size;have d9:bl<Z.heap.size:=by omega
   have em:k≤cc:=by omega
   have f5:U<Z.heap.size:=by omega
   have XC:=hh ((hk.cell (p:=⟨U,5,none⟩) (by show U<_;omega) (fun h=>h)).trans xc);have HX:=hh hx;have ff:=hh hk;have fi:=hh Y;clear hx hk O bb Y hl xc x2 x3;refine so (fun a7 w7=>aA (fun i=>i==66||i==67||i==11) a6 a7∧At a7 11 (.pointer (some ⟨Z.heap.size,0,none⟩))∧w7=Z.alloc (Obj.cells #[.int .i64 x.pos,.string x.name,.int .u64 x.Q7,.int .u64 x.size,.slice A_mapsx x.maps.length g] 45)) ?_ ?_
   ·clear HC C
    obtain⟨T,d⟩:=a6;refine rl ?_
    iterate 4 with_reducible refine st ?_
    with_reducible refine ln ?_
    refine⟨rfl,ag,aq,rfl⟩
   rintro a7 wo ⟨af,e2,E⟩;obtain⟨z,hz⟩:∃z,z=Z.heap.size:=⟨_,rfl⟩;rw[←hz]at e2;have cd:aN wo z 0 [.int .i64 x.pos,.string x.name,.int .u64 x.Q7,.int .u64 x.size,.slice A_mapsx x.maps.length g]:=by rw[E,hz];exact aX _ _ _
   have r:Kz Z wo:=by rw[E];exact(aB.refl _ _).alloc _
   have er:=r.size;have q4:=cd 4 _ rfl;have e1:z<wo.heap.size:=by rw[E,hz];simp
   have en:=af.size.trans bw;have eb:=af.defers.trans be;have gr:=af.Q7 cl rfl;have a0:=hh (nY (cx.out.below (aK _ _ _) (r.below (B:=B) (by omega) (fun _ _ e=>e))) (by omega) c U (by omega) ((r.cell (p:=⟨U,5,none⟩) f5 (fun h=>h)).trans XC.out));have fe:=hh r;clear r E cd q0 q1 q2 q3 cv e7 cl hz;obtain⟨d2,D⟩:∃b,b=(x.maps.any fun m=>decide (m.of=c.over)):=⟨_,rfl⟩;rw[←D]at a0;have HB:=hh D;clear D;refine so (fun a8 w8=>aA (fun i=>(rg 68 71 i)) a7 a8∧At a8 71 (.bool d2)∧Kz wo w8) ?_ ?_
   ·clear HC C af
    obtain⟨T,d⟩:=a7;refine rl ?_
    iterate 3 with_reducible refine st ?_
    with_reducible refine Lz (fun K hK=>?_)
    go_simp;refine a0.out.mono ?_;rintro e w8 ⟨rfl,c8⟩;with_reducible refine hK _ _ (ln ?_)
    refine⟨rfl,ag,aq,c8⟩
   rintro a8 w8 ⟨b3,e6,c8⟩;have eo:=b3.size.trans en;have eg:=b3.defers.trans eb;have d4:=e6.eval (by omega);have cs:Kz w5 w8:=(ff.out.trans fe.out (fun _ _ h=>h)).trans c8 (fun _ _ h=>h)
   cases d2
   ·refine wp_cond_false d4 (wp_skip ?_)
    refine⟨(af.m).t b3,fun y H=>?_,cs⟩;rw[aP HX.out]at H
    rcases List.mem_append.1 H with H|H
    ·exact fi.out y H
    ·have e:y=x:=by simpa using H
     subst e;exact HB.out.symm
   ·refine wp_cond_true d4 ?_
    refine so (fun a9 w9=>At a9 4 (.bool false)∧a9.tmps.size=85∧a9.defers=[]∧w9=w8) ?_ ?_
    ·clear b3
     obtain⟨T,d⟩:=a8;refine rl ?_;with_reducible refine st ?_;refine ln ?_
     refine⟨rfl,?_,by simpa using eo,eg,rfl⟩;exact aq
    rintro a9 w9 ⟨h4,dk,c4,rfl⟩;refine wp_ret ?_
    repeat (first|with_reducible apply b8|with_reducible apply bG)
    refine b9 (t:=4) rfl h4 (by rw[dk];decide) c4 ⟨?_,d0.out.trans cs (fun _ _ h=>h)⟩;have e:dY P c=false:=by
     rw[kJ,Bool.eq_false_iff];intro hh;simp only[Bool.and_eq_true,List.all_eq_true]at hh;have:=hh.1.1.2 x (List.mem_of_getElem? HX.out);rw[←HB.out]at this
     cases this
    rw[e]
  ·rintro a6 w6 J ⟨Y,hk⟩
   rw[List.take_length]at Y;have k3:=J.Q7 l3 rfl;have k5:=J.Q7 l5 rfl;have bw:=J.size.trans S;have be:=J.defers.trans Q;have y2:=(hk.cell (p:=⟨U,2,none⟩) (by show U<_;omega) (fun h=>h)).trans x2;have y3:=(hk.cell (p:=⟨U,3,none⟩) (by show U<_;omega) (fun h=>h)).trans x3;have ds:=hh (HE.out.keep hk (fun h=>h));have fc:=hh hk;have f1:c.QH.size≤maxLen:=by have:=C;unfold Ck.b7.Ok ae at this;unfold maxLen;omega
   have f3:c.to.size≤maxLen:=by have:=C;unfold Ck.b7.Ok ae at this;unfold maxLen;omega
   obtain⟨cf,c2⟩:∃n,n=I c.QH:=⟨_,rfl⟩;obtain⟨ct,c3⟩:∃n,n=I c.to:=⟨_,rfl⟩;obtain⟨bf,fj⟩:∃b,decide (0<cf)=b:=⟨_,rfl⟩;obtain⟨bt,fl⟩:∃b,decide (0<ct)=b:=⟨_,rfl⟩;have d7:bf=(P.Q3.any fun x=>decide (x.name=c.QH)&&x.maps.any fun m=>decide (m.of=c.over)):=by
    rw[←fj,Bool.eq_iff_iff,decide_eq_true_eq,←sa,←(b1.out c.QH).2,c2]
   have d8:bt=(P.Q3.any fun x=>decide (x.name=c.to)&&x.maps.any fun m=>decide (m.of=c.over)):=by
    rw[←fl,Bool.eq_iff_iff,decide_eq_true_eq,←sa,←(b1.out c.to).2,c3]
   have HT:Hid (dY P c=(bf&&bt)):=by
    have g1:(P.Q3.all fun x=>x.maps.all fun m=>kt c x.name m)=true:=by simp only[List.all_eq_true];exact HG.out
    have g2:(P.Q4.all fun x =>!x.maps.any fun m=>decide (m.of=c.over))=true:=by simp only[List.all_eq_true];intro x hx;rw[Y x hx];rfl
    show dY P c=_;rw[kJ,g1,g2,←d7,←d8];rfl
   have e8:=hh c2;have e9:=hh c3;clear d7 d8 c2 c3 Y hk J HC hl xc x2 x3 l0 l3 l5 b0 bz bx j0 j3 j5 h0 h3 h5;refine so (fun a9 w9=>At a9 4 (.bool (bf&&bt))∧a9.tmps.size=85∧a9.defers=[]∧w9=w6) ?_ ?_
   ·have ft:=ds.out.run Tryz.underlying224 uZ f1
    have fv:=ds.out.run Tryz.underlying224 uZ f3;rw[←e8.out]at ft;rw[←e9.out]at fv;obtain⟨T,d⟩:=a6;have gp:=aJ;refine rl ?_
    cases bf
    all_goals
     iterate 13 with_reducible refine st ?_
     with_reducible refine ln ?_
     refine⟨rfl,?_,by simpa using bw,be,rfl⟩;simp only[Bool.false_and,Bool.true_and];exact aq
   rintro a9 w9 ⟨h4,dk,c4,rfl⟩;refine wp_ret ?_;refine b9 (t:=4) rfl h4 (by rw[dk];decide) c4 ⟨by rw[HT.out],d0.out.trans fc.out (fun _ _ h=>h)⟩
theorem oV{v:aV}{P:aC}(h:aF B w pb v P dh L)(a:Act)(cs:a.tmps.size=185)
 (h0:At a 0 (.pointer (some ⟨pb,0,none⟩)))(Q:Exit→Act→World→Prop)
 (hQ:∀D w',aA (fun i=>i==9||(rg 84 127 i)) a D→aF B w' pb v P dh (P.Q8.flatMap (dI P)++L)→aB (fun k=>k=pb) w w'→Q .normal D w'):
 (al Tryz.f54 [1,1,0]).wp Tryz.prog Q a w:=by
 have hs:=h.QL.Q8;obtain⟨A,c,hu,d7,cp,hl⟩:=hs;unfold top at cp;have d6:=h.lt;have d5:=h.base;have hq:w.cell? ⟨pb,6,none⟩=some v.Q8:=h.cell rfl;rw[hu]at hq;clear hu
 conv=>arg 2;whnf
 refine so (fun a1 w1=>aA (fun i=>i==84||i==85||i==86||i==87||i==88||i==89||i==90) a a1∧At a1 88 (.slice A P.Q8.length c)∧At a1 89 (.int .i64 P.Q8.length)∧At a1 90 (.int .i64 0)∧w1=w) ?_ ?_
 ·clear hl
  obtain⟨T,d⟩:=a;refine rl ?_
  iterate 7 with_reducible refine st ?_
  with_reducible refine ln ?_
  refine⟨rfl,ag,aq,aq,aq,rfl⟩
 rintro a0 w0 ⟨b0,cw,cv,ct,rfl⟩;have b5:a0.tmps.size=185:=b0.size.trans cs;replace h0:=b0.Q7 h0 rfl;refine ai P.Q8.length (fun i=>i==9||(rg 90 127 i)) (fun i=>i==9||(rg 92 126 i)) (fun k _ w'=>aF B w' pb v P dh ((P.Q8.take k).flatMap (dI P)++L)∧aB (fun k=>k=pb) w0 w') (by omega) ct cv (by decide) rfl
  (by intro j;simp;omega) (by omega) (by decide) (fun k a1 a2 w hA hI=>hI) ⟨by simpa[List.take_zero]using h,aB.refl _ _⟩ ?_ ?_
 ·rintro n a1 wr b4 hA cu ⟨hL,hk⟩
  obtain⟨bl,off,rfl,cm,b3⟩:=hl (by omega);obtain⟨x,hx⟩:=ge b4;obtain⟨hc,cf⟩:=(aK B _ _) _ _ _ _ _ (hk.below (B:=B) (by omega) (fun _ hi e=>by omega)) cm (b3 n x hx);have q0:=hc.c0;have q1:=hc 1 _ rfl;have q2:=hc 2 _ rfl;have q3:=hc 3 _ rfl;have q4:=hc 4 _ rfl;have q5:=hc 5 _ rfl;have q6:=hc 6 _ rfl;have q7:=hc 7 _ rfl;have X:=hA.Q7 h0 rfl;have cd:=hA.Q7 cw rfl;have cb:a1.tmps.size=185:=hA.size.trans b5;have c9:=hk.size;have cy:bl<wr.heap.size:=by omega
  have HX:=hh hx;have HL:=hh hL;have HK:=hh hk;have c8:n≤c:=by omega
  have HA:=hh hA;clear hx hL hk hc hA b3;refine so (fun a2 w2=>aA (fun i=>i==92||i==93||i==9) a1 a2∧At a2 9 (.pointer (some ⟨wr.heap.size,0,none⟩))∧w2=wr.alloc (Obj.cells #[.int .i64 x.pos,.string x.name,.string x.QH,.string x.to,.bool x.shared,.string x.over,.int .i64 x.how,.int .u64 x.QK] 55)) ?_ ?_
  ·skip
   obtain⟨T,d⟩:=a1;refine rl ?_
   iterate 4 with_reducible refine st ?_
   with_reducible refine ln ?_
   refine⟨rfl,ag,aq,rfl⟩
  rintro a2 wo ⟨bp,an,bw⟩;obtain⟨z,hz⟩:∃z,z=wr.heap.size:=⟨_,rfl⟩;rw[←hz]at an;have l:aN wo z 0 [.int .i64 x.pos,.string x.name,.string x.QH,.string x.to,.bool x.shared,.string x.over,.int .i64 x.how,.int .u64 x.QK]:=by rw[bw,hz];exact aX _ _ _
  have I:z<wo.heap.size:=by rw[bw,hz];simp
  have H:z≠pb:=by omega
  have bt:Kz wr wo:=by rw[bw];exact(aB.refl _ _).alloc _
  have bd:=hh (HL.out.new bt);have bc:=hh (HK.out.trans bt (fun _ _ h=>h.elim));have bo:Hid (aB (fun k=>k=pb) wr wo):=bt.mono (fun _ _ h=>h.elim);have X:=bp.Q7 X rfl;have a8:=bp.size.trans cb;have ad:Hid (aA (fun i=>i==9||(rg 92 126 i)) a1 a2):=bp.m;clear bw hz bt HL HK bp q0 q1 q2 q3 q4 q5 q6 q7;clear cd cu hl;refine so (fun D w'=>aA (fun i=>(rg 94 105 i)) a2 D∧aF B w' pb v P dh (say (!decide (x.how=1)||decide (x.QK<64)) x.pos 1++((P.Q8.take n).flatMap (dI P)++L))∧aB (fun k=>k=pb) wo w') ?_ ?_
  ·skip
   clear ad HX;have bf:=l.c0;have a9:=l 1 _ rfl;have a6:=l 2 _ rfl;have bx:=l 3 _ rfl;have Y:=l 4 _ rfl;have bb:=l 5 _ rfl;have be:=l 6 _ rfl;have Z:=l 7 _ rfl;clear l;obtain⟨y,u⟩:∃b,b=decide (x.how=1):=⟨_,rfl⟩;have bj:((x.how:Int)==1)=y:=by rw[u];exact eG _ _
   have bm:((x.how:Int)!=1)=!y:=by rw[u];exact iJ _ _
   obtain⟨C,r⟩:∃b,b=decide (x.QK<64):=⟨_,rfl⟩;have a7:decide ((x.QK:Int)<64)=C:=by rw[r];exact decide_eq_decide.2 (by omega)
   have HS:Hid (say (!decide (x.how=1)||decide (x.QK<64)) x.pos 1=say ((!y||C)) x.pos 1):=by rw[u,r];rfl
   clear u;clear r;have W:=bd;have bu:=aJ;obtain⟨T,d⟩:=a2;refine rl ?_
   iterate 5 with_reducible refine st ?_
   cases y
   ·iterate 6
     with_reducible refine st ?_
    with_reducible refine Lz (fun K G=>?_)
    go_simp;refine(aO _ _ 1 101 W.out rfl).mono ?_;rintro e w2 ⟨rfl,V,S⟩;with_reducible refine G _ _ (ln ?_)
    refine⟨rfl,?_,?_,?_⟩
    ·exact ag
    ·have hs:=HS.out
     try simp only[bS]at hs
     rw[hs];exact V
    ·exact S
   ·iterate 6
     with_reducible refine st ?_
    with_reducible refine Lz (fun K G=>?_)
    go_simp;refine(aO _ _ 1 101 W.out rfl).mono ?_;rintro e w2 ⟨rfl,V,S⟩;with_reducible refine G _ _ (ln ?_)
    refine⟨rfl,?_,?_,?_⟩
    ·exact ag
    ·have hs:=HS.out
     try simp only[bS]at hs
     rw[hs];exact V
    ·exact S
  rintro a3 w3 ⟨M,af,N⟩;replace l:=l.keep N I H;replace I:z<w3.heap.size:=Nat.lt_of_lt_of_le I N.size;replace bd:=hh af;replace bc:=hh (bc.out.trans N (fun _ _ e=>e));replace bo:=hh (bo.out.trans N (fun _ _ e=>e));replace X:=M.Q7 X rfl;replace an:=M.Q7 an rfl;replace a8:=M.size.trans a8;replace ad:Hid (aA (fun i=>i==9||(rg 92 126 i)) a1 a3):=ad.out.t M;clear M af N;refine so (fun D w'=>aA (fun i=>(rg 106 114 i)) a3 D∧aF B w' pb v P dh (say (!decide (x.QH=x.to)) x.pos 3++(say (!decide (x.how=1)||decide (x.QK<64)) x.pos 1++((P.Q8.take n).flatMap (dI P)++L)))∧aB (fun k=>k=pb) w3 w') ?_ ?_
  ·skip
   clear ad HX;have bf:=l.c0;have a9:=l 1 _ rfl;have a6:=l 2 _ rfl;have bx:=l 3 _ rfl;have Y:=l 4 _ rfl;have bb:=l 5 _ rfl;have be:=l 6 _ rfl;have Z:=l 7 _ rfl;clear l;obtain⟨q,g⟩:∃b,b=decide (x.QH=x.to):=⟨_,rfl⟩;have E:(x.QH.toList==x.to.toList)=q:=by rw[g];exact bv _ _
   have ac:(x.QH.toList !=x.to.toList)=!q:=by rw[←E];rfl
   have HS:Hid (say (!decide (x.QH=x.to)) x.pos 3=say (!q) x.pos 3):=by rw[g];rfl
   clear g;have W:=bd;obtain⟨T,d⟩:=a3;refine rl ?_
   iterate 8 with_reducible refine st ?_
   with_reducible refine Lz (fun K G=>?_)
   go_simp;refine(aO _ _ 3 102 W.out rfl).mono ?_;rintro e w2 ⟨rfl,V,S⟩;with_reducible refine G _ _ (ln ?_)
   refine⟨rfl,?_,?_,?_⟩
   ·exact ag
   ·have hs:=HS.out
    try simp only[bS]at hs
    rw[hs];exact V
   ·exact S
  rintro a4 w4 ⟨M,af,N⟩;replace l:=l.keep N I H;replace I:z<w4.heap.size:=Nat.lt_of_lt_of_le I N.size;replace bd:=hh af;replace bc:=hh (bc.out.trans N (fun _ _ e=>e));replace bo:=hh (bo.out.trans N (fun _ _ e=>e));replace X:=M.Q7 X rfl;replace an:=M.Q7 an rfl;replace a8:=M.size.trans a8;replace ad:Hid (aA (fun i=>i==9||(rg 92 126 i)) a1 a4):=ad.out.t M;clear M af N;refine Code.wp_only (R:=fun D w'=>aA (fun i=>(rg 115 126 i)) a4 D∧aF B w' pb v P dh (say (!x.shared||dY P x) x.pos 4++(say (!decide (x.QH=x.to)) x.pos 3++(say (!decide (x.how=1)||decide (x.QK<64)) x.pos 1++((P.Q8.take n).flatMap (dI P)++L))))∧aB (fun k=>k=pb) w4 w') ?_ ?_
  ·obtain⟨b,eb⟩:∃b,b=x.shared:=⟨_,rfl⟩
   have HC:Hid (∀w',aB (fun k=>k=pb) w4 w'→w'.cell? ⟨z,0,none⟩=some (.int .i64 x.pos)∧w'.cell? ⟨z,1,none⟩=some (.string x.name)∧w'.cell? ⟨z,2,none⟩=some (.string x.QH)∧w'.cell? ⟨z,3,none⟩=some (.string x.to)∧w'.cell? ⟨z,4,none⟩=some (.bool x.shared)∧w'.cell? ⟨z,5,none⟩=some (.string x.over)∧w'.cell? ⟨z,6,none⟩=some (.int .i64 x.how)∧w'.cell? ⟨z,7,none⟩=some (.int .u64 x.QK)):=fun w' hk=>⟨(l.keep hk I H).c0,(l.keep hk I H) 1 _ rfl,(l.keep hk I H) 2 _ rfl,(l.keep hk I H) 3 _ rfl,(l.keep hk I H) 4 _ rfl,(l.keep hk I H) 5 _ rfl,(l.keep hk I H) 6 _ rfl,(l.keep hk I H) 7 _ rfl⟩
   have W:=hh (bd.out.new ((aB.refl _ w4).drew));have q0:=l.c0;have q4:=l 4 _ rfl;rw[←eb]at q4
   cases b
   ·have HS:Hid (x.shared=false):=eb.symm
    clear eb l;have bu:=aJ;obtain⟨T,d⟩:=a4;refine wp_region_still_tail 11 (by kernel_rfl) (by kernel_rfl) ?_;simp only[List.take_succ_cons,List.take_zero,List.drop_succ_cons,List.drop_zero]
    iterate 11 with_reducible refine sl ?_
    with_reducible refine wpStill_nil ?_;refine Lz (fun K G=>?_)
    go_simp;refine(aO _ _ 4 103 W.out rfl).mono ?_;rintro e w2 ⟨rfl,V,S⟩;with_reducible refine G _ _ (ln ?_)
    refine⟨rfl,?_,?_,((aB.refl _ _).drew).trans S (fun _ _ e=>e)⟩
    ·exact ag
    ·rw[HS.out];exact V
   ·have HS:Hid (x.shared=true):=eb.symm
    clear eb q0 q4;refine dW 11 (fun i=>([.pointer (some ⟨pb,0,none⟩),.pointer (some ⟨z,4,none⟩),.bool true,.bool false,.bool false,.pointer (some ⟨pb,0,none⟩),.agg #[.int .i64 x.pos,.string x.name,.string x.QH,.string x.to,.bool x.shared,.string x.over,.int .i64 x.how,.int .u64 x.QK],.bool (dY P x),.bool (dY P x),.pointer (some ⟨z,0,none⟩),.int .i64 x.pos]:List Value).getD i undef) (fun w'=>Kz w4.drew w') (by kernel_rfl) (by kernel_rfl) ?_ ?_ ?_
    ·first|exact hWd|exact aB.refl _ _
    ·intro i o hi O D w' K U hb J G
     have cc:D.tmps.size=185:=hb.size.trans (by first|assumption|(simp only[Array.size_setIfInBounds];assumption));have b1:=hb.Q7 X rfl;have b2:=hb.Q7 an rfl
     match i,hi,O,J,G with
     | 0,_,O,J,G =>
      obtain rfl:=oi O;obtain⟨T,d⟩:=D;go_simp;exact G _ U
     | 1,_,O,J,G =>
      obtain rfl:=oi O;obtain⟨T,d⟩:=D;go_simp;exact G _ U
     | 2,_,O,J,G =>
      obtain rfl:=oi O;have dk:At D 116 (.pointer (some ⟨z,4,none⟩)):=J 1 (by kernel_rfl) (by decide) 116 rfl;have ah:aB (fun k=>k=pb) w4 w':=((aB.refl (fun k=>k=pb) w4).drew).trans U (fun _ _ h=>h.elim);obtain⟨c0,c1,c2,c3,c4,c5,c6,c7⟩:=HC.out _ ah;obtain⟨T,d⟩:=D;go_simp;rw[HS.out];exact G _ U
     | 3,_,O,J,G =>
      obtain rfl:=oi O;have dl:At D 117 (.bool true):=J 2 (by kernel_rfl) (by decide) 117 rfl;obtain⟨T,d⟩:=D;go_simp;exact G _ U
     | 4,_,O,J,G =>
      obtain rfl:=oi O;have ds:At D 118 (.bool false):=J 3 (by kernel_rfl) (by decide) 118 rfl;obtain⟨T,d⟩:=D;go_simp;exact G _ U
     | 5,_,O,J,G =>
      obtain rfl:=oi O;have bz:At D 119 (.bool false):=J 4 (by kernel_rfl) (by decide) 119 rfl;have bu:=aJ;obtain⟨T,d⟩:=D;go_simp;exact G _ U
     | 6,_,O,J,G =>
      obtain rfl:=oi O;have bz:At D 119 (.bool false):=J 4 (by kernel_rfl) (by decide) 119 rfl;have ah:aB (fun k=>k=pb) w4 w':=((aB.refl (fun k=>k=pb) w4).drew).trans U (fun _ _ h=>h.elim);obtain⟨c0,c1,c2,c3,c4,c5,c6,c7⟩:=HC.out _ ah;have bu:=aJ;obtain⟨T,d⟩:=D;go_simp;exact G _ U
     | 7,_,O,J,G =>
      obtain rfl:=oi O;have d0:At D 120 (.pointer (some ⟨pb,0,none⟩)):=J 5 (by kernel_rfl) (by decide) 120 rfl;have d1:At D 121 (.agg #[.int .i64 x.pos,.string x.name,.string x.QH,.string x.to,.bool x.shared,.string x.over,.int .i64 x.how,.int .u64 x.QK]):=J 6 (by kernel_rfl) (by decide) 121 rfl;have bz:At D 119 (.bool false):=J 4 (by kernel_rfl) (by decide) 119 rfl;have ah:aB (fun k=>k=pb) w4 w':=((aB.refl (fun k=>k=pb) w4).drew).trans U (fun _ _ h=>h.elim);obtain⟨c0,c1,c2,c3,c4,c5,c6,c7⟩:=HC.out _ ah;have bu:=aJ;obtain⟨T,d⟩:=D;go_simp;refine(rE (W.out.new U) cf).mono ?_;rintro e w2 ⟨rfl,S⟩;exact G _ (U.trans S (fun _ _ h=>h))
     | 8,_,O,J,G =>
      obtain rfl:=oi O;have bz:At D 119 (.bool false):=J 4 (by kernel_rfl) (by decide) 119 rfl;have d2:At D 122 (.bool (dY P x)):=J 7 (by kernel_rfl) (by decide) 122 rfl;obtain⟨T,d⟩:=D;go_simp;exact G _ U
     | 9,_,O,J,G =>
      obtain rfl:=oi O;obtain⟨T,d⟩:=D;go_simp;exact G _ U
     | 10,_,O,J,G =>
      obtain rfl:=oi O;have d4:At D 124 (.pointer (some ⟨z,0,none⟩)):=J 9 (by kernel_rfl) (by decide) 124 rfl;have ah:aB (fun k=>k=pb) w4 w':=((aB.refl (fun k=>k=pb) w4).drew).trans U (fun _ _ h=>h.elim);obtain⟨c0,c1,c2,c3,c4,c5,c6,c7⟩:=HC.out _ ah;obtain⟨T,d⟩:=D;go_simp;exact G _ U
     | i+11,hi,_,_,_=>omega
    ·intro o O D w' U hb J
     obtain rfl:=oi O;have cc:D.tmps.size=185:=hb.size.trans (by first|assumption|(simp only[Array.size_setIfInBounds];assumption));have b1:=hb.Q7 X rfl;have b2:=hb.Q7 an rfl;have di:At D 115 (.pointer (some ⟨pb,0,none⟩)):=J 0 (by decide) 115 rfl;have d3:At D 123 (.bool (dY P x)):=J 8 (by decide) 123 rfl;have cx:At D 125 (.int .i64 x.pos):=J 10 (by decide) 125 rfl;have cl:=hh (W.out.new U);have ci:Hid (aB (fun k=>k=pb) w4 w'):=((aB.refl (fun k=>k=pb) w4).drew).trans U (fun _ _ h=>h.elim);have HB:=hh hb;clear U hb J;obtain⟨T,d⟩:=D;with_reducible refine Lz (fun K G=>?_)
     go_simp;refine(aO _ _ 4 103 cl.out rfl).mono ?_;rintro e w2 ⟨rfl,V,S⟩;with_reducible refine G _ _ (ln ?_)
     refine⟨rfl,(HB.out.agree (ws:=fun i=>rg 115 126 i) (by kernel_rfl)).trans (vs:=fun i=>i==126) ?_ (by intro j;simp;omega),?_,ci.out.trans S (fun _ _ e=>e)⟩
     ·exact ag
     ·rw[HS.out];exact V
  rintro a5 w5 ⟨M,af,N⟩;refine⟨ad.out.t M,af.congr fun p=>?_,bc.out.trans N (fun _ _ e=>e)⟩;rw[aP HX.out,List.flatMap_append,List.flatMap_cons,List.flatMap_nil,List.append_nil];simp only[List.mem_append,dI]
  try simp only[or_assoc,or_comm,or_left_comm]
 ·rintro D w' hA ⟨hL,hk⟩
  rw[List.take_length]at hL;exact hQ _ _ ((b0.m).t hA) hL hk
theorem wh{v:aV}{P:aC}(h:aF B w pb v P dh []):
 Calls Tryz.prog 54 #[.pointer (some ⟨pb,0,none⟩)] w fun e w'=>e=.returned (.tuple #[])∧aF B w' pb v P dh (nD P)∧aB (fun k=>k=pb) w w':=by
 refine az Tryz.func54 Tryz.ntmps54 rfl (by simp) fun a j C i=>?_
 have n:At a 0 (.pointer (some ⟨pb,0,none⟩)):=i 0 _ rfl;clear i
 conv=>arg 2;whnf
 refine wp_seq (oU h a j n _ (fun J O b r D=>?_));with_reducible apply aY
 refine wp_seq (ue r J (b.size.trans j) (b.Q7 n rfl) _ (fun K Q d u E=>?_));with_reducible apply aY
 refine wp_seq (oV u K (d.size.trans (b.size.trans j)) (d.Q7 (b.Q7 n rfl) rfl) _ (fun L R g x G=>?_));with_reducible apply aY
 refine wp_seq (pO x L (g.size.trans (d.size.trans (b.size.trans j))) (g.Q7 (d.Q7 (b.Q7 n rfl) rfl) rfl) _ (fun M S l y H=>?_));with_reducible apply aY
 refine qz y M (l.size.trans (g.size.trans (d.size.trans (b.size.trans j)))) (l.Q7 (g.Q7 (d.Q7 (b.Q7 n rfl) rfl) rfl) rfl) _ (fun N T q A I=>?_);refine ej rfl (q.defers.trans (l.defers.trans (g.defers.trans (d.defers.trans (b.defers.trans C))))) ⟨rfl,A.congr fun p=>?_,(((D.trans E (fun _ _ e=>e)).trans G (fun _ _ e=>e)).trans H (fun _ _ e=>e)).trans I (fun _ _ e=>e)⟩;simp only[nD,List.mem_append,List.mem_nil_iff,or_false];simp only[or_assoc,or_comm,or_left_comm]
end Go.Proofs.YtpblcjipmoblnaaGreatDoor
