import Derived.Test.YthobcefghkeddaaGreatDoorW
import Derived.Lib.Hide
import Derived.WalkKit
import Derived.StillTailTactics
set_option maxRecDepth 100000
set_option linter.all false
set_option maxHeartbeats 4000000
namespace Go.Proofs.YthobcefghkeddaaGreatDoor
open Go.RowKit
def Code.part:List Nat→Code→Code
 | [],c=>c
 | 0::p,.seq a _=>Code.part p a
 | 1::p,.seq _ b=>Code.part p b
 | 0::p,.cond _ a _=>Code.part p a
 | 1::p,.cond _ _ b=>Code.part p b
 | 0::p,.block _ b=>Code.part p b
 | 0::p,.loop b=>Code.part p b
 | 0::p,.scope b=>Code.part p b
 | _,c=>c
def ax(f:Func)(p:List Nat):Code:=Code.part p (f.body.getD .skip)
theorem fW:ByteArray.toList { data := #[] }=[]:=by
 unfold ByteArray.toList;rw[ByteArray.toList.loop];simp[ByteArray.size]
theorem jv(n k:Int):(n==k)=decide (n=k):=rfl
theorem CI(n k:Int):(n !=k)=!decide (n=k):=rfl
theorem eh(n k:Nat):((n:Int)==(k:Int))=decide (n=k):=by rw[jv];exact decide_eq_decide.2 χ
theorem aU:undef=Value.tuple #[]:=rfl
abbrev At(a:Act)(i:Nat)(v:Value):Prop:=∀h,a.tmps[i]'h=v
structure aE (ws:Nat→Bool) (a a':Act):Prop where
 size:a'.tmps.size=a.tmps.size
 defers:a'.defers=a.defers
 get:∀i,ws i=false→a'.tmps[i]?=a.tmps[i]?
namespace aE
variable {ws vs us:Nat→Bool} {a b c:Act}
theorem refl(ws:Nat→Bool)(a:Act):aE ws a a:=⟨rfl,rfl,fun _ _=>rfl⟩
theorem trans(h:aE ws a b)(k:aE vs b c)(d:∀i,vs i=true→ws i=true):aE ws a c:=
 ⟨k.size.trans h.size,k.defers.trans h.defers,fun i hi=>(k.get i (by cases e:vs i with|false=>rfl|true=>rw[d i e]at hi;cases hi)).trans (h.get i hi)⟩
theorem mono(h:aE ws a b)(d:∀i,ws i=true→vs i=true):aE vs a b:=
 ⟨h.size,h.defers,fun i hi=>h.get i (by cases e:ws i with|false=>rfl|true=>rw[d i e]at hi;cases hi)⟩
theorem put(h:aE ws a b){i:Nat}(hi:ws i=true)(v:Value):aE ws a (b.put (some i) v):=
 ⟨by simpa[Act.put]using h.size,h.defers,fun j g=>by
  have d:i≠j:=by rintro rfl;rw[hi]at g;cases g
  simp only[Act.put,Array.getElem?_setIfInBounds_ne d];exact h.get j g⟩
theorem set{T:Array Value}{d:List Deferred}(h:aE ws a ⟨T,d⟩){i:Nat}(hi:ws i=true)(v:Value):aE ws a ⟨T.setIfInBounds i v,d⟩:=h.put hi v
theorem Q7(h:aE ws a b){i:Nat}{v:Value}(l:At a i v)(hi:ws i=false):At b i v:=fun j=>by
 have d:i<a.tmps.size:=by rw[←h.size];exact j
 have g:=h.get i hi;rw[Array.getElem?_eq_getElem j,Array.getElem?_eq_getElem d]at g;exact(ι g).trans (l d)
end aE
theorem At.put_self{a:Act}{i:Nat}{v:Value}:At (a.put (some i) v) i v:=fun d=>by simp[Act.put]
theorem At.put_ne{a:Act}{i j:Nat}{v u:Value}(h:At a i v)(d:j≠i):At (a.put (some j) u) i v:=fun l=>by
 have g:i<a.tmps.size:=by simpa[Act.put]using l
 exact(Array.getElem_setIfInBounds_ne g d).trans (h g)
theorem At.self{T:Array Value}{d:List Deferred}{i:Nat}{v:Value}:At ⟨T.setIfInBounds i v,d⟩ i v:=At.put_self (a:=⟨T,d⟩)
theorem At.ne{T:Array Value}{d:List Deferred}{i j:Nat}{v u:Value}(h:At ⟨T,d⟩ i v)(g:j≠i):At ⟨T.setIfInBounds j u,d⟩ i v:=At.put_ne (a:=⟨T,d⟩) h g
theorem At.eval{a:Act}{i:Nat}{v:Value}(h:At a i v)(hi:i<a.tmps.size):a.eval (.tmp i)=v:=by
 show a.tmps.getD i undef=v;rw[Array.getD_eq_getD_getElem?,Array.getElem?_eq_getElem hi];exact h hi
theorem bL{P:Program}{f:FuncId}{fn:Func}{N:Nat}{args:Array Value}{w:World}{R:Ending→World→Prop}(q:P.funcs[f]?=some fn)(j:fn.ntmps=N)(l:fn.body.isSome=true)(u:args.size≤N)
 (h:∀a:Act,a.tmps.size=N→a.defers=[]→(∀i v,args[i]?=some v→At a i v)→(ax fn []).wp P (bodyPost P fn R) a w):Calls P f args w R:=by
 obtain⟨c,d⟩:=Option.isSome_iff_exists.1 l;have e:ax fn []=c:=by unfold ax;rw[d];rfl
 rw[e]at h;refine calls_of_wp q d (h _ ?_ rfl fun i v g=>?_)
 ·simp[j];omega
 ·intro x
  have hi:i<args.size:=(ϱ.1 g).1;show(args++Array.replicate (fn.ntmps-args.size) undef)[i]=v;rw[Array.getElem_append_left hi];exact(ϱ.1 g).2
theorem dL{P:Program}{fn:Func}{R:Ending→World→Prop}{a:Act}{w:World}(h:fn.results = #[])(g:a.defers=[])(d:R (.returned (.tuple #[])) w):bodyPost P fn R .normal a w:=
 bodyPost_end (results_none h _ _ _) g d
theorem br{P:Program}{fn:Func}{R:Ending→World→Prop}{a:Act}{w:World}{t:Tmp}{v:Value}(h:fn.results = #[.tmp t])(l:At a t v)(j:t<a.tmps.size)(g:a.defers=[])(d:R (.returned v) w):bodyPost P fn R .ret a w:=
 bodyPost_ret (v:=v) (by rw[results_tmp h,show a.tmps.getD t undef=v from l.eval j]) g d
def kD(R:Act→World→Prop):Exit→Act→World→Prop:=fun e a w=>e=.normal∧R a w
theorem Code.wp_only{P:Program}{c:Code}{R:Act→World→Prop}{Q:Exit→Act→World→Prop}{a:Act}{w:World}(h:c.wp P (kD R) a w)(j:∀d w',R d w'→Q .normal d w'):c.wp P Q a w:=
 wp_mono h fun e d w' ⟨g,l⟩=>by subst g;exact j d w' l
theorem bK{K:Act→World→Prop}{Q:Exit→Act→World→Prop}{a:Act}{w:World}(h:K a w):Exit.then K Q .normal a w:=h
theorem eP{K:Act→World→Prop}{Q:Exit→Act→World→Prop}{id:Nat}{a:Act}{w:World}(h:Q (.exit id) a w):Exit.then K Q (.exit id) a w:=h
theorem bY{K:Act→World→Prop}{Q:Exit→Act→World→Prop}{a:Act}{w:World}(h:Q .ret a w):Exit.then K Q .ret a w:=h
theorem jb{id:Nat}{K:Act→World→Prop}{Q:Exit→Act→World→Prop}{a:Act}{w:World}(h:K a w):Exit.inBlock id (Exit.then K Q) .normal a w:=h
def bi(b b2:Nat)(J:Act→World→Prop)(Q:Exit→Act→World→Prop):Exit→Act→World→Prop
 | .normal,a,w=>J a w
 | .exit id,a,w=>if id=b2 then J a w else if id=b then Q .normal a w else Q (.exit id) a w
 | e,a,w=>Q e a w
theorem bQ{b b2:Nat}{J:Act→World→Prop}{Q:Exit→Act→World→Prop}{a:Act}{w:World}(h:Q .ret a w):bi b b2 J Q .ret a w:=h
theorem uJ{P:Program}{b b2 t:Nat}{R1 R2 body:Code}{Q:Exit→Act→World→Prop}{a:Act}{w:World}(n:Nat)(I J:Nat→Act→World→Prop)(idx:Act→Nat)(C:I 0 a w)
 (hi:∀k a w,I k a w→idx a=k)
 (D:∀k a w,k≤n→I k a w→R1.wp P (kD fun g w'=>I k g w'∧g.eval (.tmp t)=.bool (decide (k<n))) a w)
 (K:∀k a w,k<n→I k a w→body.wp P (bi b b2 (J k) Q) a w)
 (E:∀k a w,k<n→J k a w→R2.wp P (kD (I (k+1))) a w)
 (N:∀a w,I n a w→Q .normal a w):
 (Code.block b (Code.loop (Code.seq R1 (Code.seq (Code.cond (.tmp t) .skip (.exit b)) (Code.seq (Code.block b2 body) R2))))).wp P Q a w:=by
 refine wp_block (wp_loop (fun a w=>∃k,k≤n∧I k a w) (fun a _=>n-idx a) ⟨0,Nat.zero_le _,C⟩ ?_);rintro a w ⟨k,hk,y⟩;refine wp_seq (Code.wp_only (D k a w hk y) fun v B ⟨q,O⟩=>?_);refine wp_seq ?_;refine wp_cond_split O (fun h=>wp_skip ?_) (fun h=>wp_exit ?_)
 ·have d:k<n:=of_decide_eq_true h
  refine wp_seq (wp_block (wp_mono (K k v B d q) fun e j u hh=>?_));have fin:∀j u,J k j u→R2.wp P (Exit.then (fun g w'=>(∃k,k≤n∧I k g w')∧n-idx g<n-idx a) (Exit.inBlock b Q)) j u:=fun j u H =>
   Code.wp_only (E k j u d H) fun R U x=>⟨⟨k+1,d,x⟩,by rw[hi _ _ _ x,hi _ _ _ y];omega⟩
  cases e with
  | normal=>exact fin _ _ hh
  | exit id =>
   simp only[bi]at hh;simp only[Exit.inBlock,Exit.then]
   by_cases e2:id=b2
   ·simp only[e2,if_true]at hh⊢; exact fin _ _ hh
   ·simp only[e2,if_false]at hh⊢
    by_cases e1:id=b
    ·simp only[e1,if_true]at hh⊢; exact hh
    ·simp only[e1,if_false]at hh⊢; exact hh
  | goto l=>exact hh
  | ret=>exact hh
  | panic c=>exact hh
  | outgrown=>exact hh
 ·have L:¬ k<n:=of_decide_eq_false h
  have:k=n:=χ
  subst this;show Exit.inBlock b Q (.exit b) v B;simp only[Exit.inBlock,if_true];exact N _ _ q
theorem Ch(ty:TypeId)(x:Int)(d : -9223372036854775808≤x)(g:x<9223372036854775807)(P:Program)(w:World):(binOp .add ty (.int .i64 x) (.int .i64 1)).run P w=.ok (.int .i64 (x+1)) w:=by
 simp[go_sem];exact IntWalk.i64_in _ χ
theorem iK{P:Program}{ops:Array Oper}{Q:Exit→Act→World→Prop}{a:Act}{w w':World}{rest:List Oper}{o:Oper}{v:Value}(g:o.guard=none)(j:(execOp a.eval o).run P w=.ok (.value v) w')
 (h:wpList P ops Q rest (a.put o.dst v) w'):wpList P ops Q (o::rest) a w:=
 wpList_plain g fun K d=>by unfold Oper.wp;rw[j];exact d _ _ h
theorem BS{P:Program}{id t i m:Nat}{ty d g:TypeId}{q:String}{j:Array Edge}{Q:Exit→Act→World→Prop}{a:Act}{w:World}(x y:Int)(hi:a.eval (.tmp i)=.int .i64 x)(l:a.eval (.tmp m)=.int .i64 y)
 (h:Q .normal (a.put (some t) (.bool (decide (x<y)))) w):
 (Code.region id #[{ dst:=some t,op:=Op.binOp .lss ty (.tmp i) (.tmp m) d,type:=g,pos:=q,after:=j,guard:=none }] false).wp P Q a w:=by
 refine wp_region_lit (iK rfl ?_ (wpList_nil h));unfold execOp;simp only[hi,l];simp[eqGuard,go_sem]
theorem Cw{P:Program}{id t i:Nat}{ty j l q:TypeId}{D g:String}{u d:Array Edge}{Q:Exit→Act→World→Prop}{a:Act}{w:World}(x:Int)(hi:a.eval (.tmp i)=.int .i64 x)(E:0≤x)(B:x<9223372036854775807)(C:t<a.tmps.size)
 (h:Q .normal ((a.put (some t) (.int .i64 (x+1))).put (some i) (.int .i64 (x+1))) w):
 (Code.region id #[{ dst:=some t,op:=Op.binOp .add ty (.tmp i) (.const (.int .i64 1)) j,type:=l,pos:=D,after:=u,guard:=none },{ dst:=some i,op:=Op.move (.tmp t),type:=q,pos:=g,after:=d,guard:=none }] false).wp P Q a w:=by
 have e:(a.put (some t) (.int .i64 (x+1))).eval (.tmp t)=.int .i64 (x+1):=At.eval At.put_self (by simpa[Act.put]using C);have y:a.eval (.const (.int .i64 1))=.int .i64 1:=rfl;refine wp_region_lit (iK (v := .int .i64 (x+1)) (w':=w) rfl ?_ (iK (v := .int .i64 (x+1)) (w':=w) rfl ?_ (wpList_nil h)))
 ·unfold execOp
  simp only[hi,y];have:=Ch ty x χ B P w;simp[eqGuard,go_sem]at this⊢;exact this
 ·unfold execOp
  simp only[e];rfl
theorem bX{P:Program}{b b2 R U t i m t2:Nat}{Z ac ad af al an a0:TypeId}{V W X:String}{E H I:Array Edge}{body:Code}{Q:Exit→Act→World→Prop}{a:Act}{w:World}(n:Nat)(ws vs:Nat→Bool)
 (Inv:Nat→Act→World→Prop)(hn:n≤4611686018427387904)(hi:At a i (.int .i64 0))(hm:At a m (.int .i64 n))(O:ws t=true∧ws i=true∧ws t2=true∧ws m=false)(L:vs i=false)(N:∀j,vs j=true→ws j=true)
 (J:t<a.tmps.size∧i<a.tmps.size∧t2<a.tmps.size∧m<a.tmps.size)(K:t≠i)
 (C:∀k a1 q w,aE (fun j=>j==t||j==i||j==t2) a1 q→Inv k a1 w→Inv k q w)(h0:Inv 0 a w)
 (hb:∀(k:Nat) d w',k<n→aE ws a d→At d i (.int .i64 k)→Inv k d w'→body.wp P (bi b b2 (fun B a3=>aE vs d B∧Inv (k+1) B a3) Q) d w')
 (hq:∀d w',aE ws a d→Inv n d w'→Q .normal d w'):
 (Code.block b (Code.loop (Code.seq (Code.region R #[{ dst:=some t,op:=Op.binOp .lss Z (.tmp i) (.tmp m) ac,type:=ad,pos:=V,after:=E,guard:=none }] false) (Code.seq (Code.cond (.tmp t) .skip (.exit b)) (Code.seq (Code.block b2 body)
  (Code.region U #[{ dst:=some t2,op:=Op.binOp .add af (.tmp i) (.const (.int .i64 1)) al,type:=an,pos:=W,after:=H,guard:=none },{ dst:=some i,op:=Op.move (.tmp t2),type:=a0,pos:=X,after:=I,guard:=none }] false)))))).wp P Q a w:=by
 obtain⟨w1,y,w3,w4⟩:=O;obtain⟨s1,Y,s3,s4⟩:=J;refine uJ n (fun k d w'=>aE ws a d∧At d i (.int .i64 k)∧Inv k d w') (fun k d w'=>aE ws a d∧At d i (.int .i64 k)∧Inv (k+1) d w') (fun a=>match a.eval (.tmp i)with|.int _ x=>x.toNat|_=>0) ⟨aE.refl _ _,hi,h0⟩ ?_ ?_ ?_ ?_ ?_
 ·rintro k d w' ⟨g,hk,_⟩
  rw[hk.eval (by rw[g.size];exact Y)];simp
 ·rintro k d w' v ⟨g,hk,u⟩
  have e1:=hk.eval (by rw[g.size];exact Y);have D:=(g.Q7 hm w4).eval (by rw[g.size];exact s4);refine BS k n e1 D ⟨rfl,⟨g.put w1 _,hk.put_ne K,C _ _ _ _ ((aE.refl _ _).put ξ _) u⟩,?_⟩;rw[At.eval At.put_self (by simpa[Act.put]using(g.size▸s1))];simp
 ·rintro k d w' v ⟨g,hk,u⟩
  refine wp_mono (hb k d w' v g hk u) fun e q y hh=>?_
  have fin:∀q y,(aE vs d q∧Inv (k+1) q y)→(aE ws a q∧At q i (.int .i64 k)∧Inv (k+1) q y):=fun q y h=>⟨g.trans h.1 N,h.1.Q7 hk L,h.2⟩
  cases e with
  | normal=>exact fin _ _ hh
  | exit id =>
   simp only[bi]at hh⊢
   by_cases D:id=b2
   ·simp only[D,if_true]at hh⊢; exact fin _ _ hh
   ·simp only[D,if_false]at hh⊢; exact hh
  | goto l=>exact hh
  | ret=>exact hh
  | panic c=>exact hh
  | outgrown=>exact hh
 ·rintro k d w' v ⟨g,hk,u⟩
  refine Cw k (hk.eval (by rw[g.size];exact Y)) χ χ (by rw[g.size];exact s3) ⟨rfl,(g.put w3 _).put y _,?_,C _ _ _ _ (((aE.refl _ _).put ξ _).put ξ _) u⟩;have:((k:Int)+1)=((k+1:Nat):Int):=χ
  rw[this];exact At.put_self
 ·rintro d w' ⟨g,_,u⟩
  exact hq _ _ g u
theorem zA{P:Program}{b b2 t:Nat}{R1 body:Code}{Q:Exit→Act→World→Prop}{a:Act}{w:World}(I:Act→World→Prop)(μ:Act→World→Nat)(J:Nat→Act→World→Prop)(Done:Act→World→Prop)(u:I a w)
 (v:∀a w,I a w→R1.wp P (kD fun d w'=>(d.eval (.tmp t)=.bool true∧J (μ a w) d w')∨(d.eval (.tmp t)=.bool false∧Done d w')) a w)
 (C:∀m a w,J m a w→body.wp P (bi b b2 (fun d w'=>I d w'∧μ d w'<m) Q) a w)
 (D:∀a w,Done a w→Q .normal a w):
 (Code.block b (Code.loop (Code.seq R1 (Code.seq (Code.cond (.tmp t) .skip (.exit b)) (Code.block b2 body))))).wp P Q a w:=by
 refine wp_block (wp_loop I μ u ?_);intro a w y;refine wp_seq (Code.wp_only (v a w y) fun j q h=>?_)
 rcases h with⟨g,B⟩|⟨g,x⟩
 ·refine wp_seq (wp_cond_true g (wp_skip (wp_block (wp_mono (C _ j q B) fun e E H hh=>?_))))
  cases e with
  | normal=>exact hh
  | exit id =>
   simp only[bi]at hh;simp only[Exit.inBlock,Exit.then]
   by_cases e2:id=b2
   ·simp only[e2,if_true]at hh⊢; exact hh
   ·simp only[e2,if_false]at hh⊢
    by_cases e1:id=b
    ·simp only[e1,if_true]at hh⊢; exact hh
    ·simp only[e1,if_false]at hh⊢; exact hh
  | goto l=>exact hh
  | ret=>exact hh
  | panic c=>exact hh
  | outgrown=>exact hh
 ·refine wp_seq (wp_cond_false g (wp_exit ?_))
  show Exit.inBlock b Q (.exit b) j q;simp only[Exit.inBlock,if_true];exact D _ _ x
theorem st{P:Program}{l:Array Oper}{Q:Exit→Act→World→Prop}{o:Oper}{rest:List Oper}{a g:Act}{w w':World}(j:wpList P l Q rest g w')
 (h:∀K:Act→World→Prop,K g w'→if Region.wanted o (yielded l a.tmps)then o.wp P a w K Q else K (a.put o.dst undef) w:=by intro K d;go_simp;with_reducible exact d):wpList P l Q (o::rest) a w:=
 wpList_step fun K d=>h K (d _ _ j)
theorem sl{P:Program}{ops:Array Oper}{Q:Act→Prop}{o:Oper}{rest:List Oper}{a g:Act}{w:World}(j:wpStill P ops w Q rest g)
 (h:∀K:Act→Prop,K g→if Region.wanted o (yielded ops a.tmps)then o.still P a w K else K (a.put o.dst undef):=by intro K d;go_simp;first|with_reducible exact d|with_reducible exact⟨_,by assumption,d⟩):wpStill P ops w Q (o::rest) a:=
 wpStill_step fun K d=>h K (d _ j)
theorem ag{p:Prop}(h:p:=by(repeat with_reducible apply aE.set)<;>first|with_reducible exact aE.refl _ _|with_reducible assumption|rfl):p:=h
theorem aq{a:Act}{i:Nat}{v:Value}(h:At a i v:=by(repeat (first|(with_reducible exact At.self)|(with_reducible apply At.ne)));all_goals decide):At a i v:=h
theorem bS:(∀b:Bool,(b||false)=b)∧(∀b:Bool,(b||true)=true)∧(∀b:Bool,(b&&true)=b)∧(∀b:Bool,(b&&false)=false)∧(∀b:Bool,(false||b)=b)∧(∀b:Bool,(true||b)=true)∧(∀b:Bool,(true&&b)=b)∧(∀b:Bool,(false&&b)=false)∧(!true)=false∧(!false)=true:=
 ⟨Bool.or_false,Bool.or_true,Bool.and_true,Bool.and_false,Bool.false_or,Bool.true_or,Bool.true_and,Bool.false_and,rfl,rfl⟩
theorem so{P:Program}{c d:Code}{Q:Exit→Act→World→Prop}{a:Act}{w:World}(R:Act→World→Prop)(h:c.wp P (kD R) a w)(k:∀g w',R g w'→d.wp P Q g w'):(Code.seq c d).wp P Q a w:=wp_seq (Code.wp_only (R:=R) h k)
theorem aE.t{ws vs:Nat→Bool}{a b c:Act}(h:aE ws a b)(k:aE vs b c)(d:∀i,vs i=true→ws i=true:=by intro j;simp;omega):aE ws a c:=aE.trans h k d
theorem aE.m{ws vs:Nat→Bool}{a b:Act}(h:aE ws a b)(d:∀i,ws i=true→vs i=true:=by intro j;simp;omega):aE vs a b:=aE.mono h d
abbrev hh:=@Lib.hid
theorem dv{a:Act}{i:Nat}{u:Value}(h:∃v,At a i v∧v=u):At a i u:=by obtain⟨_,h,rfl⟩:=h;exact h
theorem oi{α:Type}{a b:α}(h:some a=some b):a=b:=ι h
theorem cr{w:World}{b j:Nat}{cs:Array Value}{t:TypeId}{f:Nat×Nat}{v:Value}(h:w.heap[b]?=some (.cells cs t f))(e:cs[j]?=some v):w.cell? ⟨b,j,none⟩=some v:=(cell_of_row _ _ _ _ _ _ h).trans e
theorem ge{α:Type}{l:List α}{i:Nat}(h:i<l.length):∃x,l[i]?=some x:=Exists.intro l[i] (θ h)
@[simp] abbrev rg(a b i:Nat):Bool:=decide (a≤i)&&decide (i≤b)
theorem ar{a:Act}{i:Nat}{v:Value}(h:At a i v:=by(repeat (first|(with_reducible exact At.self)|(with_reducible apply At.ne)));all_goals first|decide|with_reducible assumption):At a i v:=h
abbrev rl:=@wp_region_lit
abbrev ln:=@wpList_nil
abbrev Lz:=@wpList_step
abbrev Ez:=@List.getElem?_eq_getElem
def eS(l:List Bool):Nat:=(l.filter fun b =>!b).length
theorem dq:∀(l:List Bool) (i:Nat),l[i]?=some false→eS (l.set i true)+1=eS l
 | [],i,h=>by simp at h
 | b::l,0,h=>by
  have:b=false:=by simpa using h
  subst this;simp[eS]
 | b::l,i+1,h=>by
  have d:=dq l i (by simpa using h)
  cases b<;>simp[eS]at d⊢ <;> omega
section
variable {P:Program} {l:List Oper} {n:Nat}
def aN(l:List Oper)(i:Nat):Option Nat:=(l[i]?).bind (·.dst)
def lS(l:List Oper)(n:Nat):Bool:=
 decide (l.length=n+1)&&Region.sinkB .any l.toArray n&&Region.chainB .any l.toArray n &&
 ((List.range n).all fun i=>(aN l i).isSome&&(List.range n).all fun j=>i==j||aN l i !=aN l j) &&
 (List.range (n+1)).all fun i=>((l[i]?).map (·.after.all fun e =>!Region.binds .any e||decide (e.on<i))).getD true
def fJ(l:List Oper)(n:Nat)(a a':Act):Prop:=aE (fun s=>(List.range n).any fun i=>aN l i==some s) a a'
theorem fJ.agree{a d:Act}{ws:Nat→Bool}(h:fJ l n a d)(u:((List.range n).all fun i=>((aN l i).map ws).getD true)=true):aE ws a d:=by
 refine aE.mono h fun s q=>?_
 obtain⟨i,hi,j⟩:=List.any_eq_true.1 q;have g:=υ.1 u i hi;rw[eq_of_beq j]at g;exact g
structure Cm (l:List Oper) (n:Nat) (vs:Nat→Value) (a:Act) (listed:Array Bool) (a':Act):Prop where
 head:HeadInv .any l.toArray n listed
 base:fJ l n a a'
 QY:∀j d,j<n→listed.getD j false=true→aN l j=some d→At a' d (vs j)
theorem jG{id:Nat}{Q:Exit→Act→World→Prop}{a:Act}{w:World}(n:Nat)(vs:Nat→Value)(W:World→Prop)(hm:P.follows .mixedOrders=true)(hB:lS l n=true)(hw:W w.drew)
 (hop:∀i o,i<n→l[i]?=some o→∀a' w' K,W w'→fJ l n a a'→(∀j,(o.after.any fun e=>Region.binds .any e&&e.on==j)=true→j<n→∀d,aN l j=some d→At a' d (vs j)) →
  (∀w'',W w''→K (a'.put o.dst (vs i)) w'')→if Region.wanted o (yielded l.toArray a'.tmps)then o.wp P a' w' K Q else K (a'.put o.dst undef) w')
 (hlast:∀o,l[n]?=some o→∀a' w',W w'→fJ l n a a'→(∀j,j<n→∀d,aN l j=some d→At a' d (vs j))→wpList P l.toArray Q [o] a' w'):
 (Code.region id l.toArray true).wp P Q a w:=by
 simp only[lS,Bool.and_eq_true,decide_eq_true_eq]at hB;obtain⟨⟨⟨⟨hlen,hs⟩,hc⟩,hds⟩,hed⟩:=hB;have hdist:∀i j d,i<n→j<n→aN l i=some d→aN l j=some d→i=j:=fun i j d hi hj h1 h2=>by
  have h3:=υ.1 hds i (List.mem_range.2 hi);simp only[Bool.and_eq_true]at h3;have h4:=υ.1 h3.2 j (List.mem_range.2 hj);simp only[Bool.or_eq_true,beq_iff_eq,bne_iff_ne]at h4
  rcases h4 with h4|h4
  ·exact h4
  ·exact absurd (h1.trans h2.symm) h4
 have hn:n<l.toArray.size:=by simp[hlen]
 have key:∀(fuel:Nat) (listed:Array Bool) (a':Act) (w':World),eS listed.toList≤fuel→Cm l n vs a listed a'→W w'→wpAny P .any l.toArray Q fuel listed a' w':=by
  intro fuel
  induction fuel with
  | zero =>
   intro listed a' w' ho inv hw'
   exfalso
   have h1:=inv.head.tail n (Γ _) hn;have h2:n<listed.size:=by rw[inv.head.size];exact hn
   have h3:listed.toList[n]?=some false:=by
    have:=getD_both h1;simp[h2]at h1;rw[Array.getElem?_toList,Array.getElem?_eq_getElem h2,h1]
   have:=dq _ _ h3;omega
  | succ fuel ih =>
   intro listed a' w' ho inv hw';refine⟨fun hr=>?_,fun i hi=>?_⟩
   ·exfalso
    have:∀(k:Nat),k≤n→listed.getD k true=false→False:=by
     intro k
     induction k using Nat.strongRecOn with
     | _ k ihk =>
      intro hk hun;have hkl:k<l.length:=χ
      have hok:l.toArray[k]?=some l[k]:=by simp[hkl]
      by_cases hall:∀e∈l[k].after,Region.binds .any e=true→listed.getD e.on false=true
      ·have:k∈Region.ready .any l.toArray listed:=mem_ready.2 ⟨hun,l[k],hok,hall⟩
       rw[hr]at this
       cases this
      ·simp only[Classical.not_forall]at hall
       obtain⟨e,he,hb,hne⟩:=hall;have h3:=υ.1 hed k (List.mem_range.2 χ);rw[Ez hkl]at h3;simp only[Option.map_some,Option.getD_some]at h3;have h4:=Array.all_eq_true'.1 h3 e he;rw[hb]at h4;simp only[Bool.not_true,Bool.false_or,decide_eq_true_eq]at h4;refine ihk e.on h4 χ ?_;have h5:e.on<listed.size:=by rw[inv.head.size];simp;omega
       have h6:listed.getD e.on false=false:=by simpa using hne
       simp[h5]at h6⊢;exact h6
    exact this n (Γ _) (inv.head.tail n (Γ _) hn)
   ·obtain⟨hun,o,hoi,hall⟩:=mem_ready.1 hi
    have hil:i<l.length:=by have:=(ϱ.1 hoi).1;simpa using this
    have hoi2:l[i]?=some o:=by simpa using hoi
    have hdone:∀j,(o.after.any fun e=>Region.binds .any e&&e.on==j)=true→listed.getD j false=true:=fun j hj=>by
     obtain⟨e,he,h2⟩:=Array.any_eq_true'.1 hj;simp only[Bool.and_eq_true,beq_iff_eq]at h2;rw[←h2.2];exact hall e he h2.1
    have hopen:eS (listed.setIfInBounds i true).toList≤fuel:=by
     have h2:i<listed.size:=by rw[inv.head.size];simpa using hil
     have h3:listed.toList[i]?=some false:=by
      simp[h2]at hun;rw[Array.getElem?_toList,Array.getElem?_eq_getElem h2,hun]
     have:=dq _ _ h3;rw[Array.toList_setIfInBounds];omega
    by_cases hin:i<n
    ·obtain⟨di,hdi⟩:∃d,aN l i=some d:=by
      have h3:=υ.1 hds i (List.mem_range.2 hin);simp only[Bool.and_eq_true]at h3;exact Option.isSome_iff_exists.1 h3.1
     have hod:o.dst=some di:=by unfold aN at hdi;rw[hoi2]at hdi;exact hdi
     have h:=hop i o hin hoi2 a' w' (wpAny P .any l.toArray Q fuel (listed.setIfInBounds i true)) hw' inv.base (fun j hj hjn d hd=>inv.QY j d hjn (hdone j hj) hd)
      (fun w'' hw''=>ih _ _ _ hopen ⟨inv.head.set hi hin,by
       rw[hod];refine inv.base.put ?_ _;simp only[List.any_eq_true,beq_iff_eq];exact⟨i,List.mem_range.2 hin,hdi⟩,fun j d hj hl hd=>by
       rw[hod]
       by_cases hji:i=j
       ·subst hji
        have:d=di:=ι (hd.symm.trans hdi);subst this;exact At.put_self
       ·rw[getD_set_ne false hji]at hl
        refine(inv.QY j d hj hl hd).put_ne ?_;rintro rfl;exact hji (hdist i j di hin hj hdi hd)⟩ hw'')
     unfold wpOp;simp only[hoi];split
     ·rename_i hwt
      rw[if_pos hwt]at h;exact .inl h
     ·rename_i hwt
      rw[if_neg hwt]at h;exact h
    ·have hin2:i=n:=χ
     subst hin2;have hall2:∀j,j<i→listed.getD j false=true:=fun j hj=>by
      cases hlj:listed.getD j false with
      | true=>rfl
      | false =>
       have h5:j<listed.size:=by rw[inv.head.size];simp;omega
       exact absurd hi (tail_waits hs hc hn inv.head _ j rfl hj (getD_in h5 hlj) i (Γ _))
     have h:=hlast o hoi2 a' w' hw' inv.base (fun j hj d hd=>inv.QY j d hj (hall2 j hj) hd);have hr0:Region.ready .any l.toArray (listed.setIfInBounds i true)=[]:=by
      refine List.eq_nil_iff_forall_not_mem.2 fun j hj=>?_
      obtain⟨h1,o',ho',_⟩:=mem_ready.1 hj;have hjl:j<l.length:=by have:=(ϱ.1 ho').1;simpa using this
      by_cases hji:i=j
      ·subst hji
       have h5:i<listed.size:=by rw[inv.head.size];simpa using hjl
       simp[h5]at h1
      ·rw[getD_set_ne true hji]at h1
       have h6:=hall2 j χ;have h5:j<listed.size:=by rw[inv.head.size];simpa using hjl
       simp[h5]at h1 h6;rw[h6]at h1
       cases h1
     have hw2:wpOp P l.toArray Q i (wpList P l.toArray Q []) a' w':=by
      unfold wpOp;simp only[hoi];exact h
     refine wpOp_mono (fun a2 w2 h2=>?_) hw2
     cases fuel with
     | zero=>exact⟨hr0,h2⟩
     | succ f=>exact⟨fun _=>h2,fun k hk=>by rw[hr0]at hk;cases hk⟩
 refine wp_region_any hm (key _ _ a _ ?_ ⟨⟨ξ,fun j oj _ hl=>(by rw[getD_replicate_false]at hl;cases hl),fun t _ ht=>getD_in (by simpa using ht) (getD_replicate_false _ _)⟩,aE.refl _ _,fun j d _ hl _=>by rw[getD_replicate_false]at hl;cases hl⟩ hw);simp only[Array.toList_replicate,eS];exact Δ (List.length_filter_le _ _) ξ
end
section
variable {P:Program} {l:List Oper} {n:Nat}
def iz(l:List Oper)(n:Nat):Bool:=
 decide (l.length=n) &&
 ((List.range n).all fun i=>(List.range n).all fun j=>i==j||aN l i==none||aN l i !=aN l j) &&
 (List.range n).all fun i=>((l[i]?).map (·.after.all fun e =>!Region.binds .any e||decide (e.on<i))).getD true
structure xE (l:List Oper) (n:Nat) (I:(Nat→Bool)→Act→World→Prop) (V:Nat→World→Value→Prop) (a:Act) (listed:Array Bool) (a':Act) (w':World):Prop where
 size:listed.size=n
 base:fJ l n a a'
 world:I (fun j=>listed.getD j false) a' w'
 val:∀j d,j<n→listed.getD j false=true→aN l j=some d→∃v,At a' d v∧V j w' v
theorem xY{listed:Array Bool}(hl:l.length=n)(hs:listed.size=n)
 (hed:∀i o,l[i]?=some o→∀e∈o.after,Region.binds .any e=true→e.on<i)(hr:Region.ready .any l.toArray listed=[]):∀k,k<n→listed.getD k false=true:=by
 intro k
 induction k using Nat.strongRecOn with
 | _ k ihk =>
  intro hk
  cases hun:listed.getD k false with
  | true=>rfl
  | false =>
   exfalso
   have hkl:k<l.length:=χ
   have hok:l.toArray[k]?=some l[k]:=by simp[hkl]
   have:k∈Region.ready .any l.toArray listed:=mem_ready.2 ⟨getD_in χ hun,l[k],hok,fun e he hb=>by
    have h4:=hed k l[k] (Ez hkl) e he hb;have h5:=ihk e.on h4 χ;have h6:e.on<listed.size:=χ
    simp[h6]at h5⊢;exact h5⟩
   rw[hr]at this
   cases this
theorem iw{id:Nat}{Q:Exit→Act→World→Prop}{a:Act}{w:World}(n:Nat)(I:(Nat→Bool)→Act→World→Prop)(V:Nat→World→Value→Prop)(hm:P.follows .mixedOrders=true)(hB:iz l n=true)(h0:I (fun _=>false) a w.drew)
 (hop:∀i o,i<n→l[i]?=some o→∀(S:Nat→Bool) a' w' (K:Act→World→Prop),S i=false→(∀j,(o.after.any fun e=>Region.binds .any e&&e.on==j)=true→S j=true)→I S a' w'→fJ l n a a' →
  (∀j,S j=true→j<n→∀d,aN l j=some d→∃v,At a' d v∧V j w' v) →
  (∀v w'',I (fun j=>j==i||S j) (a'.put o.dst v) w''→(∀j u,S j=true→V j w' u→V j w'' u)→V i w'' v→K (a'.put o.dst v) w'') →
  if Region.wanted o (yielded l.toArray a'.tmps)then o.wp P a' w' K Q else K (a'.put o.dst undef) w')
 (hend:∀(S:Nat→Bool) a' w',(∀j,j<n→S j=true)→I S a' w'→fJ l n a a'→(∀j,j<n→∀d,aN l j=some d→∃v,At a' d v∧V j w' v)→Q .normal a' w'):
 (Code.region id l.toArray true).wp P Q a w:=by
 simp only[iz,Bool.and_eq_true,decide_eq_true_eq]at hB;obtain⟨⟨hlen,hds⟩,hed⟩:=hB;have hdist:∀i j d,i<n→j<n→aN l i=some d→aN l j=some d→i=j:=fun i j d hi hj h1 h2=>by
  have h3:=υ.1 (υ.1 hds i (List.mem_range.2 hi)) j (List.mem_range.2 hj);simp only[Bool.or_eq_true,beq_iff_eq,bne_iff_ne]at h3
  rcases h3 with(h4|h4)|h4
  ·exact h4
  ·rw[h4]at h1;cases h1
  ·exact absurd (h1.trans h2.symm) h4
 have hedge:∀i o,l[i]?=some o→∀e∈o.after,Region.binds .any e=true→e.on<i:=fun i o ho e he hb=>by
  have hi:i<n:=by have:=(ο.1 ho).1;omega
  have h3:=υ.1 hed i (List.mem_range.2 hi);rw[ho]at h3;simp only[Option.map_some,Option.getD_some]at h3;have h4:=Array.all_eq_true'.1 h3 e he;rw[hb]at h4
  simpa using h4
 have fin:∀listed a' w',xE l n I V a listed a' w'→(∀k,k<n→listed.getD k false=true)→Q .normal a' w':=fun listed a' w' inv hall =>
  hend _ a' w' hall inv.world inv.base fun j hj d hd=>inv.val j d hj (hall j hj) hd
 have key:∀(fuel:Nat) (listed:Array Bool) (a':Act) (w':World),eS listed.toList≤fuel→xE l n I V a listed a' w'→wpAny P .any l.toArray Q fuel listed a' w':=by
  intro fuel
  induction fuel with
  | zero =>
   intro listed a' w' ho inv;have hall:∀k,k<n→listed.getD k false=true:=fun k hk=>by
    cases hun:listed.getD k false with
    | true=>rfl
    | false =>
     exfalso
     have h2:k<listed.size:=by rw[inv.size];exact hk
     have h3:listed.toList[k]?=some false:=by
      simp[h2]at hun;rw[Array.getElem?_toList,Array.getElem?_eq_getElem h2,hun]
     have:=dq _ _ h3;omega
   refine⟨?_,fin listed a' w' inv hall⟩;refine List.eq_nil_iff_forall_not_mem.2 fun j hj=>?_
   obtain⟨h1,o',ho',_⟩:=mem_ready.1 hj;have hjl:j<l.length:=by have:=(ϱ.1 ho').1;simpa using this
   have h5:j<listed.size:=by rw[inv.size];omega
   have h6:=hall j χ;simp[h5]at h1 h6;rw[h1]at h6
   cases h6
  | succ fuel ih =>
   intro listed a' w' ho inv;refine⟨fun hr=>fin listed a' w' inv (xY hlen inv.size hedge hr),fun i hi=>?_⟩;obtain⟨hun,o,hoi,hall⟩:=mem_ready.1 hi;have hil:i<l.length:=by have:=(ϱ.1 hoi).1;simpa using this
   have hoi2:l[i]?=some o:=by simpa using hoi
   have hisz:i<listed.size:=by rw[inv.size];omega
   have hunf:listed.getD i false=false:=by
    simp[hisz]at hun⊢;exact hun
   have hdone:∀j,(o.after.any fun e=>Region.binds .any e&&e.on==j)=true→listed.getD j false=true:=fun j hj=>by
    obtain⟨e,he,h2⟩:=Array.any_eq_true'.1 hj;simp only[Bool.and_eq_true,beq_iff_eq]at h2;rw[←h2.2];exact hall e he h2.1
   have hopen:eS (listed.setIfInBounds i true).toList≤fuel:=by
    have h3:listed.toList[i]?=some false:=by
     simp[hisz]at hun;rw[Array.getElem?_toList,Array.getElem?_eq_getElem hisz,hun]
    have:=dq _ _ h3;rw[Array.toList_setIfInBounds];omega
   have hSe:(fun j=>(listed.setIfInBounds i true).getD j false)=fun j=>j==i||listed.getD j false:=by
    funext j
    by_cases hji:j=i
    ·subst hji;simp[hisz]
    ·rw[getD_set_ne false (fun h=>hji h.symm)]
     simp[hji]
   have h:=hop i o χ hoi2 (fun j=>listed.getD j false) a' w' (wpAny P .any l.toArray Q fuel (listed.setIfInBounds i true)) hunf hdone inv.world inv.base (fun j hj hjn d hd=>inv.val j d hjn hj hd)
    (fun v w'' hI hV hv=>ih _ _ _ hopen ⟨by rw[Array.size_setIfInBounds];exact inv.size,by
     cases hod:o.dst with
     | none=>rw[show a'.put none v=a' from rfl];exact inv.base
     | some di =>
      refine inv.base.put ?_ _;simp only[List.any_eq_true,beq_iff_eq];exact⟨i,List.mem_range.2 χ,by unfold aN;rw[hoi2];exact hod⟩,by rw[hSe];exact hI,fun j d hj hl hd=>by
     by_cases hji:i=j
     ·subst hji
      have hod:o.dst=some d:=by unfold aN at hd;rw[hoi2]at hd;exact hd
      rw[hod];exact⟨v,At.put_self,hv⟩
     ·rw[getD_set_ne false hji]at hl
      obtain⟨u,hu,hvu⟩:=inv.val j d hj hl hd;refine⟨u,?_,hV j u hl hvu⟩
      cases hod:o.dst with
      | none=>rw[show a'.put none v=a' from rfl];exact hu
      | some di =>
       refine hu.put_ne ?_;rintro rfl;exact hji (hdist i j di χ hj (by unfold aN;rw[hoi2];exact hod) hd)⟩)
   unfold wpOp;simp only[hoi];split
   ·rename_i hwt
    rw[if_pos hwt]at h;exact .inl h
   ·rename_i hwt
    rw[if_neg hwt]at h;exact h
 refine wp_region_any hm (key _ _ a _ ?_ ⟨by simp[hlen],aE.refl _ _,?_,fun j d _ hl _=>by rw[getD_replicate_false]at hl;cases hl⟩)
 ·simp only[Array.toList_replicate,eS]
  exact Δ (List.length_filter_le _ _) ξ
 ·have:(fun j=>(Array.replicate l.toArray.size false).getD j false)=fun _=>false:=by funext j;exact getD_replicate_false _ _
  rw[this];exact h0
theorem fV{id:Nat}{Q:Exit→Act→World→Prop}{a:Act}{w:World}(n:Nat)(I:(Nat→Bool)→World→Prop)(V:Nat→World→Value→Prop)(B:P.follows .mixedOrders=true)(y:iz l n=true)(x:I (fun _=>false) w.drew)
 (q:∀i o,i<n→l[i]?=some o→∀(S:Nat→Bool) a' w' (K:Act→World→Prop),S i=false→(∀j,(o.after.any fun e=>Region.binds .any e&&e.on==j)=true→S j=true)→I S w'→fJ l n a a' →
  (∀j,S j=true→j<n→∀d,aN l j=some d→∃v,At a' d v∧V j w' v) →
  (∀v g,I (fun j=>j==i||S j) g→(∀j u,S j=true→V j w' u→V j g u)→V i g v→K (a'.put o.dst v) g) →
  if Region.wanted o (yielded l.toArray a'.tmps)then o.wp P a' w' K Q else K (a'.put o.dst undef) w')
 (h:∀(S:Nat→Bool) a' w',(∀j,j<n→S j=true)→I S w'→fJ l n a a'→(∀j,j<n→∀d,aN l j=some d→∃v,At a' d v∧V j w' v)→Q .normal a' w'):
 (Code.region id l.toArray true).wp P Q a w:=
 iw n (fun S _ w=>I S w) V B y x q h
structure BP (l:List Oper) (n:Nat) (W:World→Prop) (V:Nat→World→Value→Prop) (a:Act) (listed:Array Bool) (a':Act) (w':World):Prop where
 head:HeadInv .any l.toArray n listed
 base:fJ l n a a'
 QY:∀j d,j<n→listed.getD j false=true→aN l j=some d→∃v,At a' d v∧V j w' v
theorem iy{id:Nat}{Q:Exit→Act→World→Prop}{a:Act}{w:World}(n:Nat)(V:Nat→World→Value→Prop)(W:World→Prop)(hm:P.follows .mixedOrders=true)(hB:lS l n=true)(hw:W w.drew)
 (hop:∀i o,i<n→l[i]?=some o→∀a' w' K,W w'→fJ l n a a'→(∀j,(o.after.any fun e=>Region.binds .any e&&e.on==j)=true→j<n→∀d,aN l j=some d→∃v,At a' d v∧V j w' v) →
  (∀v w'',W w''→(∀j u,V j w' u→V j w'' u)→V i w'' v→K (a'.put o.dst v) w'')→if Region.wanted o (yielded l.toArray a'.tmps)then o.wp P a' w' K Q else K (a'.put o.dst undef) w')
 (hlast:∀o,l[n]?=some o→∀a' w',W w'→fJ l n a a'→(∀j,j<n→∀d,aN l j=some d→∃v,At a' d v∧V j w' v)→wpList P l.toArray Q [o] a' w'):
 (Code.region id l.toArray true).wp P Q a w:=by
 simp only[lS,Bool.and_eq_true,decide_eq_true_eq]at hB;obtain⟨⟨⟨⟨hlen,hs⟩,hc⟩,hds⟩,hed⟩:=hB;have hdist:∀i j d,i<n→j<n→aN l i=some d→aN l j=some d→i=j:=fun i j d hi hj h1 h2=>by
  have h3:=υ.1 hds i (List.mem_range.2 hi);simp only[Bool.and_eq_true]at h3;have h4:=υ.1 h3.2 j (List.mem_range.2 hj);simp only[Bool.or_eq_true,beq_iff_eq,bne_iff_ne]at h4
  rcases h4 with h4|h4
  ·exact h4
  ·exact absurd (h1.trans h2.symm) h4
 have hn:n<l.toArray.size:=by simp[hlen]
 have key:∀(fuel:Nat) (listed:Array Bool) (a':Act) (w':World),eS listed.toList≤fuel→BP l n W V a listed a' w'→W w'→wpAny P .any l.toArray Q fuel listed a' w':=by
  intro fuel
  induction fuel with
  | zero =>
   intro listed a' w' ho inv hw'
   exfalso
   have h1:=inv.head.tail n (Γ _) hn;have h2:n<listed.size:=by rw[inv.head.size];exact hn
   have h3:listed.toList[n]?=some false:=by
    have:=getD_both h1;simp[h2]at h1;rw[Array.getElem?_toList,Array.getElem?_eq_getElem h2,h1]
   have:=dq _ _ h3;omega
  | succ fuel ih =>
   intro listed a' w' ho inv hw';refine⟨fun hr=>?_,fun i hi=>?_⟩
   ·exfalso
    have:∀(k:Nat),k≤n→listed.getD k true=false→False:=by
     intro k
     induction k using Nat.strongRecOn with
     | _ k ihk =>
      intro hk hun;have hkl:k<l.length:=χ
      have hok:l.toArray[k]?=some l[k]:=by simp[hkl]
      by_cases hall:∀e∈l[k].after,Region.binds .any e=true→listed.getD e.on false=true
      ·have:k∈Region.ready .any l.toArray listed:=mem_ready.2 ⟨hun,l[k],hok,hall⟩
       rw[hr]at this
       cases this
      ·simp only[Classical.not_forall]at hall
       obtain⟨e,he,hb,hne⟩:=hall;have h3:=υ.1 hed k (List.mem_range.2 χ);rw[Ez hkl]at h3;simp only[Option.map_some,Option.getD_some]at h3;have h4:=Array.all_eq_true'.1 h3 e he;rw[hb]at h4;simp only[Bool.not_true,Bool.false_or,decide_eq_true_eq]at h4;refine ihk e.on h4 χ ?_;have h5:e.on<listed.size:=by rw[inv.head.size];simp;omega
       have h6:listed.getD e.on false=false:=by simpa using hne
       simp[h5]at h6⊢;exact h6
    exact this n (Γ _) (inv.head.tail n (Γ _) hn)
   ·obtain⟨hun,o,hoi,hall⟩:=mem_ready.1 hi
    have hil:i<l.length:=by have:=(ϱ.1 hoi).1;simpa using this
    have hoi2:l[i]?=some o:=by simpa using hoi
    have hdone:∀j,(o.after.any fun e=>Region.binds .any e&&e.on==j)=true→listed.getD j false=true:=fun j hj=>by
     obtain⟨e,he,h2⟩:=Array.any_eq_true'.1 hj;simp only[Bool.and_eq_true,beq_iff_eq]at h2;rw[←h2.2];exact hall e he h2.1
    have hopen:eS (listed.setIfInBounds i true).toList≤fuel:=by
     have h2:i<listed.size:=by rw[inv.head.size];simpa using hil
     have h3:listed.toList[i]?=some false:=by
      simp[h2]at hun;rw[Array.getElem?_toList,Array.getElem?_eq_getElem h2,hun]
     have:=dq _ _ h3;rw[Array.toList_setIfInBounds];omega
    by_cases hin:i<n
    ·obtain⟨di,hdi⟩:∃d,aN l i=some d:=by
      have h3:=υ.1 hds i (List.mem_range.2 hin);simp only[Bool.and_eq_true]at h3;exact Option.isSome_iff_exists.1 h3.1
     have hod:o.dst=some di:=by unfold aN at hdi;rw[hoi2]at hdi;exact hdi
     have h:=hop i o hin hoi2 a' w' (wpAny P .any l.toArray Q fuel (listed.setIfInBounds i true)) hw' inv.base (fun j hj hjn d hd=>inv.QY j d hjn (hdone j hj) hd)
      (fun v w'' hw'' hV hv=>ih _ _ _ hopen ⟨inv.head.set hi hin,by
       rw[hod];refine inv.base.put ?_ _;simp only[List.any_eq_true,beq_iff_eq];exact⟨i,List.mem_range.2 hin,hdi⟩,fun j d hj hl hd=>by
       rw[hod]
       by_cases hji:i=j
       ·subst hji
        have:d=di:=ι (hd.symm.trans hdi);subst this;exact⟨v,At.put_self,hv⟩
       ·rw[getD_set_ne false hji]at hl
        obtain⟨u,hu,hvu⟩:=inv.QY j d hj hl hd;refine⟨u,hu.put_ne ?_,hV j u hvu⟩;rintro rfl;exact hji (hdist i j di hin hj hdi hd)⟩ hw'')
     unfold wpOp;simp only[hoi];split
     ·rename_i hwt
      rw[if_pos hwt]at h;exact .inl h
     ·rename_i hwt
      rw[if_neg hwt]at h;exact h
    ·have hin2:i=n:=χ
     subst hin2;have hall2:∀j,j<i→listed.getD j false=true:=fun j hj=>by
      cases hlj:listed.getD j false with
      | true=>rfl
      | false =>
       have h5:j<listed.size:=by rw[inv.head.size];simp;omega
       exact absurd hi (tail_waits hs hc hn inv.head _ j rfl hj (getD_in h5 hlj) i (Γ _))
     have h:=hlast o hoi2 a' w' hw' inv.base (fun j hj d hd=>inv.QY j d hj (hall2 j hj) hd);have hr0:Region.ready .any l.toArray (listed.setIfInBounds i true)=[]:=by
      refine List.eq_nil_iff_forall_not_mem.2 fun j hj=>?_
      obtain⟨h1,o',ho',_⟩:=mem_ready.1 hj;have hjl:j<l.length:=by have:=(ϱ.1 ho').1;simpa using this
      by_cases hji:i=j
      ·subst hji
       have h5:i<listed.size:=by rw[inv.head.size];simpa using hjl
       simp[h5]at h1
      ·rw[getD_set_ne true hji]at h1
       have h6:=hall2 j χ;have h5:j<listed.size:=by rw[inv.head.size];simpa using hjl
       simp[h5]at h1 h6;rw[h6]at h1
       cases h1
     have hw2:wpOp P l.toArray Q i (wpList P l.toArray Q []) a' w':=by
      unfold wpOp;simp only[hoi];exact h
     refine wpOp_mono (fun a2 w2 h2=>?_) hw2
     cases fuel with
     | zero=>exact⟨hr0,h2⟩
     | succ f=>exact⟨fun _=>h2,fun k hk=>by rw[hr0]at hk;cases hk⟩
 refine wp_region_any hm (key _ _ a _ ?_ ⟨⟨ξ,fun j oj _ hl=>(by rw[getD_replicate_false]at hl;cases hl),fun t _ ht=>getD_in (by simpa using ht) (getD_replicate_false _ _)⟩,aE.refl _ _,fun j d _ hl _=>by rw[getD_replicate_false]at hl;cases hl⟩ hw);simp only[Array.toList_replicate,eS];exact Δ (List.length_filter_le _ _) ξ
end
theorem BT{P:Program}{b b2 t:Nat}{R1 R2 body:Code}{Q:Exit→Act→World→Prop}{a:Act}{w:World}(n:Nat)(I I2 J:Nat→Act→World→Prop)(Done:Act→World→Prop)(idx:Act→Nat)(D:I 0 a w)
 (hi:∀k a w,I k a w→idx a=k)
 (E:∀k a w,I k a w→R1.wp P (kD fun d w'=>(d.eval (.tmp t)=.bool true∧k<n∧I2 k d w')∨(d.eval (.tmp t)=.bool false∧Done d w')) a w)
 (N:∀k a w,k<n→I2 k a w→body.wp P (bi b b2 (J k) Q) a w)
 (H:∀k a w,k<n→J k a w→R2.wp P (kD (I (k+1))) a w)
 (O:∀a w,Done a w→Q .normal a w):
 (Code.block b (Code.loop (Code.seq (Code.seq R1 (Code.cond (.tmp t) .skip (.exit b))) (Code.seq (Code.block b2 body) R2)))).wp P Q a w:=by
 refine wp_block (wp_loop (fun a w=>∃k,I k a w) (fun a _=>n-idx a) ⟨0,D⟩ ?_);rintro a w ⟨k,B⟩;refine wp_seq (wp_seq (Code.wp_only (E k a w B) fun x C h=>?_))
 rcases h with⟨v,j,u⟩|⟨v,K⟩
 ·refine wp_cond_true v (wp_skip ?_)
  refine wp_seq (wp_block (wp_mono (N k x C j u) fun e g q hh=>?_));have fin:∀g q,J k g q→R2.wp P (Exit.then (fun d w'=>(∃k,I k d w')∧n-idx d<n-idx a) (Exit.inBlock b Q)) g q:=fun g q L =>
   Code.wp_only (H k g q j L) fun R U y=>⟨⟨k+1,y⟩,by rw[hi _ _ _ y,hi _ _ _ B];omega⟩
  cases e with
  | normal=>exact fin _ _ hh
  | exit id =>
   simp only[bi]at hh;simp only[Exit.inBlock,Exit.then]
   by_cases e2:id=b2
   ·simp only[e2,if_true]at hh⊢; exact fin _ _ hh
   ·simp only[e2,if_false]at hh⊢
    by_cases e1:id=b
    ·simp only[e1,if_true]at hh⊢; exact hh
    ·simp only[e1,if_false]at hh⊢; exact hh
  | goto l=>exact hh
  | ret=>exact hh
  | panic c=>exact hh
  | outgrown=>exact hh
 ·refine wp_cond_false v (wp_exit ?_)
  show Exit.inBlock b Q (.exit b) x C;simp only[Exit.inBlock,if_true];exact O _ _ K
theorem qv{P:Program}{b b2 t:Nat}{R1 R2 body:Code}{Q:Exit→Act→World→Prop}{a:Act}{w:World}(n:Nat)(I J:Nat→Act→World→Prop)(idx:Act→Nat)(l:I 0 a w)
 (hi:∀k a w,I k a w→idx a=k)
 (q:∀k a w,k≤n→I k a w→R1.wp P (kD fun g w'=>I k g w'∧g.eval (.tmp t)=.bool (decide (k<n))) a w)
 (v:∀k a w,k<n→I k a w→body.wp P (bi b b2 (J k) Q) a w)
 (u:∀k a w,k<n→J k a w→R2.wp P (kD (I (k+1))) a w)
 (y:∀a w,I n a w→Q .normal a w):
 (Code.block b (Code.loop (Code.seq (Code.seq R1 (Code.cond (.tmp t) .skip (.exit b))) (Code.seq (Code.block b2 body) R2)))).wp P Q a w:=by
 refine BT n (fun k a w=>k≤n∧I k a w) (fun k a w=>k≤n∧I k a w) J (fun a w=>I n a w) idx ⟨Nat.zero_le _,l⟩ (fun k a w h=>hi k a w h.2) (fun k a w ⟨hk,h⟩=>Code.wp_only (q k a w hk h) fun B C ⟨d,j⟩=>⟨rfl,?_⟩) (fun k a w hk h=>v k a w hk h.2)
  (fun k a w hk h=>wp_mono (u k a w hk h) fun e g w' ⟨x,h⟩=>⟨x,hk,h⟩) y
 by_cases hlt:k<n
 ·exact .inl ⟨by rw[j,decide_eq_true hlt],hlt,hk,d⟩
 ·have:k=n:=χ
  subst this;exact .inr ⟨by rw[j,decide_eq_false hlt],d⟩
