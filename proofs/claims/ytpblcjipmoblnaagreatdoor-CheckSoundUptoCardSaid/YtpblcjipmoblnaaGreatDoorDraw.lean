import Derived.Test.YtpblcjipmoblnaaGreatDoorW
import Derived.Lib.Hide
import Derived.WalkKit
import Derived.StillTailTactics
set_option maxRecDepth 100000
set_option linter.all false
set_option maxHeartbeats 4000000
namespace Go.Proofs.YtpblcjipmoblnaaGreatDoor
open Go.RowKit
def Code.part:List Nat→Code→Code
 | [],c=>c
 | 0::p,.seq a _=>Code.part p a
 | 1::p,.seq _ b=>Code.part p b
 | 0::p,.cond _ a _=>Code.part p a
 | 1::p,.cond _ _ b=>Code.part p b
 | 0::p,.block _ b=>Code.part p b
 | 0::p,.loop b=>Code.part p b
 | 0::p,.scope b=>Code.part p b
 | _,c=>c
def bE(f:Func)(p:List Nat):Code:=Code.part p (f.body.getD .skip)
theorem gH:ByteArray.toList { data := #[] }=[]:=by
 unfold ByteArray.toList;rw[ByteArray.toList.loop];simp[ByteArray.size]
theorem kB(n k:Int):(n==k)=decide (n=k):=rfl
theorem Af(n k:Int):(n !=k)=!decide (n=k):=rfl
theorem eQ(n k:Nat):((n:Int)==(k:Int))=decide (n=k):=by rw[kB];exact decide_eq_decide.2 χ
theorem al:undef=Value.tuple #[]:=rfl
abbrev At(a:Act)(i:Nat)(v:Value):Prop:=∀h,a.tmps[i]'h=v
structure aA (ws:Nat→Bool) (a a':Act):Prop where
 size:a'.tmps.size=a.tmps.size
 defers:a'.defers=a.defers
 get:∀i,ws i=false→a'.tmps[i]?=a.tmps[i]?
namespace aA
variable {ws vs us:Nat→Bool} {a b c:Act}
theorem refl(ws:Nat→Bool)(a:Act):aA ws a a:=⟨rfl,rfl,fun _ _=>rfl⟩
theorem trans(h:aA ws a b)(k:aA vs b c)(hv:∀i,vs i=true→ws i=true):aA ws a c:=
 ⟨k.size.trans h.size,k.defers.trans h.defers,fun i d=>(k.get i (by cases e:vs i with|false=>rfl|true=>rw[hv i e]at d;cases d)).trans (h.get i d)⟩
theorem mono(h:aA ws a b)(hv:∀i,ws i=true→vs i=true):aA vs a b:=
 ⟨h.size,h.defers,fun i d=>h.get i (by cases e:ws i with|false=>rfl|true=>rw[hv i e]at d;cases d)⟩
theorem put(h:aA ws a b){i:Nat}(l:ws i=true)(v:Value):aA ws a (b.put (some i) v):=
 ⟨by simpa[Act.put]using h.size,h.defers,fun j g=>by
  have d:i≠j:=by rintro rfl;rw[l]at g;cases g
  simp only[Act.put,Array.getElem?_setIfInBounds_ne d];exact h.get j g⟩
theorem set{T:Array Value}{d:List Deferred}(h:aA ws a ⟨T,d⟩){i:Nat}(g:ws i=true)(v:Value):aA ws a ⟨T.setIfInBounds i v,d⟩:=h.put g v
theorem Q7(h:aA ws a b){i:Nat}{v:Value}(hv:At a i v)(l:ws i=false):At b i v:=fun j=>by
 have d:i<a.tmps.size:=by rw[←h.size];exact j
 have g:=h.get i l;rw[Array.getElem?_eq_getElem j,Array.getElem?_eq_getElem d]at g;exact(Option.some.inj g).trans (hv d)
end aA
theorem At.put_self{a:Act}{i:Nat}{v:Value}:At (a.put (some i) v) i v:=fun d=>by simp[Act.put]
theorem At.put_ne{a:Act}{i j:Nat}{v u:Value}(h:At a i v)(d:j≠i):At (a.put (some j) u) i v:=fun l=>by
 have g:i<a.tmps.size:=by simpa[Act.put]using l
 exact(Array.getElem_setIfInBounds_ne g d).trans (h g)
theorem At.self{T:Array Value}{d:List Deferred}{i:Nat}{v:Value}:At ⟨T.setIfInBounds i v,d⟩ i v:=At.put_self (a:=⟨T,d⟩)
theorem At.ne{T:Array Value}{d:List Deferred}{i j:Nat}{v u:Value}(h:At ⟨T,d⟩ i v)(g:j≠i):At ⟨T.setIfInBounds j u,d⟩ i v:=At.put_ne (a:=⟨T,d⟩) h g
theorem At.eval{a:Act}{i:Nat}{v:Value}(h:At a i v)(d:i<a.tmps.size):a.eval (.tmp i)=v:=by
 show a.tmps.getD i undef=v;rw[Array.getD_eq_getD_getElem?,Array.getElem?_eq_getElem d];exact h d
theorem b9{P:Program}{f:FuncId}{fn:Func}{N:Nat}{args:Array Value}{w:World}{R:Ending→World→Prop}(l:P.funcs[f]?=some fn)(g:fn.ntmps=N)(j:fn.body.isSome=true)(q:args.size≤N)
 (h:∀a:Act,a.tmps.size=N→a.defers=[]→(∀i v,args[i]?=some v→At a i v)→(bE fn []).wp P (bodyPost P fn R) a w):Calls P f args w R:=by
 obtain⟨c,d⟩:=Option.isSome_iff_exists.1 j;have e:bE fn []=c:=by unfold bE;rw[d];rfl
 rw[e]at h;refine calls_of_wp l d (h _ ?_ rfl fun i v hv=>?_)
 ·simp[g];omega
 ·intro r
  have p:i<args.size:=(Array.getElem?_eq_some_iff.1 hv).1;show(args++Array.replicate (fn.ntmps-args.size) undef)[i]=v;rw[Array.getElem_append_left p];exact(Array.getElem?_eq_some_iff.1 hv).2
theorem ek{P:Program}{fn:Func}{R:Ending→World→Prop}{a:Act}{w:World}(h:fn.results = #[])(g:a.defers=[])(d:R (.returned (.tuple #[])) w):bodyPost P fn R .normal a w:=
 bodyPost_end (results_none h _ _ _) g d
theorem bk{P:Program}{fn:Func}{R:Ending→World→Prop}{a:Act}{w:World}{t:Tmp}{v:Value}(h:fn.results = #[.tmp t])(l:At a t v)(j:t<a.tmps.size)(g:a.defers=[])(d:R (.returned v) w):bodyPost P fn R .ret a w:=
 bodyPost_ret (v:=v) (by rw[results_tmp h,show a.tmps.getD t undef=v from l.eval j]) g d
def kK(R:Act→World→Prop):Exit→Act→World→Prop:=fun e a w=>e=.normal∧R a w
theorem Code.wp_only{P:Program}{c:Code}{R:Act→World→Prop}{Q:Exit→Act→World→Prop}{a:Act}{w:World}(h:c.wp P (kK R) a w)(j:∀d w',R d w'→Q .normal d w'):c.wp P Q a w:=
 wp_mono h fun e d w' ⟨g,l⟩=>by subst g;exact j d w' l
theorem bu{K:Act→World→Prop}{Q:Exit→Act→World→Prop}{a:Act}{w:World}(h:K a w):Exit.then K Q .normal a w:=h
theorem g9{K:Act→World→Prop}{Q:Exit→Act→World→Prop}{id:Nat}{a:Act}{w:World}(h:Q (.exit id) a w):Exit.then K Q (.exit id) a w:=h
theorem bH{K:Act→World→Prop}{Q:Exit→Act→World→Prop}{a:Act}{w:World}(h:Q .ret a w):Exit.then K Q .ret a w:=h
theorem jc{id:Nat}{K:Act→World→Prop}{Q:Exit→Act→World→Prop}{a:Act}{w:World}(h:K a w):Exit.inBlock id (Exit.then K Q) .normal a w:=h
def cC(b b2:Nat)(J:Act→World→Prop)(Q:Exit→Act→World→Prop):Exit→Act→World→Prop
 | .normal,a,w=>J a w
 | .exit id,a,w=>if id=b2 then J a w else if id=b then Q .normal a w else Q (.exit id) a w
 | e,a,w=>Q e a w
theorem b7{b d:Nat}{J:Act→World→Prop}{Q:Exit→Act→World→Prop}{a:Act}{w:World}(h:Q .ret a w):cC b d J Q .ret a w:=h
theorem sj{P:Program}{b r t:Nat}{R1 R2 body:Code}{Q:Exit→Act→World→Prop}{a:Act}{w:World}(n:Nat)(I J:Nat→Act→World→Prop)(idx:Act→Nat)(B:I 0 a w)
 (y:∀k a w,I k a w→idx a=k)
 (C:∀k a w,k≤n→I k a w→R1.wp P (kK fun g w'=>I k g w'∧g.eval (.tmp t)=.bool (decide (k<n))) a w)
 (H:∀k a w,k<n→I k a w→body.wp P (cC b r (J k) Q) a w)
 (D:∀k a w,k<n→J k a w→R2.wp P (kK (I (k+1))) a w)
 (L:∀a w,I n a w→Q .normal a w):
 (Code.block b (Code.loop (Code.seq R1 (Code.seq (Code.cond (.tmp t) .skip (.exit b)) (Code.seq (Code.block r body) R2))))).wp P Q a w:=by
 refine wp_block (wp_loop (fun a w=>∃k,k≤n∧I k a w) (fun a _=>n-idx a) ⟨0,Nat.zero_le _,B⟩ ?_);rintro a w ⟨k,hk,x⟩;refine wp_seq (Code.wp_only (C k a w hk x) fun u A ⟨p,N⟩=>?_);refine wp_seq ?_;refine wp_cond_split N (fun h=>wp_skip ?_) (fun h=>wp_exit ?_)
 ·have d:k<n:=of_decide_eq_true h
  refine wp_seq (wp_block (wp_mono (H k u A d p) fun e j q hh=>?_));have fin:∀j q,J k j q→R2.wp P (Exit.then (fun g w'=>(∃k,k≤n∧I k g w')∧n-idx g<n-idx a) (Exit.inBlock b Q)) j q:=fun j q E =>
   Code.wp_only (D k j q d E) fun O R v=>⟨⟨k+1,d,v⟩,by rw[y _ _ _ v,y _ _ _ x];omega⟩
  cases e with
  | normal=>exact fin _ _ hh
  | exit id =>
   simp only[cC]at hh;simp only[Exit.inBlock,Exit.then]
   by_cases e2:id=r
   ·simp only[e2,if_true]at hh⊢; exact fin _ _ hh
   ·simp only[e2,if_false]at hh⊢
    by_cases e1:id=b
    ·simp only[e1,if_true]at hh⊢; exact hh
    ·simp only[e1,if_false]at hh⊢; exact hh
  | goto l=>exact hh
  | ret=>exact hh
  | panic c=>exact hh
  | outgrown=>exact hh
 ·have K:¬ k<n:=of_decide_eq_false h
  have:k=n:=χ
  subst this;show Exit.inBlock b Q (.exit b) u A;simp only[Exit.inBlock,if_true];exact L _ _ p
theorem BL(ty:TypeId)(x:Int)(d : -9223372036854775808≤x)(g:x<9223372036854775807)(P:Program)(w:World):(binOp .add ty (.int .i64 x) (.int .i64 1)).run P w=.ok (.int .i64 (x+1)) w:=by
 simp[go_sem];exact IntWalk.i64_in _ χ
theorem iU{P:Program}{d:Array Oper}{Q:Exit→Act→World→Prop}{a:Act}{w w':World}{rest:List Oper}{o:Oper}{v:Value}(j:o.guard=none)(l:(execOp a.eval o).run P w=.ok (.value v) w')
 (h:wpList P d Q rest (a.put o.dst v) w'):wpList P d Q (o::rest) a w:=
 wpList_plain j fun K g=>by unfold Oper.wp;rw[l];exact g _ _ h
theorem zn{P:Program}{id t i m:Nat}{ty d g:TypeId}{q:String}{j:Array Edge}{Q:Exit→Act→World→Prop}{a:Act}{w:World}(x y:Int)(l:a.eval (.tmp i)=.int .i64 x)(p:a.eval (.tmp m)=.int .i64 y)
 (h:Q .normal (a.put (some t) (.bool (decide (x<y)))) w):
 (Code.region id #[{ dst:=some t,op:=Op.binOp .lss ty (.tmp i) (.tmp m) d,type:=g,pos:=q,after:=j,guard:=none }] false).wp P Q a w:=by
 refine wp_region_lit (iU rfl ?_ (wpList_nil h));unfold execOp;simp only[l,p];simp[eqGuard,go_sem]
theorem BZ{P:Program}{id t i:Nat}{ty j l p:TypeId}{B g:String}{q d:Array Edge}{Q:Exit→Act→World→Prop}{a:Act}{w:World}(x:Int)(y:a.eval (.tmp i)=.int .i64 x)(C:0≤x)(u:x<9223372036854775807)(A:t<a.tmps.size)
 (h:Q .normal ((a.put (some t) (.int .i64 (x+1))).put (some i) (.int .i64 (x+1))) w):
 (Code.region id #[{ dst:=some t,op:=Op.binOp .add ty (.tmp i) (.const (.int .i64 1)) j,type:=l,pos:=B,after:=q,guard:=none },{ dst:=some i,op:=Op.move (.tmp t),type:=p,pos:=g,after:=d,guard:=none }] false).wp P Q a w:=by
 have e:(a.put (some t) (.int .i64 (x+1))).eval (.tmp t)=.int .i64 (x+1):=At.eval At.put_self (by simpa[Act.put]using A);have r:a.eval (.const (.int .i64 1))=.int .i64 1:=rfl;refine wp_region_lit (iU (v := .int .i64 (x+1)) (w':=w) rfl ?_ (iU (v := .int .i64 (x+1)) (w':=w) rfl ?_ (wpList_nil h)))
 ·unfold execOp
  simp only[y,r];have:=BL ty x χ u P w;simp[eqGuard,go_sem]at this⊢;exact this
 ·unfold execOp
  simp only[e];rfl
theorem bj{P:Program}{b H O R t i m A:Nat}{X Y Z ac ad af a0:TypeId}{S U V:String}{C D E:Array Edge}{body:Code}{Q:Exit→Act→World→Prop}{a:Act}{w:World}(n:Nat)(ws vs:Nat→Bool)
 (Inv:Nat→Act→World→Prop)(hn:n≤4611686018427387904)(hi:At a i (.int .i64 0))(hm:At a m (.int .i64 n))(N:ws t=true∧ws i=true∧ws A=true∧ws m=false)(K:vs i=false)(L:∀j,vs j=true→ws j=true)
 (I:t<a.tmps.size∧i<a.tmps.size∧A<a.tmps.size∧m<a.tmps.size)(J:t≠i)
 (y:∀k a1 p w,aA (fun j=>j==t||j==i||j==A) a1 p→Inv k a1 w→Inv k p w)(h0:Inv 0 a w)
 (hb:∀(k:Nat) d w',k<n→aA ws a d→At d i (.int .i64 k)→Inv k d w'→body.wp P (cC b H (fun v a3=>aA vs d v∧Inv (k+1) v a3) Q) d w')
 (hq:∀d w',aA ws a d→Inv n d w'→Q .normal d w'):
 (Code.block b (Code.loop (Code.seq (Code.region O #[{ dst:=some t,op:=Op.binOp .lss X (.tmp i) (.tmp m) Y,type:=Z,pos:=S,after:=C,guard:=none }] false) (Code.seq (Code.cond (.tmp t) .skip (.exit b)) (Code.seq (Code.block H body)
  (Code.region R #[{ dst:=some A,op:=Op.binOp .add ac (.tmp i) (.const (.int .i64 1)) ad,type:=af,pos:=U,after:=D,guard:=none },{ dst:=some i,op:=Op.move (.tmp A),type:=a0,pos:=V,after:=E,guard:=none }] false)))))).wp P Q a w:=by
 obtain⟨w1,u,w3,w4⟩:=N;obtain⟨s1,W,s3,s4⟩:=I;refine sj n (fun k d w'=>aA ws a d∧At d i (.int .i64 k)∧Inv k d w') (fun k d w'=>aA ws a d∧At d i (.int .i64 k)∧Inv (k+1) d w') (fun a=>match a.eval (.tmp i)with|.int _ x=>x.toNat|_=>0) ⟨aA.refl _ _,hi,h0⟩ ?_ ?_ ?_ ?_ ?_
 ·rintro k d w' ⟨g,hk,_⟩
  rw[hk.eval (by rw[g.size];exact W)];simp
 ·rintro k d w' r ⟨g,hk,q⟩
  have e1:=hk.eval (by rw[g.size];exact W);have B:=(g.Q7 hm w4).eval (by rw[g.size];exact s4);refine zn k n e1 B ⟨rfl,⟨g.put w1 _,hk.put_ne J,y _ _ _ _ ((aA.refl _ _).put ξ _) q⟩,?_⟩;rw[At.eval At.put_self (by simpa[Act.put]using(g.size▸s1))];simp
 ·rintro k d w' r ⟨g,hk,q⟩
  refine wp_mono (hb k d w' r g hk q) fun e p u hh=>?_
  have fin:∀p u,(aA vs d p∧Inv (k+1) p u)→(aA ws a p∧At p i (.int .i64 k)∧Inv (k+1) p u):=fun p u h=>⟨g.trans h.1 L,h.1.Q7 hk K,h.2⟩
  cases e with
  | normal=>exact fin _ _ hh
  | exit id =>
   simp only[cC]at hh⊢
   by_cases B:id=H
   ·simp only[B,if_true]at hh⊢; exact fin _ _ hh
   ·simp only[B,if_false]at hh⊢; exact hh
  | goto l=>exact hh
  | ret=>exact hh
  | panic c=>exact hh
  | outgrown=>exact hh
 ·rintro k d w' r ⟨g,hk,q⟩
  refine BZ k (hk.eval (by rw[g.size];exact W)) χ χ (by rw[g.size];exact s3) ⟨rfl,(g.put w3 _).put u _,?_,y _ _ _ _ (((aA.refl _ _).put ξ _).put ξ _) q⟩;have:((k:Int)+1)=((k+1:Nat):Int):=χ
  rw[this];exact At.put_self
 ·rintro d w' ⟨g,_,q⟩
  exact hq _ _ g q
theorem xS{P:Program}{b g t:Nat}{R1 body:Code}{Q:Exit→Act→World→Prop}{a:Act}{w:World}(I:Act→World→Prop)(μ:Act→World→Nat)(J:Nat→Act→World→Prop)(Done:Act→World→Prop)(r:I a w)
 (u:∀a w,I a w→R1.wp P (kK fun d w'=>(d.eval (.tmp t)=.bool true∧J (μ a w) d w')∨(d.eval (.tmp t)=.bool false∧Done d w')) a w)
 (A:∀m a w,J m a w→body.wp P (cC b g (fun d w'=>I d w'∧μ d w'<m) Q) a w)
 (B:∀a w,Done a w→Q .normal a w):
 (Code.block b (Code.loop (Code.seq R1 (Code.seq (Code.cond (.tmp t) .skip (.exit b)) (Code.block g body))))).wp P Q a w:=by
 refine wp_block (wp_loop I μ r ?_);intro a w x;refine wp_seq (Code.wp_only (u a w x) fun p q h=>?_)
 rcases h with⟨j,y⟩|⟨j,v⟩
 ·refine wp_seq (wp_cond_true j (wp_skip (wp_block (wp_mono (A _ p q y) fun e C D hh=>?_))))
  cases e with
  | normal=>exact hh
  | exit id =>
   simp only[cC]at hh;simp only[Exit.inBlock,Exit.then]
   by_cases e2:id=g
   ·simp only[e2,if_true]at hh⊢; exact hh
   ·simp only[e2,if_false]at hh⊢
    by_cases e1:id=b
    ·simp only[e1,if_true]at hh⊢; exact hh
    ·simp only[e1,if_false]at hh⊢; exact hh
  | goto l=>exact hh
  | ret=>exact hh
  | panic c=>exact hh
  | outgrown=>exact hh
 ·refine wp_seq (wp_cond_false j (wp_exit ?_))
  show Exit.inBlock b Q (.exit b) p q;simp only[Exit.inBlock,if_true];exact B _ _ v
theorem st{P:Program}{l:Array Oper}{Q:Exit→Act→World→Prop}{o:Oper}{rest:List Oper}{a g:Act}{w w':World}(j:wpList P l Q rest g w')
 (h:∀K:Act→World→Prop,K g w'→if Region.wanted o (yielded l a.tmps)then o.wp P a w K Q else K (a.put o.dst undef) w:=by intro K d;go_simp;with_reducible exact d):wpList P l Q (o::rest) a w:=
 wpList_step fun K d=>h K (d _ _ j)
theorem sl{P:Program}{d:Array Oper}{Q:Act→Prop}{o:Oper}{rest:List Oper}{a j:Act}{w:World}(l:wpStill P d w Q rest j)
 (h:∀K:Act→Prop,K j→if Region.wanted o (yielded d a.tmps)then o.still P a w K else K (a.put o.dst undef):=by intro K g;go_simp;first|with_reducible exact g|with_reducible exact⟨_,by assumption,g⟩):wpStill P d w Q (o::rest) a:=
 wpStill_step fun K g=>h K (g _ l)
theorem ag{p:Prop}(h:p:=by(repeat with_reducible apply aA.set)<;>first|with_reducible exact aA.refl _ _|with_reducible assumption|rfl):p:=h
theorem aq{a:Act}{i:Nat}{v:Value}(h:At a i v:=by(repeat (first|(with_reducible exact At.self)|(with_reducible apply At.ne)));all_goals decide):At a i v:=h
theorem bS:(∀b:Bool,(b||false)=b)∧(∀b:Bool,(b||true)=true)∧(∀b:Bool,(b&&true)=b)∧(∀b:Bool,(b&&false)=false)∧(∀b:Bool,(false||b)=b)∧(∀b:Bool,(true||b)=true)∧(∀b:Bool,(true&&b)=b)∧(∀b:Bool,(false&&b)=false)∧(!true)=false∧(!false)=true:=
 ⟨Bool.or_false,Bool.or_true,Bool.and_true,Bool.and_false,Bool.false_or,Bool.true_or,Bool.true_and,Bool.false_and,rfl,rfl⟩
theorem so{P:Program}{c d:Code}{Q:Exit→Act→World→Prop}{a:Act}{w:World}(R:Act→World→Prop)(h:c.wp P (kK R) a w)(k:∀g w',R g w'→d.wp P Q g w'):(Code.seq c d).wp P Q a w:=wp_seq (Code.wp_only (R:=R) h k)
theorem aA.t{ws vs:Nat→Bool}{a b c:Act}(h:aA ws a b)(k:aA vs b c)(hv:∀i,vs i=true→ws i=true:=by intro j;simp;omega):aA ws a c:=aA.trans h k hv
theorem aA.m{ws vs:Nat→Bool}{a b:Act}(h:aA ws a b)(hv:∀i,ws i=true→vs i=true:=by intro j;simp;omega):aA vs a b:=aA.mono h hv
abbrev hh:=@Lib.hid
theorem dv{a:Act}{i:Nat}{u:Value}(h:∃v,At a i v∧v=u):At a i u:=by obtain⟨_,h,rfl⟩:=h;exact h
theorem oi{α:Type}{a b:α}(h:some a=some b):a=b:=Option.some.inj h
theorem cr{w:World}{b j:Nat}{cs:Array Value}{t:TypeId}{f:Nat×Nat}{v:Value}(h:w.heap[b]?=some (.cells cs t f))(e:cs[j]?=some v):w.cell? ⟨b,j,none⟩=some v:=(cell_of_row _ _ _ _ _ _ h).trans e
theorem ge{α:Type}{l:List α}{i:Nat}(h:i<l.length):∃x,l[i]?=some x:=Exists.intro l[i] (List.getElem?_eq_getElem h)
@[simp] abbrev rg(a b i:Nat):Bool:=decide (a≤i)&&decide (i≤b)
theorem ar{a:Act}{i:Nat}{v:Value}(h:At a i v:=by(repeat (first|(with_reducible exact At.self)|(with_reducible apply At.ne)));all_goals first|decide|with_reducible assumption):At a i v:=h
abbrev rl:=@wp_region_lit
abbrev ln:=@wpList_nil
abbrev Lz:=@wpList_step
abbrev Ez:=@List.getElem?_eq_getElem
def dl(l:List Bool):Nat:=(l.filter fun b =>!b).length
theorem dL:∀(l:List Bool) (i:Nat),l[i]?=some false→dl (l.set i true)+1=dl l
 | [],i,h=>by simp at h
 | b::l,0,h=>by
  have:b=false:=by simpa using h
  subst this;simp[dl]
 | b::l,i+1,h=>by
  have d:=dL l i (by simpa using h)
  cases b<;>simp[dl]at d⊢ <;> omega
section
variable {P:Program} {l:List Oper} {n:Nat}
def av(l:List Oper)(i:Nat):Option Nat:=(l[i]?).bind (·.dst)
def oc(l:List Oper)(n:Nat):Bool:=
 decide (l.length=n+1)&&Region.sinkB .any l.toArray n&&Region.chainB .any l.toArray n &&
 ((List.range n).all fun i=>(av l i).isSome&&(List.range n).all fun j=>i==j||av l i !=av l j) &&
 (List.range (n+1)).all fun i=>((l[i]?).map (·.after.all fun e =>!Region.binds .any e||decide (e.on<i))).getD true
def kr(l:List Oper)(n:Nat)(a a':Act):Prop:=aA (fun s=>(List.range n).any fun i=>av l i==some s) a a'
theorem kr.agree{a d:Act}{ws:Nat→Bool}(h:kr l n a d)(r:((List.range n).all fun i=>((av l i).map ws).getD true)=true):aA ws a d:=by
 refine aA.mono h fun s q=>?_
 obtain⟨i,p,j⟩:=List.any_eq_true.1 q;have g:=List.all_eq_true.1 r i p;rw[eq_of_beq j]at g;exact g
structure BQ (l:List Oper) (n:Nat) (vs:Nat→Value) (a:Act) (listed:Array Bool) (a':Act):Prop where
 head:HeadInv .any l.toArray n listed
 base:kr l n a a'
 QY:∀j d,j<n→listed.getD j false=true→av l j=some d→At a' d (vs j)
theorem jJ{id:Nat}{Q:Exit→Act→World→Prop}{a:Act}{w:World}(n:Nat)(vs:Nat→Value)(W:World→Prop)(hm:P.follows .mixedOrders=true)(hB:oc l n=true)(hw:W w.drew)
 (hop:∀i o,i<n→l[i]?=some o→∀a' w' K,W w'→kr l n a a'→(∀j,(o.after.any fun e=>Region.binds .any e&&e.on==j)=true→j<n→∀d,av l j=some d→At a' d (vs j)) →
  (∀w'',W w''→K (a'.put o.dst (vs i)) w'')→if Region.wanted o (yielded l.toArray a'.tmps)then o.wp P a' w' K Q else K (a'.put o.dst undef) w')
 (hlast:∀o,l[n]?=some o→∀a' w',W w'→kr l n a a'→(∀j,j<n→∀d,av l j=some d→At a' d (vs j))→wpList P l.toArray Q [o] a' w'):
 (Code.region id l.toArray true).wp P Q a w:=by
 simp only[oc,Bool.and_eq_true,decide_eq_true_eq]at hB;obtain⟨⟨⟨⟨hlen,hs⟩,hc⟩,hds⟩,hed⟩:=hB;have hdist:∀i j d,i<n→j<n→av l i=some d→av l j=some d→i=j:=fun i j d hi hj h1 h2=>by
  have h3:=List.all_eq_true.1 hds i (List.mem_range.2 hi);simp only[Bool.and_eq_true]at h3;have h4:=List.all_eq_true.1 h3.2 j (List.mem_range.2 hj);simp only[Bool.or_eq_true,beq_iff_eq,bne_iff_ne]at h4
  rcases h4 with h4|h4
  ·exact h4
  ·exact absurd (h1.trans h2.symm) h4
 have hn:n<l.toArray.size:=by simp[hlen]
 have key:∀(fuel:Nat) (listed:Array Bool) (a':Act) (w':World),dl listed.toList≤fuel→BQ l n vs a listed a'→W w'→wpAny P .any l.toArray Q fuel listed a' w':=by
  intro fuel
  induction fuel with
  | zero =>
   intro listed a' w' ho inv hw'
   exfalso
   have h1:=inv.head.tail n (Nat.le_refl _) hn;have h2:n<listed.size:=by rw[inv.head.size];exact hn
   have h3:listed.toList[n]?=some false:=by
    have:=getD_both h1;simp[h2]at h1;rw[Array.getElem?_toList,Array.getElem?_eq_getElem h2,h1]
   have:=dL _ _ h3;omega
  | succ fuel ih =>
   intro listed a' w' ho inv hw';refine⟨fun hr=>?_,fun i hi=>?_⟩
   ·exfalso
    have:∀(k:Nat),k≤n→listed.getD k true=false→False:=by
     intro k
     induction k using Nat.strongRecOn with
     | _ k ihk =>
      intro hk hun;have hkl:k<l.length:=χ
      have hok:l.toArray[k]?=some l[k]:=by simp[hkl]
      by_cases hall:∀e∈l[k].after,Region.binds .any e=true→listed.getD e.on false=true
      ·have:k∈Region.ready .any l.toArray listed:=mem_ready.2 ⟨hun,l[k],hok,hall⟩
       rw[hr]at this
       cases this
      ·simp only[Classical.not_forall]at hall
       obtain⟨e,he,hb,hne⟩:=hall;have h3:=List.all_eq_true.1 hed k (List.mem_range.2 χ);rw[Ez hkl]at h3;simp only[Option.map_some,Option.getD_some]at h3;have h4:=Array.all_eq_true'.1 h3 e he;rw[hb]at h4;simp only[Bool.not_true,Bool.false_or,decide_eq_true_eq]at h4;refine ihk e.on h4 χ ?_;have h5:e.on<listed.size:=by rw[inv.head.size];simp;omega
       have h6:listed.getD e.on false=false:=by simpa using hne
       simp[h5]at h6⊢;exact h6
    exact this n (Nat.le_refl _) (inv.head.tail n (Nat.le_refl _) hn)
   ·obtain⟨hun,o,hoi,hall⟩:=mem_ready.1 hi
    have hil:i<l.length:=by have:=(Array.getElem?_eq_some_iff.1 hoi).1;simpa using this
    have hoi2:l[i]?=some o:=by simpa using hoi
    have hdone:∀j,(o.after.any fun e=>Region.binds .any e&&e.on==j)=true→listed.getD j false=true:=fun j hj=>by
     obtain⟨e,he,h2⟩:=Array.any_eq_true'.1 hj;simp only[Bool.and_eq_true,beq_iff_eq]at h2;rw[←h2.2];exact hall e he h2.1
    have hopen:dl (listed.setIfInBounds i true).toList≤fuel:=by
     have h2:i<listed.size:=by rw[inv.head.size];simpa using hil
     have h3:listed.toList[i]?=some false:=by
      simp[h2]at hun;rw[Array.getElem?_toList,Array.getElem?_eq_getElem h2,hun]
     have:=dL _ _ h3;rw[Array.toList_setIfInBounds];omega
    by_cases hin:i<n
    ·obtain⟨di,hdi⟩:∃d,av l i=some d:=by
      have h3:=List.all_eq_true.1 hds i (List.mem_range.2 hin);simp only[Bool.and_eq_true]at h3;exact Option.isSome_iff_exists.1 h3.1
     have hod:o.dst=some di:=by unfold av at hdi;rw[hoi2]at hdi;exact hdi
     have h:=hop i o hin hoi2 a' w' (wpAny P .any l.toArray Q fuel (listed.setIfInBounds i true)) hw' inv.base (fun j hj hjn d hd=>inv.QY j d hjn (hdone j hj) hd)
      (fun w'' hw''=>ih _ _ _ hopen ⟨inv.head.set hi hin,by
       rw[hod];refine inv.base.put ?_ _;simp only[List.any_eq_true,beq_iff_eq];exact⟨i,List.mem_range.2 hin,hdi⟩,fun j d hj hl hd=>by
       rw[hod]
       by_cases hji:i=j
       ·subst hji
        have:d=di:=Option.some.inj (hd.symm.trans hdi);subst this;exact At.put_self
       ·rw[getD_set_ne false hji]at hl
        refine(inv.QY j d hj hl hd).put_ne ?_;rintro rfl;exact hji (hdist i j di hin hj hdi hd)⟩ hw'')
     unfold wpOp;simp only[hoi];split
     ·rename_i hwt
      rw[if_pos hwt]at h;exact .inl h
     ·rename_i hwt
      rw[if_neg hwt]at h;exact h
    ·have hin2:i=n:=χ
     subst hin2;have hall2:∀j,j<i→listed.getD j false=true:=fun j hj=>by
      cases hlj:listed.getD j false with
      | true=>rfl
      | false =>
       have h5:j<listed.size:=by rw[inv.head.size];simp;omega
       exact absurd hi (tail_waits hs hc hn inv.head _ j rfl hj (getD_in h5 hlj) i (Nat.le_refl _))
     have h:=hlast o hoi2 a' w' hw' inv.base (fun j hj d hd=>inv.QY j d hj (hall2 j hj) hd);have hr0:Region.ready .any l.toArray (listed.setIfInBounds i true)=[]:=by
      refine List.eq_nil_iff_forall_not_mem.2 fun j hj=>?_
      obtain⟨h1,o',ho',_⟩:=mem_ready.1 hj;have hjl:j<l.length:=by have:=(Array.getElem?_eq_some_iff.1 ho').1;simpa using this
      by_cases hji:i=j
      ·subst hji
       have h5:i<listed.size:=by rw[inv.head.size];simpa using hjl
       simp[h5]at h1
      ·rw[getD_set_ne true hji]at h1
       have h6:=hall2 j χ;have h5:j<listed.size:=by rw[inv.head.size];simpa using hjl
       simp[h5]at h1 h6;rw[h6]at h1
       cases h1
     have hw2:wpOp P l.toArray Q i (wpList P l.toArray Q []) a' w':=by
      unfold wpOp;simp only[hoi];exact h
     refine wpOp_mono (fun a2 w2 h2=>?_) hw2
     cases fuel with
     | zero=>exact⟨hr0,h2⟩
     | succ f=>exact⟨fun _=>h2,fun k hk=>by rw[hr0]at hk;cases hk⟩
 refine wp_region_any hm (key _ _ a _ ?_ ⟨⟨ξ,fun j oj _ hl=>(by rw[getD_replicate_false]at hl;cases hl),fun t _ ht=>getD_in (by simpa using ht) (getD_replicate_false _ _)⟩,aA.refl _ _,fun j d _ hl _=>by rw[getD_replicate_false]at hl;cases hl⟩ hw);simp only[Array.toList_replicate,dl];exact Nat.le_trans (List.length_filter_le _ _) ξ
end
section
variable {P:Program} {l:List Oper} {n:Nat}
def rH(l:List Oper)(n:Nat):Bool:=
 decide (l.length=n) &&
 ((List.range n).all fun i=>(List.range n).all fun j=>i==j||av l i==none||av l i !=av l j) &&
 (List.range n).all fun i=>((l[i]?).map (·.after.all fun e =>!Region.binds .any e||decide (e.on<i))).getD true
structure vL (l:List Oper) (n:Nat) (I:(Nat→Bool)→World→Prop) (V:Nat→World→Value→Prop) (a:Act) (listed:Array Bool) (a':Act) (w':World):Prop where
 size:listed.size=n
 base:kr l n a a'
 world:I (fun j=>listed.getD j false) w'
 val:∀j d,j<n→listed.getD j false=true→av l j=some d→∃v,At a' d v∧V j w' v
theorem vi{listed:Array Bool}(hl:l.length=n)(hs:listed.size=n)
 (hed:∀i o,l[i]?=some o→∀e∈o.after,Region.binds .any e=true→e.on<i)(hr:Region.ready .any l.toArray listed=[]):∀k,k<n→listed.getD k false=true:=by
 intro k
 induction k using Nat.strongRecOn with
 | _ k ihk =>
  intro hk
  cases hun:listed.getD k false with
  | true=>rfl
  | false =>
   exfalso
   have hkl:k<l.length:=χ
   have hok:l.toArray[k]?=some l[k]:=by simp[hkl]
   have:k∈Region.ready .any l.toArray listed:=mem_ready.2 ⟨getD_in χ hun,l[k],hok,fun e he hb=>by
    have h4:=hed k l[k] (Ez hkl) e he hb;have h5:=ihk e.on h4 χ;have h6:e.on<listed.size:=χ
    simp[h6]at h5⊢;exact h5⟩
   rw[hr]at this
   cases this
theorem nH{id:Nat}{Q:Exit→Act→World→Prop}{a:Act}{w:World}(n:Nat)(I:(Nat→Bool)→World→Prop)(V:Nat→World→Value→Prop)(hm:P.follows .mixedOrders=true)(hB:rH l n=true)(h0:I (fun _=>false) w.drew)
 (hop:∀i o,i<n→l[i]?=some o→∀(S:Nat→Bool) a' w' (K:Act→World→Prop),S i=false→(∀j,(o.after.any fun e=>Region.binds .any e&&e.on==j)=true→S j=true)→I S w'→kr l n a a' →
  (∀j,S j=true→j<n→∀d,av l j=some d→∃v,At a' d v∧V j w' v) →
  (∀v w'',I (fun j=>j==i||S j) w''→(∀j u,S j=true→V j w' u→V j w'' u)→V i w'' v→K (a'.put o.dst v) w'') →
  if Region.wanted o (yielded l.toArray a'.tmps)then o.wp P a' w' K Q else K (a'.put o.dst undef) w')
 (hend:∀(S:Nat→Bool) a' w',(∀j,j<n→S j=true)→I S w'→kr l n a a'→(∀j,j<n→∀d,av l j=some d→∃v,At a' d v∧V j w' v)→Q .normal a' w'):
 (Code.region id l.toArray true).wp P Q a w:=by
 simp only[rH,Bool.and_eq_true,decide_eq_true_eq]at hB;obtain⟨⟨hlen,hds⟩,hed⟩:=hB;have hdist:∀i j d,i<n→j<n→av l i=some d→av l j=some d→i=j:=fun i j d hi hj h1 h2=>by
  have h3:=List.all_eq_true.1 (List.all_eq_true.1 hds i (List.mem_range.2 hi)) j (List.mem_range.2 hj);simp only[Bool.or_eq_true,beq_iff_eq,bne_iff_ne]at h3
  rcases h3 with(h4|h4)|h4
  ·exact h4
  ·rw[h4]at h1;cases h1
  ·exact absurd (h1.trans h2.symm) h4
 have hedge:∀i o,l[i]?=some o→∀e∈o.after,Region.binds .any e=true→e.on<i:=fun i o ho e he hb=>by
  have hi:i<n:=by have:=(List.getElem?_eq_some_iff.1 ho).1;omega
  have h3:=List.all_eq_true.1 hed i (List.mem_range.2 hi);rw[ho]at h3;simp only[Option.map_some,Option.getD_some]at h3;have h4:=Array.all_eq_true'.1 h3 e he;rw[hb]at h4
  simpa using h4
 have fin:∀listed a' w',vL l n I V a listed a' w'→(∀k,k<n→listed.getD k false=true)→Q .normal a' w':=fun listed a' w' inv hall =>
  hend _ a' w' hall inv.world inv.base fun j hj d hd=>inv.val j d hj (hall j hj) hd
 have key:∀(fuel:Nat) (listed:Array Bool) (a':Act) (w':World),dl listed.toList≤fuel→vL l n I V a listed a' w'→wpAny P .any l.toArray Q fuel listed a' w':=by
  intro fuel
  induction fuel with
  | zero =>
   intro listed a' w' ho inv;have hall:∀k,k<n→listed.getD k false=true:=fun k hk=>by
    cases hun:listed.getD k false with
    | true=>rfl
    | false =>
     exfalso
     have h2:k<listed.size:=by rw[inv.size];exact hk
     have h3:listed.toList[k]?=some false:=by
      simp[h2]at hun;rw[Array.getElem?_toList,Array.getElem?_eq_getElem h2,hun]
     have:=dL _ _ h3;omega
   refine⟨?_,fin listed a' w' inv hall⟩;refine List.eq_nil_iff_forall_not_mem.2 fun j hj=>?_
   obtain⟨h1,o',ho',_⟩:=mem_ready.1 hj;have hjl:j<l.length:=by have:=(Array.getElem?_eq_some_iff.1 ho').1;simpa using this
   have h5:j<listed.size:=by rw[inv.size];omega
   have h6:=hall j χ;simp[h5]at h1 h6;rw[h1]at h6
   cases h6
  | succ fuel ih =>
   intro listed a' w' ho inv;refine⟨fun hr=>fin listed a' w' inv (vi hlen inv.size hedge hr),fun i hi=>?_⟩;obtain⟨hun,o,hoi,hall⟩:=mem_ready.1 hi;have hil:i<l.length:=by have:=(Array.getElem?_eq_some_iff.1 hoi).1;simpa using this
   have hoi2:l[i]?=some o:=by simpa using hoi
   have hisz:i<listed.size:=by rw[inv.size];omega
   have hunf:listed.getD i false=false:=by
    simp[hisz]at hun⊢;exact hun
   have hdone:∀j,(o.after.any fun e=>Region.binds .any e&&e.on==j)=true→listed.getD j false=true:=fun j hj=>by
    obtain⟨e,he,h2⟩:=Array.any_eq_true'.1 hj;simp only[Bool.and_eq_true,beq_iff_eq]at h2;rw[←h2.2];exact hall e he h2.1
   have hopen:dl (listed.setIfInBounds i true).toList≤fuel:=by
    have h3:listed.toList[i]?=some false:=by
     simp[hisz]at hun;rw[Array.getElem?_toList,Array.getElem?_eq_getElem hisz,hun]
    have:=dL _ _ h3;rw[Array.toList_setIfInBounds];omega
   have hSe:(fun j=>(listed.setIfInBounds i true).getD j false)=fun j=>j==i||listed.getD j false:=by
    funext j
    by_cases hji:j=i
    ·subst hji;simp[hisz]
    ·rw[getD_set_ne false (fun h=>hji h.symm)]
     simp[hji]
   have h:=hop i o χ hoi2 (fun j=>listed.getD j false) a' w' (wpAny P .any l.toArray Q fuel (listed.setIfInBounds i true)) hunf hdone inv.world inv.base (fun j hj hjn d hd=>inv.val j d hjn hj hd)
    (fun v w'' hI hV hv=>ih _ _ _ hopen ⟨by rw[Array.size_setIfInBounds];exact inv.size,by
     cases hod:o.dst with
     | none=>rw[show a'.put none v=a' from rfl];exact inv.base
     | some di =>
      refine inv.base.put ?_ _;simp only[List.any_eq_true,beq_iff_eq];exact⟨i,List.mem_range.2 χ,by unfold av;rw[hoi2];exact hod⟩,by rw[hSe];exact hI,fun j d hj hl hd=>by
     by_cases hji:i=j
     ·subst hji
      have hod:o.dst=some d:=by unfold av at hd;rw[hoi2]at hd;exact hd
      rw[hod];exact⟨v,At.put_self,hv⟩
     ·rw[getD_set_ne false hji]at hl
      obtain⟨u,hu,hvu⟩:=inv.val j d hj hl hd;refine⟨u,?_,hV j u hl hvu⟩
      cases hod:o.dst with
      | none=>rw[show a'.put none v=a' from rfl];exact hu
      | some di =>
       refine hu.put_ne ?_;rintro rfl;exact hji (hdist i j di χ hj (by unfold av;rw[hoi2];exact hod) hd)⟩)
   unfold wpOp;simp only[hoi];split
   ·rename_i hwt
    rw[if_pos hwt]at h;exact .inl h
   ·rename_i hwt
    rw[if_neg hwt]at h;exact h
 refine wp_region_any hm (key _ _ a _ ?_ ⟨by simp[hlen],aA.refl _ _,?_,fun j d _ hl _=>by rw[getD_replicate_false]at hl;cases hl⟩)
 ·simp only[Array.toList_replicate,dl]
  exact Nat.le_trans (List.length_filter_le _ _) ξ
 ·have:(fun j=>(Array.replicate l.toArray.size false).getD j false)=fun _=>false:=by funext j;exact getD_replicate_false _ _
  rw[this];exact h0
structure zi (l:List Oper) (n:Nat) (W:World→Prop) (V:Nat→World→Value→Prop) (a:Act) (listed:Array Bool) (a':Act) (w':World):Prop where
 head:HeadInv .any l.toArray n listed
 base:kr l n a a'
 QY:∀j d,j<n→listed.getD j false=true→av l j=some d→∃v,At a' d v∧V j w' v
theorem cZ{id:Nat}{Q:Exit→Act→World→Prop}{a:Act}{w:World}(n:Nat)(V:Nat→World→Value→Prop)(W:World→Prop)(hm:P.follows .mixedOrders=true)(hB:oc l n=true)(hw:W w.drew)
 (hop:∀i o,i<n→l[i]?=some o→∀a' w' K,W w'→kr l n a a'→(∀j,(o.after.any fun e=>Region.binds .any e&&e.on==j)=true→j<n→∀d,av l j=some d→∃v,At a' d v∧V j w' v) →
  (∀v w'',W w''→(∀j u,V j w' u→V j w'' u)→V i w'' v→K (a'.put o.dst v) w'')→if Region.wanted o (yielded l.toArray a'.tmps)then o.wp P a' w' K Q else K (a'.put o.dst undef) w')
 (hlast:∀o,l[n]?=some o→∀a' w',W w'→kr l n a a'→(∀j,j<n→∀d,av l j=some d→∃v,At a' d v∧V j w' v)→wpList P l.toArray Q [o] a' w'):
 (Code.region id l.toArray true).wp P Q a w:=by
 simp only[oc,Bool.and_eq_true,decide_eq_true_eq]at hB;obtain⟨⟨⟨⟨hlen,hs⟩,hc⟩,hds⟩,hed⟩:=hB;have hdist:∀i j d,i<n→j<n→av l i=some d→av l j=some d→i=j:=fun i j d hi hj h1 h2=>by
  have h3:=List.all_eq_true.1 hds i (List.mem_range.2 hi);simp only[Bool.and_eq_true]at h3;have h4:=List.all_eq_true.1 h3.2 j (List.mem_range.2 hj);simp only[Bool.or_eq_true,beq_iff_eq,bne_iff_ne]at h4
  rcases h4 with h4|h4
  ·exact h4
  ·exact absurd (h1.trans h2.symm) h4
 have hn:n<l.toArray.size:=by simp[hlen]
 have key:∀(fuel:Nat) (listed:Array Bool) (a':Act) (w':World),dl listed.toList≤fuel→zi l n W V a listed a' w'→W w'→wpAny P .any l.toArray Q fuel listed a' w':=by
  intro fuel
  induction fuel with
  | zero =>
   intro listed a' w' ho inv hw'
   exfalso
   have h1:=inv.head.tail n (Nat.le_refl _) hn;have h2:n<listed.size:=by rw[inv.head.size];exact hn
   have h3:listed.toList[n]?=some false:=by
    have:=getD_both h1;simp[h2]at h1;rw[Array.getElem?_toList,Array.getElem?_eq_getElem h2,h1]
   have:=dL _ _ h3;omega
  | succ fuel ih =>
   intro listed a' w' ho inv hw';refine⟨fun hr=>?_,fun i hi=>?_⟩
   ·exfalso
    have:∀(k:Nat),k≤n→listed.getD k true=false→False:=by
     intro k
     induction k using Nat.strongRecOn with
     | _ k ihk =>
      intro hk hun;have hkl:k<l.length:=χ
      have hok:l.toArray[k]?=some l[k]:=by simp[hkl]
      by_cases hall:∀e∈l[k].after,Region.binds .any e=true→listed.getD e.on false=true
      ·have:k∈Region.ready .any l.toArray listed:=mem_ready.2 ⟨hun,l[k],hok,hall⟩
       rw[hr]at this
       cases this
      ·simp only[Classical.not_forall]at hall
       obtain⟨e,he,hb,hne⟩:=hall;have h3:=List.all_eq_true.1 hed k (List.mem_range.2 χ);rw[Ez hkl]at h3;simp only[Option.map_some,Option.getD_some]at h3;have h4:=Array.all_eq_true'.1 h3 e he;rw[hb]at h4;simp only[Bool.not_true,Bool.false_or,decide_eq_true_eq]at h4;refine ihk e.on h4 χ ?_;have h5:e.on<listed.size:=by rw[inv.head.size];simp;omega
       have h6:listed.getD e.on false=false:=by simpa using hne
       simp[h5]at h6⊢;exact h6
    exact this n (Nat.le_refl _) (inv.head.tail n (Nat.le_refl _) hn)
   ·obtain⟨hun,o,hoi,hall⟩:=mem_ready.1 hi
    have hil:i<l.length:=by have:=(Array.getElem?_eq_some_iff.1 hoi).1;simpa using this
    have hoi2:l[i]?=some o:=by simpa using hoi
    have hdone:∀j,(o.after.any fun e=>Region.binds .any e&&e.on==j)=true→listed.getD j false=true:=fun j hj=>by
     obtain⟨e,he,h2⟩:=Array.any_eq_true'.1 hj;simp only[Bool.and_eq_true,beq_iff_eq]at h2;rw[←h2.2];exact hall e he h2.1
    have hopen:dl (listed.setIfInBounds i true).toList≤fuel:=by
     have h2:i<listed.size:=by rw[inv.head.size];simpa using hil
     have h3:listed.toList[i]?=some false:=by
      simp[h2]at hun;rw[Array.getElem?_toList,Array.getElem?_eq_getElem h2,hun]
     have:=dL _ _ h3;rw[Array.toList_setIfInBounds];omega
    by_cases hin:i<n
    ·obtain⟨di,hdi⟩:∃d,av l i=some d:=by
      have h3:=List.all_eq_true.1 hds i (List.mem_range.2 hin);simp only[Bool.and_eq_true]at h3;exact Option.isSome_iff_exists.1 h3.1
     have hod:o.dst=some di:=by unfold av at hdi;rw[hoi2]at hdi;exact hdi
     have h:=hop i o hin hoi2 a' w' (wpAny P .any l.toArray Q fuel (listed.setIfInBounds i true)) hw' inv.base (fun j hj hjn d hd=>inv.QY j d hjn (hdone j hj) hd)
      (fun v w'' hw'' hV hv=>ih _ _ _ hopen ⟨inv.head.set hi hin,by
       rw[hod];refine inv.base.put ?_ _;simp only[List.any_eq_true,beq_iff_eq];exact⟨i,List.mem_range.2 hin,hdi⟩,fun j d hj hl hd=>by
       rw[hod]
       by_cases hji:i=j
       ·subst hji
        have:d=di:=Option.some.inj (hd.symm.trans hdi);subst this;exact⟨v,At.put_self,hv⟩
       ·rw[getD_set_ne false hji]at hl
        obtain⟨u,hu,hvu⟩:=inv.QY j d hj hl hd;refine⟨u,hu.put_ne ?_,hV j u hvu⟩;rintro rfl;exact hji (hdist i j di hin hj hdi hd)⟩ hw'')
     unfold wpOp;simp only[hoi];split
     ·rename_i hwt
      rw[if_pos hwt]at h;exact .inl h
     ·rename_i hwt
      rw[if_neg hwt]at h;exact h
    ·have hin2:i=n:=χ
     subst hin2;have hall2:∀j,j<i→listed.getD j false=true:=fun j hj=>by
      cases hlj:listed.getD j false with
      | true=>rfl
      | false =>
       have h5:j<listed.size:=by rw[inv.head.size];simp;omega
       exact absurd hi (tail_waits hs hc hn inv.head _ j rfl hj (getD_in h5 hlj) i (Nat.le_refl _))
     have h:=hlast o hoi2 a' w' hw' inv.base (fun j hj d hd=>inv.QY j d hj (hall2 j hj) hd);have hr0:Region.ready .any l.toArray (listed.setIfInBounds i true)=[]:=by
      refine List.eq_nil_iff_forall_not_mem.2 fun j hj=>?_
      obtain⟨h1,o',ho',_⟩:=mem_ready.1 hj;have hjl:j<l.length:=by have:=(Array.getElem?_eq_some_iff.1 ho').1;simpa using this
      by_cases hji:i=j
      ·subst hji
       have h5:i<listed.size:=by rw[inv.head.size];simpa using hjl
       simp[h5]at h1
      ·rw[getD_set_ne true hji]at h1
       have h6:=hall2 j χ;have h5:j<listed.size:=by rw[inv.head.size];simpa using hjl
       simp[h5]at h1 h6;rw[h6]at h1
       cases h1
     have hw2:wpOp P l.toArray Q i (wpList P l.toArray Q []) a' w':=by
      unfold wpOp;simp only[hoi];exact h
     refine wpOp_mono (fun a2 w2 h2=>?_) hw2
     cases fuel with
     | zero=>exact⟨hr0,h2⟩
     | succ f=>exact⟨fun _=>h2,fun k hk=>by rw[hr0]at hk;cases hk⟩
 refine wp_region_any hm (key _ _ a _ ?_ ⟨⟨ξ,fun j oj _ hl=>(by rw[getD_replicate_false]at hl;cases hl),fun t _ ht=>getD_in (by simpa using ht) (getD_replicate_false _ _)⟩,aA.refl _ _,fun j d _ hl _=>by rw[getD_replicate_false]at hl;cases hl⟩ hw);simp only[Array.toList_replicate,dl];exact Nat.le_trans (List.length_filter_le _ _) ξ
end
theorem ua{P:Program}{b q t:Nat}{R1 R2 body:Code}{Q:Exit→Act→World→Prop}{a:Act}{w:World}(n:Nat)(I I2 J:Nat→Act→World→Prop)(Done:Act→World→Prop)(idx:Act→Nat)(C:I 0 a w)
 (A:∀k a w,I k a w→idx a=k)
 (D:∀k a w,I k a w→R1.wp P (kK fun d w'=>(d.eval (.tmp t)=.bool true∧k<n∧I2 k d w')∨(d.eval (.tmp t)=.bool false∧Done d w')) a w)
 (L:∀k a w,k<n→I2 k a w→body.wp P (cC b q (J k) Q) a w)
 (E:∀k a w,k<n→J k a w→R2.wp P (kK (I (k+1))) a w)
 (N:∀a w,Done a w→Q .normal a w):
 (Code.block b (Code.loop (Code.seq (Code.seq R1 (Code.cond (.tmp t) .skip (.exit b))) (Code.seq (Code.block q body) R2)))).wp P Q a w:=by
 refine wp_block (wp_loop (fun a w=>∃k,I k a w) (fun a _=>n-idx a) ⟨0,C⟩ ?_);rintro a w ⟨k,y⟩;refine wp_seq (wp_seq (Code.wp_only (D k a w y) fun v B h=>?_))
 rcases h with⟨u,j,r⟩|⟨u,H⟩
 ·refine wp_cond_true u (wp_skip ?_)
  refine wp_seq (wp_block (wp_mono (L k v B j r) fun e g p hh=>?_));have fin:∀g p,J k g p→R2.wp P (Exit.then (fun d w'=>(∃k,I k d w')∧n-idx d<n-idx a) (Exit.inBlock b Q)) g p:=fun g p K =>
   Code.wp_only (E k g p j K) fun O R x=>⟨⟨k+1,x⟩,by rw[A _ _ _ x,A _ _ _ y];omega⟩
  cases e with
  | normal=>exact fin _ _ hh
  | exit id =>
   simp only[cC]at hh;simp only[Exit.inBlock,Exit.then]
   by_cases e2:id=q
   ·simp only[e2,if_true]at hh⊢; exact fin _ _ hh
   ·simp only[e2,if_false]at hh⊢
    by_cases e1:id=b
    ·simp only[e1,if_true]at hh⊢; exact hh
    ·simp only[e1,if_false]at hh⊢; exact hh
  | goto l=>exact hh
  | ret=>exact hh
  | panic c=>exact hh
  | outgrown=>exact hh
 ·refine wp_cond_false u (wp_exit ?_)
  show Exit.inBlock b Q (.exit b) v B;simp only[Exit.inBlock,if_true];exact N _ _ H
theorem gY{P:Program}{b j t:Nat}{R1 R2 body:Code}{Q:Exit→Act→World→Prop}{a:Act}{w:World}(n:Nat)(I J:Nat→Act→World→Prop)(idx:Act→Nat)(p:I 0 a w)
 (x:∀k a w,I k a w→idx a=k)
 (q:∀k a w,k≤n→I k a w→R1.wp P (kK fun g w'=>I k g w'∧g.eval (.tmp t)=.bool (decide (k<n))) a w)
 (u:∀k a w,k<n→I k a w→body.wp P (cC b j (J k) Q) a w)
 (r:∀k a w,k<n→J k a w→R2.wp P (kK (I (k+1))) a w)
 (y:∀a w,I n a w→Q .normal a w):
 (Code.block b (Code.loop (Code.seq (Code.seq R1 (Code.cond (.tmp t) .skip (.exit b))) (Code.seq (Code.block j body) R2)))).wp P Q a w:=by
 refine ua n (fun k a w=>k≤n∧I k a w) (fun k a w=>k≤n∧I k a w) J (fun a w=>I n a w) idx ⟨Nat.zero_le _,p⟩ (fun k a w h=>x k a w h.2) (fun k a w ⟨hk,h⟩=>Code.wp_only (q k a w hk h) fun A B ⟨d,l⟩=>⟨rfl,?_⟩) (fun k a w hk h=>u k a w hk h.2)
  (fun k a w hk h=>wp_mono (r k a w hk h) fun e g w' ⟨v,h⟩=>⟨v,hk,h⟩) y
 by_cases hlt:k<n
 ·exact .inl ⟨by rw[l,decide_eq_true hlt],hlt,hk,d⟩
 ·have:k=n:=χ
  subst this;exact .inr ⟨by rw[l,decide_eq_false hlt],d⟩
theorem kL{P:Program}{l:List Oper}{id:Nat}{Q:Exit→Act→World→Prop}{a:Act}{w:World}(Inv:(Nat→Bool)→Act→World→Prop)(hm:P.follows .mixedOrders=true)
 (hed:((List.range l.length).all fun i=>((l[i]?).map (·.after.all fun e =>!Region.binds .any e||decide (e.on<i))).getD true)=true)(h0:Inv (fun _=>false) a w.drew)
 (hop:∀L a' w' i o,Inv L a' w'→l[i]?=some o→L i=false→(o.after.all fun e =>!Region.binds .any e||L e.on)=true→∀K:Act→World→Prop,(∀a'' w'',Inv (fun j=>j==i||L j) a'' w''→K a'' w'') →
  if Region.wanted o (yielded l.toArray a'.tmps)then o.wp P a' w' K Q else K (a'.put o.dst undef) w')
 (hend:∀L a' w',Inv L a' w'→(∀i,i<l.length→L i=true)→Q .normal a' w'):
 (Code.region id l.toArray true).wp P Q a w:=by
 have key:∀(fuel:Nat) (listed:Array Bool) (a':Act) (w':World),listed.size=l.length→dl listed.toList≤fuel→Inv (fun i=>listed.getD i false) a' w'→wpAny P .any l.toArray Q fuel listed a' w':=by
  have hrdy:∀listed:Array Bool,listed.size=l.length→Region.ready .any l.toArray listed=[]→∀k,k<l.length→listed.getD k false=true:=by
   intro listed hsz hr k
   induction k using Nat.strongRecOn with
   | _ k ihk =>
    intro hkl
    cases hun:listed.getD k false with
    | true=>rfl
    | false =>
     exfalso
     have hun':listed.getD k true=false:=by
      have h2:k<listed.size:=χ
      simp[h2]at hun⊢;exact hun
     have hok:l.toArray[k]?=some l[k]:=by simp[hkl]
     have:k∈Region.ready .any l.toArray listed:=mem_ready.2 ⟨hun',l[k],hok,fun e he hb=>by
      have h3:=List.all_eq_true.1 hed k (List.mem_range.2 hkl);rw[Ez hkl]at h3;simp only[Option.map_some,Option.getD_some]at h3;have h4:=Array.all_eq_true'.1 h3 e he;rw[hb]at h4;simp only[Bool.not_true,Bool.false_or,decide_eq_true_eq]at h4;exact ihk e.on h4 χ⟩
     rw[hr]at this
     cases this
  intro fuel
  induction fuel with
  | zero =>
   intro listed a' w' hsz ho inv;have hall:∀k,k<l.length→listed.getD k false=true:=by
    intro k hk
    cases hun:listed.getD k false with
    | true=>rfl
    | false =>
     exfalso
     have h2:k<listed.size:=χ
     simp[h2]at hun;have:=dL listed.toList k (by rw[Array.getElem?_toList,Array.getElem?_eq_getElem h2,hun]);omega
   refine⟨List.eq_nil_iff_forall_not_mem.2 fun j hj=>?_,hend _ _ _ inv hall⟩;obtain⟨h1,o',ho',_⟩:=mem_ready.1 hj;have hjl:j<l.length:=by have:=(Array.getElem?_eq_some_iff.1 ho').1;simpa using this
   have h6:=hall j hjl;have h5:j<listed.size:=χ
   simp[h5]at h1 h6;rw[h6]at h1
   cases h1
  | succ fuel ih =>
   intro listed a' w' hsz ho inv;refine⟨fun hr=>hend _ _ _ inv (hrdy listed hsz hr),fun i hi=>?_⟩;obtain⟨hun,o,hoi,hall⟩:=mem_ready.1 hi;have hil:i<l.length:=by have:=(Array.getElem?_eq_some_iff.1 hoi).1;simpa using this
   have hoi2:l[i]?=some o:=by simpa using hoi
   have h2:i<listed.size:=χ
   have hunf:listed.getD i false=false:=by simp[h2]at hun⊢; exact hun
   have hopen:dl (listed.setIfInBounds i true).toList≤fuel:=by
    have h3:listed.toList[i]?=some false:=by
     simp[h2]at hun;rw[Array.getElem?_toList,Array.getElem?_eq_getElem h2,hun]
    have:=dL _ _ h3;rw[Array.toList_setIfInBounds];omega
   have hfun:(fun j=>(listed.setIfInBounds i true).getD j false)=fun j=>j==i||listed.getD j false:=by
    funext j
    by_cases hji:j=i
    ·subst hji
     simp[h2]
    ·rw[getD_set_ne false (fun e=>hji e.symm)]
     simp[hji]
   have h:=hop (fun j=>listed.getD j false) a' w' i o inv hoi2 hunf (Array.all_eq_true'.2 fun e he=>by
    cases hb:Region.binds .any e with
    | false=>rfl
    | true=>simpa using hall e he hb) (wpAny P .any l.toArray Q fuel (listed.setIfInBounds i true)) (fun a'' w'' hI=>ih _ _ _ (by simpa using hsz) hopen (by rw[hfun];exact hI))
   unfold wpOp;simp only[hoi];split
   ·rename_i hwt
    rw[if_pos hwt]at h;exact .inl h
   ·rename_i hwt
    rw[if_neg hwt]at h;exact h
 refine wp_region_any hm (key _ _ a _ ξ ?_ ?_)
 ·simp only[Array.toList_replicate,dl]
  exact Nat.le_trans (List.length_filter_le _ _) ξ
 ·have:(fun i=>(Array.replicate l.toArray.size false).getD i false)=fun _=>false:=by funext i;exact getD_replicate_false _ _
  rw[this];exact h0
