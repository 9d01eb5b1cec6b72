import Derived.Test.YtpblcjipmoblnaaGreatDoorProg
import Derived.Test.YtpblcjipmoblnaaGreatDoorMem
import Derived.WalkKit
import Derived.WalkSpells
import Derived.WalkLawsBesides
import Derived.Deep.QuietTactic
import Derived.BigQuiet
import Derived.Lib.Hide
import Derived.Deep.AppendLies
import Derived.Deep.Draws
import Derived.Test.YtpblcjipmoblnaaGreatDoorSpanP
set_option maxRecDepth 100000
set_option maxHeartbeats 4000000
set_option linter.unusedVariables false
set_option linter.unusedSimpArgs false
set_option linter.unnecessarySimpa false
namespace Go.Proofs.YtpblcjipmoblnaaGreatDoor
open Go.RowKit Go.IntWalk
variable {w:World} {B i:Nat} {a b:Int} {v:Value}
def Run.val(r:Run):Value := .agg #[.int .i64 r.pos,.string r.QM,.int .u64 r.QT,.int .u64 r.per]
def eW(w:World)(A:Option Addr)(xs:List Run):Prop:=
 0<xs.length→∃b off,A=some ⟨b,off,none⟩∧b<w.heap.size∧∀i r,xs[i]?=some r →
  w.cell? ⟨b,off+i*4,none⟩=some (.int .i64 r.pos)∧w.cell? ⟨b,off+i*4+1,none⟩=some (.string r.QM) ∧
  w.cell? ⟨b,off+i*4+2,none⟩=some (.int .u64 r.QT)∧w.cell? ⟨b,off+i*4+3,none⟩=some (.int .u64 r.per)
theorem eW.below{w':World}{A:Option Addr}{g:List Run}(h:eW w A g)(d:Below B w w')(u:w.heap.size≤B):eW w' A g:=by
 intro n;obtain⟨b,off,e,a,l⟩:=h n;refine⟨b,off,e,Nat.lt_of_lt_of_le a d.size,fun i r q=>?_⟩;obtain⟨c0,c1,c2,j⟩:=l i r q;have hk:∀o,w'.cell? ⟨b,o,none⟩=w.cell? ⟨b,o,none⟩:=fun o=>d.cell (p:=⟨b,o,none⟩) (by simp;omega)
 exact⟨(hk _).trans c0,(hk _).trans c1,(hk _).trans c2,(hk _).trans j⟩
def bH.cells(s:bH):List Value:=[.string s.QM,.int .i64 s.QH,.int .i64 s.to]
def ak(l:List bH):List Value:=l.flatMap bH.cells
theorem gO(l:List bH):(ak l).length=l.length*3:=by
 induction l with
 | nil=>rfl
 | cons s l ih=>simp only[ak,List.flatMap_cons,List.length_append,List.length_cons]at ih⊢; rw[ih];simp[bH.cells];omega
theorem ei(l m:List bH):ak (l++m)=ak l++ak m:=by simp[ak]
theorem i7{l:List bH}{i:Nat}{s:bH}(h:l[i]?=some s):
 (ak l)[i*3]?=some (.string s.QM)∧(ak l)[i*3+1]?=some (.int .i64 s.QH)∧(ak l)[i*3+2]?=some (.int .i64 s.to):=by
 induction l generalizing i with
 | nil=>simp at h
 | cons x l ih =>
  cases i with
  | zero=>simp at h;subst h;simp[ak,bH.cells]
  | succ i =>
   have:=ih (i:=i) (by simpa using h);have e:∀j,(ak (x::l))[(i+1)*3+j]?=(ak l)[i*3+j]?:=fun j=>by
    simp only[ak,List.flatMap_cons];rw[List.getElem?_append_right (by simp[bH.cells];omega)]
    congr 1
    simp[bH.cells];omega
   exact⟨(e 0).trans this.1,(e 1).trans this.2.1,(e 2).trans this.2.2⟩
theorem Tryz.info256:(Tryz.prog.info? 256).map (fun i=>(i.zero,i.size,i.bytes))=some (some (.agg #[.string ByteArray.empty,.int .i64 0,.int .i64 0]),3,32):=by kernel_rfl
theorem oB(M:Nat)(r:Run)(a:Bool)(w:World)(b:M<18446744073709551616)(d:r.QT<18446744073709551616)(g:r.per<18446744073709551616):
 Calls Tryz.prog 115 #[.int .u64 M,r.val,.bool a] w fun e w'=>e=.returned (.int .i64 (Ln.right M r a))∧Below w.heap.size w w':=by
 obtain⟨pos,s,QT,per⟩:=r;simp only[Run.val]at *
 go_enter Tryz.func115,Tryz.ntmps115
 go_wp2
 all_goals go_ret
 all_goals refine⟨lH ?_,(Below.refl _ _).alloc (Nat.le_refl _) _⟩
 all_goals(unfold Ln.right;simp_all)
 all_goals try omega
theorem nh(M:Nat)(r:Run)(a:Bool)(w:World)(q:M≤65536)(u:r.QT≤M)(d:a=true→r.QT≤r.per∧1≤r.per∧r.per≤M):
 Calls Tryz.prog 116 #[.int .u64 M,r.val,.bool a] w fun e w'=>e=.returned (.int .u64 (Ln.ec M r a))∧Below w.heap.size w w':=by
 obtain⟨pos,s,QT,per⟩:=r;simp only[Run.val]at *
 go_enter Tryz.func116,Tryz.ntmps116
 cases a
 ·go_wp2
  go_ret
  exact⟨rfl,(Below.refl _ _).alloc (Nat.le_refl _) _⟩
 ·obtain⟨g,h,i⟩:=d rfl
  clear d;have j:QT*(M / per)≤M:=Nat.le_trans (Nat.mul_le_mul_right _ g) (Nat.mul_div_le M per);have b:(QT:Int)*((M:Int) / (per:Int))=((QT*(M / per):Nat):Int):=by simp
  have l:(0:Int)≤(QT:Int)*((M:Int) / (per:Int)):=by rw[b];omega
  have n:(QT:Int)*((M:Int) / (per:Int))≤65536:=by rw[b];omega
  clear b
  go_wp2
  go_quiet (fail)
  go_wp2
  go_ret
  refine⟨lH ?_,qp ((Below.refl _ _).alloc (Nat.le_refl _) _) _⟩;simp only[Ln.ec,if_true];have p:=tdiv_le M per (by omega) (by omega);rw[u64_in (↑M / ↑per) (by omega),u64_in _ (by omega)];simp
theorem mY(w:World)(c:Nat)(A:Option Addr):Calls Tryz.prog 119 #[.slice A 0 c] w fun e w'=>e=.returned (.int .i64 0)∧w=w':=by
 go_enter Tryz.func119,Tryz.ntmps119
 go_wp2
 go_ret
 exact⟨rfl,rfl⟩
theorem mX(w:World)(b off n c:Nat)(to:Int)(d:n<140737488351232)(a:w.cell? ⟨b,off+n*3+2,none⟩=some (.int .i64 to)):Calls Tryz.prog 119 #[.slice (some ⟨b,off,none⟩) (n+1) c] w fun e w'=>e=.returned (.int .i64 to)∧w=w':=by
 go_enter Tryz.func119,Tryz.ntmps119
 go_wp2
 go_ret
 exact⟨rfl,rfl⟩
theorem lZ{s:ByteArray}:∀u∈[Value.string s,.int .i64 a,.int .i64 b],u.oneCell'=true:=by
 intro u d;simp at d;rcases d with rfl|rfl|rfl<;>rfl
theorem sS{d:World}{p:Nat}{j:Value}{l:List bH}{s:ByteArray}(x:Var w p 216 v)(u:p<B)
 (q:w.ownsRow B 256 3 v l.length (ak l))
 (g:d.ownsRow B 256 3 j (l.length+1) (ak l++[.string s,.int .i64 a,.int .i64 b]))
 (e:(w.alloc (Obj.cells #[.string s,.int .i64 a,.int .i64 b] 256)).grownBy d v.ownBlock):
 Var d p 216 v∧(Var d p 216 v→Var (d.setCell ⟨p,0,none⟩ j) p 216 j∧(d.setCell ⟨p,0,none⟩ j).ownsRow B 256 3 j (l++[bH.mk s a b]).length (ak (l++[bH.mk s a b])) ∧
  aB (fun k=>k=p∨v.ownBlock=some k) w (d.setCell ⟨p,0,none⟩ j)):=by
 have A:=x.lt;have n:aB (fun k=>v.ownBlock=some k) w d:=((aB.refl _ w).alloc _).trans (aB.of_grown e (S:=fun k=>v.ownBlock=some k) (fun k h=>h)) (fun _ _ h=>h);have r:¬ v.ownBlock=some p:=fun h=>by have:=(q.lt p h).1;omega
 refine⟨x.keep n r,fun y=>⟨y.set_ _,?_,?_⟩⟩
 ·rw[ei]
  rw[List.length_append];exact ownsRow_setCell_below (a:=⟨p,0,none⟩) g (by exact u) _
 ·exact(n.mono fun i _ h =>.inr h).setCell (fun _ =>.inl rfl) _
theorem vD(w:World)(p B:Nat)(A:Option Addr)(c:Nat)(s:ByteArray)(t:Int)(K:0≤t∧t≤65536)(i:Var w p 216 (.slice A 0 c))(j:p<B)(H:B≤w.heap.size)
 (a:w.ownsRow B 256 3 (.slice A 0 c) 0 []):
 Calls Tryz.prog 118 #[.pointer (some ⟨p,0,none⟩),.string s,.int .i64 t] w fun e w'=>e=.returned (.tuple #[]) ∧
  ∃v,Var w' p 216 v∧w'.ownsRow B 256 3 v 1 (ak [⟨s,0,t⟩])∧aB (fun k=>k=p∨(Value.slice A 0 c).ownBlock=some k) w w':=by
 have I:=i.cell;have J:=i.frozen;have E:=i.lt;obtain⟨G,D,n,q,r⟩:=info_parts Tryz.info256
 go_enter Tryz.func118,Tryz.ntmps118
 go_wp2_with fail
 refine(mY _ _ _).mono ?_;rintro e w' ⟨rfl,rfl⟩
 go_wp2_with fail
 refine(mY _ _ _).mono ?_;rintro e w' ⟨rfl,rfl⟩
 go_wp2_with (at_builtin;refine wpList_append_lies _ rfl _ _ 216 rfl B 256 G (.agg #[.string ByteArray.empty,.int .i64 0,.int .i64 0]) 3 32 Tryz.underlying216 D n q r rfl (by omega) (.slice A 0 c) 0 [] rfl (a.alloc _) ⟨w.heap.size,0,none⟩ 1 1 [.string s,.int .i64 0,.int .i64 t] rfl rfl (World.news_of_block (cs := #[.string s,.int .i64 0,.int .i64 t]) (heap_alloc_new w _)) lZ (by omega) (by unfold maxLen;omega) (by omega) ?c2 (w.heap.size+1) (by simp) ?_)
 case c2=>simp;omega
 intro g cap L d b x u;obtain⟨hv,h⟩:=sS (l:=[]) i j a d b;have y:=hv.cell;have C:=hv.frozen
 go_wp2
 go_end0
 exact⟨rfl,_,h hv⟩
theorem vH(w:World)(p B g n c:Nat)(l:List bH)(x:bH)(s:ByteArray)(t:Int)(Z:0≤t∧t≤65536)(hx:0≤x.to∧x.to≤4611686018427387904)(Y:n≤1000000000)
 (u:Var w p 216 (.slice (some ⟨g,0,none⟩) (n+1) c))(y:p<B)(V:B≤w.heap.size)
 (G:l.length=n+1)(a:l[n]?=some x)(v:x.QM≠s)
 (b:w.ownsRow B 256 3 (.slice (some ⟨g,0,none⟩) (n+1) c) (n+1) (ak l)):
 Calls Tryz.prog 118 #[.pointer (some ⟨p,0,none⟩),.string s,.int .i64 t] w fun e w'=>e=.returned (.tuple #[]) ∧
  ∃L,Var w' p 216 L∧w'.ownsRow B 256 3 L (l++[bH.mk s x.to (x.to+t)]).length (ak (l++[bH.mk s x.to (x.to+t)]))∧aB (fun k=>k=p∨(Value.slice (some ⟨g,0,none⟩) (n+1) c).ownBlock=some k) w w':=by
 have W:=u.cell;have X:=u.frozen;have R:=u.lt;obtain⟨S,Q,A,C,D⟩:=info_parts Tryz.info256;obtain⟨J,T,K⟩:=i7 a;have h:=b.cells (g:=g) rfl;have d:∀j,(⟨g,0,none⟩:Addr).add j=⟨g,j,none⟩:=fun j=>by unfold Addr.add;split<;>simp_all
 have c0:=h _ _ J;have c2:=h _ _ K;rw[d]at c0 c2;have I:=qo v;have E:=Lib.hid G;clear h G d J T K a
 go_enter Tryz.func118,Tryz.ntmps118
 go_wp2_with fail
 refine(mX _ g 0 n c x.to (by omega) (by simpa using c2)).mono ?_;rintro e w' ⟨rfl,rfl⟩
 go_wp2_with fail
 refine(mX _ g 0 n c x.to (by omega) (by simpa using c2)).mono ?_;rintro e w' ⟨rfl,rfl⟩
 go_wp2_with (at_builtin;refine wpList_append_lies _ rfl _ _ 216 rfl B 256 S (.agg #[.string ByteArray.empty,.int .i64 0,.int .i64 0]) 3 32 Tryz.underlying216 Q A C D rfl (by omega) (.slice (some ⟨g,0,none⟩) (n+1) c) (n+1) (ak l) rfl (b.alloc _) ⟨w.heap.size,0,none⟩ 1 1 [.string s,.int .i64 x.to,.int .i64 (x.to+t)] rfl rfl (World.news_of_block (cs := #[.string s,.int .i64 x.to,.int .i64 (x.to+t)]) (heap_alloc_new w _)) lZ (by omega) (by unfold maxLen;omega) (by omega) ?c2 (w.heap.size+1) (by simp) ?_)
 case c2=>simp;omega
 intro U cap w1 q i M H;obtain⟨hv,r⟩:=sS (l:=l) u y (by rw[E.out];exact b) (by rw[E.out];exact q) i;have N:=hv.cell;have O:=hv.frozen
 go_wp2
 go_end0
 exact⟨rfl,_,r hv⟩
theorem vF(w:World)(p B g n c:Nat)(l:List bH)(x:bH)(t:Int)(I:0≤t∧t≤65536)(hx:0≤x.to∧x.to≤4611686018427387904)(H:n≤1000000000)
 (i:Var w p 216 (.slice (some ⟨g,0,none⟩) (n+1) c))(y:p<B)(D:B≤w.heap.size)
 (u:l.length=n+1)(a:l[n]?=some x)
 (d:w.ownsRow B 256 3 (.slice (some ⟨g,0,none⟩) (n+1) c) (n+1) (ak l)):
 Calls Tryz.prog 118 #[.pointer (some ⟨p,0,none⟩),.string x.QM,.int .i64 t] w fun e w'=>e=.returned (.tuple #[]) ∧
  w'=w.setCell ⟨g,n*3+2,none⟩ (.int .i64 (x.to+t)):=by
 have E:=i.cell;have G:=i.frozen;have v:=i.lt;obtain⟨q,A,r⟩:=i7 a;have h:=d.cells (g:=g) rfl;have b:∀j,(⟨g,0,none⟩:Addr).add j=⟨g,j,none⟩:=fun j=>by unfold Addr.add;split<;>simp_all
 have c0:=h _ _ q;have c2:=h _ _ r;rw[b]at c0 c2;have C:w.frozen? ⟨g,n*3+2,none⟩=false:=d.frozenAt _;clear h u b q A r a
 go_enter Tryz.func118,Tryz.ntmps118
 go_wp2
 refine bodyPost_ret (results_none rfl _ _ _) rfl ?_;exact⟨rfl,rfl⟩
theorem jp(w:World)(p B:Nat)(v:Value)(l:List bH)(s:ByteArray)(t:Int)(L:0≤t∧t≤65536)(hx:∀x∈l,0≤x.to∧x.to≤4611686018427387904)(T:l.length≤1000000000)
 (u:Var w p 216 v)(j:p<B)(E:B≤w.heap.size)(a:w.ownsRow B 256 3 v l.length (ak l)):
 Calls Tryz.prog 118 #[.pointer (some ⟨p,0,none⟩),.string s,.int .i64 t] w fun e w'=>e=.returned (.tuple #[]) ∧
  ∃C,Var w' p 216 C∧w'.ownsRow B 256 3 C (Ln.run l s t).length (ak (Ln.run l s t))∧aB (fun k=>k=p∨v.ownBlock=some k) w w':=by
 rcases Nat.eq_zero_or_pos l.length with D|D
 ·obtain rfl:=List.eq_nil_of_length_eq_zero D
  have hv:∃A c,v=.slice A 0 c:=by
   rcases a.2 with⟨rfl,_⟩|⟨g,cap,M,rfl,_⟩
   ·exact⟨_,_,rfl⟩
   ·exact⟨_,_,rfl⟩
  obtain⟨A,c,rfl⟩:=hv;exact vD w p B A c s t L u j E a
 ·obtain⟨g,cap,rfl,R,S⟩:=a.form D
  obtain⟨n,q⟩:∃n,l.length=n+1:=⟨l.length-1,by omega⟩;obtain⟨x,b⟩:∃x,l[n]?=some x:=⟨l[n]'(by omega),List.getElem?_eq_getElem (by omega)⟩;have d:l.getLast?=some x:=by rw[List.getLast?_eq_getElem?,q];exact b
  have y:=hx x (List.mem_of_getElem? b);rw[q]at u a;rw[q]
  by_cases hs:x.QM=s
  ·subst hs
   refine(vF w p B g n cap l x t L y (by omega) u j E q b a).mono ?_;rintro e w' ⟨rfl,rfl⟩;have K:=(a.stored (n*3+2) (.int .i64 (x.to+t))).1;have I:¬ g=p:=by omega
   have J:Ln.run l x.QM t=l.dropLast++[bH.mk x.QM x.QH (x.to+t)]:=by simp[Ln.run,d]
   have H:l=l.dropLast++[x]:=by
    obtain⟨U,rfl⟩:=List.getLast?_eq_some_iff.1 d;simp
   have i:l.dropLast.length=n:=by rw[List.length_dropLast,q];rfl
   refine⟨rfl,_,u.keep ((aB.refl (fun k=>k=g) w).setCell (fun _=>rfl) _) (fun h=>I h.symm),?_,(aB.refl _ w).setCell (fun _ =>.inr rfl) _⟩;rw[J];have r:(l.dropLast++[bH.mk x.QM x.QH (x.to+t)]).length=n+1:=by simp[i]
   rw[r];have G:ak (l.dropLast++[bH.mk x.QM x.QH (x.to+t)])=(ak l).set (n*3+2) (.int .i64 (x.to+t)):=by
    conv=>rhs;rw[H]
    rw[ei,ei,List.set_append_right _ _ (by rw[gO,i];omega),gO,i];have:n*3+2-n*3=2:=by omega
    rw[this];rfl
   rw[G];exact K
  ·refine(vH w p B g n cap l x s t L y (by omega) u j E q b hs a).mono ?_
   rintro e w' ⟨rfl,C,N,O,Q⟩;have J:Ln.run l s t=l++[bH.mk s x.to (x.to+t)]:=by simp[Ln.run,d,hs]
   rw[J];exact⟨rfl,C,N,O,Q⟩
def cI(w:World)(R:List bH×Int×Int)(e:Ending)(w':World):Prop:=
 ∃v,e=.returned (.tuple #[v,.int .i64 R.2.1,.int .i64 R.2.2])∧w'.ownsRow w.heap.size 256 3 v R.1.length (ak R.1)∧Below w.heap.size w w'
theorem cI.nil{w':World}(d:Below w.heap.size w w'):cI w ([],a,b) (.returned (.tuple #[.slice none 0 0,.int .i64 a,.int .i64 b])) w':=
 ⟨_,rfl,World.ownsRow_nil _ _ _ _,d⟩
theorem ip{base a:Nat}{e:TypeId}{size:Nat}{n:Nat}{i:List Value}(h:w.ownsRow base e size v n i)(p:a≤base):w.ownsRow a e size v n i:=by
 refine⟨h.1,?_⟩
 rcases h.2 with d|⟨g,cap,b,d,j,l⟩
 ·exact .inl d
 ·exact .inr ⟨g,cap,b,d,Nat.le_trans p j,l⟩
def Ln.flatRuns(M:Nat)(xs:List Run):List bH×Int×Int:=
 match Ln.cC M false 0 0 xs with
 | some (i,e)=>([],i,e)
 | none=>Ln.ew (Ln.fill M (Ln.ez [] xs))
theorem sd(w:World)(B:Nat)(v:Value)(l:List bH)(D:l.length≤1000000000)(b:w.ownsRow B 256 3 v l.length (ak l)):
 Calls Tryz.prog 119 #[v] w fun e w'=>e=.returned (.int .i64 (Ln.ia l))∧w=w':=by
 rcases Nat.eq_zero_or_pos l.length with i|i
 ·obtain rfl:=List.eq_nil_of_length_eq_zero i
  have hv:∃A c,v=.slice A 0 c:=by
   rcases b.2 with⟨rfl,_⟩|⟨g,cap,q,rfl,_⟩
   ·exact⟨_,_,rfl⟩
   ·exact⟨_,_,rfl⟩
  obtain⟨A,c,rfl⟩:=hv;exact mY w c A
 ·obtain⟨g,cap,rfl,r,y⟩:=b.form i
  obtain⟨n,p⟩:∃n,l.length=n+1:=⟨l.length-1,by omega⟩;obtain⟨x,a⟩:∃x,l[n]?=some x:=⟨l[n]'(by omega),List.getElem?_eq_getElem (by omega)⟩;have d:l.getLast?=some x:=by rw[List.getLast?_eq_getElem?,p];exact a
  have u:Ln.ia l=x.to:=by unfold Ln.ia;rw[d]
  obtain⟨E,G,C⟩:=i7 a;have c2:=b.cells (g:=g) rfl _ _ C;have h:∀j,(⟨g,0,none⟩:Addr).add j=⟨g,j,none⟩:=fun j=>by unfold Addr.add;split<;>simp_all
  rw[h]at c2;rw[u,p];exact mX w g 0 n cap x.to (by omega) (by simpa using c2)
theorem wG(M:Nat)(w:World)(h:M<1∨65536<M)(e:M<18446744073709551616)(a:Int)(QP:Nat)(b:Bool)(s:Value)(g:s.cells = #[s]):
 Calls Tryz.prog 66 #[.int .u64 M,.agg #[.int .i64 a,.int .u64 QP,.bool b,s]] w (cI w ([], -1,92)):=by
 by_cases h0:M<1
 ·clear h
  go_enter Tryz.func66,Tryz.ntmps66
  go_wp2
  go_ret3
  exact cI.nil ((Below.refl _ _).alloc (Nat.le_refl _) _)
 ·have d:65536<M:=by omega
  clear h
  go_enter Tryz.func66,Tryz.ntmps66
  go_wp2
  go_ret3
  exact cI.nil ((Below.refl _ _).alloc (Nat.le_refl _) _)
theorem uH(M:Nat)(A:Option Addr)(c:Nat)(xs:List Run)(lp:Int)(QP:Nat)(w:World)(hM:1≤M)(hM2:M≤65536)
 (hx:∀r∈xs,r.QT<18446744073709551616∧r.per<18446744073709551616)(hl:xs.length≤140737488351232)(hr:eW w A xs):
 Calls Tryz.prog 66 #[.int .u64 M,.agg #[.int .i64 lp,.int .u64 QP,.bool false,.slice A xs.length c]] w (cI w (Ln.flatRuns M xs)):=by
 obtain⟨W,hW⟩:∃W,W=w.alloc (.cells #[.int .i64 lp,.int .u64 QP,.bool false,.slice A xs.length c] 92):=⟨_,rfl⟩;have hB:Below w.heap.size w W:=by subst hW;exact(Below.refl _ _).alloc (Nat.le_refl _) _
 have hWs:W.heap.size=w.heap.size+1:=by subst hW;simp
 have c2:W.cell? ⟨w.heap.size,2,none⟩=some (.bool false):=by subst hW;rw[World.cell?_alloc_at _ _ _ _ rfl];rfl
 have c3:W.cell? ⟨w.heap.size,3,none⟩=some (.slice A xs.length c):=by subst hW;rw[World.cell?_alloc_at _ _ _ _ rfl];rfl
 have hR:eW W A xs:=hr.below hB (Nat.le_refl _);obtain⟨R,hRes⟩:∃R,R=Ln.flatRuns M xs:=⟨_,rfl⟩;rw[←hRes];have HR:=Lib.hid hRes;have HS:=Lib.hid hWs;have HW:=Lib.hid hW;clear hWs hRes
 go_enter Tryz.func66,Tryz.ntmps66
 have h0:¬ M<1:=by omega
 have h1:¬ 65536<M:=by omega
 go_wp2
 rw[←hW];clear hW
 go_loopw [7,24] (fun s i wr=>∃k d:Nat,k≤xs.length∧i=.int .i64 k∧d≤M∧s=.int .u64 d∧Ln.cC M false k d (xs.drop k)=Ln.cC M false 0 0 xs∧Below W.heap.size W wr) (fun _ i _=>xs.length-(intOf i).toNat)
 case atStart=>exact⟨0,0,by omega,rfl,by omega,rfl,rfl,Below.refl _ _⟩
 case round =>
  obtain⟨k,d,hk,rfl,hd,rfl,hdem0,hbw⟩:=hrel;have hdem:=Lib.hid hdem0;clear hdem0;have hsz:=hbw.size;have hlt0:w.heap.size<wr.heap.size:=by have:=HS.out;omega
  have c2':wr.cell? ⟨w.heap.size,2,none⟩=some (.bool false):=by
   rw[hbw.cell (p:=⟨w.heap.size,2,none⟩) (by simp[HS.out])];exact c2
  have c3':wr.cell? ⟨w.heap.size,3,none⟩=some (.slice A xs.length c):=by
   rw[hbw.cell (p:=⟨w.heap.size,3,none⟩) (by simp[HS.out])];exact c3
  by_cases hlt:k<xs.length
  ·obtain⟨b,off,rfl,hbl,hcs⟩:=hR (by omega)
   obtain⟨r,hrk⟩:∃r,xs[k]?=some r:=⟨xs[k],List.getElem?_eq_getElem hlt⟩;have hmem:r∈xs:=List.mem_of_getElem? hrk;obtain⟨q0,q1,q2,q3⟩:=hcs k r hrk;rw[←hbw.cell (p:=⟨b,_,none⟩) (by exact hbl)]at q0 q1 q2 q3;have hbud:=(hx r hmem).1;have hper:=(hx r hmem).2;have hlt1:b<wr.heap.size:=by omega
   have hz:Ln.cC M false 0 0 xs=if Ln.right M r false=0 then(if M<d+Ln.ec M r false then some ((k:Int),93)else Ln.cC M false (k+1) (d+Ln.ec M r false) (xs.drop (k+1)))else some ((k:Int),Ln.right M r false):=by
    obtain⟨h1,h2⟩:=List.getElem?_eq_some_iff.1 hrk;rw[←hdem.out,List.drop_eq_getElem_cons h1,h2];rfl
   have HZ:=Lib.hid hz;clear hrk hcs c2 c3 hz
   go_wp2_with fail
   refine(oB _ r _ _ (by omega) hbud hper).mono ?_;rintro e w1 ⟨rfl,hb1⟩;have hz1:=hb1.size;simp at hz1;obtain⟨hc1,hf1⟩:=yI hb1;have hbw1:Below W.heap.size W w1:=(hbw.alloc hbw.size _).trans (hb1.mono (by simp;omega));clear hb1
   by_cases hr:Ln.right M r false=0
   ·have hr':(Ln.right M r false !=0)=false:=by simp[hr]
    have hw:=Ln.pP hr;obtain⟨o1,o2,o3⟩:=Ln.gR hr;have Hr:=Lib.hid hr;clear hr o3
    go_wp2_with fail
    refine(nh _ r _ _ hM2 o2 (fun h=>by simp at h)).mono ?_;rintro e w2 ⟨rfl,hb2⟩;have hbw2:Below W.heap.size W w2:=hbw1.trans (hb2.mono (by omega));clear hb2 hc1 hf1
    by_cases ho:M<d+Ln.ec M r false
    ·go_wp2
     go_ret3
     rw[HR.out,Ln.flatRuns,HZ.out,if_pos Hr.out,if_pos ho];exact cI.nil (hB.trans (hbw2.mono (by simp[HS.out])))
    ·go_wp2
     go_roundw
     case rel =>
      exact⟨k+1,d+Ln.ec M r false,by omega,by go_num,by omega,by go_num,by rw[HZ.out,if_pos Hr.out,if_neg (by omega)],hbw2⟩
     case measure=>simp[intOf];omega
   ·have hr':(Ln.right M r false !=0)=true:=by simp[hr]
    go_wp2
    go_ret3
    rw[HR.out,Ln.flatRuns,HZ.out,if_neg hr];exact cI.nil (hB.trans (hbw1.mono (by simp[HS.out])))
  ·have hk':k=xs.length:=by omega
   have hnone:Ln.cC M false 0 0 xs=none:=by rw[←hdem.out,hk',List.drop_length];rfl
   obtain⟨hall,hsum⟩:=Ln.iK hnone;have hsum':=hsum rfl (by omega);have HN:=Lib.hid hnone;have HA:=Lib.hid hall;have hB1:Below w.heap.size w wr:=hB.trans (hbw.mono (by simp[HS.out]));have hR1:eW wr A xs:=hR.below hbw (by omega);clear hnone hall hsum hk' hR c2 c3 hbw hsz hB;have hb1:∀r∈xs,1≤r.QT∧r.QT≤65536:=fun r hr=>by
    obtain⟨o1,o2,_⟩:=Ln.gR (HA.out r hr);exact⟨o1,by omega⟩
   have hlen:=Ln.rH (fun r hr=>(hb1 r hr).1);have hfin:R=Ln.ew (Ln.fill M (Ln.ez [] xs)):=by rw[HR.out,Ln.flatRuns,HN.out]
   have HF:=Lib.hid hfin;have HB1:=Lib.hid hB1;clear hfin hB1
   go_wp2
   obtain⟨wo,hwo⟩:∃wo,wo=wr.alloc (.cells #[.slice none 0 0] 216):=⟨_,rfl⟩;obtain⟨p,hp⟩:∃p,p=wr.heap.size:=⟨_,rfl⟩;have hwp:w.heap.size<p:=by omega
   have hv0:Var wo p 216 (.slice none 0 0):=by subst hwo hp;exact heap_alloc_new _ _
   have hBo:Below w.heap.size w wo:=by subst hwo;exact HB1.out.alloc HB1.out.size _
   have hso:p+1≤wo.heap.size:=by subst hwo hp;simp
   rw[←hwo,←hp];clear hwo hp hR1 c2' c3'
   go_loopw [60] (fun i wq=>∃(k T:Nat) (rows:List bH) (v:Value),k≤xs.length∧i=.int .i64 k∧Ln.ez rows (xs.drop k)=Ln.ez [] xs∧Var wq p 216 v∧wq.ownsRow (p+1) 256 3 v rows.length (ak rows) ∧
    Ln.lG T rows∧T+Ln.fo (xs.drop k)≤M∧rows.length≤k∧Below w.heap.size w wq∧p+1≤wq.heap.size) (fun i _=>xs.length-(intOf i).toNat)
   case atStart=>exact⟨0,0,[],_,by omega,rfl,rfl,hv0,World.ownsRow_nil _ _ _ _,Ln.lQ _,by simpa using hsum',by simp,hBo,hso⟩
   case round =>
    obtain⟨k,T,rows,v,hk,rfl,hrows,hv,hown,hup,hT,hrl,hbq,hsq⟩:=hrel;have Hrows:=Lib.hid hrows;have Hup:=Lib.hid hup;clear hrows hup
    by_cases hlt:k<xs.length
    ·obtain⟨b,off,rfl,hbl,hcs⟩:=hr (by omega)
     obtain⟨r,hrk⟩:∃r,xs[k]?=some r:=⟨xs[k],List.getElem?_eq_getElem hlt⟩;have hmem:r∈xs:=List.mem_of_getElem? hrk;obtain⟨q0,q1,q2,q3⟩:=hcs k r hrk;obtain⟨e1,e2⟩:=hb1 r hmem;obtain⟨h1,h2⟩:=List.getElem?_eq_some_iff.1 hrk;have hd2:xs.drop k=r::xs.drop (k+1):=by rw[List.drop_eq_getElem_cons h1,h2]
     have hsb:Ln.fo (xs.drop k)=r.QT+Ln.fo (xs.drop (k+1)):=by rw[hd2];rfl
     have hrr:Ln.ez (Ln.run rows r.QM r.QT) (xs.drop (k+1))=Ln.ez [] xs:=by rw[←Hrows.out,hd2];rfl
     rw[hsb]at hT;have HRR:=Lib.hid hrr;clear hd2 hsb hrr hrk hcs h1 h2;rw[←hbq.cell (p:=⟨b,_,none⟩) (by exact hbl)]at q0 q1 q2 q3;have hlt1:b<wr.heap.size:=by omega
     go_wp2_with fail
     have hkk:Kz wr (wr.alloc (.cells #[.int .i64 r.pos,.string r.QM,.int .u64 r.QT,.int .u64 r.per] 108)):=(aB.refl _ _).alloc _;refine(jp _ p (p+1) v rows r.QM r.QT ⟨by omega,by omega⟩ (fun x hx=>by have:=Hup.out x hx;omega) (by omega) (hv.keep hkk (by simp)) (by omega) (by simp;omega) (hown.alloc _)).mono ?_;rintro e w1 ⟨rfl,v',hv',hown',hk'⟩;have hb2:Below w.heap.size w w1:=(hbq.alloc (by omega) _).trans (hk'.below (by simp;omega) (fun i hi h=>by
      rcases h with h|h
      ·omega
      ·have:=(hown.lt _ h).1;omega))
     have hs2:=hk'.size;simp at hs2;have hup':=Ln.lG.run Hup.out (by omega) r.QM (t:=(r.QT:Int)) (by omega);have HU:=Lib.hid hup';have hlr:=Ln.jb rows r.QM r.QT;clear hk' hkk hup'
     go_wp2
     go_roundw
     case rel=>exact⟨k+1,T+r.QT,Ln.run rows r.QM r.QT,v',by omega,by go_num,HRR.out,hv',hown',by simpa using HU.out,by omega,by omega,hb2,by omega⟩
     case measure=>simp[intOf];omega
    ·have hk':k=xs.length:=by omega
     have hrr:rows=Ln.ez [] xs:=by rw[←Hrows.out,hk',List.drop_length];rfl
     have hT':T≤M:=by omega
     have hrl':rows.length≤65536:=by omega
     rw[←hrr]at HF;obtain⟨he0,he1⟩:=Ln.lG.end_ Hup.out (by omega);obtain⟨E,hE⟩:∃E,E=Ln.ia rows:=⟨_,rfl⟩;rw[←hE]at he0 he1;have HE:=Lib.hid hE;have hvc:=hv.cell;clear hk' hrr hE hT hrl
     go_wp2_with fail
     refine(sd _ (p+1) v rows (by omega) hown).mono ?_;rw[←HE.out];rintro e w1 ⟨rfl,rfl⟩
     by_cases hleft:0<(M:Int)-E
     ·have hl2:E<(M:Int):=by omega
      go_wp2_with fail
      refine(jp _ p (p+1) v rows ByteArray.empty (M-E) ⟨by omega,by omega⟩ (fun x hx=>by have:=Hup.out x hx;omega) (by omega) hv (by omega) (by omega) hown).mono ?_;rintro e w2 ⟨rfl,v',hv',hown',hk'⟩;have hb2:Below w.heap.size w w2:=hbq.trans (hk'.below (by omega) (fun i hi h=>by
       rcases h with h|h
       ·omega
       ·have:=(hown.lt _ h).1;omega))
      have hff:Ln.fill M rows=Ln.run rows ByteArray.empty (M-E):=by unfold Ln.fill;rw[←HE.out,if_pos hleft]
      rw[hff]at HF;obtain⟨rows2,hrows2⟩:∃x,x=Ln.run rows ByteArray.empty (M-E):=⟨_,rfl⟩;have hl3:=Ln.jb rows ByteArray.empty (M-E);rw[←hrows2]at HF hown' hl3;clear hk' hff hrows2;have hvc':=hv'.cell;have hsl:∃A cc,(if True then v' else v')=.slice A rows2.length cc:=by
       rcases hown'.2 with⟨h,h2⟩|⟨g,cap,cur,h,_⟩
       ·exact⟨none,0,by rw[if_pos trivial,h,h2]⟩
       ·exact⟨_,_,by rw[if_pos trivial,h]⟩
      rw[if_pos trivial]at hsl;obtain⟨A2,cc,hsl⟩:=hsl;subst hsl
      by_cases hcap:4096<rows2.length
      ·go_wp2
       go_ret3
       rw[HF.out,Ln.ew,if_pos hcap];exact cI.nil hb2
      ·go_wp2
       go_ret3
       rw[HF.out,Ln.ew,if_neg hcap];exact⟨_,rfl,ip hown' (by omega),hb2⟩
     ·have hff:Ln.fill M rows=rows:=by unfold Ln.fill;rw[←HE.out,if_neg hleft]
      rw[hff]at HF;obtain⟨rows2,hrows2⟩:∃x,x=rows:=⟨_,rfl⟩;rw[←hrows2]at HF hown;have hl3:rows2.length≤rows.length+1:=by rw[hrows2];omega
      have hv':=hv;have hown':=hown;have hb2:=hbq;clear hff hrows2 hv hown hbq;have hvc':=hv'.cell;have hsl:∃A cc,(if True then v else v)=.slice A rows2.length cc:=by
       rcases hown'.2 with⟨h,h2⟩|⟨g,cap,cur,h,_⟩
       ·exact⟨none,0,by rw[if_pos trivial,h,h2]⟩
       ·exact⟨_,_,by rw[if_pos trivial,h]⟩
      rw[if_pos trivial]at hsl;obtain⟨A2,cc,hsl⟩:=hsl;subst hsl
      by_cases hcap:4096<rows2.length
      ·go_wp2
       go_ret3
       rw[HF.out,Ln.ew,if_pos hcap];exact cI.nil hb2
      ·go_wp2
       go_ret3
       rw[HF.out,Ln.ew,if_neg hcap];exact⟨_,rfl,ip hown' (by omega),hb2⟩
theorem yd(a:Addr)(w:World):(method 498 245 (.pointer (some a)) "Push").run Tryz.prog w=.ok (266,.pointer (some a)) w:=by kernel_rfl
theorem yw(a:Addr)(w:World):(method 498 245 (.pointer (some a)) "Pop").run Tryz.prog w=.ok (265,.pointer (some a)) w:=by kernel_rfl
theorem ye(a:Addr)(w:World):(method 498 245 (.pointer (some a)) "Len").run Tryz.prog w=(match w.cell? a with|some v =>.ok (137,v) w|none=>(match w.farLoad Tryz.prog a (Mode.plain==Mode.atomic)with|.ok (v,_) =>.ok (137,v) w|.error h =>.halt h w)):=by kernel_rfl
theorem vl{a:Addr}(h:w.cell? a=some v):(method 498 245 (.pointer (some a)) "Len").run Tryz.prog w=.ok (137,v) w:=by rw[ye,h]
theorem xU(a:Addr)(w:World):(method 498 245 (.pointer (some a)) "Less").run Tryz.prog w=(match w.cell? a with|some v =>.ok (264,v) w|none=>(match w.farLoad Tryz.prog a (Mode.plain==Mode.atomic)with|.ok (v,_) =>.ok (264,v) w|.error h =>.halt h w)):=by kernel_rfl
theorem rd{a:Addr}(h:w.cell? a=some v):(method 498 245 (.pointer (some a)) "Less").run Tryz.prog w=.ok (264,v) w:=by rw[xU,h]
theorem xS(a:Addr)(w:World):(method 498 245 (.pointer (some a)) "Swap").run Tryz.prog w=(match w.cell? a with|some v =>.ok (267,v) w|none=>(match w.farLoad Tryz.prog a (Mode.plain==Mode.atomic)with|.ok (v,_) =>.ok (267,v) w|.error h =>.halt h w)):=by kernel_rfl
theorem ir{a:Addr}(h:w.cell? a=some v):(method 498 245 (.pointer (some a)) "Swap").run Tryz.prog w=.ok (267,v) w:=by rw[xS,h]
def Job.cells(s:Job):List Value:=[.int .i64 s.need,.int .i64 s.due,.int .i64 s.left]
def bA(l:List Job):List Value:=l.flatMap Job.cells
theorem iW(l:List Job):(bA l).length=l.length*3:=by
 induction l with
 | nil=>rfl
 | cons s l ih=>simp only[bA,List.flatMap_cons,List.length_append,List.length_cons]at ih⊢; rw[ih];simp[Job.cells];omega
theorem iX(l m:List Job):bA (l++m)=bA l++bA m:=by simp[bA]
theorem qT{l:List Job}{i:Nat}{s:Job}(h:l[i]?=some s):
 (bA l)[i*3]?=some (.int .i64 s.need)∧(bA l)[i*3+1]?=some (.int .i64 s.due)∧(bA l)[i*3+2]?=some (.int .i64 s.left):=by
 induction l generalizing i with
 | nil=>simp at h
 | cons x l ih =>
  cases i with
  | zero=>simp at h;subst h;simp[bA,Job.cells]
  | succ i =>
   have:=ih (i:=i) (by simpa using h);have e:∀j,(bA (x::l))[(i+1)*3+j]?=(bA l)[i*3+j]?:=fun j=>by
    simp only[bA,List.flatMap_cons];rw[List.getElem?_append_right (by simp[Job.cells];omega)]
    congr 1
    simp[Job.cells];omega
   exact⟨(e 0).trans this.1,(e 1).trans this.2.1,(e 2).trans this.2.2⟩
theorem kB(l:List Job)(i:Nat)(b:Job)(h:i<l.length):bA (l.set i b)=(((bA l).set (i*3) (.int .i64 b.need)).set (i*3+1) (.int .i64 b.due)).set (i*3+2) (.int .i64 b.left):=by
 induction l generalizing i with
 | nil=>simp at h
 | cons x l ih =>
  cases i with
  | zero=>simp[bA,Job.cells]
  | succ i =>
   have:=ih i (by simpa using h);have e:∀(l:List Value) (j:Nat) (u:Value),(x.cells++l).set ((i+1)*3+j) u=x.cells++l.set (i*3+j) u:=fun l j u=>by
    rw[List.set_append_right _ _ (by simp[Job.cells];omega)]
    congr 2
    simp[Job.cells];omega
   have e0:=fun l u=>e l 0 u
   simp only[Nat.add_zero]at e0;simp only[List.set_cons_succ,bA,List.flatMap_cons]at this⊢;rw[this,e0,e,e]
theorem Tryz.info250:(Tryz.prog.info? 250).map (fun i=>(i.zero,i.size,i.bytes))=some (some (.agg #[.int .i64 0,.int .i64 0,.int .i64 0]),3,24):=by kernel_rfl
theorem fA(w:World)(A:Option Addr)(n c:Nat):Calls Tryz.prog 137 #[.slice A n c] w fun e w'=>e=.returned (.int .i64 n)∧w=w':=by
 go_enter Tryz.func137,Tryz.ntmps137
 go_wp2
 go_ret
 exact⟨rfl,rfl⟩
theorem fh{g n c:Nat}{l:List Job}{a:Job}(e:w.ownsRow B 250 3 (.slice (some ⟨g,0,none⟩) n c) n (bA l))(h:l[i]?=some a):
 w.cell? ⟨g,i*3,none⟩=some (.int .i64 a.need)∧w.cell? ⟨g,i*3+1,none⟩=some (.int .i64 a.due)∧w.cell? ⟨g,i*3+2,none⟩=some (.int .i64 a.left):=by
 have d:∀j,(⟨g,0,none⟩:Addr).add j=⟨g,j,none⟩:=fun j=>by unfold Addr.add;split<;>simp_all
 obtain⟨p,q,r⟩:=qT h;have b:=e.cells (g:=g) rfl;have c0:=b _ _ p;have c1:=b _ _ q;have c2:=b _ _ r;rw[d]at c0 c1 c2;exact⟨c0,c1,c2⟩
theorem iu(w:World)(g n c i j:Nat)(a b:Job)(l:List Job)(y:l.length=n)(r:l[i]?=some a)(u:l[j]?=some b)(d:w.ownsRow 0 250 3 (.slice (some ⟨g,0,none⟩) n c) n (bA l)):
 Calls Tryz.prog 264 #[.slice (some ⟨g,0,none⟩) n c,.int .i64 i,.int .i64 j] w fun e w'=>e=.returned (.bool (decide (Ln.jlt a b)))∧∃n,w'=w.drewN n:=by
 obtain⟨A,B,C⟩:=fh d r;obtain⟨D,E,G⟩:=fh d u;have H:=(List.getElem?_eq_some_iff.1 r).1;have I:=(List.getElem?_eq_some_iff.1 u).1;have v:(i:Int)<n:=by omega
 have x:(j:Int)<n:=by omega
 clear d r u y
 by_cases g1:a.due<b.due
 ·have h:decide (Ln.jlt a b)=true:=by simp;exact .inl g1
  rw[h];have p:decide (a.due<b.due)=true:=by simpa using g1
  clear h g1
  go_enter Tryz.func264,Tryz.ntmps264
  go_wp2
  go_big_quiet (fail)
  go_wp2
  go_ret
  exact⟨rfl,nq,rfl⟩
 ·have p:decide (a.due<b.due)=false:=by simpa using g1
  by_cases g2:a.due=b.due
  ·have q:(a.due==b.due)=true:=by simpa using g2
   have h:decide (Ln.jlt a b)=decide (a.need<b.need):=by simp[Ln.jlt,g2]
   rw[h];clear h g1 g2
   go_enter Tryz.func264,Tryz.ntmps264
   go_wp2
   go_big_quiet (fail)
   go_wp2
   go_ret
   exact⟨rfl,nq,rfl⟩
  ·have q:(a.due==b.due)=false:=by simpa using g2
   have h:decide (Ln.jlt a b)=false:=by rw[decide_eq_false_iff_not];unfold Ln.jlt;omega
   rw[h];clear h g1 g2
   go_enter Tryz.func264,Tryz.ntmps264
   go_wp2
   go_big_quiet (fail)
   go_wp2
   go_ret
   exact⟨rfl,nq,rfl⟩
theorem ie(w:World)(g n c i j:Nat)(a b:Job)(l:List Job)(K:l.length=n)(y:l[i]?=some a)(A:l[j]?=some b)(d:w.ownsRow 0 250 3 (.slice (some ⟨g,0,none⟩) n c) n (bA l)):
 Calls Tryz.prog 267 #[.slice (some ⟨g,0,none⟩) n c,.int .i64 i,.int .i64 j] w fun e w'=>e=.returned (.tuple #[])∧w'.ownsRow 0 250 3 (.slice (some ⟨g,0,none⟩) n c) n (bA (Ln.cL l i j a b))∧aB (fun k=>k=g) w w':=by
 obtain⟨Q,R,S⟩:=fh d y;obtain⟨T,U,V⟩:=fh d A;have u:∀k,w.frozen? ⟨g,k,none⟩=false:=fun k=>d.frozenAt k
 have W:=u (i*3);have X:=u (i*3+1);have Y:=u (i*3+2);have Z:=u (j*3);have f4:=u (j*3+1);have f5:=u (j*3+2);have B:=(List.getElem?_eq_some_iff.1 y).1;have x:=(List.getElem?_eq_some_iff.1 A).1;have I:(i:Int)<n:=by omega
 have J:(j:Int)<n:=by omega
 have G:=Lib.hid y;have H:=Lib.hid A;clear y A K u;have r:((((((w.setCell ⟨g,i*3,none⟩ (.int .i64 b.need)).setCell ⟨g,i*3+1,none⟩ (.int .i64 b.due)).setCell ⟨g,i*3+2,none⟩ (.int .i64 b.left)).setCell ⟨g,j*3,none⟩ (.int .i64 a.need)).setCell ⟨g,j*3+1,none⟩ (.int .i64 a.due)).setCell ⟨g,j*3+2,none⟩ (.int .i64 a.left)).drew.ownsRow 0 250 3 (.slice (some ⟨g,0,none⟩) n c) n (bA (Ln.cL l i j a b)):=by
  have L:=(d.stored (i*3) (.int .i64 b.need)).1;have M:=(L.stored (i*3+1) (.int .i64 b.due)).1;have D:=(M.stored (i*3+2) (.int .i64 b.left)).1;rw[←kB l i b B]at D;have N:=(D.stored (j*3) (.int .i64 a.need)).1;have O:=(N.stored (j*3+1) (.int .i64 a.due)).1;have E:=(O.stored (j*3+2) (.int .i64 a.left)).1;rw[←kB (l.set i b) j a (by simpa using x)]at E;exact E.drew
 have q:aB (fun k=>k=g) w ((((((w.setCell ⟨g,i*3,none⟩ (.int .i64 b.need)).setCell ⟨g,i*3+1,none⟩ (.int .i64 b.due)).setCell ⟨g,i*3+2,none⟩ (.int .i64 b.left)).setCell ⟨g,j*3,none⟩ (.int .i64 a.need)).setCell ⟨g,j*3+1,none⟩ (.int .i64 a.due)).setCell ⟨g,j*3+2,none⟩ (.int .i64 a.left)).drew:=
  (((((((aB.refl (fun k=>k=g) w).setCell (fun _=>rfl) _).setCell (fun _=>rfl) _).setCell (fun _=>rfl) _).setCell (fun _=>rfl) _).setCell (fun _=>rfl) _).setCell (fun _=>rfl) _).drew
 have p:=Lib.hid r;have h:=Lib.hid q;clear r q d
 rcases Nat.lt_trichotomy i j with v|v|v
 ·go_enter Tryz.func267,Tryz.ntmps267
  go_wp2
  go_region
  go_wp2
  go_end0
  exact⟨rfl,p.out,h.out⟩
 ·subst v
  have C:a=b:=by have B:=G.out;have x:=H.out;rw[B]at x;injection x
  subst C
  go_enter Tryz.func267,Tryz.ntmps267
  go_wp2
  go_region
  go_wp2
  go_end0
  exact⟨rfl,p.out,h.out⟩
 ·go_enter Tryz.func267,Tryz.ntmps267
  go_wp2
  go_region
  go_wp2
  go_end0
  exact⟨rfl,p.out,h.out⟩
end Go.Proofs.YtpblcjipmoblnaaGreatDoor
