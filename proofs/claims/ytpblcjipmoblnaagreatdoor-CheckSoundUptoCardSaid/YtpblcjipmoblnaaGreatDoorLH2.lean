import Derived.Test.YtpblcjipmoblnaaGreatDoorProg
import Derived.Test.YtpblcjipmoblnaaGreatDoorMem
set_option maxRecDepth 100000
set_option linter.all false
set_option maxHeartbeats 4000000
namespace Go.Proofs.YtpblcjipmoblnaaGreatDoor
open Go.RowKit Go.IntWalk
variable {w:World} {B i:Nat} {a b:Int} {v:Value}
def Run.val(r:Run):Value := .agg #[.int .i64 r.pos,.string r.QK,.int .u64 r.QT,.int .u64 r.per]
def eV(w:World)(A:Option Addr)(xs:List Run):Prop:=
 0<xs.length→∃b off,A=some ⟨b,off,none⟩∧b<w.heap.size∧∀i r,xs[i]?=some r →
  w.cell? ⟨b,off+i*4,none⟩=some (.int .i64 r.pos)∧w.cell? ⟨b,off+i*4+1,none⟩=some (.string r.QK) ∧
  w.cell? ⟨b,off+i*4+2,none⟩=some (.int .u64 r.QT)∧w.cell? ⟨b,off+i*4+3,none⟩=some (.int .u64 r.per)
theorem eV.below{w':World}{A:Option Addr}{xs:List Run}(h:eV w A xs)(g:Below B w w')(v:w.heap.size≤B):eV w' A xs:=by
 intro q;obtain⟨b,off,e,d,l⟩:=h q;refine⟨b,off,e,Nat.lt_of_lt_of_le d g.size,fun i r u=>?_⟩;obtain⟨c0,c1,c2,j⟩:=l i r u;have hk:∀o,w'.cell? ⟨b,o,none⟩=w.cell? ⟨b,o,none⟩:=fun o=>g.cell (p:=⟨b,o,none⟩) η
 exact⟨(hk _).trans c0,(hk _).trans c1,(hk _).trans c2,(hk _).trans j⟩
def bB.cells(s:bB):List Value:=[.string s.QK,.int .i64 s.QI,.int .i64 s.to]
def ab(l:List bB):List Value:=l.flatMap bB.cells
theorem i9(l:List bB):(ab l).length=l.length*3:=by
 induction l with
 | nil=>rfl
 | cons s l ih=>simp only[ab,List.flatMap_cons,List.length_append,List.length_cons]at ih⊢; rw[ih];simp[bB.cells];omega
theorem ei(l m:List bB):ab (l++m)=ab l++ab m:=by simp[ab]
theorem iY{l:List bB}{i:Nat}{s:bB}(h:l[i]?=some s):
 (ab l)[i*3]?=some (.string s.QK)∧(ab l)[i*3+1]?=some (.int .i64 s.QI)∧(ab l)[i*3+2]?=some (.int .i64 s.to):=by
 induction l generalizing i with
 | nil=>simp at h
 | cons x l ih =>
  cases i with
  | zero=>simp at h;subst h;simp[ab,bB.cells]
  | succ i =>
   have:=ih (i:=i) (by simpa using h);have e:∀j,(ab (x::l))[(i+1)*3+j]?=(ab l)[i*3+j]?:=fun j=>by
    simp only[ab,List.flatMap_cons];rw[List.getElem?_append_right (by simp[bB.cells];omega)]
    congr 1
    simp[bB.cells];omega
   exact⟨(e 0).trans this.1,(e 1).trans this.2.1,(e 2).trans this.2.2⟩
theorem Tryz.info256:(Tryz.prog.info? 256).map (fun i=>(i.zero,i.size,i.bytes))=some (some (.agg #[.string ByteArray.empty,.int .i64 0,.int .i64 0]),3,32):=δ
theorem pt(M:Nat)(r:Run)(d:Bool)(w:World)(g:M<18446744073709551616)(h:r.QT<18446744073709551616)(j:r.per<18446744073709551616):
 Calls Tryz.prog 115 #[.int .u64 M,r.val,.bool d] w fun e w'=>e=.returned (.int .i64 (Ln.right M r d))∧Below w.heap.size w w':=by
 obtain⟨pos,s,QT,per⟩:=r;simp only[Run.val]at *
 go_enter Tryz.func115,Tryz.ntmps115
 go_wp2
 all_goals go_ret
 all_goals refine⟨ug ?_,(Below.refl _ _).alloc (Nat.le_refl _) _⟩
 all_goals(unfold Ln.right;simp_all)
 all_goals try omega
theorem pZ(M:Nat)(r:Run)(d:Bool)(w:World)(y:M≤65536)(A:r.QT≤M)(h:d=true→r.QT≤r.per∧1≤r.per∧r.per≤M):
 Calls Tryz.prog 116 #[.int .u64 M,r.val,.bool d] w fun e w'=>e=.returned (.int .u64 (Ln.eZ M r d))∧Below w.heap.size w w':=by
 obtain⟨pos,s,QT,per⟩:=r;simp only[Run.val]at *
 go_enter Tryz.func116,Tryz.ntmps116
 cases d
 ·go_wp2
  go_ret
  exact⟨rfl,(Below.refl _ _).alloc (Nat.le_refl _) _⟩
 ·obtain⟨j,l,p⟩:=h rfl
  clear h;have q:QT*(M / per)≤M:=Nat.le_trans (Nat.mul_le_mul_right _ j) (Nat.mul_div_le M per);have g:(QT:Int)*((M:Int) / (per:Int))=((QT*(M / per):Nat):Int):=ξ
  have u:(0:Int)≤(QT:Int)*((M:Int) / (per:Int)):=by rw[g];omega
  have v:(QT:Int)*((M:Int) / (per:Int))≤65536:=by rw[g];omega
  clear g
  go_wp2
  go_quiet (fail)
  go_wp2
  go_ret
  refine⟨ug ?_,sZ ((Below.refl _ _).alloc (Nat.le_refl _) _) _⟩;simp only[Ln.eZ,if_true];have x:=tdiv_le M per χ χ;rw[u64_in (↑M / ↑per) χ,u64_in _ χ];simp
theorem oO(w:World)(c:Nat)(A:Option Addr):Calls Tryz.prog 119 #[.slice A 0 c] w fun e w'=>e=.returned (.int .i64 0)∧w=w':=by
 go_enter Tryz.func119,Tryz.ntmps119
 go_wp2
 go_ret
 exact⟨rfl,rfl⟩
theorem oN(w:World)(b off n c:Nat)(to:Int)(g:n<140737488351232)(d:w.cell? ⟨b,off+n*3+2,none⟩=some (.int .i64 to)):Calls Tryz.prog 119 #[.slice (some ⟨b,off,none⟩) (n+1) c] w fun e w'=>e=.returned (.int .i64 to)∧w=w':=by
 go_enter Tryz.func119,Tryz.ntmps119
 go_wp2
 go_ret
 exact⟨rfl,rfl⟩
theorem nY{s:ByteArray}:∀u∈[Value.string s,.int .i64 a,.int .i64 b],u.oneCell'=true:=by
 intro u d;simp at d;rcases d with rfl|rfl|rfl<;>rfl
theorem uf{d:World}{p:Nat}{q:Value}{l:List bB}{s:ByteArray}(A:Var w p 216 v)(y:p<B)
 (u:w.ownsRow B 256 3 v l.length (ab l))
 (j:d.ownsRow B 256 3 q (l.length+1) (ab l++[.string s,.int .i64 a,.int .i64 b]))
 (g:(w.alloc (Obj.cells #[.string s,.int .i64 a,.int .i64 b] 256)).grownBy d v.ownBlock):
 Var d p 216 v∧(Var d p 216 v→Var (d.setCell ⟨p,0,none⟩ q) p 216 q∧(d.setCell ⟨p,0,none⟩ q).ownsRow B 256 3 q (l++[bB.mk s a b]).length (ab (l++[bB.mk s a b])) ∧
  aD (fun k=>k=p∨v.ownBlock=some k) w (d.setCell ⟨p,0,none⟩ q)):=by
 have D:=A.lt;have r:aD (fun k=>v.ownBlock=some k) w d:=((aD.refl _ w).alloc _).trans (aD.of_grown g (S:=fun k=>v.ownBlock=some k) (fun k h=>h)) (fun _ _ h=>h);have x:¬ v.ownBlock=some p:=fun h=>by have:=(u.lt p h).1;omega
 refine⟨A.keep r x,fun C=>⟨C.set_ _,?_,?_⟩⟩
 ·rw[ei]
  rw[List.length_append];exact ownsRow_setCell_below (a:=⟨p,0,none⟩) j (by exact y) _
 ·exact(r.mono fun i _ h =>.inr h).setCell (fun _ =>.inl rfl) _
theorem xp(w:World)(p B:Nat)(A:Option Addr)(c:Nat)(s:ByteArray)(t:Int)(S:0≤t∧t≤65536)(r:Var w p 216 (.slice A 0 c))(u:p<B)(O:B≤w.heap.size)
 (d:w.ownsRow B 256 3 (.slice A 0 c) 0 []):
 Calls Tryz.prog 118 #[.pointer (some ⟨p,0,none⟩),.string s,.int .i64 t] w fun e w'=>e=.returned (.tuple #[]) ∧
  ∃D,Var w' p 216 D∧w'.ownsRow B 256 3 D 1 (ab [⟨s,0,t⟩])∧aD (fun k=>k=p∨(Value.slice A 0 c).ownBlock=some k) w w':=by
 have Q:=r.cell;have R:=r.frozen;have L:=r.lt;obtain⟨N,K,v,x,y⟩:=info_parts Tryz.info256
 go_enter Tryz.func118,Tryz.ntmps118
 go_wp2_with fail
 refine(oO _ _ _).mono ?_;rintro e w' ⟨rfl,rfl⟩
 go_wp2_with fail
 refine(oO _ _ _).mono ?_;rintro e w' ⟨rfl,rfl⟩
 go_wp2_with (at_builtin;refine wpList_append_lies _ rfl _ _ 216 rfl B 256 N (.agg #[.string ByteArray.empty,.int .i64 0,.int .i64 0]) 3 32 Tryz.underlying216 K v x y rfl χ (.slice A 0 c) 0 [] rfl (d.alloc _) ⟨w.heap.size,0,none⟩ 1 1 [.string s,.int .i64 0,.int .i64 t] rfl rfl (World.news_of_block (cs := #[.string s,.int .i64 0,.int .i64 t]) (heap_alloc_new w _)) nY χ (by unfold maxLen;omega) χ ?c2 (w.heap.size+1) ξ ?_)
 case c2=>simp;omega
 intro g E U j h H C;obtain⟨hv,q⟩:=uf (l:=[]) r u d j h;have I:=hv.cell;have J:=hv.frozen
 go_wp2
 go_end0
 exact⟨rfl,_,q hv⟩
theorem xt(w:World)(p B g n c:Nat)(l:List bB)(x:bB)(s:ByteArray)(t:Int)(ht:0≤t∧t≤65536)(hx:0≤x.to∧x.to≤4611686018427387904)(hn:n≤1000000000)
 (A:Var w p 216 (.slice (some ⟨g,0,none⟩) (n+1) c))(D:p<B)(hB:B≤w.heap.size)
 (K:l.length=n+1)(d:l[n]?=some x)(C:x.QK≠s)
 (h:w.ownsRow B 256 3 (.slice (some ⟨g,0,none⟩) (n+1) c) (n+1) (ab l)):
 Calls Tryz.prog 118 #[.pointer (some ⟨p,0,none⟩),.string s,.int .i64 t] w fun e w'=>e=.returned (.tuple #[]) ∧
  ∃R,Var w' p 216 R∧w'.ownsRow B 256 3 R (l++[bB.mk s x.to (x.to+t)]).length (ab (l++[bB.mk s x.to (x.to+t)]))∧aD (fun k=>k=p∨(Value.slice (some ⟨g,0,none⟩) (n+1) c).ownBlock=some k) w w':=by
 have hc:=A.cell;have hf:=A.frozen;have Y:=A.lt;obtain⟨Z,X,E,H,I⟩:=info_parts Tryz.info256;obtain⟨O,q1,Q⟩:=iY d;have r:=h.cells (g:=g) rfl;have q:∀j,(⟨g,0,none⟩:Addr).add j=⟨g,j,none⟩:=fun j=>by unfold Addr.add;split<;>simp_all
 have c0:=r _ _ O;have c2:=r _ _ Q;rw[q]at c0 c2;have N:=sX C;have J:=Lib.hid K;clear r K q O q1 Q d
 go_enter Tryz.func118,Tryz.ntmps118
 go_wp2_with fail
 refine(oN _ g 0 n c x.to χ (by simpa using c2)).mono ?_;rintro e w' ⟨rfl,rfl⟩
 go_wp2_with fail
 refine(oN _ g 0 n c x.to χ (by simpa using c2)).mono ?_;rintro e w' ⟨rfl,rfl⟩
 go_wp2_with (at_builtin;refine wpList_append_lies _ rfl _ _ 216 rfl B 256 Z (.agg #[.string ByteArray.empty,.int .i64 0,.int .i64 0]) 3 32 Tryz.underlying216 X E H I rfl χ (.slice (some ⟨g,0,none⟩) (n+1) c) (n+1) (ab l) rfl (h.alloc _) ⟨w.heap.size,0,none⟩ 1 1 [.string s,.int .i64 x.to,.int .i64 (x.to+t)] rfl rfl (World.news_of_block (cs := #[.string s,.int .i64 x.to,.int .i64 (x.to+t)]) (heap_alloc_new w _)) nY χ (by unfold maxLen;omega) χ ?c2 (w.heap.size+1) ξ ?_)
 case c2=>simp;omega
 intro g' S w1 v u U L;obtain⟨hv,y⟩:=uf (l:=l) A D (by rw[J.out];exact h) (by rw[J.out];exact v) u;have V:=hv.cell;have W:=hv.frozen
 go_wp2
 go_end0
 exact⟨rfl,_,y hv⟩
theorem xq(w:World)(p B g n c:Nat)(l:List bB)(x:bB)(t:Int)(N:0≤t∧t≤65536)(hx:0≤x.to∧x.to≤4611686018427387904)(L:n≤1000000000)
 (u:Var w p 216 (.slice (some ⟨g,0,none⟩) (n+1) c))(D:p<B)(I:B≤w.heap.size)
 (A:l.length=n+1)(d:l[n]?=some x)
 (q:w.ownsRow B 256 3 (.slice (some ⟨g,0,none⟩) (n+1) c) (n+1) (ab l)):
 Calls Tryz.prog 118 #[.pointer (some ⟨p,0,none⟩),.string x.QK,.int .i64 t] w fun e w'=>e=.returned (.tuple #[]) ∧
  w'=w.setCell ⟨g,n*3+2,none⟩ (.int .i64 (x.to+t)):=by
 have J:=u.cell;have K:=u.frozen;have C:=u.lt;obtain⟨v,E,y⟩:=iY d;have r:=q.cells (g:=g) rfl;have h:∀j,(⟨g,0,none⟩:Addr).add j=⟨g,j,none⟩:=fun j=>by unfold Addr.add;split<;>simp_all
 have c0:=r _ _ v;have c2:=r _ _ y;rw[h]at c0 c2;have H:w.frozen? ⟨g,n*3+2,none⟩=false:=q.frozenAt _;clear r A h v E y d
 go_enter Tryz.func118,Tryz.ntmps118
 go_wp2
 refine bodyPost_ret (results_none rfl _ _ _) rfl ?_;exact⟨rfl,rfl⟩
theorem kx(w:World)(p B:Nat)(v:Value)(l:List bB)(s:ByteArray)(t:Int)(S:0≤t∧t≤65536)(hx:∀x∈l,0≤x.to∧x.to≤4611686018427387904)(hn:l.length≤1000000000)
 (E:Var w p 216 v)(y:p<B)(K:B≤w.heap.size)(d:w.ownsRow B 256 3 v l.length (ab l)):
 Calls Tryz.prog 118 #[.pointer (some ⟨p,0,none⟩),.string s,.int .i64 t] w fun e w'=>e=.returned (.tuple #[]) ∧
  ∃I,Var w' p 216 I∧w'.ownsRow B 256 3 I (Ln.run l s t).length (ab (Ln.run l s t))∧aD (fun k=>k=p∨v.ownBlock=some k) w w':=by
 rcases Nat.eq_zero_or_pos l.length with J|J
 ·obtain rfl:=List.eq_nil_of_length_eq_zero J
  have hv:∃A c,v=.slice A 0 c:=by
   rcases d.2 with⟨rfl,_⟩|⟨g,r,U,rfl,_⟩
   ·exact⟨_,_,rfl⟩
   ·exact⟨_,_,rfl⟩
  obtain⟨A,c,rfl⟩:=hv;exact xp w p B A c s t S E y K d
 ·obtain⟨g,r,rfl,Y,Z⟩:=d.form J
  obtain⟨n,C⟩:∃n,l.length=n+1:=⟨l.length-1,χ⟩;obtain⟨x,j⟩:∃x,l[n]?=some x:=⟨l[n]' χ,List.getElem?_eq_getElem χ⟩;have q:l.getLast?=some x:=by rw[List.getLast?_eq_getElem?,C];exact j
  have H:=hx x (List.mem_of_getElem? j);rw[C]at E d;rw[C]
  by_cases hs:x.QK=s
  ·subst hs
   refine(xq w p B g n r l x t S H χ E y K C j d).mono ?_;rintro e w' ⟨rfl,rfl⟩;have R:=(d.stored (n*3+2) (.int .i64 (x.to+t))).1;have O:¬ g=p:=χ
   have Q:Ln.run l x.QK t=l.dropLast++[bB.mk x.QK x.QI (x.to+t)]:=by simp[Ln.run,q]
   have N:l=l.dropLast++[x]:=by
    obtain⟨ys,rfl⟩:=List.getLast?_eq_some_iff.1 q;simp
   have u:l.dropLast.length=n:=by rw[List.length_dropLast,C];rfl
   refine⟨rfl,_,E.keep ((aD.refl (fun k=>k=g) w).setCell (fun _=>rfl) _) (fun h=>O h.symm),?_,(aD.refl _ w).setCell (fun _ =>.inr rfl) _⟩;rw[Q];have D:(l.dropLast++[bB.mk x.QK x.QI (x.to+t)]).length=n+1:=by simp[u]
   rw[D];have L:ab (l.dropLast++[bB.mk x.QK x.QI (x.to+t)])=(ab l).set (n*3+2) (.int .i64 (x.to+t)):=by
    conv=>rhs;rw[N]
    rw[ei,ei,List.set_append_right _ _ (by rw[i9,u];omega),i9,u];have:n*3+2-n*3=2:=χ
    rw[this];rfl
   rw[L];exact R
  ·refine(xt w p B g n r l x s t S H χ E y K C j hs d).mono ?_
   rintro e w' ⟨rfl,I,V,W,X⟩;have Q:Ln.run l s t=l++[bB.mk s x.to (x.to+t)]:=by simp[Ln.run,q,hs]
   rw[Q];exact⟨rfl,I,V,W,X⟩
def cP(w:World)(R:List bB×Int×Int)(e:Ending)(w':World):Prop:=
 ∃v,e=.returned (.tuple #[v,.int .i64 R.2.1,.int .i64 R.2.2])∧w'.ownsRow w.heap.size 256 3 v R.1.length (ab R.1)∧Below w.heap.size w w'
theorem cP.nil{w':World}(d:Below w.heap.size w w'):cP w ([],a,b) (.returned (.tuple #[.slice none 0 0,.int .i64 a,.int .i64 b])) w':=
 ⟨_,rfl,World.ownsRow_nil _ _ _ _,d⟩
theorem jT{base d:Nat}{e:TypeId}{size:Nat}{n:Nat}{xs:List Value}(h:w.ownsRow base e size v n xs)(u:d≤base):w.ownsRow d e size v n xs:=by
 refine⟨h.1,?_⟩
 rcases h.2 with p|⟨g,j,l,p,q,r⟩
 ·exact .inl p
 ·exact .inr ⟨g,j,l,p,Nat.le_trans u q,r⟩
def Ln.flatRuns(M:Nat)(xs:List Run):List bB×Int×Int:=
 match Ln.cF M false 0 0 xs with
 | some (i,e)=>([],i,e)
 | none=>Ln.fI (Ln.fill M (Ln.fJ [] xs))
theorem vI(w:World)(B:Nat)(v:Value)(l:List bB)(J:l.length≤1000000000)(h:w.ownsRow B 256 3 v l.length (ab l)):
 Calls Tryz.prog 119 #[v] w fun e w'=>e=.returned (.int .i64 (Ln.jG l))∧w=w':=by
 rcases Nat.eq_zero_or_pos l.length with u|u
 ·obtain rfl:=List.eq_nil_of_length_eq_zero u
  have hv:∃A c,v=.slice A 0 c:=by
   rcases h.2 with⟨rfl,_⟩|⟨g,q,C,rfl,_⟩
   ·exact⟨_,_,rfl⟩
   ·exact⟨_,_,rfl⟩
  obtain⟨A,c,rfl⟩:=hv;exact oO w c A
 ·obtain⟨g,q,rfl,D,H⟩:=h.form u
  obtain⟨n,y⟩:∃n,l.length=n+1:=⟨l.length-1,χ⟩;obtain⟨x,d⟩:∃x,l[n]?=some x:=⟨l[n]' χ,List.getElem?_eq_getElem χ⟩;have p:l.getLast?=some x:=by rw[List.getLast?_eq_getElem?,y];exact d
  have E:Ln.jG l=x.to:=by unfold Ln.jG;rw[p]
  obtain⟨K,L,I⟩:=iY d;have c2:=h.cells (g:=g) rfl _ _ I;have r:∀j,(⟨g,0,none⟩:Addr).add j=⟨g,j,none⟩:=fun j=>by unfold Addr.add;split<;>simp_all
  rw[r]at c2;rw[E,y];exact oN w g 0 n q x.to χ (by simpa using c2)
theorem zE(M:Nat)(w:World)(h:M<1∨65536<M)(l:M<18446744073709551616)(d:Int)(QO:Nat)(g:Bool)(s:Value)(p:s.cells = #[s]):
 Calls Tryz.prog 66 #[.int .u64 M,.agg #[.int .i64 d,.int .u64 QO,.bool g,s]] w (cP w ([], -1,92)):=by
 by_cases h0:M<1
 ·clear h
  go_enter Tryz.func66,Tryz.ntmps66
  go_wp2
  go_ret3
  exact cP.nil ((Below.refl _ _).alloc (Nat.le_refl _) _)
 ·have j:65536<M:=χ
  clear h
  go_enter Tryz.func66,Tryz.ntmps66
  go_wp2
  go_ret3
  exact cP.nil ((Below.refl _ _).alloc (Nat.le_refl _) _)
theorem wk(M:Nat)(A:Option Addr)(c:Nat)(xs:List Run)(lp:Int)(QO:Nat)(w:World)(hM:1≤M)(hM2:M≤65536)
 (hx:∀r∈xs,r.QT<18446744073709551616∧r.per<18446744073709551616)(hl:xs.length≤140737488351232)(hr:eV w A xs):
 Calls Tryz.prog 66 #[.int .u64 M,.agg #[.int .i64 lp,.int .u64 QO,.bool false,.slice A xs.length c]] w (cP w (Ln.flatRuns M xs)):=by
 obtain⟨W,hW⟩:∃W,W=w.alloc (.cells #[.int .i64 lp,.int .u64 QO,.bool false,.slice A xs.length c] 92):=⟨_,rfl⟩;have hB:Below w.heap.size w W:=by subst hW;exact(Below.refl _ _).alloc (Nat.le_refl _) _
 have hWs:W.heap.size=w.heap.size+1:=by subst hW;simp
 have c2:W.cell? ⟨w.heap.size,2,none⟩=some (.bool false):=by subst hW;rw[World.cell?_alloc_at _ _ _ _ rfl];rfl
 have c3:W.cell? ⟨w.heap.size,3,none⟩=some (.slice A xs.length c):=by subst hW;rw[World.cell?_alloc_at _ _ _ _ rfl];rfl
 have hR:eV W A xs:=hr.below hB (Nat.le_refl _);obtain⟨R,hRes⟩:∃R,R=Ln.flatRuns M xs:=⟨_,rfl⟩;rw[←hRes];have HR:=Lib.hid hRes;have HS:=Lib.hid hWs;have HW:=Lib.hid hW;clear hWs hRes
 go_enter Tryz.func66,Tryz.ntmps66
 have h0:¬ M<1:=χ
 have h1:¬ 65536<M:=χ
 go_wp2
 rw[←hW];clear hW
 go_loopw [7,24] (fun s i wr=>∃k d:Nat,k≤xs.length∧i=.int .i64 k∧d≤M∧s=.int .u64 d∧Ln.cF M false k d (xs.drop k)=Ln.cF M false 0 0 xs∧Below W.heap.size W wr) (fun _ i _=>xs.length-(intOf i).toNat)
 case atStart=>exact⟨0,0,χ,rfl,χ,rfl,rfl,Below.refl _ _⟩
 case round =>
  obtain⟨k,d,hk,rfl,hd,rfl,hdem0,hbw⟩:=hrel;have hdem:=Lib.hid hdem0;clear hdem0;have hsz:=hbw.size;have hlt0:w.heap.size<wr.heap.size:=by have:=HS.out;omega
  have c2':wr.cell? ⟨w.heap.size,2,none⟩=some (.bool false):=by
   rw[hbw.cell (p:=⟨w.heap.size,2,none⟩) (by simp[HS.out])];exact c2
  have c3':wr.cell? ⟨w.heap.size,3,none⟩=some (.slice A xs.length c):=by
   rw[hbw.cell (p:=⟨w.heap.size,3,none⟩) (by simp[HS.out])];exact c3
  by_cases hlt:k<xs.length
  ·obtain⟨b,off,rfl,hbl,hcs⟩:=hR χ
   obtain⟨r,hrk⟩:∃r,xs[k]?=some r:=⟨xs[k],List.getElem?_eq_getElem hlt⟩;have hmem:r∈xs:=List.mem_of_getElem? hrk;obtain⟨q0,q1,q2,q3⟩:=hcs k r hrk;rw[←hbw.cell (p:=⟨b,_,none⟩) (by exact hbl)]at q0 q1 q2 q3;have hbud:=(hx r hmem).1;have hper:=(hx r hmem).2;have hlt1:b<wr.heap.size:=χ
   have hz:Ln.cF M false 0 0 xs=if Ln.right M r false=0 then(if M<d+Ln.eZ M r false then some ((k:Int),93)else Ln.cF M false (k+1) (d+Ln.eZ M r false) (xs.drop (k+1)))else some ((k:Int),Ln.right M r false):=by
    obtain⟨h1,h2⟩:=List.getElem?_eq_some_iff.1 hrk;rw[←hdem.out,List.drop_eq_getElem_cons h1,h2];rfl
   have HZ:=Lib.hid hz;clear hrk hcs c2 c3 hz
   go_wp2_with fail
   refine(pt _ r _ _ χ hbud hper).mono ?_;rintro e w1 ⟨rfl,hb1⟩;have hz1:=hb1.size;simp at hz1;obtain⟨hc1,hf1⟩:=BU hb1;have hbw1:Below W.heap.size W w1:=(hbw.alloc hbw.size _).trans (hb1.mono η);clear hb1
   by_cases hr:Ln.right M r false=0
   ·have hr':(Ln.right M r false !=0)=false:=by simp[hr]
    have hw:=Ln.rE hr;obtain⟨o1,o2,o3⟩:=Ln.iB hr;have Hr:=Lib.hid hr;clear hr o3
    go_wp2_with fail
    refine(pZ _ r _ _ hM2 o2 (fun h=>by simp at h)).mono ?_;rintro e w2 ⟨rfl,hb2⟩;have hbw2:Below W.heap.size W w2:=hbw1.trans (hb2.mono χ);clear hb2 hc1 hf1
    by_cases ho:M<d+Ln.eZ M r false
    ·go_wp2
     go_ret3
     rw[HR.out,Ln.flatRuns,HZ.out,if_pos Hr.out,if_pos ho];exact cP.nil (hB.trans (hbw2.mono (by simp[HS.out])))
    ·go_wp2
     go_roundw
     case rel =>
      exact⟨k+1,d+Ln.eZ M r false,χ,by go_num,χ,by go_num,by rw[HZ.out,if_pos Hr.out,if_neg χ],hbw2⟩
     case measure=>simp[intOf];omega
   ·have hr':(Ln.right M r false !=0)=true:=by simp[hr]
    go_wp2
    go_ret3
    rw[HR.out,Ln.flatRuns,HZ.out,if_neg hr];exact cP.nil (hB.trans (hbw1.mono (by simp[HS.out])))
  ·have hk':k=xs.length:=χ
   have hnone:Ln.cF M false 0 0 xs=none:=by rw[←hdem.out,hk',List.drop_length];rfl
   obtain⟨hall,hsum⟩:=Ln.iq hnone;have hsum':=hsum rfl χ;have HN:=Lib.hid hnone;have HA:=Lib.hid hall;have hB1:Below w.heap.size w wr:=hB.trans (hbw.mono (by simp[HS.out]));have hR1:eV wr A xs:=hR.below hbw χ;clear hnone hall hsum hk' hR c2 c3 hbw hsz hB;have hb1:∀r∈xs,1≤r.QT∧r.QT≤65536:=fun r hr=>by
    obtain⟨o1,o2,_⟩:=Ln.iB (HA.out r hr);exact⟨o1,χ⟩
   have hlen:=Ln.tB (fun r hr=>(hb1 r hr).1);have hfin:R=Ln.fI (Ln.fill M (Ln.fJ [] xs)):=by rw[HR.out,Ln.flatRuns,HN.out]
   have HF:=Lib.hid hfin;have HB1:=Lib.hid hB1;clear hfin hB1
   go_wp2
   obtain⟨wo,hwo⟩:∃wo,wo=wr.alloc (.cells #[.slice none 0 0] 216):=⟨_,rfl⟩;obtain⟨p,hp⟩:∃p,p=wr.heap.size:=⟨_,rfl⟩;have hwp:w.heap.size<p:=χ
   have hv0:Var wo p 216 (.slice none 0 0):=by subst hwo hp;exact heap_alloc_new _ _
   have hBo:Below w.heap.size w wo:=by subst hwo;exact HB1.out.alloc HB1.out.size _
   have hso:p+1≤wo.heap.size:=by subst hwo hp;simp
   rw[←hwo,←hp];clear hwo hp hR1 c2' c3'
   go_loopw [60] (fun i wq=>∃(k T:Nat) (rows:List bB) (v:Value),k≤xs.length∧i=.int .i64 k∧Ln.fJ rows (xs.drop k)=Ln.fJ [] xs∧Var wq p 216 v∧wq.ownsRow (p+1) 256 3 v rows.length (ab rows) ∧
    Ln.ml T rows∧T+Ln.gK (xs.drop k)≤M∧rows.length≤k∧Below w.heap.size w wq∧p+1≤wq.heap.size) (fun i _=>xs.length-(intOf i).toNat)
   case atStart=>exact⟨0,0,[],_,χ,rfl,rfl,hv0,World.ownsRow_nil _ _ _ _,Ln.nL _,by simpa using hsum',ξ,hBo,hso⟩
   case round =>
    obtain⟨k,T,rows,v,hk,rfl,hrows,hv,hown,hup,hT,hrl,hbq,hsq⟩:=hrel;have Hrows:=Lib.hid hrows;have Hup:=Lib.hid hup;clear hrows hup
    by_cases hlt:k<xs.length
    ·obtain⟨b,off,rfl,hbl,hcs⟩:=hr χ
     obtain⟨r,hrk⟩:∃r,xs[k]?=some r:=⟨xs[k],List.getElem?_eq_getElem hlt⟩;have hmem:r∈xs:=List.mem_of_getElem? hrk;obtain⟨q0,q1,q2,q3⟩:=hcs k r hrk;obtain⟨e1,e2⟩:=hb1 r hmem;obtain⟨h1,h2⟩:=List.getElem?_eq_some_iff.1 hrk;have hd2:xs.drop k=r::xs.drop (k+1):=by rw[List.drop_eq_getElem_cons h1,h2]
     have hsb:Ln.gK (xs.drop k)=r.QT+Ln.gK (xs.drop (k+1)):=by rw[hd2];rfl
     have hrr:Ln.fJ (Ln.run rows r.QK r.QT) (xs.drop (k+1))=Ln.fJ [] xs:=by rw[←Hrows.out,hd2];rfl
     rw[hsb]at hT;have HRR:=Lib.hid hrr;clear hd2 hsb hrr hrk hcs h1 h2;rw[←hbq.cell (p:=⟨b,_,none⟩) (by exact hbl)]at q0 q1 q2 q3;have hlt1:b<wr.heap.size:=χ
     go_wp2_with fail
     have hkk:Kz wr (wr.alloc (.cells #[.int .i64 r.pos,.string r.QK,.int .u64 r.QT,.int .u64 r.per] 108)):=(aD.refl _ _).alloc _;refine(kx _ p (p+1) v rows r.QK r.QT ⟨χ,χ⟩ (fun x hx=>by have:=Hup.out x hx;omega) χ (hv.keep hkk ξ) χ η (hown.alloc _)).mono ?_;rintro e w1 ⟨rfl,v',hv',hown',hk'⟩;have hb2:Below w.heap.size w w1:=(hbq.alloc χ _).trans (hk'.below η (fun i hi h=>by
      rcases h with h|h
      ·omega
      ·have:=(hown.lt _ h).1;omega))
     have hs2:=hk'.size;simp at hs2;have hup':=Ln.ml.run Hup.out χ r.QK (t:=(r.QT:Int)) χ;have HU:=Lib.hid hup';have hlr:=Ln.kX rows r.QK r.QT;clear hk' hkk hup'
     go_wp2
     go_roundw
     case rel=>exact⟨k+1,T+r.QT,Ln.run rows r.QK r.QT,v',χ,by go_num,HRR.out,hv',hown',by simpa using HU.out,χ,χ,hb2,χ⟩
     case measure=>simp[intOf];omega
    ·have hk':k=xs.length:=χ
     have hrr:rows=Ln.fJ [] xs:=by rw[←Hrows.out,hk',List.drop_length];rfl
     have hT':T≤M:=χ
     have hrl':rows.length≤65536:=χ
     rw[←hrr]at HF;obtain⟨he0,he1⟩:=Ln.ml.end_ Hup.out χ;obtain⟨E,hE⟩:∃E,E=Ln.jG rows:=⟨_,rfl⟩;rw[←hE]at he0 he1;have HE:=Lib.hid hE;have hvc:=hv.cell;clear hk' hrr hE hT hrl
     go_wp2_with fail
     refine(vI _ (p+1) v rows χ hown).mono ?_;rw[←HE.out];rintro e w1 ⟨rfl,rfl⟩
     by_cases hleft:0<(M:Int)-E
     ·have hl2:E<(M:Int):=χ
      go_wp2_with fail
      refine(kx _ p (p+1) v rows ByteArray.empty (M-E) ⟨χ,χ⟩ (fun x hx=>by have:=Hup.out x hx;omega) χ hv χ χ hown).mono ?_;rintro e w2 ⟨rfl,v',hv',hown',hk'⟩;have hb2:Below w.heap.size w w2:=hbq.trans (hk'.below χ (fun i hi h=>by
       rcases h with h|h
       ·omega
       ·have:=(hown.lt _ h).1;omega))
      have hff:Ln.fill M rows=Ln.run rows ByteArray.empty (M-E):=by unfold Ln.fill;rw[←HE.out,if_pos hleft]
      rw[hff]at HF;obtain⟨rows2,hrows2⟩:∃x,x=Ln.run rows ByteArray.empty (M-E):=⟨_,rfl⟩;have hl3:=Ln.kX rows ByteArray.empty (M-E);rw[←hrows2]at HF hown' hl3;clear hk' hff hrows2;have hvc':=hv'.cell;have hsl:∃A cc,(if True then v' else v')=.slice A rows2.length cc:=by
       rcases hown'.2 with⟨h,h2⟩|⟨g,cap,cur,h,_⟩
       ·exact⟨none,0,by rw[if_pos trivial,h,h2]⟩
       ·exact⟨_,_,by rw[if_pos trivial,h]⟩
      rw[if_pos trivial]at hsl;obtain⟨A2,cc,hsl⟩:=hsl;subst hsl
      by_cases hcap:4096<rows2.length
      ·go_wp2
       go_ret3
       rw[HF.out,Ln.fI,if_pos hcap];exact cP.nil hb2
      ·go_wp2
       go_ret3
       rw[HF.out,Ln.fI,if_neg hcap];exact⟨_,rfl,jT hown' χ,hb2⟩
     ·have hff:Ln.fill M rows=rows:=by unfold Ln.fill;rw[←HE.out,if_neg hleft]
      rw[hff]at HF;obtain⟨rows2,hrows2⟩:∃x,x=rows:=⟨_,rfl⟩;rw[←hrows2]at HF hown;have hl3:rows2.length≤rows.length+1:=by rw[hrows2];omega
      have hv':=hv;have hown':=hown;have hb2:=hbq;clear hff hrows2 hv hown hbq;have hvc':=hv'.cell;have hsl:∃A cc,(if True then v else v)=.slice A rows2.length cc:=by
       rcases hown'.2 with⟨h,h2⟩|⟨g,cap,cur,h,_⟩
       ·exact⟨none,0,by rw[if_pos trivial,h,h2]⟩
       ·exact⟨_,_,by rw[if_pos trivial,h]⟩
      rw[if_pos trivial]at hsl;obtain⟨A2,cc,hsl⟩:=hsl;subst hsl
      by_cases hcap:4096<rows2.length
      ·go_wp2
       go_ret3
       rw[HF.out,Ln.fI,if_pos hcap];exact cP.nil hb2
      ·go_wp2
       go_ret3
       rw[HF.out,Ln.fI,if_neg hcap];exact⟨_,rfl,jT hown' χ,hb2⟩
theorem By(a:Addr)(w:World):(method 498 245 (.pointer (some a)) "Push").run Tryz.prog w=.ok (266,.pointer (some a)) w:=δ
theorem Cd(a:Addr)(w:World):(method 498 245 (.pointer (some a)) "Pop").run Tryz.prog w=.ok (265,.pointer (some a)) w:=δ
theorem Bz(a:Addr)(w:World):(method 498 245 (.pointer (some a)) "Len").run Tryz.prog w=(match w.cell? a with|some v =>.ok (137,v) w|none=>(match w.farLoad Tryz.prog a (Mode.plain==Mode.atomic)with|.ok (v,_) =>.ok (137,v) w|.error h =>.halt h w)):=δ
theorem yg{a:Addr}(h:w.cell? a=some v):(method 498 245 (.pointer (some a)) "Len").run Tryz.prog w=.ok (137,v) w:=by rw[Bz,h]
theorem AY(a:Addr)(w:World):(method 498 245 (.pointer (some a)) "Less").run Tryz.prog w=(match w.cell? a with|some v =>.ok (264,v) w|none=>(match w.farLoad Tryz.prog a (Mode.plain==Mode.atomic)with|.ok (v,_) =>.ok (264,v) w|.error h =>.halt h w)):=δ
theorem tj{a:Addr}(h:w.cell? a=some v):(method 498 245 (.pointer (some a)) "Less").run Tryz.prog w=.ok (264,v) w:=by rw[AY,h]
theorem AX(a:Addr)(w:World):(method 498 245 (.pointer (some a)) "Swap").run Tryz.prog w=(match w.cell? a with|some v =>.ok (267,v) w|none=>(match w.farLoad Tryz.prog a (Mode.plain==Mode.atomic)with|.ok (v,_) =>.ok (267,v) w|.error h =>.halt h w)):=δ
theorem jV{a:Addr}(h:w.cell? a=some v):(method 498 245 (.pointer (some a)) "Swap").run Tryz.prog w=.ok (267,v) w:=by rw[AX,h]
def Job.cells(s:Job):List Value:=[.int .i64 s.need,.int .i64 s.due,.int .i64 s.left]
def ay(l:List Job):List Value:=l.flatMap Job.cells
theorem jC(l:List Job):(ay l).length=l.length*3:=by
 induction l with
 | nil=>rfl
 | cons s l ih=>simp only[ay,List.flatMap_cons,List.length_append,List.length_cons]at ih⊢; rw[ih];simp[Job.cells];omega
theorem jD(l m:List Job):ay (l++m)=ay l++ay m:=by simp[ay]
theorem sC{l:List Job}{i:Nat}{s:Job}(h:l[i]?=some s):
 (ay l)[i*3]?=some (.int .i64 s.need)∧(ay l)[i*3+1]?=some (.int .i64 s.due)∧(ay l)[i*3+2]?=some (.int .i64 s.left):=by
 induction l generalizing i with
 | nil=>simp at h
 | cons x l ih =>
  cases i with
  | zero=>simp at h;subst h;simp[ay,Job.cells]
  | succ i =>
   have:=ih (i:=i) (by simpa using h);have e:∀j,(ay (x::l))[(i+1)*3+j]?=(ay l)[i*3+j]?:=fun j=>by
    simp only[ay,List.flatMap_cons];rw[List.getElem?_append_right (by simp[Job.cells];omega)]
    congr 1
    simp[Job.cells];omega
   exact⟨(e 0).trans this.1,(e 1).trans this.2.1,(e 2).trans this.2.2⟩
theorem lI(l:List Job)(i:Nat)(b:Job)(h:i<l.length):ay (l.set i b)=(((ay l).set (i*3) (.int .i64 b.need)).set (i*3+1) (.int .i64 b.due)).set (i*3+2) (.int .i64 b.left):=by
 induction l generalizing i with
 | nil=>simp at h
 | cons x l ih =>
  cases i with
  | zero=>simp[ay,Job.cells]
  | succ i =>
   have:=ih i (by simpa using h);have e:∀(l:List Value) (j:Nat) (u:Value),(x.cells++l).set ((i+1)*3+j) u=x.cells++l.set (i*3+j) u:=fun l j u=>by
    rw[List.set_append_right _ _ (by simp[Job.cells];omega)]
    congr 2
    simp[Job.cells];omega
   have e0:=fun l u=>e l 0 u
   simp only[Nat.add_zero]at e0;simp only[List.set_cons_succ,ay,List.flatMap_cons]at this⊢;rw[this,e0,e,e]
theorem Tryz.info250:(Tryz.prog.info? 250).map (fun i=>(i.zero,i.size,i.bytes))=some (some (.agg #[.int .i64 0,.int .i64 0,.int .i64 0]),3,24):=δ
theorem fL(w:World)(A:Option Addr)(n c:Nat):Calls Tryz.prog 137 #[.slice A n c] w fun e w'=>e=.returned (.int .i64 n)∧w=w':=by
 go_enter Tryz.func137,Tryz.ntmps137
 go_wp2
 go_ret
 exact⟨rfl,rfl⟩
theorem gA{g n c:Nat}{l:List Job}{a:Job}(p:w.ownsRow B 250 3 (.slice (some ⟨g,0,none⟩) n c) n (ay l))(q:l[i]?=some a):
 w.cell? ⟨g,i*3,none⟩=some (.int .i64 a.need)∧w.cell? ⟨g,i*3+1,none⟩=some (.int .i64 a.due)∧w.cell? ⟨g,i*3+2,none⟩=some (.int .i64 a.left):=by
 have h:∀j,(⟨g,0,none⟩:Addr).add j=⟨g,j,none⟩:=fun j=>by unfold Addr.add;split<;>simp_all
 obtain⟨r,u,v⟩:=sC q;have d:=p.cells (g:=g) rfl;have c0:=d _ _ r;have c1:=d _ _ u;have c2:=d _ _ v;rw[h]at c0 c1 c2;exact⟨c0,c1,c2⟩
theorem jX(w:World)(g n c i j:Nat)(a b:Job)(l:List Job)(y:l.length=n)(r:l[i]?=some a)(u:l[j]?=some b)(d:w.ownsRow 0 250 3 (.slice (some ⟨g,0,none⟩) n c) n (ay l)):
 Calls Tryz.prog 264 #[.slice (some ⟨g,0,none⟩) n c,.int .i64 i,.int .i64 j] w fun e w'=>e=.returned (.bool (decide (Ln.jlt a b)))∧∃n,w'=w.drewN n:=by
 obtain⟨A,B,C⟩:=gA d r;obtain⟨D,E,H⟩:=gA d u;have I:=(List.getElem?_eq_some_iff.1 r).1;have J:=(List.getElem?_eq_some_iff.1 u).1;have v:(i:Int)<n:=χ
 have x:(j:Int)<n:=χ
 clear d r u y
 by_cases g1:a.due<b.due
 ·have h:decide (Ln.jlt a b)=true:=by simp;exact .inl g1
  rw[h];have p:decide (a.due<b.due)=true:=by simpa using g1
  clear h g1
  go_enter Tryz.func264,Tryz.ntmps264
  go_wp2
  go_big_quiet (fail)
  go_wp2
  go_ret
  exact⟨rfl,nq,rfl⟩
 ·have p:decide (a.due<b.due)=false:=by simpa using g1
  by_cases g2:a.due=b.due
  ·have q:(a.due==b.due)=true:=by simpa using g2
   have h:decide (Ln.jlt a b)=decide (a.need<b.need):=by simp[Ln.jlt,g2]
   rw[h];clear h g1 g2
   go_enter Tryz.func264,Tryz.ntmps264
   go_wp2
   go_big_quiet (fail)
   go_wp2
   go_ret
   exact⟨rfl,nq,rfl⟩
  ·have q:(a.due==b.due)=false:=by simpa using g2
   have h:decide (Ln.jlt a b)=false:=by rw[decide_eq_false_iff_not];unfold Ln.jlt;omega
   rw[h];clear h g1 g2
   go_enter Tryz.func264,Tryz.ntmps264
   go_wp2
   go_big_quiet (fail)
   go_wp2
   go_ret
   exact⟨rfl,nq,rfl⟩
theorem jM(w:World)(g n c i j:Nat)(a b:Job)(l:List Job)(L:l.length=n)(y:l[i]?=some a)(A:l[j]?=some b)(d:w.ownsRow 0 250 3 (.slice (some ⟨g,0,none⟩) n c) n (ay l)):
 Calls Tryz.prog 267 #[.slice (some ⟨g,0,none⟩) n c,.int .i64 i,.int .i64 j] w fun e w'=>e=.returned (.tuple #[])∧w'.ownsRow 0 250 3 (.slice (some ⟨g,0,none⟩) n c) n (ay (Ln.cQ l i j a b))∧aD (fun k=>k=g) w w':=by
 obtain⟨S,U,V⟩:=gA d y;obtain⟨W,X,Y⟩:=gA d A;have u:∀k,w.frozen? ⟨g,k,none⟩=false:=fun k=>d.frozenAt k
 have Z:=u (i*3);have f1:=u (i*3+1);have f2:=u (i*3+2);have f3:=u (j*3);have f4:=u (j*3+1);have f5:=u (j*3+2);have B:=(List.getElem?_eq_some_iff.1 y).1;have x:=(List.getElem?_eq_some_iff.1 A).1;have J:(i:Int)<n:=χ
 have K:(j:Int)<n:=χ
 have H:=Lib.hid y;have I:=Lib.hid A;clear y A L u;have r:((((((w.setCell ⟨g,i*3,none⟩ (.int .i64 b.need)).setCell ⟨g,i*3+1,none⟩ (.int .i64 b.due)).setCell ⟨g,i*3+2,none⟩ (.int .i64 b.left)).setCell ⟨g,j*3,none⟩ (.int .i64 a.need)).setCell ⟨g,j*3+1,none⟩ (.int .i64 a.due)).setCell ⟨g,j*3+2,none⟩ (.int .i64 a.left)).drew.ownsRow 0 250 3 (.slice (some ⟨g,0,none⟩) n c) n (ay (Ln.cQ l i j a b)):=by
  have N:=(d.stored (i*3) (.int .i64 b.need)).1;have O:=(N.stored (i*3+1) (.int .i64 b.due)).1;have D:=(O.stored (i*3+2) (.int .i64 b.left)).1;rw[←lI l i b B]at D;have Q:=(D.stored (j*3) (.int .i64 a.need)).1;have R:=(Q.stored (j*3+1) (.int .i64 a.due)).1;have E:=(R.stored (j*3+2) (.int .i64 a.left)).1;rw[←lI (l.set i b) j a (by simpa using x)]at E;exact E.drew
 have q:aD (fun k=>k=g) w ((((((w.setCell ⟨g,i*3,none⟩ (.int .i64 b.need)).setCell ⟨g,i*3+1,none⟩ (.int .i64 b.due)).setCell ⟨g,i*3+2,none⟩ (.int .i64 b.left)).setCell ⟨g,j*3,none⟩ (.int .i64 a.need)).setCell ⟨g,j*3+1,none⟩ (.int .i64 a.due)).setCell ⟨g,j*3+2,none⟩ (.int .i64 a.left)).drew:=
  (((((((aD.refl (fun k=>k=g) w).setCell (fun _=>rfl) _).setCell (fun _=>rfl) _).setCell (fun _=>rfl) _).setCell (fun _=>rfl) _).setCell (fun _=>rfl) _).setCell (fun _=>rfl) _).drew
 have p:=Lib.hid r;have h:=Lib.hid q;clear r q d
 rcases Nat.lt_trichotomy i j with v|v|v
 ·go_enter Tryz.func267,Tryz.ntmps267
  go_wp2
  go_region
  go_wp2
  go_end0
  exact⟨rfl,p.out,h.out⟩
 ·subst v
  have C:a=b:=by have B:=H.out;have x:=I.out;rw[B]at x;injection x
  subst C
  go_enter Tryz.func267,Tryz.ntmps267
  go_wp2
  go_region
  go_wp2
  go_end0
  exact⟨rfl,p.out,h.out⟩
 ·go_enter Tryz.func267,Tryz.ntmps267
  go_wp2
  go_region
  go_wp2
  go_end0
  exact⟨rfl,p.out,h.out⟩
