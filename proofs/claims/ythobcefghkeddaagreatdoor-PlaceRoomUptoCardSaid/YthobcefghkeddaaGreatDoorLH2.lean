import Derived.Test.YthobcefghkeddaaGreatDoorProg
import Derived.Test.YthobcefghkeddaaGreatDoorMem
set_option maxRecDepth 100000
set_option linter.all false
set_option maxHeartbeats 4000000
namespace Go.Proofs.YthobcefghkeddaaGreatDoor
open Go.RowKit Go.IntWalk
variable {w:World} {B i:Nat} {a b:Int} {v:Value}
def Run.val(r:Run):Value := .agg #[.int .i64 r.pos,.string r.QH,.int .u64 r.QS,.int .u64 r.per]
def eJ(w:World)(A:Option Addr)(xs:List Run):Prop:=
 0<xs.length→∃b off,A=some ⟨b,off,none⟩∧b<w.heap.size∧∀i r,xs[i]?=some r →
  w.cell? ⟨b,off+i*4,none⟩=some (.int .i64 r.pos)∧w.cell? ⟨b,off+i*4+1,none⟩=some (.string r.QH) ∧
  w.cell? ⟨b,off+i*4+2,none⟩=some (.int .u64 r.QS)∧w.cell? ⟨b,off+i*4+3,none⟩=some (.int .u64 r.per)
theorem eJ.below{w':World}{A:Option Addr}{xs:List Run}(h:eJ w A xs)(g:Below B w w')(v:w.heap.size≤B):eJ w' A xs:=by
 intro q;obtain⟨b,off,e,d,l⟩:=h q;refine⟨b,off,e,Θ d g.size,fun i r u=>?_⟩;obtain⟨c0,c1,c2,j⟩:=l i r u;have hk:∀o,w'.cell? ⟨b,o,none⟩=w.cell? ⟨b,o,none⟩:=fun o=>g.cell (p:=⟨b,o,none⟩) η
 exact⟨(hk _).trans c0,(hk _).trans c1,(hk _).trans c2,(hk _).trans j⟩
def aw.cells(s:aw):List Value:=[.string s.QH,.int .i64 s.QF,.int .i64 s.to]
def aT(l:List aw):List Value:=l.flatMap aw.cells
theorem gp(l:List aw):(aT l).length=l.length*3:=by
 induction l with
 | nil=>rfl
 | cons s l ih=>simp only[aT,List.flatMap_cons,List.length_append,List.length_cons]at ih⊢; rw[ih];simp[aw.cells];omega
theorem eQ(l m:List aw):aT (l++m)=aT l++aT m:=by simp[aT]
theorem iN{l:List aw}{i:Nat}{s:aw}(h:l[i]?=some s):
 (aT l)[i*3]?=some (.string s.QH)∧(aT l)[i*3+1]?=some (.int .i64 s.QF)∧(aT l)[i*3+2]?=some (.int .i64 s.to):=by
 induction l generalizing i with
 | nil=>simp at h
 | cons x l ih =>
  cases i with
  | zero=>simp at h;subst h;simp[aT,aw.cells]
  | succ i =>
   have:=ih (i:=i) (by simpa using h);have e:∀j,(aT (x::l))[(i+1)*3+j]?=(aT l)[i*3+j]?:=fun j=>by
    simp only[aT,List.flatMap_cons];rw[List.getElem?_append_right (by simp[aw.cells];omega)]
    congr 1
    simp[aw.cells];omega
   exact⟨(e 0).trans this.1,(e 1).trans this.2.1,(e 2).trans this.2.2⟩
theorem Tryz.info278:(Tryz.prog.info? 278).map (fun i=>(i.zero,i.size,i.bytes))=some (some (.agg #[.string ByteArray.empty,.int .i64 0,.int .i64 0]),3,32):=δ
theorem qU(M:Nat)(r:Run)(d:Bool)(w:World)(g:M<18446744073709551616)(h:r.QS<18446744073709551616)(j:r.per<18446744073709551616):
 Calls Tryz.prog 140 #[.int .u64 M,r.val,.bool d] w fun e w'=>e=.returned (.int .i64 (Ln.right M r d))∧Below w.heap.size w w':=by
 obtain⟨pos,s,QS,per⟩:=r;simp only[Run.val]at *
 go_enter Tryz.func140,Tryz.ntmps140
 go_wp2
 all_goals go_ret
 all_goals refine⟨wQ ?_,(Below.refl _ _).alloc (Γ _) _⟩
 all_goals(unfold Ln.right;simp_all)
 all_goals try omega
theorem qJ(M:Nat)(r:Run)(d:Bool)(w:World)(B:M≤65536)(C:r.QS≤M)(h:d=true→r.QS≤r.per∧1≤r.per∧r.per≤M):
 Calls Tryz.prog 141 #[.int .u64 M,r.val,.bool d] w fun e w'=>e=.returned (.int .u64 (Ln.eM M r d))∧Below w.heap.size w w':=by
 obtain⟨pos,s,QS,per⟩:=r;simp only[Run.val]at *
 go_enter Tryz.func141,Tryz.ntmps141
 cases d
 ·go_wp2
  go_ret
  exact⟨rfl,(Below.refl _ _).alloc (Γ _) _⟩
 ·obtain⟨j,l,q⟩:=h rfl
  clear h;have u:QS*(M / per)≤M:=Δ (Nat.mul_le_mul_right _ j) (Nat.mul_div_le M per);have g:(QS:Int)*((M:Int) / (per:Int))=((QS*(M / per):Nat):Int):=ξ
  have v:(0:Int)≤(QS:Int)*((M:Int) / (per:Int)):=by rw[g];omega
  have x:(QS:Int)*((M:Int) / (per:Int))≤65536:=by rw[g];omega
  clear g
  go_wp2
  go_quiet (fail)
  go_wp2
  go_ret
  refine⟨wQ ?_,tx ((Below.refl _ _).alloc (Γ _) _) _⟩;simp only[Ln.eM,if_true];have y:=tdiv_le M per χ χ;rw[u64_in (↑M / ↑per) χ,u64_in _ χ];simp
theorem pD(w:World)(c:Nat)(A:Option Addr):Calls Tryz.prog 144 #[.slice A 0 c] w fun e w'=>e=.returned (.int .i64 0)∧w=w':=by
 go_enter Tryz.func144,Tryz.ntmps144
 go_wp2
 go_ret
 exact⟨rfl,rfl⟩
theorem pC(w:World)(b off n c:Nat)(to:Int)(g:n<140737488351232)(d:w.cell? ⟨b,off+n*3+2,none⟩=some (.int .i64 to)):Calls Tryz.prog 144 #[.slice (some ⟨b,off,none⟩) (n+1) c] w fun e w'=>e=.returned (.int .i64 to)∧w=w':=by
 go_enter Tryz.func144,Tryz.ntmps144
 go_wp2
 go_ret
 exact⟨rfl,rfl⟩
theorem oF{s:ByteArray}:∀u∈[Value.string s,.int .i64 a,.int .i64 b],u.oneCell'=true:=by
 intro u d;simp at d;rcases d with rfl|rfl|rfl<;>rfl
theorem wO{d:World}{p:Nat}{q:Value}{l:List aw}{s:ByteArray}(D:Var w p 252 v)(C:p<B)
 (x:w.ownsRow B 278 3 v l.length (aT l))
 (j:d.ownsRow B 278 3 q (l.length+1) (aT l++[.string s,.int .i64 a,.int .i64 b]))
 (g:(w.alloc (Obj.cells #[.string s,.int .i64 a,.int .i64 b] 278)).grownBy d v.ownBlock):
 Var d p 252 v∧(Var d p 252 v→Var (d.setCell ⟨p,0,none⟩ q) p 252 q∧(d.setCell ⟨p,0,none⟩ q).ownsRow B 278 3 q (l++[aw.mk s a b]).length (aT (l++[aw.mk s a b])) ∧
  aD (fun k=>k=p∨v.ownBlock=some k) w (d.setCell ⟨p,0,none⟩ q)):=by
 have H:=D.lt;have u:aD (fun k=>v.ownBlock=some k) w d:=((aD.refl _ w).alloc _).trans (aD.of_grown g (S:=fun k=>v.ownBlock=some k) (fun k h=>h)) (fun _ _ h=>h);have y:¬ v.ownBlock=some p:=fun h=>by have:=(x.lt p h).1;omega
 refine⟨D.keep u y,fun E=>⟨E.set_ _,?_,?_⟩⟩
 ·rw[eQ]
  rw[List.length_append];exact ownsRow_setCell_below (a:=⟨p,0,none⟩) j (by exact C) _
 ·exact(u.mono fun i _ h =>.inr h).setCell (fun _ =>.inl rfl) _
theorem zU(w:World)(p B:Nat)(A:Option Addr)(c:Nat)(s:ByteArray)(t:Int)(V:0≤t∧t≤65536)(u:Var w p 252 (.slice A 0 c))(v:p<B)(Q:B≤w.heap.size)
 (d:w.ownsRow B 278 3 (.slice A 0 c) 0 []):
 Calls Tryz.prog 143 #[.pointer (some ⟨p,0,none⟩),.string s,.int .i64 t] w fun e w'=>e=.returned (.tuple #[]) ∧
  ∃H,Var w' p 252 H∧w'.ownsRow B 278 3 H 1 (aT [⟨s,0,t⟩])∧aD (fun k=>k=p∨(Value.slice A 0 c).ownBlock=some k) w w':=by
 have R:=u.cell;have U:=u.frozen;have N:=u.lt;obtain⟨O,hi,y,C,D⟩:=info_parts Tryz.info278
 go_enter Tryz.func143,Tryz.ntmps143
 go_wp2_with fail
 refine(pD _ _ _).mono ?_;rintro e w' ⟨rfl,rfl⟩
 go_wp2_with fail
 refine(pD _ _ _).mono ?_;rintro e w' ⟨rfl,rfl⟩
 go_wp2_with (at_builtin;refine wpList_append_lies _ rfl _ _ 252 rfl B 278 O (.agg #[.string ByteArray.empty,.int .i64 0,.int .i64 0]) 3 32 Tryz.underlying252 hi y C D rfl χ (.slice A 0 c) 0 [] rfl (d.alloc _) ⟨w.heap.size,0,none⟩ 1 1 [.string s,.int .i64 0,.int .i64 t] rfl rfl (World.news_of_block (cs := #[.string s,.int .i64 0,.int .i64 t]) (heap_alloc_new w _)) oF χ (by unfold maxLen;omega) χ ?c2 (w.heap.size+1) ξ ?_)
 case c2=>simp;omega
 intro g I W j h J E;obtain⟨x,q⟩:=wO (l:=[]) u v d j h;have K:=x.cell;have L:=x.frozen
 go_wp2
 go_end0
 exact⟨rfl,_,q x⟩
theorem zX(w:World)(p B g n c:Nat)(l:List aw)(x:aw)(s:ByteArray)(t:Int)(ht:0≤t∧t≤65536)(hx:0≤x.to∧x.to≤4611686018427387904)(hn:n≤1000000000)
 (D:Var w p 252 (.slice (some ⟨g,0,none⟩) (n+1) c))(H:p<B)(hB:B≤w.heap.size)
 (O:l.length=n+1)(d:l[n]?=some x)(E:x.QH≠s)
 (h:w.ownsRow B 278 3 (.slice (some ⟨g,0,none⟩) (n+1) c) (n+1) (aT l)):
 Calls Tryz.prog 143 #[.pointer (some ⟨p,0,none⟩),.string s,.int .i64 t] w fun e w'=>e=.returned (.tuple #[]) ∧
  ∃W,Var w' p 252 W∧w'.ownsRow B 278 3 W (l++[aw.mk s x.to (x.to+t)]).length (aT (l++[aw.mk s x.to (x.to+t)]))∧aD (fun k=>k=p∨(Value.slice (some ⟨g,0,none⟩) (n+1) c).ownBlock=some k) w w':=by
 have hc:=D.cell;have hf:=D.frozen;have ad:=D.lt;obtain⟨i0,hi,J,K,L⟩:=info_parts Tryz.info278;obtain⟨U,q1,V⟩:=iN d;have u:=h.cells (g:=g) rfl;have q:∀j,(⟨g,0,none⟩:Addr).add j=⟨g,j,none⟩:=fun j=>by unfold Addr.add;split<;>simp_all
 have c0:=u _ _ U;have c2:=u _ _ V;rw[q]at c0 c2;have R:=tv E;have N:=ν O;clear u O q U q1 V d
 go_enter Tryz.func143,Tryz.ntmps143
 go_wp2_with fail
 refine(pC _ g 0 n c x.to χ (by simpa using c2)).mono ?_;rintro e w' ⟨rfl,rfl⟩
 go_wp2_with fail
 refine(pC _ g 0 n c x.to χ (by simpa using c2)).mono ?_;rintro e w' ⟨rfl,rfl⟩
 go_wp2_with (at_builtin;refine wpList_append_lies _ rfl _ _ 252 rfl B 278 i0 (.agg #[.string ByteArray.empty,.int .i64 0,.int .i64 0]) 3 32 Tryz.underlying252 hi J K L rfl χ (.slice (some ⟨g,0,none⟩) (n+1) c) (n+1) (aT l) rfl (h.alloc _) ⟨w.heap.size,0,none⟩ 1 1 [.string s,.int .i64 x.to,.int .i64 (x.to+t)] rfl rfl (World.news_of_block (cs := #[.string s,.int .i64 x.to,.int .i64 (x.to+t)]) (heap_alloc_new w _)) oF χ (by unfold maxLen;omega) χ ?c2 (w.heap.size+1) ξ ?_)
 case c2=>simp;omega
 intro g' X w1 y v Y Q;obtain⟨I,C⟩:=wO (l:=l) D H (by rw[N.out];exact h) (by rw[N.out];exact y) v;have Z:=I.cell;have ac:=I.frozen
 go_wp2
 go_end0
 exact⟨rfl,_,C I⟩
theorem zV(w:World)(p B g n c:Nat)(l:List aw)(x:aw)(t:Int)(Q:0≤t∧t≤65536)(R:0≤x.to∧x.to≤4611686018427387904)(O:n≤1000000000)
 (v:Var w p 252 (.slice (some ⟨g,0,none⟩) (n+1) c))(H:p<B)(K:B≤w.heap.size)
 (D:l.length=n+1)(d:l[n]?=some x)
 (q:w.ownsRow B 278 3 (.slice (some ⟨g,0,none⟩) (n+1) c) (n+1) (aT l)):
 Calls Tryz.prog 143 #[.pointer (some ⟨p,0,none⟩),.string x.QH,.int .i64 t] w fun e w'=>e=.returned (.tuple #[]) ∧
  w'=w.setCell ⟨g,n*3+2,none⟩ (.int .i64 (x.to+t)):=by
 have L:=v.cell;have N:=v.frozen;have E:=v.lt;obtain⟨y,I,C⟩:=iN d;have u:=q.cells (g:=g) rfl;have h:∀j,(⟨g,0,none⟩:Addr).add j=⟨g,j,none⟩:=fun j=>by unfold Addr.add;split<;>simp_all
 have c0:=u _ _ y;have c2:=u _ _ C;rw[h]at c0 c2;have J:w.frozen? ⟨g,n*3+2,none⟩=false:=q.frozenAt _;clear u D h y I C d
 go_enter Tryz.func143,Tryz.ntmps143
 go_wp2
 refine bodyPost_ret (results_none rfl _ _ _) rfl ?_;exact⟨rfl,rfl⟩
theorem kv(w:World)(p B:Nat)(v:Value)(l:List aw)(s:ByteArray)(t:Int)(V:0≤t∧t≤65536)(hx:∀x∈l,0≤x.to∧x.to≤4611686018427387904)(hn:l.length≤1000000000)
 (H:Var w p 252 v)(C:p<B)(L:B≤w.heap.size)(d:w.ownsRow B 278 3 v l.length (aT l)):
 Calls Tryz.prog 143 #[.pointer (some ⟨p,0,none⟩),.string s,.int .i64 t] w fun e w'=>e=.returned (.tuple #[]) ∧
  ∃J,Var w' p 252 J∧w'.ownsRow B 278 3 J (Ln.run l s t).length (aT (Ln.run l s t))∧aD (fun k=>k=p∨v.ownBlock=some k) w w':=by
 rcases ϑ l.length with K|K
 ·obtain rfl:=List.eq_nil_of_length_eq_zero K
  have hv:∃A c,v=.slice A 0 c:=by
   rcases d.2 with⟨rfl,_⟩|⟨g,u,W,rfl,_⟩
   ·exact⟨_,_,rfl⟩
   ·exact⟨_,_,rfl⟩
  obtain⟨A,c,rfl⟩:=hv;exact zU w p B A c s t V H C L d
 ·obtain⟨g,u,rfl,ac,ad⟩:=d.form K
  obtain⟨n,D⟩:∃n,l.length=n+1:=⟨l.length-1,χ⟩;obtain⟨x,j⟩:∃x,l[n]?=some x:=⟨l[n]' χ,θ χ⟩;have q:l.getLast?=some x:=by rw[List.getLast?_eq_getElem?,D];exact j
  have I:=hx x (γ j);rw[D]at H d;rw[D]
  by_cases hs:x.QH=s
  ·subst hs
   refine(zV w p B g n u l x t V I χ H C L D j d).mono ?_;rintro e w' ⟨rfl,rfl⟩;have U:=(d.stored (n*3+2) (.int .i64 (x.to+t))).1;have Q:¬ g=p:=χ
   have R:Ln.run l x.QH t=l.dropLast++[aw.mk x.QH x.QF (x.to+t)]:=by simp[Ln.run,q]
   have O:l=l.dropLast++[x]:=by
    obtain⟨ys,rfl⟩:=List.getLast?_eq_some_iff.1 q;simp
   have y:l.dropLast.length=n:=by rw[List.length_dropLast,D];rfl
   refine⟨rfl,_,H.keep ((aD.refl (fun k=>k=g) w).setCell (fun _=>rfl) _) (fun h=>Q h.symm),?_,(aD.refl _ w).setCell (fun _ =>.inr rfl) _⟩;rw[R];have E:(l.dropLast++[aw.mk x.QH x.QF (x.to+t)]).length=n+1:=by simp[y]
   rw[E];have N:aT (l.dropLast++[aw.mk x.QH x.QF (x.to+t)])=(aT l).set (n*3+2) (.int .i64 (x.to+t)):=by
    conv=>rhs;rw[O]
    rw[eQ,eQ,List.set_append_right _ _ (by rw[gp,y];omega),gp,y];have:n*3+2-n*3=2:=χ
    rw[this];rfl
   rw[N];exact U
  ·refine(zX w p B g n u l x s t V I χ H C L D j hs d).mono ?_
   rintro e w' ⟨rfl,J,X,Y,Z⟩;have R:Ln.run l s t=l++[aw.mk s x.to (x.to+t)]:=by simp[Ln.run,q,hs]
   rw[R];exact⟨rfl,J,X,Y,Z⟩
def bu(w:World)(R:List aw×Int×Int)(e:Ending)(w':World):Prop:=
 ∃v,e=.returned (.tuple #[v,.int .i64 R.2.1,.int .i64 R.2.2])∧w'.ownsRow w.heap.size 278 3 v R.1.length (aT R.1)∧Below w.heap.size w w'
theorem bu.nil{w':World}(d:Below w.heap.size w w'):bu w ([],a,b) (.returned (.tuple #[.slice none 0 0,.int .i64 a,.int .i64 b])) w':=
 ⟨_,rfl,World.ownsRow_nil _ _ _ _,d⟩
theorem jS{base d:Nat}{e:TypeId}{size:Nat}{n:Nat}{xs:List Value}(h:w.ownsRow base e size v n xs)(y:d≤base):w.ownsRow d e size v n xs:=by
 refine⟨h.1,?_⟩
 rcases h.2 with q|⟨g,j,l,q,u,x⟩
 ·exact .inl q
 ·exact .inr ⟨g,j,l,q,Δ y u,x⟩
def Ln.flatRuns(M:Nat)(xs:List Run):List aw×Int×Int:=
 match Ln.bV M false 0 0 xs with
 | some (i,e)=>([],i,e)
 | none=>Ln.eZ (Ln.fill M (Ln.ef [] xs))
theorem wu(w:World)(B:Nat)(v:Value)(l:List aw)(N:l.length≤1000000000)(h:w.ownsRow B 278 3 v l.length (aT l)):
 Calls Tryz.prog 144 #[v] w fun e w'=>e=.returned (.int .i64 (Ln.jE l))∧w=w':=by
 rcases ϑ l.length with C|C
 ·obtain rfl:=List.eq_nil_of_length_eq_zero C
  have K:∃A c,v=.slice A 0 c:=by
   rcases h.2 with⟨rfl,_⟩|⟨g,u,E,rfl,_⟩
   ·exact⟨_,_,rfl⟩
   ·exact⟨_,_,rfl⟩
  obtain⟨A,c,rfl⟩:=K;exact pD w c A
 ·obtain⟨g,u,rfl,H,J⟩:=h.form C
  obtain⟨n,D⟩:∃n,l.length=n+1:=⟨l.length-1,χ⟩;obtain⟨x,d⟩:∃x,l[n]?=some x:=⟨l[n]' χ,θ χ⟩;have q:l.getLast?=some x:=by rw[List.getLast?_eq_getElem?,D];exact d
  have I:Ln.jE l=x.to:=by unfold Ln.jE;rw[q]
  obtain⟨O,Q,L⟩:=iN d;have c2:=h.cells (g:=g) rfl _ _ L;have y:∀j,(⟨g,0,none⟩:Addr).add j=⟨g,j,none⟩:=fun j=>by unfold Addr.add;split<;>simp_all
  rw[y]at c2;rw[I,D];exact pC w g 0 n u x.to χ (by simpa using c2)
theorem Ak(M:Nat)(w:World)(h:M<1∨65536<M)(l:M<18446744073709551616)(d:Int)(QN:Nat)(g:Bool)(s:Value)(q:s.cells = #[s]):
 Calls Tryz.prog 120 #[.int .u64 M,.agg #[.int .i64 d,.int .u64 QN,.bool g,s]] w (bu w ([], -1,92)):=by
 by_cases h0:M<1
 ·clear h
  go_enter Tryz.func120,Tryz.ntmps120
  go_wp2
  go_ret3
  exact bu.nil ((Below.refl _ _).alloc (Γ _) _)
 ·have j:65536<M:=χ
  clear h
  go_enter Tryz.func120,Tryz.ntmps120
  go_wp2
  go_ret3
  exact bu.nil ((Below.refl _ _).alloc (Γ _) _)
theorem yW(M:Nat)(A:Option Addr)(c:Nat)(xs:List Run)(lp:Int)(QN:Nat)(w:World)(hM:1≤M)(hM2:M≤65536)
 (hx:∀r∈xs,r.QS<18446744073709551616∧r.per<18446744073709551616)(hl:xs.length≤140737488351232)(hr:eJ w A xs):
 Calls Tryz.prog 120 #[.int .u64 M,.agg #[.int .i64 lp,.int .u64 QN,.bool false,.slice A xs.length c]] w (bu w (Ln.flatRuns M xs)):=by
 obtain⟨W,hW⟩:∃W,W=w.alloc (.cells #[.int .i64 lp,.int .u64 QN,.bool false,.slice A xs.length c] 71):=⟨_,rfl⟩;have hB:Below w.heap.size w W:=by subst hW;exact(Below.refl _ _).alloc (Γ _) _
 have hWs:W.heap.size=w.heap.size+1:=by subst hW;simp
 have c2:W.cell? ⟨w.heap.size,2,none⟩=some (.bool false):=by subst hW;rw[World.cell?_alloc_at _ _ _ _ rfl];rfl
 have c3:W.cell? ⟨w.heap.size,3,none⟩=some (.slice A xs.length c):=by subst hW;rw[World.cell?_alloc_at _ _ _ _ rfl];rfl
 have hR:eJ W A xs:=hr.below hB (Γ _);obtain⟨R,hRes⟩:∃R,R=Ln.flatRuns M xs:=⟨_,rfl⟩;rw[←hRes];have HR:=ν hRes;have HS:=ν hWs;have HW:=ν hW;clear hWs hRes
 go_enter Tryz.func120,Tryz.ntmps120
 have h0:¬ M<1:=χ
 have h1:¬ 65536<M:=χ
 go_wp2
 rw[←hW];clear hW
 go_loopw [7,24] (fun s i wr=>∃k d:Nat,k≤xs.length∧i=.int .i64 k∧d≤M∧s=.int .u64 d∧Ln.bV M false k d (xs.drop k)=Ln.bV M false 0 0 xs∧Below W.heap.size W wr) (fun _ i _=>xs.length-(intOf i).toNat)
 case atStart=>exact⟨0,0,χ,rfl,χ,rfl,rfl,Below.refl _ _⟩
 case round =>
  obtain⟨k,d,hk,rfl,hd,rfl,hdem0,hbw⟩:=hrel;have hdem:=ν hdem0;clear hdem0;have hsz:=hbw.size;have hlt0:w.heap.size<wr.heap.size:=by have:=HS.out;omega
  have c2':wr.cell? ⟨w.heap.size,2,none⟩=some (.bool false):=by
   rw[hbw.cell (p:=⟨w.heap.size,2,none⟩) (by simp[HS.out])];exact c2
  have c3':wr.cell? ⟨w.heap.size,3,none⟩=some (.slice A xs.length c):=by
   rw[hbw.cell (p:=⟨w.heap.size,3,none⟩) (by simp[HS.out])];exact c3
  by_cases hlt:k<xs.length
  ·obtain⟨b,off,rfl,hbl,hcs⟩:=hR χ
   obtain⟨r,hrk⟩:∃r,xs[k]?=some r:=⟨xs[k],θ hlt⟩;have hmem:r∈xs:=γ hrk;obtain⟨q0,q1,q2,q3⟩:=hcs k r hrk;rw[←hbw.cell (p:=⟨b,_,none⟩) (by exact hbl)]at q0 q1 q2 q3;have hbud:=(hx r hmem).1;have hper:=(hx r hmem).2;have hlt1:b<wr.heap.size:=χ
   have hz:Ln.bV M false 0 0 xs=if Ln.right M r false=0 then(if M<d+Ln.eM M r false then some ((k:Int),93)else Ln.bV M false (k+1) (d+Ln.eM M r false) (xs.drop (k+1)))else some ((k:Int),Ln.right M r false):=by
    obtain⟨h1,h2⟩:=ο.1 hrk;rw[←hdem.out,List.drop_eq_getElem_cons h1,h2];rfl
   have HZ:=ν hz;clear hrk hcs c2 c3 hz
   go_wp2_with fail
   refine(qU _ r _ _ χ hbud hper).mono ?_;rintro e w1 ⟨rfl,hb1⟩;have hz1:=hb1.size;simp at hz1;obtain⟨hc1,hf1⟩:=Cr hb1;have hbw1:Below W.heap.size W w1:=(hbw.alloc hbw.size _).trans (hb1.mono η);clear hb1
   by_cases hr:Ln.right M r false=0
   ·have hr':(Ln.right M r false !=0)=false:=by simp[hr]
    have hw:=Ln.rp hr;obtain⟨o1,o2,o3⟩:=Ln.gz hr;have Hr:=ν hr;clear hr o3
    go_wp2_with fail
    refine(qJ _ r _ _ hM2 o2 (fun h=>by simp at h)).mono ?_;rintro e w2 ⟨rfl,hb2⟩;have hbw2:Below W.heap.size W w2:=hbw1.trans (hb2.mono χ);clear hb2 hc1 hf1
    by_cases ho:M<d+Ln.eM M r false
    ·go_wp2
     go_ret3
     rw[HR.out,Ln.flatRuns,HZ.out,if_pos Hr.out,if_pos ho];exact bu.nil (hB.trans (hbw2.mono (by simp[HS.out])))
    ·go_wp2
     go_roundw
     case rel =>
      exact⟨k+1,d+Ln.eM M r false,χ,by go_num,χ,by go_num,by rw[HZ.out,if_pos Hr.out,if_neg χ],hbw2⟩
     case measure=>simp[intOf];omega
   ·have hr':(Ln.right M r false !=0)=true:=by simp[hr]
    go_wp2
    go_ret3
    rw[HR.out,Ln.flatRuns,HZ.out,if_neg hr];exact bu.nil (hB.trans (hbw1.mono (by simp[HS.out])))
  ·have hk':k=xs.length:=χ
   have hnone:Ln.bV M false 0 0 xs=none:=by rw[←hdem.out,hk',List.drop_length];rfl
   obtain⟨hall,hsum⟩:=Ln.ic hnone;have hsum':=hsum rfl χ;have HN:=ν hnone;have HA:=ν hall;have hB1:Below w.heap.size w wr:=hB.trans (hbw.mono (by simp[HS.out]));have hR1:eJ wr A xs:=hR.below hbw χ;clear hnone hall hsum hk' hR c2 c3 hbw hsz hB;have hb1:∀r∈xs,1≤r.QS∧r.QS≤65536:=fun r hr=>by
    obtain⟨o1,o2,_⟩:=Ln.gz (HA.out r hr);exact⟨o1,χ⟩
   have hlen:=Ln.uS (fun r hr=>(hb1 r hr).1);have hfin:R=Ln.eZ (Ln.fill M (Ln.ef [] xs)):=by rw[HR.out,Ln.flatRuns,HN.out]
   have HF:=ν hfin;have HB1:=ν hB1;clear hfin hB1
   go_wp2
   obtain⟨wo,hwo⟩:∃wo,wo=wr.alloc (.cells #[.slice none 0 0] 252):=⟨_,rfl⟩;obtain⟨p,hp⟩:∃p,p=wr.heap.size:=⟨_,rfl⟩;have hwp:w.heap.size<p:=χ
   have hv0:Var wo p 252 (.slice none 0 0):=by subst hwo hp;exact heap_alloc_new _ _
   have hBo:Below w.heap.size w wo:=by subst hwo;exact HB1.out.alloc HB1.out.size _
   have hso:p+1≤wo.heap.size:=by subst hwo hp;simp
   rw[←hwo,←hp];clear hwo hp hR1 c2' c3'
   go_loopw [60] (fun i wq=>∃(k T:Nat) (rows:List aw) (v:Value),k≤xs.length∧i=.int .i64 k∧Ln.ef rows (xs.drop k)=Ln.ef [] xs∧Var wq p 252 v∧wq.ownsRow (p+1) 278 3 v rows.length (aT rows) ∧
    Ln.nO T rows∧T+Ln.fY (xs.drop k)≤M∧rows.length≤k∧Below w.heap.size w wq∧p+1≤wq.heap.size) (fun i _=>xs.length-(intOf i).toNat)
   case atStart=>exact⟨0,0,[],_,χ,rfl,rfl,hv0,World.ownsRow_nil _ _ _ _,Ln.nr _,by simpa using hsum',ξ,hBo,hso⟩
   case round =>
    obtain⟨k,T,rows,v,hk,rfl,hrows,hv,hown,hup,hT,hrl,hbq,hsq⟩:=hrel;have Hrows:=ν hrows;have Hup:=ν hup;clear hrows hup
    by_cases hlt:k<xs.length
    ·obtain⟨b,off,rfl,hbl,hcs⟩:=hr χ
     obtain⟨r,hrk⟩:∃r,xs[k]?=some r:=⟨xs[k],θ hlt⟩;have hmem:r∈xs:=γ hrk;obtain⟨q0,q1,q2,q3⟩:=hcs k r hrk;obtain⟨e1,e2⟩:=hb1 r hmem;obtain⟨h1,h2⟩:=ο.1 hrk;have hd2:xs.drop k=r::xs.drop (k+1):=by rw[List.drop_eq_getElem_cons h1,h2]
     have hsb:Ln.fY (xs.drop k)=r.QS+Ln.fY (xs.drop (k+1)):=by rw[hd2];rfl
     have hrr:Ln.ef (Ln.run rows r.QH r.QS) (xs.drop (k+1))=Ln.ef [] xs:=by rw[←Hrows.out,hd2];rfl
     rw[hsb]at hT;have HRR:=ν hrr;clear hd2 hsb hrr hrk hcs h1 h2;rw[←hbq.cell (p:=⟨b,_,none⟩) (by exact hbl)]at q0 q1 q2 q3;have hlt1:b<wr.heap.size:=χ
     go_wp2_with fail
     have hkk:Kz wr (wr.alloc (.cells #[.int .i64 r.pos,.string r.QH,.int .u64 r.QS,.int .u64 r.per] 99)):=(aD.refl _ _).alloc _;refine(kv _ p (p+1) v rows r.QH r.QS ⟨χ,χ⟩ (fun x hx=>by have:=Hup.out x hx;omega) χ (hv.keep hkk ξ) χ η (hown.alloc _)).mono ?_;rintro e w1 ⟨rfl,v',hv',hown',hk'⟩;have hb2:Below w.heap.size w w1:=(hbq.alloc χ _).trans (hk'.below η (fun i hi h=>by
      rcases h with h|h
      ·omega
      ·have:=(hown.lt _ h).1;omega))
     have hs2:=hk'.size;simp at hs2;have hup':=Ln.nO.run Hup.out χ r.QH (t:=(r.QS:Int)) χ;have HU:=ν hup';have hlr:=Ln.kO rows r.QH r.QS;clear hk' hkk hup'
     go_wp2
     go_roundw
     case rel=>exact⟨k+1,T+r.QS,Ln.run rows r.QH r.QS,v',χ,by go_num,HRR.out,hv',hown',by simpa using HU.out,χ,χ,hb2,χ⟩
     case measure=>simp[intOf];omega
    ·have hk':k=xs.length:=χ
     have hrr:rows=Ln.ef [] xs:=by rw[←Hrows.out,hk',List.drop_length];rfl
     have hT':T≤M:=χ
     have hrl':rows.length≤65536:=χ
     rw[←hrr]at HF;obtain⟨he0,he1⟩:=Ln.nO.end_ Hup.out χ;obtain⟨E,hE⟩:∃E,E=Ln.jE rows:=⟨_,rfl⟩;rw[←hE]at he0 he1;have HE:=ν hE;have hvc:=hv.cell;clear hk' hrr hE hT hrl
     go_wp2_with fail
     refine(wu _ (p+1) v rows χ hown).mono ?_;rw[←HE.out];rintro e w1 ⟨rfl,rfl⟩
     by_cases hleft:0<(M:Int)-E
     ·have hl2:E<(M:Int):=χ
      go_wp2_with fail
      refine(kv _ p (p+1) v rows ByteArray.empty (M-E) ⟨χ,χ⟩ (fun x hx=>by have:=Hup.out x hx;omega) χ hv χ χ hown).mono ?_;rintro e w2 ⟨rfl,v',hv',hown',hk'⟩;have hb2:Below w.heap.size w w2:=hbq.trans (hk'.below χ (fun i hi h=>by
       rcases h with h|h
       ·omega
       ·have:=(hown.lt _ h).1;omega))
      have hff:Ln.fill M rows=Ln.run rows ByteArray.empty (M-E):=by unfold Ln.fill;rw[←HE.out,if_pos hleft]
      rw[hff]at HF;obtain⟨rows2,hrows2⟩:∃x,x=Ln.run rows ByteArray.empty (M-E):=⟨_,rfl⟩;have hl3:=Ln.kO rows ByteArray.empty (M-E);rw[←hrows2]at HF hown' hl3;clear hk' hff hrows2;have hvc':=hv'.cell;have hsl:∃A cc,(if True then v' else v')=.slice A rows2.length cc:=by
       rcases hown'.2 with⟨h,h2⟩|⟨g,cap,cur,h,_⟩
       ·exact⟨none,0,by rw[if_pos trivial,h,h2]⟩
       ·exact⟨_,_,by rw[if_pos trivial,h]⟩
      rw[if_pos trivial]at hsl;obtain⟨A2,cc,hsl⟩:=hsl;subst hsl
      by_cases hcap:4096<rows2.length
      ·go_wp2
       go_ret3
       rw[HF.out,Ln.eZ,if_pos hcap];exact bu.nil hb2
      ·go_wp2
       go_ret3
       rw[HF.out,Ln.eZ,if_neg hcap];exact⟨_,rfl,jS hown' χ,hb2⟩
     ·have hff:Ln.fill M rows=rows:=by unfold Ln.fill;rw[←HE.out,if_neg hleft]
      rw[hff]at HF;obtain⟨rows2,hrows2⟩:∃x,x=rows:=⟨_,rfl⟩;rw[←hrows2]at HF hown;have hl3:rows2.length≤rows.length+1:=by rw[hrows2];omega
      have hv':=hv;have hown':=hown;have hb2:=hbq;clear hff hrows2 hv hown hbq;have hvc':=hv'.cell;have hsl:∃A cc,(if True then v else v)=.slice A rows2.length cc:=by
       rcases hown'.2 with⟨h,h2⟩|⟨g,cap,cur,h,_⟩
       ·exact⟨none,0,by rw[if_pos trivial,h,h2]⟩
       ·exact⟨_,_,by rw[if_pos trivial,h]⟩
      rw[if_pos trivial]at hsl;obtain⟨A2,cc,hsl⟩:=hsl;subst hsl
      by_cases hcap:4096<rows2.length
      ·go_wp2
       go_ret3
       rw[HF.out,Ln.eZ,if_pos hcap];exact bu.nil hb2
      ·go_wp2
       go_ret3
       rw[HF.out,Ln.eZ,if_neg hcap];exact⟨_,rfl,jS hown' χ,hb2⟩
theorem DP(a:Addr)(w:World):(method 503 267 (.pointer (some a)) "Push").run Tryz.prog w=.ok (270,.pointer (some a)) w:=δ
theorem ES(a:Addr)(w:World):(method 503 267 (.pointer (some a)) "Pop").run Tryz.prog w=.ok (269,.pointer (some a)) w:=δ
theorem DQ(a:Addr)(w:World):(method 503 267 (.pointer (some a)) "Len").run Tryz.prog w=(match w.cell? a with|some v =>.ok (156,v) w|none=>(match w.farLoad Tryz.prog a (Mode.plain==Mode.atomic)with|.ok (v,_) =>.ok (156,v) w|.error h =>.halt h w)):=δ
theorem AO{a:Addr}(h:w.cell? a=some v):(method 503 267 (.pointer (some a)) "Len").run Tryz.prog w=.ok (156,v) w:=by rw[DQ,h]
theorem C7(a:Addr)(w:World):(method 503 267 (.pointer (some a)) "Less").run Tryz.prog w=(match w.cell? a with|some v =>.ok (268,v) w|none=>(match w.farLoad Tryz.prog a (Mode.plain==Mode.atomic)with|.ok (v,_) =>.ok (268,v) w|.error h =>.halt h w)):=δ
theorem vJ{a:Addr}(h:w.cell? a=some v):(method 503 267 (.pointer (some a)) "Less").run Tryz.prog w=.ok (268,v) w:=by rw[C7,h]
theorem C6(a:Addr)(w:World):(method 503 267 (.pointer (some a)) "Swap").run Tryz.prog w=(match w.cell? a with|some v =>.ok (271,v) w|none=>(match w.farLoad Tryz.prog a (Mode.plain==Mode.atomic)with|.ok (v,_) =>.ok (271,v) w|.error h =>.halt h w)):=δ
theorem jV{a:Addr}(h:w.cell? a=some v):(method 503 267 (.pointer (some a)) "Swap").run Tryz.prog w=.ok (271,v) w:=by rw[C6,h]
def Job.cells(s:Job):List Value:=[.int .i64 s.need,.int .i64 s.due,.int .i64 s.left]
def aj(l:List Job):List Value:=l.flatMap Job.cells
theorem jB(l:List Job):(aj l).length=l.length*3:=by
 induction l with
 | nil=>rfl
 | cons s l ih=>simp only[aj,List.flatMap_cons,List.length_append,List.length_cons]at ih⊢; rw[ih];simp[Job.cells];omega
theorem jC(l m:List Job):aj (l++m)=aj l++aj m:=by simp[aj]
theorem tF{l:List Job}{i:Nat}{s:Job}(h:l[i]?=some s):
 (aj l)[i*3]?=some (.int .i64 s.need)∧(aj l)[i*3+1]?=some (.int .i64 s.due)∧(aj l)[i*3+2]?=some (.int .i64 s.left):=by
 induction l generalizing i with
 | nil=>simp at h
 | cons x l ih =>
  cases i with
  | zero=>simp at h;subst h;simp[aj,Job.cells]
  | succ i =>
   have:=ih (i:=i) (by simpa using h);have e:∀j,(aj (x::l))[(i+1)*3+j]?=(aj l)[i*3+j]?:=fun j=>by
    simp only[aj,List.flatMap_cons];rw[List.getElem?_append_right (by simp[Job.cells];omega)]
    congr 1
    simp[Job.cells];omega
   exact⟨(e 0).trans this.1,(e 1).trans this.2.1,(e 2).trans this.2.2⟩
theorem lJ(l:List Job)(i:Nat)(b:Job)(h:i<l.length):aj (l.set i b)=(((aj l).set (i*3) (.int .i64 b.need)).set (i*3+1) (.int .i64 b.due)).set (i*3+2) (.int .i64 b.left):=by
 induction l generalizing i with
 | nil=>simp at h
 | cons x l ih =>
  cases i with
  | zero=>simp[aj,Job.cells]
  | succ i =>
   have:=ih i (by simpa using h);have e:∀(l:List Value) (j:Nat) (u:Value),(x.cells++l).set ((i+1)*3+j) u=x.cells++l.set (i*3+j) u:=fun l j u=>by
    rw[List.set_append_right _ _ (by simp[Job.cells];omega)]
    congr 2
    simp[Job.cells];omega
   have e0:=fun l u=>e l 0 u
   simp only[Nat.add_zero]at e0;simp only[List.set_cons_succ,aj,List.flatMap_cons]at this⊢;rw[this,e0,e,e]
theorem Tryz.info272:(Tryz.prog.info? 272).map (fun i=>(i.zero,i.size,i.bytes))=some (some (.agg #[.int .i64 0,.int .i64 0,.int .i64 0]),3,24):=δ
theorem em(w:World)(A:Option Addr)(n c:Nat):Calls Tryz.prog 156 #[.slice A n c] w fun e w'=>e=.returned (.int .i64 n)∧w=w':=by
 go_enter Tryz.func156,Tryz.ntmps156
 go_wp2
 go_ret
 exact⟨rfl,rfl⟩
theorem fS{g n c:Nat}{l:List Job}{a:Job}(q:w.ownsRow B 272 3 (.slice (some ⟨g,0,none⟩) n c) n (aj l))(u:l[i]?=some a):
 w.cell? ⟨g,i*3,none⟩=some (.int .i64 a.need)∧w.cell? ⟨g,i*3+1,none⟩=some (.int .i64 a.due)∧w.cell? ⟨g,i*3+2,none⟩=some (.int .i64 a.left):=by
 have h:∀j,(⟨g,0,none⟩:Addr).add j=⟨g,j,none⟩:=fun j=>by unfold Addr.add;split<;>simp_all
 obtain⟨v,x,y⟩:=tF u;have d:=q.cells (g:=g) rfl;have c0:=d _ _ v;have c1:=d _ _ x;have c2:=d _ _ y;rw[h]at c0 c1 c2;exact⟨c0,c1,c2⟩
theorem fw(w:World)(g n c i j:Nat)(a b:Job)(l:List Job)(C:l.length=n)(v:l[i]?=some a)(x:l[j]?=some b)(d:w.ownsRow 0 272 3 (.slice (some ⟨g,0,none⟩) n c) n (aj l)):
 Calls Tryz.prog 268 #[.slice (some ⟨g,0,none⟩) n c,.int .i64 i,.int .i64 j] w fun e w'=>e=.returned (.bool (decide (Ln.jlt a b)))∧∃n,w'=w.drewN n:=by
 obtain⟨D,E,H⟩:=fS d v;obtain⟨I,b1,b2⟩:=fS d x;have J:=(ο.1 v).1;have K:=(ο.1 x).1;have y:(i:Int)<n:=χ
 have B:(j:Int)<n:=χ
 clear d v x C
 by_cases g1:a.due<b.due
 ·have h:decide (Ln.jlt a b)=true:=by simp;exact .inl g1
  rw[h];have q:decide (a.due<b.due)=true:=by simpa using g1
  clear h g1
  go_enter Tryz.func268,Tryz.ntmps268
  go_wp2
  go_big_quiet (fail)
  go_wp2
  go_ret
  exact⟨rfl,nq,rfl⟩
 ·have q:decide (a.due<b.due)=false:=by simpa using g1
  by_cases g2:a.due=b.due
  ·have u:(a.due==b.due)=true:=by simpa using g2
   have h:decide (Ln.jlt a b)=decide (a.need<b.need):=by simp[Ln.jlt,g2]
   rw[h];clear h g1 g2
   go_enter Tryz.func268,Tryz.ntmps268
   go_wp2
   go_big_quiet (fail)
   go_wp2
   go_ret
   exact⟨rfl,nq,rfl⟩
  ·have u:(a.due==b.due)=false:=by simpa using g2
   have h:decide (Ln.jlt a b)=false:=by rw[decide_eq_false_iff_not];unfold Ln.jlt;omega
   rw[h];clear h g1 g2
   go_enter Tryz.func268,Tryz.ntmps268
   go_wp2
   go_big_quiet (fail)
   go_wp2
   go_ret
   exact⟨rfl,nq,rfl⟩
theorem jJ(w:World)(g n c i j:Nat)(a b:Job)(l:List Job)(Q:l.length=n)(C:l[i]?=some a)(D:l[j]?=some b)(d:w.ownsRow 0 272 3 (.slice (some ⟨g,0,none⟩) n c) n (aj l)):
 Calls Tryz.prog 271 #[.slice (some ⟨g,0,none⟩) n c,.int .i64 i,.int .i64 j] w fun e w'=>e=.returned (.tuple #[])∧w'.ownsRow 0 272 3 (.slice (some ⟨g,0,none⟩) n c) n (aj (Ln.bn l i j a b))∧aD (fun k=>k=g) w w':=by
 obtain⟨X,Y,Z⟩:=fS d C;obtain⟨b0,b1,b2⟩:=fS d D;have x:∀k,w.frozen? ⟨g,k,none⟩=false:=fun k=>d.frozenAt k
 have f0:=x (i*3);have f1:=x (i*3+1);have f2:=x (i*3+2);have f3:=x (j*3);have f4:=x (j*3+1);have f5:=x (j*3+2);have E:=(ο.1 C).1;have B:=(ο.1 D).1;have N:(i:Int)<n:=χ
 have O:(j:Int)<n:=χ
 have K:=ν C;have L:=ν D;clear C D Q x;have v:((((((w.setCell ⟨g,i*3,none⟩ (.int .i64 b.need)).setCell ⟨g,i*3+1,none⟩ (.int .i64 b.due)).setCell ⟨g,i*3+2,none⟩ (.int .i64 b.left)).setCell ⟨g,j*3,none⟩ (.int .i64 a.need)).setCell ⟨g,j*3+1,none⟩ (.int .i64 a.due)).setCell ⟨g,j*3+2,none⟩ (.int .i64 a.left)).drew.ownsRow 0 272 3 (.slice (some ⟨g,0,none⟩) n c) n (aj (Ln.bn l i j a b)):=by
  have R:=(d.stored (i*3) (.int .i64 b.need)).1;have U:=(R.stored (i*3+1) (.int .i64 b.due)).1;have I:=(U.stored (i*3+2) (.int .i64 b.left)).1;rw[←lJ l i b E]at I;have V:=(I.stored (j*3) (.int .i64 a.need)).1;have W:=(V.stored (j*3+1) (.int .i64 a.due)).1;have J:=(W.stored (j*3+2) (.int .i64 a.left)).1;rw[←lJ (l.set i b) j a (by simpa using B)]at J;exact J.drew
 have u:aD (fun k=>k=g) w ((((((w.setCell ⟨g,i*3,none⟩ (.int .i64 b.need)).setCell ⟨g,i*3+1,none⟩ (.int .i64 b.due)).setCell ⟨g,i*3+2,none⟩ (.int .i64 b.left)).setCell ⟨g,j*3,none⟩ (.int .i64 a.need)).setCell ⟨g,j*3+1,none⟩ (.int .i64 a.due)).setCell ⟨g,j*3+2,none⟩ (.int .i64 a.left)).drew:=
  (((((((aD.refl (fun k=>k=g) w).setCell (fun _=>rfl) _).setCell (fun _=>rfl) _).setCell (fun _=>rfl) _).setCell (fun _=>rfl) _).setCell (fun _=>rfl) _).setCell (fun _=>rfl) _).drew
 have q:=ν v;have h:=ν u;clear v u d
 rcases Nat.lt_trichotomy i j with y|y|y
 ·go_enter Tryz.func271,Tryz.ntmps271
  go_wp2
  go_region
  go_wp2
  go_end0
  exact⟨rfl,q.out,h.out⟩
 ·subst y
  have H:a=b:=by have E:=K.out;have B:=L.out;rw[E]at B;injection B
  subst H
  go_enter Tryz.func271,Tryz.ntmps271
  go_wp2
  go_region
  go_wp2
  go_end0
  exact⟨rfl,q.out,h.out⟩
 ·go_enter Tryz.func271,Tryz.ntmps271
  go_wp2
  go_region
  go_wp2
  go_end0
  exact⟨rfl,q.out,h.out⟩
