import Derived.Test.YthobcefghkeddaaGreatDoorRsvf
import Derived.Test.YthobcefghkeddaaGreatDoorLH2
set_option maxRecDepth 100000
set_option linter.all false
set_option maxHeartbeats 4000000
namespace Go.Proofs.YthobcefghkeddaaGreatDoor.Rs
open Go.RowKit Go.IntWalk Go.Proofs.YthobcefghkeddaaGreatDoor Ck
variable {W:World} {b k sz:Nat}
theorem oe{o:Nat}{cs:Array Value}{t:TypeId}{vs:List Value}(h:W.heap[b]?=some (.cells cs t (0,0)))(e:(cs.toList.drop o).take vs.length=vs):aM W b o vs:=fun j v d=>by
 have g:=(List.getElem?_eq_some_iff.1 d).1;refine jO h ?_;rw[←e,List.getElem?_take_of_lt g,List.getElem?_drop,Array.getElem?_toList]at d;exact d
theorem u0{α:Type}{R:World→Nat→Nat→α→Prop}{x:α}(g:b<W.heap.size)(h:R W b 0 x):aK W.heap.size k R W (.slice (some ⟨b,0,none⟩) 1 1) [x]:=
 ⟨_,1,rfl,Nat.le_refl 1,(by decide:1≤top),fun _=>⟨b,0,rfl,g,fun i y d=>by
  match i,d with
  | 0,d =>
   obtain rfl:=Option.some.inj d;rw[Nat.zero_mul];exact h⟩⟩
theorem gH{α:Type}{B:Nat}{R:World→Nat→Nat→α→Prop}:aK B k R W (.slice none 0 0) ([]:List α):=⟨none,0,rfl,Nat.le_refl _,(by decide:0≤top),fun h=>absurd h (Nat.lt_irrefl 0)⟩
theorem gL{w:World}{o x:Obj}(h:w.heap[k]?=some x):(w.alloc o).heap[k]?=some x:=(((aD.refl (fun _=>False) w).alloc o).block k (Array.getElem?_eq_some_iff.1 h).1 id).trans h
theorem oh{w:World}{o:Obj}(h:k=w.heap.size):(w.alloc o).heap[k]?=some o:=by subst h;exact heap_alloc_new _ _
theorem lE(w:World)(o:Obj):(w.alloc o).heap.size=w.heap.size+1:=ξ
theorem al5(w:World)(d g h j l:Obj):∃W,W=((((w.alloc d).alloc g).alloc h).alloc j).alloc l∧Kz w W∧W.heap.size=w.heap.size+5∧W.heap[w.heap.size]?=some d∧W.heap[w.heap.size+1]?=some g∧W.heap[w.heap.size+1+1]?=some h∧W.heap[w.heap.size+1+1+1]?=some j∧W.heap[w.heap.size+1+1+1+1]?=some l:=by
 refine⟨_,rfl,(((((aD.refl _ _).alloc _).alloc _).alloc _).alloc _).alloc _,?_,?_,?_,?_,?_,?_⟩
 ·simp only[lE]
 ·exact gL (gL (gL (gL (oh rfl))))
 ·exact gL (gL (gL (oh (by simp only[lE]))))
 ·exact gL (gL (oh (by simp only[lE])))
 ·exact gL (oh (by simp only[lE]))
 ·exact oh (by simp only[lE])
def CF(b:Nat):Sta where
 o j:=match j with|0 =>.slice (some ⟨b+1,0,none⟩) 1 1|1 =>.slice (some ⟨b+1+1,0,none⟩) 2 2|2 =>.slice (some ⟨b+1+1+1,0,none⟩) 1 1|_ =>.slice (some ⟨b+1+1+1+1,0,none⟩) 1 1
def smZ:Cl := .l (.slice none 0 0)
def smC:List Cl:=[.i .i64 (.c 0),.s (.c ⟨#[]⟩),.v 0,smZ,.v 1,smZ,smZ,smZ,smZ,.v 2,smZ,.v 3,smZ,smZ]
def smV(b:Nat):aX:=⟨.slice (some ⟨b+1,0,none⟩) 1 1,.slice none 0 0,.slice (some ⟨b+1+1,0,none⟩) 2 2,.slice none 0 0,.slice none 0 0,.slice none 0 0,.slice none 0 0,.slice (some ⟨b+1+1+1,0,none⟩) 1 1,.slice none 0 0,.slice (some ⟨b+1+1+1+1,0,none⟩) 1 1,.slice none 0 0,.slice none 0 0⟩
theorem qe(x:UInt8):aW ⟨#[x]⟩:=by unfold aW;show(1:Nat)≤_;decide
theorem Br:gb 0:=⟨ψ,ψ⟩
theorem Dm:0<lim:=ψ
theorem tX:aW ByteArray.empty:=by unfold aW;decide
structure mF (sz:Nat) (W:World) (b:Nat):Prop where
 lt:b+1+1+1+1<W.heap.size
 Qg:aM W (b+1) 0 (Ck.Ram.cells ⟨0,65536,40960⟩)
 Qd:aM W (b+1+1) 0 (smA sz).cells
 Qh:aM W (b+1+1) 10 smB.cells
 plan:aM W (b+1+1+1) 0 [.int .i64 0,.string ⟨#[112]⟩,.int .u64 1,.slice none 0 0]
 pick:aM W (b+1+1+1+1) 0 (Ck.iQ.cells ⟨0,⟨#[112]⟩⟩)
 row:∃cs E0,W.heap[b+1+1]?=some (.cells cs E0 (0,0))
theorem mF.keep{W':World}(h:mF sz W b)(hk:Kz W W'):mF sz W' b:=by
 have:=h.lt;obtain⟨cs,E0,d⟩:=h.row;exact⟨Nat.lt_of_lt_of_le h.lt hk.size,h.Qg.keep hk χ id,h.Qd.keep hk χ id,h.Qh.keep hk χ id,h.plan.keep hk χ id,h.pick.keep hk χ id,cs,E0,(hk.block _ χ id).trans d⟩
theorem mF.Q3{sz:Nat}{W:World}{b:Nat}(h:mF sz W b)(g:sz<lim):aK W.heap.size 10 ot W (.slice (some ⟨b+1+1,0,none⟩) 2 2) [smA sz,smB]:=by
 have:=h.lt;refine⟨_,2,rfl,Nat.le_refl 2,(by decide:2≤top),fun _=>⟨_,0,rfl,χ,fun i y d=>?_⟩⟩
 match i,d with
 | 0,d =>
  obtain rfl:=Option.some.inj d;exact⟨h.Qd,Br,g,Dm,Dm,qe _,tX⟩
 | 1,d =>
  obtain rfl:=Option.some.inj d;exact⟨h.Qh,⟨ψ,ψ⟩,ψ,ψ,ψ,qe _,tX⟩
theorem mF.QR(h:mF sz W b)(d:sz<lim):bO W.heap.size W (smV b) (smP sz smQ):=by
 have:=h.lt;exact⟨u0 χ ⟨h.Qg,⟨ψ,ψ⟩,ψ,ψ⟩,gH,h.Q3 d,gH,gH,gH,gH,u0 χ ⟨_,h.plan,gH,⟨ψ,ψ⟩,ψ,qe _⟩,gH,u0 χ ⟨h.pick,⟨ψ,ψ⟩,qe _⟩,gH,gH,Br,tX⟩
theorem mF.pol0(h:mF sz W b)(d:sz<lim):bO W.heap.size W { smV b with QH := .slice none 0 0 } (smP sz []):=
 have q:=h.QR d
 ⟨q.QF,q.Q5,q.Q3,q.Q4,q.Q8,q.QM,q.QB,q.Q9,q.QD,gH,q.QE,q.QG,q.pos,q.name⟩
theorem wY(w:World):Calls Tryz.prog 17 #[] w fun e w'=>∃b,e=.returned (.agg (aX.cells (smV b) (smP 8192 smQ)).toArray)∧w.heap.size≤b∧Kz w w'∧mF 8192 w' b:=by
 go_enter Tryz.func17,Tryz.ntmps17
 go_wp2
 generalize hc0 : #[Value.int IntKind.i64 0,Value.string { data := #[] },Value.slice (some { block:=w.heap.size+1,off:=0 }) 1 1,Value.slice none 0 0,Value.slice (some { block:=w.heap.size+1+1,off:=0 }) 2 2,Value.slice none 0 0,Value.slice none 0 0,Value.slice none 0 0,Value.slice none 0 0,Value.slice (some { block:=w.heap.size+1+1+1,off:=0 }) 1 1,Value.slice none 0 0,Value.slice (some { block:=w.heap.size+1+1+1+1,off:=0 }) 1 1,Value.slice none 0 0,Value.slice none 0 0]=c0
 generalize hc1 : #[Value.int IntKind.i64 0,Value.int IntKind.u64 65536,Value.int IntKind.u64 40960]=c1
 generalize hc2 : #[Value.int IntKind.i64 0,Value.string { data := #[97] },Value.int IntKind.u64 8192,Value.bool false,Value.int IntKind.u64 0,Value.bool false,Value.bool false,Value.int IntKind.u64 0,Value.bool false,Value.string { data := #[] },Value.int IntKind.i64 0,Value.string { data := #[98] },Value.int IntKind.u64 12288,Value.bool true,Value.int IntKind.u64 65536,Value.bool false,Value.bool false,Value.int IntKind.u64 0,Value.bool false,Value.string { data := #[] }]=c2
 generalize hc3 : #[Value.int IntKind.i64 0,Value.string { data := #[112] },Value.int IntKind.u64 1,Value.slice none 0 0]=c3
 generalize hc4 : #[Value.int IntKind.i64 0,Value.string { data := #[112] }]=c4
 obtain⟨W,q,hk,H,x,y,h,B,C⟩:=al5 w (.cells c0 33) (.cells c1 91) (.cells c2 53) (.cells c3 68) (.cells c4 47);rw[←q];clear q;refine pH (S:=CF w.heap.size) (κ:=fun _=>(w.heap.size,0)) (N:=11) (F:=[(0,.one (.p 0 0))]) (M:=[(0,smC)]) (v := .ag smC) (t:=0) (r:=0) (E:=33) rfl ⟨rfl,fun t u g=>?_⟩ rfl δ ?_ rfl ?_
 ·rw[bZ]at g
  split at g
  ·rename_i e;subst e;obtain rfl:=Option.some.inj g;rfl
  ·cases g
 ·intro r l d
  rw[cJ]at d;split at d
  ·rename_i e;subst e;obtain rfl:=Option.some.inj d
   intro j c D;refine jO x ?_;subst hc0;have:(smC.map (Cl.den (CF w.heap.size) fun _=>(w.heap.size,0)))[j]?=some (c.den (CF w.heap.size) fun _=>(w.heap.size,0)):=by rw[List.getElem?_map,D];rfl
   show _[0+j]?=_;rw[Nat.zero_add,←Array.getElem?_toList];exact this
  ·cases d
 ·refine⟨w.heap.size,rfl,Nat.le_refl _,hk,?_⟩
  subst hc1 hc2 hc3 hc4;exact⟨χ,oe y rfl,oe h rfl,oe h rfl,oe B rfl,oe C rfl,_,_,h⟩
