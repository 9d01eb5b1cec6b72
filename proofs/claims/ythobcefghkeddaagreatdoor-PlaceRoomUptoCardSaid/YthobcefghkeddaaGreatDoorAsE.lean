import Derived.Test.YthobcefghkeddaaGreatDoorIsEr
import Derived.Test.YthobcefghkeddaaGreatDoorScanD
import Derived.Deep.CutRange
import Derived.Deep.RegionHeld3
set_option maxRecDepth 100000
set_option linter.all false
set_option maxHeartbeats 4000000
namespace Go.Proofs.YthobcefghkeddaaGreatDoor
section
open Go.RowKit Go.IntWalk Ck
variable {w:World}
theorem tW{P:Program}{f:FuncId}{args:Array Value}{v:Ending}(h:Calls P f args w fun e w'=>e=v∧w=w'):Calls P f args w fun e w'=>e=v∧w'=w:=h.mono fun _ _ h=>⟨h.1,h.2.symm⟩
theorem rK(n:Int)(w:World):Calls Tryz.prog 149 #[.int .i64 n] w fun e w'=>e=.returned (.bool false)∧w=w':=by
 go_enter Tryz.func149,Tryz.ntmps149
 go_wp2
 go_ret
 exact⟨ξ,rfl⟩
def kC(a b:Int):Int:=if a<b then -1 else if b<a then 1 else 0
theorem Ca(a b:Int)(w:World):Calls Tryz.prog 124 #[.int .i64 a,.int .i64 b] w fun e w'=>e=.returned (.int .i64 (kC a b))∧w=w':=by
 unfold kC
 by_cases h1:a<b
 ·go_enter Tryz.func124,Tryz.ntmps124
  go_wp2_with (go_at_call 149;refine(rK _ _).mono ?_;rintro e w' ⟨rfl,rfl⟩)
  go_ret
  exact⟨by simp[h1],rfl⟩
 ·by_cases h2:b<a
  ·go_enter Tryz.func124,Tryz.ntmps124
   go_wp2_with (go_at_call 149;refine(rK _ _).mono ?_;rintro e w' ⟨rfl,rfl⟩)
   go_ret
   exact⟨by simp[h1,h2],rfl⟩
  ·go_enter Tryz.func124,Tryz.ntmps124
   go_wp2_with (go_at_call 149;refine(rK _ _).mono ?_;rintro e w' ⟨rfl,rfl⟩)
   go_ret
   exact⟨by simp[h1,h2],rfl⟩
def orI(a b:Int):Int:=if a=0 then b else a
theorem uk(b:Nat)(x y:Int)(w:World)(h:w.cell? ⟨b,0,none⟩=some (.int .i64 x))(j:w.cell? ⟨b,1,none⟩=some (.int .i64 y)):
 Calls Tryz.prog 123 #[.slice (some ⟨b,0,none⟩) 2 2] w fun e w'=>e=.returned (.int .i64 (orI x y))∧w=w':=by
 unfold orI
 by_cases hx:x=0
 ·subst hx
  by_cases hy:y=0
  ·subst hy
   go_enter Tryz.func123,Tryz.ntmps123
   go_wp2
   refine wp_loop_rounds 3 ?_;rw[rounds_succ]
   go_wp2
   rw[rounds_succ]
   go_wp2
   rw[rounds_succ]
   go_wp2
   go_ret
   exact⟨rfl,rfl⟩
  ·have g:(y !=0)=true:=by simp[hy]
   go_enter Tryz.func123,Tryz.ntmps123
   go_wp2
   refine wp_loop_rounds 2 ?_;rw[rounds_succ]
   go_wp2
   rw[rounds_succ]
   go_wp2
   go_ret
   exact⟨rfl,rfl⟩
 ·have d:(x !=0)=true:=by simp[hx]
  go_enter Tryz.func123,Tryz.ntmps123
  go_wp2
  refine wp_loop_rounds 2 ?_;rw[rounds_succ]
  go_wp2
  go_ret
  exact⟨by simp[hx],rfl⟩
theorem DG(w:World)(x y:Int):Calls Tryz.prog 123 #[.slice (some ⟨w.heap.size,0,none⟩) 2 2] (w.alloc (.cells #[.int .i64 x,.int .i64 y] 3)) fun e w'=>e=.returned (.int .i64 (orI x y))∧w.alloc (.cells #[.int .i64 x,.int .i64 y] 3)=w':=
 uk _ x y _ (by rw[World.cell?_alloc_at _ _ _ _ rfl];rfl) (by rw[World.cell?_alloc_at _ _ _ _ rfl];rfl)
theorem Cq(x y:Wr):orI (kC x.1 y.1) (kC x.2 y.2)≤0↔Le x y:=by
 unfold orI kC Le
 repeat' split
 all_goals omega
structure iH (B:Nat) (w:World):Prop where
 pos:13<B
 err:pZ w
 scan:∀w',Below B w w'→jm jg w'
theorem iH.below{B:Nat}{w':World}(h:iH B w)(g:Below B w w'):iH B w':=
 ⟨h.pos,(g.cell (p:=⟨0,0,none⟩) (by have:=h.pos;show 0<B;omega)).trans h.err,fun w' d=>h.scan w' (g.trans d)⟩
def nh(w:World)(pb:Nat)(f:Value)(W:Int→Int):Option Wr→Prop
 | none=>f=.nilIface
 | some m=>∃b,f=.iface 79 (.pointer (some ⟨b,0,none⟩))∧b≠pb∧w.heap[b]?=some (.cells #[.int .i64 m.1,.int .i64 m.2,.iface 36 (.int .i64 (W m.2))] 84 (0,0))
structure aG (B:Nat) (w:World) (pb:Nat) (v:ae) (P:aF) (W:Int→Int) (L:List Wr):Prop where
 laid:iH B w
 base:B≤pb
 QU:bD B w v P
 look:∃f o,w.heap[pb]?=some (.cells (v.cells P++[f]).toArray 77 (0,0))∧nh w pb f W o∧iI L o
def gb(w:World)(k:Nat):Option TypeId:=match w.heap[k]? with|some (.cells _ t _)=>some t|_=>none
theorem aH{b:Nat}{o:Obj}(h:w.heap[b]?=some o):b<w.heap.size:=(ϱ.1 h).1
theorem nh.keep{S:Nat→Prop}{w w':World}{pb:Nat}{f:Value}{W:Int→Int}{o:Option Wr}(h:nh w pb f W o)(hk:aD S w w')(l:∀k,S k→k<w.heap.size→k=pb∨gb w k≠some 84):nh w' pb f W o:=by
 cases o with
 | none=>exact h
 | some m =>
  obtain⟨b,j,g,d⟩:=h;refine⟨b,j,g,(hk.block b (aH d) fun q=>?_).trans d⟩
  rcases l b q (aH d)with h|h
  ·exact g h
  ·apply h;unfold gb;rw[d]
namespace aG
variable {B:Nat} {w w':World} {pb:Nat} {v:ae} {P:aF} {W:Int→Int} {L L':List Wr}
theorem lt(h:aG B w pb v P W L):pb<w.heap.size:=by obtain⟨f,o,d,_⟩:=h.look;exact aH d
theorem ty(h:aG B w pb v P W L):gb w pb=some 77:=by obtain⟨f,o,d,_⟩:=h.look;unfold gb;rw[d]
theorem keep{S:Nat→Prop}(h:aG B w pb v P W L)(hk:aD S w w')(g:∀k,S k→k<w.heap.size→B≤k∧gb w k≠some 77∧gb w k≠some 84):aG B w' pb v P W L:=by
 have x:B≤w.heap.size:=Δ h.base (Nat.le_of_lt h.lt);have j:Below B w w':=hk.below x (fun i hi d=>by have:=(g i d χ).1;omega);obtain⟨f,o,l,q,u⟩:=h.look;exact⟨h.laid.below j,h.base,h.QU.below j,f,o,(hk.block pb h.lt fun d=>(g pb d h.lt).2.1 h.ty).trans l,q.keep hk (fun k d y =>.inr (g k d y).2.2),u⟩
theorem new(h:aG B w pb v P W L)(hk:Kz w w'):aG B w' pb v P W L:=h.keep hk (fun _ h=>h.elim)
theorem congr(h:aG B w pb v P W L)(l:∀p,p∈L↔p∈L'):aG B w pb v P W L':=by
 obtain⟨f,o,d,g,j⟩:=h.look;exact⟨h.laid,h.base,h.QU,f,o,d,g,j.congr l⟩
theorem cell(h:aG B w pb v P W L){j:Nat}{x:Value}(d:(v.cells P)[j]?=some x):w.cell? ⟨pb,j,none⟩=some x:=by
 obtain⟨f,o,g,_⟩:=h.look;rw[cell_of_row _ _ _ _ _ _ g];simp only[List.getElem?_toArray];rw[List.getElem?_append_left (ο.1 d).1];exact d
end aG
theorem yl(v:ae)(P:aF):(v.cells P).length=14:=rfl
theorem od{B:Nat}{w g:World}{pb b:Nat}{v:ae}{P:aF}{W:Int→Int}{L:List Wr}{x:Wr}{f:Value}{o:Option Wr}(I:iH B w)(H:B≤pb)(J:bD B w v P)
 (C:w.heap[pb]?=some (.cells (v.cells P++[f]).toArray 77 (0,0)))(E:iI L o)(N:upd o x=some x)(hk:Kz w g)(hbs:b=g.heap.size):
 aG B ((g.setCell ⟨pb,14,none⟩ (.iface 79 (.pointer (some ⟨b,0,none⟩)))).alloc (.cells #[.int .i64 x.1,.int .i64 x.2,.iface 36 (.int .i64 (W x.2))] 84)) pb v P W (x::L) ∧
  aD (fun k=>k=pb) w ((g.setCell ⟨pb,14,none⟩ (.iface 79 (.pointer (some ⟨b,0,none⟩)))).alloc (.cells #[.int .i64 x.1,.int .i64 x.2,.iface 36 (.int .i64 (W x.2))] 84)):=by
 have y:=aH C;have K:=hk.size;have q:(g.setCell ⟨pb,14,none⟩ (.iface 79 (.pointer (some ⟨b,0,none⟩)))).heap.size=g.heap.size:=by simp[World.setCell]
 have j:=((hk.mono (T:=fun k=>k=pb) fun _ _ h=>h.elim).setCell (p:=⟨pb,14,none⟩) (fun _=>rfl) (.iface 79 (.pointer (some ⟨b,0,none⟩)))).alloc (.cells #[.int .i64 x.1,.int .i64 x.2,.iface 36 (.int .i64 (W x.2))] 84);have d:=j.below (B:=B) χ (fun i hi h=>by subst h;omega);have u:g.heap[pb]?=some (.cells (v.cells P++[f]).toArray 77 (0,0)):=(hk.block pb y (fun h=>h)).trans C;refine⟨⟨I.below d,H,J.below d,.iface 79 (.pointer (some ⟨b,0,none⟩)),some x,?_,⟨b,rfl,χ,?_⟩,?_⟩,j⟩
 ·rw[Below.heap_alloc _ _ _ (by rw[q];omega)]
  simp[World.setCell,Array.getElem?_modify,u];have e:=yl v P
  generalize v.cells P=l at e
  match l,e with
  | [_,_,_,_,_,_,_,_,_,_,_,_,_,_],_=>rfl
 ·have D:=heap_alloc_new (g.setCell ⟨pb,14,none⟩ (.iface 79 (.pointer (some ⟨b,0,none⟩)))) (.cells #[.int .i64 x.1,.int .i64 x.2,.iface 36 (.int .i64 (W x.2))] 84)
  rw[q,←hbs]at D;exact D
 ·rw[←N];exact E.tell x
theorem xS(B:Nat)(w:World)(pb:Nat)(v:ae)(P:aF)(W:Int→Int)(L:List Wr)(Q7 d:Int)(q:iH B w)(l:B≤pb)(u:bD B w v P)
 (g:w.heap[pb]?=some (.cells (v.cells P++[Value.nilIface]).toArray 77 (0,0)))(j:iI L none):
 Calls Tryz.prog 73 #[.pointer (some ⟨pb,0,none⟩),.int .i64 Q7,.int .i64 d,.int .i64 (W d)] w fun e w'=>e=.returned (.tuple #[])∧aG B w' pb v P W ((Q7,d)::L)∧aD (fun k=>k=pb) w w':=by
 have h:=aH g;have c:w.cell? ⟨pb,14,none⟩=some .nilIface:=by
  rw[cell_of_row _ _ _ _ _ _ g];rfl
 have y:w.frozen? ⟨pb,14,none⟩=false:=by simp[World.frozen?,g]
 have c1:(w.alloc (Obj.cells #[Value.pointer none] 79)).drew.cell? ⟨pb,14,none⟩=some .nilIface:=(World.cell?_alloc_lt w _ ⟨pb,14,none⟩ h).trans c
 go_enter Tryz.func73,Tryz.ntmps73
 go_wp2
 go_quiet ((go_at_call 33;exact Calls.quiet_of_same (tW (BA _ _))))
 go_wp2
 go_end0
 refine⟨rfl,od (x:=(Q7,d)) (o:=none) q l u g j rfl ?hk ?hbs⟩
 case hk=>exact((aD.refl _ w).alloc _).drewN _
 case hbs=>simp
theorem uF(e:Addr)(tb:Nat)(w:World)(g:pZ w)(d:Var w tb 79 (.pointer none)):
 Calls Tryz.prog 33 #[.iface 79 (.pointer (some e)),.iface 81 (.pointer (some ⟨tb,0,none⟩))] w fun ev w'=>ev=.returned (.bool true)∧Var w' tb 79 (.pointer (some e))∧aD (fun k=>k=tb) w w':=by
 refine(ym e ⟨tb,0,none⟩ _ w g d.cell d.frozen).mono ?_;rintro ev w' ⟨rfl,rfl⟩;have hk:Kz w ((((w.alloc (.cells #[.pointer (some ⟨tb,0,none⟩)] 81)).alloc (.cells #[.pointer (some ⟨13,81,none⟩),.pointer (some ⟨w.heap.size,0,none⟩),.int .u64 150] 188)).alloc (.cells #[.pointer (some ⟨13,81,none⟩),.pointer (some ⟨w.heap.size,0,none⟩),.int .u64 150] 188)).alloc (.cells #[.pointer (some e)] 79)):=((((aD.refl _ w).alloc _).alloc _).alloc _).alloc _;exact⟨rfl,(d.keep hk (fun h=>h)).set_ _,(hk.mono (T:=fun k=>k=tb) fun _ _ h=>h.elim).setCell (p:=⟨tb,0,none⟩) (fun _=>rfl) _⟩
theorem xR(B:Nat)(w:World)(pb b:Nat)(v:ae)(P:aF)(W:Int→Int)(L:List Wr)(Q7 rank:Int)(m:Wr)(hl:iH B w)(hb:B≤pb)(hp:bD B w v P)
 (h1:w.heap[pb]?=some (.cells (v.cells P++[Value.iface 79 (.pointer (some ⟨b,0,none⟩))]).toArray 77 (0,0)))(hbp:b≠pb)
 (h2:w.heap[b]?=some (.cells #[.int .i64 m.1,.int .i64 m.2,.iface 36 (.int .i64 (W m.2))] 84 (0,0)))(h3:iI L (some m)):
 Calls Tryz.prog 73 #[.pointer (some ⟨pb,0,none⟩),.int .i64 Q7,.int .i64 rank,.int .i64 (W rank)] w fun e w'=>e=.returned (.tuple #[])∧aG B w' pb v P W ((Q7,rank)::L)∧aD (fun k=>k=pb) w w':=by
 have hlt:=aH h1;have hlb:=aH h2;have c:w.cell? ⟨pb,14,none⟩=some (.iface 79 (.pointer (some ⟨b,0,none⟩))):=by
  rw[cell_of_row _ _ _ _ _ _ h1];rfl
 have fz:w.frozen? ⟨pb,14,none⟩=false:=by simp[World.frozen?,h1]
 obtain⟨W0,hW0⟩:∃W0,W0=w.alloc (Obj.cells #[Value.pointer none] 79):=⟨_,rfl⟩;have hk0:Kz w W0:=by rw[hW0];exact(aD.refl _ w).alloc _
 have hv0:Var W0 w.heap.size 79 (.pointer none):=by rw[hW0];exact heap_alloc_new _ _
 have hs0:W0.heap.size=w.heap.size+1:=by rw[hW0];simp
 have HK0:=ν hk0;have HV0:=ν hv0;have c1:W0.drew.cell? ⟨pb,14,none⟩=some (.iface 79 (.pointer (some ⟨b,0,none⟩))):=(hk0.cell (p:=⟨pb,14,none⟩) hlt (fun h=>h)).trans c;have HE:Hid (pZ W0.drew):=(hk0.cell (p:=⟨0,0,none⟩) (by have:=hl.pos;show 0<w.heap.size;omega) (fun h=>h)).trans hl.err;have HAs:Hid (∀w',aD (fun k=>k=w.heap.size) W0.drew w'→w'.cell? ⟨b,0,none⟩=some (.int .i64 m.1)∧w'.cell? ⟨b,1,none⟩=some (.int .i64 m.2)):=fun w' hk=>by
  have h2':w'.heap[b]?=_:=(((hk0.drew.mono (T:=fun k=>k=w.heap.size) fun _ _ h=>h.elim).trans hk (fun _ _ h=>h)).block b hlb χ).trans h2;exact⟨by rw[cell_of_row _ _ _ _ _ _ h2'];rfl,by rw[cell_of_row _ _ _ _ _ _ h2'];rfl⟩
 clear hk0 hv0 c fz hs0
 go_enter Tryz.func73,Tryz.ntmps73
 go_wp2_with fail
 rw[←hW0];clear hW0
 go_upto_region 1 with fail
 go_cut [31] from 9 to 31 (fun u wx=>u=.bool (decide (orI (kC m.1 Q7) (kC m.2 rank)≤0))∧Kz w wx)
 case first =>
  go_region_with (first
   | (go_at_call 33;refine(uF _ _ _ HE.out HV0.out).mono ?_;rintro e w1 ⟨rfl,hv1,hk1⟩;have hc1:=hv1.cell;obtain⟨hm1,hm2⟩:=HAs.out _ hk1;have HK1:=ν hk1;clear hv1 hk1)
   | (go_at_call 124;refine(Ca _ _ _).mono ?_;rintro e w2 ⟨rfl,rfl⟩)
   | (go_at_call 123;refine(DG _ _ _).mono ?_;rintro e w2 ⟨rfl,rfl⟩))
  all_goals(try go_wp2_with fail)
  all_goals go_meet
  all_goals exact⟨rfl,((HK0.out.drew).trans HK1.out (fun i hi h=>χ)).alloc _⟩
 case rest =>
 obtain⟨rfl,hk⟩:=hcut;have hltc:pb<wc.heap.size:=Θ hlt hk.size;have hlc:wc.heap[pb]?=_:=(hk.block pb hlt (fun h=>h)).trans h1;have cc:wc.cell? ⟨pb,14,none⟩=some (.iface 79 (.pointer (some ⟨b,0,none⟩))):=by
  rw[cell_of_row _ _ _ _ _ _ hlc];rfl
 have fc:wc.frozen? ⟨pb,14,none⟩=false:=by simp[World.frozen?,hlc]
 have HK:=ν hk;clear hk c1 hlc
 by_cases hle:Le m (Q7,rank)
 ·have ht:decide (orI (kC m.1 Q7) (kC m.2 rank)≤0)=true:=decide_eq_true ((Cq m (Q7,rank)).2 hle)
  rw[ht];have hu:upd (some m) (Q7,rank)=some m:=by simp[upd,hle]
  have hq:=h3.tell (Q7,rank);rw[hu]at hq;have HQ:=ν hq;clear hu hq
  go_wp2
  refine bodyPost_ret (results_none rfl _ _ _) rfl ?_;have hn:=(⟨hl,hb,hp,_,some m,h1,⟨b,rfl,hbp,h2⟩,HQ.out⟩:aG B w pb v P W ((Q7,rank)::L));exact⟨rfl,hn.new HK.out,HK.out.mono (fun _ _ h=>h.elim)⟩
 ·have ht:decide (orI (kC m.1 Q7) (kC m.2 rank)≤0)=false:=decide_eq_false fun h=>hle ((Cq m (Q7,rank)).1 h)
  rw[ht];have hu:upd (some m) (Q7,rank)=some (Q7,rank):=by simp[upd,hle]
  have HU:=ν hu;clear hu
  go_wp2
  go_end0
  exact⟨rfl,od (x:=(Q7,rank)) hl hb hp h1 h3 HU.out HK.out rfl⟩
theorem fX{B:Nat}{w:World}{pb:Nat}{v:ae}{P:aF}{W:Int→Int}{L:List Wr}(Q7 d g:Int)(h:aG B w pb v P W L)(x:W d=g):
 Calls Tryz.prog 73 #[.pointer (some ⟨pb,0,none⟩),.int .i64 Q7,.int .i64 d,.int .i64 g] w fun e w'=>e=.returned (.tuple #[])∧aG B w' pb v P W ((Q7,d)::L)∧aD (fun k=>k=pb) w w':=by
 subst x;obtain⟨f,o,q,j,u⟩:=h.look
 cases o with
 | none =>
  obtain rfl:f=.nilIface:=j;exact xS B w pb v P W L Q7 d h.laid h.base h.QU q u
 | some m =>
  obtain⟨b,rfl,l,j⟩:=j;exact xR B w pb b v P W L Q7 d m h.laid h.base h.QU q l j u
theorem aR{B:Nat}{w:World}{pb:Nat}{v:ae}{P:aF}{W:Int→Int}{L:List Wr}(ok:Bool)(Q7 d g:Int)(h:aG B w pb v P W L)(j:W d=g):
 Calls Tryz.prog 71 #[.pointer (some ⟨pb,0,none⟩),.bool ok,.int .i64 Q7,.int .i64 d,.int .i64 g] w fun e w'=>e=.returned (.tuple #[])∧aG B w' pb v P W (say ok Q7 d++L)∧aD (fun k=>k=pb) w w':=by
 have l:=ν j;clear j
 cases ok with
 | true =>
  go_enter Tryz.func71,Tryz.ntmps71
  go_wp2
  go_end0
  exact⟨rfl,h,aD.refl _ _⟩
 | false =>
  go_enter Tryz.func71,Tryz.ntmps71
  go_wp2_with fail
  refine(fX Q7 d g h l.out).mono ?_;rintro e w' ⟨rfl,q,u⟩
  go_wp2
  go_end0
  exact⟨rfl,q,u⟩
end
section
open Go.RowKit Go.IntWalk Ck
open Go.Maps (Keyed string_keyed)
variable {B:Nat} {S:Nat→Prop} {w w':World} {bs:List Nat} {fs:List (List Nm)} {D:Nat→DataW Value}
def dx(v:Value):Option (DataW Value×List MemPlace):=some (.held v,[])
def key(s:ByteArray):Lit := .string s.data.toList
theorem Tryz.law9:Keyed Tryz.prog 9:=string_keyed Tryz.underlying9
theorem dn{P:Program}(w:World){ops:Array Oper}{rest:List Oper}{o:Oper}{a:Act}{Q:Exit→Act→World→Prop}
 (C:o.guard=none)(m x:Operand)(t:TypeId)(l:o.op=Op.lookup t m x false)
 (k e:TypeId)(K:Keyed P k)(H:P.underlying t=some (.map k e))(z:Value)(J:(zeroValue e).run P w=.ok z w)(b n:Nat)(D:DataW Value)
 (E:a.eval m=.map (some b))(g:w.ownsMap P k dx b n D)(y:Value)(u:Lit)(I:a.eval x=y)(d:keyOf P k y=some u)
 (B:∀v:Value,D.atKey u (.held z)=.held v→wpList P ops Q rest (a.put o.dst v) w):
 wpList P ops Q (o::rest) a w:=by
 refine wpList_plain C fun K' j=>?_
 obtain⟨v,L,h,q⟩:=g.lookup K H J (zd := .held z) (zp:=[]) rfl d;unfold Oper.wp;simp[execOp,l,E,I,h,Result.andThen];refine j _ _ (B v ?_);simp only[dx,Option.some.injEq,Prod.mk.injEq]at q;exact q.1.symm
def jo(B:Nat)(w:World)(v:Value)(zs:List Int):Prop:=w.ownsRow B 3 1 v zs.length (zs.map (Value.int .i64))
def aX(f:List Nm)(s:ByteArray):List Int:=(f.filter fun x=>decide (x.1=s)).map (·.2)
theorem kf(f:List Nm)(s:ByteArray):has f s=decide (0<(aX f s).length):=by
 unfold has aX;rw[Bool.eq_iff_iff,List.any_eq_true,decide_eq_true_eq,List.length_map,List.length_pos_iff_exists_mem];simp only[List.mem_filter]
structure ci (B:Nat) (w:World) (bs:List Nat) (fs:List (List Nm)) (D:Nat→DataW Value) (r:Nat→ByteArray→Value):Prop where
 len:bs.length=fs.length
 map:∀(i b:Nat) (f:List Nm),bs[i]?=some b→fs[i]?=some f→w.ownsMap Tryz.prog 9 dx b f.length (D i) ∧
  ∀s:ByteArray,s.size≤maxLen→(D i).atKey (key s) (.held (.slice none 0 0))=.held (r i s)∧jo B w (r i s) (aX f s)∧(Go.Maps.has (D i) (key s)=has f s)
 apart:∀(i j:Nat) (s t:ByteArray) (k:Nat),i<bs.length→j<bs.length→s.size≤maxLen→t.size≤maxLen→(r i s).ownBlock=some k→(r j t).ownBlock=some k→i=j∧s=t
 nodup:∀(i j b:Nat),bs[i]?=some b→bs[j]?=some b→i=j
theorem jo.keep{v:Value}{u:List Int}(h:jo B w v u)(hk:aD S w w')(C:∀k,v.ownBlock=some k→¬ S k):jo B w' v u:=by
 unfold jo at *;refine⟨h.1,?_⟩
 rcases h.2 with d|⟨g,j,l,d,x,q,y⟩
 ·exact .inl d
 ·exact .inr ⟨g,j,l,d,x,(hk.block g (aH q) (C g (by rw[d];rfl))).trans q,y⟩
theorem jo.ty{v:Value}{l:List Int}(h:jo B w v l){k:Nat}(hk:v.ownBlock=some k):gb w k=some 3:=by
 unfold jo at h
 rcases h.2 with⟨e,_⟩|⟨g,d,j,e,_,hh,_⟩
 ·rw[e]at hk;cases hk
 ·rw[e]at hk
  simp only[Value.ownBlock,Option.some.injEq]at hk;subst hk;unfold gb;rw[hh]
theorem lC{b n:Nat}{D:DataW Value}(h:w.ownsMap Tryz.prog 9 dx b n D)(hk:aD S w w')(l:¬ S b):w'.ownsMap Tryz.prog 9 dx b n D:=by
 obtain⟨g,c,d,j⟩:=h;exact⟨g,c,(hk.block b (aH d) l).trans d,j⟩
theorem ci.keep{r:Nat→ByteArray→Value}(h:ci B w bs fs D r)(hk:aD S w w')(q:∀k,S k→k<w.heap.size→k<B∧k ∉ bs):ci B w' bs fs D r:=by
 refine⟨h.len,fun i b f u C=>?_,h.apart,h.nodup⟩;obtain⟨j,v⟩:=h.map i b f u C;refine⟨lC j hk (fun d=>(q b d j.lt).2 (γ u)),fun s d=>?_⟩;obtain⟨x,l,y⟩:=v s d;exact⟨x,l.keep hk (fun k g d=>by have:=l.lt k g;have:=(q k d this.2).1;omega),y⟩
theorem nW{s t:ByteArray}(h:key s=key t):s=t:=by
 simp only[key,Lit.string.injEq]at h;exact qp (by rw[ByteArray.toList_eq,ByteArray.toList_eq];exact h)
theorem z7(w:World):(zeroValue 221).run Tryz.prog w=.ok (.slice none 0 0) w:=δ
theorem nX{r:Nat→ByteArray→Value}(h:ci B w bs fs D r)(i b:Nat)(f:List Nm)(O:bs[i]?=some b)(R:fs[i]?=some f)(s:ByteArray)(C:s.size≤maxLen):
 Calls Tryz.prog 72 #[.map (some b),.string s] w fun e w'=>e=.returned (.bool (has f s))∧w=w':=by
 obtain⟨L,l⟩:=h.map i b f O R;obtain⟨q,v,N⟩:=l s C;have y:=kf f s;have j:=ν y;have d:=ν q;clear y l N q;have U:∃A n c,r i s=.slice A n c∧n=(aX f s).length:=by
  rcases v.2 with⟨e,K⟩|⟨g,I,J,e,_⟩
  ·exact⟨_,_,_,e,by rw[K]⟩
  ·exact⟨_,_,_,e,rfl⟩
 obtain⟨A,n,c,H,x⟩:=U;rw[H]at d;rw[←x]at j;clear v H x;have Q:0<n∨n=0:=χ
 go_enter Tryz.func72,Tryz.ntmps72
 go_wp2_with (at_lookup;refine dn _ rfl _ _ 137 rfl 9 221 Tryz.law9 Tryz.underlying137 (.slice none 0 0) (z7 _) b _ (D i) rfl L _ (key s) rfl (Go.WideMaps.keyOf_string_mk Tryz.underlying9 C) ?_;intro u E;obtain rfl:Value.slice A n c=u:=by(rw[d.out]at E;exact DataW.held.inj E))
 go_ret
 exact⟨by rw[j.out];simp,rfl⟩
theorem Tryz.info3:(Tryz.prog.info? 3).map (fun i=>(i.zero,i.size,i.bytes))=some (some (.int .i64 0),1,8):=δ
theorem oN(f:List Nm)(s t:ByteArray)(p:Int):aX (f++[(s,p)]) t=if s=t then aX f t++[p]else aX f t:=by
 unfold aX;rw[List.filter_append,List.map_append]
 by_cases h:s=t<;>simp[h]
theorem wh(f:List Nm)(s t:ByteArray)(p:Int):has (f++[(s,p)]) t=(has f t||decide (s=t)):=by
 unfold has;simp
theorem kc(s:ByteArray):WideAt.IsKeyLit (key s):=by unfold key;trivial
theorem ci.rowne{r:Nat→ByteArray→Value}(h:ci B w bs fs D r){j:Nat}{t:ByteArray}{k:Nat}(E:j<bs.length)(O:t.size≤maxLen)(d:(r j t).ownBlock=some k)(c:Nat)(N:c∈bs):k≠c:=by
 intro e;subst e;obtain⟨q,H⟩:=List.getElem?_of_mem N;have C:=(ο.1 H).1;obtain⟨g,x⟩:∃g,fs[q]?=some g:=⟨_,θ (by rw[←h.len];exact C)⟩;obtain⟨Q,cl,v,_⟩:=(h.map q k g H x).1;obtain⟨c2,u⟩:∃c,bs[j]?=some c:=⟨_,θ E⟩;obtain⟨K,y⟩:∃g,fs[j]?=some g:=⟨_,θ (by rw[←h.len];exact E)⟩;have L:=((h.map j c2 K u y).2 t O).2.1
 rcases L.2 with⟨l,_⟩|⟨R,I,J,l,_,hh,_⟩
 ·rw[l]at d;cases d
 ·rw[l]at d
  simp only[Value.ownBlock,Option.some.injEq]at d;subst d;rw[v]at hh
  cases hh
theorem Ap{X W:World}{r:Nat→ByteArray→Value}(h:ci B w bs fs D r){i b:Nat}{f:List Nm}(L:bs[i]?=some b)(hf:fs[i]?=some f)
 {s:ByteArray}(O:s.size≤maxLen){p:Int}{V:Value}(hB:B≤w.heap.size)(hk:aD (fun k=>(r i s).ownBlock=some k) w X)(U:jo B X V (aX f s++[p]))
 (K:∀k,V.ownBlock=some k→(r i s).ownBlock=some k∨w.heap.size≤k)(hm:W.ownsMap Tryz.prog 9 dx b (f.length+1) ((D i).put (key s) (.held V)))(hg:X.grownBy W (some b)):
 ci B W bs (fs.set i (f++[(s,p)])) (fun j=>if j=i then(D i).put (key s) (.held V)else D j) (fun j t=>if j=i∧t=s then V else r j t)∧aD (fun k=>k∈bs∨B≤k∧gb w k=some 3) w W:=by
 have I:i<bs.length:=(ο.1 L).1;obtain⟨m1,m3⟩:=h.map i b f L hf;have ac:b<w.heap.size:=m1.lt;have J:aD (fun k=>k=b) X W:=aD.of_grown hg (fun k e=>by cases e;rfl);have y:∀j t k,j<bs.length→t.size≤maxLen→(r j t).ownBlock=some k→B≤k∧k<w.heap.size:=fun j t k Q C hr=>by
  obtain⟨c,N⟩:∃c,bs[j]?=some c:=⟨_,θ Q⟩;obtain⟨g,E⟩:∃g,fs[j]?=some g:=⟨_,θ (by rw[←h.len];exact Q)⟩;have h5:=((h.map j c g N E).2 t C).2.1;exact⟨(h5.lt k hr).1,(h5.lt k hr).2⟩
 have l:=fun j t k=>h.rowne (j:=j) (t:=t) (k:=k)
 refine⟨⟨by rw[List.length_set];exact h.len,fun j c g N E=>?_,fun j q t u k Q Z C hu H x=>?_,h.nodup⟩,?_⟩
 ·have v:j<bs.length:=(ο.1 N).1
  by_cases hji:j=i
  ·subst hji
   rw[List.getElem?_set_self (by rw[←h.len];exact v)]at E;obtain rfl:=ι E;obtain rfl:b=c:=ι (L.symm.trans N);simp only[if_true,true_and];refine⟨by rw[List.length_append];exact hm,fun t C=>?_⟩;obtain⟨q1,q2,q3⟩:=m3 t C
   by_cases hts:t=s
   ·subst hts
    rw[if_pos rfl,oN,if_pos rfl];refine⟨Go.Maps.atKey_put_same m1.isMap (kc t) _ _,U.keep J (fun k d e=>?_),?_⟩
    ·subst e
     rcases K k d with e2|e2
     ·exact l j t k v C e2 k (γ L) rfl
     ·omega
    ·rw[Go.Maps.has_put_same m1.isMap (kc t),wh];simp
   ·have R:key t≠key s:=fun e=>hts (nW e)
    rw[if_neg hts,oN,if_neg (fun e=>hts e.symm)];refine⟨(Go.Maps.atKey_put_other R _ _).trans q1,(q2.keep hk (fun k d e=>?_)).keep J (fun k d e=>?_),?_⟩
    ·exact hts ((h.apart j j t s k v v C O d e).2)
    ·subst e
     exact l j t k v C d k (γ L) rfl
    ·rw[Go.Maps.has_put_other R,q3,wh]
     simp[show ¬ s=t from fun e=>hts e.symm]
  ·rw[List.getElem?_set_ne (fun e=>hji e.symm)]at E
   obtain⟨n1,n3⟩:=h.map j c g N E;have Y:c≠b:=fun e=>by subst e;exact hji (h.nodup j i c N L)
   simp only[hji,if_false,false_and];refine⟨lC (lC n1 hk (fun e=>l i s c I O e c (γ N) rfl)) J Y,fun t C=>?_⟩;obtain⟨q1,q2,q3⟩:=n3 t C;refine⟨q1,(q2.keep hk (fun k d e=>hji ((h.apart j i t s k v I C O d e).1))).keep J (fun k d e=>?_),q3⟩;subst e;exact l j t k v C d k (γ L) rfl
 ·by_cases h1:j=i∧t=s
  ·rw[if_pos h1]at H
   by_cases h2:q=i∧u=s
   ·exact⟨h1.1.trans h2.1.symm,h1.2.trans h2.2.symm⟩
   ·rw[if_neg h2]at x
    exfalso
    rcases K k H with e|e
    ·have:=h.apart q i u s k Z I hu O x e
     exact h2 this
    ·have:=(y q u k Z hu x).2
     omega
  ·rw[if_neg h1]at H
   by_cases h2:q=i∧u=s
   ·rw[if_pos h2]at x
    exfalso
    rcases K k x with e|e
    ·have:=h.apart j i t s k Q I C O H e
     exact h1 this
    ·have:=(y j t k Q C H).2
     omega
   ·rw[if_neg h2]at x
    exact h.apart j q t u k Q Z C hu H x
 ·exact(hk.mono (T:=fun k=>k∈bs∨B≤k∧gb w k=some 3) (fun k _ e =>.inr ⟨(y i s k I O e).1,((m3 s O).2.1).ty e⟩)).trans J (fun k _ e =>.inl (by subst e;exact γ L))
theorem dm{r:Nat→ByteArray→Value}(h:ci B w bs fs D r)(i b:Nat)(f:List Nm)(E:bs[i]?=some b)(X:fs[i]?=some f)(s:ByteArray)(y:s.size≤maxLen)(p:Int)
 (hB:B≤w.heap.size)(hl:f.length≤16777216):
 Calls Tryz.prog 121 #[.map (some b),.string s,.int .i64 p] w fun e w'=>e=.returned (.tuple #[])∧aD (fun k=>k∈bs∨B≤k∧gb w k=some 3) w w'∧∃D' r',ci B w' bs (fs.set i (f++[(s,p)])) D' r':=by
 obtain⟨Q,R⟩:=h.map i b f E X;obtain⟨U,W,h6⟩:=R s y;have ac:(aX f s).length≤f.length:=by
  unfold aX;rw[List.length_map];exact List.length_filter_le _ _
 have N:=ν U;obtain⟨i0,hi,J,K,L⟩:=info_parts Tryz.info3;obtain⟨V,C⟩:∃V,V=r i s:=⟨_,rfl⟩;rw[←C]at N W;have HN:Hid (∀k,V.ownBlock=some k→k≠b):=fun k hk=>h.rowne (ο.1 E).1 y (by rw[←C];exact hk) b (γ E)
 have O:=ν C;clear R h6 U C
 go_enter Tryz.func121,Tryz.ntmps121
 go_wp2_with (first
  | (at_lookup;refine dn _ rfl _ _ 137 rfl 9 221 Tryz.law9 Tryz.underlying137 (.slice none 0 0) (z7 _) b _ (D i) rfl Q _ (key s) rfl (Go.WideMaps.keyOf_string_mk Tryz.underlying9 y) ?_;intro u Z;obtain rfl:V=u:=by(rw[N.out]at Z;exact DataW.held.inj Z))
  | (at_builtin;refine wpList_append_lies _ rfl _ _ 221 rfl B 3 i0 (.int .i64 0) 1 8 Tryz.underlying221 hi J K L rfl χ V (aX f s).length ((aX f s).map (Value.int .i64)) rfl (World.ownsRow.alloc W _) ⟨w.heap.size,0,none⟩ 1 1 [.int .i64 p] rfl rfl (cell_one_new _ _ _) (by simp[Value.oneCell']) χ (by unfold maxLen;omega) χ η (w.heap.size+1) ξ ?_;intro g H w1 q d I Y;have x:=(Q.alloc (Obj.cells #[Value.int IntKind.i64 p] 3)).kept d (fun e=>HN.out b e.symm rfl))
  | (at_mapUpdate;refine wpList_mapUpdate_own _ rfl _ _ _ 137 rfl 9 221 Tryz.law9 Tryz.underlying137 dx b _ (D i) rfl x (by unfold maxLen;omega) _ _ (key s) rfl rfl (Go.WideMaps.keyOf_string_mk Tryz.underlying9 y) _ [] rfl ?_;intro w2 v j))
 go_end0
 have hk:aD (fun k=>(r i s).ownBlock=some k) w w1:=by
  rw[←O.out];exact((aD.refl _ w).alloc _).trans (aD.of_grown d (S:=fun k=>V.ownBlock=some k) (fun k e=>e)) (fun _ _ e=>e)
 have l:jo B w1 (.slice (some ⟨g,0,none⟩) ((aX f s).length+1) H) (aX f s++[p]):=by
  unfold jo;rw[List.length_append,List.map_append];exact q
 obtain⟨a1,a2⟩:=Ap h E X y hB hk l (fun k e=>by
  rw[←O.out];simp only[Value.ownBlock,Option.some.injEq]at e;subst e
  rcases I with e|e
  ·exact .inl e
  ·exact .inr χ) v j
 exact⟨rfl,a2,_,_,a1⟩
end
section
open Go.RowKit Go.IntWalk Ck
variable {w wr:World} {z B:Nat} {fs:List (List Nm)}
theorem aL.c0{b o:Nat}{v:Value}{vs:List Value}(h:aL w b o (v::vs)):w.cell? ⟨b,o,none⟩=some v:=h 0 v rfl
theorem ap(w:World)(cs:List Value)(t:TypeId):aL (w.alloc (.cells cs.toArray t)) w.heap.size 0 cs:=fun j v d=>by
 rw[Nat.zero_add,World.cell?_alloc_at _ _ _ _ rfl]
 simpa using d
def dW(z:Nat):Array Value := #[.map (some (z+1)),.map (some (z+2)),.map (some (z+3)),.map (some (z+4)),.map (some (z+5)),.map (some (z+6)),.map (some (z+7)),.map (some (z+8))]
def bB(z:Nat):List Nat:=[z+1,z+2,z+3,z+4,z+5,z+6,z+7,z+8]
structure KSt (w wr:World) (z:Nat) (fs:List (List Nm)):Prop where
 Qd:∃D r,ci (z+10) wr (bB z) fs D r
 k:wr.heap[z+9]?=some (.cells (dW z) 139 (0,0))
 o:wr.heap[z]?=some (.cells #[.map none,.map none,.map none,.map none,.map none,.map none,.map none,.map none] 139 (0,0))
 keep:Kz w wr
 z:z=w.heap.size
theorem eU{k:Nat}(h:k∈bB z):z+1≤k∧k≤z+8:=by
 simp only[bB,List.mem_cons,List.mem_nil_iff,or_false]at h;omega
theorem KSt.size(h:KSt w wr z fs):z+10≤wr.heap.size:=by
 have:=aH h.k;omega
theorem KSt.alloc(h:KSt w wr z fs)(o:Obj):KSt w (wr.alloc o) z fs:=by
 have hk:Kz wr (wr.alloc o):=(aD.refl _ _).alloc _;obtain⟨D,r,d⟩:=h.Qd;exact⟨⟨D,r,d.keep hk (fun _ h=>h.elim)⟩,(hk.block _ (aH h.k) (fun h=>h)).trans h.k,(hk.block _ (aH h.o) (fun h=>h)).trans h.o,h.keep.alloc _,h.z⟩
theorem KSt.add{w':World}{d:List (List Nm)}(h:KSt w wr z fs)(hk:aD (fun k=>k∈bB z∨z+10≤k∧gb wr k=some 3) wr w')(g:∃D r,ci (z+10) w' (bB z) d D r):KSt w w' z d:=
 ⟨g,(hk.block _ (aH h.k) (fun e=>by rcases e with e|e;(have:=eU e;omega);omega)).trans h.k,(hk.block _ (aH h.o) (fun e=>by rcases e with e|e;(have:=eU e;omega);omega)).trans h.o,
  h.keep.trans hk (fun i hi e=>by have:=h.z;rcases e with e|e;(have:=eU e;omega);omega),h.z⟩
theorem KSt.cell(h:KSt w wr z fs):aL wr (z+9) 0 (dW z).toList:=fun j v d=>by
 rw[Nat.zero_add,cell_of_row _ _ _ _ _ _ h.k]
 simpa using d
theorem aO{α:Type}{l:List α}{k:Nat}{x:α}(h:l[k]?=some x):l.take (k+1)=l.take k++[x]:=by
 obtain⟨d,rfl⟩:=ο.1 h;rw[List.take_succ_eq_append_getElem d]
def d6(P:aF):List (List Nm):=[P.things,P.QR,P.regs,P.QP,P.chans,P.irqn,P.ques,P.plns]
theorem yJ(w:World)(z:Nat)(D:z+10=w.heap.size)(h:∀i,i<8→w.heap[z+1+i]?=some (.map #[] 0)):
 ci (z+10) w (bB z) [[],[],[],[],[],[],[],[]] (fun _ =>.map []) (fun _ _ =>.slice none 0 0):=by
 refine⟨rfl,fun i b f v C=>?_,fun i j s t k hi q _ _ x _=>by simp[Value.ownBlock]at x,fun i j b hi q=>?_⟩
 ·have d:i<8:=(ο.1 v).1
  have l:f=[]:=by
   match i,d,C with
   | 0,_,h|1,_,h|2,_,h|3,_,h|4,_,h|5,_,h|6,_,h|7,_,h=>exact(ι h).symm
  have g:b=z+1+i:=by
   match i,d,v with
   | 0,_,h|1,_,h|2,_,h|3,_,h|4,_,h|5,_,h|6,_,h|7,_,h=>simp only[bB]at h;have:=(ι h).symm;omega
  subst l g;exact⟨⟨#[],0,h i d,⟨ξ,Go.MapKept.stamped_empty 0,ξ⟩,Γ _,rfl⟩,fun s _=>⟨rfl,World.ownsRow_nil _ _ _ _,rfl⟩⟩
 ·have d:i<8:=(ο.1 hi).1
  have u:j<8:=(ο.1 q).1;have y:b=z+1+i:=by
   match i,d,hi with
   | 0,_,h|1,_,h|2,_,h|3,_,h|4,_,h|5,_,h|6,_,h|7,_,h=>simp only[bB]at h;have:=(ι h).symm;omega
  have B:b=z+1+j:=by
   match j,u,q with
   | 0,_,h|1,_,h|2,_,h|3,_,h|4,_,h|5,_,h|6,_,h|7,_,h=>simp only[bB]at h;have:=(ι h).symm;omega
  omega
theorem AZ(w:World):KSt w ((((((((((w.alloc (.cells #[.map none,.map none,.map none,.map none,.map none,.map none,.map none,.map none] 139)).alloc (.map #[] 0)).alloc (.map #[] 0)).alloc (.map #[] 0)).alloc (.map #[] 0)).alloc (.map #[] 0)).alloc (.map #[] 0)).alloc (.map #[] 0)).alloc (.map #[] 0)).alloc (.cells (dW w.heap.size) 139)) w.heap.size [[],[],[],[],[],[],[],[]]:=by
 have e:∀(u:World) (o:Obj) (k:Nat),k<u.heap.size→(u.alloc o).heap[k]?=u.heap[k]?:=fun u o k hk=>Below.heap_alloc u o k hk
 have n:∀(u:World) (o:Obj) (k:Nat),k=u.heap.size→(u.alloc o).heap[k]?=some o:=fun u o k hk=>by subst hk;exact heap_alloc_new _ _
 refine⟨⟨_,_,yJ _ _ ξ fun i hi=>?_⟩,?_,?_,?_,rfl⟩
 ·rw[e _ _ _ η]
  match i,hi with
  | 7,_=>exact n _ _ _ ξ
  | 6,_=>rw[e _ _ _ ξ];exact n _ _ _ ξ
  | 5,_=>rw[e _ _ _ ξ,e _ _ _ ξ];exact n _ _ _ ξ
  | 4,_=>rw[e _ _ _ ξ,e _ _ _ ξ,e _ _ _ ξ];exact n _ _ _ ξ
  | 3,_=>rw[e _ _ _ ξ,e _ _ _ ξ,e _ _ _ ξ,e _ _ _ ξ];exact n _ _ _ ξ
  | 2,_=>rw[e _ _ _ ξ,e _ _ _ ξ,e _ _ _ ξ,e _ _ _ ξ,e _ _ _ ξ];exact n _ _ _ ξ
  | 1,_=>rw[e _ _ _ ξ,e _ _ _ ξ,e _ _ _ ξ,e _ _ _ ξ,e _ _ _ ξ,e _ _ _ ξ];exact n _ _ _ ξ
  | 0,_=>rw[e _ _ _ ξ,e _ _ _ ξ,e _ _ _ ξ,e _ _ _ ξ,e _ _ _ ξ,e _ _ _ ξ,e _ _ _ ξ];exact n _ _ _ ξ
 ·exact n _ _ _ ξ
 ·rw[e _ _ _ η,e _ _ _ η,e _ _ _ η,e _ _ _ η,e _ _ _ η,e _ _ _ η,e _ _ _ η,e _ _ _ η,e _ _ _ ξ]
  exact n _ _ _ rfl
 ·exact(((((((((aD.refl _ w).alloc _).alloc _).alloc _).alloc _).alloc _).alloc _).alloc _).alloc _).alloc _ |>.alloc _
theorem yP{pb:Nat}{v:ae}{P:aF}{W:Int→Int}{L:List Wr}(h:aG B w pb v P W L):
 Calls Tryz.prog 68 #[.pointer (some ⟨pb,0,none⟩)] w fun e w'=>e=.returned (.agg (dW w.heap.size))∧Kz w w'∧∃D r,ci (w.heap.size+10) w' (bB w.heap.size) (d6 P) D r:=by
 have hmm:=@run_makeMap Tryz.prog;obtain⟨z,hz⟩:∃z,z=w.heap.size:=⟨_,rfl⟩;have HZ:=ν hz;clear hz
 go_enter Tryz.func68,Tryz.ntmps68
 go_upto_region 1 with fail
 go_cut [3] from 3 to 26 (fun k wx=>k=.pointer (some ⟨z+9,0,none⟩)∧KSt w wx z [[],[],[],[],[],[],[],[]])
 case first =>
  go_wp2
  go_meet
  have hz:=HZ.out;subst hz;exact⟨rfl,AZ w⟩
 case rest =>
 obtain⟨rfl,hS⟩:=hcut;obtain⟨w1,hw1⟩:∃w1:World,w1=wc:=⟨_,rfl⟩;rw[←hw1]at hS⊢;clear hw1;have HL0:=(h.new hS.keep);have hp0:w1.cell? ⟨pb,3,none⟩=some v.Q5:=HL0.cell rfl;obtain⟨A0,c0,hv0,_,hn0,hl0⟩:=h.QU.Q5;rw[hv0]at hp0;have HS0:=ν hS;clear hS HL0 hv0;unfold top at hn0
 go_wp2
 clear hp0
 go_loopw [33] (fun i wr=>∃n:Nat,n≤P.Q5.length∧i=.int .i64 n∧KSt w wr z [((P.Q5.take n).map fun x=>(x.name,x.pos)),((P.Q5.take n).map fun x=>(x.name,x.pos)),[],[],[],[],[],[]]) (fun i _=>P.Q5.length-(intOf i).toNat)
 case atStart=>exact⟨0,Nat.zero_le _,rfl,by simpa using HS0.out⟩
 case round =>
 obtain⟨n,hn,rfl,hS⟩:=hrel
 by_cases hlt:n<P.Q5.length
 ·obtain⟨b,off,rfl,hbl,hcs⟩:=hl0 χ
  obtain⟨x,hx⟩:∃x,P.Q5[n]?=some x:=⟨_,θ hlt⟩;have hwr:=(hcs n x hx);have hr:=eH B _ _ _ _ _ (hS.keep.below (B:=B) (by have:=h.base;have:=h.lt;omega) (fun _ _ h=>h)) hbl hwr;obtain⟨u1,hc,⟨Am,cm,rfl,_,_⟩,_,_,_,hsn⟩:=hr;have q0:=hc.c0;have q1:=hc 1 _ rfl;have q2:=hc 2 _ rfl;have q3:=hc 3 _ rfl;have q4:=hc 4 _ rfl;have hblr:b<wr.heap.size:=by have:=hS.keep.size;have:=h.base;have:=h.lt;omega
  have hsz:=hS.size;have hz9:z+9<wr.heap.size:=χ
  have hm:=hS.cell;have m0:wr.cell? ⟨z+9,0,none⟩=some (.map (some (z+1))):=by simpa using hm 0 _ rfl
  have m1:wr.cell? ⟨z+9,1,none⟩=some (.map (some (z+2))):=by simpa using hm 1 _ rfl
  have hsm:x.name.size≤maxLen:=by unfold aV at hsn;unfold maxLen;omega
  have HX:=ν hx;have HS:=ν hS;clear hx hS hcs hc hwr hm hsn
  go_wp2_with fail
  have hS1:=HS.out.alloc (.cells #[.int .i64 x.pos,.string x.name,.int .u64 x.Q7,.int .u64 x.size,.slice Am x.QA.length cm] 65);have hx1:(wr.alloc (.cells #[.int .i64 x.pos,.string x.name,.int .u64 x.Q7,.int .u64 x.size,.slice Am x.QA.length cm] 65)).heap[wr.heap.size]?=_:=heap_alloc_new _ _;obtain⟨D0,r0,hf0⟩:=hS1.Qd;have hz1:=hS1.size;refine(dm hf0 0 (z+1) _ rfl rfl x.name hsm x.pos χ η).mono ?_;rintro e w3' ⟨rfl,hk0,hf0'⟩;have hS2:=hS1.add hk0 hf0';have hm2:=hS2.cell;have m1':w3'.cell? ⟨z+9,1,none⟩=some (.map (some (z+2))):=by simpa using hm2 1 _ rfl
  have hx2:w3'.heap[wr.heap.size]?=_:=(hk0.block _ (aH hx1) (fun e=>by rcases e with e|e;(have:=eU e;omega);(have:=e.2;unfold gb at this;rw[hx1]at this;cases this))).trans hx1;have y0:w3'.cell? ⟨wr.heap.size,0,none⟩=_:=(cell_of_row _ _ _ _ _ _ hx2).trans rfl;have y1:w3'.cell? ⟨wr.heap.size,1,none⟩=_:=(cell_of_row _ _ _ _ _ _ hx2).trans rfl;clear hm2 hx2 hx1;have HS2:=ν hS2
  go_wp2_with fail
  have hS2:=HS2.out;obtain⟨D1,r1,hf1⟩:=hS2.Qd;have hz2:=hS2.size;refine(dm hf1 1 (z+2) _ rfl rfl x.name hsm x.pos χ η).mono ?_;rintro e w4' ⟨rfl,hk1,hf1'⟩;have hS3:=hS2.add hk1 hf1';have HE:=ν hS3;clear hS3
  go_wp2
  go_roundw
  case rel=>exact⟨n+1,χ,by go_num,by have:=HE.out;simpa[aO HX.out]using this⟩
  case measure=>simp[intOf];omega
 obtain rfl:n=P.Q5.length:=χ
 clear hlt hn;rw[List.take_length]at hS;have hS1':KSt w wr z [P.QR,P.QR,[],[],[],[],[],[]]:=hS;clear hS;obtain⟨w2,hw2⟩:∃u:World,u=wr:=⟨_,rfl⟩;rw[←hw2]at hS1' ⊢;clear hw2 wr HS0 hl0;have hS:=hS1';clear hS1';have HL1:=(h.new hS.keep);have hp1:w2.cell? ⟨pb,4,none⟩=some v.Q3:=HL1.cell rfl;obtain⟨A1,c1,hv1,_,hn1,hl1⟩:=h.QU.Q3;rw[hv1]at hp1;have HS1:=ν hS;clear hS HL1 hv1;unfold top at hn1
 go_wp2
 clear hp1
 go_loopw [58] (fun i wr=>∃n:Nat,n≤P.Q3.length∧i=.int .i64 n∧KSt w wr z [P.QR++((P.Q3.take n).map fun x=>(x.name,x.pos)),P.QR,((P.Q3.take n).map fun x=>(x.name,x.pos)),[],[],[],[],[]]) (fun i _=>P.Q3.length-(intOf i).toNat)
 case atStart=>exact⟨0,Nat.zero_le _,rfl,by simpa using HS1.out⟩
 case round =>
 obtain⟨n,hn,rfl,hS⟩:=hrel
 by_cases hlt:n<P.Q3.length
 ·obtain⟨b,off,rfl,hbl,hcs⟩:=hl1 χ
  obtain⟨x,hx⟩:∃x,P.Q3[n]?=some x:=⟨_,θ hlt⟩;have hwr:=(hcs n x hx);have hr:=(aI B _ _) _ _ _ _ _ (hS.keep.below (B:=B) (by have:=h.base;have:=h.lt;omega) (fun _ _ h=>h)) hbl hwr;obtain⟨hc,hok⟩:=hr;obtain⟨_,_,_,_,hsn,_⟩:=hok;have q0:=hc.c0;have q1:=hc 1 _ rfl;have q2:=hc 2 _ rfl;have q3:=hc 3 _ rfl;have q4:=hc 4 _ rfl;have q5:=hc 5 _ rfl;have q6:=hc 6 _ rfl;have q7:=hc 7 _ rfl;have q8:=hc 8 _ rfl;have q9:=hc 9 _ rfl;have hblr:b<wr.heap.size:=by have:=hS.keep.size;have:=h.base;have:=h.lt;omega
  have hsz:=hS.size;have hz9:z+9<wr.heap.size:=χ
  have hm:=hS.cell;have m0:wr.cell? ⟨z+9,0,none⟩=some (.map (some (z+1))):=by simpa using hm 0 _ rfl
  have m2:wr.cell? ⟨z+9,2,none⟩=some (.map (some (z+3))):=by simpa using hm 2 _ rfl
  have hsm:x.name.size≤maxLen:=by unfold aV at hsn;unfold maxLen;omega
  have HX:=ν hx;have HS:=ν hS;clear hx hS hcs hc hwr hm hsn
  go_wp2_with fail
  have hS1:=HS.out.alloc (.cells #[.int .i64 x.pos,.string x.name,.int .u64 x.size,.bool x.fixed,.int .u64 x.Q7,.bool x.big,.bool x.wx,.int .u64 x.fill,.bool x.QQ,.string x.text] 53);have hx1:(wr.alloc (.cells #[.int .i64 x.pos,.string x.name,.int .u64 x.size,.bool x.fixed,.int .u64 x.Q7,.bool x.big,.bool x.wx,.int .u64 x.fill,.bool x.QQ,.string x.text] 53)).heap[wr.heap.size]?=_:=heap_alloc_new _ _;obtain⟨D0,r0,hf0⟩:=hS1.Qd;have hz1:=hS1.size;refine(dm hf0 0 (z+1) _ rfl rfl x.name hsm x.pos χ (by simp[aF.QR];omega)).mono ?_;rintro e w3' ⟨rfl,hk0,hf0'⟩;have hS2:=hS1.add hk0 hf0';have hm2:=hS2.cell;have m2':w3'.cell? ⟨z+9,2,none⟩=some (.map (some (z+3))):=by simpa using hm2 2 _ rfl
  have hx2:w3'.heap[wr.heap.size]?=_:=(hk0.block _ (aH hx1) (fun e=>by rcases e with e|e;(have:=eU e;omega);(have:=e.2;unfold gb at this;rw[hx1]at this;cases this))).trans hx1;have y0:w3'.cell? ⟨wr.heap.size,0,none⟩=_:=(cell_of_row _ _ _ _ _ _ hx2).trans rfl;have y1:w3'.cell? ⟨wr.heap.size,1,none⟩=_:=(cell_of_row _ _ _ _ _ _ hx2).trans rfl;clear hm2 hx2 hx1;have HS2:=ν hS2
  go_wp2_with fail
  have hS2:=HS2.out;obtain⟨D1,r1,hf1⟩:=hS2.Qd;have hz2:=hS2.size;refine(dm hf1 2 (z+3) _ rfl rfl x.name hsm x.pos χ η).mono ?_;rintro e w4' ⟨rfl,hk1,hf1'⟩;have hS3:=hS2.add hk1 hf1';have HE:=ν hS3;clear hS3
  go_wp2
  go_roundw
  case rel=>exact⟨n+1,χ,by go_num,by have:=HE.out;simpa[aO HX.out]using this⟩
  case measure=>simp[intOf];omega
 obtain rfl:n=P.Q3.length:=χ
 clear hlt hn;rw[List.take_length]at hS;have hS2':KSt w wr z [P.QR++P.regs,P.QR,P.regs,[],[],[],[],[]]:=hS;clear hS;obtain⟨w3,hw3⟩:∃u:World,u=wr:=⟨_,rfl⟩;rw[←hw3]at hS2' ⊢;clear hw3 wr HS1 hl1;have hS:=hS2';clear hS2';have HL2:=(h.new hS.keep);have hp2:w3.cell? ⟨pb,5,none⟩=some v.Q4:=HL2.cell rfl;obtain⟨A2,c2,hv2,_,hn2,hl2⟩:=h.QU.Q4;rw[hv2]at hp2;have HS2:=ν hS;clear hS HL2 hv2;unfold top at hn2
 go_wp2
 clear hp2
 go_loopw [83] (fun i wr=>∃n:Nat,n≤P.Q4.length∧i=.int .i64 n∧KSt w wr z [P.QR++P.regs,P.QR,P.regs,((P.Q4.take n).map fun x=>(x.name,x.pos)),[],[],[],[]]) (fun i _=>P.Q4.length-(intOf i).toNat)
 case atStart=>exact⟨0,Nat.zero_le _,rfl,by simpa using HS2.out⟩
 case round =>
 obtain⟨n,hn,rfl,hS⟩:=hrel
 by_cases hlt:n<P.Q4.length
 ·obtain⟨b,off,rfl,hbl,hcs⟩:=hl2 χ
  obtain⟨x,hx⟩:∃x,P.Q4[n]?=some x:=⟨_,θ hlt⟩;have hwr:=(hcs n x hx);have hr:=dD B _ _ _ _ _ (hS.keep.below (B:=B) (by have:=h.base;have:=h.lt;omega) (fun _ _ h=>h)) hbl hwr;obtain⟨u1,u2,hc,⟨Am,cm,rfl,_,_⟩,⟨Am2,cm2,rfl,_,_⟩,_,_,hsn⟩:=hr;have q0:=hc.c0;have q1:=hc 1 _ rfl;have q2:=hc 2 _ rfl;have q3:=hc 3 _ rfl;have q4:=hc 4 _ rfl;have q5:=hc 5 _ rfl;have hblr:b<wr.heap.size:=by have:=hS.keep.size;have:=h.base;have:=h.lt;omega
  have hsz:=hS.size;have hz9:z+9<wr.heap.size:=χ
  have hm:=hS.cell;have m3:wr.cell? ⟨z+9,3,none⟩=some (.map (some (z+4))):=by simpa using hm 3 _ rfl
  have hsm:x.name.size≤maxLen:=by unfold aV at hsn;unfold maxLen;omega
  have HX:=ν hx;have HS:=ν hS;clear hx hS hcs hc hwr hm hsn
  go_wp2_with fail
  have hS1:=HS.out.alloc (.cells #[.int .i64 x.pos,.string x.name,.int .u64 x.QN,.bool x.stopped,.slice Am x.QA.length cm,.slice Am2 x.QO.length cm2] 45);obtain⟨D0,r0,hf0⟩:=hS1.Qd;have hz1:=hS1.size;refine(dm hf0 3 (z+4) _ rfl rfl x.name hsm x.pos χ η).mono ?_;rintro e w3' ⟨rfl,hk0,hf0'⟩;have hS2:=hS1.add hk0 hf0';have HE:=ν hS2;clear hS2
  go_wp2
  go_roundw
  case rel=>exact⟨n+1,χ,by go_num,by have:=HE.out;simpa[aO HX.out]using this⟩
  case measure=>simp[intOf];omega
 obtain rfl:n=P.Q4.length:=χ
 clear hlt hn;rw[List.take_length]at hS;have hS3':KSt w wr z [P.QR++P.regs,P.QR,P.regs,P.QP,[],[],[],[]]:=hS;clear hS;obtain⟨w4,hw4⟩:∃u:World,u=wr:=⟨_,rfl⟩;rw[←hw4]at hS3' ⊢;clear hw4 wr HS2 hl2;have hS:=hS3';clear hS3';have HL3:=(h.new hS.keep);have hp3:w4.cell? ⟨pb,6,none⟩=some v.Q8:=HL3.cell rfl;obtain⟨A3,c3,hv3,_,hn3,hl3⟩:=h.QU.Q8;rw[hv3]at hp3;have HS3:=ν hS;clear hS HL3 hv3;unfold top at hn3
 go_wp2
 clear hp3
 go_loopw [101] (fun i wr=>∃n:Nat,n≤P.Q8.length∧i=.int .i64 n∧KSt w wr z [P.QR++P.regs,P.QR,P.regs,P.QP,((P.Q8.take n).map fun x=>(x.name,x.pos)),[],[],[]]) (fun i _=>P.Q8.length-(intOf i).toNat)
 case atStart=>exact⟨0,Nat.zero_le _,rfl,by simpa using HS3.out⟩
 case round =>
 obtain⟨n,hn,rfl,hS⟩:=hrel
 by_cases hlt:n<P.Q8.length
 ·obtain⟨b,off,rfl,hbl,hcs⟩:=hl3 χ
  obtain⟨x,hx⟩:∃x,P.Q8[n]?=some x:=⟨_,θ hlt⟩;have hwr:=(hcs n x hx);have hr:=(aI B _ _) _ _ _ _ _ (hS.keep.below (B:=B) (by have:=h.base;have:=h.lt;omega) (fun _ _ h=>h)) hbl hwr;obtain⟨hc,hok⟩:=hr;obtain⟨_,_,_,hsn,_⟩:=hok;have q0:=hc.c0;have q1:=hc 1 _ rfl;have q2:=hc 2 _ rfl;have q3:=hc 3 _ rfl;have q4:=hc 4 _ rfl;have q5:=hc 5 _ rfl;have q6:=hc 6 _ rfl;have q7:=hc 7 _ rfl;have hblr:b<wr.heap.size:=by have:=hS.keep.size;have:=h.base;have:=h.lt;omega
  have hsz:=hS.size;have hz9:z+9<wr.heap.size:=χ
  have hm:=hS.cell;have m4:wr.cell? ⟨z+9,4,none⟩=some (.map (some (z+5))):=by simpa using hm 4 _ rfl
  have hsm:x.name.size≤maxLen:=by unfold aV at hsn;unfold maxLen;omega
  have HX:=ν hx;have HS:=ν hS;clear hx hS hcs hc hwr hm hsn
  go_wp2_with fail
  have hS1:=HS.out.alloc (.cells #[.int .i64 x.pos,.string x.name,.string x.QF,.string x.to,.bool x.shared,.string x.over,.int .i64 x.how,.int .u64 x.QK] 97);obtain⟨D0,r0,hf0⟩:=hS1.Qd;have hz1:=hS1.size;refine(dm hf0 4 (z+5) _ rfl rfl x.name hsm x.pos χ η).mono ?_;rintro e w3' ⟨rfl,hk0,hf0'⟩;have hS2:=hS1.add hk0 hf0';have HE:=ν hS2;clear hS2
  go_wp2
  go_roundw
  case rel=>exact⟨n+1,χ,by go_num,by have:=HE.out;simpa[aO HX.out]using this⟩
  case measure=>simp[intOf];omega
 obtain rfl:n=P.Q8.length:=χ
 clear hlt hn;rw[List.take_length]at hS;have hS4':KSt w wr z [P.QR++P.regs,P.QR,P.regs,P.QP,P.chans,[],[],[]]:=hS;clear hS;obtain⟨w5,hw5⟩:∃u:World,u=wr:=⟨_,rfl⟩;rw[←hw5]at hS4' ⊢;clear hw5 wr HS3 hl3;have hS:=hS4';clear hS4';have HL4:=(h.new hS.keep);have hp4:w5.cell? ⟨pb,7,none⟩=some v.QM:=HL4.cell rfl;obtain⟨A4,c4,hv4,_,hn4,hl4⟩:=h.QU.QM;rw[hv4]at hp4;have HS4:=ν hS;clear hS HL4 hv4;unfold top at hn4
 go_wp2
 clear hp4
 go_loopw [119] (fun i wr=>∃n:Nat,n≤P.QM.length∧i=.int .i64 n∧KSt w wr z [P.QR++P.regs,P.QR,P.regs,P.QP,P.chans,((P.QM.take n).map fun x=>(x.name,x.pos)),[],[]]) (fun i _=>P.QM.length-(intOf i).toNat)
 case atStart=>exact⟨0,Nat.zero_le _,rfl,by simpa using HS4.out⟩
 case round =>
 obtain⟨n,hn,rfl,hS⟩:=hrel
 by_cases hlt:n<P.QM.length
 ·obtain⟨b,off,rfl,hbl,hcs⟩:=hl4 χ
  obtain⟨x,hx⟩:∃x,P.QM[n]?=some x:=⟨_,θ hlt⟩;have hwr:=(hcs n x hx);have hr:=(aI B _ _) _ _ _ _ _ (hS.keep.below (B:=B) (by have:=h.base;have:=h.lt;omega) (fun _ _ h=>h)) hbl hwr;obtain⟨hc,hok⟩:=hr;obtain⟨_,_,hsn,_⟩:=hok;have q0:=hc.c0;have q1:=hc 1 _ rfl;have q2:=hc 2 _ rfl;have q3:=hc 3 _ rfl;have q4:=hc 4 _ rfl;have q5:=hc 5 _ rfl;have hblr:b<wr.heap.size:=by have:=hS.keep.size;have:=h.base;have:=h.lt;omega
  have hsz:=hS.size;have hz9:z+9<wr.heap.size:=χ
  have hm:=hS.cell;have m5:wr.cell? ⟨z+9,5,none⟩=some (.map (some (z+6))):=by simpa using hm 5 _ rfl
  have hsm:x.name.size≤maxLen:=by unfold aV at hsn;unfold maxLen;omega
  have HX:=ν hx;have HS:=ν hS;clear hx hS hcs hc hwr hm hsn
  go_wp2_with fail
  have hS1:=HS.out.alloc (.cells #[.int .i64 x.pos,.string x.name,.string x.QF,.string x.to,.int .u64 x.QK,.bool x.masked] 87);obtain⟨D0,r0,hf0⟩:=hS1.Qd;have hz1:=hS1.size;refine(dm hf0 5 (z+6) _ rfl rfl x.name hsm x.pos χ η).mono ?_;rintro e w3' ⟨rfl,hk0,hf0'⟩;have hS2:=hS1.add hk0 hf0';have HE:=ν hS2;clear hS2
  go_wp2
  go_roundw
  case rel=>exact⟨n+1,χ,by go_num,by have:=HE.out;simpa[aO HX.out]using this⟩
  case measure=>simp[intOf];omega
 obtain rfl:n=P.QM.length:=χ
 clear hlt hn;rw[List.take_length]at hS;have hS5':KSt w wr z [P.QR++P.regs,P.QR,P.regs,P.QP,P.chans,P.irqn,[],[]]:=hS;clear hS;obtain⟨w6,hw6⟩:∃u:World,u=wr:=⟨_,rfl⟩;rw[←hw6]at hS5' ⊢;clear hw6 wr HS4 hl4;have hS:=hS5';clear hS5';have HL5:=(h.new hS.keep);have hp5:w6.cell? ⟨pb,8,none⟩=some v.QB:=HL5.cell rfl;obtain⟨A5,c5,hv5,_,hn5,hl5⟩:=h.QU.QB;rw[hv5]at hp5;have HS5:=ν hS;clear hS HL5 hv5;unfold top at hn5
 go_wp2
 clear hp5
 go_loopw [137] (fun i wr=>∃n:Nat,n≤P.QB.length∧i=.int .i64 n∧KSt w wr z [P.QR++P.regs,P.QR,P.regs,P.QP,P.chans,P.irqn,((P.QB.take n).map fun x=>(x.name,x.pos)),[]]) (fun i _=>P.QB.length-(intOf i).toNat)
 case atStart=>exact⟨0,Nat.zero_le _,rfl,by simpa using HS5.out⟩
 case round =>
 obtain⟨n,hn,rfl,hS⟩:=hrel
 by_cases hlt:n<P.QB.length
 ·obtain⟨b,off,rfl,hbl,hcs⟩:=hl5 χ
  obtain⟨x,hx⟩:∃x,P.QB[n]?=some x:=⟨_,θ hlt⟩;have hwr:=(hcs n x hx);have hr:=(aI B _ _) _ _ _ _ _ (hS.keep.below (B:=B) (by have:=h.base;have:=h.lt;omega) (fun _ _ h=>h)) hbl hwr;obtain⟨hc,hok⟩:=hr;obtain⟨_,_,_,hsn,_⟩:=hok;have q0:=hc.c0;have q1:=hc 1 _ rfl;have q2:=hc 2 _ rfl;have q3:=hc 3 _ rfl;have q4:=hc 4 _ rfl;have q5:=hc 5 _ rfl;have hblr:b<wr.heap.size:=by have:=hS.keep.size;have:=h.base;have:=h.lt;omega
  have hsz:=hS.size;have hz9:z+9<wr.heap.size:=χ
  have hm:=hS.cell;have m6:wr.cell? ⟨z+9,6,none⟩=some (.map (some (z+7))):=by simpa using hm 6 _ rfl
  have hsm:x.name.size≤maxLen:=by unfold aV at hsn;unfold maxLen;omega
  have HX:=ν hx;have HS:=ν hS;clear hx hS hcs hc hwr hm hsn
  go_wp2_with fail
  have hS1:=HS.out.alloc (.cells #[.int .i64 x.pos,.string x.name,.string x.QF,.string x.to,.int .i64 x.how,.int .u64 x.depth] 89);obtain⟨D0,r0,hf0⟩:=hS1.Qd;have hz1:=hS1.size;refine(dm hf0 6 (z+7) _ rfl rfl x.name hsm x.pos χ η).mono ?_;rintro e w3' ⟨rfl,hk0,hf0'⟩;have hS2:=hS1.add hk0 hf0';have HE:=ν hS2;clear hS2
  go_wp2
  go_roundw
  case rel=>exact⟨n+1,χ,by go_num,by have:=HE.out;simpa[aO HX.out]using this⟩
  case measure=>simp[intOf];omega
 obtain rfl:n=P.QB.length:=χ
 clear hlt hn;rw[List.take_length]at hS;have hS6':KSt w wr z [P.QR++P.regs,P.QR,P.regs,P.QP,P.chans,P.irqn,P.ques,[]]:=hS;clear hS;obtain⟨w7,hw7⟩:∃u:World,u=wr:=⟨_,rfl⟩;rw[←hw7]at hS6' ⊢;clear hw7 wr HS5 hl5;have hS:=hS6';clear hS6';have HL6:=(h.new hS.keep);have hp6:w7.cell? ⟨pb,9,none⟩=some v.Q9:=HL6.cell rfl;obtain⟨A6,c6,hv6,_,hn6,hl6⟩:=h.QU.Q9;rw[hv6]at hp6;have HS6:=ν hS;clear hS HL6 hv6;unfold top at hn6
 go_wp2
 clear hp6
 go_loopw [155] (fun i wr=>∃n:Nat,n≤P.Q9.length∧i=.int .i64 n∧KSt w wr z [P.QR++P.regs,P.QR,P.regs,P.QP,P.chans,P.irqn,P.ques,((P.Q9.take n).map fun x=>(x.name,x.pos))]) (fun i _=>P.Q9.length-(intOf i).toNat)
 case atStart=>exact⟨0,Nat.zero_le _,rfl,by simpa using HS6.out⟩
 case round =>
 obtain⟨n,hn,rfl,hS⟩:=hrel
 by_cases hlt:n<P.Q9.length
 ·obtain⟨b,off,rfl,hbl,hcs⟩:=hl6 χ
  obtain⟨x,hx⟩:∃x,P.Q9[n]?=some x:=⟨_,θ hlt⟩;have hwr:=(hcs n x hx);have hr:=eR B _ _ _ _ _ (hS.keep.below (B:=B) (by have:=h.base;have:=h.lt;omega) (fun _ _ h=>h)) hbl hwr;obtain⟨u1,hc,⟨Am,cm,rfl,_,_⟩,_,_,hsn⟩:=hr;have q0:=hc.c0;have q1:=hc 1 _ rfl;have q2:=hc 2 _ rfl;have q3:=hc 3 _ rfl;have hblr:b<wr.heap.size:=by have:=hS.keep.size;have:=h.base;have:=h.lt;omega
  have hsz:=hS.size;have hz9:z+9<wr.heap.size:=χ
  have hm:=hS.cell;have m7:wr.cell? ⟨z+9,7,none⟩=some (.map (some (z+8))):=by simpa using hm 7 _ rfl
  have hsm:x.name.size≤maxLen:=by unfold aV at hsn;unfold maxLen;omega
  have HX:=ν hx;have HS:=ν hS;clear hx hS hcs hc hwr hm hsn
  go_wp2_with fail
  have hS1:=HS.out.alloc (.cells #[.int .i64 x.pos,.string x.name,.int .u64 x.QJ,.slice Am x.QL.length cm] 68);obtain⟨D0,r0,hf0⟩:=hS1.Qd;have hz1:=hS1.size;refine(dm hf0 7 (z+8) _ rfl rfl x.name hsm x.pos χ η).mono ?_;rintro e w3' ⟨rfl,hk0,hf0'⟩;have hS2:=hS1.add hk0 hf0';have HE:=ν hS2;clear hS2
  go_wp2
  go_roundw
  case rel=>exact⟨n+1,χ,by go_num,by have:=HE.out;simpa[aO HX.out]using this⟩
  case measure=>simp[intOf];omega
 obtain rfl:n=P.Q9.length:=χ
 clear hlt hn;rw[List.take_length]at hS;have hS7':KSt w wr z [P.QR++P.regs,P.QR,P.regs,P.QP,P.chans,P.irqn,P.ques,P.plns]:=hS;clear hS;obtain⟨w8,hw8⟩:∃u:World,u=wr:=⟨_,rfl⟩;rw[←hw8]at hS7' ⊢;clear hw8 wr HS6 hl6;have hS:=hS7';clear hS7';have hm:=hS.cell;have hkk:=hS.k;have hoo:=hS.o;have hsz:=hS.size;have HS:=ν hS;have m0:w8.cell? ⟨z+9,0,none⟩=some (.map (some (z+1))):=by simpa using hm 0 _ rfl
 have m1:w8.cell? ⟨z+9,1,none⟩=some (.map (some (z+2))):=by simpa using hm 1 _ rfl
 have m2:w8.cell? ⟨z+9,2,none⟩=some (.map (some (z+3))):=by simpa using hm 2 _ rfl
 have m3:w8.cell? ⟨z+9,3,none⟩=some (.map (some (z+4))):=by simpa using hm 3 _ rfl
 have m4:w8.cell? ⟨z+9,4,none⟩=some (.map (some (z+5))):=by simpa using hm 4 _ rfl
 have m5:w8.cell? ⟨z+9,5,none⟩=some (.map (some (z+6))):=by simpa using hm 5 _ rfl
 have m6:w8.cell? ⟨z+9,6,none⟩=some (.map (some (z+7))):=by simpa using hm 6 _ rfl
 have m7:w8.cell? ⟨z+9,7,none⟩=some (.map (some (z+8))):=by simpa using hm 7 _ rfl
 have o0:w8.cell? ⟨z,0,none⟩=some (.map none):=by rw[cell_of_row _ _ _ _ _ _ hoo];rfl
 have f0:w8.frozen? ⟨z,0,none⟩=false:=by simp[World.frozen?,hoo]
 have o1:w8.cell? ⟨z,1,none⟩=some (.map none):=by rw[cell_of_row _ _ _ _ _ _ hoo];rfl
 have f1:w8.frozen? ⟨z,1,none⟩=false:=by simp[World.frozen?,hoo]
 have o2:w8.cell? ⟨z,2,none⟩=some (.map none):=by rw[cell_of_row _ _ _ _ _ _ hoo];rfl
 have f2:w8.frozen? ⟨z,2,none⟩=false:=by simp[World.frozen?,hoo]
 have o3:w8.cell? ⟨z,3,none⟩=some (.map none):=by rw[cell_of_row _ _ _ _ _ _ hoo];rfl
 have f3:w8.frozen? ⟨z,3,none⟩=false:=by simp[World.frozen?,hoo]
 have o4:w8.cell? ⟨z,4,none⟩=some (.map none):=by rw[cell_of_row _ _ _ _ _ _ hoo];rfl
 have f4:w8.frozen? ⟨z,4,none⟩=false:=by simp[World.frozen?,hoo]
 have o5:w8.cell? ⟨z,5,none⟩=some (.map none):=by rw[cell_of_row _ _ _ _ _ _ hoo];rfl
 have f5:w8.frozen? ⟨z,5,none⟩=false:=by simp[World.frozen?,hoo]
 have o6:w8.cell? ⟨z,6,none⟩=some (.map none):=by rw[cell_of_row _ _ _ _ _ _ hoo];rfl
 have f6:w8.frozen? ⟨z,6,none⟩=false:=by simp[World.frozen?,hoo]
 have o7:w8.cell? ⟨z,7,none⟩=some (.map none):=by rw[cell_of_row _ _ _ _ _ _ hoo];rfl
 have f7:w8.frozen? ⟨z,7,none⟩=false:=by simp[World.frozen?,hoo]
 clear hS hm hkk hoo;rw[←HZ.out]
 go_wp2
 have hS:=HS.out;obtain⟨D,r,hF⟩:=hS.Qd;have hk2:aD (fun k=>k=z) w8 ((((((((w8.setCell ⟨z,0,none⟩ (.map (some (z+1)))).setCell ⟨z,1,none⟩ (.map (some (z+2)))).setCell ⟨z,2,none⟩ (.map (some (z+3)))).setCell ⟨z,3,none⟩ (.map (some (z+4)))).setCell ⟨z,4,none⟩ (.map (some (z+5)))).setCell ⟨z,5,none⟩ (.map (some (z+6)))).setCell ⟨z,6,none⟩ (.map (some (z+7)))).setCell ⟨z,7,none⟩ (.map (some (z+8)))):=
  ((((((((aD.refl (fun k=>k=z) w8).setCell (p:=⟨z,0,none⟩) (fun _=>rfl) _).setCell (p:=⟨z,1,none⟩) (fun _=>rfl) _).setCell (p:=⟨z,2,none⟩) (fun _=>rfl) _).setCell (p:=⟨z,3,none⟩) (fun _=>rfl) _).setCell (p:=⟨z,4,none⟩) (fun _=>rfl) _).setCell (p:=⟨z,5,none⟩) (fun _=>rfl) _).setCell (p:=⟨z,6,none⟩) (fun _=>rfl) _).setCell (p:=⟨z,7,none⟩) (fun _=>rfl) _
 refine bodyPost_ret (v := .agg (dW z)) (by simp[results,Tryz.results68,go_sem,dW,o0,o1,o2,o3,o4,o5,o6,o7]) rfl ?_;rw[←HZ.out];exact⟨rfl,hS.keep.trans hk2 (fun i hi e=>by have:=HZ.out;omega),D,r,hF.keep hk2 (fun k e _=>⟨χ,fun hm=>by have:=eU hm;omega⟩)⟩
def SpV(B:Nat)(w:World)(vals:List Value)(ls:List (List Map)):Prop:=
 vals.length=ls.length∧∀(i:Nat) (u:Value) (l:List Map),vals[i]?=some u→ls[i]?=some l→aM B 5 eK w u l
theorem SpV.snoc{vals:List Value}{ls:List (List Map)}(h:SpV B w vals ls){u:Value}{l:List Map}(q:aM B 5 eK w u l):SpV B w (vals++[u]) (ls++[l]):=by
 refine⟨by simp[h.1],fun i v m d g=>?_⟩
 rcases Ψ i vals.length with hi|hi
 ·rw[List.getElem?_append_left hi]at d
  rw[List.getElem?_append_left (by rw[←h.1];exact hi)]at g;exact h.2 i v m d g
 ·rw[List.getElem?_append_right hi]at d
  rw[List.getElem?_append_right (by rw[←h.1];exact hi),←h.1]at g
  cases hj:i-vals.length with
  | zero =>
   rw[hj]at d g;simp only[List.getElem?_cons_zero,Option.some.injEq]at d g;subst d g;exact q
  | succ j=>rw[hj]at d;simp at d
theorem Tryz.info42:(Tryz.prog.info? 42).map (fun i=>(i.zero,i.size,i.bytes))=some (some (.slice none 0 0),1,24):=δ
theorem jj{w':World}(h:Below z w w')(g:z=w.heap.size):Kz w w':=aD.of_below h (fun i hi d=>χ)
theorem oD{pb:Nat}{v:ae}{P:aF}{W:Int→Int}{L:List Wr}(h:aG B w pb v P W L):
 Calls Tryz.prog 93 #[.pointer (some ⟨pb,0,none⟩)] w fun e w'=>∃u vals,e=.returned u∧w'.ownsRow w.heap.size 42 1 u vals.length vals∧SpV B w vals P.spaces∧Below w.heap.size w w':=by
 obtain⟨i0,hi,hz0,hz1,hz2⟩:=info_parts Tryz.info42;obtain⟨z,hz⟩:∃z,z=w.heap.size:=⟨_,rfl⟩;have HZ:=ν hz;have hp0:w.cell? ⟨pb,5,none⟩=some v.Q4:=h.cell rfl;obtain⟨A0,c0,hv0,_,hn0,hl0⟩:=h.QU.Q4;rw[hv0]at hp0;obtain⟨A1,c1,hv1,_,hn1,hl1⟩:=h.QU.Q5;have HV1:=ν hv1;unfold top at hn0 hn1;have hlt:=h.lt;have hBp:=h.base;clear hv0 hv1 hz
 go_enter Tryz.func93,Tryz.ntmps93
 go_wp2
 go_loopw [3,14] (fun u i wr=>∃(n:Nat) (vals:List Value),n≤P.Q4.length∧i=.int .i64 n∧wr.ownsRow z 42 1 u vals.length vals∧SpV B w vals ((P.Q4.take n).map ak.QA)∧Below z w wr) (fun _ i _=>P.Q4.length-(intOf i).toNat)
 case atStart=>exact⟨0,[],Nat.zero_le _,rfl,World.ownsRow_nil _ _ _ _,⟨rfl,fun i u l hu _=>by simp at hu⟩,Below.refl _ _⟩
 case round =>
 obtain⟨n,vals,hn,rfl,hown,hsp,hbw⟩:=hrel
 by_cases hlt2:n<P.Q4.length
 ·obtain⟨bl,off,rfl,hbl,hcs⟩:=hl0 χ
  obtain⟨x,hx⟩:∃x,P.Q4[n]?=some x:=⟨_,θ hlt2⟩;have hwr:=hcs n x hx;obtain⟨u1,u2,hc,hs1,⟨Am2,cm2,rfl,_⟩,_⟩:=hwr;have hs1':=hs1;obtain⟨Am,cm,rfl,_⟩:=hs1;have hc:=hc.below hbw (by have:=HZ.out;omega);have q0:=hc.c0;have q1:=hc 1 _ rfl;have q2:=hc 2 _ rfl;have q3:=hc 3 _ rfl;have q4:=hc 4 _ rfl;have q5:=hc 5 _ rfl;have hsz:=hbw.size;have hblr:bl<wr.heap.size:=by have:=HZ.out;omega
  have hzr:z≤wr.heap.size:=by have:=HZ.out;omega
  have hvl:vals.length=n:=by rw[hsp.1];simp;omega
  have HX:=ν hx;have HSP:=ν hsp;have HS1:=ν hs1';have HVL:=ν hvl;have hvl2:vals.length≤2097152:=χ
  clear hx hc hsp hs1' hvl hcs
  go_wp2_with (at_builtin;refine wpList_append_lies _ rfl _ _ 166 rfl z 42 i0 (.slice none 0 0) 1 24 Tryz.underlying166 hi hz0 hz1 hz2 rfl χ _ vals.length vals rfl ((hown.alloc _).alloc _) ⟨wr.heap.size+1,0,none⟩ 1 1 [.slice Am x.QA.length cm] rfl rfl ?c1 (by simp[Value.oneCell']) χ (by unfold maxLen;omega) χ ?c2 (wr.heap.size+2) ξ ?_)
  case c1=>have:=cell_one_new (wr.alloc (.cells #[.int .i64 x.pos,.string x.name,.int .u64 x.QN,.bool x.stopped,.slice Am x.QA.length cm,.slice Am2 x.QO.length cm2] 45)) (.slice Am x.QA.length cm) 42;simpa using this
  case c2=>simp;omega
  intro g cap w1 hown1 hgrow hat hlt3;have hb1:Below z w w1:=(((hbw.alloc hzr _).alloc η _)).trans ((aD.of_grown hgrow (S:=fun k=>z≤k) (fun k e=>(hown.lt k e).1)).below η (fun i hi e=>χ))
  go_wp2
  go_roundw
  case rel =>
   refine⟨n+1,vals++[.slice Am x.QA.length cm],χ,by go_num,by rw[List.length_append];exact hown1,?_,hb1⟩;rw[aO HX.out,List.map_append];exact HSP.out.snoc HS1.out
  case measure=>simp[intOf];omega
 obtain rfl:n=P.Q4.length:=χ
 rw[List.take_length]at hsp;obtain⟨w1,hw1⟩:∃u:World,u=wr:=⟨_,rfl⟩;rw[←hw1]at hbw hown⊢;clear hw1 wr hlt2 hn hl0 hp0;have hp1:w1.cell? ⟨pb,3,none⟩=some v.Q5:=(hbw.cell (p:=⟨pb,3,none⟩) (by have:=HZ.out;show pb<z;omega)).trans (h.cell rfl);rw[HV1.out]at hp1;have HSP:=ν hsp;have HOWN:=ν hown;have HBW:=ν hbw;have hvl:vals.length≤2097152:=by rw[hsp.1];simp;omega
 clear hsp hown hbw
 go_wp2
 clear hp1
 go_loopw [3,30] (fun u i wr=>∃(n:Nat) (vals:List Value),n≤P.Q5.length∧i=.int .i64 n∧wr.ownsRow z 42 1 u vals.length vals∧SpV B w vals (P.Q4.map ak.QA++(P.Q5.take n).map bR.QA)∧Below z w wr) (fun _ i _=>P.Q5.length-(intOf i).toNat)
 case atStart=>exact⟨0,vals,Nat.zero_le _,rfl,HOWN.out,by simpa using HSP.out,HBW.out⟩
 case round =>
 clear HSP HOWN HBW hvl;obtain⟨n,vals,hn,rfl,hown,hsp,hbw⟩:=hrel
 by_cases hlt2:n<P.Q5.length
 ·obtain⟨bl,off,rfl,hbl,hcs⟩:=hl1 χ
  obtain⟨x,hx⟩:∃x,P.Q5[n]?=some x:=⟨_,θ hlt2⟩;have hwr:=hcs n x hx;obtain⟨u1,hc,hs1,_⟩:=hwr;have hs1':=hs1;obtain⟨Am,cm,rfl,_⟩:=hs1;have hc:=hc.below hbw (by have:=HZ.out;omega);have q0:=hc.c0;have q1:=hc 1 _ rfl;have q2:=hc 2 _ rfl;have q3:=hc 3 _ rfl;have q4:=hc 4 _ rfl;have hsz:=hbw.size;have hblr:bl<wr.heap.size:=by have:=HZ.out;omega
  have hzr:z≤wr.heap.size:=by have:=HZ.out;omega
  have hvl:vals.length≤4194304:=by rw[hsp.1];simp;omega
  have HX:=ν hx;have HSP:=ν hsp;have HS1:=ν hs1';clear hx hc hsp hs1' hcs
  go_wp2_with (at_builtin;refine wpList_append_lies _ rfl _ _ 166 rfl z 42 i0 (.slice none 0 0) 1 24 Tryz.underlying166 hi hz0 hz1 hz2 rfl χ _ vals.length vals rfl ((hown.alloc _).alloc _) ⟨wr.heap.size+1,0,none⟩ 1 1 [.slice Am x.QA.length cm] rfl rfl ?c1 (by simp[Value.oneCell']) χ (by unfold maxLen;omega) χ ?c2 (wr.heap.size+2) ξ ?_)
  case c1=>have:=cell_one_new (wr.alloc (.cells #[.int .i64 x.pos,.string x.name,.int .u64 x.Q7,.int .u64 x.size,.slice Am x.QA.length cm] 65)) (.slice Am x.QA.length cm) 42;simpa using this
  case c2=>simp;omega
  intro g cap w1 hown1 hgrow hat hlt3;have hb1:Below z w w1:=(((hbw.alloc hzr _).alloc η _)).trans ((aD.of_grown hgrow (S:=fun k=>z≤k) (fun k e=>(hown.lt k e).1)).below η (fun i hi e=>χ))
  go_wp2
  go_roundw
  case rel =>
   refine⟨n+1,vals++[.slice Am x.QA.length cm],χ,by go_num,by rw[List.length_append];exact hown1,?_,hb1⟩;rw[aO HX.out,List.map_append,←List.append_assoc];exact HSP.out.snoc HS1.out
  case measure=>simp[intOf];omega
 ·obtain rfl:n=P.Q5.length:=χ
  rw[List.take_length]at hsp;have HSP:=ν hsp;have HOWN:=ν hown;clear hsp hown
  go_wp2
  go_ret
  rw[←HZ.out];exact⟨_,vals,rfl,HOWN.out,HSP.out,hbw⟩
theorem jx(a s b:Nat)(w:World)(h:a<18446744073709551616)(l:s<18446744073709551616)(j:b<18446744073709551616):
 Calls Tryz.prog 96 #[.int .u64 a,.int .u64 s,.int .u64 b] w fun e w'=>e=.returned (.bool (below a s b))∧w=w':=by
 unfold below
 by_cases h1:a≤b
 ·have g:decide (a≤b)=true:=by simpa using h1
  by_cases h3:s≤b-a
  ·have d:(s:Int)≤(b:Int)-a:=χ
   go_enter Tryz.func96,Tryz.ntmps96
   go_wp2
   go_ret
   exact⟨by simp[h1,h3,d],rfl⟩
  ·have d:¬ (s:Int)≤(b:Int)-a:=χ
   go_enter Tryz.func96,Tryz.ntmps96
   go_wp2
   go_ret
   exact⟨by simp[h1,h3,d],rfl⟩
 ·have g:decide (a≤b)=false:=by simpa using h1
  go_enter Tryz.func96,Tryz.ntmps96
  go_wp2
  go_ret
  exact⟨by simp[h1],rfl⟩
theorem rq(b:Bool)(w:World):Calls Tryz.prog 99 #[.bool b] w fun e w'=>e=.returned (.int .u64 (cX b))∧w=w':=by
 cases b
 ·go_enter Tryz.func99,Tryz.ntmps99
  go_wp2
  go_ret
  exact⟨rfl,rfl⟩
 ·go_enter Tryz.func99,Tryz.ntmps99
  go_wp2
  go_ret
  exact⟨rfl,rfl⟩
end
open Go.RowKit Go.Extern.Stop Go.Stop Go.Extern
theorem Tryz.valueOf82(t:Addr)(w:World):(ReflectliteValue.unpack (.iface 82 (.pointer (some t)))).run Tryz.prog w
 = .ok (.agg #[.pointer (some ⟨13,82,none⟩),.pointer (some ⟨w.heap.size,0,none⟩),.int .u64 150]) (w.alloc (.cells #[.pointer (some t)] 82)):=δ
theorem Tryz.type82(a:Addr)(w:World):(ReflectliteValue.methodAny (ReflectliteValue.valueError "reflectlite.Value.Type" 0) (fun t _ _ _=>ReflectliteType.toType t) #[.agg #[.pointer (some ⟨13,82,none⟩),.pointer (some a),.int .u64 150]]).run Tryz.prog w
 = .ok (.iface 231 (.agg #[.pointer (some ⟨13,82,none⟩)])) w:=δ
theorem Tryz.kind82(w:World):((ReflectliteType.abiMethod fun t=>(fun a:Nat=>Value.int IntKind.u8 (a:Int)) <$> Rtype.kind t) #[.pointer (some ⟨13,82,none⟩)]).run Tryz.prog w=.ok (.int .u8 22) w:=δ
theorem Tryz.kind36(w:World):((ReflectliteType.abiMethod fun t=>(fun a:Nat=>Value.int IntKind.u8 (a:Int)) <$> Rtype.kind t) #[.pointer (some ⟨13,36,none⟩)]).run Tryz.prog w=.ok (.int .u8 2) w:=δ
theorem Tryz.parts82(a:Addr)(w:World):(ReflectliteValue.parts (.agg #[.pointer (some ⟨13,82,none⟩),.pointer (some a),.int .u64 150])).run Tryz.prog w=.ok (some (82,a,150)) w:=δ
theorem Tryz.isNil82(a p:Addr)(W:World)(d:W.cell? a=some (.pointer (some p))):
 (ReflectliteValue.method (ReflectliteValue.valueError "reflectlite.Value.IsNil" 0) ReflectliteValue.isNil #[.agg #[.pointer (some ⟨13,82,none⟩),.pointer (some a),.int .u64 150]]).run Tryz.prog W=.ok (.bool false) W:=by
 rw[rlm];simp only[Sem.run_bind,Tryz.parts82,Result.andThen];simp[ReflectliteValue.isNil,loadVar,isAgg,underlying,Tryz.underlying82,d,Result.andThen]
theorem Tryz.elem82(w:World):(ReflectliteType.method ReflectliteType.elem #[.agg #[.pointer (some ⟨13,82,none⟩)]]).run Tryz.prog w=.ok (.iface 231 (.agg #[.pointer (some ⟨13,36,none⟩)])) w:=δ
theorem Tryz.implements36(w:World):(ReflectliteType.relation "Implements" ReflectliteType.implements_ #[.agg #[.pointer (some ⟨13,36,none⟩)],.iface 231 (.agg #[.pointer (some ⟨13,75,none⟩)])]).run Tryz.prog w=.ok (.bool true) w:=δ
theorem Tryz.typeOf36(v:Value)(w:World):(ReflectliteType.typeOf #[.iface 36 v]).run Tryz.prog w=.ok (.iface 231 (.agg #[.pointer (some ⟨13,36,none⟩)])) w:=δ
theorem Tryz.assignable115_72(w:World):(ReflectliteType.relation "AssignableTo" ReflectliteType.assignableTo #[.agg #[.pointer (some ⟨13,79,none⟩)],.iface 231 (.agg #[.pointer (some ⟨13,36,none⟩)])]).run Tryz.prog w=.ok (.bool false) w:=δ
theorem Tryz.assignable36(w:World):(ReflectliteType.relation "AssignableTo" ReflectliteType.assignableTo #[.agg #[.pointer (some ⟨13,36,none⟩)],.iface 231 (.agg #[.pointer (some ⟨13,36,none⟩)])]).run Tryz.prog w=.ok (.bool true) w:=δ
theorem Tryz.valueOf36(e:Int)(w:World):(ReflectliteValue.unpack (.iface 36 (.int .i64 e))).run Tryz.prog w
 = .ok (.agg #[.pointer (some ⟨13,36,none⟩),.pointer (some ⟨w.heap.size,0,none⟩),.int .u64 130]) (w.alloc (.cells #[.int .i64 e] 36)):=δ
theorem Tryz.elemOf82(w:World):(Rtype.elem? 82).run Tryz.prog w=.ok (some 36) w:=δ
theorem Tryz.mk36(p:Addr)(w:World):(ReflectliteValue.mk 36 p ReflectliteValue.flagAddr).run Tryz.prog w=.ok (.agg #[.pointer (some ⟨13,36,none⟩),.pointer (some p),.int .u64 386]) w:=δ
theorem Tryz.elemV82(a p:Addr)(W:World)(d:W.cell? a=some (.pointer (some p))):
 (ReflectliteValue.method (ReflectliteValue.valueError "reflectlite.Value.Elem" 0) ReflectliteValue.elem #[.agg #[.pointer (some ⟨13,82,none⟩),.pointer (some a),.int .u64 150]]).run Tryz.prog W
  = .ok (.agg #[.pointer (some ⟨13,36,none⟩),.pointer (some p),.int .u64 386]) W:=by
 rw[rlm];simp only[Sem.run_bind,Tryz.parts82,Result.andThen];simp[ReflectliteValue.elem,loadVar,isAgg,underlying,Tryz.underlying82,d,Result.andThen,Tryz.elemOf82,Tryz.mk36]
theorem Tryz.parts36a(a:Addr)(w:World):(ReflectliteValue.parts (.agg #[.pointer (some ⟨13,36,none⟩),.pointer (some a),.int .u64 386])).run Tryz.prog w=.ok (some (36,a,386)) w:=δ
theorem Tryz.parts36(a:Addr)(w:World):(ReflectliteValue.parts (.agg #[.pointer (some ⟨13,36,none⟩),.pointer (some a),.int .u64 130])).run Tryz.prog w=.ok (some (36,a,130)) w:=δ
theorem Tryz.direct36(w:World):(Rtype.directlyAssignable 36 36).run Tryz.prog w=.ok true w:=δ
theorem Tryz.set36(d b:Addr)(e:Int)(old:Value)(W:World)(g:W.cell? b=some (.int .i64 e))(j:W.cell? d=some old)(h:W.frozen? d=false):
 (ReflectliteValue.set #[.agg #[.pointer (some ⟨13,36,none⟩),.pointer (some d),.int .u64 386],.agg #[.pointer (some ⟨13,36,none⟩),.pointer (some b),.int .u64 130]]).run Tryz.prog W
  = .ok (.tuple #[]) (W.setCell d (.int .i64 e)):=by
 rw[rls];simp only[Sem.run_bind,Tryz.parts36a,Tryz.parts36,Result.andThen];simp[ReflectliteValue.flagAddr,loadVar,isAgg,underlying,Tryz.underlying36,g,Result.andThen,Tryz.direct36,storeVar,Value.cells,storeCells,Addr.add];rw[run_store Tryz.prog W d _ _ (by rfl)];simp[j,h]
theorem Tryz.noAs79(v:Value)(d:TypeId)(w:World):(Instr.typeAssert (.iface 79 v) d 236 true).run Tryz.prog w=.ok (.tuple #[.nilIface,.bool false]) w:=run_typeAssert_lacksB Tryz.underlying236 δ δ v d w
theorem Tryz.hasUnwrap79(v:Value)(d:TypeId)(w:World):(Instr.typeAssert (.iface 79 v) d 239 true).run Tryz.prog w=.ok (.tuple #[.iface 79 v,.bool true]) w:=run_typeAssert_hasB Tryz.underlying239 δ v d w
theorem Tryz.methodUnwrap(v:Value)(w:World):(Go.method 503 79 v "Unwrap").run Tryz.prog w=.ok (250,v) w:=δ
theorem uM(b:Nat)(d:Value)(w:World)(h:w.cell? ⟨b,2,none⟩=some d):Calls Tryz.prog 250 #[.pointer (some ⟨b,0,none⟩)] w fun e w'=>e=.returned d∧w=w':=by
 go_enter Tryz.func250,Tryz.ntmps250
 go_wp2
 go_ret
 exact⟨rfl,rfl⟩
theorem yn(d:Nat)(t:Addr)(x:Int)(old:Value)(w:World)(y:pZ w)(D:w.cell? ⟨d,2,none⟩=some (.iface 36 (.int .i64 x)))(g:w.cell? t=some old)(v:w.frozen? t=false):
 Calls Tryz.prog 33 #[.iface 79 (.pointer (some ⟨d,0,none⟩)),.iface 82 (.pointer (some t))] w fun ev w'=>ev=.returned (.bool true)∧w'=(((wA 82 t w).alloc (oA 82 w)).alloc (.cells #[.int .i64 x] 36)).setCell t (.int .i64 x):=by
 unfold pZ at y;have h6:=Tryz.xe6;have h7:=Tryz.xe7;have h8:=Tryz.xe8;have O:=Tryz.xe27;have R:=Tryz.xe37;have U:=Tryz.xe38;have K:=Tryz.xe10;have Q:=Tryz.xe35;have L:=Tryz.xe11;have N:=Tryz.xe12;have tO:=Tryz.typeOf79;have Z:=Tryz.typeOf36;have mA:=Tryz.methodAssignableTo;have E:=Tryz.assignable115_72;have H:=Tryz.assignable36;have ac:=Tryz.valueOf36;have f6:=Tryz.valueOf82;have f7:=Tryz.type82;have mK:=Tryz.methodKind;have mE:=Tryz.methodElem;have mI:=Tryz.methodImplements;have Y:=Tryz.kind82;have X:=Tryz.kind36;have I:=Tryz.elem82;have W:=Tryz.implements36;have nA:=Tryz.noAs79;have uA:=Tryz.hasUnwrap79;have mU:=Tryz.methodUnwrap;have n8:=Tryz.isNil82 ⟨w.heap.size,0,none⟩ t (wA 82 t w) ξ;have B:0<w.heap.size:=by
  rcases ϑ w.heap.size with J|h
  ·simp[World.cell?,J]at y
  ·exact h
 have V:(wA 82 t w).cell? ⟨0,0,none⟩=some (.iface 231 (.agg #[.pointer (some ⟨13,75,none⟩)])):=by
  rw[World.cell?_alloc_lt _ _ ⟨0,0,none⟩ ξ,World.cell?_alloc_lt _ _ ⟨0,0,none⟩ B];exact y
 have j:t.block<w.heap.size:=by
  rcases Ψ t.block w.heap.size with h|h
  ·exact h
  ·simp[World.cell?,Array.getElem?_eq_none h]at g
 have u:d<w.heap.size:=World.block_lt_of_cell? w ⟨d,2,none⟩ D;have el:=Tryz.elemV82 ⟨w.heap.size,0,none⟩ t ((wA 82 t w).alloc (oA 82 w)) (by rw[World.cell?_alloc_lt _ _ ⟨w.heap.size,0,none⟩ η];simp);have C:((wA 82 t w).alloc (oA 82 w)).cell? ⟨d,2,none⟩=some (.iface 36 (.int .i64 x)):=by
  rw[World.cell?_alloc_lt _ _ ⟨d,2,none⟩ η,World.cell?_alloc_lt _ _ ⟨d,2,none⟩ η,World.cell?_alloc_lt _ _ ⟨d,2,none⟩ u];exact D
 have l:=uM d _ _ C;have st:=Tryz.set36 t ⟨w.heap.size+1+1+1,0,none⟩ x old (((wA 82 t w).alloc (oA 82 w)).alloc (.cells #[.int .i64 x] 36))
  (by rw[World.cell?_alloc_at _ _ _ _ ξ];rfl)
  (by rw[World.cell?_alloc_lt _ _ t η,World.cell?_alloc_lt _ _ t η,World.cell?_alloc_lt _ _ t η,World.cell?_alloc_lt _ _ t j];exact g)
  (by rw[World.frozen?_alloc_old _ _ t η,World.frozen?_alloc_old _ _ t η,World.frozen?_alloc_old _ _ t η,World.frozen?_alloc_old _ _ t (Nat.ne_of_lt j)];exact v)
 have q:=ν l;clear l
 go_enter Tryz.func33,Tryz.ntmps33
 go_wp2
 refine wp_loop_rounds 2 ?_;rw[rounds_succ]
 go_wp2_with (go_at_call 250;refine q.out.mono ?_;rintro e w' ⟨rfl,rfl⟩)
 rw[rounds_succ]
 go_wp2
 go_ret
 exact⟨rfl,rfl⟩
theorem BB(d tb:Nat)(x:Int)(w:World)(j:pZ w)(l:w.cell? ⟨d,2,none⟩=some (.iface 36 (.int .i64 x)))(g:Var w tb 36 (.int .i64 0)):
 Calls Tryz.prog 33 #[.iface 79 (.pointer (some ⟨d,0,none⟩)),.iface 82 (.pointer (some ⟨tb,0,none⟩))] w fun ev w'=>ev=.returned (.bool true)∧Var w' tb 36 (.int .i64 x)∧aD (fun k=>k=tb) w w':=by
 refine(yn d ⟨tb,0,none⟩ x _ w j l g.cell g.frozen).mono ?_;rintro ev w' ⟨rfl,rfl⟩;have hk:Kz w ((((w.alloc (.cells #[.pointer (some ⟨tb,0,none⟩)] 82)).alloc (oA 82 w)).alloc (oA 82 w)).alloc (.cells #[.int .i64 x] 36)):=((((aD.refl _ w).alloc _).alloc _).alloc _).alloc _;exact⟨rfl,(g.keep hk (fun h=>h)).set_ _,(hk.mono (T:=fun k=>k=tb) fun _ _ h=>h.elim).setCell (p:=⟨tb,0,none⟩) (fun _=>rfl) _⟩
