import Derived.Test.YtpblcjipmoblnaaGreatDoorIsEr
import Derived.Test.YtpblcjipmoblnaaGreatDoorScanD
import Derived.Deep.RegionWith
import Derived.Deep.CutRange
import Derived.Deep.RegionHeld3
import Derived.Deep.QuietTactic
import Derived.BigQuiet
import Derived.Outline
import Derived.Maps.OwnOps
import Derived.Maps.AppendAt
import Derived.Maps.OwnSet
import Derived.Maps.RangeWalk
import Derived.Maps.Views
set_option maxRecDepth 100000
set_option maxHeartbeats 4000000
set_option linter.unusedVariables false
set_option linter.unusedSimpArgs false
set_option linter.unnecessarySimpa false
namespace Go.Proofs.YtpblcjipmoblnaaGreatDoor
open Go.RowKit Go.IntWalk Ck
variable {w w':World}
theorem ee{P:Program}{f:FuncId}{args:Array Value}{v:Ending}(h:Calls P f args w fun e w'=>e=v∧w=w'):Calls P f args w fun e w'=>e=v∧w'=w:=h.mono fun _ _ h=>⟨h.1,h.2.symm⟩
theorem ov(n:Int)(w:World):Calls Tryz.prog 144 #[.int .i64 n] w fun e w'=>e=.returned (.bool false)∧w=w':=by
 go_enter Tryz.func144,Tryz.ntmps144
 go_wp2
 go_ret
 exact⟨by simp,rfl⟩
def mg(a b:Int):Int:=if a<b then -1 else if b<a then 1 else 0
theorem xm(a b:Int)(w:World):Calls Tryz.prog 123 #[.int .i64 a,.int .i64 b] w fun e w'=>e=.returned (.int .i64 (mg a b))∧w=w':=by
 unfold mg
 by_cases h1:a<b
 ·go_enter Tryz.func123,Tryz.ntmps123
  go_wp2_with (go_at_call 144;refine(ov _ _).mono ?_;rintro e w' ⟨rfl,rfl⟩)
  go_ret
  exact⟨by simp[h1],rfl⟩
 ·by_cases h2:b<a
  ·go_enter Tryz.func123,Tryz.ntmps123
   go_wp2_with (go_at_call 144;refine(ov _ _).mono ?_;rintro e w' ⟨rfl,rfl⟩)
   go_ret
   exact⟨by simp[h1,h2],rfl⟩
  ·go_enter Tryz.func123,Tryz.ntmps123
   go_wp2_with (go_at_call 144;refine(ov _ _).mono ?_;rintro e w' ⟨rfl,rfl⟩)
   go_ret
   exact⟨by simp[h1,h2],rfl⟩
def orI(a b:Int):Int:=if a=0 then b else a
theorem yV(b:Nat)(x y:Int)(w:World)(g:w.cell? ⟨b,0,none⟩=some (.int .i64 x))(h:w.cell? ⟨b,1,none⟩=some (.int .i64 y)):
 Calls Tryz.prog 122 #[.slice (some ⟨b,0,none⟩) 2 2] w fun e w'=>e=.returned (.int .i64 (orI x y))∧w=w':=by
 unfold orI
 by_cases hx:x=0
 ·subst hx
  by_cases hy:y=0
  ·subst hy
   go_enter Tryz.func122,Tryz.ntmps122
   go_wp2
   refine wp_loop_rounds 3 ?_;rw[rounds_succ]
   go_wp2
   rw[rounds_succ]
   go_wp2
   rw[rounds_succ]
   go_wp2
   go_ret
   exact⟨rfl,rfl⟩
  ·have d:(y !=0)=true:=by simp[hy]
   go_enter Tryz.func122,Tryz.ntmps122
   go_wp2
   refine wp_loop_rounds 2 ?_;rw[rounds_succ]
   go_wp2
   rw[rounds_succ]
   go_wp2
   go_ret
   exact⟨rfl,rfl⟩
 ·have a:(x !=0)=true:=by simp[hx]
  go_enter Tryz.func122,Tryz.ntmps122
  go_wp2
  refine wp_loop_rounds 2 ?_;rw[rounds_succ]
  go_wp2
  go_ret
  exact⟨by simp[hx],rfl⟩
theorem yU(w:World)(x y:Int):Calls Tryz.prog 122 #[.slice (some ⟨w.heap.size,0,none⟩) 2 2] (w.alloc (.cells #[.int .i64 x,.int .i64 y] 3)) fun e w'=>e=.returned (.int .i64 (orI x y))∧w.alloc (.cells #[.int .i64 x,.int .i64 y] 3)=w':=
 yV _ x y _ (by rw[World.cell?_alloc_at _ _ _ _ rfl];rfl) (by rw[World.cell?_alloc_at _ _ _ _ rfl];rfl)
theorem yH(x y:Wr):orI (mg x.1 y.1) (mg x.2 y.2)≤0↔Le x y:=by
 unfold orI mg Le
 repeat' split
 all_goals omega
structure gm (B:Nat) (w:World):Prop where
 pos:13<B
 err:mt w
 scan:∀w',Below B w w'→jG ib w'
theorem gm.below{B:Nat}(h:gm B w)(b:Below B w w'):gm B w':=
 ⟨h.pos,(b.cell (p:=⟨0,0,none⟩) (by have:=h.pos;show 0<B;omega)).trans h.err,fun w' a=>h.scan w' (b.trans a)⟩
def lM(w:World)(pb:Nat)(f:Value)(W:Int→Int):Option Wr→Prop
 | none=>f=.nilIface
 | some m=>∃b,f=.iface 115 (.pointer (some ⟨b,0,none⟩))∧b≠pb∧w.heap[b]?=some (.cells #[.int .i64 m.1,.int .i64 m.2,.iface 72 (.int .i64 (W m.2))] 120 (0,0))
structure aF (B:Nat) (w:World) (pb:Nat) (v:aV) (P:aC) (W:Int→Int) (L:List Wr):Prop where
 laid:gm B w
 base:B≤pb
 QL:cX B w v P
 look:∃f o,w.heap[pb]?=some (.cells (v.cells P++[f]).toArray 113 (0,0))∧lM w pb f W o∧gq L o
def bk(w:World)(k:Nat):Option TypeId:=match w.heap[k]? with|some (.cells _ t _)=>some t|_=>none
theorem kI{S:Nat→Prop}(hk:aB S w w'){k:Nat}(a:k<w.heap.size)(b:¬ S k):bk w' k=bk w k:=by unfold bk;rw[hk.block k a b]
theorem aG{b:Nat}{o:Obj}(h:w.heap[b]?=some o):b<w.heap.size:=(Array.getElem?_eq_some_iff.1 h).1
theorem lM.keep{S:Nat→Prop}{w w':World}{pb:Nat}{f:Value}{W:Int→Int}{o:Option Wr}(h:lM w pb f W o)(hk:aB S w w')(g:∀k,S k→k<w.heap.size→k=pb∨bk w k≠some 120):lM w' pb f W o:=by
 cases o with
 | none=>exact h
 | some m =>
  obtain⟨b,e,d,a⟩:=h;refine⟨b,e,d,(hk.block b (aG a) fun i=>?_).trans a⟩
  rcases g b i (aG a)with h|h
  ·exact d h
  ·apply h;unfold bk;rw[a]
namespace aF
variable {B:Nat} {w w':World} {pb:Nat} {v:aV} {P:aC} {W:Int→Int} {L L':List Wr}
theorem lt(h:aF B w pb v P W L):pb<w.heap.size:=by obtain⟨f,o,a,_⟩:=h.look;exact aG a
theorem ty(h:aF B w pb v P W L):bk w pb=some 113:=by obtain⟨f,o,a,_⟩:=h.look;unfold bk;rw[a]
theorem keep{S:Nat→Prop}(h:aF B w pb v P W L)(hk:aB S w w')(b:∀k,S k→k<w.heap.size→B≤k∧bk w k≠some 113∧bk w k≠some 120):aF B w' pb v P W L:=by
 have l:B≤w.heap.size:=Nat.le_trans h.base (Nat.le_of_lt h.lt);have d:Below B w w':=hk.below l (fun i p a=>by have:=(b i a (by omega)).1;omega);obtain⟨f,o,e,g,j⟩:=h.look;exact⟨h.laid.below d,h.base,h.QL.below d,f,o,(hk.block pb h.lt fun a=>(b pb a h.lt).2.1 h.ty).trans e,g.keep hk (fun k a n =>.inr (b k a n).2.2),j⟩
theorem new(h:aF B w pb v P W L)(hk:Kz w w'):aF B w' pb v P W L:=h.keep hk (fun _ h=>h.elim)
theorem congr(h:aF B w pb v P W L)(e:∀p,p∈L↔p∈L'):aF B w pb v P W L':=by
 obtain⟨f,o,a,b,d⟩:=h.look;exact⟨h.laid,h.base,h.QL,f,o,a,b,d.congr e⟩
theorem cell(h:aF B w pb v P W L){j:Nat}{x:Value}(a:(v.cells P)[j]?=some x):w.cell? ⟨pb,j,none⟩=some x:=by
 obtain⟨f,o,b,_⟩:=h.look;rw[cell_of_row _ _ _ _ _ _ b];simp only[List.getElem?_toArray];rw[List.getElem?_append_left (List.getElem?_eq_some_iff.1 a).1];exact a
end aF
theorem uU(v:aV)(P:aC):(v.cells P).length=14:=rfl
theorem mH{B:Nat}{w d:World}{pb b:Nat}{v:aV}{P:aC}{W:Int→Int}{L:List Wr}{x:Wr}{f:Value}{o:Option Wr}(C:gm B w)(A:B≤pb)(D:cX B w v P)
 (r:w.heap[pb]?=some (.cells (v.cells P++[f]).toArray 113 (0,0)))(y:gq L o)(G:upd o x=some x)(hk:Kz w d)(hbs:b=d.heap.size):
 aF B ((d.setCell ⟨pb,14,none⟩ (.iface 115 (.pointer (some ⟨b,0,none⟩)))).alloc (.cells #[.int .i64 x.1,.int .i64 x.2,.iface 72 (.int .i64 (W x.2))] 120)) pb v P W (x::L) ∧
  aB (fun k=>k=pb) w ((d.setCell ⟨pb,14,none⟩ (.iface 115 (.pointer (some ⟨b,0,none⟩)))).alloc (.cells #[.int .i64 x.1,.int .i64 x.2,.iface 72 (.int .i64 (W x.2))] 120)):=by
 have q:=aG r;have E:=hk.size;have j:(d.setCell ⟨pb,14,none⟩ (.iface 115 (.pointer (some ⟨b,0,none⟩)))).heap.size=d.heap.size:=by simp[World.setCell]
 have g:=((hk.mono (T:=fun k=>k=pb) fun _ _ h=>h.elim).setCell (p:=⟨pb,14,none⟩) (fun _=>rfl) (.iface 115 (.pointer (some ⟨b,0,none⟩)))).alloc (.cells #[.int .i64 x.1,.int .i64 x.2,.iface 72 (.int .i64 (W x.2))] 120);have a:=g.below (B:=B) (by omega) (fun i H h=>by subst h;omega);have n:d.heap[pb]?=some (.cells (v.cells P++[f]).toArray 113 (0,0)):=(hk.block pb q (fun h=>h)).trans r;refine⟨⟨C.below a,A,D.below a,.iface 115 (.pointer (some ⟨b,0,none⟩)),some x,?_,⟨b,rfl,by omega,?_⟩,?_⟩,g⟩
 ·rw[Below.heap_alloc _ _ _ (by rw[j];omega)]
  simp[World.setCell,Array.getElem?_modify,n];have e:=uU v P
  generalize v.cells P=l at e
  match l,e with
  | [_,_,_,_,_,_,_,_,_,_,_,_,_,_],_=>rfl
 ·have u:=heap_alloc_new (d.setCell ⟨pb,14,none⟩ (.iface 115 (.pointer (some ⟨b,0,none⟩)))) (.cells #[.int .i64 x.1,.int .i64 x.2,.iface 72 (.int .i64 (W x.2))] 120)
  rw[j,←hbs]at u;exact u
 ·rw[←G];exact y.tell x
theorem tG(B:Nat)(w:World)(pb:Nat)(v:aV)(P:aC)(W:Int→Int)(L:List Wr)(Q7 a:Int)(i:gm B w)(h:B≤pb)(j:cX B w v P)
 (b:w.heap[pb]?=some (.cells (v.cells P++[Value.nilIface]).toArray 113 (0,0)))(g:gq L none):
 Calls Tryz.prog 75 #[.pointer (some ⟨pb,0,none⟩),.int .i64 Q7,.int .i64 a,.int .i64 (W a)] w fun e w'=>e=.returned (.tuple #[])∧aF B w' pb v P W ((Q7,a)::L)∧aB (fun k=>k=pb) w w':=by
 have d:=aG b;have c:w.cell? ⟨pb,14,none⟩=some .nilIface:=by
  rw[cell_of_row _ _ _ _ _ _ b];rfl
 have l:w.frozen? ⟨pb,14,none⟩=false:=by simp[World.frozen?,b]
 have c1:(w.alloc (Obj.cells #[Value.pointer none] 115)).drew.cell? ⟨pb,14,none⟩=some .nilIface:=(World.cell?_alloc_lt w _ ⟨pb,14,none⟩ d).trans c
 go_enter Tryz.func75,Tryz.ntmps75
 go_wp2
 go_quiet ((go_at_call 57;exact Calls.quiet_of_same (ee (wP _ _))))
 go_wp2
 go_end0
 refine⟨rfl,mH (x:=(Q7,a)) (o:=none) i h j b g rfl ?hk ?hbs⟩
 case hk=>exact((aB.refl _ w).alloc _).drewN _
 case hbs=>simp
theorem qu(e:Addr)(a:Nat)(w:World)(g:mt w)(b:Var w a 115 (.pointer none)):
 Calls Tryz.prog 57 #[.iface 115 (.pointer (some e)),.iface 117 (.pointer (some ⟨a,0,none⟩))] w fun d w'=>d=.returned (.bool true)∧Var w' a 115 (.pointer (some e))∧aB (fun k=>k=a) w w':=by
 refine(uV e ⟨a,0,none⟩ _ w g b.cell b.frozen).mono ?_;rintro d w' ⟨rfl,rfl⟩;have hk:Kz w ((((w.alloc (.cells #[.pointer (some ⟨a,0,none⟩)] 117)).alloc (.cells #[.pointer (some ⟨13,117,none⟩),.pointer (some ⟨w.heap.size,0,none⟩),.int .u64 150] 192)).alloc (.cells #[.pointer (some ⟨13,117,none⟩),.pointer (some ⟨w.heap.size,0,none⟩),.int .u64 150] 192)).alloc (.cells #[.pointer (some e)] 115)):=((((aB.refl _ w).alloc _).alloc _).alloc _).alloc _;exact⟨rfl,(b.keep hk (fun h=>h)).set_ _,(hk.mono (T:=fun k=>k=a) fun _ _ h=>h.elim).setCell (p:=⟨a,0,none⟩) (fun _=>rfl) _⟩
theorem tF(B:Nat)(w:World)(pb b:Nat)(v:aV)(P:aC)(W:Int→Int)(L:List Wr)(Q7 rank:Int)(m:Wr)(hl:gm B w)(hb:B≤pb)(hp:cX B w v P)
 (h1:w.heap[pb]?=some (.cells (v.cells P++[Value.iface 115 (.pointer (some ⟨b,0,none⟩))]).toArray 113 (0,0)))(hbp:b≠pb)
 (h2:w.heap[b]?=some (.cells #[.int .i64 m.1,.int .i64 m.2,.iface 72 (.int .i64 (W m.2))] 120 (0,0)))(h3:gq L (some m)):
 Calls Tryz.prog 75 #[.pointer (some ⟨pb,0,none⟩),.int .i64 Q7,.int .i64 rank,.int .i64 (W rank)] w fun e w'=>e=.returned (.tuple #[])∧aF B w' pb v P W ((Q7,rank)::L)∧aB (fun k=>k=pb) w w':=by
 have hlt:=aG h1;have hlb:=aG h2;have c:w.cell? ⟨pb,14,none⟩=some (.iface 115 (.pointer (some ⟨b,0,none⟩))):=by
  rw[cell_of_row _ _ _ _ _ _ h1];rfl
 have fz:w.frozen? ⟨pb,14,none⟩=false:=by simp[World.frozen?,h1]
 obtain⟨W0,hW0⟩:∃W0,W0=w.alloc (Obj.cells #[Value.pointer none] 115):=⟨_,rfl⟩;have hk0:Kz w W0:=by rw[hW0];exact(aB.refl _ w).alloc _
 have hv0:Var W0 w.heap.size 115 (.pointer none):=by rw[hW0];exact heap_alloc_new _ _
 have hs0:W0.heap.size=w.heap.size+1:=by rw[hW0];simp
 have HK0:=Lib.hid hk0;have HV0:=Lib.hid hv0;have c1:W0.drew.cell? ⟨pb,14,none⟩=some (.iface 115 (.pointer (some ⟨b,0,none⟩))):=(hk0.cell (p:=⟨pb,14,none⟩) hlt (fun h=>h)).trans c;have HE:Hid (mt W0.drew):=(hk0.cell (p:=⟨0,0,none⟩) (by have:=hl.pos;show 0<w.heap.size;omega) (fun h=>h)).trans hl.err;have HAs:Hid (∀w',aB (fun k=>k=w.heap.size) W0.drew w'→w'.cell? ⟨b,0,none⟩=some (.int .i64 m.1)∧w'.cell? ⟨b,1,none⟩=some (.int .i64 m.2)):=fun w' hk=>by
  have h2':w'.heap[b]?=_:=(((hk0.drew.mono (T:=fun k=>k=w.heap.size) fun _ _ h=>h.elim).trans hk (fun _ _ h=>h)).block b hlb (by omega)).trans h2;exact⟨by rw[cell_of_row _ _ _ _ _ _ h2'];rfl,by rw[cell_of_row _ _ _ _ _ _ h2'];rfl⟩
 clear hk0 hv0 c fz hs0
 go_enter Tryz.func75,Tryz.ntmps75
 go_wp2_with fail
 rw[←hW0];clear hW0
 go_upto_region 1 with fail
 go_cut [31] from 9 to 31 (fun u wx=>u=.bool (decide (orI (mg m.1 Q7) (mg m.2 rank)≤0))∧Kz w wx)
 case first =>
  go_region_with (first
   | (go_at_call 57;refine(qu _ _ _ HE.out HV0.out).mono ?_;rintro e w1 ⟨rfl,hv1,hk1⟩;have hc1:=hv1.cell;obtain⟨hm1,hm2⟩:=HAs.out _ hk1;have HK1:=Lib.hid hk1;clear hv1 hk1)
   | (go_at_call 123;refine(xm _ _ _).mono ?_;rintro e w2 ⟨rfl,rfl⟩)
   | (go_at_call 122;refine(yU _ _ _).mono ?_;rintro e w2 ⟨rfl,rfl⟩))
  all_goals(try go_wp2_with fail)
  all_goals go_meet
  all_goals exact⟨rfl,((HK0.out.drew).trans HK1.out (fun i hi h=>by omega)).alloc _⟩
 case rest =>
 obtain⟨rfl,hk⟩:=hcut;have hltc:pb<wc.heap.size:=Nat.lt_of_lt_of_le hlt hk.size;have hlc:wc.heap[pb]?=_:=(hk.block pb hlt (fun h=>h)).trans h1;have cc:wc.cell? ⟨pb,14,none⟩=some (.iface 115 (.pointer (some ⟨b,0,none⟩))):=by
  rw[cell_of_row _ _ _ _ _ _ hlc];rfl
 have fc:wc.frozen? ⟨pb,14,none⟩=false:=by simp[World.frozen?,hlc]
 have HK:=Lib.hid hk;clear hk c1 hlc
 by_cases hle:Le m (Q7,rank)
 ·have ht:decide (orI (mg m.1 Q7) (mg m.2 rank)≤0)=true:=decide_eq_true ((yH m (Q7,rank)).2 hle)
  rw[ht];have hu:upd (some m) (Q7,rank)=some m:=by simp[upd,hle]
  have hq:=h3.tell (Q7,rank);rw[hu]at hq;have HQ:=Lib.hid hq;clear hu hq
  go_wp2
  refine bodyPost_ret (results_none rfl _ _ _) rfl ?_;have hn:=(⟨hl,hb,hp,_,some m,h1,⟨b,rfl,hbp,h2⟩,HQ.out⟩:aF B w pb v P W ((Q7,rank)::L));exact⟨rfl,hn.new HK.out,HK.out.mono (fun _ _ h=>h.elim)⟩
 ·have ht:decide (orI (mg m.1 Q7) (mg m.2 rank)≤0)=false:=decide_eq_false fun h=>hle ((yH m (Q7,rank)).1 h)
  rw[ht];have hu:upd (some m) (Q7,rank)=some (Q7,rank):=by simp[upd,hle]
  have HU:=Lib.hid hu;clear hu
  go_wp2
  go_end0
  exact⟨rfl,mH (x:=(Q7,rank)) hl hb hp h1 h3 HU.out HK.out rfl⟩
theorem cW{B:Nat}{w:World}{pb:Nat}{v:aV}{P:aC}{W:Int→Int}{L:List Wr}(Q7 a d:Int)(h:aF B w pb v P W L)(n:W a=d):
 Calls Tryz.prog 75 #[.pointer (some ⟨pb,0,none⟩),.int .i64 Q7,.int .i64 a,.int .i64 d] w fun e w'=>e=.returned (.tuple #[])∧aF B w' pb v P W ((Q7,a)::L)∧aB (fun k=>k=pb) w w':=by
 subst n;obtain⟨f,o,j,g,l⟩:=h.look
 cases o with
 | none =>
  obtain rfl:f=.nilIface:=g;exact tG B w pb v P W L Q7 a h.laid h.base h.QL j l
 | some m =>
  obtain⟨b,rfl,i,g⟩:=g;exact tF B w pb b v P W L Q7 a m h.laid h.base h.QL j i g l
theorem aO{B:Nat}{w:World}{pb:Nat}{v:aV}{P:aC}{W:Int→Int}{L:List Wr}(ok:Bool)(Q7 a b:Int)(h:aF B w pb v P W L)(d:W a=b):
 Calls Tryz.prog 73 #[.pointer (some ⟨pb,0,none⟩),.bool ok,.int .i64 Q7,.int .i64 a,.int .i64 b] w fun e w'=>e=.returned (.tuple #[])∧aF B w' pb v P W (say ok Q7 a++L)∧aB (fun k=>k=pb) w w':=by
 have g:=Lib.hid d;clear d
 cases ok with
 | true =>
  go_enter Tryz.func73,Tryz.ntmps73
  go_wp2
  go_end0
  exact⟨rfl,h,aB.refl _ _⟩
 | false =>
  go_enter Tryz.func73,Tryz.ntmps73
  go_wp2_with fail
  refine(cW Q7 a b h g.out).mono ?_;rintro e w' ⟨rfl,i,j⟩
  go_wp2
  go_end0
  exact⟨rfl,i,j⟩
end Go.Proofs.YtpblcjipmoblnaaGreatDoor
namespace Go.Proofs.YtpblcjipmoblnaaGreatDoor
open Go.RowKit Go.IntWalk Ck
open Go.Maps (Keyed string_keyed)
variable {B:Nat} {S:Nat→Prop} {w w':World} {bs:List Nat} {fs:List (List Nm)} {D:Nat→DataW Value}
def eM(v:Value):Option (DataW Value×List MemPlace):=some (.held v,[])
def key(s:ByteArray):Lit := .string s.data.toList
theorem Tryz.law9:Keyed Tryz.prog 9:=string_keyed Tryz.underlying9
theorem eH{P:Program}(w:World){i:Array Oper}{rest:List Oper}{o:Oper}{a:Act}{Q:Exit→Act→World→Prop}
 (u:o.guard=none)(m x:Operand)(t:TypeId)(l:o.op=Op.lookup t m x false)
 (k e:TypeId)(K:Keyed P k)(A:P.underlying t=some (.map k e))(z:Value)(B:(zeroValue e).run P w=.ok z w)(b n:Nat)(D:DataW Value)
 (y:a.eval m=.map (some b))(g:w.ownsMap P k eM b n D)(q:Value)(p:Lit)(hx:a.eval x=q)(d:keyOf P k q=some p)
 (r:∀v:Value,D.atKey p (.held z)=.held v→wpList P i Q rest (a.put o.dst v) w):
 wpList P i Q (o::rest) a w:=by
 refine wpList_plain u fun K' j=>?_
 obtain⟨v,C,h,hv⟩:=g.lookup K A B (zd := .held z) (zp:=[]) rfl d;unfold Oper.wp;simp[execOp,l,y,hx,h,Result.andThen];refine j _ _ (r v ?_);simp only[eM,Option.some.injEq,Prod.mk.injEq]at hv;exact hv.1.symm
def jH(B:Nat)(w:World)(v:Value)(zs:List Int):Prop:=w.ownsRow B 3 1 v zs.length (zs.map (Value.int .i64))
def bK(f:List Nm)(s:ByteArray):List Int:=(f.filter fun x=>decide (x.1=s)).map (·.2)
theorem jk(f:List Nm)(s:ByteArray):has f s=decide (0<(bK f s).length):=by
 unfold has bK;rw[Bool.eq_iff_iff,List.any_eq_true,decide_eq_true_eq,List.length_map,List.length_pos_iff_exists_mem];simp only[List.mem_filter]
structure bh (B:Nat) (w:World) (bs:List Nat) (fs:List (List Nm)) (D:Nat→DataW Value) (r:Nat→ByteArray→Value):Prop where
 len:bs.length=fs.length
 map:∀(i b:Nat) (f:List Nm),bs[i]?=some b→fs[i]?=some f→w.ownsMap Tryz.prog 9 eM b f.length (D i) ∧
  ∀s:ByteArray,s.size≤maxLen→(D i).atKey (key s) (.held (.slice none 0 0))=.held (r i s)∧jH B w (r i s) (bK f s)∧(Go.Maps.has (D i) (key s)=has f s)
 apart:∀(i j:Nat) (s t:ByteArray) (k:Nat),i<bs.length→j<bs.length→s.size≤maxLen→t.size≤maxLen→(r i s).ownBlock=some k→(r j t).ownBlock=some k→i=j∧s=t
 nodup:∀(i j b:Nat),bs[i]?=some b→bs[j]?=some b→i=j
theorem jH.keep{v:Value}{e:List Int}(h:jH B w v e)(hk:aB S w w')(l:∀k,v.ownBlock=some k→¬ S k):jH B w' v e:=by
 unfold jH at *;refine⟨h.1,?_⟩
 rcases h.2 with a|⟨g,cap,b,a,i,d,j⟩
 ·exact .inl a
 ·exact .inr ⟨g,cap,b,a,i,(hk.block g (aG d) (l g (by rw[a];rfl))).trans d,j⟩
theorem jH.ty{v:Value}{b:List Int}(h:jH B w v b){k:Nat}(hk:v.ownBlock=some k):bk w k=some 3:=by
 unfold jH at h
 rcases h.2 with⟨e,_⟩|⟨g,cap,a,e,_,hh,_⟩
 ·rw[e]at hk;cases hk
 ·rw[e]at hk
  simp only[Value.ownBlock,Option.some.injEq]at hk;subst hk;unfold bk;rw[hh]
theorem ju{b n:Nat}{D:DataW Value}(h:w.ownsMap Tryz.prog 9 eM b n D)(hk:aB S w w')(g:¬ S b):w'.ownsMap Tryz.prog 9 eM b n D:=by
 obtain⟨d,c,a,e⟩:=h;exact⟨d,c,(hk.block b (aG a) g).trans a,e⟩
theorem bh.keep{r:Nat→ByteArray→Value}(h:bh B w bs fs D r)(hk:aB S w w')(j:∀k,S k→k<w.heap.size→k<B∧k ∉ bs):bh B w' bs fs D r:=by
 refine⟨h.len,fun i b f l u=>?_,h.apart,h.nodup⟩;obtain⟨e,n⟩:=h.map i b f l u;refine⟨ju e hk (fun a=>(j b a e.lt).2 (List.mem_of_getElem? l)),fun s a=>?_⟩;obtain⟨p,g,q⟩:=n s a;exact⟨p,g.keep hk (fun k d a=>by have:=g.lt k d;have:=(j k a this.2).1;omega),q⟩
theorem lK{s t:ByteArray}(h:key s=key t):s=t:=by
 simp only[key,Lit.string.injEq]at h;exact oQ (by rw[ByteArray.toList_eq,ByteArray.toList_eq];exact h)
theorem uY(w:World):(zeroValue 35).run Tryz.prog w=.ok (.slice none 0 0) w:=by kernel_rfl
theorem dB{r:Nat→ByteArray→Value}(h:bh B w bs fs D r)(i b:Nat)(f:List Nm)(I:bs[i]?=some b)(K:fs[i]?=some f)(s:ByteArray)(x:s.size≤maxLen):
 Calls Tryz.prog 74 #[.map (some b),.string s] w fun e w'=>e=.returned (.bool (has f s))∧w=w':=by
 obtain⟨G,j⟩:=h.map i b f I K;obtain⟨l,p,H⟩:=j s x;have v:=jk f s;have d:=Lib.hid v;have a:=Lib.hid l;clear v j H l;have L:∃A n c,r i s=.slice A n c∧n=(bK f s).length:=by
  rcases p.2 with⟨e,E⟩|⟨g,cap,C,e,_⟩
  ·exact⟨_,_,_,e,by rw[E]⟩
  ·exact⟨_,_,_,e,rfl⟩
 obtain⟨A,n,c,hv,q⟩:=L;rw[hv]at a;rw[←q]at d;clear p hv q;have J:0<n∨n=0:=by omega
 go_enter Tryz.func74,Tryz.ntmps74
 go_wp2_with (at_lookup;refine eH _ rfl _ _ 135 rfl 9 35 Tryz.law9 Tryz.underlying135 (.slice none 0 0) (uY _) b _ (D i) rfl G _ (key s) rfl (Go.WideMaps.keyOf_string_mk Tryz.underlying9 x) ?_;intro u y;obtain rfl:Value.slice A n c=u:=by(rw[a.out]at y;exact DataW.held.inj y))
 go_ret
 exact⟨by rw[d.out];simp,rfl⟩
theorem Tryz.info3:(Tryz.prog.info? 3).map (fun i=>(i.zero,i.size,i.bytes))=some (some (.int .i64 0),1,8):=by kernel_rfl
theorem ll(f:List Nm)(s t:ByteArray)(p:Int):bK (f++[(s,p)]) t=if s=t then bK f t++[p]else bK f t:=by
 unfold bK;rw[List.filter_append,List.map_append]
 by_cases h:s=t<;>simp[h]
theorem sb(f:List Nm)(s t:ByteArray)(p:Int):has (f++[(s,p)]) t=(has f t||decide (s=t)):=by
 unfold has;simp
theorem jf(s:ByteArray):WideAt.IsKeyLit (key s):=by unfold key;trivial
theorem bh.rowne{r:Nat→ByteArray→Value}(h:bh B w bs fs D r){j:Nat}{t:ByteArray}{k:Nat}(u:j<bs.length)(C:t.size≤maxLen)(a:(r j t).ownBlock=some k)(c:Nat)(A:c∈bs):k≠c:=by
 intro e;subst e;obtain⟨q,v⟩:=List.getElem?_of_mem A;have p:=(List.getElem?_eq_some_iff.1 v).1;obtain⟨g,l⟩:∃g,fs[q]?=some g:=⟨_,List.getElem?_eq_getElem (by rw[←h.len];exact p)⟩;obtain⟨G,E,i,_⟩:=(h.map q k g v l).1;obtain⟨c2,d⟩:∃c,bs[j]?=some c:=⟨_,List.getElem?_eq_getElem u⟩;obtain⟨g2,n⟩:∃g,fs[j]?=some g:=⟨_,List.getElem?_eq_getElem (by rw[←h.len];exact u)⟩;have y:=((h.map j c2 g2 d n).2 t C).2.1
 rcases y.2 with⟨b,_⟩|⟨H,cap,x,b,_,hh,_⟩
 ·rw[b]at a;cases a
 ·rw[b]at a
  simp only[Value.ownBlock,Option.some.injEq]at a;subst a;rw[i]at hh
  cases hh
theorem wI{Q O:World}{r:Nat→ByteArray→Value}(h:bh B w bs fs D r){i b:Nat}{f:List Nm}(H:bs[i]?=some b)(hf:fs[i]?=some f)
 {s:ByteArray}(J:s.size≤maxLen){p:Int}{N:Value}(hB:B≤w.heap.size)(hk:aB (fun k=>(r i s).ownBlock=some k) w Q)(M:jH B Q N (bK f s++[p]))
 (G:∀k,N.ownBlock=some k→(r i s).ownBlock=some k∨w.heap.size≤k)(hm:O.ownsMap Tryz.prog 9 eM b (f.length+1) ((D i).put (key s) (.held N)))(hg:Q.grownBy O (some b)):
 bh B O bs (fs.set i (f++[(s,p)])) (fun j=>if j=i then(D i).put (key s) (.held N)else D j) (fun j t=>if j=i∧t=s then N else r j t)∧aB (fun k=>k∈bs∨B≤k∧bk w k=some 3) w O:=by
 have C:i<bs.length:=(List.getElem?_eq_some_iff.1 H).1;obtain⟨V,m3⟩:=h.map i b f H hf;have ac:b<w.heap.size:=V.lt;have E:aB (fun k=>k=b) Q O:=aB.of_grown hg (fun k e=>by cases e;rfl);have v:∀j t k,j<bs.length→t.size≤maxLen→(r j t).ownBlock=some k→B≤k∧k<w.heap.size:=fun j t k K x hr=>by
  obtain⟨c,I⟩:∃c,bs[j]?=some c:=⟨_,List.getElem?_eq_getElem K⟩;obtain⟨g,y⟩:∃g,fs[j]?=some g:=⟨_,List.getElem?_eq_getElem (by rw[←h.len];exact K)⟩;have h5:=((h.map j c g I y).2 t x).2.1;exact⟨(h5.lt k hr).1,(h5.lt k hr).2⟩
 have d:=fun j t k=>h.rowne (j:=j) (t:=t) (k:=k)
 refine⟨⟨by rw[List.length_set];exact h.len,fun j c g I y=>?_,fun j q t u k K S x U A n=>?_,h.nodup⟩,?_⟩
 ·have l:j<bs.length:=(List.getElem?_eq_some_iff.1 I).1
  by_cases hji:j=i
  ·subst hji
   rw[List.getElem?_set_self (by rw[←h.len];exact l)]at y;obtain rfl:=Option.some.inj y;obtain rfl:b=c:=Option.some.inj (H.symm.trans I);simp only[if_true,true_and];refine⟨by rw[List.length_append];exact hm,fun t x=>?_⟩;obtain⟨W,X,Y⟩:=m3 t x
   by_cases hts:t=s
   ·subst hts
    rw[if_pos rfl,ll,if_pos rfl];refine⟨Go.Maps.atKey_put_same V.isMap (jf t) _ _,M.keep E (fun k a e=>?_),?_⟩
    ·subst e
     rcases G k a with Z|Z
     ·exact d j t k l x Z k (List.mem_of_getElem? H) rfl
     ·omega
    ·rw[Go.Maps.has_put_same V.isMap (jf t),sb];simp
   ·have L:key t≠key s:=fun e=>hts (lK e)
    rw[if_neg hts,ll,if_neg (fun e=>hts e.symm)];refine⟨(Go.Maps.atKey_put_other L _ _).trans W,(X.keep hk (fun k a e=>?_)).keep E (fun k a e=>?_),?_⟩
    ·exact hts ((h.apart j j t s k l l x J a e).2)
    ·subst e
     exact d j t k l x a k (List.mem_of_getElem? H) rfl
    ·rw[Go.Maps.has_put_other L,Y,sb]
     simp[show ¬ s=t from fun e=>hts e.symm]
  ·rw[List.getElem?_set_ne (fun e=>hji e.symm)]at y
   obtain⟨n1,n3⟩:=h.map j c g I y;have R:c≠b:=fun e=>by subst e;exact hji (h.nodup j i c I H)
   simp only[hji,if_false,false_and];refine⟨ju (ju n1 hk (fun e=>d i s c C J e c (List.mem_of_getElem? I) rfl)) E R,fun t x=>?_⟩;obtain⟨W,X,Y⟩:=n3 t x;refine⟨W,(X.keep hk (fun k a e=>hji ((h.apart j i t s k l C x J a e).1))).keep E (fun k a e=>?_),Y⟩;subst e;exact d j t k l x a k (List.mem_of_getElem? H) rfl
 ·by_cases h1:j=i∧t=s
  ·rw[if_pos h1]at A
   by_cases h2:q=i∧u=s
   ·exact⟨h1.1.trans h2.1.symm,h1.2.trans h2.2.symm⟩
   ·rw[if_neg h2]at n
    exfalso
    rcases G k A with e|e
    ·have:=h.apart q i u s k S C U J n e
     exact h2 this
    ·have:=(v q u k S U n).2
     omega
  ·rw[if_neg h1]at A
   by_cases h2:q=i∧u=s
   ·rw[if_pos h2]at n
    exfalso
    rcases G k n with e|e
    ·have:=h.apart j i t s k K C x J A e
     exact h1 this
    ·have:=(v j t k K x A).2
     omega
   ·rw[if_neg h2]at n
    exact h.apart j q t u k K S x U A n
 ·exact(hk.mono (T:=fun k=>k∈bs∨B≤k∧bk w k=some 3) (fun k _ e =>.inr ⟨(v i s k C J e).1,((m3 s J).2.1).ty e⟩)).trans E (fun k _ e =>.inl (by subst e;exact List.mem_of_getElem? H))
theorem fd{r:Nat→ByteArray→Value}(h:bh B w bs fs D r)(i b:Nat)(f:List Nm)(y:bs[i]?=some b)(N:fs[i]?=some f)(s:ByteArray)(v:s.size≤maxLen)(p:Int)
 (Y:B≤w.heap.size)(hl:f.length≤16777216):
 Calls Tryz.prog 120 #[.map (some b),.string s,.int .i64 p] w fun e w'=>e=.returned (.tuple #[])∧aB (fun k=>k∈bs∨B≤k∧bk w k=some 3) w w'∧∃D' r',bh B w' bs (fs.set i (f++[(s,p)])) D' r':=by
 obtain⟨J,K⟩:=h.map i b f y N;obtain⟨L,M,X⟩:=K s v;have ac:(bK f s).length≤f.length:=by
  unfold bK;rw[List.length_map];exact List.length_filter_le _ _
 have H:=Lib.hid L;obtain⟨i0,Z,C,E,G⟩:=info_parts Tryz.info3;obtain⟨V,x⟩:∃V,V=r i s:=⟨_,rfl⟩;rw[←x]at H M;have T:Hid (∀k,V.ownBlock=some k→k≠b):=fun k hk=>h.rowne (List.getElem?_eq_some_iff.1 y).1 v (by rw[←x];exact hk) b (List.mem_of_getElem? y)
 have I:=Lib.hid x;clear K X L x
 go_enter Tryz.func120,Tryz.ntmps120
 go_wp2_with (first
  | (at_lookup;refine eH _ rfl _ _ 135 rfl 9 35 Tryz.law9 Tryz.underlying135 (.slice none 0 0) (uY _) b _ (D i) rfl J _ (key s) rfl (Go.WideMaps.keyOf_string_mk Tryz.underlying9 v) ?_;intro u Q;obtain rfl:V=u:=by(rw[H.out]at Q;exact DataW.held.inj Q))
  | (at_builtin;refine wpList_append_lies _ rfl _ _ 35 rfl B 3 i0 (.int .i64 0) 1 8 Tryz.underlying35 Z C E G rfl (by omega) V (bK f s).length ((bK f s).map (Value.int .i64)) rfl (World.ownsRow.alloc M _) ⟨w.heap.size,0,none⟩ 1 1 [.int .i64 p] rfl rfl (cell_one_new _ _ _) (by simp[Value.oneCell']) (by omega) (by unfold maxLen;omega) (by omega) (by simp;omega) (w.heap.size+1) (by simp) ?_;intro g cap R l a A O;have q:=(J.alloc (Obj.cells #[Value.int IntKind.i64 p] 3)).kept a (fun e=>T.out b e.symm rfl))
  | (at_mapUpdate;refine wpList_mapUpdate_own _ rfl _ _ _ 135 rfl 9 35 Tryz.law9 Tryz.underlying135 eM b _ (D i) rfl q (by unfold maxLen;omega) _ _ (key s) rfl rfl (Go.WideMaps.keyOf_string_mk Tryz.underlying9 v) _ [] rfl ?_;intro w2 n d))
 go_end0
 have hk:aB (fun k=>(r i s).ownBlock=some k) w R:=by
  rw[←I.out];exact((aB.refl _ w).alloc _).trans (aB.of_grown a (S:=fun k=>V.ownBlock=some k) (fun k e=>e)) (fun _ _ e=>e)
 have j:jH B R (.slice (some ⟨g,0,none⟩) ((bK f s).length+1) cap) (bK f s++[p]):=by
  unfold jH;rw[List.length_append,List.map_append];exact l
 obtain⟨U,W⟩:=wI h y N v Y hk j (fun k e=>by
  rw[←I.out];simp only[Value.ownBlock,Option.some.injEq]at e;subst e
  rcases A with e|e
  ·exact .inl e
  ·exact .inr (by omega)) n d
 exact⟨rfl,W,_,_,U⟩
end Go.Proofs.YtpblcjipmoblnaaGreatDoor
namespace Go.Proofs.YtpblcjipmoblnaaGreatDoor
open Go.RowKit Go.IntWalk Ck
variable {w wr:World} {z B pb:Nat} {fs:List (List Nm)} {L:List Wr}
theorem aN.c0{b o:Nat}{v:Value}{vs:List Value}(h:aN w b o (v::vs)):w.cell? ⟨b,o,none⟩=some v:=h 0 v rfl
theorem aX(w:World)(cs:List Value)(t:TypeId):aN (w.alloc (.cells cs.toArray t)) w.heap.size 0 cs:=fun j v hv=>by
 rw[Nat.zero_add,World.cell?_alloc_at _ _ _ _ rfl]
 simpa using hv
def cF(z:Nat):Array Value := #[.map (some (z+1)),.map (some (z+2)),.map (some (z+3)),.map (some (z+4)),.map (some (z+5)),.map (some (z+6)),.map (some (z+7)),.map (some (z+8))]
def aQ(z:Nat):List Nat:=[z+1,z+2,z+3,z+4,z+5,z+6,z+7,z+8]
structure KSt (w wr:World) (z:Nat) (fs:List (List Nm)):Prop where
 Qi:∃D r,bh (z+10) wr (aQ z) fs D r
 k:wr.heap[z+9]?=some (.cells (cF z) 137 (0,0))
 o:wr.heap[z]?=some (.cells #[.map none,.map none,.map none,.map none,.map none,.map none,.map none,.map none] 137 (0,0))
 keep:Kz w wr
 z:z=w.heap.size
theorem ep{k:Nat}(h:k∈aQ z):z+1≤k∧k≤z+8:=by
 simp only[aQ,List.mem_cons,List.mem_nil_iff,or_false]at h;omega
theorem KSt.size(h:KSt w wr z fs):z+10≤wr.heap.size:=by
 have:=aG h.k;omega
theorem KSt.alloc(h:KSt w wr z fs)(o:Obj):KSt w (wr.alloc o) z fs:=by
 have hk:Kz wr (wr.alloc o):=(aB.refl _ _).alloc _;obtain⟨D,r,a⟩:=h.Qi;exact⟨⟨D,r,a.keep hk (fun _ h=>h.elim)⟩,(hk.block _ (aG h.k) (fun h=>h)).trans h.k,(hk.block _ (aG h.o) (fun h=>h)).trans h.o,h.keep.alloc _,h.z⟩
theorem KSt.add{w':World}{a:List (List Nm)}(h:KSt w wr z fs)(hk:aB (fun k=>k∈aQ z∨z+10≤k∧bk wr k=some 3) wr w')(b:∃D r,bh (z+10) w' (aQ z) a D r):KSt w w' z a:=
 ⟨b,(hk.block _ (aG h.k) (fun e=>by rcases e with e|e;(have:=ep e;omega);omega)).trans h.k,(hk.block _ (aG h.o) (fun e=>by rcases e with e|e;(have:=ep e;omega);omega)).trans h.o,
  h.keep.trans hk (fun i d e=>by have:=h.z;rcases e with e|e;(have:=ep e;omega);omega),h.z⟩
theorem KSt.cell(h:KSt w wr z fs):aN wr (z+9) 0 (cF z).toList:=fun j v hv=>by
 rw[Nat.zero_add,cell_of_row _ _ _ _ _ _ h.k]
 simpa using hv
theorem aP{α:Type}{l:List α}{k:Nat}{x:α}(h:l[k]?=some x):l.take (k+1)=l.take k++[x]:=by
 obtain⟨a,rfl⟩:=List.getElem?_eq_some_iff.1 h;rw[List.take_succ_eq_append_getElem a]
def bD(P:aC):List (List Nm):=[P.things,P.QU,P.regs,P.QO,P.chans,P.irqn,P.ques,P.plns]
theorem tq(w:World)(z:Nat)(x:z+10=w.heap.size)(h:∀i,i<8→w.heap[z+1+i]?=some (.map #[] 0)):
 bh (z+10) w (aQ z) [[],[],[],[],[],[],[],[]] (fun _ =>.map []) (fun _ _ =>.slice none 0 0):=by
 refine⟨rfl,fun i b f p v=>?_,fun i j s t k g l _ _ q _=>by simp[Value.ownBlock]at q,fun i j b g l=>?_⟩
 ·have a:i<8:=(List.getElem?_eq_some_iff.1 p).1
  have e:f=[]:=by
   match i,a,v with
   | 0,_,h|1,_,h|2,_,h|3,_,h|4,_,h|5,_,h|6,_,h|7,_,h=>exact(Option.some.inj h).symm
  have d:b=z+1+i:=by
   match i,a,p with
   | 0,_,h|1,_,h|2,_,h|3,_,h|4,_,h|5,_,h|6,_,h|7,_,h=>simp only[aQ]at h;have:=(Option.some.inj h).symm;omega
  subst e d;exact⟨⟨#[],0,h i a,⟨by simp,Go.MapKept.stamped_empty 0,by simp⟩,Nat.le_refl _,rfl⟩,fun s _=>⟨rfl,World.ownsRow_nil _ _ _ _,rfl⟩⟩
 ·have a:i<8:=(List.getElem?_eq_some_iff.1 g).1
  have n:j<8:=(List.getElem?_eq_some_iff.1 l).1;have r:b=z+1+i:=by
   match i,a,g with
   | 0,_,h|1,_,h|2,_,h|3,_,h|4,_,h|5,_,h|6,_,h|7,_,h=>simp only[aQ]at h;have:=(Option.some.inj h).symm;omega
  have u:b=z+1+j:=by
   match j,n,l with
   | 0,_,h|1,_,h|2,_,h|3,_,h|4,_,h|5,_,h|6,_,h|7,_,h=>simp only[aQ]at h;have:=(Option.some.inj h).symm;omega
  omega
theorem vy(w:World):KSt w ((((((((((w.alloc (.cells #[.map none,.map none,.map none,.map none,.map none,.map none,.map none,.map none] 137)).alloc (.map #[] 0)).alloc (.map #[] 0)).alloc (.map #[] 0)).alloc (.map #[] 0)).alloc (.map #[] 0)).alloc (.map #[] 0)).alloc (.map #[] 0)).alloc (.map #[] 0)).alloc (.cells (cF w.heap.size) 137)) w.heap.size [[],[],[],[],[],[],[],[]]:=by
 have e:∀(u:World) (o:Obj) (k:Nat),k<u.heap.size→(u.alloc o).heap[k]?=u.heap[k]?:=fun u o k hk=>Below.heap_alloc u o k hk
 have n:∀(u:World) (o:Obj) (k:Nat),k=u.heap.size→(u.alloc o).heap[k]?=some o:=fun u o k hk=>by subst hk;exact heap_alloc_new _ _
 refine⟨⟨_,_,tq _ _ (by simp) fun i a=>?_⟩,?_,?_,?_,rfl⟩
 ·rw[e _ _ _ (by simp;omega)]
  match i,a with
  | 7,_=>exact n _ _ _ (by simp)
  | 6,_=>rw[e _ _ _ (by simp)];exact n _ _ _ (by simp)
  | 5,_=>rw[e _ _ _ (by simp),e _ _ _ (by simp)];exact n _ _ _ (by simp)
  | 4,_=>rw[e _ _ _ (by simp),e _ _ _ (by simp),e _ _ _ (by simp)];exact n _ _ _ (by simp)
  | 3,_=>rw[e _ _ _ (by simp),e _ _ _ (by simp),e _ _ _ (by simp),e _ _ _ (by simp)];exact n _ _ _ (by simp)
  | 2,_=>rw[e _ _ _ (by simp),e _ _ _ (by simp),e _ _ _ (by simp),e _ _ _ (by simp),e _ _ _ (by simp)];exact n _ _ _ (by simp)
  | 1,_=>rw[e _ _ _ (by simp),e _ _ _ (by simp),e _ _ _ (by simp),e _ _ _ (by simp),e _ _ _ (by simp),e _ _ _ (by simp)];exact n _ _ _ (by simp)
  | 0,_=>rw[e _ _ _ (by simp),e _ _ _ (by simp),e _ _ _ (by simp),e _ _ _ (by simp),e _ _ _ (by simp),e _ _ _ (by simp),e _ _ _ (by simp)];exact n _ _ _ (by simp)
 ·exact n _ _ _ (by simp)
 ·rw[e _ _ _ (by simp;omega),e _ _ _ (by simp;omega),e _ _ _ (by simp;omega),e _ _ _ (by simp;omega),e _ _ _ (by simp;omega),e _ _ _ (by simp;omega),e _ _ _ (by simp;omega),e _ _ _ (by simp;omega),e _ _ _ (by simp)]
  exact n _ _ _ rfl
 ·exact(((((((((aB.refl _ w).alloc _).alloc _).alloc _).alloc _).alloc _).alloc _).alloc _).alloc _).alloc _ |>.alloc _
theorem tx{v:aV}{P:aC}{W:Int→Int}(h:aF B w pb v P W L):
 Calls Tryz.prog 70 #[.pointer (some ⟨pb,0,none⟩)] w fun e w'=>e=.returned (.agg (cF w.heap.size))∧Kz w w'∧∃D r,bh (w.heap.size+10) w' (aQ w.heap.size) (bD P) D r:=by
 have hmm:=@run_makeMap Tryz.prog;obtain⟨z,hz⟩:∃z,z=w.heap.size:=⟨_,rfl⟩;have HZ:=Lib.hid hz;clear hz
 go_enter Tryz.func70,Tryz.ntmps70
 go_upto_region 1 with fail
 go_cut [3] from 3 to 26 (fun k wx=>k=.pointer (some ⟨z+9,0,none⟩)∧KSt w wx z [[],[],[],[],[],[],[],[]])
 case first =>
  go_wp2
  go_meet
  have hz:=HZ.out;subst hz;exact⟨rfl,vy w⟩
 case rest =>
 obtain⟨rfl,hS⟩:=hcut;obtain⟨w1,hw1⟩:∃w1:World,w1=wc:=⟨_,rfl⟩;rw[←hw1]at hS⊢;clear hw1;have HL0:=(h.new hS.keep);have hp0:w1.cell? ⟨pb,3,none⟩=some v.Q4:=HL0.cell rfl;obtain⟨A0,c0,hv0,_,hn0,hl0⟩:=h.QL.Q4;rw[hv0]at hp0;have HS0:=Lib.hid hS;clear hS HL0 hv0;unfold top at hn0
 go_wp2
 clear hp0
 go_loopw [33] (fun i wr=>∃n:Nat,n≤P.Q4.length∧i=.int .i64 n∧KSt w wr z [((P.Q4.take n).map fun x=>(x.name,x.pos)),((P.Q4.take n).map fun x=>(x.name,x.pos)),([]:List Nm),([]:List Nm),([]:List Nm),([]:List Nm),([]:List Nm),([]:List Nm)]) (fun i _=>P.Q4.length-(intOf i).toNat)
 case atStart=>exact⟨0,Nat.zero_le _,rfl,by simpa using HS0.out⟩
 case round =>
 obtain⟨n,hn,rfl,hS⟩:=hrel
 by_cases hlt:n<P.Q4.length
 ·obtain⟨b,off,rfl,hbl,hcs⟩:=hl0 (by omega)
  obtain⟨x,hx⟩:∃x,P.Q4[n]?=some x:=⟨_,List.getElem?_eq_getElem hlt⟩;have hwr:=(hcs n x hx);have hr:=eT B _ _ _ _ _ (hS.keep.below (B:=B) (by have:=h.base;have:=h.lt;omega) (fun _ _ h=>h)) hbl hwr;obtain⟨u1,hc,⟨Am,cm,rfl,_,_⟩,_,_,_,hsn⟩:=hr;have q0:=hc.c0;have q1:=hc 1 _ rfl;have q2:=hc 2 _ rfl;have q3:=hc 3 _ rfl;have q4:=hc 4 _ rfl;have hblr:b<wr.heap.size:=by have:=hS.keep.size;have:=h.base;have:=h.lt;omega
  have hsz:=hS.size;have hz9:z+9<wr.heap.size:=by omega
  have hm:=hS.cell;have m0:wr.cell? ⟨z+9,0,none⟩=some (.map (some (z+1))):=by simpa using hm 0 _ rfl
  have m1:wr.cell? ⟨z+9,1,none⟩=some (.map (some (z+2))):=by simpa using hm 1 _ rfl
  have hsm:x.name.size≤maxLen:=by unfold ae at hsn;unfold maxLen;omega
  have HX:=Lib.hid hx;have HS:=Lib.hid hS;clear hx hS hcs hc hwr hm hsn
  go_wp2_with fail
  have hS1:=HS.out.alloc (.cells #[.int .i64 x.pos,.string x.name,.int .u64 x.Q7,.int .u64 x.size,.slice Am x.maps.length cm] 45);have hx1:(wr.alloc (.cells #[.int .i64 x.pos,.string x.name,.int .u64 x.Q7,.int .u64 x.size,.slice Am x.maps.length cm] 45)).heap[wr.heap.size]?=_:=heap_alloc_new _ _;obtain⟨D0,r0,hf0⟩:=hS1.Qi;have hz1:=hS1.size;refine(fd hf0 0 (z+1) _ rfl rfl x.name hsm x.pos (by omega) (by simp;omega)).mono ?_;rintro e w3' ⟨rfl,hk0,hf0'⟩;have hS2:=hS1.add hk0 hf0';have hm2:=hS2.cell;have m1':w3'.cell? ⟨z+9,1,none⟩=some (.map (some (z+2))):=by simpa using hm2 1 _ rfl
  have hx2:w3'.heap[wr.heap.size]?=_:=(hk0.block _ (aG hx1) (fun e=>by rcases e with e|e;(have:=ep e;omega);(have:=e.2;unfold bk at this;rw[hx1]at this;cases this))).trans hx1;have y0:w3'.cell? ⟨wr.heap.size,0,none⟩=_:=(cell_of_row _ _ _ _ _ _ hx2).trans rfl;have y1:w3'.cell? ⟨wr.heap.size,1,none⟩=_:=(cell_of_row _ _ _ _ _ _ hx2).trans rfl;clear hm2 hx2 hx1;have HS2:=Lib.hid hS2
  go_wp2_with fail
  have hS2:=HS2.out;obtain⟨D1,r1,hf1⟩:=hS2.Qi;have hz2:=hS2.size;refine(fd hf1 1 (z+2) _ rfl rfl x.name hsm x.pos (by omega) (by simp;omega)).mono ?_;rintro e w4' ⟨rfl,hk1,hf1'⟩;have hS3:=hS2.add hk1 hf1';have HE:=Lib.hid hS3;clear hS3
  go_wp2
  go_roundw
  case rel=>exact⟨n+1,by omega,by go_num,by have:=HE.out;simpa[aP HX.out]using this⟩
  case measure=>simp[intOf];omega
 obtain rfl:n=P.Q4.length:=by omega
 clear hlt hn;rw[List.take_length]at hS;have hS1':KSt w wr z [(P.Q4.map fun x=>(x.name,x.pos)),(P.Q4.map fun x=>(x.name,x.pos)),([]:List Nm),([]:List Nm),([]:List Nm),([]:List Nm),([]:List Nm),([]:List Nm)]:=hS;clear hS;obtain⟨w2,hw2⟩:∃u:World,u=wr:=⟨_,rfl⟩;rw[←hw2]at hS1' ⊢;clear hw2 wr HS0 hl0;have hS:=hS1';clear hS1';have HL1:=(h.new hS.keep);have hp1:w2.cell? ⟨pb,4,none⟩=some v.Q5:=HL1.cell rfl;obtain⟨A1,c1,hv1,_,hn1,hl1⟩:=h.QL.Q5;rw[hv1]at hp1;have HS1:=Lib.hid hS;clear hS HL1 hv1;unfold top at hn1
 go_wp2
 clear hp1
 go_loopw [58] (fun i wr=>∃n:Nat,n≤P.Q5.length∧i=.int .i64 n∧KSt w wr z [(P.Q4.map fun x=>(x.name,x.pos))++((P.Q5.take n).map fun x=>(x.name,x.pos)),(P.Q4.map fun x=>(x.name,x.pos)),((P.Q5.take n).map fun x=>(x.name,x.pos)),([]:List Nm),([]:List Nm),([]:List Nm),([]:List Nm),([]:List Nm)]) (fun i _=>P.Q5.length-(intOf i).toNat)
 case atStart=>exact⟨0,Nat.zero_le _,rfl,by simpa using HS1.out⟩
 case round =>
 obtain⟨n,hn,rfl,hS⟩:=hrel
 by_cases hlt:n<P.Q5.length
 ·obtain⟨b,off,rfl,hbl,hcs⟩:=hl1 (by omega)
  obtain⟨x,hx⟩:∃x,P.Q5[n]?=some x:=⟨_,List.getElem?_eq_getElem hlt⟩;have hwr:=(hcs n x hx);have hr:=(aK B _ _) _ _ _ _ _ (hS.keep.below (B:=B) (by have:=h.base;have:=h.lt;omega) (fun _ _ h=>h)) hbl hwr;obtain⟨hc,hok⟩:=hr;obtain⟨_,_,_,_,hsn,_⟩:=hok;have q0:=hc.c0;have q1:=hc 1 _ rfl;have q2:=hc 2 _ rfl;have q3:=hc 3 _ rfl;have q4:=hc 4 _ rfl;have q5:=hc 5 _ rfl;have q6:=hc 6 _ rfl;have q7:=hc 7 _ rfl;have q8:=hc 8 _ rfl;have q9:=hc 9 _ rfl;have hblr:b<wr.heap.size:=by have:=hS.keep.size;have:=h.base;have:=h.lt;omega
  have hsz:=hS.size;have hz9:z+9<wr.heap.size:=by omega
  have hm:=hS.cell;have m0:wr.cell? ⟨z+9,0,none⟩=some (.map (some (z+1))):=by simpa using hm 0 _ rfl
  have m2:wr.cell? ⟨z+9,2,none⟩=some (.map (some (z+3))):=by simpa using hm 2 _ rfl
  have hsm:x.name.size≤maxLen:=by unfold ae at hsn;unfold maxLen;omega
  have HX:=Lib.hid hx;have HS:=Lib.hid hS;clear hx hS hcs hc hwr hm hsn
  go_wp2_with fail
  have hS1:=HS.out.alloc (.cells #[.int .i64 x.pos,.string x.name,.int .u64 x.size,.bool x.fixed,.int .u64 x.Q7,.bool x.big,.bool x.wx,.int .u64 x.fill,.bool x.QS,.string x.text] 48);have hx1:(wr.alloc (.cells #[.int .i64 x.pos,.string x.name,.int .u64 x.size,.bool x.fixed,.int .u64 x.Q7,.bool x.big,.bool x.wx,.int .u64 x.fill,.bool x.QS,.string x.text] 48)).heap[wr.heap.size]?=_:=heap_alloc_new _ _;obtain⟨D0,r0,hf0⟩:=hS1.Qi;have hz1:=hS1.size;refine(fd hf0 0 (z+1) _ rfl rfl x.name hsm x.pos (by omega) (by simp;omega)).mono ?_;rintro e w3' ⟨rfl,hk0,hf0'⟩;have hS2:=hS1.add hk0 hf0';have hm2:=hS2.cell;have m2':w3'.cell? ⟨z+9,2,none⟩=some (.map (some (z+3))):=by simpa using hm2 2 _ rfl
  have hx2:w3'.heap[wr.heap.size]?=_:=(hk0.block _ (aG hx1) (fun e=>by rcases e with e|e;(have:=ep e;omega);(have:=e.2;unfold bk at this;rw[hx1]at this;cases this))).trans hx1;have y0:w3'.cell? ⟨wr.heap.size,0,none⟩=_:=(cell_of_row _ _ _ _ _ _ hx2).trans rfl;have y1:w3'.cell? ⟨wr.heap.size,1,none⟩=_:=(cell_of_row _ _ _ _ _ _ hx2).trans rfl;clear hm2 hx2 hx1;have HS2:=Lib.hid hS2
  go_wp2_with fail
  have hS2:=HS2.out;obtain⟨D1,r1,hf1⟩:=hS2.Qi;have hz2:=hS2.size;refine(fd hf1 2 (z+3) _ rfl rfl x.name hsm x.pos (by omega) (by simp;omega)).mono ?_;rintro e w4' ⟨rfl,hk1,hf1'⟩;have hS3:=hS2.add hk1 hf1';have HE:=Lib.hid hS3;clear hS3
  go_wp2
  go_roundw
  case rel=>exact⟨n+1,by omega,by go_num,by have:=HE.out;simpa[aP HX.out]using this⟩
  case measure=>simp[intOf];omega
 obtain rfl:n=P.Q5.length:=by omega
 clear hlt hn;rw[List.take_length]at hS;have hS2':KSt w wr z [(P.Q4.map fun x=>(x.name,x.pos))++(P.Q5.map fun x=>(x.name,x.pos)),(P.Q4.map fun x=>(x.name,x.pos)),(P.Q5.map fun x=>(x.name,x.pos)),([]:List Nm),([]:List Nm),([]:List Nm),([]:List Nm),([]:List Nm)]:=hS;clear hS;obtain⟨w3,hw3⟩:∃u:World,u=wr:=⟨_,rfl⟩;rw[←hw3]at hS2' ⊢;clear hw3 wr HS1 hl1;have hS:=hS2';clear hS2';have HL2:=(h.new hS.keep);have hp2:w3.cell? ⟨pb,5,none⟩=some v.Q3:=HL2.cell rfl;obtain⟨A2,c2,hv2,_,hn2,hl2⟩:=h.QL.Q3;rw[hv2]at hp2;have HS2:=Lib.hid hS;clear hS HL2 hv2;unfold top at hn2
 go_wp2
 clear hp2
 go_loopw [83] (fun i wr=>∃n:Nat,n≤P.Q3.length∧i=.int .i64 n∧KSt w wr z [(P.Q4.map fun x=>(x.name,x.pos))++(P.Q5.map fun x=>(x.name,x.pos)),(P.Q4.map fun x=>(x.name,x.pos)),(P.Q5.map fun x=>(x.name,x.pos)),((P.Q3.take n).map fun x=>(x.name,x.pos)),([]:List Nm),([]:List Nm),([]:List Nm),([]:List Nm)]) (fun i _=>P.Q3.length-(intOf i).toNat)
 case atStart=>exact⟨0,Nat.zero_le _,rfl,by simpa using HS2.out⟩
 case round =>
 obtain⟨n,hn,rfl,hS⟩:=hrel
 by_cases hlt:n<P.Q3.length
 ·obtain⟨b,off,rfl,hbl,hcs⟩:=hl2 (by omega)
  obtain⟨x,hx⟩:∃x,P.Q3[n]?=some x:=⟨_,List.getElem?_eq_getElem hlt⟩;have hwr:=(hcs n x hx);have hr:=dQ B _ _ _ _ _ (hS.keep.below (B:=B) (by have:=h.base;have:=h.lt;omega) (fun _ _ h=>h)) hbl hwr;obtain⟨u1,u2,hc,⟨Am,cm,rfl,_,_⟩,⟨Am2,cm2,rfl,_,_⟩,_,_,hsn⟩:=hr;have q0:=hc.c0;have q1:=hc 1 _ rfl;have q2:=hc 2 _ rfl;have q3:=hc 3 _ rfl;have q4:=hc 4 _ rfl;have q5:=hc 5 _ rfl;have hblr:b<wr.heap.size:=by have:=hS.keep.size;have:=h.base;have:=h.lt;omega
  have hsz:=hS.size;have hz9:z+9<wr.heap.size:=by omega
  have hm:=hS.cell;have m3:wr.cell? ⟨z+9,3,none⟩=some (.map (some (z+4))):=by simpa using hm 3 _ rfl
  have hsm:x.name.size≤maxLen:=by unfold ae at hsn;unfold maxLen;omega
  have HX:=Lib.hid hx;have HS:=Lib.hid hS;clear hx hS hcs hc hwr hm hsn
  go_wp2_with fail
  have hS1:=HS.out.alloc (.cells #[.int .i64 x.pos,.string x.name,.int .u64 x.QP,.bool x.stopped,.slice Am x.maps.length cm,.slice Am2 x.QR.length cm2] 52);have hx1:(wr.alloc (.cells #[.int .i64 x.pos,.string x.name,.int .u64 x.QP,.bool x.stopped,.slice Am x.maps.length cm,.slice Am2 x.QR.length cm2] 52)).heap[wr.heap.size]?=_:=heap_alloc_new _ _;obtain⟨D0,r0,hf0⟩:=hS1.Qi;have hz1:=hS1.size;refine(fd hf0 3 (z+4) _ rfl rfl x.name hsm x.pos (by omega) (by simp;omega)).mono ?_;rintro e w3' ⟨rfl,hk0,hf0'⟩;have hS2:=hS1.add hk0 hf0';have HE:=Lib.hid hS2;clear hS2
  go_wp2
  go_roundw
  case rel=>exact⟨n+1,by omega,by go_num,by have:=HE.out;simpa[aP HX.out]using this⟩
  case measure=>simp[intOf];omega
 obtain rfl:n=P.Q3.length:=by omega
 clear hlt hn;rw[List.take_length]at hS;have hS3':KSt w wr z [(P.Q4.map fun x=>(x.name,x.pos))++(P.Q5.map fun x=>(x.name,x.pos)),(P.Q4.map fun x=>(x.name,x.pos)),(P.Q5.map fun x=>(x.name,x.pos)),(P.Q3.map fun x=>(x.name,x.pos)),([]:List Nm),([]:List Nm),([]:List Nm),([]:List Nm)]:=hS;clear hS;obtain⟨w4,hw4⟩:∃u:World,u=wr:=⟨_,rfl⟩;rw[←hw4]at hS3' ⊢;clear hw4 wr HS2 hl2;have hS:=hS3';clear hS3';have HL3:=(h.new hS.keep);have hp3:w4.cell? ⟨pb,6,none⟩=some v.Q8:=HL3.cell rfl;obtain⟨A3,c3,hv3,_,hn3,hl3⟩:=h.QL.Q8;rw[hv3]at hp3;have HS3:=Lib.hid hS;clear hS HL3 hv3;unfold top at hn3
 go_wp2
 clear hp3
 go_loopw [101] (fun i wr=>∃n:Nat,n≤P.Q8.length∧i=.int .i64 n∧KSt w wr z [(P.Q4.map fun x=>(x.name,x.pos))++(P.Q5.map fun x=>(x.name,x.pos)),(P.Q4.map fun x=>(x.name,x.pos)),(P.Q5.map fun x=>(x.name,x.pos)),(P.Q3.map fun x=>(x.name,x.pos)),((P.Q8.take n).map fun x=>(x.name,x.pos)),([]:List Nm),([]:List Nm),([]:List Nm)]) (fun i _=>P.Q8.length-(intOf i).toNat)
 case atStart=>exact⟨0,Nat.zero_le _,rfl,by simpa using HS3.out⟩
 case round =>
 obtain⟨n,hn,rfl,hS⟩:=hrel
 by_cases hlt:n<P.Q8.length
 ·obtain⟨b,off,rfl,hbl,hcs⟩:=hl3 (by omega)
  obtain⟨x,hx⟩:∃x,P.Q8[n]?=some x:=⟨_,List.getElem?_eq_getElem hlt⟩;have hwr:=(hcs n x hx);have hr:=(aK B _ _) _ _ _ _ _ (hS.keep.below (B:=B) (by have:=h.base;have:=h.lt;omega) (fun _ _ h=>h)) hbl hwr;obtain⟨hc,hok⟩:=hr;obtain⟨_,_,_,hsn,_⟩:=hok;have q0:=hc.c0;have q1:=hc 1 _ rfl;have q2:=hc 2 _ rfl;have q3:=hc 3 _ rfl;have q4:=hc 4 _ rfl;have q5:=hc 5 _ rfl;have q6:=hc 6 _ rfl;have q7:=hc 7 _ rfl;have hblr:b<wr.heap.size:=by have:=hS.keep.size;have:=h.base;have:=h.lt;omega
  have hsz:=hS.size;have hz9:z+9<wr.heap.size:=by omega
  have hm:=hS.cell;have m4:wr.cell? ⟨z+9,4,none⟩=some (.map (some (z+5))):=by simpa using hm 4 _ rfl
  have hsm:x.name.size≤maxLen:=by unfold ae at hsn;unfold maxLen;omega
  have HX:=Lib.hid hx;have HS:=Lib.hid hS;clear hx hS hcs hc hwr hm hsn
  go_wp2_with fail
  have hS1:=HS.out.alloc (.cells #[.int .i64 x.pos,.string x.name,.string x.QH,.string x.to,.bool x.shared,.string x.over,.int .i64 x.how,.int .u64 x.QK] 55);have hx1:(wr.alloc (.cells #[.int .i64 x.pos,.string x.name,.string x.QH,.string x.to,.bool x.shared,.string x.over,.int .i64 x.how,.int .u64 x.QK] 55)).heap[wr.heap.size]?=_:=heap_alloc_new _ _;obtain⟨D0,r0,hf0⟩:=hS1.Qi;have hz1:=hS1.size;refine(fd hf0 4 (z+5) _ rfl rfl x.name hsm x.pos (by omega) (by simp;omega)).mono ?_;rintro e w3' ⟨rfl,hk0,hf0'⟩;have hS2:=hS1.add hk0 hf0';have HE:=Lib.hid hS2;clear hS2
  go_wp2
  go_roundw
  case rel=>exact⟨n+1,by omega,by go_num,by have:=HE.out;simpa[aP HX.out]using this⟩
  case measure=>simp[intOf];omega
 obtain rfl:n=P.Q8.length:=by omega
 clear hlt hn;rw[List.take_length]at hS;have hS4':KSt w wr z [(P.Q4.map fun x=>(x.name,x.pos))++(P.Q5.map fun x=>(x.name,x.pos)),(P.Q4.map fun x=>(x.name,x.pos)),(P.Q5.map fun x=>(x.name,x.pos)),(P.Q3.map fun x=>(x.name,x.pos)),(P.Q8.map fun x=>(x.name,x.pos)),([]:List Nm),([]:List Nm),([]:List Nm)]:=hS;clear hS;obtain⟨w5,hw5⟩:∃u:World,u=wr:=⟨_,rfl⟩;rw[←hw5]at hS4' ⊢;clear hw5 wr HS3 hl3;have hS:=hS4';clear hS4';have HL4:=(h.new hS.keep);have hp4:w5.cell? ⟨pb,7,none⟩=some v.QG:=HL4.cell rfl;obtain⟨A4,c4,hv4,_,hn4,hl4⟩:=h.QL.QG;rw[hv4]at hp4;have HS4:=Lib.hid hS;clear hS HL4 hv4;unfold top at hn4
 go_wp2
 clear hp4
 go_loopw [119] (fun i wr=>∃n:Nat,n≤P.QG.length∧i=.int .i64 n∧KSt w wr z [(P.Q4.map fun x=>(x.name,x.pos))++(P.Q5.map fun x=>(x.name,x.pos)),(P.Q4.map fun x=>(x.name,x.pos)),(P.Q5.map fun x=>(x.name,x.pos)),(P.Q3.map fun x=>(x.name,x.pos)),(P.Q8.map fun x=>(x.name,x.pos)),((P.QG.take n).map fun x=>(x.name,x.pos)),([]:List Nm),([]:List Nm)]) (fun i _=>P.QG.length-(intOf i).toNat)
 case atStart=>exact⟨0,Nat.zero_le _,rfl,by simpa using HS4.out⟩
 case round =>
 obtain⟨n,hn,rfl,hS⟩:=hrel
 by_cases hlt:n<P.QG.length
 ·obtain⟨b,off,rfl,hbl,hcs⟩:=hl4 (by omega)
  obtain⟨x,hx⟩:∃x,P.QG[n]?=some x:=⟨_,List.getElem?_eq_getElem hlt⟩;have hwr:=(hcs n x hx);have hr:=(aK B _ _) _ _ _ _ _ (hS.keep.below (B:=B) (by have:=h.base;have:=h.lt;omega) (fun _ _ h=>h)) hbl hwr;obtain⟨hc,hok⟩:=hr;obtain⟨_,_,hsn,_⟩:=hok;have q0:=hc.c0;have q1:=hc 1 _ rfl;have q2:=hc 2 _ rfl;have q3:=hc 3 _ rfl;have q4:=hc 4 _ rfl;have q5:=hc 5 _ rfl;have hblr:b<wr.heap.size:=by have:=hS.keep.size;have:=h.base;have:=h.lt;omega
  have hsz:=hS.size;have hz9:z+9<wr.heap.size:=by omega
  have hm:=hS.cell;have m5:wr.cell? ⟨z+9,5,none⟩=some (.map (some (z+6))):=by simpa using hm 5 _ rfl
  have hsm:x.name.size≤maxLen:=by unfold ae at hsn;unfold maxLen;omega
  have HX:=Lib.hid hx;have HS:=Lib.hid hS;clear hx hS hcs hc hwr hm hsn
  go_wp2_with fail
  have hS1:=HS.out.alloc (.cells #[.int .i64 x.pos,.string x.name,.string x.QH,.string x.to,.int .u64 x.QK,.bool x.masked] 58);have hx1:(wr.alloc (.cells #[.int .i64 x.pos,.string x.name,.string x.QH,.string x.to,.int .u64 x.QK,.bool x.masked] 58)).heap[wr.heap.size]?=_:=heap_alloc_new _ _;obtain⟨D0,r0,hf0⟩:=hS1.Qi;have hz1:=hS1.size;refine(fd hf0 5 (z+6) _ rfl rfl x.name hsm x.pos (by omega) (by simp;omega)).mono ?_;rintro e w3' ⟨rfl,hk0,hf0'⟩;have hS2:=hS1.add hk0 hf0';have HE:=Lib.hid hS2;clear hS2
  go_wp2
  go_roundw
  case rel=>exact⟨n+1,by omega,by go_num,by have:=HE.out;simpa[aP HX.out]using this⟩
  case measure=>simp[intOf];omega
 obtain rfl:n=P.QG.length:=by omega
 clear hlt hn;rw[List.take_length]at hS;have hS5':KSt w wr z [(P.Q4.map fun x=>(x.name,x.pos))++(P.Q5.map fun x=>(x.name,x.pos)),(P.Q4.map fun x=>(x.name,x.pos)),(P.Q5.map fun x=>(x.name,x.pos)),(P.Q3.map fun x=>(x.name,x.pos)),(P.Q8.map fun x=>(x.name,x.pos)),(P.QG.map fun x=>(x.name,x.pos)),([]:List Nm),([]:List Nm)]:=hS;clear hS;obtain⟨w6,hw6⟩:∃u:World,u=wr:=⟨_,rfl⟩;rw[←hw6]at hS5' ⊢;clear hw6 wr HS4 hl4;have hS:=hS5';clear hS5';have HL5:=(h.new hS.keep);have hp5:w6.cell? ⟨pb,8,none⟩=some v.QC:=HL5.cell rfl;obtain⟨A5,c5,hv5,_,hn5,hl5⟩:=h.QL.QC;rw[hv5]at hp5;have HS5:=Lib.hid hS;clear hS HL5 hv5;unfold top at hn5
 go_wp2
 clear hp5
 go_loopw [137] (fun i wr=>∃n:Nat,n≤P.QC.length∧i=.int .i64 n∧KSt w wr z [(P.Q4.map fun x=>(x.name,x.pos))++(P.Q5.map fun x=>(x.name,x.pos)),(P.Q4.map fun x=>(x.name,x.pos)),(P.Q5.map fun x=>(x.name,x.pos)),(P.Q3.map fun x=>(x.name,x.pos)),(P.Q8.map fun x=>(x.name,x.pos)),(P.QG.map fun x=>(x.name,x.pos)),((P.QC.take n).map fun x=>(x.name,x.pos)),([]:List Nm)]) (fun i _=>P.QC.length-(intOf i).toNat)
 case atStart=>exact⟨0,Nat.zero_le _,rfl,by simpa using HS5.out⟩
 case round =>
 obtain⟨n,hn,rfl,hS⟩:=hrel
 by_cases hlt:n<P.QC.length
 ·obtain⟨b,off,rfl,hbl,hcs⟩:=hl5 (by omega)
  obtain⟨x,hx⟩:∃x,P.QC[n]?=some x:=⟨_,List.getElem?_eq_getElem hlt⟩;have hwr:=(hcs n x hx);have hr:=(aK B _ _) _ _ _ _ _ (hS.keep.below (B:=B) (by have:=h.base;have:=h.lt;omega) (fun _ _ h=>h)) hbl hwr;obtain⟨hc,hok⟩:=hr;obtain⟨_,_,_,hsn,_⟩:=hok;have q0:=hc.c0;have q1:=hc 1 _ rfl;have q2:=hc 2 _ rfl;have q3:=hc 3 _ rfl;have q4:=hc 4 _ rfl;have q5:=hc 5 _ rfl;have hblr:b<wr.heap.size:=by have:=hS.keep.size;have:=h.base;have:=h.lt;omega
  have hsz:=hS.size;have hz9:z+9<wr.heap.size:=by omega
  have hm:=hS.cell;have m6:wr.cell? ⟨z+9,6,none⟩=some (.map (some (z+7))):=by simpa using hm 6 _ rfl
  have hsm:x.name.size≤maxLen:=by unfold ae at hsn;unfold maxLen;omega
  have HX:=Lib.hid hx;have HS:=Lib.hid hS;clear hx hS hcs hc hwr hm hsn
  go_wp2_with fail
  have hS1:=HS.out.alloc (.cells #[.int .i64 x.pos,.string x.name,.string x.QH,.string x.to,.int .i64 x.how,.int .u64 x.depth] 65);have hx1:(wr.alloc (.cells #[.int .i64 x.pos,.string x.name,.string x.QH,.string x.to,.int .i64 x.how,.int .u64 x.depth] 65)).heap[wr.heap.size]?=_:=heap_alloc_new _ _;obtain⟨D0,r0,hf0⟩:=hS1.Qi;have hz1:=hS1.size;refine(fd hf0 6 (z+7) _ rfl rfl x.name hsm x.pos (by omega) (by simp;omega)).mono ?_;rintro e w3' ⟨rfl,hk0,hf0'⟩;have hS2:=hS1.add hk0 hf0';have HE:=Lib.hid hS2;clear hS2
  go_wp2
  go_roundw
  case rel=>exact⟨n+1,by omega,by go_num,by have:=HE.out;simpa[aP HX.out]using this⟩
  case measure=>simp[intOf];omega
 obtain rfl:n=P.QC.length:=by omega
 clear hlt hn;rw[List.take_length]at hS;have hS6':KSt w wr z [(P.Q4.map fun x=>(x.name,x.pos))++(P.Q5.map fun x=>(x.name,x.pos)),(P.Q4.map fun x=>(x.name,x.pos)),(P.Q5.map fun x=>(x.name,x.pos)),(P.Q3.map fun x=>(x.name,x.pos)),(P.Q8.map fun x=>(x.name,x.pos)),(P.QG.map fun x=>(x.name,x.pos)),(P.QC.map fun x=>(x.name,x.pos)),([]:List Nm)]:=hS;clear hS;obtain⟨w7,hw7⟩:∃u:World,u=wr:=⟨_,rfl⟩;rw[←hw7]at hS6' ⊢;clear hw7 wr HS5 hl5;have hS:=hS6';clear hS6';have HL6:=(h.new hS.keep);have hp6:w7.cell? ⟨pb,9,none⟩=some v.Q9:=HL6.cell rfl;obtain⟨A6,c6,hv6,_,hn6,hl6⟩:=h.QL.Q9;rw[hv6]at hp6;have HS6:=Lib.hid hS;clear hS HL6 hv6;unfold top at hn6
 go_wp2
 clear hp6
 go_loopw [155] (fun i wr=>∃n:Nat,n≤P.Q9.length∧i=.int .i64 n∧KSt w wr z [(P.Q4.map fun x=>(x.name,x.pos))++(P.Q5.map fun x=>(x.name,x.pos)),(P.Q4.map fun x=>(x.name,x.pos)),(P.Q5.map fun x=>(x.name,x.pos)),(P.Q3.map fun x=>(x.name,x.pos)),(P.Q8.map fun x=>(x.name,x.pos)),(P.QG.map fun x=>(x.name,x.pos)),(P.QC.map fun x=>(x.name,x.pos)),((P.Q9.take n).map fun x=>(x.name,x.pos))]) (fun i _=>P.Q9.length-(intOf i).toNat)
 case atStart=>exact⟨0,Nat.zero_le _,rfl,by simpa using HS6.out⟩
 case round =>
 obtain⟨n,hn,rfl,hS⟩:=hrel
 by_cases hlt:n<P.Q9.length
 ·obtain⟨b,off,rfl,hbl,hcs⟩:=hl6 (by omega)
  obtain⟨x,hx⟩:∃x,P.Q9[n]?=some x:=⟨_,List.getElem?_eq_getElem hlt⟩;have hwr:=(hcs n x hx);have hr:=ek B _ _ _ _ _ (hS.keep.below (B:=B) (by have:=h.base;have:=h.lt;omega) (fun _ _ h=>h)) hbl hwr;obtain⟨u1,hc,⟨Am,cm,rfl,_,_⟩,_,_,hsn⟩:=hr;have q0:=hc.c0;have q1:=hc 1 _ rfl;have q2:=hc 2 _ rfl;have q3:=hc 3 _ rfl;have hblr:b<wr.heap.size:=by have:=hS.keep.size;have:=h.base;have:=h.lt;omega
  have hsz:=hS.size;have hz9:z+9<wr.heap.size:=by omega
  have hm:=hS.cell;have m7:wr.cell? ⟨z+9,7,none⟩=some (.map (some (z+8))):=by simpa using hm 7 _ rfl
  have hsm:x.name.size≤maxLen:=by unfold ae at hsn;unfold maxLen;omega
  have HX:=Lib.hid hx;have HS:=Lib.hid hS;clear hx hS hcs hc hwr hm hsn
  go_wp2_with fail
  have hS1:=HS.out.alloc (.cells #[.int .i64 x.pos,.string x.name,.int .u64 x.QN,.slice Am x.QJ.length cm] 62);have hx1:(wr.alloc (.cells #[.int .i64 x.pos,.string x.name,.int .u64 x.QN,.slice Am x.QJ.length cm] 62)).heap[wr.heap.size]?=_:=heap_alloc_new _ _;obtain⟨D0,r0,hf0⟩:=hS1.Qi;have hz1:=hS1.size;refine(fd hf0 7 (z+8) _ rfl rfl x.name hsm x.pos (by omega) (by simp;omega)).mono ?_;rintro e w3' ⟨rfl,hk0,hf0'⟩;have hS2:=hS1.add hk0 hf0';have HE:=Lib.hid hS2;clear hS2
  go_wp2
  go_roundw
  case rel=>exact⟨n+1,by omega,by go_num,by have:=HE.out;simpa[aP HX.out]using this⟩
  case measure=>simp[intOf];omega
 obtain rfl:n=P.Q9.length:=by omega
 clear hlt hn;rw[List.take_length]at hS;have hS7':KSt w wr z [(P.Q4.map fun x=>(x.name,x.pos))++(P.Q5.map fun x=>(x.name,x.pos)),(P.Q4.map fun x=>(x.name,x.pos)),(P.Q5.map fun x=>(x.name,x.pos)),(P.Q3.map fun x=>(x.name,x.pos)),(P.Q8.map fun x=>(x.name,x.pos)),(P.QG.map fun x=>(x.name,x.pos)),(P.QC.map fun x=>(x.name,x.pos)),(P.Q9.map fun x=>(x.name,x.pos))]:=hS;clear hS;obtain⟨w8,hw8⟩:∃u:World,u=wr:=⟨_,rfl⟩;rw[←hw8]at hS7' ⊢;clear hw8 wr HS6 hl6;have hS:=hS7';clear hS7';have hm:=hS.cell;have hkk:=hS.k;have hoo:=hS.o;have hsz:=hS.size;have HS:=Lib.hid hS;have m0:w8.cell? ⟨z+9,0,none⟩=some (.map (some (z+1))):=by simpa using hm 0 _ rfl
 have m1:w8.cell? ⟨z+9,1,none⟩=some (.map (some (z+2))):=by simpa using hm 1 _ rfl
 have m2:w8.cell? ⟨z+9,2,none⟩=some (.map (some (z+3))):=by simpa using hm 2 _ rfl
 have m3:w8.cell? ⟨z+9,3,none⟩=some (.map (some (z+4))):=by simpa using hm 3 _ rfl
 have m4:w8.cell? ⟨z+9,4,none⟩=some (.map (some (z+5))):=by simpa using hm 4 _ rfl
 have m5:w8.cell? ⟨z+9,5,none⟩=some (.map (some (z+6))):=by simpa using hm 5 _ rfl
 have m6:w8.cell? ⟨z+9,6,none⟩=some (.map (some (z+7))):=by simpa using hm 6 _ rfl
 have m7:w8.cell? ⟨z+9,7,none⟩=some (.map (some (z+8))):=by simpa using hm 7 _ rfl
 have o0:w8.cell? ⟨z,0,none⟩=some (.map none):=by rw[cell_of_row _ _ _ _ _ _ hoo];rfl
 have f0:w8.frozen? ⟨z,0,none⟩=false:=by simp[World.frozen?,hoo]
 have o1:w8.cell? ⟨z,1,none⟩=some (.map none):=by rw[cell_of_row _ _ _ _ _ _ hoo];rfl
 have f1:w8.frozen? ⟨z,1,none⟩=false:=by simp[World.frozen?,hoo]
 have o2:w8.cell? ⟨z,2,none⟩=some (.map none):=by rw[cell_of_row _ _ _ _ _ _ hoo];rfl
 have f2:w8.frozen? ⟨z,2,none⟩=false:=by simp[World.frozen?,hoo]
 have o3:w8.cell? ⟨z,3,none⟩=some (.map none):=by rw[cell_of_row _ _ _ _ _ _ hoo];rfl
 have f3:w8.frozen? ⟨z,3,none⟩=false:=by simp[World.frozen?,hoo]
 have o4:w8.cell? ⟨z,4,none⟩=some (.map none):=by rw[cell_of_row _ _ _ _ _ _ hoo];rfl
 have f4:w8.frozen? ⟨z,4,none⟩=false:=by simp[World.frozen?,hoo]
 have o5:w8.cell? ⟨z,5,none⟩=some (.map none):=by rw[cell_of_row _ _ _ _ _ _ hoo];rfl
 have f5:w8.frozen? ⟨z,5,none⟩=false:=by simp[World.frozen?,hoo]
 have o6:w8.cell? ⟨z,6,none⟩=some (.map none):=by rw[cell_of_row _ _ _ _ _ _ hoo];rfl
 have f6:w8.frozen? ⟨z,6,none⟩=false:=by simp[World.frozen?,hoo]
 have o7:w8.cell? ⟨z,7,none⟩=some (.map none):=by rw[cell_of_row _ _ _ _ _ _ hoo];rfl
 have f7:w8.frozen? ⟨z,7,none⟩=false:=by simp[World.frozen?,hoo]
 clear hS hm hkk hoo;rw[←HZ.out]
 go_wp2
 have hS:=HS.out;obtain⟨D,r,hF⟩:=hS.Qi;have hk2:aB (fun k=>k=z) w8 ((((((((w8.setCell ⟨z,0,none⟩ (.map (some (z+1)))).setCell ⟨z,1,none⟩ (.map (some (z+2)))).setCell ⟨z,2,none⟩ (.map (some (z+3)))).setCell ⟨z,3,none⟩ (.map (some (z+4)))).setCell ⟨z,4,none⟩ (.map (some (z+5)))).setCell ⟨z,5,none⟩ (.map (some (z+6)))).setCell ⟨z,6,none⟩ (.map (some (z+7)))).setCell ⟨z,7,none⟩ (.map (some (z+8)))):=
  ((((((((aB.refl (fun k=>k=z) w8).setCell (p:=⟨z,0,none⟩) (fun _=>rfl) _).setCell (p:=⟨z,1,none⟩) (fun _=>rfl) _).setCell (p:=⟨z,2,none⟩) (fun _=>rfl) _).setCell (p:=⟨z,3,none⟩) (fun _=>rfl) _).setCell (p:=⟨z,4,none⟩) (fun _=>rfl) _).setCell (p:=⟨z,5,none⟩) (fun _=>rfl) _).setCell (p:=⟨z,6,none⟩) (fun _=>rfl) _).setCell (p:=⟨z,7,none⟩) (fun _=>rfl) _
 refine bodyPost_ret (v := .agg (cF z)) (by simp[results,Tryz.results70,go_sem,cF,o0,o1,o2,o3,o4,o5,o6,o7]) rfl ?_;rw[←HZ.out];exact⟨rfl,hS.keep.trans hk2 (fun i hi e=>by have:=HZ.out;omega),D,r,hF.keep hk2 (fun k e _=>⟨by omega,fun hm=>by have:=ep hm;omega⟩)⟩
theorem yQ(x:Ck.Ram)(w:World):Calls Tryz.prog 78 #[.agg #[.int .i64 x.pos,.int .u64 x.Q7,.int .u64 x.size]] w fun e w'=>e=.returned (.int .i64 x.pos)∧Kz w w':=by
 go_enter Tryz.func78,Tryz.ntmps78
 go_wp2
 go_ret
 exact⟨rfl,(aB.refl _ w).alloc _⟩
theorem xM{v:aV}{P:aC}(h:aF B w pb v P eO L){u:Value}{a:List Ck.Ram}(E:aT B 3 fP w u a)(n:Nat)(H:n≤65536):
 Calls Tryz.prog 77 #[.pointer (some ⟨pb,0,none⟩),u,.int .i64 n,.func (.func 78) #[] #[]] w fun e w'=>e=.returned (.tuple #[])∧aF B w' pb v P eO (bX Ck.Ram.pos n a++L)∧aB (fun k=>k=pb) w w':=by
 obtain⟨A,c,rfl,D,l,p⟩:=E;unfold top at l
 by_cases hlt:n<a.length
 ·obtain⟨G,off,rfl,C,b⟩:=p (by omega)
  obtain⟨x,hx⟩:∃x,a[n]?=some x:=⟨_,List.getElem?_eq_getElem hlt⟩;obtain⟨g,_⟩:=b n x hx;have i:bX Ck.Ram.pos n a=[(x.pos,0)]:=by unfold bX;rw[hx]
  rw[i];have I:=g.c0;have J:=g 1 _ rfl;have K:=g 2 _ rfl;clear g b hx i p
  go_enter Tryz.func77,Tryz.ntmps77
  go_wp2_with fail
  refine(yQ x _).mono ?_;rintro e M ⟨rfl,hk⟩;have r:=h.new hk;have q:=Lib.hid hk;clear hk
  go_wp2_with fail
  refine(cW x.pos 0 4 r rfl).mono ?_;rintro e N ⟨rfl,y,d⟩;have j:=Lib.hid d;clear d
  go_wp2
  go_end0
  exact⟨rfl,y,(q.out.mono (T:=fun k=>k=pb) fun _ _ h=>h.elim).trans j.out (fun _ _ e=>e)⟩
 ·have i:bX Ck.Ram.pos n a=[]:=by unfold bX;rw[List.getElem?_eq_none (by omega)]
  rw[i]
  go_enter Tryz.func77,Tryz.ntmps77
  go_wp2
  go_end0
  exact⟨rfl,h,aB.refl _ _⟩
theorem tW(x:Ck.bE)(Am:Option Addr)(a:Nat)(w:World):Calls Tryz.prog 80 #[.agg #[.int .i64 x.pos,.string x.name,.int .u64 x.Q7,.int .u64 x.size,.slice Am x.maps.length a]] w fun e w'=>e=.returned (.int .i64 x.pos)∧Kz w w':=by
 go_enter Tryz.func80,Tryz.ntmps80
 go_wp2
 go_ret
 exact⟨rfl,(aB.refl _ w).alloc _⟩
theorem ra{v:aV}{P:aC}(h:aF B w pb v P eO L){u:Value}{b:List Ck.bE}(G:aT B 5 (jI B) w u b)(n:Nat)(I:n≤65536):
 Calls Tryz.prog 79 #[.pointer (some ⟨pb,0,none⟩),u,.int .i64 n,.func (.func 80) #[] #[]] w fun e w'=>e=.returned (.tuple #[])∧aF B w' pb v P eO (bX Ck.bE.pos n b++L)∧aB (fun k=>k=pb) w w':=by
 obtain⟨A,c,rfl,E,l,p⟩:=G;unfold top at l
 by_cases hlt:n<b.length
 ·obtain⟨H,off,rfl,D,d⟩:=p (by omega)
  obtain⟨x,hx⟩:∃x,b[n]?=some x:=⟨_,List.getElem?_eq_getElem hlt⟩;obtain⟨Q,a,⟨Am,r,rfl,_⟩,_⟩:=d n x hx;have i:bX Ck.bE.pos n b=[(x.pos,0)]:=by unfold bX;rw[hx]
  rw[i];have J:=a.c0;have K:=a 1 _ rfl;have M:=a 2 _ rfl;have N:=a 3 _ rfl;have O:=a 4 _ rfl;clear a d hx i p
  go_enter Tryz.func79,Tryz.ntmps79
  go_wp2_with fail
  refine(tW x Am r _).mono ?_;rintro e R ⟨rfl,hk⟩;have y:=h.new hk;have q:=Lib.hid hk;clear hk
  go_wp2_with fail
  refine(cW x.pos 0 4 y rfl).mono ?_;rintro e S ⟨rfl,C,g⟩;have j:=Lib.hid g;clear g
  go_wp2
  go_end0
  exact⟨rfl,C,(q.out.mono (T:=fun k=>k=pb) fun _ _ h=>h.elim).trans j.out (fun _ _ e=>e)⟩
 ·have i:bX Ck.bE.pos n b=[]:=by unfold bX;rw[List.getElem?_eq_none (by omega)]
  rw[i]
  go_enter Tryz.func79,Tryz.ntmps79
  go_wp2
  go_end0
  exact⟨rfl,h,aB.refl _ _⟩
theorem tV(x:Ck.Region)(w:World):Calls Tryz.prog 82 #[.agg #[.int .i64 x.pos,.string x.name,.int .u64 x.size,.bool x.fixed,.int .u64 x.Q7,.bool x.big,.bool x.wx,.int .u64 x.fill,.bool x.QS,.string x.text]] w fun e w'=>e=.returned (.int .i64 x.pos)∧Kz w w':=by
 go_enter Tryz.func82,Tryz.ntmps82
 go_wp2
 go_ret
 exact⟨rfl,(aB.refl _ w).alloc _⟩
theorem rZ{v:aV}{P:aC}(h:aF B w pb v P eO L){u:Value}{b:List Ck.Region}(E:aT B 10 cO w u b)(n:Nat)(H:n≤65536):
 Calls Tryz.prog 81 #[.pointer (some ⟨pb,0,none⟩),u,.int .i64 n,.func (.func 82) #[] #[]] w fun e w'=>e=.returned (.tuple #[])∧aF B w' pb v P eO (bX Ck.Region.pos n b++L)∧aB (fun k=>k=pb) w w':=by
 obtain⟨A,c,rfl,D,l,p⟩:=E;unfold top at l
 by_cases hlt:n<b.length
 ·obtain⟨G,off,rfl,C,d⟩:=p (by omega)
  obtain⟨x,hx⟩:∃x,b[n]?=some x:=⟨_,List.getElem?_eq_getElem hlt⟩;obtain⟨a,_⟩:=d n x hx;have i:bX Ck.Region.pos n b=[(x.pos,0)]:=by unfold bX;rw[hx]
  rw[i];have I:=a.c0;have J:=a 1 _ rfl;have K:=a 2 _ rfl;have M:=a 3 _ rfl;have N:=a 4 _ rfl;have O:=a 5 _ rfl;have Q:=a 6 _ rfl;have R:=a 7 _ rfl;have S:=a 8 _ rfl;have U:=a 9 _ rfl;clear a d hx i p
  go_enter Tryz.func81,Tryz.ntmps81
  go_wp2_with fail
  refine(tV x _).mono ?_;rintro e V ⟨rfl,hk⟩;have r:=h.new hk;have q:=Lib.hid hk;clear hk
  go_wp2_with fail
  refine(cW x.pos 0 4 r rfl).mono ?_;rintro e W ⟨rfl,y,g⟩;have j:=Lib.hid g;clear g
  go_wp2
  go_end0
  exact⟨rfl,y,(q.out.mono (T:=fun k=>k=pb) fun _ _ h=>h.elim).trans j.out (fun _ _ e=>e)⟩
 ·have i:bX Ck.Region.pos n b=[]:=by unfold bX;rw[List.getElem?_eq_none (by omega)]
  rw[i]
  go_enter Tryz.func81,Tryz.ntmps81
  go_wp2
  go_end0
  exact⟨rfl,h,aB.refl _ _⟩
theorem rN(x:Ck.aS)(Am:Option Addr)(b:Nat)(Am2:Option Addr)(a:Nat)(w:World):Calls Tryz.prog 84 #[.agg #[.int .i64 x.pos,.string x.name,.int .u64 x.QP,.bool x.stopped,.slice Am x.maps.length b,.slice Am2 x.QR.length a]] w fun e w'=>e=.returned (.int .i64 x.pos)∧Kz w w':=by
 go_enter Tryz.func84,Tryz.ntmps84
 go_wp2
 go_ret
 exact⟨rfl,(aB.refl _ w).alloc _⟩
theorem qK{v:aV}{P:aC}(h:aF B w pb v P eO L){u:Value}{b:List Ck.aS}(H:aT B 6 (gc B) w u b)(n:Nat)(J:n≤65536):
 Calls Tryz.prog 83 #[.pointer (some ⟨pb,0,none⟩),u,.int .i64 n,.func (.func 84) #[] #[]] w fun e w'=>e=.returned (.tuple #[])∧aF B w' pb v P eO (bX Ck.aS.pos n b++L)∧aB (fun k=>k=pb) w w':=by
 obtain⟨A,c,rfl,G,p,q⟩:=H;unfold top at p
 by_cases hlt:n<b.length
 ·obtain⟨I,off,rfl,E,d⟩:=q (by omega)
  obtain⟨x,hx⟩:∃x,b[n]?=some x:=⟨_,List.getElem?_eq_getElem hlt⟩;obtain⟨S,U,a,⟨Am,y,rfl,_⟩,⟨Am2,l,rfl,_⟩,_⟩:=d n x hx;have i:bX Ck.aS.pos n b=[(x.pos,0)]:=by unfold bX;rw[hx]
  rw[i];have K:=a.c0;have M:=a 1 _ rfl;have N:=a 2 _ rfl;have O:=a 3 _ rfl;have Q:=a 4 _ rfl;have R:=a 5 _ rfl;clear a d hx i q
  go_enter Tryz.func83,Tryz.ntmps83
  go_wp2_with fail
  refine(rN x Am y Am2 l _).mono ?_;rintro e V ⟨rfl,hk⟩;have C:=h.new hk;have r:=Lib.hid hk;clear hk
  go_wp2_with fail
  refine(cW x.pos 0 4 C rfl).mono ?_;rintro e W ⟨rfl,D,g⟩;have j:=Lib.hid g;clear g
  go_wp2
  go_end0
  exact⟨rfl,D,(r.out.mono (T:=fun k=>k=pb) fun _ _ h=>h.elim).trans j.out (fun _ _ e=>e)⟩
 ·have i:bX Ck.aS.pos n b=[]:=by unfold bX;rw[List.getElem?_eq_none (by omega)]
  rw[i]
  go_enter Tryz.func83,Tryz.ntmps83
  go_wp2
  go_end0
  exact⟨rfl,h,aB.refl _ _⟩
theorem rO(x:Ck.b7)(w:World):Calls Tryz.prog 86 #[.agg #[.int .i64 x.pos,.string x.name,.string x.QH,.string x.to,.bool x.shared,.string x.over,.int .i64 x.how,.int .u64 x.QK]] w fun e w'=>e=.returned (.int .i64 x.pos)∧Kz w w':=by
 go_enter Tryz.func86,Tryz.ntmps86
 go_wp2
 go_ret
 exact⟨rfl,(aB.refl _ w).alloc _⟩
theorem qL{v:aV}{P:aC}(h:aF B w pb v P eO L){u:Value}{b:List Ck.b7}(E:aT B 8 cB w u b)(n:Nat)(H:n≤65536):
 Calls Tryz.prog 85 #[.pointer (some ⟨pb,0,none⟩),u,.int .i64 n,.func (.func 86) #[] #[]] w fun e w'=>e=.returned (.tuple #[])∧aF B w' pb v P eO (bX Ck.b7.pos n b++L)∧aB (fun k=>k=pb) w w':=by
 obtain⟨A,c,rfl,D,l,p⟩:=E;unfold top at l
 by_cases hlt:n<b.length
 ·obtain⟨G,off,rfl,C,d⟩:=p (by omega)
  obtain⟨x,hx⟩:∃x,b[n]?=some x:=⟨_,List.getElem?_eq_getElem hlt⟩;obtain⟨a,_⟩:=d n x hx;have i:bX Ck.b7.pos n b=[(x.pos,0)]:=by unfold bX;rw[hx]
  rw[i];have I:=a.c0;have J:=a 1 _ rfl;have K:=a 2 _ rfl;have M:=a 3 _ rfl;have N:=a 4 _ rfl;have O:=a 5 _ rfl;have Q:=a 6 _ rfl;have R:=a 7 _ rfl;clear a d hx i p
  go_enter Tryz.func85,Tryz.ntmps85
  go_wp2_with fail
  refine(rO x _).mono ?_;rintro e S ⟨rfl,hk⟩;have r:=h.new hk;have q:=Lib.hid hk;clear hk
  go_wp2_with fail
  refine(cW x.pos 0 4 r rfl).mono ?_;rintro e U ⟨rfl,y,g⟩;have j:=Lib.hid g;clear g
  go_wp2
  go_end0
  exact⟨rfl,y,(q.out.mono (T:=fun k=>k=pb) fun _ _ h=>h.elim).trans j.out (fun _ _ e=>e)⟩
 ·have i:bX Ck.b7.pos n b=[]:=by unfold bX;rw[List.getElem?_eq_none (by omega)]
  rw[i]
  go_enter Tryz.func85,Tryz.ntmps85
  go_wp2
  go_end0
  exact⟨rfl,h,aB.refl _ _⟩
theorem yS(x:Ck.Irq)(w:World):Calls Tryz.prog 88 #[.agg #[.int .i64 x.pos,.string x.name,.string x.QH,.string x.to,.int .u64 x.QK,.bool x.masked]] w fun e w'=>e=.returned (.int .i64 x.pos)∧Kz w w':=by
 go_enter Tryz.func88,Tryz.ntmps88
 go_wp2
 go_ret
 exact⟨rfl,(aB.refl _ w).alloc _⟩
theorem xO{v:aV}{P:aC}(h:aF B w pb v P eO L){u:Value}{b:List Ck.Irq}(E:aT B 6 fR w u b)(n:Nat)(H:n≤65536):
 Calls Tryz.prog 87 #[.pointer (some ⟨pb,0,none⟩),u,.int .i64 n,.func (.func 88) #[] #[]] w fun e w'=>e=.returned (.tuple #[])∧aF B w' pb v P eO (bX Ck.Irq.pos n b++L)∧aB (fun k=>k=pb) w w':=by
 obtain⟨A,c,rfl,D,l,p⟩:=E;unfold top at l
 by_cases hlt:n<b.length
 ·obtain⟨G,off,rfl,C,d⟩:=p (by omega)
  obtain⟨x,hx⟩:∃x,b[n]?=some x:=⟨_,List.getElem?_eq_getElem hlt⟩;obtain⟨a,_⟩:=d n x hx;have i:bX Ck.Irq.pos n b=[(x.pos,0)]:=by unfold bX;rw[hx]
  rw[i];have I:=a.c0;have J:=a 1 _ rfl;have K:=a 2 _ rfl;have M:=a 3 _ rfl;have N:=a 4 _ rfl;have O:=a 5 _ rfl;clear a d hx i p
  go_enter Tryz.func87,Tryz.ntmps87
  go_wp2_with fail
  refine(yS x _).mono ?_;rintro e Q ⟨rfl,hk⟩;have r:=h.new hk;have q:=Lib.hid hk;clear hk
  go_wp2_with fail
  refine(cW x.pos 0 4 r rfl).mono ?_;rintro e R ⟨rfl,y,g⟩;have j:=Lib.hid g;clear g
  go_wp2
  go_end0
  exact⟨rfl,y,(q.out.mono (T:=fun k=>k=pb) fun _ _ h=>h.elim).trans j.out (fun _ _ e=>e)⟩
 ·have i:bX Ck.Irq.pos n b=[]:=by unfold bX;rw[List.getElem?_eq_none (by omega)]
  rw[i]
  go_enter Tryz.func87,Tryz.ntmps87
  go_wp2
  go_end0
  exact⟨rfl,h,aB.refl _ _⟩
theorem vR(x:Ck.dt)(w:World):Calls Tryz.prog 90 #[.agg #[.int .i64 x.pos,.string x.name,.string x.QH,.string x.to,.int .i64 x.how,.int .u64 x.depth]] w fun e w'=>e=.returned (.int .i64 x.pos)∧Kz w w':=by
 go_enter Tryz.func90,Tryz.ntmps90
 go_wp2
 go_ret
 exact⟨rfl,(aB.refl _ w).alloc _⟩
theorem tk{v:aV}{P:aC}(h:aF B w pb v P eO L){u:Value}{b:List Ck.dt}(E:aT B 6 co w u b)(n:Nat)(H:n≤65536):
 Calls Tryz.prog 89 #[.pointer (some ⟨pb,0,none⟩),u,.int .i64 n,.func (.func 90) #[] #[]] w fun e w'=>e=.returned (.tuple #[])∧aF B w' pb v P eO (bX Ck.dt.pos n b++L)∧aB (fun k=>k=pb) w w':=by
 obtain⟨A,c,rfl,D,l,p⟩:=E;unfold top at l
 by_cases hlt:n<b.length
 ·obtain⟨G,off,rfl,C,d⟩:=p (by omega)
  obtain⟨x,hx⟩:∃x,b[n]?=some x:=⟨_,List.getElem?_eq_getElem hlt⟩;obtain⟨a,_⟩:=d n x hx;have i:bX Ck.dt.pos n b=[(x.pos,0)]:=by unfold bX;rw[hx]
  rw[i];have I:=a.c0;have J:=a 1 _ rfl;have K:=a 2 _ rfl;have M:=a 3 _ rfl;have N:=a 4 _ rfl;have O:=a 5 _ rfl;clear a d hx i p
  go_enter Tryz.func89,Tryz.ntmps89
  go_wp2_with fail
  refine(vR x _).mono ?_;rintro e Q ⟨rfl,hk⟩;have r:=h.new hk;have q:=Lib.hid hk;clear hk
  go_wp2_with fail
  refine(cW x.pos 0 4 r rfl).mono ?_;rintro e R ⟨rfl,y,g⟩;have j:=Lib.hid g;clear g
  go_wp2
  go_end0
  exact⟨rfl,y,(q.out.mono (T:=fun k=>k=pb) fun _ _ h=>h.elim).trans j.out (fun _ _ e=>e)⟩
 ·have i:bX Ck.dt.pos n b=[]:=by unfold bX;rw[List.getElem?_eq_none (by omega)]
  rw[i]
  go_enter Tryz.func89,Tryz.ntmps89
  go_wp2
  go_end0
  exact⟨rfl,h,aB.refl _ _⟩
theorem yT(x:Ck.Ban)(w:World):Calls Tryz.prog 92 #[.agg #[.int .i64 x.pos,.string x.QH,.string x.to]] w fun e w'=>e=.returned (.int .i64 x.pos)∧Kz w w':=by
 go_enter Tryz.func92,Tryz.ntmps92
 go_wp2
 go_ret
 exact⟨rfl,(aB.refl _ w).alloc _⟩
theorem xP{v:aV}{P:aC}(h:aF B w pb v P eO L){u:Value}{a:List Ck.Ban}(E:aT B 3 fS w u a)(n:Nat)(H:n≤65536):
 Calls Tryz.prog 91 #[.pointer (some ⟨pb,0,none⟩),u,.int .i64 n,.func (.func 92) #[] #[]] w fun e w'=>e=.returned (.tuple #[])∧aF B w' pb v P eO (bX Ck.Ban.pos n a++L)∧aB (fun k=>k=pb) w w':=by
 obtain⟨A,c,rfl,D,l,p⟩:=E;unfold top at l
 by_cases hlt:n<a.length
 ·obtain⟨G,off,rfl,C,b⟩:=p (by omega)
  obtain⟨x,hx⟩:∃x,a[n]?=some x:=⟨_,List.getElem?_eq_getElem hlt⟩;obtain⟨g,_⟩:=b n x hx;have i:bX Ck.Ban.pos n a=[(x.pos,0)]:=by unfold bX;rw[hx]
  rw[i];have I:=g.c0;have J:=g 1 _ rfl;have K:=g 2 _ rfl;clear g b hx i p
  go_enter Tryz.func91,Tryz.ntmps91
  go_wp2_with fail
  refine(yT x _).mono ?_;rintro e M ⟨rfl,hk⟩;have r:=h.new hk;have q:=Lib.hid hk;clear hk
  go_wp2_with fail
  refine(cW x.pos 0 4 r rfl).mono ?_;rintro e N ⟨rfl,y,d⟩;have j:=Lib.hid d;clear d
  go_wp2
  go_end0
  exact⟨rfl,y,(q.out.mono (T:=fun k=>k=pb) fun _ _ h=>h.elim).trans j.out (fun _ _ e=>e)⟩
 ·have i:bX Ck.Ban.pos n a=[]:=by unfold bX;rw[List.getElem?_eq_none (by omega)]
  rw[i]
  go_enter Tryz.func91,Tryz.ntmps91
  go_wp2
  go_end0
  exact⟨rfl,h,aB.refl _ _⟩
theorem xE(x:Ck.eZ)(Am:Option Addr)(a:Nat)(w:World):Calls Tryz.prog 94 #[.agg #[.int .i64 x.pos,.string x.name,.int .u64 x.QN,.slice Am x.QJ.length a]] w fun e w'=>e=.returned (.int .i64 x.pos)∧Kz w w':=by
 go_enter Tryz.func94,Tryz.ntmps94
 go_wp2
 go_ret
 exact⟨rfl,(aB.refl _ w).alloc _⟩
theorem vg{v:aV}{P:aC}(h:aF B w pb v P eO L){u:Value}{a:List Ck.eZ}(G:aT B 4 (mq B) w u a)(n:Nat)(I:n≤65536):
 Calls Tryz.prog 93 #[.pointer (some ⟨pb,0,none⟩),u,.int .i64 n,.func (.func 94) #[] #[]] w fun e w'=>e=.returned (.tuple #[])∧aF B w' pb v P eO (bX Ck.eZ.pos n a++L)∧aB (fun k=>k=pb) w w':=by
 obtain⟨A,c,rfl,E,l,p⟩:=G;unfold top at l
 by_cases hlt:n<a.length
 ·obtain⟨H,off,rfl,D,d⟩:=p (by omega)
  obtain⟨x,hx⟩:∃x,a[n]?=some x:=⟨_,List.getElem?_eq_getElem hlt⟩;obtain⟨O,b,⟨Am,r,rfl,_⟩,_⟩:=d n x hx;have i:bX Ck.eZ.pos n a=[(x.pos,0)]:=by unfold bX;rw[hx]
  rw[i];have J:=b.c0;have K:=b 1 _ rfl;have M:=b 2 _ rfl;have N:=b 3 _ rfl;clear b d hx i p
  go_enter Tryz.func93,Tryz.ntmps93
  go_wp2_with fail
  refine(xE x Am r _).mono ?_;rintro e Q ⟨rfl,hk⟩;have y:=h.new hk;have q:=Lib.hid hk;clear hk
  go_wp2_with fail
  refine(cW x.pos 0 4 y rfl).mono ?_;rintro e R ⟨rfl,C,g⟩;have j:=Lib.hid g;clear g
  go_wp2
  go_end0
  exact⟨rfl,C,(q.out.mono (T:=fun k=>k=pb) fun _ _ h=>h.elim).trans j.out (fun _ _ e=>e)⟩
 ·have i:bX Ck.eZ.pos n a=[]:=by unfold bX;rw[List.getElem?_eq_none (by omega)]
  rw[i]
  go_enter Tryz.func93,Tryz.ntmps93
  go_wp2
  go_end0
  exact⟨rfl,h,aB.refl _ _⟩
theorem yR(x:Ck.Map)(w:World):Calls Tryz.prog 97 #[.agg #[.int .i64 x.pos,.string x.of,.int .u64 x.Q7,.bool x.write,.bool x.exec]] w fun e w'=>e=.returned (.int .i64 x.pos)∧Kz w w':=by
 go_enter Tryz.func97,Tryz.ntmps97
 go_wp2
 go_ret
 exact⟨rfl,(aB.refl _ w).alloc _⟩
theorem xN{v:aV}{P:aC}(h:aF B w pb v P eO L){u:Value}{b:List Ck.Map}(E:aT B 5 cD w u b)(n:Nat)(H:n≤65536):
 Calls Tryz.prog 96 #[.pointer (some ⟨pb,0,none⟩),u,.int .i64 n,.func (.func 97) #[] #[]] w fun e w'=>e=.returned (.tuple #[])∧aF B w' pb v P eO (bX Ck.Map.pos n b++L)∧aB (fun k=>k=pb) w w':=by
 obtain⟨A,c,rfl,D,l,p⟩:=E;unfold top at l
 by_cases hlt:n<b.length
 ·obtain⟨G,off,rfl,C,d⟩:=p (by omega)
  obtain⟨x,hx⟩:∃x,b[n]?=some x:=⟨_,List.getElem?_eq_getElem hlt⟩;obtain⟨a,_⟩:=d n x hx;have i:bX Ck.Map.pos n b=[(x.pos,0)]:=by unfold bX;rw[hx]
  rw[i];have I:=a.c0;have J:=a 1 _ rfl;have K:=a 2 _ rfl;have M:=a 3 _ rfl;have N:=a 4 _ rfl;clear a d hx i p
  go_enter Tryz.func96,Tryz.ntmps96
  go_wp2_with fail
  refine(yR x _).mono ?_;rintro e O ⟨rfl,hk⟩;have r:=h.new hk;have q:=Lib.hid hk;clear hk
  go_wp2_with fail
  refine(cW x.pos 0 4 r rfl).mono ?_;rintro e Q ⟨rfl,y,g⟩;have j:=Lib.hid g;clear g
  go_wp2
  go_end0
  exact⟨rfl,y,(q.out.mono (T:=fun k=>k=pb) fun _ _ h=>h.elim).trans j.out (fun _ _ e=>e)⟩
 ·have i:bX Ck.Map.pos n b=[]:=by unfold bX;rw[List.getElem?_eq_none (by omega)]
  rw[i]
  go_enter Tryz.func96,Tryz.ntmps96
  go_wp2
  go_end0
  exact⟨rfl,h,aB.refl _ _⟩
def SpV(B:Nat)(w:World)(vals:List Value)(ls:List (List Map)):Prop:=
 vals.length=ls.length∧∀(i:Nat) (u:Value) (l:List Map),vals[i]?=some u→ls[i]?=some l→aT B 5 cD w u l
theorem SpV.snoc{a:List Value}{ls:List (List Map)}(h:SpV B w a ls){u:Value}{l:List Map}(e:aT B 5 cD w u l):SpV B w (a++[u]) (ls++[l]):=by
 refine⟨by simp[h.1],fun i v m hv b=>?_⟩
 rcases Nat.lt_or_ge i a.length with d|d
 ·rw[List.getElem?_append_left d]at hv
  rw[List.getElem?_append_left (by rw[←h.1];exact d)]at b;exact h.2 i v m hv b
 ·rw[List.getElem?_append_right d]at hv
  rw[List.getElem?_append_right (by rw[←h.1];exact d),←h.1]at b
  cases hj:i-a.length with
  | zero =>
   rw[hj]at hv b;simp only[List.getElem?_cons_zero,Option.some.injEq]at hv b;subst hv b;exact e
  | succ j=>rw[hj]at hv;simp at hv
theorem Tryz.info43:(Tryz.prog.info? 43).map (fun i=>(i.zero,i.size,i.bytes))=some (some (.slice none 0 0),1,24):=by kernel_rfl
theorem gH{w':World}(h:Below z w w')(d:z=w.heap.size):Kz w w':=aB.of_below h (fun i b a=>by omega)
theorem lX{v:aV}{P:aC}{W:Int→Int}(h:aF B w pb v P W L):
 Calls Tryz.prog 95 #[.pointer (some ⟨pb,0,none⟩)] w fun e w'=>∃u vals,e=.returned u∧w'.ownsRow w.heap.size 43 1 u vals.length vals∧SpV B w vals P.spaces∧Below w.heap.size w w':=by
 obtain⟨i0,hi,hz0,hz1,hz2⟩:=info_parts Tryz.info43;obtain⟨z,hz⟩:∃z,z=w.heap.size:=⟨_,rfl⟩;have HZ:=Lib.hid hz;have hp0:w.cell? ⟨pb,5,none⟩=some v.Q3:=h.cell rfl;obtain⟨A0,c0,hv0,_,hn0,hl0⟩:=h.QL.Q3;rw[hv0]at hp0;obtain⟨A1,c1,hv1,_,hn1,hl1⟩:=h.QL.Q4;have HV1:=Lib.hid hv1;unfold top at hn0 hn1;have hlt:=h.lt;have hBp:=h.base;clear hv0 hv1 hz
 go_enter Tryz.func95,Tryz.ntmps95
 go_wp2
 go_loopw [3,14] (fun u i wr=>∃(n:Nat) (vals:List Value),n≤P.Q3.length∧i=.int .i64 n∧wr.ownsRow z 43 1 u vals.length vals∧SpV B w vals ((P.Q3.take n).map aS.maps)∧Below z w wr) (fun _ i _=>P.Q3.length-(intOf i).toNat)
 case atStart=>exact⟨0,[],Nat.zero_le _,rfl,World.ownsRow_nil _ _ _ _,⟨rfl,fun i u l hu _=>by simp at hu⟩,Below.refl _ _⟩
 case round =>
 obtain⟨n,vals,hn,rfl,hown,hsp,hbw⟩:=hrel
 by_cases hlt2:n<P.Q3.length
 ·obtain⟨bl,off,rfl,hbl,hcs⟩:=hl0 (by omega)
  obtain⟨x,hx⟩:∃x,P.Q3[n]?=some x:=⟨_,List.getElem?_eq_getElem hlt2⟩;have hwr:=hcs n x hx;obtain⟨u1,u2,hc,hs1,⟨Am2,cm2,rfl,_⟩,_⟩:=hwr;have hs1':=hs1;obtain⟨Am,cm,rfl,_⟩:=hs1;have hc:=hc.below hbw (by have:=HZ.out;omega);have q0:=hc.c0;have q1:=hc 1 _ rfl;have q2:=hc 2 _ rfl;have q3:=hc 3 _ rfl;have q4:=hc 4 _ rfl;have q5:=hc 5 _ rfl;have hsz:=hbw.size;have hblr:bl<wr.heap.size:=by have:=HZ.out;omega
  have hzr:z≤wr.heap.size:=by have:=HZ.out;omega
  have hvl:vals.length=n:=by rw[hsp.1];simp;omega
  have HX:=Lib.hid hx;have HSP:=Lib.hid hsp;have HS1:=Lib.hid hs1';have HVL:=Lib.hid hvl;have hvl2:vals.length≤2097152:=by omega
  clear hx hc hsp hs1' hvl hcs
  go_wp2_with (at_builtin;refine wpList_append_lies _ rfl _ _ 164 rfl z 43 i0 (.slice none 0 0) 1 24 Tryz.underlying164 hi hz0 hz1 hz2 rfl (by omega) _ vals.length vals rfl ((hown.alloc _).alloc _) ⟨wr.heap.size+1,0,none⟩ 1 1 [.slice Am x.maps.length cm] rfl rfl ?c1 (by simp[Value.oneCell']) (by omega) (by unfold maxLen;omega) (by omega) ?c2 (wr.heap.size+2) (by simp) ?_)
  case c1=>have:=cell_one_new (wr.alloc (.cells #[.int .i64 x.pos,.string x.name,.int .u64 x.QP,.bool x.stopped,.slice Am x.maps.length cm,.slice Am2 x.QR.length cm2] 52)) (.slice Am x.maps.length cm) 43;simpa using this
  case c2=>simp;omega
  intro g cap w1 hown1 hgrow hat hlt3;have hb1:Below z w w1:=(((hbw.alloc hzr _).alloc (by simp;omega) _)).trans ((aB.of_grown hgrow (S:=fun k=>z≤k) (fun k e=>(hown.lt k e).1)).below (by simp;omega) (fun i hi e=>by omega))
  go_wp2
  go_roundw
  case rel =>
   refine⟨n+1,vals++[.slice Am x.maps.length cm],by omega,by go_num,by rw[List.length_append];exact hown1,?_,hb1⟩;rw[aP HX.out,List.map_append];exact HSP.out.snoc HS1.out
  case measure=>simp[intOf];omega
 obtain rfl:n=P.Q3.length:=by omega
 rw[List.take_length]at hsp;obtain⟨w1,hw1⟩:∃u:World,u=wr:=⟨_,rfl⟩;rw[←hw1]at hbw hown⊢;clear hw1 wr hlt2 hn hl0 hp0;have hp1:w1.cell? ⟨pb,3,none⟩=some v.Q4:=(hbw.cell (p:=⟨pb,3,none⟩) (by have:=HZ.out;show pb<z;omega)).trans (h.cell rfl);rw[HV1.out]at hp1;have HSP:=Lib.hid hsp;have HOWN:=Lib.hid hown;have HBW:=Lib.hid hbw;have hvl:vals.length≤2097152:=by rw[hsp.1];simp;omega
 clear hsp hown hbw
 go_wp2
 clear hp1
 go_loopw [3,30] (fun u i wr=>∃(n:Nat) (vals:List Value),n≤P.Q4.length∧i=.int .i64 n∧wr.ownsRow z 43 1 u vals.length vals∧SpV B w vals (P.Q3.map aS.maps++(P.Q4.take n).map bE.maps)∧Below z w wr) (fun _ i _=>P.Q4.length-(intOf i).toNat)
 case atStart=>exact⟨0,vals,Nat.zero_le _,rfl,HOWN.out,by simpa using HSP.out,HBW.out⟩
 case round =>
 clear HSP HOWN HBW hvl;obtain⟨n,vals,hn,rfl,hown,hsp,hbw⟩:=hrel
 by_cases hlt2:n<P.Q4.length
 ·obtain⟨bl,off,rfl,hbl,hcs⟩:=hl1 (by omega)
  obtain⟨x,hx⟩:∃x,P.Q4[n]?=some x:=⟨_,List.getElem?_eq_getElem hlt2⟩;have hwr:=hcs n x hx;obtain⟨u1,hc,hs1,_⟩:=hwr;have hs1':=hs1;obtain⟨Am,cm,rfl,_⟩:=hs1;have hc:=hc.below hbw (by have:=HZ.out;omega);have q0:=hc.c0;have q1:=hc 1 _ rfl;have q2:=hc 2 _ rfl;have q3:=hc 3 _ rfl;have q4:=hc 4 _ rfl;have hsz:=hbw.size;have hblr:bl<wr.heap.size:=by have:=HZ.out;omega
  have hzr:z≤wr.heap.size:=by have:=HZ.out;omega
  have hvl:vals.length≤4194304:=by rw[hsp.1];simp;omega
  have HX:=Lib.hid hx;have HSP:=Lib.hid hsp;have HS1:=Lib.hid hs1';clear hx hc hsp hs1' hcs
  go_wp2_with (at_builtin;refine wpList_append_lies _ rfl _ _ 164 rfl z 43 i0 (.slice none 0 0) 1 24 Tryz.underlying164 hi hz0 hz1 hz2 rfl (by omega) _ vals.length vals rfl ((hown.alloc _).alloc _) ⟨wr.heap.size+1,0,none⟩ 1 1 [.slice Am x.maps.length cm] rfl rfl ?c1 (by simp[Value.oneCell']) (by omega) (by unfold maxLen;omega) (by omega) ?c2 (wr.heap.size+2) (by simp) ?_)
  case c1=>have:=cell_one_new (wr.alloc (.cells #[.int .i64 x.pos,.string x.name,.int .u64 x.Q7,.int .u64 x.size,.slice Am x.maps.length cm] 45)) (.slice Am x.maps.length cm) 43;simpa using this
  case c2=>simp;omega
  intro g cap w1 hown1 hgrow hat hlt3;have hb1:Below z w w1:=(((hbw.alloc hzr _).alloc (by simp;omega) _)).trans ((aB.of_grown hgrow (S:=fun k=>z≤k) (fun k e=>(hown.lt k e).1)).below (by simp;omega) (fun i hi e=>by omega))
  go_wp2
  go_roundw
  case rel =>
   refine⟨n+1,vals++[.slice Am x.maps.length cm],by omega,by go_num,by rw[List.length_append];exact hown1,?_,hb1⟩;rw[aP HX.out,List.map_append,←List.append_assoc];exact HSP.out.snoc HS1.out
  case measure=>simp[intOf];omega
 ·obtain rfl:n=P.Q4.length:=by omega
  rw[List.take_length]at hsp;have HSP:=Lib.hid hsp;have HOWN:=Lib.hid hown;clear hsp hown
  go_wp2
  go_ret
  rw[←HZ.out];exact⟨_,vals,rfl,HOWN.out,HSP.out,hbw⟩
theorem tg{e:TypeId}{u:Value}{a:List Value}(h:w.ownsRow z e 1 u a.length a):
 ∃A c,u=.slice A a.length c∧(0<a.length→∃g,A=some ⟨g,0,none⟩∧z≤g∧g<w.heap.size∧∀(i:Nat) (x:Value),a[i]?=some x→w.cell? ⟨g,i,none⟩=some x):=by
 rcases Nat.eq_zero_or_pos a.length with n|n
 ·rcases h.2 with⟨d,q⟩|⟨g,cap,p,d,_⟩
  ·exact⟨none,0,by rw[d,q],fun h=>by omega⟩
  ·exact⟨_,_,d,fun h=>by omega⟩
 ·obtain⟨g,cap,hv,r,l⟩:=h.form n
  subst hv;refine⟨_,_,rfl,fun _=>⟨g,rfl,r,l,fun i x hx=>?_⟩⟩;have:=h.cells (g:=g) rfl i x hx;have b:∀j,(⟨g,0,none⟩:Addr).add j=⟨g,j,none⟩:=fun j=>by unfold Addr.add;split<;>simp_all
  rw[b]at this;exact this
def iN(P:aC):List Wr:=
 bX Ck.Ram.pos 8 P.QF++bX Ck.bE.pos 32 P.Q4++bX Ck.Region.pos 256 P.Q5++bX Ck.aS.pos 64 P.Q3++bX Ck.b7.pos 256 P.Q8 ++
 bX Ck.Irq.pos 64 P.QG++bX Ck.dt.pos 64 P.QC++bX Ck.Ban.pos 256 P.QA++bX Ck.eZ.pos 16 P.Q9
theorem s8{v:aV}{P:aC}(h0:aF B w pb v P eO []):
 Calls Tryz.prog 50 #[.pointer (some ⟨pb,0,none⟩)] w fun e w'=>e=.returned (.tuple #[])∧aF B w' pb v P eO (eU P)∧aB (fun k=>k=pb) w w':=by
 have K0:Hid (aB (fun k=>k=pb) w w):=aB.refl _ _;have hq0:w.cell? ⟨pb,2,none⟩=some v.QF:=h0.cell rfl
 go_enter Tryz.func50,Tryz.ntmps50
 go_wp2_with fail
 refine(xM h0 h0.QL.QF 8 (by omega)).mono ?_;rintro e w1 ⟨rfl,h1,hk⟩;have K1:Hid (aB (fun k=>k=pb) w w1):=K0.out.trans hk (fun _ _ e=>e);clear hk hq0 h0 K0;have hq1:w1.cell? ⟨pb,3,none⟩=some v.Q4:=h1.cell rfl
 go_wp2_with fail
 refine(ra h1 h1.QL.Q4 32 (by omega)).mono ?_;rintro e w2 ⟨rfl,h2,hk⟩;have K2:Hid (aB (fun k=>k=pb) w w2):=K1.out.trans hk (fun _ _ e=>e);clear hk hq1 h1 K1;have hq2:w2.cell? ⟨pb,4,none⟩=some v.Q5:=h2.cell rfl
 go_wp2_with fail
 refine(rZ h2 h2.QL.Q5 256 (by omega)).mono ?_;rintro e w3 ⟨rfl,h3,hk⟩;have K3:Hid (aB (fun k=>k=pb) w w3):=K2.out.trans hk (fun _ _ e=>e);clear hk hq2 h2 K2;have hq3:w3.cell? ⟨pb,5,none⟩=some v.Q3:=h3.cell rfl
 go_wp2_with fail
 refine(qK h3 h3.QL.Q3 64 (by omega)).mono ?_;rintro e w4 ⟨rfl,h4,hk⟩;have K4:Hid (aB (fun k=>k=pb) w w4):=K3.out.trans hk (fun _ _ e=>e);clear hk hq3 h3 K3;have hq4:w4.cell? ⟨pb,6,none⟩=some v.Q8:=h4.cell rfl
 go_wp2_with fail
 refine(qL h4 h4.QL.Q8 256 (by omega)).mono ?_;rintro e w5 ⟨rfl,h5,hk⟩;have K5:Hid (aB (fun k=>k=pb) w w5):=K4.out.trans hk (fun _ _ e=>e);clear hk hq4 h4 K4;have hq5:w5.cell? ⟨pb,7,none⟩=some v.QG:=h5.cell rfl
 go_wp2_with fail
 refine(xO h5 h5.QL.QG 64 (by omega)).mono ?_;rintro e w6 ⟨rfl,h6,hk⟩;have K6:Hid (aB (fun k=>k=pb) w w6):=K5.out.trans hk (fun _ _ e=>e);clear hk hq5 h5 K5;have hq6:w6.cell? ⟨pb,8,none⟩=some v.QC:=h6.cell rfl
 go_wp2_with fail
 refine(tk h6 h6.QL.QC 64 (by omega)).mono ?_;rintro e w7 ⟨rfl,h7,hk⟩;have K7:Hid (aB (fun k=>k=pb) w w7):=K6.out.trans hk (fun _ _ e=>e);clear hk hq6 h6 K6;have hq7:w7.cell? ⟨pb,13,none⟩=some v.QA:=h7.cell rfl
 go_wp2_with fail
 refine(xP h7 h7.QL.QA 256 (by omega)).mono ?_;rintro e w8 ⟨rfl,h8,hk⟩;have K8:Hid (aB (fun k=>k=pb) w w8):=K7.out.trans hk (fun _ _ e=>e);clear hk hq7 h7 K7;have hq8:w8.cell? ⟨pb,9,none⟩=some v.Q9:=h8.cell rfl
 go_wp2_with fail
 refine(vg h8 h8.QL.Q9 16 (by omega)).mono ?_;rintro e w9 ⟨rfl,h9,hk⟩;have K9:Hid (aB (fun k=>k=pb) w w9):=K8.out.trans hk (fun _ _ e=>e);clear hk hq8 h8 K8;have hc9:aF B w9 pb v P eO (iN P):=h9.congr fun p=>by
  simp only[iN,List.mem_append,List.mem_nil_iff,or_false];constructor
  ·rintro(h|h|h|h|h|h|h|h|h)<;>simp[h]
  ·rintro((((((((h|h)|h)|h)|h)|h)|h)|h)|h)<;>simp[h]
 clear h9
 go_wp2_with fail
 refine(lX hc9).mono ?_;rintro e w10 ⟨u,vals,rfl,hown,hsp,hb⟩;have hk0:=gH hb rfl;have h10:=hc9.new hk0;have K10:Hid (aB (fun k=>k=pb) w w10):=K9.out.trans hk0 (fun _ _ e=>e.elim);obtain⟨A,c,rfl,hcell⟩:=tg hown;have hlt9:=hc9.lt;have hvl:vals.length≤4194304:=by
  rw[hsp.1];obtain⟨_,_,_,_,b1,_⟩:=hc9.QL.Q3;obtain⟨_,_,_,_,b2,_⟩:=hc9.QL.Q4;unfold top at b1 b2;simp[aC.spaces];omega
 have HSP:=Lib.hid hsp;have hBp:=hc9.base;have HB0:=Lib.hid hk0;clear hk0 hb hown hsp K9 hc9
 go_wp2
 go_loopw [70] (fun i wr=>∃n:Nat,n≤vals.length∧i=.int .i64 n∧aF B wr pb v P eO ((P.spaces.take n).flatMap (bX Ck.Map.pos 64)++iN P)∧aB (fun k=>k=pb) w10 wr) (fun i _=>vals.length-(intOf i).toNat)
 case atStart=>exact⟨0,Nat.zero_le _,rfl,by simpa using h10,aB.refl _ _⟩
 case round =>
 obtain⟨n,hn,rfl,hL,hk⟩:=hrel
 by_cases hlt:n<vals.length
 ·obtain⟨g,rfl,hg1,hg2,hgc⟩:=hcell (by omega)
  obtain⟨x,hx⟩:∃x,vals[n]?=some x:=⟨_,List.getElem?_eq_getElem hlt⟩;obtain⟨l,hl⟩:∃l,P.spaces[n]?=some l:=⟨_,List.getElem?_eq_getElem (by rw[←HSP.out.1];exact hlt)⟩;have hs:=(HSP.out.2 n x l hx hl).below (aK _ _ _) (((HB0.out.mono (T:=fun k=>k=pb) fun _ _ h=>h.elim).trans hk (fun _ _ e=>e)).below (B:=B) (by omega) (fun i hi e=>by omega));have hgl:g<wr.heap.size:=by have:=hk.size;omega
  have q0:wr.cell? ⟨g,n,none⟩=some x:=(hk.cell (p:=⟨g,n,none⟩) hg2 (by show ¬ g=pb;omega)).trans (hgc n x hx);obtain⟨Ax,cx,rfl,hsr⟩:=hs;have HX:=Lib.hid hl;have HK:=Lib.hid hk;have HS:Hid (aT B 5 cD wr (.slice Ax l.length cx) l):=⟨Ax,cx,rfl,hsr⟩;clear hx hl hk hsr hcell hgc
  go_wp2_with fail
  refine(xN hL HS.out 64 (by omega)).mono ?_;rintro e w11 ⟨rfl,hL2,hk2⟩;have HL2:=Lib.hid hL2;have HK2:=Lib.hid hk2;clear hL2 hk2 hL
  go_wp2
  go_roundw
  case rel =>
   refine⟨n+1,by omega,by go_num,HL2.out.congr fun p=>?_,HK.out.trans HK2.out (fun _ _ e=>e)⟩;rw[aP HX.out];simp[or_assoc,or_comm,or_left_comm]
  case measure=>simp[intOf];omega
 ·obtain rfl:n=vals.length:=by omega
  have hL2:aF B wr pb v P eO (eU P):=hL.congr fun p=>by
   rw[HSP.out.1,List.take_length];simp only[eU,iN,List.mem_append];exact⟨fun h=>h.symm,fun h=>h.symm⟩
  have HL2:=Lib.hid hL2;have HK:=Lib.hid hk;clear hL2 hL hk
  go_wp2
  go_end0
  exact⟨rfl,HL2.out,K10.out.trans HK.out (fun _ _ e=>e)⟩
theorem jP(a s b:Nat)(w:World)(h:a<18446744073709551616)(j:s<18446744073709551616)(i:b<18446744073709551616):
 Calls Tryz.prog 98 #[.int .u64 a,.int .u64 s,.int .u64 b] w fun e w'=>e=.returned (.bool (below a s b))∧w=w':=by
 unfold below
 by_cases h1:a≤b
 ·have g:decide (a≤b)=true:=by simpa using h1
  by_cases h3:s≤b-a
  ·have d:(s:Int)≤(b:Int)-a:=by omega
   go_enter Tryz.func98,Tryz.ntmps98
   go_wp2
   go_ret
   exact⟨by simp[h1,h3,d],rfl⟩
  ·have d:¬ (s:Int)≤(b:Int)-a:=by omega
   go_enter Tryz.func98,Tryz.ntmps98
   go_wp2
   go_ret
   exact⟨by simp[h1,h3,d],rfl⟩
 ·have g:decide (a≤b)=false:=by simpa using h1
  go_enter Tryz.func98,Tryz.ntmps98
  go_wp2
  go_ret
  exact⟨by simp[h1],rfl⟩
theorem pR(b:Bool)(w:World):Calls Tryz.prog 101 #[.bool b] w fun e w'=>e=.returned (.int .u64 (fF b))∧w=w':=by
 cases b
 ·go_enter Tryz.func101,Tryz.ntmps101
  go_wp2
  go_ret
  exact⟨rfl,rfl⟩
 ·go_enter Tryz.func101,Tryz.ntmps101
  go_wp2
  go_ret
  exact⟨rfl,rfl⟩
end Go.Proofs.YtpblcjipmoblnaaGreatDoor
namespace Go.Proofs.YtpblcjipmoblnaaGreatDoor
open Go.RowKit Go.Extern.Stop Go.Stop Go.Extern
theorem Tryz.valueOf118(t:Addr)(w:World):(ReflectliteValue.unpack (.iface 118 (.pointer (some t)))).run Tryz.prog w
 = .ok (.agg #[.pointer (some ⟨13,118,none⟩),.pointer (some ⟨w.heap.size,0,none⟩),.int .u64 150]) (w.alloc (.cells #[.pointer (some t)] 118)):=by kernel_rfl
theorem Tryz.type118(a:Addr)(w:World):(ReflectliteValue.methodAny (ReflectliteValue.valueError "reflectlite.Value.Type" 0) (fun t _ _ _=>ReflectliteType.toType t) #[.agg #[.pointer (some ⟨13,118,none⟩),.pointer (some a),.int .u64 150]]).run Tryz.prog w
 = .ok (.iface 230 (.agg #[.pointer (some ⟨13,118,none⟩)])) w:=by kernel_rfl
theorem Tryz.kind118(w:World):((ReflectliteType.abiMethod fun t=>(fun a:Nat=>Value.int IntKind.u8 (a:Int)) <$> Rtype.kind t) #[.pointer (some ⟨13,118,none⟩)]).run Tryz.prog w=.ok (.int .u8 22) w:=by kernel_rfl
theorem Tryz.kind72(w:World):((ReflectliteType.abiMethod fun t=>(fun a:Nat=>Value.int IntKind.u8 (a:Int)) <$> Rtype.kind t) #[.pointer (some ⟨13,72,none⟩)]).run Tryz.prog w=.ok (.int .u8 2) w:=by kernel_rfl
theorem Tryz.parts118(a:Addr)(w:World):(ReflectliteValue.parts (.agg #[.pointer (some ⟨13,118,none⟩),.pointer (some a),.int .u64 150])).run Tryz.prog w=.ok (some (118,a,150)) w:=by kernel_rfl
theorem Tryz.isNil118(a p:Addr)(W:World)(b:W.cell? a=some (.pointer (some p))):
 (ReflectliteValue.method (ReflectliteValue.valueError "reflectlite.Value.IsNil" 0) ReflectliteValue.isNil #[.agg #[.pointer (some ⟨13,118,none⟩),.pointer (some a),.int .u64 150]]).run Tryz.prog W=.ok (.bool false) W:=by
 rw[rlm];simp only[Sem.run_bind,Tryz.parts118,Result.andThen];simp[ReflectliteValue.isNil,loadVar,isAgg,underlying,Tryz.underlying118,b,Result.andThen]
theorem Tryz.elem118(w:World):(ReflectliteType.method ReflectliteType.elem #[.agg #[.pointer (some ⟨13,118,none⟩)]]).run Tryz.prog w=.ok (.iface 230 (.agg #[.pointer (some ⟨13,72,none⟩)])) w:=by kernel_rfl
theorem Tryz.implements72(w:World):(ReflectliteType.relation "Implements" ReflectliteType.implements_ #[.agg #[.pointer (some ⟨13,72,none⟩)],.iface 230 (.agg #[.pointer (some ⟨13,111,none⟩)])]).run Tryz.prog w=.ok (.bool true) w:=by kernel_rfl
theorem Tryz.typeOf72(v:Value)(w:World):(ReflectliteType.typeOf #[.iface 72 v]).run Tryz.prog w=.ok (.iface 230 (.agg #[.pointer (some ⟨13,72,none⟩)])) w:=by kernel_rfl
theorem Tryz.assignable115_72(w:World):(ReflectliteType.relation "AssignableTo" ReflectliteType.assignableTo #[.agg #[.pointer (some ⟨13,115,none⟩)],.iface 230 (.agg #[.pointer (some ⟨13,72,none⟩)])]).run Tryz.prog w=.ok (.bool false) w:=by kernel_rfl
theorem Tryz.assignable72(w:World):(ReflectliteType.relation "AssignableTo" ReflectliteType.assignableTo #[.agg #[.pointer (some ⟨13,72,none⟩)],.iface 230 (.agg #[.pointer (some ⟨13,72,none⟩)])]).run Tryz.prog w=.ok (.bool true) w:=by kernel_rfl
theorem Tryz.valueOf72(e:Int)(w:World):(ReflectliteValue.unpack (.iface 72 (.int .i64 e))).run Tryz.prog w
 = .ok (.agg #[.pointer (some ⟨13,72,none⟩),.pointer (some ⟨w.heap.size,0,none⟩),.int .u64 130]) (w.alloc (.cells #[.int .i64 e] 72)):=by kernel_rfl
theorem Tryz.elemOf118(w:World):(Rtype.elem? 118).run Tryz.prog w=.ok (some 72) w:=by kernel_rfl
theorem Tryz.mk72(p:Addr)(w:World):(ReflectliteValue.mk 72 p ReflectliteValue.flagAddr).run Tryz.prog w=.ok (.agg #[.pointer (some ⟨13,72,none⟩),.pointer (some p),.int .u64 386]) w:=by kernel_rfl
theorem Tryz.elemV118(a p:Addr)(W:World)(b:W.cell? a=some (.pointer (some p))):
 (ReflectliteValue.method (ReflectliteValue.valueError "reflectlite.Value.Elem" 0) ReflectliteValue.elem #[.agg #[.pointer (some ⟨13,118,none⟩),.pointer (some a),.int .u64 150]]).run Tryz.prog W
  = .ok (.agg #[.pointer (some ⟨13,72,none⟩),.pointer (some p),.int .u64 386]) W:=by
 rw[rlm];simp only[Sem.run_bind,Tryz.parts118,Result.andThen];simp[ReflectliteValue.elem,loadVar,isAgg,underlying,Tryz.underlying118,b,Result.andThen,Tryz.elemOf118,Tryz.mk72]
theorem Tryz.parts72a(a:Addr)(w:World):(ReflectliteValue.parts (.agg #[.pointer (some ⟨13,72,none⟩),.pointer (some a),.int .u64 386])).run Tryz.prog w=.ok (some (72,a,386)) w:=by kernel_rfl
theorem Tryz.parts72(a:Addr)(w:World):(ReflectliteValue.parts (.agg #[.pointer (some ⟨13,72,none⟩),.pointer (some a),.int .u64 130])).run Tryz.prog w=.ok (some (72,a,130)) w:=by kernel_rfl
theorem Tryz.direct72(w:World):(Rtype.directlyAssignable 72 72).run Tryz.prog w=.ok true w:=by kernel_rfl
theorem Tryz.set72(a b:Addr)(e:Int)(d:Value)(W:World)(g:W.cell? b=some (.int .i64 e))(i:W.cell? a=some d)(h:W.frozen? a=false):
 (ReflectliteValue.set #[.agg #[.pointer (some ⟨13,72,none⟩),.pointer (some a),.int .u64 386],.agg #[.pointer (some ⟨13,72,none⟩),.pointer (some b),.int .u64 130]]).run Tryz.prog W
  = .ok (.tuple #[]) (W.setCell a (.int .i64 e)):=by
 rw[rls];simp only[Sem.run_bind,Tryz.parts72a,Tryz.parts72,Result.andThen];simp[ReflectliteValue.flagAddr,loadVar,isAgg,underlying,Tryz.underlying72,g,Result.andThen,Tryz.direct72,storeVar,Value.cells,storeCells,Addr.add];rw[run_store Tryz.prog W a _ _ (by rfl)];simp[i,h]
theorem Tryz.noAs115(v:Value)(a:TypeId)(w:World):(Instr.typeAssert (.iface 115 v) a 235 true).run Tryz.prog w=.ok (.tuple #[.nilIface,.bool false]) w:=run_typeAssert_lacksB Tryz.underlying235 (by kernel_rfl) (by kernel_rfl) v a w
theorem Tryz.hasUnwrap115(v:Value)(a:TypeId)(w:World):(Instr.typeAssert (.iface 115 v) a 238 true).run Tryz.prog w=.ok (.tuple #[.iface 115 v,.bool true]) w:=run_typeAssert_hasB Tryz.underlying238 (by kernel_rfl) v a w
theorem Tryz.methodUnwrap(v:Value)(w:World):(Go.method 498 115 v "Unwrap").run Tryz.prog w=.ok (242,v) w:=by kernel_rfl
theorem rB(b:Nat)(a:Value)(w:World)(h:w.cell? ⟨b,2,none⟩=some a):Calls Tryz.prog 242 #[.pointer (some ⟨b,0,none⟩)] w fun e w'=>e=.returned a∧w=w':=by
 go_enter Tryz.func242,Tryz.ntmps242
 go_wp2
 go_ret
 exact⟨rfl,rfl⟩
theorem uW(a:Nat)(t:Addr)(x:Int)(i:Value)(w:World)(p:mt w)(u:w.cell? ⟨a,2,none⟩=some (.iface 72 (.int .i64 x)))(b:w.cell? t=some i)(n:w.frozen? t=false):
 Calls Tryz.prog 57 #[.iface 115 (.pointer (some ⟨a,0,none⟩)),.iface 118 (.pointer (some t))] w fun B w'=>B=.returned (.bool true)∧w'=((((w.alloc (.cells #[.pointer (some t)] 118)).alloc (.cells #[.pointer (some ⟨13,118,none⟩),.pointer (some ⟨w.heap.size,0,none⟩),.int .u64 150] 192)).alloc (.cells #[.pointer (some ⟨13,118,none⟩),.pointer (some ⟨w.heap.size,0,none⟩),.int .u64 150] 192)).alloc (.cells #[.int .i64 x] 72)).setCell t (.int .i64 x):=by
 unfold mt at p;have V:=@run_callFunc_extern Tryz.prog 106 _ (fun args=>ReflectliteValue.unpack (args.getD 0 (.tuple #[]))) Tryz.func106 (by kernel_rfl) (by kernel_rfl) (by kernel_rfl) (by kernel_rfl);have W:=@run_callFunc_extern Tryz.prog 107 _ (ReflectliteValue.methodAny (ReflectliteValue.valueError "reflectlite.Value.Type" 0) (fun t _ _ _=>ReflectliteType.toType t)) Tryz.func107 (by kernel_rfl) (by kernel_rfl) (by kernel_rfl) (by kernel_rfl);have X:=@run_callFunc_extern Tryz.prog 108 _ (ReflectliteValue.method (ReflectliteValue.valueError "reflectlite.Value.IsNil" 0) ReflectliteValue.isNil) Tryz.func108 (by kernel_rfl) (by kernel_rfl) (by kernel_rfl) (by kernel_rfl);have H:=@run_callFunc_extern Tryz.prog 236 _ (ReflectliteType.abiMethod fun t=>do pure (.int .u8 (← Rtype.kind t))) Tryz.func236 (by kernel_rfl) (by kernel_rfl) (by kernel_rfl) (by kernel_rfl);have J:=@run_callFunc_extern Tryz.prog 255 _ (ReflectliteType.method ReflectliteType.elem) Tryz.func255 (by kernel_rfl) (by kernel_rfl) (by kernel_rfl) (by kernel_rfl);have K:=@run_callFunc_extern Tryz.prog 256 _ (ReflectliteType.relation "Implements" ReflectliteType.implements_) Tryz.func256 (by kernel_rfl) (by kernel_rfl) (by kernel_rfl) (by kernel_rfl);have D:=@run_callFunc_extern Tryz.prog 131 _ ReflectliteType.typeOf Tryz.func131 (by kernel_rfl) (by kernel_rfl) (by kernel_rfl) (by kernel_rfl);have I:=@run_callFunc_extern Tryz.prog 253 _ (ReflectliteType.relation "AssignableTo" ReflectliteType.assignableTo) Tryz.func253 (by kernel_rfl) (by kernel_rfl) (by kernel_rfl) (by kernel_rfl);have E:=@run_callFunc_extern Tryz.prog 132 _ (ReflectliteValue.method (ReflectliteValue.valueError "reflectlite.Value.Elem" 0) ReflectliteValue.elem) Tryz.func132 (by kernel_rfl) (by kernel_rfl) (by kernel_rfl) (by kernel_rfl);have G:=@run_callFunc_extern Tryz.prog 133 _ ReflectliteValue.set Tryz.func133 (by kernel_rfl) (by kernel_rfl) (by kernel_rfl) (by kernel_rfl);have tO:=Tryz.typeOf115;have Q:=Tryz.typeOf72;have Y:=Tryz.methodAssignableTo;have v:=Tryz.assignable115_72;have y:=Tryz.assignable72;have R:=Tryz.valueOf72;have T:=Tryz.valueOf118;have U:=Tryz.type118;have mK:=Tryz.methodKind;have Z:=Tryz.methodElem;have mI:=Tryz.methodImplements;have O:=Tryz.kind118;have N:=Tryz.kind72;have A:=Tryz.elem118;have M:=Tryz.implements72;have nA:=Tryz.noAs115;have uA:=Tryz.hasUnwrap115;have mU:=Tryz.methodUnwrap;have n8:=Tryz.isNil118 ⟨w.heap.size,0,none⟩ t ((w.alloc (.cells #[.pointer (some t)] 118)).alloc (.cells #[.pointer (some ⟨13,118,none⟩),.pointer (some ⟨w.heap.size,0,none⟩),.int .u64 150] 192)) (by simp);have q:0<w.heap.size:=by
  rcases Nat.eq_zero_or_pos w.heap.size with C|h
  ·simp[World.cell?,C]at p
  ·exact h
 have L:((w.alloc (.cells #[.pointer (some t)] 118)).alloc (.cells #[.pointer (some ⟨13,118,none⟩),.pointer (some ⟨w.heap.size,0,none⟩),.int .u64 150] 192)).cell? ⟨0,0,none⟩=some (.iface 230 (.agg #[.pointer (some ⟨13,111,none⟩)])):=by
  rw[World.cell?_alloc_lt _ _ ⟨0,0,none⟩ (by simp),World.cell?_alloc_lt _ _ ⟨0,0,none⟩ q];exact p
 have d:t.block<w.heap.size:=by
  rcases Nat.lt_or_ge t.block w.heap.size with h|h
  ·exact h
  ·simp[World.cell?,Array.getElem?_eq_none h]at b
 have l:a<w.heap.size:=World.block_lt_of_cell? w ⟨a,2,none⟩ u;have S:=Tryz.elemV118 ⟨w.heap.size,0,none⟩ t (((w.alloc (.cells #[.pointer (some t)] 118)).alloc (.cells #[.pointer (some ⟨13,118,none⟩),.pointer (some ⟨w.heap.size,0,none⟩),.int .u64 150] 192)).alloc (.cells #[.pointer (some ⟨13,118,none⟩),.pointer (some ⟨w.heap.size,0,none⟩),.int .u64 150] 192)) (by rw[World.cell?_alloc_lt _ _ ⟨w.heap.size,0,none⟩ (by simp;omega)];simp);have r:(((w.alloc (.cells #[.pointer (some t)] 118)).alloc (.cells #[.pointer (some ⟨13,118,none⟩),.pointer (some ⟨w.heap.size,0,none⟩),.int .u64 150] 192)).alloc (.cells #[.pointer (some ⟨13,118,none⟩),.pointer (some ⟨w.heap.size,0,none⟩),.int .u64 150] 192)).cell? ⟨a,2,none⟩=some (.iface 72 (.int .i64 x)):=by
  rw[World.cell?_alloc_lt _ _ ⟨a,2,none⟩ (by simp;omega),World.cell?_alloc_lt _ _ ⟨a,2,none⟩ (by simp;omega),World.cell?_alloc_lt _ _ ⟨a,2,none⟩ l];exact u
 have g:=rB a _ _ r;have st:=Tryz.set72 t ⟨w.heap.size+1+1+1,0,none⟩ x i ((((w.alloc (.cells #[.pointer (some t)] 118)).alloc (.cells #[.pointer (some ⟨13,118,none⟩),.pointer (some ⟨w.heap.size,0,none⟩),.int .u64 150] 192)).alloc (.cells #[.pointer (some ⟨13,118,none⟩),.pointer (some ⟨w.heap.size,0,none⟩),.int .u64 150] 192)).alloc (.cells #[.int .i64 x] 72))
  (by rw[World.cell?_alloc_at _ _ _ _ (by simp)];rfl)
  (by rw[World.cell?_alloc_lt _ _ t (by simp;omega),World.cell?_alloc_lt _ _ t (by simp;omega),World.cell?_alloc_lt _ _ t (by simp;omega),World.cell?_alloc_lt _ _ t d];exact b)
  (by rw[World.frozen?_alloc_old _ _ t (by simp;omega),World.frozen?_alloc_old _ _ t (by simp;omega),World.frozen?_alloc_old _ _ t (by simp;omega),World.frozen?_alloc_old _ _ t (Nat.ne_of_lt d)];exact n)
 have j:=Lib.hid g;clear g
 go_enter Tryz.func57,Tryz.ntmps57
 go_wp2
 refine wp_loop_rounds 2 ?_;rw[rounds_succ]
 go_wp2_with (go_at_call 242;refine j.out.mono ?_;rintro e w' ⟨rfl,rfl⟩)
 rw[rounds_succ]
 go_wp2
 go_ret
 exact⟨rfl,rfl⟩
theorem wQ(b a:Nat)(x:Int)(w:World)(g:mt w)(i:w.cell? ⟨b,2,none⟩=some (.iface 72 (.int .i64 x)))(d:Var w a 72 (.int .i64 0)):
 Calls Tryz.prog 57 #[.iface 115 (.pointer (some ⟨b,0,none⟩)),.iface 118 (.pointer (some ⟨a,0,none⟩))] w fun e w'=>e=.returned (.bool true)∧Var w' a 72 (.int .i64 x)∧aB (fun k=>k=a) w w':=by
 refine(uW b ⟨a,0,none⟩ x _ w g i d.cell d.frozen).mono ?_;rintro e w' ⟨rfl,rfl⟩;have hk:Kz w ((((w.alloc (.cells #[.pointer (some ⟨a,0,none⟩)] 118)).alloc (.cells #[.pointer (some ⟨13,118,none⟩),.pointer (some ⟨w.heap.size,0,none⟩),.int .u64 150] 192)).alloc (.cells #[.pointer (some ⟨13,118,none⟩),.pointer (some ⟨w.heap.size,0,none⟩),.int .u64 150] 192)).alloc (.cells #[.int .i64 x] 72)):=((((aB.refl _ w).alloc _).alloc _).alloc _).alloc _;exact⟨rfl,(d.keep hk (fun h=>h)).set_ _,(hk.mono (T:=fun k=>k=a) fun _ _ h=>h.elim).setCell (p:=⟨a,0,none⟩) (fun _=>rfl) _⟩
end Go.Proofs.YtpblcjipmoblnaaGreatDoor
