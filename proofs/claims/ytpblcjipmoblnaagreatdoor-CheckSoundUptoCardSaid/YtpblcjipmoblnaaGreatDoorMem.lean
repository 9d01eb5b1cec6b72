import Derived.Test.YtpblcjipmoblnaaGreatDoorSpanP
import Derived.WalkSpells
import Derived.WalkLawsBesides
import Derived.BigQuiet
import Derived.Lib.Hide
import Derived.Deep.AppendLies
set_option maxRecDepth 100000
set_option linter.all false
set_option maxHeartbeats 4000000
namespace Go.Proofs.YtpblcjipmoblnaaGreatDoor
open Go.RowKit Go.IntWalk
theorem ug{k:IntKind}{a b:Int}(h:a=b):Ending.returned (.int k a)=.returned (.int k b):=by rw[h]
theorem sZ{B:Nat}{a w:World}(h:Below B a w)(n:Nat):Below B a (w.drewN n):=⟨h.os,h.tape,h.output,h.size,h.block⟩
theorem BU{W d:World}(g:Below W.heap.size W d):(∀b o,b<W.heap.size→d.cell? ⟨b,o,none⟩=W.cell? ⟨b,o,none⟩)∧(∀b o,b<W.heap.size→d.frozen? ⟨b,o,none⟩=W.frozen? ⟨b,o,none⟩):=
 ⟨fun b o h=>g.cell (p:=⟨b,o,none⟩) h,fun b o h=>g.frozen (p:=⟨b,o,none⟩) h⟩
theorem qO{a b:ByteArray}(h:a.toList=b.toList):a=b:=by
 rw[ByteArray.toList_eq,ByteArray.toList_eq]at h;obtain⟨⟨x⟩⟩:=a;obtain⟨⟨y⟩⟩:=b;simp only at h;subst h;rfl
theorem sX{a b:ByteArray}(h:a≠b):(a.toList==b.toList)=false:=by
 rw[beq_eq_false_iff_ne];exact fun e=>h (qO e)
theorem aw(a b:ByteArray):(a.toList==b.toList)=decide (a=b):=by
 by_cases h:a=b
 ·subst h;simp
 ·rw[sX h];simp[h]
structure aD (S:Nat→Prop) (w w':World):Prop where
 os:w'.os=w.os
 tape:w'.tape=w.tape
 output:w'.output=w.output
 size:w.heap.size≤w'.heap.size
 block:∀k,k<w.heap.size→¬ S k→w'.heap[k]?=w.heap[k]?
abbrev Kz:=aD (fun _=>False)
namespace aD
variable {S T:Nat→Prop} {a b c w w':World}
theorem refl(S:Nat→Prop)(w:World):aD S w w:=⟨rfl,rfl,rfl,Nat.le_refl _,fun _ _ _=>rfl⟩
theorem trans(h:aD S a b)(k:aD T b c)(j:∀i,i<a.heap.size→T i→S i):aD S a c:=
 ⟨k.os.trans h.os,k.tape.trans h.tape,k.output.trans h.output,Nat.le_trans h.size k.size,fun i d g=>(k.block i (Nat.lt_of_lt_of_le d h.size) (fun l=>g (j i d l))).trans (h.block i d g)⟩
theorem mono(h:aD S a b)(g:∀i,i<a.heap.size→S i→T i):aD T a b:=⟨h.os,h.tape,h.output,h.size,fun i d j=>h.block i d (fun x=>j (g i d x))⟩
theorem alloc(h:aD S a w)(o:Obj):aD S a (w.alloc o):=
 ⟨h.os,h.tape,h.output,Nat.le_trans h.size ξ,fun i d g=>(Below.heap_alloc w o i (Nat.lt_of_lt_of_le d h.size)).trans (h.block i d g)⟩
theorem drew(h:aD S a w):aD S a w.drew:=⟨h.os,h.tape,h.output,h.size,h.block⟩
theorem drewN(h:aD S a w)(n:Nat):aD S a (w.drewN n):=⟨h.os,h.tape,h.output,h.size,h.block⟩
theorem setCell(h:aD S a w){p:Addr}(j:p.block<a.heap.size→S p.block)(u:Value):aD S a (w.setCell p u):=
 ⟨h.os,h.tape,h.output,by simpa[World.setCell]using h.size,fun i d g=>(Below.heap_setCell w p u i (by rintro rfl;exact g (j d))).trans (h.block i d g)⟩
theorem of_below{B:Nat}(h:Below B a w)(d:∀i,i<a.heap.size→B≤i→S i):aD S a w:=⟨h.os,h.tape,h.output,h.size,fun i j l=>h.block i (Nat.lt_of_not_le fun g=>l (d i j g))⟩
theorem of_grown{row:Option Nat}(h:a.grownBy w row)(d:∀k,row=some k→S k):aD S a w:=⟨h.os,h.tape,h.output,h.size,fun i g j=>h.block i g (fun e=>j (d i e.symm))⟩
theorem below(h:aD S a w){B:Nat}(g:B≤a.heap.size)(j:∀i,i<B→¬ S i):Below B a w:=⟨h.os,h.tape,h.output,h.size,fun i d=>h.block i (Nat.lt_of_lt_of_le d g) (j i d)⟩
theorem cell(h:aD S a w){p:Addr}(d:p.block<a.heap.size)(g:¬ S p.block):w.cell? p=a.cell? p:=World.cell?_of_block (h.block _ d g)
theorem frozen(h:aD S a w){p:Addr}(d:p.block<a.heap.size)(g:¬ S p.block):w.frozen? p=a.frozen? p:=World.frozen?_of_block (h.block _ d g)
theorem grown(h:Kz a w)(row:Option Nat):a.grownBy w row:=⟨h.os,h.tape,h.output,h.size,fun i d _=>h.block i d (fun x=>x)⟩
end aD
def Var(w:World)(b:Nat)(t:TypeId)(v:Value):Prop:=w.heap[b]?=some (.cells #[v] t (0,0))
theorem Var.lt{w:World}{b:Nat}{t:TypeId}{v:Value}(h:Var w b t v):b<w.heap.size:=(Array.getElem?_eq_some_iff.1 h).1
theorem Var.cell{w:World}{b:Nat}{t:TypeId}{v:Value}(h:Var w b t v):w.cell? ⟨b,0,none⟩=some v:=cell_of_one h
theorem Var.frozen{w:World}{b:Nat}{t:TypeId}{v:Value}(h:Var w b t v):w.frozen? ⟨b,0,none⟩=false:=free_of_one h
theorem Var.keep{S:Nat→Prop}{w w':World}{b:Nat}{t:TypeId}{v:Value}(h:Var w b t v)(hk:aD S w w')(d:¬ S b):Var w' b t v:=(hk.block b h.lt d).trans h
theorem Var.set_{w:World}{b:Nat}{t:TypeId}{v:Value}(h:Var w b t v)(u:Value):Var (w.setCell ⟨b,0,none⟩ u) b t u:=by
 unfold Var at h⊢;simp[World.setCell,Array.getElem?_modify,h]
def aL(w:World)(b o:Nat)(vs:List Value):Prop:=∀j v,vs[j]?=some v→w.cell? ⟨b,o+j,none⟩=some v
theorem aL.below{B:Nat}{w w':World}{b o:Nat}{vs:List Value}(h:aL w b o vs)(g:Below B w w')(d:b<B):aL w' b o vs:=
 fun j v hv=>(g.cell (p:=⟨b,o+j,none⟩) d).trans (h j v hv)
theorem aL.keep{S:Nat→Prop}{w w':World}{b o:Nat}{vs:List Value}(h:aL w b o vs)(hk:aD S w w')(d:b<w.heap.size)(g:¬ S b):aL w' b o vs:=
 fun j v hv=>(hk.cell (p:=⟨b,o+j,none⟩) d g).trans (h j v hv)
def ov{α:Type}(B k:Nat)(R:World→Nat→Nat→α→Prop)(w:World)(A:Option Addr)(xs:List α):Prop:=
 0<xs.length→∃b off,A=some ⟨b,off,none⟩∧b<B∧∀i x,xs[i]?=some x→R w b (off+i*k) x
def jo{α:Type}(B:Nat)(R:World→Nat→Nat→α→Prop):Prop:=∀w w' b o x,Below B w w'→b<B→R w b o x→R w' b o x
theorem ov.below{α:Type}{B k:Nat}{R:World→Nat→Nat→α→Prop}(g:jo B R){w w':World}{A:Option Addr}{xs:List α}(h:ov B k R w A xs)(j:Below B w w'):ov B k R w' A xs:=by
 intro p;obtain⟨b,off,e,d,l⟩:=h p;exact⟨b,off,e,d,fun i x hx=>g _ _ _ _ _ j d (l i x hx)⟩
open Ck
abbrev lim:Nat:=18446744073709551616
abbrev top:Nat:=2097152
def aX(s:ByteArray):Prop:=s.size≤2097152
def dU(n:Int):Prop := -9223372036854775808≤n∧n≤9223372036854775807
def Ck.Ram.cells(x:Ram):List Value:=[.int .i64 x.pos,.int .u64 x.Q7,.int .u64 x.size]
def Ck.Ram.Ok(x:Ram):Prop:=dU x.pos∧x.Q7<lim∧x.size<lim
def Ck.Map.cells(x:Map):List Value:=[.int .i64 x.pos,.string x.of,.int .u64 x.Q7,.bool x.write,.bool x.exec]
def Ck.Map.Ok(x:Map):Prop:=dU x.pos∧x.Q7<lim∧aX x.of
def Ck.Region.cells(x:Region):List Value:=[.int .i64 x.pos,.string x.name,.int .u64 x.size,.bool x.fixed,.int .u64 x.Q7,.bool x.big,.bool x.wx,.int .u64 x.fill,.bool x.QR,.string x.text]
def Ck.Region.Ok(x:Region):Prop:=dU x.pos∧x.size<lim∧x.Q7<lim∧x.fill<lim∧aX x.name∧aX x.text
def Ck.jq.cells(x:jq):List Value:=[.int .i64 x.pos,.int .i64 x.how,.string x.to,.int .u64 x.QL]
def Ck.jq.Ok(x:jq):Prop:=dU x.pos∧dU x.how∧x.QL<lim∧aX x.to
def Ck.au.cells(x:au):List Value:=[.int .i64 x.pos,.string x.name,.string x.QI,.string x.to,.bool x.shared,.string x.over,.int .i64 x.how,.int .u64 x.QL]
def Ck.au.Ok(x:au):Prop:=dU x.pos∧dU x.how∧x.QL<lim∧aX x.name∧aX x.QI∧aX x.to∧aX x.over
def Ck.Irq.cells(x:Irq):List Value:=[.int .i64 x.pos,.string x.name,.string x.QI,.string x.to,.int .u64 x.QL,.bool x.masked]
def Ck.Irq.Ok(x:Irq):Prop:=dU x.pos∧x.QL<lim∧aX x.name∧aX x.QI∧aX x.to
def Ck.eH.cells(x:eH):List Value:=[.int .i64 x.pos,.string x.name,.string x.QI,.string x.to,.int .i64 x.how,.int .u64 x.depth]
def Ck.eH.Ok(x:eH):Prop:=dU x.pos∧dU x.how∧x.depth<lim∧aX x.name∧aX x.QI∧aX x.to
def Run.cells(x:Run):List Value:=[.int .i64 x.pos,.string x.QK,.int .u64 x.QT,.int .u64 x.per]
def Run.Ok(x:Run):Prop:=dU x.pos∧x.QT<lim∧x.per<lim∧aX x.QK
def Ck.fY.cells(x:fY):List Value:=[.int .i64 x.pos,.string x.name]
def Ck.fY.Ok(x:fY):Prop:=dU x.pos∧aX x.name
def Ck.Ban.cells(x:Ban):List Value:=[.int .i64 x.pos,.string x.QI,.string x.to]
def Ck.Ban.Ok(x:Ban):Prop:=dU x.pos∧aX x.QI∧aX x.to
def dZ{α:Type}(cells:α→List Value)(Ok:α→Prop)(w:World)(b o:Nat)(x:α):Prop:=aL w b o (cells x)∧Ok x
theorem aF{α:Type}(B:Nat)(cells:α→List Value)(Ok:α→Prop):jo B (dZ cells Ok):=fun _ _ _ _ _ g d h=>⟨h.1.below g d,h.2⟩
abbrev iO:=dZ Ck.Ram.cells Ck.Ram.Ok
abbrev cU:=dZ Ck.Map.cells Ck.Map.Ok
abbrev dH:=dZ Ck.Region.cells Ck.Region.Ok
abbrev eW:=dZ Ck.jq.cells Ck.jq.Ok
abbrev cj:=dZ Ck.au.cells Ck.au.Ok
abbrev iR:=dZ Ck.Irq.cells Ck.Irq.Ok
abbrev dj:=dZ Ck.eH.cells Ck.eH.Ok
abbrev ec:=dZ Run.cells Run.Ok
abbrev cN:=dZ Ck.fY.cells Ck.fY.Ok
abbrev iT:=dZ Ck.Ban.cells Ck.Ban.Ok
def aJ{α:Type}(B k:Nat)(R:World→Nat→Nat→α→Prop)(w:World)(v:Value)(xs:List α):Prop:=
 ∃A c,v=.slice A xs.length c∧xs.length≤c∧xs.length≤top∧ov B k R w A xs
theorem aJ.below{α:Type}{B k:Nat}{R:World→Nat→Nat→α→Prop}(d:jo B R){w w':World}{v:Value}{xs:List α}(h:aJ B k R w v xs)(g:Below B w w'):aJ B k R w' v xs:=by
 obtain⟨A,c,e,j,p,l⟩:=h;exact⟨A,c,e,j,p,l.below d g⟩
def js(B:Nat)(w:World)(b o:Nat)(x:Ck.bA):Prop:=
 ∃v,aL w b o [.int .i64 x.pos,.string x.name,.int .u64 x.Q7,.int .u64 x.size,v]∧aJ B 5 cU w v x.QF∧dU x.pos∧x.Q7<lim∧x.size<lim∧aX x.name
theorem bh(B:Nat):jo B (js B):=fun _ _ _ _ _ g d ⟨v,h,j,l⟩=>⟨v,h.below g d,j.below (aF _ _ _) g,l⟩
def iM(B:Nat)(w:World)(b o:Nat)(x:aj):Prop:=
 ∃v u,aL w b o [.int .i64 x.pos,.string x.name,.int .u64 x.QO,.bool x.stopped,v,u]∧aJ B 5 cU w v x.QF∧aJ B 4 eW w u x.QN∧dU x.pos∧x.QO<lim∧aX x.name
theorem bX(B:Nat):jo B (iM B):=fun _ _ _ _ _ d g ⟨v,u,h,j,l,p⟩=>⟨v,u,h.below d g,j.below (aF _ _ _) d,l.below (aF _ _ _) d,p⟩
def i7(B:Nat)(w:World)(b o:Nat)(x:cW):Prop:=
 ∃v,aL w b o [.int .i64 x.pos,.int .u64 x.QO,.bool x.needs,v]∧aJ B 4 ec w v x.runs∧dU x.pos∧x.QO<lim
theorem cK(B:Nat):jo B (i7 B):=fun _ _ _ _ _ g d ⟨v,h,j,l⟩=>⟨v,h.below g d,j.below (aF _ _ _) g,l⟩
def ou(B:Nat)(w:World)(b o:Nat)(x:eX):Prop:=
 ∃v,aL w b o [.int .i64 x.pos,.string x.name,.int .u64 x.QM,v]∧aJ B 4 (i7 B) w v x.QH∧dU x.pos∧x.QM<lim∧aX x.name
theorem dK(B:Nat):jo B (ou B):=fun _ _ _ _ _ g d ⟨v,h,j,l⟩=>⟨v,h.below g d,j.below (cK B) g,l⟩
structure aR where
 QG:Value
 Q4:Value
 Q5:Value
 Q3:Value
 Q8:Value
 QJ:Value
 QC:Value
 Q9:Value
 QB:Value
 QE:Value
 QA:Value
 QD:Value
def aR.cells(v:aR)(P:aC):List Value:=[.int .i64 P.pos,.string P.name,v.QG,v.Q4,v.Q5,v.Q3,v.Q8,v.QJ,v.QC,v.Q9,v.QB,v.QE,v.QA,v.QD]
structure ao (B:Nat) (w:World) (v:aR) (P:aC):Prop where
 QG:aJ B 3 iO w v.QG P.QG
 Q4:aJ B 5 (js B) w v.Q4 P.Q4
 Q5:aJ B 10 dH w v.Q5 P.Q5
 Q3:aJ B 6 (iM B) w v.Q3 P.Q3
 Q8:aJ B 8 cj w v.Q8 P.Q8
 QJ:aJ B 6 iR w v.QJ P.QJ
 QC:aJ B 6 dj w v.QC P.QC
 Q9:aJ B 4 (ou B) w v.Q9 P.Q9
 QB:aJ B 2 cN w v.QB P.QB
 QE:aJ B 2 cN w v.QE P.QE
 QA:aJ B 2 cN w v.QA P.QA
 QD:aJ B 3 iT w v.QD P.QD
 pos:dU P.pos
 name:aX P.name
theorem ao.below{B:Nat}{w w':World}{v:aR}{P:aC}(h:ao B w v P)(d:Below B w w'):ao B w' v P:=
 ⟨h.QG.below (aF _ _ _) d,h.Q4.below (bh B) d,h.Q5.below (aF _ _ _) d,h.Q3.below (bX B) d,h.Q8.below (aF _ _ _) d,h.QJ.below (aF _ _ _) d,
  h.QC.below (aF _ _ _) d,h.Q9.below (dK B) d,h.QB.below (aF _ _ _) d,h.QE.below (aF _ _ _) d,h.QA.below (aF _ _ _) d,h.QD.below (aF _ _ _) d,h.pos,h.name⟩
