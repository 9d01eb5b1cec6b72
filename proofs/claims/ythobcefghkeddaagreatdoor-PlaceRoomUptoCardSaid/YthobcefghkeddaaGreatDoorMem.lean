import Derived.Test.YthobcefghkeddaaGreatDoorSmlD
import Derived.WalkSpells
import Derived.WalkLawsBesides
import Derived.BigQuiet
import Derived.Lib.Hide
import Derived.Deep.AppendLies
set_option maxRecDepth 100000
set_option linter.all false
set_option maxHeartbeats 4000000
namespace Go.Proofs.YthobcefghkeddaaGreatDoor
open Go.RowKit Go.IntWalk
theorem wQ{k:IntKind}{a b:Int}(h:a=b):Ending.returned (.int k a)=.returned (.int k b):=by rw[h]
theorem tx{B:Nat}{a w:World}(h:Below B a w)(n:Nat):Below B a (w.drewN n):=⟨h.os,h.tape,h.output,h.size,h.block⟩
theorem Cr{W d:World}(g:Below W.heap.size W d):(∀b o,b<W.heap.size→d.cell? ⟨b,o,none⟩=W.cell? ⟨b,o,none⟩)∧(∀b o,b<W.heap.size→d.frozen? ⟨b,o,none⟩=W.frozen? ⟨b,o,none⟩):=
 ⟨fun b o h=>g.cell (p:=⟨b,o,none⟩) h,fun b o h=>g.frozen (p:=⟨b,o,none⟩) h⟩
theorem qp{a b:ByteArray}(h:a.toList=b.toList):a=b:=by
 rw[ByteArray.toList_eq,ByteArray.toList_eq]at h;obtain⟨⟨x⟩⟩:=a;obtain⟨⟨y⟩⟩:=b;simp only at h;subst h;rfl
theorem tv{a b:ByteArray}(h:a≠b):(a.toList==b.toList)=false:=by
 rw[beq_eq_false_iff_ne];exact fun e=>h (qp e)
theorem bU(a b:ByteArray):(a.toList==b.toList)=decide (a=b):=by
 by_cases h:a=b
 ·subst h;simp
 ·rw[tv h];simp[h]
structure aD (S:Nat→Prop) (w w':World):Prop where
 os:w'.os=w.os
 tape:w'.tape=w.tape
 output:w'.output=w.output
 size:w.heap.size≤w'.heap.size
 block:∀k,k<w.heap.size→¬ S k→w'.heap[k]?=w.heap[k]?
abbrev Kz:=aD (fun _=>False)
namespace aD
variable {S T:Nat→Prop} {a b c w w':World}
theorem refl(S:Nat→Prop)(w:World):aD S w w:=⟨rfl,rfl,rfl,Γ _,fun _ _ _=>rfl⟩
theorem trans(h:aD S a b)(k:aD T b c)(g:∀i,i<a.heap.size→T i→S i):aD S a c:=
 ⟨k.os.trans h.os,k.tape.trans h.tape,k.output.trans h.output,Δ h.size k.size,fun i hi d=>(k.block i (Θ hi h.size) (fun j=>d (g i hi j))).trans (h.block i hi d)⟩
theorem mono(h:aD S a b)(d:∀i,i<a.heap.size→S i→T i):aD T a b:=⟨h.os,h.tape,h.output,h.size,fun i hi g=>h.block i hi (fun x=>g (d i hi x))⟩
theorem alloc(h:aD S a w)(o:Obj):aD S a (w.alloc o):=
 ⟨h.os,h.tape,h.output,Δ h.size ξ,fun i hi d=>(Below.heap_alloc w o i (Θ hi h.size)).trans (h.block i hi d)⟩
theorem drew(h:aD S a w):aD S a w.drew:=⟨h.os,h.tape,h.output,h.size,h.block⟩
theorem drewN(h:aD S a w)(n:Nat):aD S a (w.drewN n):=⟨h.os,h.tape,h.output,h.size,h.block⟩
theorem setCell(h:aD S a w){p:Addr}(g:p.block<a.heap.size→S p.block)(u:Value):aD S a (w.setCell p u):=
 ⟨h.os,h.tape,h.output,by simpa[World.setCell]using h.size,fun i hi d=>(Below.heap_setCell w p u i (by rintro rfl;exact d (g hi))).trans (h.block i hi d)⟩
theorem of_below{B:Nat}(h:Below B a w)(d:∀i,i<a.heap.size→B≤i→S i):aD S a w:=⟨h.os,h.tape,h.output,h.size,fun i hi j=>h.block i (Nat.lt_of_not_le fun g=>j (d i hi g))⟩
theorem of_grown{row:Option Nat}(h:a.grownBy w row)(d:∀k,row=some k→S k):aD S a w:=⟨h.os,h.tape,h.output,h.size,fun i hi g=>h.block i hi (fun e=>g (d i e.symm))⟩
theorem below(h:aD S a w){B:Nat}(d:B≤a.heap.size)(g:∀i,i<B→¬ S i):Below B a w:=⟨h.os,h.tape,h.output,h.size,fun i hi=>h.block i (Θ hi d) (g i hi)⟩
theorem cell(h:aD S a w){p:Addr}(d:p.block<a.heap.size)(g:¬ S p.block):w.cell? p=a.cell? p:=World.cell?_of_block (h.block _ d g)
theorem frozen(h:aD S a w){p:Addr}(d:p.block<a.heap.size)(g:¬ S p.block):w.frozen? p=a.frozen? p:=World.frozen?_of_block (h.block _ d g)
theorem grown(h:Kz a w)(row:Option Nat):a.grownBy w row:=⟨h.os,h.tape,h.output,h.size,fun i hi _=>h.block i hi (fun x=>x)⟩
end aD
def Var(w:World)(b:Nat)(t:TypeId)(v:Value):Prop:=w.heap[b]?=some (.cells #[v] t (0,0))
theorem Var.lt{w:World}{b:Nat}{t:TypeId}{v:Value}(h:Var w b t v):b<w.heap.size:=(ϱ.1 h).1
theorem Var.cell{w:World}{b:Nat}{t:TypeId}{v:Value}(h:Var w b t v):w.cell? ⟨b,0,none⟩=some v:=cell_of_one h
theorem Var.frozen{w:World}{b:Nat}{t:TypeId}{v:Value}(h:Var w b t v):w.frozen? ⟨b,0,none⟩=false:=free_of_one h
theorem Var.keep{S:Nat→Prop}{w w':World}{b:Nat}{t:TypeId}{v:Value}(h:Var w b t v)(hk:aD S w w')(d:¬ S b):Var w' b t v:=(hk.block b h.lt d).trans h
theorem Var.set_{w:World}{b:Nat}{t:TypeId}{v:Value}(h:Var w b t v)(u:Value):Var (w.setCell ⟨b,0,none⟩ u) b t u:=by
 unfold Var at h⊢;simp[World.setCell,Array.getElem?_modify,h]
def aL(w:World)(b o:Nat)(vs:List Value):Prop:=∀j v,vs[j]?=some v→w.cell? ⟨b,o+j,none⟩=some v
theorem aL.below{B:Nat}{w w':World}{b o:Nat}{vs:List Value}(h:aL w b o vs)(g:Below B w w')(d:b<B):aL w' b o vs:=
 fun j v l=>(g.cell (p:=⟨b,o+j,none⟩) d).trans (h j v l)
theorem aL.keep{S:Nat→Prop}{w w':World}{b o:Nat}{vs:List Value}(h:aL w b o vs)(hk:aD S w w')(d:b<w.heap.size)(g:¬ S b):aL w' b o vs:=
 fun j v l=>(hk.cell (p:=⟨b,o+j,none⟩) d g).trans (h j v l)
def pX{α:Type}(B k:Nat)(R:World→Nat→Nat→α→Prop)(w:World)(A:Option Addr)(xs:List α):Prop:=
 0<xs.length→∃b off,A=some ⟨b,off,none⟩∧b<B∧∀i x,xs[i]?=some x→R w b (off+i*k) x
def kJ{α:Type}(B:Nat)(R:World→Nat→Nat→α→Prop):Prop:=∀w w' b o x,Below B w w'→b<B→R w b o x→R w' b o x
theorem pX.below{α:Type}{B k:Nat}{R:World→Nat→Nat→α→Prop}(g:kJ B R){w w':World}{A:Option Addr}{xs:List α}(h:pX B k R w A xs)(j:Below B w w'):pX B k R w' A xs:=by
 intro q;obtain⟨b,off,e,d,l⟩:=h q;exact⟨b,off,e,d,fun i x u=>g _ _ _ _ _ j d (l i x u)⟩
open Ck
abbrev lim:Nat:=18446744073709551616
abbrev top:Nat:=2097152
def aV(s:ByteArray):Prop:=s.size≤2097152
def gk(n:Int):Prop := -9223372036854775808≤n∧n≤9223372036854775807
def Ck.Ram.cells(x:Ram):List Value:=[.int .i64 x.pos,.int .u64 x.Q7,.int .u64 x.size]
def Ck.Ram.Ok(x:Ram):Prop:=gk x.pos∧x.Q7<lim∧x.size<lim
def Ck.Map.cells(x:Map):List Value:=[.int .i64 x.pos,.string x.of,.int .u64 x.Q7,.bool x.write,.bool x.exec]
def Ck.Map.Ok(x:Map):Prop:=gk x.pos∧x.Q7<lim∧aV x.of
def Ck.Region.cells(x:Region):List Value:=[.int .i64 x.pos,.string x.name,.int .u64 x.size,.bool x.fixed,.int .u64 x.Q7,.bool x.big,.bool x.wx,.int .u64 x.fill,.bool x.QQ,.string x.text]
def Ck.Region.Ok(x:Region):Prop:=gk x.pos∧x.size<lim∧x.Q7<lim∧x.fill<lim∧aV x.name∧aV x.text
def Ck.mf.cells(x:mf):List Value:=[.int .i64 x.pos,.int .i64 x.how,.string x.to,.int .u64 x.QK]
def Ck.mf.Ok(x:mf):Prop:=gk x.pos∧gk x.how∧x.QK<lim∧aV x.to
def Ck.bO.cells(x:bO):List Value:=[.int .i64 x.pos,.string x.name,.string x.QF,.string x.to,.bool x.shared,.string x.over,.int .i64 x.how,.int .u64 x.QK]
def Ck.bO.Ok(x:bO):Prop:=gk x.pos∧gk x.how∧x.QK<lim∧aV x.name∧aV x.QF∧aV x.to∧aV x.over
def Ck.Irq.cells(x:Irq):List Value:=[.int .i64 x.pos,.string x.name,.string x.QF,.string x.to,.int .u64 x.QK,.bool x.masked]
def Ck.Irq.Ok(x:Irq):Prop:=gk x.pos∧x.QK<lim∧aV x.name∧aV x.QF∧aV x.to
def Ck.iG.cells(x:iG):List Value:=[.int .i64 x.pos,.string x.name,.string x.QF,.string x.to,.int .i64 x.how,.int .u64 x.depth]
def Ck.iG.Ok(x:iG):Prop:=gk x.pos∧gk x.how∧x.depth<lim∧aV x.name∧aV x.QF∧aV x.to
def Run.cells(x:Run):List Value:=[.int .i64 x.pos,.string x.QH,.int .u64 x.QS,.int .u64 x.per]
def Run.Ok(x:Run):Prop:=gk x.pos∧x.QS<lim∧x.per<lim∧aV x.QH
def Ck.iq.cells(x:iq):List Value:=[.int .i64 x.pos,.string x.name]
def Ck.iq.Ok(x:iq):Prop:=gk x.pos∧aV x.name
def Ck.Ban.cells(x:Ban):List Value:=[.int .i64 x.pos,.string x.QF,.string x.to]
def Ck.Ban.Ok(x:Ban):Prop:=gk x.pos∧aV x.QF∧aV x.to
def fI{α:Type}(cells:α→List Value)(Ok:α→Prop)(w:World)(b o:Nat)(x:α):Prop:=aL w b o (cells x)∧Ok x
theorem aI{α:Type}(B:Nat)(cells:α→List Value)(Ok:α→Prop):kJ B (fI cells Ok):=fun _ _ _ _ _ g d h=>⟨h.1.below g d,h.2⟩
abbrev BL:=fI Ck.Ram.cells Ck.Ram.Ok
abbrev eK:=fI Ck.Map.cells Ck.Map.Ok
abbrev lX:=fI Ck.Region.cells Ck.Region.Ok
abbrev pW:=fI Ck.mf.cells Ck.mf.Ok
abbrev mh:=fI Ck.bO.cells Ck.bO.Ok
abbrev BO:=fI Ck.Irq.cells Ck.Irq.Ok
abbrev rj:=fI Ck.iG.cells Ck.iG.Ok
abbrev nG:=fI Run.cells Run.Ok
abbrev mg:=fI Ck.iq.cells Ck.iq.Ok
abbrev BQ:=fI Ck.Ban.cells Ck.Ban.Ok
def aM{α:Type}(B k:Nat)(R:World→Nat→Nat→α→Prop)(w:World)(v:Value)(xs:List α):Prop:=
 ∃A c,v=.slice A xs.length c∧xs.length≤c∧xs.length≤top∧pX B k R w A xs
theorem aM.below{α:Type}{B k:Nat}{R:World→Nat→Nat→α→Prop}(d:kJ B R){w w':World}{v:Value}{xs:List α}(h:aM B k R w v xs)(g:Below B w w'):aM B k R w' v xs:=by
 obtain⟨A,c,e,j,q,l⟩:=h;exact⟨A,c,e,j,q,l.below d g⟩
def lZ(B:Nat)(w:World)(b o:Nat)(x:Ck.bR):Prop:=
 ∃v,aL w b o [.int .i64 x.pos,.string x.name,.int .u64 x.Q7,.int .u64 x.size,v]∧aM B 5 eK w v x.QA∧gk x.pos∧x.Q7<lim∧x.size<lim∧aV x.name
theorem eH(B:Nat):kJ B (lZ B):=fun _ _ _ _ _ g d ⟨v,h,j,l⟩=>⟨v,h.below g d,j.below (aI _ _ _) g,l⟩
def jy(B:Nat)(w:World)(b o:Nat)(x:ak):Prop:=
 ∃v u,aL w b o [.int .i64 x.pos,.string x.name,.int .u64 x.QN,.bool x.stopped,v,u]∧aM B 5 eK w v x.QA∧aM B 4 pW w u x.QO∧gk x.pos∧x.QN<lim∧aV x.name
theorem dD(B:Nat):kJ B (jy B):=fun _ _ _ _ _ d g ⟨v,u,h,j,l,q⟩=>⟨v,u,h.below d g,j.below (aI _ _ _) d,l.below (aI _ _ _) d,q⟩
def iu(B:Nat)(w:World)(b o:Nat)(x:cK):Prop:=
 ∃v,aL w b o [.int .i64 x.pos,.int .u64 x.QN,.bool x.needs,v]∧aM B 4 nG w v x.runs∧gk x.pos∧x.QN<lim
theorem d5(B:Nat):kJ B (iu B):=fun _ _ _ _ _ g d ⟨v,h,j,l⟩=>⟨v,h.below g d,j.below (aI _ _ _) g,l⟩
def rm(B:Nat)(w:World)(b o:Nat)(x:jp):Prop:=
 ∃v,aL w b o [.int .i64 x.pos,.string x.name,.int .u64 x.QJ,v]∧aM B 4 (iu B) w v x.QL∧gk x.pos∧x.QJ<lim∧aV x.name
theorem eR(B:Nat):kJ B (rm B):=fun _ _ _ _ _ g d ⟨v,h,j,l⟩=>⟨v,h.below g d,j.below (d5 B) g,l⟩
structure ae where
 QD:Value
 Q5:Value
 Q3:Value
 Q4:Value
 Q8:Value
 QM:Value
 QB:Value
 Q9:Value
 QC:Value
 QI:Value
 QE:Value
 QG:Value
def ae.cells(v:ae)(P:aF):List Value:=[.int .i64 P.pos,.string P.name,v.QD,v.Q5,v.Q3,v.Q4,v.Q8,v.QM,v.QB,v.Q9,v.QC,v.QI,v.QE,v.QG]
structure bD (B:Nat) (w:World) (v:ae) (P:aF):Prop where
 QD:aM B 3 BL w v.QD P.QD
 Q5:aM B 5 (lZ B) w v.Q5 P.Q5
 Q3:aM B 10 lX w v.Q3 P.Q3
 Q4:aM B 6 (jy B) w v.Q4 P.Q4
 Q8:aM B 8 mh w v.Q8 P.Q8
 QM:aM B 6 BO w v.QM P.QM
 QB:aM B 6 rj w v.QB P.QB
 Q9:aM B 4 (rm B) w v.Q9 P.Q9
 QC:aM B 2 mg w v.QC P.QC
 QI:aM B 2 mg w v.QI P.QI
 QE:aM B 2 mg w v.QE P.QE
 QG:aM B 3 BQ w v.QG P.QG
 pos:gk P.pos
 name:aV P.name
theorem bD.below{B:Nat}{w w':World}{v:ae}{P:aF}(h:bD B w v P)(d:Below B w w'):bD B w' v P:=
 ⟨h.QD.below (aI _ _ _) d,h.Q5.below (eH B) d,h.Q3.below (aI _ _ _) d,h.Q4.below (dD B) d,h.Q8.below (aI _ _ _) d,h.QM.below (aI _ _ _) d,
  h.QB.below (aI _ _ _) d,h.Q9.below (eR B) d,h.QC.below (aI _ _ _) d,h.QI.below (aI _ _ _) d,h.QE.below (aI _ _ _) d,h.QG.below (aI _ _ _) d,h.pos,h.name⟩
