import Derived.Test.YthobcefghkeddaaGreatDoorSmlD
import Derived.WalkSpells
import Derived.WalkLawsBesides
import Derived.BigQuiet
import Derived.Lib.Hide
import Derived.Deep.AppendLies
set_option maxRecDepth 100000
set_option linter.all false
set_option maxHeartbeats 4000000
namespace Go.Proofs.YthobcefghkeddaaGreatDoor
open Go.RowKit Go.IntWalk
theorem vO{k:IntKind}{a b:Int}(h:a=b):Ending.returned (.int k a)=.returned (.int k b):=by rw[h]
theorem tA{B:Nat}{a w:World}(h:Below B a w)(n:Nat):Below B a (w.drewN n):=⟨h.os,h.tape,h.output,h.size,h.block⟩
theorem C0{W d:World}(g:Below W.heap.size W d):(∀b o,b<W.heap.size→d.cell? ⟨b,o,none⟩=W.cell? ⟨b,o,none⟩)∧(∀b o,b<W.heap.size→d.frozen? ⟨b,o,none⟩=W.frozen? ⟨b,o,none⟩):=
 ⟨fun b o h=>g.cell (p:=⟨b,o,none⟩) h,fun b o h=>g.frozen (p:=⟨b,o,none⟩) h⟩
theorem qR{a b:ByteArray}(h:a.toList=b.toList):a=b:=by
 rw[ByteArray.toList_eq,ByteArray.toList_eq]at h;obtain⟨⟨x⟩⟩:=a;obtain⟨⟨y⟩⟩:=b;simp only at h;subst h;rfl
theorem sw{a b:ByteArray}(h:a≠b):(a.toList==b.toList)=false:=by
 rw[beq_eq_false_iff_ne];exact fun e=>h (qR e)
theorem bQ(a b:ByteArray):(a.toList==b.toList)=decide (a=b):=by
 by_cases h:a=b
 ·subst h;simp
 ·rw[sw h];simp[h]
structure aD (S:Nat→Prop) (w w':World):Prop where
 os:w'.os=w.os
 tape:w'.tape=w.tape
 output:w'.output=w.output
 size:w.heap.size≤w'.heap.size
 block:∀k,k<w.heap.size→¬ S k→w'.heap[k]?=w.heap[k]?
abbrev Kz:=aD (fun _=>False)
namespace aD
variable {S T:Nat→Prop} {a b c w w':World}
theorem refl(S:Nat→Prop)(w:World):aD S w w:=⟨rfl,rfl,rfl,Nat.le_refl _,fun _ _ _=>rfl⟩
theorem trans(h:aD S a b)(k:aD T b c)(g:∀i,i<a.heap.size→T i→S i):aD S a c:=
 ⟨k.os.trans h.os,k.tape.trans h.tape,k.output.trans h.output,Nat.le_trans h.size k.size,fun i hi d=>(k.block i (Nat.lt_of_lt_of_le hi h.size) (fun j=>d (g i hi j))).trans (h.block i hi d)⟩
theorem mono(h:aD S a b)(d:∀i,i<a.heap.size→S i→T i):aD T a b:=⟨h.os,h.tape,h.output,h.size,fun i hi g=>h.block i hi (fun x=>g (d i hi x))⟩
theorem alloc(h:aD S a w)(o:Obj):aD S a (w.alloc o):=
 ⟨h.os,h.tape,h.output,Nat.le_trans h.size ξ,fun i hi d=>(Below.heap_alloc w o i (Nat.lt_of_lt_of_le hi h.size)).trans (h.block i hi d)⟩
theorem drew(h:aD S a w):aD S a w.drew:=⟨h.os,h.tape,h.output,h.size,h.block⟩
theorem drewN(h:aD S a w)(n:Nat):aD S a (w.drewN n):=⟨h.os,h.tape,h.output,h.size,h.block⟩
theorem setCell(h:aD S a w){p:Addr}(g:p.block<a.heap.size→S p.block)(u:Value):aD S a (w.setCell p u):=
 ⟨h.os,h.tape,h.output,by simpa[World.setCell]using h.size,fun i hi d=>(Below.heap_setCell w p u i (by rintro rfl;exact d (g hi))).trans (h.block i hi d)⟩
theorem of_below{B:Nat}(h:Below B a w)(d:∀i,i<a.heap.size→B≤i→S i):aD S a w:=⟨h.os,h.tape,h.output,h.size,fun i hi j=>h.block i (Nat.lt_of_not_le fun g=>j (d i hi g))⟩
theorem of_grown{row:Option Nat}(h:a.grownBy w row)(d:∀k,row=some k→S k):aD S a w:=⟨h.os,h.tape,h.output,h.size,fun i hi g=>h.block i hi (fun e=>g (d i e.symm))⟩
theorem below(h:aD S a w){B:Nat}(d:B≤a.heap.size)(g:∀i,i<B→¬ S i):Below B a w:=⟨h.os,h.tape,h.output,h.size,fun i hi=>h.block i (Nat.lt_of_lt_of_le hi d) (g i hi)⟩
theorem cell(h:aD S a w){p:Addr}(d:p.block<a.heap.size)(g:¬ S p.block):w.cell? p=a.cell? p:=World.cell?_of_block (h.block _ d g)
theorem frozen(h:aD S a w){p:Addr}(d:p.block<a.heap.size)(g:¬ S p.block):w.frozen? p=a.frozen? p:=World.frozen?_of_block (h.block _ d g)
theorem grown(h:Kz a w)(row:Option Nat):a.grownBy w row:=⟨h.os,h.tape,h.output,h.size,fun i hi _=>h.block i hi (fun x=>x)⟩
end aD
def Var(w:World)(b:Nat)(t:TypeId)(v:Value):Prop:=w.heap[b]?=some (.cells #[v] t (0,0))
theorem Var.lt{w:World}{b:Nat}{t:TypeId}{v:Value}(h:Var w b t v):b<w.heap.size:=(Array.getElem?_eq_some_iff.1 h).1
theorem Var.cell{w:World}{b:Nat}{t:TypeId}{v:Value}(h:Var w b t v):w.cell? ⟨b,0,none⟩=some v:=cell_of_one h
theorem Var.frozen{w:World}{b:Nat}{t:TypeId}{v:Value}(h:Var w b t v):w.frozen? ⟨b,0,none⟩=false:=free_of_one h
theorem Var.keep{S:Nat→Prop}{w w':World}{b:Nat}{t:TypeId}{v:Value}(h:Var w b t v)(hk:aD S w w')(d:¬ S b):Var w' b t v:=(hk.block b h.lt d).trans h
theorem Var.set_{w:World}{b:Nat}{t:TypeId}{v:Value}(h:Var w b t v)(u:Value):Var (w.setCell ⟨b,0,none⟩ u) b t u:=by
 unfold Var at h⊢;simp[World.setCell,Array.getElem?_modify,h]
def aM(w:World)(b o:Nat)(vs:List Value):Prop:=∀j v,vs[j]?=some v→w.cell? ⟨b,o+j,none⟩=some v
theorem aM.below{B:Nat}{w w':World}{b o:Nat}{vs:List Value}(h:aM w b o vs)(g:Below B w w')(d:b<B):aM w' b o vs:=
 fun j v l=>(g.cell (p:=⟨b,o+j,none⟩) d).trans (h j v l)
theorem aM.keep{S:Nat→Prop}{w w':World}{b o:Nat}{vs:List Value}(h:aM w b o vs)(hk:aD S w w')(d:b<w.heap.size)(g:¬ S b):aM w' b o vs:=
 fun j v l=>(hk.cell (p:=⟨b,o+j,none⟩) d g).trans (h j v l)
def ov{α:Type}(B k:Nat)(R:World→Nat→Nat→α→Prop)(w:World)(A:Option Addr)(xs:List α):Prop:=
 0<xs.length→∃b off,A=some ⟨b,off,none⟩∧b<B∧∀i x,xs[i]?=some x→R w b (off+i*k) x
def ju{α:Type}(B:Nat)(R:World→Nat→Nat→α→Prop):Prop:=∀w w' b o x,Below B w w'→b<B→R w b o x→R w' b o x
theorem ov.below{α:Type}{B k:Nat}{R:World→Nat→Nat→α→Prop}(g:ju B R){w w':World}{A:Option Addr}{xs:List α}(h:ov B k R w A xs)(j:Below B w w'):ov B k R w' A xs:=by
 intro q;obtain⟨b,off,e,d,l⟩:=h q;exact⟨b,off,e,d,fun i x u=>g _ _ _ _ _ j d (l i x u)⟩
open Ck
abbrev lim:Nat:=18446744073709551616
abbrev top:Nat:=2097152
def aW(s:ByteArray):Prop:=s.size≤2097152
def gb(n:Int):Prop := -9223372036854775808≤n∧n≤9223372036854775807
def Ck.Ram.cells(x:Ram):List Value:=[.int .i64 x.pos,.int .u64 x.Q7,.int .u64 x.size]
def Ck.Ram.Ok(x:Ram):Prop:=gb x.pos∧x.Q7<lim∧x.size<lim
def Ck.Map.cells(x:Map):List Value:=[.int .i64 x.pos,.string x.of,.int .u64 x.Q7,.bool x.write,.bool x.exec]
def Ck.Map.Ok(x:Map):Prop:=gb x.pos∧x.Q7<lim∧aW x.of
def Ck.Region.cells(x:Region):List Value:=[.int .i64 x.pos,.string x.name,.int .u64 x.size,.bool x.fixed,.int .u64 x.Q7,.bool x.big,.bool x.wx,.int .u64 x.fill,.bool x.QP,.string x.text]
def Ck.Region.Ok(x:Region):Prop:=gb x.pos∧x.size<lim∧x.Q7<lim∧x.fill<lim∧aW x.name∧aW x.text
def Ck.mG.cells(x:mG):List Value:=[.int .i64 x.pos,.int .i64 x.how,.string x.to,.int .u64 x.QJ]
def Ck.mG.Ok(x:mG):Prop:=gb x.pos∧gb x.how∧x.QJ<lim∧aW x.to
def Ck.b7.cells(x:b7):List Value:=[.int .i64 x.pos,.string x.name,.string x.QC,.string x.to,.bool x.shared,.string x.over,.int .i64 x.how,.int .u64 x.QJ]
def Ck.b7.Ok(x:b7):Prop:=gb x.pos∧gb x.how∧x.QJ<lim∧aW x.name∧aW x.QC∧aW x.to∧aW x.over
def Ck.Irq.cells(x:Irq):List Value:=[.int .i64 x.pos,.string x.name,.string x.QC,.string x.to,.int .u64 x.QJ,.bool x.masked]
def Ck.Irq.Ok(x:Irq):Prop:=gb x.pos∧x.QJ<lim∧aW x.name∧aW x.QC∧aW x.to
def Ck.em.cells(x:em):List Value:=[.int .i64 x.pos,.string x.name,.string x.QC,.string x.to,.int .i64 x.how,.int .u64 x.depth]
def Ck.em.Ok(x:em):Prop:=gb x.pos∧gb x.how∧x.depth<lim∧aW x.name∧aW x.QC∧aW x.to
def Run.cells(x:Run):List Value:=[.int .i64 x.pos,.string x.QI,.int .u64 x.QS,.int .u64 x.per]
def Run.Ok(x:Run):Prop:=gb x.pos∧x.QS<lim∧x.per<lim∧aW x.QI
def Ck.iQ.cells(x:iQ):List Value:=[.int .i64 x.pos,.string x.name]
def Ck.iQ.Ok(x:iQ):Prop:=gb x.pos∧aW x.name
def Ck.Ban.cells(x:Ban):List Value:=[.int .i64 x.pos,.string x.QC,.string x.to]
def Ck.Ban.Ok(x:Ban):Prop:=gb x.pos∧aW x.QC∧aW x.to
def f8{α:Type}(cells:α→List Value)(Ok:α→Prop)(w:World)(b o:Nat)(x:α):Prop:=aM w b o (cells x)∧Ok x
theorem aI{α:Type}(B:Nat)(cells:α→List Value)(Ok:α→Prop):ju B (f8 cells Ok):=fun _ _ _ _ _ g d h=>⟨h.1.below g d,h.2⟩
abbrev C4:=f8 Ck.Ram.cells Ck.Ram.Ok
abbrev eH:=f8 Ck.Map.cells Ck.Map.Ok
abbrev ot:=f8 Ck.Region.cells Ck.Region.Ok
abbrev rG:=f8 Ck.mG.cells Ck.mG.Ok
abbrev qW:=f8 Ck.b7.cells Ck.b7.Ok
abbrev C5:=f8 Ck.Irq.cells Ck.Irq.Ok
abbrev wC:=f8 Ck.em.cells Ck.em.Ok
abbrev oq:=f8 Run.cells Run.Ok
abbrev ou:=f8 Ck.iQ.cells Ck.iQ.Ok
abbrev C6:=f8 Ck.Ban.cells Ck.Ban.Ok
def aK{α:Type}(B k:Nat)(R:World→Nat→Nat→α→Prop)(w:World)(v:Value)(xs:List α):Prop:=
 ∃A c,v=.slice A xs.length c∧xs.length≤c∧xs.length≤top∧ov B k R w A xs
theorem aK.below{α:Type}{B k:Nat}{R:World→Nat→Nat→α→Prop}(d:ju B R){w w':World}{v:Value}{xs:List α}(h:aK B k R w v xs)(g:Below B w w'):aK B k R w' v xs:=by
 obtain⟨A,c,e,j,q,l⟩:=h;exact⟨A,c,e,j,q,l.below d g⟩
def ox(B:Nat)(w:World)(b o:Nat)(x:Ck.bE):Prop:=
 ∃v,aM w b o [.int .i64 x.pos,.string x.name,.int .u64 x.Q7,.int .u64 x.size,v]∧aK B 5 eH w v x.QA∧gb x.pos∧x.Q7<lim∧x.size<lim∧aW x.name
theorem dz(B:Nat):ju B (ox B):=fun _ _ _ _ _ g d ⟨v,h,j,l⟩=>⟨v,h.below g d,j.below (aI _ _ _) g,l⟩
def mD(B:Nat)(w:World)(b o:Nat)(x:aa):Prop:=
 ∃v u,aM w b o [.int .i64 x.pos,.string x.name,.int .u64 x.QN,.bool x.stopped,v,u]∧aK B 5 eH w v x.QA∧aK B 4 rG w u x.QO∧gb x.pos∧x.QN<lim∧aW x.name
theorem dC(B:Nat):ju B (mD B):=fun _ _ _ _ _ d g ⟨v,u,h,j,l,q⟩=>⟨v,u,h.below d g,j.below (aI _ _ _) d,l.below (aI _ _ _) d,q⟩
def jW(B:Nat)(w:World)(b o:Nat)(x:cL):Prop:=
 ∃v,aM w b o [.int .i64 x.pos,.int .u64 x.QN,.bool x.needs,v]∧aK B 4 oq w v x.runs∧gb x.pos∧x.QN<lim
theorem co(B:Nat):ju B (jW B):=fun _ _ _ _ _ g d ⟨v,h,j,l⟩=>⟨v,h.below g d,j.below (aI _ _ _) g,l⟩
def ux(B:Nat)(w:World)(b o:Nat)(x:gM):Prop:=
 ∃v,aM w b o [.int .i64 x.pos,.string x.name,.int .u64 x.QK,v]∧aK B 4 (jW B) w v x.QL∧gb x.pos∧x.QK<lim∧aW x.name
theorem eM(B:Nat):ju B (ux B):=fun _ _ _ _ _ g d ⟨v,h,j,l⟩=>⟨v,h.below g d,j.below (co B) g,l⟩
structure aX where
 QF:Value
 Q5:Value
 Q3:Value
 Q4:Value
 Q8:Value
 QM:Value
 QB:Value
 Q9:Value
 QD:Value
 QH:Value
 QE:Value
 QG:Value
def aX.cells(v:aX)(P:aF):List Value:=[.int .i64 P.pos,.string P.name,v.QF,v.Q5,v.Q3,v.Q4,v.Q8,v.QM,v.QB,v.Q9,v.QD,v.QH,v.QE,v.QG]
structure bO (B:Nat) (w:World) (v:aX) (P:aF):Prop where
 QF:aK B 3 C4 w v.QF P.QF
 Q5:aK B 5 (ox B) w v.Q5 P.Q5
 Q3:aK B 10 ot w v.Q3 P.Q3
 Q4:aK B 6 (mD B) w v.Q4 P.Q4
 Q8:aK B 8 qW w v.Q8 P.Q8
 QM:aK B 6 C5 w v.QM P.QM
 QB:aK B 6 wC w v.QB P.QB
 Q9:aK B 4 (ux B) w v.Q9 P.Q9
 QD:aK B 2 ou w v.QD P.QD
 QH:aK B 2 ou w v.QH P.QH
 QE:aK B 2 ou w v.QE P.QE
 QG:aK B 3 C6 w v.QG P.QG
 pos:gb P.pos
 name:aW P.name
theorem bO.below{B:Nat}{w w':World}{v:aX}{P:aF}(h:bO B w v P)(d:Below B w w'):bO B w' v P:=
 ⟨h.QF.below (aI _ _ _) d,h.Q5.below (dz B) d,h.Q3.below (aI _ _ _) d,h.Q4.below (dC B) d,h.Q8.below (aI _ _ _) d,h.QM.below (aI _ _ _) d,
  h.QB.below (aI _ _ _) d,h.Q9.below (eM B) d,h.QD.below (aI _ _ _) d,h.QH.below (aI _ _ _) d,h.QE.below (aI _ _ _) d,h.QG.below (aI _ _ _) d,h.pos,h.name⟩
