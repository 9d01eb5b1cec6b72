import Derived.Test.YthobcefghkeddaaGreatDoorSmlD
import Derived.WalkSpells
import Derived.WalkLawsBesides
import Derived.BigQuiet
import Derived.Lib.Hide
import Derived.Deep.AppendLies
set_option maxRecDepth 100000
set_option linter.all false
set_option maxHeartbeats 4000000
namespace Go.Proofs.YthobcefghkeddaaGreatDoor
open Go.RowKit Go.IntWalk
theorem nM{k:IntKind}{a b:Int}(h:a=b):Ending.returned (.int k a)=.returned (.int k b):=by rw[h]
theorem tX{B:Nat}{a w:World}(h:Below B a w)(n:Nat):Below B a (w.drewN n):=⟨h.os,h.tape,h.output,h.size,h.block⟩
theorem Cz{W d:World}(g:Below W.heap.size W d):(∀b o,b<W.heap.size→d.cell? ⟨b,o,none⟩=W.cell? ⟨b,o,none⟩)∧(∀b o,b<W.heap.size→d.frozen? ⟨b,o,none⟩=W.frozen? ⟨b,o,none⟩):=
 ⟨fun b o h=>g.cell (p:=⟨b,o,none⟩) h,fun b o h=>g.frozen (p:=⟨b,o,none⟩) h⟩
theorem qh{a b:ByteArray}(h:a.toList=b.toList):a=b:=by
 rw[ByteArray.toList_eq,ByteArray.toList_eq]at h;obtain⟨⟨x⟩⟩:=a;obtain⟨⟨y⟩⟩:=b;simp only at h;subst h;rfl
theorem tW{a b:ByteArray}(h:a≠b):(a.toList==b.toList)=false:=by
 rw[beq_eq_false_iff_ne];exact fun e=>h (qh e)
theorem ba(a b:ByteArray):(a.toList==b.toList)=decide (a=b):=by
 by_cases h:a=b
 ·subst h;simp
 ·rw[tW h];simp[h]
structure aD (S:Nat→Prop) (w w':World):Prop where
 os:w'.os=w.os
 tape:w'.tape=w.tape
 output:w'.output=w.output
 size:w.heap.size≤w'.heap.size
 block:∀k,k<w.heap.size→¬ S k→w'.heap[k]?=w.heap[k]?
abbrev Kz:=aD (fun _=>False)
namespace aD
variable {S T:Nat→Prop} {a b c w w':World}
theorem refl(S:Nat→Prop)(w:World):aD S w w:=⟨rfl,rfl,rfl,Nat.le_refl _,fun _ _ _=>rfl⟩
theorem trans(h:aD S a b)(k:aD T b c)(g:∀i,i<a.heap.size→T i→S i):aD S a c:=
 ⟨k.os.trans h.os,k.tape.trans h.tape,k.output.trans h.output,Nat.le_trans h.size k.size,fun i hi d=>(k.block i (Nat.lt_of_lt_of_le hi h.size) (fun j=>d (g i hi j))).trans (h.block i hi d)⟩
theorem mono(h:aD S a b)(d:∀i,i<a.heap.size→S i→T i):aD T a b:=⟨h.os,h.tape,h.output,h.size,fun i hi g=>h.block i hi (fun x=>g (d i hi x))⟩
theorem alloc(h:aD S a w)(o:Obj):aD S a (w.alloc o):=
 ⟨h.os,h.tape,h.output,Nat.le_trans h.size ξ,fun i hi d=>(Below.heap_alloc w o i (Nat.lt_of_lt_of_le hi h.size)).trans (h.block i hi d)⟩
theorem drew(h:aD S a w):aD S a w.drew:=⟨h.os,h.tape,h.output,h.size,h.block⟩
theorem drewN(h:aD S a w)(n:Nat):aD S a (w.drewN n):=⟨h.os,h.tape,h.output,h.size,h.block⟩
theorem setCell(h:aD S a w){p:Addr}(g:p.block<a.heap.size→S p.block)(u:Value):aD S a (w.setCell p u):=
 ⟨h.os,h.tape,h.output,by simpa[World.setCell]using h.size,fun i hi d=>(Below.heap_setCell w p u i (by rintro rfl;exact d (g hi))).trans (h.block i hi d)⟩
theorem of_below{B:Nat}(h:Below B a w)(d:∀i,i<a.heap.size→B≤i→S i):aD S a w:=⟨h.os,h.tape,h.output,h.size,fun i hi j=>h.block i (Nat.lt_of_not_le fun g=>j (d i hi g))⟩
theorem of_grown{row:Option Nat}(h:a.grownBy w row)(d:∀k,row=some k→S k):aD S a w:=⟨h.os,h.tape,h.output,h.size,fun i hi g=>h.block i hi (fun e=>g (d i e.symm))⟩
theorem below(h:aD S a w){B:Nat}(d:B≤a.heap.size)(g:∀i,i<B→¬ S i):Below B a w:=⟨h.os,h.tape,h.output,h.size,fun i hi=>h.block i (Nat.lt_of_lt_of_le hi d) (g i hi)⟩
theorem cell(h:aD S a w){p:Addr}(d:p.block<a.heap.size)(g:¬ S p.block):w.cell? p=a.cell? p:=World.cell?_of_block (h.block _ d g)
theorem frozen(h:aD S a w){p:Addr}(d:p.block<a.heap.size)(g:¬ S p.block):w.frozen? p=a.frozen? p:=World.frozen?_of_block (h.block _ d g)
theorem grown(h:Kz a w)(row:Option Nat):a.grownBy w row:=⟨h.os,h.tape,h.output,h.size,fun i hi _=>h.block i hi (fun x=>x)⟩
end aD
def Var(w:World)(b:Nat)(t:TypeId)(v:Value):Prop:=w.heap[b]?=some (.cells #[v] t (0,0))
theorem Var.lt{w:World}{b:Nat}{t:TypeId}{v:Value}(h:Var w b t v):b<w.heap.size:=(Array.getElem?_eq_some_iff.1 h).1
theorem Var.cell{w:World}{b:Nat}{t:TypeId}{v:Value}(h:Var w b t v):w.cell? ⟨b,0,none⟩=some v:=cell_of_one h
theorem Var.frozen{w:World}{b:Nat}{t:TypeId}{v:Value}(h:Var w b t v):w.frozen? ⟨b,0,none⟩=false:=free_of_one h
theorem Var.keep{S:Nat→Prop}{w w':World}{b:Nat}{t:TypeId}{v:Value}(h:Var w b t v)(hk:aD S w w')(d:¬ S b):Var w' b t v:=(hk.block b h.lt d).trans h
theorem Var.set_{w:World}{b:Nat}{t:TypeId}{v:Value}(h:Var w b t v)(u:Value):Var (w.setCell ⟨b,0,none⟩ u) b t u:=by
 unfold Var at h⊢;simp[World.setCell,Array.getElem?_modify,h]
def aM(w:World)(b o:Nat)(vs:List Value):Prop:=∀j v,vs[j]?=some v→w.cell? ⟨b,o+j,none⟩=some v
theorem aM.below{B:Nat}{w w':World}{b o:Nat}{vs:List Value}(h:aM w b o vs)(g:Below B w w')(d:b<B):aM w' b o vs:=
 fun j v l=>(g.cell (p:=⟨b,o+j,none⟩) d).trans (h j v l)
theorem aM.keep{S:Nat→Prop}{w w':World}{b o:Nat}{vs:List Value}(h:aM w b o vs)(hk:aD S w w')(d:b<w.heap.size)(g:¬ S b):aM w' b o vs:=
 fun j v l=>(hk.cell (p:=⟨b,o+j,none⟩) d g).trans (h j v l)
def pO{α:Type}(B k:Nat)(R:World→Nat→Nat→α→Prop)(w:World)(A:Option Addr)(xs:List α):Prop:=
 0<xs.length→∃b off,A=some ⟨b,off,none⟩∧b<B∧∀i x,xs[i]?=some x→R w b (off+i*k) x
def kD{α:Type}(B:Nat)(R:World→Nat→Nat→α→Prop):Prop:=∀w w' b o x,Below B w w'→b<B→R w b o x→R w' b o x
theorem pO.below{α:Type}{B k:Nat}{R:World→Nat→Nat→α→Prop}(g:kD B R){w w':World}{A:Option Addr}{xs:List α}(h:pO B k R w A xs)(j:Below B w w'):pO B k R w' A xs:=by
 intro q;obtain⟨b,off,e,d,l⟩:=h q;exact⟨b,off,e,d,fun i x u=>g _ _ _ _ _ j d (l i x u)⟩
open Ck
abbrev lim:Nat:=18446744073709551616
abbrev top:Nat:=2097152
def aW(s:ByteArray):Prop:=s.size≤2097152
def dx(n:Int):Prop := -9223372036854775808≤n∧n≤9223372036854775807
def Ck.Ram.cells(x:Ram):List Value:=[.int .i64 x.pos,.int .u64 x.Q7,.int .u64 x.size]
def Ck.Ram.Ok(x:Ram):Prop:=dx x.pos∧x.Q7<lim∧x.size<lim
def Ck.Map.cells(x:Map):List Value:=[.int .i64 x.pos,.string x.of,.int .u64 x.Q7,.bool x.write,.bool x.exec]
def Ck.Map.Ok(x:Map):Prop:=dx x.pos∧x.Q7<lim∧aW x.of
def Ck.Region.cells(x:Region):List Value:=[.int .i64 x.pos,.string x.name,.int .u64 x.size,.bool x.fixed,.int .u64 x.Q7,.bool x.big,.bool x.wx,.int .u64 x.fill,.bool x.QP,.string x.text]
def Ck.Region.Ok(x:Region):Prop:=dx x.pos∧x.size<lim∧x.Q7<lim∧x.fill<lim∧aW x.name∧aW x.text
def Ck.lU.cells(x:lU):List Value:=[.int .i64 x.pos,.int .i64 x.how,.string x.to,.int .u64 x.QK]
def Ck.lU.Ok(x:lU):Prop:=dx x.pos∧dx x.how∧x.QK<lim∧aW x.to
def Ck.b7.cells(x:b7):List Value:=[.int .i64 x.pos,.string x.name,.string x.QE,.string x.to,.bool x.shared,.string x.over,.int .i64 x.how,.int .u64 x.QK]
def Ck.b7.Ok(x:b7):Prop:=dx x.pos∧dx x.how∧x.QK<lim∧aW x.name∧aW x.QE∧aW x.to∧aW x.over
def Ck.Irq.cells(x:Irq):List Value:=[.int .i64 x.pos,.string x.name,.string x.QE,.string x.to,.int .u64 x.QK,.bool x.masked]
def Ck.Irq.Ok(x:Irq):Prop:=dx x.pos∧x.QK<lim∧aW x.name∧aW x.QE∧aW x.to
def Ck.eW.cells(x:eW):List Value:=[.int .i64 x.pos,.string x.name,.string x.QE,.string x.to,.int .i64 x.how,.int .u64 x.depth]
def Ck.eW.Ok(x:eW):Prop:=dx x.pos∧dx x.how∧x.depth<lim∧aW x.name∧aW x.QE∧aW x.to
def Run.cells(x:Run):List Value:=[.int .i64 x.pos,.string x.QI,.int .u64 x.QR,.int .u64 x.per]
def Run.Ok(x:Run):Prop:=dx x.pos∧x.QR<lim∧x.per<lim∧aW x.QI
def Ck.iE.cells(x:iE):List Value:=[.int .i64 x.pos,.string x.name]
def Ck.iE.Ok(x:iE):Prop:=dx x.pos∧aW x.name
def Ck.Ban.cells(x:Ban):List Value:=[.int .i64 x.pos,.string x.QE,.string x.to]
def Ck.Ban.Ok(x:Ban):Prop:=dx x.pos∧aW x.QE∧aW x.to
def dz{α:Type}(cells:α→List Value)(Ok:α→Prop)(w:World)(b o:Nat)(x:α):Prop:=aM w b o (cells x)∧Ok x
theorem aJ{α:Type}(B:Nat)(cells:α→List Value)(Ok:α→Prop):kD B (dz cells Ok):=fun _ _ _ _ _ g d h=>⟨h.1.below g d,h.2⟩
abbrev tj:=dz Ck.Ram.cells Ck.Ram.Ok
abbrev dO:=dz Ck.Map.cells Ck.Map.Ok
abbrev eS:=dz Ck.Region.cells Ck.Region.Ok
abbrev kY:=dz Ck.lU.cells Ck.lU.Ok
abbrev iH:=dz Ck.b7.cells Ck.b7.Ok
abbrev tm:=dz Ck.Irq.cells Ck.Irq.Ok
abbrev lV:=dz Ck.eW.cells Ck.eW.Ok
abbrev kE:=dz Run.cells Run.Ok
abbrev fP:=dz Ck.iE.cells Ck.iE.Ok
abbrev tq:=dz Ck.Ban.cells Ck.Ban.Ok
def aL{α:Type}(B k:Nat)(R:World→Nat→Nat→α→Prop)(w:World)(v:Value)(xs:List α):Prop:=
 ∃A c,v=.slice A xs.length c∧xs.length≤c∧xs.length≤top∧pO B k R w A xs
theorem aL.below{α:Type}{B k:Nat}{R:World→Nat→Nat→α→Prop}(d:kD B R){w w':World}{v:Value}{xs:List α}(h:aL B k R w v xs)(g:Below B w w'):aL B k R w' v xs:=by
 obtain⟨A,c,e,j,q,l⟩:=h;exact⟨A,c,e,j,q,l.below d g⟩
def jk(B:Nat)(w:World)(b o:Nat)(x:Ck.bB):Prop:=
 ∃v,aM w b o [.int .i64 x.pos,.string x.name,.int .u64 x.Q7,.int .u64 x.size,v]∧aL B 5 dO w v x.QA∧dx x.pos∧x.Q7<lim∧x.size<lim∧aW x.name
theorem eP(B:Nat):kD B (jk B):=fun _ _ _ _ _ g d ⟨v,h,j,l⟩=>⟨v,h.below g d,j.below (aJ _ _ _) g,l⟩
def iD(B:Nat)(w:World)(b o:Nat)(x:aZ):Prop:=
 ∃v u,aM w b o [.int .i64 x.pos,.string x.name,.int .u64 x.QN,.bool x.stopped,v,u]∧aL B 5 dO w v x.QA∧aL B 4 kY w u x.QO∧dx x.pos∧x.QN<lim∧aW x.name
theorem dH(B:Nat):kD B (iD B):=fun _ _ _ _ _ d g ⟨v,u,h,j,l,q⟩=>⟨v,u,h.below d g,j.below (aJ _ _ _) d,l.below (aJ _ _ _) d,q⟩
def gY(B:Nat)(w:World)(b o:Nat)(x:cN):Prop:=
 ∃v,aM w b o [.int .i64 x.pos,.int .u64 x.QN,.bool x.needs,v]∧aL B 4 kE w v x.runs∧dx x.pos∧x.QN<lim
theorem dB(B:Nat):kD B (gY B):=fun _ _ _ _ _ g d ⟨v,h,j,l⟩=>⟨v,h.below g d,j.below (aJ _ _ _) g,l⟩
def pN(B:Nat)(w:World)(b o:Nat)(x:gD):Prop:=
 ∃v,aM w b o [.int .i64 x.pos,.string x.name,.int .u64 x.QJ,v]∧aL B 4 (gY B) w v x.QM∧dx x.pos∧x.QJ<lim∧aW x.name
theorem ef(B:Nat):kD B (pN B):=fun _ _ _ _ _ g d ⟨v,h,j,l⟩=>⟨v,h.below g d,j.below (dB B) g,l⟩
structure aY where
 QF:Value
 Q5:Value
 Q3:Value
 Q4:Value
 Q8:Value
 QL:Value
 QB:Value
 Q9:Value
 QD:Value
 QH:Value
 QC:Value
 QG:Value
def aY.cells(v:aY)(P:aF):List Value:=[.int .i64 P.pos,.string P.name,v.QF,v.Q5,v.Q3,v.Q4,v.Q8,v.QL,v.QB,v.Q9,v.QD,v.QH,v.QC,v.QG]
structure ax (B:Nat) (w:World) (v:aY) (P:aF):Prop where
 QF:aL B 3 tj w v.QF P.QF
 Q5:aL B 5 (jk B) w v.Q5 P.Q5
 Q3:aL B 10 eS w v.Q3 P.Q3
 Q4:aL B 6 (iD B) w v.Q4 P.Q4
 Q8:aL B 8 iH w v.Q8 P.Q8
 QL:aL B 6 tm w v.QL P.QL
 QB:aL B 6 lV w v.QB P.QB
 Q9:aL B 4 (pN B) w v.Q9 P.Q9
 QD:aL B 2 fP w v.QD P.QD
 QH:aL B 2 fP w v.QH P.QH
 QC:aL B 2 fP w v.QC P.QC
 QG:aL B 3 tq w v.QG P.QG
 pos:dx P.pos
 name:aW P.name
theorem ax.below{B:Nat}{w w':World}{v:aY}{P:aF}(h:ax B w v P)(d:Below B w w'):ax B w' v P:=
 ⟨h.QF.below (aJ _ _ _) d,h.Q5.below (eP B) d,h.Q3.below (aJ _ _ _) d,h.Q4.below (dH B) d,h.Q8.below (aJ _ _ _) d,h.QL.below (aJ _ _ _) d,
  h.QB.below (aJ _ _ _) d,h.Q9.below (ef B) d,h.QD.below (aJ _ _ _) d,h.QH.below (aJ _ _ _) d,h.QC.below (aJ _ _ _) d,h.QG.below (aJ _ _ _) d,h.pos,h.name⟩
