import Derived.Test.YtpblcjipmoblnaaGreatDoorSpanP
import Derived.WalkKit
import Derived.WalkSpells
import Derived.WalkLawsBesides
import Derived.Deep.QuietTactic
import Derived.BigQuiet
import Derived.Lib.Hide
import Derived.Deep.AppendLies
import Derived.Deep.Draws
set_option maxRecDepth 100000
set_option maxHeartbeats 4000000
set_option linter.unusedVariables false
set_option linter.unusedSimpArgs false
set_option linter.unnecessarySimpa false
namespace Go.Proofs.YtpblcjipmoblnaaGreatDoor
open Go.RowKit Go.IntWalk
theorem lH{k:IntKind}{a b:Int}(h:a=b):Ending.returned (.int k a)=.returned (.int k b):=by rw[h]
theorem qp{B:Nat}{a w:World}(h:Below B a w)(n:Nat):Below B a (w.drewN n):=⟨h.os,h.tape,h.output,h.size,h.block⟩
theorem yI{W a:World}(d:Below W.heap.size W a):(∀b o,b<W.heap.size→a.cell? ⟨b,o,none⟩=W.cell? ⟨b,o,none⟩)∧(∀b o,b<W.heap.size→a.frozen? ⟨b,o,none⟩=W.frozen? ⟨b,o,none⟩):=
 ⟨fun b o h=>d.cell (p:=⟨b,o,none⟩) h,fun b o h=>d.frozen (p:=⟨b,o,none⟩) h⟩
theorem oQ{a b:ByteArray}(h:a.toList=b.toList):a=b:=by
 rw[ByteArray.toList_eq,ByteArray.toList_eq]at h;obtain⟨⟨x⟩⟩:=a;obtain⟨⟨y⟩⟩:=b;simp only at h;subst h;rfl
theorem qo{a b:ByteArray}(h:a≠b):(a.toList==b.toList)=false:=by
 rw[beq_eq_false_iff_ne];exact fun e=>h (oQ e)
theorem bv(a b:ByteArray):(a.toList==b.toList)=decide (a=b):=by
 by_cases h:a=b
 ·subst h;simp
 ·rw[qo h];simp[h]
structure aB (S:Nat→Prop) (w w':World):Prop where
 os:w'.os=w.os
 tape:w'.tape=w.tape
 output:w'.output=w.output
 size:w.heap.size≤w'.heap.size
 block:∀k,k<w.heap.size→¬ S k→w'.heap[k]?=w.heap[k]?
abbrev Kz:=aB (fun _=>False)
namespace aB
variable {S T:Nat→Prop} {a b c w w':World}
theorem refl(S:Nat→Prop)(w:World):aB S w w:=⟨rfl,rfl,rfl,Nat.le_refl _,fun _ _ _=>rfl⟩
theorem trans(h:aB S a b)(k:aB T b c)(g:∀i,i<a.heap.size→T i→S i):aB S a c:=
 ⟨k.os.trans h.os,k.tape.trans h.tape,k.output.trans h.output,Nat.le_trans h.size k.size,fun i d e=>(k.block i (Nat.lt_of_lt_of_le d h.size) (fun j=>e (g i d j))).trans (h.block i d e)⟩
theorem mono(h:aB S a b)(e:∀i,i<a.heap.size→S i→T i):aB T a b:=⟨h.os,h.tape,h.output,h.size,fun i d g=>h.block i d (fun x=>g (e i d x))⟩
theorem alloc(h:aB S a w)(o:Obj):aB S a (w.alloc o):=
 ⟨h.os,h.tape,h.output,Nat.le_trans h.size (by simp),fun i b d=>(Below.heap_alloc w o i (Nat.lt_of_lt_of_le b h.size)).trans (h.block i b d)⟩
theorem drew(h:aB S a w):aB S a w.drew:=⟨h.os,h.tape,h.output,h.size,h.block⟩
theorem drewN(h:aB S a w)(n:Nat):aB S a (w.drewN n):=⟨h.os,h.tape,h.output,h.size,h.block⟩
theorem setCell(h:aB S a w){p:Addr}(e:p.block<a.heap.size→S p.block)(u:Value):aB S a (w.setCell p u):=
 ⟨h.os,h.tape,h.output,by simpa[World.setCell]using h.size,fun i b d=>(Below.heap_setCell w p u i (by rintro rfl;exact d (e b))).trans (h.block i b d)⟩
theorem of_below{B:Nat}(h:Below B a w)(b:∀i,i<a.heap.size→B≤i→S i):aB S a w:=⟨h.os,h.tape,h.output,h.size,fun i e g=>h.block i (Nat.lt_of_not_le fun d=>g (b i e d))⟩
theorem of_grown{row:Option Nat}(h:a.grownBy w row)(b:∀k,row=some k→S k):aB S a w:=⟨h.os,h.tape,h.output,h.size,fun i d g=>h.block i d (fun e=>g (b i e.symm))⟩
theorem below(h:aB S a w){B:Nat}(d:B≤a.heap.size)(e:∀i,i<B→¬ S i):Below B a w:=⟨h.os,h.tape,h.output,h.size,fun i b=>h.block i (Nat.lt_of_lt_of_le b d) (e i b)⟩
theorem cell(h:aB S a w){p:Addr}(b:p.block<a.heap.size)(d:¬ S p.block):w.cell? p=a.cell? p:=World.cell?_of_block (h.block _ b d)
theorem frozen(h:aB S a w){p:Addr}(b:p.block<a.heap.size)(d:¬ S p.block):w.frozen? p=a.frozen? p:=World.frozen?_of_block (h.block _ b d)
end aB
def Var(w:World)(b:Nat)(t:TypeId)(v:Value):Prop:=w.heap[b]?=some (.cells #[v] t (0,0))
theorem Var.lt{w:World}{b:Nat}{t:TypeId}{v:Value}(h:Var w b t v):b<w.heap.size:=(Array.getElem?_eq_some_iff.1 h).1
theorem Var.cell{w:World}{b:Nat}{t:TypeId}{v:Value}(h:Var w b t v):w.cell? ⟨b,0,none⟩=some v:=cell_of_one h
theorem Var.frozen{w:World}{b:Nat}{t:TypeId}{v:Value}(h:Var w b t v):w.frozen? ⟨b,0,none⟩=false:=free_of_one h
theorem Var.keep{S:Nat→Prop}{w w':World}{b:Nat}{t:TypeId}{v:Value}(h:Var w b t v)(hk:aB S w w')(a:¬ S b):Var w' b t v:=(hk.block b h.lt a).trans h
theorem Var.set_{w:World}{b:Nat}{t:TypeId}{v:Value}(h:Var w b t v)(u:Value):Var (w.setCell ⟨b,0,none⟩ u) b t u:=by
 unfold Var at h⊢;simp[World.setCell,Array.getElem?_modify,h]
def aN(w:World)(b o:Nat)(vs:List Value):Prop:=∀j v,vs[j]?=some v→w.cell? ⟨b,o+j,none⟩=some v
theorem aN.below{B:Nat}{w w':World}{b o:Nat}{vs:List Value}(h:aN w b o vs)(d:Below B w w')(a:b<B):aN w' b o vs:=
 fun j v hv=>(d.cell (p:=⟨b,o+j,none⟩) a).trans (h j v hv)
theorem aN.keep{S:Nat→Prop}{w w':World}{b o:Nat}{vs:List Value}(h:aN w b o vs)(hk:aB S w w')(a:b<w.heap.size)(d:¬ S b):aN w' b o vs:=
 fun j v hv=>(hk.cell (p:=⟨b,o+j,none⟩) a d).trans (h j v hv)
def mr{α:Type}(B k:Nat)(R:World→Nat→Nat→α→Prop)(w:World)(A:Option Addr)(xs:List α):Prop:=
 0<xs.length→∃b off,A=some ⟨b,off,none⟩∧b<B∧∀i x,xs[i]?=some x→R w b (off+i*k) x
def mp{α:Type}(B:Nat)(R:World→Nat→Nat→α→Prop):Prop:=∀w w' b o x,Below B w w'→b<B→R w b o x→R w' b o x
theorem mr.below{α:Type}{B k:Nat}{R:World→Nat→Nat→α→Prop}(g:mp B R){w w':World}{A:Option Addr}{d:List α}(h:mr B k R w A d)(j:Below B w w'):mr B k R w' A d:=by
 intro n;obtain⟨b,off,e,a,l⟩:=h n;exact⟨b,off,e,a,fun i x hx=>g _ _ _ _ _ j a (l i x hx)⟩
open Ck
abbrev lim:Nat:=18446744073709551616
abbrev top:Nat:=2097152
def ae(s:ByteArray):Prop:=s.size≤2097152
def dN(n:Int):Prop := -9223372036854775808≤n∧n≤9223372036854775807
def Ck.Ram.cells(x:Ram):List Value:=[.int .i64 x.pos,.int .u64 x.Q7,.int .u64 x.size]
def Ck.Ram.Ok(x:Ram):Prop:=dN x.pos∧x.Q7<lim∧x.size<lim
def Ck.Map.cells(x:Map):List Value:=[.int .i64 x.pos,.string x.of,.int .u64 x.Q7,.bool x.write,.bool x.exec]
def Ck.Map.Ok(x:Map):Prop:=dN x.pos∧x.Q7<lim∧ae x.of
def Ck.Region.cells(x:Region):List Value:=[.int .i64 x.pos,.string x.name,.int .u64 x.size,.bool x.fixed,.int .u64 x.Q7,.bool x.big,.bool x.wx,.int .u64 x.fill,.bool x.QS,.string x.text]
def Ck.Region.Ok(x:Region):Prop:=dN x.pos∧x.size<lim∧x.Q7<lim∧x.fill<lim∧ae x.name∧ae x.text
def Ck.gi.cells(x:gi):List Value:=[.int .i64 x.pos,.int .i64 x.how,.string x.to,.int .u64 x.QK]
def Ck.gi.Ok(x:gi):Prop:=dN x.pos∧dN x.how∧x.QK<lim∧ae x.to
def Ck.b7.cells(x:b7):List Value:=[.int .i64 x.pos,.string x.name,.string x.QH,.string x.to,.bool x.shared,.string x.over,.int .i64 x.how,.int .u64 x.QK]
def Ck.b7.Ok(x:b7):Prop:=dN x.pos∧dN x.how∧x.QK<lim∧ae x.name∧ae x.QH∧ae x.to∧ae x.over
def Ck.Irq.cells(x:Irq):List Value:=[.int .i64 x.pos,.string x.name,.string x.QH,.string x.to,.int .u64 x.QK,.bool x.masked]
def Ck.Irq.Ok(x:Irq):Prop:=dN x.pos∧x.QK<lim∧ae x.name∧ae x.QH∧ae x.to
def Ck.dt.cells(x:dt):List Value:=[.int .i64 x.pos,.string x.name,.string x.QH,.string x.to,.int .i64 x.how,.int .u64 x.depth]
def Ck.dt.Ok(x:dt):Prop:=dN x.pos∧dN x.how∧x.depth<lim∧ae x.name∧ae x.QH∧ae x.to
def Run.cells(x:Run):List Value:=[.int .i64 x.pos,.string x.QM,.int .u64 x.QT,.int .u64 x.per]
def Run.Ok(x:Run):Prop:=dN x.pos∧x.QT<lim∧x.per<lim∧ae x.QM
def Ck.gk.cells(x:gk):List Value:=[.int .i64 x.pos,.string x.name]
def Ck.gk.Ok(x:gk):Prop:=dN x.pos∧ae x.name
def Ck.Ban.cells(x:Ban):List Value:=[.int .i64 x.pos,.string x.QH,.string x.to]
def Ck.Ban.Ok(x:Ban):Prop:=dN x.pos∧ae x.QH∧ae x.to
def eA{α:Type}(cells:α→List Value)(Ok:α→Prop)(w:World)(b o:Nat)(x:α):Prop:=aN w b o (cells x)∧Ok x
theorem aK{α:Type}(B:Nat)(cells:α→List Value)(Ok:α→Prop):mp B (eA cells Ok):=fun _ _ _ _ _ b a h=>⟨h.1.below b a,h.2⟩
abbrev fP:=eA Ck.Ram.cells Ck.Ram.Ok
abbrev cD:=eA Ck.Map.cells Ck.Map.Ok
abbrev cO:=eA Ck.Region.cells Ck.Region.Ok
abbrev eX:=eA Ck.gi.cells Ck.gi.Ok
abbrev cB:=eA Ck.b7.cells Ck.b7.Ok
abbrev fR:=eA Ck.Irq.cells Ck.Irq.Ok
abbrev co:=eA Ck.dt.cells Ck.dt.Ok
abbrev ef:=eA Run.cells Run.Ok
abbrev cJ:=eA Ck.gk.cells Ck.gk.Ok
abbrev fS:=eA Ck.Ban.cells Ck.Ban.Ok
def aT{α:Type}(B k:Nat)(R:World→Nat→Nat→α→Prop)(w:World)(v:Value)(xs:List α):Prop:=
 ∃A c,v=.slice A xs.length c∧xs.length≤c∧xs.length≤top∧mr B k R w A xs
theorem aT.below{α:Type}{B k:Nat}{R:World→Nat→Nat→α→Prop}(b:mp B R){w w':World}{v:Value}{a:List α}(h:aT B k R w v a)(d:Below B w w'):aT B k R w' v a:=by
 obtain⟨A,c,e,g,j,i⟩:=h;exact⟨A,c,e,g,j,i.below b d⟩
def jI(B:Nat)(w:World)(b o:Nat)(x:Ck.bE):Prop:=
 ∃v,aN w b o [.int .i64 x.pos,.string x.name,.int .u64 x.Q7,.int .u64 x.size,v]∧aT B 5 cD w v x.maps∧dN x.pos∧x.Q7<lim∧x.size<lim∧ae x.name
theorem eT(B:Nat):mp B (jI B):=fun _ _ _ _ _ b a ⟨v,d,e,g⟩=>⟨v,d.below b a,e.below (aK _ _ _) b,g⟩
def gc(B:Nat)(w:World)(b o:Nat)(x:aS):Prop:=
 ∃v u,aN w b o [.int .i64 x.pos,.string x.name,.int .u64 x.QP,.bool x.stopped,v,u]∧aT B 5 cD w v x.maps∧aT B 4 eX w u x.QR∧dN x.pos∧x.QP<lim∧ae x.name
theorem dQ(B:Nat):mp B (gc B):=fun _ _ _ _ _ a b ⟨v,u,d,e,g,h⟩=>⟨v,u,d.below a b,e.below (aK _ _ _) a,g.below (aK _ _ _) a,h⟩
def iS(B:Nat)(w:World)(b o:Nat)(x:cK):Prop:=
 ∃v,aN w b o [.int .i64 x.pos,.int .u64 x.QP,.bool x.needs,v]∧aT B 4 ef w v x.runs∧dN x.pos∧x.QP<lim
theorem ca(B:Nat):mp B (iS B):=fun _ _ _ _ _ b a ⟨v,d,e,g⟩=>⟨v,d.below b a,e.below (aK _ _ _) b,g⟩
def mq(B:Nat)(w:World)(b o:Nat)(x:eZ):Prop:=
 ∃v,aN w b o [.int .i64 x.pos,.string x.name,.int .u64 x.QN,v]∧aT B 4 (iS B) w v x.QJ∧dN x.pos∧x.QN<lim∧ae x.name
theorem ek(B:Nat):mp B (mq B):=fun _ _ _ _ _ b a ⟨v,d,e,g⟩=>⟨v,d.below b a,e.below (ca B) b,g⟩
structure aV where
 QF:Value
 Q4:Value
 Q5:Value
 Q3:Value
 Q8:Value
 QG:Value
 QC:Value
 Q9:Value
 QD:Value
 QE:Value
 QB:Value
 QA:Value
def aV.cells(v:aV)(P:aC):List Value:=[.int .i64 P.pos,.string P.name,v.QF,v.Q4,v.Q5,v.Q3,v.Q8,v.QG,v.QC,v.Q9,v.QD,v.QE,v.QB,v.QA]
structure cX (B:Nat) (w:World) (v:aV) (P:aC):Prop where
 QF:aT B 3 fP w v.QF P.QF
 Q4:aT B 5 (jI B) w v.Q4 P.Q4
 Q5:aT B 10 cO w v.Q5 P.Q5
 Q3:aT B 6 (gc B) w v.Q3 P.Q3
 Q8:aT B 8 cB w v.Q8 P.Q8
 QG:aT B 6 fR w v.QG P.QG
 QC:aT B 6 co w v.QC P.QC
 Q9:aT B 4 (mq B) w v.Q9 P.Q9
 QD:aT B 2 cJ w v.QD P.QD
 QE:aT B 2 cJ w v.QE P.QE
 QB:aT B 2 cJ w v.QB P.QB
 QA:aT B 3 fS w v.QA P.QA
 pos:dN P.pos
 name:ae P.name
theorem cX.below{B:Nat}{w w':World}{v:aV}{P:aC}(h:cX B w v P)(a:Below B w w'):cX B w' v P:=
 ⟨h.QF.below (aK _ _ _) a,h.Q4.below (eT B) a,h.Q5.below (aK _ _ _) a,h.Q3.below (dQ B) a,h.Q8.below (aK _ _ _) a,h.QG.below (aK _ _ _) a,
  h.QC.below (aK _ _ _) a,h.Q9.below (ek B) a,h.QD.below (aK _ _ _) a,h.QE.below (aK _ _ _) a,h.QB.below (aK _ _ _) a,h.QA.below (aK _ _ _) a,h.pos,h.name⟩
end Go.Proofs.YtpblcjipmoblnaaGreatDoor
