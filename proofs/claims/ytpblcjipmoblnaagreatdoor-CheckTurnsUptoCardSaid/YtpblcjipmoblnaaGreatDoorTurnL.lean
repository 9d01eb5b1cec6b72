import Derived.Test.YtpblcjipmoblnaaGreatDoorAsE
import Derived.Test.YtpblcjipmoblnaaGreatDoorDraw
import Derived.Deep.MidRow
import Derived.Test.YtpblcjipmoblnaaGreatDoorSpanP
set_option maxRecDepth 100000
set_option maxHeartbeats 4000000
set_option linter.unusedVariables false
set_option linter.unusedSimpArgs false
set_option linter.unnecessarySimpa false
namespace Go.Proofs.YtpblcjipmoblnaaGreatDoor
open Go.RowKit Go.IntWalk Ck
variable {D D0 D1:Nat→Prop} {k b o n0 n g cap i zq:Nat} {w w' w0:World} {v u:Value} {T e:TypeId} {cs:List Value} {P:Program} {a:Act} {ts:List Int}
abbrev bF:=TypeId→Nat→Prop
def wV{α:Type}(D:Nat→Prop)(k:Nat)(R:World→Nat→Nat→α→Prop)(w:World)(A:Option Addr)(xs:List α):Prop:=
 0<xs.length→∃b off,A=some ⟨b,off,none⟩∧D b∧∀i x,xs[i]?=some x→R w b (off+i*k) x
def aM{α:Type}(D:Nat→Prop)(k:Nat)(R:World→Nat→Nat→α→Prop)(w:World)(v:Value)(xs:List α):Prop:=
 ∃A c,v=.slice A xs.length c∧xs.length≤c∧xs.length≤top∧wV D k R w A xs
theorem kQ{α:Type}{D':Nat→Prop}{R R':World→Nat→Nat→α→Prop}{a:List α}(h:aM D k R w v a)(j:∀b,D b→D' b)
 (l:∀b o (i:Nat) (x:α),a[i]?=some x→D b→R w b o x→R' w' b o x):aM D' k R' w' v a:=by
 obtain⟨A,c,e,n,q,p⟩:=h;refine⟨A,c,e,n,q,fun g=>?_⟩;obtain⟨b,off,e,d,r⟩:=p g;exact⟨b,off,e,j b d,fun i x hx=>l _ _ i x hx d (r i x hx)⟩
def cq(D:bF)(w:World)(b o:Nat)(x:Ck.bE):Prop:=
 ∃v,aN w b o [.int .i64 x.pos,.string x.name,.int .u64 x.Q7,.int .u64 x.size,v]∧aM (D 71) 5 cD w v x.maps∧dN x.pos∧x.Q7<lim∧x.size<lim∧ae x.name
def cA(D:bF)(w:World)(b o:Nat)(x:aS):Prop:=
 ∃v u,aN w b o [.int .i64 x.pos,.string x.name,.int .u64 x.QP,.bool x.stopped,v,u]∧aM (D 71) 5 cD w v x.maps∧aM (D 85) 4 eX w u x.QR∧dN x.pos∧x.QP<lim∧ae x.name
def gN(D:bF)(w:World)(b o:Nat)(x:cK):Prop:=
 ∃v,aN w b o [.int .i64 x.pos,.int .u64 x.QP,.bool x.needs,v]∧aM (D 108) 4 ef w v x.runs∧dN x.pos∧x.QP<lim
def eY(D:bF)(w:World)(b o:Nat)(x:eZ):Prop:=
 ∃v,aN w b o [.int .i64 x.pos,.string x.name,.int .u64 x.QN,v]∧aM (D 92) 4 (gN D) w v x.QJ∧dN x.pos∧x.QN<lim∧ae x.name
structure gB (D:bF) (w:World) (v:aV) (P:aC):Prop where
 QF:aM (D 41) 3 fP w v.QF P.QF
 Q4:aM (D 45) 5 (cq D) w v.Q4 P.Q4
 Q5:aM (D 48) 10 cO w v.Q5 P.Q5
 Q3:aM (D 52) 6 (cA D) w v.Q3 P.Q3
 Q8:aM (D 55) 8 cB w v.Q8 P.Q8
 QG:aM (D 58) 6 fR w v.QG P.QG
 QC:aM (D 65) 6 co w v.QC P.QC
 Q9:aM (D 62) 4 (eY D) w v.Q9 P.Q9
 QD:aM (D 78) 2 cJ w v.QD P.QD
 QE:aM (D 78) 2 cJ w v.QE P.QE
 QB:aM (D 78) 2 cJ w v.QB P.QB
 QA:aM (D 68) 3 fS w v.QA P.QA
 pos:dN P.pos
 name:ae P.name
theorem cX.in_{B:Nat}{v:aV}{P:aC}(h:cX B w v P):gB (fun _ b=>b<B) w v P:=
 ⟨h.QF,h.Q4,h.Q5,h.Q3,h.Q8,h.QG,h.QC,h.Q9,h.QD,h.QE,h.QB,h.QA,h.pos,h.name⟩
theorem gB.below{B:Nat}{v:aV}{P:aC}(h:gB (fun _ b=>b<B) w v P):cX B w v P:=
 ⟨h.QF,h.Q4,h.Q5,h.Q3,h.Q8,h.QG,h.QC,h.Q9,h.QD,h.QE,h.QB,h.QA,h.pos,h.name⟩
def aW(D:Nat→Prop)(w w':World):Prop:=∀b,D b→∀o,w'.cell? ⟨b,o,none⟩=w.cell? ⟨b,o,none⟩
theorem aW.of_keep{S:Nat→Prop}(hk:aB S w w')(a:∀b,D b→b<w.heap.size∧¬ S b):aW D w w':=fun b d o=>hk.cell (p:=⟨b,o,none⟩) (a b d).1 (a b d).2
theorem aW.refl:aW D w w:=fun _ _ _=>rfl
structure fQ {α:Type} (T:TypeId) (k:Nat) (N:TypeId→Prop) (RF:bF→World→Nat→Nat→α→Prop):Prop where
 pos:0<k
 ones:∀{D:bF} {w:World} {b o:Nat} {x:α},RF D w b o x→∀j,j<k→∃u,w.cell? ⟨b,o+j,none⟩=some u∧u.oneCell'=true
 moves:∀{D D':bF} {w w':World} {b o b' o':Nat} {x:α},RF D w b o x→(∀j,j<k→w'.cell? ⟨b',o'+j,none⟩=w.cell? ⟨b,o+j,none⟩)→(∀T',N T'→∀b,D T' b→D' T' b)→(∀T',N T'→aW (D T') w w')→RF D' w' b' o' x
theorem ga{vs:List Value}(h:aN w b o vs)(d:∀v∈vs,v.oneCell'=true)(j:Nat)(a:j<vs.length):∃u,w.cell? ⟨b,o+j,none⟩=some u∧u.oneCell'=true:=
 ⟨vs[j],h j _ (Ez a),d _ (List.getElem_mem a)⟩
theorem gA{a d:Nat}{vs:List Value}(h:aN w b o vs)(e:∀j,j<vs.length→w'.cell? ⟨a,d+j,none⟩=w.cell? ⟨b,o+j,none⟩):aN w' a d vs:=
 fun j v hv=>(e j (List.getElem?_eq_some_iff.1 hv).1).trans (h j v hv)
theorem dR{α:Type}{cells:α→List Value}{Ok:α→Prop}(b:0<k)(hk:∀x,(cells x).length=k)(d:∀x,∀v∈cells x,v.oneCell'=true):fQ T k (fun _=>False) (fun _=>eA cells Ok) where
 pos:=b
 ones:=fun h j a=>ga h.1 (d _) j (by rw[hk];exact a)
 moves:=fun h e _ _=>⟨gA h.1 (fun j a=>e j (by rw[hk]at a;exact a)),h.2⟩
theorem fI:fQ 41 3 (fun _=>False) (fun _=>fP):=dR (by decide) (fun _=>rfl) (fun x v hv=>by simp[Ck.Ram.cells]at hv;rcases hv with rfl|rfl|rfl<;>rfl)
theorem iq:fQ 71 5 (fun _=>False) (fun _=>cD):=dR (by decide) (fun _=>rfl) (fun x v hv=>by simp[Ck.Map.cells]at hv;rcases hv with rfl|rfl|rfl|rfl|rfl<;>rfl)
theorem dH:fQ 48 10 (fun _=>False) (fun _=>cO):=dR (by decide) (fun _=>rfl) (fun x v hv=>by simp[Ck.Region.cells]at hv;rcases hv with rfl|rfl|rfl|rfl|rfl|rfl|rfl|rfl|rfl|rfl<;>rfl)
theorem o9:fQ 85 4 (fun _=>False) (fun _=>eX):=dR (by decide) (fun _=>rfl) (fun x v hv=>by simp[Ck.gi.cells]at hv;rcases hv with rfl|rfl|rfl|rfl<;>rfl)
theorem cj:fQ 55 8 (fun _=>False) (fun _=>cB):=dR (by decide) (fun _=>rfl) (fun x v hv=>by simp[Ck.b7.cells]at hv;rcases hv with rfl|rfl|rfl|rfl|rfl|rfl|rfl|rfl<;>rfl)
theorem fL:fQ 58 6 (fun _=>False) (fun _=>fR):=dR (by decide) (fun _=>rfl) (fun x v hv=>by simp[Ck.Irq.cells]at hv;rcases hv with rfl|rfl|rfl|rfl|rfl|rfl<;>rfl)
theorem dc:fQ 65 6 (fun _=>False) (fun _=>co):=dR (by decide) (fun _=>rfl) (fun x v hv=>by simp[Ck.dt.cells]at hv;rcases hv with rfl|rfl|rfl|rfl|rfl|rfl<;>rfl)
theorem pf:fQ 108 4 (fun _=>False) (fun _=>ef):=dR (by decide) (fun _=>rfl) (fun x v hv=>by simp[Run.cells]at hv;rcases hv with rfl|rfl|rfl|rfl<;>rfl)
theorem cH:fQ 78 2 (fun _=>False) (fun _=>cJ):=dR (by decide) (fun _=>rfl) (fun x v hv=>by simp[Ck.gk.cells]at hv;rcases hv with rfl|rfl<;>rfl)
theorem fN:fQ 68 3 (fun _=>False) (fun _=>fS):=dR (by decide) (fun _=>rfl) (fun x v hv=>by simp[Ck.Ban.cells]at hv;rcases hv with rfl|rfl|rfl<;>rfl)
theorem aD{α:Type}{D':Nat→Prop}{cells:α→List Value}{Ok:α→Prop}{d:List α}(h:aM D k (eA cells Ok) w v d)(e:∀b,D b→D' b)(i:aW D w w'):aM D' k (eA cells Ok) w' v d:=
 kQ h e fun b o _ x _ g a=>⟨fun j u l=>(i b g _).trans (a.1 j u l),a.2⟩
theorem ab{α:Type}{R:World→Nat→Nat→α→Prop}{a:List α}(h:aM D k R w v a):v.oneCell'=true:=by
 obtain⟨A,c,rfl,_⟩:=h;rfl
theorem ao:fQ 45 5 (fun T=>T=71) cq where
 pos:=by decide
 ones:=fun⟨v,h,a,_⟩ j i=>ga h (by intro u b;simp at b;rcases b with rfl|rfl|rfl|rfl|rfl<;>first|rfl|exact ab a) j i
 moves:=fun⟨v,h,a,d⟩ g e l=>⟨v,gA h g,aD a (e 71 rfl) (l 71 rfl),d⟩
theorem aj:fQ 52 6 (fun T=>T=71∨T=85) cA where
 pos:=by decide
 ones:=fun⟨v,u,h,a,b,_⟩ j n=>ga h (by intro u g;simp at g;rcases g with rfl|rfl|rfl|rfl|rfl|rfl<;>first|rfl|exact ab a|exact ab b) j n
 moves:=fun⟨v,u,h,a,b,i⟩ l d e=>⟨v,u,gA h l,aD a (d 71 (.inl rfl)) (e 71 (.inl rfl)),aD b (d 85 (.inr rfl)) (e 85 (.inr rfl)),i⟩
theorem eq:fQ 92 4 (fun T=>T=108) gN where
 pos:=by decide
 ones:=fun⟨v,h,a,_⟩ j i=>ga h (by intro u b;simp at b;rcases b with rfl|rfl|rfl|rfl<;>first|rfl|exact ab a) j i
 moves:=fun⟨v,h,a,d⟩ g e l=>⟨v,gA h g,aD a (e 108 rfl) (l 108 rfl),d⟩
theorem au:fQ 62 4 (fun T=>T=92∨T=108) eY where
 pos:=by decide
 ones:=fun⟨v,h,d,_⟩ j q=>ga h (by intro u i;simp at i;rcases i with rfl|rfl|rfl|rfl<;>first|rfl|exact ab d) j q
 moves:=fun⟨v,h,d,l⟩ p e g=>⟨v,gA h p,kQ d (e 92 (.inl rfl)) fun b o _ x _ n r=>eq.moves r (fun j _=>g 92 (.inl rfl) b n _) (fun T a=>by subst a;exact e 108 (.inr rfl)) (fun T a=>by subst a;exact g 108 (.inr rfl)),l⟩
theorem fQ.same{α:Type}{N:TypeId→Prop}{RF:bF→World→Nat→Nat→α→Prop}(K:fQ T k N RF){D0 D0':Nat→Prop}{D D':bF}{w w':World}{v:Value}{e:List α}(h:aM D0 k (RF D) w v e)
 (a:∀b,D0 b→D0' b)(d:aW D0 w w')(g:∀T',N T'→∀b,D T' b→D' T' b)(n:∀T',N T'→aW (D T') w w'):aM D0' k (RF D') w' v e:=
 kQ h a fun b o _ x _ i l=>K.moves l (fun j _=>d b i _) g n
theorem gB.same{D D':bF}{v:aV}{P:aC}(h:gB D w v P)(a:∀T b,D T b→D' T b)(d:∀T,aW (D T) w w'):gB D' w' v P:=
 ⟨aD h.QF (a _) (d _),ao.same h.Q4 (a _) (d _) (fun T _=>a T) (fun T _=>d T),aD h.Q5 (a _) (d _),aj.same h.Q3 (a _) (d _) (fun T _=>a T) (fun T _=>d T),aD h.Q8 (a _) (d _),aD h.QG (a _) (d _),
  aD h.QC (a _) (d _),au.same h.Q9 (a _) (d _) (fun T _=>a T) (fun T _=>d T),aD h.QD (a _) (d _),aD h.QE (a _) (d _),aD h.QB (a _) (d _),aD h.QA (a _) (d _),h.pos,h.name⟩
theorem aL(h:w.ownsRow n0 T k v n cs){g:Nat}(b:v.ownBlock=some g):n0≤g∧g<w.heap.size∧bk w g=some T:=by
 rcases h.2 with⟨rfl,_⟩|⟨e,cap,d,rfl,i,a,_⟩
 ·cases b
 ·obtain rfl:e=g:=Option.some.inj b
  exact⟨i,aG a,by unfold bk;rw[a]⟩
theorem aR{S:Nat→Prop}(h:w.ownsRow n0 T k v n cs)(hk:aB S w w')(d:∀g,v.ownBlock=some g→¬ S g):w'.ownsRow n0 T k v n cs:=by
 refine⟨h.1,?_⟩
 rcases h.2 with i|⟨g,cap,b,rfl,e,a,rest⟩
 ·exact .inl i
 ·exact .inr ⟨g,cap,b,rfl,e,(hk.block g (aG a) (d g rfl)).trans a,rest⟩
theorem de{b:Nat}(h:w.ownsRow b T k v n cs)(d:n0≤b):w.ownsRow n0 T k v n cs:=by
 refine⟨h.1,?_⟩
 rcases h.2 with e|⟨g,cap,a,rfl,i,rest⟩
 ·exact .inl e
 ·exact .inr ⟨g,cap,a,rfl,by omega,rest⟩
def ey{α:Type}(D0:Nat→Prop)(k:Nat)(R:World→Nat→Nat→α→Prop)(w:World)(xs:List α)(cs:List Value):Prop:=
 cs.length=xs.length*k∧∀i x,xs[i]?=some x→∃b o,D0 b∧R w b o x∧∀j,j<k→cs[i*k+j]?=w.cell? ⟨b,o+j,none⟩
theorem b6{α:Type}{N:TypeId→Prop}{RF:bF→World→Nat→Nat→α→Prop}(K:fQ T k N RF){D0 D0':Nat→Prop}{D D':bF}{w w':World}{n0:Nat}{v:Value}{e:List α}{cs:List Value}
 (G:ey D0 k (RF D) w e cs)(n:w'.ownsRow n0 T k v e.length cs)(y:e.length≤top)(r:∀g,v.ownBlock=some g→D0' g)(E:∀T',N T'→∀b,D T' b→D' T' b)(L:∀T',N T'→aW (D T') w w'):aM D0' k (RF D') w' v e:=by
 rcases Nat.eq_zero_or_pos e.length with q|q
 ·rcases n.2 with⟨d,_⟩|⟨g,cap,p,d,_,_,a,_⟩
  ·exact⟨none,0,by rw[d,q],by omega,y,fun h=>by omega⟩
  ·exact⟨_,_,d,a,y,fun h=>by omega⟩
 ·obtain⟨g,cap,rfl,O,I⟩:=n.form q
  have a:e.length≤cap:=by
   rcases n.2 with⟨d,_⟩|⟨M,A,p,d,_,_,a,_⟩
   ·cases d
   ·cases d;exact a
  refine⟨_,_,rfl,a,y,fun _=>⟨g,0,rfl,r g rfl,fun i x hx=>?_⟩⟩;obtain⟨b,o,_,J,H⟩:=G.2 i x hx;have u:=(List.getElem?_eq_some_iff.1 hx).1;refine K.moves J (fun j C=>?_) E L;have l:i*k+j<e.length*k:=Nat.lt_of_lt_of_le (Nat.add_lt_add_left C _) (by rw[←Nat.succ_mul];exact Nat.mul_le_mul_right _ u);have B:=n.cellAt (i*k+j) l;rw[H j C]at B;rw[Nat.zero_add];exact B
theorem xl{α:Type}{N:TypeId→Prop}{RF:bF→World→Nat→Nat→α→Prop}(K:fQ T k N RF){D0:Nat→Prop}{D:bF}{w:World}{A:Option Addr}{e:List α}(h:wV D0 k (RF D) w A e):
 ∃cs:List Value,ey D0 k (RF D) w e cs∧(∀u∈cs,u.oneCell'=true)∧(0<e.length→∃b off,A=some ⟨b,off,none⟩∧∀j u,cs[j]?=some u→w.cell? ⟨b,off+j,none⟩=some u):=by
 rcases Nat.eq_zero_or_pos e.length with p|p
 ·refine⟨[],⟨by rw[p];simp,fun i x hx=>?_⟩,by simp,fun h=>by omega⟩
  have:=(List.getElem?_eq_some_iff.1 hx).1;omega
 ·obtain⟨b,off,rfl,y,v⟩:=h p
  have l:∀j,j<e.length*k→∃u,w.cell? ⟨b,off+j,none⟩=some u∧u.oneCell'=true:=fun j d=>by
   have B:j / k<e.length:=Nat.div_lt_of_lt_mul (by rw[Nat.mul_comm];exact d);obtain⟨u,a,q⟩:=K.ones (v (j / k) _ (Ez B)) (j%k) (Nat.mod_lt _ K.pos);rw[Nat.add_assoc,Nat.mul_comm,Nat.div_add_mod]at a;exact⟨u,a,q⟩
  have g:∀j,j<e.length*k→((List.range (e.length*k)).map fun j=>(w.cell? ⟨b,off+j,none⟩).getD undef)[j]?=w.cell? ⟨b,off+j,none⟩:=fun j d=>by
   obtain⟨u,a,_⟩:=l j d;rw[List.getElem?_map,List.getElem?_range d];simp[a]
  refine⟨(List.range (e.length*k)).map fun j=>(w.cell? ⟨b,off+j,none⟩).getD undef,⟨by simp,fun i x hx=>⟨b,off+i*k,y,v i x hx,fun j d=>?_⟩⟩,fun u a=>?_,fun _=>⟨b,off,rfl,fun j u a=>?_⟩⟩
  ·have r:=(List.getElem?_eq_some_iff.1 hx).1
   have n:i*k+j<e.length*k:=Nat.lt_of_lt_of_le (Nat.add_lt_add_left d _) (by rw[←Nat.succ_mul];exact Nat.mul_le_mul_right _ r);rw[g _ n,Nat.add_assoc]
  ·obtain⟨j,d,rfl⟩:=List.mem_map.1 a
   obtain⟨u,a,q⟩:=l j (List.mem_range.1 d);rw[a];exact q
  ·have d:=(List.getElem?_eq_some_iff.1 a).1
   simp only[List.length_map,List.length_range]at d;rw[g j d]at a;exact a
theorem lA(w:World)(t ty e:TypeId)(i:TypeInfo)(b:P.underlying t=some (.slice e))(a:P.info? e=some i)(c:Nat):(Builtin.append_ #[t,t] ty #[.slice none 0 0,.slice none 0 c]).run P w=.ok (.slice none 0 0) w:=by
 simp[Builtin.append_,run_underlying b,sizeOf,typeInfo,a,Builtin.lenOf,Builtin.firstCells,loadCells,loadCellsFrom]
theorem bI{α:Type}{N:TypeId→Prop}{RF:bF→World→Nat→Nat→α→Prop}(K:fQ T k N RF){P:Program}{G:Array Oper}{rest:List Oper}{o:Oper}{a:Act}{Q:Exit→Act→World→Prop}{w:World}{s x:Operand}{t:TypeId}
 (V:P.underlying t=some (.slice T)){z:Value}{d:Nat}(r:(P.info? T).map (fun i=>(i.zero,i.size,i.bytes))=some (some z,k,d))(E:z.cells.size=k)(O:d≤4096)
 (n:o.guard=none)(S:o.op=.call { callee := .builtin .append,args := #[s,x],argTypes := #[t,t] })
 {D0:Nat→Prop}{D:bF}{H:List α}{v:Value}(hv:aM D0 k (RF D) w v H)(U:a.eval s=.slice none 0 0)(hx:a.eval x=v)
 (h:∀p w' cs,ey D0 k (RF D) w H cs→(∀u∈cs,u.oneCell'=true)→w'.ownsRow w.heap.size T k p H.length cs→Kz w w'→wpList P G Q rest (a.put o.dst p) w'):wpList P G Q (o::rest) a w:=by
 obtain⟨A,c,rfl,hc,X,Z⟩:=hv;obtain⟨cs,g,W,M⟩:=xl K Z;obtain⟨i,R,y,B,C⟩:=info_parts r;unfold top at X
 rcases Nat.eq_zero_or_pos H.length with I|I
 ·obtain rfl:cs=[]:=List.eq_nil_of_length_eq_zero (by rw[g.1,I];simp)
  rw[I]at hx h
  cases A with
  | none =>
   refine wpList_plain n fun K' Y=>?_
   unfold Oper.wp execOp;have hr:=lA (P:=P) w t o.type T i V R c;simp only[S,resolve,invoke,builtin,Sem.run_bind,Sem.run_pure,Result.andThen_ok,List.map_toArray,List.map_cons,List.map_nil,U,hx,hr];exact Y _ _ (h _ _ [] g (by simp) (World.ownsRow_nil _ _ _ _) (aB.refl _ _))
  | some ad =>
   refine wpList_append_own_at w n s x t S w.heap.size T i z k d V R y B C E K.pos (.slice none 0 0) 0 [] U (World.ownsRow_nil _ _ _ _) ad 0 c [] hx (by simp) (by simp) (by simp) (by unfold maxLen;omega) (by omega) (Nat.le_refl _) fun p w' J L _ _=>?_
   exact h p w' [] g (by simp) (by simpa using J) (aB.of_grown L (fun k e=>by cases e))
 ·obtain⟨b,off,rfl,l⟩:=M I
  have q:∀j,(⟨b,off,none⟩:Addr).add j=⟨b,off+j,none⟩:=fun j=>by unfold Addr.add;split<;>simp_all
  refine wpList_append_own_at w n s x t S w.heap.size T i z k d V R y B C E K.pos (.slice none 0 0) 0 [] U (World.ownsRow_nil _ _ _ _) ⟨b,off,none⟩ H.length c cs hx g.1 (fun j u hu=>by rw[q];exact l j u hu) W (by unfold maxLen;omega)
   (by rw[Nat.zero_add];exact Nat.le_trans (Nat.mul_le_mul X O) (by decide)) (Nat.le_refl _) fun p w' J L _ _=>?_
  rw[Nat.zero_add,List.nil_append]at J;exact h p w' cs g W J (aB.of_grown L (fun k e=>by cases e))
def over:List Value→Nat→List Value→List Value
 | xs,_,[]=>xs
 | xs,o,v::t=>over (xs.set o v) (o+1) t
theorem lw:∀(vs a:List Value) (o:Nat),(over a o vs).length=a.length
 | [],_,_=>rfl
 | v::t,a,o=>by rw[over,lw t];simp
theorem lx:∀(vs a:List Value) (o t:Nat),o+vs.length≤a.length→(over a o vs)[t]?=if o≤t∧t<o+vs.length then vs[t-o]? else a[t]?
 | [],a,o,t,_=>by rw[over,if_neg (by rw[List.length_nil];omega)]
 | v::r,a,o,t,h=>by
  simp only[List.length_cons]at h;rw[over,lx r (a.set o v) (o+1) t (by simp;omega)]
  by_cases h1:o+1≤t∧t<o+1+r.length
  ·rw[if_pos h1,if_pos (by simp;omega),show t-o=(t-(o+1))+1 by omega,List.getElem?_cons_succ]
  ·rw[if_neg h1]
   by_cases h2:t=o
   ·subst h2
    rw[if_pos (by simp),Nat.sub_self,List.getElem?_set_self (by omega)];rfl
   ·rw[if_neg (by simp;omega),List.getElem?_set_ne (fun e=>h2 e.symm)]
theorem fa{T:TypeId}{n0 k g cap n:Nat}:∀(vs:List Value) (o:Nat) {w:World} {cs:List Value},w.ownsRow n0 T k (.slice (some ⟨g,0,none⟩) n cap) n cs →
 (w.setCells g o vs).ownsRow n0 T k (.slice (some ⟨g,0,none⟩) n cap) n (over cs o vs)∧aB (fun b=>b=g) w (w.setCells g o vs)
 | [],_,w,_,h=>⟨h,aB.refl _ _⟩
 | v::t,o,w,cs,h=>by
  obtain⟨a,d⟩:=h.stored o v;obtain⟨i,j⟩:=fa t (o+1) a;exact⟨i,(aB.of_grown d (fun k e=>(Option.some.inj e).symm)).trans j (fun _ _ e=>e)⟩
theorem oE(h:w.ownsRow n0 T k (.slice (some ⟨g,0,none⟩) n cap) n cs){o:Nat}{vs:List Value}(hv:∀j u,vs[j]?=some u→cs[o+j]?=some u):w.rangeAt g o vs:=fun j u d=>by
 have a:=hv j u d;have b:=(List.getElem?_eq_some_iff.1 a).1;rw[h.1]at b;exact(h.cellAt (o+j) b).trans a
theorem oD(h:w.ownsRow n0 T k (.slice (some ⟨g,0,none⟩) n cap) n cs){o m:Nat}(d:o+m≤n*k):w.there g o m:=fun j b=>by
 have a:o+j<cs.length:=by rw[h.1];omega
 refine⟨?_,h.frozenAt _⟩;rw[h.cellAt (o+j) (by omega),Ez a];rfl
def fU(k:Nat)(cs:List Value)(i:Nat):List Value:=(cs.drop (i*k)).take k
theorem ij(a:i<n):i*k+k≤n*k:=by rw[←Nat.succ_mul];exact Nat.mul_le_mul_right _ a
theorem gQ(b:cs.length=n*k){i:Nat}(a:i<n):(fU k cs i).length=k:=by
 have:=ij (k:=k) a;simp[fU,b];omega
theorem kR(d:cs.length=n*k){i:Nat}(b:i<n){j:Nat}(a:j<k):(fU k cs i)[j]?=cs[i*k+j]?:=by
 simp[fU,a]
theorem pi(d:cs.length=n*k){i:Nat}(a:i<n)(j:Nat)(u:Value)(h:(fU k cs i)[j]?=some u):cs[i*k+j]?=some u:=by
 have b:=(List.getElem?_eq_some_iff.1 h).1;rw[gQ d a]at b;rw[←kR d a b];exact h
def jq(k:Nat)(cs:List Value)(i j:Nat):List Value:=over (over cs (i*k) (fU k cs j)) (j*k) (fU k cs i)
theorem mB{p q:Nat}(e:q<k)(h:p≠i):¬ (i*k≤p*k+q∧p*k+q<i*k+k):=by
 rintro⟨b,d⟩
 rcases Nat.lt_or_gt_of_ne h with a|a
 ·have:p*k+k≤i*k:=by rw[←Nat.succ_mul];exact Nat.mul_le_mul_right _ a
  omega
 ·have:i*k+k≤p*k:=by rw[←Nat.succ_mul];exact Nat.mul_le_mul_right _ a
  omega
theorem ph(a:cs.length=n*k){i j:Nat}(d:i<n)(e:j<n){p q:Nat}(b:q<k):(jq k cs i j)[p*k+q]?=if p=j then cs[i*k+q]? else if p=i then cs[j*k+q]? else cs[p*k+q]?:=by
 have ri:=ij (k:=k) d;have rj:=ij (k:=k) e;have g:=gQ a d;have h:=gQ a e;unfold jq;rw[lx _ _ _ _ (by rw[lw,g,a];exact rj),lx _ _ _ _ (by rw[h,a];exact ri),g,h]
 by_cases h1:p=j
 ·subst h1
  rw[if_pos (by omega),if_pos rfl,show p*k+q-p*k=q by omega,kR a d b]
 ·rw[if_neg (mB b h1),if_neg h1]
  by_cases h2:p=i
  ·subst h2
   rw[if_pos (by omega),if_pos rfl,show p*k+q-p*k=q by omega,kR a e b]
  ·rw[if_neg (mB b h2),if_neg h2]
def cV{α:Type}(D0:Nat→Prop)(n0:Nat)(T:TypeId)(k:Nat)(R:World→Nat→Nat→α→Prop)(w0:World)(xs:List α)(w:World)(v:Value):Prop:=
 ∃ys cs,ys.Perm xs∧ey D0 k R w0 ys cs∧(∀u∈cs,u.oneCell'=true)∧w.ownsRow n0 T k v ys.length cs
theorem uR{α:Type}{R:World→Nat→Nat→α→Prop}{g:List α}(h:ey D0 k R w g cs){i j:Nat}(n:i<g.length)(r:j<g.length):
 ey D0 k R w ((g.set i g[j]).set j g[i]) (jq k cs i j):=by
 refine⟨by simp[jq,lw,h.1],fun p x d=>?_⟩;have a:=(List.getElem?_eq_some_iff.1 d).1;simp only[List.length_set]at a;have key:∃l,l<g.length∧g[l]?=some x∧l=if p=j then i else if p=i then j else p:=by
  by_cases h1:p=j
  ·subst h1
   rw[List.getElem?_set_self (by simpa using a)]at d;exact⟨i,n,by rw[Ez n];exact d,by simp⟩
  ·rw[List.getElem?_set_ne (fun e=>h1 e.symm)]at d
   by_cases h2:p=i
   ·subst h2
    rw[List.getElem?_set_self a]at d;exact⟨j,r,by rw[Ez r];exact d,by simp[h1]⟩
   ·rw[List.getElem?_set_ne (fun e=>h2 e.symm)]at d
    exact⟨p,a,d,by simp[h1,h2]⟩
 obtain⟨l,B,hx,A⟩:=key;obtain⟨b,o,v,C,y⟩:=h.2 l x hx;refine⟨b,o,v,C,fun q u=>?_⟩;rw[ph h.1 n r u,←y q u,A];split
 ·rfl
 ·split<;>rfl
theorem kY{cs:List Value}(h:∀u∈cs,u.oneCell'=true):∀{vs:List Value} {o:Nat},(∀u∈vs,u.oneCell'=true)→∀u∈over cs o vs,u.oneCell'=true
 | [],_,_=>h
 | v::t,o,h1=>by
  have d:∀u∈cs.set o v,u.oneCell'=true:=fun u b=>by
   rcases List.mem_or_eq_of_mem_set b with a|a
   ·exact h u a
   ·subst a;exact h1 _ (by simp)
  exact kY d (vs:=t) (o:=o+1) (fun u b=>h1 u (by simp[b]))
theorem jx(h:∀u∈cs,u.oneCell'=true)(i:Nat):∀u∈fU k cs i,u.oneCell'=true:=fun u a=>h u (List.mem_of_mem_drop (List.mem_of_mem_take a))
theorem tC{α:Type}{R:World→Nat→Nat→α→Prop}{a:List α}(x:ey D0 k R w0 a cs)(d:∀u∈cs,u.oneCell'=true)
 (y:w.ownsRow n0 T k (.slice (some ⟨g,0,none⟩) a.length cap) a.length cs){n:List α}(A:a.Perm n){i j:Nat}(h:i<a.length)(l:j<a.length):
 cV D0 n0 T k R w0 n ((w.setCells g (i*k) (fU k cs j)).setCells g (j*k) (fU k cs i)) (.slice (some ⟨g,0,none⟩) a.length cap) ∧
  aB (fun b=>b=g) w ((w.setCells g (i*k) (fU k cs j)).setCells g (j*k) (fU k cs i)):=by
 obtain⟨p,q⟩:=fa (fU k cs j) (i*k) y;obtain⟨r,v⟩:=fa (fU k cs i) (j*k) p;refine⟨⟨(a.set i a[j]).set j a[i],jq k cs i j,(List.set_set_perm h l).trans A,uR x h l,kY (kY d (jx d j)) (jx d i),?_⟩,q.trans v (fun _ _ e=>e)⟩;simp only[List.length_set];exact r
theorem gF{o:Oper}{K:Act→World→Prop}{Q:Exit→Act→World→Prop}{s:Nat}(b:o.op=.move (.tmp s))(d:a.eval (.tmp s)=v)(h:K (a.put o.dst v) w):o.wp P a w K Q:=by
 unfold Oper.wp execOp;simp only[b,d,Sem.run_pure];exact h
theorem jw{P:Program}{o:Oper}{a:Act}{w:World}{K:Act→World→Prop}{Q:Exit→Act→World→Prop}{ts e:TypeId}{x y g n cap i k:Nat}(l:o.op=.indexAddr ts (.tmp x) (.tmp y))(d:P.underlying ts=some (.slice e))(hk:(P.info? e).map (·.size)=some k)
 (hx:a.eval (.tmp x)=.slice (some ⟨g,0,none⟩) n cap)(r:a.eval (.tmp y)=.int .i64 i)(u:i<n)(h:K (a.put o.dst (.pointer (some ⟨g,i*k,none⟩))) w):o.wp P a w K Q:=by
 have j:P.elem ts=e:=by simp[Program.elem,d]
 cases hq:P.info? e with
 | none=>simp[hq]at hk
 | some inf =>
  have q:inf.size=k:=by simpa[hq]using hk
  have b:(⟨g,0,none⟩:Addr).add (i*k)=⟨g,i*k,none⟩:=by unfold Addr.add;split<;>simp_all
  have p:(Instr.indexAt ts (.slice (some ⟨g,0,none⟩) n cap) (.int .i64 i)).run P w=.ok (.pointer (some ⟨g,i*k,none⟩)) w:=by
   rw[run_indexAt_slice (w:=w) (t:=ts) (h:=by rw[j];exact d),if_pos (by omega),j];simp[sizeOf,typeInfo,hq,q,b]
  unfold Oper.wp execOp;simp only[l,hx,r,Sem.run_bind,Sem.run_pure,Result.andThen_ok,p];exact h
def bi(ts te:TypeId):List (Option Nat×Op):=
 [(some 32,.move (.tmp 5)),(some 33,.move (.tmp 6)),(some 34,.move (.tmp 5)),(some 35,.move (.tmp 7)),(some 36,.move (.tmp 5)),(some 37,.move (.tmp 7)),(some 38,.indexAddr ts (.tmp 36) (.tmp 37)),(some 39,.load te (.tmp 38)),
  (some 40,.move (.tmp 5)),(some 41,.move (.tmp 6)),(some 42,.indexAddr ts (.tmp 40) (.tmp 41)),(some 43,.load te (.tmp 42)),(some 44,.indexAddr ts (.tmp 32) (.tmp 33)),(none,.store te (.tmp 44) (.tmp 39)),(some 45,.indexAddr ts (.tmp 34) (.tmp 35)),(none,.store te (.tmp 45) (.tmp 43))]
def br:List (Nat×Nat):=[(6,4),(6,5),(7,6),(10,8),(10,9),(11,10),(12,0),(12,1),(13,12),(13,7),(13,11),(14,2),(14,3),(15,14),(15,11),(15,13)]
def zB(l:List Oper)(p:Nat×Nat):Bool:=(l[p.1]?).any fun o=>o.after.any fun e=>Region.binds .any e&&e.on==p.2
def oZ(k g n cap i j:Nat)(ri rj:List Value):Nat→Value:=fun t =>
 ([.slice (some ⟨g,0,none⟩) n cap,.int .i64 i,.slice (some ⟨g,0,none⟩) n cap,.int .i64 j,.slice (some ⟨g,0,none⟩) n cap,.int .i64 j,.pointer (some ⟨g,j*k,none⟩),.agg rj.toArray,
  .slice (some ⟨g,0,none⟩) n cap,.int .i64 i,.pointer (some ⟨g,i*k,none⟩),.agg ri.toArray,.pointer (some ⟨g,i*k,none⟩),undef,.pointer (some ⟨g,j*k,none⟩),undef]:List Value).getD t undef
theorem pV{l:List Oper}{id:Nat}{Q:Exit→Act→World→Prop}{ts E:TypeId}{j:Nat}{ri rj:List Value}{d:TypeDesc}(hm:P.follows .mixedOrders=true)(hB:vA l 16=true)
 (b:l.map (fun o=>(o.dst,o.op))=bi ts E)(a5:(l.all fun o=>o.guard.isNone)=true)(a4:(br.all fun p=>zB l p)=true)
 (M:P.underlying ts=some (.slice E))(a1:P.underlying E=some d)(R:d.isRow=true)(hk:(P.info? E).map (·.size)=some k)
 (h5:At a 5 (.slice (some ⟨g,0,none⟩) n cap))(h6:At a 6 (.int .i64 i))(h7:At a 7 (.int .i64 j))(a9:a.tmps.size=47)(hi:i<n)(hj:j<n)
 (Z:ri.length=k)(ac:rj.length=k)(a2:∀u∈ri,u.oneCell'=true)(a3:∀u∈rj,u.oneCell'=true)
 (a7:w.rangeAt g (i*k) ri)(a8:w.rangeAt g (j*k) rj)(bb:w.there g (i*k) k)(bc:((w.drew).setCells g (i*k) rj).there g (j*k) k)
 (hQ:∀G w',aA (fun s=>decide (32≤s)&&decide (s≤45)) a G→w'=((w.drew).setCells g (i*k) rj).setCells g (j*k) ri→Q .normal G w'):
 (Code.region id l.toArray true).wp P Q a w:=by
 have bj:l.length=16:=by have:=congrArg List.length b;simpa[bi]using this
 have ad:∀(t:Nat) (o:Oper),l[t]?=some o→(bi ts E)[t]?=some (o.dst,o.op):=fun t o C=>by rw[←b,List.getElem?_map,C];rfl
 have N:∀(t d:Nat),cN l t=some d→∃op,(bi ts E)[t]?=some (some d,op):=fun t d I=>by
  unfold cN at I
  cases C:l[t]? with
  | none=>simp[C]at I
  | some o=>exact⟨o.op,by rw[ad t o C];simp[C]at I;rw[I]⟩
 have B:∀p∈br,∀o,l[p.1]?=some o→(o.after.any fun e=>Region.binds .any e&&e.on==p.2)=true:=fun p hp o C=>by
  have:=List.all_eq_true.1 a4 p hp;unfold zB at this;rw[C]at this;exact this
 have a0:∀(t d:Nat) (op:Op),(bi ts E)[t]?=some (some d,op)→cN l t=some d:=fun t d op h=>by
  unfold cN;have:t<l.length:=by have:=(List.getElem?_eq_some_iff.1 h).1;simp[bi]at this;omega
  rw[Ez this];have W:=ad t _ (Ez this);rw[h]at W;have:=Option.some.inj W;simp at this⊢;rw[this.1]
 refine lN 16 (fun S w'=>(S 13=true→S 7=true∧S 11=true)∧(S 15=true→S 13=true)∧w'=if S 15 then((w.drew).setCells g (i*k) rj).setCells g (j*k) ri else if S 13 then(w.drew).setCells g (i*k) rj else w.drew)
  (fun t _ v=>v=oZ k g n cap i j ri rj t) hm hB (by simp) ?_ ?_
 ·intro t o ht C S G w' K H A ⟨L,X,Y⟩ hb T hK
  have a6:o.guard=none:=by
   have:=List.all_eq_true.1 a5 o (List.mem_of_getElem? C)
   simpa using this
  have af:Region.wanted o (yielded l.toArray G.tmps)=true:=by simp[Region.wanted,a6]
  rw[if_pos af];have bl:G.tmps.size=47:=hb.size.trans a9;have r:∀(p:Nat) (d:Nat) (op:Op),(t,p)∈br→(bi ts E)[p]?=some (some d,op)→d<47→p<16→G.eval (.tmp d)=oZ k g n cap i j ri rj p:=fun p d op hp I bm O=>by
   obtain⟨v,hv,e⟩:=T p (A p (B _ hp o C)) O d (a0 p d op I);rw[hv.eval (by omega),e]
  have hbs:∀s v,At a s v→s<32→G.eval (.tmp s)=v:=fun s v hv hs=>by
   refine(hb.Q7 hv ?_).eval (by omega);simp only[Bool.eq_false_iff,ne_eq,List.any_eq_true,beq_iff_eq,not_exists,not_and];intro p _ I;obtain⟨op,W⟩:=N p s I;have O:p<16:=by have:=(List.getElem?_eq_some_iff.1 W).1;simpa[bi]using this
   have:p=0∨p=1∨p=2∨p=3∨p=4∨p=5∨p=6∨p=7∨p=8∨p=9∨p=10∨p=11∨p=12∨p=13∨p=14∨p=15:=by omega
   rcases this with rfl|rfl|rfl|rfl|rfl|rfl|rfl|rfl|rfl|rfl|rfl|rfl|rfl|rfl|rfl|rfl<;>simp[bi]at W<;>omega
  -- an operation that leaves the world alone
  have q:t≠13→t≠15→K (G.put o.dst (oZ k g n cap i j ri rj t)) w':=fun D J=>hK _ _ ⟨fun h=>by
   have e:(13==t||S 13)=true:=h;have U:(13==t)=false:=by simpa using fun e=>D e.symm
   rw[U,Bool.false_or]at e;obtain⟨q1,q2⟩:=L e;exact⟨by show(7==t||S 7)=true;rw[q1,Bool.or_true],by show(11==t||S 11)=true;rw[q2,Bool.or_true]⟩,fun h=>by
   have e:(15==t||S 15)=true:=h;have V:(15==t)=false:=by simpa using fun e=>J e.symm
   rw[V,Bool.false_or]at e;show(13==t||S 13)=true;rw[X e,Bool.or_true],by
   have U:(13==t)=false:=by simpa using fun e=>D e.symm
   have V:(15==t)=false:=by simpa using fun e=>J e.symm
   simp only[U,V,Bool.false_or];exact Y⟩ (fun _ _ _ h=>h) rfl
  have b:=ad t o C;have w0:S 13=false→w'=w.drew:=fun h=>by
   have J:S 15=false:=by cases e:S 15 with|false=>rfl|true=>rw[X e]at h;cases h
   rw[Y,J,h];simp
  have bf:t=0∨t=1∨t=2∨t=3∨t=4∨t=5∨t=6∨t=7∨t=8∨t=9∨t=10∨t=11∨t=12∨t=13∨t=14∨t=15:=by omega
  rcases bf with rfl|rfl|rfl|rfl|rfl|rfl|rfl|rfl|rfl|rfl|rfl|rfl|rfl|rfl|rfl|rfl
  ·exact gF (s:=5) (by simp[bi]at b;exact b.2.symm) (hbs 5 _ h5 (by decide)) (q (by decide) (by decide))
  ·exact gF (s:=6) (by simp[bi]at b;exact b.2.symm) (hbs 6 _ h6 (by decide)) (q (by decide) (by decide))
  ·exact gF (s:=5) (by simp[bi]at b;exact b.2.symm) (hbs 5 _ h5 (by decide)) (q (by decide) (by decide))
  ·exact gF (s:=7) (by simp[bi]at b;exact b.2.symm) (hbs 7 _ h7 (by decide)) (q (by decide) (by decide))
  ·exact gF (s:=5) (by simp[bi]at b;exact b.2.symm) (hbs 5 _ h5 (by decide)) (q (by decide) (by decide))
  ·exact gF (s:=7) (by simp[bi]at b;exact b.2.symm) (hbs 7 _ h7 (by decide)) (q (by decide) (by decide))
  ·exact jw (x:=36) (y:=37) (by simp[bi]at b;exact b.2.symm) M hk (r 4 36 _ (by simp[br]) rfl (by decide) (by decide)) (r 5 37 _ (by simp[br]) rfl (by decide) (by decide)) hj (q (by decide) (by decide))
  ·have D:S 13=false:=by cases e:S 13 with|false=>rfl|true=>rw[(L e).1]at H;cases H
   exact wp_load_mid E (.tmp 38) (by simp[bi]at b;exact b.2.symm) g (j*k) (r 6 38 _ (by simp[br]) rfl (by decide) (by decide)) rj d (by rw[w0 D];exact a8) a1 R (by rw[ac];exact hk) (q (by decide) (by decide))
  ·exact gF (s:=5) (by simp[bi]at b;exact b.2.symm) (hbs 5 _ h5 (by decide)) (q (by decide) (by decide))
  ·exact gF (s:=6) (by simp[bi]at b;exact b.2.symm) (hbs 6 _ h6 (by decide)) (q (by decide) (by decide))
  ·exact jw (x:=40) (y:=41) (by simp[bi]at b;exact b.2.symm) M hk (r 8 40 _ (by simp[br]) rfl (by decide) (by decide)) (r 9 41 _ (by simp[br]) rfl (by decide) (by decide)) hi (q (by decide) (by decide))
  ·have D:S 13=false:=by cases e:S 13 with|false=>rfl|true=>rw[(L e).2]at H;cases H
   exact wp_load_mid E (.tmp 42) (by simp[bi]at b;exact b.2.symm) g (i*k) (r 10 42 _ (by simp[br]) rfl (by decide) (by decide)) ri d (by rw[w0 D];exact a7) a1 R (by rw[Z];exact hk) (q (by decide) (by decide))
  ·exact jw (x:=32) (y:=33) (by simp[bi]at b;exact b.2.symm) M hk (r 0 32 _ (by simp[br]) rfl (by decide) (by decide)) (r 1 33 _ (by simp[br]) rfl (by decide) (by decide)) hi (q (by decide) (by decide))
  ·have hw:=w0 H
   subst hw;have s7:S 7=true:=A 7 (B (13,7) (by simp[br]) o C);have bd:S 11=true:=A 11 (B (13,11) (by simp[br]) o C);have be:S 15=false:=by cases e:S 15 with|false=>rfl|true=>rw[X e]at H;cases H
   refine wp_store_mid E (.tmp 44) (.tmp 39) (by simp[bi]at b;exact b.2.symm) g (i*k) rj.toArray (r 12 44 _ (by simp[br]) rfl (by decide) (by decide)) (r 7 39 _ (by simp[br]) rfl (by decide) (by decide))
    (by simp only[List.size_toArray,ac];exact bb) (by simp only[List.size_toArray,ac];exact hk) (all_oneCell_toArray a3) ?_
   refine hK undef _ ⟨fun _=>⟨by simp[s7],by simp[bd]⟩,fun h=>by simp,by simp[be]⟩ (fun _ _ _ h=>h) rfl
  ·exact jw (x:=34) (y:=35) (by simp[bi]at b;exact b.2.symm) M hk (r 2 34 _ (by simp[br]) rfl (by decide) (by decide)) (r 3 35 _ (by simp[br]) rfl (by decide) (by decide)) hj (q (by decide) (by decide))
  ·have ah:S 13=true:=A 13 (B (15,13) (by simp[br]) o C)
   have hw:w'=(w.drew).setCells g (i*k) rj:=by rw[Y,H,ah];simp
   subst hw;refine wp_store_mid E (.tmp 45) (.tmp 43) (by simp[bi]at b;exact b.2.symm) g (j*k) ri.toArray (r 14 45 _ (by simp[br]) rfl (by decide) (by decide)) (r 11 43 _ (by simp[br]) rfl (by decide) (by decide))
    (by simp only[List.size_toArray,Z];exact bc) (by simp only[List.size_toArray,Z];exact hk) (all_oneCell_toArray a2) ?_
   refine hK undef _ ⟨fun h=>by obtain⟨q1,q2⟩:=L ah;simp[q1,q2],fun h=>by simp[ah],by simp⟩ (fun _ _ _ h=>h) rfl
 ·intro S G w' H ⟨_,_,hI⟩ hb T
  refine hQ G w' (hb.agree ?_) (by rw[hI,H 15 (by decide)];simp);simp only[List.all_eq_true,List.mem_range];intro p hp
  cases I:cN l p with
  | none=>rfl
  | some s =>
   obtain⟨op,W⟩:=N p s I;have:p=0∨p=1∨p=2∨p=3∨p=4∨p=5∨p=6∨p=7∨p=8∨p=9∨p=10∨p=11∨p=12∨p=13∨p=14∨p=15:=by omega
   simp only[Option.map_some,Option.getD_some,Bool.and_eq_true,decide_eq_true_eq]
   rcases this with rfl|rfl|rfl|rfl|rfl|rfl|rfl|rfl|rfl|rfl|rfl|rfl|rfl|rfl|rfl|rfl<;>simp[bi]at W<;>omega
def zA(n:Int):List Value:=[.int .i64 n]
abbrev gu:=eA zA dN
theorem qy(n:Int)(a:Nat)(w:World)(u:dN n)(hh:a≤2097152):Calls Tryz.prog 25 #[.int .i64 n,.int .i64 0,.int .i64 a] w fun e w'=>∃m:Nat,m≤a∧e=.returned (.int .i64 m)∧w'=w:=by
 obtain⟨v,x⟩:=u;have i:(0:Int)<a+1:=by omega
 have y:IntKind.i64.wrap ((a:Int)-0)=a:=by rw[i64_in _ (by omega)];omega
 have j:IntKind.i64.wrap (a:Int)=a:=i64_in _ (by omega);have A:IntKind.i64.wrap ((a:Int)+1)=a+1:=i64_in _ (by omega);have e3:((a:Int)+1==0)=false:=by simp;omega
 have b : -((a:Int)+1)<n.tmod (a+1):=Int.lt_tmod_of_pos n i;have g:n.tmod (a+1)<a+1:=Int.tmod_lt_of_pos n i;obtain⟨r,d⟩:∃r,r=n.tmod (a+1):=⟨_,rfl⟩;rw[←d]at b g;have e4:n.tmod ((a:Int)+1)=r:=d.symm;have l:IntKind.i64.wrap r=r:=i64_in _ (by omega);clear d
 by_cases h:r<0
 ·have B:IntKind.i64.wrap (r+a)=r+a:=i64_in _ (by omega)
  have C:IntKind.i64.wrap (r+a-0)=r+a:=by rw[i64_in _ (by omega)];omega
  have D:IntKind.i64.wrap (r+a+1)=r+a+1:=i64_in _ (by omega);have p:IntKind.i64.wrap (0+(r+a+1))=r+a+1:=by rw[i64_in _ (by omega)];omega
  go_enter Tryz.func25,Tryz.ntmps25
  go_wp2
  go_ret
  refine⟨(r+a+1).toNat,by omega,lH ?_,rfl⟩;omega
 ·obtain⟨m,E⟩:∃m:Nat,r=m:=⟨r.toNat,by omega⟩
  have q:m≤a:=by omega
  have p:IntKind.i64.wrap (0+r)=r:=by rw[i64_in _ (by omega)];omega
  go_enter Tryz.func25,Tryz.ntmps25
  go_wp2
  go_ret
  refine⟨r.toNat,by omega,lH ?_,rfl⟩;omega
theorem Tryz.info41C:(Tryz.prog.info? 41).map (fun i=>(i.zero,i.size,i.bytes))=some (some (.agg #[.int .i64 0,.int .u64 0,.int .u64 0]),3,24):=by kernel_rfl
theorem yA{D:bF}{b:List Ck.Ram}(hv:aM D0 3 (fP) w v b):Calls Tryz.prog 35 #[v] w fun e w'=>∃a cs,e=.returned a∧ey D0 3 (fP) w b cs∧w'.ownsRow w.heap.size 41 3 a b.length cs∧Kz w w':=by
 go_enter Tryz.func35,Tryz.ntmps35
 go_wp2_with (refine bI (RF:=(fun _=>fP)) (D:=D) fI Tryz.underlying23 Tryz.info41C rfl (by decide) rfl rfl hv rfl rfl ?_;intro a w' cs d i g h)
 go_ret
 exact⟨a,cs,rfl,d,g,h⟩
theorem Tryz.info45C:(Tryz.prog.info? 45).map (fun i=>(i.zero,i.size,i.bytes))=some (some (.agg #[.int .i64 0,.string { data := #[] },.int .u64 0,.int .u64 0,.slice none 0 0]),5,64):=by kernel_rfl
theorem xz{D:bF}{b:List Ck.bE}(hv:aM D0 5 (cq D) w v b):Calls Tryz.prog 36 #[v] w fun e w'=>∃a cs,e=.returned a∧ey D0 5 (cq D) w b cs∧w'.ownsRow w.heap.size 45 5 a b.length cs∧Kz w w':=by
 go_enter Tryz.func36,Tryz.ntmps36
 go_wp2_with (refine bI (RF:=cq) (D:=D) ao Tryz.underlying24 Tryz.info45C rfl (by decide) rfl rfl hv rfl rfl ?_;intro a w' cs d i g h)
 go_ret
 exact⟨a,cs,rfl,d,g,h⟩
theorem Tryz.info48C:(Tryz.prog.info? 48).map (fun i=>(i.zero,i.size,i.bytes))=some (some (.agg #[.int .i64 0,.string { data := #[] },.int .u64 0,.bool false,.int .u64 0,.bool false,.bool false,.int .u64 0,.bool false,.string { data := #[] }]),10,88):=by kernel_rfl
theorem xx{D:bF}{b:List Ck.Region}(hv:aM D0 10 (cO) w v b):Calls Tryz.prog 37 #[v] w fun e w'=>∃a cs,e=.returned a∧ey D0 10 (cO) w b cs∧w'.ownsRow w.heap.size 48 10 a b.length cs∧Kz w w':=by
 go_enter Tryz.func37,Tryz.ntmps37
 go_wp2_with (refine bI (RF:=(fun _=>cO)) (D:=D) dH Tryz.underlying25 Tryz.info48C rfl (by decide) rfl rfl hv rfl rfl ?_;intro a w' cs d i g h)
 go_ret
 exact⟨a,cs,rfl,d,g,h⟩
theorem Tryz.info52C:(Tryz.prog.info? 52).map (fun i=>(i.zero,i.size,i.bytes))=some (some (.agg #[.int .i64 0,.string { data := #[] },.int .u64 0,.bool false,.slice none 0 0,.slice none 0 0]),6,88):=by kernel_rfl
theorem xw{D:bF}{b:List Ck.aS}(hv:aM D0 6 (cA D) w v b):Calls Tryz.prog 38 #[v] w fun e w'=>∃a cs,e=.returned a∧ey D0 6 (cA D) w b cs∧w'.ownsRow w.heap.size 52 6 a b.length cs∧Kz w w':=by
 go_enter Tryz.func38,Tryz.ntmps38
 go_wp2_with (refine bI (RF:=cA) (D:=D) aj Tryz.underlying26 Tryz.info52C rfl (by decide) rfl rfl hv rfl rfl ?_;intro a w' cs d i g h)
 go_ret
 exact⟨a,cs,rfl,d,g,h⟩
theorem Tryz.info55C:(Tryz.prog.info? 55).map (fun i=>(i.zero,i.size,i.bytes))=some (some (.agg #[.int .i64 0,.string { data := #[] },.string { data := #[] },.string { data := #[] },.bool false,.string { data := #[] },.int .i64 0,.int .u64 0]),8,96):=by kernel_rfl
theorem xv{D:bF}{b:List Ck.b7}(hv:aM D0 8 (cB) w v b):Calls Tryz.prog 39 #[v] w fun e w'=>∃a cs,e=.returned a∧ey D0 8 (cB) w b cs∧w'.ownsRow w.heap.size 55 8 a b.length cs∧Kz w w':=by
 go_enter Tryz.func39,Tryz.ntmps39
 go_wp2_with (refine bI (RF:=(fun _=>cB)) (D:=D) cj Tryz.underlying27 Tryz.info55C rfl (by decide) rfl rfl hv rfl rfl ?_;intro a w' cs d i g h)
 go_ret
 exact⟨a,cs,rfl,d,g,h⟩
theorem Tryz.info58C:(Tryz.prog.info? 58).map (fun i=>(i.zero,i.size,i.bytes))=some (some (.agg #[.int .i64 0,.string { data := #[] },.string { data := #[] },.string { data := #[] },.int .u64 0,.bool false]),6,72):=by kernel_rfl
theorem xu{D:bF}{b:List Ck.Irq}(hv:aM D0 6 (fR) w v b):Calls Tryz.prog 40 #[v] w fun e w'=>∃a cs,e=.returned a∧ey D0 6 (fR) w b cs∧w'.ownsRow w.heap.size 58 6 a b.length cs∧Kz w w':=by
 go_enter Tryz.func40,Tryz.ntmps40
 go_wp2_with (refine bI (RF:=(fun _=>fR)) (D:=D) fL Tryz.underlying28 Tryz.info58C rfl (by decide) rfl rfl hv rfl rfl ?_;intro a w' cs d i g h)
 go_ret
 exact⟨a,cs,rfl,d,g,h⟩
theorem Tryz.info62C:(Tryz.prog.info? 62).map (fun i=>(i.zero,i.size,i.bytes))=some (some (.agg #[.int .i64 0,.string { data := #[] },.int .u64 0,.slice none 0 0]),4,56):=by kernel_rfl
theorem xt{D:bF}{b:List Ck.eZ}(hv:aM D0 4 (eY D) w v b):Calls Tryz.prog 41 #[v] w fun e w'=>∃a cs,e=.returned a∧ey D0 4 (eY D) w b cs∧w'.ownsRow w.heap.size 62 4 a b.length cs∧Kz w w':=by
 go_enter Tryz.func41,Tryz.ntmps41
 go_wp2_with (refine bI (RF:=eY) (D:=D) au Tryz.underlying30 Tryz.info62C rfl (by decide) rfl rfl hv rfl rfl ?_;intro a w' cs d i g h)
 go_ret
 exact⟨a,cs,rfl,d,g,h⟩
theorem Tryz.info78C:(Tryz.prog.info? 78).map (fun i=>(i.zero,i.size,i.bytes))=some (some (.agg #[.int .i64 0,.string { data := #[] }]),2,24):=by kernel_rfl
theorem pG{D:bF}{b:List Ck.gk}(hv:aM D0 2 (cJ) w v b):Calls Tryz.prog 42 #[v] w fun e w'=>∃a cs,e=.returned a∧ey D0 2 (cJ) w b cs∧w'.ownsRow w.heap.size 78 2 a b.length cs∧Kz w w':=by
 go_enter Tryz.func42,Tryz.ntmps42
 go_wp2_with (refine bI (RF:=(fun _=>cJ)) (D:=D) cH Tryz.underlying31 Tryz.info78C rfl (by decide) rfl rfl hv rfl rfl ?_;intro a w' cs d i g h)
 go_ret
 exact⟨a,cs,rfl,d,g,h⟩
theorem Tryz.info65C:(Tryz.prog.info? 65).map (fun i=>(i.zero,i.size,i.bytes))=some (some (.agg #[.int .i64 0,.string { data := #[] },.string { data := #[] },.string { data := #[] },.int .i64 0,.int .u64 0]),6,72):=by kernel_rfl
theorem xr{D:bF}{b:List Ck.dt}(hv:aM D0 6 (co) w v b):Calls Tryz.prog 43 #[v] w fun e w'=>∃a cs,e=.returned a∧ey D0 6 (co) w b cs∧w'.ownsRow w.heap.size 65 6 a b.length cs∧Kz w w':=by
 go_enter Tryz.func43,Tryz.ntmps43
 go_wp2_with (refine bI (RF:=(fun _=>co)) (D:=D) dc Tryz.underlying29 Tryz.info65C rfl (by decide) rfl rfl hv rfl rfl ?_;intro a w' cs d i g h)
 go_ret
 exact⟨a,cs,rfl,d,g,h⟩
theorem Tryz.info68C:(Tryz.prog.info? 68).map (fun i=>(i.zero,i.size,i.bytes))=some (some (.agg #[.int .i64 0,.string { data := #[] },.string { data := #[] }]),3,40):=by kernel_rfl
theorem xq{D:bF}{b:List Ck.Ban}(hv:aM D0 3 (fS) w v b):Calls Tryz.prog 44 #[v] w fun e w'=>∃a cs,e=.returned a∧ey D0 3 (fS) w b cs∧w'.ownsRow w.heap.size 68 3 a b.length cs∧Kz w w':=by
 go_enter Tryz.func44,Tryz.ntmps44
 go_wp2_with (refine bI (RF:=(fun _=>fS)) (D:=D) fN Tryz.underlying32 Tryz.info68C rfl (by decide) rfl rfl hv rfl rfl ?_;intro a w' cs d i g h)
 go_ret
 exact⟨a,cs,rfl,d,g,h⟩
theorem Tryz.info71C:(Tryz.prog.info? 71).map (fun i=>(i.zero,i.size,i.bytes))=some (some (.agg #[.int .i64 0,.string { data := #[] },.int .u64 0,.bool false,.bool false]),5,40):=by kernel_rfl
theorem sh{D:bF}{b:List Ck.Map}(hv:aM D0 5 (cD) w v b):Calls Tryz.prog 45 #[v] w fun e w'=>∃a cs,e=.returned a∧ey D0 5 (cD) w b cs∧w'.ownsRow w.heap.size 71 5 a b.length cs∧Kz w w':=by
 go_enter Tryz.func45,Tryz.ntmps45
 go_wp2_with (refine bI (RF:=(fun _=>cD)) (D:=D) iq Tryz.underlying43 Tryz.info71C rfl (by decide) rfl rfl hv rfl rfl ?_;intro a w' cs d i g h)
 go_ret
 exact⟨a,cs,rfl,d,g,h⟩
theorem Tryz.info85C:(Tryz.prog.info? 85).map (fun i=>(i.zero,i.size,i.bytes))=some (some (.agg #[.int .i64 0,.int .i64 0,.string { data := #[] },.int .u64 0]),4,40):=by kernel_rfl
theorem xp{D:bF}{b:List Ck.gi}(hv:aM D0 4 (eX) w v b):Calls Tryz.prog 46 #[v] w fun e w'=>∃a cs,e=.returned a∧ey D0 4 (eX) w b cs∧w'.ownsRow w.heap.size 85 4 a b.length cs∧Kz w w':=by
 go_enter Tryz.func46,Tryz.ntmps46
 go_wp2_with (refine bI (RF:=(fun _=>eX)) (D:=D) o9 Tryz.underlying50 Tryz.info85C rfl (by decide) rfl rfl hv rfl rfl ?_;intro a w' cs d i g h)
 go_ret
 exact⟨a,cs,rfl,d,g,h⟩
theorem Tryz.info92C:(Tryz.prog.info? 92).map (fun i=>(i.zero,i.size,i.bytes))=some (some (.agg #[.int .i64 0,.int .u64 0,.bool false,.slice none 0 0]),4,48):=by kernel_rfl
theorem xo{D:bF}{b:List Ck.cK}(hv:aM D0 4 (gN D) w v b):Calls Tryz.prog 47 #[v] w fun e w'=>∃a cs,e=.returned a∧ey D0 4 (gN D) w b cs∧w'.ownsRow w.heap.size 92 4 a b.length cs∧Kz w w':=by
 go_enter Tryz.func47,Tryz.ntmps47
 go_wp2_with (refine bI (RF:=gN) (D:=D) eq Tryz.underlying60 Tryz.info92C rfl (by decide) rfl rfl hv rfl rfl ?_;intro a w' cs d i g h)
 go_ret
 exact⟨a,cs,rfl,d,g,h⟩
theorem Tryz.info108C:(Tryz.prog.info? 108).map (fun i=>(i.zero,i.size,i.bytes))=some (some (.agg #[.int .i64 0,.string { data := #[] },.int .u64 0,.int .u64 0]),4,40):=by kernel_rfl
theorem xn{D:bF}{b:List Run}(hv:aM D0 4 (ef) w v b):Calls Tryz.prog 48 #[v] w fun e w'=>∃a cs,e=.returned a∧ey D0 4 (ef) w b cs∧w'.ownsRow w.heap.size 108 4 a b.length cs∧Kz w w':=by
 go_enter Tryz.func48,Tryz.ntmps48
 go_wp2_with (refine bI (RF:=(fun _=>ef)) (D:=D) pf Tryz.underlying90 Tryz.info108C rfl (by decide) rfl rfl hv rfl rfl ?_;intro a w' cs d i g h)
 go_ret
 exact⟨a,cs,rfl,d,g,h⟩
theorem z8{T a:Nat}{z:Value}(h:(P.info? T).map (fun i=>(i.zero,i.size,i.bytes))=some (some z,k,a)):(P.info? T).map (·.size)=some k:=by
 obtain⟨i,d,_,b,_⟩:=info_parts h;rw[d];simp[b]
def lg(s:TypeId→TypeId):Op→Op
 | .load t a =>.load (s t) a
 | .store t a x =>.store (s t) a x
 | .indexAddr t a x =>.indexAddr (s t) a x
 | .call c =>.call { c with argTypes:=c.argTypes.map s }
 | o=>o
def reO(s:TypeId→TypeId)(o:Oper):Oper:={ o with op:=lg s o.op,type:=s o.type }
def reC(s:TypeId→TypeId):Code→Code
 | .region i ops d =>.region i (ops.map (reO s)) d
 | .seq a b =>.seq (reC s a) (reC s b)
 | .cond t a b =>.cond t (reC s a) (reC s b)
 | .block n b =>.block n (reC s b)
 | .loop b =>.loop (reC s b)
 | c=>c
def lR(a b c d t:TypeId):TypeId:=if t=a then c else if t=b then d else t
theorem cz{α:Type}{te Q:Nat}{N:TypeId→Prop}{RF:bF→World→Nat→Nat→α→Prop}(K0:fQ te Q N RF){ty:TypeId}{z:Value}{ad:Nat}{dd:TypeDesc}(cb:Tryz.prog.underlying ty=some (.slice te))(Y:Tryz.prog.underlying te=some dd)(b1:dd.isRow=true)
 (a3:(Tryz.prog.info? te).map (fun i=>(i.zero,i.size,i.bytes))=some (some z,Q,ad))(c3:z.cells.size=Q)(cp:ad≤4096){f:FuncId}{fn:Func}(hf:Tryz.prog.funcs[f]?=some fn)(hN:fn.ntmps=47)(bo:fn.body.isSome=true)(b0:fn.results = #[.tmp 4])
 (af:al fn []=reC (lR 23 41 ty te) (al Tryz.f11 []))
 {D0 D1:Nat→Prop}{D:bF}{w:World}{v u:Value}{r:List α}{ts:List Int}(hv:aM D0 Q (RF D) w v r)(hu:aM D1 1 gu w u ts)(bm:∀b,D1 b→b<w.heap.size):
 Calls Tryz.prog f #[v,u] w fun e w'=>∃v',e=.returned v'∧cV D0 w.heap.size te Q (RF D) w r w' v'∧Kz w w':=by
 obtain⟨Au,cu,rfl,d0,cw,bz⟩:=hu;have cx:r.length≤top:=by obtain⟨_,_,_,_,h,_⟩:=hv;exact h
 have d1:Tryz.prog.elem ty=te:=by simp[Program.elem,cb]
 unfold top at cw cx;refine az hf hN bo (by show 2≤47;decide) fun a c1 hd h=>?_
 have h0:At a 0 v:=h 0 _ rfl;have h1:At a 1 (.slice Au ts.length cu):=h 1 _ rfl;rw[af];have a1:=hh a3;have be:=hh cb;have bd:=hh Y;clear h af a3 Y hf bo;have HV:=hh hv;have HU:=hh bz;have cd:=hh bm;clear hv bz bm
 conv=>arg 2;whnf
 refine so (fun U l=>aA (fun i=>i==4) a U∧At U 4 (.slice none 0 0)∧l=w) ?_ ?_
 ·have ac:aA (fun i=>i==4) a a:=aA.refl _ _
  obtain⟨T,d⟩:=a
  conv=>arg 2;whnf
  simp only[List.map_toArray,List.map_cons,List.map_nil,reO,lg,lR,if_true,Nat.reduceEqDiff,if_false];refine rl ?_;with_reducible refine st ?_
  refine ln ⟨rfl,ag,aq,rfl⟩
 rintro U l ⟨J,h4,rfl⟩
 all_goals try(conv=>arg 2;whnf)
 replace h0:=J.Q7 h0 rfl;replace h1:=J.Q7 h1 rfl;have a4:=J.size.trans c1;have ct:=J.defers.trans hd;refine so (fun V O=>aA (fun i=>i==5||i==8||i==9) U V∧∃v5 cs,At V 5 v5∧ey D0 Q (RF D) l r cs∧(∀u∈cs,u.oneCell'=true)∧O.ownsRow l.heap.size te Q v5 r.length cs∧Kz l O) ?_ ?_
 ·have ac:aA (fun i=>i==5||i==8||i==9) U U:=aA.refl _ _
  obtain⟨T,d⟩:=U
  conv=>arg 2;whnf
  simp only[List.map_toArray,List.map_cons,List.map_nil,reO,lg,lR,if_true,Nat.reduceEqDiff,if_false];refine rl ?_;with_reducible refine st ?_
  refine bI (RF:=RF) (D:=D) K0 be.out a1.out c3 cp rfl rfl HV.out rfl (At.eval ar (by have:=a4;simp at this⊢; omega)) ?_;intro v' w' cs q1 q2 q3 q4;show wpList _ _ _ _ ⟨_,_⟩ _;with_reducible refine st ?_
  refine ln ⟨rfl,ag,v',cs,aq,q1,q2,q3,q4⟩
 rintro V O ⟨C,v5,cl,h5,q1,q2,q3,q4⟩
 all_goals try(conv=>arg 2;whnf)
 replace h0:=C.Q7 h0 rfl;replace h1:=C.Q7 h1 rfl;replace h4:=C.Q7 h4 rfl;have bb:=C.size.trans a4;have bu:=C.defers.trans ct;have HT:Hid (cV D0 l.heap.size te Q (RF D) l r O v5):=hh ⟨r,cl,.refl _,q1,q2,q3⟩;have c2:∃A c,v5=.slice A r.length c∧(0<r.length→∃g,A=some ⟨g,0,none⟩∧l.heap.size≤g):=by
  rcases q3.2 with⟨e1,e2⟩|⟨g,c,di,e1,e2,_⟩
  ·exact⟨none,0,by rw[e1,e2],fun h=>by omega⟩
  ·exact⟨_,c,e1,fun _=>⟨g,rfl,e2⟩⟩
 obtain⟨A5,c5,rfl,bx⟩:=c2;have cf:=hh bx;have ci:=hh q4;clear q1 q2 q3 q4 bx;refine wp_seq (wp_seq (Code.wp_only (R:=fun Z a5=>aA (fun i=>i==6) V Z∧At Z 6 (.int .i64 0)∧a5=O) ?_ ?_))
 ·have ac:aA (fun i=>i==6) V V:=aA.refl _ _
  obtain⟨T,d⟩:=V
  conv=>arg 2;whnf
  simp only[List.map_toArray,List.map_cons,List.map_nil,reO,lg,lR,if_true,Nat.reduceEqDiff,if_false];refine rl ?_;with_reducible refine st ?_
  refine ln ⟨rfl,ag,aq,rfl⟩
 rintro Z a5 ⟨E,h6,rfl⟩
 all_goals try(conv=>arg 2;whnf)
 replace h1:=E.Q7 h1 rfl;replace h4:=E.Q7 h4 rfl;replace h5:=E.Q7 h5 rfl;have B:=E.size.trans bb;have a8:=E.defers.trans bu;refine gz (if ts.length=0 then 0 else r.length) (fun k a' w'=>aA (fun i=>i==6||i==7||(rg 10 45 i)) Z a'∧At a' 6 (.int .i64 (k:Nat))∧cV D0 l.heap.size te Q (RF D) l r w' (.slice A5 r.length c5)∧Kz l w') (fun k a' w'=>aA (fun i=>i==6||i==7||(rg 10 45 i)) Z a'∧At a' 6 (.int .i64 (k:Nat))∧cV D0 l.heap.size te Q (RF D) l r w' (.slice A5 r.length c5)∧Kz l w') (fun a=>match a.eval (.tmp 6)with|.int _ x=>x.toNat|_=>0) ⟨aA.refl _ _,h6,HT.out,ci.out⟩ ?_ ?_ ?_ ?_ ?_
 ·rintro k a' w' ⟨G,hk,_⟩
  rw[hk.eval (by rw[G.size];have:=B;omega)];show((k:Nat):Int).toNat=k;omega
 ·rintro k b wr d2 ⟨G,M,Y,X⟩
  have L:=G.Q7 h5 rfl;have c4:=G.Q7 h1 rfl;have I:=G.size.trans B;have HA:=hh G;have S:=hh Y;have HK:=hh X;clear G Y X;have ac:aA (fun i=>rg 10 18 i) b b:=aA.refl _ _;have e0:(decide ((0:Int)<(ts.length:Int)))=decide (0<ts.length):=by simp
  have bf:decide ((k:Int)<(r.length:Int))=decide (k<r.length):=by simp
  have bj:∀T d,aA (fun i=>rg 10 18 i) b ⟨T,d⟩→At ⟨T,d⟩ 18 (.bool (decide (k<if ts.length=0 then 0 else r.length)))→km (fun a' w'=>(aA (fun i=>i==6||i==7||(rg 10 45 i)) Z a'∧At a' 6 (.int .i64 (k:Nat))∧cV D0 l.heap.size te Q (RF D) l r w' (.slice A5 r.length c5)∧Kz l w')∧a'.eval (.tmp 18)=.bool (decide (k<if ts.length=0 then 0 else r.length))) .normal ⟨T,d⟩ wr:=fun T d h1 h2=>⟨rfl,⟨HA.out.t h1,h1.Q7 M rfl,S.out,HK.out⟩,h2.eval (by rw[h1.size,I];decide)⟩
  have FIN:=hh bj;clear bj;have d3:=aJ
  by_cases hk1:k<r.length
  ·have t1:decide (k<r.length)=true:=decide_eq_true hk1
   have c7:decide ((k:Int)<(r.length:Int))=true:=bf.trans t1
   by_cases ht:ts.length=0
   ·have t2:decide ((0:Int)<(ts.length:Int))=false:=by rw[e0,ht];rfl
    have c8:=e0.symm.trans t2;obtain⟨T,d⟩:=b
    conv=>arg 2;whnf
    simp only[List.map_toArray,List.map_cons,List.map_nil,reO,lg,lR,if_true,Nat.reduceEqDiff,if_false];refine rl ?_
    iterate 9 with_reducible refine st ?_
    refine ln (FIN.out _ _ (by exact ag) ?_);rw[show decide (k<if ts.length=0 then 0 else r.length)=false by rw[if_pos ht];simp];exact aq
   ·have t2:decide ((0:Int)<(ts.length:Int))=true:=by rw[e0];exact decide_eq_true (by omega)
    have c8:=e0.symm.trans t2;obtain⟨T,d⟩:=b
    conv=>arg 2;whnf
    simp only[List.map_toArray,List.map_cons,List.map_nil,reO,lg,lR,if_true,Nat.reduceEqDiff,if_false];refine rl ?_
    iterate 9 with_reducible refine st ?_
    refine ln (FIN.out _ _ (by exact ag) ?_);rw[show decide (k<if ts.length=0 then 0 else r.length)=true by rw[if_neg ht];exact t1];exact aq
  ·have t1:decide (k<r.length)=false:=decide_eq_false hk1
   have c7:decide ((k:Int)<(r.length:Int))=false:=bf.trans t1;obtain⟨T,d⟩:=b
   conv=>arg 2;whnf
   simp only[List.map_toArray,List.map_cons,List.map_nil,reO,lg,lR,if_true,Nat.reduceEqDiff,if_false];refine rl ?_
   iterate 9 with_reducible refine st ?_
   refine ln (FIN.out _ _ (by exact ag) ?_);rw[show decide (k<if ts.length=0 then 0 else r.length)=false by split<;>simp<;>omega];exact aq
 ·rintro k b wr H ⟨G,M,Y,X⟩
  have b4:ts.length≠0:=by intro e;rw[if_pos e]at H;omega
  rw[if_neg b4]at H;obtain⟨g,rfl,hg⟩:=cf.out (by omega);have L:=G.Q7 h5 rfl;have c4:=G.Q7 h1 rfl;have I:=G.size.trans B;obtain⟨bu,ou,rfl,cm,a2⟩:=HU.out (by omega);obtain⟨q,hq⟩:∃q:Nat,q=k%ts.length:=⟨_,rfl⟩;have cy:q<ts.length:=by rw[hq];exact Nat.mod_lt _ (by omega)
  obtain⟨tv,b5⟩:=ge cy;obtain⟨bp,cc⟩:=a2 q tv b5;have ct:wr.cell? ⟨bu,ou+q,none⟩=some (.int .i64 tv):=(X.cell (p:=⟨bu,ou+q,none⟩) (cd.out bu cm) (fun h=>h)).trans (by have:=bp 0 _ rfl;simpa using this);have em:((k:Int).tmod (ts.length:Int))=(q:Int):=by rw[hq,Int.tmod_eq_emod_of_nonneg (by omega)];exact(Int.natCast_emod _ _).symm
  have dk:((k:Int)%(ts.length:Int))=(q:Int):=by rw[hq];exact(Int.natCast_emod _ _).symm
  have dl:((ts.length:Int)==0)=false:=(dK _ 0).trans (decide_eq_false b4);have ds:IntKind.i64.wrap (q:Int)=q:=i64_in _ (by omega);have e1:IntKind.i64.wrap ((r.length:Int)-1)=((r.length-1:Nat):Int):=by rw[i64_in _ (by omega)];omega
  have HW:=hh (qy tv (r.length-1) wr cc (by omega));have HA:=hh G;have S:=hh Y;have HK:=hh X;have HQ:=hh hq;clear G Y X hq a2 bp cc b5;refine so (fun b2 wx=>aA (fun i=>i==7||(rg 21 31 i)) b b2∧wx=wr∧∃m:Nat,m≤r.length-1∧At b2 7 (.int .i64 m)) ?_ ?_
  ·have ac:aA (fun i=>i==7||(rg 21 31 i)) b b:=aA.refl _ _
   obtain⟨T,d⟩:=b
   conv=>arg 2;whnf
   simp only[List.map_toArray,List.map_cons,List.map_nil,reO,lg,lR,if_true,Nat.reduceEqDiff,if_false];refine rl ?_
   iterate 10 with_reducible refine st ?_
   with_reducible refine Lz (fun K X=>?_)
   go_simp;refine HW.out.mono ?_;rintro e w2 ⟨m,hm,rfl,rfl⟩;with_reducible refine X _ _ ?_;clear X K;refine st ?_
   refine ln ⟨rfl,ag,rfl,m,hm,aq⟩
  rintro b2 wx ⟨an,rfl,m,hm,c6⟩
  all_goals try(conv=>arg 2;whnf)
  replace M:=an.Q7 M rfl;replace L:=an.Q7 L rfl;have b3:=an.size.trans I;obtain⟨ys,cs,hp,hc,a9,y⟩:=S.out;have a0:ys.length=r.length:=hp.length_eq;rw[←a0]at L H hm;rw[a0]at y;rw[←a0]at y;have bt:=y.drew;have ri:=gQ (k:=Q) y.1 H;have ah:m<ys.length:=by omega
  have rj:=gQ (k:=Q) y.1 ah;obtain⟨b2,cv⟩:=tC hc a9 bt hp H ah;show Code.wp _ _ _ _ _
  conv=>arg 2;whnf
  simp only[List.map_toArray,List.map_cons,List.map_nil,reO,lg,lR,if_true,Nat.reduceEqDiff,if_false];refine pV (g:=g) (n:=ys.length) (cap:=c5) (i:=k) (j:=m) (k:=Q) (ri:=fU Q cs k) (rj:=fU Q cs m) (by kernel_rfl) (by kernel_rfl) rfl (by kernel_rfl) (by kernel_rfl) be.out bd.out b1 (z8 a1.out) L M c6 b3 H ah ri rj (jx a9 k) (jx a9 m)
   (oE y (pi y.1 H)) (oE y (pi y.1 ah)) (oD y (ij H)) (oD (fa _ _ bt).1 (ij ah)) ?_
  rintro b3 wy bl rfl;rw[a0]at b2;skip;refine⟨(HA.out.t an).t bl,bl.Q7 M rfl,b2,?_⟩;exact(HK.out.drew).trans cv (fun i hi e=>by omega)
 ·rintro k b wr H ⟨G,M,Y,X⟩
  have c9:k<r.length:=by split at H<;>omega
  have I:=G.size.trans B;have e1:IntKind.i64.wrap ((k:Int)+1)=((k+1:Nat):Int):=by rw[i64_in _ (by omega)];omega
  have HA:=hh G;have S:=hh Y;have HK:=hh X;clear G Y X;have ac:aA (fun i=>i==6||i==19||i==20) b b:=aA.refl _ _;obtain⟨T,d⟩:=b
  conv=>arg 2;whnf
  simp only[List.map_toArray,List.map_cons,List.map_nil,reO,lg,lR,if_true,Nat.reduceEqDiff,if_false];refine rl ?_
  iterate 3 with_reducible refine st ?_
  refine ln ⟨rfl,HA.out.trans (vs:=fun i=>i==6||i==19||i==20) (by exact ag) (by intro j;simp;omega),?_,S.out,HK.out⟩;rw[show((k+1:Nat):Int)=(k:Int)+1 by omega];exact aq
 ·rintro b wr ⟨G,M,Y,X⟩
  have L:=G.Q7 h5 rfl;have I:=G.size.trans B;have cu:=G.defers.trans a8;have S:=hh Y;have HK:=hh X;clear G Y X;refine so (fun a7 a6=>aA (fun i=>i==4||i==46) b a7∧At a7 4 (.slice A5 r.length c5)∧a6=wr) ?_ ?_
  ·have ac:aA (fun i=>i==4||i==46) b b:=aA.refl _ _
   obtain⟨T,d⟩:=b
   conv=>arg 2;whnf
   simp only[List.map_toArray,List.map_cons,List.map_nil,reO,lg,lR,if_true,Nat.reduceEqDiff,if_false];refine rl ?_
   iterate 2 with_reducible refine st ?_
   refine ln ⟨rfl,ag,aq,rfl⟩
  rintro a7 a6 ⟨W,c5,rfl⟩
  all_goals try(conv=>arg 2;whnf)
  replace L:=W.Q7 L rfl;have bc:=W.size.trans I;have bw:=W.defers.trans cu;refine wp_ret ?_
  repeat (first|with_reducible apply b8|with_reducible apply bG)
  refine b9 (t:=4) b0 c5 (by rw[bc];decide) bw ?_;exact⟨_,rfl,S.out,HK.out⟩
theorem uz{D:bF}{g:List Ck.Ram}(hv:aM D0 3 (fP) w v g)(h:aM D1 1 gu w u ts)(a:∀b,D1 b→b<w.heap.size):
 Calls Tryz.prog 11 #[v,u] w fun e w'=>∃d,e=.returned d∧cV D0 w.heap.size 41 3 (fP) w g w' d∧Kz w w':=
 cz (RF:=(fun _=>fP)) (D:=D) fI Tryz.underlying23 Tryz.underlying41 rfl Tryz.info41C rfl (by decide) Tryz.func11 Tryz.ntmps11 rfl rfl (by kernel_rfl) hv h a
theorem ux{D:bF}{g:List Ck.bE}(hv:aM D0 5 (cq D) w v g)(h:aM D1 1 gu w u ts)(a:∀b,D1 b→b<w.heap.size):
 Calls Tryz.prog 12 #[v,u] w fun e w'=>∃d,e=.returned d∧cV D0 w.heap.size 45 5 (cq D) w g w' d∧Kz w w':=
 cz (RF:=cq) (D:=D) ao Tryz.underlying24 Tryz.underlying45 rfl Tryz.info45C rfl (by decide) Tryz.func12 Tryz.ntmps12 rfl rfl (by kernel_rfl) hv h a
theorem uw{D:bF}{g:List Ck.Region}(hv:aM D0 10 (cO) w v g)(h:aM D1 1 gu w u ts)(a:∀b,D1 b→b<w.heap.size):
 Calls Tryz.prog 13 #[v,u] w fun e w'=>∃d,e=.returned d∧cV D0 w.heap.size 48 10 (cO) w g w' d∧Kz w w':=
 cz (RF:=(fun _=>cO)) (D:=D) dH Tryz.underlying25 Tryz.underlying48 rfl Tryz.info48C rfl (by decide) Tryz.func13 Tryz.ntmps13 rfl rfl (by kernel_rfl) hv h a
theorem uu{D:bF}{g:List Ck.aS}(hv:aM D0 6 (cA D) w v g)(h:aM D1 1 gu w u ts)(a:∀b,D1 b→b<w.heap.size):
 Calls Tryz.prog 14 #[v,u] w fun e w'=>∃d,e=.returned d∧cV D0 w.heap.size 52 6 (cA D) w g w' d∧Kz w w':=
 cz (RF:=cA) (D:=D) aj Tryz.underlying26 Tryz.underlying52 rfl Tryz.info52C rfl (by decide) Tryz.func14 Tryz.ntmps14 rfl rfl (by kernel_rfl) hv h a
theorem ut{D:bF}{g:List Ck.b7}(hv:aM D0 8 (cB) w v g)(h:aM D1 1 gu w u ts)(a:∀b,D1 b→b<w.heap.size):
 Calls Tryz.prog 15 #[v,u] w fun e w'=>∃d,e=.returned d∧cV D0 w.heap.size 55 8 (cB) w g w' d∧Kz w w':=
 cz (RF:=(fun _=>cB)) (D:=D) cj Tryz.underlying27 Tryz.underlying55 rfl Tryz.info55C rfl (by decide) Tryz.func15 Tryz.ntmps15 rfl rfl (by kernel_rfl) hv h a
theorem uq{D:bF}{g:List Ck.Irq}(hv:aM D0 6 (fR) w v g)(h:aM D1 1 gu w u ts)(a:∀b,D1 b→b<w.heap.size):
 Calls Tryz.prog 16 #[v,u] w fun e w'=>∃d,e=.returned d∧cV D0 w.heap.size 58 6 (fR) w g w' d∧Kz w w':=
 cz (RF:=(fun _=>fR)) (D:=D) fL Tryz.underlying28 Tryz.underlying58 rfl Tryz.info58C rfl (by decide) Tryz.func16 Tryz.ntmps16 rfl rfl (by kernel_rfl) hv h a
theorem uo{D:bF}{g:List Ck.eZ}(hv:aM D0 4 (eY D) w v g)(h:aM D1 1 gu w u ts)(a:∀b,D1 b→b<w.heap.size):
 Calls Tryz.prog 17 #[v,u] w fun e w'=>∃d,e=.returned d∧cV D0 w.heap.size 62 4 (eY D) w g w' d∧Kz w w':=
 cz (RF:=eY) (D:=D) au Tryz.underlying30 Tryz.underlying62 rfl Tryz.info62C rfl (by decide) Tryz.func17 Tryz.ntmps17 rfl rfl (by kernel_rfl) hv h a
theorem un{D:bF}{g:List Ck.dt}(hv:aM D0 6 (co) w v g)(h:aM D1 1 gu w u ts)(a:∀b,D1 b→b<w.heap.size):
 Calls Tryz.prog 18 #[v,u] w fun e w'=>∃d,e=.returned d∧cV D0 w.heap.size 65 6 (co) w g w' d∧Kz w w':=
 cz (RF:=(fun _=>co)) (D:=D) dc Tryz.underlying29 Tryz.underlying65 rfl Tryz.info65C rfl (by decide) Tryz.func18 Tryz.ntmps18 rfl rfl (by kernel_rfl) hv h a
theorem ul{D:bF}{g:List Ck.Ban}(hv:aM D0 3 (fS) w v g)(h:aM D1 1 gu w u ts)(a:∀b,D1 b→b<w.heap.size):
 Calls Tryz.prog 19 #[v,u] w fun e w'=>∃d,e=.returned d∧cV D0 w.heap.size 68 3 (fS) w g w' d∧Kz w w':=
 cz (RF:=(fun _=>fS)) (D:=D) fN Tryz.underlying32 Tryz.underlying68 rfl Tryz.info68C rfl (by decide) Tryz.func19 Tryz.ntmps19 rfl rfl (by kernel_rfl) hv h a
theorem uk{D:bF}{g:List Ck.Map}(hv:aM D0 5 (cD) w v g)(h:aM D1 1 gu w u ts)(a:∀b,D1 b→b<w.heap.size):
 Calls Tryz.prog 20 #[v,u] w fun e w'=>∃d,e=.returned d∧cV D0 w.heap.size 71 5 (cD) w g w' d∧Kz w w':=
 cz (RF:=(fun _=>cD)) (D:=D) iq Tryz.underlying43 Tryz.underlying71 rfl Tryz.info71C rfl (by decide) Tryz.func20 Tryz.ntmps20 rfl rfl (by kernel_rfl) hv h a
def Dm(n0:Nat)(w:World):bF:=fun e b=>b<w.heap.size∧(b<n0∨bk w b=some e)
def Dx(n0:Nat)(w:World)(v:Value):bF:=fun e b=>Dm n0 w e b∧v.ownBlock≠some b
theorem ui(w:World)(p:Addr)(u:Value)(k:Nat):bk (w.setCell p u) k=bk w k:=by
 unfold bk
 by_cases h:k=p.block
 ·subst h
  simp[World.setCell,Array.getElem?_modify]
  cases hb:w.heap[p.block]? with
  | none=>simp
  | some ob=>cases ob<;>simp
 ·rw[Below.heap_setCell w p u k h]
theorem Dm.keep(hk:Kz w w'){e:TypeId}{b:Nat}(h:Dm n0 w e b):Dm n0 w' e b:=
 ⟨Nat.lt_of_lt_of_le h.1 hk.size,h.2.imp id fun a=>(kI hk h.1 (fun x=>x)).trans a⟩
theorem Dm.set_{p:Addr}(h:Dm n0 w e b):Dm n0 (w.setCell p u) e b:=
 ⟨by simpa[World.setCell]using h.1,h.2.imp id fun a=>(ui w p u b).trans a⟩
theorem Dm.ne(h:Dm n0 w e b)(j:n0≤g)(i:bk w g=some T)(d:e≠T):b≠g:=by
 rintro rfl
 rcases h.2 with a|a
 ·omega
 ·rw[i]at a;exact d (Option.some.inj a).symm
theorem Dx.keep(hk:Kz w w'){e:TypeId}{b:Nat}(h:Dx n0 w v e b):Dx n0 w' v e b:=⟨h.1.keep hk,h.2⟩
theorem Dx.set_{p:Addr}(h:Dx n0 w v e b):Dx n0 (w.setCell p u) v e b:=⟨h.1.set_,h.2⟩
theorem bM(hk:Kz w w')(e:TypeId):aW (Dm n0 w e) w w':=aW.of_keep hk fun b a=>⟨a.1,fun x=>x⟩
theorem fq(hk:Kz w w')(e:TypeId):aW (Dx n0 w v e) w w':=aW.of_keep hk fun b a=>⟨a.1.1,fun x=>x⟩
theorem ba(w:World)(g o:Nat)(u:Value):aB (fun k=>k=g) w (w.setCell ⟨g,o,none⟩ u):=(aB.refl (fun k=>k=g) w).setCell (p:=⟨g,o,none⟩) (fun _=>rfl) u
theorem aE(h:n0≤g)(i:bk w g=some T)(e:TypeId)(a:e≠T):aW (Dm n0 w e) w (w.setCell ⟨g,o,none⟩ u):=
 aW.of_keep (ba w g o u) fun b d=>⟨d.1,d.ne h i a⟩
theorem tL(d:v.ownBlock=some g)(e:TypeId):aW (Dx n0 w v e) w (w.setCell ⟨g,o,none⟩ u):=
 aW.of_keep (ba w g o u) fun b a=>⟨a.1.1,fun h=>a.2 (by rw[d,h])⟩
theorem kA{α:Type}{N:TypeId→Prop}{RF:bF→World→Nat→Nat→α→Prop}(K:fQ T k N RF){D0 D0':Nat→Prop}{D D':bF}{w:World}{g c i f:Nat}{u:Value}{l:List α}{x:α}
 (h:aM D0 k (RF D) w (.slice (some ⟨g,0,none⟩) l.length c) l)(hx:l[i]?=some x)(O:f<k)(a:RF D' (w.setCell ⟨g,i*k+f,none⟩ u) g (i*k) x)(n:∀b,D0 b→D0' b)(y:∀T',N T'→∀b,D T' b→D' T' b)
 (G:∀T',N T'→∀b,D T' b→b<w.heap.size∧b≠g):aM D0' k (RF D') (w.setCell ⟨g,i*k+f,none⟩ u) (.slice (some ⟨g,0,none⟩) l.length c) l:=by
 obtain⟨A,r,e,E,J,I⟩:=h;obtain⟨rfl,rfl⟩:some ⟨g,0,none⟩=A∧c=r:=by simpa using e
 refine⟨_,_,rfl,E,J,fun v=>?_⟩;obtain⟨b,off,e,C,L⟩:=I v;obtain⟨rfl,rfl⟩:g=b∧0=off:=by simpa using e
 refine⟨g,0,rfl,n _ C,fun p q d=>?_⟩
 by_cases hi:p=i
 ·subst hi
  obtain rfl:x=q:=Option.some.inj (hx.symm.trans d);rw[Nat.zero_add];exact a
 ·refine K.moves (L p q d) (fun j H=>?_) y (fun T' B=>aW.of_keep (ba w g _ u) (G T' B))
  rw[Nat.zero_add];exact World.cell?_setCell_other _ _ _ _ (by
   intro e;have M:i*k+f=p*k+j:=by simpa using e
   have:=mB H hi;omega)
structure pL (n0:Nat) (w:World) (v:aV) (P:aC):Prop where
 QF:∃cs,w.ownsRow n0 41 3 v.QF P.QF.length cs
 Q4:∃cs,w.ownsRow n0 45 5 v.Q4 P.Q4.length cs
 Q5:∃cs,w.ownsRow n0 48 10 v.Q5 P.Q5.length cs
 Q3:∃cs,w.ownsRow n0 52 6 v.Q3 P.Q3.length cs
 Q8:∃cs,w.ownsRow n0 55 8 v.Q8 P.Q8.length cs
 QG:∃cs,w.ownsRow n0 58 6 v.QG P.QG.length cs
 QC:∃cs,w.ownsRow n0 65 6 v.QC P.QC.length cs
 Q9:∃cs,w.ownsRow n0 62 4 v.Q9 P.Q9.length cs
 QD:∃cs,w.ownsRow n0 78 2 v.QD P.QD.length cs
 QE:∃cs,w.ownsRow n0 78 2 v.QE P.QE.length cs
 QB:∃cs,w.ownsRow n0 78 2 v.QB P.QB.length cs
 QA:∃cs,w.ownsRow n0 68 3 v.QA P.QA.length cs
theorem pL.keep{v:aV}{P:aC}(h:pL n0 w v P)(hk:Kz w w'):pL n0 w' v P:=
 ⟨let⟨cs,h⟩:=h.QF;⟨cs,aR h hk (fun _ _ x=>x)⟩,let⟨cs,h⟩:=h.Q4;⟨cs,aR h hk (fun _ _ x=>x)⟩,let⟨cs,h⟩:=h.Q5;⟨cs,aR h hk (fun _ _ x=>x)⟩,let⟨cs,h⟩:=h.Q3;⟨cs,aR h hk (fun _ _ x=>x)⟩,let⟨cs,h⟩:=h.Q8;⟨cs,aR h hk (fun _ _ x=>x)⟩,let⟨cs,h⟩:=h.QG;⟨cs,aR h hk (fun _ _ x=>x)⟩,let⟨cs,h⟩:=h.QC;⟨cs,aR h hk (fun _ _ x=>x)⟩,let⟨cs,h⟩:=h.Q9;⟨cs,aR h hk (fun _ _ x=>x)⟩,let⟨cs,h⟩:=h.QD;⟨cs,aR h hk (fun _ _ x=>x)⟩,let⟨cs,h⟩:=h.QE;⟨cs,aR h hk (fun _ _ x=>x)⟩,let⟨cs,h⟩:=h.QB;⟨cs,aR h hk (fun _ _ x=>x)⟩,let⟨cs,h⟩:=h.QA;⟨cs,aR h hk (fun _ _ x=>x)⟩⟩
theorem aH{T':TypeId}(h:w.ownsRow n0 T k v n cs)(d:bk w g=some T')(b:T≠T'):(w.setCell ⟨g,o,none⟩ u).ownsRow n0 T k v n cs:=
 aR h (ba w g o u) fun i a e=>by
  subst e;have:=(aL h a).2.2;rw[d]at this;exact b (Option.some.inj this).symm
theorem dn{c:Nat}(h:∃cs,w.ownsRow n0 T k (.slice (some ⟨g,0,none⟩) n c) n cs):∃cs,(w.setCell ⟨g,o,none⟩ u).ownsRow n0 T k (.slice (some ⟨g,0,none⟩) n c) n cs:=
 let⟨_,h⟩:=h;⟨_,(h.stored o u).1⟩
structure Cop (R:Nat→Array Value→Prop) (n0:Nat) (w0:World) (zq:Nat) (v:aV) (P:aC) (w:World):Prop where
 keep:Kz w0 w
 size:n0=w0.heap.size
 cell:w.heap[zq]?=some (.cells (v.cells P).toArray 34 (0,0))
 zq:n0≤zq
 res:∀z c,R z c→w.heap[z]?=some (.cells c 34 (0,0))
 QL:gB (Dm n0 w) w v P
 QI:pL n0 w v P
theorem Cop.step{R:Nat→Array Value→Prop}{v:aV}{P:aC}(h:Cop R n0 w0 zq v P w)(hk:Kz w w'):Cop R n0 w0 zq v P w':=
 ⟨h.keep.trans hk (fun _ _ h=>h),h.size,(hk.block zq (aG h.cell) (fun x=>x)).trans h.cell,h.zq,fun z c a=>(hk.block z (aG (h.res z c a)) (fun x=>x)).trans (h.res z c a),h.QL.same (fun T b d=>d.keep hk) (fun T=>bM hk T),h.QI.keep hk⟩
theorem Cop.ty{R:Nat→Array Value→Prop}{v:aV}{P:aC}(h:Cop R n0 w0 zq v P w):bk w zq=some 34:=by unfold bk;rw[h.cell]
theorem Cop.keep_set{R:Nat→Array Value→Prop}{v:aV}{P:aC}(h:Cop R n0 w0 zq v P w){g:Nat}(a:n0≤g)(o:Nat)(u:Value):Kz w0 (w.setCell ⟨g,o,none⟩ u):=
 h.keep.trans (ba w g o u) fun i b e=>by have:=h.size;omega
theorem Cop.cell_set{R:Nat→Array Value→Prop}{v:aV}{P:aC}(h:Cop R n0 w0 zq v P w){g:Nat}{T:TypeId}(a:bk w g=some T)(b:T≠34)(o:Nat)(u:Value):(w.setCell ⟨g,o,none⟩ u).heap[zq]?=some (.cells (v.cells P).toArray 34 (0,0)):=
 ((ba w g o u).block zq (aG h.cell) fun e=>by rw[←e,h.ty]at a;exact b (Option.some.inj a).symm).trans h.cell
theorem Cop.res_set{R:Nat→Array Value→Prop}{v:aV}{P:aC}(h:Cop R n0 w0 zq v P w){g:Nat}{T:TypeId}(b:bk w g=some T)(i:T≠34)(o:Nat)(u:Value):∀z c,R z c→(w.setCell ⟨g,o,none⟩ u).heap[z]?=some (.cells c 34 (0,0)):=by
 intro z c a;have d:bk w z=some 34:=by unfold bk;rw[h.res z c a]
 refine((ba w g o u).block z (aG (h.res z c a)) fun e=>?_).trans (h.res z c a);rw[←e,d]at b;exact i (Option.some.inj b).symm
theorem Cop.put_device{R:Nat→Array Value→Prop}{v:aV}{P:aC}(h:Cop R n0 w0 zq v P w){g c i:Nat}{u:Value}(hv:v.Q4=.slice (some ⟨g,0,none⟩) P.Q4.length c){x:Ck.bE}(hx:P.Q4[i]?=some x)
 (K:aM (Dm n0 w 71) 5 cD w u x.maps):Cop R n0 w0 zq v P (w.setCell ⟨g,i*5+4,none⟩ u):=by
 obtain⟨r,B⟩:=h.QI.Q4;obtain⟨n,G,l⟩:=aL B (g:=g) (by rw[hv];rfl);have C:aM (Dm n0 w 45) 5 (cq (Dm n0 w)) w (.slice (some ⟨g,0,none⟩) P.Q4.length c) P.Q4:=by rw[←hv];exact h.QL.Q4
 have H:=(List.getElem?_eq_some_iff.1 hx).1;refine⟨h.keep_set n _ _,h.size,h.cell_set l (by decide) _ _,h.zq,h.res_set l (by decide) _ _,⟨aD h.QL.QF (fun b a=>a.set_) (aE n l _ (by decide)),?_,aD h.QL.Q5 (fun b a=>a.set_) (aE n l _ (by decide)),aj.same h.QL.Q3 (fun b a=>a.set_) (aE n l _ (by decide)) (fun T' _ b a=>a.set_) (fun T' q=>aE n l _ (by rintro rfl;simp at q)),aD h.QL.Q8 (fun b a=>a.set_) (aE n l _ (by decide)),aD h.QL.QG (fun b a=>a.set_) (aE n l _ (by decide)),aD h.QL.QC (fun b a=>a.set_) (aE n l _ (by decide)),au.same h.QL.Q9 (fun b a=>a.set_) (aE n l _ (by decide)) (fun T' _ b a=>a.set_) (fun T' q=>aE n l _ (by rintro rfl;simp at q)),aD h.QL.QD (fun b a=>a.set_) (aE n l _ (by decide)),aD h.QL.QE (fun b a=>a.set_) (aE n l _ (by decide)),aD h.QL.QB (fun b a=>a.set_) (aE n l _ (by decide)),aD h.QL.QA (fun b a=>a.set_) (aE n l _ (by decide)),h.QL.pos,h.QL.name⟩,⟨let⟨cs,d⟩:=h.QI.QF;⟨cs,aH d l (by decide)⟩,?_,let⟨cs,d⟩:=h.QI.Q5;⟨cs,aH d l (by decide)⟩,let⟨cs,d⟩:=h.QI.Q3;⟨cs,aH d l (by decide)⟩,let⟨cs,d⟩:=h.QI.Q8;⟨cs,aH d l (by decide)⟩,let⟨cs,d⟩:=h.QI.QG;⟨cs,aH d l (by decide)⟩,let⟨cs,d⟩:=h.QI.QC;⟨cs,aH d l (by decide)⟩,let⟨cs,d⟩:=h.QI.Q9;⟨cs,aH d l (by decide)⟩,let⟨cs,d⟩:=h.QI.QD;⟨cs,aH d l (by decide)⟩,let⟨cs,d⟩:=h.QI.QE;⟨cs,aH d l (by decide)⟩,let⟨cs,d⟩:=h.QI.QB;⟨cs,aH d l (by decide)⟩,let⟨cs,d⟩:=h.QI.QA;⟨cs,aH d l (by decide)⟩⟩⟩
 ·rw[hv]
  refine kA ao C hx (by decide) ?_ (fun b a=>a.set_) (fun T' _ b a=>a.set_) (fun T' q b a=>⟨a.1,a.ne n l (by rintro rfl;simp at q)⟩);obtain⟨A,D,e,_,_,I⟩:=C;obtain⟨rfl,rfl⟩:some ⟨g,0,none⟩=A∧c=D:=by simpa using e
  obtain⟨b,off,e,_,J⟩:=I (by omega);obtain⟨rfl,rfl⟩:g=b∧0=off:=by simpa using e
  obtain⟨L,d,_,E⟩:=J i x hx;rw[Nat.zero_add]at d;refine⟨u,fun j y p=>?_,aD K (fun b a=>a.set_) (aE n l _ (by decide)),E⟩
  rcases(by have:=(List.getElem?_eq_some_iff.1 p).1;simp at this;omega:j=0∨j=1∨j=2∨j=3∨j=4)with rfl|rfl|rfl|rfl|rfl
  ·exact(World.cell?_setCell_other _ _ _ _ (by simp)).trans (d 0 _ p)
  ·exact(World.cell?_setCell_other _ _ _ _ (by simp)).trans (d 1 _ p)
  ·exact(World.cell?_setCell_other _ _ _ _ (by simp)).trans (d 2 _ p)
  ·exact(World.cell?_setCell_other _ _ _ _ (by simp)).trans (d 3 _ p)
  ·obtain rfl:u=y:=by simpa using p
   exact World.cell?_setCell_same _ _ _ (d 4 _ rfl)
 ·rw[hv]at B⊢
  exact dn ⟨r,B⟩
theorem Cop.put_subjmaps{R:Nat→Array Value→Prop}{v:aV}{P:aC}(h:Cop R n0 w0 zq v P w){g c i:Nat}{u:Value}(hv:v.Q3=.slice (some ⟨g,0,none⟩) P.Q3.length c){x:aS}(hx:P.Q3[i]?=some x)
 (L:aM (Dm n0 w 71) 5 cD w u x.maps):Cop R n0 w0 zq v P (w.setCell ⟨g,i*6+4,none⟩ u):=by
 obtain⟨r,B⟩:=h.QI.Q3;obtain⟨n,H,l⟩:=aL B (g:=g) (by rw[hv];rfl);have D:aM (Dm n0 w 52) 6 (cA (Dm n0 w)) w (.slice (some ⟨g,0,none⟩) P.Q3.length c) P.Q3:=by rw[←hv];exact h.QL.Q3
 have I:=(List.getElem?_eq_some_iff.1 hx).1;refine⟨h.keep_set n _ _,h.size,h.cell_set l (by decide) _ _,h.zq,h.res_set l (by decide) _ _,⟨aD h.QL.QF (fun b a=>a.set_) (aE n l _ (by decide)),ao.same h.QL.Q4 (fun b a=>a.set_) (aE n l _ (by decide)) (fun T' _ b a=>a.set_) (fun T' q=>aE n l _ (by rintro rfl;simp at q)),aD h.QL.Q5 (fun b a=>a.set_) (aE n l _ (by decide)),?_,aD h.QL.Q8 (fun b a=>a.set_) (aE n l _ (by decide)),aD h.QL.QG (fun b a=>a.set_) (aE n l _ (by decide)),aD h.QL.QC (fun b a=>a.set_) (aE n l _ (by decide)),au.same h.QL.Q9 (fun b a=>a.set_) (aE n l _ (by decide)) (fun T' _ b a=>a.set_) (fun T' q=>aE n l _ (by rintro rfl;simp at q)),aD h.QL.QD (fun b a=>a.set_) (aE n l _ (by decide)),aD h.QL.QE (fun b a=>a.set_) (aE n l _ (by decide)),aD h.QL.QB (fun b a=>a.set_) (aE n l _ (by decide)),aD h.QL.QA (fun b a=>a.set_) (aE n l _ (by decide)),h.QL.pos,h.QL.name⟩,⟨let⟨cs,d⟩:=h.QI.QF;⟨cs,aH d l (by decide)⟩,let⟨cs,d⟩:=h.QI.Q4;⟨cs,aH d l (by decide)⟩,let⟨cs,d⟩:=h.QI.Q5;⟨cs,aH d l (by decide)⟩,?_,let⟨cs,d⟩:=h.QI.Q8;⟨cs,aH d l (by decide)⟩,let⟨cs,d⟩:=h.QI.QG;⟨cs,aH d l (by decide)⟩,let⟨cs,d⟩:=h.QI.QC;⟨cs,aH d l (by decide)⟩,let⟨cs,d⟩:=h.QI.Q9;⟨cs,aH d l (by decide)⟩,let⟨cs,d⟩:=h.QI.QD;⟨cs,aH d l (by decide)⟩,let⟨cs,d⟩:=h.QI.QE;⟨cs,aH d l (by decide)⟩,let⟨cs,d⟩:=h.QI.QB;⟨cs,aH d l (by decide)⟩,let⟨cs,d⟩:=h.QI.QA;⟨cs,aH d l (by decide)⟩⟩⟩
 ·rw[hv]
  refine kA aj D hx (by decide) ?_ (fun b a=>a.set_) (fun T' _ b a=>a.set_) (fun T' q b a=>⟨a.1,a.ne n l (by rintro rfl;simp at q)⟩);obtain⟨A,E,e,_,_,J⟩:=D;obtain⟨rfl,rfl⟩:some ⟨g,0,none⟩=A∧c=E:=by simpa using e
  obtain⟨b,off,e,_,K⟩:=J (by omega);obtain⟨rfl,rfl⟩:g=b∧0=off:=by simpa using e
  obtain⟨O,M,d,N,C,G⟩:=K i x hx;rw[Nat.zero_add]at d;refine⟨u,M,fun j y p=>?_,aD L (fun b a=>a.set_) (aE n l _ (by decide)),aD C (fun b a=>a.set_) (aE n l _ (by decide)),G⟩
  rcases(by have:=(List.getElem?_eq_some_iff.1 p).1;simp at this;omega:j=0∨j=1∨j=2∨j=3∨j=4∨j=5)with rfl|rfl|rfl|rfl|rfl|rfl
  ·exact(World.cell?_setCell_other _ _ _ _ (by simp)).trans (d 0 _ p)
  ·exact(World.cell?_setCell_other _ _ _ _ (by simp)).trans (d 1 _ p)
  ·exact(World.cell?_setCell_other _ _ _ _ (by simp)).trans (d 2 _ p)
  ·exact(World.cell?_setCell_other _ _ _ _ (by simp)).trans (d 3 _ p)
  ·obtain rfl:u=y:=by simpa using p
   exact World.cell?_setCell_same _ _ _ (d 4 _ rfl)
  ·exact(World.cell?_setCell_other _ _ _ _ (by simp)).trans (d 5 _ p)
 ·rw[hv]at B⊢
  exact dn ⟨r,B⟩
theorem Cop.put_subjrules{R:Nat→Array Value→Prop}{v:aV}{P:aC}(h:Cop R n0 w0 zq v P w){g c i:Nat}{u:Value}(hv:v.Q3=.slice (some ⟨g,0,none⟩) P.Q3.length c){x:aS}(hx:P.Q3[i]?=some x)
 (M:aM (Dm n0 w 85) 4 eX w u x.QR):Cop R n0 w0 zq v P (w.setCell ⟨g,i*6+5,none⟩ u):=by
 obtain⟨r,B⟩:=h.QI.Q3;obtain⟨n,G,l⟩:=aL B (g:=g) (by rw[hv];rfl);have C:aM (Dm n0 w 52) 6 (cA (Dm n0 w)) w (.slice (some ⟨g,0,none⟩) P.Q3.length c) P.Q3:=by rw[←hv];exact h.QL.Q3
 have H:=(List.getElem?_eq_some_iff.1 hx).1;refine⟨h.keep_set n _ _,h.size,h.cell_set l (by decide) _ _,h.zq,h.res_set l (by decide) _ _,⟨aD h.QL.QF (fun b a=>a.set_) (aE n l _ (by decide)),ao.same h.QL.Q4 (fun b a=>a.set_) (aE n l _ (by decide)) (fun T' _ b a=>a.set_) (fun T' q=>aE n l _ (by rintro rfl;simp at q)),aD h.QL.Q5 (fun b a=>a.set_) (aE n l _ (by decide)),?_,aD h.QL.Q8 (fun b a=>a.set_) (aE n l _ (by decide)),aD h.QL.QG (fun b a=>a.set_) (aE n l _ (by decide)),aD h.QL.QC (fun b a=>a.set_) (aE n l _ (by decide)),au.same h.QL.Q9 (fun b a=>a.set_) (aE n l _ (by decide)) (fun T' _ b a=>a.set_) (fun T' q=>aE n l _ (by rintro rfl;simp at q)),aD h.QL.QD (fun b a=>a.set_) (aE n l _ (by decide)),aD h.QL.QE (fun b a=>a.set_) (aE n l _ (by decide)),aD h.QL.QB (fun b a=>a.set_) (aE n l _ (by decide)),aD h.QL.QA (fun b a=>a.set_) (aE n l _ (by decide)),h.QL.pos,h.QL.name⟩,⟨let⟨cs,d⟩:=h.QI.QF;⟨cs,aH d l (by decide)⟩,let⟨cs,d⟩:=h.QI.Q4;⟨cs,aH d l (by decide)⟩,let⟨cs,d⟩:=h.QI.Q5;⟨cs,aH d l (by decide)⟩,?_,let⟨cs,d⟩:=h.QI.Q8;⟨cs,aH d l (by decide)⟩,let⟨cs,d⟩:=h.QI.QG;⟨cs,aH d l (by decide)⟩,let⟨cs,d⟩:=h.QI.QC;⟨cs,aH d l (by decide)⟩,let⟨cs,d⟩:=h.QI.Q9;⟨cs,aH d l (by decide)⟩,let⟨cs,d⟩:=h.QI.QD;⟨cs,aH d l (by decide)⟩,let⟨cs,d⟩:=h.QI.QE;⟨cs,aH d l (by decide)⟩,let⟨cs,d⟩:=h.QI.QB;⟨cs,aH d l (by decide)⟩,let⟨cs,d⟩:=h.QI.QA;⟨cs,aH d l (by decide)⟩⟩⟩
 ·rw[hv]
  refine kA aj C hx (by decide) ?_ (fun b a=>a.set_) (fun T' _ b a=>a.set_) (fun T' q b a=>⟨a.1,a.ne n l (by rintro rfl;simp at q)⟩);obtain⟨A,D,e,_,_,I⟩:=C;obtain⟨rfl,rfl⟩:some ⟨g,0,none⟩=A∧c=D:=by simpa using e
  obtain⟨b,off,e,_,K⟩:=I (by omega);obtain⟨rfl,rfl⟩:g=b∧0=off:=by simpa using e
  obtain⟨N,O,d,J,L,E⟩:=K i x hx;rw[Nat.zero_add]at d;refine⟨N,u,fun j y p=>?_,aD J (fun b a=>a.set_) (aE n l _ (by decide)),aD M (fun b a=>a.set_) (aE n l _ (by decide)),E⟩
  rcases(by have:=(List.getElem?_eq_some_iff.1 p).1;simp at this;omega:j=0∨j=1∨j=2∨j=3∨j=4∨j=5)with rfl|rfl|rfl|rfl|rfl|rfl
  ·exact(World.cell?_setCell_other _ _ _ _ (by simp)).trans (d 0 _ p)
  ·exact(World.cell?_setCell_other _ _ _ _ (by simp)).trans (d 1 _ p)
  ·exact(World.cell?_setCell_other _ _ _ _ (by simp)).trans (d 2 _ p)
  ·exact(World.cell?_setCell_other _ _ _ _ (by simp)).trans (d 3 _ p)
  ·exact(World.cell?_setCell_other _ _ _ _ (by simp)).trans (d 4 _ p)
  ·obtain rfl:u=y:=by simpa using p
   exact World.cell?_setCell_same _ _ _ (d 5 _ rfl)
 ·rw[hv]at B⊢
  exact dn ⟨r,B⟩
structure gv (R:Nat→Array Value→Prop) (n0:Nat) (w0:World) (zq:Nat) (v:aV) (P:aC) (i:Nat) (x:Ck.eZ) (lv:Value) (g c:Nat) (w:World):Prop where
 keep:Kz w0 w
 size:n0=w0.heap.size
 cell:w.heap[zq]?=some (.cells (v.cells P).toArray 34 (0,0))
 zq:n0≤zq
 res:∀z c,R z c→w.heap[z]?=some (.cells c 34 (0,0))
 QL:gB (Dx n0 w lv) w { v with Q9 := .slice none 0 0 } { P with Q9:=[] }
 hv:v.Q9=.slice (some ⟨g,0,none⟩) P.Q9.length c
 len:P.Q9.length≤c∧P.Q9.length≤top
 hx:P.Q9[i]?=some x
 Q9:∀(j:Nat) (y:Ck.eZ),P.Q9[j]?=some y→j≠i→eY (Dx n0 w lv) w g (j*4) y
 plan:aN w g (i*4) [.int .i64 x.pos,.string x.name,.int .u64 x.QN,lv]
 ok:dN x.pos∧x.QN<lim∧ae x.name
 QJ:aM (fun b=>lv.ownBlock=some b) 4 (gN (Dx n0 w lv)) w lv x.QJ
 Qe:∃cs,w.ownsRow n0 92 4 lv x.QJ.length cs
 QI:pL n0 w v P
namespace gv
variable {R:Nat→Array Value→Prop} {n0:Nat} {w0 w w':World} {zq:Nat} {v:aV} {P:aC} {i:Nat} {x:Ck.eZ} {lv:Value} {g c:Nat}
theorem gty(h:gv R n0 w0 zq v P i x lv g c w):n0≤g∧g<w.heap.size∧bk w g=some 62:=by
 obtain⟨cs,a⟩:=h.QI.Q9;exact aL a (by rw[h.hv];rfl)
theorem step(h:gv R n0 w0 zq v P i x lv g c w)(hk:Kz w w'):gv R n0 w0 zq v P i x lv g c w' where
 keep:=h.keep.trans hk (fun _ _ h=>h)
 size:=h.size
 cell:=(hk.block zq (aG h.cell) (fun x=>x)).trans h.cell
 zq:=h.zq
 res:=fun z c e=>(hk.block z (aG (h.res z c e)) (fun x=>x)).trans (h.res z c e)
 QL:=h.QL.same (fun T b a=>a.keep hk) (fun T=>fq hk T)
 hv:=h.hv
 len:=h.len
 hx:=h.hx
 Q9:=fun j y n l=>au.moves (h.Q9 j y n l) (fun q _=>hk.cell (p:=⟨g,_,none⟩) h.gty.2.1 (fun x=>x)) (fun T _ b a=>a.keep hk) (fun T _=>fq hk T)
 plan:=h.plan.keep hk h.gty.2.1 (fun x=>x)
 ok:=h.ok
 QJ:=by
  obtain⟨cs,d⟩:=h.Qe;exact eq.same h.QJ (fun b a=>a) (aW.of_keep hk fun b a=>⟨(aL d a).2.1,fun x=>x⟩) (fun T _ b a=>a.keep hk) (fun T _=>fq hk T)
 Qe:=let⟨cs,d⟩:=h.Qe;⟨cs,aR d hk (fun _ _ x=>x)⟩
 QI:=h.QI.keep hk
theorem put{l D:Nat}(h:gv R n0 w0 zq v P i x (.slice (some ⟨l,0,none⟩) x.QJ.length D) g c w){j:Nat}{y:cK}{u:Value}(M:x.QJ[j]?=some y)(X:aM (Dx n0 w (.slice (some ⟨l,0,none⟩) x.QJ.length D) 108) 4 ef w u y.runs):
 gv R n0 w0 zq v P i x (.slice (some ⟨l,0,none⟩) x.QJ.length D) g c (w.setCell ⟨l,j*4+3,none⟩ u):=by
 obtain⟨G,O⟩:=h.Qe;obtain⟨hg,U,d⟩:=aL O (g:=l) rfl;obtain⟨S,H,I⟩:=h.gty;have K:g≠l:=by rintro rfl;rw[I]at d;exact absurd (Option.some.inj d) (by decide)
 have V:=(List.getElem?_eq_some_iff.1 M).1;have L:∀T,aW (Dx n0 w (.slice (some ⟨l,0,none⟩) x.QJ.length D) T) w (w.setCell ⟨l,j*4+3,none⟩ u):=fun T=>tL rfl T
 have r:∀q,(w.setCell ⟨l,j*4+3,none⟩ u).cell? ⟨g,q,none⟩=w.cell? ⟨g,q,none⟩:=fun q=>(ba w l _ u).cell (p:=⟨g,q,none⟩) H K
 refine⟨h.keep.trans (ba w l _ u) fun i hi e=>by have:=h.size;omega,h.size,((ba w l _ u).block zq (aG h.cell) fun e=>?_).trans h.cell,h.zq,fun z C E=>((ba w l _ u).block z (aG (h.res z C E)) fun e=>?_).trans (h.res z C E),h.QL.same (fun T b n=>n.set_) L,h.hv,h.len,h.hx,
  fun Y Z N J=>au.moves (h.Q9 Y Z N J) (fun q _=>r _) (fun T _ b n=>n.set_) (fun T _=>L T),fun q u B=>(r _).trans (h.plan q u B),h.ok,?_,dn ⟨G,O⟩,⟨let⟨cs,a⟩:=h.QI.QF;⟨cs,aH a d (by decide)⟩,let⟨cs,a⟩:=h.QI.Q4;⟨cs,aH a d (by decide)⟩,let⟨cs,a⟩:=h.QI.Q5;⟨cs,aH a d (by decide)⟩,let⟨cs,a⟩:=h.QI.Q3;⟨cs,aH a d (by decide)⟩,let⟨cs,a⟩:=h.QI.Q8;⟨cs,aH a d (by decide)⟩,let⟨cs,a⟩:=h.QI.QG;⟨cs,aH a d (by decide)⟩,let⟨cs,a⟩:=h.QI.QC;⟨cs,aH a d (by decide)⟩,let⟨cs,a⟩:=h.QI.Q9;⟨cs,aH a d (by decide)⟩,let⟨cs,a⟩:=h.QI.QD;⟨cs,aH a d (by decide)⟩,let⟨cs,a⟩:=h.QI.QE;⟨cs,aH a d (by decide)⟩,let⟨cs,a⟩:=h.QI.QB;⟨cs,aH a d (by decide)⟩,let⟨cs,a⟩:=h.QI.QA;⟨cs,aH a d (by decide)⟩⟩⟩
 ·subst e
  have:bk w zq=some 34:=by unfold bk;rw[h.cell]
  rw[this]at d;exact absurd (Option.some.inj d) (by decide)
 ·subst e
  have:bk w z=some 34:=by unfold bk;rw[h.res z C E]
  rw[this]at d;exact absurd (Option.some.inj d) (by decide)
 ·refine kA eq h.QJ M (by decide) ?_ (fun b n=>n) (fun T _ b n=>n.set_) (fun T _ b n=>⟨n.1.1,fun e=>n.2 (by rw[e];rfl)⟩)
  obtain⟨A,C,e,_,_,W⟩:=h.QJ;obtain⟨rfl,rfl⟩:some ⟨l,0,none⟩=A∧D=C:=by simpa using e
  obtain⟨b,off,e,_,E⟩:=W (by omega);obtain⟨rfl,rfl⟩:l=b∧0=off:=by simpa using e
  obtain⟨mv,a,_,Q⟩:=E j y M;rw[Nat.zero_add]at a;refine⟨u,fun q z B=>?_,aD X (fun b n=>n.set_) (L _),Q⟩
  rcases(by have:=(List.getElem?_eq_some_iff.1 B).1;simp at this;omega:q=0∨q=1∨q=2∨q=3)with rfl|rfl|rfl|rfl
  ·exact(World.cell?_setCell_other _ _ _ _ (by simp)).trans (a 0 _ B)
  ·exact(World.cell?_setCell_other _ _ _ _ (by simp)).trans (a 1 _ B)
  ·exact(World.cell?_setCell_other _ _ _ _ (by simp)).trans (a 2 _ B)
  ·obtain rfl:u=z:=by simpa using B
   exact World.cell?_setCell_same _ _ _ (a 3 _ rfl)
theorem exit(h:gv R n0 w0 zq v P i x lv g c w):Cop R n0 w0 zq v P w:=by
 have a:gB (Dm n0 w) w { v with Q9 := .slice none 0 0 } { P with Q9:=[] }:=h.QL.same (fun T b d=>d.1) (fun T=>aW.refl);refine⟨h.keep,h.size,h.cell,h.zq,h.res,⟨a.QF,a.Q4,a.Q5,a.Q3,a.Q8,a.QG,a.QC,?_,a.QD,a.QE,a.QB,a.QA,a.pos,a.name⟩,h.QI⟩;obtain⟨p,e,l⟩:=h.gty;obtain⟨cs,r⟩:=h.Qe;rw[h.hv];refine⟨_,_,rfl,h.len.1,h.len.2,fun _=>⟨g,0,rfl,⟨e,.inr l⟩,fun j y n=>?_⟩⟩;rw[Nat.zero_add]
 by_cases hj:j=i
 ·subst hj
  obtain rfl:x=y:=Option.some.inj (h.hx.symm.trans n);exact⟨lv,h.plan,eq.same h.QJ (fun b d=>by obtain⟨_,u,A⟩:=aL r d;exact⟨u,.inr A⟩) aW.refl (fun T _ b d=>d.1) (fun T _=>aW.refl),h.ok⟩
 ·exact au.moves (h.Q9 j y n hj) (fun q _=>rfl) (fun T _ b d=>d.1) (fun T _=>aW.refl)
end gv
theorem Cop.inner{R:Nat→Array Value→Prop}{n0:Nat}{w0 w w':World}{zq:Nat}{v:aV}{P:aC}(h:Cop R n0 w0 zq v P w){g c i:Nat}(hv:v.Q9=.slice (some ⟨g,0,none⟩) P.Q9.length c){x:Ck.eZ}(hx:P.Q9[i]?=some x){lv:Value}{cs:List Value}
 (n:ey (Dm n0 w 92) 4 (gN (Dm n0 w)) w x.QJ cs)(S:w'.ownsRow w.heap.size 92 4 lv x.QJ.length cs)(hk:Kz w w'):gv R n0 w0 zq v P i x lv g c (w'.setCell ⟨g,i*4+3,none⟩ lv):=by
 have I:=h.step hk;obtain⟨Y,Q⟩:=h.QI.Q9;obtain⟨J,G,W⟩:=aL Q (g:=g) (by rw[hv];rfl);have l:bk w' g=some 62:=(kI hk G (fun x=>x)).trans W;have ac:=(List.getElem?_eq_some_iff.1 hx).1;have O:n0≤w.heap.size:=by omega
 have d:∀T b,Dm n0 w T b→Dx n0 (w'.setCell ⟨g,i*4+3,none⟩ lv) lv T b:=fun T b a=>⟨(a.keep hk).set_,fun e=>by have:=(aL S e).1;have:=a.1;omega⟩
 have u:∀T,T≠62→aW (Dm n0 w T) w (w'.setCell ⟨g,i*4+3,none⟩ lv):=fun T C b a q=>((ba w' g _ lv).cell (p:=⟨b,q,none⟩) (Nat.lt_of_lt_of_le a.1 hk.size) (a.ne J W C)).trans (hk.cell (p:=⟨b,q,none⟩) a.1 (fun x=>x))
 have U:=h.QL.Q9;rw[hv]at U;obtain⟨A,X,e,K,L,hl⟩:=U;obtain⟨rfl,rfl⟩:some ⟨g,0,none⟩=A∧c=X:=by simpa using e
 obtain⟨b,off,e,_,V⟩:=hl (by omega);obtain⟨rfl,rfl⟩:g=b∧0=off:=by simpa using e
 have H:(w'.setCell ⟨g,i*4+3,none⟩ lv).ownsRow n0 92 4 lv x.QJ.length cs:=aH (de S O) l (by decide);have D:∀q,q≠i*4+3→(w'.setCell ⟨g,i*4+3,none⟩ lv).cell? ⟨g,q,none⟩=w.cell? ⟨g,q,none⟩:=fun q E=>(World.cell?_setCell_other _ _ _ _ (by intro e;exact E (by simpa using e.symm))).trans (hk.cell (p:=⟨g,q,none⟩) G (fun x=>x))
 obtain⟨mv,r,N,Z⟩:=V i x hx;rw[Nat.zero_add]at r;have M:x.QJ.length≤top:=by obtain⟨_,_,_,_,hn,_⟩:=N;exact hn
 refine⟨I.keep_set J _ _,h.size,I.cell_set l (by decide) _ _,h.zq,I.res_set l (by decide) _ _,
  ⟨aD h.QL.QF (fun b a=>d _ b a) (u _ (by decide)),ao.same h.QL.Q4 (fun b a=>d _ b a) (u _ (by decide)) (fun T _ b a=>d T b a) (fun T C=>u T (by subst C;decide)),aD h.QL.Q5 (fun b a=>d _ b a) (u _ (by decide)),aj.same h.QL.Q3 (fun b a=>d _ b a) (u _ (by decide)) (fun T _ b a=>d T b a) (fun T C=>u T (by rcases C with rfl|rfl<;>decide)),aD h.QL.Q8 (fun b a=>d _ b a) (u _ (by decide)),aD h.QL.QG (fun b a=>d _ b a) (u _ (by decide)),aD h.QL.QC (fun b a=>d _ b a) (u _ (by decide)),⟨none,0,rfl,Nat.le_refl _,by simp,fun h=>by simp at h⟩,aD h.QL.QD (fun b a=>d _ b a) (u _ (by decide)),aD h.QL.QE (fun b a=>d _ b a) (u _ (by decide)),aD h.QL.QB (fun b a=>d _ b a) (u _ (by decide)),aD h.QL.QA (fun b a=>d _ b a) (u _ (by decide)),h.QL.pos,h.QL.name⟩,hv,⟨K,L⟩,hx,fun j y hy hj=>?_,fun q z E=>?_,Z,b6 eq n H M (fun g J=>J) (fun T C b a=>d T b a) (fun T C=>u T (by subst C;decide)),⟨cs,H⟩,?_⟩
 ·have:=V j y hy
  rw[Nat.zero_add]at this;exact au.moves this (fun q E=>D _ (by have:=mB (k:=4) E hj;omega)) (fun T _ b a=>d T b a) (fun T C=>u T (by rcases C with rfl|rfl<;>decide))
 ·rcases(by have:=(List.getElem?_eq_some_iff.1 E).1;simp at this;omega:q=0∨q=1∨q=2∨q=3)with rfl|rfl|rfl|rfl
  ·exact(D _ (by omega)).trans (r 0 _ E)
  ·exact(D _ (by omega)).trans (r 1 _ E)
  ·exact(D _ (by omega)).trans (r 2 _ E)
  ·obtain rfl:lv=z:=by simpa using E
   exact World.cell?_setCell_same _ _ _ ((hk.cell (p:=⟨g,i*4+3,none⟩) G (fun x=>x)).trans (r 3 _ rfl))
 ·have B:=I.QI
  refine⟨let⟨cs,n⟩:=B.QF;⟨cs,aH n l (by decide)⟩,let⟨cs,n⟩:=B.Q4;⟨cs,aH n l (by decide)⟩,let⟨cs,n⟩:=B.Q5;⟨cs,aH n l (by decide)⟩,let⟨cs,n⟩:=B.Q3;⟨cs,aH n l (by decide)⟩,let⟨cs,n⟩:=B.Q8;⟨cs,aH n l (by decide)⟩,let⟨cs,n⟩:=B.QG;⟨cs,aH n l (by decide)⟩,let⟨cs,n⟩:=B.QC;⟨cs,aH n l (by decide)⟩,?_,let⟨cs,n⟩:=B.QD;⟨cs,aH n l (by decide)⟩,let⟨cs,n⟩:=B.QE;⟨cs,aH n l (by decide)⟩,let⟨cs,n⟩:=B.QB;⟨cs,aH n l (by decide)⟩,let⟨cs,n⟩:=B.QA;⟨cs,aH n l (by decide)⟩⟩;rw[hv];have:=B.Q9;rw[hv]at this;exact dn this
theorem Cop.turn_rams{R:Nat→Array Value→Prop}{n0:Nat}{w0 w w':World}{zq:Nat}{v:aV}{P:aC}(h:Cop R n0 w0 zq v P w){u:Value}(d:cV (Dm n0 w 41) w.heap.size 41 3 fP w P.QF w' u)(hk:Kz w w'):
 ∃x,x.Perm P.QF∧Cop (fun _ _=>False) n0 w0 zq { v with QF:=u } { P with QF:=x } (w'.setCell ⟨zq,2,none⟩ u):=by
 obtain⟨x,cs,A,j,_,C⟩:=d;have i:=h.step hk;have l:=h.zq;have d:=i.ty;have y:n0≤w.heap.size:=by have:=h.size;have:=h.keep.size;omega
 have r:x.length≤top:=by rw[A.length_eq];obtain⟨_,_,_,_,B,_⟩:=h.QL.QF;exact B
 have H:∀T,T≠34→aW (Dm n0 w T) w (w'.setCell ⟨zq,2,none⟩ u):=fun T n b a q=>(aE l d T n b (a.keep hk) q).trans (bM hk T b a q)
 have p:=aH (g:=zq) (o:=2) (u:=u) (de C y) d (by decide);refine⟨x,A,i.keep_set l _ _,h.size,?_,l,fun _ _ e=>e.elim,⟨b6 (D:=Dm n0 w) (D':=Dm n0 (w'.setCell ⟨zq,2,none⟩ u)) fI j p r (fun g l=>by obtain⟨_,E,G⟩:=aL p l;exact⟨E,.inr G⟩) (fun T' _ b a=>(a.keep hk).set_) (fun T' n=>False.elim n),ao.same i.QL.Q4 (fun b a=>a.set_) (aE l d _ (by decide)) (fun T' _ b a=>a.set_) (fun T' n=>aE l d _ (by subst n;decide)),aD i.QL.Q5 (fun b a=>a.set_) (aE l d _ (by decide)),aj.same i.QL.Q3 (fun b a=>a.set_) (aE l d _ (by decide)) (fun T' _ b a=>a.set_) (fun T' n=>aE l d _ (by rcases n with rfl|rfl<;>decide)),aD i.QL.Q8 (fun b a=>a.set_) (aE l d _ (by decide)),aD i.QL.QG (fun b a=>a.set_) (aE l d _ (by decide)),aD i.QL.QC (fun b a=>a.set_) (aE l d _ (by decide)),au.same i.QL.Q9 (fun b a=>a.set_) (aE l d _ (by decide)) (fun T' _ b a=>a.set_) (fun T' n=>aE l d _ (by rcases n with rfl|rfl<;>decide)),aD i.QL.QD (fun b a=>a.set_) (aE l d _ (by decide)),aD i.QL.QE (fun b a=>a.set_) (aE l d _ (by decide)),aD i.QL.QB (fun b a=>a.set_) (aE l d _ (by decide)),aD i.QL.QA (fun b a=>a.set_) (aE l d _ (by decide)),i.QL.pos,i.QL.name⟩,
  ⟨⟨cs,p⟩,let⟨c,j⟩:=i.QI.Q4;⟨c,aH j d (by decide)⟩,let⟨c,j⟩:=i.QI.Q5;⟨c,aH j d (by decide)⟩,let⟨c,j⟩:=i.QI.Q3;⟨c,aH j d (by decide)⟩,let⟨c,j⟩:=i.QI.Q8;⟨c,aH j d (by decide)⟩,let⟨c,j⟩:=i.QI.QG;⟨c,aH j d (by decide)⟩,let⟨c,j⟩:=i.QI.QC;⟨c,aH j d (by decide)⟩,let⟨c,j⟩:=i.QI.Q9;⟨c,aH j d (by decide)⟩,let⟨c,j⟩:=i.QI.QD;⟨c,aH j d (by decide)⟩,let⟨c,j⟩:=i.QI.QE;⟨c,aH j d (by decide)⟩,let⟨c,j⟩:=i.QI.QB;⟨c,aH j d (by decide)⟩,let⟨c,j⟩:=i.QI.QA;⟨c,aH j d (by decide)⟩⟩⟩
 rw[heap_setCell_same w' zq 2 _ _ u i.cell];simp[aV.cells]
theorem Cop.turn_devices{R:Nat→Array Value→Prop}{n0:Nat}{w0 w w':World}{zq:Nat}{v:aV}{P:aC}(h:Cop R n0 w0 zq v P w){u:Value}(d:cV (Dm n0 w 45) w.heap.size 45 5 (cq (Dm n0 w)) w P.Q4 w' u)(hk:Kz w w'):
 ∃x,x.Perm P.Q4∧Cop (fun _ _=>False) n0 w0 zq { v with Q4:=u } { P with Q4:=x } (w'.setCell ⟨zq,3,none⟩ u):=by
 obtain⟨x,cs,A,j,_,C⟩:=d;have i:=h.step hk;have l:=h.zq;have d:=i.ty;have y:n0≤w.heap.size:=by have:=h.size;have:=h.keep.size;omega
 have r:x.length≤top:=by rw[A.length_eq];obtain⟨_,_,_,_,B,_⟩:=h.QL.Q4;exact B
 have E:∀T,T≠34→aW (Dm n0 w T) w (w'.setCell ⟨zq,3,none⟩ u):=fun T n b a q=>(aE l d T n b (a.keep hk) q).trans (bM hk T b a q)
 have p:=aH (g:=zq) (o:=3) (u:=u) (de C y) d (by decide);refine⟨x,A,i.keep_set l _ _,h.size,?_,l,fun _ _ e=>e.elim,⟨aD i.QL.QF (fun b a=>a.set_) (aE l d _ (by decide)),b6 (D:=Dm n0 w) (D':=Dm n0 (w'.setCell ⟨zq,3,none⟩ u)) ao j p r (fun g l=>by obtain⟨_,G,H⟩:=aL p l;exact⟨G,.inr H⟩) (fun T' _ b a=>(a.keep hk).set_) (fun T' n=>E T' (by subst n;decide)),aD i.QL.Q5 (fun b a=>a.set_) (aE l d _ (by decide)),aj.same i.QL.Q3 (fun b a=>a.set_) (aE l d _ (by decide)) (fun T' _ b a=>a.set_) (fun T' n=>aE l d _ (by rcases n with rfl|rfl<;>decide)),aD i.QL.Q8 (fun b a=>a.set_) (aE l d _ (by decide)),aD i.QL.QG (fun b a=>a.set_) (aE l d _ (by decide)),aD i.QL.QC (fun b a=>a.set_) (aE l d _ (by decide)),au.same i.QL.Q9 (fun b a=>a.set_) (aE l d _ (by decide)) (fun T' _ b a=>a.set_) (fun T' n=>aE l d _ (by rcases n with rfl|rfl<;>decide)),aD i.QL.QD (fun b a=>a.set_) (aE l d _ (by decide)),aD i.QL.QE (fun b a=>a.set_) (aE l d _ (by decide)),aD i.QL.QB (fun b a=>a.set_) (aE l d _ (by decide)),aD i.QL.QA (fun b a=>a.set_) (aE l d _ (by decide)),i.QL.pos,i.QL.name⟩,
  ⟨let⟨c,j⟩:=i.QI.QF;⟨c,aH j d (by decide)⟩,⟨cs,p⟩,let⟨c,j⟩:=i.QI.Q5;⟨c,aH j d (by decide)⟩,let⟨c,j⟩:=i.QI.Q3;⟨c,aH j d (by decide)⟩,let⟨c,j⟩:=i.QI.Q8;⟨c,aH j d (by decide)⟩,let⟨c,j⟩:=i.QI.QG;⟨c,aH j d (by decide)⟩,let⟨c,j⟩:=i.QI.QC;⟨c,aH j d (by decide)⟩,let⟨c,j⟩:=i.QI.Q9;⟨c,aH j d (by decide)⟩,let⟨c,j⟩:=i.QI.QD;⟨c,aH j d (by decide)⟩,let⟨c,j⟩:=i.QI.QE;⟨c,aH j d (by decide)⟩,let⟨c,j⟩:=i.QI.QB;⟨c,aH j d (by decide)⟩,let⟨c,j⟩:=i.QI.QA;⟨c,aH j d (by decide)⟩⟩⟩
 rw[heap_setCell_same w' zq 3 _ _ u i.cell];simp[aV.cells]
theorem Cop.turn_regions{R:Nat→Array Value→Prop}{n0:Nat}{w0 w w':World}{zq:Nat}{v:aV}{P:aC}(h:Cop R n0 w0 zq v P w){u:Value}(d:cV (Dm n0 w 48) w.heap.size 48 10 cO w P.Q5 w' u)(hk:Kz w w'):
 ∃x,x.Perm P.Q5∧Cop (fun _ _=>False) n0 w0 zq { v with Q5:=u } { P with Q5:=x } (w'.setCell ⟨zq,4,none⟩ u):=by
 obtain⟨x,cs,A,j,_,C⟩:=d;have i:=h.step hk;have l:=h.zq;have d:=i.ty;have y:n0≤w.heap.size:=by have:=h.size;have:=h.keep.size;omega
 have r:x.length≤top:=by rw[A.length_eq];obtain⟨_,_,_,_,B,_⟩:=h.QL.Q5;exact B
 have H:∀T,T≠34→aW (Dm n0 w T) w (w'.setCell ⟨zq,4,none⟩ u):=fun T n b a q=>(aE l d T n b (a.keep hk) q).trans (bM hk T b a q)
 have p:=aH (g:=zq) (o:=4) (u:=u) (de C y) d (by decide);refine⟨x,A,i.keep_set l _ _,h.size,?_,l,fun _ _ e=>e.elim,⟨aD i.QL.QF (fun b a=>a.set_) (aE l d _ (by decide)),ao.same i.QL.Q4 (fun b a=>a.set_) (aE l d _ (by decide)) (fun T' _ b a=>a.set_) (fun T' n=>aE l d _ (by subst n;decide)),b6 (D:=Dm n0 w) (D':=Dm n0 (w'.setCell ⟨zq,4,none⟩ u)) dH j p r (fun g l=>by obtain⟨_,E,G⟩:=aL p l;exact⟨E,.inr G⟩) (fun T' _ b a=>(a.keep hk).set_) (fun T' n=>False.elim n),aj.same i.QL.Q3 (fun b a=>a.set_) (aE l d _ (by decide)) (fun T' _ b a=>a.set_) (fun T' n=>aE l d _ (by rcases n with rfl|rfl<;>decide)),aD i.QL.Q8 (fun b a=>a.set_) (aE l d _ (by decide)),aD i.QL.QG (fun b a=>a.set_) (aE l d _ (by decide)),aD i.QL.QC (fun b a=>a.set_) (aE l d _ (by decide)),au.same i.QL.Q9 (fun b a=>a.set_) (aE l d _ (by decide)) (fun T' _ b a=>a.set_) (fun T' n=>aE l d _ (by rcases n with rfl|rfl<;>decide)),aD i.QL.QD (fun b a=>a.set_) (aE l d _ (by decide)),aD i.QL.QE (fun b a=>a.set_) (aE l d _ (by decide)),aD i.QL.QB (fun b a=>a.set_) (aE l d _ (by decide)),aD i.QL.QA (fun b a=>a.set_) (aE l d _ (by decide)),i.QL.pos,i.QL.name⟩,
  ⟨let⟨c,j⟩:=i.QI.QF;⟨c,aH j d (by decide)⟩,let⟨c,j⟩:=i.QI.Q4;⟨c,aH j d (by decide)⟩,⟨cs,p⟩,let⟨c,j⟩:=i.QI.Q3;⟨c,aH j d (by decide)⟩,let⟨c,j⟩:=i.QI.Q8;⟨c,aH j d (by decide)⟩,let⟨c,j⟩:=i.QI.QG;⟨c,aH j d (by decide)⟩,let⟨c,j⟩:=i.QI.QC;⟨c,aH j d (by decide)⟩,let⟨c,j⟩:=i.QI.Q9;⟨c,aH j d (by decide)⟩,let⟨c,j⟩:=i.QI.QD;⟨c,aH j d (by decide)⟩,let⟨c,j⟩:=i.QI.QE;⟨c,aH j d (by decide)⟩,let⟨c,j⟩:=i.QI.QB;⟨c,aH j d (by decide)⟩,let⟨c,j⟩:=i.QI.QA;⟨c,aH j d (by decide)⟩⟩⟩
 rw[heap_setCell_same w' zq 4 _ _ u i.cell];simp[aV.cells]
theorem Cop.turn_subjects{R:Nat→Array Value→Prop}{n0:Nat}{w0 w w':World}{zq:Nat}{v:aV}{P:aC}(h:Cop R n0 w0 zq v P w){u:Value}(d:cV (Dm n0 w 52) w.heap.size 52 6 (cA (Dm n0 w)) w P.Q3 w' u)(hk:Kz w w'):
 ∃x,x.Perm P.Q3∧Cop (fun _ _=>False) n0 w0 zq { v with Q3:=u } { P with Q3:=x } (w'.setCell ⟨zq,5,none⟩ u):=by
 obtain⟨x,cs,A,j,_,C⟩:=d;have i:=h.step hk;have l:=h.zq;have d:=i.ty;have y:n0≤w.heap.size:=by have:=h.size;have:=h.keep.size;omega
 have r:x.length≤top:=by rw[A.length_eq];obtain⟨_,_,_,_,B,_⟩:=h.QL.Q3;exact B
 have E:∀T,T≠34→aW (Dm n0 w T) w (w'.setCell ⟨zq,5,none⟩ u):=fun T n b a q=>(aE l d T n b (a.keep hk) q).trans (bM hk T b a q)
 have p:=aH (g:=zq) (o:=5) (u:=u) (de C y) d (by decide);refine⟨x,A,i.keep_set l _ _,h.size,?_,l,fun _ _ e=>e.elim,⟨aD i.QL.QF (fun b a=>a.set_) (aE l d _ (by decide)),ao.same i.QL.Q4 (fun b a=>a.set_) (aE l d _ (by decide)) (fun T' _ b a=>a.set_) (fun T' n=>aE l d _ (by subst n;decide)),aD i.QL.Q5 (fun b a=>a.set_) (aE l d _ (by decide)),b6 (D:=Dm n0 w) (D':=Dm n0 (w'.setCell ⟨zq,5,none⟩ u)) aj j p r (fun g l=>by obtain⟨_,G,H⟩:=aL p l;exact⟨G,.inr H⟩) (fun T' _ b a=>(a.keep hk).set_) (fun T' n=>E T' (by rcases n with rfl|rfl<;>decide)),aD i.QL.Q8 (fun b a=>a.set_) (aE l d _ (by decide)),aD i.QL.QG (fun b a=>a.set_) (aE l d _ (by decide)),aD i.QL.QC (fun b a=>a.set_) (aE l d _ (by decide)),au.same i.QL.Q9 (fun b a=>a.set_) (aE l d _ (by decide)) (fun T' _ b a=>a.set_) (fun T' n=>aE l d _ (by rcases n with rfl|rfl<;>decide)),aD i.QL.QD (fun b a=>a.set_) (aE l d _ (by decide)),aD i.QL.QE (fun b a=>a.set_) (aE l d _ (by decide)),aD i.QL.QB (fun b a=>a.set_) (aE l d _ (by decide)),aD i.QL.QA (fun b a=>a.set_) (aE l d _ (by decide)),i.QL.pos,i.QL.name⟩,
  ⟨let⟨c,j⟩:=i.QI.QF;⟨c,aH j d (by decide)⟩,let⟨c,j⟩:=i.QI.Q4;⟨c,aH j d (by decide)⟩,let⟨c,j⟩:=i.QI.Q5;⟨c,aH j d (by decide)⟩,⟨cs,p⟩,let⟨c,j⟩:=i.QI.Q8;⟨c,aH j d (by decide)⟩,let⟨c,j⟩:=i.QI.QG;⟨c,aH j d (by decide)⟩,let⟨c,j⟩:=i.QI.QC;⟨c,aH j d (by decide)⟩,let⟨c,j⟩:=i.QI.Q9;⟨c,aH j d (by decide)⟩,let⟨c,j⟩:=i.QI.QD;⟨c,aH j d (by decide)⟩,let⟨c,j⟩:=i.QI.QE;⟨c,aH j d (by decide)⟩,let⟨c,j⟩:=i.QI.QB;⟨c,aH j d (by decide)⟩,let⟨c,j⟩:=i.QI.QA;⟨c,aH j d (by decide)⟩⟩⟩
 rw[heap_setCell_same w' zq 5 _ _ u i.cell];simp[aV.cells]
theorem Cop.turn_channels{R:Nat→Array Value→Prop}{n0:Nat}{w0 w w':World}{zq:Nat}{v:aV}{P:aC}(h:Cop R n0 w0 zq v P w){u:Value}(d:cV (Dm n0 w 55) w.heap.size 55 8 cB w P.Q8 w' u)(hk:Kz w w'):
 ∃x,x.Perm P.Q8∧Cop (fun _ _=>False) n0 w0 zq { v with Q8:=u } { P with Q8:=x } (w'.setCell ⟨zq,6,none⟩ u):=by
 obtain⟨x,cs,A,j,_,C⟩:=d;have i:=h.step hk;have l:=h.zq;have d:=i.ty;have y:n0≤w.heap.size:=by have:=h.size;have:=h.keep.size;omega
 have r:x.length≤top:=by rw[A.length_eq];obtain⟨_,_,_,_,B,_⟩:=h.QL.Q8;exact B
 have H:∀T,T≠34→aW (Dm n0 w T) w (w'.setCell ⟨zq,6,none⟩ u):=fun T n b a q=>(aE l d T n b (a.keep hk) q).trans (bM hk T b a q)
 have p:=aH (g:=zq) (o:=6) (u:=u) (de C y) d (by decide);refine⟨x,A,i.keep_set l _ _,h.size,?_,l,fun _ _ e=>e.elim,⟨aD i.QL.QF (fun b a=>a.set_) (aE l d _ (by decide)),ao.same i.QL.Q4 (fun b a=>a.set_) (aE l d _ (by decide)) (fun T' _ b a=>a.set_) (fun T' n=>aE l d _ (by subst n;decide)),aD i.QL.Q5 (fun b a=>a.set_) (aE l d _ (by decide)),aj.same i.QL.Q3 (fun b a=>a.set_) (aE l d _ (by decide)) (fun T' _ b a=>a.set_) (fun T' n=>aE l d _ (by rcases n with rfl|rfl<;>decide)),b6 (D:=Dm n0 w) (D':=Dm n0 (w'.setCell ⟨zq,6,none⟩ u)) cj j p r (fun g l=>by obtain⟨_,E,G⟩:=aL p l;exact⟨E,.inr G⟩) (fun T' _ b a=>(a.keep hk).set_) (fun T' n=>False.elim n),aD i.QL.QG (fun b a=>a.set_) (aE l d _ (by decide)),aD i.QL.QC (fun b a=>a.set_) (aE l d _ (by decide)),au.same i.QL.Q9 (fun b a=>a.set_) (aE l d _ (by decide)) (fun T' _ b a=>a.set_) (fun T' n=>aE l d _ (by rcases n with rfl|rfl<;>decide)),aD i.QL.QD (fun b a=>a.set_) (aE l d _ (by decide)),aD i.QL.QE (fun b a=>a.set_) (aE l d _ (by decide)),aD i.QL.QB (fun b a=>a.set_) (aE l d _ (by decide)),aD i.QL.QA (fun b a=>a.set_) (aE l d _ (by decide)),i.QL.pos,i.QL.name⟩,
  ⟨let⟨c,j⟩:=i.QI.QF;⟨c,aH j d (by decide)⟩,let⟨c,j⟩:=i.QI.Q4;⟨c,aH j d (by decide)⟩,let⟨c,j⟩:=i.QI.Q5;⟨c,aH j d (by decide)⟩,let⟨c,j⟩:=i.QI.Q3;⟨c,aH j d (by decide)⟩,⟨cs,p⟩,let⟨c,j⟩:=i.QI.QG;⟨c,aH j d (by decide)⟩,let⟨c,j⟩:=i.QI.QC;⟨c,aH j d (by decide)⟩,let⟨c,j⟩:=i.QI.Q9;⟨c,aH j d (by decide)⟩,let⟨c,j⟩:=i.QI.QD;⟨c,aH j d (by decide)⟩,let⟨c,j⟩:=i.QI.QE;⟨c,aH j d (by decide)⟩,let⟨c,j⟩:=i.QI.QB;⟨c,aH j d (by decide)⟩,let⟨c,j⟩:=i.QI.QA;⟨c,aH j d (by decide)⟩⟩⟩
 rw[heap_setCell_same w' zq 6 _ _ u i.cell];simp[aV.cells]
theorem Cop.turn_irqs{R:Nat→Array Value→Prop}{n0:Nat}{w0 w w':World}{zq:Nat}{v:aV}{P:aC}(h:Cop R n0 w0 zq v P w){u:Value}(d:cV (Dm n0 w 58) w.heap.size 58 6 fR w P.QG w' u)(hk:Kz w w'):
 ∃x,x.Perm P.QG∧Cop (fun _ _=>False) n0 w0 zq { v with QG:=u } { P with QG:=x } (w'.setCell ⟨zq,7,none⟩ u):=by
 obtain⟨x,cs,A,j,_,C⟩:=d;have i:=h.step hk;have l:=h.zq;have d:=i.ty;have y:n0≤w.heap.size:=by have:=h.size;have:=h.keep.size;omega
 have r:x.length≤top:=by rw[A.length_eq];obtain⟨_,_,_,_,B,_⟩:=h.QL.QG;exact B
 have H:∀T,T≠34→aW (Dm n0 w T) w (w'.setCell ⟨zq,7,none⟩ u):=fun T n b a q=>(aE l d T n b (a.keep hk) q).trans (bM hk T b a q)
 have p:=aH (g:=zq) (o:=7) (u:=u) (de C y) d (by decide);refine⟨x,A,i.keep_set l _ _,h.size,?_,l,fun _ _ e=>e.elim,⟨aD i.QL.QF (fun b a=>a.set_) (aE l d _ (by decide)),ao.same i.QL.Q4 (fun b a=>a.set_) (aE l d _ (by decide)) (fun T' _ b a=>a.set_) (fun T' n=>aE l d _ (by subst n;decide)),aD i.QL.Q5 (fun b a=>a.set_) (aE l d _ (by decide)),aj.same i.QL.Q3 (fun b a=>a.set_) (aE l d _ (by decide)) (fun T' _ b a=>a.set_) (fun T' n=>aE l d _ (by rcases n with rfl|rfl<;>decide)),aD i.QL.Q8 (fun b a=>a.set_) (aE l d _ (by decide)),b6 (D:=Dm n0 w) (D':=Dm n0 (w'.setCell ⟨zq,7,none⟩ u)) fL j p r (fun g l=>by obtain⟨_,E,G⟩:=aL p l;exact⟨E,.inr G⟩) (fun T' _ b a=>(a.keep hk).set_) (fun T' n=>False.elim n),aD i.QL.QC (fun b a=>a.set_) (aE l d _ (by decide)),au.same i.QL.Q9 (fun b a=>a.set_) (aE l d _ (by decide)) (fun T' _ b a=>a.set_) (fun T' n=>aE l d _ (by rcases n with rfl|rfl<;>decide)),aD i.QL.QD (fun b a=>a.set_) (aE l d _ (by decide)),aD i.QL.QE (fun b a=>a.set_) (aE l d _ (by decide)),aD i.QL.QB (fun b a=>a.set_) (aE l d _ (by decide)),aD i.QL.QA (fun b a=>a.set_) (aE l d _ (by decide)),i.QL.pos,i.QL.name⟩,
  ⟨let⟨c,j⟩:=i.QI.QF;⟨c,aH j d (by decide)⟩,let⟨c,j⟩:=i.QI.Q4;⟨c,aH j d (by decide)⟩,let⟨c,j⟩:=i.QI.Q5;⟨c,aH j d (by decide)⟩,let⟨c,j⟩:=i.QI.Q3;⟨c,aH j d (by decide)⟩,let⟨c,j⟩:=i.QI.Q8;⟨c,aH j d (by decide)⟩,⟨cs,p⟩,let⟨c,j⟩:=i.QI.QC;⟨c,aH j d (by decide)⟩,let⟨c,j⟩:=i.QI.Q9;⟨c,aH j d (by decide)⟩,let⟨c,j⟩:=i.QI.QD;⟨c,aH j d (by decide)⟩,let⟨c,j⟩:=i.QI.QE;⟨c,aH j d (by decide)⟩,let⟨c,j⟩:=i.QI.QB;⟨c,aH j d (by decide)⟩,let⟨c,j⟩:=i.QI.QA;⟨c,aH j d (by decide)⟩⟩⟩
 rw[heap_setCell_same w' zq 7 _ _ u i.cell];simp[aV.cells]
theorem Cop.turn_queues{R:Nat→Array Value→Prop}{n0:Nat}{w0 w w':World}{zq:Nat}{v:aV}{P:aC}(h:Cop R n0 w0 zq v P w){u:Value}(d:cV (Dm n0 w 65) w.heap.size 65 6 co w P.QC w' u)(hk:Kz w w'):
 ∃x,x.Perm P.QC∧Cop (fun _ _=>False) n0 w0 zq { v with QC:=u } { P with QC:=x } (w'.setCell ⟨zq,8,none⟩ u):=by
 obtain⟨x,cs,A,j,_,C⟩:=d;have i:=h.step hk;have l:=h.zq;have d:=i.ty;have y:n0≤w.heap.size:=by have:=h.size;have:=h.keep.size;omega
 have r:x.length≤top:=by rw[A.length_eq];obtain⟨_,_,_,_,B,_⟩:=h.QL.QC;exact B
 have H:∀T,T≠34→aW (Dm n0 w T) w (w'.setCell ⟨zq,8,none⟩ u):=fun T n b a q=>(aE l d T n b (a.keep hk) q).trans (bM hk T b a q)
 have p:=aH (g:=zq) (o:=8) (u:=u) (de C y) d (by decide);refine⟨x,A,i.keep_set l _ _,h.size,?_,l,fun _ _ e=>e.elim,⟨aD i.QL.QF (fun b a=>a.set_) (aE l d _ (by decide)),ao.same i.QL.Q4 (fun b a=>a.set_) (aE l d _ (by decide)) (fun T' _ b a=>a.set_) (fun T' n=>aE l d _ (by subst n;decide)),aD i.QL.Q5 (fun b a=>a.set_) (aE l d _ (by decide)),aj.same i.QL.Q3 (fun b a=>a.set_) (aE l d _ (by decide)) (fun T' _ b a=>a.set_) (fun T' n=>aE l d _ (by rcases n with rfl|rfl<;>decide)),aD i.QL.Q8 (fun b a=>a.set_) (aE l d _ (by decide)),aD i.QL.QG (fun b a=>a.set_) (aE l d _ (by decide)),b6 (D:=Dm n0 w) (D':=Dm n0 (w'.setCell ⟨zq,8,none⟩ u)) dc j p r (fun g l=>by obtain⟨_,E,G⟩:=aL p l;exact⟨E,.inr G⟩) (fun T' _ b a=>(a.keep hk).set_) (fun T' n=>False.elim n),au.same i.QL.Q9 (fun b a=>a.set_) (aE l d _ (by decide)) (fun T' _ b a=>a.set_) (fun T' n=>aE l d _ (by rcases n with rfl|rfl<;>decide)),aD i.QL.QD (fun b a=>a.set_) (aE l d _ (by decide)),aD i.QL.QE (fun b a=>a.set_) (aE l d _ (by decide)),aD i.QL.QB (fun b a=>a.set_) (aE l d _ (by decide)),aD i.QL.QA (fun b a=>a.set_) (aE l d _ (by decide)),i.QL.pos,i.QL.name⟩,
  ⟨let⟨c,j⟩:=i.QI.QF;⟨c,aH j d (by decide)⟩,let⟨c,j⟩:=i.QI.Q4;⟨c,aH j d (by decide)⟩,let⟨c,j⟩:=i.QI.Q5;⟨c,aH j d (by decide)⟩,let⟨c,j⟩:=i.QI.Q3;⟨c,aH j d (by decide)⟩,let⟨c,j⟩:=i.QI.Q8;⟨c,aH j d (by decide)⟩,let⟨c,j⟩:=i.QI.QG;⟨c,aH j d (by decide)⟩,⟨cs,p⟩,let⟨c,j⟩:=i.QI.Q9;⟨c,aH j d (by decide)⟩,let⟨c,j⟩:=i.QI.QD;⟨c,aH j d (by decide)⟩,let⟨c,j⟩:=i.QI.QE;⟨c,aH j d (by decide)⟩,let⟨c,j⟩:=i.QI.QB;⟨c,aH j d (by decide)⟩,let⟨c,j⟩:=i.QI.QA;⟨c,aH j d (by decide)⟩⟩⟩
 rw[heap_setCell_same w' zq 8 _ _ u i.cell];simp[aV.cells]
theorem Cop.turn_plans{R:Nat→Array Value→Prop}{n0:Nat}{w0 w w':World}{zq:Nat}{v:aV}{P:aC}(h:Cop R n0 w0 zq v P w){u:Value}(d:cV (Dm n0 w 62) w.heap.size 62 4 (eY (Dm n0 w)) w P.Q9 w' u)(hk:Kz w w'):
 ∃x,x.Perm P.Q9∧Cop (fun _ _=>False) n0 w0 zq { v with Q9:=u } { P with Q9:=x } (w'.setCell ⟨zq,9,none⟩ u):=by
 obtain⟨x,cs,A,j,_,C⟩:=d;have i:=h.step hk;have l:=h.zq;have d:=i.ty;have y:n0≤w.heap.size:=by have:=h.size;have:=h.keep.size;omega
 have r:x.length≤top:=by rw[A.length_eq];obtain⟨_,_,_,_,B,_⟩:=h.QL.Q9;exact B
 have E:∀T,T≠34→aW (Dm n0 w T) w (w'.setCell ⟨zq,9,none⟩ u):=fun T n b a q=>(aE l d T n b (a.keep hk) q).trans (bM hk T b a q)
 have p:=aH (g:=zq) (o:=9) (u:=u) (de C y) d (by decide);refine⟨x,A,i.keep_set l _ _,h.size,?_,l,fun _ _ e=>e.elim,⟨aD i.QL.QF (fun b a=>a.set_) (aE l d _ (by decide)),ao.same i.QL.Q4 (fun b a=>a.set_) (aE l d _ (by decide)) (fun T' _ b a=>a.set_) (fun T' n=>aE l d _ (by subst n;decide)),aD i.QL.Q5 (fun b a=>a.set_) (aE l d _ (by decide)),aj.same i.QL.Q3 (fun b a=>a.set_) (aE l d _ (by decide)) (fun T' _ b a=>a.set_) (fun T' n=>aE l d _ (by rcases n with rfl|rfl<;>decide)),aD i.QL.Q8 (fun b a=>a.set_) (aE l d _ (by decide)),aD i.QL.QG (fun b a=>a.set_) (aE l d _ (by decide)),aD i.QL.QC (fun b a=>a.set_) (aE l d _ (by decide)),b6 (D:=Dm n0 w) (D':=Dm n0 (w'.setCell ⟨zq,9,none⟩ u)) au j p r (fun g l=>by obtain⟨_,G,H⟩:=aL p l;exact⟨G,.inr H⟩) (fun T' _ b a=>(a.keep hk).set_) (fun T' n=>E T' (by rcases n with rfl|rfl<;>decide)),aD i.QL.QD (fun b a=>a.set_) (aE l d _ (by decide)),aD i.QL.QE (fun b a=>a.set_) (aE l d _ (by decide)),aD i.QL.QB (fun b a=>a.set_) (aE l d _ (by decide)),aD i.QL.QA (fun b a=>a.set_) (aE l d _ (by decide)),i.QL.pos,i.QL.name⟩,
  ⟨let⟨c,j⟩:=i.QI.QF;⟨c,aH j d (by decide)⟩,let⟨c,j⟩:=i.QI.Q4;⟨c,aH j d (by decide)⟩,let⟨c,j⟩:=i.QI.Q5;⟨c,aH j d (by decide)⟩,let⟨c,j⟩:=i.QI.Q3;⟨c,aH j d (by decide)⟩,let⟨c,j⟩:=i.QI.Q8;⟨c,aH j d (by decide)⟩,let⟨c,j⟩:=i.QI.QG;⟨c,aH j d (by decide)⟩,let⟨c,j⟩:=i.QI.QC;⟨c,aH j d (by decide)⟩,⟨cs,p⟩,let⟨c,j⟩:=i.QI.QD;⟨c,aH j d (by decide)⟩,let⟨c,j⟩:=i.QI.QE;⟨c,aH j d (by decide)⟩,let⟨c,j⟩:=i.QI.QB;⟨c,aH j d (by decide)⟩,let⟨c,j⟩:=i.QI.QA;⟨c,aH j d (by decide)⟩⟩⟩
 rw[heap_setCell_same w' zq 9 _ _ u i.cell];simp[aV.cells]
theorem Cop.turn_forbids{R:Nat→Array Value→Prop}{n0:Nat}{w0 w w':World}{zq:Nat}{v:aV}{P:aC}(h:Cop R n0 w0 zq v P w){u:Value}(d:cV (Dm n0 w 68) w.heap.size 68 3 fS w P.QA w' u)(hk:Kz w w'):
 ∃x,x.Perm P.QA∧Cop (fun _ _=>False) n0 w0 zq { v with QA:=u } { P with QA:=x } (w'.setCell ⟨zq,13,none⟩ u):=by
 obtain⟨x,cs,A,j,_,C⟩:=d;have i:=h.step hk;have l:=h.zq;have d:=i.ty;have y:n0≤w.heap.size:=by have:=h.size;have:=h.keep.size;omega
 have r:x.length≤top:=by rw[A.length_eq];obtain⟨_,_,_,_,B,_⟩:=h.QL.QA;exact B
 have H:∀T,T≠34→aW (Dm n0 w T) w (w'.setCell ⟨zq,13,none⟩ u):=fun T n b a q=>(aE l d T n b (a.keep hk) q).trans (bM hk T b a q)
 have p:=aH (g:=zq) (o:=13) (u:=u) (de C y) d (by decide);refine⟨x,A,i.keep_set l _ _,h.size,?_,l,fun _ _ e=>e.elim,⟨aD i.QL.QF (fun b a=>a.set_) (aE l d _ (by decide)),ao.same i.QL.Q4 (fun b a=>a.set_) (aE l d _ (by decide)) (fun T' _ b a=>a.set_) (fun T' n=>aE l d _ (by subst n;decide)),aD i.QL.Q5 (fun b a=>a.set_) (aE l d _ (by decide)),aj.same i.QL.Q3 (fun b a=>a.set_) (aE l d _ (by decide)) (fun T' _ b a=>a.set_) (fun T' n=>aE l d _ (by rcases n with rfl|rfl<;>decide)),aD i.QL.Q8 (fun b a=>a.set_) (aE l d _ (by decide)),aD i.QL.QG (fun b a=>a.set_) (aE l d _ (by decide)),aD i.QL.QC (fun b a=>a.set_) (aE l d _ (by decide)),au.same i.QL.Q9 (fun b a=>a.set_) (aE l d _ (by decide)) (fun T' _ b a=>a.set_) (fun T' n=>aE l d _ (by rcases n with rfl|rfl<;>decide)),aD i.QL.QD (fun b a=>a.set_) (aE l d _ (by decide)),aD i.QL.QE (fun b a=>a.set_) (aE l d _ (by decide)),aD i.QL.QB (fun b a=>a.set_) (aE l d _ (by decide)),b6 (D:=Dm n0 w) (D':=Dm n0 (w'.setCell ⟨zq,13,none⟩ u)) fN j p r (fun g l=>by obtain⟨_,E,G⟩:=aL p l;exact⟨E,.inr G⟩) (fun T' _ b a=>(a.keep hk).set_) (fun T' n=>False.elim n),i.QL.pos,i.QL.name⟩,
  ⟨let⟨c,j⟩:=i.QI.QF;⟨c,aH j d (by decide)⟩,let⟨c,j⟩:=i.QI.Q4;⟨c,aH j d (by decide)⟩,let⟨c,j⟩:=i.QI.Q5;⟨c,aH j d (by decide)⟩,let⟨c,j⟩:=i.QI.Q3;⟨c,aH j d (by decide)⟩,let⟨c,j⟩:=i.QI.Q8;⟨c,aH j d (by decide)⟩,let⟨c,j⟩:=i.QI.QG;⟨c,aH j d (by decide)⟩,let⟨c,j⟩:=i.QI.QC;⟨c,aH j d (by decide)⟩,let⟨c,j⟩:=i.QI.Q9;⟨c,aH j d (by decide)⟩,let⟨c,j⟩:=i.QI.QD;⟨c,aH j d (by decide)⟩,let⟨c,j⟩:=i.QI.QE;⟨c,aH j d (by decide)⟩,let⟨c,j⟩:=i.QI.QB;⟨c,aH j d (by decide)⟩,⟨cs,p⟩⟩⟩
 rw[heap_setCell_same w' zq 13 _ _ u i.cell];simp[aV.cells]
theorem vm{α:Type}{T:TypeId}{k:Nat}{N:TypeId→Prop}{RF:bF→World→Nat→Nat→α→Prop}(K:fQ T k N RF){D0 D0':Nat→Prop}{D D':bF}{w:World}{g c i f:Nat}{u:Value}{d:List α}{x q:α}
 (h:aM D0 k (RF D) w (.slice (some ⟨g,0,none⟩) d.length c) d)(hx:d[i]?=some x)(Q:f<k)(a:RF D' (w.setCell ⟨g,i*k+f,none⟩ u) g (i*k) q)(n:∀b,D0 b→D0' b)(B:∀T',N T'→∀b,D T' b→D' T' b)
 (H:∀T',N T'→∀b,D T' b→b<w.heap.size∧b≠g):aM D0' k (RF D') (w.setCell ⟨g,i*k+f,none⟩ u) (.slice (some ⟨g,0,none⟩) d.length c) (d.set i q):=by
 obtain⟨A,r,e,G,L,J⟩:=h;obtain⟨rfl,rfl⟩:some ⟨g,0,none⟩=A∧c=r:=by simpa using e
 refine⟨some ⟨g,0,none⟩,c,by simp,by simpa using G,by simpa using L,fun v=>?_⟩;obtain⟨b,off,e,E,M⟩:=J (by simpa using v);obtain⟨rfl,rfl⟩:g=b∧0=off:=by simpa using e
 refine⟨g,0,rfl,n _ E,fun p y l=>?_⟩;rw[Nat.zero_add]
 by_cases hi:p=i
 ·subst hi
  rw[List.getElem?_set_self (List.getElem?_eq_some_iff.1 hx).1]at l;obtain rfl:q=y:=Option.some.inj l;exact a
 ·rw[List.getElem?_set_ne (fun e=>hi e.symm)]at l
  have:=M p y l;rw[Nat.zero_add]at this;refine K.moves this (fun j I=>World.cell?_setCell_other _ _ _ _ (by
   intro e;have O:i*k+f=p*k+j:=by simpa using e
   have:=mB I hi;omega)) B (fun T' C=>aW.of_keep (ba w g _ u) (H T' C))
theorem Cop.set_maps{R:Nat→Array Value→Prop}{n0:Nat}{w0 w:World}{zq:Nat}{v:aV}{P:aC}(h:Cop R n0 w0 zq v P w){g c i:Nat}{u:Value}(hv:v.Q3=.slice (some ⟨g,0,none⟩) P.Q3.length c){x:aS}(hx:P.Q3[i]?=some x){ms:List Ck.Map}
 (L:aM (Dm n0 w 71) 5 cD w u ms):Cop R n0 w0 zq v { P with Q3:=P.Q3.set i { x with maps:=ms } } (w.setCell ⟨g,i*6+4,none⟩ u):=by
 obtain⟨r,B⟩:=h.QI.Q3;obtain⟨n,H,l⟩:=aL B (g:=g) (by rw[hv];rfl);have D:aM (Dm n0 w 52) 6 (cA (Dm n0 w)) w (.slice (some ⟨g,0,none⟩) P.Q3.length c) P.Q3:=by rw[←hv];exact h.QL.Q3
 have I:=(List.getElem?_eq_some_iff.1 hx).1;refine⟨h.keep_set n _ _,h.size,(h.cell_set l (by decide) _ _:_),h.zq,h.res_set l (by decide) _ _,⟨aD h.QL.QF (fun b a=>a.set_) (aE n l _ (by decide)),ao.same h.QL.Q4 (fun b a=>a.set_) (aE n l _ (by decide)) (fun T' _ b a=>a.set_) (fun T' q=>aE n l _ (by subst q;decide)),aD h.QL.Q5 (fun b a=>a.set_) (aE n l _ (by decide)),?_,aD h.QL.Q8 (fun b a=>a.set_) (aE n l _ (by decide)),aD h.QL.QG (fun b a=>a.set_) (aE n l _ (by decide)),aD h.QL.QC (fun b a=>a.set_) (aE n l _ (by decide)),au.same h.QL.Q9 (fun b a=>a.set_) (aE n l _ (by decide)) (fun T' _ b a=>a.set_) (fun T' q=>aE n l _ (by rcases q with rfl|rfl<;>decide)),aD h.QL.QD (fun b a=>a.set_) (aE n l _ (by decide)),aD h.QL.QE (fun b a=>a.set_) (aE n l _ (by decide)),aD h.QL.QB (fun b a=>a.set_) (aE n l _ (by decide)),aD h.QL.QA (fun b a=>a.set_) (aE n l _ (by decide)),h.QL.pos,h.QL.name⟩,
  ⟨let⟨c,d⟩:=h.QI.QF;⟨c,aH d l (by decide)⟩,let⟨c,d⟩:=h.QI.Q4;⟨c,aH d l (by decide)⟩,let⟨c,d⟩:=h.QI.Q5;⟨c,aH d l (by decide)⟩,?_,let⟨c,d⟩:=h.QI.Q8;⟨c,aH d l (by decide)⟩,let⟨c,d⟩:=h.QI.QG;⟨c,aH d l (by decide)⟩,let⟨c,d⟩:=h.QI.QC;⟨c,aH d l (by decide)⟩,let⟨c,d⟩:=h.QI.Q9;⟨c,aH d l (by decide)⟩,let⟨c,d⟩:=h.QI.QD;⟨c,aH d l (by decide)⟩,let⟨c,d⟩:=h.QI.QE;⟨c,aH d l (by decide)⟩,let⟨c,d⟩:=h.QI.QB;⟨c,aH d l (by decide)⟩,let⟨c,d⟩:=h.QI.QA;⟨c,aH d l (by decide)⟩⟩⟩
 ·rw[hv]
  refine vm aj D hx (by decide) ?_ (fun b a=>a.set_) (fun T' _ b a=>a.set_) (fun T' q b a=>⟨a.1,a.ne n l (by rcases q with rfl|rfl<;>decide)⟩);obtain⟨A,E,e,_,_,J⟩:=D;obtain⟨rfl,rfl⟩:some ⟨g,0,none⟩=A∧c=E:=by simpa using e
  obtain⟨b,off,e,_,K⟩:=J (by omega);obtain⟨rfl,rfl⟩:g=b∧0=off:=by simpa using e
  obtain⟨N,M,d,_,C,G⟩:=K i x hx;rw[Nat.zero_add]at d;refine⟨u,M,fun j y p=>?_,aD L (fun b a=>a.set_) (aE n l _ (by decide)),aD C (fun b a=>a.set_) (aE n l _ (by decide)),G⟩
  rcases(by have:=(List.getElem?_eq_some_iff.1 p).1;simp at this;omega:j=0∨j=1∨j=2∨j=3∨j=4∨j=5)with rfl|rfl|rfl|rfl|rfl|rfl
  ·exact(World.cell?_setCell_other _ _ _ _ (by simp)).trans (d 0 _ p)
  ·exact(World.cell?_setCell_other _ _ _ _ (by simp)).trans (d 1 _ p)
  ·exact(World.cell?_setCell_other _ _ _ _ (by simp)).trans (d 2 _ p)
  ·exact(World.cell?_setCell_other _ _ _ _ (by simp)).trans (d 3 _ p)
  ·obtain rfl:u=y:=by simpa using p
   exact World.cell?_setCell_same _ _ _ (d 4 _ rfl)
  ·exact(World.cell?_setCell_other _ _ _ _ (by simp)).trans (d 5 _ p)
 ·rw[hv]at B⊢
  rw[List.length_set];exact dn ⟨r,B⟩
def kG(S Q:List aS):Prop:=∃zs:List (aS×List Ck.Map),zs.map (·.1)=S∧(∀z∈zs,z.2.Perm z.1.maps)∧Q=zs.map fun z=>z.1.with_ z.2
theorem rb(S:List aS):kG S S:=
 ⟨S.map fun x=>(x,x.maps),by simp[Function.comp_def],fun z a=>by obtain⟨x,_,rfl⟩:=List.mem_map.1 a;exact .refl _,by rw[List.map_map];exact(List.map_id' S).symm⟩
theorem kG.len{S Q:List aS}(h:kG S Q):Q.length=S.length:=by
 obtain⟨d,a,_,b⟩:=h;rw[b,←a];simp
theorem kG.set_{S Q:List aS}(h:kG S Q){i:Nat}{x:aS}(hx:Q[i]?=some x){ms:List Ck.Map}(g:ms.Perm x.maps):kG S (Q.set i { x with maps:=ms }):=by
 obtain⟨n,d,b,e⟩:=h;subst e;rw[List.getElem?_map]at hx;obtain⟨z,a,rfl⟩:=Option.map_eq_some_iff.1 hx;refine⟨n.set i (z.1,ms),?_,fun y l=>?_,?_⟩
 ·rw[List.map_set,←d]
  refine List.ext_getElem? fun j=>?_
  by_cases hj:i=j
  ·subst hj
   rw[List.getElem?_set_self (by simpa using(List.getElem?_eq_some_iff.1 a).1),List.getElem?_map,a];rfl
  ·rw[List.getElem?_set_ne hj]
 ·rcases List.mem_or_eq_of_mem_set l with h|h
  ·exact b y h
  ·subst h
   exact g.trans (b z (List.mem_of_getElem? a))
 ·rw[List.map_set];rfl
end Go.Proofs.YtpblcjipmoblnaaGreatDoor
