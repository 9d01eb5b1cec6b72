import Derived.Test.YtpblcjipmoblnaaGreatDoorSmall
import Derived.Test.YtpblcjipmoblnaaGreatDoorDraw
set_option maxRecDepth 100000
set_option linter.all false
set_option maxHeartbeats 4000000
namespace Go.Proofs.YtpblcjipmoblnaaGreatDoor
open Go.RowKit Go.IntWalk Ck
variable {D D0:Nat→Prop} {k b o n0 n g zq:Nat} {w w' w0:World} {v u:Value} {T e:TypeId} {cs:List Value}
abbrev cH:=TypeId→Nat→Prop
def zg{α:Type}(D:Nat→Prop)(k:Nat)(R:World→Nat→Nat→α→Prop)(w:World)(A:Option Addr)(xs:List α):Prop:=
 0<xs.length→∃b off,A=some ⟨b,off,none⟩∧D b∧∀i x,xs[i]?=some x→R w b (off+i*k) x
def aN{α:Type}(D:Nat→Prop)(k:Nat)(R:World→Nat→Nat→α→Prop)(w:World)(v:Value)(xs:List α):Prop:=
 ∃A c,v=.slice A xs.length c∧xs.length≤c∧xs.length≤top∧zg D k R w A xs
theorem lX{α:Type}{D':Nat→Prop}{R R':World→Nat→Nat→α→Prop}{xs:List α}(h:aN D k R w v xs)(j:∀b,D b→D' b)
 (l:∀b o (i:Nat) (x:α),xs[i]?=some x→D b→R w b o x→R' w' b o x):aN D' k R' w' v xs:=by
 obtain⟨A,c,e,p,r,q⟩:=h;refine⟨A,c,e,p,r,fun g=>?_⟩;obtain⟨b,off,e,d,u⟩:=q g;exact⟨b,off,e,j b d,fun i x hx=>l _ _ i x hx d (u i x hx)⟩
def dw(D:cH)(w:World)(b o:Nat)(x:Ck.bA):Prop:=
 ∃v,aL w b o [.int .i64 x.pos,.string x.name,.int .u64 x.Q7,.int .u64 x.size,v]∧aN (D 71) 5 cU w v x.QF∧dU x.pos∧x.Q7<lim∧x.size<lim∧aX x.name
def dG(D:cH)(w:World)(b o:Nat)(x:aj):Prop:=
 ∃v u,aL w b o [.int .i64 x.pos,.string x.name,.int .u64 x.QO,.bool x.stopped,v,u]∧aN (D 71) 5 cU w v x.QF∧aN (D 85) 4 eW w u x.QN∧dU x.pos∧x.QO<lim∧aX x.name
def i6(D:cH)(w:World)(b o:Nat)(x:cW):Prop:=
 ∃v,aL w b o [.int .i64 x.pos,.int .u64 x.QO,.bool x.needs,v]∧aN (D 108) 4 ec w v x.runs∧dU x.pos∧x.QO<lim
def i4(D:cH)(w:World)(b o:Nat)(x:eX):Prop:=
 ∃v,aL w b o [.int .i64 x.pos,.string x.name,.int .u64 x.QM,v]∧aN (D 92) 4 (i6 D) w v x.QH∧dU x.pos∧x.QM<lim∧aX x.name
structure fb (D:cH) (w:World) (v:aR) (P:aC):Prop where
 QG:aN (D 41) 3 iO w v.QG P.QG
 Q4:aN (D 45) 5 (dw D) w v.Q4 P.Q4
 Q5:aN (D 48) 10 dH w v.Q5 P.Q5
 Q3:aN (D 52) 6 (dG D) w v.Q3 P.Q3
 Q8:aN (D 55) 8 cj w v.Q8 P.Q8
 QJ:aN (D 58) 6 iR w v.QJ P.QJ
 QC:aN (D 65) 6 dj w v.QC P.QC
 Q9:aN (D 62) 4 (i4 D) w v.Q9 P.Q9
 QB:aN (D 78) 2 cN w v.QB P.QB
 QE:aN (D 78) 2 cN w v.QE P.QE
 QA:aN (D 78) 2 cN w v.QA P.QA
 QD:aN (D 68) 3 iT w v.QD P.QD
 pos:dU P.pos
 name:aX P.name
theorem ao.in_{B:Nat}{v:aR}{P:aC}(h:ao B w v P):fb (fun _ b=>b<B) w v P:=
 ⟨h.QG,h.Q4,h.Q5,h.Q3,h.Q8,h.QJ,h.QC,h.Q9,h.QB,h.QE,h.QA,h.QD,h.pos,h.name⟩
theorem fb.below{B:Nat}{v:aR}{P:aC}(h:fb (fun _ b=>b<B) w v P):ao B w v P:=
 ⟨h.QG,h.Q4,h.Q5,h.Q3,h.Q8,h.QJ,h.QC,h.Q9,h.QB,h.QE,h.QA,h.QD,h.pos,h.name⟩
def ah(D:Nat→Prop)(w w':World):Prop:=∀b,D b→∀o,w'.cell? ⟨b,o,none⟩=w.cell? ⟨b,o,none⟩
theorem ah.of_keep{S:Nat→Prop}(hk:aD S w w')(d:∀b,D b→b<w.heap.size∧¬ S b):ah D w w':=fun b g o=>hk.cell (p:=⟨b,o,none⟩) (d b g).1 (d b g).2
theorem ah.refl:ah D w w:=fun _ _ _=>rfl
structure fw {α:Type} (T:TypeId) (k:Nat) (N:TypeId→Prop) (RF:cH→World→Nat→Nat→α→Prop):Prop where
 pos:0<k
 ones:∀{D:cH} {w:World} {b o:Nat} {x:α},RF D w b o x→∀j,j<k→∃u,w.cell? ⟨b,o+j,none⟩=some u∧u.oneCell'=true
 moves:∀{D D':cH} {w w':World} {b o b' o':Nat} {x:α},RF D w b o x→(∀j,j<k→w'.cell? ⟨b',o'+j,none⟩=w.cell? ⟨b,o+j,none⟩)→(∀T',N T'→∀b,D T' b→D' T' b)→(∀T',N T'→ah (D T') w w')→RF D' w' b' o' x
theorem fH{vs:List Value}(h:aL w b o vs)(g:∀v∈vs,v.oneCell'=true)(j:Nat)(d:j<vs.length):∃u,w.cell? ⟨b,o+j,none⟩=some u∧u.oneCell'=true:=
 ⟨vs[j],h j _ (Ez d),g _ (List.getElem_mem d)⟩
theorem gQ{d g:Nat}{vs:List Value}(h:aL w b o vs)(l:∀j,j<vs.length→w'.cell? ⟨d,g+j,none⟩=w.cell? ⟨b,o+j,none⟩):aL w' d g vs:=
 fun j v hv=>(l j (List.getElem?_eq_some_iff.1 hv).1).trans (h j v hv)
theorem dS{α:Type}{cells:α→List Value}{Ok:α→Prop}(g:0<k)(hk:∀x,(cells x).length=k)(l:∀x,∀v∈cells x,v.oneCell'=true):fw T k (fun _=>False) (fun _=>dZ cells Ok) where
 pos:=g
 ones:=fun h j d=>fH h.1 (l _) j (by rw[hk];exact d)
 moves:=fun h p _ _=>⟨gQ h.1 (fun j d=>p j (by rw[hk]at d;exact d)),h.2⟩
theorem iC:fw 41 3 (fun _=>False) (fun _=>iO):=dS ψ (fun _=>rfl) (fun x v hv=>by simp[Ck.Ram.cells]at hv;rcases hv with rfl|rfl|rfl<;>rfl)
theorem o8:fw 71 5 (fun _=>False) (fun _=>cU):=dS ψ (fun _=>rfl) (fun x v hv=>by simp[Ck.Map.cells]at hv;rcases hv with rfl|rfl|rfl|rfl|rfl<;>rfl)
theorem eE:fw 48 10 (fun _=>False) (fun _=>dH):=dS ψ (fun _=>rfl) (fun x v hv=>by simp[Ck.Region.cells]at hv;rcases hv with rfl|rfl|rfl|rfl|rfl|rfl|rfl|rfl|rfl|rfl<;>rfl)
theorem pr:fw 85 4 (fun _=>False) (fun _=>eW):=dS ψ (fun _=>rfl) (fun x v hv=>by simp[Ck.jq.cells]at hv;rcases hv with rfl|rfl|rfl|rfl<;>rfl)
theorem dh:fw 55 8 (fun _=>False) (fun _=>cj):=dS ψ (fun _=>rfl) (fun x v hv=>by simp[Ck.au.cells]at hv;rcases hv with rfl|rfl|rfl|rfl|rfl|rfl|rfl|rfl<;>rfl)
theorem iH:fw 58 6 (fun _=>False) (fun _=>iR):=dS ψ (fun _=>rfl) (fun x v hv=>by simp[Ck.Irq.cells]at hv;rcases hv with rfl|rfl|rfl|rfl|rfl|rfl<;>rfl)
theorem ej:fw 65 6 (fun _=>False) (fun _=>dj):=dS ψ (fun _=>rfl) (fun x v hv=>by simp[Ck.eH.cells]at hv;rcases hv with rfl|rfl|rfl|rfl|rfl|rfl<;>rfl)
theorem rS:fw 108 4 (fun _=>False) (fun _=>ec):=dS ψ (fun _=>rfl) (fun x v hv=>by simp[Run.cells]at hv;rcases hv with rfl|rfl|rfl|rfl<;>rfl)
theorem cM:fw 78 2 (fun _=>False) (fun _=>cN):=dS ψ (fun _=>rfl) (fun x v hv=>by simp[Ck.fY.cells]at hv;rcases hv with rfl|rfl<;>rfl)
theorem iK:fw 68 3 (fun _=>False) (fun _=>iT):=dS ψ (fun _=>rfl) (fun x v hv=>by simp[Ck.Ban.cells]at hv;rcases hv with rfl|rfl|rfl<;>rfl)
theorem aH{α:Type}{D':Nat→Prop}{cells:α→List Value}{Ok:α→Prop}{xs:List α}(h:aN D k (dZ cells Ok) w v xs)(g:∀b,D b→D' b)(p:ah D w w'):aN D' k (dZ cells Ok) w' v xs:=
 lX h g fun b o _ x _ l d=>⟨fun j u q=>(p b l _).trans (d.1 j u q),d.2⟩
theorem aY{α:Type}{R:World→Nat→Nat→α→Prop}{xs:List α}(h:aN D k R w v xs):v.oneCell'=true:=by
 obtain⟨A,c,rfl,_⟩:=h;rfl
theorem bv:fw 45 5 (fun T=>T=71) dw where
 pos:=ψ
 ones:=fun⟨v,h,d,_⟩ j r=>fH h (by intro u g;simp at g;rcases g with rfl|rfl|rfl|rfl|rfl<;>first|rfl|exact aY d) j r
 moves:=fun⟨v,h,d,l⟩ q p w=>⟨v,gQ h q,aH d (p 71 rfl) (w 71 rfl),l⟩
theorem bI:fw 52 6 (fun T=>T=71∨T=85) dG where
 pos:=ψ
 ones:=fun⟨v,u,h,d,g,_⟩ j x=>fH h (by intro u q;simp at q;rcases q with rfl|rfl|rfl|rfl|rfl|rfl<;>first|rfl|exact aY d|exact aY g) j x
 moves:=fun⟨v,u,h,d,g,r⟩ w l p=>⟨v,u,gQ h w,aH d (l 71 (.inl rfl)) (p 71 (.inl rfl)),aH g (l 85 (.inr rfl)) (p 85 (.inr rfl)),r⟩
theorem fD:fw 92 4 (fun T=>T=108) i6 where
 pos:=ψ
 ones:=fun⟨v,h,d,_⟩ j r=>fH h (by intro u g;simp at g;rcases g with rfl|rfl|rfl|rfl<;>first|rfl|exact aY d) j r
 moves:=fun⟨v,h,d,l⟩ q p w=>⟨v,gQ h q,aH d (p 108 rfl) (w 108 rfl),l⟩
theorem cE:fw 62 4 (fun T=>T=92∨T=108) i4 where
 pos:=ψ
 ones:=fun⟨v,h,g,_⟩ j A=>fH h (by intro u q;simp at q;rcases q with rfl|rfl|rfl|rfl<;>first|rfl|exact aY g) j A
 moves:=fun⟨v,h,g,r⟩ y l p=>⟨v,gQ h y,lX g (l 92 (.inl rfl)) fun b o _ x _ w B=>fD.moves B (fun j _=>p 92 (.inl rfl) b w _) (fun T d=>by subst d;exact l 108 (.inr rfl)) (fun T d=>by subst d;exact p 108 (.inr rfl)),r⟩
theorem fw.same{α:Type}{N:TypeId→Prop}{RF:cH→World→Nat→Nat→α→Prop}(K:fw T k N RF){D0 D0':Nat→Prop}{D D':cH}{w w':World}{v:Value}{xs:List α}(h:aN D0 k (RF D) w v xs)
 (d:∀b,D0 b→D0' b)(g:ah D0 w w')(l:∀T',N T'→∀b,D T' b→D' T' b)(r:∀T',N T'→ah (D T') w w'):aN D0' k (RF D') w' v xs:=
 lX h d fun b o _ x _ p q=>K.moves q (fun j _=>g b p _) l r
theorem fb.same{D D':cH}{v:aR}{P:aC}(h:fb D w v P)(d:∀T b,D T b→D' T b)(g:∀T,ah (D T) w w'):fb D' w' v P:=
 ⟨aH h.QG (d _) (g _),bv.same h.Q4 (d _) (g _) (fun T _=>d T) (fun T _=>g T),aH h.Q5 (d _) (g _),bI.same h.Q3 (d _) (g _) (fun T _=>d T) (fun T _=>g T),aH h.Q8 (d _) (g _),aH h.QJ (d _) (g _),
  aH h.QC (d _) (g _),cE.same h.Q9 (d _) (g _) (fun T _=>d T) (fun T _=>g T),aH h.QB (d _) (g _),aH h.QE (d _) (g _),aH h.QA (d _) (g _),aH h.QD (d _) (g _),h.pos,h.name⟩
theorem aO(h:w.ownsRow n0 T k v n cs){g:Nat}(j:v.ownBlock=some g):n0≤g∧g<w.heap.size∧cD w g=some T:=by
 rcases h.2 with⟨rfl,_⟩|⟨q,l,p,rfl,r,d,_⟩
 ·cases j
 ·obtain rfl:q=g:=Option.some.inj j
  exact⟨r,aG d,by unfold cD;rw[d]⟩
theorem aV{S:Nat→Prop}(h:w.ownsRow n0 T k v n cs)(hk:aD S w w')(p:∀g,v.ownBlock=some g→¬ S g):w'.ownsRow n0 T k v n cs:=by
 refine⟨h.1,?_⟩
 rcases h.2 with r|⟨g,j,l,rfl,q,d,rest⟩
 ·exact .inl r
 ·exact .inr ⟨g,j,l,rfl,q,(hk.block g (aG d) (p g rfl)).trans d,rest⟩
theorem rm{l:Nat}(h:w.ownsRow l T k v n cs)(p:n0≤l):w.ownsRow n0 T k v n cs:=by
 refine⟨h.1,?_⟩
 rcases h.2 with q|⟨g,d,j,rfl,r,rest⟩
 ·exact .inl q
 ·exact .inr ⟨g,d,j,rfl,χ,rest⟩
def gX{α:Type}(D0:Nat→Prop)(k:Nat)(R:World→Nat→Nat→α→Prop)(w:World)(xs:List α)(cs:List Value):Prop:=
 cs.length=xs.length*k∧∀i x,xs[i]?=some x→∃b o,D0 b∧R w b o x∧∀j,j<k→cs[i*k+j]?=w.cell? ⟨b,o+j,none⟩
theorem dR{α:Type}{N:TypeId→Prop}{RF:cH→World→Nat→Nat→α→Prop}(K:fw T k N RF){D0 D0':Nat→Prop}{D D':cH}{w w':World}{n0:Nat}{v:Value}{xs:List α}{cs:List Value}
 (L:gX D0 k (RF D) w xs cs)(r:w'.ownsRow n0 T k v xs.length cs)(C:xs.length≤top)(A:∀g,v.ownBlock=some g→D0' g)(J:∀T',N T'→∀b,D T' b→D' T' b)(S:∀T',N T'→ah (D T') w w'):aN D0' k (RF D') w' v xs:=by
 rcases Nat.eq_zero_or_pos xs.length with y|y
 ·rcases r.2 with⟨l,_⟩|⟨g,p,u,l,_,_,d,_⟩
  ·exact⟨none,0,by rw[l,y],χ,C,fun h=>χ⟩
  ·exact⟨_,_,l,d,C,fun h=>χ⟩
 ·obtain⟨g,p,rfl,V,Q⟩:=r.form y
  have d:xs.length≤p:=by
   rcases r.2 with⟨l,_⟩|⟨U,E,u,l,_,_,d,_⟩
   ·cases l
   ·cases l;exact d
  refine⟨_,_,rfl,d,C,fun _=>⟨g,0,rfl,A g rfl,fun i x hx=>?_⟩⟩;obtain⟨b,o,_,R,O⟩:=L.2 i x hx;have B:=(List.getElem?_eq_some_iff.1 hx).1;refine K.moves R (fun j I=>?_) J S;have q:i*k+j<xs.length*k:=Nat.lt_of_lt_of_le (Nat.add_lt_add_left I _) (by rw[←Nat.succ_mul];exact Nat.mul_le_mul_right _ B);have H:=r.cellAt (i*k+j) q;rw[O j I]at H;rw[Nat.zero_add];exact H
theorem B1{α:Type}{N:TypeId→Prop}{RF:cH→World→Nat→Nat→α→Prop}(K:fw T k N RF){D0:Nat→Prop}{D:cH}{w:World}{A:Option Addr}{xs:List α}(h:zg D0 k (RF D) w A xs):
 ∃cs:List Value,gX D0 k (RF D) w xs cs∧(∀u∈cs,u.oneCell'=true)∧(0<xs.length→∃b off,A=some ⟨b,off,none⟩∧∀j u,cs[j]?=some u→w.cell? ⟨b,off+j,none⟩=some u):=by
 rcases Nat.eq_zero_or_pos xs.length with r|r
 ·refine⟨[],⟨by rw[r];simp,fun i x hx=>?_⟩,ξ,fun h=>χ⟩
  have:=(List.getElem?_eq_some_iff.1 hx).1;omega
 ·obtain⟨b,off,rfl,C,B⟩:=h r
  have p:∀j,j<xs.length*k→∃u,w.cell? ⟨b,off+j,none⟩=some u∧u.oneCell'=true:=fun j g=>by
   have E:j / k<xs.length:=Nat.div_lt_of_lt_mul (by rw[Nat.mul_comm];exact g);obtain⟨u,d,v⟩:=K.ones (B (j / k) _ (Ez E)) (j%k) (Nat.mod_lt _ K.pos);rw[Nat.add_assoc,Nat.mul_comm,Nat.div_add_mod]at d;exact⟨u,d,v⟩
  have l:∀j,j<xs.length*k→((List.range (xs.length*k)).map fun j=>(w.cell? ⟨b,off+j,none⟩).getD undef)[j]?=w.cell? ⟨b,off+j,none⟩:=fun j g=>by
   obtain⟨u,d,_⟩:=p j g;rw[List.getElem?_map,List.getElem?_range g];simp[d]
  refine⟨(List.range (xs.length*k)).map fun j=>(w.cell? ⟨b,off+j,none⟩).getD undef,⟨ξ,fun i x hx=>⟨b,off+i*k,C,B i x hx,fun j g=>?_⟩⟩,fun u d=>?_,fun _=>⟨b,off,rfl,fun j u d=>?_⟩⟩
  ·have y:=(List.getElem?_eq_some_iff.1 hx).1
   have q:i*k+j<xs.length*k:=Nat.lt_of_lt_of_le (Nat.add_lt_add_left g _) (by rw[←Nat.succ_mul];exact Nat.mul_le_mul_right _ y);rw[l _ q,Nat.add_assoc]
  ·obtain⟨j,g,rfl⟩:=List.mem_map.1 d
   obtain⟨u,d,v⟩:=p j (List.mem_range.1 g);rw[d];exact v
  ·have g:=(List.getElem?_eq_some_iff.1 d).1
   simp only[List.length_map,List.length_range]at g;rw[l j g]at d;exact d
theorem md{P:Program}(w:World)(t ty e:TypeId)(i:TypeInfo)(g:P.underlying t=some (.slice e))(d:P.info? e=some i)(c:Nat):(Builtin.append_ #[t,t] ty #[.slice none 0 0,.slice none 0 c]).run P w=.ok (.slice none 0 0) w:=by
 simp[Builtin.append_,run_underlying g,sizeOf,typeInfo,d,Builtin.lenOf,Builtin.firstCells,loadCells,loadCellsFrom]
theorem bG{α:Type}{N:TypeId→Prop}{RF:cH→World→Nat→Nat→α→Prop}(K:fw T k N RF){P:Program}{I:Array Oper}{rest:List Oper}{o:Oper}{a:Act}{Q:Exit→Act→World→Prop}{w:World}{s x:Operand}{t:TypeId}
 (X:P.underlying t=some (.slice T)){z:Value}{d:Nat}(y:(P.info? T).map (fun i=>(i.zero,i.size,i.bytes))=some (some z,k,d))(H:z.cells.size=k)(S:d≤4096)
 (p:o.guard=none)(V:o.op=.call { callee := .builtin .append,args := #[s,x],argTypes := #[t,t] })
 {D0:Nat→Prop}{D:cH}{xs:List α}{v:Value}(hv:aN D0 k (RF D) w v xs)(W:a.eval s=.slice none 0 0)(hx:a.eval x=v)
 (h:∀q w' cs,gX D0 k (RF D) w xs cs→(∀u∈cs,u.oneCell'=true)→w'.ownsRow w.heap.size T k q xs.length cs→Kz w w'→wpList P I Q rest (a.put o.dst q) w'):wpList P I Q (o::rest) a w:=by
 obtain⟨A,c,rfl,hc,Z,hl⟩:=hv;obtain⟨cs,g,Y,R⟩:=B1 K hl;obtain⟨i,U,B,C,E⟩:=info_parts y;unfold top at Z
 rcases Nat.eq_zero_or_pos xs.length with J|J
 ·obtain rfl:cs=[]:=List.eq_nil_of_length_eq_zero (by rw[g.1,J];simp)
  rw[J]at hx h
  cases A with
  | none =>
   refine wpList_plain p fun K' hK=>?_
   unfold Oper.wp execOp;have hr:=md (P:=P) w t o.type T i X U c;simp only[V,resolve,invoke,builtin,Sem.run_bind,Sem.run_pure,Result.andThen_ok,List.map_toArray,List.map_cons,List.map_nil,W,hx,hr];exact hK _ _ (h _ _ [] g ξ (World.ownsRow_nil _ _ _ _) (aD.refl _ _))
  | some ad =>
   refine wpList_append_own_at w p s x t V w.heap.size T i z k d X U B C E H K.pos (.slice none 0 0) 0 [] W (World.ownsRow_nil _ _ _ _) ad 0 c [] hx ξ ξ ξ (by unfold maxLen;omega) χ (Nat.le_refl _) fun q w' L O _ _=>?_
   exact h q w' [] g ξ (by simpa using L) (aD.of_grown O (fun k e=>by cases e))
 ·obtain⟨b,off,rfl,l⟩:=R J
  have r:∀j,(⟨b,off,none⟩:Addr).add j=⟨b,off+j,none⟩:=fun j=>by unfold Addr.add;split<;>simp_all
  refine wpList_append_own_at w p s x t V w.heap.size T i z k d X U B C E H K.pos (.slice none 0 0) 0 [] W (World.ownsRow_nil _ _ _ _) ⟨b,off,none⟩ xs.length c cs hx g.1 (fun j u hu=>by rw[r];exact l j u hu) Y (by unfold maxLen;omega)
   (by rw[Nat.zero_add];exact Nat.le_trans (Nat.mul_le_mul Z S) ψ) (Nat.le_refl _) fun q w' L O _ _=>?_
  rw[Nat.zero_add,List.nil_append]at L;exact h q w' cs g Y L (aD.of_grown O (fun k e=>by cases e))
def over:List Value→Nat→List Value→List Value
 | xs,_,[]=>xs
 | xs,o,v::t=>over (xs.set o v) (o+1) t
theorem yV{p i q:Nat}(l:q<k)(h:p≠i):¬ (i*k≤p*k+q∧p*k+q<i*k+k):=by
 rintro⟨g,j⟩
 rcases Nat.lt_or_gt_of_ne h with d|d
 ·have:p*k+k≤i*k:=by rw[←Nat.succ_mul];exact Nat.mul_le_mul_right _ d
  omega
 ·have:i*k+k≤p*k:=by rw[←Nat.succ_mul];exact Nat.mul_le_mul_right _ d
  omega
theorem Tryz.info41C:(Tryz.prog.info? 41).map (fun i=>(i.zero,i.size,i.bytes))=some (some (.agg #[.int .i64 0,.int .u64 0,.int .u64 0]),3,24):=δ
theorem BF{D:cH}{xs:List Ck.Ram}(hv:aN D0 3 (iO) w v xs):Calls Tryz.prog 35 #[v] w fun e w'=>∃d cs,e=.returned d∧gX D0 3 (iO) w xs cs∧w'.ownsRow w.heap.size 41 3 d xs.length cs∧Kz w w':=by
 go_enter Tryz.func35,Tryz.ntmps35
 go_wp2_with (refine bG (RF:=(fun _=>iO)) (D:=D) iC Tryz.underlying23 Tryz.info41C rfl ψ rfl rfl hv rfl rfl ?_;intro d w' cs g l h j)
 go_ret
 exact⟨d,cs,rfl,g,h,j⟩
theorem Tryz.info45C:(Tryz.prog.info? 45).map (fun i=>(i.zero,i.size,i.bytes))=some (some (.agg #[.int .i64 0,.string { data := #[] },.int .u64 0,.int .u64 0,.slice none 0 0]),5,64):=δ
theorem BD{D:cH}{xs:List Ck.bA}(hv:aN D0 5 (dw D) w v xs):Calls Tryz.prog 36 #[v] w fun e w'=>∃d cs,e=.returned d∧gX D0 5 (dw D) w xs cs∧w'.ownsRow w.heap.size 45 5 d xs.length cs∧Kz w w':=by
 go_enter Tryz.func36,Tryz.ntmps36
 go_wp2_with (refine bG (RF:=dw) (D:=D) bv Tryz.underlying24 Tryz.info45C rfl ψ rfl rfl hv rfl rfl ?_;intro d w' cs g l h j)
 go_ret
 exact⟨d,cs,rfl,g,h,j⟩
theorem Tryz.info48C:(Tryz.prog.info? 48).map (fun i=>(i.zero,i.size,i.bytes))=some (some (.agg #[.int .i64 0,.string { data := #[] },.int .u64 0,.bool false,.int .u64 0,.bool false,.bool false,.int .u64 0,.bool false,.string { data := #[] }]),10,88):=δ
theorem BC{D:cH}{xs:List Ck.Region}(hv:aN D0 10 (dH) w v xs):Calls Tryz.prog 37 #[v] w fun e w'=>∃d cs,e=.returned d∧gX D0 10 (dH) w xs cs∧w'.ownsRow w.heap.size 48 10 d xs.length cs∧Kz w w':=by
 go_enter Tryz.func37,Tryz.ntmps37
 go_wp2_with (refine bG (RF:=(fun _=>dH)) (D:=D) eE Tryz.underlying25 Tryz.info48C rfl ψ rfl rfl hv rfl rfl ?_;intro d w' cs g l h j)
 go_ret
 exact⟨d,cs,rfl,g,h,j⟩
theorem Tryz.info52C:(Tryz.prog.info? 52).map (fun i=>(i.zero,i.size,i.bytes))=some (some (.agg #[.int .i64 0,.string { data := #[] },.int .u64 0,.bool false,.slice none 0 0,.slice none 0 0]),6,88):=δ
theorem BB{D:cH}{xs:List Ck.aj}(hv:aN D0 6 (dG D) w v xs):Calls Tryz.prog 38 #[v] w fun e w'=>∃d cs,e=.returned d∧gX D0 6 (dG D) w xs cs∧w'.ownsRow w.heap.size 52 6 d xs.length cs∧Kz w w':=by
 go_enter Tryz.func38,Tryz.ntmps38
 go_wp2_with (refine bG (RF:=dG) (D:=D) bI Tryz.underlying26 Tryz.info52C rfl ψ rfl rfl hv rfl rfl ?_;intro d w' cs g l h j)
 go_ret
 exact⟨d,cs,rfl,g,h,j⟩
theorem Tryz.info55C:(Tryz.prog.info? 55).map (fun i=>(i.zero,i.size,i.bytes))=some (some (.agg #[.int .i64 0,.string { data := #[] },.string { data := #[] },.string { data := #[] },.bool false,.string { data := #[] },.int .i64 0,.int .u64 0]),8,96):=δ
theorem BA{D:cH}{xs:List Ck.au}(hv:aN D0 8 (cj) w v xs):Calls Tryz.prog 39 #[v] w fun e w'=>∃d cs,e=.returned d∧gX D0 8 (cj) w xs cs∧w'.ownsRow w.heap.size 55 8 d xs.length cs∧Kz w w':=by
 go_enter Tryz.func39,Tryz.ntmps39
 go_wp2_with (refine bG (RF:=(fun _=>cj)) (D:=D) dh Tryz.underlying27 Tryz.info55C rfl ψ rfl rfl hv rfl rfl ?_;intro d w' cs g l h j)
 go_ret
 exact⟨d,cs,rfl,g,h,j⟩
theorem Tryz.info58C:(Tryz.prog.info? 58).map (fun i=>(i.zero,i.size,i.bytes))=some (some (.agg #[.int .i64 0,.string { data := #[] },.string { data := #[] },.string { data := #[] },.int .u64 0,.bool false]),6,72):=δ
theorem B9{D:cH}{xs:List Ck.Irq}(hv:aN D0 6 (iR) w v xs):Calls Tryz.prog 40 #[v] w fun e w'=>∃d cs,e=.returned d∧gX D0 6 (iR) w xs cs∧w'.ownsRow w.heap.size 58 6 d xs.length cs∧Kz w w':=by
 go_enter Tryz.func40,Tryz.ntmps40
 go_wp2_with (refine bG (RF:=(fun _=>iR)) (D:=D) iH Tryz.underlying28 Tryz.info58C rfl ψ rfl rfl hv rfl rfl ?_;intro d w' cs g l h j)
 go_ret
 exact⟨d,cs,rfl,g,h,j⟩
theorem Tryz.info62C:(Tryz.prog.info? 62).map (fun i=>(i.zero,i.size,i.bytes))=some (some (.agg #[.int .i64 0,.string { data := #[] },.int .u64 0,.slice none 0 0]),4,56):=δ
theorem B8{D:cH}{xs:List Ck.eX}(hv:aN D0 4 (i4 D) w v xs):Calls Tryz.prog 41 #[v] w fun e w'=>∃d cs,e=.returned d∧gX D0 4 (i4 D) w xs cs∧w'.ownsRow w.heap.size 62 4 d xs.length cs∧Kz w w':=by
 go_enter Tryz.func41,Tryz.ntmps41
 go_wp2_with (refine bG (RF:=i4) (D:=D) cE Tryz.underlying30 Tryz.info62C rfl ψ rfl rfl hv rfl rfl ?_;intro d w' cs g l h j)
 go_ret
 exact⟨d,cs,rfl,g,h,j⟩
theorem Tryz.info78C:(Tryz.prog.info? 78).map (fun i=>(i.zero,i.size,i.bytes))=some (some (.agg #[.int .i64 0,.string { data := #[] }]),2,24):=δ
theorem qw{D:cH}{xs:List Ck.fY}(hv:aN D0 2 (cN) w v xs):Calls Tryz.prog 42 #[v] w fun e w'=>∃d cs,e=.returned d∧gX D0 2 (cN) w xs cs∧w'.ownsRow w.heap.size 78 2 d xs.length cs∧Kz w w':=by
 go_enter Tryz.func42,Tryz.ntmps42
 go_wp2_with (refine bG (RF:=(fun _=>cN)) (D:=D) cM Tryz.underlying31 Tryz.info78C rfl ψ rfl rfl hv rfl rfl ?_;intro d w' cs g l h j)
 go_ret
 exact⟨d,cs,rfl,g,h,j⟩
theorem Tryz.info65C:(Tryz.prog.info? 65).map (fun i=>(i.zero,i.size,i.bytes))=some (some (.agg #[.int .i64 0,.string { data := #[] },.string { data := #[] },.string { data := #[] },.int .i64 0,.int .u64 0]),6,72):=δ
theorem B7{D:cH}{xs:List Ck.eH}(hv:aN D0 6 (dj) w v xs):Calls Tryz.prog 43 #[v] w fun e w'=>∃d cs,e=.returned d∧gX D0 6 (dj) w xs cs∧w'.ownsRow w.heap.size 65 6 d xs.length cs∧Kz w w':=by
 go_enter Tryz.func43,Tryz.ntmps43
 go_wp2_with (refine bG (RF:=(fun _=>dj)) (D:=D) ej Tryz.underlying29 Tryz.info65C rfl ψ rfl rfl hv rfl rfl ?_;intro d w' cs g l h j)
 go_ret
 exact⟨d,cs,rfl,g,h,j⟩
theorem Tryz.info68C:(Tryz.prog.info? 68).map (fun i=>(i.zero,i.size,i.bytes))=some (some (.agg #[.int .i64 0,.string { data := #[] },.string { data := #[] }]),3,40):=δ
theorem B6{D:cH}{xs:List Ck.Ban}(hv:aN D0 3 (iT) w v xs):Calls Tryz.prog 44 #[v] w fun e w'=>∃d cs,e=.returned d∧gX D0 3 (iT) w xs cs∧w'.ownsRow w.heap.size 68 3 d xs.length cs∧Kz w w':=by
 go_enter Tryz.func44,Tryz.ntmps44
 go_wp2_with (refine bG (RF:=(fun _=>iT)) (D:=D) iK Tryz.underlying32 Tryz.info68C rfl ψ rfl rfl hv rfl rfl ?_;intro d w' cs g l h j)
 go_ret
 exact⟨d,cs,rfl,g,h,j⟩
theorem Tryz.info71C:(Tryz.prog.info? 71).map (fun i=>(i.zero,i.size,i.bytes))=some (some (.agg #[.int .i64 0,.string { data := #[] },.int .u64 0,.bool false,.bool false]),5,40):=δ
theorem vK{D:cH}{xs:List Ck.Map}(hv:aN D0 5 (cU) w v xs):Calls Tryz.prog 45 #[v] w fun e w'=>∃d cs,e=.returned d∧gX D0 5 (cU) w xs cs∧w'.ownsRow w.heap.size 71 5 d xs.length cs∧Kz w w':=by
 go_enter Tryz.func45,Tryz.ntmps45
 go_wp2_with (refine bG (RF:=(fun _=>cU)) (D:=D) o8 Tryz.underlying43 Tryz.info71C rfl ψ rfl rfl hv rfl rfl ?_;intro d w' cs g l h j)
 go_ret
 exact⟨d,cs,rfl,g,h,j⟩
theorem Tryz.info85C:(Tryz.prog.info? 85).map (fun i=>(i.zero,i.size,i.bytes))=some (some (.agg #[.int .i64 0,.int .i64 0,.string { data := #[] },.int .u64 0]),4,40):=δ
theorem B5{D:cH}{xs:List Ck.jq}(hv:aN D0 4 (eW) w v xs):Calls Tryz.prog 46 #[v] w fun e w'=>∃d cs,e=.returned d∧gX D0 4 (eW) w xs cs∧w'.ownsRow w.heap.size 85 4 d xs.length cs∧Kz w w':=by
 go_enter Tryz.func46,Tryz.ntmps46
 go_wp2_with (refine bG (RF:=(fun _=>eW)) (D:=D) pr Tryz.underlying50 Tryz.info85C rfl ψ rfl rfl hv rfl rfl ?_;intro d w' cs g l h j)
 go_ret
 exact⟨d,cs,rfl,g,h,j⟩
theorem Tryz.info92C:(Tryz.prog.info? 92).map (fun i=>(i.zero,i.size,i.bytes))=some (some (.agg #[.int .i64 0,.int .u64 0,.bool false,.slice none 0 0]),4,48):=δ
theorem B4{D:cH}{xs:List Ck.cW}(hv:aN D0 4 (i6 D) w v xs):Calls Tryz.prog 47 #[v] w fun e w'=>∃d cs,e=.returned d∧gX D0 4 (i6 D) w xs cs∧w'.ownsRow w.heap.size 92 4 d xs.length cs∧Kz w w':=by
 go_enter Tryz.func47,Tryz.ntmps47
 go_wp2_with (refine bG (RF:=i6) (D:=D) fD Tryz.underlying60 Tryz.info92C rfl ψ rfl rfl hv rfl rfl ?_;intro d w' cs g l h j)
 go_ret
 exact⟨d,cs,rfl,g,h,j⟩
theorem Tryz.info108C:(Tryz.prog.info? 108).map (fun i=>(i.zero,i.size,i.bytes))=some (some (.agg #[.int .i64 0,.string { data := #[] },.int .u64 0,.int .u64 0]),4,40):=δ
theorem B3{D:cH}{xs:List Run}(hv:aN D0 4 (ec) w v xs):Calls Tryz.prog 48 #[v] w fun e w'=>∃d cs,e=.returned d∧gX D0 4 (ec) w xs cs∧w'.ownsRow w.heap.size 108 4 d xs.length cs∧Kz w w':=by
 go_enter Tryz.func48,Tryz.ntmps48
 go_wp2_with (refine bG (RF:=(fun _=>ec)) (D:=D) rS Tryz.underlying90 Tryz.info108C rfl ψ rfl rfl hv rfl rfl ?_;intro d w' cs g l h j)
 go_ret
 exact⟨d,cs,rfl,g,h,j⟩
def Dm(n0:Nat)(w:World):cH:=fun e b=>b<w.heap.size∧(b<n0∨cD w b=some e)
def Dx(n0:Nat)(w:World)(v:Value):cH:=fun e b=>Dm n0 w e b∧v.ownBlock≠some b
theorem xf(w:World)(p:Addr)(u:Value)(k:Nat):cD (w.setCell p u) k=cD w k:=by
 unfold cD
 by_cases h:k=p.block
 ·subst h
  simp[World.setCell,Array.getElem?_modify]
  cases hb:w.heap[p.block]? with
  | none=>simp
  | some ob=>cases ob<;>simp
 ·rw[Below.heap_setCell w p u k h]
theorem Dm.keep(hk:Kz w w'){e:TypeId}{b:Nat}(h:Dm n0 w e b):Dm n0 w' e b:=
 ⟨Nat.lt_of_lt_of_le h.1 hk.size,h.2.imp id fun d=>(lP hk h.1 (fun x=>x)).trans d⟩
theorem Dm.set_{p:Addr}(h:Dm n0 w e b):Dm n0 (w.setCell p u) e b:=
 ⟨by simpa[World.setCell]using h.1,h.2.imp id fun d=>(xf w p u b).trans d⟩
theorem Dm.ne(h:Dm n0 w e b)(p:n0≤g)(l:cD w g=some T)(j:e≠T):b≠g:=by
 rintro rfl
 rcases h.2 with d|d
 ·omega
 ·rw[l]at d;exact j (Option.some.inj d).symm
theorem Dx.keep(hk:Kz w w'){e:TypeId}{b:Nat}(h:Dx n0 w v e b):Dx n0 w' v e b:=⟨h.1.keep hk,h.2⟩
theorem Dx.set_{p:Addr}(h:Dx n0 w v e b):Dx n0 (w.setCell p u) v e b:=⟨h.1.set_,h.2⟩
theorem dc(hk:Kz w w')(e:TypeId):ah (Dm n0 w e) w w':=ah.of_keep hk fun b d=>⟨d.1,fun x=>x⟩
theorem gL(hk:Kz w w')(e:TypeId):ah (Dx n0 w v e) w w':=ah.of_keep hk fun b d=>⟨d.1.1,fun x=>x⟩
theorem dP(w:World)(g o:Nat)(u:Value):aD (fun k=>k=g) w (w.setCell ⟨g,o,none⟩ u):=(aD.refl (fun k=>k=g) w).setCell (p:=⟨g,o,none⟩) (fun _=>rfl) u
theorem aZ(j:n0≤g)(l:cD w g=some T)(e:TypeId)(d:e≠T):ah (Dm n0 w e) w (w.setCell ⟨g,o,none⟩ u):=
 ah.of_keep (dP w g o u) fun b h=>⟨h.1,h.ne j l d⟩
theorem vo(j:v.ownBlock=some g)(e:TypeId):ah (Dx n0 w v e) w (w.setCell ⟨g,o,none⟩ u):=
 ah.of_keep (dP w g o u) fun b d=>⟨d.1.1,fun h=>d.2 (by rw[j,h])⟩
theorem lG{α:Type}{N:TypeId→Prop}{RF:cH→World→Nat→Nat→α→Prop}(K:fw T k N RF){D0 D0':Nat→Prop}{D D':cH}{w:World}{g c i f:Nat}{u:Value}{xs:List α}{x:α}
 (h:aN D0 k (RF D) w (.slice (some ⟨g,0,none⟩) xs.length c) xs)(hx:xs[i]?=some x)(S:f<k)(d:RF D' (w.setCell ⟨g,i*k+f,none⟩ u) g (i*k) x)(p:∀b,D0 b→D0' b)(B:∀T',N T'→∀b,D T' b→D' T' b)
 (I:∀T',N T'→∀b,D T' b→b<w.heap.size∧b≠g):aN D0' k (RF D') (w.setCell ⟨g,i*k+f,none⟩ u) (.slice (some ⟨g,0,none⟩) xs.length c) xs:=by
 obtain⟨A,v,e,H,O,L⟩:=h;obtain⟨rfl,rfl⟩:some ⟨g,0,none⟩=A∧c=v:=by simpa using e
 refine⟨_,_,rfl,H,O,fun y=>?_⟩;obtain⟨b,off,e,E,Q⟩:=L y;obtain⟨rfl,rfl⟩:g=b∧0=off:=by simpa using e
 refine⟨g,0,rfl,p _ E,fun q r l=>?_⟩
 by_cases hi:q=i
 ·subst hi
  obtain rfl:x=r:=Option.some.inj (hx.symm.trans l);rw[Nat.zero_add];exact d
 ·refine K.moves (Q q r l) (fun j J=>?_) B (fun T' C=>ah.of_keep (dP w g _ u) (I T' C))
  rw[Nat.zero_add];exact World.cell?_setCell_other _ _ _ _ (by
   intro e;have R:i*k+f=q*k+j:=by simpa using e
   have:=yV J hi;omega)
structure uU (n0:Nat) (w:World) (v:aR) (P:aC):Prop where
 QG:∃cs,w.ownsRow n0 41 3 v.QG P.QG.length cs
 Q4:∃cs,w.ownsRow n0 45 5 v.Q4 P.Q4.length cs
 Q5:∃cs,w.ownsRow n0 48 10 v.Q5 P.Q5.length cs
 Q3:∃cs,w.ownsRow n0 52 6 v.Q3 P.Q3.length cs
 Q8:∃cs,w.ownsRow n0 55 8 v.Q8 P.Q8.length cs
 QJ:∃cs,w.ownsRow n0 58 6 v.QJ P.QJ.length cs
 QC:∃cs,w.ownsRow n0 65 6 v.QC P.QC.length cs
 Q9:∃cs,w.ownsRow n0 62 4 v.Q9 P.Q9.length cs
 QB:∃cs,w.ownsRow n0 78 2 v.QB P.QB.length cs
 QE:∃cs,w.ownsRow n0 78 2 v.QE P.QE.length cs
 QA:∃cs,w.ownsRow n0 78 2 v.QA P.QA.length cs
 QD:∃cs,w.ownsRow n0 68 3 v.QD P.QD.length cs
theorem uU.keep{v:aR}{P:aC}(h:uU n0 w v P)(hk:Kz w w'):uU n0 w' v P:=
 ⟨let⟨cs,h⟩:=h.QG;⟨cs,aV h hk (fun _ _ x=>x)⟩,let⟨cs,h⟩:=h.Q4;⟨cs,aV h hk (fun _ _ x=>x)⟩,let⟨cs,h⟩:=h.Q5;⟨cs,aV h hk (fun _ _ x=>x)⟩,let⟨cs,h⟩:=h.Q3;⟨cs,aV h hk (fun _ _ x=>x)⟩,let⟨cs,h⟩:=h.Q8;⟨cs,aV h hk (fun _ _ x=>x)⟩,let⟨cs,h⟩:=h.QJ;⟨cs,aV h hk (fun _ _ x=>x)⟩,let⟨cs,h⟩:=h.QC;⟨cs,aV h hk (fun _ _ x=>x)⟩,let⟨cs,h⟩:=h.Q9;⟨cs,aV h hk (fun _ _ x=>x)⟩,let⟨cs,h⟩:=h.QB;⟨cs,aV h hk (fun _ _ x=>x)⟩,let⟨cs,h⟩:=h.QE;⟨cs,aV h hk (fun _ _ x=>x)⟩,let⟨cs,h⟩:=h.QA;⟨cs,aV h hk (fun _ _ x=>x)⟩,let⟨cs,h⟩:=h.QD;⟨cs,aV h hk (fun _ _ x=>x)⟩⟩
theorem aT{T':TypeId}(h:w.ownsRow n0 T k v n cs)(l:cD w g=some T')(j:T≠T'):(w.setCell ⟨g,o,none⟩ u).ownsRow n0 T k v n cs:=
 aV h (dP w g o u) fun p d e=>by
  subst e;have:=(aO h d).2.2;rw[l]at this;exact j (Option.some.inj this).symm
theorem eP{c:Nat}(h:∃cs,w.ownsRow n0 T k (.slice (some ⟨g,0,none⟩) n c) n cs):∃cs,(w.setCell ⟨g,o,none⟩ u).ownsRow n0 T k (.slice (some ⟨g,0,none⟩) n c) n cs:=
 let⟨_,h⟩:=h;⟨_,(h.stored o u).1⟩
structure Cop (R:Nat→Array Value→Prop) (n0:Nat) (w0:World) (zq:Nat) (v:aR) (P:aC) (w:World):Prop where
 keep:Kz w0 w
 size:n0=w0.heap.size
 cell:w.heap[zq]?=some (.cells (v.cells P).toArray 34 (0,0))
 zq:n0≤zq
 res:∀z c,R z c→w.heap[z]?=some (.cells c 34 (0,0))
 QP:fb (Dm n0 w) w v P
 QQ:uU n0 w v P
theorem Cop.step{R:Nat→Array Value→Prop}{v:aR}{P:aC}(h:Cop R n0 w0 zq v P w)(hk:Kz w w'):Cop R n0 w0 zq v P w':=
 ⟨h.keep.trans hk (fun _ _ h=>h),h.size,(hk.block zq (aG h.cell) (fun x=>x)).trans h.cell,h.zq,fun z c d=>(hk.block z (aG (h.res z c d)) (fun x=>x)).trans (h.res z c d),h.QP.same (fun T b g=>g.keep hk) (fun T=>dc hk T),h.QQ.keep hk⟩
theorem Cop.ty{R:Nat→Array Value→Prop}{v:aR}{P:aC}(h:Cop R n0 w0 zq v P w):cD w zq=some 34:=by unfold cD;rw[h.cell]
theorem Cop.keep_set{R:Nat→Array Value→Prop}{v:aR}{P:aC}(h:Cop R n0 w0 zq v P w){g:Nat}(d:n0≤g)(o:Nat)(u:Value):Kz w0 (w.setCell ⟨g,o,none⟩ u):=
 h.keep.trans (dP w g o u) fun i j e=>by have:=h.size;omega
theorem Cop.cell_set{R:Nat→Array Value→Prop}{v:aR}{P:aC}(h:Cop R n0 w0 zq v P w){g:Nat}{T:TypeId}(d:cD w g=some T)(j:T≠34)(o:Nat)(u:Value):(w.setCell ⟨g,o,none⟩ u).heap[zq]?=some (.cells (v.cells P).toArray 34 (0,0)):=
 ((dP w g o u).block zq (aG h.cell) fun e=>by rw[←e,h.ty]at d;exact j (Option.some.inj d).symm).trans h.cell
theorem Cop.res_set{R:Nat→Array Value→Prop}{v:aR}{P:aC}(h:Cop R n0 w0 zq v P w){g:Nat}{T:TypeId}(j:cD w g=some T)(p:T≠34)(o:Nat)(u:Value):∀z c,R z c→(w.setCell ⟨g,o,none⟩ u).heap[z]?=some (.cells c 34 (0,0)):=by
 intro z c d;have l:cD w z=some 34:=by unfold cD;rw[h.res z c d]
 refine((dP w g o u).block z (aG (h.res z c d)) fun e=>?_).trans (h.res z c d);rw[←e,l]at j;exact p (Option.some.inj j).symm
theorem Cop.put_device{R:Nat→Array Value→Prop}{v:aR}{P:aC}(h:Cop R n0 w0 zq v P w){g c i:Nat}{u:Value}(hv:v.Q4=.slice (some ⟨g,0,none⟩) P.Q4.length c){x:Ck.bA}(hx:P.Q4[i]?=some x)
 (O:aN (Dm n0 w 71) 5 cU w u x.QF):Cop R n0 w0 zq v P (w.setCell ⟨g,i*5+4,none⟩ u):=by
 obtain⟨C,D⟩:=h.QQ.Q4;obtain⟨q,J,p⟩:=aO D (g:=g) (by rw[hv];rfl);have E:aN (Dm n0 w 45) 5 (dw (Dm n0 w)) w (.slice (some ⟨g,0,none⟩) P.Q4.length c) P.Q4:=by rw[←hv];exact h.QP.Q4
 have K:=(List.getElem?_eq_some_iff.1 hx).1;refine⟨h.keep_set q _ _,h.size,h.cell_set p ψ _ _,h.zq,h.res_set p ψ _ _,⟨aH h.QP.QG (fun b d=>d.set_) (aZ q p _ ψ),?_,aH h.QP.Q5 (fun b d=>d.set_) (aZ q p _ ψ),bI.same h.QP.Q3 (fun b d=>d.set_) (aZ q p _ ψ) (fun T' _ b d=>d.set_) (fun T' B=>aZ q p _ (by rintro rfl;simp at B)),aH h.QP.Q8 (fun b d=>d.set_) (aZ q p _ ψ),aH h.QP.QJ (fun b d=>d.set_) (aZ q p _ ψ),aH h.QP.QC (fun b d=>d.set_) (aZ q p _ ψ),cE.same h.QP.Q9 (fun b d=>d.set_) (aZ q p _ ψ) (fun T' _ b d=>d.set_) (fun T' B=>aZ q p _ (by rintro rfl;simp at B)),aH h.QP.QB (fun b d=>d.set_) (aZ q p _ ψ),aH h.QP.QE (fun b d=>d.set_) (aZ q p _ ψ),aH h.QP.QA (fun b d=>d.set_) (aZ q p _ ψ),aH h.QP.QD (fun b d=>d.set_) (aZ q p _ ψ),h.QP.pos,h.QP.name⟩,⟨let⟨cs,l⟩:=h.QQ.QG;⟨cs,aT l p ψ⟩,?_,let⟨cs,l⟩:=h.QQ.Q5;⟨cs,aT l p ψ⟩,let⟨cs,l⟩:=h.QQ.Q3;⟨cs,aT l p ψ⟩,let⟨cs,l⟩:=h.QQ.Q8;⟨cs,aT l p ψ⟩,let⟨cs,l⟩:=h.QQ.QJ;⟨cs,aT l p ψ⟩,let⟨cs,l⟩:=h.QQ.QC;⟨cs,aT l p ψ⟩,let⟨cs,l⟩:=h.QQ.Q9;⟨cs,aT l p ψ⟩,let⟨cs,l⟩:=h.QQ.QB;⟨cs,aT l p ψ⟩,let⟨cs,l⟩:=h.QQ.QE;⟨cs,aT l p ψ⟩,let⟨cs,l⟩:=h.QQ.QA;⟨cs,aT l p ψ⟩,let⟨cs,l⟩:=h.QQ.QD;⟨cs,aT l p ψ⟩⟩⟩
 ·rw[hv]
  refine lG bv E hx ψ ?_ (fun b d=>d.set_) (fun T' _ b d=>d.set_) (fun T' B b d=>⟨d.1,d.ne q p (by rintro rfl;simp at B)⟩);obtain⟨A,H,e,_,_,L⟩:=E;obtain⟨rfl,rfl⟩:some ⟨g,0,none⟩=A∧c=H:=by simpa using e
  obtain⟨b,off,e,_,N⟩:=L χ;obtain⟨rfl,rfl⟩:g=b∧0=off:=by simpa using e
  obtain⟨Q,l,_,I⟩:=N i x hx;rw[Nat.zero_add]at l;refine⟨u,fun j y r=>?_,aH O (fun b d=>d.set_) (aZ q p _ ψ),I⟩
  rcases(by have:=(List.getElem?_eq_some_iff.1 r).1;simp at this;omega:j=0∨j=1∨j=2∨j=3∨j=4)with rfl|rfl|rfl|rfl|rfl
  ·exact(World.cell?_setCell_other _ _ _ _ ξ).trans (l 0 _ r)
  ·exact(World.cell?_setCell_other _ _ _ _ ξ).trans (l 1 _ r)
  ·exact(World.cell?_setCell_other _ _ _ _ ξ).trans (l 2 _ r)
  ·exact(World.cell?_setCell_other _ _ _ _ ξ).trans (l 3 _ r)
  ·obtain rfl:u=y:=by simpa using r
   exact World.cell?_setCell_same _ _ _ (l 4 _ rfl)
 ·rw[hv]at D⊢
  exact eP ⟨C,D⟩
theorem Cop.put_subjmaps{R:Nat→Array Value→Prop}{v:aR}{P:aC}(h:Cop R n0 w0 zq v P w){g c i:Nat}{u:Value}(hv:v.Q3=.slice (some ⟨g,0,none⟩) P.Q3.length c){x:aj}(hx:P.Q3[i]?=some x)
 (Q:aN (Dm n0 w 71) 5 cU w u x.QF):Cop R n0 w0 zq v P (w.setCell ⟨g,i*6+4,none⟩ u):=by
 obtain⟨C,D⟩:=h.QQ.Q3;obtain⟨q,K,p⟩:=aO D (g:=g) (by rw[hv];rfl);have H:aN (Dm n0 w 52) 6 (dG (Dm n0 w)) w (.slice (some ⟨g,0,none⟩) P.Q3.length c) P.Q3:=by rw[←hv];exact h.QP.Q3
 have L:=(List.getElem?_eq_some_iff.1 hx).1;refine⟨h.keep_set q _ _,h.size,h.cell_set p ψ _ _,h.zq,h.res_set p ψ _ _,⟨aH h.QP.QG (fun b d=>d.set_) (aZ q p _ ψ),bv.same h.QP.Q4 (fun b d=>d.set_) (aZ q p _ ψ) (fun T' _ b d=>d.set_) (fun T' B=>aZ q p _ (by rintro rfl;simp at B)),aH h.QP.Q5 (fun b d=>d.set_) (aZ q p _ ψ),?_,aH h.QP.Q8 (fun b d=>d.set_) (aZ q p _ ψ),aH h.QP.QJ (fun b d=>d.set_) (aZ q p _ ψ),aH h.QP.QC (fun b d=>d.set_) (aZ q p _ ψ),cE.same h.QP.Q9 (fun b d=>d.set_) (aZ q p _ ψ) (fun T' _ b d=>d.set_) (fun T' B=>aZ q p _ (by rintro rfl;simp at B)),aH h.QP.QB (fun b d=>d.set_) (aZ q p _ ψ),aH h.QP.QE (fun b d=>d.set_) (aZ q p _ ψ),aH h.QP.QA (fun b d=>d.set_) (aZ q p _ ψ),aH h.QP.QD (fun b d=>d.set_) (aZ q p _ ψ),h.QP.pos,h.QP.name⟩,⟨let⟨cs,l⟩:=h.QQ.QG;⟨cs,aT l p ψ⟩,let⟨cs,l⟩:=h.QQ.Q4;⟨cs,aT l p ψ⟩,let⟨cs,l⟩:=h.QQ.Q5;⟨cs,aT l p ψ⟩,?_,let⟨cs,l⟩:=h.QQ.Q8;⟨cs,aT l p ψ⟩,let⟨cs,l⟩:=h.QQ.QJ;⟨cs,aT l p ψ⟩,let⟨cs,l⟩:=h.QQ.QC;⟨cs,aT l p ψ⟩,let⟨cs,l⟩:=h.QQ.Q9;⟨cs,aT l p ψ⟩,let⟨cs,l⟩:=h.QQ.QB;⟨cs,aT l p ψ⟩,let⟨cs,l⟩:=h.QQ.QE;⟨cs,aT l p ψ⟩,let⟨cs,l⟩:=h.QQ.QA;⟨cs,aT l p ψ⟩,let⟨cs,l⟩:=h.QQ.QD;⟨cs,aT l p ψ⟩⟩⟩
 ·rw[hv]
  refine lG bI H hx ψ ?_ (fun b d=>d.set_) (fun T' _ b d=>d.set_) (fun T' B b d=>⟨d.1,d.ne q p (by rintro rfl;simp at B)⟩);obtain⟨A,I,e,_,_,N⟩:=H;obtain⟨rfl,rfl⟩:some ⟨g,0,none⟩=A∧c=I:=by simpa using e
  obtain⟨b,off,e,_,O⟩:=N χ;obtain⟨rfl,rfl⟩:g=b∧0=off:=by simpa using e
  obtain⟨V,S,l,U,E,J⟩:=O i x hx;rw[Nat.zero_add]at l;refine⟨u,S,fun j y r=>?_,aH Q (fun b d=>d.set_) (aZ q p _ ψ),aH E (fun b d=>d.set_) (aZ q p _ ψ),J⟩
  rcases(by have:=(List.getElem?_eq_some_iff.1 r).1;simp at this;omega:j=0∨j=1∨j=2∨j=3∨j=4∨j=5)with rfl|rfl|rfl|rfl|rfl|rfl
  ·exact(World.cell?_setCell_other _ _ _ _ ξ).trans (l 0 _ r)
  ·exact(World.cell?_setCell_other _ _ _ _ ξ).trans (l 1 _ r)
  ·exact(World.cell?_setCell_other _ _ _ _ ξ).trans (l 2 _ r)
  ·exact(World.cell?_setCell_other _ _ _ _ ξ).trans (l 3 _ r)
  ·obtain rfl:u=y:=by simpa using r
   exact World.cell?_setCell_same _ _ _ (l 4 _ rfl)
  ·exact(World.cell?_setCell_other _ _ _ _ ξ).trans (l 5 _ r)
 ·rw[hv]at D⊢
  exact eP ⟨C,D⟩
theorem Cop.put_subjrules{R:Nat→Array Value→Prop}{v:aR}{P:aC}(h:Cop R n0 w0 zq v P w){g c i:Nat}{u:Value}(hv:v.Q3=.slice (some ⟨g,0,none⟩) P.Q3.length c){x:aj}(hx:P.Q3[i]?=some x)
 (S:aN (Dm n0 w 85) 4 eW w u x.QN):Cop R n0 w0 zq v P (w.setCell ⟨g,i*6+5,none⟩ u):=by
 obtain⟨C,D⟩:=h.QQ.Q3;obtain⟨q,J,p⟩:=aO D (g:=g) (by rw[hv];rfl);have E:aN (Dm n0 w 52) 6 (dG (Dm n0 w)) w (.slice (some ⟨g,0,none⟩) P.Q3.length c) P.Q3:=by rw[←hv];exact h.QP.Q3
 have K:=(List.getElem?_eq_some_iff.1 hx).1;refine⟨h.keep_set q _ _,h.size,h.cell_set p ψ _ _,h.zq,h.res_set p ψ _ _,⟨aH h.QP.QG (fun b d=>d.set_) (aZ q p _ ψ),bv.same h.QP.Q4 (fun b d=>d.set_) (aZ q p _ ψ) (fun T' _ b d=>d.set_) (fun T' B=>aZ q p _ (by rintro rfl;simp at B)),aH h.QP.Q5 (fun b d=>d.set_) (aZ q p _ ψ),?_,aH h.QP.Q8 (fun b d=>d.set_) (aZ q p _ ψ),aH h.QP.QJ (fun b d=>d.set_) (aZ q p _ ψ),aH h.QP.QC (fun b d=>d.set_) (aZ q p _ ψ),cE.same h.QP.Q9 (fun b d=>d.set_) (aZ q p _ ψ) (fun T' _ b d=>d.set_) (fun T' B=>aZ q p _ (by rintro rfl;simp at B)),aH h.QP.QB (fun b d=>d.set_) (aZ q p _ ψ),aH h.QP.QE (fun b d=>d.set_) (aZ q p _ ψ),aH h.QP.QA (fun b d=>d.set_) (aZ q p _ ψ),aH h.QP.QD (fun b d=>d.set_) (aZ q p _ ψ),h.QP.pos,h.QP.name⟩,⟨let⟨cs,l⟩:=h.QQ.QG;⟨cs,aT l p ψ⟩,let⟨cs,l⟩:=h.QQ.Q4;⟨cs,aT l p ψ⟩,let⟨cs,l⟩:=h.QQ.Q5;⟨cs,aT l p ψ⟩,?_,let⟨cs,l⟩:=h.QQ.Q8;⟨cs,aT l p ψ⟩,let⟨cs,l⟩:=h.QQ.QJ;⟨cs,aT l p ψ⟩,let⟨cs,l⟩:=h.QQ.QC;⟨cs,aT l p ψ⟩,let⟨cs,l⟩:=h.QQ.Q9;⟨cs,aT l p ψ⟩,let⟨cs,l⟩:=h.QQ.QB;⟨cs,aT l p ψ⟩,let⟨cs,l⟩:=h.QQ.QE;⟨cs,aT l p ψ⟩,let⟨cs,l⟩:=h.QQ.QA;⟨cs,aT l p ψ⟩,let⟨cs,l⟩:=h.QQ.QD;⟨cs,aT l p ψ⟩⟩⟩
 ·rw[hv]
  refine lG bI E hx ψ ?_ (fun b d=>d.set_) (fun T' _ b d=>d.set_) (fun T' B b d=>⟨d.1,d.ne q p (by rintro rfl;simp at B)⟩);obtain⟨A,H,e,_,_,L⟩:=E;obtain⟨rfl,rfl⟩:some ⟨g,0,none⟩=A∧c=H:=by simpa using e
  obtain⟨b,off,e,_,O⟩:=L χ;obtain⟨rfl,rfl⟩:g=b∧0=off:=by simpa using e
  obtain⟨U,V,l,N,Q,I⟩:=O i x hx;rw[Nat.zero_add]at l;refine⟨U,u,fun j y r=>?_,aH N (fun b d=>d.set_) (aZ q p _ ψ),aH S (fun b d=>d.set_) (aZ q p _ ψ),I⟩
  rcases(by have:=(List.getElem?_eq_some_iff.1 r).1;simp at this;omega:j=0∨j=1∨j=2∨j=3∨j=4∨j=5)with rfl|rfl|rfl|rfl|rfl|rfl
  ·exact(World.cell?_setCell_other _ _ _ _ ξ).trans (l 0 _ r)
  ·exact(World.cell?_setCell_other _ _ _ _ ξ).trans (l 1 _ r)
  ·exact(World.cell?_setCell_other _ _ _ _ ξ).trans (l 2 _ r)
  ·exact(World.cell?_setCell_other _ _ _ _ ξ).trans (l 3 _ r)
  ·exact(World.cell?_setCell_other _ _ _ _ ξ).trans (l 4 _ r)
  ·obtain rfl:u=y:=by simpa using r
   exact World.cell?_setCell_same _ _ _ (l 5 _ rfl)
 ·rw[hv]at D⊢
  exact eP ⟨C,D⟩
structure iS (R:Nat→Array Value→Prop) (n0:Nat) (w0:World) (zq:Nat) (v:aR) (P:aC) (i:Nat) (x:Ck.eX) (lv:Value) (g c:Nat) (w:World):Prop where
 keep:Kz w0 w
 size:n0=w0.heap.size
 cell:w.heap[zq]?=some (.cells (v.cells P).toArray 34 (0,0))
 zq:n0≤zq
 res:∀z c,R z c→w.heap[z]?=some (.cells c 34 (0,0))
 QP:fb (Dx n0 w lv) w { v with Q9 := .slice none 0 0 } { P with Q9:=[] }
 hv:v.Q9=.slice (some ⟨g,0,none⟩) P.Q9.length c
 len:P.Q9.length≤c∧P.Q9.length≤top
 hx:P.Q9[i]?=some x
 Q9:∀(j:Nat) (y:Ck.eX),P.Q9[j]?=some y→j≠i→i4 (Dx n0 w lv) w g (j*4) y
 plan:aL w g (i*4) [.int .i64 x.pos,.string x.name,.int .u64 x.QM,lv]
 ok:dU x.pos∧x.QM<lim∧aX x.name
 QH:aN (fun b=>lv.ownBlock=some b) 4 (i6 (Dx n0 w lv)) w lv x.QH
 Qc:∃cs,w.ownsRow n0 92 4 lv x.QH.length cs
 QQ:uU n0 w v P
namespace iS
variable {R:Nat→Array Value→Prop} {n0:Nat} {w0 w w':World} {zq:Nat} {v:aR} {P:aC} {i:Nat} {x:Ck.eX} {lv:Value} {g c:Nat}
theorem gty(h:iS R n0 w0 zq v P i x lv g c w):n0≤g∧g<w.heap.size∧cD w g=some 62:=by
 obtain⟨cs,d⟩:=h.QQ.Q9;exact aO d (by rw[h.hv];rfl)
theorem step(h:iS R n0 w0 zq v P i x lv g c w)(hk:Kz w w'):iS R n0 w0 zq v P i x lv g c w' where
 keep:=h.keep.trans hk (fun _ _ h=>h)
 size:=h.size
 cell:=(hk.block zq (aG h.cell) (fun x=>x)).trans h.cell
 zq:=h.zq
 res:=fun z c r=>(hk.block z (aG (h.res z c r)) (fun x=>x)).trans (h.res z c r)
 QP:=h.QP.same (fun T b d=>d.keep hk) (fun T=>gL hk T)
 hv:=h.hv
 len:=h.len
 hx:=h.hx
 Q9:=fun j y A u=>cE.moves (h.Q9 j y A u) (fun q _=>hk.cell (p:=⟨g,_,none⟩) h.gty.2.1 (fun x=>x)) (fun T _ b d=>d.keep hk) (fun T _=>gL hk T)
 plan:=h.plan.keep hk h.gty.2.1 (fun x=>x)
 ok:=h.ok
 QH:=by
  obtain⟨cs,l⟩:=h.Qc;exact fD.same h.QH (fun b d=>d) (ah.of_keep hk fun b d=>⟨(aO l d).2.1,fun x=>x⟩) (fun T _ b d=>d.keep hk) (fun T _=>gL hk T)
 Qc:=let⟨cs,l⟩:=h.Qc;⟨cs,aV l hk (fun _ _ x=>x)⟩
 QQ:=h.QQ.keep hk
theorem put{r cl:Nat}(h:iS R n0 w0 zq v P i x (.slice (some ⟨r,0,none⟩) x.QH.length cl) g c w){j:Nat}{y:cW}{u:Value}(Q:x.QH[j]?=some y)(hu:aN (Dx n0 w (.slice (some ⟨r,0,none⟩) x.QH.length cl) 108) 4 ec w u y.runs):
 iS R n0 w0 zq v P i x (.slice (some ⟨r,0,none⟩) x.QH.length cl) g c (w.setCell ⟨r,j*4+3,none⟩ u):=by
 obtain⟨I,U⟩:=h.Qc;obtain⟨hg,X,l⟩:=aO U (g:=r) rfl;obtain⟨W,J,K⟩:=h.gty;have N:g≠r:=by rintro rfl;rw[K]at l;exact absurd (Option.some.inj l) ψ
 have Y:=(List.getElem?_eq_some_iff.1 Q).1;have O:∀T,ah (Dx n0 w (.slice (some ⟨r,0,none⟩) x.QH.length cl) T) w (w.setCell ⟨r,j*4+3,none⟩ u):=fun T=>vo rfl T
 have C:∀q,(w.setCell ⟨r,j*4+3,none⟩ u).cell? ⟨g,q,none⟩=w.cell? ⟨g,q,none⟩:=fun q=>(dP w r _ u).cell (p:=⟨g,q,none⟩) J N
 refine⟨h.keep.trans (dP w r _ u) fun i hi e=>by have:=h.size;omega,h.size,((dP w r _ u).block zq (aG h.cell) fun e=>?_).trans h.cell,h.zq,fun z E H=>((dP w r _ u).block z (aG (h.res z E H)) fun e=>?_).trans (h.res z E H),h.QP.same (fun T b B=>B.set_) O,h.hv,h.len,h.hx,
  fun j' y' S L=>cE.moves (h.Q9 j' y' S L) (fun q _=>C _) (fun T _ b B=>B.set_) (fun T _=>O T),fun q u D=>(C _).trans (h.plan q u D),h.ok,?_,eP ⟨I,U⟩,⟨let⟨cs,d⟩:=h.QQ.QG;⟨cs,aT d l ψ⟩,let⟨cs,d⟩:=h.QQ.Q4;⟨cs,aT d l ψ⟩,let⟨cs,d⟩:=h.QQ.Q5;⟨cs,aT d l ψ⟩,let⟨cs,d⟩:=h.QQ.Q3;⟨cs,aT d l ψ⟩,let⟨cs,d⟩:=h.QQ.Q8;⟨cs,aT d l ψ⟩,let⟨cs,d⟩:=h.QQ.QJ;⟨cs,aT d l ψ⟩,let⟨cs,d⟩:=h.QQ.QC;⟨cs,aT d l ψ⟩,let⟨cs,d⟩:=h.QQ.Q9;⟨cs,aT d l ψ⟩,let⟨cs,d⟩:=h.QQ.QB;⟨cs,aT d l ψ⟩,let⟨cs,d⟩:=h.QQ.QE;⟨cs,aT d l ψ⟩,let⟨cs,d⟩:=h.QQ.QA;⟨cs,aT d l ψ⟩,let⟨cs,d⟩:=h.QQ.QD;⟨cs,aT d l ψ⟩⟩⟩
 ·subst e
  have:cD w zq=some 34:=by unfold cD;rw[h.cell]
  rw[this]at l;exact absurd (Option.some.inj l) ψ
 ·subst e
  have:cD w z=some 34:=by unfold cD;rw[h.res z E H]
  rw[this]at l;exact absurd (Option.some.inj l) ψ
 ·refine lG fD h.QH Q ψ ?_ (fun b B=>B) (fun T _ b B=>B.set_) (fun T _ b B=>⟨B.1.1,fun e=>B.2 (by rw[e];rfl)⟩)
  obtain⟨A,E,e,_,_,Z⟩:=h.QH;obtain⟨rfl,rfl⟩:some ⟨r,0,none⟩=A∧cl=E:=by simpa using e
  obtain⟨b,off,e,_,H⟩:=Z χ;obtain⟨rfl,rfl⟩:r=b∧0=off:=by simpa using e
  obtain⟨mv,d,_,V⟩:=H j y Q;rw[Nat.zero_add]at d;refine⟨u,fun q z D=>?_,aH hu (fun b B=>B.set_) (O _),V⟩
  rcases(by have:=(List.getElem?_eq_some_iff.1 D).1;simp at this;omega:q=0∨q=1∨q=2∨q=3)with rfl|rfl|rfl|rfl
  ·exact(World.cell?_setCell_other _ _ _ _ ξ).trans (d 0 _ D)
  ·exact(World.cell?_setCell_other _ _ _ _ ξ).trans (d 1 _ D)
  ·exact(World.cell?_setCell_other _ _ _ _ ξ).trans (d 2 _ D)
  ·obtain rfl:u=z:=by simpa using D
   exact World.cell?_setCell_same _ _ _ (d 3 _ rfl)
theorem exit(h:iS R n0 w0 zq v P i x lv g c w):Cop R n0 w0 zq v P w:=by
 have d:fb (Dm n0 w) w { v with Q9 := .slice none 0 0 } { P with Q9:=[] }:=h.QP.same (fun T b l=>l.1) (fun T=>ah.refl);refine⟨h.keep,h.size,h.cell,h.zq,h.res,⟨d.QG,d.Q4,d.Q5,d.Q3,d.Q8,d.QJ,d.QC,?_,d.QB,d.QE,d.QA,d.QD,d.pos,d.name⟩,h.QQ⟩;obtain⟨A,p,r⟩:=h.gty;obtain⟨cs,B⟩:=h.Qc;rw[h.hv];refine⟨_,_,rfl,h.len.1,h.len.2,fun _=>⟨g,0,rfl,⟨p,.inr r⟩,fun j y u=>?_⟩⟩;rw[Nat.zero_add]
 by_cases hj:j=i
 ·subst hj
  obtain rfl:x=y:=Option.some.inj (h.hx.symm.trans u);exact⟨lv,h.plan,fD.same h.QH (fun b l=>by obtain⟨_,C,D⟩:=aO B l;exact⟨C,.inr D⟩) ah.refl (fun T _ b l=>l.1) (fun T _=>ah.refl),h.ok⟩
 ·exact cE.moves (h.Q9 j y u hj) (fun q _=>rfl) (fun T _ b l=>l.1) (fun T _=>ah.refl)
end iS
theorem Cop.inner{R:Nat→Array Value→Prop}{n0:Nat}{w0 w w':World}{zq:Nat}{v:aR}{P:aC}(h:Cop R n0 w0 zq v P w){g c i:Nat}(hv:v.Q9=.slice (some ⟨g,0,none⟩) P.Q9.length c){x:Ck.eX}(hx:P.Q9[i]?=some x){lv:Value}{cs:List Value}
 (u:gX (Dm n0 w 92) 4 (i6 (Dm n0 w)) w x.QH cs)(X:w'.ownsRow w.heap.size 92 4 lv x.QH.length cs)(hk:Kz w w'):iS R n0 w0 zq v P i x lv g c (w'.setCell ⟨g,i*4+3,none⟩ lv):=by
 have L:=h.step hk;obtain⟨ac,W⟩:=h.QQ.Q9;obtain⟨N,J,ht⟩:=aO W (g:=g) (by rw[hv];rfl);have r:cD w' g=some 62:=(lP hk J (fun x=>x)).trans ht;have ad:=(List.getElem?_eq_some_iff.1 hx).1;have V:n0≤w.heap.size:=χ
 have l:∀T b,Dm n0 w T b→Dx n0 (w'.setCell ⟨g,i*4+3,none⟩ lv) lv T b:=fun T b d=>⟨(d.keep hk).set_,fun e=>by have:=(aO X e).1;have:=d.1;omega⟩
 have C:∀T,T≠62→ah (Dm n0 w T) w (w'.setCell ⟨g,i*4+3,none⟩ lv):=fun T E b d q=>((dP w' g _ lv).cell (p:=⟨b,q,none⟩) (Nat.lt_of_lt_of_le d.1 hk.size) (d.ne N ht E)).trans (hk.cell (p:=⟨b,q,none⟩) d.1 (fun x=>x))
 have Y:=h.QP.Q9;rw[hv]at Y;obtain⟨A,c',e,O,Q,hl⟩:=Y;obtain⟨rfl,rfl⟩:some ⟨g,0,none⟩=A∧c=c':=by simpa using e
 obtain⟨b,off,e,_,Z⟩:=hl χ;obtain⟨rfl,rfl⟩:g=b∧0=off:=by simpa using e
 have K:(w'.setCell ⟨g,i*4+3,none⟩ lv).ownsRow n0 92 4 lv x.QH.length cs:=aT (rm X V) r ψ;have H:∀q,q≠i*4+3→(w'.setCell ⟨g,i*4+3,none⟩ lv).cell? ⟨g,q,none⟩=w.cell? ⟨g,q,none⟩:=fun q I=>(World.cell?_setCell_other _ _ _ _ (by intro e;exact I (by simpa using e.symm))).trans (hk.cell (p:=⟨g,q,none⟩) J (fun x=>x))
 obtain⟨mv,B,U,h2⟩:=Z i x hx;rw[Nat.zero_add]at B;have S:x.QH.length≤top:=by obtain⟨_,_,_,_,hn,_⟩:=U;exact hn
 refine⟨L.keep_set N _ _,h.size,L.cell_set r ψ _ _,h.zq,L.res_set r ψ _ _,
  ⟨aH h.QP.QG (fun b d=>l _ b d) (C _ ψ),bv.same h.QP.Q4 (fun b d=>l _ b d) (C _ ψ) (fun T _ b d=>l T b d) (fun T E=>C T (by subst E;decide)),aH h.QP.Q5 (fun b d=>l _ b d) (C _ ψ),bI.same h.QP.Q3 (fun b d=>l _ b d) (C _ ψ) (fun T _ b d=>l T b d) (fun T E=>C T (by rcases E with rfl|rfl<;>decide)),aH h.QP.Q8 (fun b d=>l _ b d) (C _ ψ),aH h.QP.QJ (fun b d=>l _ b d) (C _ ψ),aH h.QP.QC (fun b d=>l _ b d) (C _ ψ),⟨none,0,rfl,Nat.le_refl _,ξ,fun h=>by simp at h⟩,aH h.QP.QB (fun b d=>l _ b d) (C _ ψ),aH h.QP.QE (fun b d=>l _ b d) (C _ ψ),aH h.QP.QA (fun b d=>l _ b d) (C _ ψ),aH h.QP.QD (fun b d=>l _ b d) (C _ ψ),h.QP.pos,h.QP.name⟩,hv,⟨O,Q⟩,hx,fun j y hy hj=>?_,fun q z I=>?_,h2,dR fD u K S (fun g N=>N) (fun T E b d=>l T b d) (fun T E=>C T (by subst E;decide)),⟨cs,K⟩,?_⟩
 ·have:=Z j y hy
  rw[Nat.zero_add]at this;exact cE.moves this (fun q I=>H _ (by have:=yV (k:=4) I hj;omega)) (fun T _ b d=>l T b d) (fun T E=>C T (by rcases E with rfl|rfl<;>decide))
 ·rcases(by have:=(List.getElem?_eq_some_iff.1 I).1;simp at this;omega:q=0∨q=1∨q=2∨q=3)with rfl|rfl|rfl|rfl
  ·exact(H _ χ).trans (B 0 _ I)
  ·exact(H _ χ).trans (B 1 _ I)
  ·exact(H _ χ).trans (B 2 _ I)
  ·obtain rfl:lv=z:=by simpa using I
   exact World.cell?_setCell_same _ _ _ ((hk.cell (p:=⟨g,i*4+3,none⟩) J (fun x=>x)).trans (B 3 _ rfl))
 ·have D:=L.QQ
  refine⟨let⟨cs,u⟩:=D.QG;⟨cs,aT u r ψ⟩,let⟨cs,u⟩:=D.Q4;⟨cs,aT u r ψ⟩,let⟨cs,u⟩:=D.Q5;⟨cs,aT u r ψ⟩,let⟨cs,u⟩:=D.Q3;⟨cs,aT u r ψ⟩,let⟨cs,u⟩:=D.Q8;⟨cs,aT u r ψ⟩,let⟨cs,u⟩:=D.QJ;⟨cs,aT u r ψ⟩,let⟨cs,u⟩:=D.QC;⟨cs,aT u r ψ⟩,?_,let⟨cs,u⟩:=D.QB;⟨cs,aT u r ψ⟩,let⟨cs,u⟩:=D.QE;⟨cs,aT u r ψ⟩,let⟨cs,u⟩:=D.QA;⟨cs,aT u r ψ⟩,let⟨cs,u⟩:=D.QD;⟨cs,aT u r ψ⟩⟩;rw[hv];have:=D.Q9;rw[hv]at this;exact eP this
theorem ny{l:List fY}{x:fY}{of:List Nm}{p:Wr}:p∈gb (l++[x]) of↔p∈gb l of∨(∃y∈l,p=(max x.pos y.pos,1))∨p∈say (has of x.name) x.pos 2:=by
 simp only[gb,List.mem_append,dE,List.flatMap_append,List.flatMap_cons,List.flatMap_nil,List.append_nil,List.mem_singleton];constructor
 ·rintro((h|h)|(h|h))
  ·exact .inl (.inl h)
  ·exact .inr (.inl h)
  ·exact .inl (.inr h)
  ·exact .inr (.inr h)
 ·rintro((h|h)|(h|h))
  ·exact .inl (.inl h)
  ·exact .inr (.inl h)
  ·exact .inl (.inr h)
  ·exact .inr (.inr h)
theorem wH{B:Nat}{w:World}{pb:Nat}{v:aR}{P:aC}{L:List Wr}(h:aE B w pb v P cq L){Bf:Nat}{bs:List Nat}{fs:List (List Nm)}{D:Nat→DataW Value}{r:Nat→ByteArray→Value}(hF:dI Bf w bs fs D r)
 (i b:Nat)(f:List Nm)(hb:bs[i]?=some b)(hf:fs[i]?=some f)(hpb:pb<Bf∧pb ∉ bs){u:Value}{xs:List fY}(hs:aJ B 2 cN w u xs):
 Calls Tryz.prog 72 #[.pointer (some ⟨pb,0,none⟩),u,.map (some b)] w fun e w'=>e=.returned (.tuple #[])∧aE B w' pb v P cq (gb xs f++L)∧aD (fun k=>k=pb) w w':=by
 obtain⟨A,c,rfl,hnc,hn0,hl⟩:=hs;unfold top at hn0;have hlt:=h.lt;have hBp:=h.base
 go_enter Tryz.func72,Tryz.ntmps72
 go_wp2
 go_loopw [12] (fun i wr=>∃n:Nat,n≤xs.length∧i=.int .i64 n∧aE B wr pb v P cq (gb (xs.take n) f++L)∧aD (fun k=>k=pb) w wr) (fun i _=>xs.length-(intOf i).toNat)
 case atStart=>exact⟨0,Nat.zero_le _,rfl,by simpa[gb,dA]using h,aD.refl _ _⟩
 case round =>
 obtain⟨n,hn,rfl,hL,hk⟩:=hrel
 by_cases hlt2:n<xs.length
 ·obtain⟨bl,off,rfl,hbl,hcs⟩:=hl χ
  obtain⟨x,hx⟩:∃x,xs[n]?=some x:=⟨_,Ez hlt2⟩;obtain⟨hc,hok⟩:=(aF B _ _) _ _ _ _ _ (hk.below (B:=B) χ (fun _ hi e=>χ)) hbl (hcs n x hx);have q0:=hc.c0;have q1:=hc 1 _ rfl;have hsz:=hk.size;have hblr:bl<wr.heap.size:=χ
  have hsm:x.name.size≤maxLen:=by have:=hok.2;unfold aX at this;unfold maxLen;omega
  have HX:=Lib.hid hx;have HL:=Lib.hid hL;have HK:=Lib.hid hk;have hnc2:n≤c:=χ
  clear hx hL hk hc hok
  go_wp2
  obtain⟨wo,hwo⟩:∃wo:World,wo=wr.alloc (Obj.cells #[.int .i64 x.pos,.string x.name] 78):=⟨_,rfl⟩;rw[←hwo];obtain⟨z,hz⟩:∃z,z=wr.heap.size:=⟨_,rfl⟩;rw[←hz];have hx0:wo.heap[z]?=some (.cells #[.int .i64 x.pos,.string x.name] 78 (0,0)):=by rw[hwo,hz];exact heap_alloc_new _ _
  have hLo:aE B wo pb v P cq (gb (xs.take n) f++L):=by rw[hwo];exact HL.out.new ((aD.refl _ _).alloc _)
  have hKo:aD (fun k=>k=pb) w wo:=by rw[hwo];exact HK.out.alloc _
  have hzp:z≠pb:=χ
  have HX0:=Lib.hid hx0;have HKo:=Lib.hid hKo;have HLo:=Lib.hid hLo;clear hwo hz hx0 hKo hLo q0 q1 HL HK
  go_loopw [21] (fun j wq=>∃k:Nat,k≤n∧j=.int .i64 k∧aE B wq pb v P cq ((xs.take k).map (fun y=>(max x.pos y.pos,1))++(gb (xs.take n) f++L))∧aD (fun i=>i=pb) wo wq) (fun j _=>n-(intOf j).toNat)
  case atStart=>exact⟨0,Nat.zero_le _,rfl,HLo.out,aD.refl _ _⟩
  case round =>
  obtain⟨k,hkn,rfl,hL2,hk2⟩:=hrel;have hx2:=(hk2.block z (aG HX0.out) hzp).trans HX0.out;have x0:wr.cell? ⟨z,0,none⟩=some (.int .i64 x.pos):=by rw[cell_of_row _ _ _ _ _ _ hx2];rfl
  have x1:wr.cell? ⟨z,1,none⟩=some (.string x.name):=by rw[cell_of_row _ _ _ _ _ _ hx2];rfl
  have hzr:z<wr.heap.size:=aG hx2
  by_cases hlt3:k<n
  ·obtain⟨y,hy⟩:∃y,xs[k]?=some y:=⟨_,Ez χ⟩
   have hkw:=HKo.out.trans hk2 (fun _ _ e=>e);have hsz2:=hkw.size;obtain⟨hc,hok⟩:=(aF B _ _) _ _ _ _ _ (hkw.below (B:=B) χ (fun _ hi e=>χ)) hbl (hcs k y hy);have y0:=hc.c0;have y1:=hc 1 _ rfl;have hbl2:bl<wr.heap.size:=χ
   have HL2:=Lib.hid hL2;have HK2:=Lib.hid hk2;have HY:=Lib.hid hy;clear hL2 hk2 hkw hc hok hy hx2
   go_wp2_with fail
   all_goals
    refine(ce _ 1 81 (HL2.out.new ((aD.refl _ _).alloc _)) rfl).mono ?_;rintro e w2 ⟨rfl,hL3,hk3⟩;have HL3:=Lib.hid hL3;have HK3:=Lib.hid hk3;clear hL3 hk3
    go_wp2
    go_roundw
    case rel =>
     refine⟨k+1,χ,by go_num,HL3.out.congr fun p=>?_,HK2.out.trans (((aD.refl _ _).alloc _).trans HK3.out (fun _ _ e=>e)) (fun _ _ e=>e)⟩;rw[aP HY.out]
     first
      | (simp[or_assoc,or_comm,or_left_comm];done)
      | (have hm:max x.pos y.pos=y.pos:=χ;simp[hm,or_assoc,or_comm,or_left_comm])
      | (have hm:max x.pos y.pos=x.pos:=χ;simp[hm,or_assoc,or_comm,or_left_comm])
    case measure=>simp[intOf];omega
  ·obtain rfl:k=n:=χ
   have HL2:=Lib.hid hL2;have HK2:=Lib.hid hk2;clear hL2 hk2 hx2;have hasq:∀w',Kz wr w'→Calls Tryz.prog 74 #[.map (some b),.string x.name] w' fun e w2=>e=.returned (.bool (has f x.name))∧w'=w2:=fun w' hk=>by
    have hk3:aD (fun i=>i=pb) w w':=(HKo.out.trans HK2.out (fun _ _ e=>e)).trans hk (fun _ _ e=>e.elim);exact mr (hF.keep hk3 (fun k e _=>by subst e;exact hpb)) i b f hb hf x.name hsm
   have HH:=Lib.hid hasq;have HC:Hid (∀w',aD (fun i=>i=pb) wr w'→w'.cell? ⟨z,0,none⟩=some (.int .i64 x.pos)∧w'.cell? ⟨z,1,none⟩=some (.string x.name)):=fun w' hk =>
    ⟨(hk.cell (p:=⟨z,0,none⟩) hzr hzp).trans x0,(hk.cell (p:=⟨z,1,none⟩) hzr hzp).trans x1⟩
   have HLd:=Lib.hid (HL2.out.new ((aD.refl _ wr).drew));clear hasq
   go_wp2_with fail
   go_region_held3 (fun w'=>w'.cell? ⟨z,0,none⟩=some (.int .i64 x.pos)∧w'.cell? ⟨z,1,none⟩=some (.string x.name))
    (first|exact HC.out _ ((aD.refl _ wr).drew)|exact HC.out _ (((aD.refl _ wr).drew).trans (by assumption) (fun _ _ e=>e)))
    (first
     | (go_at_call 74;refine(HH.out _ ((aD.refl _ wr).drew)).mono ?_;rintro e w2 ⟨rfl,rfl⟩)
     | (go_at_call 73;refine(ae _ _ 2 80 HLd.out rfl).mono ?_;rintro e w2 ⟨rfl,hL3,hk3⟩))
   have HL3:=Lib.hid hL3;have HK3:=Lib.hid hk3;clear hL3 hk3
   go_wp2
   go_roundw
   case rel =>
    refine⟨k+1,χ,by go_num,HL3.out.congr fun p=>?_,(HKo.out.trans HK2.out (fun _ _ e=>e)).trans (((aD.refl _ _).drew).trans HK3.out (fun _ _ e=>e)) (fun _ _ e=>e)⟩;rw[aP HX.out];simp only[List.mem_append,ny,List.mem_map];constructor
    ·rintro(h|⟨y,h1,rfl⟩|h|h)
     ·exact .inl (.inr (.inr h))
     ·exact .inl (.inr (.inl ⟨y,h1,rfl⟩))
     ·exact .inl (.inl h)
     ·exact .inr h
    ·rintro((h|⟨y,h1,rfl⟩|h)|h)
     ·exact .inr (.inr (.inl h))
     ·exact .inr (.inl ⟨y,h1,rfl⟩)
     ·exact .inl h
     ·exact .inr (.inr (.inr h))
   case measure=>simp[intOf];omega
 ·obtain rfl:n=xs.length:=χ
  rw[List.take_length]at hL;have HL:=Lib.hid hL;have HK:=Lib.hid hk;clear hL hk
  go_wp2
  go_end0
  exact⟨rfl,HL.out,HK.out⟩
def gG(B:Nat)(named:ByteArray→Bool):Prop:=∀(w:World) (s:ByteArray),jI B w→B≤w.heap.size→aX s→Calls Tryz.prog 121 #[.string s] w fun e w'=>e=.returned (.bool (named s))∧Kz w w'
def ca(named:ByteArray→Bool)(s:ByteArray)(l:List Int):List Wr:=l.flatMap (fun Q7=>say (named s) Q7 0)++dA (fun a b=>[(max a b,1)]) l
theorem mf{named:ByteArray→Bool}{s:ByteArray}{l:List Int}{x:Int}{p:Wr}:p∈ca named s (l++[x])↔p∈ca named s l∨p∈say (named s) x 0∨p∈l.flatMap (fun y=>[(max x y,1)]):=by
 simp only[ca,List.mem_append,dE,List.flatMap_append,List.flatMap_cons,List.flatMap_nil,List.append_nil,List.mem_flatMap];constructor
 ·rintro((h|h)|(h|h))
  ·exact .inl (.inl h)
  ·exact .inr (.inl h)
  ·exact .inl (.inr h)
  ·exact .inr (.inr h)
 ·rintro((h|h)|(h|h))
  ·exact .inl (.inl h)
  ·exact .inr (.inl h)
  ·exact .inl (.inr h)
  ·exact .inr (.inr h)
theorem ga(x:Nm)(t:List Nm)(s:ByteArray):bC (x::t) s=if x.1=s then x.2::bC t s else bC t s:=by
 unfold bC
 by_cases h:x.1=s<;>simp[h]
theorem il{t:List Nm}{s:ByteArray}{q:Int}:q∈bC t s↔(s,q)∈t:=by
 unfold bC;simp only[List.mem_map,List.mem_filter,decide_eq_true_eq];constructor
 ·rintro⟨⟨a,b⟩,⟨j,d⟩,g⟩
  simp only at d g;subst d;subst g;exact j
 ·intro h
  exact⟨(s,q),⟨h,rfl⟩,rfl⟩
theorem ry{named:ByteArray→Bool}{p:Wr}:∀{f:List Nm},p∈once named f↔∃s,p∈ca named s (bC f s)
 | []=>by simp[once,ca,bC,dA]
 | x::t=>by
  have r:=ry (named:=named) (p:=p) (f:=t);have j:p∈once named (x::t)↔p∈say (named x.1) x.2 0∨(∃q,(x.1,q)∈t∧p=(max q x.2,1))∨p∈once named t:=by
   simp only[once,List.flatMap_cons,dA,List.mem_append,List.mem_flatMap];constructor
   ·rintro((h|h)|(⟨y,g,h⟩|h))
    ·exact .inl h
    ·exact .inr (.inr (.inl h))
    ·by_cases e:y.1=x.1
     ·simp only[e,if_true,List.mem_singleton]at h
      exact .inr (.inl ⟨y.2,by rw[←e];exact g,h⟩)
     ·simp[e]at h
    ·exact .inr (.inr (.inr h))
   ·rintro(h|⟨q,d,h⟩|(h|h))
    ·exact .inl (.inl h)
    ·exact .inr (.inl ⟨(x.1,q),d,by simp[h]⟩)
    ·exact .inl (.inr h)
    ·exact .inr (.inr h)
  have l:(∃s,p∈ca named s (bC (x::t) s))↔p∈say (named x.1) x.2 0∨(∃q,(x.1,q)∈t∧p=(max q x.2,1))∨∃s,p∈ca named s (bC t s):=by
   constructor
   ·rintro⟨s,h⟩
    rw[ga]at h
    by_cases e:x.1=s
    ·rw[if_pos e]at h
     simp only[ca,List.flatMap_cons,dA,List.mem_append,List.mem_flatMap]at h;subst e
     rcases h with(h|h)|(⟨y,g,h⟩|h)
     ·exact .inl h
     ·exact .inr (.inr ⟨x.1,by simp only[ca,List.mem_append,List.mem_flatMap];exact .inl h⟩)
     ·exact .inr (.inl ⟨y,il.1 g,by simpa using h⟩)
     ·exact .inr (.inr ⟨x.1,by simp only[ca,List.mem_append];exact .inr h⟩)
    ·rw[if_neg e]at h
     exact .inr (.inr ⟨s,h⟩)
   ·have u:∀s,p∈ca named s (bC t s)→p∈ca named s (bC (x::t) s):=fun s h=>by
     rw[ga]
     by_cases e:x.1=s
     ·rw[if_pos e]
      simp only[ca,List.flatMap_cons,dA,List.mem_append]at h⊢
      rcases h with h|h
      ·exact .inl (.inr h)
      ·exact .inr (.inr h)
     ·rw[if_neg e];exact h
    rintro(h|⟨q,d,h⟩|⟨s,h⟩)
    ·exact⟨x.1,by rw[ga,if_pos rfl];simp only[ca,List.flatMap_cons,List.mem_append];exact .inl (.inl h)⟩
    ·exact⟨x.1,by rw[ga,if_pos rfl];simp only[ca,dA,List.mem_append,List.mem_flatMap];exact .inr (.inl ⟨q,il.2 d,by simp[h]⟩)⟩
    ·exact⟨s,u s h⟩
  rw[j,l,r]
theorem mP{w w':World}{b r n cnt:Nat}{D:DataW Value}{left:Lit→Bool}{d:Nat}(h:w.ranges Tryz.prog 9 eG b r n D left cnt)(hk:aD (fun k=>k=d) w w')(j:b≠d)(p:r≠d):w'.ranges Tryz.prog 9 eG b r n D left cnt:=
 h.kept (row:=some d) ⟨hk.os,hk.tape,hk.output,hk.size,fun i l g=>hk.block i l (fun e=>g (by rw[e]))⟩ (fun e=>j (Option.some.inj e)) (fun e=>p (Option.some.inj e))
theorem xg{B:Nat}{w:World}{D:Nat}{v:aR}{P:aC}{L:List Wr}(h:aE B w D v P cq L)(a:Act)(a8:a.tmps.size=44)(Z:At a 0 (.pointer (some ⟨D,0,none⟩)))
 {A:Option Addr}{c N:Nat}{q:List Int}{x:Int}(h5:At a 5 (.slice A N c))(h6:At a 6 (.int .i64 q.length))(h7:At a 7 (.int .i64 x))(bm:q.length≤N)(bl:N≤c)(bt:q.length≤4194304)
 (l:0<q.length→∃g,A=some ⟨g,0,none⟩∧g<w.heap.size∧g≠D∧∀(i:Nat) (y:Int),q[i]?=some y→w.cell? ⟨g,i,none⟩=some (.int .i64 y))(Q:Exit→Act→World→Prop)
 (hQ:∀Y w',aA (fun i=>i==9||(rg 29 42 i)) a Y→aE B w' D v P cq (q.flatMap (fun y=>[(max x y,1)])++L)→aD (fun k=>k=D) w w'→Q .normal Y w'):
 (bE Tryz.f71 [1,0,0,1,1,0,1,1,0,0,1,1,0,0,1,1]).wp Tryz.prog Q a w:=by
 have bp:=h.lt;have bw:q.length≤c:=χ
 conv=>arg 2;whnf
 refine so (fun u w1=>aA (fun i=>i==29||i==30||i==31||i==32||i==33) a u∧At u 31 (.slice A q.length c)∧At u 32 (.int .i64 q.length)∧At u 33 (.int .i64 0)∧w1=w) ?_ ?_
 ·clear l
  obtain⟨T,d⟩:=a;refine rl ?_
  iterate 5 with_reducible refine st ?_
  with_reducible refine ln ?_
  refine⟨rfl,ag,aq,aq,aq,rfl⟩
 rintro a0 w0 ⟨C,bc,bb,a9,rfl⟩;have S:a0.tmps.size=44:=C.size.trans a8;replace Z:=C.Q7 Z rfl;replace h7:=C.Q7 h7 rfl;refine bj q.length (fun i=>i==9||(rg 33 42 i)) (fun i=>i==9||(rg 35 41 i)) (fun k _ w'=>aE B w' D v P cq ((q.take k).flatMap (fun y=>[(max x y,1)])++L)∧aD (fun k=>k=D) w0 w') χ a9 bb ψ rfl
  ζ χ ψ (fun k u H w E hI=>hI) ⟨by simpa using h,aD.refl _ _⟩ ?_ ?_
 ·rintro n u wr O E ba ⟨I,hk⟩
  obtain⟨g,rfl,a4,a5,J⟩:=l χ;obtain⟨y,hy⟩:=ge O;have q0:wr.cell? ⟨g,n,none⟩=some (.int .i64 y):=(hk.cell (p:=⟨g,n,none⟩) a4 a5).trans (J n y hy);have V:=E.Q7 Z rfl;have W:=E.Q7 h7 rfl;have X:=E.Q7 bc rfl;have U:u.tmps.size=44:=E.size.trans S;have bf:=hk.size;have bo:g<wr.heap.size:=χ
  have HY:=hh hy;have HL:=hh I;have HK:=hh hk;have bd:n≤c:=χ
  clear hy I hk E J l;refine so (fun H w2=>aA (fun i=>i==35||i==36||i==9) u H∧At H 9 (.int .i64 y)∧w2=wr) ?_ ?_
  ·obtain⟨T,d⟩:=u
   refine rl ?_
   iterate 3 with_reducible refine st ?_
   with_reducible refine ln ?_
   refine⟨rfl,ag,aq,rfl⟩
  rintro H w2 ⟨r,bx,rfl⟩;replace V:=r.Q7 V rfl;replace W:=r.Q7 W rfl;have be:=r.size.trans U;refine Code.wp_only (R:=fun a3 w3=>aA (fun i=>rg 37 41 i) H a3∧aE B w3 D v P cq ([(max x y,1)]++((q.take n).flatMap (fun y=>[(max x y,1)])++L))∧aD (fun k=>k=D) w2 w3) ?_ ?_
  ·clear r X ba q0
   obtain⟨T,d⟩:=H;refine rl ?_
   iterate 4 with_reducible refine st ?_
   with_reducible refine Lz (fun K hK=>?_)
   go_simp;refine(ce _ 1 81 HL.out rfl).mono ?_;rintro e w4 ⟨rfl,ad,a6⟩;with_reducible refine hK _ _ (ln ?_)
   refine⟨rfl,?_,?_,a6⟩
   ·exact ag
   ·refine ad.congr fun p=>?_
    rw[show(if x<y then y else x)=max x y from by split<;>omega];exact Iff.rfl
  rintro a3 w3 ⟨ac,af,a7⟩;refine⟨(r.m).t ac,af.congr fun p=>?_,HK.out.trans a7 (fun _ _ e=>e)⟩;rw[aP HY.out,List.flatMap_append,List.flatMap_cons,List.flatMap_nil,List.append_nil];simp only[List.mem_append];simp only[or_assoc,or_comm,or_left_comm]
 ·rintro Y w' E ⟨I,hk⟩
  rw[List.take_length]at I;exact hQ _ _ ((C.m).t E) I hk
theorem vV{B:Nat}{w:World}{H:Nat}{v:aR}{P:aC}{L:List Wr}{named:ByteArray→Bool}(hN:gG B named)(h:aE B w H v P cq L)(a:Act)(be:a.tmps.size=44)(h0:At a 0 (.pointer (some ⟨H,0,none⟩)))
 {A:Option Addr}{c:Nat}{u:List Int}{s:ByteArray}(hs:aX s)(h4:At a 4 (.string s))(h5:At a 5 (.slice A u.length c))(b1:u.length≤c)(b3:u.length≤4194304)
 (l:0<u.length→∃g,A=some ⟨g,0,none⟩∧g<w.heap.size∧g≠H∧∀(i:Nat) (y:Int),u[i]?=some y→w.cell? ⟨g,i,none⟩=some (.int .i64 y))(Q:Exit→Act→World→Prop)
 (hQ:∀a' w',aA (fun i=>i==6||i==7||i==9||(rg 17 43 i)) a a'→aE B w' H v P cq (ca named s u++L)→aD (fun k=>k=H) w w'→Q .normal a' w'):
 (bE Tryz.f71 [1,0,0,1,1,0,1]).wp Tryz.prog Q a w:=by
 have b2:=h.lt;have b0:=h.base
 conv=>arg 2;whnf
 refine so (fun D w1=>aA (fun i=>i==17||i==18||i==19) a D∧At D 17 (.slice A u.length c)∧At D 18 (.int .i64 u.length)∧At D 19 (.int .i64 0)∧w1=w) ?_ ?_
 ·clear l hN
  obtain⟨T,d⟩:=a;refine rl ?_
  iterate 3 with_reducible refine st ?_
  with_reducible refine ln ?_
  refine⟨rfl,ag,aq,aq,aq,rfl⟩
 rintro a0 w0 ⟨x,bw,bt,bo,rfl⟩;have Y:a0.tmps.size=44:=x.size.trans be;replace h0:=x.Q7 h0 rfl;replace h4:=x.Q7 h4 rfl;replace h5:=x.Q7 h5 rfl;refine bj u.length (fun i=>i==6||i==7||i==9||(rg 19 43 i)) (fun i=>i==6||i==7||i==9||(rg 21 42 i)) (fun k _ w'=>aE B w' H v P cq (ca named s (u.take k)++L)∧aD (fun k=>k=H) w0 w') χ bo bt ψ rfl
  ζ χ ψ (fun k D I w E hI=>hI) ⟨by simpa[ca,dA]using h,aD.refl _ _⟩ ?_ ?_
 ·rintro n D wr W E bp ⟨U,hk⟩
  obtain⟨g,rfl,V,J,N⟩:=l χ;obtain⟨y,hy⟩:=ge W;have q0:wr.cell? ⟨g,n,none⟩=some (.int .i64 y):=(hk.cell (p:=⟨g,n,none⟩) V J).trans (N n y hy);have R:=E.Q7 h0 rfl;have af:=E.Q7 h4 rfl;have S:=E.Q7 h5 rfl;have a5:=E.Q7 bw rfl;have Z:D.tmps.size=44:=E.size.trans Y;have bz:=hk.size;have bc:g<wr.heap.size:=χ
  have HY:=hh hy;have HL:=hh U;have HK:=hh hk;have HG:=hh N;have bx:n≤c:=χ
  clear hy U hk E N l;refine so (fun I w2=>aA (fun i=>i==21||i==22||i==23||i==6||i==7) D I∧At I 6 (.int .i64 n)∧At I 7 (.int .i64 y)∧w2=wr) ?_ ?_
  ·clear hN
   obtain⟨T,d⟩:=D;refine rl ?_
   iterate 5 with_reducible refine st ?_
   with_reducible refine ln ?_
   refine⟨rfl,ag,aq,aq,rfl⟩
  rintro I w2 ⟨q,bl,bm,rfl⟩;replace R:=q.Q7 R rfl;replace af:=q.Q7 af rfl;replace S:=q.Q7 S rfl;have ac:=q.size.trans Z;clear a5 bp q0;refine so (fun a3 w3=>aA (fun i=>rg 24 28 i) I a3∧aE B w3 H v P cq (say (named s) y 0++(ca named s (u.take n)++L))∧aD (fun k=>k=H) w2 w3) ?_ ?_
  ·have HN:=hh (hN w2 s HL.out.laid χ hs)
   clear q hN;obtain⟨T,d⟩:=I;refine rl ?_
   iterate 2 with_reducible refine st ?_
   with_reducible refine Lz (fun K hK=>?_)
   go_simp;refine HN.out.mono ?_;rintro e w4 ⟨rfl,C⟩;with_reducible refine hK _ _ ?_;clear hK K
   have a7:=hh (HL.out.new C);have a6:=hh C;clear C;with_reducible refine st ?_;refine Lz (fun K hK=>?_)
   go_simp;refine(ae _ _ 0 5 a7.out rfl).mono ?_;rintro e w5 ⟨rfl,a9,bd⟩;with_reducible refine hK _ _ (ln ?_)
   refine⟨rfl,ag,a9,(a6.out.mono (fun _ _ h=>h.elim)).trans bd (fun _ _ e=>e)⟩
  rintro a3 w3 ⟨r,ba,O⟩;have ad:=r.size.trans ac;have X:(u.take n).length=n:=by rw[List.length_take];omega
  refine xg ba a3 ad (r.Q7 R rfl) (r.Q7 S rfl) (by rw[X];exact r.Q7 bl rfl) (r.Q7 bm rfl) χ χ χ (fun _=>⟨g,rfl,Nat.lt_of_lt_of_le bc O.size,J,fun i z hz=>?_⟩) _ (fun a4 w4 a8 bb C=>?_)
  ·have bf:u[i]?=some z:=by rw[List.getElem?_take]at hz;split at hz;exact hz;cases hz
   exact((HK.out.trans O (fun _ _ e=>e)).cell (p:=⟨g,i,none⟩) V J).trans (HG.out i z bf)
  refine⟨((q.m).t r).t a8,bb.congr fun p=>?_,(HK.out.trans O (fun _ _ e=>e)).trans C (fun _ _ e=>e)⟩;rw[aP HY.out];simp only[List.mem_append,mf];simp only[or_assoc,or_comm,or_left_comm]
 ·rintro a' w' E ⟨U,hk⟩
  rw[List.take_length]at U;exact hQ _ _ ((x.m).t E) U hk
theorem tS(f:List Nm)(s:ByteArray):(bC f s).length≤f.length:=by
 unfold bC;rw[List.length_map];exact List.length_filter_le _ _
theorem iF{k:Value}{d:Lit}(h:keyOf Tryz.prog 9 k=some d):∃s:ByteArray,k=.string s∧d=key s∧s.size≤maxLen:=by
 cases k<;>simp[keyOf,Tryz.underlying9,mapKey]at h
 exact⟨_,rfl,h.2.symm,h.1⟩
theorem tU{w:World}{z:Nat}{e:TypeId}{u:Value}{d:List Value}(h:w.ownsRow z e 1 u d.length d):∃A c,u=.slice A d.length c∧d.length≤c:=by
 rcases h.2 with⟨j,q⟩|⟨g,l,p,j,_,_,r,_⟩
 ·exact⟨none,0,by rw[j,q],χ⟩
 ·exact⟨_,_,j,r⟩
theorem vW{B:Nat}{w:World}{E:Nat}{v:aR}{P:aC}{L:List Wr}{named:ByteArray→Bool}(hN:gG B named)(h:aE B w E v P cq L){Bf:Nat}{bs:List Nat}{fs:List (List Nm)}{D:Nat→DataW Value}{r:Nat→ByteArray→Value}(hF:dI Bf w bs fs D r)
 (i b:Nat)(f:List Nm)(hb:bs[i]?=some b)(hf:fs[i]?=some f)(di:E<Bf∧E ∉ bs)(ee:f.length≤4194304)(cc:∀x∈f,aX x.1):
 Calls Tryz.prog 71 #[.pointer (some ⟨E,0,none⟩),.map (some b)] w fun e w'=>e=.returned (.tuple #[])∧aE B w' E v P cq (once named f++L)∧aD (fun k=>k=E) w w':=by
 have ef:=h.lt;have ea:=h.base;obtain⟨m1,m3⟩:=hF.map i b f hb hf;have bz:b≠E:=fun e=>di.2 (by rw[←e];exact List.mem_of_getElem? hb)
 have d4:=m1.lt;refine b9 Tryz.func71 Tryz.ntmps71 rfl ξ fun a cd c5 I=>?_
 have h0:At a 0 (.pointer (some ⟨E,0,none⟩)):=I 0 _ rfl;have Q:At a 1 (.map (some b)):=I 1 _ rfl;clear I
 conv=>arg 2;whnf
 refine so (fun R w1=>aA (fun i=>i==10||i==11) a R∧At R 11 (.pointer (some ⟨w.heap.size,0,none⟩))∧w1.ranges Tryz.prog 9 eG b w.heap.size f.length (D i) (Go.Maps.has (D i)) (Go.Maps.size (D i))∧w.grownBy w1 none) ?_ ?_
 ·clear hN hF m3
  obtain⟨T,d⟩:=a;refine rl ?_;with_reducible refine st ?_
  refine wpList_range_own _ rfl _ 135 rfl 9 35 Tryz.law9 Tryz.underlying135 _ b f.length (D i) (by simp[Act.eval,cd]) m1 ?_;intro w0 b5 c6 em;with_reducible refine ln ?_
  refine⟨rfl,?_,?_,b5,c6⟩
  ·(repeat (first|with_reducible apply aA.put|with_reducible apply aA.set))<;>first|with_reducible exact aA.refl _ _|rfl
  ·exact At.put_self
 rintro a0 w1 ⟨U,ac,a7,hg⟩;have bo:Kz w w1:=aD.of_grown hg (fun _ e=>by cases e);have bc:=U.size.trans cd;replace h0:=U.Q7 h0 rfl;have bl:=h.new bo;have d7:w.heap.size<w1.heap.size:=a7.lt;have cb:w.heap.size≠E:=χ
 have HN:=hh hN;have M3:=hh m3;have HF:=hh hF;have cl:=hh bo;have bf:∀s:ByteArray,s.size≤maxLen→Go.Maps.has (D i) (key s)=has f s:=fun s Z=>(m3 s Z).2.2
 clear hN hF m3 bo hg;refine xS (t:=13)
  (fun a' w'=>aA (fun i=>i==4||i==5||i==6||i==7||i==9||(rg 12 43 i)) a0 a'∧∃left cnt Lc,w'.ranges Tryz.prog 9 eG b w.heap.size f.length (D i) left cnt∧aE B w' E v P cq (Lc++L)∧aD (fun k=>k=E) w w' ∧
   (∀kl,left kl=true→Go.Maps.has (D i) kl=true)∧∀p,p∈Lc↔∃s:ByteArray,s.size≤maxLen∧left (key s)=false∧p∈ca named s (bC f s))
  (fun _ w'=>w'.rangeLeft b w.heap.size)
  (fun m a' w'=>aA (fun i=>i==4||i==5||i==6||i==7||i==9||(rg 12 43 i)) a0 a'∧∃(s:ByteArray) (left:Lit→Bool) (cnt:Nat) (Lc:List Wr),s.size≤maxLen∧has f s=true∧cnt<m∧(Instr.entry (.pointer (some ⟨w.heap.size,0,none⟩))).run Tryz.prog w'=.ok (.tuple #[.string s,r i s]) w' ∧
   w'.ranges Tryz.prog 9 eG b w.heap.size f.length (D i) (fun z=>left z && !z.sameKey (key s)) cnt∧aE B w' E v P cq (Lc++L)∧aD (fun k=>k=E) w w' ∧
   (∀kl,left kl=true→Go.Maps.has (D i) kl=true)∧∀p,p∈Lc↔∃s:ByteArray,s.size≤maxLen∧left (key s)=false∧p∈ca named s (bC f s))
  (fun a' w'=>a'.defers=[]∧∃Lc,aE B w' E v P cq (Lc++L)∧aD (fun k=>k=E) w w'∧∀p,p∈Lc↔∃s:ByteArray,s.size≤maxLen∧p∈ca named s (bC f s)) ?_ ?_ ?_ ?_
 ·refine⟨aA.refl _ _,_,_,[],a7,by simpa using bl,cl.out.mono (fun _ _ h=>h.elim),fun _ h=>h,fun p=>⟨fun h=>by simp at h,fun⟨s,Z,hn,hp⟩=>?_⟩⟩
  rw[bf s Z]at hn;have:bC f s=[]:=by
   have:=kh f s;rw[hn]at this;have h2:¬ 0<(bC f s).length:=of_decide_eq_false this.symm;exact List.length_eq_zero_iff.1 χ
  rw[this]at hp;simp[ca,dA]at hp
 ·rintro R w2 ⟨S,left,cnt,Lc,l,H,C,X,J⟩
  have ad:=S.Q7 ac rfl;have O:R.tmps.size=44:=S.size.trans bc;have b0:R.defers=[]:=S.defers.trans (U.defers.trans c5);have HR:=hh l;have a4:=hh H;have af:=hh C;have a6:=hh X;have a5:=hh J;have bd:=hh S;have eg:=l.lt;clear H C X J S l a7 bl bf h h0 m1 U;refine rl ?_;refine wpList_next_ranges _ rfl _ rfl 9 Tryz.law9 eG (Value.string) (fun v:Value=>v) (fun ky kl hk=>by obtain⟨s,e,_⟩:=iF hk;exact⟨s,e⟩) (fun v y _=>⟨v,rfl⟩) b w.heap.size f.length (D i) left cnt (ad.eval χ) HR.out ?_ ?_
  ·intro eb c8
   obtain⟨T,d⟩:=R;simp only[Act.put];with_reducible refine st ?_;refine ln ?_
   refine⟨rfl,.inr ⟨?_,?_⟩⟩
   ·exact At.eval At.self (by simp;exact O▸(by decide:13<44))
   ·exact⟨b0,Lc,a4.out,af.out,fun p=>by rw[a5.out];exact⟨fun⟨s,Q,_,h3⟩=>⟨s,Q,h3⟩,fun⟨s,Q,h3⟩=>⟨s,Q,c8 _,h3⟩⟩⟩
  ·intro s c kl y w3 a8 a9 b3 hR bx bb c2 b1 dk V
   obtain⟨s',e,rfl,Z⟩:=iF a9
   cases e
   simp only[eG,Option.some.injEq]at hR;subst hR;have c4:c=r i s:=by
    have e1:=(M3.out s Z).1;rw[bx]at e1;exact DataW.held.inj e1
   subst c4;have W:has f s=true:=by rw[←(M3.out s Z).2.2];exact a6.out _ b3
   have bp:aD (fun k=>k=w.heap.size) w2 w3:=aD.of_grown b1 (fun k e=>by cases e;rfl);have cf:cD w2 w.heap.size=none:=by
    obtain⟨es,cu,d3,d8,c0,_,_,_,_,e5,_⟩:=HR.out;unfold cD;rw[e5]
   have cx:=a4.out.keep bp (fun k hk _=>by subst hk;rw[cf];exact⟨χ,ξ,ξ⟩);have c7:aD (fun k=>k=E) w w3:=af.out.trans bp (fun k hk e=>χ);have b4:a8<w2.rangeLeft b w.heap.size:=by rw[HR.out.left_eq];exact c2
   clear bx a9 b1 dk bp cf b3;have ci:=hh V;have cp:=hh bb;clear V bb;obtain⟨T,d⟩:=R;simp only[Act.put];with_reducible refine st ?_;refine ln ?_
   refine⟨rfl,.inl ⟨?_,?_,s,left,a8,Lc,Z,W,b4,ci.out,cp.out,cx,c7,a6.out,a5.out⟩⟩
   ·exact At.eval At.self (by simp;exact O▸(by decide:13<44))
   ·refine bd.out.trans (vs:=fun i=>i==12||i==13) ?_ ζ
    (repeat (first|with_reducible apply aA.put|with_reducible apply aA.set))<;>first|with_reducible exact aA.refl _ _|rfl
 ·rintro m R w2 ⟨S,s,left,cnt,Lc,Z,W,c3,V,l,H,C,X,J⟩
  have ds:aX s:=by
   have Q:=kh f s;rw[W]at Q;obtain⟨q,hq⟩:=List.exists_mem_of_length_pos (of_decide_eq_true Q.symm);exact cc _ (il.1 hq)
  obtain⟨A,c,hv,bw⟩:=tU (by rw[List.length_map];exact(M3.out s Z).2.1);rw[List.length_map]at hv bw;have Y:=(M3.out s Z).2.1;have K:=Y.keep C (fun k hk e=>by subst e;have:=(Y.lt _ hk).1;omega);have ba:(bC f s).length≤4194304:=by have:=tS f s;omega
  have ad:=S.Q7 ac rfl;have d0:=S.Q7 h0 rfl;have O:R.tmps.size=44:=S.size.trans bc;rw[hv]at V K;have cs:=hh K;have HR:=hh l;have a4:=hh H;have af:=hh C;have a6:=hh X;have a5:=hh J;have bd:=hh S;clear H C X J S l a7 bl bf h h0 m1 U Y K hv ac;obtain⟨N,bm⟩:∃n,n=(bC f s).length:=⟨_,rfl⟩;rw[←bm]at V bw ba;have cm:=hh bm;clear bm;refine so (fun a2 w3=>aA (fun i=>i==14||i==15||i==16||i==4||i==5) R a2∧At a2 4 (.string s)∧At a2 5 (.slice A N c)∧w3=w2) ?_ ?_
  ·obtain⟨T,d⟩:=R
   refine rl ?_
   iterate 5 with_reducible refine st ?_
   with_reducible refine ln ?_
   refine⟨rfl,ag,aq,aq,rfl⟩
  rintro a2 w3 ⟨be,d1,d2,rfl⟩;have c1:=cm.out;subst c1;refine vV HN.out a4.out a2 (be.size.trans O) (be.Q7 d0 rfl) ds d1 d2 bw ba (fun d6=>?_) _ (fun a3 w4 cw cy bt=>?_)
  ·rcases cs.out.2 with⟨e1,e2⟩|⟨g,d9,cv,e1,hg,hh,d5,_,ed,dt⟩
   ·omega
   ·cases e1
    refine⟨g,rfl,aG hh,χ,fun j y hy=>?_⟩;have h3:cv.toList[j]?=some (.int .i64 y):=by
     have h4:((bC f s).map (Value.int .i64))[j]?=some (.int .i64 y):=by rw[List.getElem?_map,hy];rfl
     rw[←dt,List.getElem?_take]at h4;split at h4
     ·exact h4
     ·cases h4
    rw[cell_of_row _ _ _ _ _ _ hh]
    simpa using h3
  refine⟨⟨(bd.out.t be).t cw,_,cnt,ca named s (bC f s)++Lc,mP HR.out bt bz cb,by rw[List.append_assoc];exact cy,af.out.trans bt (fun _ _ e=>e),fun kl b2=>a6.out kl (by simp at b2;exact b2.1),fun p=>?_⟩,?_⟩
  ·simp only[List.mem_append,a5.out]
   constructor
   ·rintro(Q|⟨u,Q,h2,h3⟩)
    ·exact⟨s,Z,by rw[WideAt.sameKey_self (ke s)];simp,Q⟩
    ·exact⟨u,Q,by simp[h2],h3⟩
   ·rintro⟨u,Q,h2,h3⟩
    by_cases hus:u=s
    ·subst hus;exact .inl h3
    ·refine .inr ⟨u,Q,?_,h3⟩
     have c9:(key u).sameKey (key s)=false:=by
      rw[Bool.eq_false_iff];exact fun e=>hus (mq (WideAt.sameKey_eq e))
     simpa[c9]using h2
  ·have h5:=(mP HR.out bt bz cb).left_eq
   show w4.rangeLeft b w.heap.size<m;rw[h5];exact c3
 ·rintro R w2 ⟨hd,Lc,H,C,J⟩
  refine ek rfl hd ⟨rfl,H.congr fun p=>?_,C⟩;simp only[List.mem_append,J,ry];constructor
  ·rintro(⟨s,_,h⟩|h)
   ·exact .inl ⟨s,h⟩
   ·exact .inr h
  ·rintro(⟨s,h⟩|h)
   ·refine .inl ⟨s,?_,h⟩
    by_cases hz:bC f s=[]
    ·rw[hz]at h;simp[ca,dA]at h
    ·obtain⟨q,hq⟩:=List.exists_mem_of_ne_nil _ hz
     have:=cc _ (il.1 hq);unfold aX at this;unfold maxLen;show s.size≤_;have e:((s,q):Nm).1=s:=rfl;rw[e]at this;omega
   ·exact .inr h
def dC(w:World)(b n:Nat)(z:Value)(F:ByteArray→Value)(p:ByteArray→Bool):Prop:=
 ∃D,w.ownsMap Tryz.prog 9 eG b n D∧∀s:ByteArray,s.size≤maxLen→D.atKey (key s) (.held z)=.held (F s)∧Go.Maps.has D (key s)=p s
namespace dC
variable {w w':World} {b n:Nat} {z:Value} {F:ByteArray→Value} {p:ByteArray→Bool}
theorem lt(h:dC w b n z F p):b<w.heap.size:=by obtain⟨D,d,_⟩:=h;exact d.lt
theorem keep{S:Nat→Prop}(h:dC w b n z F p)(hk:aD S w w')(j:¬ S b):dC w' b n z F p:=by
 obtain⟨D,d,g⟩:=h;exact⟨D,lC d hk j,g⟩
theorem new(w:World)(b:Nat)(z:Value)(h:w.heap[b]?=some (.map #[] 0)):dC w b 0 z (fun _=>z) (fun _=>false):=by
 exact⟨.map [],⟨#[],0,h,⟨ξ,Go.MapKept.stamped_empty 0,ξ⟩,Nat.le_refl _,rfl⟩,fun s _=>⟨rfl,rfl⟩⟩
theorem run(h:dC w b n z F p){t e:TypeId}(r:Tryz.prog.underlying t=some (.map 9 e))(u:∀w,(zeroValue e).run Tryz.prog w=.ok z w){s:ByteArray}(g:s.size≤maxLen):
 (Instr.lookup t (.map (some b)) (.string s) false).run Tryz.prog w=.ok (F s) w:=by
 obtain⟨D,l,q⟩:=h;obtain⟨v,x,d,hv⟩:=l.lookup Tryz.law9 r (u w) (zd := .held z) (zp:=[]) rfl (Go.WideMaps.keyOf_string_mk Tryz.underlying9 g);have j:(DataW.held v:DataW Value)=.held (F s):=by
  simp only[eG,Option.some.injEq,Prod.mk.injEq]at hv;rw[←(q s g).1];exact hv.1
 rw[d,DataW.held.inj j]
theorem lookup{P:Program}(u:P=Tryz.prog)(h:dC w b n z F p){d:Array Oper}{rest:List Oper}{o:Oper}{a:Act}{Q:Exit→Act→World→Prop}
 (y:o.guard=none){m x:Operand}{t e:TypeId}(g:o.op=Op.lookup t m x false)(B:P.underlying t=some (.map 9 e))(C:∀w,(zeroValue e).run P w=.ok z w)
 (A:a.eval m=.map (some b)){s:ByteArray}(hx:a.eval x=.string s)(j:s.size≤maxLen)(r:wpList P d Q rest (a.put o.dst (F s)) w):wpList P d Q (o::rest) a w:=by
 subst u;obtain⟨D,l,q⟩:=h;refine eA _ y m x t g 9 e Tryz.law9 B z (C w) b n D A l _ (key s) hx (Go.WideMaps.keyOf_string_mk Tryz.underlying9 j) fun v hv=>?_
 rw[(q s j).1]at hv;rw[←DataW.held.inj hv];exact r
theorem update{P:Program}(C:P=Tryz.prog)(h:dC w b n z F p)(I:n<maxLen){j:Array Oper}{rest:List Oper}{o:Oper}{a:Act}{Q:Exit→Act→World→Prop}
 (E:o.guard=none){m x u:Operand}{t e:TypeId}(r:o.op=Op.mapUpdate t m x u)(y:P.underlying t=some (.map 9 e))
 (H:a.eval m=.map (some b)){s:ByteArray}(hx:a.eval x=.string s)(J:s.size≤maxLen){v:Value}(hv:a.eval u=v)
 (B:∀w',dC w' b (n+1) z (fun t=>if t=s then v else F t) (fun t=>decide (t=s)||p t)→aD (fun k=>k=b) w w'→wpList P j Q rest (a.put o.dst undef) w'):wpList P j Q (o::rest) a w:=by
 subst C;obtain⟨D,l,A⟩:=h;refine wpList_mapUpdate_own _ E m x u t r 9 e Tryz.law9 y eG b n D H l I _ _ (key s) hx hv (Go.WideMaps.keyOf_string_mk Tryz.underlying9 J) _ [] rfl fun w' g q=>B w' ⟨_,g,fun t y=>?_⟩ (aD.of_grown q (fun k e=>by cases e;rfl))
 obtain⟨K,L⟩:=A t y
 by_cases hts:t=s
 ·subst hts
  exact⟨by show _=DataW.held (if t=t then v else F t);rw[if_pos rfl];exact Go.Maps.atKey_put_same l.isMap (ke t) _ _,by rw[Go.Maps.has_put_same l.isMap (ke t)];simp⟩
 ·have d:key t≠key s:=fun e=>hts (mq e)
  exact⟨by show _=DataW.held (if t=s then v else F t);rw[if_neg hts];exact(Go.Maps.atKey_put_other d _ _).trans K,by rw[Go.Maps.has_put_other d,L];simp[hts]⟩
theorem lookup_ok{P:Program}(y:P=Tryz.prog)(h:dC w b n z F p){d:Array Oper}{rest:List Oper}{o:Oper}{a:Act}{Q:Exit→Act→World→Prop}
 (A:o.guard=none){m x:Operand}{t e:TypeId}(g:o.op=Op.lookup t m x true)(C:P.underlying t=some (.map 9 e))(E:∀w,(zeroValue e).run P w=.ok z w)
 (B:a.eval m=.map (some b)){s:ByteArray}(hx:a.eval x=.string s)(j:s.size≤maxLen)(u:wpList P d Q rest (a.put o.dst (.tuple #[F s,.bool (p s)])) w):wpList P d Q (o::rest) a w:=by
 subst y;obtain⟨D,r,l⟩:=h;refine wpList_lookup_own_ok _ A m x t g 9 e Tryz.law9 C eG (E w) (.held z) [] rfl b n D B r _ (key s) hx (Go.WideMaps.keyOf_string_mk Tryz.underlying9 j) fun v H hv=>?_
 have q:(DataW.held v:DataW Value)=.held (F s):=by
  simp only[eG,Option.some.injEq,Prod.mk.injEq]at hv;rw[←(l s j).1];exact hv.1
 rw[DataW.held.inj q,(l s j).2];exact u
end dC
def xB(t:jl):Value := .agg #[.int .u64 t.size,.bool t.big,.bool t.wx]
theorem uZ(w:World):(zeroValue 182).run Tryz.prog w=.ok (.agg #[.int .u64 0,.bool false,.bool false]) w:=δ
def fW(w:World)(b:Nat)(P:aC):Prop:=∃n,dC w b n (.agg #[.int .u64 0,.bool false,.bool false]) (fun s=>xB (aS P s)) (fun s=>(eD P s).isSome)
def ot:Prop:=∀{B:Nat} {w:World} {v:aR} {P:aC},ao B w v P→B≤w.heap.size→Calls Tryz.prog 58 #[.agg (v.cells P).toArray] w fun e w'=>∃mb,e=.returned (.map (some mb))∧w.heap.size≤mb∧mb<w'.heap.size∧fW w' mb P∧Kz w w'
theorem nM{B:Nat}{w:World}{v:aR}{P:aC}(h:ao B w v P)(s:ByteArray):(aS P s).size<lim:=by
 unfold aS eD;split
 ·rename_i x hx
  have hx:=List.mem_of_find?_eq_some hx;obtain⟨A,c,_,_,_,g⟩:=h.Q5;obtain⟨l,off,_,_,d⟩:=g (List.length_pos_of_mem hx);obtain⟨k,hk⟩:=List.getElem?_of_mem hx;exact(d k x hk).2.2.1
 ·cases hd:P.Q4.find? (fun x=>decide (x.name=s))with
  | none=>simp
  | some x =>
   have hx:=List.mem_of_find?_eq_some hd;obtain⟨A,c,_,_,_,g⟩:=h.Q4;obtain⟨l,off,_,_,d⟩:=g (List.length_pos_of_mem hx);obtain⟨k,hk⟩:=List.getElem?_of_mem hx;obtain⟨u,r,_,q,p,j,_⟩:=d k x hk;exact j
theorem Bw{B:Nat}{w:World}{u:Value}{l:List Ck.Map}(h:aJ B 5 cU w u l):∀x∈l,x.Ok:=by
 intro x hx;obtain⟨A,c,_,_,_,g⟩:=h;obtain⟨j,off,_,_,d⟩:=g (List.length_pos_of_mem hx);obtain⟨k,hk⟩:=List.getElem?_of_mem hx;exact(d k x hk).2
def sq(x:Nat):Lit := .int .u64 x
def dn(k:TypeId)(w:World)(b n:Nat)(S:List Nat):Prop:=
 ∃D,w.ownsMap (H:=Value) Tryz.prog k unitElem b n D∧S.Nodup∧Go.Maps.size D=S.length∧∀x,x<lim→(Go.Maps.has D (sq x)=true↔x∈S)
namespace dn
variable {k:TypeId} {w w':World} {b n:Nat} {S:List Nat}
theorem lt(h:dn k w b n S):b<w.heap.size:=by obtain⟨D,d,_⟩:=h;exact d.lt
theorem keep{T:Nat→Prop}(h:dn k w b n S)(hk:aD T w w')(p:¬ T b):dn k w' b n S:=by
 obtain⟨D,⟨g,c,d,j⟩,l⟩:=h;exact⟨D,⟨g,c,(hk.block b (aG d) p).trans d,j⟩,l⟩
theorem mono{d:Nat}(h:dn k w b n S)(u:n≤d):dn k w b d S:=by
 obtain⟨D,⟨g,c,j,l,p,q⟩,r⟩:=h;exact⟨D,⟨g,c,j,l,Nat.le_trans p u,q⟩,r⟩
theorem new(k:TypeId)(w:World)(b:Nat)(h:w.heap[b]?=some (.map #[] 0)):dn k w b 0 []:=
 ⟨.map [],⟨#[],0,h,⟨ξ,Go.MapKept.stamped_empty 0,ξ⟩,Nat.le_refl _,rfl⟩,List.nodup_nil,rfl,fun x _=>by simp[Go.Maps.has]⟩
theorem A7(x:Nat):WideAt.IsKeyLit (sq x):=by unfold sq;trivial
theorem xZ{x y:Nat}(h:sq x=sq y):x=y:=by
 unfold sq at h
 injection h with _ h
 omega
def add(S:List Nat)(x:Nat):List Nat:=if x∈S then S else x::S
theorem mem_add{S:List Nat}{x y:Nat}:y∈add S x↔y=x∨y∈S:=by
 unfold add;split
 ·rename_i h
  exact⟨.inr,fun e=>e.elim (fun e=>e▸h) id⟩
 ·simp
theorem update{P:Program}(H:P=Tryz.prog)(h:dn k w b n S)(K:Go.Maps.Keyed Tryz.prog k)(J:Tryz.prog.underlying k=some (.int .u64))(v:n<maxLen){l:Array Oper}{rest:List Oper}{o:Oper}{a:Act}{Q:Exit→Act→World→Prop}
 (I:o.guard=none){m x u:Operand}{t e:TypeId}(A:o.op=Op.mapUpdate t m x u)(N:P.underlying t=some (.map k e))
 (d:a.eval m=.map (some b)){y:Nat}(hx:a.eval x=.int .u64 y)(C:y<lim)(hv:a.eval u=.agg #[])
 (E:∀w',dn k w' b (n+1) (add S y)→aD (fun k=>k=b) w w'→wpList P l Q rest (a.put o.dst undef) w'):wpList P l Q (o::rest) a w:=by
 subst H;obtain⟨D,p,g,L,q⟩:=h;have B:(Lit.int .u64 (y:Int)).wf=true:=by
  have R:IntKind.u64.min=0:=rfl;have U:IntKind.u64.max=18446744073709551615:=rfl;unfold lim at C;simp only[Lit.wf,Bool.and_eq_true,decide_eq_true_eq];omega
 refine wpList_mapUpdate_own _ I m x u t A k e K N unitElem b n D d p v _ _ (sq y) hx hv (Go.Maps.keyOf_int_mk J B) _ [] unitElem_mk fun w' j r=>E w' ⟨_,j,?_,?_,fun z O=>?_⟩ (aD.of_grown r (fun k e=>by cases e;rfl))
 ·unfold add
  split
  ·exact g
  ·rename_i v;exact List.nodup_cons.2 ⟨v,g⟩
 ·rw[Go.Maps.size_put (p.tidy K),L]
  unfold add
  by_cases d:y∈S
  ·rw[if_pos ((q y C).2 d),if_pos d]
  ·rw[if_neg (fun e=>d ((q y C).1 e)),if_neg d];rfl
 ·rw[mem_add]
  by_cases hzy:z=y
  ·subst hzy
   rw[Go.Maps.has_put_same p.isMap (A7 z)];simp
  ·rw[Go.Maps.has_put_other (fun e=>hzy (xZ e)),q z O]
   simp[hzy]
theorem len{P:Program}(p:P=Tryz.prog)(h:dn k w b n S){d:Array Oper}{rest:List Oper}{o:Oper}{a:Act}{Q:Exit→Act→World→Prop}(q:o.guard=none){m:Operand}{t e:TypeId}
 (g:o.op=Op.call { callee:=Callee.builtin Builtin.len,args := #[m],argTypes := #[t] })(v:P.underlying t=some (.map k e))(r:a.eval m=.map (some b))
 (l:wpList P d Q rest (a.put o.dst (.int .i64 S.length)) w):wpList P d Q (o::rest) a w:=by
 subst p;obtain⟨D,j,_,u,_⟩:=h;exact wpList_len_own _ q m t g k e v unitElem b n D r j (by rw[u];exact l)
end dn
def du(x:Sp):List Value:=[.int .u64 x.1,.int .u64 x.2]
theorem ro(a b:Nat)(w:World):Calls Tryz.prog 125 #[.agg #[.int .u64 a,.int .u64 b]] w fun e w'=>e=.returned (.bool (decide (b<a)))∧Kz w w':=by
 go_enter Tryz.func125,Tryz.ntmps125
 go_wp2
 go_ret
 exact⟨rfl,(aD.refl _ _).alloc _⟩
def bU(w:World)(pb:Nat)(u:Value)(l:List Sp):Prop:=
 ∃A c,u=.slice A l.length c∧l.length≤c∧l.length≤4194304∧(0<l.length→∃g,A=some ⟨g,0,none⟩∧g<w.heap.size∧g≠pb ∧
  ∀(i:Nat) (s:Sp),l[i]?=some s→w.cell? ⟨g,i*2,none⟩=some (.int .u64 s.1)∧w.cell? ⟨g,i*2+1,none⟩=some (.int .u64 s.2)∧s.1<lim∧s.2<lim)
theorem bU.keep{w w':World}{q:Nat}{u:Value}{l:List Sp}(h:bU w q u l)(hk:aD (fun k=>k=q) w w'):bU w' q u l:=by
 obtain⟨A,c,e,x,y,B⟩:=h;refine⟨A,c,e,x,y,fun v=>?_⟩;obtain⟨g,e,d,j,C⟩:=B v;refine⟨g,e,Nat.lt_of_lt_of_le d hk.size,j,fun i s D=>?_⟩;obtain⟨c1,c2,r⟩:=C i s D;exact⟨(hk.cell (p:=⟨g,i*2,none⟩) d j).trans c1,(hk.cell (p:=⟨g,i*2+1,none⟩) d j).trans c2,r⟩
theorem vP{P:Program}{b p t:Nat}{R1 body:Code}{Q:Exit→Act→World→Prop}{a:Act}{w:World}(I:Act→World→Prop)(μ:Act→World→Nat)(J:Nat→Act→World→Prop)(Done:Act→World→Prop)(q:I a w)
 (r:∀a w,I a w→R1.wp P (kK fun d w'=>(d.eval (.tmp t)=.bool true∧J (μ a w) d w')∨(d.eval (.tmp t)=.bool false∧Done d w')) a w)
 (y:∀m a w,J m a w→body.wp P (kK fun d w'=>I d w'∧μ d w'<m) a w)
 (A:∀a w,Done a w→Q .normal a w):
 (Code.block b (Code.loop (Code.seq (Code.seq R1 (Code.cond (.tmp t) .skip (.exit b))) (Code.block p body)))).wp P Q a w:=by
 refine wp_block (wp_loop I μ q ?_);intro a w v;refine wp_seq (wp_seq (Code.wp_only (r a w v) fun j l h=>?_))
 rcases h with⟨g,x⟩|⟨g,u⟩
 ·refine wp_cond_true g (wp_skip (wp_block (Code.wp_only (y _ j l x) fun B C hh=>?_)))
  exact hh
 ·refine wp_cond_false g (wp_exit ?_)
  show Exit.inBlock b Q (.exit b) j l;simp only[Exit.inBlock,if_true];exact A _ _ u
theorem qC{l:List Sp}(h:iN l){i j:Nat}{s t:Sp}(w:i≤j)(r:l[i]?=some s)(p:l[j]?=some t):s.2≤t.2:=by
 rcases Nat.lt_or_ge i j with q|q
 ·obtain⟨d,u⟩:=List.getElem?_eq_some_iff.1 r
  obtain⟨g,v⟩:=List.getElem?_eq_some_iff.1 p;have:=List.pairwise_iff_getElem.1 h.apart i j d g q;have x:=h.some_ t (List.mem_of_getElem? p);rw[u,v]at this;omega
 ·have:i=j:=χ
  subst this;have:=Option.some.inj (r.symm.trans p);subst this;exact Nat.le_refl _
theorem zF{w:World}{pb:Nat}{u:Value}{l:List Sp}(hu:bU w pb u l)(hl:iN l)(p:Nat)(hp:p<lim):
 Calls Tryz.prog 126 #[.agg #[u],.int .u64 p] w fun e w'=>(∃i:Nat,e=.returned (.int .i64 i)∧i≤l.length∧(∀j s,j<i→l[j]?=some s→s.2<p)∧∀s,l[i]?=some s→p≤s.2)∧Kz w w':=by
 obtain⟨A,c,rfl,hc,cc,v⟩:=hu;unfold lim at hp;refine b9 Tryz.func126 Tryz.ntmps126 rfl ξ fun a K O D=>?_
 have h0:At a 0 (.agg #[.slice A l.length c]):=D 0 _ rfl;have h1:At a 1 (.int .u64 p):=D 1 _ rfl;clear D
 conv=>arg 2;whnf
 refine so (fun a1 w1=>aA (fun i=>i==2||i==4) a a1∧At a1 2 (.pointer (some ⟨w.heap.size,0,none⟩))∧w1=w.alloc (.cells #[.slice A l.length c] 175)) ?_ ?_
 ·clear v
  obtain⟨T,d⟩:=a;refine rl ?_
  iterate 2 with_reducible refine st ?_
  with_reducible refine ln ?_
  refine⟨rfl,ag,aq,rfl⟩
 rintro a1 w1 ⟨Z,h2,ad⟩;have a7:Kz w w1:=by rw[ad];exact(aD.refl _ _).alloc _
 obtain⟨z,hz⟩:∃z,z=w.heap.size:=⟨_,rfl⟩;rw[←hz]at h2;have bf:w1.cell? ⟨z,0,none⟩=some (.slice A l.length c):=by rw[ad,hz];exact b8 w [.slice A l.length c] 175 0 _ rfl
 have bl:z<w1.heap.size:=by rw[ad,hz];simp
 replace h1:=Z.Q7 h1 rfl;replace K:=Z.size.trans K;replace O:=Z.defers.trans O;clear Z h0 ad hz;refine so (fun a2 w2=>aA (fun i=>i==8||i==9||i==10||i==5||i==6) a1 a2∧At a2 5 (.int .i64 (0:Nat))∧At a2 6 (.int .i64 l.length)∧w2=w1.drew) ?_ ?_
 ·clear v a7
  obtain⟨T,d⟩:=a1;refine wp_region_still_lit δ δ ?_
  iterate 5 with_reducible refine sl ?_
  with_reducible refine wpStill_nil ?_
  refine⟨rfl,?_,?_,?_,rfl⟩
  ·exact ag
  ·show At _ 5 (.int .i64 0)
   exact aq
  ·exact aq
 rintro a2 w2 ⟨N,h5,h6,af⟩;have a8:Kz w w2:=by rw[af];exact a7.drew
 have cw:w2.cell? ⟨z,0,none⟩=some (.slice A l.length c):=by rw[af];exact bf
 have cd:z<w2.heap.size:=by rw[af];exact bl
 replace h1:=N.Q7 h1 rfl;replace h2:=N.Q7 h2 rfl;replace K:=N.size.trans K;replace O:=N.defers.trans O;clear N af bf a7 bl w1;refine wp_seq (vP (t:=13)
  (fun E w'=>aA (fun i=>i==5||i==6||i==7||(rg 11 28 i)) a2 E∧w'=w2∧∃i j:Nat,At E 5 (.int .i64 i)∧At E 6 (.int .i64 j)∧i≤j∧j≤l.length∧(∀k s,k<i→l[k]?=some s→s.2<p)∧∀k s,j≤k→l[k]?=some s→p≤s.2)
  (fun E _=>(intOf (E.eval (.tmp 6))-intOf (E.eval (.tmp 5))).toNat)
  (fun m E w'=>aA (fun i=>i==5||i==6||i==7||(rg 11 28 i)) a2 E∧w'=w2∧∃i j:Nat,At E 5 (.int .i64 i)∧At E 6 (.int .i64 j)∧i<j∧m=j-i∧j≤l.length∧(∀k s,k<i→l[k]?=some s→s.2<p)∧∀k s,j≤k→l[k]?=some s→p≤s.2)
  (fun E w'=>E.defers=[]∧E.tmps.size=30∧w'=w2∧∃i:Nat,At E 5 (.int .i64 i)∧i≤l.length∧(∀k s,k<i→l[k]?=some s→s.2<p)∧∀k s,i≤k→l[k]?=some s→p≤s.2)
  ⟨aA.refl _ _,rfl,0,l.length,h5,h6,Nat.zero_le _,Nat.le_refl _,fun k s hk _=>χ,fun k s hk hs=>by have:=(List.getElem?_eq_some_iff.1 hs).1;omega⟩ ?_ ?_ ?_)
 ·rintro X w3 ⟨S,rfl,i,j,I,L,bw,ac,B,y⟩
  have Q:=S.size.trans K;have ba:=S.defers.trans O;have e5:=I.eval χ;have e6:=L.eval χ;have W:=hh B;have V:=hh y;have HA:=hh S;obtain⟨t,ht⟩:∃b,decide (i<j)=b:=⟨_,rfl⟩;clear B y S v;refine Code.wp_only (R:=fun H w4=>aA (fun i=>i==11||i==12||i==13) X H∧At H 13 (.bool t)∧w4=w3) ?_ ?_
  ·clear e5 e6
   obtain⟨T,d⟩:=X;refine rl ?_
   iterate 3 with_reducible refine st ?_
   with_reducible refine ln ?_
   refine⟨rfl,ag,aq,rfl⟩
  rintro H w4 ⟨r,b5,rfl⟩;have a9:=b5.eval (by have:=r.size;omega);have hm:(intOf (X.eval (.tmp 6))-intOf (X.eval (.tmp 5))).toNat=j-i:=by rw[e5,e6];simp[intOf]<;>omega
  rw[hm];refine⟨rfl,?_⟩
  cases t with
  | true=>exact .inl ⟨a9,HA.out.t r,rfl,i,j,r.Q7 I rfl,r.Q7 L rfl,of_decide_eq_true ht,rfl,ac,W.out,V.out⟩
  | false =>
   have:i=j:=by have:=of_decide_eq_false ht;omega
   subst this;exact .inr ⟨a9,r.defers.trans ba,r.size.trans Q,rfl,i,r.Q7 I rfl,ac,W.out,V.out⟩
 ·rintro m X w3 ⟨S,rfl,i,j,I,L,bw,hm,ac,B,y⟩
  have Q:=S.size.trans K;have k1:=S.Q7 h1 rfl;have k2:=S.Q7 h2 rfl;obtain⟨q,hq⟩:∃q,q=(i+j) / 2:=⟨_,rfl⟩;have cp:i≤q:=χ
  have cs:q<j:=χ
  obtain⟨s,hs⟩:∃s,l[q]?=some s:=⟨_,Ez χ⟩;obtain⟨g,rfl,bt,_,bb⟩:=v χ;obtain⟨c1,c2,c3,c4⟩:=bb q s hs;have q1:w3.cell? ⟨g,q*2+1,none⟩=some (.int .u64 s.2):=(a8.cell (p:=⟨g,q*2+1,none⟩) bt (fun h=>h)).trans c2;have ci:g<w3.heap.size:=by have:=a8.size;omega
  unfold lim at c4;have bc:((i:Int)+(j:Int)) / 2=(q:Int):=χ
  have bz:((i:Int)+(j:Int)).tdiv 2=(q:Int):=by rw[Int.tdiv_eq_ediv_of_nonneg χ];exact bc
  have b1:IntKind.i64.wrap ((i:Int)+(j:Int))=(i:Int)+(j:Int):=i64_in _ χ;have b0:IntKind.i64.wrap (q:Int)=(q:Int):=i64_in _ χ;have cv:IntKind.i64.wrap ((q:Int)+1)=(q:Int)+1:=i64_in _ χ;have cu:q<l.length:=χ
  have b2:decide ((i:Int)+(j:Int) = -9223372036854775808)=false:=decide_eq_false χ;have cm:q≤c:=χ
  have W:=hh B;have V:=hh y;have HA:=hh S;have HS:=hh hs;have HM:=hh hm;clear B y S v bb c1 c2 hq hs hm;refine so (fun H w4=>aA (fun i=>i==14||i==15||i==16||i==17||i==7) X H∧At H 7 (.int .i64 q)∧w4=w3) ?_ ?_
  ·obtain⟨T,d⟩:=X
   refine rl ?_
   iterate 5 with_reducible refine st ?_
   with_reducible refine ln ?_
   refine⟨rfl,ag,aq,rfl⟩
  rintro H w4 ⟨r,k7,rfl⟩;clear bc bz b1 b0 b2;have bd:=r.size.trans Q;have j1:=r.Q7 k1 rfl;have j2:=r.Q7 k2 rfl;have j5:=r.Q7 I rfl;have j6:=r.Q7 L rfl;obtain⟨t,ht⟩:∃b,decide (s.2<p)=b:=⟨_,rfl⟩;refine so (fun a5 w5=>aA (fun i=>rg 18 25 i) H a5∧At a5 25 (.bool t)∧w5=w4) ?_ ?_
  ·clear k1 k2 I L r
   obtain⟨T,d⟩:=H;refine rl ?_
   iterate 8 with_reducible refine st ?_
   with_reducible refine ln ?_
   refine⟨rfl,ag,aq,rfl⟩
  rintro a5 w5 ⟨J,bm,rfl⟩;have a0:=J.size.trans bd;have Y:=bm.eval χ;have l5:=J.Q7 j5 rfl;have l6:=J.Q7 j6 rfl;have l7:=J.Q7 k7 rfl;have U:=hh (HA.out.trans ((r.mono (by intro j;simp;omega:∀x,_→(fun i=>i==7||(rg 14 25 i)) x=true)).t J) ζ);clear r J k1 k2 I L k7 j1 j2 j5 j6 bm
  cases t with
  | true =>
   refine wp_cond_true Y ?_;have cl:s.2<p:=of_decide_eq_true ht;refine Code.wp_only (R:=fun a6 w6=>aA (fun i=>i==26||i==27||i==5) a5 a6∧At a6 5 (.int .i64 ((q:Int)+1))∧w6=w5) ?_ ?_
   ·clear Y U
    obtain⟨T,d⟩:=a5;refine rl ?_
    iterate 3 with_reducible refine st ?_
    with_reducible refine ln ?_
    refine⟨rfl,ag,aq,rfl⟩
   rintro a6 w6 ⟨C,I,rfl⟩;have L:=C.Q7 l6 rfl;have be:=C.size.trans a0;have e5:=I.eval χ;have e6:=L.eval χ;have cb:At a6 5 (.int .i64 ((q+1:Nat):Int)):=by rw[show((q+1:Nat):Int)=(q:Int)+1 by omega];exact I
   refine⟨rfl,⟨U.out.t C,rfl,q+1,j,cb,L,χ,ac,fun k u hk hu=>?_,V.out⟩,?_⟩
   ·have:=qC hl (by omega:k≤q) hu HS.out;omega
   ·rw[e5,e6,HM.out];simp[intOf];omega
  | false =>
   refine wp_cond_false Y ?_;have cf:¬ s.2<p:=of_decide_eq_false ht;refine Code.wp_only (R:=fun a6 w6=>aA (fun i=>i==28||i==6) a5 a6∧At a6 6 (.int .i64 q)∧w6=w5) ?_ ?_
   ·clear Y U
    obtain⟨T,d⟩:=a5;refine rl ?_
    iterate 2 with_reducible refine st ?_
    with_reducible refine ln ?_
    refine⟨rfl,ag,aq,rfl⟩
   rintro a6 w6 ⟨C,L,rfl⟩;have I:=C.Q7 l5 rfl;have be:=C.size.trans a0;have e5:=I.eval χ;have e6:=L.eval χ;refine⟨rfl,⟨U.out.t C,rfl,i,q,I,L,χ,χ,W.out,fun k u hk hu=>?_⟩,?_⟩
   ·have:=qC hl hk HS.out hu;omega
   ·rw[e5,e6,HM.out];simp[intOf];omega
 ·rintro X w3 ⟨bo,b3,rfl,i,I,bx,B,y⟩
  with_reducible apply bu
  refine so (fun H w4=>At H 4 (.int .i64 i)∧H.tmps.size=30∧H.defers=[]∧w4=w3) ?_ ?_
  ·clear v B y
   obtain⟨T,d⟩:=X;refine rl ?_
   iterate 2 with_reducible refine st ?_
   with_reducible refine ln ?_
   refine⟨rfl,?_,by simpa using b3,bo,rfl⟩;exact aq
  rintro H w4 ⟨h4,b4,bp,rfl⟩;exact wp_ret (bk (t:=4) rfl h4 (by rw[b4];decide) bp ⟨⟨i,rfl,bx,B,fun s hs=>y i s (Nat.le_refl _) hs⟩,a8⟩)
end Go.Proofs.YtpblcjipmoblnaaGreatDoor
namespace Go.Proofs.YtpblcjipmoblnaaGreatDoor
open Go.RowKit Go.IntWalk Ck
open Classical in
noncomputable def dO(l:List Sp)(a b:Nat):Bool:=decide (∀p,a≤p→p≤b→dg l p)
theorem jg{l:List Sp}{a b:Nat}:dO l a b=true↔∀p,a≤p→p≤b→dg l p:=by unfold dO;simp
theorem uH{w:World}{pb:Nat}{u:Value}{l:List Sp}(hu:bU w pb u l)(hl:iN l)(a b:Nat)(ha:a<lim)(hb:b<lim)(bt:pb<w.heap.size):
 Calls Tryz.prog 102 #[.agg #[u],.agg #[.int .u64 a,.int .u64 b]] w fun e w'=>e=.returned (.bool (dO l a b))∧Kz w w':=by
 unfold lim at ha hb;refine b9 Tryz.func102 Tryz.ntmps102 rfl ξ fun ac Y W x=>?_
 have h0:At ac 0 (.agg #[u]):=x 0 _ rfl;have h1:At ac 1 (.agg #[.int .u64 a,.int .u64 b]):=x 1 _ rfl;clear x;obtain⟨A,c,rfl,hc,a8,q⟩:=hu
 conv=>arg 2;whnf
 refine so (fun a1 L=>aA (fun i=>i==2||i==3||i==4) ac a1∧At a1 2 (.pointer (some ⟨w.heap.size,0,none⟩))∧At a1 3 (.pointer (some ⟨w.heap.size+1,0,none⟩))∧L=(w.alloc (.cells #[.slice A l.length c] 175)).alloc (.cells #[.int .u64 a,.int .u64 b] 180)) ?_ ?_
 ·clear q
  obtain⟨T,d⟩:=ac;refine rl ?_
  iterate 3 with_reducible refine st ?_
  with_reducible refine ln ?_
  refine⟨rfl,ag,aq,aq,rfl⟩
 rintro a1 L ⟨V,U,h3,B⟩;have X:Kz w L:=by rw[B];exact((aD.refl _ _).alloc _).alloc _
 obtain⟨z,hz⟩:∃z,z=w.heap.size:=⟨_,rfl⟩;obtain⟨y,hy⟩:∃z,z=w.heap.size+1:=⟨_,rfl⟩;rw[←hz]at U;rw[←hy]at h3;have x0:L.cell? ⟨z,0,none⟩=some (.slice A l.length c):=by
  rw[B,hz];exact(((aD.refl (fun _=>False) _).alloc _).cell (p:=⟨w.heap.size,0,none⟩) ξ (fun h=>h)).trans (b8 w [.slice A l.length c] 175 0 _ rfl)
 have y0:L.cell? ⟨y,0,none⟩=some (.int .u64 a):=by rw[B,hy];have:=b8 (w.alloc (.cells #[.slice A l.length c] 175)) [.int .u64 a,.int .u64 b] 180 0 _ rfl;simpa using this
 have y1:L.cell? ⟨y,1,none⟩=some (.int .u64 b):=by rw[B,hy];have:=b8 (w.alloc (.cells #[.slice A l.length c] 175)) [.int .u64 a,.int .u64 b] 180 1 _ rfl;simpa using this
 have zs:z<L.heap.size∧y<L.heap.size:=by rw[B,hz,hy];simp;omega
 replace Y:=V.size.trans Y;replace W:=V.defers.trans W;have ba:bU L pb (.slice A l.length c) l:=bU.keep (w:=w) ⟨A,c,rfl,hc,a8,q⟩ (X.mono fun _ _ h=>h.elim);have HU:=hh ba;clear V h0 h1 B hz hy q ba;refine wp_seq (wp_seq (Code.wp_only (R:=fun a2 Z=>aA (fun i=>i==6||i==7) a1 a2∧At a2 7 (.bool (decide (b<a)))∧Kz L Z) ?_ ?_))
 ·obtain⟨T,d⟩:=a1
  refine rl ?_;with_reducible refine st ?_;refine Lz (fun K hK=>?_)
  go_simp;refine(ro a b L).mono ?_;rintro e Z ⟨rfl,r⟩;with_reducible refine hK _ _ (ln ?_)
  refine⟨rfl,ag,aq,r⟩
 rintro a2 Z ⟨D,k7,r⟩;have S:=D.size.trans Y;have Q:=D.defers.trans W;have e7:=k7.eval χ;have j2:=D.Q7 U rfl;have j3:=D.Q7 h3 rfl;have x0:=(r.cell (p:=⟨z,0,none⟩) zs.1 (fun h=>h)).trans x0;have y0:=(r.cell (p:=⟨y,0,none⟩) zs.2 (fun h=>h)).trans y0;have y1:=(r.cell (p:=⟨y,1,none⟩) zs.2 (fun h=>h)).trans y1;have N:z<Z.heap.size∧y<Z.heap.size:=⟨Nat.lt_of_lt_of_le zs.1 r.size,Nat.lt_of_lt_of_le zs.2 r.size⟩;have a0:=hh (HU.out.keep (r.mono fun _ _ h=>h.elim));have af:=hh (X.trans r (fun _ _ h=>h));clear D r X k7 zs
 by_cases hba:b<a
 ·rw[decide_eq_true hba]at e7
  refine wp_cond_true e7 ?_;refine so (fun C O=>At C 4 (.bool true)∧C.tmps.size=39∧C.defers=[]∧O=Z) ?_ ?_
  ·obtain⟨T,d⟩:=a2
   refine rl ?_;with_reducible refine st ?_;refine ln ?_
   refine⟨rfl,?_,by simpa using S,Q,rfl⟩;exact aq
  rintro C O ⟨h4,be,bc,rfl⟩;refine wp_ret ?_
  repeat (first|with_reducible apply b7|with_reducible apply bH)
  refine bk (t:=4) rfl h4 (by rw[be];decide) bc ⟨?_,af.out⟩;have e:dO l a b=true:=jg.2 fun p h1 U=>χ
  rw[e]
 ·rw[decide_eq_false hba]at e7
  refine wp_cond_false e7 (wp_skip ?_)
  repeat with_reducible apply bu
  refine so (fun C O=>aA (fun i=>i==5||(rg 8 11 i)) a2 C∧(∃i:Nat,At C 5 (.int .i64 i)∧i≤l.length∧(∀j s,j<i→l[j]?=some s→s.2<a)∧∀s,l[i]?=some s→a≤s.2)∧Kz Z O) ?_ ?_
  ·obtain⟨T,d⟩:=a2
   refine rl ?_
   iterate 3 with_reducible refine st ?_
   with_reducible refine Lz (fun K hK=>?_)
   go_simp;refine(zF a0.out hl a (by unfold lim;omega)).mono ?_;rintro e O ⟨⟨i,rfl,hi,h5,h6⟩,v⟩;with_reducible refine hK _ _ ?_;clear hK K
   have H5:=hh h5;have H6:=hh h6;clear h5 h6;with_reducible refine st ?_;refine ln ?_
   refine⟨rfl,ag,⟨i,aq,hi,H5.out,H6.out⟩,v⟩
  rintro C O ⟨E,⟨i,k5,hi,a9,a6⟩,v⟩;have J:=E.size.trans S;have I:=E.defers.trans Q;have l2:=E.Q7 j2 rfl;have l3:=E.Q7 j3 rfl;have x0:=(v.cell (p:=⟨z,0,none⟩) N.1 (fun h=>h)).trans x0;have y0:=(v.cell (p:=⟨y,0,none⟩) N.2 (fun h=>h)).trans y0;have y1:=(v.cell (p:=⟨y,1,none⟩) N.2 (fun h=>h)).trans y1;have bw:z<O.heap.size∧y<O.heap.size:=⟨Nat.lt_of_lt_of_le N.1 v.size,Nat.lt_of_lt_of_le N.2 v.size⟩;have bl:=a0.out.keep (v.mono fun _ _ h=>h.elim);have ad:=hh (uG hl (by omega:a≤b) a9 a6);have bb:=hh (af.out.trans v (fun _ _ h=>h));obtain⟨_,_,e,_,_,q⟩:=bl
  cases e
  clear E v a9 a6 j2 j3
  suffices H:(Code.wp Tryz.prog (bE Tryz.f102 [1,1,1,0]) (kK fun a4 w4=>At a4 4 (.bool (dO l a b))∧a4.tmps.size=39∧a4.defers=[]∧w4=O.drew) C O) from
   wp_seq (Code.wp_only H fun a4 w4 ⟨h4,bf,bd,bo⟩=>wp_ret (bk (t:=4) rfl h4 (by rw[bf];decide) bd ⟨rfl,by rw[bo];exact bb.out.drew⟩))
  conv=>arg 2;whnf
  by_cases hil:i<l.length
  ·obtain⟨s,hs⟩:=ge hil
   obtain⟨g,rfl,hg,_,a5⟩:=q χ;obtain⟨c1,c2,c3,c4⟩:=a5 i s hs;unfold lim at c3 c4;have bp:i≤c:=χ
   obtain⟨b1,e1⟩:∃t,decide (s.1≤a)=t:=⟨_,rfl⟩;obtain⟨b2,e2⟩:∃t,decide (b≤s.2)=t:=⟨_,rfl⟩;have HV:Hid (dO l a b=(b1&&b2)):=by
    show dO l a b=_;rw[←e1,←e2,Bool.eq_iff_iff];rw[jg,ad.out];simp only[Bool.and_eq_true,decide_eq_true_eq];constructor
    ·rintro⟨t,ht,h1,U⟩
     have:=Option.some.inj (hs.symm.trans ht);subst this;exact⟨h1,U⟩
    ·rintro⟨h1,U⟩
     exact⟨s,hs,h1,U⟩
   have bm:=al;have a7:decide (i<l.length)=true:=decide_eq_true hil;clear hs q a5;obtain⟨T,d⟩:=C;refine wp_region_still_lit δ δ ?_
   cases b1
   ·skip
    iterate 28 with_reducible refine sl ?_
    with_reducible refine wpStill_nil ?_
    refine⟨rfl,?_,by simpa using J,I,rfl⟩;rw[show dO l a b=false from HV.out];exact aq
   ·skip
    iterate 28 with_reducible refine sl ?_
    with_reducible refine wpStill_nil ?_
    refine⟨rfl,?_,by simpa using J,I,rfl⟩;rw[show dO l a b=b2 from HV.out.trans (Bool.true_and _)];exact aq
  ·have HV:Hid (dO l a b=false):=by
    show dO l a b=_;rw[Bool.eq_false_iff,Ne,jg,ad.out];rintro⟨t,ht,_⟩;exact hil (List.getElem?_eq_some_iff.1 ht).1
   have bm:=al;have a7:decide (i<l.length)=false:=decide_eq_false hil;clear q;obtain⟨T,d⟩:=C;refine wp_region_still_lit δ δ ?_
   iterate 28 with_reducible refine sl ?_
   with_reducible refine wpStill_nil ?_
   refine⟨rfl,?_,by simpa using J,I,rfl⟩;rw[show dO l a b=false from HV.out];exact aq
end Go.Proofs.YtpblcjipmoblnaaGreatDoor
namespace Go.Proofs.YtpblcjipmoblnaaGreatDoor
open Go.RowKit Go.IntWalk Ck
variable {B:Nat} {w:World}
def mS(c:Ck.au)(y:ByteArray)(m:Ck.Map):Bool := !decide (m.of=c.over)||(decide (y=c.QI)||decide (y=c.to) && !m.write)
theorem xR(w:World):(zeroValue 3).run Tryz.prog w=.ok (.int .i64 0) w:=δ
theorem vb{M:Nat}{cnt0 n0:Nat}(hB:B≤M)(hM:M<w.heap.size)(a:Act)(ed:a.tmps.size=85){zc:Nat}{c:Ck.au}(HC:Hid (∀w0,aD (fun k=>k=M) w w0→aL w0 zc 0 [.int .i64 c.pos,.string c.name,.string c.QI,.string c.to,.bool c.shared,.string c.over,.int .i64 c.how,.int .u64 c.QL]))(h3:At a 3 (.pointer (some ⟨zc,0,none⟩)))(h5:At a 5 (.map (some M)))
 {zy:Nat}{y:aj}{A_rulesy:Option Addr}{K g:Nat}{A_mapsy:Option Addr}(HY:Hid (∀w0,aD (fun k=>k=M) w w0→aL w0 zy 0 [.int .i64 y.pos,.string y.name,.int .u64 y.QO,.bool y.stopped,.slice A_mapsy y.QF.length g,.slice A_rulesy y.QN.length K]))(h7:At a 7 (.pointer (some ⟨zy,0,none⟩)))(c2:y.name.size≤maxLen)
 (hs:aJ B 5 cU w (.slice A_mapsy y.QF.length g) y.QF){n:Nat}{cnt:ByteArray→Nat}{p:ByteArray→Bool}{bx:ByteArray→Prop}(hn:n≤8796093022208)(hE:dC w M n (.int .i64 0) (fun s =>.int .i64 (cnt s)) p)(U:∀s,cnt s≤n∧(0<cnt s↔bx s))(Q:Exit→Act→World→Prop)
 (hQ:∀a' w' (n':Nat) (q:ByteArray→Nat) p',aA (fun i=>i==4||i==9||(rg 23 56 i)) a a'→n'≤n+y.QF.length→dC w' M n' (.int .i64 0) (fun s =>.int .i64 (q s)) p'→(∀s,q s≤n'∧(0<q s↔(bx s∨(s=y.name∧∃m∈y.QF,m.of=c.over))))→(∀m∈y.QF,mS c y.name m=true)→aD (fun k=>k=M) w w'→Q .normal a' w')
 (hR:∀a' w',At a' 4 (.bool false)→a'.tmps.size=85→a'.defers=a.defers→(∃m∈y.QF,mS c y.name m=false)→aD (fun k=>k=M) w w'→Q .ret a' w'):
 (bE Tryz.f103 [1,1,0,1,0,0,1,1,0,0,1]).wp Tryz.prog Q a w:=by
 have e6:=hs;obtain⟨_,_,e,e5,d9,hl⟩:=hs
 cases e
 unfold top at d9;have hq:=HY.out _ (aD.refl _ _) 4 _ rfl
 conv=>arg 2;whnf
 refine so (fun J w1=>aA (fun i=>(rg 23 26 i)) a J∧At J 24 (.slice A_mapsy y.QF.length g)∧At J 25 (.int .i64 y.QF.length)∧At J 26 (.int .i64 0)∧w1=w) ?_ ?_
 ·clear hl hE U HC HY
  obtain⟨T,d⟩:=a;refine rl ?_
  iterate 4 with_reducible refine st ?_
  with_reducible refine ln ?_
  refine⟨rfl,ag,aq,aq,aq,rfl⟩
 rintro a0 w0 ⟨L,en,em,ef,rfl⟩;have c3:a0.tmps.size=85:=L.size.trans ed;replace h3:=L.Q7 h3 rfl;replace h5:=L.Q7 h5 rfl;replace h7:=L.Q7 h7 rfl;refine bj y.QF.length (fun i=>i==4||i==9||(rg 26 56 i)) (fun i=>i==4||i==9||(rg 28 55 i)) (fun k _ w'=>∃(n':Nat) (q:ByteArray→Nat) (p':ByteArray→Bool),n'≤n+k∧dC w' M n' (.int .i64 0) (fun s =>.int .i64 (q s)) p'∧(∀s,q s≤n'∧(0<q s↔(bx s∨(s=y.name∧∃m∈y.QF.take k,m.of=c.over))))∧(∀m∈y.QF.take k,mS c y.name m=true)∧aD (fun k=>k=M) w0 w') χ ef em ψ rfl
  ζ χ ψ (fun k J V w S hI=>hI) ⟨n,cnt,p,χ,hE,fun s=>⟨(U s).1,by rw[(U s).2];simp⟩,ξ,aD.refl _ _⟩ ?_ ?_
 ·rintro k J wr cw S eg ⟨n1,l,p1,c1,X,D,E,hk⟩
  obtain⟨bl,off,rfl,d7,bp⟩:=hl χ;obtain⟨m,hx⟩:=ge cw;obtain⟨hc,eu⟩:=(aF B _ _) _ _ _ _ _ (hk.below (B:=B) χ (fun _ hi e=>χ)) d7 (bp k m hx);have q0:=hc.c0;have q1:=hc 1 _ rfl;have q2:=hc 2 _ rfl;have q3:=hc 3 _ rfl;have q4:=hc 4 _ rfl;have dk:=S.Q7 h3 rfl;have dt:=S.Q7 h5 rfl;have d1:=S.Q7 h7 rfl;have d2:=S.Q7 en rfl;have c4:J.tmps.size=85:=S.size.trans c3;have es:=hk.size;have eq:bl<wr.heap.size:=χ
  have er:k≤g:=χ
  have cs:J.defers=a0.defers:=S.defers;have HX:=hh hx;have HK:=hh hk;have HA:=hh S;have HE:=hh X;have I:=hh D;have cl:=hh E;have e2:=hh hE;have ep:=hh U;have e1:=hh bp;have cx:m∈y.QF:=List.mem_of_getElem? hx;clear hx hk hc S bp X D E hE U hl;refine so (fun V w2=>aA (fun i=>i==28||i==29||i==9) J V∧At V 9 (.pointer (some ⟨wr.heap.size,0,none⟩))∧w2=wr.alloc (Obj.cells #[.int .i64 m.pos,.string m.of,.int .u64 m.Q7,.bool m.write,.bool m.exec] 71)) ?_ ?_
  ·clear HC HY
   obtain⟨T,d⟩:=J;refine rl ?_
   iterate 4 with_reducible refine st ?_
   with_reducible refine ln ?_
   refine⟨rfl,ag,aq,rfl⟩
  rintro V wo ⟨H,b2,Z⟩;obtain⟨z,hz⟩:∃z,z=wr.heap.size:=⟨_,rfl⟩;rw[←hz]at b2;have b1:aL wo z 0 [.int .i64 m.pos,.string m.of,.int .u64 m.Q7,.bool m.write,.bool m.exec]:=by rw[Z,hz];exact b8 _ _ _
  have b0:Kz wr wo:=by rw[Z];exact(aD.refl _ _).alloc _
  have e9:z≠M:=by have:=HE.out.lt;omega
  have fc:z<wo.heap.size:=by rw[Z,hz];simp
  have Y:aD (fun k=>k=M) w0 wo:=HK.out.trans b0 (fun _ _ h=>h.elim);have a8:=hh (HE.out.keep b0 (fun h=>h));have xc:=HC.out _ Y;have xy:=HY.out _ Y;have a6:V.tmps.size=85:=H.size.trans c4;have c8:=H.Q7 dk rfl;have c9:=H.Q7 dt rfl;have di:=H.Q7 d1 rfl;have af:V.defers=a0.defers:=H.defers.trans cs;have cb:Hid (aA (fun i=>i==4||i==9||(rg 28 55 i)) J V):=H.m;have a9:=hh Y;clear Z hz b0 HE HK H Y q0 q1 q2 q3 q4 d2 eg dk dt d1;have ey:=b1 1 _ rfl;have eo:=b1 3 _ rfl;have ez:=xc 5 _ rfl;have ew:=xc 2 _ rfl;have e0:=xc 3 _ rfl;have ex:=xy 1 _ rfl;clear xc xy b1;obtain⟨bo,W⟩:∃b,b=decide (m.of=c.over):=⟨_,rfl⟩;obtain⟨bf,bb⟩:∃b,b=decide (y.name=c.QI):=⟨_,rfl⟩;obtain⟨bt,bc⟩:∃b,b=decide (y.name=c.to):=⟨_,rfl⟩;obtain⟨bw,bd⟩:∃b,b=m.write:=⟨_,rfl⟩;rw[←bd]at eo;have b3:(m.of.toList==c.over.toList)=bo:=by rw[W];exact aw _ _
  have d3:(m.of.toList !=c.over.toList)=!bo:=by rw[←b3];rfl
  have b4:(y.name.toList==c.QI.toList)=bf:=by rw[bb];exact aw _ _
  have d4:(y.name.toList !=c.QI.toList)=!bf:=by rw[←b4];rfl
  have b5:(y.name.toList==c.to.toList)=bt:=by rw[bc];exact aw _ _
  have d5:(y.name.toList !=c.to.toList)=!bt:=by rw[←b5];rfl
  have ac:Hid (mS c y.name m=(!bo||(bf||bt && !bw))):=by rw[W,bb,bc,bd];rfl
  have cf:=hh W;clear W bb bc bd;refine wp_seq (wp_seq (Code.wp_only (R:=fun a3 w3=>aA (fun i=>(rg 30 34 i)) V a3∧At a3 34 (.bool (!bo))∧w3=wo) ?_ ?_))
  ·clear HC HY b4 d4 b5 d5
   obtain⟨T,d⟩:=V;refine rl ?_
   iterate 5 with_reducible refine st ?_
   with_reducible refine ln ?_
   refine⟨rfl,ag,aq,rfl⟩
  rintro a3 w3 ⟨A,ds,rfl⟩;have cp:=ds.eval (by rw[A.size,a6];decide);have a7:=A.size.trans a6;have c5:=A.Q7 c8 rfl;have c6:=A.Q7 c9 rfl;have c7:=A.Q7 di rfl;have ee:=A.Q7 b2 rfl;have cu:=A.defers.trans af;have N:Hid (aA (fun i=>i==4||i==9||(rg 28 55 i)) J a3):=cb.out.t A;clear A c8 c9 di b2 cb af
  cases bo
  ·refine wp_cond_true cp (wp_exit ?_)
   repeat with_reducible apply g9
   simp only[cC,if_true];have ea:m.of≠c.over:=of_decide_eq_false cf.out.symm;refine⟨N.out,n1,l,p1,χ,a8.out,fun s=>⟨(I.out s).1,?_⟩,?_,a9.out⟩
   ·rw[(I.out s).2,aP HX.out]
    simp[ea]
   ·rw[aP HX.out]
    intro x hx
    rcases List.mem_append.1 hx with hx|hx
    ·exact cl.out x hx
    ·have e:x=m:=by simpa using hx
     subst e;rw[ac.out];rfl
  ·refine wp_cond_false cp (wp_skip ?_)
   with_reducible apply bu
   refine wp_seq (wp_seq (Code.wp_only (R:=fun a4 w4=>aA (fun i=>(rg 35 50 i)) a3 a4∧At a4 50 (.bool (!bf&&(!bt||bw)))∧w4=w3) ?_ ?_))
   ·clear HC HY b3 d3
    have e7:=al;obtain⟨T,d⟩:=a3;refine rl ?_
    cases bf<;>cases bt<;>cases bw
    all_goals
     iterate 16 with_reducible refine st ?_
     with_reducible refine ln ?_
     refine⟨rfl,?_,?_,rfl⟩
     ·exact ag
     ·try simp only[Bool.not_true,Bool.not_false,Bool.true_and,Bool.false_and,Bool.true_or,Bool.false_or,Bool.or_true,Bool.or_false,Bool.and_true,Bool.and_false]
      exact aq
   rintro a4 w4 ⟨C,d0,rfl⟩;have ba:=d0.eval (by rw[C.size,a7];decide);have r:=C.size.trans a7;have fd:=C.Q7 c5 rfl;have fe:=C.Q7 c6 rfl;have ff:=C.Q7 c7 rfl;have cv:=C.defers.trans cu;have cc:Hid (aA (fun i=>i==4||i==9||(rg 28 55 i)) J a4):=N.out.t C;clear C c5 c6 c7 ee N;obtain⟨cm,O⟩:∃b,b=(!bf&&(!bt||bw)):=⟨_,rfl⟩;rw[←O]at ba;have ad:mS c y.name m=!cm:=by rw[ac.out,O];cases bf<;>cases bt<;>cases bw<;>rfl
   have cd:=hh ad;clear ad O b3 d3 b4 d4 b5 d5
   cases cm
   ·refine wp_cond_false ba (wp_skip ?_)
    with_reducible apply bu
    have d8:=(I.out y.name).1;obtain⟨cy,be⟩:∃u,u=l y.name:=⟨_,rfl⟩;rw[←be]at d8;have ci:=hh be;clear be;refine Code.wp_only (R:=fun a5 w5=>aA (fun i=>(rg 51 55 i)) a4 a5∧dC w5 M (n1+1) (.int .i64 0) (fun t=>if t=y.name then .int .i64 ((cy:Int)+1)else .int .i64 (l t)) (fun t=>decide (t=y.name)||p1 t)∧aD (fun k=>k=M) w4 w5) ?_ ?_
    ·clear HC HY
     obtain⟨T,d⟩:=a4;refine rl ?_
     iterate 3 with_reducible refine st ?_
     refine dC.lookup rfl a8.out rfl rfl Tryz.underlying224 xR (At.eval (by exact aq) (by have:=r;simp at this⊢; omega)) (At.eval (by exact aq) (by have:=r;simp at this⊢; omega)) c2 ?_;rw[←ci.out];simp only[Act.put];have e8:IntKind.i64.wrap ((cy:Int)+1)=(cy:Int)+1:=IntWalk.i64_in _ χ;with_reducible refine st ?_
     refine dC.update rfl a8.out (by unfold maxLen;omega) rfl rfl Tryz.underlying224 (At.eval (by exact aq) (by have:=r;simp at this⊢; omega)) (At.eval (by exact aq) (by have:=r;simp at this⊢; omega)) c2 (v := .int .i64 ((cy:Int)+1)) (At.eval (by exact aq) (by have:=r;simp at this⊢; omega)) ?_;intro w5 bm bz;with_reducible refine ln ?_
     refine⟨rfl,?_,bm,bz⟩;simp only[Act.put]
     (repeat (first|with_reducible apply aA.put|with_reducible apply aA.set))<;>first|with_reducible exact aA.refl _ _|rfl
    rintro a5 w5 ⟨d6,bm,bz⟩;have eb:m.of=c.over:=of_decide_eq_true cf.out.symm;refine⟨cc.out.t d6,n1+1,fun t=>if t=y.name then l y.name+1 else l t,fun t=>decide (t=y.name)||p1 t,χ,?_,fun s=>⟨?_,?_⟩,?_,a9.out.trans bz (fun _ _ e=>e)⟩
    ·have e:(fun t=>if t=y.name then Value.int .i64 ((cy:Int)+1)else Value.int .i64 (l t))=fun t=>Value.int .i64 ((if t=y.name then l y.name+1 else l t:Nat):Int):=by
      funext t
      by_cases ht:t=y.name
      ·simp[ht,ci.out]
      ·simp[ht]
     rw[←e];exact bm
    ·by_cases hsy:s=y.name
     ·simp only[hsy,if_true];have:=(I.out y.name).1;omega
     ·simp only[hsy,if_false];have:=(I.out s).1;omega
    ·rw[aP HX.out]
     by_cases hsy:s=y.name
     ·simp only[hsy,if_true]
      exact⟨fun _ =>.inr ⟨trivial,m,ξ,eb⟩,fun _=>χ⟩
     ·simp only[hsy,if_false]
      rw[(I.out s).2];simp[hsy]
    ·rw[aP HX.out]
     intro x hx
     rcases List.mem_append.1 hx with hx|hx
     ·exact cl.out x hx
     ·have e:x=m:=by simpa using hx
      subst e;exact cd.out
   ·refine wp_cond_true ba ?_
    refine so (fun a5 w5=>At a5 4 (.bool false)∧a5.tmps.size=85∧a5.defers=a4.defers∧w5=w4) ?_ ?_
    ·obtain⟨T,d⟩:=a4
     refine rl ?_;with_reducible refine st ?_;refine ln ?_
     refine⟨rfl,?_,?_,rfl,rfl⟩
     ·exact aq
     ·simpa using r
    rintro a5 w5 ⟨k4,k5,k6,rfl⟩;refine wp_ret ?_
    repeat with_reducible apply bH
    exact hR _ _ k4 k5 (k6.trans (cv.trans L.defers)) ⟨m,cx,cd.out⟩ a9.out
 ·rintro a' w' S ⟨n1,l,p1,c1,X,D,E,hk⟩
  rw[List.take_length]at D E;exact hQ _ _ _ _ _ ((L.m).t S) c1 X D E hk
theorem yL(m:Ck.Map)(c:Ck.au)(d:Nat)(w:World)(h:d<w.heap.size)(q:w.cell? ⟨d,5,none⟩=some (.string c.over)):
 Calls Tryz.prog 128 #[.agg #[.int .i64 m.pos,.string m.of,.int .u64 m.Q7,.bool m.write,.bool m.exec],.pointer (some ⟨d,0,none⟩)] w fun e w'=>e=.returned (.bool (decide (m.of=c.over)))∧Kz w w':=by
 have g:(m.of.toList==c.over.toList)=decide (m.of=c.over):=aw _ _
 go_enter Tryz.func128,Tryz.ntmps128
 go_wp2
 go_ret
 exact⟨rfl,(aD.refl _ _).alloc _⟩
theorem tv{A:Option Addr}{cc:Nat}{l:List Ck.Map}(hs:aJ B 5 cU w (.slice A l.length cc) l)(hB:B≤w.heap.size)(c:Ck.au)(X:Nat)(hz:X<w.heap.size)(q:w.cell? ⟨X,5,none⟩=some (.string c.over)):
 Calls Tryz.prog 147 #[.slice A l.length cc,.func (.func 128) #[] #[.pointer (some ⟨X,0,none⟩)]] w fun e w'=>(∃i:Int,e=.returned (.int .i64 i)∧(0≤i↔∃m∈l,m.of=c.over))∧Kz w w':=by
 obtain⟨_,_,e,b0,bm,hl⟩:=hs
 cases e
 unfold top at bm;refine b9 Tryz.func147 Tryz.ntmps147 rfl ξ fun a y v r=>?_
 have V:At a 0 (.slice A l.length cc):=r 0 _ rfl;have O:At a 1 (.func (.func 128) #[] #[.pointer (some ⟨X,0,none⟩)]):=r 1 _ rfl;clear r
 conv=>arg 2;whnf
 refine so (fun Y w1=>aA (fun i=>i==4) a Y∧w1=w) ?_ ?_
 ·clear hl
  obtain⟨T,d⟩:=a;refine rl ?_;with_reducible refine st ?_;refine ln ?_
  refine⟨rfl,ag,rfl⟩
 rintro Y w1 ⟨g,rfl⟩;replace V:=g.Q7 V rfl;replace O:=g.Q7 O rfl;replace y:=g.size.trans y;replace v:=g.defers.trans v;clear g;refine wp_seq (wp_seq (Code.wp_only (R:=fun Z w2=>aA (fun i=>i==6||i==7||i==8) Y Z∧At Z 7 (.int .i64 l.length)∧At Z 8 (.int .i64 0)∧w2=w1) ?_ ?_))
 ·clear hl
  obtain⟨T,d⟩:=Y;refine rl ?_
  iterate 3 with_reducible refine st ?_
  with_reducible refine ln ?_
  refine⟨rfl,ag,aq,aq,rfl⟩
 rintro Z w2 ⟨C,bc,bb,rfl⟩;replace V:=C.Q7 V rfl;replace O:=C.Q7 O rfl;replace y:=C.size.trans y;replace v:=C.defers.trans v;clear C;refine bj l.length (fun i=>i==4||i==5||(rg 8 18 i)) (fun i=>i==4||i==5||(rg 10 17 i)) (fun k _ w'=>(∀m∈l.take k,m.of≠c.over)∧Kz w2 w') χ bb bc ψ rfl
  ζ χ ψ (fun k Y Z w g hI=>hI) ⟨ξ,aD.refl _ _⟩ ?_ ?_
 ·rintro k a3 wr bf g bp ⟨H,hk⟩
  obtain⟨bl,off,rfl,be,ac⟩:=hl χ;obtain⟨m,hx⟩:=ge bf;obtain⟨W,bz⟩:=(aF B _ _) _ _ _ _ _ (hk.below (B:=B) χ (fun _ hi e=>e)) be (ac k m hx);have q0:=W.c0;have q1:=W 1 _ rfl;have q2:=W 2 _ rfl;have q3:=W 3 _ rfl;have q4:=W 4 _ rfl;have a8:=g.Q7 V rfl;have a9:=g.Q7 O rfl;have I:=g.size.trans y;have E:=g.defers.trans v;have bx:=hk.size;have bt:bl<wr.heap.size:=χ
  have bw:k≤cc:=χ
  have Q:=hh (yL m c X wr χ ((hk.cell (p:=⟨X,5,none⟩) hz (fun h=>h)).trans q));have HX:=hh hx;have bd:=hh H;have HK:=hh hk;have HA:=hh g;clear hx H hk g W ac hl;refine so (fun a4 w4=>aA (fun i=>i==10||i==5) a3 a4∧At a4 5 (.int .i64 k)∧w4=wr) ?_ ?_
  ·obtain⟨T,d⟩:=a3
   refine rl ?_
   iterate 2 with_reducible refine st ?_
   with_reducible refine ln ?_
   refine⟨rfl,ag,aq,rfl⟩
  rintro a4 w4 ⟨u,bo,rfl⟩;have b2:=u.Q7 a8 rfl;have b3:=u.Q7 a9 rfl;have a0:=u.size.trans I;have ad:=u.defers.trans E;refine so (fun a5 w5=>aA (fun i=>(rg 11 16 i)) a4 a5∧At a5 16 (.bool (decide (m.of=c.over)))∧Kz w4 w5) ?_ ?_
  ·clear a8 a9 bp u
   obtain⟨T,d⟩:=a4;refine rl ?_
   iterate 5 with_reducible refine st ?_
   with_reducible refine Lz (fun K hK=>?_)
   go_simp;refine Q.out.mono ?_;rintro e w5 ⟨rfl,N⟩;with_reducible refine hK _ _ (ln ?_)
   refine⟨rfl,ag,aq,N⟩
  rintro a5 w5 ⟨D,ba,N⟩;have a7:=D.size.trans a0;have L:=ba.eval χ;have b1:=D.Q7 bo rfl
  by_cases hov:m.of=c.over
  ·rw[decide_eq_true hov]at L
   refine wp_cond_true L ?_;refine so (fun J w6=>At J 4 (.int .i64 k)∧J.tmps.size=19∧J.defers=[]∧w6=w5) ?_ ?_
   ·have af:=D.defers.trans ad
    clear D;obtain⟨T,d⟩:=a5;refine rl ?_
    iterate 2 with_reducible refine st ?_
    with_reducible refine ln ?_
    refine⟨rfl,?_,by simpa using a7,af,rfl⟩;exact aq
   rintro J w6 ⟨h4,U,S,rfl⟩;refine wp_ret ?_
   repeat (first|with_reducible apply b7|with_reducible apply bH)
   refine bk (t:=4) rfl h4 (by rw[U];decide) S ⟨⟨_,rfl,⟨fun _=>⟨m,List.mem_of_getElem? HX.out,hov⟩,fun _=>χ⟩⟩,HK.out.trans N (fun _ _ e=>e)⟩
  ·rw[decide_eq_false hov]at L
   refine wp_cond_false L (wp_skip ?_);refine⟨(u.m).t D,fun x hx=>?_,HK.out.trans N (fun _ _ e=>e)⟩;rw[aP HX.out]at hx
   rcases List.mem_append.1 hx with hx|hx
   ·exact bd.out x hx
   ·have e:x=m:=by simpa using hx
    subst e;exact hov
 ·rintro a3 w3 g ⟨H,hk⟩
  rw[List.take_length]at H;have I:=g.size.trans y;have E:=g.defers.trans v;clear g V O bb bc hl;show Code.wp _ _ _ _ _;refine so (fun J w6=>At J 4 (.int .i64 (-1))∧J.tmps.size=19∧J.defers=[]∧w6=w3) ?_ ?_
  ·obtain⟨T,d⟩:=a3
   refine rl ?_;with_reducible refine st ?_;refine ln ?_
   refine⟨rfl,?_,by simpa using I,E,rfl⟩;exact aq
  rintro J w6 ⟨h4,U,S,rfl⟩;refine wp_ret (bk (t:=4) rfl h4 (by rw[U];decide) S ⟨⟨_,rfl,⟨fun h=>χ,fun⟨m,O,h2⟩=>absurd h2 (H m O)⟩⟩,hk⟩)
theorem pS{A:Option Addr}{g:Nat}{l:List Ck.Map}(v:aJ B 5 cU w (.slice A l.length g) l)(u:B≤w.heap.size)(c:Ck.au)(d:Nat)(x:d<w.heap.size)(q:w.cell? ⟨d,5,none⟩=some (.string c.over)):
 Calls Tryz.prog 127 #[.slice A l.length g,.func (.func 128) #[] #[.pointer (some ⟨d,0,none⟩)]] w fun e w'=>e=.returned (.bool (l.any fun m=>decide (m.of=c.over)))∧Kz w w':=by
 go_enter Tryz.func127,Tryz.ntmps127
 go_wp2_with fail
 refine(tv v u c d x q).mono ?_;rintro e w' ⟨⟨i,rfl,h⟩,hk⟩;have j:=hh h;have p:=hh hk;clear h hk
 go_wp2
 go_ret
 refine⟨?_,p.out⟩;have r:decide (0≤i)=l.any fun m=>decide (m.of=c.over):=by
  rw[Bool.eq_iff_iff,decide_eq_true_eq,j.out,List.any_eq_true];simp
 simp[←r]
theorem lS{P:aC}{c:Ck.au}:gI P c=((P.Q3.all fun x=>x.QF.all fun m=>mS c x.name m)&&(P.Q4.all fun x =>!x.QF.any fun m=>decide (m.of=c.over))&&(P.Q3.any fun x=>decide (x.name=c.QI)&&x.QF.any fun m=>decide (m.of=c.over))&&(P.Q3.any fun x=>decide (x.name=c.to)&&x.QF.any fun m=>decide (m.of=c.over))):=by
 have e:(fun x:Ck.bA=>x.QF.all fun m =>!decide (m.of=c.over))=fun x =>!x.QF.any fun m=>decide (m.of=c.over):=by
  funext x
  rw[List.not_any_eq_all_not]
 unfold gI;rw[e];rfl
def sF(l:List aj)(c:Ck.au)(s:ByteArray):Prop:=∃x∈l,x.name=s∧∃m∈x.QF,m.of=c.over
theorem uz{l:List aj}{c:Ck.au}{s:ByteArray}:sF l c s↔(l.any fun x=>decide (x.name=s)&&x.QF.any fun m=>decide (m.of=c.over))=true:=by
 simp[sF,List.any_eq_true]
theorem ss{pb:Nat}{v:aR}{P:aC}{W:Int→Int}{L:List Wr}(h:aE B w pb v P W L){c:Ck.au}(C:c.Ok):
 Calls Tryz.prog 103 #[.pointer (some ⟨pb,0,none⟩),.agg #[.int .i64 c.pos,.string c.name,.string c.QI,.string c.to,.bool c.shared,.string c.over,.int .i64 c.how,.int .u64 c.QL]] w fun e w'=>e=.returned (.bool (gI P c))∧Kz w w':=by
 have f8:=h.lt;have f5:=h.base;have fl:=@run_makeMap Tryz.prog;refine b9 Tryz.func103 Tryz.ntmps103 rfl ξ fun a bw bc N=>?_
 have h0:At a 0 (.pointer (some ⟨pb,0,none⟩)):=N 0 _ rfl;have h1:At a 1 (.agg #[.int .i64 c.pos,.string c.name,.string c.QI,.string c.to,.bool c.shared,.string c.over,.int .i64 c.how,.int .u64 c.QL]):=N 1 _ rfl;clear N
 conv=>arg 2;whnf
 refine so (fun a1 w1=>aA (fun i=>i==3||i==4) a a1∧At a1 3 (.pointer (some ⟨w.heap.size,0,none⟩))∧w1=w.alloc (.cells #[.int .i64 c.pos,.string c.name,.string c.QI,.string c.to,.bool c.shared,.string c.over,.int .i64 c.how,.int .u64 c.QL] 55)) ?_ ?_
 ·clear C
  obtain⟨T,d⟩:=a;refine rl ?_
  iterate 2 with_reducible refine st ?_
  with_reducible refine ln ?_
  refine⟨rfl,ag,aq,rfl⟩
 rintro a1 w1 ⟨b4,h3,ci⟩;have c8:Kz w w1:=by rw[ci];exact(aD.refl _ _).alloc _
 obtain⟨U,cm⟩:∃z,z=w.heap.size:=⟨_,rfl⟩;rw[←cm]at h3;have c3:aL w1 U 0 [.int .i64 c.pos,.string c.name,.string c.QI,.string c.to,.bool c.shared,.string c.over,.int .i64 c.how,.int .u64 c.QL]:=by rw[ci,cm];exact b8 _ _ _
 have er:U<w1.heap.size:=by rw[ci,cm];simp
 replace h0:=b4.Q7 h0 rfl;replace bw:=b4.size.trans bw;replace bc:=b4.defers.trans bc;clear b4 ci h1;refine so (fun a2 w2=>aA (fun i=>i==12||i==5) a1 a2∧At a2 5 (.map (some w1.heap.size))∧w2=w1.alloc (.map #[] 0)) ?_ ?_
 ·clear C c3
  obtain⟨T,d⟩:=a1;refine rl ?_
  iterate 2 with_reducible refine st ?_
  with_reducible refine ln ?_
  refine⟨rfl,ag,aq,rfl⟩
 rintro a2 w2 ⟨Z,h5,d0⟩;have bm:Kz w1 w2:=by rw[d0];exact(aD.refl _ _).alloc _
 obtain⟨M,hM⟩:∃z,z=w1.heap.size:=⟨_,rfl⟩;rw[←hM]at h5;have af:dC w2 M 0 (.int .i64 0) (fun _ =>.int .i64 0) (fun _=>false):=dC.new _ _ _ (by rw[d0,hM];exact heap_alloc_new _ _);have d8:M≠U:=χ
 have f7:w.heap.size≤M:=by have:=c8.size;omega
 have f6:M<w2.heap.size:=af.lt;have dk:Kz w w2:=c8.trans bm (fun _ _ h=>h);have HC:Hid (∀w0,aD (fun k=>k=M) w2 w0→aL w0 U 0 [.int .i64 c.pos,.string c.name,.string c.QI,.string c.to,.bool c.shared,.string c.over,.int .i64 c.how,.int .u64 c.QL]):=fun w0 hk=>(c3.keep bm er (fun h=>h)).keep hk (by have:=bm.size;omega) (fun e=>d8 e.symm)
 have a0:=h.new dk;replace h0:=Z.Q7 h0 rfl;replace h3:=Z.Q7 h3 rfl;replace bw:=Z.size.trans bw;replace bc:=Z.defers.trans bc;have d3:=hh dk;have e9:B≤M:=χ
 have f4:B≤w2.heap.size:=χ
 have f3:U<w2.heap.size:=by have:=bm.size;omega
 have fp:pb≠M:=χ
 clear Z d0 hM fl c8 bm dk h c3 cm er d8;obtain⟨A,cc,hu,ef,cd,hl⟩:=a0.QP.Q3;unfold top at cd;have hq:w2.cell? ⟨pb,5,none⟩=some v.Q3:=a0.cell rfl;rw[hu]at hq;clear hu;refine wp_seq (wp_seq (Code.wp_only (R:=fun a3 w3=>aA (fun i=>(rg 13 19 i)) a2 a3∧At a3 17 (.slice A P.Q3.length cc)∧At a3 18 (.int .i64 P.Q3.length)∧At a3 19 (.int .i64 0)∧w3=w2) ?_ ?_))
 ·clear hl af HC C
  obtain⟨T,d⟩:=a2;refine rl ?_
  iterate 7 with_reducible refine st ?_
  with_reducible refine ln ?_
  refine⟨rfl,ag,aq,aq,aq,rfl⟩
 rintro a3 w3 ⟨ac,b2,b1,b0,rfl⟩;have i0:=ac.Q7 h0 rfl;have i3:=ac.Q7 h3 rfl;have i5:=ac.Q7 h5 rfl;have cw:=ac.size.trans bw;have cu:=ac.defers.trans bc;clear hq;refine bj P.Q3.length (fun i=>i==4||i==7||i==9||(rg 19 57 i)) (fun i=>i==4||i==7||i==9||(rg 21 56 i)) (fun k _ w'=>∃(n:Nat) (cnt:ByteArray→Nat) (p:ByteArray→Bool),n≤k*2097152∧dC w' M n (.int .i64 0) (fun s =>.int .i64 (cnt s)) p∧(∀s,cnt s≤n∧(0<cnt s↔sF (P.Q3.take k) c s))∧(∀x∈P.Q3.take k,∀m∈x.QF,mS c x.name m=true)∧aD (fun k=>k=M) w3 w') χ b0 b1 ψ rfl
  ζ χ ψ (fun k a1 a2 w H hI=>hI) ⟨0,fun _=>0,fun _=>false,χ,af,fun s=>⟨Nat.le_refl _,by simp[sF]⟩,ξ,aD.refl _ _⟩ ?_ ?_
 ·rintro k a4 wr bo H ey ⟨n,cnt,p,hn,hE,X,l,hk⟩
  obtain⟨bl,off,rfl,c2,bb⟩:=hl χ;obtain⟨x,hx⟩:=ge bo;obtain⟨u1,u2,O,bp,fv,cy⟩:=(bX B) _ _ _ _ _ (hk.below (B:=B) χ (fun _ hi e=>χ)) c2 (bb k x hx);have c1:=hh bp;obtain⟨A_mapsx,g,rfl,fm,ds,_⟩:=bp;obtain⟨A_rulesx,u,rfl,_,_,_⟩:=fv;unfold top at ds;have q0:=O.c0;have q1:=O 1 _ rfl;have q2:=O 2 _ rfl;have q3:=O 3 _ rfl;have q4:=O 4 _ rfl;have q5:=O 5 _ rfl;have f1:=H.Q7 i0 rfl;have cp:=H.Q7 i3 rfl;have f2:=H.Q7 i5 rfl;have cx:=H.Q7 b2 rfl;have bx:=H.size.trans cw;have bd:=H.defers.trans cu;have eq:=hk.size;have eb:bl<wr.heap.size:=χ
  have eg:k≤cc:=χ
  have HX:=hh hx;have HK:=hh hk;have HA:=hh H;have HE:=hh hE;have b3:=hh X;have HG:=hh l;have gf:n≤4398046511104:=χ
  clear hx hk O H bb hE X l hl af;refine so (fun a5 w5=>aA (fun i=>i==21||i==22||i==7) a4 a5∧At a5 7 (.pointer (some ⟨wr.heap.size,0,none⟩))∧w5=wr.alloc (Obj.cells #[.int .i64 x.pos,.string x.name,.int .u64 x.QO,.bool x.stopped,.slice A_mapsx x.QF.length g,.slice A_rulesx x.QN.length u] 52)) ?_ ?_
  ·clear HC C
   obtain⟨T,d⟩:=a4;refine rl ?_
   iterate 4 with_reducible refine st ?_
   with_reducible refine ln ?_
   refine⟨rfl,ag,aq,rfl⟩
  rintro a5 wo ⟨q,ew,E⟩;obtain⟨z,hz⟩:∃z,z=wr.heap.size:=⟨_,rfl⟩;rw[←hz]at ew;have cl:aL wo z 0 [.int .i64 x.pos,.string x.name,.int .u64 x.QO,.bool x.stopped,.slice A_mapsx x.QF.length g,.slice A_rulesx x.QN.length u]:=by rw[E,hz];exact b8 _ _ _
  have r:Kz wr wo:=by rw[E];exact(aD.refl _ _).alloc _
  have fz:z≠M:=by have:=HE.out.lt;omega
  have es:z<wo.heap.size:=by rw[E,hz];simp
  have cb:aD (fun k=>k=M) w3 wo:=HK.out.trans r (fun _ _ h=>h.elim);have eo:=cb.size;have ep:=r.size;have S:=q.size.trans bx;have Q:=q.defers.trans bd;refine vb (cnt0:=0) (n0:=0) e9 χ a5 S (hh fun w0 c7=>HC.out w0 (cb.trans c7 (fun _ _ e=>e))) (q.Q7 cp rfl) (q.Q7 f2 rfl) (hh fun w0 c7=>cl.keep c7 es fz) ew (by have:=cy.2.2;unfold aX at this;unfold maxLen;omega) (c1.out.below (aF _ _ _) (r.below (B:=B) χ (fun _ _ e=>e))) χ (HE.out.keep r (fun e=>e)) b3.out _ (fun a6 w6 n6 d5 p6 J f9 fc cs fe c9=>?_) (fun a6 w6 h4 fr fd D c9=>?_)
  ·refine⟨(q.m).t J,n6,d5,p6,χ,fc,fun s=>⟨(cs s).1,?_⟩,?_,cb.trans c9 (fun _ _ e=>e)⟩
   ·rw[(cs s).2,aP HX.out]
    simp only[sF,List.mem_append,List.mem_singleton];constructor
    ·rintro(⟨y,I,h1,h2⟩|⟨rfl,h2⟩)
     ·exact⟨y,.inl I,h1,h2⟩
     ·exact⟨x,.inr rfl,rfl,h2⟩
    ·rintro⟨y,I|rfl,h1,h2⟩
     ·exact .inl ⟨y,I,h1,h2⟩
     ·exact .inr ⟨h1.symm,h2⟩
   ·rw[aP HX.out]
    intro y I
    rcases List.mem_append.1 I with I|I
    ·exact HG.out y I
    ·have e:y=x:=by simpa using I
     subst e;exact fe
  ·repeat (first|with_reducible apply b7|with_reducible apply bH)
   refine bk (t:=4) rfl h4 (by rw[fr];decide) (fd.trans Q) ⟨?_,d3.out.trans (cb.trans c9 (fun _ _ e=>e)) (fun i hi e=>χ)⟩;obtain⟨m,hm,hb⟩:=D;have e:gI P c=false:=by
    rw[lS,Bool.eq_false_iff];intro hh;simp only[Bool.and_eq_true,List.all_eq_true]at hh;have:=hh.1.1.1 x (List.mem_of_getElem? HX.out) m hm;rw[hb]at this
    cases this
   rw[e]
 ·rintro a4 w4 V ⟨n,cnt,p,hn,hE,X,l,hk⟩
  rw[List.take_length]at X l;have j0:=V.Q7 i0 rfl;have j3:=V.Q7 i3 rfl;have j5:=V.Q7 i5 rfl;have bx:=V.size.trans cw;have bd:=V.defers.trans cu;have eq:=hk.size;have d7:Kz w w4:=d3.out.trans hk (fun i hi e=>χ);have HE:=hh hE;have b3:=hh X;have HG:=hh l;have HK:=hh hk;have d2:=hh d7;have xc:=(HC.out w4 hk) 5 _ rfl;have x2:=(HC.out w4 hk) 2 _ rfl;have x3:=(HC.out w4 hk) 3 _ rfl;clear hE X l V b2 b1 b0 i0 i3 i5 hl af ef cd A cc;with_reducible apply bu
  obtain⟨A,cc,hu,ef,cd,hl⟩:=a0.QP.Q4;unfold top at cd;have hq:w4.cell? ⟨pb,3,none⟩=some v.Q4:=(hk.cell (p:=⟨pb,3,none⟩) (by have:=a0.lt;omega) fp).trans (a0.cell rfl);rw[hu]at hq;clear hu hk d7;refine wp_seq (wp_seq (Code.wp_only (R:=fun a5 w5=>aA (fun i=>(rg 58 64 i)) a4 a5∧At a5 62 (.slice A P.Q4.length cc)∧At a5 63 (.int .i64 P.Q4.length)∧At a5 64 (.int .i64 0)∧w5=w4) ?_ ?_))
  ·clear hl HC C
   obtain⟨T,d⟩:=a4;refine rl ?_
   iterate 7 with_reducible refine st ?_
   with_reducible refine ln ?_
   refine⟨rfl,ag,aq,aq,aq,rfl⟩
  rintro a5 w5 ⟨q,b2,b1,b0,rfl⟩;have l0:=q.Q7 j0 rfl;have l3:=q.Q7 j3 rfl;have l5:=q.Q7 j5 rfl;have S:=q.size.trans bx;have Q:=q.defers.trans bd;clear hq;refine bj P.Q4.length (fun i=>i==4||i==11||(rg 64 72 i)) (fun i=>i==4||i==11||(rg 66 71 i)) (fun k _ w'=>(∀x∈P.Q4.take k,(x.QF.any fun m=>decide (m.of=c.over))=false)∧Kz w5 w') χ b0 b1 ψ rfl
   ζ χ ψ (fun k a1 a2 w H hI=>hI) ⟨ξ,aD.refl _ _⟩ ?_ ?_
  ·rintro k a6 wr bo H ey ⟨Y,hk⟩
   obtain⟨bl,off,rfl,c2,bb⟩:=hl χ;obtain⟨x,hx⟩:=ge bo;obtain⟨u1,O,bp,cy⟩:=(bh B) _ _ _ _ _ ((HK.out.trans hk (fun _ _ h=>h.elim)).below (B:=B) χ (fun _ hi e=>χ)) c2 (bb k x hx);have c1:=hh bp;obtain⟨A_mapsx,g,rfl,fm,ds,_⟩:=bp;unfold top at ds;have q0:=O.c0;have q1:=O 1 _ rfl;have q2:=O 2 _ rfl;have q3:=O 3 _ rfl;have q4:=O 4 _ rfl;have f1:=H.Q7 l0 rfl;have cp:=H.Q7 l3 rfl;have cx:=H.Q7 b2 rfl;have bz:=H.size.trans S;have be:=H.defers.trans Q;have ep:=hk.size;have eb:bl<wr.heap.size:=χ
   have eg:k≤cc:=χ
   have f0:U<wr.heap.size:=χ
   have XC:=hh ((hk.cell (p:=⟨U,5,none⟩) (by show U<_;omega) (fun h=>h)).trans xc);have HX:=hh hx;have e5:=hh hk;have e6:=hh Y;clear hx hk O bb Y hl xc x2 x3;refine so (fun a7 w7=>aA (fun i=>i==66||i==67||i==11) a6 a7∧At a7 11 (.pointer (some ⟨wr.heap.size,0,none⟩))∧w7=wr.alloc (Obj.cells #[.int .i64 x.pos,.string x.name,.int .u64 x.Q7,.int .u64 x.size,.slice A_mapsx x.QF.length g] 45)) ?_ ?_
   ·clear HC C
    obtain⟨T,d⟩:=a6;refine rl ?_
    iterate 4 with_reducible refine st ?_
    with_reducible refine ln ?_
    refine⟨rfl,ag,aq,rfl⟩
   rintro a7 wo ⟨ad,eu,E⟩;obtain⟨z,hz⟩:∃z,z=wr.heap.size:=⟨_,rfl⟩;rw[←hz]at eu;have cl:aL wo z 0 [.int .i64 x.pos,.string x.name,.int .u64 x.Q7,.int .u64 x.size,.slice A_mapsx x.QF.length g]:=by rw[E,hz];exact b8 _ _ _
   have r:Kz wr wo:=by rw[E];exact(aD.refl _ _).alloc _
   have eo:=r.size;have q4:=cl 4 _ rfl;have es:z<wo.heap.size:=by rw[E,hz];simp
   have em:=ad.size.trans bz;have ed:=ad.defers.trans be;have gl:=ad.Q7 cp rfl;have ba:=hh (pS (c1.out.below (aF _ _ _) (r.below (B:=B) χ (fun _ _ e=>e))) χ c U χ ((r.cell (p:=⟨U,5,none⟩) f0 (fun h=>h)).trans XC.out));have e2:=hh r;clear r E cl q0 q1 q2 q3 cx ey cp hz;obtain⟨d4,D⟩:∃b,b=(x.QF.any fun m=>decide (m.of=c.over)):=⟨_,rfl⟩;rw[←D]at ba;have HB:=hh D;clear D;refine so (fun a8 w8=>aA (fun i=>(rg 68 71 i)) a7 a8∧At a8 71 (.bool d4)∧Kz wo w8) ?_ ?_
   ·clear HC C ad
    obtain⟨T,d⟩:=a7;refine rl ?_
    iterate 3 with_reducible refine st ?_
    with_reducible refine Lz (fun K hK=>?_)
    go_simp;refine ba.out.mono ?_;rintro e w8 ⟨rfl,di⟩;with_reducible refine hK _ _ (ln ?_)
    refine⟨rfl,ag,aq,di⟩
   rintro a8 w8 ⟨b5,ex,di⟩;have en:=b5.size.trans em;have ee:=b5.defers.trans ed;have d6:=ex.eval χ;have cv:Kz w5 w8:=(e5.out.trans e2.out (fun _ _ h=>h)).trans di (fun _ _ h=>h)
   cases d4
   ·refine wp_cond_false d6 (wp_skip ?_)
    refine⟨(ad.m).t b5,fun y I=>?_,cv⟩;rw[aP HX.out]at I
    rcases List.mem_append.1 I with I|I
    ·exact e6.out y I
    ·have e:y=x:=by simpa using I
     subst e;exact HB.out.symm
   ·refine wp_cond_true d6 ?_
    refine so (fun a9 w9=>At a9 4 (.bool false)∧a9.tmps.size=85∧a9.defers=[]∧w9=w8) ?_ ?_
    ·clear b5
     obtain⟨T,d⟩:=a8;refine rl ?_;with_reducible refine st ?_;refine ln ?_
     refine⟨rfl,?_,by simpa using en,ee,rfl⟩;exact aq
    rintro a9 w9 ⟨h4,dt,c6,rfl⟩;refine wp_ret ?_
    repeat (first|with_reducible apply b7|with_reducible apply bH)
    refine bk (t:=4) rfl h4 (by rw[dt];decide) c6 ⟨?_,d2.out.trans cv (fun _ _ h=>h)⟩;have e:gI P c=false:=by
     rw[lS,Bool.eq_false_iff];intro hh;simp only[Bool.and_eq_true,List.all_eq_true]at hh;have:=hh.1.1.2 x (List.mem_of_getElem? HX.out);rw[←HB.out]at this
     cases this
    rw[e]
  ·rintro a6 w6 J ⟨Y,hk⟩
   rw[List.take_length]at Y;have k3:=J.Q7 l3 rfl;have k5:=J.Q7 l5 rfl;have bz:=J.size.trans S;have be:=J.defers.trans Q;have y2:=(hk.cell (p:=⟨U,2,none⟩) (by show U<_;omega) (fun h=>h)).trans x2;have y3:=(hk.cell (p:=⟨U,3,none⟩) (by show U<_;omega) (fun h=>h)).trans x3;have d1:=hh (HE.out.keep hk (fun h=>h));have e1:=hh hk;have fs:c.QI.size≤maxLen:=by have:=C;unfold Ck.au.Ok aX at this;unfold maxLen;omega
   have fy:c.to.size≤maxLen:=by have:=C;unfold Ck.au.Ok aX at this;unfold maxLen;omega
   obtain⟨cf,c4⟩:∃n,n=cnt c.QI:=⟨_,rfl⟩;obtain⟨ct,c5⟩:∃n,n=cnt c.to:=⟨_,rfl⟩;obtain⟨bf,e7⟩:∃b,decide (0<cf)=b:=⟨_,rfl⟩;obtain⟨bt,e8⟩:∃b,decide (0<ct)=b:=⟨_,rfl⟩;have d9:bf=(P.Q3.any fun x=>decide (x.name=c.QI)&&x.QF.any fun m=>decide (m.of=c.over)):=by
    rw[←e7,Bool.eq_iff_iff,decide_eq_true_eq,←uz,←(b3.out c.QI).2,c4]
   have ea:bt=(P.Q3.any fun x=>decide (x.name=c.to)&&x.QF.any fun m=>decide (m.of=c.over)):=by
    rw[←e8,Bool.eq_iff_iff,decide_eq_true_eq,←uz,←(b3.out c.to).2,c5]
   have HT:Hid (gI P c=(bf&&bt)):=by
    have g1:(P.Q3.all fun x=>x.QF.all fun m=>mS c x.name m)=true:=by simp only[List.all_eq_true];exact HG.out
    have g2:(P.Q4.all fun x =>!x.QF.any fun m=>decide (m.of=c.over))=true:=by simp only[List.all_eq_true];intro x hx;rw[Y x hx];rfl
    show gI P c=_;rw[lS,g1,g2,←d9,←ea];rfl
   have ez:=hh c4;have e0:=hh c5;clear d9 ea c4 c5 Y hk J HC hl xc x2 x3 l0 l3 l5 b2 b1 b0 j0 j3 j5 h0 h3 h5;refine so (fun a9 w9=>At a9 4 (.bool (bf&&bt))∧a9.tmps.size=85∧a9.defers=[]∧w9=w6) ?_ ?_
   ·have ff:=d1.out.run Tryz.underlying224 xR fs
    have fk:=d1.out.run Tryz.underlying224 xR fy;rw[←ez.out]at ff;rw[←e0.out]at fk;obtain⟨T,d⟩:=a6;have gg:=al;refine rl ?_
    cases bf
    all_goals
     iterate 13 with_reducible refine st ?_
     with_reducible refine ln ?_
     refine⟨rfl,?_,by simpa using bz,be,rfl⟩;simp only[Bool.false_and,Bool.true_and];exact aq
   rintro a9 w9 ⟨h4,dt,c6,rfl⟩;refine wp_ret ?_;refine bk (t:=4) rfl h4 (by rw[dt];decide) c6 ⟨by rw[HT.out],d2.out.trans e1.out (fun _ _ h=>h)⟩
