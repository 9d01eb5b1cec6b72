import Derived.Test.YtpblcjipmoblnaaGreatDoorDraw
import Derived.Test.YtpblcjipmoblnaaGreatDoorMem
set_option maxRecDepth 100000
set_option linter.all false
set_option maxHeartbeats 4000000
namespace Go.Proofs.YtpblcjipmoblnaaGreatDoor.Rs
open Go.RowKit Go.Proofs.YtpblcjipmoblnaaGreatDoor
inductive SS where
 | x (i:Nat)
 | c (s:ByteArray)
 deriving DecidableEq
inductive IE where
 | c (n:Int)
 | x (i:Nat)
 | ln (i:Nat)
 | z (s:SS)
 | bin (o:BinOp) (k:IntKind) (a b:IE)
 | cv (k:IntKind) (a:IE)
 | mx (a b:IE)
 deriving DecidableEq
inductive BE where
 | c (b:Bool)
 | x (i:Nat)
 | cmp (o:BinOp) (a b:IE)
 | seq (a b:SS)
 | eq (a b:BE)
 | not (a:BE)
 deriving DecidableEq
inductive Cl where
 | i (k:IntKind) (e:IE)
 | b (e:BE)
 | s (e:SS)
 | p (r o:Nat)
 | sl (r n c:Nat)
 | v (i:Nat)
 | l (v:Value)
 | u
inductive SV where
 | one (c:Cl)
 | ag (l:List Cl)
 | tu (l:List Cl)
structure Sta where
 i:Nat→Int:=fun _=>0
 n:Nat→Nat:=fun _=>0
 b:Nat→Bool:=fun _=>false
 s:Nat→ByteArray:=fun _ =>.empty
 o:Nat→Value:=fun _=>undef
 a:Nat→Option Addr:=fun _=>none
abbrev Kap:=Nat→Nat×Nat
def lM(o:BinOp)(k:IntKind)(a b:Int):Int:=
 match o with
 | .add=>k.wrap (a+b)
 | .sub=>k.wrap (a-b)
 | .mul=>k.wrap (a*b)
 | .quo=>k.wrap (a.tdiv b)
 | .rem=>a.tmod b
 | _=>0
def gz(o:BinOp)(a b:Int):Bool:=
 match o with
 | .eql=>a==b
 | .neq=>a !=b
 | .lss=>decide (a<b)
 | .leq=>decide (a≤b)
 | .gtr=>decide (a>b)
 | .geq=>decide (a≥b)
 | _=>false
def SS.den(S:Sta):SS→ByteArray
 | .x i=>S.s i
 | .c s=>s
def IE.den(S:Sta):IE→Int
 | .c n=>n
 | .x i=>S.i i
 | .ln i=>S.n i
 | .z s=>((s.den S).size:Nat)
 | .bin o k a b=>lM o k (a.den S) (b.den S)
 | .cv k a=>k.wrap (a.den S)
 | .mx a b=>if b.den S>a.den S then b.den S else a.den S
def BE.den(S:Sta):BE→Bool
 | .c b=>b
 | .x i=>S.b i
 | .cmp o a b=>gz o (a.den S) (b.den S)
 | .seq a b=>(a.den S).toList==(b.den S).toList
 | .eq a b=>a.den S==b.den S
 | .not a =>!a.den S
def Cl.den(S:Sta)(κ:Kap):Cl→Value
 | .i k e =>.int k (e.den S)
 | .b e =>.bool (e.den S)
 | .s e =>.string (e.den S)
 | .p r o =>.pointer (some ⟨(κ r).1,(κ r).2+o,none⟩)
 | .sl r n c =>.slice (S.a r) (S.n n) (S.n c)
 | .v j=>S.o j
 | .l y=>y
 | .u=>undef
theorem Cl.den_i(S:Sta)(κ:Kap)(k:IntKind)(e:IE):Cl.den S κ (.i k e)=.int k (e.den S):=rfl
theorem Cl.den_b(S:Sta)(κ:Kap)(e:BE):Cl.den S κ (.b e)=.bool (e.den S):=rfl
theorem Cl.den_s(S:Sta)(κ:Kap)(e:SS):Cl.den S κ (.s e)=.string (e.den S):=rfl
theorem Cl.den_p(S:Sta)(κ:Kap)(r o:Nat):Cl.den S κ (.p r o)=.pointer (some ⟨(κ r).1,(κ r).2+o,none⟩):=rfl
theorem Cl.den_sl(S:Sta)(κ:Kap)(r n c:Nat):Cl.den S κ (.sl r n c)=.slice (S.a r) (S.n n) (S.n c):=rfl
def SV.den(S:Sta)(κ:Kap):SV→Value
 | .one c=>c.den S κ
 | .ag l =>.agg (l.map (Cl.den S κ)).toArray
 | .tu l =>.tuple (l.map (Cl.den S κ)).toArray
abbrev Fr:=List (Nat×SV)
def gt:Fr→Nat→Option SV
 | [],_=>none
 | (u,v)::r,t=>bif Nat.beq u t then some v else gt r t
structure Has (S:Sta) (κ:Kap) (N:Nat) (F:Fr) (a:Act):Prop where
 size:a.tmps.size=N
 get:∀t v,gt F t=some v→a.tmps[t]?=some (v.den S κ)
theorem bD{F:Fr}{d t:Nat}{v:SV}:gt ((d,v)::F) t=if d=t then some v else gt F t:=by
 simp only[gt]
 cases h:Nat.beq d t with
 | true=>rw[if_pos (Nat.eq_of_beq_eq_true h)];rfl
 | false=>rw[if_neg (Nat.ne_of_beq_eq_false h)];rfl
def ev(F:Fr):Operand→Option SV
 | .tmp t=>gt F t
 | .const (.int k n)=>some (.one (.i k (.c n)))
 | .const (.bool b)=>some (.one (.b (.c b)))
 | .const (.string s)=>some (.one (.s (.c s)))
 | .const v=>some (.one (.l v))
 | _=>none
section
variable {S:Sta} {κ:Kap} {N:Nat} {F:Fr} {a:Act} {w:World} {P:Program}
theorem Has.ev(h:Has S κ N F a){x:Operand}{v:SV}(hx:Rs.ev F x=some v):a.eval x=v.den S κ:=by
 unfold Rs.ev at hx;split at hx
 ·have:=h.get _ _ hx
  show a.tmps.getD _ undef=_;rw[Array.getD_eq_getD_getElem?,this];rfl
 all_goals first
  | (obtain rfl:=Option.some.inj hx;simp[Act.eval,SV.den,Cl.den,IE.den,BE.den,SS.den];done)
  | cases hx
theorem Has.put(h:Has S κ N F a){d:Nat}{v:SV}(j:d<N):Has S κ N ((d,v)::F) (a.put (some d) (v.den S κ)):=by
 refine⟨by simpa[Act.put]using h.size,fun t u g=>?_⟩;rw[bD]at g;simp only[Act.put];split at g
 ·rename_i e
  obtain rfl:=Option.some.inj g;subst e;rw[Array.getElem?_setIfInBounds_self_of_lt (by rw[h.size];exact j)]
 ·rename_i e
  rw[Array.getElem?_setIfInBounds_ne (fun h=>e h)];exact h.get t u g
end
abbrev Mm:=List (Nat×List Cl)
def gm:Mm→Nat→Option (List Cl)
 | [],_=>none
 | (u,v)::r,t=>bif Nat.beq u t then some v else gm r t
structure Gh where
 T:Nat→Prop
 G:List Nat→World→Prop
 st:∀e w w',Kz w w'→G e w→G e w'
structure iP (S:Sta) (κ:Kap) (T:Nat→Prop) (M:Mm) (w:World):Prop where
 get:∀r l,gm M r=some l→((κ r).1<w.heap.size∧¬ T (κ r).1)∧∀j c,l[j]?=some c→w.cell? ⟨(κ r).1,(κ r).2+j,none⟩=some (c.den S κ)
theorem iP.keep{S:Sta}{κ:Kap}{T:Nat→Prop}{M:Mm}{w w':World}(h:iP S κ T M w)(hk:aD T w w'):iP S κ T M w':=
 ⟨fun r l g=>let⟨h1,h2⟩:=h.get r l g;⟨⟨Nat.lt_of_lt_of_le h1.1 hk.size,h1.2⟩,fun j c d=>(hk.cell (p:=⟨_,_,none⟩) h1.1 h1.2).trans (h2 j c d)⟩⟩
def pW(S:Sta)(κ:Kap)(M:Mm)(w:World):Prop:=∀r l,gm M r=some l→∀j c,l[j]?=some c→w.cell? ⟨(κ r).1,(κ r).2+j,none⟩=some (c.den S κ)
theorem iP.f{S:Sta}{κ:Kap}{T:Nat→Prop}{M:Mm}{w:World}(h:iP S κ T M w):pW S κ M w:=fun r l d=>(h.get r l d).2
theorem yz{r:Nat}{M':Mm}:∀{M:Mm},gm (M++M') r=(gm M r).or (gm M' r)
 | []=>rfl
 | (u,v)::M=>by
  simp only[List.cons_append,gm]
  cases Nat.beq u r with
  | true=>rfl
  | false=>exact yz (M:=M)
theorem pW.app{S:Sta}{κ:Kap}{M M':Mm}{w:World}(h:pW S κ M w)(g:pW S κ M' w):pW S κ (M++M') w:=fun r l d=>by
 rw[yz]at d
 cases e:gm M r with
 | none=>rw[e]at d;exact g r l d
 | some m=>rw[e]at d;exact h r l (by rw[e];exact d)
theorem K_T{T:Nat→Prop}{w w':World}(h:Kz w w'):aD T w w':=h.mono fun _ _ h=>h.elim
structure Ctx where
 FA:List (BE×Bool):=[]
 EL:List (Nat×Nat×IE×Nat×Nat):=[]
 CT:List (FuncId×List SV×SV):=[]
 ET:List (FuncId×List SV×SV):=[]
 GM:Mm:=[]
 SL:List (Nat×Nat×Nat×IE×Nat):=[]
def xO(P:Program)(t:TypeId):Option Bool:=
 match P.underlying t with
 | some (.struct _)=>some true
 | some (.array _ _)=>some true
 | some _=>some false
 | none=>none
def cut(l:List Cl)(o n:Nat):Option SV:=
 bif Nat.beq ((l.drop o).take n).length n then some (.ag ((l.drop o).take n))else none
def ldV(P:Program)(M:Mm)(t:TypeId):SV→Option SV
 | .one (.p r o) =>
  match gm M r with
  | some l=>match xO P t with
   | some false=>(l[o]?).map .one
   | some true=>cut l o (P.cellsOf t)
   | none=>none
  | none=>none
 | _=>none
def mw(P:Program)(s:TypeId)(f:Nat):Option Field:=
 match P.underlying s with
 | some (.struct fs)=>fs[f]?
 | _=>none
def faV(P:Program)(s f:Nat):SV→Option SV
 | .one (.p r o)=>match mw P s f with
  | some fd=>bif Nat.ble 1 (P.cellsOf fd.type)then some (.one (.p r (o+fd.offset)))else none
  | none=>none
 | _=>none
def ixV(P:Program)(C:Ctx)(t:TypeId):SV→SV→Option SV
 | .one (.sl r n _),.one (.i _ e) =>
  match P.underlying t with
  | some (.slice el)=>bif Nat.ble 1 (P.cellsOf el)then(C.EL.find? fun x=>Nat.beq x.1 r&&Nat.beq x.2.1 (P.cellsOf el)&&decide (x.2.2.1=e)&&Nat.beq x.2.2.2.1 n).map fun x =>.one (.p x.2.2.2.2 0)else none
  | _=>none
 | _,_=>none
def fdV(P:Program)(s f:Nat):SV→Option SV
 | .ag l=>match mw P s f with
  | some fd=>match xO P fd.type with
   | some false=>(l[fd.offset]?).map .one
   | some true=>cut l fd.offset (P.cellsOf fd.type)
   | none=>none
  | none=>none
 | _=>none
def Ci:BinOp→Bool
 | .eql|.neq|.lss|.leq|.gtr|.geq=>true
 | _=>false
def biV(P:Program)(o:BinOp)(t:TypeId):SV→SV→Option SV
 | .one (.i k a),.one (.i k' b) =>
  if k=k' then
   (if Ci o=true then some (.one (.b (.cmp o a b)))
   else match o with
    | .add|.sub|.mul=>some (.one (.i k (.bin o k a b)))
    | .quo|.rem=>match b with
     | .c n=>bif decide (n=0)then none else some (.one (.i k (.bin o k a b)))
     | _=>none
    | _=>none)
  else none
 | .one (.s a),.one (.s b) =>
  match o with
  | .eql=>some (.one (.b (.seq a b)))
  | .neq=>some (.one (.b (.not (.seq a b))))
  | _=>none
 | .one (.b a),.one (.b b) =>
  match P.underlying t with
  | some .bool=>match o with
   | .eql=>some (.one (.b (.eq a b)))
   | .neq=>some (.one (.b (.not (.eq a b))))
   | _=>none
  | _=>none
 | _,_=>none
def noV:SV→Option SV
 | .one (.b a)=>some (.one (.b (.not a)))
 | _=>none
def cvV(P:Program)(s d:TypeId):SV→Option SV
 | .one (.i _ a)=>match P.underlying s,P.underlying d with
  | some _,some (.int k)=>some (.one (.i k (.cv k a)))
  | _,_=>none
 | _=>none
def exV(i:Nat):SV→Option SV
 | .tu l=>(l[i]?).map .one
 | _=>none
def leV(P:Program)(t:TypeId):SV→Option SV
 | .one (.sl _ n _)=>match P.underlying t with
  | some (.slice _)=>some (.one (.i .i64 (.ln n)))
  | _=>none
 | .one (.s e)=>match P.underlying t with
  | some .string=>some (.one (.i .i64 (.z e)))
  | _=>none
 | _=>none
def BE.val(FA:List (BE×Bool)):BE→Option Bool
 | .c b=>some b
 | .not a=>(BE.val FA a).map (!·)
 | .cmp o (.c a) (.c b)=>some (gz o a b)
 | e=>(FA.find? fun x=>decide (x.1=e)).map (·.2)
theorem mz{S:Sta}{FA:List (BE×Bool)}{e:BE}{b:Bool}(h:(FA.find? fun x=>decide (x.1=e)).map (·.2)=some b)(j:∀x∈FA,x.1.den S=x.2):e.den S=b:=by
 obtain⟨x,hx,rfl⟩:=Option.map_eq_some_iff.1 h;have d:=j x (List.mem_of_find?_eq_some hx);have g:=List.find?_some hx;rw[of_decide_eq_true g]at d;exact d
theorem BE.val_ok{S:Sta}{FA:List (BE×Bool)}(hF:∀x∈FA,x.1.den S=x.2):∀{e:BE} {b:Bool},BE.val FA e=some b→e.den S=b:=by
 intro e
 induction e with
 | c x=>intro b h;obtain rfl:=Option.some.inj h;rfl
 | not a ih =>
  intro b h;unfold BE.val at h;obtain⟨y,hy,rfl⟩:=Option.map_eq_some_iff.1 h;simp[BE.den,ih hy]
 | cmp o x y =>
  intro b h;unfold BE.val at h;split at h
  all_goals first
   | (rename_i e;cases e;obtain rfl:=Option.some.inj h;rfl)
   | exact mz h hF
   | (rename_i e;cases e;done)
 | x i=>intro b h;exact mz h hF
 | seq x y=>intro b h;exact mz h hF
 | eq x y=>intro b h;exact mz h hF
def mxV:SV→SV→Option SV
 | .one (.i k a),.one (.i k' b)=>if k=k' then some (.one (.i k (.mx a b)))else none
 | _,_=>none
def shV(P:Program)(C:Ctx)(t:TypeId):SV→SV→Option SV
 | .one (.sl r n c),.one (.i _ e) =>
  match P.underlying t with
  | some (.slice el)=>bif Nat.ble 1 (P.cellsOf el)then(C.SL.find? fun x=>Nat.beq x.1 r&&(Nat.beq x.2.1 n&&(Nat.beq x.2.2.1 c&&decide (x.2.2.2.1=e)))).map fun x =>.one (.sl r x.2.2.2.2 c)else none
  | _=>none
 | _,_=>none
def opV(P:Program)(C:Ctx)(F:Fr)(M:Mm):Op→Option SV
 | .move x=>ev F x
 | .assign x=>ev F x
 | .load t x=>(ev F x).bind (ldV P (M++C.GM) t)
 | .nilCheck x=>match ev F x with
  | some (.one (.p r o))=>some (.one (.p r o))
  | _=>none
 | .fieldAddr s x f=>(ev F x).bind (faV P s f)
 | .indexAddr t x i=>(ev F x).bind fun u=>(ev F i).bind (ixV P C t u)
 | .field t x f=>(ev F x).bind (fdV P t f)
 | .binOp o t x y _=>(ev F x).bind fun u=>(ev F y).bind (biV P o t u)
 | .unOp .not _ x=>(ev F x).bind noV
 | .convert s d x=>(ev F x).bind (cvV P s d)
 | .extract x i=>(ev F x).bind (exV i)
 | .pick c x y =>
  match ev F c with
  | some (.one (.b e))=>match BE.val C.FA e with
   | some true=>ev F x
   | some false=>ev F y
   | none=>none
  | _=>none
 | .call ⟨.builtin .len,xs,ts⟩ =>
  match xs.toList,ts.toList with
  | [x],[t]=>(ev F x).bind (leV P t)
  | _,_=>none
 | .call ⟨.builtin .max,xs,_⟩ =>
  match xs.toList with
  | [x,y]=>(ev F x).bind fun u=>(ev F y).bind (mxV u)
  | _=>none
 | .slice t x none (some h) none=>(ev F x).bind fun u=>(ev F h).bind (shV P C t u)
 | _=>none
section
variable {S:Sta} {κ:Kap} {N:Nat} {F:Fr} {M:Mm} {C:Ctx} {T:Nat→Prop} {H:Gh} {a:Act} {w:World} {P:Program}
theorem jk(b o n:Nat):Addr.add ⟨b,o,none⟩ n=⟨b,o+n,none⟩:=by
 unfold Addr.add;split
 ·rename_i h;subst h;rfl
 ·rfl
theorem kA{t:TypeId}{b:Bool}(h:xO P t=some b):(isAgg t).run P w=.ok b w:=by
 unfold xO at h;split at h<;>first
  | (obtain rfl:=Option.some.inj h;rename_i g;simp[isAgg,run_underlying g];done)
  | cases h;done
  | (rename_i d j l g;obtain rfl:=Option.some.inj h;simp only[isAgg,Sem.run_bind,run_underlying g,Result.andThen_ok];cases d<;>simp_all)
theorem pL{t:TypeId}{d:TypeDesc}(h:P.underlying t=some d):∃i,P.info? t=some i:=by
 unfold Program.underlying at h
 cases e:P.info? t with
 | none=>rw[e]at h;cases h
 | some i=>exact⟨i,rfl⟩
theorem mX{t:TypeId}{b:Bool}(h:xO P t=some b):∃i,P.info? t=some i:=by
 unfold xO at h;split at h<;>first
  | exact pL (by assumption)
  | cases h
theorem gk{t:TypeId}(h:1≤P.cellsOf t):∃i,P.info? t=some i:=by
 unfold Program.cellsOf at h
 cases e:P.info? t with
 | none=>rw[e]at h;simp at h
 | some i=>exact⟨i,rfl⟩
theorem zN{l:List Cl}{o n:Nat}{v:SV}(h:cut l o n=some v):v=.ag ((l.drop o).take n)∧((l.drop o).take n).length=n:=by
 unfold cut at h
 cases e:Nat.beq ((l.drop o).take n).length n with
 | true=>rw[e]at h;exact⟨(Option.some.inj h).symm,Nat.eq_of_beq_eq_true e⟩
 | false=>rw[e]at h;cases h
theorem z8{l:List Cl}{j:Nat}{v:Value}(h:(l.map (Cl.den S κ))[j]?=some v):∃c,l[j]?=some c∧v=c.den S κ:=by
 rw[List.getElem?_map]at h
 cases e:l[j]? with
 | none=>rw[e]at h;cases h
 | some c=>rw[e]at h;exact⟨c,rfl,(Option.some.inj h).symm⟩
theorem C4{t:TypeId}{x v:SV}(h:ldV P M t x=some v)(B:pW S κ M w):(Instr.loadAt t (x.den S κ)).run P w=.ok (v.den S κ) w:=by
 unfold ldV at h;split at h
 ·rename_i r o
  split at h
  ·rename_i l E
   have y:=B r l E;split at h
   ·rename_i g
    cases e:l[o]? with
    | none=>rw[e]at h;cases h
    | some c =>
     rw[e]at h;obtain rfl:=Option.some.inj h;simp only[SV.den,Cl.den_i,Cl.den_b,Cl.den_s,Cl.den_p,Cl.den_sl,Instr.loadAt,Instr.sureAddr,Sem.run_bind,Sem.run_pure,Result.andThen_ok,loadVar,kA g];simp[load,Sem.run,y o c e]
   ·rename_i g
    obtain⟨rfl,H⟩:=zN h;obtain⟨i,C⟩:=mX g;have q:=run_loadCells_list (P:=P) (w:=w) ⟨(κ r).1,(κ r).2+o,none⟩ (((l.drop o).take (P.cellsOf t)).map (Cl.den S κ)) fun j u D=>by
     obtain⟨c,p,rfl⟩:=z8 D;rw[jk];have A:l[o+j]?=some c:=by
      have d:=p;rw[List.getElem?_take]at d;split at d
      ·rwa[List.getElem?_drop]at d
      ·cases d
     have:=y (o+j) c A
     rwa[←Nat.add_assoc]at this
    rw[List.length_map,H]at q;simp only[SV.den,Cl.den_i,Cl.den_b,Cl.den_s,Cl.den_p,Cl.den_sl,Instr.loadAt,Instr.sureAddr,Sem.run_bind,Sem.run_pure,Result.andThen_ok,loadVar,kA g,run_sizeOf _ C,if_true,q]
   ·cases h
  ·cases h
 ·cases h
theorem oM{s f:Nat}{d:Field}(h:mw P s f=some d):∃g,P.underlying s=some (.struct g)∧g[f]?=some d:=by
 unfold mw at h;split at h
 ·exact⟨_,by assumption,h⟩
 ·cases h
theorem CC{s f:Nat}{x v:SV}(h:faV P s f x=some v):(Instr.fieldAt s (x.den S κ) f).run P w=.ok (v.den S κ) w:=by
 unfold faV at h;split at h
 ·rename_i r o
  split at h
  ·rename_i d l
   obtain⟨y,u,p⟩:=oM l
   cases e:Nat.ble 1 (P.cellsOf d.type)with
   | false=>rw[e]at h;cases h
   | true =>
    rw[e]at h;obtain rfl:=Option.some.inj h;have g:1≤P.cellsOf d.type:=Nat.le_of_ble_eq_true e;obtain⟨i,q⟩:=gk g;have j:¬ P.cellsOf d.type=0:=χ
    simp[SV.den,Cl.den_i,Cl.den_b,Cl.den_s,Cl.den_p,Cl.den_sl,Instr.fieldAt,run_underlying u,p,Instr.sureAddr,fieldPlace,run_sizeOf _ q,j,jk,Nat.add_assoc]
  ·cases h
 ·cases h
structure jH (S:Sta) (κ:Kap) (P:Program) (C:Ctx) (H:Gh) (w:World):Prop where
 fa:∀x∈C.FA,x.1.den S=x.2
 el:∀x∈C.EL,0≤x.2.2.1.den S∧x.2.2.1.den S<S.n x.2.2.2.1∧∃g o,S.a x.1=some ⟨g,o,none⟩∧κ x.2.2.2.2=(g,o+(x.2.2.1.den S).toNat*x.2.1)
 ct:∀x∈C.CT,∀e w',aD H.T w w'→H.G e w'→Calls P x.1 (x.2.1.map (SV.den S κ)).toArray w' fun e w''=>e=.returned (x.2.2.den S κ)∧Kz w' w''
 et:∀i x,C.ET[i]?=some x→∀e w',aD H.T w w'→H.G e w'→Calls P x.1 (x.2.1.map (SV.den S κ)).toArray w' fun e' w''=>e'=.returned (x.2.2.den S κ)∧aD H.T w' w''∧H.G (i::e) w''
 gm:∀e w',aD H.T w w'→H.G e w'→pW S κ C.GM w'
 sl:∀x∈C.SL,(S.n x.2.2.2.2:Int)=x.2.2.2.1.den S∧S.n x.2.2.2.2≤S.n x.2.2.1
theorem jH.keep{w':World}(h:jH S κ P C H w)(hk:aD H.T w w'):jH S κ P C H w':=
 ⟨h.fa,h.el,fun x hx e g d=>h.ct x hx e g (hk.trans d fun _ _ e=>e),fun i x hx e g d=>h.et i x hx e g (hk.trans d fun _ _ e=>e),fun e g d=>h.gm e g (hk.trans d fun _ _ e=>e),h.sl⟩
theorem C5{t:TypeId}{x y v:SV}(h:ixV P C t x y=some v)(J:jH S κ P C H w):(Instr.indexAt t (x.den S κ) (y.den S κ)).run P w=.ok (v.den S κ) w:=by
 unfold ixV at h;split at h
 ·rename_i r n c k e
  split at h
  ·rename_i el N
   cases e1:Nat.ble 1 (P.cellsOf el)with
   | false=>rw[e1]at h;cases h
   | true =>
    rw[e1]at h;simp only[cond_true,Option.map_eq_some_iff]at h;obtain⟨q,I,rfl⟩:=h;have L:=List.mem_of_find?_eq_some I;have E:=List.find?_some I;simp only[Bool.and_eq_true,decide_eq_true_eq]at E;obtain⟨⟨⟨d,j⟩,l⟩,p⟩:=E;obtain⟨r',Q,e',O,R⟩:=q;replace d:r'=r:=Nat.eq_of_beq_eq_true d;replace j:Q=P.cellsOf el:=Nat.eq_of_beq_eq_true j;replace l:e'=e:=l;replace p:O=n:=Nat.eq_of_beq_eq_true p;subst d j l p;obtain⟨u,A,g,o,D,B⟩:=J.el _ L;simp only at u A B D;obtain⟨i,K⟩:=gk (P:=P) (t:=el) (Nat.le_of_ble_eq_true e1);simp[SV.den,Cl.den_i,Cl.den_b,Cl.den_s,Cl.den_p,Cl.den_sl,Instr.indexAt,asIntOf,run_underlying N,u,A,run_sizeOf _ K,jk,B,D]
  ·cases h
 ·cases h
theorem A9(l:List Cl)(o n:Nat):((l.map (Cl.den S κ)).toArray.extract o (o+n))=(((l.drop o).take n).map (Cl.den S κ)).toArray:=by
 apply Array.ext'
 simp[List.map_take,List.map_drop]
theorem CB{s f:Nat}{x v:SV}(h:fdV P s f x=some v):(Instr.field s (x.den S κ) f).run P w=.ok (v.den S κ) w:=by
 unfold fdV at h;split at h
 ·rename_i l
  split at h
  ·rename_i g q
   obtain⟨u,p,j⟩:=oM q;split at h
   ·rename_i d
    cases e:l[g.offset]? with
    | none=>rw[e]at h;cases h
    | some c =>
     rw[e]at h;obtain rfl:=Option.some.inj h;simp[SV.den,Instr.field,run_underlying p,j,asAgg,part,kA d,e]
   ·rename_i d
    obtain⟨rfl,y⟩:=zN h;obtain⟨i,r⟩:=mX d;have:=A9 (S:=S) (κ:=κ) l g.offset (P.cellsOf g.type);simp only[SV.den,Instr.field,Sem.run_bind,run_underlying p,Result.andThen_ok,j,asAgg,part,kA d,if_true,run_sizeOf _ r,Sem.run_pure,this]
   ·cases h
  ·cases h
 ·cases h
theorem uD{t:TypeId}(g:P.underlying t=some .bool)(a b:Bool):(Op.equal t (.bool a) (.bool b)).run P w=.ok (a==b) w:=by
 have:∀d,(Op.equalIn (d+1) t (.bool a) (.bool b)).run P w=.ok (a==b) w:=fun d=>by simp[Op.equalIn,run_underlying g]
 exact this 9999
theorem CR{o:BinOp}{t:TypeId}{x y:Operand}{u d v:SV}(h:biV P o t u d=some v):
 (do eqGuard o t x y (u.den S κ) (d.den S κ);binOp o t (u.den S κ) (d.den S κ)).run P w=.ok (v.den S κ) w:=by
 unfold biV at h;split at h
 ·rename_i k a k' b
  split at h
  ·rename_i hk
   subst hk;split at h
   ·rename_i g
    obtain rfl:=Option.some.inj h
    cases o<;>first
     | exact absurd g ψ
     | simp[SV.den,Cl.den_i,Cl.den_b,Cl.den_s,Cl.den_p,Cl.den_sl,BE.den,gz,eqGuard_at_int,binOp,Op.intCmp]
   ·split at h
    all_goals first
     | cases h;done
     | (obtain rfl:=Option.some.inj h;simp[SV.den,Cl.den_i,Cl.den_b,Cl.den_s,Cl.den_p,Cl.den_sl,IE.den,lM,eqGuard_at_int,binOp,Op.intArith];done)
     | skip
    all_goals
     split at h
     ·rename_i n
      cases e:decide (n=0)with
      | true=>rw[e]at h;cases h
      | false =>
       rw[e]at h;obtain rfl:=Option.some.inj h;have j:¬ n=0:=of_decide_eq_false e;simp[SV.den,Cl.den_i,Cl.den_b,Cl.den_s,Cl.den_p,Cl.den_sl,IE.den,lM,eqGuard_at_int,binOp,Op.intDiv,j]
     ·cases h
  ·cases h
 ·split at h<;>first
   | cases h;done
   | (obtain rfl:=Option.some.inj h;simp[SV.den,Cl.den_i,Cl.den_b,Cl.den_s,Cl.den_p,Cl.den_sl,BE.den,eqGuard_at_string,binOp,Op.stringOp])
 ·rename_i a b
  split at h
  ·rename_i l
   split at h<;>first
    | cases h;done
    | (obtain rfl:=Option.some.inj h;simp[SV.den,Cl.den_i,Cl.den_b,Cl.den_s,Cl.den_p,Cl.den_sl,BE.den,eqGuard_at_bool,binOp,uD l])
  ·cases h
 ·cases h
theorem Bu{x v:SV}(h:noV x=some v):(Op.unary .not (x.den S κ)).run P w=.ok (v.den S κ) w:=by
 unfold noV at h;split at h
 ·obtain rfl:=Option.some.inj h;simp[SV.den,Cl.den_i,Cl.den_b,Cl.den_s,Cl.den_p,Cl.den_sl,BE.den,Op.unary]
 ·cases h
theorem CK{s d:TypeId}{x v:SV}(h:cvV P s d x=some v):(convert s d (x.den S κ)).run P w=.ok (v.den S κ) w:=by
 unfold cvV at h;split at h
 ·split at h
  ·rename_i g j
   obtain rfl:=Option.some.inj h;simp[SV.den,Cl.den_i,Cl.den_b,Cl.den_s,Cl.den_p,Cl.den_sl,IE.den,convert,run_underlying g,run_underlying j,Conv.intToInt]
  ·cases h
 ·cases h
theorem CE{i:Nat}{x v:SV}(h:exV i x=some v):(Instr.extract (x.den S κ) i).run P w=.ok (v.den S κ) w:=by
 unfold exV at h;split at h
 ·rename_i l
  cases e:l[i]? with
  | none=>rw[e]at h;cases h
  | some c =>
   rw[e]at h;obtain rfl:=Option.some.inj h;simp[SV.den,Instr.extract,e]
 ·cases h
theorem C3{t ty:TypeId}{x v:SV}(h:leV P t x=some v):(Builtin.len_ #[t] ty #[x.den S κ]).run P w=.ok (v.den S κ) w:=by
 unfold leV at h;split at h
 ·split at h
  ·rename_i d
   obtain rfl:=Option.some.inj h;simp[SV.den,Cl.den_i,Cl.den_b,Cl.den_s,Cl.den_p,Cl.den_sl,IE.den,Builtin.len_,run_underlying d,goInt]
  ·cases h
 ·split at h
  ·rename_i d
   obtain rfl:=Option.some.inj h;simp[SV.den,Cl.den_i,Cl.den_b,Cl.den_s,Cl.den_p,Cl.den_sl,IE.den,Builtin.len_,run_underlying d,goInt]
  ·cases h
 ·cases h
theorem Bv{ts:Array TypeId}{ty:TypeId}{x y v:SV}(h:mxV x y=some v):(Builtin.max_ ts ty #[x.den S κ,y.den S κ]).run P w=.ok (v.den S κ) w:=by
 unfold mxV at h;split at h
 ·split at h
  ·rename_i hk
   subst hk;obtain rfl:=Option.some.inj h;simp[SV.den,Cl.den_i,IE.den,go_sem]
  ·cases h
 ·cases h
theorem Bc{t:TypeId}{x y v:SV}(h:shV P C t x y=some v)(L:jH S κ P C H w):(Instr.sliceAt t (x.den S κ) none (some (y.den S κ)) none).run P w=.ok (v.den S κ) w:=by
 unfold shV at h;split at h
 ·rename_i r n c k e
  split at h
  ·rename_i el Q
   cases e1:Nat.ble 1 (P.cellsOf el)with
   | false=>rw[e1]at h;cases h
   | true =>
    rw[e1]at h;simp only[cond_true,Option.map_eq_some_iff]at h;obtain⟨q,B,rfl⟩:=h;have O:=List.mem_of_find?_eq_some B;have A:=List.find?_some B;simp only[Bool.and_eq_true,decide_eq_true_eq]at A;obtain⟨g,j,l,p⟩:=A;obtain⟨r',R,u,e',U⟩:=q;replace g:r'=r:=Nat.eq_of_beq_eq_true g;replace j:R=n:=Nat.eq_of_beq_eq_true j;replace l:u=c:=Nat.eq_of_beq_eq_true l;replace p:e'=e:=p;subst g j l p;obtain⟨D,E⟩:=L.sl _ O;simp only at D E;obtain⟨i,N⟩:=gk (P:=P) (t:=el) (Nat.le_of_ble_eq_true e1);have I:0≤e'.den S:=χ
    have J:e'.den S≤(S.n u:Int):=χ
    have K:(e'.den S).toNat=S.n U:=χ
    simp[SV.den,Cl.den_sl,Cl.den_i,Instr.sliceAt,run_underlying Q,Instr.slice,Instr.sliceBounds,Instr.sliceBound,asIntOf,I,J,run_sizeOf _ N,jk,K];have d:∀x:Addr,x.add 0=x:=fun x=>by simp[Addr.add]
    intro _;simp[d]
  ·cases h
 ·cases h
theorem yM{o:Oper}{v:SV}(h:opV P C F M o.op=some v)(d:Has S κ N F a)(D:pW S κ (M++C.GM) w)(q:jH S κ P C H w):(execOp a.eval o).run P w=.ok (.value (v.den S κ)) w:=by
 obtain⟨dst,op,ty,pos,I,g⟩:=o;simp only at h;unfold opV at h;split at h
 ·simp[execOp,d.ev h]
 ·simp[execOp,d.ev h]
 ·obtain⟨u,j,hv⟩:=Option.bind_eq_some_iff.1 h
  simp[execOp,d.ev j,C4 hv D]
 ·split at h
  ·rename_i x r o A
   obtain rfl:=Option.some.inj h;simp[execOp,d.ev A,SV.den,Cl.den_p]
  ·cases h
 ·obtain⟨u,j,hv⟩:=Option.bind_eq_some_iff.1 h
  simp[execOp,d.ev j,CC hv]
 ·obtain⟨u,j,hv⟩:=Option.bind_eq_some_iff.1 h
  obtain⟨B,l,hv⟩:=Option.bind_eq_some_iff.1 hv;simp[execOp,d.ev j,d.ev l,C5 hv q]
 ·obtain⟨u,j,hv⟩:=Option.bind_eq_some_iff.1 h
  simp[execOp,d.ev j,CB hv]
 ·rename_i o t x y _
  obtain⟨u,j,hv⟩:=Option.bind_eq_some_iff.1 h;obtain⟨B,l,hv⟩:=Option.bind_eq_some_iff.1 hv;have:=CR (S:=S) (κ:=κ) (w:=w) (x:=x) (y:=y) hv;simp only[execOp,d.ev j,d.ev l,Sem.run_bind]at this⊢;rw[this];rfl
 ·obtain⟨u,j,hv⟩:=Option.bind_eq_some_iff.1 h
  simp[execOp,d.ev j,Bu hv]
 ·obtain⟨u,j,hv⟩:=Option.bind_eq_some_iff.1 h
  simp[execOp,d.ev j,CK hv]
 ·obtain⟨u,j,hv⟩:=Option.bind_eq_some_iff.1 h
  simp[execOp,d.ev j,CE hv]
 ·split at h
  ·rename_i c x y e A
   have p:=d.ev A;simp only[SV.den,Cl.den_b]at p;split at h
   ·rename_i hv
    rw[BE.val_ok q.fa hv]at p;simp[execOp,p,asBool,d.ev h]
   ·rename_i hv
    rw[BE.val_ok q.fa hv]at p;simp[execOp,p,asBool,d.ev h]
   ·cases h
  ·cases h
 ·split at h
  ·rename_i xs ts _ _ x t hx E
   obtain⟨u,j,hv⟩:=Option.bind_eq_some_iff.1 h;obtain rfl:xs = #[x]:=Array.ext' hx;obtain rfl:ts = #[t]:=Array.ext' E;have:=C3 (S:=S) (κ:=κ) (w:=w) (ty:=ty) hv;simp[execOp,resolve,invoke,builtin,d.ev j,this]
  ·cases h
 ·split at h
  ·rename_i xs ts _ x y hx
   obtain⟨u,j,hv⟩:=Option.bind_eq_some_iff.1 h;obtain⟨B,l,hv⟩:=Option.bind_eq_some_iff.1 hv;obtain rfl:xs = #[x,y]:=Array.ext' hx;have:=Bv (P:=P) (S:=S) (κ:=κ) (w:=w) (ts:=ts) (ty:=ty) hv;simp[execOp,resolve,invoke,builtin,d.ev j,d.ev l,this]
  ·cases h
 ·obtain⟨u,j,hv⟩:=Option.bind_eq_some_iff.1 h
  obtain⟨B,l,hv⟩:=Option.bind_eq_some_iff.1 hv;simp[execOp,d.ev j,d.ev l,Bc hv q]
 ·cases h
end
structure St where
 F:Fr
 M:Mm:=[]
 k:Nat:=0
 e:List Nat:=[]
def gd(FA:List (BE×Bool))(ops:List Oper)(F:Fr):Option (Nat×Bool)→Option Bool
 | none=>some true
 | some (j,want) =>
  match(ops[j]?).bind (·.dst)with
  | some t=>match gt F t with
   | some (.one (.b e))=>(BE.val FA e).map (· == want)
   | some (.one .u)=>some false
   | _=>none
  | none=>none
theorem sJ{S:Sta}{κ:Kap}{N:Nat}{F:Fr}{a:Act}{FA:List (BE×Bool)}(u:Has S κ N F a)(p:∀x∈FA,x.1.den S=x.2){d:List Oper}{o:Oper}{b:Bool}(h:gd FA d F o.guard=some b):Region.wanted o (yielded d.toArray a.tmps)=b:=by
 unfold Region.wanted;unfold gd at h;split at h
 ·rename_i r;rw[r];exact Option.some.inj h
 ·rename_i j l r
  rw[r];split at h
  ·rename_i t v
   have g:yielded d.toArray a.tmps j=match a.tmps[t]? with|some (.bool b)=>some b|_=>none:=by
    unfold yielded;rw[show(d.toArray[j]?).bind (·.dst)=some t by simpa using v];rfl
   split at h
   ·rename_i e q
    obtain⟨y,hv,rfl⟩:=Option.map_eq_some_iff.1 h;rw[u.get _ _ q]at g;have:=BE.val_ok p hv;simp only[SV.den,Cl.den_b,this]at g;simp only[g]
    cases y<;>cases l<;>rfl
   ·rename_i q
    obtain rfl:=Option.some.inj h;rw[u.get _ _ q]at g;have:yielded d.toArray a.tmps j=none:=g;simp only[this];rfl
   ·cases h
  ·cases h
def Cl.same:Cl→Cl→Bool
 | .i k e,.i k' e'=>decide (k=k')&&decide (e=e')
 | .b e,.b e'=>decide (e=e')
 | .s e,.s e'=>decide (e=e')
 | .p r o,.p r' o'=>Nat.beq r r'&&Nat.beq o o'
 | .sl r n c,.sl r' n' c'=>Nat.beq r r'&&(Nat.beq n n'&&Nat.beq c c')
 | .v x,.v y=>Nat.beq x y
 | .u,.u=>true
 | .l (.slice none y z),.l (.slice none y' z')=>Nat.beq y y'&&Nat.beq z z'
 | _,_=>false
theorem Cl.same_ok{x y:Cl}(h:Cl.same x y=true):x=y:=by
 unfold Cl.same at h;split at h<;>first
  | (simp only[Bool.and_eq_true,decide_eq_true_eq,Nat.beq_eq]at h;obtain⟨d,g,j⟩:=h;subst d g j;rfl)
  | (simp only[Bool.and_eq_true,decide_eq_true_eq,Nat.beq_eq]at h;obtain⟨d,g⟩:=h;subst d g;rfl)
  | (simp only[Bool.and_eq_true,decide_eq_true_eq,Nat.beq_eq]at h;subst h;rfl)
  | rfl
  | cases h
def rR:List Cl→List Cl→Bool
 | [],[]=>true
 | x::l,y::m=>Cl.same x y&&rR l m
 | _,_=>false
theorem na:∀{l m:List Cl},rR l m=true→l=m
 | [],[],_=>rfl
 | x::l,y::m,h=>by
  simp only[rR,Bool.and_eq_true]at h;rw[Cl.same_ok h.1,na h.2]
 | [],_::_,h=>by cases h
 | _::_,[],h=>by cases h
def SV.same:SV→SV→Bool
 | .one x,.one y=>Cl.same x y
 | .ag l,.ag m=>rR l m
 | _,_=>false
theorem SV.same_ok{x y:SV}(h:SV.same x y=true):x=y:=by
 unfold SV.same at h;split at h
 ·rw[Cl.same_ok h]
 ·rw[na h]
 ·cases h
def nb:List SV→List SV→Bool
 | [],[]=>true
 | x::l,y::m=>SV.same x y&&nb l m
 | _,_=>false
theorem kw:∀{l m:List SV},nb l m=true→l=m
 | [],[],_=>rfl
 | x::l,y::m,h=>by
  simp only[nb,Bool.and_eq_true]at h;rw[SV.same_ok h.1,kw h.2]
 | [],_::_,h=>by cases h
 | _::_,[],h=>by cases h
def evs(F:Fr):List Operand→Option (List SV)
 | []=>some []
 | x::l=>match ev F x with
  | some v=>match evs F l with
   | some m=>some (v::m)
   | none=>none
  | none=>none
theorem qo{S:Sta}{κ:Kap}{N:Nat}{F:Fr}{a:Act}(d:Has S κ N F a):∀{l:List Operand} {m:List SV},evs F l=some m→l.map a.eval=m.map (SV.den S κ)
 | [],m,h=>by obtain rfl:=Option.some.inj h;rfl
 | x::l,m,h=>by
  unfold evs at h;split at h
  ·rename_i v hv
   split at h
   ·rename_i j g
    obtain rfl:=Option.some.inj h;simp[d.ev hv,qo d g]
   ·cases h
  ·cases h
def od(P:Program)(f:FuncId):Bool:=
 match P.funcs[f]? with
 | some fn=>fn.body.isSome && !(fn.name == "runtime.NumGoroutine")
 | none=>false
theorem kD{P:Program}{f:FuncId}(h:od P f=true)(args:Array Value)(w:World):(callFunc f args).run P w=.ok (.enter f args) w:=by
 unfold od at h;split at h
 ·rename_i fn j
  simp only[Bool.and_eq_true,Bool.not_eq_true']at h;have d:¬ fn.body=none:=fun e=>by rw[e]at h;simp at h
  have g:¬ fn.name = "runtime.NumGoroutine" := by simpa using h.2
  simp[callFunc,program,Sem.run,j,g,d]
 ·cases h
def clV(P:Program)(C:Ctx)(F:Fr):Op→Option SV
 | .call ⟨.value (.func f),xs,_⟩ =>
  match evs F xs.toList with
  | some as=>bif od P f then(C.CT.find? fun x=>Nat.beq x.1 f&&nb x.2.1 as).map (·.2.2)else none
  | none=>none
 | _=>none
theorem zP{S:Sta}{κ:Kap}{N:Nat}{F:Fr}{C:Ctx}{H:Gh}{P:Program}{a:Act}{w:World}{o:Oper}{v:SV}(h:clV P C F o.op=some v)(E:Has S κ N F a)(D:jH S κ P C H w){l:List Nat}(I:H.G l w){K:Act→World→Prop}{Q:Exit→Act→World→Prop}
 (J:∀w',Kz w w'→K (a.put o.dst (v.den S κ)) w'):o.wp P a w K Q:=by
 obtain⟨dst,op,ty,pos,O,g⟩:=o;unfold clV at h;split at h
 ·rename_i f xs ts d
  simp only at d;subst d;split at h
  ·rename_i as has
   cases hb:od P f with
   | false=>rw[hb]at h;cases h
   | true =>
    rw[hb]at h;obtain⟨x,hx,rfl⟩:=Option.map_eq_some_iff.1 h;have L:=List.mem_of_find?_eq_some hx;have q:=List.find?_some hx;simp only[Bool.and_eq_true,Nat.beq_eq]at q;obtain⟨r,u⟩:=q;have y:=kw u;have p:=D.ct x L l w (aD.refl _ _) I;rw[r,y]at p;have e:(#[]++xs.map a.eval ++ #[]:Array Value)=(as.map (SV.den S κ)).toArray:=by
     apply Array.ext'
     have:=qo E has;simp[this]
    unfold Oper.wp;rw[execOp_call_go,kD hb,e];refine p.mono fun e' j ⟨A,B⟩=>?_
    subst A;exact J j B
  ·cases h
 ·cases h
def idx(f:FuncId)(as:List SV):Nat→List (FuncId×List SV×SV)→Option (Nat×SV)
 | _,[]=>none
 | i,x::l=>bif Nat.beq x.1 f&&nb x.2.1 as then some (i,x.2.2)else idx f as (i+1) l
theorem yx{f:FuncId}{as:List SV}:∀{l:List (FuncId×List SV×SV)} {i j:Nat} {v:SV},idx f as i l=some (j,v)→i≤j∧l[j-i]?=some (f,as,v)
 | [],i,j,v,h=>by cases h
 | x::l,i,j,v,h=>by
  rw[idx]at h
  cases e:Nat.beq x.1 f&&nb x.2.1 as with
  | true =>
   rw[e]at h;simp only[cond_true,Option.some.injEq,Prod.mk.injEq]at h;obtain⟨rfl,rfl⟩:=h;simp only[Bool.and_eq_true,Nat.beq_eq]at e;obtain⟨p,q,r⟩:=x;have d:=kw e.2;simp only at d;have g:p=f:=e.1;subst g d;exact⟨Nat.le_refl _,ξ⟩
  | false =>
   rw[e]at h;obtain⟨g,d⟩:=yx (l:=l) h;refine⟨χ,?_⟩;rw[show j-i=(j-(i+1))+1 by omega,List.getElem?_cons_succ];exact d
def nrm(FA:List (BE×Bool)):SV→SV
 | .one (.b e)=>match BE.val FA e with
  | some b =>.one (.b (.c b))
  | none =>.one (.b e)
 | v=>v
theorem Bt{S:Sta}{κ:Kap}{FA:List (BE×Bool)}(d:∀x∈FA,x.1.den S=x.2)(v:SV):(nrm FA v).den S κ=v.den S κ:=by
 unfold nrm;split
 ·split
  ·rename_i b g;simp only[SV.den,Cl.den_b,BE.den,BE.val_ok d g]
  ·rfl
 ·rfl
def efV(P:Program)(C:Ctx)(F:Fr):Op→Option (Nat×SV)
 | .call ⟨.value (.func f),xs,_⟩ =>
  match evs F xs.toList with
  | some as=>bif od P f then idx f (as.map (nrm C.FA)) 0 C.ET else none
  | none=>none
 | _=>none
theorem CF{S:Sta}{κ:Kap}{N:Nat}{F:Fr}{C:Ctx}{H:Gh}{P:Program}{a:Act}{w:World}{o:Oper}{i:Nat}{v:SV}{e:List Nat}(h:efV P C F o.op=some (i,v))(y:Has S κ N F a)(l:jH S κ P C H w)(A:H.G e w){K:Act→World→Prop}{Q:Exit→Act→World→Prop}
 (B:∀w',aD H.T w w'→H.G (i::e) w'→K (a.put o.dst (v.den S κ)) w'):o.wp P a w K Q:=by
 obtain⟨dst,op,ty,pos,E,g⟩:=o;unfold efV at h;split at h
 ·rename_i f xs ts d
  simp only at d;subst d;split at h
  ·rename_i as has
   cases hb:od P f with
   | false=>rw[hb]at h;cases h
   | true =>
    rw[hb]at h;obtain⟨_,hx⟩:=yx h;have D:=l.et i _ (by simpa using hx) e w (aD.refl _ _) A;have p:(#[]++xs.map a.eval ++ #[]:Array Value)=((as.map (nrm C.FA)).map (SV.den S κ)).toArray:=by
     apply Array.ext'
     have:=qo y has;have x:SV.den S κ ∘ nrm C.FA=SV.den S κ:=funext fun v=>Bt l.fa v
     simp[this,x]
    unfold Oper.wp;rw[execOp_call_go,kD hb,p];refine D.mono fun e' j ⟨q,r,u⟩=>?_
    subst q;exact B j r u
  ·cases h
 ·cases h
def Cl.plain:Cl→Bool
 | .i _ _|.b _|.s _|.p _ _|.sl _ _ _=>true
 | _=>false
theorem Cl.plain_ok{c:Cl}(h:Cl.plain c=true)(S:Sta)(κ:Kap):(c.den S κ).cells = #[c.den S κ]:=by
 cases c<;>first
  | rfl
  | cases h
def bxV(F:Fr):Op→Option (List Cl)
 | .box _ x=>match ev F x with
  | some (.ag l)=>some l
  | some (.one c)=>bif Cl.plain c then some [c]else none
  | _=>none
 | _=>none
theorem ig{P:Program}(t:TypeId)(v:Value)(w:World):(newVar t v).run P w=.ok ⟨w.heap.size,0,none⟩ (w.alloc (.cells v.cells t)):=rfl
theorem CO{S:Sta}{κ:Kap}{N:Nat}{F:Fr}{P:Program}{a:Act}{w:World}{o:Oper}{l:List Cl}(h:bxV F o.op=some l)(j:Has S κ N F a):∃t,(execOp a.eval o).run P w=.ok (.value (.pointer (some ⟨w.heap.size,0,none⟩))) (w.alloc (.cells (l.map (Cl.den S κ)).toArray t)):=by
 obtain⟨dst,op,ty,pos,p,g⟩:=o;unfold bxV at h;split at h
 ·rename_i t x d
  simp only at d;subst d;split at h
  ·rename_i q hx
   obtain rfl:=Option.some.inj h;exact⟨t,by simp[execOp,Instr.box,ig,j.ev hx,SV.den,Value.cells]⟩
  ·rename_i c hx
   cases e:Cl.plain c with
   | false=>rw[e]at h;cases h
   | true =>
    rw[e]at h;obtain rfl:=Option.some.inj h;exact⟨t,by simp[execOp,Instr.box,ig,j.ev hx,SV.den,Cl.plain_ok e]⟩
  ·cases h
 ·cases h
def Cl.sc(k:Nat):Cl→Bool
 | .p r _=>Nat.ble (r+1) k
 | _=>true
def SV.sc(k:Nat):SV→Bool
 | .one c=>c.sc k
 | .ag l=>l.all (Cl.sc k)
 | .tu l=>l.all (Cl.sc k)
def eU(k:Nat)(κ κ':Kap):Prop:=∀r,r<k→κ' r=κ r
theorem Cl.sc_ok{k:Nat}{κ κ':Kap}{S:Sta}(g:eU k κ κ'){c:Cl}(h:c.sc k=true):c.den S κ'=c.den S κ:=by
 cases c<;>first
  | rfl
  | (have d:=g _ (Nat.le_of_ble_eq_true h);simp only[Cl.den,d])
theorem xn{k:Nat}{κ κ':Kap}{S:Sta}(g:eU k κ κ'){l:List Cl}(h:l.all (Cl.sc k)=true):l.map (Cl.den S κ')=l.map (Cl.den S κ):=
 List.map_congr_left fun c d=>Cl.sc_ok g (List.all_eq_true.1 h c d)
theorem SV.sc_ok{k:Nat}{κ κ':Kap}{S:Sta}(d:eU k κ κ'){v:SV}(h:v.sc k=true):v.den S κ'=v.den S κ:=by
 cases v with
 | one c=>exact Cl.sc_ok d h
 | ag l=>simp only[SV.den,xn d h]
 | tu l=>simp only[SV.den,xn d h]
def St.sc(s:St):Bool:=s.F.all (fun x=>x.2.sc s.k)&&s.M.all fun x=>Nat.ble (x.1+1) s.k&&x.2.all (Cl.sc s.k)
def Ctx.sc(C:Ctx)(k:Nat):Bool:=(C.EL.all fun x=>Nat.ble (x.2.2.2.2+1) k)&&(C.CT.all fun x=>x.2.1.all (SV.sc k)&&x.2.2.sc k)&&(C.ET.all fun x=>x.2.1.all (SV.sc k)&&x.2.2.sc k)&&C.GM.all fun x=>Nat.ble (x.1+1) k&&x.2.all (Cl.sc k)
theorem ki{F:Fr}{t:Nat}{v:SV}(h:gt F t=some v):(t,v)∈F:=by
 induction F with
 | nil=>cases h
 | cons x F ih =>
  obtain⟨u,y⟩:=x;rw[bD]at h;split at h
  ·rename_i e;subst e;obtain rfl:=Option.some.inj h;exact List.mem_cons_self
  ·exact List.mem_cons_of_mem _ (ih h)
theorem fN{M:Mm}{d t:Nat}{v:List Cl}:gm ((d,v)::M) t=if d=t then some v else gm M t:=by
 simp only[gm]
 cases h:Nat.beq d t with
 | true=>rw[if_pos (Nat.eq_of_beq_eq_true h)];rfl
 | false=>rw[if_neg (Nat.ne_of_beq_eq_false h)];rfl
theorem qi{M:Mm}{t:Nat}{v:List Cl}(h:gm M t=some v):(t,v)∈M:=by
 induction M with
 | nil=>cases h
 | cons x M ih =>
  obtain⟨u,y⟩:=x;rw[fN]at h;split at h
  ·rename_i e;subst e;obtain rfl:=Option.some.inj h;exact List.mem_cons_self
  ·exact List.mem_cons_of_mem _ (ih h)
structure Now (S:Sta) (κ:Kap) (N:Nat) (P:Program) (C:Ctx) (H:Gh) (s:St) (a:Act) (w:World):Prop where
 has:Has S κ N s.F a
 mem:iP S κ H.T s.M w
 ctx:jH S κ P C H w
 tb:∀g,H.T g→g<w.heap.size
 gh:H.G s.e w
theorem Now.keep{S:Sta}{κ:Kap}{N:Nat}{P:Program}{C:Ctx}{H:Gh}{s:St}{a:Act}{w w':World}(h:Now S κ N P C H s a w)(hk:Kz w w'):Now S κ N P C H s a w':=
 ⟨h.has,h.mem.keep (K_T hk),h.ctx.keep (K_T hk),fun g d=>Nat.lt_of_lt_of_le (h.tb g d) hk.size,H.st _ _ _ hk h.gh⟩
theorem Now.wrote{S:Sta}{κ:Kap}{N:Nat}{P:Program}{C:Ctx}{H:Gh}{s:St}{a:Act}{w w':World}{e:List Nat}(h:Now S κ N P C H s a w)(hk:aD H.T w w')(d:H.G e w'):Now S κ N P C H { s with e:=e } a w':=
 ⟨h.has,h.mem.keep hk,h.ctx.keep hk,fun g d=>Nat.lt_of_lt_of_le (h.tb g d) hk.size,d⟩
theorem Now.upto{S:Sta}{κ κ':Kap}{N:Nat}{P:Program}{C:Ctx}{H:Gh}{s:St}{a:Act}{w:World}(h:Now S κ N P C H s a w)(d:eU s.k κ κ')(D:s.sc=true)(E:C.sc s.k=true):Now S κ' N P C H s a w:=by
 unfold St.sc at D;unfold Ctx.sc at E;simp only[Bool.and_eq_true,List.all_eq_true]at D E;obtain⟨L,Q⟩:=D;obtain⟨⟨⟨K,c1⟩,R⟩,g1⟩:=E;refine⟨⟨h.has.size,fun t v J=>?_⟩,⟨fun r l A=>?_⟩,⟨h.ctx.fa,fun x hx=>?_,fun x hx e w' B u=>?_,fun i x hx e w' B u=>?_,fun e w' B u r l A=>?_,h.ctx.sl⟩,h.tb,h.gh⟩
 ·rw[SV.sc_ok d (L _ (ki J))]
  exact h.has.get t v J
 ·obtain⟨g,p⟩:=Q _ (qi A)
  obtain⟨q,O⟩:=h.mem.get r l A;rw[d r (Nat.le_of_ble_eq_true g)];refine⟨q,fun j c y=>?_⟩;rw[Cl.sc_ok d (p c (List.mem_of_getElem? y))];exact O j c y
 ·rw[d _ (Nat.le_of_ble_eq_true (K x hx))]
  exact h.ctx.el x hx
 ·obtain⟨g,p⟩:=c1 x hx
  have q:x.2.1.map (SV.den S κ')=x.2.1.map (SV.den S κ):=List.map_congr_left fun c I=>SV.sc_ok d (g c I)
  rw[q,SV.sc_ok d p];exact h.ctx.ct x hx e w' B u
 ·obtain⟨g,p⟩:=R x (List.mem_of_getElem? hx)
  have q:x.2.1.map (SV.den S κ')=x.2.1.map (SV.den S κ):=List.map_congr_left fun c I=>SV.sc_ok d (g c I)
  rw[q,SV.sc_ok d p];exact h.ctx.et i x hx e w' B u
 ·obtain⟨g,p⟩:=g1 _ (qi A)
  rw[d r (Nat.le_of_ble_eq_true g)];intro j c y;rw[Cl.sc_ok d (p c (List.mem_of_getElem? y))];exact h.ctx.gm e w' B u r l A j c y
structure fV (T:Nat→Prop) (κ κ':Kap) (s s':St) (a a':Act) (w w':World):Prop where
 upto:eU s.k κ κ'
 le:s.k≤s'.k
 keep:aD T w w'
 agree:∃l,s'.F=l++s.F∧aA (fun t=>l.any fun x=>Nat.beq x.1 t) a a'
theorem fV.refl{T:Nat→Prop}(κ:Kap)(s:St)(a:Act)(w:World):fV T κ κ s s a a w w:=⟨fun _ _=>rfl,Nat.le_refl _,aD.refl _ _,[],rfl,aA.refl _ _⟩
theorem fV.trans{T:Nat→Prop}{κ κ' q:Kap}{s s' j:St}{a v d:Act}{w w' p:World}(h:fV T κ κ' s s' a v w w')(g:fV T κ' q s' j v d w' p):fV T κ q s j a d w p:=by
 obtain⟨l,e,A⟩:=h.agree;obtain⟨m,e',B⟩:=g.agree;refine⟨fun r y=>(g.upto r (Nat.lt_of_lt_of_le y h.le)).trans (h.upto r y),Nat.le_trans h.le g.le,h.keep.trans g.keep (fun _ _ e=>e),m++l,by rw[e',e,List.append_assoc],aA.trans (ws:=fun t=>(m++l).any fun x=>Nat.beq x.1 t) (A.mono fun i u=>?_) B fun i u=>?_⟩
 ·simp only[List.any_append,u,Bool.or_true]
 ·simp only[List.any_append,u,Bool.true_or]
def wr(N:Nat)(s:St)(d:Option Tmp)(v:SV):Option St:=
 match d with
 | some t=>bif Nat.ble (t+1) N then some { s with F:=(t,v)::s.F }else none
 | none=>some s
theorem rC{S:Sta}{κ:Kap}{N:Nat}{P:Program}{C:Ctx}{H:Gh}{s s':St}{a:Act}{w:World}{d:Option Tmp}{v:SV}(h:wr N s d v=some s')(g:Now S κ N P C H s a w):Now S κ N P C H s' (a.put d (v.den S κ)) w∧fV H.T κ κ s s' a (a.put d (v.den S κ)) w w:=by
 unfold wr at h;split at h
 ·rename_i t
  cases e:Nat.ble (t+1) N with
  | false=>rw[e]at h;cases h
  | true =>
   rw[e]at h;obtain rfl:=Option.some.inj h;refine⟨⟨g.has.put (Nat.le_of_ble_eq_true e),g.mem,g.ctx,g.tb,g.gh⟩,⟨fun _ _=>rfl,Nat.le_refl _,aD.refl _ _,[(t,v)],rfl,(aA.refl _ _).put ξ _⟩⟩
 ·obtain rfl:=Option.some.inj h
  exact⟨g,fV.refl _ _ _ _⟩
def st1(P:Program)(C:Ctx)(N:Nat)(ops:List Oper)(s:St)(o:Oper):Option St:=
 match gd C.FA ops s.F o.guard with
 | some true =>
  match opV P C s.F s.M o.op with
  | some v=>wr N s o.dst v
  | none =>
   match clV P C s.F o.op with
   | some v=>wr N s o.dst v
   | none =>
   match efV P C s.F o.op with
   | some (i,v)=>wr N { s with e:=i::s.e } o.dst v
   | none =>
    match bxV s.F o.op with
    | some l=>bif s.sc&&C.sc s.k&&l.all (Cl.sc s.k)then wr N { s with M:=(s.k,l)::s.M,k:=s.k+1 } o.dst (.one (.p s.k 0))else none
    | none=>none
 | some false=>wr N s o.dst (.one .u)
 | none=>none
theorem xi{S:Sta}{N:Nat}{P:Program}{C:Ctx}{H:Gh}{A:List Oper}{o:Oper}{s s':St}{κ:Kap}{a:Act}{w:World}{Q:Exit→Act→World→Prop}(h:st1 P C N A s o=some s')(d:Now S κ N P C H s a w){K:Act→World→Prop}
 (u:∀κ' E w',Now S κ' N P C H s' E w'→fV H.T κ κ' s s' a E w w'→K E w'):if Region.wanted o (yielded A.toArray a.tmps)then o.wp P a w K Q else K (a.put o.dst undef) w:=by
 unfold st1 at h;split at h
 ·rename_i x
  rw[if_pos (sJ d.has d.ctx.fa x)];split at h
  ·rename_i v hv
   obtain⟨p,q⟩:=rC h d;unfold Oper.wp;rw[yM hv d.has (d.mem.f.app (d.ctx.gm _ _ (aD.refl _ _) d.gh)) d.ctx];exact u _ _ _ p q
  ·split at h
   ·rename_i v hv
    obtain⟨p,q⟩:=rC h d;exact zP hv d.has d.ctx d.gh fun w' y=>u _ _ _ (p.keep y) (q.trans ⟨fun _ _=>rfl,Nat.le_refl _,K_T y,[],rfl,aA.refl _ _⟩)
   ·split at h
    ·rename_i i v hv
     refine CF hv d.has d.ctx d.gh fun w' y x=>?_
     have g:=(d.wrote y x);obtain⟨I,B⟩:=rC h g;exact u _ _ _ I (fV.trans (s':={ s with e:=i::s.e }) ⟨fun _ _=>rfl,Nat.le_refl _,y,[],rfl,aA.refl _ _⟩ B)
    split at h
    ·rename_i l Y
     cases e:s.sc&&C.sc s.k&&l.all (Cl.sc s.k)with
     | false=>rw[e]at h;cases h
     | true =>
      rw[e]at h;simp only[Bool.and_eq_true]at e;obtain⟨⟨V,W⟩,e3⟩:=e;obtain⟨t,J⟩:=CO (P:=P) (w:=w) Y d.has;have hk:Kz w (w.alloc (.cells (l.map (Cl.den S κ)).toArray t)):=(aD.refl _ _).alloc _
      let κ':Kap:=fun r=>if r=s.k then(w.heap.size,0)else κ r
      have L:eU s.k κ κ':=fun r Z=>if_neg χ
      have U:κ' s.k=(w.heap.size,0):=if_pos rfl;have g:=(d.upto L V W).keep hk;have I:Now S κ' N P C H { s with M:=(s.k,l)::s.M,k:=s.k+1 } a (w.alloc (.cells (l.map (Cl.den S κ)).toArray t)):=by
       refine⟨g.has,⟨fun r m D=>?_⟩,g.ctx,g.tb,g.gh⟩;rw[fN]at D;split at D
       ·rename_i X
        subst X;obtain rfl:=Option.some.inj D;rw[U];refine⟨⟨ξ,fun J=>by have:=d.tb _ J;omega⟩,fun j c R=>?_⟩;rw[World.cell?_alloc_at _ _ _ _ rfl,Cl.sc_ok L (List.all_eq_true.1 e3 c (List.mem_of_getElem? R))];simp[R]
       ·exact g.mem.get r m D
      obtain⟨B,O⟩:=rC h I;unfold Oper.wp;rw[J];have e4:SV.den S κ' (.one (.p s.k 0))=.pointer (some ⟨w.heap.size,0,none⟩):=by simp[SV.den,Cl.den_p,U]
      rw[e4]at B O;exact u κ' _ _ B (fV.trans (s':={ s with M:=(s.k,l)::s.M,k:=s.k+1 }) ⟨L,ξ,K_T hk,[],rfl,aA.refl _ _⟩ O)
    ·cases h
 ·rename_i x
  rw[if_neg (by rw[sJ d.has d.ctx.fa x];simp)];obtain⟨p,q⟩:=rC h d;exact u _ _ _ p q
 ·cases h
def prV(P:Program)(F:Fr)(o o2:Oper):Option (Nat×List Cl):=
 match o.op,o.dst,o.guard,o2.op,o2.dst,o2.guard with
 | .alloc E,some d,none,.store E' (.tmp d') (.tmp x),none,none =>
  match gt F x with
  | some (.ag l)=>bif Nat.beq E E'&&(Nat.beq d d'&&(!Nat.beq x d&&(l.all Cl.plain&&(Nat.beq (P.cellsOf E) l.length&&((P.info? E).bind (·.zero)).any fun z=>Nat.beq z.cells.size l.length))))then some (d,l)else none
  | _=>none
 | _,_,_,_,_,_=>none
theorem lN(w:World)(d cs:Array Value)(t:TypeId):(w.alloc (.cells d t)).setRow w.heap.size cs=w.alloc (.cells cs t):=by
 unfold World.setRow World.alloc
 congr 1
 apply Array.ext_getElem?
 intro k;simp only[Array.getElem?_modify,Array.getElem?_push]
 by_cases hk:k=w.heap.size
 ·subst hk;simp
 ·simp[hk,Ne.symm hk]
theorem pu{c:Cl}(h:Cl.plain c=true)(S:Sta)(κ:Kap):(c.den S κ).oneCell'=true:=by
 cases c<;>first
  | rfl
  | cases h
theorem kv{P:Program}{E:TypeId}{b:Addr}{vs:List Value}{W W2:World}(d:(sizeOf E).run P W=.ok vs.length W)(g:(storeCells b vs 0).run P W=.ok () W2):(storeVar E b (.agg vs.toArray)).run P W=.ok () W2:=by
 simp[storeVar,d,Value.cells,g]
theorem Bi{S:Sta}{κ:Kap}{N:Nat}{F:Fr}{P:Program}{y:Array Oper}{Q:Exit→Act→World→Prop}{l:List Oper}{a:Act}{w:World}{o Z:Oper}{d:Nat}{cl:List Cl}(h:prV P F o Z=some (d,cl))(hF:Has S κ N F a)(hd:d<N)
 (hK:∀E,wpList P y Q l (a.put (some d) (.pointer (some ⟨w.heap.size,0,none⟩))) (w.alloc (.cells (cl.map (Cl.den S κ)).toArray E))):wpList P y Q (o::Z::l) a w:=by
 obtain⟨dst,op,ty,pos,af,g⟩:=o;obtain⟨ad,a1,ac,A,L,g2⟩:=Z;unfold prV at h;split at h
 ·rename_i E p E' d2 x B C D v H I
  simp only at B C D v H I;subst B C D v H I;split at h
  ·rename_i j hx
   cases e:Nat.beq E E'&&(Nat.beq p d2&&(!Nat.beq x p&&(j.all Cl.plain&&(Nat.beq (P.cellsOf E) j.length&&((P.info? E).bind (·.zero)).any fun z=>Nat.beq z.cells.size j.length))))with
   | false=>rw[e]at h;cases h
   | true =>
    rw[e]at h;simp only[cond_true,Option.some.injEq,Prod.mk.injEq]at h;obtain⟨rfl,rfl⟩:=h;simp only[Bool.and_eq_true,Bool.not_eq_true']at e;obtain⟨O,R,e3,e4,r,e6⟩:=e;replace O:=Nat.eq_of_beq_eq_true O;replace R:=Nat.eq_of_beq_eq_true R;replace e3:=Nat.ne_of_beq_eq_false e3;replace r:=Nat.eq_of_beq_eq_true r;subst O R;obtain⟨z,hz,q⟩:=(Option.any_eq_true _ _).1 e6;replace q:=Nat.eq_of_beq_eq_true q;obtain⟨i,J,V⟩:=Option.bind_eq_some_iff.1 hz;have Y:(zeroValue E).run P w=.ok z w:=by simp[zeroValue,run_typeInfo (P:=P) _ J,V]
    have a0:(P.info? E).map (·.size)=some j.length:=by rw[J];unfold Program.cellsOf at r;rw[J]at r;simpa using r
    have U:∀u∈j.map (Cl.den S κ),u.oneCell'=true:=fun u hu=>by
     obtain⟨c,hc,rfl⟩:=List.mem_map.1 hu;exact pu (List.all_eq_true.1 e4 c hc) S κ
    refine wpList_plain rfl fun K hk=>?_
    unfold Oper.wp;have B:(execOp a.eval { dst:=some p,op := .alloc E,type:=ty,pos:=pos,after:=af,guard:=none }).run P w=.ok (.value (.pointer (some ⟨w.heap.size,0,none⟩))) (w.alloc (.cells z.cells E)):=by
     simp[execOp,Instr.alloc,Y,ig]
    rw[B];refine hk _ _ (wpList_plain rfl fun K2 W=>?_);unfold Oper.wp;have C:(a.put (some p) (.pointer (some ⟨w.heap.size,0,none⟩))).eval (.tmp p)=.pointer (some ⟨w.heap.size,0,none⟩):=At.eval At.put_self (by simp[Act.put,hF.size,hd]);have D:(a.put (some p) (.pointer (some ⟨w.heap.size,0,none⟩))).eval (.tmp x)=.agg (j.map (Cl.den S κ)).toArray:=by
     have:=hF.get x _ hx;show(a.tmps.setIfInBounds p _).getD x undef=_;rw[Array.getD_eq_getD_getElem?,Array.getElem?_setIfInBounds_ne (Ne.symm e3),this];rfl
    have hg:(w.alloc (.cells z.cells E)).heap[w.heap.size]?=some (.cells z.cells E (0,0)):=heap_alloc_new _ _;have v:=run_storeCells_at (P:=P) w.heap.size 0 E (j.map (Cl.den S κ)) 0 z.cells _ hg (by simp[q]) U;have H:(execOp (a.put (some p) (.pointer (some ⟨w.heap.size,0,none⟩))).eval { dst:=none,op := .store E (.tmp p) (.tmp x),type:=ac,pos:=A,after:=L,guard:=none }).run P (w.alloc (.cells z.cells E))=.ok .skip (w.alloc (.cells (j.map (Cl.den S κ)).toArray E)):=by
     have X:(sizeOf E).run P (w.alloc (.cells z.cells E))=.ok j.length (w.alloc (.cells z.cells E)):=by rw[run_sizeOf _ J,r]
     have I:(z.cells.toList.take (0+0)++j.map (Cl.den S κ)++z.cells.toList.drop (0+0+(j.map (Cl.den S κ)).length)).toArray=(j.map (Cl.den S κ)).toArray:=by
      rw[List.drop_eq_nil_of_le (by simp[q])];simp
     rw[I,lN]at v;have h7:=kv (by rw[X,List.length_map]) v;simp only[execOp,C,D,Instr.storeAt,Instr.sureAddr,Sem.run_bind,Sem.run_pure,Result.andThen_ok,h7]
    rw[H];exact W _ _ (hK E)
  ·cases h
 ·cases h
def prX(P:Program)(F:Fr)(o o2 o3:Oper):Option (Nat×List Cl×Nat×SV):=
 match o.op,o.dst,o.guard,o2.op,o2.dst,o2.guard,o3.op,o3.dst,o3.guard with
 | .alloc E,some d,none,.assign (.tmp y),some d2,none,.store E' (.tmp d') (.tmp x),none,none =>
  match gt F x,gt F y with
  | some (.ag l),some vy=>bif Nat.beq E E'&&(Nat.beq d d'&&(!Nat.beq x d&&(!Nat.beq x d2&&(!Nat.beq y d&&(!Nat.beq d2 d&&(l.all Cl.plain&&(Nat.beq (P.cellsOf E) l.length&&((P.info? E).bind (·.zero)).any fun z=>Nat.beq z.cells.size l.length)))))))then some (d,l,d2,vy)else none
  | _,_=>none
 | _,_,_,_,_,_,_,_,_=>none
theorem Bh{S:Sta}{κ:Kap}{N:Nat}{F:Fr}{P:Program}{D:Array Oper}{Q:Exit→Act→World→Prop}{l:List Oper}{a:Act}{w:World}{o o2 o3:Oper}{d d2:Nat}{cl:List Cl}{vy:SV}(h:prX P F o o2 o3=some (d,cl,d2,vy))(hF:Has S κ N F a)(hd:d<N)
 (hK:∀E,wpList P D Q l ((a.put (some d) (.pointer (some ⟨w.heap.size,0,none⟩))).put (some d2) (vy.den S κ)) (w.alloc (.cells (cl.map (Cl.den S κ)).toArray E))):wpList P D Q (o::o2::o3::l) a w:=by
 obtain⟨dst,op,ty,pos,af,g⟩:=o;obtain⟨a5,a8,a3,H,X,g2⟩:=o3;obtain⟨a6,a9,a4,I,Y,g3⟩:=o2;unfold prX at h;split at h
 ·rename_i E j y v E' Z x J L O V h8 h9 C R U
  simp only at J L O C R U V h8 h9;subst J L O C R U V h8 h9;split at h
  ·rename_i p q hx a1
   cases e:Nat.beq E E'&&(Nat.beq j Z&&(!Nat.beq x j&&(!Nat.beq x v&&(!Nat.beq y j&&(!Nat.beq v j&&(p.all Cl.plain&&(Nat.beq (P.cellsOf E) p.length&&((P.info? E).bind (·.zero)).any fun z=>Nat.beq z.cells.size p.length)))))))with
   | false=>rw[e]at h;cases h
   | true =>
    rw[e]at h;simp only[cond_true,Option.some.injEq,Prod.mk.injEq]at h;obtain⟨rfl,rfl,rfl,rfl⟩:=h;simp only[Bool.and_eq_true,Bool.not_eq_true']at e;obtain⟨e1,e2,e3,e7,e8,e9,e4,B,e6⟩:=e;replace e1:=Nat.eq_of_beq_eq_true e1;replace e2:=Nat.eq_of_beq_eq_true e2;replace e3:=Nat.ne_of_beq_eq_false e3;replace e7:=Nat.ne_of_beq_eq_false e7;replace e8:=Nat.ne_of_beq_eq_false e8;replace e9:=Nat.ne_of_beq_eq_false e9;replace B:=Nat.eq_of_beq_eq_true B;subst e1 e2;obtain⟨z,hz,r⟩:=(Option.any_eq_true _ _).1 e6;replace r:=Nat.eq_of_beq_eq_true r;obtain⟨i,W,ad⟩:=Option.bind_eq_some_iff.1 hz;have a2:(zeroValue E).run P w=.ok z w:=by simp[zeroValue,run_typeInfo (P:=P) _ W,ad]
    have a7:(P.info? E).map (·.size)=some p.length:=by rw[W];unfold Program.cellsOf at B;rw[W]at B;simpa using B
    have ac:∀u∈p.map (Cl.den S κ),u.oneCell'=true:=fun u hu=>by
     obtain⟨c,hc,rfl⟩:=List.mem_map.1 hu;exact pu (List.all_eq_true.1 e4 c hc) S κ
    refine wpList_plain rfl fun K hk=>?_
    unfold Oper.wp;have J:(execOp a.eval { dst:=some j,op := .alloc E,type:=ty,pos:=pos,after:=af,guard:=none }).run P w=.ok (.value (.pointer (some ⟨w.heap.size,0,none⟩))) (w.alloc (.cells z.cells E)):=by
     simp[execOp,Instr.alloc,a2,ig]
    rw[J];have hy:(a.put (some j) (.pointer (some ⟨w.heap.size,0,none⟩))).eval (.tmp y)=q.den S κ:=by
     show(a.tmps.setIfInBounds j _).getD y undef=_;rw[Array.getD_eq_getD_getElem?,Array.getElem?_setIfInBounds_ne (Ne.symm e8),hF.get y _ a1];rfl
    refine hk _ _ (wpList_plain rfl fun K2 A=>?_);unfold Oper.wp;have h0:(execOp (a.put (some j) (.pointer (some ⟨w.heap.size,0,none⟩))).eval { dst:=some v,op := .assign (.tmp y),type:=a4,pos:=I,after:=Y,guard:=none }).run P (w.alloc (.cells z.cells E))=.ok (.value (q.den S κ)) (w.alloc (.cells z.cells E)):=by
     simp only[execOp,hy,Sem.run_pure]
    rw[h0];refine A _ _ (wpList_plain rfl fun K2 A=>?_);unfold Oper.wp;have L:((a.put (some j) (.pointer (some ⟨w.heap.size,0,none⟩))).put (some v) (q.den S κ)).eval (.tmp j)=.pointer (some ⟨w.heap.size,0,none⟩):=At.eval ((At.put_self).put_ne (fun e=>e9 e)) (by simp[Act.put,hF.size,hd]);have O:((a.put (some j) (.pointer (some ⟨w.heap.size,0,none⟩))).put (some v) (q.den S κ)).eval (.tmp x)=.agg (p.map (Cl.den S κ)).toArray:=by
     have:=hF.get x _ hx;show((a.tmps.setIfInBounds j _).setIfInBounds v _).getD x undef=_;rw[Array.getD_eq_getD_getElem?,Array.getElem?_setIfInBounds_ne (Ne.symm e7),Array.getElem?_setIfInBounds_ne (Ne.symm e3),this];rfl
    have hg:(w.alloc (.cells z.cells E)).heap[w.heap.size]?=some (.cells z.cells E (0,0)):=heap_alloc_new _ _;have C:=run_storeCells_at (P:=P) w.heap.size 0 E (p.map (Cl.den S κ)) 0 z.cells _ hg (by simp[r]) ac;have R:(execOp ((a.put (some j) (.pointer (some ⟨w.heap.size,0,none⟩))).put (some v) (q.den S κ)).eval { dst:=none,op := .store E (.tmp j) (.tmp x),type:=a3,pos:=H,after:=X,guard:=none }).run P (w.alloc (.cells z.cells E))=.ok .skip (w.alloc (.cells (p.map (Cl.den S κ)).toArray E)):=by
     have a0:(sizeOf E).run P (w.alloc (.cells z.cells E))=.ok p.length (w.alloc (.cells z.cells E)):=by rw[run_sizeOf _ W,B]
     have U:(z.cells.toList.take (0+0)++p.map (Cl.den S κ)++z.cells.toList.drop (0+0+(p.map (Cl.den S κ)).length)).toArray=(p.map (Cl.den S κ)).toArray:=by
      rw[List.drop_eq_nil_of_le (by simp[r])];simp
     rw[U,lN]at C;have V:=kv (by rw[a0,List.length_map]) C;simp only[execOp,L,O,Instr.storeAt,Instr.sureAddr,Sem.run_bind,Sem.run_pure,Result.andThen_ok,V]
    rw[R];exact A _ _ (hK E)
  ·cases h
 ·cases h
def stL(P:Program)(C:Ctx)(N:Nat)(ops:List Oper):List Oper→St→Option St
 | [],s=>some s
 | [o],s=>st1 P C N ops s o
 | o::o2::l,s =>
  match prV P s.F o o2 with
  | some (d,cl)=>bif s.sc&&C.sc s.k&&cl.all (Cl.sc s.k)&&Nat.ble (d+1) N then stL P C N ops l { s with F:=(d,.one (.p s.k 0))::s.F,M:=(s.k,cl)::s.M,k:=s.k+1 }else none
  | none=>match st1 P C N ops s o with
   | some s'=>stL P C N ops (o2::l) s'
   | none=>match l with
    | []=>none
    | o3::l'=>match prX P s.F o o2 o3 with
     | some (d,cl,d2,vy)=>bif s.sc&&C.sc s.k&&cl.all (Cl.sc s.k)&&(Nat.ble (d+1) N&&(Nat.ble (d2+1) N&&vy.sc s.k))then stL P C N ops l' { s with F:=(d2,vy)::(d,.one (.p s.k 0))::s.F,M:=(s.k,cl)::s.M,k:=s.k+1 }else none
     | none=>none
theorem yS{S:Sta}{κ:Kap}{N:Nat}{P:Program}{C:Ctx}{H:Gh}{s:St}{a:Act}{w:World}{l:List Cl}(q:Now S κ N P C H s a w)(E:TypeId)(e:(s.sc&&C.sc s.k&&l.all (Cl.sc s.k))=true):
 ∃κ',eU s.k κ κ'∧κ' s.k=(w.heap.size,0)∧Now S κ' N P C H { s with M:=(s.k,l)::s.M,k:=s.k+1 } a (w.alloc (.cells (l.map (Cl.den S κ)).toArray E))∧Kz w (w.alloc (.cells (l.map (Cl.den S κ)).toArray E)):=by
 simp only[Bool.and_eq_true]at e;obtain⟨⟨v,x⟩,e3⟩:=e;have hk:Kz w (w.alloc (.cells (l.map (Cl.den S κ)).toArray E)):=(aD.refl _ _).alloc _
 let κ':Kap:=fun r=>if r=s.k then(w.heap.size,0)else κ r
 have h:eU s.k κ κ':=fun r B=>if_neg χ
 have u:κ' s.k=(w.heap.size,0):=if_pos rfl;have d:=(q.upto h v x).keep hk;refine⟨κ',h,u,⟨d.has,⟨fun r m g=>?_⟩,d.ctx,d.tb,d.gh⟩,hk⟩;rw[fN]at g;split at g
 ·rename_i y
  subst y;obtain rfl:=Option.some.inj g;rw[u];refine⟨⟨ξ,fun A=>by have:=q.tb _ A;omega⟩,fun j c p=>?_⟩;rw[World.cell?_alloc_at _ _ _ _ rfl,Cl.sc_ok h (List.all_eq_true.1 e3 c (List.mem_of_getElem? p))];simp[p]
 ·exact d.mem.get r m g
theorem jv{S:Sta}{N:Nat}{P:Program}{C:Ctx}{H:Gh}{r m:List Oper}{Q:Exit→Act→World→Prop}:∀{l:List Oper} {s s':St} {κ:Kap} {a:Act} {w:World},stL P C N r l s=some s'→Now S κ N P C H s a w →
 (∀κ' x w',Now S κ' N P C H s' x w'→fV H.T κ κ' s s' a x w w'→wpList P r.toArray Q m x w')→wpList P r.toArray Q (l++m) a w
 | [],s,s',κ,a,w,h,hn,hQ=>by
  simp only[stL,Option.some.injEq]at h;subst h;exact hQ _ _ _ hn (fV.refl _ _ _ _)
 | [o],s,s',κ,a,w,h,hn,hQ=>by
  simp only[stL]at h;exact Lz fun K O=>xi h hn fun κ' x w' q W=>O _ _ (hQ _ _ _ q W)
 | o::o2::l,s,s',κ,a,w,h,hn,hQ=>by
  unfold stL at h;split at h
  ·rename_i d cl U
   cases e:s.sc&&C.sc s.k&&cl.all (Cl.sc s.k)&&Nat.ble (d+1) N with
   | false=>rw[e]at h;cases h
   | true =>
    rw[e]at h;simp only[cond_true]at h;rw[Bool.and_eq_true]at e;have A:d<N:=Nat.le_of_ble_eq_true e.2;refine Bi U hn.has A fun E=>?_
    obtain⟨κ',J,Y,j,hk⟩:=yS hn E e.1;have hv:SV.den S κ' (.one (.p s.k 0))=.pointer (some ⟨w.heap.size,0,none⟩):=by simp[SV.den,Cl.den_p,Y]
    have L:Now S κ' N P C H { s with F:=(d,.one (.p s.k 0))::s.F,M:=(s.k,cl)::s.M,k:=s.k+1 } (a.put (some d) (.pointer (some ⟨w.heap.size,0,none⟩))) (w.alloc (.cells (cl.map (Cl.den S κ)).toArray E)):=
     ⟨by rw[←hv];exact j.has.put A,j.mem,j.ctx,j.tb,j.gh⟩
    refine jv h L fun D y B g p=>hQ _ _ _ g (fV.trans (s':={ s with F:=(d,.one (.p s.k 0))::s.F,M:=(s.k,cl)::s.M,k:=s.k+1 }) ⟨J,ξ,K_T hk,[(d,.one (.p s.k 0))],rfl,(aA.refl _ _).put ξ _⟩ p)
  ·split at h
   ·rename_i s1 h1
    exact Lz fun K O=>xi h1 hn fun κ' x w' q W=>O _ _ (jv h q fun D y B g X=>hQ _ _ _ g (W.trans X))
   ·split at h
    ·cases h
    ·rename_i o3 l' _
     split at h
     ·rename_i d cl v u U
      cases e:s.sc&&C.sc s.k&&cl.all (Cl.sc s.k)&&(Nat.ble (d+1) N&&(Nat.ble (v+1) N&&u.sc s.k))with
      | false=>rw[e]at h;cases h
      | true =>
       rw[e]at h;simp only[cond_true]at h;rw[Bool.and_eq_true]at e;obtain⟨Z,I⟩:=e;simp only[Bool.and_eq_true]at I;have A:d<N:=Nat.le_of_ble_eq_true I.1;have R:v<N:=Nat.le_of_ble_eq_true I.2.1;refine Bh U hn.has A fun E=>?_
       obtain⟨κ',J,Y,j,hk⟩:=yS hn E Z;have hv:SV.den S κ' (.one (.p s.k 0))=.pointer (some ⟨w.heap.size,0,none⟩):=by simp[SV.den,Cl.den_p,Y]
       have V:SV.den S κ' u=SV.den S κ u:=SV.sc_ok J I.2.2;have L:Now S κ' N P C H { s with F:=(v,u)::(d,.one (.p s.k 0))::s.F,M:=(s.k,cl)::s.M,k:=s.k+1 } ((a.put (some d) (.pointer (some ⟨w.heap.size,0,none⟩))).put (some v) (u.den S κ)) (w.alloc (.cells (cl.map (Cl.den S κ)).toArray E)):=
        ⟨by rw[←hv,←V];exact(j.has.put A).put R,j.mem,j.ctx,j.tb,j.gh⟩
       refine jv h L fun D y B g p=>hQ _ _ _ g (fV.trans (s':={ s with F:=(v,u)::(d,.one (.p s.k 0))::s.F,M:=(s.k,cl)::s.M,k:=s.k+1 }) ⟨J,ξ,K_T hk,[(v,u),(d,.one (.p s.k 0))],rfl,((aA.refl _ _).put ξ _).put ξ _⟩ p)
     ·cases h
theorem tD{S:Sta}{N:Nat}{P:Program}{C:Ctx}{H:Gh}{g:List Oper}{Q:Exit→Act→World→Prop}{l:List Oper}{s s':St}{κ:Kap}{a:Act}{w:World}(h:stL P C N g l s=some s')(r:Now S κ N P C H s a w)
 (q:∀κ' d w',Now S κ' N P C H s' d w'→fV H.T κ κ' s s' a d w w'→Q .normal d w'):wpList P g.toArray Q l a w:=by
 have:=jv (m:=[]) (Q:=Q) h r fun κ' d w' j p=>ln (q κ' d w' j p)
 rwa[List.append_nil]at this
def m9(l:List Oper)(t:Nat):Bool:=l.any fun o=>o.dst==some t
def rV(l:List Oper)(o:Oper)(F:Fr):Fr:=F.filter fun x =>!m9 l x.1||o.after.any fun e=>Region.binds .any e&&av l e.on==some x.1
theorem lu{p:Nat→Bool}{t:Nat}:∀{F:Fr},gt (F.filter fun x=>p x.1) t=if p t=true then gt F t else none
 | []=>by simp[gt]
 | (u,v)::F=>by
  rw[List.filter_cons]
  by_cases hp:p u=true
  ·simp only[hp,if_true,bD,lu (F:=F)]
   by_cases e:u=t
   ·subst e;simp[hp]
   ·simp[e]
  ·simp only[hp,Bool.false_eq_true,if_false,bD,lu (F:=F)]
   by_cases e:u=t
   ·subst e;simp[hp]
   ·simp[e]
def dr1(P:Program)(C:Ctx)(l:List Oper)(s:St)(o:Oper):Option SV:=
 match gd C.FA l (rV l o s.F) o.guard with
 | some true =>
  match opV P C (rV l o s.F) s.M o.op with
  | some v=>some v
  | none=>clV P C (rV l o s.F) o.op
 | some false=>some (.one .u)
 | none=>none
def drL(P:Program)(C:Ctx)(N:Nat)(l:List Oper):List Oper→St→Option St
 | [],s=>some s
 | o::r,s =>
  match o.dst with
  | some d=>bif Nat.ble (d+1) N then(match dr1 P C l s o with
   | some v=>drL P C N l r { s with F:=(d,v)::s.F }
   | none=>none)else none
  | none=>none
theorem lL{P:Program}{C:Ctx}{N:Nat}{l:List Oper}{o:Oper}{r:List Oper}{s s':St}(h:drL P C N l (o::r) s=some s'):∃d v,o.dst=some d∧d<N∧dr1 P C l s o=some v∧drL P C N l r { s with F:=(d,v)::s.F }=some s':=by
 rw[drL]at h;split at h
 ·rename_i d g
  cases e:Nat.ble (d+1) N with
  | false=>rw[e]at h;cases h
  | true =>
   rw[e]at h;simp only[cond_true]at h;split at h
   ·rename_i v hv
    exact⟨d,v,g,Nat.le_of_ble_eq_true e,hv,h⟩
   ·cases h
 ·cases h
theorem kC{P:Program}{C:Ctx}{N:Nat}{l:List Oper}:∀{r:List Oper} {s s':St},drL P C N l r s=some s'→s'.M=s.M∧s'.k=s.k∧(∀t,m9 r t=false→gt s'.F t=gt s.F t)∧∃m,s'.F=m++s.F∧(∀t,m9 r t=true→(m.any fun x=>Nat.beq x.1 t)=true)∧s'.e=s.e
 | [],s,s',h=>by obtain rfl:=Option.some.inj h;exact⟨rfl,rfl,fun _ _=>rfl,[],rfl,(fun _ h=>by cases h),rfl⟩
 | o::r,s,s',h=>by
  obtain⟨d,v,j,_,_,p⟩:=lL h;obtain⟨q,u,w,m,y,A,B⟩:=kC p;refine⟨q,u,fun t g=>?_,m++[(d,v)],by rw[y];simp,fun t g=>?_,B⟩
  ·simp only[m9,List.any_cons,Bool.or_eq_false_iff]at g
   rw[w t g.2,bD,if_neg];intro e;subst e;rw[j]at g;simp at g
  ·simp only[m9,List.any_cons,Bool.or_eq_true]at g
   simp only[List.any_append,Bool.or_eq_true,List.any_cons,List.any_nil,Bool.or_false]
   rcases g with e|e
   ·rw[j]at e
    simp only[beq_iff_eq,Option.some.injEq]at e;subst e;exact .inr ξ
   ·exact .inl (A t e)
theorem qt{P:Program}{C:Ctx}{N:Nat}{l:List Oper}:∀{r q:List Oper} {s s':St},drL P C N l (r++q) s=some s'→∃m,drL P C N l r s=some m∧drL P C N l q m=some s'
 | [],q,s,s',h=>⟨s,rfl,h⟩
 | o::r,q,s,s',h=>by
  obtain⟨d,v,w,u,hv,g⟩:=lL h;obtain⟨m,j,p⟩:=qt g;refine⟨m,?_,p⟩;rw[drL,w];simp only[Nat.ble_eq_true_of_le (show d+1≤N from u),cond_true,hv,j]
theorem iJ{l:List Oper}{t:Nat}:m9 l t=true↔∃i,i<l.length∧av l i=some t:=by
 unfold m9 av;simp only[List.any_eq_true,beq_iff_eq];constructor
 ·rintro⟨o,h,g⟩
  obtain⟨i,d⟩:=List.getElem?_of_mem h;exact⟨i,(List.getElem?_eq_some_iff.1 d).1,by rw[d];exact g⟩
 ·rintro⟨i,d,g⟩
  rw[Ez d]at g;exact⟨l[i],List.getElem_mem d,g⟩
theorem ve{l:List Oper}{n:Nat}(p:((List.range n).all fun i=>(List.range n).all fun j=>i==j||av l i==none||av l i !=av l j)=true):∀i j d,i<n→j<n→av l i=some d→av l j=some d→i=j:=fun i j d u v h r=>by
 have q:=List.all_eq_true.1 (List.all_eq_true.1 p i (List.mem_range.2 u)) j (List.mem_range.2 v);simp only[Bool.or_eq_true,beq_iff_eq,bne_iff_ne]at q
 rcases q with(g|g)|g
 ·exact g
 ·rw[g]at h;cases h
 ·exact absurd (h.trans r.symm) g
theorem pf{l:List Oper}{n:Nat}(u:l.length=n)(g:((List.range n).all fun i=>((l[i]?).map (·.after.all fun e =>!Region.binds .any e||decide (e.on<i))).getD true)=true):∀i o,l[i]?=some o→∀e∈o.after,Region.binds .any e=true→e.on<i:=fun i o j e q p=>by
 have r:i<n:=by have:=(List.getElem?_eq_some_iff.1 j).1;omega
 have d:=List.all_eq_true.1 g i (List.mem_range.2 r);rw[j]at d;simp only[Option.map_some,Option.getD_some]at d;have h:=Array.all_eq_true'.1 d e q;rw[p]at h
 simpa using h
structure Dr (S:Sta) (κ:Kap) (N:Nat) (P:Program) (C:Ctx) (l:List Oper) (n:Nat) (s s':St) (a:Act):Prop where
 run:drL P C N (l.take n) (l.take n) s=some s'
 len:n≤l.length
 Qu:∀i j d,i<n→j<n→av l i=some d→av l j=some d→i=j
 edge:∀i o,l[i]?=some o→∀e∈o.after,Region.binds .any e=true→e.on<i
 has:Has S κ N s.F a
section
variable {S:Sta} {κ:Kap} {N:Nat} {P:Program} {C:Ctx} {l:List Oper} {n:Nat} {s s':St} {a:Act}
theorem eS{l:List Oper}{n i:Nat}(h:i<n):av (l.take n) i=av l i:=by unfold av;rw[List.getElem?_take_of_lt h]
theorem Dr.old(h:Dr S κ N P C l n s s' a){g:Act}(p:kr l n a g){t:Nat}(j:m9 (l.take n) t=false):g.tmps[t]?=a.tmps[t]?:=p.get t (by
 cases e:(List.range n).any fun i=>av l i==some t with
 | false=>rfl
 | true =>
  obtain⟨i,d,q⟩:=List.any_eq_true.1 e;have d:=List.mem_range.1 d;rw[iJ.2 ⟨i,by rw[List.length_take];have:=h.len;omega,by rw[eS d];exact eq_of_beq q⟩]at j
  cases j)
def Val(S:Sta)(κ:Kap)(l:List Oper)(s':St)(j:Nat)(v:Value):Prop:=∃d sv,av l j=some d∧gt s'.F d=some sv∧v=sv.den S κ
theorem Dr.lt(h:Dr S κ N P C l n s s' a){i d:Nat}(D:i<n)(p:av l i=some d):d<N:=by
 have j:i<(l.take n).length:=by rw[List.length_take];have:=h.len;omega
 have x:(l.take n)[i]∈l.take n:=List.getElem_mem j;obtain⟨A,B,v⟩:=List.append_of_mem x;have w:drL P C N (l.take n) (A++(l.take n)[i]::B) s=some s':=by rw[←v];exact h.run
 obtain⟨_,_,q⟩:=qt w;obtain⟨y,_,r,u,_,_⟩:=lL q;have:y=d:=by
  rw[←eS D]at p;unfold av at p;rw[Ez j]at p;have g:(l.take n)[i].dst=some d:=p;rw[r]at g;exact Option.some.inj g
 rw[←this];exact u
theorem Dr.op(h:Dr S κ N P C l n s s' a){i:Nat}{o:Oper}(hi:i<n)(B:l[i]?=some o){J:Act}(hb:kr l n a J)
 (hv:∀j,(o.after.any fun e=>Region.binds .any e&&e.on==j)=true→j<n→∀d,av l j=some d→∃v,At J d v∧Val S κ l s' j v):
 ∃I d v,I.M=s.M∧o.dst=some d∧dr1 P C (l.take n) I o=some v∧Has S κ N (rV (l.take n) o I.F) J∧Val S κ l s' i (v.den S κ):=by
 have Y:i<(l.take n).length:=by rw[List.length_take];have:=h.len;omega
 have O:(l.take n)[i]?=some o:=by rw[List.getElem?_take_of_lt hi];exact B
 have hl:l.take n=(l.take n).take i++o::(l.take n).drop (i+1):=by
  have U:=(List.getElem?_eq_some_iff.1 O).2;have R:=List.drop_eq_getElem_cons Y;rw[U]at R;rw[←R,List.take_append_drop]
 have hr:=h.run;rw[show drL P C N (l.take n) (l.take n) s=drL P C N (l.take n) ((l.take n).take i++o::(l.take n).drop (i+1)) s from congrArg (fun x=>drL P C N (l.take n) x s) hl]at hr;obtain⟨I,U,R⟩:=qt hr;obtain⟨d,v,hd,ad,ac,h3⟩:=lL R;obtain⟨pM,pk,pF,_⟩:=kC U;obtain⟨_,_,qF,_⟩:=kC h3;have A:av l i=some d:=by unfold av;rw[B];exact hd
 have r:∀j t,j≤i→av l j=some t→m9 ((l.take n).drop (i+1)) t=false:=fun j t hj Z=>by
  cases e:m9 ((l.take n).drop (i+1)) t with
  | false=>rfl
  | true =>
   obtain⟨q,hq,g⟩:=iJ.1 e;rw[List.length_drop,List.length_take]at hq;have y:av l (i+1+q)=some t:=by
    rw[←eS (n:=n) χ];unfold av at g⊢
    rwa[List.getElem?_drop]at g
   have:=h.Qu _ _ _ χ χ Z y;omega
 have K:gt s'.F d=some v:=by rw[qF d (r i d (Nat.le_refl _) A),bD,if_pos rfl]
 have Q:J.tmps.size=N:=hb.size.trans h.has.size;refine⟨I,d,v,pM,hd,ac,⟨Q,fun t u H=>?_⟩,d,v,A,K,rfl⟩;unfold rV at H;rw[lu (p:=fun t =>!m9 (l.take n) t||o.after.any fun e=>Region.binds .any e&&av (l.take n) e.on==some t)]at H;split at H
 ·rename_i w
  simp only[Bool.or_eq_true,Bool.not_eq_true']at w
  rcases w with w|w
  ·rw[h.old hb w]
   refine h.has.get t u ?_;rw[←pF t ?_]
   ·exact H
   ·cases e:m9 ((l.take n).take i) t with
    | false=>rfl
    | true =>
     obtain⟨q,hq,g⟩:=iJ.1 e;rw[List.length_take]at hq;rw[eS χ]at g;rw[iJ.2 ⟨q,χ,g⟩]at w
     cases w
  ·obtain⟨e,he,y⟩:=Array.any_eq_true'.1 w
   simp only[Bool.and_eq_true,beq_iff_eq]at y;obtain⟨y,E⟩:=y;have h7:=h.edge i o B e he y;rw[eS χ]at E;obtain⟨x,hx,D,sv,h8,h9,V⟩:=hv e.on (Array.any_eq_true'.2 ⟨e,he,by simp[y]⟩) χ t E;have W:D=t:=by rw[E]at h8;exact(Option.some.inj h8).symm
   subst W;have X:gt s'.F D=gt I.F D:=by
    rw[qF D (r e.on D χ E),bD,if_neg];intro e';subst e';have:=h.Qu _ _ _ χ hi E A;omega
   rw[X,H]at h9;obtain rfl:=Option.some.inj h9;have L:D<J.tmps.size:=by rw[Q];exact h.lt χ E
   rw[Array.getElem?_eq_getElem L,hx L,V]
 ·cases H
theorem Dr.fin(h:Dr S κ N P C l n s s' a){g:Act}(A:kr l n a g)(hv:∀j,j<n→∀d,av l j=some d→∃v,At g d v∧Val S κ l s' j v):Has S κ N s'.F g∧s'.M=s.M∧s'.k=s.k∧s'.e=s.e∧∃m,s'.F=m++s.F∧aA (fun t=>m.any fun x=>Nat.beq x.1 t) a g:=by
 obtain⟨E,J,fF,m,K,H,I⟩:=kC h.run;have w:g.tmps.size=N:=A.size.trans h.has.size;refine⟨⟨w,fun t u y=>?_⟩,E,J,I,m,K,aA.mono A fun t y=>?_⟩
 ·cases e:m9 (l.take n) t with
  | false=>rw[h.old A e];exact h.has.get t u (by rw[←fF t e];exact y)
  | true =>
   obtain⟨i,q,p⟩:=iJ.1 e;rw[List.length_take]at q;rw[eS χ]at p;obtain⟨x,hx,d,O,B,D,L⟩:=hv i χ t p;have:d=t:=by rw[p]at B;exact(Option.some.inj B).symm
   subst this;rw[y]at D;obtain rfl:=Option.some.inj D;have r:d<g.tmps.size:=by rw[w];exact h.lt χ p
   rw[Array.getElem?_eq_getElem r,hx r,L]
 ·obtain⟨i,q,p⟩:=List.any_eq_true.1 y
  have q:=List.mem_range.1 q;exact H t (iJ.2 ⟨i,by rw[List.length_take];have:=h.len;omega,by rw[eS q];exact eq_of_beq p⟩)
theorem Dr.step{H:Gh}{w:World}{Q:Exit→Act→World→Prop}(h:Dr S κ N P C l n s s' a)(x:Now S κ N P C H s a w){i:Nat}{o:Oper}(V:i<n)(I:l[i]?=some o){u:Act}{w':World}{K:Act→World→Prop}(q:Kz w w')(U:kr l n a u)
 (hv:∀j,(o.after.any fun e=>Region.binds .any e&&e.on==j)=true→j<n→∀d,av l j=some d→∃v,At u d v∧Val S κ l s' j v)
 (Z:∀j,av l j=av (l.take n) j∨n≤j)(B:∀j w,o.guard=some (j,w)→j<n)(D:∀v y,Kz w' y→Val S κ l s' i v→K (u.put o.dst v) y):
 if Region.wanted o (yielded l.toArray u.tmps)then o.wp P u w' K Q else K (u.put o.dst undef) w':=by
 obtain⟨X,d,v,R,Y,p,hh,r⟩:=h.op V I U hv;have E:pW S κ (X.M++C.GM) w':=by rw[R];exact(x.mem.keep (K_T q)).f.app (x.ctx.gm _ _ (K_T q) (H.st _ _ _ q x.gh))
 have A:=x.ctx.keep (K_T q);have L:Region.wanted o (yielded l.toArray u.tmps)=Region.wanted o (yielded (l.take n).toArray u.tmps):=by
  unfold Region.wanted
  cases e:o.guard with
  | none=>rfl
  | some g =>
   obtain⟨j,O⟩:=g;have W:=B j O e;simp only;unfold yielded;rw[show(l.toArray[j]?).bind (·.dst)=av l j by simp[av],show((l.take n).toArray[j]?).bind (·.dst)=av (l.take n) j by simp[av],eS W]
 rw[L];unfold dr1 at p;split at p
 ·rename_i B
  rw[if_pos (sJ hh x.ctx.fa B)];split at p
  ·rename_i v' J
   obtain rfl:=Option.some.inj p;unfold Oper.wp;rw[yM J hh E A];exact D _ _ (aD.refl _ _) r
  ·exact zP p hh A (H.st _ _ _ q x.gh) fun y L=>D _ _ L r
 ·rename_i B
  rw[if_neg (by rw[sJ hh x.ctx.fa B];simp)];obtain rfl:=Option.some.inj p;exact D _ _ (aD.refl _ _) r
 ·cases p
end
def zA(l:List Oper)(n:Nat):Bool:=l.all fun o=>match o.guard with
 | some (j,_)=>Nat.ble (j+1) n
 | none=>true
theorem vF{l:List Oper}{n:Nat}(h:zA l n=true){o:Oper}(g:o∈l):∀j w,o.guard=some (j,w)→j<n:=fun j w d=>by
 have:=List.all_eq_true.1 h o g;rw[d]at this;exact Nat.le_of_ble_eq_true this
def drR(P:Program)(C:Ctx)(N:Nat)(l:List Oper)(s:St):Option St:=bif rH l l.length&&zA l l.length then drL P C N l l s else none
theorem CI{S:Sta}{N:Nat}{P:Program}{C:Ctx}{H:Gh}{Q:Exit→Act→World→Prop}{l:List Oper}{id:Nat}{s s':St}{κ:Kap}{a:Act}{w:World}(hP:P.follows .mixedOrders=true)(h:drR P C N l s=some s')(V:Now S κ N P C H s a w)
 (hQ:∀κ' u w',Now S κ' N P C H s' u w'→fV H.T κ κ' s s' a u w w'→Q .normal u w'):(Code.region id l.toArray true).wp P Q a w:=by
 unfold drR at h
 cases r:rH l l.length&&zA l l.length with
 | false=>rw[r]at h;cases h
 | true =>
 rw[r]at h;simp only[cond_true]at h;simp only[Bool.and_eq_true]at r;obtain⟨r,hg⟩:=r;have x:=r;simp only[rH,Bool.and_eq_true,decide_eq_true_eq]at x;obtain⟨⟨_,L⟩,O⟩:=x;have D:Dr S κ N P C l l.length s s' a:=⟨by rw[List.take_length];exact h,Nat.le_refl _,ve L,pf rfl O,V.has⟩;have A:Kz w w.drew:=(aD.refl _ _).drew;refine nH l.length (fun _ w'=>Kz w.drew w') (fun j _ v=>Val S κ l s' j v) hP r (aD.refl _ _) ?_ ?_
 ·intro i o hi B S' u w' K ac E I g p hK
  exact D.step V hi B (A.trans I fun _ _ e=>e) g (fun j R U d J=>p j (E j R) U d J) (fun j =>.inl (by rw[List.take_length])) (vF hg (List.mem_of_getElem? B)) fun v W hw hv=>hK v W (I.trans hw fun _ _ e=>e) (fun _ _ _ h=>h) hv
 ·intro S' u w' X I g p
  obtain⟨Y,Z,f3,f4,m,f5,f6⟩:=D.fin g fun j R d J=>p j R d J
  have y:Kz w w':=A.trans I (fun _ _ e=>e);have q:=V.keep y;exact hQ κ u w' ⟨Y,by rw[Z];exact q.mem,q.ctx,q.tb,by rw[f4];exact q.gh⟩ ⟨fun _ _=>rfl,by rw[f3];exact Nat.le_refl _,K_T y,m,f5,f6⟩
def drX(P:Program)(C:Ctx)(N:Nat)(l:List Oper)(s:St):Option St:=
 bif oc l (l.length-1)&&zA l (l.length-1)then match drL P C N (l.take (l.length-1)) (l.take (l.length-1)) s with
  | some s'=>stL P C N l (l.drop (l.length-1)) s'
  | none=>none else none
theorem CH{S:Sta}{N:Nat}{P:Program}{C:Ctx}{H:Gh}{Q:Exit→Act→World→Prop}{l:List Oper}{id:Nat}{s s':St}{κ:Kap}{a:Act}{w:World}(hP:P.follows .mixedOrders=true)(h:drX P C N l s=some s')(hn:Now S κ N P C H s a w)
 (hQ:∀κ' x w',Now S κ' N P C H s' x w'→fV H.T κ κ' s s' a x w w'→Q .normal x w'):(Code.region id l.toArray true).wp P Q a w:=by
 unfold drX at h
 cases r:oc l (l.length-1)&&zA l (l.length-1)with
 | false=>rw[r]at h;cases h
 | true =>
 rw[r]at h;simp only[cond_true]at h;simp only[Bool.and_eq_true]at r;obtain⟨r,hg⟩:=r;have A:=r;simp only[oc,Bool.and_eq_true,decide_eq_true_eq]at A;obtain⟨⟨⟨⟨u,_⟩,_⟩,B⟩,E⟩:=A;obtain⟨n,ac⟩:∃n,n=l.length-1:=⟨_,rfl⟩;rw[←ac]at h r hg u B E;split at h
 ·rename_i V W
  have D:Dr S κ N P C l n s V a:=⟨W,χ,fun i j d Y Z W R=>by
   have h3:=List.all_eq_true.1 B i (List.mem_range.2 Y);simp only[Bool.and_eq_true]at h3;have y:=List.all_eq_true.1 h3.2 j (List.mem_range.2 Z);simp only[Bool.or_eq_true,beq_iff_eq,bne_iff_ne]at y
   rcases y with y|y
   ·exact y
   ·exact absurd (W.trans R.symm) y,pf u E,hn.has⟩
  have J:Kz w w.drew:=(aD.refl _ _).drew;refine cZ n (fun j _ v=>Val S κ l V j v) (fun w'=>Kz w.drew w') hP r (aD.refl _ _) ?_ ?_
  ·intro i o Y L x w' K U g p hK
   exact D.step hn Y L (J.trans U fun _ _ e=>e) g p (fun j=>by
    by_cases Z:j<n
    ·exact .inl (eS Z).symm
    ·exact .inr χ) (vF hg (List.mem_of_getElem? L)) fun v O hw hv=>hK v O (U.trans hw fun _ _ e=>e) (fun _ _ h=>h) hv
  ·intro o ho x w' U g p
   obtain⟨f1,f2,f3,f4,m,f5,f6⟩:=D.fin g p;have I:Kz w w':=J.trans U (fun _ _ e=>e);have q:=hn.keep I;have ad:Now S κ N P C H V x w':=⟨f1,by rw[f2];exact q.mem,q.ctx,q.tb,by rw[f4];exact q.gh⟩;have a0:fV H.T κ κ s V a x w w':=⟨fun _ _=>rfl,by rw[f3];exact Nat.le_refl _,K_T I,m,f5,f6⟩;have X:l.drop n=[o]:=by
    have R:=List.drop_eq_getElem_cons (show n<l.length by omega);rw[(List.getElem?_eq_some_iff.1 ho).2]at R;rw[R,List.drop_eq_nil_of_le χ]
   rw[X]at h;exact tD h ad fun κ' a2 O af a1=>hQ _ _ _ af (a0.trans a1)
 ·cases h
inductive Ex where
 | n
 | e (id:Nat)
 | r
def Ex.den:Ex→Exit
 | .n =>.normal
 | .e id =>.exit id
 | .r =>.ret
def exec(P:Program)(C:Ctx)(N:Nat):Code→St→Option (Ex×St)
 | .skip,s=>some (.n,s)
 | .region _ ops false,s=>(stL P C N ops.toList ops.toList s).map fun s'=>(.n,s')
 | .region _ ops true,s =>
  match drR P C N ops.toList s with
  | some s'=>some (.n,s')
  | none=>(drX P C N ops.toList s).map fun s'=>(.n,s')
 | .seq x y,s =>
  match exec P C N x s with
  | some (.n,s')=>exec P C N y s'
  | r=>r
 | .cond c x y,s =>
  match ev s.F c with
  | some (.one (.b e))=>match BE.val C.FA e with
   | some true=>exec P C N x s
   | some false=>exec P C N y s
   | none=>none
  | _=>none
 | .block id b,s =>
  match exec P C N b s with
  | some (.e j,s')=>bif Nat.beq j id then some (.n,s')else some (.e j,s')
  | r=>r
 | .exit id,s=>some (.e id,s)
 | .ret,s=>some (.r,s)
 | _,_=>none
theorem qn{S:Sta}{N:Nat}{P:Program}{C:Ctx}{H:Gh}(hP:P.follows .mixedOrders=true):∀{c:Code} {Q:Exit→Act→World→Prop} {x:Ex} {s s':St} {κ:Kap} {a:Act} {w:World},exec P C N c s=some (x,s')→Now S κ N P C H s a w →
 (∀κ' a' w',Now S κ' N P C H s' a' w'→fV H.T κ κ' s s' a a' w w'→Q x.den a' w')→c.wp P Q a w:=by
 intro c
 induction c with
 | skip =>
  intro Q x s s' κ a w h hn hQ;simp only[exec,Option.some.injEq,Prod.mk.injEq]at h;obtain⟨rfl,rfl⟩:=h;exact wp_skip (hQ _ _ _ hn (fV.refl _ _ _ _))
 | exit id =>
  intro Q x s s' κ a w h hn hQ;simp only[exec,Option.some.injEq,Prod.mk.injEq]at h;obtain⟨rfl,rfl⟩:=h;exact wp_exit (hQ _ _ _ hn (fV.refl _ _ _ _))
 | ret =>
  intro Q x s s' κ a w h hn hQ;simp only[exec,Option.some.injEq,Prod.mk.injEq]at h;obtain⟨rfl,rfl⟩:=h;exact wp_ret (hQ _ _ _ hn (fV.refl _ _ _ _))
 | region id ops d =>
  intro Q x s s' κ a w h hn hQ
  cases d with
  | false =>
   simp only[exec,Option.map_eq_some_iff,Prod.mk.injEq]at h;obtain⟨s1,h1,rfl,rfl⟩:=h;refine wp_region_list ?_;have:=tD (Q:=Q) h1 hn hQ
   simpa using this
  | true =>
   rw[exec]at h;split at h
   ·rename_i s1 h1
    simp only[Option.some.injEq,Prod.mk.injEq]at h;obtain⟨rfl,rfl⟩:=h;have:=CI (Q:=Q) (id:=id) hP h1 hn hQ
    simpa using this
   ·simp only[Option.map_eq_some_iff,Prod.mk.injEq]at h
    obtain⟨s1,h1,rfl,rfl⟩:=h;have:=CH (Q:=Q) (id:=id) hP h1 hn hQ
    simpa using this
 | seq x y ihx ihy =>
  intro Q e s s' κ a w h hn hQ;rw[exec]at h;refine wp_seq ?_;split at h
  ·rename_i s1 h1
   exact ihx h1 hn fun κ1 a1 w1 hn1 hw1=>ihy h hn1 fun κ2 a2 w2 hn2 hw2=>hQ _ _ _ hn2 (hw1.trans hw2)
  ·rename_i h1
   refine ihx h hn fun κ1 a1 w1 hn1 hw1=>?_
   have:=hQ _ _ _ hn1 hw1
   cases e with
   | n=>exact absurd h (by intro h2;exact h1 _ h2)
   | e j=>exact this
   | r=>exact this
 | cond c x y ihx ihy =>
  intro Q e s s' κ a w h hn hQ;rw[exec]at h;split at h
  ·rename_i b hb
   have h1:=hn.has.ev hb;split at h
   ·rename_i hv
    exact wp_cond_true (by rw[h1];simp only[SV.den,Cl.den_b,BE.val_ok hn.ctx.fa hv]) (ihx h hn hQ)
   ·rename_i hv
    exact wp_cond_false (by rw[h1];simp only[SV.den,Cl.den_b,BE.val_ok hn.ctx.fa hv]) (ihy h hn hQ)
   ·cases h
  ·cases h
 | block id b ih =>
  intro Q e s s' κ a w h hn hQ;rw[exec]at h;refine wp_block ?_;split at h
  ·rename_i j s1 h1
   refine ih h1 hn fun κ1 a1 w1 hn1 hw1=>?_
   simp only[Ex.den,Exit.inBlock]
   cases hj:Nat.beq j id with
   | true =>
    rw[hj]at h;simp only[cond_true,Option.some.injEq,Prod.mk.injEq]at h;obtain⟨rfl,rfl⟩:=h;rw[if_pos (Nat.eq_of_beq_eq_true hj)];exact hQ _ _ _ hn1 hw1
   | false =>
    rw[hj]at h;simp only[cond_false,Option.some.injEq,Prod.mk.injEq]at h;obtain⟨rfl,rfl⟩:=h;rw[if_neg (Nat.ne_of_beq_eq_false hj)];exact hQ _ _ _ hn1 hw1
  ·rename_i h1
   refine ih h hn fun κ1 a1 w1 hn1 hw1=>?_
   have:=hQ _ _ _ hn1 hw1
   cases e with
   | n=>exact this
   | e j=>exact absurd h (by intro h2;exact h1 _ _ h2)
   | r=>exact this
 | _=>intro Q e s s' κ a w h;simp[exec]at h
end Go.Proofs.YtpblcjipmoblnaaGreatDoor.Rs
namespace Go.Proofs.YtpblcjipmoblnaaGreatDoor.Rs
open Go.RowKit Go.Proofs.YtpblcjipmoblnaaGreatDoor
def SS.on(q:Nat→Bool):SS→Bool
 | .x i=>q i
 | .c _=>true
def IE.on(q:Nat→Bool):IE→Bool
 | .c _=>true
 | .x i=>q i
 | .ln i=>q i
 | .z s=>s.on q
 | .bin _ _ a b=>a.on q&&b.on q
 | .cv _ a=>a.on q
 | .mx a b=>a.on q&&b.on q
def BE.on(q:Nat→Bool):BE→Bool
 | .c _=>true
 | .x i=>q i
 | .cmp _ a b=>a.on q&&b.on q
 | .seq a b=>a.on q&&b.on q
 | .eq a b=>a.on q&&b.on q
 | .not a=>a.on q
def Cl.on(q:Nat→Bool):Cl→Bool
 | .i _ e=>e.on q
 | .b e=>e.on q
 | .s e=>e.on q
 | .p _ _=>true
 | .sl r n c=>q r&&(q n&&q c)
 | .v j=>q j
 | .l _=>true
 | .u=>true
def SV.on(q:Nat→Bool):SV→Bool
 | .one c=>c.on q
 | .ag l=>l.all (Cl.on q)
 | .tu l=>l.all (Cl.on q)
structure Agr (q:Nat→Bool) (S S':Sta):Prop where
 i:∀j,q j=true→S'.i j=S.i j
 n:∀j,q j=true→S'.n j=S.n j
 b:∀j,q j=true→S'.b j=S.b j
 s:∀j,q j=true→S'.s j=S.s j
 o:∀j,q j=true→S'.o j=S.o j
 a:∀j,q j=true→S'.a j=S.a j
section
variable {q:Nat→Bool} {S S':Sta} {κ:Kap}
theorem SS.on_ok(h:Agr q S S'):∀{e:SS},e.on q=true→e.den S'=e.den S
 | .x i,hq=>h.s i hq
 | .c _,_=>rfl
theorem IE.on_ok(h:Agr q S S'):∀{e:IE},e.on q=true→e.den S'=e.den S
 | .c _,_=>rfl
 | .x i,hq=>h.i i hq
 | .ln i,hq=>congrArg Int.ofNat (h.n i hq)
 | .z s,hq=>by simp only[IE.den,SS.on_ok h (e:=s) hq]
 | .bin o k a b,hq=>by
  simp only[IE.on,Bool.and_eq_true]at hq;simp only[IE.den,IE.on_ok h hq.1,IE.on_ok h hq.2]
 | .cv k a,hq=>by simp only[IE.den,IE.on_ok h (e:=a) hq]
 | .mx a b,hq=>by
  simp only[IE.on,Bool.and_eq_true]at hq;simp only[IE.den,IE.on_ok h hq.1,IE.on_ok h hq.2]
theorem BE.on_ok(h:Agr q S S'):∀{e:BE},e.on q=true→e.den S'=e.den S
 | .c _,_=>rfl
 | .x i,hq=>h.b i hq
 | .cmp o a b,hq=>by
  simp only[BE.on,Bool.and_eq_true]at hq;simp only[BE.den,IE.on_ok h hq.1,IE.on_ok h hq.2]
 | .seq a b,hq=>by
  simp only[BE.on,Bool.and_eq_true]at hq;simp only[BE.den,SS.on_ok h hq.1,SS.on_ok h hq.2]
 | .eq a b,hq=>by
  simp only[BE.on,Bool.and_eq_true]at hq;simp only[BE.den,BE.on_ok h hq.1,BE.on_ok h hq.2]
 | .not a,hq=>by simp only[BE.den,BE.on_ok h (e:=a) hq]
theorem Cl.on_ok(h:Agr q S S'){c:Cl}(d:c.on q=true):c.den S' κ=c.den S κ:=by
 cases c with
 | i k e=>simp only[Cl.den,IE.on_ok h (e:=e) d]
 | b e=>simp only[Cl.den,BE.on_ok h (e:=e) d]
 | s e=>simp only[Cl.den,SS.on_ok h (e:=e) d]
 | sl r n c =>
  simp only[Cl.on,Bool.and_eq_true]at d;simp only[Cl.den,h.a r d.1,h.n n d.2.1,h.n c d.2.2]
 | v i=>exact h.o i d
 | _=>rfl
theorem tW(h:Agr q S S'){l:List Cl}(g:l.all (Cl.on q)=true):l.map (Cl.den S' κ)=l.map (Cl.den S κ):=
 List.map_congr_left fun c d=>Cl.on_ok h (List.all_eq_true.1 g c d)
theorem SV.on_ok(h:Agr q S S'){v:SV}(d:v.on q=true):v.den S' κ=v.den S κ:=by
 cases v with
 | one c=>exact Cl.on_ok h d
 | ag l=>simp only[SV.den,tW h d]
 | tu l=>simp only[SV.den,tW h d]
def kj(q:Nat→Bool)(F:Fr):Bool:=F.all fun x=>x.2.on q
def lj(q:Nat→Bool)(M:Mm):Bool:=M.all fun x=>x.2.all (Cl.on q)
theorem Has.on{N:Nat}{F:Fr}{a:Act}(h:Has S κ N F a)(g:Agr q S S')(j:kj q F=true):Has S' κ N F a:=
 ⟨h.size,fun t v d=>by rw[SV.on_ok g (List.all_eq_true.1 j _ (ki d))];exact h.get t v d⟩
theorem iP.on{M:Mm}{T:Nat→Prop}{w:World}(h:iP S κ T M w)(p:Agr q S S')(u:lj q M=true):iP S' κ T M w:=
 ⟨fun r l d=>⟨(h.get r l d).1,fun j c g=>by rw[Cl.on_ok p (List.all_eq_true.1 (List.all_eq_true.1 u _ (qi d)) c (List.mem_of_getElem? g))];exact(h.get r l d).2 j c g⟩⟩
end
def Sta.put(S:Sta)(m:Nat)(d:Sta):Sta where
 i j:=bif Nat.ble m j then d.i (j-m)else S.i j
 n j:=bif Nat.ble m j then d.n (j-m)else S.n j
 b j:=bif Nat.ble m j then d.b (j-m)else S.b j
 s j:=bif Nat.ble m j then d.s (j-m)else S.s j
 o j:=bif Nat.ble m j then d.o (j-m)else S.o j
 a j:=bif Nat.ble m j then d.a (j-m)else S.a j
def Sta.cnt(d:Sta)(k:Int):Sta:={ d with i:=fun j=>bif Nat.beq j 0 then k else d.i j,n:=fun j=>bif Nat.beq j 0 then k.toNat else d.n j }
def lo(m j:Nat):Bool:=Nat.ble (j+1) m
theorem jW{m j:Nat}(h:lo m j=true):Nat.ble m j=false:=by
 have:=Nat.le_of_ble_eq_true h
 cases e:Nat.ble m j with
 | false=>rfl
 | true=>have:=Nat.le_of_ble_eq_true e;omega
theorem aQ(S:Sta)(m:Nat)(d:Sta):Agr (lo m) S (S.put m d):=
 ⟨fun j h=>by simp[Sta.put,jW h],fun j h=>by simp[Sta.put,jW h],fun j h=>by simp[Sta.put,jW h],fun j h=>by simp[Sta.put,jW h],fun j h=>by simp[Sta.put,jW h],fun j h=>by simp[Sta.put,jW h]⟩
theorem Agr.refl(q:Nat→Bool)(S:Sta):Agr q S S:=⟨fun _ _=>rfl,fun _ _=>rfl,fun _ _=>rfl,fun _ _=>rfl,fun _ _=>rfl,fun _ _=>rfl⟩
theorem Agr.mono{q g:Nat→Bool}{S S':Sta}(h:Agr q S S')(d:∀j,g j=true→q j=true):Agr g S S':=
 ⟨fun j x=>h.i j (d j x),fun j x=>h.n j (d j x),fun j x=>h.b j (d j x),fun j x=>h.s j (d j x),fun j x=>h.o j (d j x),fun j x=>h.a j (d j x)⟩
theorem Agr.trans{q:Nat→Bool}{S S' S'':Sta}(h:Agr q S S')(k:Agr q S' S''):Agr q S S'':=
 ⟨fun j x=>(k.i j x).trans (h.i j x),fun j x=>(k.n j x).trans (h.n j x),fun j x=>(k.b j x).trans (h.b j x),fun j x=>(k.s j x).trans (h.s j x),fun j x=>(k.o j x).trans (h.o j x),fun j x=>(k.a j x).trans (h.a j x)⟩
theorem Agr.symm{q:Nat→Bool}{S S':Sta}(h:Agr q S S'):Agr q S' S:=
 ⟨fun j x=>(h.i j x).symm,fun j x=>(h.n j x).symm,fun j x=>(h.b j x).symm,fun j x=>(h.s j x).symm,fun j x=>(h.o j x).symm,fun j x=>(h.a j x).symm⟩
theorem BK(S:Sta)(m:Nat)(d:Sta)(k k':Int):Agr (fun j =>!Nat.beq j m) (S.put m (d.cnt k)) (S.put m (d.cnt k')):=by
 have g:∀j,(!Nat.beq j m)=true→Nat.ble m j=true→Nat.beq (j-m) 0=false:=fun j h e=>by
  have l:=Nat.le_of_ble_eq_true e;have p:j≠m:=fun g=>by subst g;simp at h
  cases e:Nat.beq (j-m) 0 with
  | false=>rfl
  | true=>have:=Nat.eq_of_beq_eq_true e;omega
 refine⟨fun j h=>?_,fun j h=>?_,fun j h=>rfl,fun j h=>rfl,fun j h=>rfl,fun j h=>rfl⟩<;>simp only[Sta.put,Sta.cnt]<;>cases e:Nat.ble m j<;>simp[g j h,e]
theorem cG(S:Sta)(m:Nat)(d x:Sta)(k:Int):Agr (lo (m+8)) (S.put m (d.cnt k)) (S.put m ((d.put 8 x).cnt k)):=by
 have l:∀j,lo (m+8) j=true→Nat.ble m j=true→Nat.ble 8 (j-m)=false:=fun j h g=>by
  have p:=Nat.le_of_ble_eq_true h;have q:=Nat.le_of_ble_eq_true g
  cases e:Nat.ble 8 (j-m)with
  | false=>rfl
  | true=>have:=Nat.le_of_ble_eq_true e;omega
 refine⟨fun j h=>?_,fun j h=>?_,fun j h=>?_,fun j h=>?_,fun j h=>?_,fun j h=>?_⟩<;>simp only[Sta.put,Sta.cnt]<;>cases e:Nat.ble m j<;>simp[l j h,e]
def exq:Ex→Ex→Bool
 | .n,.n=>true
 | .e i,.e j=>Nat.beq i j
 | .r,.r=>true
 | _,_=>false
theorem CD{x y:Ex}(h:exq x y=true):x=y:=by
 unfold exq at h;split at h<;>first
  | rfl
  | (rw[Nat.eq_of_beq_eq_true h])
  | cases h
def qH(F F':Fr):Bool:=F'.all fun z=>match gt F z.1 with
 | some v=>SV.same v z.2
 | none=>false
def BS(M M':Mm):Bool:=M'.all fun z=>match gm M z.1 with
 | some l=>rR l z.2
 | none=>false
theorem Has.sub{S:Sta}{κ:Kap}{N:Nat}{F F':Fr}{a:Act}(h:Has S κ N F a)(g:qH F F'=true):Has S κ N F' a:=
 ⟨h.size,fun t v j=>by
  have d:=List.all_eq_true.1 g _ (ki j);simp only at d;split at d
  ·rename_i u l;rw[←SV.same_ok d];exact h.get t u l
  ·cases d⟩
theorem iP.sub{S:Sta}{κ:Kap}{T:Nat→Prop}{M M':Mm}{w:World}(h:iP S κ T M w)(j:BS M M'=true):iP S κ T M' w:=
 ⟨fun r l g=>by
  have d:=List.all_eq_true.1 j _ (qi g);simp only at d;split at d
  ·rename_i u p;rw[←na d];exact h.get r u p
  ·cases d⟩
def eqL:List Nat→List Nat→Bool
 | [],[]=>true
 | x::l,y::m=>Nat.beq x y&&eqL l m
 | _,_=>false
theorem uF:∀{l m:List Nat},eqL l m=true→l=m
 | [],[],_=>rfl
 | x::l,y::m,h=>by
  simp only[eqL,Bool.and_eq_true]at h;rw[Nat.eq_of_beq_eq_true h.1,uF h.2]
 | [],_::_,h=>by cases h
 | _::_,[],h=>by cases h
def jd(r:Option (Ex×St))(s:St)(x:Ex)(ws:Nat→Bool)(F':Fr)(M':Mm)(k':Nat)(e':List Nat):Bool:=
 match r with
 | some (y,s')=>exq y x&&(qH s'.F F'&&(BS s'.M M'&&(Nat.beq s'.k k'&&(eqL s'.e e'&&((s'.F.take (s'.F.length-s.F.length)).all fun z=>ws z.1)))))
 | none=>false
structure kp (T:Nat→Prop) (κ κ':Kap) (k:Nat) (ws:Nat→Bool) (a a':Act) (w w':World):Prop where
 upto:eU k κ κ'
 keep:aD T w w'
 agree:aA ws a a'
theorem qh{S:Sta}{N:Nat}{P:Program}{C:Ctx}{H:Gh}{e':List Nat}{s:St}{κ κ':Kap}{a g:Act}{w w':World}{x y:Ex}{ws:Nat→Bool}{F':Fr}{M':Mm}{k':Nat}{s':St}(h:jd (some (y,s')) s x ws F' M' k' e'=true)(d:Now S κ' N P C H s' g w')(p:fV H.T κ κ' s s' a g w w'):
 y=x∧s'.k=k'∧Now S κ' N P C H ⟨F',M',k',e'⟩ g w'∧kp H.T κ κ' s.k ws a g w w':=by
 simp only[jd,Bool.and_eq_true]at h;obtain⟨r,u,v,A,B,j⟩:=h;obtain⟨l,e,E⟩:=p.agree;refine⟨CD r,Nat.eq_of_beq_eq_true A,⟨d.has.sub u,d.mem.sub v,d.ctx,d.tb,uF B▸d.gh⟩,⟨p.upto,p.keep,E.mono fun i D=>?_⟩⟩;rw[e]at j;have:(l++s.F).length-s.F.length=l.length:=ξ
 rw[this,List.take_left]at j;obtain⟨z,I,q⟩:=List.any_eq_true.1 D;rw[←Nat.eq_of_beq_eq_true q];exact List.all_eq_true.1 j z I
theorem seg{S:Sta}{N:Nat}{P:Program}{C:Ctx}{H:Gh}{c:Code}{Q:Exit→Act→World→Prop}{s:St}{κ:Kap}{a:Act}{w:World}(x:Ex)(ws:Nat→Bool)(F':Fr)(M':Mm)(k':Nat)(e':List Nat)(q:P.follows .mixedOrders=true)(h:jd (exec P C N c s) s x ws F' M' k' e'=true)(v:Now S κ N P C H s a w)
 (u:∀κ' d w',Now S κ' N P C H ⟨F',M',k',e'⟩ d w'→kp H.T κ κ' s.k ws a d w w'→Q x.den d w'):c.wp P Q a w:=by
 cases e:exec P C N c s with
 | none=>rw[e]at h;cases h
 | some r =>
  obtain⟨y,s'⟩:=r;rw[e]at h;refine qn q e v fun κ' d w' g A=>?_
  obtain⟨j,_,l,p⟩:=qh h g A;rw[j];exact u κ' d w' l p
def br:Code→List Code
 | .seq x y=>br x++br y
 | c=>[c]
def wpL(P:Program)(Q:Exit→Act→World→Prop):List Code→Act→World→Prop
 | [],a,w=>Q .normal a w
 | c::l,a,w=>c.wp P (Exit.then (wpL P Q l) Q) a w
theorem zo{P:Program}{Q:Exit→Act→World→Prop}:∀{c:Code} {l:List Code} {a:Act} {w:World},wpL P Q (br c++l) a w→c.wp P (Exit.then (wpL P Q l) Q) a w:=by
 intro c
 induction c with
 | seq x y ihx ihy =>
  intro l a w h;rw[br,List.append_assoc]at h;refine wp_seq (wp_mono (ihx h) fun e a' w' hh=>?_)
  cases e with
  | normal=>exact ihy hh
  | _=>exact hh
 | _=>intro l a w h;exact h
theorem aK{P:Program}{Q:Exit→Act→World→Prop}{c:Code}{a:Act}{w:World}(h:wpL P Q (br c) a w):c.wp P Q a w:=by
 refine wp_mono (zo (l:=[]) (by rw[List.append_nil];exact h)) fun e d w' hh=>?_
 cases e with
 | normal=>exact hh
 | _=>exact hh
def iI(P:Program)(C:Ctx)(N:Nat):List Code→St→Option (Ex×St)
 | [],s=>some (.n,s)
 | c::l,s=>match exec P C N c s with
  | some (.n,s')=>iI P C N l s'
  | r=>r
theorem sQ{S:Sta}{N:Nat}{P:Program}{C:Ctx}{H:Gh}(u:P.follows .mixedOrders=true){Q:Exit→Act→World→Prop}{m:List Code}:∀{l:List Code} {x:Ex} {s s':St} {κ:Kap} {a:Act} {w:World},iI P C N l s=some (x,s')→Now S κ N P C H s a w →
 (∀κ' p w',Now S κ' N P C H s' p w'→fV H.T κ κ' s s' a p w w'→Exit.then (wpL P Q m) Q x.den p w')→wpL P Q (l++m) a w
 | [],x,s,s',κ,a,w,h,hn,hQ=>by
  simp only[iI,Option.some.injEq,Prod.mk.injEq]at h;obtain⟨rfl,rfl⟩:=h;exact hQ _ _ _ hn (fV.refl _ _ _ _)
 | c::l,x,s,s',κ,a,w,h,hn,hQ=>by
  rw[iI]at h;show c.wp P (Exit.then (wpL P Q (l++m)) Q) a w;split at h
  ·rename_i I q
   exact qn u q hn fun D A B d g=>sQ u h d fun K E J v y=>hQ _ _ _ v (g.trans y)
  ·rename_i q
   refine qn u h hn fun D A B d g=>?_
   have:=hQ _ _ _ d g
   cases x with
   | n=>exact absurd h (q _)
   | e j=>exact this
   | r=>exact this
theorem xl(n:Nat){S:Sta}{N:Nat}{P:Program}{C:Ctx}{H:Gh}{l:List Code}{Q:Exit→Act→World→Prop}{s:St}{κ:Kap}{a:Act}{w:World}(x:Ex)(ws:Nat→Bool)(F':Fr)(M':Mm)(k':Nat)(e':List Nat)(u:P.follows .mixedOrders=true)(h:jd (iI P C N (l.take n) s) s x ws F' M' k' e'=true)(A:Now S κ N P C H s a w)
 (v:∀κ' d w',Now S κ' N P C H ⟨F',M',k',e'⟩ d w'→kp H.T κ κ' s.k ws a d w w'→Exit.then (wpL P Q (l.drop n)) Q x.den d w'):wpL P Q l a w:=by
 cases e:iI P C N (l.take n) s with
 | none=>rw[e]at h;cases h
 | some r =>
  obtain⟨y,s'⟩:=r;rw[e]at h;rw[←List.take_append_drop n l];refine sQ u e A fun κ' d w' g B=>?_
  obtain⟨j,_,p,q⟩:=qh h g B;subst j;exact v κ' d w' p q
theorem eJ(n:Nat){S:Sta}{N:Nat}{P:Program}{C:Ctx}{H:Gh}{l:List Code}{Q:Exit→Act→World→Prop}{s:St}{κ:Kap}{a:Act}{w:World}(ws:Nat→Bool)(F':Fr)(M':Mm)(k':Nat)(e':List Nat)(g:P.follows .mixedOrders=true)(h:jd (iI P C N (l.take n) s) s .r ws F' M' k' e'=true)(p:Now S κ N P C H s a w)
 (j:∀κ' d w',Now S κ' N P C H ⟨F',M',k',e'⟩ d w'→kp H.T κ κ' s.k ws a d w w'→Q .ret d w'):wpL P Q l a w:=xl n .r ws F' M' k' e' g h p j
theorem am(n:Nat){S:Sta}{N:Nat}{P:Program}{C:Ctx}{H:Gh}{l:List Code}{Q:Exit→Act→World→Prop}{s:St}{κ:Kap}{a:Act}{w:World}(ws:Nat→Bool)(F':Fr)(M':Mm)(k':Nat)(e':List Nat)(g:P.follows .mixedOrders=true)(h:jd (iI P C N (l.take n) s) s .n ws F' M' k' e'=true)(p:Now S κ N P C H s a w)
 (j:∀κ' d w',Now S κ' N P C H ⟨F',M',k',e'⟩ d w'→kp H.T κ κ' s.k ws a d w w'→wpL P Q (l.drop n) d w'):wpL P Q l a w:=xl n .n ws F' M' k' e' g h p j
def Re(S:Sta)(κ:Kap)(F:Fr)(S':Sta)(κ':Kap):Fr→Prop
 | []=>True
 | (t,v)::r=>(match gt F t with
  | some u=>u.den S κ=v.den S' κ'
  | none=>False)∧Re S κ F S' κ' r
theorem Has.re{S S':Sta}{κ κ':Kap}{N:Nat}{F F':Fr}{a:Act}(h:Has S κ N F a)(hr:Re S κ F S' κ' F'):Has S' κ' N F' a:=by
 refine⟨h.size,fun t v ht=>?_⟩;have:∀{G:Fr},Re S κ F S' κ' G→(t,v)∈G→a.tmps[t]?=some (v.den S' κ'):=by
  intro G
  induction G with
  | nil=>intro _ h;cases h
  | cons x G ih =>
   obtain⟨u,y⟩:=x;intro hG hm
   rcases List.mem_cons.1 hm with e|hm
   ·cases e
    have h1:=hG.1;split at h1
    ·rename_i z hz
     rw[←h1];exact h.get _ _ hz
    ·exact h1.elim
   ·exact ih hG.2 hm
 exact this hr (ki ht)
theorem Has.back{S:Sta}{κ κ':Kap}{N k:Nat}{F:Fr}{a:Act}(h:Has S κ' N F a)(j:eU k κ κ')(g:(F.all fun x=>x.2.sc k)=true):Has S κ N F a:=
 ⟨h.size,fun t v d=>by rw[←SV.sc_ok j (List.all_eq_true.1 g _ (ki d))];exact h.get t v d⟩
theorem Has.tail{S:Sta}{κ:Kap}{N t:Nat}{F:Fr}{v:SV}{a:Act}(h:Has S κ N ((t,v)::F) a)(d:(gt F t).isNone=true):Has S κ N F a:=
 ⟨h.size,fun u y g=>h.get u y (by
  rw[bD,if_neg]
  ·exact g
  ·intro e
   subst e;rw[g]at d
   cases d)⟩
theorem noC(S:Sta)(κ:Kap)(P:Program)(H:Gh)(w:World):jH S κ P {} H w:=⟨ξ,ξ,ξ,ξ,(fun _ _ _ _ r l h=>by cases h),ξ⟩
def fx(m ti:Nat)(FR:Fr):Fr:=(ti,.one (.i .i64 (.x m)))::FR
def xC(E0:List (Nat×Nat×IE×Nat×Nat))(m kk:Nat):Bool:=E0.all fun x=>lo m x.1&&(x.2.2.1.on (lo m)&&(lo m x.2.2.2.1&&Nat.ble (x.2.2.2.2+1) kk))
def C7(P:Program)(N:Nat)(E0:List (Nat×Nat×IE×Nat×Nat))(R1 R2:Code)(FR:Fr)(M:Mm)(kk ti t m:Nat)(ik:IntKind)(s:Int)(te:BE)(ws:Nat→Bool):Bool:=
 jd (exec P { EL:=E0 } N R1 ⟨(ti,.one (.i ik (.x m)))::FR,M,kk,[]⟩) ⟨(ti,.one (.i ik (.x m)))::FR,M,kk,[]⟩ .n ws ((t,.one (.b te))::(ti,.one (.i ik (.x m)))::FR) M kk [] &&
 (jd (exec P { EL:=E0 } N R2 ⟨(ti,.one (.i ik (.x m)))::FR,M,kk,[]⟩) ⟨(ti,.one (.i ik (.x m)))::FR,M,kk,[]⟩ .n ws ((ti,.one (.i ik (.bin .add ik (.x m) (.c s))))::FR) M kk [] &&
 (kj (fun j =>!Nat.beq j m) FR&&(lj (lo m) M&&(xC E0 m kk&&((gt ((ti,.one (.i ik (.x m)))::FR) t).isNone&&((gt FR ti).isNone&&(((ti,SV.one (.i ik (.x m)))::FR:Fr).all fun x=>x.2.sc kk)))))))
def qI(E0:List (Nat×Nat×IE×Nat×Nat))(P:Program)(N:Nat)(R1 R2:Code)(FR:Fr)(M:Mm)(kk ti t m:Nat)(lm:IE)(ws:Nat→Bool):Bool:=
 C7 P N E0 R1 R2 FR M kk ti t m .i64 1 (.cmp .lss (.x m) lm) ws&&lm.on (lo m)
abbrev wh:=qI []
def gj{ε:Type}(S:Sta)(κ:Kap)(N m kk:Nat)(FI:Fr)(ws:Nat→Bool)(D:ε→Sta)(T:Nat→Prop)(W:Nat→ε→World→Prop)(k:Nat)(a0:Act)(w0:World)(a:Act)(w:World):Prop:=
 ∃e κ',W (k+1) e w∧eU kk κ κ'∧Has (S.put m ((D e).cnt k)) κ' N FI a∧aA ws a0 a∧aD T w0 w
def Gh.of(T:Nat→Prop)(G:World→Prop)(st:∀w w',Kz w w'→G w→G w'):Gh:=⟨T,fun _=>G,fun _=>st⟩
theorem oW{S S':Sta}{κ:Kap}{P:Program}{E0:List (Nat×Nat×IE×Nat×Nat)}{C:Ctx}{H H':Gh}{m kk:Nat}{w w':World}(h:jH S κ P C H w)(p:C.EL=E0)(j:xC E0 m kk=true)(d:Agr (lo m) S S'):jH S' κ P { EL:=E0 } H' w':=by
 subst p;refine⟨ξ,fun x hx=>?_,ξ,ξ,(fun _ _ _ _ r l h=>by cases h),ξ⟩;have g:=List.all_eq_true.1 j x hx;simp only[Bool.and_eq_true]at g;obtain⟨q,u,v,_⟩:=g;rw[IE.on_ok d u,d.n _ v,d.a _ q];exact h.el x hx
theorem Co{ε:Type}{S:Sta}{κ:Kap}{N:Nat}{P:Program}{C:Ctx}{H:Gh}{b b2 t kk:Nat}{F0:Fr}{M:Mm}{es:List Nat}{R1 R2 body:Code}{Q:Exit→Act→World→Prop}{A:Act}{y:World}{L:Code}(X:∀(n:Nat) (I J:Nat→Act→World→Prop) (idx:Act→Nat),I 0 A y→(∀k a w,I k a w→idx a=k) →
 (∀k a w,k≤n→I k a w→R1.wp P (kK fun Z w'=>I k Z w'∧Z.eval (.tmp t)=.bool (decide (k<n))) a w) →
 (∀k a w,k<n→I k a w→body.wp P (cC b b2 (J k) Q) a w)→(∀k a w,k<n→J k a w→R2.wp P (kK (I (k+1))) a w)→(∀a w,I n a w→Q .normal a w)→L.wp P Q A y)(E0:List (Nat×Nat×IE×Nat×Nat))
 (r:Now S κ N P C H ⟨F0,M,kk,es⟩ A y)(hE:C.EL=E0)(n m p:Nat)(l:IntKind)(c:Nat→Int)(s:Int)(te:BE)(FR:Fr)(ws:Nat→Bool)(D:ε→Sta)(W:Nat→ε→World→Prop)(st:∀k e w w',Kz w w'→W k e w→W k e w')(e0:ε)(hP:P.follows .mixedOrders=true)
 (hB:C7 P N E0 R1 R2 FR M kk p t m l s te ws=true)(a5:∀(k:Nat) d,k≤n→te.den (S.put m (Sta.cnt d (c k)))=decide (k<n))(hc:∀k,k<n→l.wrap (c k+s)=c (k+1))(af:∀k,k≤n→((c k-c 0).toNat / s.toNat=k))(hI:W 0 e0 y)(h0:Has (S.put m ((D e0).cnt (c 0))) κ N ((p,.one (.i l (.x m)))::FR) A)
 (hb:∀(k:Nat) e a w,k<n→Now (S.put m ((D e).cnt (c k))) κ N P { EL:=E0 } (Gh.of H.T (W k e) (st k e)) ⟨(p,.one (.i l (.x m)))::FR,M,kk,[]⟩ a w→aA ws A a→aD H.T y w→body.wp P (cC b b2 (fun a w=>∃e κ',W (k+1) e w∧eU kk κ κ'∧Has (S.put m ((D e).cnt (c k))) κ' N ((p,.one (.i l (.x m)))::FR) a∧aA ws A a∧aD H.T y w) Q) a w)
 (hq:∀e a w,Now (S.put m ((D e).cnt (c n))) κ N P { EL:=E0 } (Gh.of H.T (W n e) (st n e)) ⟨(p,.one (.i l (.x m)))::FR,M,kk,[]⟩ a w→aA ws A a→aD H.T y w→Q .normal a w):L.wp P Q A y:=by
 simp only[C7,Bool.and_eq_true]at hB;obtain⟨h1,h2,a2,ac,ad,ht,a6,E⟩:=hB;have V:∀(k:Nat) e a w,W k e w→Has (S.put m ((D e).cnt (c k))) κ N ((p,.one (.i l (.x m)))::FR) a→aD H.T y w→Now (S.put m ((D e).cnt (c k))) κ N P { EL:=E0 } (Gh.of H.T (W k e) (st k e)) ⟨(p,.one (.i l (.x m)))::FR,M,kk,[]⟩ a w:=fun k e a w B hh j =>
  ⟨hh,(r.mem.on (aQ S m _) ac).keep j,oW r.ctx hE ad (aQ S m _),fun g hg=>Nat.lt_of_lt_of_le (r.tb g hg) j.size,B⟩
 have hx:∀(k:Int) (d:Sta),(S.put m (d.cnt k)).i m=k:=fun k d=>by
  have:Nat.ble m m=true:=Nat.ble_eq_true_of_le (Nat.le_refl m);simp[Sta.put,Sta.cnt,this]
 let I:Nat→Act→World→Prop:=fun k a w=>k≤n∧∃e,W k e w∧Has (S.put m ((D e).cnt (c k))) κ N ((p,.one (.i l (.x m)))::FR) a∧aA ws A a∧aD H.T y w
 refine X n I (fun k a w=>∃e κ',W (k+1) e w∧eU kk κ κ'∧Has (S.put m ((D e).cnt (c k))) κ' N ((p,.one (.i l (.x m)))::FR) a∧aA ws A a∧aD H.T y w)
  (fun a=>match a.tmps[p]? with|some (.int _ x)=>(x-c 0).toNat / s.toNat|_=>0) ⟨Nat.zero_le _,e0,hI,h0,aA.refl _ _,aD.refl _ _⟩ ?_ ?_ ?_ ?_ ?_
 ·rintro k a w ⟨hk,e,_,hh,_⟩
  rw[hh.get p (.one (.i l (.x m))) (by rw[bD,if_pos rfl])];simp only[SV.den,Cl.den_i,IE.den,hx];exact af k hk
 ·rintro k a w hk ⟨_,e,B,hh,K,j⟩
  refine seg .n ws _ M kk [] hP h1 (V k e a w B hh j) fun κ' Z w' q R=>⟨rfl,⟨hk,e,q.gh,(q.has.tail ht).back R.upto E,K.trans R.agree (fun _ h=>h),j.trans R.keep (fun _ _ e=>e)⟩,?_⟩
  have:=q.has.get t _ (by rw[bD,if_pos rfl]);show Z.tmps.getD t undef=_;rw[Array.getD_eq_getD_getElem?,this];simp only[SV.den,Cl.den_b,a5 k _ hk,Option.getD_some]
 ·rintro k a w hk ⟨_,e,B,hh,K,j⟩
  exact hb k e a w hk (V k e a w B hh j) K j
 ·rintro k a w hk ⟨e,κ1,B,Y,hh,K,j⟩
  have a3:=hh.back Y E;have a4:Now (S.put m ((D e).cnt (c k))) κ N P { EL:=E0 } (Gh.of H.T (W (k+1) e) (st (k+1) e)) ⟨(p,.one (.i l (.x m)))::FR,M,kk,[]⟩ a w:=
   ⟨a3,(r.mem.on (aQ S m _) ac).keep j,oW r.ctx hE ad (aQ S m _),fun g hg=>Nat.lt_of_lt_of_le (r.tb g hg) j.size,B⟩
  refine seg .n ws _ M kk [] hP h2 a4 fun κ' Z w' q R=>⟨rfl,⟨hk,e,q.gh,?_,K.trans R.agree (fun _ h=>h),j.trans R.keep (fun _ _ e=>e)⟩⟩
  have a1:((((p,SV.one (.i l (.bin .add l (.x m) (.c s))))::FR):Fr).all fun x=>x.2.sc kk)=true:=by
   simp only[List.all_cons,Bool.and_eq_true]at E⊢;exact⟨rfl,E.2⟩
  have O:=q.has.back R.upto a1;have U:=(O.tail a6).on (BK S m (D e) (c k) (c (k+1))) a2;refine⟨O.size,fun u v Y=>?_⟩;rw[bD]at Y;split at Y
  ·rename_i eu
   subst eu;obtain rfl:=Option.some.inj Y;rw[O.get p _ (by rw[bD,if_pos rfl])];simp only[SV.den,Cl.den_i,IE.den,lM,hx,hc k hk]
  ·exact U.get u v Y
 ·rintro a w ⟨_,e,B,hh,K,j⟩
  exact hq e a w (V n e a w B hh j) K j
theorem C8{ε:Type}{S:Sta}{κ:Kap}{N:Nat}{P:Program}{C:Ctx}{H:Gh}{b x t kk:Nat}{F0:Fr}{M:Mm}{y:List Nat}{R1 R2 body:Code}{Q:Exit→Act→World→Prop}{g:Act}{h:World}{L:Code}(j:∀(n:Nat) (I J:Nat→Act→World→Prop) (idx:Act→Nat),I 0 g h→(∀k a w,I k a w→idx a=k) →
 (∀k a w,k≤n→I k a w→R1.wp P (kK fun v w'=>I k v w'∧v.eval (.tmp t)=.bool (decide (k<n))) a w) →
 (∀k a w,k<n→I k a w→body.wp P (cC b x (J k) Q) a w)→(∀k a w,k<n→J k a w→R2.wp P (kK (I (k+1))) a w)→(∀a w,I n a w→Q .normal a w)→L.wp P Q g h)(E0:List (Nat×Nat×IE×Nat×Nat))
 (r:Now S κ N P C H ⟨F0,M,kk,y⟩ g h)(B:C.EL=E0)(n m l:Nat)(u:IE)(FR:Fr)(ws:Nat→Bool)(D:ε→Sta)(W:Nat→ε→World→Prop)(st:∀k e w w',Kz w w'→W k e w→W k e w')(p:ε)(K:P.follows .mixedOrders=true)
 (q:qI E0 P N R1 R2 FR M kk l t m u ws=true)(U:u.den S=n)(R:n≤4611686018427387904)(E:W 0 p h)(A:Has (S.put m ((D p).cnt 0)) κ N (fx m l FR) g)
 (O:∀(k:Nat) e a w,k<n→Now (S.put m ((D e).cnt k)) κ N P { EL:=E0 } (Gh.of H.T (W k e) (st k e)) ⟨fx m l FR,M,kk,[]⟩ a w→aA ws g a→aD H.T h w→body.wp P (cC b x (gj S κ N m kk (fx m l FR) ws D H.T W k g h) Q) a w)
 (V:∀e a w,Now (S.put m ((D e).cnt n)) κ N P { EL:=E0 } (Gh.of H.T (W n e) (st n e)) ⟨fx m l FR,M,kk,[]⟩ a w→aA ws g a→aD H.T h w→Q .normal a w):L.wp P Q g h:=by
 simp only[qI,Bool.and_eq_true]at q;refine Co j E0 r B n m l .i64 (fun k=>(k:Int)) 1 (.cmp .lss (.x m) u) FR ws D W st p K q.1 (fun k d hk=>?_) (fun k hk=>?_) (fun k hk=>?_) E A O V
 ·have hx:(S.put m (d.cnt k)).i m=k:=by
   have:Nat.ble m m=true:=Nat.ble_eq_true_of_le (Nat.le_refl m);simp[Sta.put,Sta.cnt,this]
  simp only[BE.den,gz,IE.den,hx,IE.on_ok (aQ S m _) q.2,U,Int.ofNat_lt]
 ·rw[IntWalk.i64_in _ χ];omega
 ·show((k:Int)-(0:Nat)).toNat / (1:Int).toNat=k
  simp
theorem sM{ε:Type}{S:Sta}{κ:Kap}{N:Nat}{P:Program}{C:Ctx}{H:Gh}{b x t kk:Nat}{F0:Fr}{M:Mm}{y:List Nat}{R1 R2 body:Code}{Q:Exit→Act→World→Prop}{d:Act}{h:World}(E0:List (Nat×Nat×IE×Nat×Nat))(u:Now S κ N P C H ⟨F0,M,kk,y⟩ d h)(K:C.EL=E0)(n m g j:Nat)(FR:Fr)(ws:Nat→Bool)(D:ε→Sta)(W:Nat→ε→World→Prop)(st:∀k e w w',Kz w w'→W k e w→W k e w')(l:ε)(O:P.follows .mixedOrders=true)
 (E:qI E0 P N R1 R2 FR M kk g t m (.ln j) ws=true)(U:S.n j=n)(r:n≤4611686018427387904)(L:W 0 l h)(p:Has (S.put m ((D l).cnt 0)) κ N (fx m g FR) d)
 (q:∀(k:Nat) e a w,k<n→Now (S.put m ((D e).cnt k)) κ N P { EL:=E0 } (Gh.of H.T (W k e) (st k e)) ⟨fx m g FR,M,kk,[]⟩ a w→aA ws d a→aD H.T h w→body.wp P (cC b x (gj S κ N m kk (fx m g FR) ws D H.T W k d h) Q) a w)
 (v:∀e a w,Now (S.put m ((D e).cnt n)) κ N P { EL:=E0 } (Gh.of H.T (W n e) (st n e)) ⟨fx m g FR,M,kk,[]⟩ a w→aA ws d a→aD H.T h w→Q .normal a w):
 (Code.block b (Code.loop (Code.seq (Code.seq R1 (Code.cond (.tmp t) .skip (.exit b))) (Code.seq (Code.block x body) R2)))).wp P Q d h:=
 C8 (fun n I J idx p R A q B v=>gY n I J idx p R A q B v) E0 u K n m g (.ln j) FR ws D W st l O E (by show(S.n j:Int)=n;rw[U]) r L p q v
theorem gq{ε:Type}{S:Sta}{κ:Kap}{N:Nat}{P:Program}{C:Ctx}{H:Gh}{b r t kk:Nat}{F0:Fr}{M:Mm}{u:List Nat}{R1 R2 body:Code}{Q:Exit→Act→World→Prop}{g:Act}{j:World}(d:Now S κ N P C H ⟨F0,M,kk,u⟩ g j)(n m h q:Nat)(FR:Fr)(ws:Nat→Bool)(D:ε→Sta)(W:Nat→ε→World→Prop)(st:∀k e w w',Kz w w'→W k e w→W k e w')(l:ε)(A:P.follows .mixedOrders=true)
 (x:wh P N R1 R2 FR M kk h t m (.ln q) ws=true)(E:S.n q=n)(p:n≤4611686018427387904)(y:W 0 l j)(v:Has (S.put m ((D l).cnt 0)) κ N (fx m h FR) g)
 (B:∀(k:Nat) e a w,k<n→Now (S.put m ((D e).cnt k)) κ N P {} (Gh.of H.T (W k e) (st k e)) ⟨fx m h FR,M,kk,[]⟩ a w→aA ws g a→aD H.T j w→body.wp P (cC b r (gj S κ N m kk (fx m h FR) ws D H.T W k g j) Q) a w)
 (I:∀e a w,Now (S.put m ((D e).cnt n)) κ N P {} (Gh.of H.T (W n e) (st n e)) ⟨fx m h FR,M,kk,[]⟩ a w→aA ws g a→aD H.T j w→Q .normal a w):
 (Code.block b (Code.loop (Code.seq (Code.seq R1 (Code.cond (.tmp t) .skip (.exit b))) (Code.seq (Code.block r body) R2)))).wp P Q g j:=
 sM [] ⟨d.has,d.mem,noC _ _ _ _ _,d.tb,d.gh⟩ rfl n m h q FR ws D W st l A x E p y v B I
theorem Cn{ε:Type}{S:Sta}{κ:Kap}{N:Nat}{P:Program}{C:Ctx}{H:Gh}{b x t kk:Nat}{F0:Fr}{M:Mm}{y:List Nat}{R1 R2 body:Code}{Q:Exit→Act→World→Prop}{d:Act}{h:World}(E0:List (Nat×Nat×IE×Nat×Nat))(u:Now S κ N P C H ⟨F0,M,kk,y⟩ d h)(K:C.EL=E0)(n m g j:Nat)(FR:Fr)(ws:Nat→Bool)(D:ε→Sta)(W:Nat→ε→World→Prop)(st:∀k e w w',Kz w w'→W k e w→W k e w')(l:ε)(O:P.follows .mixedOrders=true)
 (E:qI E0 P N R1 R2 FR M kk g t m (.ln j) ws=true)(U:S.n j=n)(r:n≤4611686018427387904)(L:W 0 l h)(p:Has (S.put m ((D l).cnt 0)) κ N (fx m g FR) d)
 (q:∀(k:Nat) e a w,k<n→Now (S.put m ((D e).cnt k)) κ N P { EL:=E0 } (Gh.of H.T (W k e) (st k e)) ⟨fx m g FR,M,kk,[]⟩ a w→aA ws d a→aD H.T h w→body.wp P (cC b x (gj S κ N m kk (fx m g FR) ws D H.T W k d h) Q) a w)
 (v:∀e a w,Now (S.put m ((D e).cnt n)) κ N P { EL:=E0 } (Gh.of H.T (W n e) (st n e)) ⟨fx m g FR,M,kk,[]⟩ a w→aA ws d a→aD H.T h w→Q .normal a w):
 (Code.block b (Code.loop (Code.seq R1 (Code.seq (Code.cond (.tmp t) .skip (.exit b)) (Code.seq (Code.block x body) R2))))).wp P Q d h:=
 C8 (fun n I J idx p R A q B v=>sj n I J idx p R A q B v) E0 u K n m g (.ln j) FR ws D W st l O E (by show(S.n j:Int)=n;rw[U]) r L p q v
theorem Ag{ε:Type}{S:Sta}{κ:Kap}{N:Nat}{P:Program}{C:Ctx}{H:Gh}{b r t kk:Nat}{F0:Fr}{M:Mm}{u:List Nat}{R1 R2 body:Code}{Q:Exit→Act→World→Prop}{g:Act}{j:World}(d:Now S κ N P C H ⟨F0,M,kk,u⟩ g j)(n m h q:Nat)(FR:Fr)(ws:Nat→Bool)(D:ε→Sta)(W:Nat→ε→World→Prop)(st:∀k e w w',Kz w w'→W k e w→W k e w')(l:ε)(A:P.follows .mixedOrders=true)
 (x:wh P N R1 R2 FR M kk h t m (.ln q) ws=true)(E:S.n q=n)(p:n≤4611686018427387904)(y:W 0 l j)(v:Has (S.put m ((D l).cnt 0)) κ N (fx m h FR) g)
 (B:∀(k:Nat) e a w,k<n→Now (S.put m ((D e).cnt k)) κ N P {} (Gh.of H.T (W k e) (st k e)) ⟨fx m h FR,M,kk,[]⟩ a w→aA ws g a→aD H.T j w→body.wp P (cC b r (gj S κ N m kk (fx m h FR) ws D H.T W k g j) Q) a w)
 (I:∀e a w,Now (S.put m ((D e).cnt n)) κ N P {} (Gh.of H.T (W n e) (st n e)) ⟨fx m h FR,M,kk,[]⟩ a w→aA ws g a→aD H.T j w→Q .normal a w):
 (Code.block b (Code.loop (Code.seq R1 (Code.seq (Code.cond (.tmp t) .skip (.exit b)) (Code.seq (Code.block r body) R2))))).wp P Q g j:=
 Cn [] ⟨d.has,d.mem,noC _ _ _ _ _,d.tb,d.gh⟩ rfl n m h q FR ws D W st l A x E p y v B I
theorem BT{ε:Type}{S:Sta}{κ:Kap}{N:Nat}{P:Program}{C:Ctx}{H:Gh}{b x t kk:Nat}{F0:Fr}{M:Mm}{y:List Nat}{R1 R2 body:Code}{Q:Exit→Act→World→Prop}{d:Act}{h:World}(E0:List (Nat×Nat×IE×Nat×Nat))(r:Now S κ N P C H ⟨F0,M,kk,y⟩ d h)(K:C.EL=E0)(n m g:Nat)(v:IE)(FR:Fr)(ws:Nat→Bool)(D:ε→Sta)(W:Nat→ε→World→Prop)(st:∀k e w w',Kz w w'→W k e w→W k e w')(j:ε)(O:P.follows .mixedOrders=true)
 (E:qI E0 P N R1 R2 FR M kk g t m v ws=true)(U:v.den S=n)(q:n≤4611686018427387904)(L:W 0 j h)(l:Has (S.put m ((D j).cnt 0)) κ N (fx m g FR) d)
 (p:∀(k:Nat) e a w,k<n→Now (S.put m ((D e).cnt k)) κ N P { EL:=E0 } (Gh.of H.T (W k e) (st k e)) ⟨fx m g FR,M,kk,[]⟩ a w→aA ws d a→aD H.T h w→body.wp P (cC b x (gj S κ N m kk (fx m g FR) ws D H.T W k d h) Q) a w)
 (u:∀e a w,Now (S.put m ((D e).cnt n)) κ N P { EL:=E0 } (Gh.of H.T (W n e) (st n e)) ⟨fx m g FR,M,kk,[]⟩ a w→aA ws d a→aD H.T h w→Q .normal a w):
 (Code.block b (Code.loop (Code.seq (Code.seq R1 (Code.cond (.tmp t) .skip (.exit b))) (Code.seq (Code.block x body) R2)))).wp P Q d h:=
 C8 (fun n I J idx l R A p B u=>gY n I J idx l R A p B u) E0 r K n m g v FR ws D W st j O E U q L l p u
theorem wd{ε:Type}{S:Sta}{κ:Kap}{N:Nat}{P:Program}{C:Ctx}{H:Gh}{b r t kk:Nat}{F0:Fr}{M:Mm}{u:List Nat}{R1 R2 body:Code}{Q:Exit→Act→World→Prop}{g:Act}{j:World}(d:Now S κ N P C H ⟨F0,M,kk,u⟩ g j)(n m h:Nat)(q:IE)(FR:Fr)(ws:Nat→Bool)(D:ε→Sta)(W:Nat→ε→World→Prop)(st:∀k e w w',Kz w w'→W k e w→W k e w')(l:ε)(A:P.follows .mixedOrders=true)
 (x:wh P N R1 R2 FR M kk h t m q ws=true)(E:q.den S=n)(p:n≤4611686018427387904)(y:W 0 l j)(v:Has (S.put m ((D l).cnt 0)) κ N (fx m h FR) g)
 (B:∀(k:Nat) e a w,k<n→Now (S.put m ((D e).cnt k)) κ N P {} (Gh.of H.T (W k e) (st k e)) ⟨fx m h FR,M,kk,[]⟩ a w→aA ws g a→aD H.T j w→body.wp P (cC b r (gj S κ N m kk (fx m h FR) ws D H.T W k g j) Q) a w)
 (I:∀e a w,Now (S.put m ((D e).cnt n)) κ N P {} (Gh.of H.T (W n e) (st n e)) ⟨fx m h FR,M,kk,[]⟩ a w→aA ws g a→aD H.T j w→Q .normal a w):
 (Code.block b (Code.loop (Code.seq (Code.seq R1 (Code.cond (.tmp t) .skip (.exit b))) (Code.seq (Code.block r body) R2)))).wp P Q g j:=
 BT [] ⟨d.has,d.mem,noC _ _ _ _ _,d.tb,d.gh⟩ rfl n m h q FR ws D W st l A x E p y v B I
theorem Now.down{S:Sta}{κ:Kap}{N m:Nat}{P:Program}{C:Ctx}{H:Gh}{F:Fr}{M:Mm}{k:Nat}{e:List Nat}{d:Sta}{a:Act}{w:World}(h:Now (S.put m d) κ N P C H ⟨F,M,k,e⟩ a w)(F':Fr)(g:(qH F F'&&(kj (lo m) F'&&lj (lo m) M))=true):Now S κ N P {} H ⟨F',M,k,e⟩ a w:=by
 simp only[Bool.and_eq_true]at g;exact⟨(h.has.sub g.1).on (aQ S m d).symm g.2.1,h.mem.on (aQ S m d).symm g.2.2,noC _ _ _ _ _,h.tb,h.gh⟩
theorem aM{P:Program}{Q:Exit→Act→World→Prop}{c:Code}{l:List Code}{a:Act}{w:World}(h:c.wp P (Exit.then (wpL P Q l) Q) a w):wpL P Q (c::l) a w:=h
def BI:Nat→List SV→Fr
 | _,[]=>[]
 | i,v::l=>(i,v)::BI (i+1) l
theorem sg:∀{l:List SV} {i t:Nat} {v:SV},gt (BI i l) t=some v→i≤t∧l[t-i]?=some v
 | [],i,t,v,h=>by cases h
 | u::l,i,t,v,h=>by
  rw[BI,bD]at h;split at h
  ·rename_i e
   subst e;exact⟨Nat.le_refl _,by simpa using h⟩
  ·obtain⟨g,d⟩:=sg h
   refine⟨χ,?_⟩;rw[show t-i=(t-(i+1))+1 by omega,List.getElem?_cons_succ];exact d
theorem fnE{P:Program}{f:FuncId}{fn:Func}{N:Nat}{args:Array Value}{w:World}{R:Ending→World→Prop}(S:Sta)(κ:Kap)(as:List SV)(E:P.funcs[f]?=some fn)(B:fn.ntmps=N)(C:fn.body.isSome=true)(d:args=(as.map (SV.den S κ)).toArray)(q:as.length≤N)
 (H:Gh)(tb:∀g,H.T g→g<w.heap.size)(gh:H.G [] w)
 (h:∀a,a.defers=[]→Now S κ N P {} H ⟨BI 0 as,[],0,[]⟩ a w→wpL P (bodyPost P fn R) (br (bE fn [])) a w):Calls P f args w R:=by
 refine b9 E B C (by rw[d];simpa using q) fun a j D p=>aK (h a D ⟨⟨j,fun t v I=>?_⟩,⟨fun r l h=>by cases h⟩,noC _ _ _ _ _,tb,gh⟩)
 obtain⟨_,u⟩:=sg I;have x:args[t]?=some (v.den S κ):=by rw[d];simp at u⊢; rw[u];exact⟨v,rfl,rfl⟩
 have y:t<args.size:=(Array.getElem?_eq_some_iff.1 x).1;have A:t<a.tmps.size:=by rw[j];rw[d]at y;simp at y;omega
 rw[Array.getElem?_eq_getElem A,p t _ x A]
theorem Has.getD{S:Sta}{κ:Kap}{N:Nat}{F:Fr}{a:Act}(h:Has S κ N F a){t:Nat}{v:SV}(hv:gt F t=some v):a.tmps.getD t undef=v.den S κ:=by
 rw[Array.getD_eq_getD_getElem?,h.get t v hv];rfl
theorem fX{S:Sta}{κ:Kap}{N:Nat}{F:Fr}{P:Program}{fn:Func}{R:Ending→World→Prop}{a:Act}{w:World}(t:Nat){v:SV}(j:fn.results = #[.tmp t])(d:Has S κ N F a)(hv:gt F t=some v)(h:a.defers=[])(g:R (.returned (v.den S κ)) w):bodyPost P fn R .ret a w:=
 bodyPost_ret (v:=v.den S κ) (by rw[results_tmp j,d.getD hv]) h g
theorem uh{S:Sta}{κ:Kap}{N:Nat}{F:Fr}{P:Program}{fn:Func}{R:Ending→World→Prop}{a:Act}{w:World}{p q r u:Nat}{g h j l:SV}(E:fn.results = #[.tmp p,.tmp q,.tmp r,.tmp u])(d:Has S κ N F a)(x:gt F p=some g)(y:gt F q=some h)(A:gt F r=some j)(B:gt F u=some l)(D:a.defers=[])
 (C:R (.returned (.tuple #[g.den S κ,h.den S κ,j.den S κ,l.den S κ])) w):bodyPost P fn R .ret a w:=
 bodyPost_ret (v := .tuple #[g.den S κ,h.den S κ,j.den S κ,l.den S κ]) (by simp[results,E,d.get _ _ x,d.get _ _ y,d.get _ _ A,d.get _ _ B]) D C
theorem gP{S:Sta}{κ:Kap}{N t:Nat}{F:Fr}{a:Act}{v:SV}(h:Has S κ N F a)(hv:a.tmps[t]?=some (v.den S κ)):Has S κ N ((t,v)::F) a:=
 ⟨h.size,fun u x d=>by
  rw[bD]at d;split at d
  ·rename_i e;subst e;obtain rfl:=Option.some.inj d;exact hv
  ·exact h.get u x d⟩
theorem Now.downR{S:Sta}{κ:Kap}{N m:Nat}{P:Program}{C:Ctx}{H:Gh}{F:Fr}{M:Mm}{k:Nat}{e:List Nat}{d:Sta}{a:Act}{w:World}(h:Now (S.put m d) κ N P C H ⟨F,M,k,e⟩ a w)(F':Fr)(j:Re (S.put m d) κ F S κ F')(g:lj (lo m) M=true):Now S κ N P {} H ⟨F',M,k,e⟩ a w:=
 ⟨h.has.re j,h.mem.on (aQ S m d).symm g,noC _ _ _ _ _,h.tb,h.gh⟩
theorem cI{P:Program}{Q:Exit→Act→World→Prop}{l:List Code}{a:Act}{w:World}(d:l.isEmpty=true)(h:Q .normal a w):wpL P Q l a w:=by
 cases l with
 | nil=>exact h
 | cons x y=>cases d
end Go.Proofs.YtpblcjipmoblnaaGreatDoor.Rs
namespace Go.Proofs.YtpblcjipmoblnaaGreatDoor.Rs
open Go.RowKit Go.Proofs.YtpblcjipmoblnaaGreatDoor
theorem Cv(n:Nat){S:Sta}{N:Nat}{P:Program}{H:Gh}{l:List Code}{Q:Exit→Act→World→Prop}{s:St}{κ:Kap}{a:Act}{w:World}(b:Bool)(C:Bool→Ctx)(ws:Nat→Bool)(F':Bool→Fr)(M':Mm)(k':Nat)(e':List Nat)(g:P.follows .mixedOrders=true)
 (q:jd (iI P (C true) N (l.take n) s) s .n ws (F' true) M' k' e'=true)(p:jd (iI P (C false) N (l.take n) s) s .n ws (F' false) M' k' e'=true)(j:Now S κ N P (C b) H s a w)
 (h:∀κ' d w',Now S κ' N P (C b) H ⟨F' b,M',k',e'⟩ d w'→kp H.T κ κ' s.k ws a d w w'→wpL P Q (l.drop n) d w'):wpL P Q l a w:=by
 cases b with
 | true=>exact am n ws _ M' k' e' g q j h
 | false=>exact am n ws _ M' k' e' g p j h
def vB(P:Program)(E0:List (Nat×Nat×IE×Nat×Nat))(N:Nat)(ops:List Oper)(F:Fr)(M:Mm)(k i:Nat)(f:FuncId)(as:List SV)(rv:SV)(m:Nat)(ws:Nat→Bool)(F':Fr)(M':Mm)(k':Nat):Bool:=
 match stL P { EL:=E0 } N ops (ops.take i) ⟨F,M,k,[]⟩,ops[i]? with
 | some s1,some o =>
  match gd [] ops s1.F o.guard,o.op,o.dst with
  | some true,.call ⟨.value (.func g),xs,_⟩,some dt =>
   Nat.beq g f&&((match evs s1.F xs.toList with|some l=>nb l as|none=>false)&&(od P f&&(Nat.ble (dt+1) N&&(kj (lo m) s1.F&&(lj (lo m) s1.M&&(xC E0 m k&&(eqL s1.e []&&(as.all (SV.sc k)&&(rv.sc k&&(((s1.F.take (s1.F.length-F.length)).all fun z=>ws z.1)&&(ws dt &&
    jd ((stL P { EL:=E0 } N ops (ops.drop (i+1)) ⟨(dt,rv)::s1.F,s1.M,s1.k,[]⟩).map fun s=>(.n,s)) ⟨(dt,rv)::s1.F,s1.M,s1.k,[]⟩ .n ws F' M' k' [])))))))))))
  | _,_,_=>false
 | _,_=>false
theorem tF{S:Sta}{N:Nat}{P:Program}{E0:List (Nat×Nat×IE×Nat×Nat)}{H:Gh}{id:Nat}{j:Array Oper}{rest:List Code}{Q:Exit→Act→World→Prop}{F:Fr}{M:Mm}{k:Nat}{κ:Kap}{a:Act}{w:World}
 (i:Nat)(f:FuncId)(as:List SV)(A:SV)(m:Nat)(Φ:Sta→World→Prop)(ws:Nat→Bool)(F':Fr)(M':Mm)(k':Nat)(C:vB P E0 N j.toList F M k i f as A m ws F' M' k'=true)(hn:Now S κ N P { EL:=E0 } H ⟨F,M,k,[]⟩ a w)
 (hf:∀w',aD H.T w w'→Calls P f (as.map (SV.den S κ)).toArray w' fun e O=>∃d,Φ d O∧e=.returned (A.den (S.put m d) κ)∧Kz w' O)
 (hQ:∀κ' Z w' d X,Φ d X→aD H.T X w'→Now (S.put m d) κ' N P { EL:=E0 } H ⟨F',M',k',[]⟩ Z w'→kp H.T κ κ' k ws a Z w w'→wpL P Q rest Z w'):wpL P Q (Code.region id j false::rest) a w:=by
 unfold vB at C;split at C
 ·rename_i E o e1 e2
  split at C
  ·rename_i g xs ts U hg I y
   simp only[Bool.and_eq_true]at C;obtain⟨q1,L,q3,q4,q5,q6,q7,q8,q9,a3,D,a4,u⟩:=C;have q1:=Nat.eq_of_beq_eq_true q1;subst q1;have q8:=uF q8;show(Code.region id j false).wp P (Exit.then (wpL P Q rest) Q) a w;refine wp_region_list ?_;have q:j.toList=j.toList.take i++(o::j.toList.drop (i+1)):=by
    have hi:=(List.getElem?_eq_some_iff.1 e2);obtain⟨hi,hv⟩:=hi;rw[←hv,←List.drop_eq_getElem_cons hi,List.take_append_drop]
   have v:wpList P j.toList.toArray (Exit.then (wpL P Q rest) Q) (j.toList.take i++(o::j.toList.drop (i+1))) a w:=by
    refine jv e1 hn fun Y R X W p=>?_
    refine Lz fun K hK=>?_
    have hw:=sJ W.has W.ctx.fa hg;rw[if_pos hw];obtain⟨dst,op,ty,pos,af,gu⟩:=o;simp only at I y;subst I y;split at L
    ·rename_i l hl
     have L:=kw L;subst L;have B:(#[]++xs.map R.eval ++ #[]:Array Value)=(l.map (SV.den S κ)).toArray:=by
      apply Array.ext'
      have h1:=qo W.has hl;have h2:l.map (SV.den S Y)=l.map (SV.den S κ):=List.map_congr_left fun x hx=>SV.sc_ok p.upto (List.all_eq_true.1 q9 x hx)
      simp[h1,h2]
     unfold Oper.wp;rw[execOp_call_go,kD q3,B];refine(hf X p.keep).mono fun e w2 ⟨d,hd,he,hk⟩=>?_
     subst he;have J:=W.keep hk;have hA:=aQ S m d;have V:A.den (S.put m d) κ=A.den (S.put m d) Y:=(SV.sc_ok p.upto a3).symm;show K (R.put (some U) (A.den (S.put m d) κ)) w2;rw[V];have n3:Now (S.put m d) Y N P { EL:=E0 } H ⟨(U,A)::E.F,E.M,E.k,[]⟩ (R.put (some U) (A.den (S.put m d) Y)) w2:=
      ⟨(J.has.on hA q5).put (Nat.le_of_ble_eq_true q4),J.mem.on hA q6,oW J.ctx rfl q7 hA,J.tb,by have:=J.gh;rw[q8]at this;exact this⟩
     refine hK _ _ ?_
     cases e3:stL P { EL:=E0 } N j.toList (j.toList.drop (i+1)) ⟨(U,A)::E.F,E.M,E.k,[]⟩with
     | none=>rw[e3]at u;cases u
     | some s2 =>
      rw[e3]at u;refine tD e3 n3 fun κ2 a2 w3 n4 w4=>?_
      obtain⟨_,_,n5,p5⟩:=qh u n4 w4;obtain⟨lw,ew,ad⟩:=p.agree;refine hQ κ2 a2 w3 d w2 hd w4.keep n5 ⟨fun r V=>(p5.upto r (Nat.lt_of_lt_of_le V p.le)).trans (p.upto r V),(p.keep.trans (K_T hk) fun _ _ e=>e).trans p5.keep fun _ _ e=>e,?_⟩;have ac:aA ws a R:=ad.mono fun t ht=>by
       rw[ew]at D;have:(lw++F).length-F.length=lw.length:=ξ
       rw[this,List.take_left]at D;obtain⟨z,hz,a0⟩:=List.any_eq_true.1 ht;rw[←Nat.eq_of_beq_eq_true a0];exact List.all_eq_true.1 D z hz
      exact(ac.put a4 _).trans p5.agree fun _ h=>h
    ·cases L
   rw[←q]at v
   simpa using v
  ·cases C
 ·cases C
