import Derived.Test.YthobcefghkeddaaGreatDoorFor2
import Derived.Test.YthobcefghkeddaaGreatDoorMem
set_option maxRecDepth 100000
set_option linter.all false
set_option maxHeartbeats 4000000
namespace Go.Proofs.YthobcefghkeddaaGreatDoor
namespace Rs
open Go.RowKit
inductive SS where
 | x (i:Nat)
 | c (s:ByteArray)
 deriving DecidableEq
inductive IE where
 | c (n:Int)
 | x (i:Nat)
 | ln (i:Nat)
 | z (s:SS)
 | bin (o:BinOp) (k:IntKind) (a b:IE)
 | cv (k:IntKind) (a:IE)
 | mx (a b:IE)
 deriving DecidableEq
inductive BE where
 | c (b:Bool)
 | x (i:Nat)
 | cmp (o:BinOp) (a b:IE)
 | seq (a b:SS)
 | eq (a b:BE)
 | not (a:BE)
 deriving DecidableEq
inductive Cl where
 | i (k:IntKind) (e:IE)
 | b (e:BE)
 | s (e:SS)
 | p (r o:Nat)
 | sl (r n c:Nat)
 | v (i:Nat)
 | l (v:Value)
 | u
inductive SV where
 | one (c:Cl)
 | ag (l:List Cl)
 | tu (l:List Cl)
structure Sta where
 i:Nat→Int:=fun _=>0
 n:Nat→Nat:=fun _=>0
 b:Nat→Bool:=fun _=>false
 s:Nat→ByteArray:=fun _ =>.empty
 o:Nat→Value:=fun _=>undef
 a:Nat→Option Addr:=fun _=>none
abbrev Kap:=Nat→Nat×Nat
def lT(o:BinOp)(k:IntKind)(a b:Int):Int:=
 match o with
 | .add=>k.wrap (a+b)
 | .sub=>k.wrap (a-b)
 | .mul=>k.wrap (a*b)
 | .quo=>k.wrap (a.tdiv b)
 | .rem=>a.tmod b
 | .xor=>k.wrap (BitVec.ofInt k.bits a ^^^ BitVec.ofInt k.bits b).toNat
 | .andNot=>k.wrap (BitVec.ofInt k.bits a &&& ~~~BitVec.ofInt k.bits b).toNat
 | _=>0
def kC(o:BinOp)(a b:Int):Bool:=
 match o with
 | .eql=>a==b
 | .neq=>a !=b
 | .lss=>decide (a<b)
 | .leq=>decide (a≤b)
 | .gtr=>decide (a>b)
 | .geq=>decide (a≥b)
 | _=>false
def SS.den(S:Sta):SS→ByteArray
 | .x i=>S.s i
 | .c s=>s
def IE.den(S:Sta):IE→Int
 | .c n=>n
 | .x i=>S.i i
 | .ln i=>S.n i
 | .z s=>((s.den S).size:Nat)
 | .bin o k a b=>lT o k (a.den S) (b.den S)
 | .cv k a=>k.wrap (a.den S)
 | .mx a b=>if b.den S>a.den S then b.den S else a.den S
def BE.den(S:Sta):BE→Bool
 | .c b=>b
 | .x i=>S.b i
 | .cmp o a b=>kC o (a.den S) (b.den S)
 | .seq a b=>(a.den S).toList==(b.den S).toList
 | .eq a b=>a.den S==b.den S
 | .not a =>!a.den S
def Cl.den(S:Sta)(κ:Kap):Cl→Value
 | .i k e =>.int k (e.den S)
 | .b e =>.bool (e.den S)
 | .s e =>.string (e.den S)
 | .p r o =>.pointer (some ⟨(κ r).1,(κ r).2+o,none⟩)
 | .sl r n c =>.slice (S.a r) (S.n n) (S.n c)
 | .v j=>S.o j
 | .l y=>y
 | .u=>undef
theorem Cl.den_i(S:Sta)(κ:Kap)(k:IntKind)(e:IE):Cl.den S κ (.i k e)=.int k (e.den S):=rfl
theorem Cl.den_b(S:Sta)(κ:Kap)(e:BE):Cl.den S κ (.b e)=.bool (e.den S):=rfl
theorem Cl.den_s(S:Sta)(κ:Kap)(e:SS):Cl.den S κ (.s e)=.string (e.den S):=rfl
theorem Cl.den_p(S:Sta)(κ:Kap)(r o:Nat):Cl.den S κ (.p r o)=.pointer (some ⟨(κ r).1,(κ r).2+o,none⟩):=rfl
theorem Cl.den_sl(S:Sta)(κ:Kap)(r n c:Nat):Cl.den S κ (.sl r n c)=.slice (S.a r) (S.n n) (S.n c):=rfl
def SV.den(S:Sta)(κ:Kap):SV→Value
 | .one c=>c.den S κ
 | .ag l =>.agg (l.map (Cl.den S κ)).toArray
 | .tu l =>.tuple (l.map (Cl.den S κ)).toArray
abbrev Fr:=List (Nat×SV)
def gt:Fr→Nat→Option SV
 | [],_=>none
 | (u,v)::r,t=>bif Nat.beq u t then some v else gt r t
structure Has (S:Sta) (κ:Kap) (N:Nat) (F:Fr) (a:Act):Prop where
 size:a.tmps.size=N
 get:∀t v,gt F t=some v→a.tmps[t]?=some (v.den S κ)
theorem ba{F:Fr}{d t:Nat}{v:SV}:gt ((d,v)::F) t=if d=t then some v else gt F t:=by
 simp only[gt]
 cases h:Nat.beq d t with
 | true=>rw[if_pos (π h)];rfl
 | false=>rw[if_neg (Nat.ne_of_beq_eq_false h)];rfl
def ev(F:Fr):Operand→Option SV
 | .tmp t=>gt F t
 | .const (.int k n)=>some (.one (.i k (.c n)))
 | .const (.bool b)=>some (.one (.b (.c b)))
 | .const (.string s)=>some (.one (.s (.c s)))
 | .const v=>some (.one (.l v))
 | .func f=>some (.one (.l (.func (.func f) #[] #[])))
 | _=>none
section
variable {S:Sta} {κ:Kap} {N:Nat} {F:Fr} {a:Act} {w:World} {P:Program}
theorem Has.ev(h:Has S κ N F a){x:Operand}{v:SV}(d:Rs.ev F x=some v):a.eval x=v.den S κ:=by
 unfold Rs.ev at d;split at d
 ·have:=h.get _ _ d
  show a.tmps.getD _ undef=_;rw[Array.getD_eq_getD_getElem?,this];rfl
 all_goals first
  | (obtain rfl:=ι d;simp[Act.eval,SV.den,Cl.den,IE.den,BE.den,SS.den];done)
  | cases d
theorem Has.put(h:Has S κ N F a){d:Nat}{v:SV}(j:d<N):Has S κ N ((d,v)::F) (a.put (some d) (v.den S κ)):=by
 refine⟨by simpa[Act.put]using h.size,fun t u g=>?_⟩;rw[ba]at g;simp only[Act.put];split at g
 ·rename_i e
  obtain rfl:=ι g;subst e;rw[Array.getElem?_setIfInBounds_self_of_lt (by rw[h.size];exact j)]
 ·rename_i e
  rw[Array.getElem?_setIfInBounds_ne (fun h=>e h)];exact h.get t u g
end
abbrev Mm:=List (Nat×List Cl)
def gm:Mm→Nat→Option (List Cl)
 | [],_=>none
 | (u,v)::r,t=>bif Nat.beq u t then some v else gm r t
structure Gh where
 T:Nat→Prop
 G:List Nat→World→Prop
 st:∀e w w',Kz w w'→G e w→G e w'
structure fG (S:Sta) (κ:Kap) (T:Nat→Prop) (M:Mm) (w:World):Prop where
 get:∀r l,gm M r=some l→((κ r).1<w.heap.size∧¬ T (κ r).1)∧∀j c,l[j]?=some c→w.cell? ⟨(κ r).1,(κ r).2+j,none⟩=some (c.den S κ)
theorem fG.keep{S:Sta}{κ:Kap}{T:Nat→Prop}{M:Mm}{w w':World}(h:fG S κ T M w)(hk:aD T w w'):fG S κ T M w':=
 ⟨fun r l g=>let⟨h1,h2⟩:=h.get r l g;⟨⟨Θ h1.1 hk.size,h1.2⟩,fun j c d=>(hk.cell (p:=⟨_,_,none⟩) h1.1 h1.2).trans (h2 j c d)⟩⟩
def fP(S:Sta)(κ:Kap)(M:Mm)(w:World):Prop:=∀r l,gm M r=some l→∀j c,l[j]?=some c→w.cell? ⟨(κ r).1,(κ r).2+j,none⟩=some (c.den S κ)
theorem fG.f{S:Sta}{κ:Kap}{T:Nat→Prop}{M:Mm}{w:World}(h:fG S κ T M w):fP S κ M w:=fun r l d=>(h.get r l d).2
theorem Ah{r:Nat}{M':Mm}:∀{M:Mm},gm (M++M') r=(gm M r).or (gm M' r)
 | []=>rfl
 | (u,v)::M=>by
  simp only[List.cons_append,gm]
  cases Nat.beq u r with
  | true=>rfl
  | false=>exact Ah (M:=M)
theorem fP.app{S:Sta}{κ:Kap}{M M':Mm}{w:World}(h:fP S κ M w)(g:fP S κ M' w):fP S κ (M++M') w:=fun r l d=>by
 rw[Ah]at d
 cases e:gm M r with
 | none=>rw[e]at d;exact g r l d
 | some m=>rw[e]at d;exact h r l (by rw[e];exact d)
theorem K_T{T:Nat→Prop}{w w':World}(h:Kz w w'):aD T w w':=h.mono fun _ _ h=>h.elim
structure Ctx where
 FA:List (BE×Bool):=[]
 EL:List (Nat×Nat×IE×Nat×Nat):=[]
 CT:List (FuncId×List SV×SV):=[]
 ET:List (FuncId×List SV×SV):=[]
 GM:Mm:=[]
 SL:List (Nat×Nat×Nat×IE×Nat):=[]
def yu(P:Program)(t:TypeId):Option Bool:=
 match P.underlying t with
 | some (.struct _)=>some true
 | some (.array _ _)=>some true
 | some _=>some false
 | none=>none
def cut(l:List Cl)(o n:Nat):Option SV:=
 bif Nat.beq ((l.drop o).take n).length n then some (.ag ((l.drop o).take n))else none
def ldV(P:Program)(M:Mm)(t:TypeId):SV→Option SV
 | .one (.p r o) =>
  match gm M r with
  | some l=>match yu P t with
   | some false=>(l[o]?).map .one
   | some true=>cut l o (P.cellsOf t)
   | none=>none
  | none=>none
 | _=>none
def nc(P:Program)(s:TypeId)(f:Nat):Option Field:=
 match P.underlying s with
 | some (.struct fs)=>fs[f]?
 | _=>none
def faV(P:Program)(s f:Nat):SV→Option SV
 | .one (.p r o)=>match nc P s f with
  | some fd=>bif Nat.ble 1 (P.cellsOf fd.type)then some (.one (.p r (o+fd.offset)))else none
  | none=>none
 | _=>none
def ixV(P:Program)(C:Ctx)(t:TypeId):SV→SV→Option SV
 | .one (.sl r n _),.one (.i _ e) =>
  match P.underlying t with
  | some (.slice el)=>bif Nat.ble 1 (P.cellsOf el)then(C.EL.find? fun x=>Nat.beq x.1 r&&Nat.beq x.2.1 (P.cellsOf el)&&decide (x.2.2.1=e)&&Nat.beq x.2.2.2.1 n).map fun x =>.one (.p x.2.2.2.2 0)else none
  | _=>none
 | _,_=>none
def fdV(P:Program)(s f:Nat):SV→Option SV
 | .ag l=>match nc P s f with
  | some fd=>match yu P fd.type with
   | some false=>(l[fd.offset]?).map .one
   | some true=>cut l fd.offset (P.cellsOf fd.type)
   | none=>none
  | none=>none
 | _=>none
def Ed:BinOp→Bool
 | .eql|.neq|.lss|.leq|.gtr|.geq=>true
 | _=>false
def biV(P:Program)(o:BinOp)(t:TypeId):SV→SV→Option SV
 | .one (.i k a),.one (.i k' b) =>
  if k=k' then
   (if Ed o=true then some (.one (.b (.cmp o a b)))
   else match o with
    | .add|.sub|.mul|.xor|.andNot=>some (.one (.i k (.bin o k a b)))
    | .quo|.rem=>match b with
     | .c n=>bif decide (n=0)then none else some (.one (.i k (.bin o k a b)))
     | _=>none
    | _=>none)
  else none
 | .one (.s a),.one (.s b) =>
  match o with
  | .eql=>some (.one (.b (.seq a b)))
  | .neq=>some (.one (.b (.not (.seq a b))))
  | _=>none
 | .one (.b a),.one (.b b) =>
  match P.underlying t with
  | some .bool=>match o with
   | .eql=>some (.one (.b (.eq a b)))
   | .neq=>some (.one (.b (.not (.eq a b))))
   | _=>none
  | _=>none
 | _,_=>none
def noV:SV→Option SV
 | .one (.b a)=>some (.one (.b (.not a)))
 | _=>none
def cvV(P:Program)(s d:TypeId):SV→Option SV
 | .one (.i _ a)=>match P.underlying s,P.underlying d with
  | some _,some (.int k)=>some (.one (.i k (.cv k a)))
  | _,_=>none
 | _=>none
def exV(i:Nat):SV→Option SV
 | .tu l=>(l[i]?).map .one
 | _=>none
def leV(P:Program)(t:TypeId):SV→Option SV
 | .one (.sl _ n _)=>match P.underlying t with
  | some (.slice _)=>some (.one (.i .i64 (.ln n)))
  | _=>none
 | .one (.s e)=>match P.underlying t with
  | some .string=>some (.one (.i .i64 (.z e)))
  | _=>none
 | _=>none
def BE.val(FA:List (BE×Bool)):BE→Option Bool
 | .c b=>some b
 | .not a=>(BE.val FA a).map (!·)
 | .cmp o (.c a) (.c b)=>some (kC o a b)
 | e=>(FA.find? fun x=>decide (x.1=e)).map (·.2)
theorem nf{S:Sta}{FA:List (BE×Bool)}{e:BE}{b:Bool}(h:(FA.find? fun x=>decide (x.1=e)).map (·.2)=some b)(l:∀x∈FA,x.1.den S=x.2):e.den S=b:=by
 obtain⟨x,g,rfl⟩:=Option.map_eq_some_iff.1 h;have d:=l x (List.mem_of_find?_eq_some g);have j:=List.find?_some g;rw[of_decide_eq_true j]at d;exact d
theorem BE.val_ok{S:Sta}{FA:List (BE×Bool)}(hF:∀x∈FA,x.1.den S=x.2):∀{e:BE} {b:Bool},BE.val FA e=some b→e.den S=b:=by
 intro e
 induction e with
 | c x=>intro b h;obtain rfl:=ι h;rfl
 | not a ih =>
  intro b h;unfold BE.val at h;obtain⟨y,hy,rfl⟩:=Option.map_eq_some_iff.1 h;simp[BE.den,ih hy]
 | cmp o x y =>
  intro b h;unfold BE.val at h;split at h
  all_goals first
   | (rename_i e;cases e;obtain rfl:=ι h;rfl)
   | exact nf h hF
   | (rename_i e;cases e;done)
 | x i=>intro b h;exact nf h hF
 | seq x y=>intro b h;exact nf h hF
 | eq x y=>intro b h;exact nf h hF
def B7:Value→Cl
 | .int k n =>.i k (.c n)
 | .bool b =>.b (.c b)
 | .string s =>.s (.c s)
 | v =>.l v
theorem B6(S:Sta)(κ:Kap)(v:Value):(B7 v).den S κ=v:=by cases v<;>rfl
theorem tr(S:Sta)(κ:Kap)(l:List Value):(l.map B7).map (Cl.den S κ)=l:=by
 rw[List.map_map]
 conv=>rhs;rw[←List.map_id l]
 exact List.map_congr_left fun v _=>B6 S κ v
def oM:Cl→Bool
 | .i _ _|.b _|.s _|.p _ _|.sl _ _ _=>true
 | .l v=>v.oneCell'
 | _=>false
theorem qX{c:Cl}(h:oM c=true)(S:Sta)(κ:Kap):(c.den S κ).cells = #[c.den S κ]∧(c.den S κ).oneCell'=true:=by
 cases c with
 | l v =>
  have h:v.oneCell'=true:=h;refine⟨?_,h⟩;show v.cells = #[v]
  cases v<;>first|rfl|(simp[Value.oneCell']at h)
 | i k e=>exact⟨rfl,rfl⟩
 | b e=>exact⟨rfl,rfl⟩
 | s e=>exact⟨rfl,rfl⟩
 | p r o=>exact⟨rfl,rfl⟩
 | sl r n c=>exact⟨rfl,rfl⟩
 | v i=>cases h
 | u=>cases h
def gi:SV→Option (List Cl)
 | .one c=>bif oM c then some [c]else none
 | .ag l=>bif l.all oM then some l else none
 | _=>none
theorem iE{v:SV}{l:List Cl}(h:gi v=some l)(S:Sta)(κ:Kap):(v.den S κ).cells=(l.map (Cl.den S κ)).toArray∧∀u∈l.map (Cl.den S κ),u.oneCell'=true:=by
 unfold gi at h;split at h
 ·rename_i c
  cases e:oM c with
  | false=>rw[e]at h;cases h
  | true =>
   rw[e]at h;obtain rfl:=ι h;obtain⟨d,g⟩:=qX e S κ;exact⟨by simp[SV.den,d],by simpa using g⟩
 ·rename_i m
  cases e:m.all oM with
  | false=>rw[e]at h;cases h
  | true =>
   rw[e]at h;obtain rfl:=ι h;refine⟨rfl,fun u q=>?_⟩;obtain⟨c,j,rfl⟩:=List.mem_map.1 q;exact(qX (υ.1 e c j) S κ).2
 ·cases h
theorem Ao(off:Nat)(l:List Value):∀(k:Nat) (cs:Array Value),off+k+l.length≤cs.size→(l.zipIdx k).foldl (fun(cs:Array Value) (x:Value×Nat)=>cs.setIfInBounds (off+x.2) x.1) cs=(cs.toList.take (off+k)++(l++cs.toList.drop (off+k+l.length))).toArray:=by
 induction l with
 | nil=>intro k cs h;simp
 | cons x l ih =>
  intro k cs h;simp only[List.length_cons]at h;rw[List.zipIdx_cons,List.foldl_cons,ih (k+1) _ η]
  apply Array.ext'
  simp only[List.length_cons,Array.toList_setIfInBounds];have hk:off+k<cs.toList.length:=η
  rw[←Nat.add_assoc off k 1,List.take_succ_eq_append_getElem (by simpa using hk),List.take_set_of_le χ,List.getElem_set_self,List.drop_set_of_lt χ];simp[Nat.add_assoc,Nat.add_comm 1]
def th(aX:List (Nat×Nat)):List (Nat×SV)→List Cl→Option (List Cl)
 | [],cs=>some cs
 | (i,v)::r,cs =>
  match aX[i]?,gi v with
  | some (o,n),some l=>bif Nat.beq l.length n&&Nat.ble (o+n) cs.length then th aX r (cs.take o++(l++cs.drop (o+n)))else none
  | _,_=>none
theorem tg(S:Sta)(κ:Kap){aX:List (Nat×Nat)}:∀{g:List (Nat×SV)} {cs d:List Cl},th aX g cs=some d→Instr.fill (aX.toArray[·]?) (cs.map (Cl.den S κ)).toArray (g.map fun x=>(x.1,x.2.den S κ))=some (d.map (Cl.den S κ)).toArray
 | [],cs,d,h=>by obtain rfl:=ι h;rfl
 | (i,v)::r,cs,d,h=>by
  unfold th at h;split at h
  ·rename_i o n l u w
   cases e:Nat.beq l.length n&&Nat.ble (o+n) cs.length with
   | false=>rw[e]at h;cases h
   | true =>
    rw[e]at h;simp only[Bool.and_eq_true]at e;have q:=π e.1;have C:=ω e.2;subst q;have B:=tg S κ (show th aX r _=some d from h);have y:=(iE w S κ).1;simp only[List.map_cons,Instr.fill];rw[show aX.toArray[i]?=some (o,l.length) by simpa using u];simp only[y];rw[if_neg η];rw[←B]
    congr 1
    have:=Ao o (l.map (Cl.den S κ)) 0 (cs.map (Cl.den S κ)).toArray η;rw[←Array.foldl_toList,Array.toList_zipIdx];rw[show(fun(cs:Array Value) (x:Value×Nat)=>cs.setIfInBounds (o+x.2) x.1)=fun cs x=>match x with|(c,j)=>cs.setIfInBounds (o+j) c from rfl]at this;rw[this];simp[List.map_take,List.map_drop]
  ·cases h
def CQ(F:Fr):List (Nat×Operand)→Option (List (Nat×SV))
 | []=>some []
 | (i,x)::l=>match ev F x,CQ F l with
  | some v,some m=>some ((i,v)::m)
  | _,_=>none
theorem wn{S:Sta}{κ:Kap}{N:Nat}{F:Fr}{a:Act}(d:Has S κ N F a):∀{l:List (Nat×Operand)} {m:List (Nat×SV)},CQ F l=some m→l.map (fun x=>(x.1,a.eval x.2))=m.map fun x=>(x.1,x.2.den S κ)
 | [],m,h=>by obtain rfl:=ι h;rfl
 | (i,x)::l,m,h=>by
  unfold CQ at h;split at h
  ·rename_i v q j g
   obtain rfl:=ι h;simp[d.ev j,wn d g]
  ·cases h
def blV(P:Program)(t:TypeId)(ps:List (Nat×SV)):Option SV:=
 match P.info? t,P.underlying t with
 | some it,some (.struct fields) =>
  match it.zero,fields.toList.mapM (fun f=>(P.info? f.type).map fun i=>(f.offset,i.size))with
  | some z,some aX=>(th aX ps (z.cells.toList.map B7)).map .ag
  | _,_=>none
 | _,_=>none
theorem Du{P:Program}{t:TypeId}{g:List (Nat×SV)}{v:SV}(h:blV P t g=some v)(S:Sta)(κ:Kap)(w:World):(Instr.build t (g.map fun x=>(x.1,x.2.den S κ)).toArray).run P w=.ok (v.den S κ) w:=by
 unfold blV at h;split at h
 ·rename_i C d j q
  split at h
  ·rename_i z aX u y
   obtain⟨l,B,rfl⟩:=Option.map_eq_some_iff.1 h;refine run_build w t _ _ ?_;unfold Program.built;rw[j,q];simp only[u,y];have:=tg S κ B;rw[tr]at this
   simpa using this
  ·cases h
 ·cases h
def mxV:SV→SV→Option SV
 | .one (.i k a),.one (.i k' b)=>if k=k' then some (.one (.i k (.mx a b)))else none
 | _,_=>none
def shV(P:Program)(C:Ctx)(t:TypeId):SV→SV→Option SV
 | .one (.sl r n c),.one (.i _ e) =>
  match P.underlying t with
  | some (.slice el)=>bif Nat.ble 1 (P.cellsOf el)then(C.SL.find? fun x=>Nat.beq x.1 r&&(Nat.beq x.2.1 n&&(Nat.beq x.2.2.1 c&&decide (x.2.2.2.1=e)))).map fun x =>.one (.sl r x.2.2.2.2 c)else none
  | _=>none
 | _,_=>none
def opV(P:Program)(C:Ctx)(F:Fr)(M:Mm):Op→Option SV
 | .move x=>ev F x
 | .assign x=>ev F x
 | .load t x=>(ev F x).bind (ldV P (M++C.GM) t)
 | .nilCheck x=>match ev F x with
  | some (.one (.p r o))=>some (.one (.p r o))
  | _=>none
 | .fieldAddr s x f=>(ev F x).bind (faV P s f)
 | .indexAddr t x i=>(ev F x).bind fun u=>(ev F i).bind (ixV P C t u)
 | .field t x f=>(ev F x).bind (fdV P t f)
 | .binOp o t x y _=>(ev F x).bind fun u=>(ev F y).bind (biV P o t u)
 | .unOp .not _ x=>(ev F x).bind noV
 | .convert s d x=>(ev F x).bind (cvV P s d)
 | .extract x i=>(ev F x).bind (exV i)
 | .pick c x y =>
  match ev F c with
  | some (.one (.b e))=>match BE.val C.FA e with
   | some true=>ev F x
   | some false=>ev F y
   | none=>none
  | _=>none
 | .call ⟨.builtin .len,xs,ts⟩ =>
  match xs.toList,ts.toList with
  | [x],[t]=>(ev F x).bind (leV P t)
  | _,_=>none
 | .call ⟨.builtin .max,xs,_⟩ =>
  match xs.toList with
  | [x,y]=>(ev F x).bind fun u=>(ev F y).bind (mxV u)
  | _=>none
 | .slice t x none (some h) none=>(ev F x).bind fun u=>(ev F h).bind (shV P C t u)
 | .build t ps=>(CQ F ps.toList).bind (blV P t)
 | _=>none
section
variable {S:Sta} {κ:Kap} {N:Nat} {F:Fr} {M:Mm} {C:Ctx} {T:Nat→Prop} {H:Gh} {a:Act} {w:World} {P:Program}
theorem gM(b o n:Nat):Addr.add ⟨b,o,none⟩ n=⟨b,o+n,none⟩:=by
 unfold Addr.add;split
 ·rename_i h;subst h;rfl
 ·rfl
theorem ju{t:TypeId}{b:Bool}(h:yu P t=some b):(isAgg t).run P w=.ok b w:=by
 unfold yu at h;split at h<;>first
  | (obtain rfl:=ι h;rename_i g;simp[isAgg,run_underlying g];done)
  | cases h;done
  | (rename_i d j l g;obtain rfl:=ι h;simp only[isAgg,Sem.run_bind,run_underlying g,Result.andThen_ok];cases d<;>simp_all)
theorem pu{t:TypeId}{d:TypeDesc}(h:P.underlying t=some d):∃i,P.info? t=some i:=by
 unfold Program.underlying at h
 cases e:P.info? t with
 | none=>rw[e]at h;cases h
 | some i=>exact⟨i,rfl⟩
theorem mw{t:TypeId}{b:Bool}(h:yu P t=some b):∃i,P.info? t=some i:=by
 unfold yu at h;split at h<;>first
  | exact pu (by assumption)
  | cases h
theorem df{t:TypeId}(h:1≤P.cellsOf t):∃i,P.info? t=some i:=by
 unfold Program.cellsOf at h
 cases e:P.info? t with
 | none=>rw[e]at h;simp at h
 | some i=>exact⟨i,rfl⟩
theorem B4{l:List Cl}{o n:Nat}{v:SV}(h:cut l o n=some v):v=.ag ((l.drop o).take n)∧((l.drop o).take n).length=n:=by
 unfold cut at h
 cases e:Nat.beq ((l.drop o).take n).length n with
 | true=>rw[e]at h;exact⟨(ι h).symm,π e⟩
 | false=>rw[e]at h;cases h
theorem Ai{l:List Cl}{j:Nat}{v:Value}(h:(l.map (Cl.den S κ))[j]?=some v):∃c,l[j]?=some c∧v=c.den S κ:=by
 rw[List.getElem?_map]at h
 cases e:l[j]? with
 | none=>rw[e]at h;cases h
 | some c=>rw[e]at h;exact⟨c,rfl,(ι h).symm⟩
theorem AW{t:TypeId}{x v:SV}(h:ldV P M t x=some v)(D:fP S κ M w):(Instr.loadAt t (x.den S κ)).run P w=.ok (v.den S κ) w:=by
 unfold ldV at h;split at h
 ·rename_i r o
  split at h
  ·rename_i l H
   have B:=D r l H;split at h
   ·rename_i g
    cases e:l[o]? with
    | none=>rw[e]at h;cases h
    | some c =>
     rw[e]at h;obtain rfl:=ι h;simp only[SV.den,Cl.den_i,Cl.den_b,Cl.den_s,Cl.den_p,Cl.den_sl,Instr.loadAt,Instr.sureAddr,Sem.run_bind,Sem.run_pure,Result.andThen_ok,loadVar,ju g];simp[load,Sem.run,B o c e]
   ·rename_i g
    obtain⟨rfl,I⟩:=B4 h;obtain⟨i,hi⟩:=mw g;have y:=run_loadCells_list (P:=P) (w:=w) ⟨(κ r).1,(κ r).2+o,none⟩ (((l.drop o).take (P.cellsOf t)).map (Cl.den S κ)) fun j u E=>by
     obtain⟨c,q,rfl⟩:=Ai E;rw[gM];have C:l[o+j]?=some c:=by
      have d:=q;rw[List.getElem?_take]at d;split at d
      ·rwa[List.getElem?_drop]at d
      ·cases d
     have:=B (o+j) c C
     rwa[←Nat.add_assoc]at this
    rw[List.length_map,I]at y;simp only[SV.den,Cl.den_i,Cl.den_b,Cl.den_s,Cl.den_p,Cl.den_sl,Instr.loadAt,Instr.sureAddr,Sem.run_bind,Sem.run_pure,Result.andThen_ok,loadVar,ju g,run_sizeOf _ hi,if_true,y]
   ·cases h
  ·cases h
 ·cases h
theorem oz{s f:Nat}{d:Field}(h:nc P s f=some d):∃g,P.underlying s=some (.struct g)∧g[f]?=some d:=by
 unfold nc at h;split at h
 ·exact⟨_,by assumption,h⟩
 ·cases h
theorem De{s f:Nat}{x v:SV}(h:faV P s f x=some v):(Instr.fieldAt s (x.den S κ) f).run P w=.ok (v.den S κ) w:=by
 unfold faV at h;split at h
 ·rename_i r o
  split at h
  ·rename_i d l
   obtain⟨y,u,q⟩:=oz l
   cases e:Nat.ble 1 (P.cellsOf d.type)with
   | false=>rw[e]at h;cases h
   | true =>
    rw[e]at h;obtain rfl:=ι h;have g:1≤P.cellsOf d.type:=ω e;obtain⟨i,hi⟩:=df g;have j:¬ P.cellsOf d.type=0:=χ
    simp[SV.den,Cl.den_i,Cl.den_b,Cl.den_s,Cl.den_p,Cl.den_sl,Instr.fieldAt,run_underlying u,q,Instr.sureAddr,fieldPlace,run_sizeOf _ hi,j,gM,Nat.add_assoc]
  ·cases h
 ·cases h
structure iJ (S:Sta) (κ:Kap) (P:Program) (C:Ctx) (H:Gh) (w:World):Prop where
 fa:∀x∈C.FA,x.1.den S=x.2
 el:∀x∈C.EL,0≤x.2.2.1.den S∧x.2.2.1.den S<S.n x.2.2.2.1∧∃g o,S.a x.1=some ⟨g,o,none⟩∧κ x.2.2.2.2=(g,o+(x.2.2.1.den S).toNat*x.2.1)
 ct:∀x∈C.CT,∀e w',aD H.T w w'→H.G e w'→Calls P x.1 (x.2.1.map (SV.den S κ)).toArray w' fun e w''=>e=.returned (x.2.2.den S κ)∧Kz w' w''
 et:∀i x,C.ET[i]?=some x→∀e w',aD H.T w w'→H.G e w'→Calls P x.1 (x.2.1.map (SV.den S κ)).toArray w' fun e' w''=>e'=.returned (x.2.2.den S κ)∧aD H.T w' w''∧H.G (i::e) w''
 gm:∀e w',aD H.T w w'→H.G e w'→fP S κ C.GM w'
 sl:∀x∈C.SL,(S.n x.2.2.2.2:Int)=x.2.2.2.1.den S∧S.n x.2.2.2.2≤S.n x.2.2.1
theorem iJ.keep{w':World}(h:iJ S κ P C H w)(hk:aD H.T w w'):iJ S κ P C H w':=
 ⟨h.fa,h.el,fun x j e g d=>h.ct x j e g (hk.trans d fun _ _ e=>e),fun i x j e g d=>h.et i x j e g (hk.trans d fun _ _ e=>e),fun e g d=>h.gm e g (hk.trans d fun _ _ e=>e),h.sl⟩
theorem DW{t:TypeId}{x y v:SV}(h:ixV P C t x y=some v)(J:iJ S κ P C H w):(Instr.indexAt t (x.den S κ) (y.den S κ)).run P w=.ok (v.den S κ) w:=by
 unfold ixV at h;split at h
 ·rename_i r n c k e
  split at h
  ·rename_i el L
   cases e1:Nat.ble 1 (P.cellsOf el)with
   | false=>rw[e1]at h;cases h
   | true =>
    rw[e1]at h;simp only[cond_true,Option.map_eq_some_iff]at h;obtain⟨q,I,rfl⟩:=h;have K:=List.mem_of_find?_eq_some I;have E:=List.find?_some I;simp only[Bool.and_eq_true,decide_eq_true_eq]at E;obtain⟨⟨⟨d,j⟩,l⟩,u⟩:=E;obtain⟨r',O,e',N,Q⟩:=q;replace d:r'=r:=π d;replace j:O=P.cellsOf el:=π j;replace l:e'=e:=l;replace u:N=n:=π u;subst d j l u;obtain⟨b1,b2,g,o,D,B⟩:=J.el _ K;simp only at b1 b2 B D;obtain⟨i,hi⟩:=df (P:=P) (t:=el) (ω e1);simp[SV.den,Cl.den_i,Cl.den_b,Cl.den_s,Cl.den_p,Cl.den_sl,Instr.indexAt,asIntOf,run_underlying L,b1,b2,run_sizeOf _ hi,gM,B,D]
  ·cases h
 ·cases h
theorem Bb(l:List Cl)(o n:Nat):((l.map (Cl.den S κ)).toArray.extract o (o+n))=(((l.drop o).take n).map (Cl.den S κ)).toArray:=by
 apply Array.ext'
 simp[List.map_take,List.map_drop]
theorem Dd{s f:Nat}{x v:SV}(h:fdV P s f x=some v):(Instr.field s (x.den S κ) f).run P w=.ok (v.den S κ) w:=by
 unfold fdV at h;split at h
 ·rename_i l
  split at h
  ·rename_i g u
   obtain⟨y,q,j⟩:=oz u;split at h
   ·rename_i d
    cases e:l[g.offset]? with
    | none=>rw[e]at h;cases h
    | some c =>
     rw[e]at h;obtain rfl:=ι h;simp[SV.den,Instr.field,run_underlying q,j,asAgg,part,ju d,e]
   ·rename_i d
    obtain⟨rfl,B⟩:=B4 h;obtain⟨i,hi⟩:=mw d;have:=Bb (S:=S) (κ:=κ) l g.offset (P.cellsOf g.type);simp only[SV.den,Instr.field,Sem.run_bind,run_underlying q,Result.andThen_ok,j,asAgg,part,ju d,if_true,run_sizeOf _ hi,Sem.run_pure,this]
   ·cases h
  ·cases h
 ·cases h
theorem vY{t:TypeId}(g:P.underlying t=some .bool)(a b:Bool):(Op.equal t (.bool a) (.bool b)).run P w=.ok (a==b) w:=by
 have:∀d,(Op.equalIn (d+1) t (.bool a) (.bool b)).run P w=.ok (a==b) w:=fun d=>by simp[Op.equalIn,run_underlying g]
 exact this 9999
theorem Dv{o:BinOp}{t:TypeId}{x y:Operand}{u d v:SV}(h:biV P o t u d=some v):
 (do eqGuard o t x y (u.den S κ) (d.den S κ);binOp o t (u.den S κ) (d.den S κ)).run P w=.ok (v.den S κ) w:=by
 unfold biV at h;split at h
 ·rename_i k a k' b
  split at h
  ·rename_i hk
   subst hk;split at h
   ·rename_i g
    obtain rfl:=ι h
    cases o<;>first
     | exact absurd g ψ
     | simp[SV.den,Cl.den_i,Cl.den_b,Cl.den_s,Cl.den_p,Cl.den_sl,BE.den,kC,eqGuard_at_int,binOp,Op.intCmp]
   ·split at h
    all_goals first
     | cases h;done
     | (obtain rfl:=ι h;simp[SV.den,Cl.den_i,Cl.den_b,Cl.den_s,Cl.den_p,Cl.den_sl,IE.den,lT,eqGuard_at_int,binOp,Op.intArith,Op.intBits];done)
     | skip
    all_goals
     split at h
     ·rename_i n
      cases e:decide (n=0)with
      | true=>rw[e]at h;cases h
      | false =>
       rw[e]at h;obtain rfl:=ι h;have j:¬ n=0:=of_decide_eq_false e;simp[SV.den,Cl.den_i,Cl.den_b,Cl.den_s,Cl.den_p,Cl.den_sl,IE.den,lT,eqGuard_at_int,binOp,Op.intDiv,j]
     ·cases h
  ·cases h
 ·split at h<;>first
   | cases h;done
   | (obtain rfl:=ι h;simp[SV.den,Cl.den_i,Cl.den_b,Cl.den_s,Cl.den_p,Cl.den_sl,BE.den,eqGuard_at_string,binOp,Op.stringOp])
 ·rename_i a b
  split at h
  ·rename_i l
   split at h<;>first
    | cases h;done
    | (obtain rfl:=ι h;simp[SV.den,Cl.den_i,Cl.den_b,Cl.den_s,Cl.den_p,Cl.den_sl,BE.den,eqGuard_at_bool,binOp,vY l])
  ·cases h
 ·cases h
theorem DJ{x v:SV}(h:noV x=some v):(Op.unary .not (x.den S κ)).run P w=.ok (v.den S κ) w:=by
 unfold noV at h;split at h
 ·obtain rfl:=ι h;simp[SV.den,Cl.den_i,Cl.den_b,Cl.den_s,Cl.den_p,Cl.den_sl,BE.den,Op.unary]
 ·cases h
theorem Dn{s d:TypeId}{x v:SV}(h:cvV P s d x=some v):(convert s d (x.den S κ)).run P w=.ok (v.den S κ) w:=by
 unfold cvV at h;split at h
 ·split at h
  ·rename_i g j
   obtain rfl:=ι h;simp[SV.den,Cl.den_i,Cl.den_b,Cl.den_s,Cl.den_p,Cl.den_sl,IE.den,convert,run_underlying g,run_underlying j,Conv.intToInt]
  ·cases h
 ·cases h
theorem Dg{i:Nat}{x v:SV}(h:exV i x=some v):(Instr.extract (x.den S κ) i).run P w=.ok (v.den S κ) w:=by
 unfold exV at h;split at h
 ·rename_i l
  cases e:l[i]? with
  | none=>rw[e]at h;cases h
  | some c =>
   rw[e]at h;obtain rfl:=ι h;simp[SV.den,Instr.extract,e]
 ·cases h
theorem DU{t ty:TypeId}{x v:SV}(h:leV P t x=some v):(Builtin.len_ #[t] ty #[x.den S κ]).run P w=.ok (v.den S κ) w:=by
 unfold leV at h;split at h
 ·split at h
  ·rename_i d
   obtain rfl:=ι h;simp[SV.den,Cl.den_i,Cl.den_b,Cl.den_s,Cl.den_p,Cl.den_sl,IE.den,Builtin.len_,run_underlying d,goInt]
  ·cases h
 ·split at h
  ·rename_i d
   obtain rfl:=ι h;simp[SV.den,Cl.den_i,Cl.den_b,Cl.den_s,Cl.den_p,Cl.den_sl,IE.den,Builtin.len_,run_underlying d,goInt]
  ·cases h
 ·cases h
theorem DK{ts:Array TypeId}{ty:TypeId}{x y v:SV}(h:mxV x y=some v):(Builtin.max_ ts ty #[x.den S κ,y.den S κ]).run P w=.ok (v.den S κ) w:=by
 unfold mxV at h;split at h
 ·split at h
  ·rename_i hk
   subst hk;obtain rfl:=ι h;simp[SV.den,Cl.den_i,IE.den,go_sem]
  ·cases h
 ·cases h
theorem D9{t:TypeId}{x y v:SV}(h:shV P C t x y=some v)(L:iJ S κ P C H w):(Instr.sliceAt t (x.den S κ) none (some (y.den S κ)) none).run P w=.ok (v.den S κ) w:=by
 unfold shV at h;split at h
 ·rename_i r n c k e
  split at h
  ·rename_i el O
   cases e1:Nat.ble 1 (P.cellsOf el)with
   | false=>rw[e1]at h;cases h
   | true =>
    rw[e1]at h;simp only[cond_true,Option.map_eq_some_iff]at h;obtain⟨q,E,rfl⟩:=h;have N:=List.mem_of_find?_eq_some E;have D:=List.find?_some E;simp only[Bool.and_eq_true,decide_eq_true_eq]at D;obtain⟨g,j,l,u⟩:=D;obtain⟨r',Q,B,e',R⟩:=q;replace g:r'=r:=π g;replace j:Q=n:=π j;replace l:B=c:=π l;replace u:e'=e:=u;subst g j l u;obtain⟨b1,b2⟩:=L.sl _ N;simp only at b1 b2;obtain⟨i,hi⟩:=df (P:=P) (t:=el) (ω e1);have I:0≤e'.den S:=χ
    have J:e'.den S≤(S.n B:Int):=χ
    have K:(e'.den S).toNat=S.n R:=χ
    simp[SV.den,Cl.den_sl,Cl.den_i,Instr.sliceAt,run_underlying O,Instr.slice,Instr.sliceBounds,Instr.sliceBound,asIntOf,I,J,run_sizeOf _ hi,gM,K];have d:∀x:Addr,x.add 0=x:=fun x=>by simp[Addr.add]
    intro _;simp[d]
  ·cases h
 ·cases h
theorem oS{o:Oper}{v:SV}(h:opV P C F M o.op=some v)(j:Has S κ N F a)(L:fP S κ (M++C.GM) w)(E:iJ S κ P C H w):(execOp a.eval o).run P w=.ok (.value (v.den S κ)) w:=by
 obtain⟨dst,op,ty,pos,U,g⟩:=o;simp only at h;unfold opV at h;split at h
 ·simp[execOp,j.ev h]
 ·simp[execOp,j.ev h]
 ·obtain⟨u,q,d⟩:=Option.bind_eq_some_iff.1 h
  simp[execOp,j.ev q,AW d L]
 ·split at h
  ·rename_i x r o I
   obtain rfl:=ι h;simp[execOp,j.ev I,SV.den,Cl.den_p]
  ·cases h
 ·obtain⟨u,q,d⟩:=Option.bind_eq_some_iff.1 h
  simp[execOp,j.ev q,De d]
 ·obtain⟨u,q,d⟩:=Option.bind_eq_some_iff.1 h
  obtain⟨K,B,d⟩:=Option.bind_eq_some_iff.1 d;simp[execOp,j.ev q,j.ev B,DW d E]
 ·obtain⟨u,q,d⟩:=Option.bind_eq_some_iff.1 h
  simp[execOp,j.ev q,Dd d]
 ·rename_i o t x y _
  obtain⟨u,q,d⟩:=Option.bind_eq_some_iff.1 h;obtain⟨K,B,d⟩:=Option.bind_eq_some_iff.1 d;have:=Dv (S:=S) (κ:=κ) (w:=w) (x:=x) (y:=y) d;simp only[execOp,j.ev q,j.ev B,Sem.run_bind]at this⊢;rw[this];rfl
 ·obtain⟨u,q,d⟩:=Option.bind_eq_some_iff.1 h
  simp[execOp,j.ev q,DJ d]
 ·obtain⟨u,q,d⟩:=Option.bind_eq_some_iff.1 h
  simp[execOp,j.ev q,Dn d]
 ·obtain⟨u,q,d⟩:=Option.bind_eq_some_iff.1 h
  simp[execOp,j.ev q,Dg d]
 ·split at h
  ·rename_i c x y e I
   have D:=j.ev I;simp only[SV.den,Cl.den_b]at D;split at h
   ·rename_i d
    rw[BE.val_ok E.fa d]at D;simp[execOp,D,asBool,j.ev h]
   ·rename_i d
    rw[BE.val_ok E.fa d]at D;simp[execOp,D,asBool,j.ev h]
   ·cases h
  ·cases h
 ·split at h
  ·rename_i xs ts _ _ x t J Q
   obtain⟨u,q,d⟩:=Option.bind_eq_some_iff.1 h;obtain rfl:xs = #[x]:=Array.ext' J;obtain rfl:ts = #[t]:=Array.ext' Q;have:=DU (S:=S) (κ:=κ) (w:=w) (ty:=ty) d;simp[execOp,resolve,invoke,builtin,j.ev q,this]
  ·cases h
 ·split at h
  ·rename_i xs ts _ x y J
   obtain⟨u,q,d⟩:=Option.bind_eq_some_iff.1 h;obtain⟨K,B,d⟩:=Option.bind_eq_some_iff.1 d;obtain rfl:xs = #[x,y]:=Array.ext' J;have:=DK (P:=P) (S:=S) (κ:=κ) (w:=w) (ts:=ts) (ty:=ty) d;simp[execOp,resolve,invoke,builtin,j.ev q,j.ev B,this]
  ·cases h
 ·obtain⟨u,q,d⟩:=Option.bind_eq_some_iff.1 h
  obtain⟨K,B,d⟩:=Option.bind_eq_some_iff.1 d;simp[execOp,j.ev q,j.ev B,D9 d E]
 ·rename_i t R
  obtain⟨l,O,d⟩:=Option.bind_eq_some_iff.1 h;have e:=wn j O;have b:=Du d S κ w;simp only[execOp,Sem.run_bind,Sem.run_pure];rw[show(R.map fun x=>match x with|(i,x)=>(i,a.eval x))=(l.map fun x=>(x.1,x.2.den S κ)).toArray by apply Array.ext';simpa using e];rw[b];rfl
 ·cases h
end
structure St where
 F:Fr
 M:Mm:=[]
 k:Nat:=0
 e:List Nat:=[]
def gd(FA:List (BE×Bool))(ops:List Oper)(F:Fr):Option (Nat×Bool)→Option Bool
 | none=>some true
 | some (j,want) =>
  match(ops[j]?).bind (·.dst)with
  | some t=>match gt F t with
   | some (.one (.b e))=>(BE.val FA e).map (· == want)
   | some (.one .u)=>some false
   | _=>none
  | none=>none
theorem lK{S:Sta}{κ:Kap}{N:Nat}{F:Fr}{a:Act}{FA:List (BE×Bool)}(v:Has S κ N F a)(l:∀x∈FA,x.1.den S=x.2){ops:List Oper}{o:Oper}{b:Bool}(h:gd FA ops F o.guard=some b):Region.wanted o (yielded ops.toArray a.tmps)=b:=by
 unfold Region.wanted;unfold gd at h;split at h
 ·rename_i u;rw[u];exact ι h
 ·rename_i j g u
  rw[u];split at h
  ·rename_i t w
   have d:yielded ops.toArray a.tmps j=match a.tmps[t]? with|some (.bool b)=>some b|_=>none:=by
    unfold yielded;rw[show(ops.toArray[j]?).bind (·.dst)=some t by simpa using w];rfl
   split at h
   ·rename_i e q
    obtain⟨y,B,rfl⟩:=Option.map_eq_some_iff.1 h;rw[v.get _ _ q]at d;have:=BE.val_ok l B;simp only[SV.den,Cl.den_b,this]at d;simp only[d]
    cases y<;>cases g<;>rfl
   ·rename_i q
    obtain rfl:=ι h;rw[v.get _ _ q]at d;have:yielded ops.toArray a.tmps j=none:=d;simp only[this];rfl
   ·cases h
  ·cases h
def Cl.same:Cl→Cl→Bool
 | .i k e,.i k' e'=>decide (k=k')&&decide (e=e')
 | .b e,.b e'=>decide (e=e')
 | .s e,.s e'=>decide (e=e')
 | .p r o,.p r' o'=>Nat.beq r r'&&Nat.beq o o'
 | .sl r n c,.sl r' n' c'=>Nat.beq r r'&&(Nat.beq n n'&&Nat.beq c c')
 | .v x,.v y=>Nat.beq x y
 | .u,.u=>true
 | .l (.slice none y z),.l (.slice none y' z')=>Nat.beq y y'&&Nat.beq z z'
 | .l (.func (.func f1) x1 y1),.l (.func (.func f2) x2 y2)=>Nat.beq f1 f2&&(Nat.beq x1.size 0&&(Nat.beq y1.size 0&&(Nat.beq x2.size 0&&Nat.beq y2.size 0)))
 | _,_=>false
theorem Cl.same_ok{x y:Cl}(h:Cl.same x y=true):x=y:=by
 unfold Cl.same at h;split at h<;>first
  | (simp only[Bool.and_eq_true,Nat.beq_eq]at h;obtain⟨d,g,j,l,q⟩:=h;rw[d,Array.eq_empty_of_size_eq_zero g,Array.eq_empty_of_size_eq_zero j,Array.eq_empty_of_size_eq_zero l,Array.eq_empty_of_size_eq_zero q])
  | (simp only[Bool.and_eq_true,decide_eq_true_eq,Nat.beq_eq]at h;obtain⟨d,g,j⟩:=h;subst d g j;rfl)
  | (simp only[Bool.and_eq_true,decide_eq_true_eq,Nat.beq_eq]at h;obtain⟨d,g⟩:=h;subst d g;rfl)
  | (simp only[Bool.and_eq_true,decide_eq_true_eq,Nat.beq_eq]at h;subst h;rfl)
  | rfl
  | cases h
def kE:List Cl→List Cl→Bool
 | [],[]=>true
 | x::l,y::m=>Cl.same x y&&kE l m
 | _,_=>false
theorem gq:∀{l m:List Cl},kE l m=true→l=m
 | [],[],_=>rfl
 | x::l,y::m,h=>by
  simp only[kE,Bool.and_eq_true]at h;rw[Cl.same_ok h.1,gq h.2]
 | [],_::_,h=>by cases h
 | _::_,[],h=>by cases h
def SV.same:SV→SV→Bool
 | .one x,.one y=>Cl.same x y
 | .ag l,.ag m=>kE l m
 | _,_=>false
theorem SV.same_ok{x y:SV}(h:SV.same x y=true):x=y:=by
 unfold SV.same at h;split at h
 ·rw[Cl.same_ok h]
 ·rw[gq h]
 ·cases h
def kF:List SV→List SV→Bool
 | [],[]=>true
 | x::l,y::m=>SV.same x y&&kF l m
 | _,_=>false
theorem fg:∀{l m:List SV},kF l m=true→l=m
 | [],[],_=>rfl
 | x::l,y::m,h=>by
  simp only[kF,Bool.and_eq_true]at h;rw[SV.same_ok h.1,fg h.2]
 | [],_::_,h=>by cases h
 | _::_,[],h=>by cases h
def evs(F:Fr):List Operand→Option (List SV)
 | []=>some []
 | x::l=>match ev F x with
  | some v=>match evs F l with
   | some m=>some (v::m)
   | none=>none
  | none=>none
theorem ii{S:Sta}{κ:Kap}{N:Nat}{F:Fr}{a:Act}(d:Has S κ N F a):∀{l:List Operand} {m:List SV},evs F l=some m→l.map a.eval=m.map (SV.den S κ)
 | [],m,h=>by obtain rfl:=ι h;rfl
 | x::l,m,h=>by
  unfold evs at h;split at h
  ·rename_i v j
   split at h
   ·rename_i q g
    obtain rfl:=ι h;simp[d.ev j,ii d g]
   ·cases h
  ·cases h
def ga(P:Program)(f:FuncId):Bool:=
 match P.funcs[f]? with
 | some fn=>fn.body.isSome && !(fn.name == "runtime.NumGoroutine")
 | none=>false
theorem cC{P:Program}{f:FuncId}(h:ga P f=true)(args:Array Value)(w:World):(callFunc f args).run P w=.ok (.enter f args) w:=by
 unfold ga at h;split at h
 ·rename_i fn j
  simp only[Bool.and_eq_true,Bool.not_eq_true']at h;have d:¬ fn.body=none:=fun e=>by rw[e]at h;simp at h
  have g:¬ fn.name = "runtime.NumGoroutine" := by simpa using h.2
  simp[callFunc,program,Sem.run,j,g,d]
 ·cases h
def clV(P:Program)(C:Ctx)(F:Fr):Op→Option SV
 | .call ⟨.value (.func f),xs,_⟩ =>
  match evs F xs.toList with
  | some as=>bif ga P f then(C.CT.find? fun x=>Nat.beq x.1 f&&kF x.2.1 as).map (·.2.2)else none
  | none=>none
 | _=>none
theorem ve{S:Sta}{κ:Kap}{N:Nat}{F:Fr}{C:Ctx}{H:Gh}{P:Program}{a:Act}{w:World}{o:Oper}{v:SV}(h:clV P C F o.op=some v)(O:Has S κ N F a)(L:iJ S κ P C H w){l:List Nat}(R:H.G l w){K:Act→World→Prop}{Q:Exit→Act→World→Prop}
 (U:∀w',Kz w w'→K (a.put o.dst (v.den S κ)) w'):o.wp P a w K Q:=by
 obtain⟨dst,op,ty,pos,W,g⟩:=o;unfold clV at h;split at h
 ·rename_i f xs ts d
  simp only at d;subst d;split at h
  ·rename_i as has
   cases hb:ga P f with
   | false=>rw[hb]at h;cases h
   | true =>
    rw[hb]at h;obtain⟨x,y,rfl⟩:=Option.map_eq_some_iff.1 h;have V:=List.mem_of_find?_eq_some y;have u:=List.find?_some y;simp only[Bool.and_eq_true,Nat.beq_eq]at u;obtain⟨B,D⟩:=u;have E:=fg D;have q:=L.ct x V l w (aD.refl _ _) R;rw[B,E]at q;have e:(#[]++xs.map a.eval ++ #[]:Array Value)=(as.map (SV.den S κ)).toArray:=by
     apply Array.ext'
     have:=ii O has;simp[this]
    unfold Oper.wp;rw[execOp_call_go,cC hb,e];refine q.mono fun e' j ⟨I,J⟩=>?_
    subst I;exact U j J
  ·cases h
 ·cases h
def idx(f:FuncId)(as:List SV):Nat→List (FuncId×List SV×SV)→Option (Nat×SV)
 | _,[]=>none
 | i,x::l=>bif Nat.beq x.1 f&&kF x.2.1 as then some (i,x.2.2)else idx f as (i+1) l
theorem rO{f:FuncId}{as:List SV}:∀{l:List (FuncId×List SV×SV)} {i j:Nat} {v:SV},idx f as i l=some (j,v)→i≤j∧l[j-i]?=some (f,as,v)
 | [],i,j,v,h=>by cases h
 | x::l,i,j,v,h=>by
  rw[idx]at h
  cases e:Nat.beq x.1 f&&kF x.2.1 as with
  | true =>
   rw[e]at h;simp only[cond_true,Option.some.injEq,Prod.mk.injEq]at h;obtain⟨rfl,rfl⟩:=h;simp only[Bool.and_eq_true,Nat.beq_eq]at e;obtain⟨q,u,w⟩:=x;have d:=fg e.2;simp only at d;have g:q=f:=e.1;subst g d;exact⟨Γ _,ξ⟩
  | false =>
   rw[e]at h;obtain⟨g,d⟩:=rO (l:=l) h;refine⟨χ,?_⟩;rw[show j-i=(j-(i+1))+1 by omega,List.getElem?_cons_succ];exact d
def nrm(FA:List (BE×Bool)):SV→SV
 | .one (.b e)=>match BE.val FA e with
  | some b =>.one (.b (.c b))
  | none =>.one (.b e)
 | v=>v
theorem uu{S:Sta}{κ:Kap}{FA:List (BE×Bool)}(d:∀x∈FA,x.1.den S=x.2)(v:SV):(nrm FA v).den S κ=v.den S κ:=by
 unfold nrm;split
 ·split
  ·rename_i b g;simp only[SV.den,Cl.den_b,BE.den,BE.val_ok d g]
  ·rfl
 ·rfl
def efV(P:Program)(C:Ctx)(F:Fr):Op→Option (Nat×SV)
 | .call ⟨.value (.func f),xs,_⟩ =>
  match evs F xs.toList with
  | some as=>bif ga P f then idx f (as.map (nrm C.FA)) 0 C.ET else none
  | none=>none
 | _=>none
theorem Di{S:Sta}{κ:Kap}{N:Nat}{F:Fr}{C:Ctx}{H:Gh}{P:Program}{a:Act}{w:World}{o:Oper}{i:Nat}{v:SV}{e:List Nat}(h:efV P C F o.op=some (i,v))(D:Has S κ N F a)(l:iJ S κ P C H w)(E:H.G e w){K:Act→World→Prop}{Q:Exit→Act→World→Prop}
 (I:∀w',aD H.T w w'→H.G (i::e) w'→K (a.put o.dst (v.den S κ)) w'):o.wp P a w K Q:=by
 obtain⟨dst,op,ty,pos,O,g⟩:=o;unfold efV at h;split at h
 ·rename_i f xs ts d
  simp only at d;subst d;split at h
  ·rename_i as has
   cases hb:ga P f with
   | false=>rw[hb]at h;cases h
   | true =>
    rw[hb]at h;obtain⟨_,L⟩:=rO h;have J:=l.et i _ (by simpa using L) e w (aD.refl _ _) E;have q:(#[]++xs.map a.eval ++ #[]:Array Value)=((as.map (nrm C.FA)).map (SV.den S κ)).toArray:=by
     apply Array.ext'
     have:=ii D has;have B:SV.den S κ ∘ nrm C.FA=SV.den S κ:=funext fun v=>uu l.fa v
     simp[this,B]
    unfold Oper.wp;rw[execOp_call_go,cC hb,q];refine J.mono fun e' j ⟨u,x,y⟩=>?_
    subst u;exact I j x y
  ·cases h
 ·cases h
def Cl.plain:Cl→Bool
 | .i _ _|.b _|.s _|.p _ _|.sl _ _ _=>true
 | _=>false
theorem Cl.plain_ok{c:Cl}(h:Cl.plain c=true)(S:Sta)(κ:Kap):(c.den S κ).cells = #[c.den S κ]:=by
 cases c<;>first
  | rfl
  | cases h
def bxV(F:Fr):Op→Option (List Cl)
 | .box _ x=>match ev F x with
  | some (.ag l)=>some l
  | some (.one c)=>bif Cl.plain c then some [c]else none
  | _=>none
 | _=>none
theorem eT{P:Program}(t:TypeId)(v:Value)(w:World):(newVar t v).run P w=.ok ⟨w.heap.size,0,none⟩ (w.alloc (.cells v.cells t)):=rfl
theorem Dq{S:Sta}{κ:Kap}{N:Nat}{F:Fr}{P:Program}{a:Act}{w:World}{o:Oper}{l:List Cl}(h:bxV F o.op=some l)(q:Has S κ N F a):∃t,(execOp a.eval o).run P w=.ok (.value (.pointer (some ⟨w.heap.size,0,none⟩))) (w.alloc (.cells (l.map (Cl.den S κ)).toArray t)):=by
 obtain⟨dst,op,ty,pos,u,g⟩:=o;unfold bxV at h;split at h
 ·rename_i t x d
  simp only at d;subst d;split at h
  ·rename_i v j
   obtain rfl:=ι h;exact⟨t,by simp[execOp,Instr.box,eT,q.ev j,SV.den,Value.cells]⟩
  ·rename_i c j
   cases e:Cl.plain c with
   | false=>rw[e]at h;cases h
   | true =>
    rw[e]at h;obtain rfl:=ι h;exact⟨t,by simp[execOp,Instr.box,eT,q.ev j,SV.den,Cl.plain_ok e]⟩
  ·cases h
 ·cases h
def Cl.sc(k:Nat):Cl→Bool
 | .p r _=>Nat.ble (r+1) k
 | _=>true
def SV.sc(k:Nat):SV→Bool
 | .one c=>c.sc k
 | .ag l=>l.all (Cl.sc k)
 | .tu l=>l.all (Cl.sc k)
def cU(k:Nat)(κ κ':Kap):Prop:=∀r,r<k→κ' r=κ r
theorem Cl.sc_ok{k:Nat}{κ κ':Kap}{S:Sta}(g:cU k κ κ'){c:Cl}(h:c.sc k=true):c.den S κ'=c.den S κ:=by
 cases c<;>first
  | rfl
  | (have d:=g _ (ω h);simp only[Cl.den,d])
theorem oG{k:Nat}{κ κ':Kap}{S:Sta}(g:cU k κ κ'){l:List Cl}(h:l.all (Cl.sc k)=true):l.map (Cl.den S κ')=l.map (Cl.den S κ):=
 List.map_congr_left fun c d=>Cl.sc_ok g (υ.1 h c d)
theorem SV.sc_ok{k:Nat}{κ κ':Kap}{S:Sta}(d:cU k κ κ'){v:SV}(h:v.sc k=true):v.den S κ'=v.den S κ:=by
 cases v with
 | one c=>exact Cl.sc_ok d h
 | ag l=>simp only[SV.den,oG d h]
 | tu l=>simp only[SV.den,oG d h]
def St.sc(s:St):Bool:=s.F.all (fun x=>x.2.sc s.k)&&s.M.all fun x=>Nat.ble (x.1+1) s.k&&x.2.all (Cl.sc s.k)
def Ctx.sc(C:Ctx)(k:Nat):Bool:=(C.EL.all fun x=>Nat.ble (x.2.2.2.2+1) k)&&(C.CT.all fun x=>x.2.1.all (SV.sc k)&&x.2.2.sc k)&&(C.ET.all fun x=>x.2.1.all (SV.sc k)&&x.2.2.sc k)&&C.GM.all fun x=>Nat.ble (x.1+1) k&&x.2.all (Cl.sc k)
theorem gG{F:Fr}{t:Nat}{v:SV}(h:gt F t=some v):(t,v)∈F:=by
 induction F with
 | nil=>cases h
 | cons x F ih =>
  obtain⟨u,y⟩:=x;rw[ba]at h;split at h
  ·rename_i e;subst e;obtain rfl:=ι h;exact List.mem_cons_self
  ·exact List.mem_cons_of_mem _ (ih h)
theorem cL{M:Mm}{d t:Nat}{v:List Cl}:gm ((d,v)::M) t=if d=t then some v else gm M t:=by
 simp only[gm]
 cases h:Nat.beq d t with
 | true=>rw[if_pos (π h)];rfl
 | false=>rw[if_neg (Nat.ne_of_beq_eq_false h)];rfl
theorem gI{M:Mm}{t:Nat}{v:List Cl}(h:gm M t=some v):(t,v)∈M:=by
 induction M with
 | nil=>cases h
 | cons x M ih =>
  obtain⟨u,y⟩:=x;rw[cL]at h;split at h
  ·rename_i e;subst e;obtain rfl:=ι h;exact List.mem_cons_self
  ·exact List.mem_cons_of_mem _ (ih h)
structure Now (S:Sta) (κ:Kap) (N:Nat) (P:Program) (C:Ctx) (H:Gh) (s:St) (a:Act) (w:World):Prop where
 has:Has S κ N s.F a
 mem:fG S κ H.T s.M w
 ctx:iJ S κ P C H w
 tb:∀g,H.T g→g<w.heap.size
 gh:H.G s.e w
theorem Now.keep{S:Sta}{κ:Kap}{N:Nat}{P:Program}{C:Ctx}{H:Gh}{s:St}{a:Act}{w w':World}(h:Now S κ N P C H s a w)(hk:Kz w w'):Now S κ N P C H s a w':=
 ⟨h.has,h.mem.keep (K_T hk),h.ctx.keep (K_T hk),fun g d=>Θ (h.tb g d) hk.size,H.st _ _ _ hk h.gh⟩
theorem Now.wrote{S:Sta}{κ:Kap}{N:Nat}{P:Program}{C:Ctx}{H:Gh}{s:St}{a:Act}{w w':World}{e:List Nat}(h:Now S κ N P C H s a w)(hk:aD H.T w w')(d:H.G e w'):Now S κ N P C H { s with e:=e } a w':=
 ⟨h.has,h.mem.keep hk,h.ctx.keep hk,fun g d=>Θ (h.tb g d) hk.size,d⟩
theorem Now.upto{S:Sta}{κ κ':Kap}{N:Nat}{P:Program}{C:Ctx}{H:Gh}{s:St}{a:Act}{w:World}(h:Now S κ N P C H s a w)(d:cU s.k κ κ')(J:s.sc=true)(K:C.sc s.k=true):Now S κ' N P C H s a w:=by
 unfold St.sc at J;unfold Ctx.sc at K;simp only[Bool.and_eq_true,List.all_eq_true]at J K;obtain⟨R,W⟩:=J;obtain⟨⟨⟨Q,c1⟩,X⟩,U⟩:=K;refine⟨⟨h.has.size,fun t v O=>?_⟩,⟨fun r l E=>?_⟩,⟨h.ctx.fa,fun x g=>?_,fun x g e w' I B=>?_,fun i x g e w' I B=>?_,fun e w' I B r l E=>?_,h.ctx.sl⟩,h.tb,h.gh⟩
 ·rw[SV.sc_ok d (R _ (gG O))]
  exact h.has.get t v O
 ·obtain⟨q,u⟩:=W _ (gI E)
  obtain⟨y,V⟩:=h.mem.get r l E;rw[d r (ω q)];refine⟨y,fun j c D=>?_⟩;rw[Cl.sc_ok d (u c (γ D))];exact V j c D
 ·rw[d _ (ω (Q x g))]
  exact h.ctx.el x g
 ·obtain⟨q,u⟩:=c1 x g
  have y:x.2.1.map (SV.den S κ')=x.2.1.map (SV.den S κ):=List.map_congr_left fun c L=>SV.sc_ok d (q c L)
  rw[y,SV.sc_ok d u];exact h.ctx.ct x g e w' I B
 ·obtain⟨q,u⟩:=X x (γ g)
  have y:x.2.1.map (SV.den S κ')=x.2.1.map (SV.den S κ):=List.map_congr_left fun c L=>SV.sc_ok d (q c L)
  rw[y,SV.sc_ok d u];exact h.ctx.et i x g e w' I B
 ·obtain⟨q,u⟩:=U _ (gI E)
  rw[d r (ω q)];intro j c D;rw[Cl.sc_ok d (u c (γ D))];exact h.ctx.gm e w' I B r l E j c D
def New(T:Nat→Prop)(κ':Kap)(k k':Nat)(w w':World):Prop:=∀r,k≤r→r<k'→(w.heap.size≤(κ' r).1∧¬ T (κ' r).1)∧(κ' r).2=0∧(∃cs E,w'.heap[(κ' r).1]?=some (.cells cs E (0,0)))∧∀r',k≤r'→r'<r→(κ' r').1<(κ' r).1
theorem jU{T:Nat→Prop}{κ':Kap}{k:Nat}{w w':World}:New T κ' k k w w':=fun _ d g=>absurd (ς d g) (Nat.lt_irrefl _)
theorem fh{w:World}{b:Nat}{cs:Array Value}{E:TypeId}{f:Nat×Nat}(h:w.heap[b]?=some (.cells cs E f)):b<w.heap.size:=(ϱ.1 h).1
theorem New.trans{T:Nat→Prop}{κ' l:Kap}{D q H:Nat}{w w' j:World}(h:New T κ' D q w w')(g:New T l q H w' j)(C:cU q κ' l)(hk:aD T w' j)(K:w.heap.size≤w'.heap.size):New T l D H w j:=fun r I J=>by
 rcases Ψ r q with c|c
 ·obtain⟨⟨u,v⟩,y,⟨cs,E,x⟩,B⟩:=h r I c
  rw[C r c];refine⟨⟨u,v⟩,y,⟨cs,E,(hk.block _ (fh x) v).trans x⟩,fun r' b1 b2=>?_⟩;rw[C r' (Nat.lt_trans b2 c)];exact B r' b1 b2
 ·obtain⟨⟨u,v⟩,y,x,B⟩:=g r c J
  refine⟨⟨Δ K u,v⟩,y,x,fun r' b1 b2=>?_⟩
  rcases Ψ r' q with d|d
  ·obtain⟨_,_,⟨cs,E,e4⟩,_⟩:=h r' b1 d
   rw[C r' d];exact Θ (fh e4) u
  ·exact B r' d b2
theorem New.one{T:Nat→Prop}{κ':Kap}{k:Nat}{w:World}{cs:Array Value}{E:TypeId}(j:κ' k=(w.heap.size,0))(d:∀g,T g→g<w.heap.size):New T κ' k (k+1) w (w.alloc (.cells cs E)):=fun r l q=>by
 obtain rfl:r=k:=χ
 rw[j];exact⟨⟨Γ _,fun h=>Nat.lt_irrefl _ (d _ h)⟩,rfl,⟨cs,E,heap_alloc_new _ _⟩,fun r' b1 b2=>χ⟩
structure dh (T:Nat→Prop) (κ κ':Kap) (s s':St) (a a':Act) (w w':World):Prop where
 upto:cU s.k κ κ'
 le:s.k≤s'.k
 keep:aD T w w'
 agree:∃l,s'.F=l++s.F∧aE (fun t=>l.any fun x=>Nat.beq x.1 t) a a'
 new:New T κ' s.k s'.k w w'
theorem dh.refl{T:Nat→Prop}(κ:Kap)(s:St)(a:Act)(w:World):dh T κ κ s s a a w w:=⟨fun _ _=>rfl,Γ _,aD.refl _ _,⟨[],rfl,aE.refl _ _⟩,jU⟩
theorem dh.trans{T:Nat→Prop}{κ κ' u:Kap}{s s' j:St}{a v d:Act}{w w' q:World}(h:dh T κ κ' s s' a v w w')(g:dh T κ' u s' j v d w' q):dh T κ u s j a d w q:=by
 obtain⟨l,e,B⟩:=h.agree;obtain⟨m,e',C⟩:=g.agree;refine⟨fun r y=>(g.upto r (Θ y h.le)).trans (h.upto r y),Δ h.le g.le,h.keep.trans g.keep (fun _ _ e=>e),⟨m++l,by rw[e',e,List.append_assoc],aE.trans (ws:=fun t=>(m++l).any fun x=>Nat.beq x.1 t) (B.mono fun i hi=>?_) C fun i hi=>?_⟩,h.new.trans g.new g.upto g.keep h.keep.size⟩
 ·simp only[List.any_append,hi,Bool.or_true]
 ·simp only[List.any_append,hi,Bool.true_or]
def wr(N:Nat)(s:St)(d:Option Tmp)(v:SV):Option St:=
 match d with
 | some t=>bif Nat.ble (t+1) N then some { s with F:=(t,v)::s.F }else none
 | none=>some s
theorem mj{S:Sta}{κ:Kap}{N:Nat}{P:Program}{C:Ctx}{H:Gh}{s s':St}{a:Act}{w:World}{d:Option Tmp}{v:SV}(h:wr N s d v=some s')(g:Now S κ N P C H s a w):Now S κ N P C H s' (a.put d (v.den S κ)) w∧dh H.T κ κ s s' a (a.put d (v.den S κ)) w w:=by
 unfold wr at h;split at h
 ·rename_i t
  cases e:Nat.ble (t+1) N with
  | false=>rw[e]at h;cases h
  | true =>
   rw[e]at h;obtain rfl:=ι h;refine⟨⟨g.has.put (ω e),g.mem,g.ctx,g.tb,g.gh⟩,⟨fun _ _=>rfl,Γ _,aD.refl _ _,⟨[(t,v)],rfl,(aE.refl _ _).put ξ _⟩,jU⟩⟩
 ·obtain rfl:=ι h
  exact⟨g,dh.refl _ _ _ _⟩
def st1(P:Program)(C:Ctx)(N:Nat)(ops:List Oper)(s:St)(o:Oper):Option St:=
 match gd C.FA ops s.F o.guard with
 | some true =>
  match opV P C s.F s.M o.op with
  | some v=>wr N s o.dst v
  | none =>
   match clV P C s.F o.op with
   | some v=>wr N s o.dst v
   | none =>
   match efV P C s.F o.op with
   | some (i,v)=>wr N { s with e:=i::s.e } o.dst v
   | none =>
    match bxV s.F o.op with
    | some l=>bif s.sc&&C.sc s.k&&l.all (Cl.sc s.k)then wr N { s with M:=(s.k,l)::s.M,k:=s.k+1 } o.dst (.one (.p s.k 0))else none
    | none=>none
 | some false=>wr N s o.dst (.one .u)
 | none=>none
theorem uU{S:Sta}{N:Nat}{P:Program}{C:Ctx}{H:Gh}{ops:List Oper}{o:Oper}{s s':St}{κ:Kap}{a:Act}{w:World}{Q:Exit→Act→World→Prop}(h:st1 P C N ops s o=some s')(d:Now S κ N P C H s a w){K:Act→World→Prop}
 (x:∀κ' J w',Now S κ' N P C H s' J w'→dh H.T κ κ' s s' a J w w'→K J w'):if Region.wanted o (yielded ops.toArray a.tmps)then o.wp P a w K Q else K (a.put o.dst undef) w:=by
 unfold st1 at h;split at h
 ·rename_i y
  rw[if_pos (lK d.has d.ctx.fa y)];split at h
  ·rename_i v B
   obtain⟨q,u⟩:=mj h d;unfold Oper.wp;rw[oS B d.has (d.mem.f.app (d.ctx.gm _ _ (aD.refl _ _) d.gh)) d.ctx];exact x _ _ _ q u
  ·split at h
   ·rename_i v B
    obtain⟨q,u⟩:=mj h d;exact ve B d.has d.ctx d.gh fun w' D=>x _ _ _ (q.keep D) (u.trans ⟨fun _ _=>rfl,Γ _,K_T D,⟨[],rfl,aE.refl _ _⟩,jU⟩)
   ·split at h
    ·rename_i i v B
     refine Di B d.has d.ctx d.gh fun w' D y=>?_
     have g:=(d.wrote D y);obtain⟨L,E⟩:=mj h g;exact x _ _ _ L (dh.trans (s':={ s with e:=i::s.e }) ⟨fun _ _=>rfl,Γ _,D,⟨[],rfl,aE.refl _ _⟩,jU⟩ E)
    split at h
    ·rename_i l hl
     cases e:s.sc&&C.sc s.k&&l.all (Cl.sc s.k)with
     | false=>rw[e]at h;cases h
     | true =>
      rw[e]at h;simp only[Bool.and_eq_true]at e;obtain⟨⟨X,Y⟩,e3⟩:=e;obtain⟨t,O⟩:=Dq (P:=P) (w:=w) hl d.has;have hk:Kz w (w.alloc (.cells (l.map (Cl.den S κ)).toArray t)):=(aD.refl _ _).alloc _
      let κ':Kap:=fun r=>if r=s.k then(w.heap.size,0)else κ r
      have R:cU s.k κ κ':=fun r hr=>if_neg χ
      have U:κ' s.k=(w.heap.size,0):=if_pos rfl;have g:=(d.upto R X Y).keep hk;have L:Now S κ' N P C H { s with M:=(s.k,l)::s.M,k:=s.k+1 } a (w.alloc (.cells (l.map (Cl.den S κ)).toArray t)):=by
       refine⟨g.has,⟨fun r m I=>?_⟩,g.ctx,g.tb,g.gh⟩;rw[cL]at I;split at I
       ·rename_i Z
        subst Z;obtain rfl:=ι I;rw[U];refine⟨⟨ξ,fun O=>by have:=d.tb _ O;omega⟩,fun j c W=>?_⟩;rw[World.cell?_alloc_at _ _ _ _ rfl,Cl.sc_ok R (υ.1 e3 c (γ W))];simp[W]
       ·exact g.mem.get r m I
      obtain⟨E,V⟩:=mj h L;unfold Oper.wp;rw[O];have e4:SV.den S κ' (.one (.p s.k 0))=.pointer (some ⟨w.heap.size,0,none⟩):=by simp[SV.den,Cl.den_p,U]
      rw[e4]at E V;exact x κ' _ _ E (dh.trans (s':={ s with M:=(s.k,l)::s.M,k:=s.k+1 }) ⟨R,ξ,K_T hk,⟨[],rfl,aE.refl _ _⟩,New.one U d.tb⟩ V)
    ·cases h
 ·rename_i y
  rw[if_neg (by rw[lK d.has d.ctx.fa y];simp)];obtain⟨q,u⟩:=mj h d;exact x _ _ _ q u
 ·cases h
def prV(P:Program)(F:Fr)(o o2:Oper):Option (Nat×List Cl):=
 match o.op,o.dst,o.guard,o2.op,o2.dst,o2.guard with
 | .alloc E,some d,none,.store E' (.tmp d') (.tmp x),none,none =>
  match gt F x with
  | some (.ag l)=>bif Nat.beq E E'&&(Nat.beq d d'&&(!Nat.beq x d&&(l.all Cl.plain&&(Nat.beq (P.cellsOf E) l.length&&((P.info? E).bind (·.zero)).any fun z=>Nat.beq z.cells.size l.length))))then some (d,l)else none
  | _=>none
 | _,_,_,_,_,_=>none
theorem lU(w:World)(d cs:Array Value)(t:TypeId):(w.alloc (.cells d t)).setRow w.heap.size cs=w.alloc (.cells cs t):=by
 unfold World.setRow World.alloc
 congr 1
 apply Array.ext_getElem?
 intro k;simp only[Array.getElem?_modify,Array.getElem?_push]
 by_cases hk:k=w.heap.size
 ·subst hk;simp
 ·simp[hk,Ne.symm hk]
theorem qW{c:Cl}(h:Cl.plain c=true)(S:Sta)(κ:Kap):(c.den S κ).oneCell'=true:=by
 cases c<;>first
  | rfl
  | cases h
theorem ku{P:Program}{E:TypeId}{b:Addr}{vs:List Value}{W W2:World}(d:(sizeOf E).run P W=.ok vs.length W)(g:(storeCells b vs 0).run P W=.ok () W2):(storeVar E b (.agg vs.toArray)).run P W=.ok () W2:=by
 simp[storeVar,d,Value.cells,g]
theorem DF{S:Sta}{κ:Kap}{N:Nat}{F:Fr}{P:Program}{ops:Array Oper}{Q:Exit→Act→World→Prop}{l:List Oper}{a:Act}{w:World}{o o2:Oper}{d:Nat}{cl:List Cl}(h:prV P F o o2=some (d,cl))(hF:Has S κ N F a)(hd:d<N)
 (hK:∀E,wpList P ops Q l (a.put (some d) (.pointer (some ⟨w.heap.size,0,none⟩))) (w.alloc (.cells (cl.map (Cl.den S κ)).toArray E))):wpList P ops Q (o::o2::l) a w:=by
 obtain⟨dst,op,ty,pos,af,g⟩:=o;obtain⟨ad,an,ac,C,O,g2⟩:=o2;unfold prV at h;split at h
 ·rename_i E q E' d2 x D H I B J L
  simp only at D H I B J L;subst D H I B J L;split at h
  ·rename_i j hx
   cases e:Nat.beq E E'&&(Nat.beq q d2&&(!Nat.beq x q&&(j.all Cl.plain&&(Nat.beq (P.cellsOf E) j.length&&((P.info? E).bind (·.zero)).any fun z=>Nat.beq z.cells.size j.length))))with
   | false=>rw[e]at h;cases h
   | true =>
    rw[e]at h;simp only[cond_true,Option.some.injEq,Prod.mk.injEq]at h;obtain⟨rfl,rfl⟩:=h;simp only[Bool.and_eq_true,Bool.not_eq_true']at e;obtain⟨R,U,e3,e4,y,e6⟩:=e;replace R:=π R;replace U:=π U;replace e3:=Nat.ne_of_beq_eq_false e3;replace y:=π y;subst R U;obtain⟨z,hz,v⟩:=(Option.any_eq_true _ _).1 e6;replace v:=π v;obtain⟨i,hi,W⟩:=Option.bind_eq_some_iff.1 hz;have Z:(zeroValue E).run P w=.ok z w:=by simp[zeroValue,run_typeInfo (P:=P) _ hi,W]
    have al:(P.info? E).map (·.size)=some j.length:=by rw[hi];unfold Program.cellsOf at y;rw[hi]at y;simpa using y
    have V:∀u∈j.map (Cl.den S κ),u.oneCell'=true:=fun u hu=>by
     obtain⟨c,hc,rfl⟩:=List.mem_map.1 hu;exact qW (υ.1 e4 c hc) S κ
    refine wpList_plain rfl fun K hk=>?_
    unfold Oper.wp;have D:(execOp a.eval { dst:=some q,op := .alloc E,type:=ty,pos:=pos,after:=af,guard:=none }).run P w=.ok (.value (.pointer (some ⟨w.heap.size,0,none⟩))) (w.alloc (.cells z.cells E)):=by
     simp[execOp,Instr.alloc,Z,eT]
    rw[D];refine hk _ _ (wpList_plain rfl fun K2 X=>?_);unfold Oper.wp;have H:(a.put (some q) (.pointer (some ⟨w.heap.size,0,none⟩))).eval (.tmp q)=.pointer (some ⟨w.heap.size,0,none⟩):=At.eval At.put_self (by simp[Act.put,hF.size,hd]);have I:(a.put (some q) (.pointer (some ⟨w.heap.size,0,none⟩))).eval (.tmp x)=.agg (j.map (Cl.den S κ)).toArray:=by
     have:=hF.get x _ hx;show(a.tmps.setIfInBounds q _).getD x undef=_;rw[Array.getD_eq_getD_getElem?,Array.getElem?_setIfInBounds_ne (Ne.symm e3),this];rfl
    have hg:(w.alloc (.cells z.cells E)).heap[w.heap.size]?=some (.cells z.cells E (0,0)):=heap_alloc_new _ _;have B:=run_storeCells_at (P:=P) w.heap.size 0 E (j.map (Cl.den S κ)) 0 z.cells _ hg (by simp[v]) V;have J:(execOp (a.put (some q) (.pointer (some ⟨w.heap.size,0,none⟩))).eval { dst:=none,op := .store E (.tmp q) (.tmp x),type:=ac,pos:=C,after:=O,guard:=none }).run P (w.alloc (.cells z.cells E))=.ok .skip (w.alloc (.cells (j.map (Cl.den S κ)).toArray E)):=by
     have Y:(sizeOf E).run P (w.alloc (.cells z.cells E))=.ok j.length (w.alloc (.cells z.cells E)):=by rw[run_sizeOf _ hi,y]
     have L:(z.cells.toList.take (0+0)++j.map (Cl.den S κ)++z.cells.toList.drop (0+0+(j.map (Cl.den S κ)).length)).toArray=(j.map (Cl.den S κ)).toArray:=by
      rw[List.drop_eq_nil_of_le (by simp[v])];simp
     rw[L,lU]at B;have h7:=ku (by rw[Y,List.length_map]) B;simp only[execOp,H,I,Instr.storeAt,Instr.sureAddr,Sem.run_bind,Sem.run_pure,Result.andThen_ok,h7]
    rw[J];exact X _ _ (hK E)
  ·cases h
 ·cases h
def prX(P:Program)(F:Fr)(o o2 o3:Oper):Option (Nat×List Cl×Nat×SV):=
 match o.op,o.dst,o.guard,o2.op,o2.dst,o2.guard,o3.op,o3.dst,o3.guard with
 | .alloc E,some d,none,.assign (.tmp y),some d2,none,.store E' (.tmp d') (.tmp x),none,none =>
  match gt F x,gt F y with
  | some (.ag l),some vy=>bif Nat.beq E E'&&(Nat.beq d d'&&(!Nat.beq x d&&(!Nat.beq x d2&&(!Nat.beq y d&&(!Nat.beq d2 d&&(l.all Cl.plain&&(Nat.beq (P.cellsOf E) l.length&&((P.info? E).bind (·.zero)).any fun z=>Nat.beq z.cells.size l.length)))))))then some (d,l,d2,vy)else none
  | _,_=>none
 | _,_,_,_,_,_,_,_,_=>none
theorem DE{S:Sta}{κ:Kap}{N:Nat}{F:Fr}{P:Program}{ops:Array Oper}{Q:Exit→Act→World→Prop}{l:List Oper}{a:Act}{w:World}{o o2 o3:Oper}{d d2:Nat}{cl:List Cl}{vy:SV}(h:prX P F o o2 o3=some (d,cl,d2,vy))(hF:Has S κ N F a)(hd:d<N)
 (hK:∀E,wpList P ops Q l ((a.put (some d) (.pointer (some ⟨w.heap.size,0,none⟩))).put (some d2) (vy.den S κ)) (w.alloc (.cells (cl.map (Cl.den S κ)).toArray E))):wpList P ops Q (o::o2::o3::l) a w:=by
 obtain⟨dst,op,ty,pos,af,g⟩:=o;obtain⟨a4,a7,a2,J,Y,g2⟩:=o3;obtain⟨a5,a8,a3,L,Z,g3⟩:=o2;unfold prX at h;split at h
 ·rename_i E j y C E' ac x O R U X h8 h9 I V W
  simp only at O R U I V W X h8 h9;subst O R U I V W X h8 h9;split at h
  ·rename_i q v hx a0
   cases e:Nat.beq E E'&&(Nat.beq j ac&&(!Nat.beq x j&&(!Nat.beq x C&&(!Nat.beq y j&&(!Nat.beq C j&&(q.all Cl.plain&&(Nat.beq (P.cellsOf E) q.length&&((P.info? E).bind (·.zero)).any fun z=>Nat.beq z.cells.size q.length)))))))with
   | false=>rw[e]at h;cases h
   | true =>
    rw[e]at h;simp only[cond_true,Option.some.injEq,Prod.mk.injEq]at h;obtain⟨rfl,rfl,rfl,rfl⟩:=h;simp only[Bool.and_eq_true,Bool.not_eq_true']at e;obtain⟨e1,e2,e3,e7,e8,e9,e4,H,e6⟩:=e;replace e1:=π e1;replace e2:=π e2;replace e3:=Nat.ne_of_beq_eq_false e3;replace e7:=Nat.ne_of_beq_eq_false e7;replace e8:=Nat.ne_of_beq_eq_false e8;replace e9:=Nat.ne_of_beq_eq_false e9;replace H:=π H;subst e1 e2;obtain⟨z,hz,B⟩:=(Option.any_eq_true _ _).1 e6;replace B:=π B;obtain⟨i,hi,al⟩:=Option.bind_eq_some_iff.1 hz;have a1:(zeroValue E).run P w=.ok z w:=by simp[zeroValue,run_typeInfo (P:=P) _ hi,al]
    have a6:(P.info? E).map (·.size)=some q.length:=by rw[hi];unfold Program.cellsOf at H;rw[hi]at H;simpa using H
    have ad:∀u∈q.map (Cl.den S κ),u.oneCell'=true:=fun u hu=>by
     obtain⟨c,hc,rfl⟩:=List.mem_map.1 hu;exact qW (υ.1 e4 c hc) S κ
    refine wpList_plain rfl fun K hk=>?_
    unfold Oper.wp;have O:(execOp a.eval { dst:=some j,op := .alloc E,type:=ty,pos:=pos,after:=af,guard:=none }).run P w=.ok (.value (.pointer (some ⟨w.heap.size,0,none⟩))) (w.alloc (.cells z.cells E)):=by
     simp[execOp,Instr.alloc,a1,eT]
    rw[O];have hy:(a.put (some j) (.pointer (some ⟨w.heap.size,0,none⟩))).eval (.tmp y)=v.den S κ:=by
     show(a.tmps.setIfInBounds j _).getD y undef=_;rw[Array.getD_eq_getD_getElem?,Array.getElem?_setIfInBounds_ne (Ne.symm e8),hF.get y _ a0];rfl
    refine hk _ _ (wpList_plain rfl fun K2 D=>?_);unfold Oper.wp;have h0:(execOp (a.put (some j) (.pointer (some ⟨w.heap.size,0,none⟩))).eval { dst:=some C,op := .assign (.tmp y),type:=a3,pos:=L,after:=Z,guard:=none }).run P (w.alloc (.cells z.cells E))=.ok (.value (v.den S κ)) (w.alloc (.cells z.cells E)):=by
     simp only[execOp,hy,Sem.run_pure]
    rw[h0];refine D _ _ (wpList_plain rfl fun K2 D=>?_);unfold Oper.wp;have R:((a.put (some j) (.pointer (some ⟨w.heap.size,0,none⟩))).put (some C) (v.den S κ)).eval (.tmp j)=.pointer (some ⟨w.heap.size,0,none⟩):=At.eval ((At.put_self).put_ne (fun e=>e9 e)) (by simp[Act.put,hF.size,hd]);have U:((a.put (some j) (.pointer (some ⟨w.heap.size,0,none⟩))).put (some C) (v.den S κ)).eval (.tmp x)=.agg (q.map (Cl.den S κ)).toArray:=by
     have:=hF.get x _ hx;show((a.tmps.setIfInBounds j _).setIfInBounds C _).getD x undef=_;rw[Array.getD_eq_getD_getElem?,Array.getElem?_setIfInBounds_ne (Ne.symm e7),Array.getElem?_setIfInBounds_ne (Ne.symm e3),this];rfl
    have hg:(w.alloc (.cells z.cells E)).heap[w.heap.size]?=some (.cells z.cells E (0,0)):=heap_alloc_new _ _;have I:=run_storeCells_at (P:=P) w.heap.size 0 E (q.map (Cl.den S κ)) 0 z.cells _ hg (by simp[B]) ad;have V:(execOp ((a.put (some j) (.pointer (some ⟨w.heap.size,0,none⟩))).put (some C) (v.den S κ)).eval { dst:=none,op := .store E (.tmp j) (.tmp x),type:=a2,pos:=J,after:=Y,guard:=none }).run P (w.alloc (.cells z.cells E))=.ok .skip (w.alloc (.cells (q.map (Cl.den S κ)).toArray E)):=by
     have an:(sizeOf E).run P (w.alloc (.cells z.cells E))=.ok q.length (w.alloc (.cells z.cells E)):=by rw[run_sizeOf _ hi,H]
     have W:(z.cells.toList.take (0+0)++q.map (Cl.den S κ)++z.cells.toList.drop (0+0+(q.map (Cl.den S κ)).length)).toArray=(q.map (Cl.den S κ)).toArray:=by
      rw[List.drop_eq_nil_of_le (by simp[B])];simp
     rw[W,lU]at I;have X:=ku (by rw[an,List.length_map]) I;simp only[execOp,R,U,Instr.storeAt,Instr.sureAddr,Sem.run_bind,Sem.run_pure,Result.andThen_ok,X]
    rw[V];exact D _ _ (hK E)
  ·cases h
 ·cases h
def stL(P:Program)(C:Ctx)(N:Nat)(ops:List Oper):List Oper→St→Option St
 | [],s=>some s
 | [o],s=>st1 P C N ops s o
 | o::o2::l,s =>
  match prV P s.F o o2 with
  | some (d,cl)=>bif s.sc&&C.sc s.k&&cl.all (Cl.sc s.k)&&Nat.ble (d+1) N then stL P C N ops l { s with F:=(d,.one (.p s.k 0))::s.F,M:=(s.k,cl)::s.M,k:=s.k+1 }else none
  | none=>match st1 P C N ops s o with
   | some s'=>stL P C N ops (o2::l) s'
   | none=>match l with
    | []=>none
    | o3::l'=>match prX P s.F o o2 o3 with
     | some (d,cl,d2,vy)=>bif s.sc&&C.sc s.k&&cl.all (Cl.sc s.k)&&(Nat.ble (d+1) N&&(Nat.ble (d2+1) N&&vy.sc s.k))then stL P C N ops l' { s with F:=(d2,vy)::(d,.one (.p s.k 0))::s.F,M:=(s.k,cl)::s.M,k:=s.k+1 }else none
     | none=>none
theorem ux{S:Sta}{κ:Kap}{N:Nat}{P:Program}{C:Ctx}{H:Gh}{s:St}{a:Act}{w:World}{l:List Cl}(u:Now S κ N P C H s a w)(E:TypeId)(e:(s.sc&&C.sc s.k&&l.all (Cl.sc s.k))=true):
 ∃κ',cU s.k κ κ'∧κ' s.k=(w.heap.size,0)∧Now S κ' N P C H { s with M:=(s.k,l)::s.M,k:=s.k+1 } a (w.alloc (.cells (l.map (Cl.den S κ)).toArray E))∧Kz w (w.alloc (.cells (l.map (Cl.den S κ)).toArray E)):=by
 simp only[Bool.and_eq_true]at e;obtain⟨⟨x,y⟩,e3⟩:=e;have hk:Kz w (w.alloc (.cells (l.map (Cl.den S κ)).toArray E)):=(aD.refl _ _).alloc _
 let κ':Kap:=fun r=>if r=s.k then(w.heap.size,0)else κ r
 have h:cU s.k κ κ':=fun r I=>if_neg χ
 have v:κ' s.k=(w.heap.size,0):=if_pos rfl;have d:=(u.upto h x y).keep hk;refine⟨κ',h,v,⟨d.has,⟨fun r m g=>?_⟩,d.ctx,d.tb,d.gh⟩,hk⟩;rw[cL]at g;split at g
 ·rename_i B
  subst B;obtain rfl:=ι g;rw[v];refine⟨⟨ξ,fun D=>by have:=u.tb _ D;omega⟩,fun j c q=>?_⟩;rw[World.cell?_alloc_at _ _ _ _ rfl,Cl.sc_ok h (υ.1 e3 c (γ q))];simp[q]
 ·exact d.mem.get r m g
theorem dj{S:Sta}{N:Nat}{P:Program}{C:Ctx}{H:Gh}{ops m:List Oper}{Q:Exit→Act→World→Prop}:∀{l:List Oper} {s s':St} {κ:Kap} {a:Act} {w:World},stL P C N ops l s=some s'→Now S κ N P C H s a w →
 (∀κ' y w',Now S κ' N P C H s' y w'→dh H.T κ κ' s s' a y w w'→wpList P ops.toArray Q m y w')→wpList P ops.toArray Q (l++m) a w
 | [],s,s',κ,a,w,h,hn,hQ=>by
  simp only[stL,Option.some.injEq]at h;subst h;exact hQ _ _ _ hn (dh.refl _ _ _ _)
 | [o],s,s',κ,a,w,h,hn,hQ=>by
  simp only[stL]at h;exact Lz fun K V=>uU h hn fun κ' y w' u hw=>V _ _ (hQ _ _ _ u hw)
 | o::o2::l,s,s',κ,a,w,h,hn,hQ=>by
  unfold stL at h;split at h
  ·rename_i d cl X
   cases e:s.sc&&C.sc s.k&&cl.all (Cl.sc s.k)&&Nat.ble (d+1) N with
   | false=>rw[e]at h;cases h
   | true =>
    rw[e]at h;simp only[cond_true]at h;rw[Bool.and_eq_true]at e;have D:d<N:=ω e.2;refine DF X hn.has D fun E=>?_
    obtain⟨κ',R,I,j,hk⟩:=ux hn E e.1;have Y:SV.den S κ' (.one (.p s.k 0))=.pointer (some ⟨w.heap.size,0,none⟩):=by simp[SV.den,Cl.den_p,I]
    have U:Now S κ' N P C H { s with F:=(d,.one (.p s.k 0))::s.F,M:=(s.k,cl)::s.M,k:=s.k+1 } (a.put (some d) (.pointer (some ⟨w.heap.size,0,none⟩))) (w.alloc (.cells (cl.map (Cl.den S κ)).toArray E)):=
     ⟨by rw[←Y];exact j.has.put D,j.mem,j.ctx,j.tb,j.gh⟩
    refine dj h U fun L B J g q=>hQ _ _ _ g (dh.trans (s':={ s with F:=(d,.one (.p s.k 0))::s.F,M:=(s.k,cl)::s.M,k:=s.k+1 }) ⟨R,ξ,K_T hk,⟨[(d,.one (.p s.k 0))],rfl,(aE.refl _ _).put ξ _⟩,New.one I hn.tb⟩ q)
  ·split at h
   ·rename_i s1 h1
    exact Lz fun K V=>uU h1 hn fun κ' y w' u hw=>V _ _ (dj h u fun L B J g ac=>hQ _ _ _ g (hw.trans ac))
   ·split at h
    ·cases h
    ·rename_i o3 l' _
     split at h
     ·rename_i d cl x v X
      cases e:s.sc&&C.sc s.k&&cl.all (Cl.sc s.k)&&(Nat.ble (d+1) N&&(Nat.ble (x+1) N&&v.sc s.k))with
      | false=>rw[e]at h;cases h
      | true =>
       rw[e]at h;simp only[cond_true]at h;rw[Bool.and_eq_true]at e;obtain⟨ea,O⟩:=e;simp only[Bool.and_eq_true]at O;have D:d<N:=ω O.1;have W:x<N:=ω O.2.1;refine DE X hn.has D fun E=>?_
       obtain⟨κ',R,I,j,hk⟩:=ux hn E ea;have Y:SV.den S κ' (.one (.p s.k 0))=.pointer (some ⟨w.heap.size,0,none⟩):=by simp[SV.den,Cl.den_p,I]
       have Z:SV.den S κ' v=SV.den S κ v:=SV.sc_ok R O.2.2;have U:Now S κ' N P C H { s with F:=(x,v)::(d,.one (.p s.k 0))::s.F,M:=(s.k,cl)::s.M,k:=s.k+1 } ((a.put (some d) (.pointer (some ⟨w.heap.size,0,none⟩))).put (some x) (v.den S κ)) (w.alloc (.cells (cl.map (Cl.den S κ)).toArray E)):=
        ⟨by rw[←Y,←Z];exact(j.has.put D).put W,j.mem,j.ctx,j.tb,j.gh⟩
       refine dj h U fun L B J g q=>hQ _ _ _ g (dh.trans (s':={ s with F:=(x,v)::(d,.one (.p s.k 0))::s.F,M:=(s.k,cl)::s.M,k:=s.k+1 }) ⟨R,ξ,K_T hk,⟨[(x,v),(d,.one (.p s.k 0))],rfl,((aE.refl _ _).put ξ _).put ξ _⟩,New.one I hn.tb⟩ q)
     ·cases h
theorem uT{S:Sta}{N:Nat}{P:Program}{C:Ctx}{H:Gh}{ops:List Oper}{Q:Exit→Act→World→Prop}{l:List Oper}{s s':St}{κ:Kap}{a:Act}{w:World}(h:stL P C N ops l s=some s')(u:Now S κ N P C H s a w)
 (q:∀κ' d w',Now S κ' N P C H s' d w'→dh H.T κ κ' s s' a d w w'→Q .normal d w'):wpList P ops.toArray Q l a w:=by
 have:=dj (m:=[]) (Q:=Q) h u fun κ' d w' g j=>ln (q κ' d w' g j)
 rwa[List.append_nil]at this
def dY(l:List Oper)(t:Nat):Bool:=l.any fun o=>o.dst==some t
def eN(l:List Oper)(o:Oper)(F:Fr):Fr:=F.filter fun x =>!dY l x.1||o.after.any fun e=>Region.binds .any e&&aN l e.on==some x.1
theorem fT{p:Nat→Bool}{t:Nat}:∀{F:Fr},gt (F.filter fun x=>p x.1) t=if p t=true then gt F t else none
 | []=>by simp[gt]
 | (u,v)::F=>by
  rw[List.filter_cons]
  by_cases hp:p u=true
  ·simp only[hp,if_true,ba,fT (F:=F)]
   by_cases e:u=t
   ·subst e;simp[hp]
   ·simp[e]
  ·simp only[hp,Bool.false_eq_true,if_false,ba,fT (F:=F)]
   by_cases e:u=t
   ·subst e;simp[hp]
   ·simp[e]
def dr1(P:Program)(C:Ctx)(l:List Oper)(s:St)(o:Oper):Option SV:=
 match gd C.FA l (eN l o s.F) o.guard with
 | some true =>
  match opV P C (eN l o s.F) s.M o.op with
  | some v=>some v
  | none=>clV P C (eN l o s.F) o.op
 | some false=>some (.one .u)
 | none=>none
def drG(N:Nat)(g:St→Oper→Option SV):List Oper→St→Option St
 | [],s=>some s
 | o::r,s =>
  match o.dst with
  | some d=>bif Nat.ble (d+1) N then(match g s o with
   | some v=>drG N g r { s with F:=(d,v)::s.F }
   | none=>none)else none
  | none=>none
abbrev drL(P:Program)(C:Ctx)(N:Nat)(l:List Oper):List Oper→St→Option St:=drG N (dr1 P C l)
theorem lQ{N:Nat}{g:St→Oper→Option SV}{o:Oper}{r:List Oper}{s s':St}(h:drG N g (o::r) s=some s'):∃d v,o.dst=some d∧d<N∧g s o=some v∧drG N g r { s with F:=(d,v)::s.F }=some s':=by
 rw[drG]at h;split at h
 ·rename_i d j
  cases e:Nat.ble (d+1) N with
  | false=>rw[e]at h;cases h
  | true =>
   rw[e]at h;simp only[cond_true]at h;split at h
   ·rename_i v l
    exact⟨d,v,j,ω e,l,h⟩
   ·cases h
 ·cases h
theorem dy{N:Nat}{g:St→Oper→Option SV}:∀{r:List Oper} {s s':St},drG N g r s=some s'→s'.M=s.M∧s'.k=s.k∧(∀t,dY r t=false→gt s'.F t=gt s.F t)∧∃m,s'.F=m++s.F∧(∀t,dY r t=true→(m.any fun x=>Nat.beq x.1 t)=true)∧s'.e=s.e
 | [],s,s',h=>by obtain rfl:=ι h;exact⟨rfl,rfl,fun _ _=>rfl,[],rfl,(fun _ h=>by cases h),rfl⟩
 | o::r,s,s',h=>by
  obtain⟨d,v,l,_,_,q⟩:=lQ h;obtain⟨u,w,y,m,B,C,D⟩:=dy q;refine⟨u,w,fun t j=>?_,m++[(d,v)],by rw[B];simp,fun t j=>?_,D⟩
  ·simp only[dY,List.any_cons,Bool.or_eq_false_iff]at j
   rw[y t j.2,ba,if_neg];intro e;subst e;rw[l]at j;simp at j
  ·simp only[dY,List.any_cons,Bool.or_eq_true]at j
   simp only[List.any_append,Bool.or_eq_true,List.any_cons,List.any_nil,Bool.or_false]
   rcases j with e|e
   ·rw[l]at e
    simp only[beq_iff_eq,Option.some.injEq]at e;subst e;exact .inr ξ
   ·exact .inl (C t e)
theorem rY{N:Nat}{g:St→Oper→Option SV}:∀{r q:List Oper} {s s':St},drG N g (r++q) s=some s'→∃m,drG N g r s=some m∧drG N g q m=some s'
 | [],q,s,s',h=>⟨s,rfl,h⟩
 | o::r,q,s,s',h=>by
  obtain⟨d,v,x,w,y,j⟩:=lQ h;obtain⟨m,l,u⟩:=rY j;refine⟨m,?_,u⟩;rw[drG,x];simp only[Nat.ble_eq_true_of_le (show d+1≤N from w),cond_true,y,l]
theorem bh{l:List Oper}{t:Nat}:dY l t=true↔∃i,i<l.length∧aN l i=some t:=by
 unfold dY aN;simp only[List.any_eq_true,beq_iff_eq];constructor
 ·rintro⟨o,g,d⟩
  obtain⟨i,hi⟩:=List.getElem?_of_mem g;exact⟨i,(ο.1 hi).1,by rw[hi];exact d⟩
 ·rintro⟨i,hi,d⟩
  rw[Ez hi]at d;exact⟨l[i],List.getElem_mem hi,d⟩
theorem lg{l:List Oper}{n:Nat}(q:((List.range n).all fun i=>(List.range n).all fun j=>i==j||aN l i==none||aN l i !=aN l j)=true):∀i j d,i<n→j<n→aN l i=some d→aN l j=some d→i=j:=fun i j d hi w h v=>by
 have u:=υ.1 (υ.1 q i (List.mem_range.2 hi)) j (List.mem_range.2 w);simp only[Bool.or_eq_true,beq_iff_eq,bne_iff_ne]at u
 rcases u with(g|g)|g
 ·exact g
 ·rw[g]at h;cases h
 ·exact absurd (h.trans v.symm) g
theorem fR{l:List Oper}{n:Nat}(v:l.length=n)(g:((List.range n).all fun i=>((l[i]?).map (·.after.all fun e =>!Region.binds .any e||decide (e.on<i))).getD true)=true):∀i o,l[i]?=some o→∀e∈o.after,Region.binds .any e=true→e.on<i:=fun i o j e u q=>by
 have hi:i<n:=by have:=(ο.1 j).1;omega
 have d:=υ.1 g i (List.mem_range.2 hi);rw[j]at d;simp only[Option.map_some,Option.getD_some]at d;have h:=Array.all_eq_true'.1 d e u;rw[q]at h
 simpa using h
structure Dr (S:Sta) (κ:Kap) (N:Nat) (g:St→Oper→Option SV) (l:List Oper) (n:Nat) (s s':St) (a:Act):Prop where
 run:drG N g (l.take n) s=some s'
 len:n≤l.length
 QX:∀i j d,i<n→j<n→aN l i=some d→aN l j=some d→i=j
 edge:∀i o,l[i]?=some o→∀e∈o.after,Region.binds .any e=true→e.on<i
 has:Has S κ N s.F a
section
abbrev DrC(S:Sta)(κ:Kap)(N:Nat)(P:Program)(C:Ctx)(l:List Oper)(n:Nat)(s s':St)(a:Act):Prop:=Dr S κ N (dr1 P C (l.take n)) l n s s' a
variable {S:Sta} {κ:Kap} {N:Nat} {g:St→Oper→Option SV} {P:Program} {C:Ctx} {l:List Oper} {n:Nat} {s s':St} {a:Act}
theorem cF{l:List Oper}{n i:Nat}(h:i<n):aN (l.take n) i=aN l i:=by unfold aN;rw[List.getElem?_take_of_lt h]
theorem Dr.old(h:Dr S κ N g l n s s' a){d:Act}(q:fJ l n a d){t:Nat}(j:dY (l.take n) t=false):d.tmps[t]?=a.tmps[t]?:=q.get t (by
 cases e:(List.range n).any fun i=>aN l i==some t with
 | false=>rfl
 | true =>
  obtain⟨i,hi,u⟩:=List.any_eq_true.1 e;have hi:=List.mem_range.1 hi;rw[bh.2 ⟨i,by rw[List.length_take];have:=h.len;omega,by rw[cF hi];exact eq_of_beq u⟩]at j
  cases j)
def Val(S:Sta)(κ:Kap)(l:List Oper)(s':St)(j:Nat)(v:Value):Prop:=∃d sv,aN l j=some d∧gt s'.F d=some sv∧v=sv.den S κ
theorem Dr.lt(h:Dr S κ N g l n s s' a){i d:Nat}(hi:i<n)(u:aN l i=some d):d<N:=by
 have q:i<(l.take n).length:=by rw[List.length_take];have:=h.len;omega
 have D:(l.take n)[i]∈l.take n:=List.getElem_mem q;obtain⟨A,B,y⟩:=List.append_of_mem D;have C:drG N g (A++(l.take n)[i]::B) s=some s':=by rw[←y];exact h.run
 obtain⟨_,_,v⟩:=rY C;obtain⟨E,_,w,x,_,_⟩:=lQ v;have:E=d:=by
  rw[←cF hi]at u;unfold aN at u;rw[Ez q]at u;have j:(l.take n)[i].dst=some d:=u;rw[w]at j;exact ι j
 rw[←this];exact x
theorem Dr.op(h:Dr S κ N g l n s s' a){i:Nat}{o:Oper}(hi:i<n)(E:l[i]?=some o){L:Act}(hb:fJ l n a L)
 (hv:∀j,(o.after.any fun e=>Region.binds .any e&&e.on==j)=true→j<n→∀d,aN l j=some d→∃v,At L d v∧Val S κ l s' j v):
 ∃K d v,K.M=s.M∧o.dst=some d∧g K o=some v∧Has S κ N (eN (l.take n) o K.F) L∧Val S κ l s' i (v.den S κ):=by
 have ac:i<(l.take n).length:=by rw[List.length_take];have:=h.len;omega
 have R:(l.take n)[i]?=some o:=by rw[List.getElem?_take_of_lt hi];exact E
 have hl:l.take n=(l.take n).take i++o::(l.take n).drop (i+1):=by
  have W:=(ο.1 R).2;have V:=List.drop_eq_getElem_cons ac;rw[W]at V;rw[←V,List.take_append_drop]
 have hr:=h.run;rw[show drG N g (l.take n) s=drG N g ((l.take n).take i++o::(l.take n).drop (i+1)) s from congrArg (fun x=>drG N g x s) hl]at hr;obtain⟨K,W,V⟩:=rY hr;obtain⟨d,v,hd,al,af,h3⟩:=lQ V;obtain⟨pM,pk,pF,_⟩:=dy W;obtain⟨_,_,qF,_⟩:=dy h3;have D:aN l i=some d:=by unfold aN;rw[E];exact hd
 have y:∀j t,j≤i→aN l j=some t→dY ((l.take n).drop (i+1)) t=false:=fun j t hj ad=>by
  cases e:dY ((l.take n).drop (i+1)) t with
  | false=>rfl
  | true =>
   obtain⟨q,hq,w⟩:=bh.1 e;rw[List.length_drop,List.length_take]at hq;have C:aN l (i+1+q)=some t:=by
    rw[←cF (n:=n) χ];unfold aN at w⊢
    rwa[List.getElem?_drop]at w
   have:=h.QX _ _ _ χ χ ad C;omega
 have O:gt s'.F d=some v:=by rw[qF d (y i d (Γ _) D),ba,if_pos rfl]
 have U:L.tmps.size=N:=hb.size.trans h.has.size;refine⟨K,d,v,pM,hd,af,⟨U,fun t u J=>?_⟩,d,v,D,O,rfl⟩;unfold eN at J;rw[fT (p:=fun t =>!dY (l.take n) t||o.after.any fun e=>Region.binds .any e&&aN (l.take n) e.on==some t)]at J;split at J
 ·rename_i B
  simp only[Bool.or_eq_true,Bool.not_eq_true']at B
  rcases B with B|B
  ·rw[h.old hb B]
   refine h.has.get t u ?_;rw[←pF t ?_]
   ·exact J
   ·cases e:dY ((l.take n).take i) t with
    | false=>rfl
    | true =>
     obtain⟨q,hq,w⟩:=bh.1 e;rw[List.length_take]at hq;rw[cF χ]at w;rw[bh.2 ⟨q,χ,w⟩]at B
     cases B
  ·obtain⟨e,he,C⟩:=Array.any_eq_true'.1 B
   simp only[Bool.and_eq_true,beq_iff_eq]at C;obtain⟨C,I⟩:=C;have h7:=h.edge i o E e he C;rw[cF χ]at I;obtain⟨x,hx,H,sv,h8,h9,X⟩:=hv e.on (Array.any_eq_true'.2 ⟨e,he,by simp[C]⟩) χ t I;have Y:H=t:=by rw[I]at h8;exact(ι h8).symm
   subst Y;have Z:gt s'.F H=gt K.F H:=by
    rw[qF H (y e.on H χ I),ba,if_neg];intro e';subst e';have:=h.QX _ _ _ χ hi I D;omega
   rw[Z,J]at h9;obtain rfl:=ι h9;have Q:H<L.tmps.size:=by rw[U];exact h.lt χ I
   rw[Array.getElem?_eq_getElem Q,hx Q,X]
 ·cases J
theorem Dr.fin(h:Dr S κ N g l n s s' a){q:Act}(D:fJ l n a q)(U:∀j,j<n→∀d,aN l j=some d→∃v,At q d v∧Val S κ l s' j v):Has S κ N s'.F q∧s'.M=s.M∧s'.k=s.k∧s'.e=s.e∧∃m,s'.F=m++s.F∧aE (fun t=>m.any fun x=>Nat.beq x.1 t) a q:=by
 obtain⟨J,O,I,m,Q,K,L⟩:=dy h.run;have B:q.tmps.size=N:=D.size.trans h.has.size;refine⟨⟨B,fun t u C=>?_⟩,J,O,L,m,Q,aE.mono D fun t C=>?_⟩
 ·cases e:dY (l.take n) t with
  | false=>rw[h.old D e];exact h.has.get t u (by rw[←I t e];exact C)
  | true =>
   obtain⟨i,hi,w⟩:=bh.1 e;rw[List.length_take]at hi;rw[cF χ]at w;obtain⟨x,V,d,W,E,H,R⟩:=U i χ t w;have:d=t:=by rw[w]at E;exact(ι E).symm
   subst this;rw[C]at H;obtain rfl:=ι H;have y:d<q.tmps.size:=by rw[B];exact h.lt χ w
   rw[Array.getElem?_eq_getElem y,V y,R]
 ·obtain⟨i,hi,w⟩:=List.any_eq_true.1 C
  have hi:=List.mem_range.1 hi;exact K t (bh.2 ⟨i,by rw[List.length_take];have:=h.len;omega,by rw[cF hi];exact eq_of_beq w⟩)
theorem DrC.step{H:Gh}{w:World}{Q:Exit→Act→World→Prop}(h:DrC S κ N P C l n s s' a)(B:Now S κ N P C H s a w){i:Nat}{o:Oper}(hi:i<n)(O:l[i]?=some o){y:Act}{w':World}{K:Act→World→Prop}(u:Kz w w')(X:fJ l n a y)
 (Z:∀j,(o.after.any fun e=>Region.binds .any e&&e.on==j)=true→j<n→∀d,aN l j=some d→∃v,At y d v∧Val S κ l s' j v)
 (hy:∀j,aN l j=aN (l.take n) j∨n≤j)(I:∀j w,o.guard=some (j,w)→j<n)(J:∀v D,Kz w' D→Val S κ l s' i v→K (y.put o.dst v) D):
 if Region.wanted o (yielded l.toArray y.tmps)then o.wp P y w' K Q else K (y.put o.dst undef) w':=by
 obtain⟨sm,d,v,W,hd,q,hh,x⟩:=h.op hi O X Z;have L:fP S κ (sm.M++C.GM) w':=by rw[W];exact(B.mem.keep (K_T u)).f.app (B.ctx.gm _ _ (K_T u) (H.st _ _ _ u B.gh))
 have E:=B.ctx.keep (K_T u);have U:Region.wanted o (yielded l.toArray y.tmps)=Region.wanted o (yielded (l.take n).toArray y.tmps):=by
  unfold Region.wanted
  cases e:o.guard with
  | none=>rfl
  | some g =>
   obtain⟨j,V⟩:=g;have Y:=I j V e;simp only;unfold yielded;rw[show(l.toArray[j]?).bind (·.dst)=aN l j by simp[aN],show((l.take n).toArray[j]?).bind (·.dst)=aN (l.take n) j by simp[aN],cF Y]
 rw[U];unfold dr1 at q;split at q
 ·rename_i I
  rw[if_pos (lK hh B.ctx.fa I)];split at q
  ·rename_i v' R
   obtain rfl:=ι q;unfold Oper.wp;rw[oS R hh L E];exact J _ _ (aD.refl _ _) x
  ·exact ve q hh E (H.st _ _ _ u B.gh) fun D U=>J _ _ U x
 ·rename_i I
  rw[if_neg (by rw[lK hh B.ctx.fa I];simp)];obtain rfl:=ι q;exact J _ _ (aD.refl _ _) x
 ·cases q
end
def tP(l:List Oper)(n:Nat):Bool:=l.all fun o=>match o.guard with
 | some (j,_)=>Nat.ble (j+1) n
 | none=>true
theorem nY{l:List Oper}{n:Nat}(h:tP l n=true){o:Oper}(g:o∈l):∀j w,o.guard=some (j,w)→j<n:=fun j w d=>by
 have:=υ.1 h o g;rw[d]at this;exact ω this
def drR(P:Program)(C:Ctx)(N:Nat)(l:List Oper)(s:St):Option St:=bif iz l l.length&&tP l l.length then drL P C N l l s else none
theorem Dm{S:Sta}{N:Nat}{P:Program}{C:Ctx}{H:Gh}{Q:Exit→Act→World→Prop}{l:List Oper}{id:Nat}{s s':St}{κ:Kap}{a:Act}{w:World}(hP:P.follows .mixedOrders=true)(h:drR P C N l s=some s')(Y:Now S κ N P C H s a w)
 (hQ:∀κ' y w',Now S κ' N P C H s' y w'→dh H.T κ κ' s s' a y w w'→Q .normal y w'):(Code.region id l.toArray true).wp P Q a w:=by
 unfold drR at h
 cases x:iz l l.length&&tP l l.length with
 | false=>rw[x]at h;cases h
 | true =>
 rw[x]at h;simp only[cond_true]at h;simp only[Bool.and_eq_true]at x;obtain⟨x,hg⟩:=x;have B:=x;simp only[iz,Bool.and_eq_true,decide_eq_true_eq]at B;obtain⟨⟨_,U⟩,V⟩:=B;have D:DrC S κ N P C l l.length s s' a:=⟨by rw[List.take_length];exact h,Γ _,lg U,fR rfl V,Y.has⟩;have I:Kz w w.drew:=(aD.refl _ _).drew;refine fV l.length (fun _ w'=>Kz w.drew w') (fun j _ v=>Val S κ l s' j v) hP x (aD.refl _ _) ?_ ?_
 ·intro i o hi J S' y w' K ad L O g q hK
  exact D.step Y hi J (I.trans O fun _ _ e=>e) g (fun j W X d R=>q j (L j W) X d R) (fun j =>.inl (by rw[List.take_length])) (nY hg (γ J)) fun v Z hw hv=>hK v Z (O.trans hw fun _ _ e=>e) (fun _ _ _ h=>h) hv
 ·intro S' y w' ac O g q
  obtain⟨f1,f2,f3,f4,m,f5,f6⟩:=D.fin g fun j W d R=>q j W d R
  have E:Kz w w':=I.trans O (fun _ _ e=>e);have u:=Y.keep E;exact hQ κ y w' ⟨f1,by rw[f2];exact u.mem,u.ctx,u.tb,by rw[f4];exact u.gh⟩ ⟨fun _ _=>rfl,by rw[f3];exact Γ _,K_T E,⟨m,f5,f6⟩,by rw[f3];exact jU⟩
def drX(P:Program)(C:Ctx)(N:Nat)(l:List Oper)(s:St):Option St:=
 bif lS l (l.length-1)&&tP l (l.length-1)then match drL P C N (l.take (l.length-1)) (l.take (l.length-1)) s with
  | some s'=>stL P C N l (l.drop (l.length-1)) s'
  | none=>none else none
theorem Dl{S:Sta}{N:Nat}{P:Program}{C:Ctx}{H:Gh}{Q:Exit→Act→World→Prop}{l:List Oper}{id:Nat}{s s':St}{κ:Kap}{a:Act}{w:World}(hP:P.follows .mixedOrders=true)(h:drX P C N l s=some s')(hn:Now S κ N P C H s a w)
 (hQ:∀κ' B w',Now S κ' N P C H s' B w'→dh H.T κ κ' s s' a B w w'→Q .normal B w'):(Code.region id l.toArray true).wp P Q a w:=by
 unfold drX at h
 cases x:lS l (l.length-1)&&tP l (l.length-1)with
 | false=>rw[x]at h;cases h
 | true =>
 rw[x]at h;simp only[cond_true]at h;simp only[Bool.and_eq_true]at x;obtain⟨x,hg⟩:=x;have I:=x;simp only[lS,Bool.and_eq_true,decide_eq_true_eq]at I;obtain⟨⟨⟨⟨y,_⟩,_⟩,J⟩,L⟩:=I;obtain⟨n,ad⟩:∃n,n=l.length-1:=⟨_,rfl⟩;rw[←ad]at h x hg y J L;split at h
 ·rename_i Y Z
  have D:DrC S κ N P C l n s Y a:=⟨Z,χ,fun i j d hi hj Z W=>by
   have h3:=υ.1 J i (List.mem_range.2 hi);simp only[Bool.and_eq_true]at h3;have E:=υ.1 h3.2 j (List.mem_range.2 hj);simp only[Bool.or_eq_true,beq_iff_eq,bne_iff_ne]at E
   rcases E with E|E
   ·exact E
   ·exact absurd (Z.trans W.symm) E,fR y L,hn.has⟩
  have R:Kz w w.drew:=(aD.refl _ _).drew;refine iy n (fun j _ v=>Val S κ l Y j v) (fun w'=>Kz w.drew w') hP x (aD.refl _ _) ?_ ?_
  ·intro i o hi U B w' K X g q hK
   exact D.step hn hi U (R.trans X fun _ _ e=>e) g q (fun j=>by
    by_cases hj:j<n
    ·exact .inl (cF hj).symm
    ·exact .inr χ) (nY hg (γ U)) fun v V hw hv=>hK v V (X.trans hw fun _ _ e=>e) (fun _ _ h=>h) hv
  ·intro o ho B w' X g q
   obtain⟨f1,f2,f3,f4,m,f5,f6⟩:=D.fin g q;have O:Kz w w':=R.trans X (fun _ _ e=>e);have u:=hn.keep O;have af:Now S κ N P C H Y B w':=⟨f1,by rw[f2];exact u.mem,u.ctx,u.tb,by rw[f4];exact u.gh⟩;have an:dh H.T κ κ s Y a B w w':=⟨fun _ _=>rfl,by rw[f3];exact Γ _,K_T O,⟨m,f5,f6⟩,by rw[f3];exact jU⟩;have ac:l.drop n=[o]:=by
    have W:=List.drop_eq_getElem_cons (show n<l.length by omega);rw[(ο.1 ho).2]at W;rw[W,List.drop_eq_nil_of_le χ]
   rw[ac]at h;exact uT h af fun κ' a1 V al a0=>hQ _ _ _ al (an.trans a0)
 ·cases h
inductive Ex where
 | n
 | e (id:Nat)
 | r
def Ex.den:Ex→Exit
 | .n =>.normal
 | .e id =>.exit id
 | .r =>.ret
def exec(P:Program)(C:Ctx)(N:Nat):Code→St→Option (Ex×St)
 | .skip,s=>some (.n,s)
 | .region _ ops false,s=>(stL P C N ops.toList ops.toList s).map fun s'=>(.n,s')
 | .region _ ops true,s =>
  match drR P C N ops.toList s with
  | some s'=>some (.n,s')
  | none=>(drX P C N ops.toList s).map fun s'=>(.n,s')
 | .seq x y,s =>
  match exec P C N x s with
  | some (.n,s')=>exec P C N y s'
  | r=>r
 | .cond c x y,s =>
  match ev s.F c with
  | some (.one (.b e))=>match BE.val C.FA e with
   | some true=>exec P C N x s
   | some false=>exec P C N y s
   | none=>none
  | _=>none
 | .block id b,s =>
  match exec P C N b s with
  | some (.e j,s')=>bif Nat.beq j id then some (.n,s')else some (.e j,s')
  | r=>r
 | .exit id,s=>some (.e id,s)
 | .ret,s=>some (.r,s)
 | _,_=>none
theorem rT{S:Sta}{N:Nat}{P:Program}{C:Ctx}{H:Gh}(hP:P.follows .mixedOrders=true):∀{c:Code} {Q:Exit→Act→World→Prop} {x:Ex} {s s':St} {κ:Kap} {a:Act} {w:World},exec P C N c s=some (x,s')→Now S κ N P C H s a w →
 (∀κ' a' w',Now S κ' N P C H s' a' w'→dh H.T κ κ' s s' a a' w w'→Q x.den a' w')→c.wp P Q a w:=by
 intro c
 induction c with
 | skip =>
  intro Q x s s' κ a w h hn hQ;simp only[exec,Option.some.injEq,Prod.mk.injEq]at h;obtain⟨rfl,rfl⟩:=h;exact wp_skip (hQ _ _ _ hn (dh.refl _ _ _ _))
 | exit id =>
  intro Q x s s' κ a w h hn hQ;simp only[exec,Option.some.injEq,Prod.mk.injEq]at h;obtain⟨rfl,rfl⟩:=h;exact wp_exit (hQ _ _ _ hn (dh.refl _ _ _ _))
 | ret =>
  intro Q x s s' κ a w h hn hQ;simp only[exec,Option.some.injEq,Prod.mk.injEq]at h;obtain⟨rfl,rfl⟩:=h;exact wp_ret (hQ _ _ _ hn (dh.refl _ _ _ _))
 | region id ops d =>
  intro Q x s s' κ a w h hn hQ
  cases d with
  | false =>
   simp only[exec,Option.map_eq_some_iff,Prod.mk.injEq]at h;obtain⟨s1,h1,rfl,rfl⟩:=h;refine wp_region_list ?_;have:=uT (Q:=Q) h1 hn hQ
   simpa using this
  | true =>
   rw[exec]at h;split at h
   ·rename_i s1 h1
    simp only[Option.some.injEq,Prod.mk.injEq]at h;obtain⟨rfl,rfl⟩:=h;have:=Dm (Q:=Q) (id:=id) hP h1 hn hQ
    simpa using this
   ·simp only[Option.map_eq_some_iff,Prod.mk.injEq]at h
    obtain⟨s1,h1,rfl,rfl⟩:=h;have:=Dl (Q:=Q) (id:=id) hP h1 hn hQ
    simpa using this
 | seq x y ihx ihy =>
  intro Q e s s' κ a w h hn hQ;rw[exec]at h;refine wp_seq ?_;split at h
  ·rename_i s1 h1
   exact ihx h1 hn fun κ1 a1 w1 hn1 hw1=>ihy h hn1 fun κ2 a2 w2 hn2 hw2=>hQ _ _ _ hn2 (hw1.trans hw2)
  ·rename_i h1
   refine ihx h hn fun κ1 a1 w1 hn1 hw1=>?_
   have:=hQ _ _ _ hn1 hw1
   cases e with
   | n=>exact absurd h (by intro h2;exact h1 _ h2)
   | e j=>exact this
   | r=>exact this
 | cond c x y ihx ihy =>
  intro Q e s s' κ a w h hn hQ;rw[exec]at h;split at h
  ·rename_i b hb
   have h1:=hn.has.ev hb;split at h
   ·rename_i hv
    exact wp_cond_true (by rw[h1];simp only[SV.den,Cl.den_b,BE.val_ok hn.ctx.fa hv]) (ihx h hn hQ)
   ·rename_i hv
    exact wp_cond_false (by rw[h1];simp only[SV.den,Cl.den_b,BE.val_ok hn.ctx.fa hv]) (ihy h hn hQ)
   ·cases h
  ·cases h
 | block id b ih =>
  intro Q e s s' κ a w h hn hQ;rw[exec]at h;refine wp_block ?_;split at h
  ·rename_i j s1 h1
   refine ih h1 hn fun κ1 a1 w1 hn1 hw1=>?_
   simp only[Ex.den,Exit.inBlock]
   cases hj:Nat.beq j id with
   | true =>
    rw[hj]at h;simp only[cond_true,Option.some.injEq,Prod.mk.injEq]at h;obtain⟨rfl,rfl⟩:=h;rw[if_pos (π hj)];exact hQ _ _ _ hn1 hw1
   | false =>
    rw[hj]at h;simp only[cond_false,Option.some.injEq,Prod.mk.injEq]at h;obtain⟨rfl,rfl⟩:=h;rw[if_neg (Nat.ne_of_beq_eq_false hj)];exact hQ _ _ _ hn1 hw1
  ·rename_i h1
   refine ih h hn fun κ1 a1 w1 hn1 hw1=>?_
   have:=hQ _ _ _ hn1 hw1
   cases e with
   | n=>exact this
   | e j=>exact absurd h (by intro h2;exact h1 _ _ h2)
   | r=>exact this
 | _=>intro Q e s s' κ a w h;simp[exec]at h
def SS.on(q:Nat→Bool):SS→Bool
 | .x i=>q i
 | .c _=>true
def IE.on(q:Nat→Bool):IE→Bool
 | .c _=>true
 | .x i=>q i
 | .ln i=>q i
 | .z s=>s.on q
 | .bin _ _ a b=>a.on q&&b.on q
 | .cv _ a=>a.on q
 | .mx a b=>a.on q&&b.on q
def BE.on(q:Nat→Bool):BE→Bool
 | .c _=>true
 | .x i=>q i
 | .cmp _ a b=>a.on q&&b.on q
 | .seq a b=>a.on q&&b.on q
 | .eq a b=>a.on q&&b.on q
 | .not a=>a.on q
def Cl.on(q:Nat→Bool):Cl→Bool
 | .i _ e=>e.on q
 | .b e=>e.on q
 | .s e=>e.on q
 | .p _ _=>true
 | .sl r n c=>q r&&(q n&&q c)
 | .v j=>q j
 | .l _=>true
 | .u=>true
def SV.on(q:Nat→Bool):SV→Bool
 | .one c=>c.on q
 | .ag l=>l.all (Cl.on q)
 | .tu l=>l.all (Cl.on q)
structure Agr (q:Nat→Bool) (S S':Sta):Prop where
 i:∀j,q j=true→S'.i j=S.i j
 n:∀j,q j=true→S'.n j=S.n j
 b:∀j,q j=true→S'.b j=S.b j
 s:∀j,q j=true→S'.s j=S.s j
 o:∀j,q j=true→S'.o j=S.o j
 a:∀j,q j=true→S'.a j=S.a j
section
variable {q:Nat→Bool} {S S':Sta} {κ:Kap}
theorem SS.on_ok(h:Agr q S S'):∀{e:SS},e.on q=true→e.den S'=e.den S
 | .x i,hq=>h.s i hq
 | .c _,_=>rfl
theorem IE.on_ok(h:Agr q S S'):∀{e:IE},e.on q=true→e.den S'=e.den S
 | .c _,_=>rfl
 | .x i,hq=>h.i i hq
 | .ln i,hq=>congrArg Int.ofNat (h.n i hq)
 | .z s,hq=>by simp only[IE.den,SS.on_ok h (e:=s) hq]
 | .bin o k a b,hq=>by
  simp only[IE.on,Bool.and_eq_true]at hq;simp only[IE.den,IE.on_ok h hq.1,IE.on_ok h hq.2]
 | .cv k a,hq=>by simp only[IE.den,IE.on_ok h (e:=a) hq]
 | .mx a b,hq=>by
  simp only[IE.on,Bool.and_eq_true]at hq;simp only[IE.den,IE.on_ok h hq.1,IE.on_ok h hq.2]
theorem BE.on_ok(h:Agr q S S'):∀{e:BE},e.on q=true→e.den S'=e.den S
 | .c _,_=>rfl
 | .x i,hq=>h.b i hq
 | .cmp o a b,hq=>by
  simp only[BE.on,Bool.and_eq_true]at hq;simp only[BE.den,IE.on_ok h hq.1,IE.on_ok h hq.2]
 | .seq a b,hq=>by
  simp only[BE.on,Bool.and_eq_true]at hq;simp only[BE.den,SS.on_ok h hq.1,SS.on_ok h hq.2]
 | .eq a b,hq=>by
  simp only[BE.on,Bool.and_eq_true]at hq;simp only[BE.den,BE.on_ok h hq.1,BE.on_ok h hq.2]
 | .not a,hq=>by simp only[BE.den,BE.on_ok h (e:=a) hq]
theorem Cl.on_ok(h:Agr q S S'){c:Cl}(d:c.on q=true):c.den S' κ=c.den S κ:=by
 cases c with
 | i k e=>simp only[Cl.den,IE.on_ok h (e:=e) d]
 | b e=>simp only[Cl.den,BE.on_ok h (e:=e) d]
 | s e=>simp only[Cl.den,SS.on_ok h (e:=e) d]
 | sl r n c =>
  simp only[Cl.on,Bool.and_eq_true]at d;simp only[Cl.den,h.a r d.1,h.n n d.2.1,h.n c d.2.2]
 | v i=>exact h.o i d
 | _=>rfl
theorem ul(h:Agr q S S'){l:List Cl}(g:l.all (Cl.on q)=true):l.map (Cl.den S' κ)=l.map (Cl.den S κ):=
 List.map_congr_left fun c d=>Cl.on_ok h (υ.1 g c d)
theorem SV.on_ok(h:Agr q S S'){v:SV}(d:v.on q=true):v.den S' κ=v.den S κ:=by
 cases v with
 | one c=>exact Cl.on_ok h d
 | ag l=>simp only[SV.den,ul h d]
 | tu l=>simp only[SV.den,ul h d]
def lM(q:Nat→Bool)(F:Fr):Bool:=F.all fun x=>x.2.on q
def mJ(q:Nat→Bool)(M:Mm):Bool:=M.all fun x=>x.2.all (Cl.on q)
theorem Has.on{N:Nat}{F:Fr}{a:Act}(h:Has S κ N F a)(g:Agr q S S')(j:lM q F=true):Has S' κ N F a:=
 ⟨h.size,fun t v d=>by rw[SV.on_ok g (υ.1 j _ (gG d))];exact h.get t v d⟩
theorem fG.on{M:Mm}{T:Nat→Prop}{w:World}(h:fG S κ T M w)(u:Agr q S S')(v:mJ q M=true):fG S' κ T M w:=
 ⟨fun r l d=>⟨(h.get r l d).1,fun j c g=>by rw[Cl.on_ok u (υ.1 (υ.1 v _ (gI d)) c (γ g))];exact(h.get r l d).2 j c g⟩⟩
end
def Sta.put(S:Sta)(m:Nat)(d:Sta):Sta where
 i j:=bif Nat.ble m j then d.i (j-m)else S.i j
 n j:=bif Nat.ble m j then d.n (j-m)else S.n j
 b j:=bif Nat.ble m j then d.b (j-m)else S.b j
 s j:=bif Nat.ble m j then d.s (j-m)else S.s j
 o j:=bif Nat.ble m j then d.o (j-m)else S.o j
 a j:=bif Nat.ble m j then d.a (j-m)else S.a j
def Sta.cnt(d:Sta)(k:Int):Sta:={ d with i:=fun j=>bif Nat.beq j 0 then k else d.i j,n:=fun j=>bif Nat.beq j 0 then k.toNat else d.n j }
def lo(m j:Nat):Bool:=Nat.ble (j+1) m
theorem kY{m j:Nat}(h:lo m j=true):Nat.ble m j=false:=by
 have:=ω h
 cases e:Nat.ble m j with
 | false=>rfl
 | true=>have:=ω e;omega
theorem aQ(S:Sta)(m:Nat)(d:Sta):Agr (lo m) S (S.put m d):=
 ⟨fun j h=>by simp[Sta.put,kY h],fun j h=>by simp[Sta.put,kY h],fun j h=>by simp[Sta.put,kY h],fun j h=>by simp[Sta.put,kY h],fun j h=>by simp[Sta.put,kY h],fun j h=>by simp[Sta.put,kY h]⟩
theorem Agr.refl(q:Nat→Bool)(S:Sta):Agr q S S:=⟨fun _ _=>rfl,fun _ _=>rfl,fun _ _=>rfl,fun _ _=>rfl,fun _ _=>rfl,fun _ _=>rfl⟩
theorem Agr.mono{q g:Nat→Bool}{S S':Sta}(h:Agr q S S')(d:∀j,g j=true→q j=true):Agr g S S':=
 ⟨fun j x=>h.i j (d j x),fun j x=>h.n j (d j x),fun j x=>h.b j (d j x),fun j x=>h.s j (d j x),fun j x=>h.o j (d j x),fun j x=>h.a j (d j x)⟩
theorem Agr.trans{q:Nat→Bool}{S S' S'':Sta}(h:Agr q S S')(k:Agr q S' S''):Agr q S S'':=
 ⟨fun j x=>(k.i j x).trans (h.i j x),fun j x=>(k.n j x).trans (h.n j x),fun j x=>(k.b j x).trans (h.b j x),fun j x=>(k.s j x).trans (h.s j x),fun j x=>(k.o j x).trans (h.o j x),fun j x=>(k.a j x).trans (h.a j x)⟩
theorem Agr.symm{q:Nat→Bool}{S S':Sta}(h:Agr q S S'):Agr q S' S:=
 ⟨fun j x=>(h.i j x).symm,fun j x=>(h.n j x).symm,fun j x=>(h.b j x).symm,fun j x=>(h.s j x).symm,fun j x=>(h.o j x).symm,fun j x=>(h.a j x).symm⟩
theorem Cg(S:Sta)(m:Nat)(d:Sta)(k k':Int):Agr (fun j =>!Nat.beq j m) (S.put m (d.cnt k)) (S.put m (d.cnt k')):=by
 have g:∀j,(!Nat.beq j m)=true→Nat.ble m j=true→Nat.beq (j-m) 0=false:=fun j h e=>by
  have l:=ω e;have q:j≠m:=fun g=>by subst g;simp at h
  cases e:Nat.beq (j-m) 0 with
  | false=>rfl
  | true=>have:=π e;omega
 refine⟨fun j h=>?_,fun j h=>?_,fun j h=>rfl,fun j h=>rfl,fun j h=>rfl,fun j h=>rfl⟩<;>simp only[Sta.put,Sta.cnt]<;>cases e:Nat.ble m j<;>simp[g j h,e]
theorem ri(S:Sta)(m:Nat)(d x:Sta)(k:Int):Agr (lo (m+8)) (S.put m (d.cnt k)) (S.put m ((d.put 8 x).cnt k)):=by
 have l:∀j,lo (m+8) j=true→Nat.ble m j=true→Nat.ble 8 (j-m)=false:=fun j h g=>by
  have q:=ω h;have u:=ω g
  cases e:Nat.ble 8 (j-m)with
  | false=>rfl
  | true=>have:=ω e;omega
 refine⟨fun j h=>?_,fun j h=>?_,fun j h=>?_,fun j h=>?_,fun j h=>?_,fun j h=>?_⟩<;>simp only[Sta.put,Sta.cnt]<;>cases e:Nat.ble m j<;>simp[l j h,e]
def exq:Ex→Ex→Bool
 | .n,.n=>true
 | .e i,.e j=>Nat.beq i j
 | .r,.r=>true
 | _,_=>false
theorem Df{x y:Ex}(h:exq x y=true):x=y:=by
 unfold exq at h;split at h<;>first
  | rfl
  | (rw[π h])
  | cases h
def gJ(F F':Fr):Bool:=F'.all fun z=>match gt F z.1 with
 | some v=>SV.same v z.2
 | none=>false
def qb(M M':Mm):Bool:=M'.all fun z=>match gm M z.1 with
 | some l=>kE l z.2
 | none=>false
theorem Has.sub{S:Sta}{κ:Kap}{N:Nat}{F F':Fr}{a:Act}(h:Has S κ N F a)(g:gJ F F'=true):Has S κ N F' a:=
 ⟨h.size,fun t v j=>by
  have d:=υ.1 g _ (gG j);simp only at d;split at d
  ·rename_i u l;rw[←SV.same_ok d];exact h.get t u l
  ·cases d⟩
theorem fG.sub{S:Sta}{κ:Kap}{T:Nat→Prop}{M M':Mm}{w:World}(h:fG S κ T M w)(j:qb M M'=true):fG S κ T M' w:=
 ⟨fun r l g=>by
  have d:=υ.1 j _ (gI g);simp only at d;split at d
  ·rename_i u q;rw[←gq d];exact h.get r u q
  ·cases d⟩
def eqL:List Nat→List Nat→Bool
 | [],[]=>true
 | x::l,y::m=>Nat.beq x y&&eqL l m
 | _,_=>false
theorem mT:∀{l m:List Nat},eqL l m=true→l=m
 | [],[],_=>rfl
 | x::l,y::m,h=>by
  simp only[eqL,Bool.and_eq_true]at h;rw[π h.1,mT h.2]
 | [],_::_,h=>by cases h
 | _::_,[],h=>by cases h
def gH(r:Option (Ex×St))(s:St)(x:Ex)(ws:Nat→Bool)(F':Fr)(M':Mm)(k':Nat)(e':List Nat):Bool:=
 match r with
 | some (y,s')=>exq y x&&(gJ s'.F F'&&(qb s'.M M'&&(Nat.beq s'.k k'&&(eqL s'.e e'&&((s'.F.take (s'.F.length-s.F.length)).all fun z=>ws z.1)))))
 | none=>false
structure kj (T:Nat→Prop) (κ κ':Kap) (k k':Nat) (ws:Nat→Bool) (a a':Act) (w w':World):Prop where
 upto:cU k κ κ'
 keep:aD T w w'
 agree:aE ws a a'
 new:New T κ' k k' w w'
theorem fO{S:Sta}{N:Nat}{P:Program}{C:Ctx}{H:Gh}{e':List Nat}{s:St}{κ κ':Kap}{a g:Act}{w w':World}{x y:Ex}{ws:Nat→Bool}{F':Fr}{M':Mm}{k':Nat}{s':St}(h:gH (some (y,s')) s x ws F' M' k' e'=true)(d:Now S κ' N P C H s' g w')(j:dh H.T κ κ' s s' a g w w'):
 y=x∧s'.k=k'∧Now S κ' N P C H ⟨F',M',k',e'⟩ g w'∧kj H.T κ κ' s.k k' ws a g w w':=by
 simp only[gH,Bool.and_eq_true]at h;obtain⟨B,D,E,v,I,q⟩:=h;obtain⟨l,e,J⟩:=j.agree;refine⟨Df B,π v,⟨d.has.sub D,d.mem.sub E,d.ctx,d.tb,mT I▸d.gh⟩,⟨j.upto,j.keep,J.mono fun i hi=>?_,by rw[←π v];exact j.new⟩⟩;rw[e]at q;have:(l++s.F).length-s.F.length=l.length:=ξ
 rw[this,List.take_left]at q;obtain⟨z,K,u⟩:=List.any_eq_true.1 hi;rw[←π u];exact υ.1 q z K
theorem seg{S:Sta}{N:Nat}{P:Program}{C:Ctx}{H:Gh}{c:Code}{Q:Exit→Act→World→Prop}{s:St}{κ:Kap}{a:Act}{w:World}(x:Ex)(ws:Nat→Bool)(F':Fr)(M':Mm)(k':Nat)(e':List Nat)(u:P.follows .mixedOrders=true)(h:gH (exec P C N c s) s x ws F' M' k' e'=true)(B:Now S κ N P C H s a w)
 (v:∀κ' d w',Now S κ' N P C H ⟨F',M',k',e'⟩ d w'→kj H.T κ κ' s.k k' ws a d w w'→Q x.den d w'):c.wp P Q a w:=by
 cases e:exec P C N c s with
 | none=>rw[e]at h;cases h
 | some r =>
  obtain⟨y,s'⟩:=r;rw[e]at h;refine rT u e B fun κ' d w' g D=>?_
  obtain⟨j,_,l,q⟩:=fO h g D;rw[j];exact v κ' d w' l q
def flat:Code→List Code
 | .seq x y=>flat x++flat y
 | c=>[c]
def wpL(P:Program)(Q:Exit→Act→World→Prop):List Code→Act→World→Prop
 | [],a,w=>Q .normal a w
 | c::l,a,w=>c.wp P (Exit.then (wpL P Q l) Q) a w
theorem qw{P:Program}{Q:Exit→Act→World→Prop}:∀{c:Code} {l:List Code} {a:Act} {w:World},wpL P Q (flat c++l) a w→c.wp P (Exit.then (wpL P Q l) Q) a w:=by
 intro c
 induction c with
 | seq x y ihx ihy =>
  intro l a w h;rw[flat,List.append_assoc]at h;refine wp_seq (wp_mono (ihx h) fun e a' w' hh=>?_)
  cases e with
  | normal=>exact ihy hh
  | _=>exact hh
 | _=>intro l a w h;exact h
theorem aY{P:Program}{Q:Exit→Act→World→Prop}{c:Code}{a:Act}{w:World}(h:wpL P Q (flat c) a w):c.wp P Q a w:=by
 refine wp_mono (qw (l:=[]) (by rw[List.append_nil];exact h)) fun e d w' hh=>?_
 cases e with
 | normal=>exact hh
 | _=>exact hh
def gK(P:Program)(C:Ctx)(N:Nat):List Code→St→Option (Ex×St)
 | [],s=>some (.n,s)
 | c::l,s=>match exec P C N c s with
  | some (.n,s')=>gK P C N l s'
  | r=>r
theorem tj{S:Sta}{N:Nat}{P:Program}{C:Ctx}{H:Gh}(v:P.follows .mixedOrders=true){Q:Exit→Act→World→Prop}{m:List Code}:∀{l:List Code} {x:Ex} {s s':St} {κ:Kap} {a:Act} {w:World},gK P C N l s=some (x,s')→Now S κ N P C H s a w →
 (∀κ' q w',Now S κ' N P C H s' q w'→dh H.T κ κ' s s' a q w w'→Exit.then (wpL P Q m) Q x.den q w')→wpL P Q (l++m) a w
 | [],x,s,s',κ,a,w,h,hn,hQ=>by
  simp only[gK,Option.some.injEq,Prod.mk.injEq]at h;obtain⟨rfl,rfl⟩:=h;exact hQ _ _ _ hn (dh.refl _ _ _ _)
 | c::l,x,s,s',κ,a,w,h,hn,hQ=>by
  rw[gK]at h;show c.wp P (Exit.then (wpL P Q (l++m)) Q) a w;split at h
  ·rename_i K u
   exact rT v u hn fun I D E d g=>tj v h d fun O J L y B=>hQ _ _ _ y (g.trans B)
  ·rename_i u
   refine rT v h hn fun I D E d g=>?_
   have:=hQ _ _ _ d g
   cases x with
   | n=>exact absurd h (u _)
   | e j=>exact this
   | r=>exact this
theorem Bg(n:Nat){S:Sta}{N:Nat}{P:Program}{C:Ctx}{H:Gh}{l:List Code}{Q:Exit→Act→World→Prop}{s:St}{κ:Kap}{a:Act}{w:World}(x:Ex)(ws:Nat→Bool)(F':Fr)(M':Mm)(k':Nat)(e':List Nat)(v:P.follows .mixedOrders=true)(h:gH (gK P C N (l.take n) s) s x ws F' M' k' e'=true)(D:Now S κ N P C H s a w)
 (B:∀κ' d w',Now S κ' N P C H ⟨F',M',k',e'⟩ d w'→kj H.T κ κ' s.k k' ws a d w w'→Exit.then (wpL P Q (l.drop n)) Q x.den d w'):wpL P Q l a w:=by
 cases e:gK P C N (l.take n) s with
 | none=>rw[e]at h;cases h
 | some r =>
  obtain⟨y,s'⟩:=r;rw[e]at h;rw[←List.take_append_drop n l];refine tj v e D fun κ' d w' g E=>?_
  obtain⟨j,_,q,u⟩:=fO h g E;subst j;exact B κ' d w' q u
theorem dU(n:Nat){S:Sta}{N:Nat}{P:Program}{C:Ctx}{H:Gh}{l:List Code}{Q:Exit→Act→World→Prop}{s:St}{κ:Kap}{a:Act}{w:World}(ws:Nat→Bool)(F':Fr)(M':Mm)(k':Nat)(e':List Nat)(g:P.follows .mixedOrders=true)(h:gH (gK P C N (l.take n) s) s .r ws F' M' k' e'=true)(q:Now S κ N P C H s a w)
 (j:∀κ' d w',Now S κ' N P C H ⟨F',M',k',e'⟩ d w'→kj H.T κ κ' s.k k' ws a d w w'→Q .ret d w'):wpL P Q l a w:=Bg n .r ws F' M' k' e' g h q j
theorem b7(n:Nat){S:Sta}{N:Nat}{P:Program}{C:Ctx}{H:Gh}{l:List Code}{Q:Exit→Act→World→Prop}{s:St}{κ:Kap}{a:Act}{w:World}(ws:Nat→Bool)(F':Fr)(M':Mm)(k':Nat)(e':List Nat)(g:P.follows .mixedOrders=true)(h:gH (gK P C N (l.take n) s) s .n ws F' M' k' e'=true)(q:Now S κ N P C H s a w)
 (j:∀κ' d w',Now S κ' N P C H ⟨F',M',k',e'⟩ d w'→kj H.T κ κ' s.k k' ws a d w w'→wpL P Q (l.drop n) d w'):wpL P Q l a w:=Bg n .n ws F' M' k' e' g h q j
def Re(S:Sta)(κ:Kap)(F:Fr)(S':Sta)(κ':Kap):Fr→Prop
 | []=>True
 | (t,v)::r=>(match gt F t with
  | some u=>u.den S κ=v.den S' κ'
  | none=>False)∧Re S κ F S' κ' r
theorem Has.re{S S':Sta}{κ κ':Kap}{N:Nat}{F F':Fr}{a:Act}(h:Has S κ N F a)(hr:Re S κ F S' κ' F'):Has S' κ' N F' a:=by
 refine⟨h.size,fun t v ht=>?_⟩;have:∀{G:Fr},Re S κ F S' κ' G→(t,v)∈G→a.tmps[t]?=some (v.den S' κ'):=by
  intro G
  induction G with
  | nil=>intro _ h;cases h
  | cons x G ih =>
   obtain⟨u,y⟩:=x;intro hG hm
   rcases Ξ.1 hm with e|hm
   ·cases e
    have h1:=hG.1;split at h1
    ·rename_i z hz
     rw[←h1];exact h.get _ _ hz
    ·exact h1.elim
   ·exact ih hG.2 hm
 exact this hr (gG ht)
theorem Has.back{S:Sta}{κ κ':Kap}{N k:Nat}{F:Fr}{a:Act}(h:Has S κ' N F a)(j:cU k κ κ')(g:(F.all fun x=>x.2.sc k)=true):Has S κ N F a:=
 ⟨h.size,fun t v d=>by rw[←SV.sc_ok j (υ.1 g _ (gG d))];exact h.get t v d⟩
theorem Has.tail{S:Sta}{κ:Kap}{N t:Nat}{F:Fr}{v:SV}{a:Act}(h:Has S κ N ((t,v)::F) a)(d:(gt F t).isNone=true):Has S κ N F a:=
 ⟨h.size,fun u y g=>h.get u y (by
  rw[ba,if_neg]
  ·exact g
  ·intro e
   subst e;rw[g]at d
   cases d)⟩
theorem noC(S:Sta)(κ:Kap)(P:Program)(H:Gh)(w:World):iJ S κ P {} H w:=⟨ξ,ξ,ξ,ξ,(fun _ _ _ _ r l h=>by cases h),ξ⟩
def fx(m ti:Nat)(FR:Fr):Fr:=(ti,.one (.i .i64 (.x m)))::FR
def vZ(E0:List (Nat×Nat×IE×Nat×Nat))(m kk:Nat):Bool:=E0.all fun x=>lo m x.1&&(x.2.2.1.on (lo m)&&(lo m x.2.2.2.1&&Nat.ble (x.2.2.2.2+1) kk))
def Db(P:Program)(N:Nat)(E0:List (Nat×Nat×IE×Nat×Nat))(R1 R2:Code)(FR:Fr)(M:Mm)(kk ti t m:Nat)(ik:IntKind)(s:Int)(te:BE)(ws:Nat→Bool):Bool:=
 gH (exec P { EL:=E0 } N R1 ⟨(ti,.one (.i ik (.x m)))::FR,M,kk,[]⟩) ⟨(ti,.one (.i ik (.x m)))::FR,M,kk,[]⟩ .n ws ((t,.one (.b te))::(ti,.one (.i ik (.x m)))::FR) M kk [] &&
 (gH (exec P { EL:=E0 } N R2 ⟨(ti,.one (.i ik (.x m)))::FR,M,kk,[]⟩) ⟨(ti,.one (.i ik (.x m)))::FR,M,kk,[]⟩ .n ws ((ti,.one (.i ik (.bin .add ik (.x m) (.c s))))::FR) M kk [] &&
 (lM (fun j =>!Nat.beq j m) FR&&(mJ (lo m) M&&(vZ E0 m kk&&((gt ((ti,.one (.i ik (.x m)))::FR) t).isNone&&((gt FR ti).isNone&&(((ti,SV.one (.i ik (.x m)))::FR:Fr).all fun x=>x.2.sc kk)))))))
def tU(E0:List (Nat×Nat×IE×Nat×Nat))(P:Program)(N:Nat)(R1 R2:Code)(FR:Fr)(M:Mm)(kk ti t m:Nat)(lm:IE)(ws:Nat→Bool):Bool:=
 Db P N E0 R1 R2 FR M kk ti t m .i64 1 (.cmp .lss (.x m) lm) ws&&lm.on (lo m)
abbrev CJ:=tU []
def qt{ε:Type}(S:Sta)(κ:Kap)(N m kk:Nat)(FI:Fr)(ws:Nat→Bool)(D:ε→Sta)(T:Nat→Prop)(W:Nat→ε→World→Prop)(k:Nat)(a0:Act)(w0:World)(a:Act)(w:World):Prop:=
 ∃e κ',W (k+1) e w∧cU kk κ κ'∧Has (S.put m ((D e).cnt k)) κ' N FI a∧aE ws a0 a∧aD T w0 w
def Gh.of(T:Nat→Prop)(G:World→Prop)(st:∀w w',Kz w w'→G w→G w'):Gh:=⟨T,fun _=>G,fun _=>st⟩
theorem mX{S S':Sta}{κ:Kap}{P:Program}{E0:List (Nat×Nat×IE×Nat×Nat)}{C:Ctx}{H H':Gh}{m v:Nat}{w w':World}(h:iJ S κ P C H w)(u:C.EL=E0)(q:vZ E0 m v=true)(d:Agr (lo m) S S'):iJ S' κ P { EL:=E0 } H' w':=by
 subst u;refine⟨ξ,fun x j=>?_,ξ,ξ,(fun _ _ _ _ r l h=>by cases h),ξ⟩;have g:=υ.1 q x j;simp only[Bool.and_eq_true]at g;obtain⟨y,B,D,_⟩:=g;rw[IE.on_ok d B,d.n _ D,d.a _ y];exact h.el x j
theorem Da{ε:Type}{S:Sta}{κ:Kap}{N:Nat}{P:Program}{C:Ctx}{H:Gh}{b b2 t E:Nat}{F0:Fr}{M:Mm}{es:List Nat}{R1 R2 body:Code}{Q:Exit→Act→World→Prop}{O:Act}{K:World}{L:Code}(Z:∀(n:Nat) (I J:Nat→Act→World→Prop) (idx:Act→Nat),I 0 O K→(∀k a w,I k a w→idx a=k) →
 (∀k a w,k≤n→I k a w→R1.wp P (kD fun a' w'=>I k a' w'∧a'.eval (.tmp t)=.bool (decide (k<n))) a w) →
 (∀k a w,k<n→I k a w→body.wp P (bi b b2 (J k) Q) a w)→(∀k a w,k<n→J k a w→R2.wp P (kD (I (k+1))) a w)→(∀a w,I n a w→Q .normal a w)→L.wp P Q O K)(E0:List (Nat×Nat×IE×Nat×Nat))
 (B:Now S κ N P C H ⟨F0,M,E,es⟩ O K)(hE:C.EL=E0)(n m q:Nat)(l:IntKind)(c:Nat→Int)(s:Int)(te:BE)(FR:Fr)(ws:Nat→Bool)(D:ε→Sta)(W:Nat→ε→World→Prop)(st:∀k e w w',Kz w w'→W k e w→W k e w')(e0:ε)(hP:P.follows .mixedOrders=true)
 (hB:Db P N E0 R1 R2 FR M E q t m l s te ws=true)(a3:∀(k:Nat) d,k≤n→te.den (S.put m (Sta.cnt d (c k)))=decide (k<n))(hc:∀k,k<n→l.wrap (c k+s)=c (k+1))(af:∀k,k≤n→((c k-c 0).toNat / s.toNat=k))(hI:W 0 e0 K)(h0:Has (S.put m ((D e0).cnt (c 0))) κ N ((q,.one (.i l (.x m)))::FR) O)
 (hb:∀(k:Nat) e a w,k<n→Now (S.put m ((D e).cnt (c k))) κ N P { EL:=E0 } (Gh.of H.T (W k e) (st k e)) ⟨(q,.one (.i l (.x m)))::FR,M,E,[]⟩ a w→aE ws O a→aD H.T K w→body.wp P (bi b b2 (fun a w=>∃e κ',W (k+1) e w∧cU E κ κ'∧Has (S.put m ((D e).cnt (c k))) κ' N ((q,.one (.i l (.x m)))::FR) a∧aE ws O a∧aD H.T K w) Q) a w)
 (hq:∀e a w,Now (S.put m ((D e).cnt (c n))) κ N P { EL:=E0 } (Gh.of H.T (W n e) (st n e)) ⟨(q,.one (.i l (.x m)))::FR,M,E,[]⟩ a w→aE ws O a→aD H.T K w→Q .normal a w):L.wp P Q O K:=by
 simp only[Db,Bool.and_eq_true]at hB;obtain⟨h1,h2,an,ac,ad,ht,a4,R⟩:=hB;have now:∀(k:Nat) e a w,W k e w→Has (S.put m ((D e).cnt (c k))) κ N ((q,.one (.i l (.x m)))::FR) a→aD H.T K w→Now (S.put m ((D e).cnt (c k))) κ N P { EL:=E0 } (Gh.of H.T (W k e) (st k e)) ⟨(q,.one (.i l (.x m)))::FR,M,E,[]⟩ a w:=fun k e a w hi hh j =>
  ⟨hh,(B.mem.on (aQ S m _) ac).keep j,mX B.ctx hE ad (aQ S m _),fun g hg=>Θ (B.tb g hg) j.size,hi⟩
 have hx:∀(k:Int) (d:Sta),(S.put m (d.cnt k)).i m=k:=fun k d=>by
  have:Nat.ble m m=true:=Nat.ble_eq_true_of_le (Γ m);simp[Sta.put,Sta.cnt,this]
 let I:Nat→Act→World→Prop:=fun k a w=>k≤n∧∃e,W k e w∧Has (S.put m ((D e).cnt (c k))) κ N ((q,.one (.i l (.x m)))::FR) a∧aE ws O a∧aD H.T K w
 refine Z n I (fun k a w=>∃e κ',W (k+1) e w∧cU E κ κ'∧Has (S.put m ((D e).cnt (c k))) κ' N ((q,.one (.i l (.x m)))::FR) a∧aE ws O a∧aD H.T K w)
  (fun a=>match a.tmps[q]? with|some (.int _ x)=>(x-c 0).toNat / s.toNat|_=>0) ⟨Nat.zero_le _,e0,hI,h0,aE.refl _ _,aD.refl _ _⟩ ?_ ?_ ?_ ?_ ?_
 ·rintro k a w ⟨hk,e,_,hh,_⟩
  rw[hh.get q (.one (.i l (.x m))) (by rw[ba,if_pos rfl])];simp only[SV.den,Cl.den_i,IE.den,hx];exact af k hk
 ·rintro k a w hk ⟨_,e,hi,hh,U,j⟩
  refine seg .n ws _ M E [] hP h1 (now k e a w hi hh j) fun κ' a' w' y X=>⟨rfl,⟨hk,e,y.gh,(y.has.tail ht).back X.upto R,U.trans X.agree (fun _ h=>h),j.trans X.keep (fun _ _ e=>e)⟩,?_⟩
  have:=y.has.get t _ (by rw[ba,if_pos rfl]);show a'.tmps.getD t undef=_;rw[Array.getD_eq_getD_getElem?,this];simp only[SV.den,Cl.den_b,a3 k _ hk,Option.getD_some]
 ·rintro k a w hk ⟨_,e,hi,hh,U,j⟩
  exact hb k e a w hk (now k e a w hi hh j) U j
 ·rintro k a w hk ⟨e,κ1,hi,hu,hh,U,j⟩
  have a1:=hh.back hu R;have a2:Now (S.put m ((D e).cnt (c k))) κ N P { EL:=E0 } (Gh.of H.T (W (k+1) e) (st (k+1) e)) ⟨(q,.one (.i l (.x m)))::FR,M,E,[]⟩ a w:=
   ⟨a1,(B.mem.on (aQ S m _) ac).keep j,mX B.ctx hE ad (aQ S m _),fun g hg=>Θ (B.tb g hg) j.size,hi⟩
  refine seg .n ws _ M E [] hP h2 a2 fun κ' a' w' y X=>⟨rfl,⟨hk,e,y.gh,?_,U.trans X.agree (fun _ h=>h),j.trans X.keep (fun _ _ e=>e)⟩⟩
  have al:((((q,SV.one (.i l (.bin .add l (.x m) (.c s))))::FR):Fr).all fun x=>x.2.sc E)=true:=by
   simp only[List.all_cons,Bool.and_eq_true]at R⊢;exact⟨rfl,R.2⟩
  have V:=y.has.back X.upto al;have Y:=(V.tail a4).on (Cg S m (D e) (c k) (c (k+1))) an;refine⟨V.size,fun u v hu=>?_⟩;rw[ba]at hu;split at hu
  ·rename_i eu
   subst eu;obtain rfl:=ι hu;rw[V.get q _ (by rw[ba,if_pos rfl])];simp only[SV.den,Cl.den_i,IE.den,lT,hx,hc k hk]
  ·exact Y.get u v hu
 ·rintro a w ⟨_,e,hi,hh,U,j⟩
  exact hq e a w (now n e a w hi hh j) U j
theorem Ei{ε:Type}{S:Sta}{κ:Kap}{N:Nat}{P:Program}{C:Ctx}{H:Gh}{b b2 t q:Nat}{F0:Fr}{M:Mm}{E:List Nat}{R1 R2 body:Code}{Q:Exit→Act→World→Prop}{g:Act}{h:World}{L:Code}(j:∀(n:Nat) (I J:Nat→Act→World→Prop) (idx:Act→Nat),I 0 g h→(∀k a w,I k a w→idx a=k) →
 (∀k a w,k≤n→I k a w→R1.wp P (kD fun B w'=>I k B w'∧B.eval (.tmp t)=.bool (decide (k<n))) a w) →
 (∀k a w,k<n→I k a w→body.wp P (bi b b2 (J k) Q) a w)→(∀k a w,k<n→J k a w→R2.wp P (kD (I (k+1))) a w)→(∀a w,I n a w→Q .normal a w)→L.wp P Q g h)(E0:List (Nat×Nat×IE×Nat×Nat))
 (x:Now S κ N P C H ⟨F0,M,q,E⟩ g h)(O:C.EL=E0)(n m l:Nat)(y:IE)(FR:Fr)(ws:Nat→Bool)(D:ε→Sta)(W:Nat→ε→World→Prop)(st:∀k e w w',Kz w w'→W k e w→W k e w')(u:ε)(U:P.follows .mixedOrders=true)
 (v:tU E0 P N R1 R2 FR M q l t m y ws=true)(Y:y.den S=n)(X:n≤4611686018427387904)(R:W 0 u h)(K:Has (S.put m ((D u).cnt 0)) κ N (fx m l FR) g)
 (V:∀(k:Nat) e a w,k<n→Now (S.put m ((D e).cnt k)) κ N P { EL:=E0 } (Gh.of H.T (W k e) (st k e)) ⟨fx m l FR,M,q,[]⟩ a w→aE ws g a→aD H.T h w→body.wp P (bi b b2 (qt S κ N m q (fx m l FR) ws D H.T W k g h) Q) a w)
 (Z:∀e a w,Now (S.put m ((D e).cnt n)) κ N P { EL:=E0 } (Gh.of H.T (W n e) (st n e)) ⟨fx m l FR,M,q,[]⟩ a w→aE ws g a→aD H.T h w→Q .normal a w):L.wp P Q g h:=by
 simp only[tU,Bool.and_eq_true]at v;refine Da j E0 x O n m l .i64 (fun k=>(k:Int)) 1 (.cmp .lss (.x m) y) FR ws D W st u U v.1 (fun k d hk=>?_) (fun k hk=>?_) (fun k hk=>?_) R K V Z
 ·have hx:(S.put m (d.cnt k)).i m=k:=by
   have:Nat.ble m m=true:=Nat.ble_eq_true_of_le (Γ m);simp[Sta.put,Sta.cnt,this]
  simp only[BE.den,kC,IE.den,hx,IE.on_ok (aQ S m _) v.2,Y,Int.ofNat_lt]
 ·rw[IntWalk.i64_in _ χ];omega
 ·show((k:Int)-(0:Nat)).toNat / (1:Int).toNat=k
  simp
theorem Eg{ε:Type}{S:Sta}{κ:Kap}{N:Nat}{P:Program}{C:Ctx}{H:Gh}{b b2 t j:Nat}{F0:Fr}{M:Mm}{E:List Nat}{R1 R2 body:Code}{Q:Exit→Act→World→Prop}{d:Act}{h:World}(E0:List (Nat×Nat×IE×Nat×Nat))(y:Now S κ N P C H ⟨F0,M,j,E⟩ d h)(R:C.EL=E0)(n m g l:Nat)(FR:Fr)(ws:Nat→Bool)(D:ε→Sta)(W:Nat→ε→World→Prop)(st:∀k e w w',Kz w w'→W k e w→W k e w')(q:ε)(V:P.follows .mixedOrders=true)
 (O:tU E0 P N R1 R2 FR M j g t m (.ln l) ws=true)(X:S.n l=n)(x:n≤4611686018427387904)(U:W 0 q h)(u:Has (S.put m ((D q).cnt 0)) κ N (fx m g FR) d)
 (v:∀(k:Nat) e a w,k<n→Now (S.put m ((D e).cnt k)) κ N P { EL:=E0 } (Gh.of H.T (W k e) (st k e)) ⟨fx m g FR,M,j,[]⟩ a w→aE ws d a→aD H.T h w→body.wp P (bi b b2 (qt S κ N m j (fx m g FR) ws D H.T W k d h) Q) a w)
 (B:∀e a w,Now (S.put m ((D e).cnt n)) κ N P { EL:=E0 } (Gh.of H.T (W n e) (st n e)) ⟨fx m g FR,M,j,[]⟩ a w→aE ws d a→aD H.T h w→Q .normal a w):
 (Code.block b (Code.loop (Code.seq (Code.seq R1 (Code.cond (.tmp t) .skip (.exit b))) (Code.seq (Code.block b2 body) R2)))).wp P Q d h:=
 Ei (fun n I J idx u hi K v L B=>qv n I J idx u hi K v L B) E0 y R n m g (.ln l) FR ws D W st q V O (by show(S.n l:Int)=n;rw[X]) x U u v B
theorem Eh{ε:Type}{S:Sta}{κ:Kap}{N:Nat}{P:Program}{C:Ctx}{H:Gh}{b b2 t l:Nat}{F0:Fr}{M:Mm}{x:List Nat}{R1 R2 body:Code}{Q:Exit→Act→World→Prop}{g:Act}{j:World}(d:Now S κ N P C H ⟨F0,M,l,x⟩ g j)(n m h v:Nat)(FR:Fr)(ws:Nat→Bool)(D:ε→Sta)(W:Nat→ε→World→Prop)(st:∀k e w w',Kz w w'→W k e w→W k e w')(q:ε)(I:P.follows .mixedOrders=true)
 (B:CJ P N R1 R2 FR M l h t m (.ln v) ws=true)(K:S.n v=n)(u:n≤4611686018427387904)(E:W 0 q j)(y:Has (S.put m ((D q).cnt 0)) κ N (fx m h FR) g)
 (J:∀(k:Nat) e a w,k<n→Now (S.put m ((D e).cnt k)) κ N P {} (Gh.of H.T (W k e) (st k e)) ⟨fx m h FR,M,l,[]⟩ a w→aE ws g a→aD H.T j w→body.wp P (bi b b2 (qt S κ N m l (fx m h FR) ws D H.T W k g j) Q) a w)
 (L:∀e a w,Now (S.put m ((D e).cnt n)) κ N P {} (Gh.of H.T (W n e) (st n e)) ⟨fx m h FR,M,l,[]⟩ a w→aE ws g a→aD H.T j w→Q .normal a w):
 (Code.block b (Code.loop (Code.seq (Code.seq R1 (Code.cond (.tmp t) .skip (.exit b))) (Code.seq (Code.block b2 body) R2)))).wp P Q g j:=
 Eg [] ⟨d.has,d.mem,noC _ _ _ _ _,d.tb,d.gh⟩ rfl n m h v FR ws D W st q I B K u E y J L
theorem Ef{ε:Type}{S:Sta}{κ:Kap}{N:Nat}{P:Program}{C:Ctx}{H:Gh}{b b2 t j:Nat}{F0:Fr}{M:Mm}{E:List Nat}{R1 R2 body:Code}{Q:Exit→Act→World→Prop}{d:Act}{h:World}(E0:List (Nat×Nat×IE×Nat×Nat))(y:Now S κ N P C H ⟨F0,M,j,E⟩ d h)(R:C.EL=E0)(n m g l:Nat)(FR:Fr)(ws:Nat→Bool)(D:ε→Sta)(W:Nat→ε→World→Prop)(st:∀k e w w',Kz w w'→W k e w→W k e w')(q:ε)(V:P.follows .mixedOrders=true)
 (O:tU E0 P N R1 R2 FR M j g t m (.ln l) ws=true)(X:S.n l=n)(x:n≤4611686018427387904)(U:W 0 q h)(u:Has (S.put m ((D q).cnt 0)) κ N (fx m g FR) d)
 (v:∀(k:Nat) e a w,k<n→Now (S.put m ((D e).cnt k)) κ N P { EL:=E0 } (Gh.of H.T (W k e) (st k e)) ⟨fx m g FR,M,j,[]⟩ a w→aE ws d a→aD H.T h w→body.wp P (bi b b2 (qt S κ N m j (fx m g FR) ws D H.T W k d h) Q) a w)
 (B:∀e a w,Now (S.put m ((D e).cnt n)) κ N P { EL:=E0 } (Gh.of H.T (W n e) (st n e)) ⟨fx m g FR,M,j,[]⟩ a w→aE ws d a→aD H.T h w→Q .normal a w):
 (Code.block b (Code.loop (Code.seq R1 (Code.seq (Code.cond (.tmp t) .skip (.exit b)) (Code.seq (Code.block b2 body) R2))))).wp P Q d h:=
 Ei (fun n I J idx u hi K v L B=>uJ n I J idx u hi K v L B) E0 y R n m g (.ln l) FR ws D W st q V O (by show(S.n l:Int)=n;rw[X]) x U u v B
theorem ow{ε:Type}{S:Sta}{κ:Kap}{N:Nat}{P:Program}{C:Ctx}{H:Gh}{b b2 t l:Nat}{F0:Fr}{M:Mm}{x:List Nat}{R1 R2 body:Code}{Q:Exit→Act→World→Prop}{g:Act}{j:World}(d:Now S κ N P C H ⟨F0,M,l,x⟩ g j)(n m h v:Nat)(FR:Fr)(ws:Nat→Bool)(D:ε→Sta)(W:Nat→ε→World→Prop)(st:∀k e w w',Kz w w'→W k e w→W k e w')(q:ε)(I:P.follows .mixedOrders=true)
 (B:CJ P N R1 R2 FR M l h t m (.ln v) ws=true)(K:S.n v=n)(u:n≤4611686018427387904)(E:W 0 q j)(y:Has (S.put m ((D q).cnt 0)) κ N (fx m h FR) g)
 (J:∀(k:Nat) e a w,k<n→Now (S.put m ((D e).cnt k)) κ N P {} (Gh.of H.T (W k e) (st k e)) ⟨fx m h FR,M,l,[]⟩ a w→aE ws g a→aD H.T j w→body.wp P (bi b b2 (qt S κ N m l (fx m h FR) ws D H.T W k g j) Q) a w)
 (L:∀e a w,Now (S.put m ((D e).cnt n)) κ N P {} (Gh.of H.T (W n e) (st n e)) ⟨fx m h FR,M,l,[]⟩ a w→aE ws g a→aD H.T j w→Q .normal a w):
 (Code.block b (Code.loop (Code.seq R1 (Code.seq (Code.cond (.tmp t) .skip (.exit b)) (Code.seq (Code.block b2 body) R2))))).wp P Q g j:=
 Ef [] ⟨d.has,d.mem,noC _ _ _ _ _,d.tb,d.gh⟩ rfl n m h v FR ws D W st q I B K u E y J L
theorem Now.down{S:Sta}{κ:Kap}{N m:Nat}{P:Program}{C:Ctx}{H:Gh}{F:Fr}{M:Mm}{k:Nat}{e:List Nat}{d:Sta}{a:Act}{w:World}(h:Now (S.put m d) κ N P C H ⟨F,M,k,e⟩ a w)(F':Fr)(g:(gJ F F'&&(lM (lo m) F'&&mJ (lo m) M))=true):Now S κ N P {} H ⟨F',M,k,e⟩ a w:=by
 simp only[Bool.and_eq_true]at g;exact⟨(h.has.sub g.1).on (aQ S m d).symm g.2.1,h.mem.on (aQ S m d).symm g.2.2,noC _ _ _ _ _,h.tb,h.gh⟩
theorem az{P:Program}{Q:Exit→Act→World→Prop}{c:Code}{l:List Code}{a:Act}{w:World}(h:c.wp P (Exit.then (wpL P Q l) Q) a w):wpL P Q (c::l) a w:=h
def ma:Nat→List SV→Fr
 | _,[]=>[]
 | i,v::l=>(i,v)::ma (i+1) l
theorem uG:∀{l:List SV} {i t:Nat} {v:SV},gt (ma i l) t=some v→i≤t∧l[t-i]?=some v
 | [],i,t,v,h=>by cases h
 | u::l,i,t,v,h=>by
  rw[ma,ba]at h;split at h
  ·rename_i e
   subst e;exact⟨Γ _,by simpa using h⟩
  ·obtain⟨g,d⟩:=uG h
   refine⟨χ,?_⟩;rw[show t-i=(t-(i+1))+1 by omega,List.getElem?_cons_succ];exact d
theorem fnE{P:Program}{f:FuncId}{fn:Func}{N:Nat}{args:Array Value}{w:World}{R:Ending→World→Prop}(S:Sta)(κ:Kap)(as:List SV)(J:P.funcs[f]?=some fn)(D:fn.ntmps=N)(E:fn.body.isSome=true)(d:args=(as.map (SV.den S κ)).toArray)(u:as.length≤N)
 (H:Gh)(tb:∀g,H.T g→g<w.heap.size)(gh:H.G [] w)
 (h:∀a,a.defers=[]→Now S κ N P {} H ⟨ma 0 as,[],0,[]⟩ a w→wpL P (bodyPost P fn R) (flat (ax fn [])) a w):Calls P f args w R:=by
 refine bL J D E (by rw[d];simpa using u) fun a j I q=>aY (h a I ⟨⟨j,fun t v K=>?_⟩,⟨fun r l h=>by cases h⟩,noC _ _ _ _ _,tb,gh⟩)
 obtain⟨_,x⟩:=uG K;have y:args[t]?=some (v.den S κ):=by rw[d];simp at x⊢; rw[x];exact⟨v,rfl,rfl⟩
 have B:t<args.size:=(ϱ.1 y).1;have C:t<a.tmps.size:=by rw[j];rw[d]at B;simp at B;omega
 rw[Array.getElem?_eq_getElem C,q t _ y C]
theorem Has.getD{S:Sta}{κ:Kap}{N:Nat}{F:Fr}{a:Act}(h:Has S κ N F a){t:Nat}{v:SV}(d:gt F t=some v):a.tmps.getD t undef=v.den S κ:=by
 rw[Array.getD_eq_getD_getElem?,h.get t v d];rfl
theorem fj{S:Sta}{κ:Kap}{N:Nat}{F:Fr}{P:Program}{fn:Func}{R:Ending→World→Prop}{a:Act}{w:World}(t:Nat){v:SV}(j:fn.results = #[.tmp t])(d:Has S κ N F a)(l:gt F t=some v)(h:a.defers=[])(g:R (.returned (v.den S κ)) w):bodyPost P fn R .ret a w:=
 bodyPost_ret (v:=v.den S κ) (by rw[results_tmp j,d.getD l]) h g
theorem iD{S:Sta}{κ:Kap}{N t:Nat}{F:Fr}{a:Act}{v:SV}(h:Has S κ N F a)(g:a.tmps[t]?=some (v.den S κ)):Has S κ N ((t,v)::F) a:=
 ⟨h.size,fun u x d=>by
  rw[ba]at d;split at d
  ·rename_i e;subst e;obtain rfl:=ι d;exact g
  ·exact h.get u x d⟩
theorem Now.downR{S:Sta}{κ:Kap}{N m:Nat}{P:Program}{C:Ctx}{H:Gh}{F:Fr}{M:Mm}{k:Nat}{e:List Nat}{d:Sta}{a:Act}{w:World}(h:Now (S.put m d) κ N P C H ⟨F,M,k,e⟩ a w)(F':Fr)(j:Re (S.put m d) κ F S κ F')(g:mJ (lo m) M=true):Now S κ N P {} H ⟨F',M,k,e⟩ a w:=
 ⟨h.has.re j,h.mem.on (aQ S m d).symm g,noC _ _ _ _ _,h.tb,h.gh⟩
theorem cM{P:Program}{Q:Exit→Act→World→Prop}{l:List Code}{a:Act}{w:World}(d:l.isEmpty=true)(h:Q .normal a w):wpL P Q l a w:=by
 cases l with
 | nil=>exact h
 | cons x y=>cases d
def vBl(P:Program)(E0:List (Nat×Nat×IE×Nat×Nat))(N:Nat)(ops l:List Oper)(F:Fr)(M:Mm)(k i:Nat)(f:FuncId)(as:List SV)(rv:SV)(m:Nat)(ws:Nat→Bool)(F':Fr)(M':Mm)(k':Nat):Bool:=
 match stL P { EL:=E0 } N ops (l.take i) ⟨F,M,k,[]⟩,l[i]? with
 | some s1,some o =>
  match gd [] ops s1.F o.guard,o.op,o.dst with
  | some true,.call ⟨.value (.func g),xs,_⟩,some dt =>
   Nat.beq g f&&((match evs s1.F xs.toList with|some l2=>kF l2 as|none=>false)&&(ga P f&&(Nat.ble (dt+1) N&&(lM (lo m) s1.F&&(mJ (lo m) s1.M&&(vZ E0 m k&&(eqL s1.e []&&(as.all (SV.sc k)&&(rv.sc k&&(((s1.F.take (s1.F.length-F.length)).all fun z=>ws z.1)&&(ws dt &&
    gH ((stL P { EL:=E0 } N ops (l.drop (i+1)) ⟨(dt,rv)::s1.F,s1.M,s1.k,[]⟩).map fun s=>(.n,s)) ⟨(dt,rv)::s1.F,s1.M,s1.k,[]⟩ .n ws F' M' k' [])))))))))))
  | _,_,_=>false
 | _,_=>false
def vB(P:Program)(E0:List (Nat×Nat×IE×Nat×Nat))(N:Nat)(ops:List Oper):=vBl P E0 N ops ops
theorem sw{S:Sta}{N:Nat}{P:Program}{E0:List (Nat×Nat×IE×Nat×Nat)}{H:Gh}{ops l m0:List Oper}{Q:Exit→Act→World→Prop}{F:Fr}{M:Mm}{k:Nat}{κ:Kap}{a:Act}{w:World}
 (i:Nat)(f:FuncId)(as:List SV)(y:SV)(m:Nat)(Φ:Sta→World→Prop)(ws:Nat→Bool)(F':Fr)(M':Mm)(k':Nat)(C:vBl P E0 N ops l F M k i f as y m ws F' M' k'=true)(hn:Now S κ N P { EL:=E0 } H ⟨F,M,k,[]⟩ a w)
 (hf:∀w',aD H.T w w'→Calls P f (as.map (SV.den S κ)).toArray w' fun e U=>∃d,Φ d U∧e=.returned (y.den (S.put m d) κ)∧Kz w' U)
 (hQ:∀κ' a' w' d Z,Φ d Z→aD H.T Z w'→Now (S.put m d) κ' N P { EL:=E0 } H ⟨F',M',k',[]⟩ a' w'→kj H.T κ κ' k k' ws a a' w w'→wpList P ops.toArray Q m0 a' w'):wpList P ops.toArray Q (l++m0) a w:=by
 unfold vBl at C;split at C
 ·rename_i I o e1 e2
  split at C
  ·rename_i g xs ts W hg L v
   simp only[Bool.and_eq_true]at C;obtain⟨q1,R,q3,q4,q5,q6,q7,q8,q9,an,D,a0,u⟩:=C;have q1:=π q1;subst q1;have q8:=mT q8;have q:l++m0=l.take i++(o::(l.drop (i+1)++m0)):=by
    obtain⟨hi,hv⟩:=ο.1 e2;rw[←hv,←List.cons_append,←List.drop_eq_getElem_cons hi,←List.append_assoc,List.take_append_drop]
   have J:wpList P ops.toArray Q (l.take i++(o::(l.drop (i+1)++m0))) a w:=by
    refine dj e1 hn fun κ1 V Z Y j=>?_
    refine Lz fun K hK=>?_
    have hw:=lK Y.has Y.ctx.fa hg;rw[if_pos hw];obtain⟨dst,op,ty,pos,af,gu⟩:=o;simp only at L v;subst L v;split at R
    ·rename_i l2 hl
     have R:=fg R;subst R;have B:(#[]++xs.map V.eval ++ #[]:Array Value)=(l2.map (SV.den S κ)).toArray:=by
      apply Array.ext'
      have h1:=ii Y.has hl;have h2:l2.map (SV.den S κ1)=l2.map (SV.den S κ):=List.map_congr_left fun x hx=>SV.sc_ok j.upto (υ.1 q9 x hx)
      simp[h1,h2]
     unfold Oper.wp;rw[execOp_call_go,cC q3,B];refine(hf Z j.keep).mono fun e w2 ⟨d,hd,he,hk⟩=>?_
     subst he;have O:=Y.keep hk;have hA:=aQ S m d;have X:y.den (S.put m d) κ=y.den (S.put m d) κ1:=(SV.sc_ok j.upto an).symm;show K (V.put (some W) (y.den (S.put m d) κ)) w2;rw[X];have n3:Now (S.put m d) κ1 N P { EL:=E0 } H ⟨(W,y)::I.F,I.M,I.k,[]⟩ (V.put (some W) (y.den (S.put m d) κ1)) w2:=
      ⟨(O.has.on hA q5).put (ω q4),O.mem.on hA q6,mX O.ctx rfl q7 hA,O.tb,by have:=O.gh;rw[q8]at this;exact this⟩
     refine hK _ _ ?_
     cases e3:stL P { EL:=E0 } N ops (l.drop (i+1)) ⟨(W,y)::I.F,I.M,I.k,[]⟩with
     | none=>rw[e3]at u;cases u
     | some s2 =>
      rw[e3]at u;refine dj e3 n3 fun κ2 a2 w3 n4 w4=>?_
      obtain⟨_,_,n5,E⟩:=fO u n4 w4;obtain⟨lw,ew,ad⟩:=j.agree;refine hQ κ2 a2 w3 d w2 hd w4.keep n5 ⟨fun r X=>(E.upto r (Θ X j.le)).trans (j.upto r X),(j.keep.trans (K_T hk) fun _ _ e=>e).trans E.keep fun _ _ e=>e,?_,(j.new.trans jU (fun _ _=>rfl) (K_T hk) j.keep.size).trans E.new E.upto E.keep (Δ j.keep.size hk.size)⟩;have ac:aE ws a V:=ad.mono fun t ht=>by
       rw[ew]at D;have:(lw++F).length-F.length=lw.length:=ξ
       rw[this,List.take_left]at D;obtain⟨z,hz,al⟩:=List.any_eq_true.1 ht;rw[←π al];exact υ.1 D z hz
      exact(ac.put a0 _).trans E.agree fun _ h=>h
    ·cases R
   rw[q];exact J
  ·cases C
 ·cases C
theorem sF{S:Sta}{N:Nat}{P:Program}{E0:List (Nat×Nat×IE×Nat×Nat)}{H:Gh}{id:Nat}{ops:Array Oper}{rest:List Code}{Q:Exit→Act→World→Prop}{F:Fr}{M:Mm}{k:Nat}{κ:Kap}{a:Act}{w:World}
 (i:Nat)(f:FuncId)(as:List SV)(l:SV)(m:Nat)(Φ:Sta→World→Prop)(ws:Nat→Bool)(F':Fr)(M':Mm)(k':Nat)(y:vB P E0 N ops.toList F M k i f as l m ws F' M' k'=true)(D:Now S κ N P { EL:=E0 } H ⟨F,M,k,[]⟩ a w)
 (C:∀w',aD H.T w w'→Calls P f (as.map (SV.den S κ)).toArray w' fun e h=>∃d,Φ d h∧e=.returned (l.den (S.put m d) κ)∧Kz w' h)
 (B:∀κ' g w' d j,Φ d j→aD H.T j w'→Now (S.put m d) κ' N P { EL:=E0 } H ⟨F',M',k',[]⟩ g w'→kj H.T κ κ' k k' ws a g w w'→wpL P Q rest g w'):wpL P Q (Code.region id ops false::rest) a w:=by
 show(Code.region id ops false).wp P (Exit.then (wpL P Q rest) Q) a w;refine wp_region_list ?_;have:=sw (ops:=ops.toList) (m0:=[]) (Q:=Exit.then (wpL P Q rest) Q) i f as l m Φ ws F' M' k' y D C fun κ' g w' d j q u v x=>ln (B κ' g w' d j q u v x)
 simpa using this
theorem zR(n:Nat){P:Program}{id:Nat}{ops:Array Oper}{rest:List Code}{Q:Exit→Act→World→Prop}{a:Act}{w:World}(h:wpList P ops.toList.toArray (Exit.then (wpL P Q rest) Q) (ops.toList.take n++(ops.toList.drop n++[])) a w):wpL P Q (Code.region id ops false::rest) a w:=by
 show(Code.region id ops false).wp P (Exit.then (wpL P Q rest) Q) a w;refine wp_region_list ?_;rw[List.append_nil,List.take_append_drop]at h
 simpa using h
