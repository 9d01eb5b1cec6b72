import Derived.Test.YtpblcjipmoblnaaGreatDoorRsv
import Derived.Test.YtpblcjipmoblnaaGreatDoorOpenG
set_option maxRecDepth 100000
set_option linter.all false
set_option maxHeartbeats 4000000
namespace Go.Proofs.YtpblcjipmoblnaaGreatDoor
theorem bg{α:Type}{B k:Nat}{R:World→Nat→Nat→α→Prop}{w:World}{v:Value}{xs:List α}{Q:α→Prop}(h:aJ B k R w v xs)(l:∀b o x,R w b o x→Q x):∀x∈xs,Q x:=by
 intro x hx;obtain⟨A,c,e,_,_,j⟩:=h;obtain⟨i,d⟩:=List.getElem?_of_mem hx;obtain⟨b,off,_,_,g⟩:=j (by have:=(List.getElem?_eq_some_iff.1 d).1;omega);exact l _ _ _ (g i x d)
end Go.Proofs.YtpblcjipmoblnaaGreatDoor
namespace Go.Proofs.YtpblcjipmoblnaaGreatDoor.Rs
open Go.RowKit Go.Proofs.YtpblcjipmoblnaaGreatDoor Ck
variable {k N:Nat} {w:World} {P:Program} {a:Act}
def vA:Value→Option Addr
 | .slice a _ _=>a
 | _=>none
def vC:Value→Nat
 | .slice _ _ c=>c
 | _=>0
def cA(v:aR)(P:aC):Sta where
 i j:=match j with|0=>P.pos|_=>0
 s j:=match j with|0=>P.name|_ =>.empty
 n j:=match j with
  | 0=>P.QG.length|1=>P.Q4.length|2=>P.Q5.length|3=>P.Q3.length|4=>P.Q8.length|5=>P.QJ.length|6=>P.QC.length|7=>P.Q9.length|8=>P.QB.length|9=>P.QE.length|10=>P.QA.length|11=>P.QD.length
  | 12=>vC v.QG|13=>vC v.Q4|14=>vC v.Q5|15=>vC v.Q3|16=>vC v.Q8|17=>vC v.QJ|18=>vC v.QC|19=>vC v.Q9|20=>vC v.QB|21=>vC v.QE|22=>vC v.QA|23=>vC v.QD|_=>0
 a j:=match j with
  | 0=>vA v.QG|1=>vA v.Q4|2=>vA v.Q5|3=>vA v.Q3|4=>vA v.Q8|5=>vA v.QJ|6=>vA v.QC|7=>vA v.Q9|8=>vA v.QB|9=>vA v.QE|10=>vA v.QA|11=>vA v.QD|_=>none
def aa:List Cl := .i .i64 (.x 0) :: .s (.x 0)::(List.range 12).map fun j =>.sl j j (12+j)
theorem aU{α:Type}{B:Nat}{R:World→Nat→Nat→α→Prop}{v:Value}{xs:List α}(h:aJ B k R w v xs): .slice (vA v) xs.length (vC v)=v:=by
 obtain⟨A,c,rfl,_⟩:=h;rfl
theorem jw{B:Nat}{v:aR}{P:aC}(h:ao B w v P)(κ:Kap):aa.map (Cl.den (cA v P) κ)=v.cells P:=by
 have l:=aU h.QG;have p:=aU h.Q4;have q:=aU h.Q5;have r:=aU h.Q3;have u:=aU h.Q8;have x:=aU h.QJ;have y:=aU h.QC;have A:=aU h.Q9;have C:=aU h.QB;have d:=aU h.QE;have g:=aU h.QA;have j:=aU h.QD;unfold aR.cells;rw[←l,←p,←q,←r,←u,←x,←y,←A,←C,←d,←g,←j];rfl
theorem Now.elem2{S d x:Sta}{E0:List (Nat×Nat×IE×Nat×Nat)}{κ:Kap}{m kk ja j z:Nat}{F:Fr}{M:Mm}{cl:List Cl}{vs:List Value}{g o:Nat}{H:Gh}{v:List Nat}(h:Now (S.put m (d.cnt k)) κ N P { EL:=E0 } H ⟨F,M,kk,v⟩ a w)(X:S.a ja=some ⟨g,o,none⟩)(C:g<w.heap.size∧¬ H.T g)(hk:k<S.n j)(Y:aL w g (o+k*z) vs)
 (hv:cl.map (Cl.den (S.put m ((d.put 8 x).cnt k)) fun _=>(0,0))=vs)(K:(kj (lo (m+8)) F&&(lj (lo (m+8)) M&&((lo m j&&lo m ja)&&(St.sc ⟨F,M,kk,v⟩&&cl.all (Cl.sc 0)))))=true)(E:xC E0 (m+8) kk=true:=by rfl):
 ∃κ',eU kk κ κ'∧Now (S.put m ((d.put 8 x).cnt k)) κ' N P { EL:=(ja,z,.x m,j,kk)::E0 } H ⟨F,(kk,cl)::M,kk+1,v⟩ a w:=by
 simp only[Bool.and_eq_true]at K;obtain⟨Q,R,⟨U,A⟩,V,W⟩:=K
 let κ':Kap:=fun r=>if r=kk then(g,o+k*z)else κ r
 have L:eU kk κ κ':=fun r J=>if_neg χ
 have O:κ' kk=(g,o+k*z):=if_pos rfl;have B:=cG S m d x k;have D:=h.upto L V (by simp only[Ctx.sc,List.all_nil,Bool.and_true];refine List.all_eq_true.2 fun y p=>?_;have:=List.all_eq_true.1 E y p;simp only[Bool.and_eq_true]at this;exact this.2.2.2);have hx:∀q:Sta,(S.put m (q.cnt (k:Int))).i m=k:=fun q=>by
  have:Nat.ble m m=true:=Nat.ble_eq_true_of_le (Nat.le_refl m);simp[Sta.put,Sta.cnt,this]
 refine⟨κ',L,D.has.on B Q,⟨fun r l u=>?_⟩,⟨ξ,?_,ξ,ξ,(fun _ _ _ _ r l h=>by cases h),ξ⟩,h.tb,h.gh⟩
 ·rw[fN]at u
  split at u
  ·rename_i e
   subst e;obtain rfl:=Option.some.inj u;rw[O];refine⟨C,fun q c I=>?_⟩;refine Y q _ ?_;rw[←hv,List.getElem?_map,I];show some (Cl.den _ (fun _=>(0,0)) c)=_;rw[Cl.sc_ok (k:=0) (κ:=κ') (κ':=fun _=>(0,0)) (fun r J=>absurd J χ) (List.all_eq_true.1 W c (List.mem_of_getElem? I))]
  ·exact(D.mem.on B R).get r l u
 ·intro y p
  rcases List.mem_cons.1 p with p|p
  all_goals try subst p
  all_goals try exact(oW (H':=H) (w':=w) D.ctx rfl E B).el y p
  simp only[IE.den,hx];refine⟨χ,?_,g,o,?_,?_⟩
  ·rw[(aQ S m _).n j U];omega
  ·rw[(aQ S m _).a ja A,X]
  ·rw[O];simp
theorem Now.elem{S d x:Sta}{E0:List (Nat×Nat×IE×Nat×Nat)}{κ:Kap}{m kk j z:Nat}{F:Fr}{M:Mm}{cl:List Cl}{vs:List Value}{g o:Nat}{H:Gh}{l:List Nat}(h:Now (S.put m (d.cnt k)) κ N P { EL:=E0 } H ⟨F,M,kk,l⟩ a w)(B:S.a j=some ⟨g,o,none⟩)(p:g<w.heap.size∧¬ H.T g)(hk:k<S.n j)(C:aL w g (o+k*z) vs)
 (hv:cl.map (Cl.den (S.put m ((d.put 8 x).cnt k)) fun _=>(0,0))=vs)(r:(kj (lo (m+8)) F&&(lj (lo (m+8)) M&&(lo m j&&(St.sc ⟨F,M,kk,l⟩&&cl.all (Cl.sc 0)))))=true)(D:xC E0 (m+8) kk=true:=by rfl):
 ∃κ',eU kk κ κ'∧Now (S.put m ((d.put 8 x).cnt k)) κ' N P { EL:=(j,z,.x m,j,kk)::E0 } H ⟨F,(kk,cl)::M,kk+1,l⟩ a w:=by
 simp only[Bool.and_eq_true]at r;obtain⟨u,v,q,y,A⟩:=r;exact h.elem2 B p hk C hv (by simp only[Bool.and_eq_true];exact⟨u,v,⟨q,q⟩,y,A⟩) D
theorem Now.more{S:Sta}{κ:Kap}{C:Ctx}{H:Gh}{s:St}(h:Now S κ N P C H s a w)(FA:List (BE×Bool))(CT ET:List (FuncId×List SV×SV))(g:∀x∈FA,x.1.den S=x.2)
 (j:∀x∈CT,∀w',aD H.T w w'→Calls P x.1 (x.2.1.map (SV.den S κ)).toArray w' fun e d=>e=.returned (x.2.2.den S κ)∧Kz w' d)
 (l:∀i x,ET[i]?=some x→∀e w',aD H.T w w'→H.G e w'→Calls P x.1 (x.2.1.map (SV.den S κ)).toArray w' fun e' d=>e'=.returned (x.2.2.den S κ)∧aD H.T w' d∧H.G (i::e) d):Now S κ N P { C with FA:=FA,CT:=CT,ET:=ET } H s a w:=
 ⟨h.has,h.mem,⟨g,h.ctx.el,fun x hx _ w' hk _=>j x hx w' hk,l,h.ctx.gm,h.ctx.sl⟩,h.tb,h.gh⟩
theorem Now.fa{S:Sta}{κ:Kap}{C:Ctx}{H:Gh}{s:St}(h:Now S κ N P C H s a w)(FA:List (BE×Bool))(d:∀x∈FA,x.1.den S=x.2):Now S κ N P { C with FA:=FA } H s a w:=
 ⟨h.has,h.mem,⟨d,h.ctx.el,h.ctx.ct,h.ctx.et,h.ctx.gm,h.ctx.sl⟩,h.tb,h.gh⟩
def H0:Gh:=⟨fun _=>False,fun _ _=>True,fun _ _ _ _ _=>trivial⟩
def eO(x:Ck.Region):Sta where
 i j:=match j with|0=>x.pos|1=>x.size|2=>x.Q7|_=>x.fill
 s j:=match j with|0=>x.name|_=>x.text
 b j:=match j with|0=>x.fixed|1=>x.big|2=>x.wx|_=>x.QR
def pD(o:Nat):List Cl:=[.i .i64 (.x o),.s (.x o),.i .u64 (.x (o+1)),.b (.x o),.i .u64 (.x (o+2)),.b (.x (o+1)),.b (.x (o+2)),.i .u64 (.x (o+3)),.b (.x (o+3)),.s (.x (o+1))]
def kV(x:aj)(v u:Value):Sta where
 i j:=match j with|0=>x.pos|_=>x.QO
 s _:=x.name
 b _:=x.stopped
 a j:=match j with|0=>vA v|_=>vA u
 n j:=match j with|0=>x.QF.length|1=>x.QN.length|2=>vC v|_=>vC u
def jQ(o:Nat):List Cl:=[.i .i64 (.x o),.s (.x o),.i .u64 (.x (o+1)),.b (.x o),.sl o o (o+2),.sl (o+1) (o+1) (o+3)]
def yf(x:Ck.Map):Sta where
 i j:=match j with|0=>x.pos|_=>x.Q7
 s _:=x.of
 b j:=match j with|0=>x.write|_=>x.exec
def kc(o:Nat):List Cl:=[.i .i64 (.x o),.s (.x o),.i .u64 (.x (o+1)),.b (.x o),.b (.x (o+1))]
def oV(x:Ck.bA)(v:Value):Sta where
 i j:=match j with|0=>x.pos|1=>x.Q7|_=>x.size
 s _:=x.name
 a _:=vA v
 n j:=match j with|0=>x.QF.length|_=>vC v
def kJ(o:Nat):List Cl:=[.i .i64 (.x o),.s (.x o),.i .u64 (.x (o+1)),.i .u64 (.x (o+2)),.sl o o (o+1)]
def chC(o:Nat):List Cl:=[.i .i64 (.x o),.s (.x o),.s (.x (o+1)),.s (.x (o+2)),.b (.x o),.s (.x (o+3)),.i .i64 (.x (o+1)),.i .u64 (.x (o+2))]
def ka(x:Ck.Ram):Sta where
 i j:=match j with|0=>x.pos|1=>x.Q7|_=>x.size
def yE(o:Nat):List Cl:=[.i .i64 (.x o),.i .u64 (.x (o+1)),.i .u64 (.x (o+2))]
def irS(x:Ck.Irq)(f:Int):Sta where
 i j:=match j with|0=>x.pos|1=>x.QL|_=>f
 s j:=match j with|0=>x.name|1=>x.QI|_=>x.to
 b _:=x.masked
def irC(o:Nat):List Cl:=[.i .i64 (.x o),.s (.x o),.s (.x (o+1)),.s (.x (o+2)),.i .u64 (.x (o+1)),.b (.x o)]
def quS(x:Ck.eH)(f g:Int):Sta where
 i j:=match j with|0=>x.pos|1=>x.how|2=>x.depth|3=>f|_=>g
 s j:=match j with|0=>x.name|1=>x.QI|_=>x.to
def quC(o:Nat):List Cl:=[.i .i64 (.x o),.s (.x o),.s (.x (o+1)),.s (.x (o+2)),.i .i64 (.x (o+1)),.i .u64 (.x (o+2))]
def chZ(c:Ck.au)(f g:Int):Sta where
 i j:=match j with|0=>c.pos|1=>c.how|2=>c.QL|3=>f|_=>g
 s j:=match j with|0=>c.name|1=>c.QI|2=>c.to|_=>c.over
 b _:=c.shared
def baS(x:Ck.Ban)(f:Int):Sta where
 i j:=match j with|0=>x.pos|_=>f
 s j:=match j with|0=>x.QI|_=>x.to
def baC(o:Nat):List Cl:=[.i .i64 (.x o),.s (.x o),.s (.x (o+1))]
def piC(o:Nat):List Cl:=[.i .i64 (.x o),.s (.x o)]
def plS(x:Ck.eX)(v:Value)(r:Bool):Sta where
 i j:=match j with|0=>x.pos|_=>x.QM
 s _:=x.name
 a _:=vA v
 n j:=match j with|0=>x.QH.length|_=>vC v
 b _:=r
def plC(o:Nat):List Cl:=[.i .i64 (.x o),.s (.x o),.i .u64 (.x (o+1)),.sl o o (o+1)]
def laS(x:Ck.cW)(v:Value):Sta where
 i j:=match j with|0=>x.pos|_=>x.QO
 b _:=x.needs
 a _:=vA v
 n j:=match j with|0=>x.runs.length|_=>vC v
def laC(o:Nat):List Cl:=[.i .i64 (.x o),.i .u64 (.x (o+1)),.b (.x o),.sl o o (o+1)]
def ruS(x:Run)(f:Int):Sta where
 i j:=match j with|0=>x.pos|1=>x.QT|2=>x.per|_=>f
 s _:=x.QK
def ruC(o:Nat):List Cl:=[.i .i64 (.x o),.s (.x o),.i .u64 (.x (o+1)),.i .u64 (.x (o+2))]
def rlS(x:Ck.jq)(f:Int):Sta where
 i j:=match j with|0=>x.pos|1=>x.how|2=>x.QL|_=>f
 s _:=x.to
def rlC(o:Nat):List Cl:=[.i .i64 (.x o),.i .i64 (.x (o+1)),.s (.x o),.i .u64 (.x (o+2))]
theorem mj(S a b:Sta):Agr (lo 24) S ((S.put 24 a).put 32 b):=
 (aQ S 24 a).trans ((aQ (S.put 24 a) 32 b).mono fun j g=>by
  have d:=jW g;have:j<24:=by rcases Nat.lt_or_ge j 24 with h|h;exact h;rw[Nat.ble_eq_true_of_le h]at d;cases d
  show Nat.ble (j+1) 32=true;exact Nat.ble_eq_true_of_le χ)
