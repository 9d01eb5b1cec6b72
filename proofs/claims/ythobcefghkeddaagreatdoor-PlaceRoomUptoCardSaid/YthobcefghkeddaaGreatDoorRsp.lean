import Derived.Test.YthobcefghkeddaaGreatDoorRsv
import Derived.Test.YthobcefghkeddaaGreatDoorOpenG
set_option maxRecDepth 100000
set_option linter.all false
set_option maxHeartbeats 4000000
namespace Go.Proofs.YthobcefghkeddaaGreatDoor
theorem cZ{α:Type}{B k:Nat}{R:World→Nat→Nat→α→Prop}{w:World}{v:Value}{xs:List α}{Q:α→Prop}(h:aM B k R w v xs)(j:∀b o x,R w b o x→Q x):∀x∈xs,Q x:=by
 intro x l;obtain⟨A,c,e,_,_,g⟩:=h;obtain⟨i,hi⟩:=List.getElem?_of_mem l;obtain⟨b,off,_,_,d⟩:=g (by have:=(ο.1 hi).1;omega);exact j _ _ _ (d i x hi)
namespace Rs
open Go.RowKit Ck
variable {k N:Nat} {w:World} {P:Program} {a:Act}
def vA:Value→Option Addr
 | .slice a _ _=>a
 | _=>none
def vC:Value→Nat
 | .slice _ _ c=>c
 | _=>0
def cE(v:ae)(P:aF):Sta where
 i j:=match j with|0=>P.pos|_=>0
 s j:=match j with|0=>P.name|_ =>.empty
 n j:=match j with
  | 0=>P.QD.length|1=>P.Q5.length|2=>P.Q3.length|3=>P.Q4.length|4=>P.Q8.length|5=>P.QM.length|6=>P.QB.length|7=>P.Q9.length|8=>P.QC.length|9=>P.QI.length|10=>P.QE.length|11=>P.QG.length
  | 12=>vC v.QD|13=>vC v.Q5|14=>vC v.Q3|15=>vC v.Q4|16=>vC v.Q8|17=>vC v.QM|18=>vC v.QB|19=>vC v.Q9|20=>vC v.QC|21=>vC v.QI|22=>vC v.QE|23=>vC v.QG|_=>0
 a j:=match j with
  | 0=>vA v.QD|1=>vA v.Q5|2=>vA v.Q3|3=>vA v.Q4|4=>vA v.Q8|5=>vA v.QM|6=>vA v.QB|7=>vA v.Q9|8=>vA v.QC|9=>vA v.QI|10=>vA v.QE|11=>vA v.QG|_=>none
def ah:List Cl := .i .i64 (.x 0) :: .s (.x 0)::(List.range 12).map fun j =>.sl j j (12+j)
theorem ao{α:Type}{B:Nat}{R:World→Nat→Nat→α→Prop}{v:Value}{xs:List α}(h:aM B k R w v xs): .slice (vA v) xs.length (vC v)=v:=by
 obtain⟨A,c,rfl,_⟩:=h;rfl
theorem lz{B:Nat}{v:ae}{P:aF}(h:bD B w v P)(κ:Kap):ah.map (Cl.den (cE v P) κ)=v.cells P:=by
 have l:=ao h.QD;have q:=ao h.Q5;have u:=ao h.Q3;have x:=ao h.Q4;have y:=ao h.Q8;have C:=ao h.QM;have D:=ao h.QB;have E:=ao h.Q9;have H:=ao h.QC;have d:=ao h.QI;have g:=ao h.QE;have j:=ao h.QG;unfold ae.cells;rw[←l,←q,←u,←x,←y,←C,←D,←E,←H,←d,←g,←j];rfl
theorem Now.elem2{S d x:Sta}{E0:List (Nat×Nat×IE×Nat×Nat)}{κ:Kap}{m u ja j z:Nat}{F:Fr}{M:Mm}{cl:List Cl}{vs:List Value}{g o:Nat}{H:Gh}{C:List Nat}(h:Now (S.put m (d.cnt k)) κ N P { EL:=E0 } H ⟨F,M,u,C⟩ a w)(ha:S.a ja=some ⟨g,o,none⟩)(I:g<w.heap.size∧¬ H.T g)(hk:k<S.n j)(hc:aL w g (o+k*z) vs)
 (hv:cl.map (Cl.den (S.put m ((d.put 8 x).cnt k)) fun _=>(0,0))=vs)(Q:(lM (lo (m+8)) F&&(mJ (lo (m+8)) M&&((lo m j&&lo m ja)&&(St.sc ⟨F,M,u,C⟩&&cl.all (Cl.sc 0)))))=true)(K:vZ E0 (m+8) u=true:=by rfl):
 ∃κ',cU u κ κ'∧Now (S.put m ((d.put 8 x).cnt k)) κ' N P { EL:=(ja,z,.x m,j,u)::E0 } H ⟨F,(u,cl)::M,u+1,C⟩ a w:=by
 simp only[Bool.and_eq_true]at Q;obtain⟨V,W,⟨X,D⟩,Y,Z⟩:=Q
 let κ':Kap:=fun r=>if r=u then(g,o+k*z)else κ r
 have R:cU u κ κ':=fun r O=>if_neg χ
 have U:κ' u=(g,o+k*z):=if_pos rfl;have E:=ri S m d x k;have J:=h.upto R Y (by simp only[Ctx.sc,List.all_nil,Bool.and_true];refine υ.2 fun y v=>?_;have:=υ.1 K y v;simp only[Bool.and_eq_true]at this;exact this.2.2.2);have hx:∀q:Sta,(S.put m (q.cnt (k:Int))).i m=k:=fun q=>by
  have:Nat.ble m m=true:=Nat.ble_eq_true_of_le (Γ m);simp[Sta.put,Sta.cnt,this]
 refine⟨κ',R,J.has.on E V,⟨fun r l B=>?_⟩,⟨ξ,?_,ξ,ξ,(fun _ _ _ _ r l h=>by cases h),ξ⟩,h.tb,h.gh⟩
 ·rw[cL]at B
  split at B
  ·rename_i e
   subst e;obtain rfl:=ι B;rw[U];refine⟨I,fun q c L=>?_⟩;refine hc q _ ?_;rw[←hv,List.getElem?_map,L];show some (Cl.den _ (fun _=>(0,0)) c)=_;rw[Cl.sc_ok (k:=0) (κ:=κ') (κ':=fun _=>(0,0)) (fun r O=>absurd O χ) (υ.1 Z c (γ L))]
  ·exact(J.mem.on E W).get r l B
 ·intro y v
  rcases Ξ.1 v with v|v
  all_goals try subst v
  all_goals try exact(mX (H':=H) (w':=w) J.ctx rfl K E).el y v
  simp only[IE.den,hx];refine⟨χ,?_,g,o,?_,?_⟩
  ·rw[(aQ S m _).n j X];omega
  ·rw[(aQ S m _).a ja D,ha]
  ·rw[U];simp
theorem Now.elem{S d x:Sta}{E0:List (Nat×Nat×IE×Nat×Nat)}{κ:Kap}{m l j z:Nat}{F:Fr}{M:Mm}{cl:List Cl}{vs:List Value}{g o:Nat}{H:Gh}{q:List Nat}(h:Now (S.put m (d.cnt k)) κ N P { EL:=E0 } H ⟨F,M,l,q⟩ a w)(I:S.a j=some ⟨g,o,none⟩)(u:g<w.heap.size∧¬ H.T g)(hk:k<S.n j)(J:aL w g (o+k*z) vs)
 (L:cl.map (Cl.den (S.put m ((d.put 8 x).cnt k)) fun _=>(0,0))=vs)(y:(lM (lo (m+8)) F&&(mJ (lo (m+8)) M&&(lo m j&&(St.sc ⟨F,M,l,q⟩&&cl.all (Cl.sc 0)))))=true)(K:vZ E0 (m+8) l=true:=by rfl):
 ∃κ',cU l κ κ'∧Now (S.put m ((d.put 8 x).cnt k)) κ' N P { EL:=(j,z,.x m,j,l)::E0 } H ⟨F,(l,cl)::M,l+1,q⟩ a w:=by
 simp only[Bool.and_eq_true]at y;obtain⟨B,C,v,D,E⟩:=y;exact h.elem2 I u hk J L (by simp only[Bool.and_eq_true];exact⟨B,C,⟨v,v⟩,D,E⟩) K
theorem Now.more{S:Sta}{κ:Kap}{C:Ctx}{H:Gh}{s:St}(h:Now S κ N P C H s a w)(FA:List (BE×Bool))(CT ET:List (FuncId×List SV×SV))(g:∀x∈FA,x.1.den S=x.2)
 (j:∀x∈CT,∀w',aD H.T w w'→Calls P x.1 (x.2.1.map (SV.den S κ)).toArray w' fun e d=>e=.returned (x.2.2.den S κ)∧Kz w' d)
 (l:∀i x,ET[i]?=some x→∀e w',aD H.T w w'→H.G e w'→Calls P x.1 (x.2.1.map (SV.den S κ)).toArray w' fun e' d=>e'=.returned (x.2.2.den S κ)∧aD H.T w' d∧H.G (i::e) d):Now S κ N P { C with FA:=FA,CT:=CT,ET:=ET } H s a w:=
 ⟨h.has,h.mem,⟨g,h.ctx.el,fun x q _ w' hk _=>j x q w' hk,l,h.ctx.gm,h.ctx.sl⟩,h.tb,h.gh⟩
theorem Now.fa{S:Sta}{κ:Kap}{C:Ctx}{H:Gh}{s:St}(h:Now S κ N P C H s a w)(FA:List (BE×Bool))(d:∀x∈FA,x.1.den S=x.2):Now S κ N P { C with FA:=FA } H s a w:=
 ⟨h.has,h.mem,⟨d,h.ctx.el,h.ctx.ct,h.ctx.et,h.ctx.gm,h.ctx.sl⟩,h.tb,h.gh⟩
theorem Now.ghm{S:Sta}{κ:Kap}{C:Ctx}{H:Gh}{s:St}(h:Now S κ N P C H s a w)(GM:Mm)(d:∀e w',aD H.T w w'→H.G e w'→fP S κ GM w'):Now S κ N P { C with GM:=GM } H s a w:=
 ⟨h.has,h.mem,⟨h.ctx.fa,h.ctx.el,h.ctx.ct,h.ctx.et,d,h.ctx.sl⟩,h.tb,h.gh⟩
def H0:Gh:=⟨fun _=>False,fun _ _=>True,fun _ _ _ _ _=>trivial⟩
def ly(x:Ck.Region):Sta where
 i j:=match j with|0=>x.pos|1=>x.size|2=>x.Q7|_=>x.fill
 s j:=match j with|0=>x.name|_=>x.text
 b j:=match j with|0=>x.fixed|1=>x.big|2=>x.wx|_=>x.QQ
def nK(o:Nat):List Cl:=[.i .i64 (.x o),.s (.x o),.i .u64 (.x (o+1)),.b (.x o),.i .u64 (.x (o+2)),.b (.x (o+1)),.b (.x (o+2)),.i .u64 (.x (o+3)),.b (.x (o+3)),.s (.x (o+1))]
def zM(x:ak)(v u:Value):Sta where
 i j:=match j with|0=>x.pos|_=>x.QN
 s _:=x.name
 b _:=x.stopped
 a j:=match j with|0=>vA v|_=>vA u
 n j:=match j with|0=>x.QA.length|1=>x.QO.length|2=>vC v|_=>vC u
def ny(o:Nat):List Cl:=[.i .i64 (.x o),.s (.x o),.i .u64 (.x (o+1)),.b (.x o),.sl o o (o+2),.sl (o+1) (o+1) (o+3)]
def DN(x:Ck.Map):Sta where
 i j:=match j with|0=>x.pos|_=>x.Q7
 s _:=x.of
 b j:=match j with|0=>x.write|_=>x.exec
def DO(o:Nat):List Cl:=[.i .i64 (.x o),.s (.x o),.i .u64 (.x (o+1)),.b (.x o),.b (.x (o+1))]
def CU(x:Ck.bR)(v:Value):Sta where
 i j:=match j with|0=>x.pos|1=>x.Q7|_=>x.size
 s _:=x.name
 a _:=vA v
 n j:=match j with|0=>x.QA.length|_=>vC v
def yi(o:Nat):List Cl:=[.i .i64 (.x o),.s (.x o),.i .u64 (.x (o+1)),.i .u64 (.x (o+2)),.sl o o (o+1)]
def chC(o:Nat):List Cl:=[.i .i64 (.x o),.s (.x o),.s (.x (o+1)),.s (.x (o+2)),.b (.x o),.s (.x (o+3)),.i .i64 (.x (o+1)),.i .u64 (.x (o+2))]
def kU(x:Ck.Ram):Sta where
 i j:=match j with|0=>x.pos|1=>x.Q7|_=>x.size
def Bo(o:Nat):List Cl:=[.i .i64 (.x o),.i .u64 (.x (o+1)),.i .u64 (.x (o+2))]
def irS(x:Ck.Irq)(f:Int):Sta where
 i j:=match j with|0=>x.pos|1=>x.QK|_=>f
 s j:=match j with|0=>x.name|1=>x.QF|_=>x.to
 b _:=x.masked
def irC(o:Nat):List Cl:=[.i .i64 (.x o),.s (.x o),.s (.x (o+1)),.s (.x (o+2)),.i .u64 (.x (o+1)),.b (.x o)]
def quS(x:Ck.iG)(f g:Int):Sta where
 i j:=match j with|0=>x.pos|1=>x.how|2=>x.depth|3=>f|_=>g
 s j:=match j with|0=>x.name|1=>x.QF|_=>x.to
def quC(o:Nat):List Cl:=[.i .i64 (.x o),.s (.x o),.s (.x (o+1)),.s (.x (o+2)),.i .i64 (.x (o+1)),.i .u64 (.x (o+2))]
def chZ(c:Ck.bO)(f g:Int):Sta where
 i j:=match j with|0=>c.pos|1=>c.how|2=>c.QK|3=>f|_=>g
 s j:=match j with|0=>c.name|1=>c.QF|2=>c.to|_=>c.over
 b _:=c.shared
def baS(x:Ck.Ban)(f:Int):Sta where
 i j:=match j with|0=>x.pos|_=>f
 s j:=match j with|0=>x.QF|_=>x.to
def baC(o:Nat):List Cl:=[.i .i64 (.x o),.s (.x o),.s (.x (o+1))]
def plS(x:Ck.jp)(v:Value)(r:Bool):Sta where
 i j:=match j with|0=>x.pos|_=>x.QJ
 s _:=x.name
 a _:=vA v
 n j:=match j with|0=>x.QL.length|_=>vC v
 b _:=r
def plC(o:Nat):List Cl:=[.i .i64 (.x o),.s (.x o),.i .u64 (.x (o+1)),.sl o o (o+1)]
def laS(x:Ck.cK)(v:Value):Sta where
 i j:=match j with|0=>x.pos|_=>x.QN
 b _:=x.needs
 a _:=vA v
 n j:=match j with|0=>x.runs.length|_=>vC v
def laC(o:Nat):List Cl:=[.i .i64 (.x o),.i .u64 (.x (o+1)),.b (.x o),.sl o o (o+1)]
def rlS(x:Ck.mf)(f:Int):Sta where
 i j:=match j with|0=>x.pos|1=>x.how|2=>x.QK|_=>f
 s _:=x.to
def rlC(o:Nat):List Cl:=[.i .i64 (.x o),.i .i64 (.x (o+1)),.s (.x o),.i .u64 (.x (o+2))]
theorem Em(S a b:Sta):Agr (lo 24) S ((S.put 24 a).put 32 b):=
 (aQ S 24 a).trans ((aQ (S.put 24 a) 32 b).mono fun j g=>by
  have d:=kY g;have:j<24:=by rcases Ψ j 24 with h|h;exact h;rw[Nat.ble_eq_true_of_le h]at d;cases d
  show Nat.ble (j+1) 32=true;exact Nat.ble_eq_true_of_le χ)
