import Derived.Test.YthobcefghkeddaaGreatDoorW
import Derived.Below
set_option maxRecDepth 100000
set_option linter.all false
set_option maxHeartbeats 4000000
namespace Go.Proofs.YthobcefghkeddaaGreatDoor
section
open Go Go.RowKit
structure Run where
 pos:Int
 QI:ByteArray
 QS:Nat
 per:Nat
structure ax where
 QI:ByteArray
 QG:Int
 to:Int
namespace Ln
def run(l:List ax)(s:ByteArray)(t:Int):List ax:=
 match l.getLast? with
 | none=>[⟨s,0,t⟩]
 | some x=>if x.QI=s then l.dropLast++[⟨x.QI,x.QG,x.to+t⟩]else l++[⟨s,x.to,x.to+t⟩]
def CA:Int→Option ByteArray→List ax→Int
 | e,_,[]=>e
 | e,p,s::l=>if s.QG≠e∨s.to≤s.QG∨p=some s.QI then 0 else CA s.to (some s.QI) l
def part(s:ByteArray)(x:ax):Int:=if x.QI=s∧0≤x.QG∧x.QG<x.to∧x.to≤65536 then x.to-x.QG else 0
def Dw(s:ByteArray):Int→List ax→Int
 | n,[]=>n
 | n,x::l=>Dw s (n+part s x) l
theorem part_le(s:ByteArray)(x:ax):0≤part s x∧part s x≤65536:=by unfold part;split<;>omega
def iy(l:List ax):Int:=match l.getLast? with|none=>0|some x=>x.to
def right(M:Nat)(r:Run)(nd:Bool):Int:=
 if r.QS=0∨M<r.QS then 90
 else if nd=true∧r.QI.toList.isEmpty=true then 80
 else if nd=true∧(r.per<r.QS∨M<r.per∨((M:Int)%(r.per:Int)!=0)=true)then 91
 else 0
def eK(M:Nat)(r:Run)(nd:Bool):Nat:=if nd then r.QS*(M / r.per)else r.QS
theorem gc{M:Nat}{r:Run}{j:Bool}(h:right M r j=0):1≤r.QS∧r.QS≤M∧(j=true→r.QI.toList.isEmpty=false∧r.QS≤r.per∧1≤r.per∧r.per≤M∧M%r.per=0):=by
 unfold right at h;split at h
 ·simp at h
 split at h
 ·simp at h
 split at h
 ·simp at h
 rename_i x g d
 refine⟨χ,χ,fun w=>?_⟩;subst w;simp only[true_and]at g d;have l:r.QS≤r.per:=by
  rcases Ψ r.per r.QS with h|h
  ·exact absurd (.inl h) d
  ·exact h
 have q:r.per≤M:=by
  rcases Ψ M r.per with h|h
  ·exact absurd (.inr (.inl h)) d
  ·exact h
 have u:((M:Int)%(r.per:Int)!=0)=false:=by
  rcases Bool.eq_false_or_eq_true ((M:Int)%(r.per:Int)!=0)with h|h
  ·exact absurd (.inr (.inr h)) d
  ·exact h
 refine⟨by simpa using g,l,χ,q,?_⟩;have v:(M:Int)%(r.per:Int)=0:=by simpa using u
 have y:((M%r.per:Nat):Int)=0:=by simpa using v
 omega
theorem sC{M:Nat}{r:Run}{d:Bool}(h:right M r d=0):eK M r d≤M:=by
 obtain⟨q,g,j⟩:=gc h;unfold eK
 cases d
 ·simpa using g
 ·obtain⟨_,l,u,v,_⟩:=j rfl
  exact Δ (Nat.mul_le_mul_right _ l) (Nat.mul_div_le M r.per)
def jU:Int→List ax→Int
 | e,[]=>e
 | _,s::l=>jU s.to l
end Ln
structure Cw where
 QI:Int
 QV:Int
namespace Ln
def take(M o e who left s t:Int):Bool×Int×Int×Int:=
 let e':=e+min t (M-e)
 let s':=max s (-1)
 if e'≤o then(decide (e'<M),e',who,left)
 else if left=0 then(decide (e'<M),e',s',e'-max e o)
 else if s'=who then(decide (e'<M),e',who,left+(e'-e))
 else(false,e',who,left)
def E5(M o:Int):Int→Int→Int→List Cw→Int×Int
 | e,who,left,[]=>let r:=take M o e who left (-1) M;(r.2.2.1,r.2.2.2)
 | e,who,left,x::l =>
  if x.QV≤0 then E5 M o e who left l
  else
   let r:=take M o e who left x.QI x.QV
   if r.1 then E5 M o r.2.1 r.2.2.1 r.2.2.2 l else(r.2.2.1,r.2.2.2)
def Q7(l:List Cw)(M o:Int):Int×Int:=if o<0∨M≤o then(-1,0)else E5 M o 0 (-1) 0 l
def bV(M:Nat)(nd:Bool):Nat→Nat→List Run→Option (Int×Int)
 | _,_,[]=>none
 | i,sum,r::l=>if right M r nd=0 then(if M<sum+eK M r nd then some (i,93)else bV M nd (i+1) (sum+eK M r nd) l)else some (i,right M r nd)
def eY(l:List ax)(rs:List Run):List ax:=rs.foldl (fun acc r=>run acc r.QI r.QS) l
def fill(M:Nat)(l:List ax):List ax:=if 0<(M:Int)-iy l then run l ByteArray.empty (M-iy l)else l
def eW(l:List ax):List ax×Int×Int:=if 4096<l.length then([], -1,4)else(l,0,0)
def nc(T:Int)(l:List ax):Prop:=∀x∈l,0≤x.to∧x.to≤T
theorem oG(T:Int):nc T []:=fun x h=>by simp at h
theorem nc.run{T:Int}{l:List ax}(h:nc T l)(u:0≤T)(s:ByteArray){t:Int}(j:0≤t):nc (T+t) (run l s t):=by
 unfold Ln.run;split
 ·intro x d
  simp at d;subst d;exact⟨j,η⟩
 ·rename_i y q
  have g:=List.mem_of_getLast? q;have v:=h y g;split
  ·intro x d
   rcases Ω.1 d with d|d
   ·have:=h x ((List.dropLast_sublist l).subset d)
    exact⟨this.1,χ⟩
   ·simp at d;subst d
    exact⟨η,η⟩
  ·intro x d
   rcases Ω.1 d with d|d
   ·have:=h x d
    exact⟨this.1,χ⟩
   ·simp at d;subst d
    exact⟨η,η⟩
theorem kS(l:List ax)(s:ByteArray)(t:Int):(run l s t).length≤l.length+1:=by
 unfold Ln.run;split
 ·simp
 ·split
  all_goals(simp only[List.length_append,List.length_dropLast,List.length_cons,List.length_nil];omega)
theorem nc.end_{T:Int}{l:List ax}(h:nc T l)(d:0≤T):0≤iy l∧iy l≤T:=by
 unfold iy;split
 ·exact⟨χ,d⟩
 ·rename_i y g
  exact h y (List.mem_of_getLast? g)
def fT(l:List Run):Nat:=l.foldr (fun r n=>r.QS+n) 0
theorem iS{M:Nat}{nd:Bool}{l:List Run}:∀{i s:Nat},bV M nd i s l=none→(∀r∈l,right M r nd=0)∧(nd=false→s≤M→s+fT l≤M):=by
 induction l with
 | nil=>intro i s _;exact⟨fun r h=>by simp at h,fun _ h=>by simpa[fT]using h⟩
 | cons r l ih =>
  intro i s h;simp only[bV]at h;split at h
  ·rename_i hr
   split at h
   ·simp at h
   ·rename_i hs
    obtain⟨h1,h2⟩:=ih h;refine⟨fun x hx=>?_,fun hn hm=>?_⟩
    ·rcases Ξ.1 hx with rfl|hx
     ·exact hr
     ·exact h1 x hx
    ·have:=h2 hn χ
     subst hn;simp only[fT,List.foldr_cons,eK,Bool.false_eq_true,if_false]at this⊢;omega
  ·simp at h
theorem uV{l:List Run}(h:∀r∈l,1≤r.QS):l.length≤fT l:=by
 induction l with
 | nil=>simp
 | cons r l ih =>
  have h1:=ih (fun x hx=>h x (List.mem_cons_of_mem _ hx));have h2:=h r ξ;simp only[fT,List.foldr_cons,List.length_cons]at h1⊢;omega
end Ln
structure Job where
 need:Int
 due:Int
 left:Int
namespace Ln
variable {l:List Job} {i j n:Nat}
def jlt(a b:Job):Prop:=a.due<b.due∨a.due=b.due∧a.need<b.need
instance (a b:Job):Decidable (jlt a b):=inferInstanceAs (Decidable (_∨_∧_))
theorem eS(a:Job):¬ jlt a a:=by unfold jlt;omega
theorem gq{a b c:Job}(h:¬ jlt b a)(k:¬ jlt c b):¬ jlt c a:=by unfold jlt at *; omega
theorem jr{a b:Job}(h:jlt a b):¬ jlt b a:=by unfold jlt at *; omega
def bq(l:List Job)(i j:Nat)(a b:Job):List Job:=(l.set i b).set j a
theorem dI{a b:Job}:(bq l i j a b).length=l.length:=by simp[bq]
theorem dz{a b:Job}(h:l[i]?=some a)(q:l[j]?=some b):(bq l i j a b).Perm l:=by
 obtain⟨d,rfl⟩:=ο.1 h;obtain⟨g,rfl⟩:=ο.1 q;exact List.set_set_perm d g
theorem dJ{a b:Job}(h:l[i]?=some a)(q:l[j]?=some b)(k:Nat):(bq l i j a b)[k]?=if k=j then some a else if k=i then some b else l[k]?:=by
 have d:=(ο.1 h).1;have g:=(ο.1 q).1;unfold bq
 by_cases e1:k=j
 ·subst e1;rw[List.getElem?_set_self (by simpa using g),if_pos rfl]
 ·rw[List.getElem?_set_ne χ,if_neg e1]
  by_cases e2:k=i
  ·subst e2;rw[List.getElem?_set_self d,if_pos rfl]
  ·rw[List.getElem?_set_ne χ,if_neg e2]
def io(l:List Job)(n j:Nat):Prop:=∀k x y,0<k→k<n→k≠j→l[k]?=some x→l[(k-1) / 2]?=some y→¬ jlt x y
def wH(l:List Job)(n j:Nat):Prop:=∀k x y,0<k→k<n→(k-1) / 2=j→0<j→l[k]?=some x→l[(j-1) / 2]?=some y→¬ jlt x y
def bE(l:List Job)(n:Nat):Prop:=∀k x y,0<k→k<n→l[k]?=some x→l[(k-1) / 2]?=some y→¬ jlt x y
theorem bE.root{l:List Job}{n:Nat}(h:bE l n)(hn:n≤l.length):∀k x r,k<n→l[k]?=some x→l[0]?=some r→¬ jlt x r:=by
 intro k
 induction k using Nat.strongRecOn with
 | _ k ih =>
  intro x r hk hx hr
  rcases ϑ k with h0|h0
  ·subst h0;rw[hx]at hr;injection hr with hr;subst hr;exact eS _
  ·obtain⟨y,hy⟩:∃y,l[(k-1) / 2]?=some y:=⟨_,θ χ⟩
   exact gq (ih ((k-1) / 2) χ y r χ hy hr) (h k x y h0 hk hx hy)
theorem BY{a b:Job}(N:0<j)(O:j<n)(Q:n≤l.length)(C:io l n j)(K:wH l n j)(u:l[(j-1) / 2]?=some a)(L:l[j]?=some b)(I:jlt b a):
 io (bq l ((j-1) / 2) j a b) n ((j-1) / 2)∧wH (bq l ((j-1) / 2) j a b) n ((j-1) / 2):=by
 have v:=dJ u L;constructor
 ·intro k x y h q E g d
  rw[v]at g d
  by_cases e1:k=j
  ·subst e1
   rw[if_pos rfl]at g;rw[if_neg χ,if_pos rfl]at d
   injection g with g;injection d with d
   subst g d;exact jr I
  ·rw[if_neg e1,if_neg E]at g
   by_cases e2:(k-1) / 2=j
   ·rw[if_pos e2]at d
    injection d with d
    subst d;exact K k x a h q e2 N g u
   ·rw[if_neg e2]at d
    by_cases e3:(k-1) / 2=(j-1) / 2
    ·rw[if_pos e3]at d
     injection d with d
     subst d;have:=C k x a h q e1 g (by rw[e3];exact u);unfold jlt at *;omega
    ·rw[if_neg e3]at d
     exact C k x y h q e1 g d
 ·intro k x y h q H D g d
  rw[v]at g d;have B:∃z,l[((j-1) / 2-1) / 2]?=some z:=⟨_,θ χ⟩;obtain⟨z,J⟩:=B;rw[if_neg χ,if_neg χ,J]at d
  injection d with d
  subst d;have w:=C ((j-1) / 2) a z D χ χ u J
  by_cases e1:k=j
  ·rw[if_pos e1]at g
   injection g with g
   subst g;exact w
  ·rw[if_neg e1,if_neg χ]at g
   have:=C k x a h q e1 g (by rw[H];exact u);exact gq w this
theorem wM(C:io l n j)(h:j=0∨∃a b,l[(j-1) / 2]?=some a∧l[j]?=some b∧¬ jlt b a):bE l n:=by
 intro k x y u v w B
 by_cases e:k=j
 ·rcases h with h|⟨a,b,d,g,q⟩
  ·omega
  ·subst e
   rw[w]at g;rw[B]at d
   injection g with g;injection d with d
   subst g d;exact q
 ·exact C k x y u v e w B
def dx(l:List Job)(n i:Nat):Prop:=
 (∀k x y,0<k→k<n→(k-1) / 2≠i→l[k]?=some x→l[(k-1) / 2]?=some y→¬ jlt x y)∧wH l n i
theorem mj{a b:Job}(hi:(j-1) / 2=i)(D:0<j)(E:j<n)(L:n≤l.length)(h:dx l n i)(K:l[i]?=some a)(C:l[j]?=some b)
 (B:∀k x,0<k→k<n→(k-1) / 2=i→l[k]?=some x→¬ jlt x b)(H:jlt b a):dx (bq l i j a b) n j:=by
 obtain⟨I,J⟩:=h;have w:=dJ K C;constructor
 ·intro k x y q u v g d
  rw[w]at g d;rw[if_neg v]at d
  by_cases e1:k=j
  ·rw[if_pos e1]at g
   injection g with g;subst g
   rw[if_pos χ]at d
   injection d with d;subst d
   exact jr H
  ·rw[if_neg e1]at g
   by_cases e2:k=i
   ·rw[if_pos e2]at g
    injection g with g;subst g
    rw[if_neg χ]at d;subst e2;exact J j b y D E hi q C d
   ·rw[if_neg e2]at g
    by_cases e3:(k-1) / 2=i
    ·rw[if_pos e3]at d
     injection d with d;subst d
     exact B k x q u e3 g
    ·rw[if_neg e3]at d
     exact I k x y q u e3 g d
 ·intro k x y q u v _ g d
  rw[w]at g d;rw[if_neg χ,if_neg χ]at g;rw[if_neg χ,if_pos hi]at d
  injection d with d;subst d
  exact I k x b q u χ g (by rw[v];exact C)
theorem ml{a:Job}(h:dx l n i)(u:l[i]?=some a)(v:∀k x,0<k→k<n→(k-1) / 2=i→l[k]?=some x→¬ jlt x a):bE l n:=by
 intro k x y d g q j
 by_cases e:(k-1) / 2=i
 ·rw[e,u]at j
  injection j with j;subst j
  exact v k x d g e q
 ·exact h.1 k x y d g e q j
end Ln
namespace Ln
variable {ts:List ByteArray}
theorem rP(s:ByteArray)(t:Int):run [] s t=[⟨s,0,t⟩]:=rfl
theorem gb(l:List ax)(x:ax)(s:ByteArray)(t:Int):run (l++[x]) s t=if x.QI=s then l++[⟨x.QI,x.QG,x.to+t⟩]else l++[x]++[⟨s,x.to,x.to+t⟩]:=by
 unfold run;rw[List.getLast?_concat];simp only[List.dropLast_concat]
theorem rN(l:List ax):l=[]∨∃m x,l=m++[x]:=by
 rcases List.eq_nil_or_concat l with h|⟨m,x,h⟩
 ·exact .inl h
 ·exact .inr ⟨m,x,by rw[h,List.concat_eq_append]⟩
theorem Bi(l:List ax)(s:ByteArray)(a b:Int):run (run l s a) s b=run l s (a+b):=by
 rcases rN l with rfl|⟨m,x,rfl⟩
 ·rw[rP,show[(⟨s,0,a⟩:ax)]=[]++[⟨s,0,a⟩] from rfl,gb,if_pos rfl,rP]
  simp
 ·rw[gb,gb]
  by_cases h:x.QI=s
  ·rw[if_pos h,if_pos h,gb,if_pos h];simp[Int.add_assoc]
  ·rw[if_neg h,if_neg h,gb,if_pos rfl];simp[Int.add_assoc]
def cD(l:List ax)(ts:List ByteArray):List ax:=ts.foldl (fun l s=>run l s 1) l
theorem eD(l:List ax)(a b:List ByteArray):cD l (a++b)=cD (cD l a) b:=by simp[cD]
theorem xq(l:List ax)(s:ByteArray)(n:Nat):run l s ((n+1:Nat):Int)=cD l (List.replicate (n+1) s):=by
 induction n with
 | zero=>rfl
 | succ n ih =>
  rw[List.replicate_succ',eD,←ih];show _=run _ s 1;rw[Bi];congr 1
theorem oV(l:List ax)(s:ByteArray){n:Nat}(h:0<n):run l s (n:Int)=cD l (List.replicate n s):=by
 obtain⟨k,rfl⟩:∃k,n=k+1:=⟨n-1,χ⟩;exact xq l s k
def mh(xs:List Run):List ByteArray:=xs.flatMap fun r=>List.replicate r.QS r.QI
theorem pu{xs:List Run}(h:∀r∈xs,1≤r.QS):∀(l:List ax),eY l xs=cD l (mh xs):=by
 induction xs with
 | nil=>intro l;rfl
 | cons r xs ih =>
  intro l;have h1:=h r ξ;show eY (run l r.QI r.QS) xs=cD l (List.replicate r.QS r.QI++mh xs);rw[ih (fun x hx=>h x (List.mem_cons_of_mem _ hx)),eD,oV _ _ χ]
theorem qH(xs:List Run):(mh xs).length=fT xs:=by
 induction xs with
 | nil=>rfl
 | cons r xs ih=>simp only[mh,List.flatMap_cons,List.length_append,List.length_replicate,fT,List.foldr_cons]at ih⊢; omega
def mw:Int→Option ByteArray→List ax→Prop
 | _,_,[]=>True
 | e,p,s::l=>s.QG=e∧s.QG<s.to∧p≠some s.QI∧mw s.to (some s.QI) l
def jV:Option ByteArray→List ax→Option ByteArray
 | p,[]=>p
 | _,s::l=>jV (some s.QI) l
theorem qC(l:List ax)(x:ax):∀p,jV p (l++[x])=some x.QI:=by
 induction l with
 | nil=>intro p;rfl
 | cons s l ih=>intro p;exact ih _
theorem fB(l:List ax)(x:ax):∀e,jU e (l++[x])=x.to:=by
 induction l with
 | nil=>intro e;rfl
 | cons s l ih=>intro e;exact ih _
theorem jb{l:List ax}{x:ax}:∀{e p},mw e p (l++[x])↔mw e p l∧x.QG=jU e l∧x.QG<x.to∧jV p l≠some x.QI:=by
 induction l with
 | nil=>intro e p;simp[mw,jU,jV]
 | cons s l ih =>
  intro e p;simp only[List.cons_append,mw,jU,jV,ih];constructor
  ·rintro⟨h1,h2,h3,h4,h5⟩;exact⟨⟨h1,h2,h3,h4⟩,h5⟩
  ·rintro⟨⟨h1,h2,h3,h4⟩,h5⟩;exact⟨h1,h2,h3,h4,h5⟩
theorem pQ(l:List ax):iy l=jU 0 l:=by
 rcases rN l with rfl|⟨m,x,rfl⟩
 ·rfl
 ·rw[fB];unfold iy;rw[List.getLast?_concat]
structure qO (l:List ax) (ts:List ByteArray):Prop where
 chain:mw 0 none l
 last:jU 0 l=ts.length
 tick:∀(o:Nat) (s:ByteArray),ts[o]?=some s→∃x∈l,x.QG≤(o:Int)∧(o:Int)<x.to∧x.QI=s
theorem tQ:qO [] []:=⟨trivial,rfl,fun o s h=>by simp at h⟩
theorem qO.run{l:List ax}(h:qO l ts)(s:ByteArray):qO (run l s 1) (ts++[s]):=by
 obtain⟨C,D,E⟩:=h
 rcases rN l with rfl|⟨m,x,rfl⟩
 ·have I:ts=[]:=by simpa[jU,eq_comm]using D
  subst I;refine⟨⟨rfl,ξ,ξ,trivial⟩,rfl,fun o y d=>?_⟩;have J:o=0:=by
   rcases ϑ o with h|h
   ·exact h
   ·rw[List.getElem?_eq_none η]at d;simp at d
  subst J;simp at d;subst d;exact⟨⟨s,0,1⟩,by simp[rP],ξ,ξ,rfl⟩
 ·rw[fB]at D
  obtain⟨c1,c2,K,H⟩:=jb.1 C;rw[gb];have g:∀o y,(ts++[s])[o]?=some y→(ts[o]?=some y)∨(o=ts.length∧y=s):=fun o y d=>by
   rcases Ψ o ts.length with h|h
   ·rw[List.getElem?_append_left h]at d;exact .inl d
   ·rw[List.getElem?_append_right h]at d
    rcases ϑ (o-ts.length)with B|B
    ·rw[B]at d;simp at d;exact .inr ⟨χ,d.symm⟩
    ·rw[List.getElem?_eq_none η]at d;simp at d
  split
  ·rename_i v
   refine⟨jb.2 ⟨c1,c2,η,H⟩,by rw[fB];simp;omega,fun o y d=>?_⟩
   rcases g o y d with h|⟨rfl,rfl⟩
   ·obtain⟨z,j,q,w,u⟩:=E o y h
    rcases Ω.1 j with j|j
    ·exact⟨z,List.mem_append_left _ j,q,w,u⟩
    ·simp at j;subst j
     exact⟨⟨z.QI,z.QG,z.to+1⟩,ξ,q,η,u⟩
   ·exact⟨⟨x.QI,x.QG,x.to+1⟩,ξ,η,η,v⟩
  ·rename_i v
   refine⟨jb.2 ⟨C,by rw[fB],η,by rw[qC];simpa using v⟩,by rw[fB];simp;omega,fun o y d=>?_⟩
   rcases g o y d with h|⟨rfl,rfl⟩
   ·obtain⟨z,j,q,w,u⟩:=E o y h
    exact⟨z,List.mem_append_left _ j,q,w,u⟩
   ·exact⟨⟨y,x.to,x.to+1⟩,ξ,η,η,rfl⟩
theorem qO.rows{ts:List ByteArray}:∀{l:List ax} {us:List ByteArray},qO l us→qO (cD l ts) (us++ts):=by
 induction ts with
 | nil=>intro l us h;simpa[cD]using h
 | cons s ts ih =>
  intro l us h;have:=ih (h.run s)
  rwa[List.append_assoc]at this
theorem vZ{M:Nat}{l:List ax}(h:qO l ts):fill M l=cD l (List.replicate (M-ts.length) ByteArray.empty):=by
 unfold fill;rw[pQ,h.last];split
 ·rename_i d
  rw[show(M:Int)-(ts.length:Int)=((M-ts.length:Nat):Int) by omega,oV _ _ χ]
 ·rw[show M-ts.length=0 by omega];rfl
def oW(M:Nat)(xs:List Run):List ByteArray:=mh xs++List.replicate (M-fT xs) ByteArray.empty
theorem zV{M:Nat}{xs:List Run}(h:∀r∈xs,1≤r.QS):fill M (eY [] xs)=cD [] (oW M xs):=by
 rw[pu h];have d:=qO.rows (ts:=mh xs) tQ;rw[List.nil_append]at d;rw[vZ d,oW,eD,qH]
end Ln
namespace Edf
def sumTo:Nat→(Nat→Nat)→Nat
 | 0,_=>0
 | n+1,f=>sumTo n f+f n
theorem jH{n:Nat}{f g:Nat→Nat}(h:∀i,i<n→f i≤g i):sumTo n f≤sumTo n g:=by
 induction n with
 | zero=>exact Γ _
 | succ n ih=>simp only[sumTo];exact Nat.add_le_add (ih fun i hi=>h i χ) (h n χ)
theorem sM{n:Nat}{f g:Nat→Nat}(h:∀i,i<n→f i≤g i){k:Nat}(hk:k<n)(hlt:f k<g k):sumTo n f<sumTo n g:=by
 induction n with
 | zero=>omega
 | succ n ih =>
  simp only[sumTo]
  rcases Ψ k n with h1|h1
  ·have:=ih (fun i hi=>h i χ) h1
   have:=h n χ;omega
  ·obtain rfl:k=n:=χ
   have:=jH (n:=k) (fun i hi=>h i χ);omega
theorem AW{n:Nat}{f:Nat→Nat}{k:Nat}(hk:k<n):f k≤sumTo n f:=by
 induction n with
 | zero=>omega
 | succ n ih =>
  simp only[sumTo]
  rcases Ψ k n with h1|h1
  ·have:=ih h1;omega
  ·obtain rfl:k=n:=χ
   omega
theorem qU{n:Nat}{f:Nat→Nat}{c:Nat}:sumTo n (fun i=>f i*c)=sumTo n f*c:=by
 induction n with
 | zero=>simp[sumTo]
 | succ n ih=>simp only[sumTo,ih,Nat.add_mul]
section
variable (n:Nat) (p b:Nat→Nat)
def due(t i:Nat):Nat:=(t / p i+1)*p i
def rel(t:Nat)(L:Nat→Nat)(i:Nat):Nat:=if t%p i=0 then b i else L i
def pick(t:Nat)(L:Nat→Nat):Nat→Option Nat
 | 0=>none
 | m+1=>match pick t L m with
  | none=>if 0<L m then some m else none
  | some k=>if 0<L m∧due p t m<due p t k then some m else some k
def dec(L:Nat→Nat)(o:Option Nat)(i:Nat):Nat:=if o=some i then L i-1 else L i
def st:Nat→Nat→Nat
 | 0=>fun _=>0
 | t+1=>dec (rel p b t (st t)) (pick p t (rel p b t (st t)) n)
def who(t:Nat):Option Nat:=pick p t (rel p b t (st n p b t)) n
end
variable {n:Nat} {p b:Nat→Nat}
theorem mT{t:Nat}{L:Nat→Nat}:∀{m:Nat},pick p t L m=none→∀i,i<m→L i=0:=by
 intro m
 induction m with
 | zero=>intro _ i hi;omega
 | succ m ih =>
  intro h i hi;simp only[pick]at h;split at h
  ·rename_i h0
   split at h
   ·simp at h
   ·rcases Ψ i m with h1|h1
    ·exact ih h0 i h1
    ·obtain rfl:i=m:=χ
     omega
  ·split at h<;>simp at h
theorem gi{t:Nat}{L:Nat→Nat}:∀{m k:Nat},pick p t L m=some k→k<m∧0<L k∧∀i,i<m→0<L i→due p t k<due p t i∨due p t k=due p t i∧k≤i:=by
 intro m
 induction m with
 | zero=>intro k h;simp[pick]at h
 | succ m ih =>
  intro k h;simp only[pick]at h;split at h
  ·rename_i h0
   split at h
   ·injection h with h
    subst h;refine⟨χ,by assumption,fun i hi hl=>?_⟩
    rcases Ψ i m with h1|h1
    ·have:=mT h0 i h1;omega
    ·obtain rfl:i=m:=χ
     exact .inr ⟨rfl,Γ _⟩
   ·simp at h
  ·rename_i q h0
   obtain⟨h1,h2,h3⟩:=ih h0;split at h
   ·rename_i hc
    injection h with h
    subst h;refine⟨χ,hc.1,fun i hi hl=>?_⟩
    rcases Ψ i m with h4|h4
    ·have:=h3 i h4 hl;omega
    ·obtain rfl:i=m:=χ
     exact .inr ⟨rfl,Γ _⟩
   ·rename_i hc
    injection h with h
    subst h;refine⟨χ,h2,fun i hi hl=>?_⟩
    rcases Ψ i m with h4|h4
    ·exact h3 i h4 hl
    ·obtain rfl:i=m:=χ
     have:¬ due p t i<due p t q:=fun h=>hc ⟨hl,h⟩
     omega
theorem wW{t:Nat}{L:Nat→Nat}{m k:Nat}(hk:k<m)(d:0<L k)(h:∀i,i<m→0<L i→due p t k<due p t i∨due p t k=due p t i∧k≤i):pick p t L m=some k:=by
 rcases hp:pick p t L m with _|q
 ·have:=mT hp k hk;omega
 ·obtain⟨g,j,l⟩:=gi hp
  have u:=h q g j;have v:=l k hk d;have:k=q:=χ
  rw[this]
theorem lL{t:Nat}{L:Nat→Nat}{m:Nat}(h:∀i,i<m→L i=0):pick p t L m=none:=by
 rcases hp:pick p t L m with _|q
 ·rfl
 ·obtain⟨d,g,_⟩:=gi hp
  have:=h q d;omega
def jE(p b:Nat→Nat)(t d l i:Nat):Nat:=(if t / p i+1≤d / p i then l else 0)+b i*(d / p i-(t / p i+1))
def Fits(n:Nat)(p b:Nat→Nat):Prop:=∀(c:Nat→Nat) (D:Nat),(∀i,i<n→c i*p i≤D)→sumTo n (fun i=>b i*c i)≤D
theorem fits_of{M:Nat}(l:0<M)(u:∀i,i<n→1≤p i∧M%p i=0)(v:sumTo n (fun i=>b i*(M / p i))≤M):Fits n p b:=by
 intro c D q;have d:sumTo n (fun i=>b i*c i)*M≤D*M:=by
  rw[←qU];have g:sumTo n (fun i=>b i*c i*M)≤sumTo n (fun i=>b i*(M / p i)*D):=jH fun i hi=>by
   obtain⟨w,h⟩:=u i hi;have j:M=M / p i*p i:=by have:=Nat.div_add_mod M (p i);rw[h,Nat.add_zero,Nat.mul_comm]at this;exact this.symm
   calc b i*c i*M=b i*c i*(M / p i*p i):=by rw[←j]
    _=b i*(M / p i)*(c i*p i):=by simp only[Nat.mul_assoc,Nat.mul_left_comm,Nat.mul_comm]
    _≤b i*(M / p i)*D:=Nat.mul_le_mul_left _ (q i hi)
  refine Δ g ?_;rw[qU,Nat.mul_comm];exact Nat.mul_le_mul_left _ v
 exact Nat.le_of_mul_le_mul_right d l
theorem xS{t d l i:Nat}(u:1≤p i)(j:True):jE p b (t+1) d (if(t+1)%p i=0 then b i else l) i≤jE p b t d l i:=by
 unfold jE
 by_cases h:(t+1)%p i=0
 ·rw[if_pos h]
  have e:(t+1) / p i=t / p i+1:=by
   have g:=Nat.succ_div (a:=t) (b:=p i);rw[if_pos (Nat.dvd_of_mod_eq_zero h)]at g;exact g
  rw[e];split
  ·have:d / p i-(t / p i+1)=(d / p i-(t / p i+1+1))+1:=χ
   rw[this,Nat.mul_add];split<;>omega
  ·have:d / p i-(t / p i+1+1)=0:=χ
   rw[this];simp
 ·rw[if_neg h]
  have e:(t+1) / p i=t / p i:=by
   have g:=Nat.succ_div (a:=t) (b:=p i);rw[if_neg (fun q=>h (Nat.mod_eq_zero_of_dvd q))]at g;exact g
  rw[e];exact Γ _
theorem pf(D:Fits n p b)(w:∀i,i<n→1≤p i){t d:Nat}(E:t<d){L:Nat→Nat}(h:sumTo n (fun i=>jE p b t d (L i) i)≤d-t):
 sumTo n (fun i=>jE p b t d (dec L (pick p t L n) i) i)≤d-(t+1):=by
 have g:∀i,i<n→(due p t i≤d↔t / p i+1≤d / p i):=fun i hi=>by
  unfold due;exact(Nat.le_div_iff_mul_le (w i hi)).symm
 have l:∀i,i<n→jE p b t d (dec L (pick p t L n) i) i≤jE p b t d (L i) i:=fun i _=>by
  unfold jE dec;split
  ·split<;>omega
  ·exact Γ _
 by_cases hk:∃k,pick p t L n=some k∧due p t k≤d
 ·obtain⟨k,hk,j⟩:=hk
  obtain⟨q,x,_⟩:=gi hk;have:=sM l q (by
   unfold jE dec;rw[if_pos hk,if_pos ((g k q).1 j),if_pos ((g k q).1 j)];omega)
  omega
 ·have H:∀i,i<n→t / p i+1≤d / p i→L i=0:=fun i hi v=>by
   rcases ϑ (L i)with u|u
   ·exact u
   ·rcases hq:pick p t L n with _|k
    ·exact mT hq i hi
    ·obtain⟨q,x,y⟩:=gi hq
     have I:=y i hi u;have J:=(g i hi).2 v;exact absurd ⟨k,hq,χ⟩ hk
  have B:sumTo n (fun i=>jE p b t d (dec L (pick p t L n) i) i)≤sumTo n (fun i=>b i*(d / p i-(t / p i+1))):=jH fun i hi=>by
   refine Δ (l i hi) ?_;unfold jE;split
   ·rename_i v
    rw[H i hi v];omega
   ·omega
  refine Δ B (D _ _ fun i hi=>?_);have C:=Nat.div_add_mod t (p i);have K:=Nat.mod_lt t (w i hi);have N:=Nat.div_mul_le_self d (p i);rw[Nat.sub_mul,Nat.add_mul,Nat.one_mul];rw[Nat.mul_comm]at C;omega
theorem inv(hf:Fits n p b)(hp:∀i,i<n→1≤p i):∀(t d:Nat),t≤d→sumTo n (fun i=>jE p b t d (rel p b t (st n p b t) i) i)≤d-t:=by
 intro t
 induction t with
 | zero =>
  intro d _;refine Δ (jH fun i hi=>?_) (hf (fun i=>d / p i) d fun i hi=>Nat.div_mul_le_self d (p i));unfold jE rel;rw[if_pos (Nat.zero_mod _),Nat.zero_div];split
  ·have:d / p i=(d / p i-(0+1))+1:=χ
   rw[this,Nat.mul_add];simp only[Nat.add_sub_cancel];omega
  ·rename_i hd
   have:d / p i=0:=Nat.eq_zero_of_not_pos fun h=>hd h
   rw[this];simp
 | succ t ih =>
  intro d hd;refine Δ (jH fun i hi=>?_) (pf hf hp (t:=t) (d:=d) χ (ih d χ));exact xS (hp i hi) trivial
theorem wY(h:Fits n p b)(j:∀i,i<n→1≤p i){t i:Nat}(hi:i<n)(q:t%p i=0):st n p b t i=0:=by
 cases t with
 | zero=>rfl
 | succ t =>
  have g:=pf h j (t:=t) (d:=t+1) χ (inv h j t (t+1) χ);have l:=AW (f:=fun i=>jE p b t (t+1) (dec (rel p b t (st n p b t)) (pick p t (rel p b t (st n p b t)) n) i) i) hi;have e:(t+1) / p i=t / p i+1:=by
   have g:=Nat.succ_div (a:=t) (b:=p i);rw[if_pos (Nat.dvd_of_mod_eq_zero q)]at g;exact g
  have u:jE p b t (t+1) (st n p b (t+1) i) i=st n p b (t+1) i+b i*(t / p i+1-(t / p i+1)):=by
   unfold jE;rw[e,if_pos (Γ _)]
  have v:jE p b t (t+1) (st n p b (t+1) i) i≤0:=Δ l (Δ g χ);omega
end Edf
namespace Edf
open Ln
variable {L D N:Nat→Nat} {k n:Nat} {l:List Job}
def set1(L:Nat→Nat)(k v:Nat)(i:Nat):Nat:=if i=k then v else L i
def bZ(L D:Nat→Nat):Nat→List Job
 | 0=>[]
 | m+1=>bZ L D m++(if 0<L m then[⟨m,D m,L m⟩]else[])
def nextOf(N:Nat→Nat):Nat→List Job
 | 0=>[]
 | m+1=>nextOf N m++[⟨m,N m,0⟩]
def kK(N:Nat→Nat)(k:Nat):Nat→List Job
 | 0=>[]
 | m+1=>kK N k m++(if m=k then[]else[⟨m,N m,0⟩])
theorem iP{L D:Nat→Nat}{x:Job}:∀{n:Nat},x∈bZ L D n↔∃i,i<n∧0<L i∧x=⟨i,D i,L i⟩:=by
 intro n
 induction n with
 | zero=>simp[bZ]
 | succ n ih =>
  simp only[bZ,List.mem_append,ih];constructor
  ·rintro(⟨i,h1,h2,h3⟩|h)
   ·exact⟨i,χ,h2,h3⟩
   ·split at h
    ·simp at h;exact⟨n,χ,by assumption,h⟩
    ·simp at h
  ·rintro⟨i,h1,h2,h3⟩
   rcases Ψ i n with h|h
   ·exact .inl ⟨i,h,h2,h3⟩
   ·obtain rfl:i=n:=χ
    exact .inr (by rw[if_pos h2];simp[h3])
theorem om{N:Nat→Nat}{x:Job}:∀{n:Nat},x∈nextOf N n↔∃i,i<n∧x=⟨i,N i,0⟩:=by
 intro n
 induction n with
 | zero=>simp[nextOf]
 | succ n ih =>
  simp only[nextOf,List.mem_append,ih,List.mem_singleton];constructor
  ·rintro(⟨i,h1,h3⟩|h)
   ·exact⟨i,χ,h3⟩
   ·exact⟨n,χ,h⟩
  ·rintro⟨i,h1,h3⟩
   rcases Ψ i n with h|h
   ·exact .inl ⟨i,h,h3⟩
   ·obtain rfl:i=n:=χ
    exact .inr h3
theorem dP{L L' D D':Nat→Nat}:∀{n:Nat},(∀i,i<n→L i=L' i)→(∀i,i<n→0<L i→D i=D' i)→bZ L D n=bZ L' D' n:=by
 intro n
 induction n with
 | zero=>intro _ _;rfl
 | succ n ih =>
  intro h1 h2;simp only[bZ];rw[ih (fun i hi=>h1 i χ) (fun i hi=>h2 i χ),←h1 n χ];split
  ·rename_i h;rw[h2 n χ h]
  ·rfl
theorem iJ{N N':Nat→Nat}:∀{n:Nat},(∀i,i<n→N i=N' i)→nextOf N n=nextOf N' n:=by
 intro n
 induction n with
 | zero=>intro _;rfl
 | succ n ih =>
  intro h1;simp only[nextOf];rw[ih (fun i hi=>h1 i χ),h1 n χ]
theorem sj{N N':Nat→Nat}{k:Nat}:∀{n:Nat},(∀i,i<n→i≠k→N i=N' i)→kK N k n=kK N' k n:=by
 intro n
 induction n with
 | zero=>intro _;rfl
 | succ n ih =>
  intro h1;simp only[kK];rw[ih (fun i hi=>h1 i χ)];split
  ·rfl
  ·rename_i h;rw[h1 n χ h]
theorem nextOf_length(N:Nat→Nat)(n:Nat):(nextOf N n).length=n:=by
 induction n with
 | zero=>rfl
 | succ n ih=>simp[nextOf,ih]
theorem jobsOf_length(L D:Nat→Nat)(n:Nat):(bZ L D n).length≤n:=by
 induction n with
 | zero=>simp[bZ]
 | succ n ih=>simp only[bZ,List.length_append];split<;>simp<;>omega
theorem ki{L D:Nat→Nat}{k v:Nat}(h0:L k=0)(hv:0<v):∀{n:Nat},k<n→(bZ (set1 L k v) D n).Perm (⟨k,D k,v⟩::bZ L D n):=by
 intro n
 induction n with
 | zero=>intro h;omega
 | succ n ih =>
  intro hk;simp only[bZ]
  rcases Ψ k n with h|h
  ·have e:set1 L k v n=L n:=by unfold set1;rw[if_neg χ]
   rw[e];exact(ih h).append_right _
  ·obtain rfl:k=n:=χ
   have e:bZ (set1 L k v) D k=bZ L D k:=dP (fun i hi=>by unfold set1;rw[if_neg χ]) (fun i hi _=>rfl);have e2:set1 L k v k=v:=by unfold set1;rw[if_pos rfl]
   rw[e,e2,if_pos hv,if_neg χ,List.append_nil];exact List.perm_append_singleton _ _
theorem vT(hk:k<n)(d:0<L k):(bZ L D n).Perm (⟨k,D k,L k⟩::bZ (set1 L k 0) D n):=by
 have h:=ki (L:=set1 L k 0) (D:=D) (k:=k) (v:=L k) (by unfold set1;rw[if_pos rfl]) d hk
 rwa[dP (L:=set1 (set1 L k 0) k (L k)) (L':=L) (fun i _=>by unfold set1;split<;>simp_all) (fun i _ _=>rfl)]at h
theorem lP{N:Nat→Nat}{k:Nat}:∀{n:Nat},k<n→(nextOf N n).Perm (⟨k,N k,0⟩::kK N k n):=by
 intro n
 induction n with
 | zero=>intro h;omega
 | succ n ih =>
  intro hk;simp only[nextOf,kK]
  rcases Ψ k n with h|h
  ·rw[if_neg χ]
   exact(ih h).append_right _
  ·obtain rfl:k=n:=χ
   have e:∀m,m≤k→kK N k m=nextOf N m:=by
    intro m
    induction m with
    | zero=>intro _;rfl
    | succ m ihm =>
     intro hm;simp only[kK,nextOf];rw[ihm χ,if_neg χ]
   rw[if_pos rfl,List.append_nil,e k (Γ _)];exact List.perm_append_singleton _ _
theorem vG{v:Nat}(hk:k<n):(nextOf (set1 N k v) n).Perm (⟨k,v,0⟩::kK N k n):=by
 have h:=lP (N:=set1 N k v) hk;rw[show set1 N k v k=v by unfold set1;rw[if_pos rfl]]at h
 rwa[sj (N:=set1 N k v) (N':=N) (fun i _ hi=>by unfold set1;rw[if_neg hi])]at h
theorem set_root{l:List Job}{r r':Job}(h:l[0]?=some r):∃d,l=r::d∧l.set 0 r'=r'::d:=by
 cases l with
 | nil=>simp at h
 | cons x d=>simp at h;subst h;exact⟨d,rfl,rfl⟩
theorem next_root{r:Job}(g:l.Perm (nextOf N n))(hh:bE l l.length)(j:l[0]?=some r):
 ∃k,k<n∧r=⟨k,N k,0⟩∧∀i,i<n→N k≤N i:=by
 obtain⟨k,hk,d⟩:=om.1 (g.mem_iff.1 (γ j));refine⟨k,hk,d,fun i hi=>?_⟩;obtain⟨q,h⟩:=List.getElem?_of_mem (g.mem_iff.2 (om.2 ⟨i,hi,rfl⟩));have:=hh.root (Γ _) q _ r (ο.1 h).1 h j;subst d;unfold jlt at this;simp only at this;omega
theorem xW{p:Nat→Nat}{t:Nat}{r:Job}(j:l.Perm (bZ L (due p t) n))(hh:bE l l.length)(v:l[0]?=some r):
 ∃k,k<n∧0<L k∧r=⟨k,due p t k,L k⟩∧pick p t L n=some k:=by
 obtain⟨k,hk,d,g⟩:=iP.1 (j.mem_iff.1 (γ v));refine⟨k,hk,d,g,wW hk d fun i hi h=>?_⟩;obtain⟨q,u⟩:=List.getElem?_of_mem (j.mem_iff.2 (iP.2 ⟨i,hi,h,rfl⟩));have:=hh.root (Γ _) q _ r (ο.1 u).1 u v;subst g;unfold jlt at this;simp only at this;omega
theorem heap_set_same{r:Job}{c:Int}(hh:bE l n)(u:l[0]?=some r):bE (l.set 0 ⟨r.need,r.due,c⟩) n:=by
 intro k x y j q g d;rw[List.getElem?_set_ne χ]at g
 rcases ϑ ((k-1) / 2)with h|h
 ·rw[h,List.getElem?_set_self (ο.1 u).1]at d
  injection d with d
  have:=hh k x r j q g (by rw[h];exact u);subst d;unfold jlt at *;exact this
 ·rw[List.getElem?_set_ne χ]at d
  exact hh k x y j q g d
theorem heap_set_under{r':Job}(hh:bE l n):dx (l.set 0 r') n 0:=by
 refine⟨fun k x y j q u d g=>?_,fun k a b _ _ _ h _ _=>χ⟩;rw[List.getElem?_set_ne χ]at d;rw[List.getElem?_set_ne χ]at g;exact hh k x y j q d g
end Edf
namespace Edf
open Ln
variable {n:Nat} {p b:Nat→Nat}
theorem rn{t i:Nat}(d:1≤p i):t<due p t i:=by
 unfold due;have g:=Nat.div_add_mod t (p i);have h:=Nat.mod_lt t d;rw[Nat.add_mul,Nat.one_mul,Nat.mul_comm];omega
theorem pS{t t' i:Nat}(j:1≤p i)(d:t≤t')(g:t'<due p t i):due p t' i=due p t i:=by
 have l:t / p i≤t' / p i:=Nat.div_le_div_right d;have q:t' / p i<t / p i+1:=(Nat.div_lt_iff_lt_mul j).2 g;have h:t' / p i=t / p i:=χ
 unfold due;rw[h]
theorem jZ{t t' i:Nat}(j:1≤p i)(l:t<t')(q:t'≤due p t i)(u:t'%p i=0):t'=due p t i:=by
 rcases Ψ t' (due p t i)with h|h
 ·have v:t / p i≤t' / p i:=Nat.div_le_div_right χ
  have w:t' / p i<t / p i+1:=(Nat.div_lt_iff_lt_mul j).2 h;have d:t' / p i=t / p i:=χ
  have g:=Nat.div_add_mod t' (p i);have x:=Nat.div_add_mod t (p i);rw[d]at g;omega
 ·omega
theorem Dm{t i:Nat}(h:t%p i=0):due p t i=t+p i:=by
 unfold due;have d:=Nat.div_add_mod t (p i);rw[Nat.add_mul,Nat.one_mul,Nat.mul_comm];omega
def nx(p:Nat→Nat)(t i:Nat):Nat:=if t%p i=0 then t else due p t i
structure HeadInv (n:Nat) (p b:Nat→Nat) (t:Nat) (wl nl:List Job):Prop where
 wait:wl.Perm (bZ (st n p b t) (due p t) n)
 next:nl.Perm (nextOf (nx p t) n)
structure RelInv (n:Nat) (p b:Nat→Nat) (t:Nat) (L N:Nat→Nat) (wl nl:List Job):Prop where
 wait:wl.Perm (bZ L (due p t) n)
 next:nl.Perm (nextOf N n)
 off:∀i,i<n→t%p i≠0→L i=st n p b t i∧N i=due p t i
 on:∀i,i<n→t%p i=0→(L i=0∧N i=t)∨(L i=b i∧N i=due p t i)
structure gD (n:Nat) (p b:Nat→Nat) (t:Nat) (wl nl:List Job):Prop where
 wait:wl.Perm (bZ (rel p b t (st n p b t)) (due p t) n)
 next:nl.Perm (nextOf (due p t) n)
def todo(n t:Nat)(N:Nat→Nat):Nat:=sumTo n fun i=>if N i=t then 1 else 0
theorem headInv_zero{wl nl:List Job}(hw:wl=[])(hn:nl.Perm (nextOf (fun _=>0) n)):HeadInv n p b 0 wl nl:=by
 refine⟨?_,?_⟩
 ·have e:∀m,bZ (st n p b 0) (due p 0) m=[]:=fun m=>by
   induction m with
   | zero=>rfl
   | succ m ih=>simp only[bZ,ih];rfl
  rw[hw,e]
 ·rw[iJ (N':=fun _=>0) (fun i _=>by unfold nx;rw[if_pos (Nat.zero_mod _)])]
  exact hn
theorem HeadInv.rel(g:Fits n p b)(j:∀i,i<n→1≤p i){t:Nat}{wl nl:List Job}(h:HeadInv n p b t wl nl):RelInv n p b t (st n p b t) (nx p t) wl nl:=
 ⟨h.wait,h.next,fun i _ d=>⟨rfl,by unfold nx;rw[if_neg d]⟩,fun i hi d =>.inl ⟨wY g j hi d,by unfold nx;rw[if_pos d]⟩⟩
theorem RelInv.step(O:∀i,i<n→1≤p i∧1≤b i){t:Nat}{L N:Nat→Nat}{wl nl:List Job}{r:Job}(h:RelInv n p b t L N wl nl)(hh:bE nl nl.length)(Q:nl[0]?=some r)(I:r.due=t):
 ∃k,k<n∧r.need=k∧∀q l,q.Perm (wl++[⟨k,((t+p k:Nat):Int),b k⟩])→l.Perm (nl.set 0 ⟨k,((t+p k:Nat):Int),0⟩) →
  RelInv n p b t (set1 L k (b k)) (set1 N k (t+p k)) q l∧todo n t (set1 N k (t+p k))<todo n t N:=by
 obtain⟨k,hk,g,J⟩:=next_root h.next hh Q
 have E:N k=t:=by rw[g]at I;simp only at I;omega
 have y:=(O k hk).1;have j:t%p k=0:=by
  rcases ϑ (t%p k)with u|u
  ·exact u
  ·have w:=(h.off k hk χ).2
   have:=rn (p:=p) (t:=t) y;omega
 have C:L k=0:=by
  rcases h.on k hk j with u|u
  ·exact u.1
  ·have:=rn (p:=p) (t:=t) y
   omega
 have x:=Dm (p:=p) (i:=k) j;refine⟨k,hk,by rw[g],fun q l U K=>⟨⟨?_,?_,?_,?_⟩,?_⟩⟩
 ·have w:=ki (L:=L) (D:=due p t) (v:=b k) C (O k hk).2 hk
  rw[x]at w;exact(U.trans (List.perm_append_singleton _ _)).trans ((h.wait.cons _).trans w.symm)
 ·obtain⟨V,w,R⟩:=set_root (r':=⟨k,((t+p k:Nat):Int),0⟩) Q
  rw[R]at K;have H:(r::V).Perm (⟨k,N k,0⟩::kK N k n):=by rw[←w];exact h.next.trans (lP hk)
  rw[g]at H;exact K.trans (((List.perm_cons _).1 H).cons _ |>.trans (vG hk).symm)
 ·intro i hi B
  have d:i≠k:=by rintro rfl;exact B j
  unfold set1;rw[if_neg d,if_neg d];exact h.off i hi B
 ·intro i hi B
  unfold set1
  by_cases d:i=k
  ·subst d;rw[if_pos rfl,if_pos rfl];exact .inr ⟨rfl,x.symm⟩
  ·rw[if_neg d,if_neg d];exact h.on i hi B
 ·refine sM (fun i _=>?_) hk ?_
  ·unfold set1
   by_cases d:i=k
   ·subst d;rw[if_pos rfl,if_neg χ];omega
   ·rw[if_neg d];exact Γ _
  ·simp only[set1,if_pos E];rw[if_pos trivial,if_neg χ];omega
theorem RelInv.after(x:∀i,i<n→1≤p i){t:Nat}{L N:Nat→Nat}{wl nl:List Job}(h:RelInv n p b t L N wl nl)(hh:bE nl nl.length)(w:∀r:Job,nl[0]?=some r→r.due≠(t:Int)):gD n p b t wl nl:=by
 have u:∀i,i<n→N i≠t:=by
  intro i hi;have E:nl.length=n:=by rw[h.next.length_eq,nextOf_length]
  obtain⟨r,v⟩:∃r,nl[0]?=some r:=⟨_,θ χ⟩;obtain⟨k,hk,l,j⟩:=next_root h.next hh v
  have q:=w r v;rw[l]at q;simp only at q;have y:=j i hi;have B:t≤N k:=by
   have C:=rn (p:=p) (t:=t) (x k hk)
   rcases ϑ (t%p k)with d|d
   ·rcases h.on k hk d with g|g<;>omega
   ·have:=(h.off k hk χ).2;omega
  omega
 refine⟨?_,?_⟩
 ·have e:=dP (L:=L) (L':=rel p b t (st n p b t)) (D:=due p t) (D':=due p t) (n:=n) (fun i hi=>?_) (fun i _ _=>rfl)
  ·rw[←e];exact h.wait
  ·unfold rel
   split
   ·rename_i d
    rcases h.on i hi d with g|g
    ·exact absurd g.2 (u i hi)
    ·exact g.1
   ·rename_i d;exact(h.off i hi d).1
 ·have e:=iJ (N:=N) (N':=due p t) (n:=n) (fun i hi=>?_)
  ·rw[←e];exact h.next
  ·rcases ϑ (t%p i)with d|d
   ·rcases h.on i hi d with g|g
    ·exact absurd g.2 (u i hi)
    ·exact g.2
   ·exact(h.off i hi χ).2
theorem Ei(hp:∀i,i<n→1≤p i){t k c:Nat}(hk:pick p t (rel p b t (st n p b t)) n=some k)(hc:c≤rel p b t (st n p b t) k)(hu:∀i,i<n→t+c≤due p t i):
 ∀s,s≤c→(1≤s→∀i,i<n→st n p b (t+s) i=if i=k then rel p b t (st n p b t) k-s else rel p b t (st n p b t) i)∧(s<c→who n p b (t+s)=some k):=by
 obtain⟨k1,k2,k3⟩:=gi hk;intro s
 induction s with
 | zero=>intro _;exact⟨fun h=>χ,fun _=>hk⟩
 | succ s ih =>
  intro hs;obtain⟨i1,i2⟩:=ih χ;have hw:=i2 χ;have hst:∀i,i<n→st n p b (t+(s+1)) i=if i=k then rel p b t (st n p b t) k-(s+1)else rel p b t (st n p b t) i:=by
   intro i hi;have h1:st n p b (t+(s+1)) i=dec (rel p b (t+s) (st n p b (t+s))) (who n p b (t+s)) i:=rfl;have h2:rel p b (t+s) (st n p b (t+s)) i=if i=k then rel p b t (st n p b t) k-s else rel p b t (st n p b t) i:=by
    rcases ϑ s with h0|h0
    ·subst h0
     rw[Nat.add_zero,Nat.sub_zero];split
     ·rename_i h;rw[h]
     ·rfl
    ·rw[←i1 h0 i hi]
     have h4:(t+s)%p i≠0:=fun h=>by
      have:=jZ (p:=p) (hp i hi) (t:=t) (t':=t+s) χ (by have:=hu i hi;omega) h;have:=hu i hi;omega
     unfold rel;rw[if_neg h4]
   rw[h1,hw];unfold dec;rw[h2]
   by_cases hik:i=k
   ·subst hik;rw[if_pos rfl,if_pos rfl,if_pos rfl];omega
   ·rw[if_neg (fun h=>hik (ι h).symm),if_neg hik,if_neg hik]
  refine⟨fun _=>hst,fun hlt=>?_⟩;have hrel:∀i,i<n→rel p b (t+(s+1)) (st n p b (t+(s+1))) i=if i=k then rel p b t (st n p b t) k-(s+1)else rel p b t (st n p b t) i:=fun i hi=>by
   rw[←hst i hi];unfold rel;rw[if_neg (fun h=>by
    have:=jZ (p:=p) (hp i hi) (t:=t) (t':=t+(s+1)) χ (by have:=hu i hi;omega) h;have:=hu i hi;omega)]
  have hdue:∀i,i<n→due p (t+(s+1)) i=due p t i:=fun i hi=>pS (hp i hi) χ (by have:=hu i hi;omega)
  refine wW k1 (by rw[hrel k k1,if_pos rfl];omega) fun i hi h0=>?_
  rw[hdue k k1,hdue i hi]
  by_cases hik:i=k
  ·subst hik;exact .inr ⟨rfl,Γ _⟩
  ·rw[hrel i hi,if_neg hik]at h0
   exact k3 i hi h0
theorem idle(hp:∀i,i<n→1≤p i){t c:Nat}(h0:∀i,i<n→rel p b t (st n p b t) i=0)(hu:∀i,i<n→t+c≤due p t i):
 ∀s,s≤c→(1≤s→∀i,i<n→st n p b (t+s) i=0)∧(s<c→who n p b (t+s)=none):=by
 intro s
 induction s with
 | zero=>intro _;exact⟨fun h=>χ,fun _=>lL h0⟩
 | succ s ih =>
  intro hs;obtain⟨i1,i2⟩:=ih χ;have hw:=i2 χ;have hst:∀i,i<n→st n p b (t+(s+1)) i=0:=by
   intro i hi;have h1:st n p b (t+(s+1)) i=dec (rel p b (t+s) (st n p b (t+s))) (who n p b (t+s)) i:=rfl;rw[h1,hw];unfold dec;rw[if_neg ξ]
   rcases ϑ s with h2|h2
   ·subst h2;exact h0 i hi
   ·unfold rel
    rw[if_neg (fun h=>by
     have:=jZ (p:=p) (hp i hi) (t:=t) (t':=t+s) χ (by have:=hu i hi;omega) h;have:=hu i hi;omega)]
    exact i1 h2 i hi
  refine⟨fun _=>hst,fun hlt=>lL fun i hi=>?_⟩;unfold rel;rw[if_neg (fun h=>by
   have:=jZ (p:=p) (hp i hi) (t:=t) (t':=t+(s+1)) χ (by have:=hu i hi;omega) h;have:=hu i hi;omega)]
  exact hst i hi
theorem mf(w:Fits n p b)(g:∀i,i<n→1≤p i){t t':Nat}(x:t<t')(j:∀i,i<n→t'≤due p t i){wl nl:List Job}(u:wl.Perm (bZ (st n p b t') (due p t) n))(q:nl.Perm (nextOf (due p t) n)):HeadInv n p b t' wl nl:=by
 refine⟨?_,?_⟩
 ·rw[dP (L':=st n p b t') (D':=due p t') (fun i _=>rfl) (fun i hi d=>?_)]at u
  ·exact u
  ·rcases Ψ t' (due p t i)with h|h
   ·exact(pS (g i hi) χ h).symm
   ·have l:t'=due p t i:=by have:=j i hi;omega
    have v:t'%p i=0:=by rw[l];unfold due;exact Nat.mul_mod_left _ _
    rw[wY w g hi v]at d;omega
 ·rw[iJ (N':=nx p t') (fun i hi=>?_)]at q
  ·exact q
  ·unfold nx
   split
   ·rename_i d;exact(jZ (g i hi) x (j i hi) d).symm
   ·rename_i d
    have l:t'≠due p t i:=fun h=>d (by rw[h];unfold due;exact Nat.mul_mod_left _ _)
    exact(pS (g i hi) χ (by have:=j i hi;omega)).symm
def nameOf(sub:Nat→ByteArray):Option Nat→ByteArray
 | none=>ByteArray.empty
 | some k=>sub k
def QV(n:Nat)(p b:Nat→Nat)(sub:Nat→ByteArray)(t:Nat):List ByteArray:=(List.range t).map fun s=>nameOf sub (who n p b s)
theorem uS{sub:Nat→ByteArray}{t c:Nat}{o:Option Nat}(h:∀s,s<c→who n p b (t+s)=o):QV n p b sub (t+c)=QV n p b sub t++List.replicate c (nameOf sub o):=by
 unfold QV;rw[List.range_add,List.map_append]
 congr 1
 rw[List.map_map]
 apply List.ext_getElem
 ·simp
 ·intro i d g
  simp at d;simp[h i d]
theorem rows_more{sub:Nat→ByteArray}{t c:Nat}{o:Option Nat}(h:∀s,s<c→who n p b (t+s)=o)(d:0<c):cD [] (QV n p b sub (t+c))=run (cD [] (QV n p b sub t)) (nameOf sub o) (c:Int):=by
 rw[uS h,eD,oV _ _ d]
theorem ticks_length{sub:Nat→ByteArray}(t:Nat):(QV n p b sub t).length=t:=by simp[QV]
end Edf
namespace Ln
variable {xs:List Run} {i:Nat}
def nP(xs:List Run)(i:Nat):Nat:=match xs[i]? with|some r=>r.per|none=>1
def nB(xs:List Run)(i:Nat):Nat:=match xs[i]? with|some r=>r.QS|none=>1
def nS(xs:List Run)(i:Nat):ByteArray:=match xs[i]? with|some r=>r.QI|none=>ByteArray.empty
theorem wZ{r:Run}(h:xs[i]?=some r):nP xs i=r.per:=by unfold nP;rw[h]
theorem wd{r:Run}(h:xs[i]?=some r):nB xs i=r.QS:=by unfold nB;rw[h]
theorem EJ{r:Run}(h:xs[i]?=some r):nS xs i=r.QI:=by unfold nS;rw[h]
def edf(xs:List Run)(t:Nat):List ax:=cD [] (Edf.QV xs.length (nP xs) (nB xs) (nS xs) t)
theorem oF(ts:List ByteArray):∀{l:List ax} {T:Nat},nc T l→nc (T+ts.length) (cD l ts)∧(cD l ts).length≤l.length+ts.length:=by
 induction ts with
 | nil=>intro l T h;exact⟨h,Γ _⟩
 | cons s ts ih =>
  intro l T h;have h1:=h.run χ s (t:=1) ψ;obtain⟨h2,h3⟩:=ih (T:=T+1) (by simpa using h1);have h4:=kS l s 1;refine⟨?_,?_⟩
  ·have e:(T:Int)+((s::ts).length:Nat)=((T+1:Nat):Int)+(ts.length:Nat):=η
   rw[e];exact h2
  ·have:(cD l (s::ts))=cD (run l s 1) ts:=rfl
   rw[this];simp;omega
end Ln
namespace Edf
open Ln
variable {n:Nat} {p b:Nat→Nat}
theorem ED:∀(t i:Nat),st n p b t i≤b i:=by
 intro t
 induction t with
 | zero=>intro i;exact Nat.zero_le _
 | succ t ih =>
  intro i;have h1:rel p b t (st n p b t) i≤b i:=by
   unfold rel;split
   ·exact Γ _
   ·exact ih i
  show dec (rel p b t (st n p b t)) _ i≤b i;unfold dec;split<;>omega
theorem DG(t i:Nat):rel p b t (st n p b t) i≤b i:=by
 unfold rel;split
 ·exact Γ _
 ·exact ED t i
theorem gD.busy(R:Fits n p b)(K:∀i,i<n→1≤p i){t:Nat}{wl nl:List Job}{x:Job}(h:gD n p b t wl nl)(hh:bE wl wl.length)(O:wl[0]?=some x):
 ∃k l:Nat,k<n∧0<l∧l≤b k∧x=⟨k,due p t k,l⟩∧∀c:Nat,1≤c→c≤l→(∀i,i<n→t+c≤due p t i)→(∀s,s<c→who n p b (t+s)=some k) ∧
  (c<l→HeadInv n p b (t+c) (wl.set 0 ⟨k,due p t k,l-c⟩) nl)∧(c=l→∀g,(g++[⟨k,due p t k,0⟩]).Perm (wl.set 0 ⟨k,due p t k,0⟩)→HeadInv n p b (t+c) g nl):=by
 obtain⟨k,hk,u,rfl,q⟩:=xW h.wait hh O;refine⟨k,_,hk,u,DG t k,rfl,fun c I J N=>?_⟩;have Q:=Ei K q J N;obtain⟨d,_⟩:=Q c (Γ _);have d:=d I;have j:=vT (L:=rel p b t (st n p b t)) (D:=due p t) hk u;refine⟨fun s W=>(Q s χ).2 W,fun V=>?_,fun U g w=>?_⟩
 ·obtain⟨B,C,E⟩:=set_root (r':=⟨k,due p t k,((rel p b t (st n p b t) k:Nat):Int)-c⟩) O
  rw[E];refine mf R K χ N ?_ h.next
  have H:B.Perm (bZ (set1 (rel p b t (st n p b t)) k 0) (due p t) n):=by
   have:=h.wait.trans j;rw[C]at this;exact(List.perm_cons _).1 this
  have y:=ki (L:=set1 (rel p b t (st n p b t)) k 0) (D:=due p t) (k:=k) (v:=rel p b t (st n p b t) k-c) (by simp[set1]) χ hk;have e:(((rel p b t (st n p b t) k-c:Nat):Int))=((rel p b t (st n p b t) k:Nat):Int)-c:=χ
  rw[e]at y;rw[dP (L':=set1 (set1 (rel p b t (st n p b t)) k 0) k (rel p b t (st n p b t) k-c)) (D':=due p t) (fun i hi=>?_) (fun _ _ _=>rfl)]
  ·exact(H.cons _).trans y.symm
  ·rw[d i hi];unfold set1;split<;>rfl
 ·obtain⟨B,C,E⟩:=set_root (r':=⟨k,due p t k,0⟩) O
  rw[E]at w;refine mf R K χ N ?_ h.next
  have H:B.Perm (bZ (set1 (rel p b t (st n p b t)) k 0) (due p t) n):=by
   have:=h.wait.trans j;rw[C]at this;exact(List.perm_cons _).1 this
  have y:g.Perm B:=(List.perm_cons _).1 ((List.perm_append_singleton _ _).symm.trans w);rw[dP (L':=set1 (rel p b t (st n p b t)) k 0) (D':=due p t) (fun i hi=>?_) (fun _ _ _=>rfl)]
  ·exact y.trans H
  ·rw[d i hi]
   unfold set1;split
   ·omega
   ·rfl
theorem gD.idle(w:Fits n p b)(j:∀i,i<n→1≤p i){t:Nat}{wl nl:List Job}(h:gD n p b t wl nl)(B:wl.length=0){c:Nat}(v:1≤c)(q:∀i,i<n→t+c≤due p t i):
 (∀s,s<c→who n p b (t+s)=none)∧HeadInv n p b (t+c) wl nl:=by
 obtain rfl:=List.eq_nil_of_length_eq_zero B;have u:∀i,i<n→rel p b t (st n p b t) i=0:=fun i hi=>by
  rcases ϑ (rel p b t (st n p b t) i)with d|d
  ·exact d
  ·have:=h.wait.mem_iff.2 (iP.2 ⟨i,hi,d,rfl⟩)
   simp at this
 have hi:=Edf.idle j u q;refine⟨fun s y=>(hi s χ).2 y,mf w j χ q ?_ h.next⟩;have g:=(hi c (Γ _)).1 v;have e:bZ (st n p b (t+c)) (due p t) n=[]:=by
  rcases hj:bZ (st n p b (t+c)) (due p t) n with _|⟨x,l⟩
  ·rfl
  ·obtain⟨i,hi,d,_⟩:=iP.1 (show x∈bZ (st n p b (t+c)) (due p t) n by rw[hj];simp)
   have:=g i hi;omega
 rw[e]
theorem gD.until(g:∀i,i<n→1≤p i){t:Nat}{wl nl:List Job}{r:Job}(h:gD n p b t wl nl)(hh:bE nl nl.length)(j:nl[0]?=some r):
 ∃u:Nat,r.due=u∧t<u∧∀i,i<n→u≤due p t i:=by
 obtain⟨k,hk,rfl,d⟩:=next_root h.next hh j
 exact⟨due p t k,rfl,rn (g k hk),d⟩
end Edf
namespace Ln
variable {M:Nat} {xs:List Run}
def cS(M:Nat)(l:List Run):Nat:=l.foldr (fun r n=>eK M r true+n) 0
theorem qE{M:Nat}{l:List Run}:∀{i s:Nat},bV M true i s l=none→s≤M→s+cS M l≤M:=by
 induction l with
 | nil=>intro i s _ h;simpa[cS]using h
 | cons r l ih =>
  intro i s h hm;simp only[bV]at h;split at h
  ·split at h
   ·simp at h
   ·have:=ih h χ
    simp only[cS,List.foldr_cons]at this⊢;omega
  ·simp at h
theorem nU(M:Nat)(l m:List Run):cS M (l++m)=cS M l+cS M m:=by
 induction l with
 | nil=>simp[cS]
 | cons r l ih=>simp only[cS,List.cons_append,List.foldr_cons]at ih⊢; omega
theorem sL(M:Nat)(xs:List Run):∀n,n≤xs.length→Edf.sumTo n (fun i=>nB xs i*(M / nP xs i))=cS M (xs.take n):=by
 intro n
 induction n with
 | zero=>intro _;simp[Edf.sumTo,cS]
 | succ n ih =>
  intro hn;have h1:xs[n]?=some xs[n]:=θ χ;rw[List.take_add_one,h1,nU,←ih χ];simp only[Edf.sumTo,wd h1,wZ h1,Option.toList_some];simp[cS,eK]
structure ij (M:Nat) (xs:List Run):Prop where
 each:∀r∈xs,1≤r.QS∧r.QS≤M∧r.QS≤r.per∧1≤r.per∧r.per≤M∧M%r.per=0
 sum:cS M xs≤M
theorem AI(h:bV M true 0 0 xs=none):ij M xs:=by
 refine⟨fun r w=>?_,by simpa using qE h (Nat.zero_le _)⟩;obtain⟨d,g,j⟩:=gc ((iS h).1 r w);obtain⟨_,l,q,u,v⟩:=j rfl;exact⟨d,g,l,q,u,v⟩
theorem ij.pos(h:ij M xs):∀i,i<xs.length→1≤nP xs i∧1≤nB xs i∧nB xs i≤nP xs i∧M%nP xs i=0:=fun i hi=>by
 have g:xs[i]?=some xs[i]:=θ hi;obtain⟨a,b,c,d,e,f⟩:=h.each _ (γ g);rw[wZ g,wd g];exact⟨d,a,c,f⟩
theorem ij.fits(d:0<M)(h:ij M xs):Edf.Fits xs.length (nP xs) (nB xs):=by
 refine Edf.fits_of d (fun i hi=>⟨(h.pos i hi).1,(h.pos i hi).2.2.2⟩) ?_;rw[sL M xs _ (Γ _),List.take_length];exact h.sum
theorem ij.len(h:ij M xs):xs.length≤M:=by
 refine Δ ?_ h.sum;have:∀l:List Run,(∀r∈l,1≤r.QS∧1≤r.per∧r.per≤M)→l.length≤cS M l:=fun l=>by
  induction l with
  | nil=>intro _;simp
  | cons r l ih =>
   intro h;have h1:=ih (fun x hx=>h x (List.mem_cons_of_mem _ hx));obtain⟨h2,h3,h4⟩:=h r ξ;have h5:1≤M / r.per:=(Nat.le_div_iff_mul_le h3).2 χ;have h6:1*1≤r.QS*(M / r.per):=Nat.mul_le_mul h2 h5;simp only[cS,List.foldr_cons,eK,if_true,List.length_cons]at h1⊢;omega
 exact this xs fun r hr=>by obtain⟨a,b,c,d,e,f⟩:=h.each r hr;exact⟨a,d,e⟩
theorem B4(xs:List Run)(M:Nat):qO (edf xs M) (Edf.QV xs.length (nP xs) (nB xs) (nS xs) M):=by
 have:=tQ.rows (ts:=Edf.QV xs.length (nP xs) (nB xs) (nS xs) M)
 simpa[edf]using this
theorem CP(xs:List Run)(M:Nat):iy (edf xs M)=M:=by
 rw[pQ,(B4 xs M).last,Edf.ticks_length]
theorem CO(xs:List Run)(M:Nat):(edf xs M).length≤M:=by
 have:=(oF (Edf.QV xs.length (nP xs) (nB xs) (nS xs) M) (oG (0:Nat))).2;rw[Edf.ticks_length]at this
 simpa[edf]using this
def eT(M:Nat)(xs:List Run):List ax×Int×Int:=
 match bV M true 0 0 xs with
 | some (i,e)=>([],i,e)
 | none=>eW (edf xs M)
end Ln
end
namespace Ck
structure Ram where
 pos:Int
 Q7:Nat
 size:Nat
structure Map where
 pos:Int
 of:ByteArray
 Q7:Nat
 write:Bool
 exec:Bool
structure bM where
 pos:Int
 name:ByteArray
 Q7:Nat
 size:Nat
 QA:List Map
structure Region where
 pos:Int
 name:ByteArray
 size:Nat
 fixed:Bool
 Q7:Nat
 big:Bool
 wx:Bool
 fill:Nat
 QQ:Bool
 text:ByteArray
structure mv where
 pos:Int
 how:Int
 to:ByteArray
 QK:Nat
structure aj where
 pos:Int
 name:ByteArray
 QN:Nat
 stopped:Bool
 QA:List Map
 QO:List mv
structure bP where
 pos:Int
 name:ByteArray
 QG:ByteArray
 to:ByteArray
 shared:Bool
 over:ByteArray
 how:Int
 QK:Nat
structure Irq where
 pos:Int
 name:ByteArray
 QG:ByteArray
 to:ByteArray
 QK:Nat
 masked:Bool
structure i8 where
 pos:Int
 name:ByteArray
 QG:ByteArray
 to:ByteArray
 how:Int
 depth:Nat
structure cK where
 pos:Int
 QN:Nat
 needs:Bool
 runs:List Run
structure jB where
 pos:Int
 name:ByteArray
 QJ:Nat
 QL:List cK
structure ii where
 pos:Int
 name:ByteArray
structure Ban where
 pos:Int
 QG:ByteArray
 to:ByteArray
structure aF where
 pos:Int
 name:ByteArray
 QE:List Ram
 Q5:List bM
 Q3:List Region
 Q4:List aj
 Q8:List bP
 QM:List Irq
 QB:List i8
 Q9:List jB
 QD:List ii
 QH:List ii
 QC:List ii
 QF:List Ban
abbrev Wr:=Int×Int
def say(ok:Bool)(Q7 rank:Int):List Wr:=if ok then[]else[(Q7,rank)]
def cU{α:Type}(f:α→α→List Wr):List α→List Wr
 | []=>[]
 | x::t=>t.flatMap (fun y=>f y x)++cU f t
theorem ci{α:Type}{f:α→α→List Wr}{x:α}{p:Wr}:∀{l:List α},p∈cU f (l++[x])↔p∈cU f l∨∃y∈l,p∈f x y
 | []=>by simp[cU]
 | a::l=>by
  simp only[cU,List.cons_append,List.mem_append,List.mem_flatMap,ci (l:=l),List.mem_cons,List.mem_singleton,List.mem_nil_iff,or_false];constructor
  ·rintro(⟨y,g|rfl,d⟩|h|⟨y,g,d⟩)
   ·exact .inl (.inl ⟨y,g,d⟩)
   ·exact .inr ⟨a,.inl rfl,d⟩
   ·exact .inl (.inr h)
   ·exact .inr ⟨y,.inr g,d⟩
  ·rintro((⟨y,g,d⟩|h)|⟨y,rfl|g,d⟩)
   ·exact .inl ⟨y,.inl g,d⟩
   ·exact .inr (.inl h)
   ·exact .inl ⟨x,.inr rfl,d⟩
   ·exact .inr (.inr ⟨y,g,d⟩)
abbrev Nm:=ByteArray×Int
def has(l:List Nm)(s:ByteArray):Bool:=l.any fun x=>decide (x.1=s)
def iH(named:ByteArray→Bool)(l:List Nm):List Wr:=
 l.flatMap (fun x=>say (named x.1) x.2 0)++cU (fun x y=>if x.1=y.1 then[(max x.2 y.2,1)]else[]) l
def gO(l:List ii)(of:List Nm):List Wr:=
 cU (fun x y=>[(max x.pos y.pos,1)]) l++l.flatMap fun x=>say (has of x.name) x.pos 2
def aF.QR(P:aF):List Nm:=P.Q5.map fun x=>(x.name,x.pos)
def aF.regs(P:aF):List Nm:=P.Q3.map fun x=>(x.name,x.pos)
def aF.QP(P:aF):List Nm:=P.Q4.map fun x=>(x.name,x.pos)
def aF.chans(P:aF):List Nm:=P.Q8.map fun x=>(x.name,x.pos)
def aF.irqn(P:aF):List Nm:=P.QM.map fun x=>(x.name,x.pos)
def aF.ques(P:aF):List Nm:=P.QB.map fun x=>(x.name,x.pos)
def aF.plns(P:aF):List Nm:=P.Q9.map fun x=>(x.name,x.pos)
def aF.things(P:aF):List Nm:=P.QR++P.regs
def Ca(P:aF)(x:Ban):List Wr:=say ((has P.QP x.QG||has P.QR x.QG)&&has P.QP x.to) x.pos 2
def uh(P:aF)(x:i8):List Wr:=
 say (decide (1≤x.how)&&decide (x.how≤3)&&(!decide (x.how=3)||decide (x.depth=0))) x.pos 0++say (has P.QP x.QG&&has P.QP x.to) x.pos 2
def ov(of:List Nm)(m:Map):List Wr:=say (has of m.of) m.pos 2
def ng(x:Region):List Wr:=
 say ((x.fixed||decide (x.Q7=0))&&(x.QQ||decide (x.text=ByteArray.empty))&&(!x.QQ||decide (x.fill=0))) x.pos 0
def sQ(P:aF)(r:mv):List Wr:=
 say (decide (1≤r.how)&&decide (r.how≤3)&&(decide (r.how=1)||decide (r.to=ByteArray.empty)&&decide (r.QK=0))) r.pos 0 ++
 say (!decide (r.how=1)||has P.QP r.to) r.pos 2
def jJ(P:aF)(x:aj):List Wr:=
 x.QA.flatMap (ov P.things)++(cU (fun r s=>[(max r.pos s.pos,1)]) x.QO++x.QO.flatMap (sQ P))
def pV(P:aF)(x:bP):List Wr:=
 say (decide (1≤x.how)&&decide (x.how≤4)&&(x.shared||decide (x.over=ByteArray.empty))&&(decide (x.how=1)||decide (x.QK=0))) x.pos 0 ++
 say (has P.QP x.QG&&has P.QP x.to&&(!x.shared||has P.regs x.over)) x.pos 2
def CE(P:aF)(x:Irq):List Wr:=say (has P.QR x.QG&&has P.QP x.to) x.pos 2
def sP(P:aF)(needs:Bool)(r:Run):List Wr:=
 say (needs||decide (r.per=0)) r.pos 0++say (decide (r.QI=ByteArray.empty)||has P.QP r.QI) r.pos 2
def gK(P:aF)(l:List cK):List Wr:=
 cU (fun x y=>say (!decide (x.QN=y.QN)) (max x.pos y.pos) 1) l++l.flatMap fun x=>x.runs.flatMap (sP P x.needs)
def ke(named:ByteArray→Bool)(P:aF):List Wr:=
 (iH named P.things++iH named P.QP++iH named P.chans++iH named P.irqn++iH named P.ques++iH named P.plns) ++
 (gO P.QH P.plns++gO P.QD P.QP++gO P.QC P.QP) ++
 P.QF.flatMap (Ca P)++P.QB.flatMap (uh P)++P.Q5.flatMap (fun x=>x.QA.flatMap (ov P.regs))++P.Q3.flatMap ng ++
 P.Q4.flatMap (jJ P)++P.Q8.flatMap (pV P)++P.QM.flatMap (CE P)++P.Q9.flatMap fun x=>gK P x.QL
def most{α:Type}(pos:α→Int)(n:Nat)(l:List α):List Wr:=
 match l[n]? with
 | some x=>[(pos x,0)]
 | none=>[]
def aF.spaces(P:aF):List (List Map):=P.Q4.map aj.QA++P.Q5.map bM.QA
def gR(P:aF):List Wr:=
 most Ram.pos 8 P.QE++most bM.pos 32 P.Q5++most Region.pos 256 P.Q3++most aj.pos 64 P.Q4++most bP.pos 256 P.Q8 ++
 most Irq.pos 64 P.QM++most i8.pos 64 P.QB++most Ban.pos 256 P.QF++most jB.pos 16 P.Q9++P.spaces.flatMap (most Map.pos 64)
structure dY where
 Q7:Nat
 size:Nat
 pos:Int
def clear(a b:dY):Bool:=
 if b.Q7<a.Q7 then decide (a.size=0)||decide (b.size≤a.Q7-b.Q7)else decide (b.size=0)||decide (a.size≤b.Q7-a.Q7)
def dW(rank:Int)(l:List dY):List Wr:=cU (fun a b=>say (clear a b) (max a.pos b.pos) rank) l
def below(Q7 size bound:Nat):Bool:=decide (Q7≤bound)&&decide (size≤bound-Q7)
def cq(s:Nat):List Ram→List Wr
 | []=>[]
 | x::t=>let s':=min (s+min x.size 67108865) 67108865;say (decide (s'≤67108864)) x.pos 4++cq s' t
def sh(x:dY):List Wr:=
 say (decide ((x.Q7 ||| x.size)%4096=0)) x.pos 0++say (decide (0<x.size)) x.pos 1++say (below x.Q7 x.size 4294967296) x.pos 2
def aF.parts(P:aF):List dY:=P.QE.map (fun x=>⟨x.Q7,x.size,x.pos⟩)++P.Q5.map fun x=>⟨x.Q7,x.size,x.pos⟩
def vm(P:aF):List Wr:=
 cq 0 P.QE++P.Q5.flatMap (fun x=>say (decide (x.size≤1048576)) x.pos 1)++P.parts.flatMap sh++dW 3 P.parts
def cO(big:Bool):Nat:=if big then 2097152 else 4096
abbrev M64:Nat:=18446744073709551616
def d6(Q7 size:Nat):Nat:=(Q7+size+(M64-1))%M64
open Classical in
noncomputable def eV(QE:List Ram)(a b:Nat):Bool:=decide (∀p,a≤p→p≤b→∃r∈QE,r.Q7≤p∧p≤d6 r.Q7 r.size)
noncomputable def kq(P:aF)(x:Region):List Wr:=
 if x.fixed then say (decide (x.size=0)||below x.Q7 x.size 4294967296&&eV P.QE x.Q7 (d6 x.Q7 x.size)) x.pos 2 else[]
def qt(x:Region):List Wr:=
 say (decide (x.fill<256)&&decide (x.text.size≤x.size)&&decide (x.text.size≤1048576)&&(decide (x.fill=0)||decide (x.size≤1048576))) x.pos 4
noncomputable def mN(P:aF)(x:Region):List Wr:=
 say (decide ((x.size ||| x.Q7)%cO x.big=0)) x.pos 0++say (decide (0<x.size)&&decide (x.size≤67108864)) x.pos 1++kq P x++qt x
def aF.fixed(P:aF):List dY:=(P.Q3.filter Region.fixed).map fun x=>⟨x.Q7,x.size,x.pos⟩
noncomputable def fY(P:aF):List Wr:=P.Q3.flatMap (mN P)++dW 3 P.fixed
structure jh where
 size:Nat
 big:Bool
 wx:Bool
def ep(P:aF)(s:ByteArray):Option jh:=
 match P.Q3.find? (fun x=>decide (x.name=s))with
 | some x=>some ⟨x.size,x.big,x.wx⟩
 | none=>(P.Q5.find? (fun x=>decide (x.name=s))).map fun x=>⟨x.size,false,false⟩
def aQ(P:aF)(s:ByteArray):jh:=(ep P s).getD ⟨0,false,false⟩
def bH(P:aF)(device:Bool)(pages:Nat):List Map→List Wr×Nat
 | []=>([],pages)
 | m::t =>
  let x:=aQ P m.of
  let n:=(pages+x.size / 4096)%M64
  let r:=bH P device n t
  (say (decide (m.Q7%cO x.big=0)) m.pos 0++say (below m.Q7 x.size 549755813888) m.pos 1++say (!m.exec || !device&&(x.wx || !m.write)) m.pos 3++say (decide (n≤131072)) m.pos 4++r.1,r.2)
def bJ(P:aF)(l:List Map):List dY:=l.map fun m=>⟨m.Q7,(aQ P m.of).size,m.pos⟩
def bO(P:aF)(device:Bool)(pages:Nat):List (List Map)→List Wr×Nat
 | []=>([],pages)
 | l::t =>
  let r:=bH P device pages l
  let q:=bO P device r.2 t
  (r.1++dW 2 (bJ P l)++q.1,q.2)
def lQ(P:aF):List Wr:=
 let a:=bO P false 0 (P.Q4.map aj.QA)
 a.1++(bO P true a.2 (P.Q5.map bM.QA)).1
def gU(P:aF)(c:bP):Bool:=
 (P.Q4.all fun x=>x.QA.all fun m =>!decide (m.of=c.over)||(decide (x.name=c.QG)||decide (x.name=c.to) && !m.write)) &&
 (P.Q5.all fun x=>x.QA.all fun m =>!decide (m.of=c.over)) &&
 (P.Q4.any fun x=>decide (x.name=c.QG)&&x.QA.any fun m=>decide (m.of=c.over)) &&
 (P.Q4.any fun x=>decide (x.name=c.to)&&x.QA.any fun m=>decide (m.of=c.over))
def lC(x:aj)(r:mv):List Wr:=
 say (!decide (r.how=1)||decide (r.QK<64)) r.pos 1++say (!decide (r.how=1) || !decide (r.to=x.name)) r.pos 3
def iC(x:aj):List Wr:=say (decide (x.QN<4)) x.pos 0++x.QO.flatMap (lC x)
def kQ(P:aF)(x:bP):List Wr:=
 say (!decide (x.how=1)||decide (x.QK<64)) x.pos 1++say (!decide (x.QG=x.to)) x.pos 3++say (!x.shared||gU P x) x.pos 4
def oD(x:i8):List Wr:=
 say (decide (x.how=3)||decide (1≤x.depth)&&decide (x.depth≤64)) x.pos 2++say (!decide (x.QG=x.to)) x.pos 3
def uO(P:aF):List Wr:=
 P.Q4.flatMap iC++P.QM.flatMap (fun x=>say (decide (x.QK<64)) x.pos 1)++P.Q8.flatMap (kQ P) ++
 P.QF.flatMap (fun x=>say (!decide (x.QG=x.to)) x.pos 3)++P.QB.flatMap oD
def lg(P:aF)(s:ByteArray):Nat:=
 match P.Q4.find? (fun x=>decide (x.name=s))with
 | some x=>x.QN
 | none=>0
def eE(e:Int):Int:=if e=90 then 4 else if e=80 then 5 else if e=91 then 6 else if e=93 then 7 else 8
def lS(flat:Nat→cK→Int×Int)(M:Nat)(y:cK):List Wr:=
 let r:=flat M y
 if r.2=0 then[]else[(if 0≤r.1 then((y.runs[r.1.toNat]?).map Run.pos).getD 0 else y.pos,eE r.2)]
def jW(P:aF)(y:cK):List Wr:=
 say (decide (y.QN<4)) y.pos 3++y.runs.flatMap fun r=>say (decide (r.QI=ByteArray.empty)||decide (lg P r.QI=y.QN)) r.pos 3
def kJ(flat:Nat→cK→Int×Int)(P:aF)(x:jB):List Wr:=
 if x.QJ<1∨65536<x.QJ then[(x.pos,2)]else x.QL.flatMap fun y=>jW P y++lS flat x.QJ y
def kc(flat:Nat→cK→Int×Int)(P:aF):List Wr:=
 say (decide (0<P.QH.length)) P.pos 0 ++
 (match P.Q9[1]? with|some x=>say (decide (0<P.QD.length)) x.pos 1|none=>[])++P.Q9.flatMap (kJ flat P)
def cQ(r:Int):Int:=if r=0 then 5 else if r=1 then 81 else 80
def kP(_:Int):Int:=4
def pt(r:Int):Int:=if r=0 then 33 else if r=1 then 32 else if r=2 then 34 else if r=3 then 35 else 36
def em(r:Int):Int:=if r=0 then 33 else if r=1 then 32 else if r=2 then 109 else if r=3 then 35 else 105
def eJ(r:Int):Int:=if r=0 then 33 else if r=1 then 40 else if r=2 then 35 else if r=3 then 104 else 4
def pr(r:Int):Int:=if r=0 then 100 else if r=1 then 101 else if r=2 then 113 else if r=3 then 102 else 103
def ek(r:Int):Int:=if r=0 then 107 else if r=1 then 106 else if r=2 then 92 else if r=3 then 100 else if r=4 then 90 else if r=5 then 80 else if r=6 then 91 else if r=7 then 93 else 4
def xU(_:Int):Int:=108
def Le(x y:Wr):Prop:=x.1<y.1∨x.1=y.1∧x.2≤y.2
instance (x y:Wr):Decidable (Le x y):=by unfold Le;exact inferInstance
def upd(o:Option Wr)(x:Wr):Option Wr:=
 match o with
 | none=>some x
 | some y=>if Le y x then some y else some x
def i9(L:List Wr):Option Wr→Prop
 | none=>∀x,x ∉ L
 | some m=>m∈L∧∀x∈L,Le m x
theorem Le.refl(x:Wr):Le x x := .inr ⟨rfl,Int.le_refl _⟩
theorem Le.trans{x y z:Wr}(h:Le x y)(k:Le y z):Le x z:=by unfold Le at *; omega
theorem Le.of_not{x y:Wr}(h:¬ Le x y):Le y x:=by unfold Le at *; omega
theorem i9.tell{L:List Wr}{o:Option Wr}(h:i9 L o)(x:Wr):i9 (x::L) (upd o x):=by
 cases o with
 | none=>exact⟨List.mem_cons_self,fun y d=>by rcases Ξ.1 d with rfl|d;exact Le.refl _;exact absurd d (h y)⟩
 | some m =>
  obtain⟨j,g⟩:=h
  by_cases hle:Le m x
  ·have:upd (some m) x=some m:=by simp[upd,hle]
   rw[this];exact⟨List.mem_cons_of_mem _ j,fun y d=>by rcases Ξ.1 d with rfl|d;exact hle;exact g y d⟩
  ·have:upd (some m) x=some x:=by simp[upd,hle]
   rw[this];exact⟨List.mem_cons_self,fun y d=>by rcases Ξ.1 d with rfl|d;exact Le.refl _;exact(Le.of_not hle).trans (g y d)⟩
theorem i9.congr{L L':List Wr}{o:Option Wr}(h:i9 L o)(d:∀p,p∈L↔p∈L'):i9 L' o:=by
 cases o with
 | none=>exact fun x g=>h x ((d x).2 g)
 | some m=>exact⟨(d m).1 h.1,fun x g=>h.2 x ((d x).2 g)⟩
theorem yZ:i9 [] none:=fun x d=>by simp at d
theorem i9.none_iff{L:List Wr}(h:i9 L none):L=[]:=List.eq_nil_iff_forall_not_mem.2 h
def ups(m:Map)(x:jh):List Nat:=(List.range ((m.Q7+x.size-1) / 2097152+1-m.Q7 / 2097152)).map (· + m.Q7 / 2097152)
def dL(P:aF)(m:Map):Bool:=
 match ep P m.of with
 | none=>false
 | some x=>decide (x.size≤67108864)&&below m.Q7 x.size 549755813888
def eL(P:aF)(l:List Map):List Nat:=l.flatMap fun m=>if(aQ P m.of).size=0 then[]else(ups m (aQ P m.of)).map (· / 512)
def eR(P:aF)(l:List Map):List Nat:=l.flatMap fun m=>if(aQ P m.of).size=0∨(aQ P m.of).big=true then[]else ups m (aQ P m.of)
def bQ(P:aF)(l:List Map):Nat:=if l.all (dL P)then 1+(eL P l).eraseDups.length+(eR P l).eraseDups.length else 0
def cH(flat:Nat→cK→Nat×Int×Int)(x:jB)(c:Nat):Nat:=
 match x.QL.find? (fun y=>decide (y.QN=c))with
 | some y=>(flat x.QJ y).1
 | none=>1
def dj(flat:Nat→cK→Nat×Int×Int)(P:aF):Nat:=
 248+16*(P.QE.length+P.Q5.length)+8*(P.Q4.length+P.Q5.length+P.Q8.length+P.QM.length+P.QB.length+P.Q9.length) +
 (P.Q3.map fun x=>24+(x.text.size+7) / 8*8).sum +
 (P.Q9.map fun x=>32+8*(cH flat x 0+cH flat x 1+cH flat x 2+cH flat x 3)).sum
def aF.tabled(P:aF):List (List Map):=P.Q4.map aj.QA++(P.Q5.map bM.QA).filter fun l=>decide (0<l.length)
def pages(flat:Nat→cK→Nat×Int×Int)(P:aF):Nat:=
 if P.tabled.all (fun l=>decide (0<bQ P l))then(P.tabled.map (bQ P)).sum+(dj flat P+4095) / 4096 else 0
def me(flat:Nat→cK→Nat×Int×Int)(P:aF):List Wr:=say (decide (pages flat P≤1024)) P.pos 0
def r7:List (List Wr×(Int→Int))→Int→Int→Prop
 | [],a,e=>a=0∧e=0
 | g::t,a,e=>(g.1=[]∧r7 t a e)∨∃r,(a,r)∈g.1∧(∀x∈g.1,Le (a,r) x)∧e=g.2 r
noncomputable def dV(named:ByteArray→Bool)(flat:Nat→cK→Nat×Int×Int)(P:aF):List (List Wr×(Int→Int)):=
 [(ke named P,cQ),(gR P,kP),(vm P,pt),(fY P,em),(lQ P,eJ),(uO P,pr),(kc (fun M y=>(flat M y).2) P,ek),(me flat P,xU)]
abbrev Sp:=Nat×Nat
def aW(l:List Sp)(p:Nat):Prop:=∃s∈l,s.1≤p∧p≤s.2
structure df (l:List Sp):Prop where
 some_:∀s∈l,s.1≤s.2
 apart:l.Pairwise fun a b=>a.2+1<b.1
def cI(out:List Sp)(x:Sp):List Sp:=
 match out.getLast? with
 | none=>[x]
 | some y=>if x.1≤y.2+1 then out.dropLast++[(y.1,max y.2 x.2)]else out++[x]
theorem fh{l:List Sp}{y:Sp}(h:l.getLast?=some y):∃t,l=t++[y]∧l.dropLast=t:=by
 obtain⟨t,d⟩:=List.getLast?_eq_some_iff.1 h;exact⟨t,d,by rw[d];simp⟩
theorem AL{out:List Sp}{x:Sp}(h:df out)(B:x.1≤x.2)(u:∀s∈out,s.1≤x.1):
 df (cI out x)∧(∀p,aW (cI out x) p↔aW out p∨(x.1≤p∧p≤x.2))∧∀s∈cI out x,s.1≤x.1:=by
 unfold cI
 cases hl:out.getLast? with
 | none =>
  have:out=[]:=List.getLast?_eq_none_iff.1 hl;subst this;refine⟨⟨by simpa using B,ξ⟩,fun p=>by simp[aW],ξ⟩
 | some y =>
  obtain⟨t,E,D⟩:=fh hl;subst E;have v:=List.pairwise_append.1 h.apart;have H:=h.some_ y ξ;have w:=u y ξ
  dsimp only
  split
  ·rename_i C
   rw[D];refine⟨⟨fun s d=>?_,List.pairwise_append.2 ⟨v.1,ξ,fun a l b q=>?_⟩⟩,fun p=>?_,fun s d=>?_⟩
   ·rcases Ω.1 d with d|d
    ·exact h.some_ s (by simp[d])
    ·have:s=(y.1,max y.2 x.2):=by simpa using d
     subst this;show y.1≤max y.2 x.2;omega
   ·have:b=(y.1,max y.2 x.2):=by simpa using q
    subst this;exact v.2.2 a l y ξ
   ·simp only[aW,List.mem_append,List.mem_singleton]
    constructor
    ·rintro⟨s,d|rfl,g,j⟩
     ·exact .inl ⟨s,.inl d,g,j⟩
     ·dsimp only at g j
      by_cases h3:p≤y.2
      ·exact .inl ⟨y,.inr rfl,g,h3⟩
      ·exact .inr ⟨χ,χ⟩
    ·rintro(⟨s,d|rfl,g,j⟩|⟨g,j⟩)
     ·exact⟨s,.inl d,g,j⟩
     ·exact⟨_,.inr rfl,g,by show p≤max s.2 x.2;omega⟩
     ·exact⟨_,.inr rfl,by show y.1≤p;omega,by show p≤max y.2 x.2;omega⟩
   ·rcases Ω.1 d with d|d
    ·exact u s (by simp[d])
    ·have:s=(y.1,max y.2 x.2):=by simpa using d
     subst this;exact w
  ·rename_i C
   refine⟨⟨fun s d=>?_,List.pairwise_append.2 ⟨h.apart,ξ,fun a l b q=>?_⟩⟩,fun p=>?_,fun s d=>?_⟩
   ·rcases Ω.1 d with d|d
    ·exact h.some_ s d
    ·have:s=x:=by simpa using d
     subst this;exact B
   ·have:b=x:=by simpa using q
    subst this
    rcases Ω.1 l with l|l
    ·have g:=v.2.2 a l y ξ
     omega
    ·have:a=y:=by simpa using l
     subst this;omega
   ·simp only[aW,List.mem_append,List.mem_singleton]
    constructor
    ·rintro⟨s,(d|rfl)|rfl,g,j⟩
     ·exact .inl ⟨s,.inl d,g,j⟩
     ·exact .inl ⟨s,.inr rfl,g,j⟩
     ·exact .inr ⟨g,j⟩
    ·rintro(⟨s,d|rfl,g,j⟩|⟨g,j⟩)
     ·exact⟨s,.inl (.inl d),g,j⟩
     ·exact⟨s,.inl (.inr rfl),g,j⟩
     ·exact⟨x,.inr rfl,g,j⟩
   ·rcases Ω.1 d with d|d
    ·exact u s d
    ·have:s=x:=by simpa using d
     subst this;exact Γ _
def aa(l:List Sp):List Sp:=l.foldl cI []
theorem ef(l:List Sp)(x:Sp):aa (l++[x])=cI (aa l) x:=by simp[aa]
theorem nL:∀(n:Nat) (l:List Sp),l.length=n→(∀s∈l,s.1≤s.2)→l.Pairwise (fun a b=>a.1≤b.1)→df (aa l)∧(∀p,aW (aa l) p↔aW l p)∧∀x,(∀s∈l,s.1≤x)→∀s∈aa l,s.1≤x
 | 0,l,hl,_,_=>by
  have:l=[]:=List.length_eq_zero_iff.1 hl;subst this;exact⟨⟨by simp[aa],by simp[aa]⟩,fun p=>by simp[aa,aW],fun x _ s q=>by simp[aa]at q⟩
 | n+1,l,hl,q,hp=>by
  obtain⟨t,x,rfl⟩:∃t x,l=t++[x]:=by
   have d:l≠[]:=by intro e;rw[e]at hl;simp at hl
   exact⟨l.dropLast,l.getLast d,(List.dropLast_concat_getLast d).symm⟩
  have g:=List.pairwise_append.1 hp;obtain⟨B,C,D⟩:=nL n t (by simpa using hl) (fun s h=>q s (by simp[h])) g.1;have w:∀s∈aa t,s.1≤x.1:=D x.1 fun s h=>g.2.2 s h x ξ
  obtain⟨E,H,I⟩:=AL B (q x ξ) w;rw[ef];refine⟨E,fun p=>?_,fun z y s v=>?_⟩
  ·rw[H,C]
   simp only[aW,List.mem_append,List.mem_singleton];constructor
   ·rintro(⟨s,u,j⟩|h)
    ·exact⟨s,.inl u,j⟩
    ·exact⟨x,.inr rfl,h⟩
   ·rintro⟨s,u|rfl,j⟩
    ·exact .inl ⟨s,u,j⟩
    ·exact .inr j
  ·exact Δ (I s v) (y x ξ)
theorem vg{l:List Sp}(h:df l){a b i:Nat}(E:a≤b)(L:∀j s,j<i→l[j]?=some s→s.2<a)(N:∀s,l[i]?=some s→a≤s.2):
 (∀p,a≤p→p≤b→aW l p)↔∃s,l[i]?=some s∧s.1≤a∧b≤s.2:=by
 constructor
 ·intro K
  obtain⟨s,D,I,U⟩:=K a (Γ _) E;obtain⟨j,C⟩:=List.getElem?_of_mem D;have O:i≤j:=by
   rcases Ψ j i with g|g
   ·have:=L j s g C;omega
   ·exact g
  obtain⟨x,d⟩:∃s,l[i]?=some s:=⟨_,θ (by have:=(ο.1 C).1;omega)⟩;have J:x=s∧i=j:=by
   rcases Ψ i j with g|g
   ·obtain⟨q,v⟩:=ο.1 d
    obtain⟨H,w⟩:=ο.1 C;have:=List.pairwise_iff_getElem.1 h.apart i j q H g;rw[v,w]at this;have:=N x d;omega
   ·have:i=j:=χ
    subst this;exact⟨ι (d.symm.trans C),rfl⟩
  obtain⟨v,w⟩:=J;subst v;subst w;refine⟨x,d,I,?_⟩
  rcases Ψ x.2 b with g|g
  ·exfalso
   -- the point behind the span is in none
   obtain⟨u,V,W,X⟩:=K (x.2+1) χ χ;obtain⟨k,hk⟩:=List.getElem?_of_mem V;obtain⟨q,v⟩:=ο.1 d;obtain⟨B,w⟩:=ο.1 hk
   rcases Nat.lt_trichotomy i k with y|y|y
   ·have:=List.pairwise_iff_getElem.1 h.apart i k q B y
    rw[v,w]at this;omega
   ·subst y
    have:x=u:=by rw[←v,←w]
    subst this;omega
   ·have:=List.pairwise_iff_getElem.1 h.apart k i B q y
    have Y:=h.some_ x D;rw[v,w]at this;omega
  ·exact g
 ·rintro⟨s,D,g,y⟩ p Q R
  exact⟨s,γ D,χ,χ⟩
variable {b:Bool} {x:Nat} {named:ByteArray→Bool}
theorem bk{α β:Type}{f:α→List β}{l:List α}:l.flatMap f=[]↔∀x∈l,f x=[]:=by
 rw[List.flatMap_eq_nil_iff]
theorem b8{a r:Int}:say b a r=[]↔b=true:=by cases b<;>simp[say]
theorem dq{α:Type}{f:α→α→List Wr}:∀{l:List α},cU f l=[]↔∀(i j:Nat) (x y:α),j<i→l[i]?=some x→l[j]?=some y→f x y=[]
 | []=>by simp[cU]
 | a::l=>by
  simp only[cU,List.append_eq_nil_iff,bk,dq (l:=l)];constructor
  ·rintro⟨u,v⟩ i j x y q d g
   cases i with
   | zero=>omega
   | succ i =>
    simp only[List.getElem?_cons_succ]at d
    cases j with
    | zero =>
     simp only[List.getElem?_cons_zero,Option.some.injEq]at g;subst g;exact u x (γ d)
    | succ j =>
     simp only[List.getElem?_cons_succ]at g;exact v i j x y χ d g
  ·intro h
   refine⟨fun x d=>?_,fun i j x y q d g=>h (i+1) (j+1) x y χ (by simpa using d) (by simpa using g)⟩;obtain⟨i,hi⟩:=List.getElem?_of_mem d;exact h (i+1) 0 x a χ (by simpa using hi) ξ
theorem ut{a b n:Nat}:(a ||| b)%2 ^ n=0↔a%2 ^ n=0∧b%2 ^ n=0:=by
 rw[Nat.or_mod_two_pow,Nat.or_eq_zero_iff]
def Off(a b c d:Nat):Prop:=a+b≤c∨c+d≤a
theorem mn{a b:dY}(d:0<a.size)(g:0<b.size)(h:clear a b=true):Off a.Q7 a.size b.Q7 b.size:=by
 unfold clear at h;unfold Off;split at h
 ·simp only[Bool.or_eq_true,decide_eq_true_eq]at h
  omega
 ·simp only[Bool.or_eq_true,decide_eq_true_eq]at h
  omega
theorem jy{a s b:Nat}:below a s b=true↔a+s≤b:=by
 unfold below;simp only[Bool.and_eq_true,decide_eq_true_eq];omega
theorem wN:∀{l:List Ram} {s:Nat},s≤67108864→cq s l=[]→s+(l.map Ram.size).sum≤67108864
 | [],s,hs,_=>by simpa using hs
 | x::t,s,hs,h=>by
  simp only[cq,List.append_eq_nil_iff,b8,decide_eq_true_eq]at h;obtain⟨d,g⟩:=h;have e:min (s+min x.size 67108865) 67108865=s+x.size:=χ
  rw[e]at d g;have:=wN d g;simp only[List.map_cons,List.sum_cons];omega
structure pq (P:aF):Prop where
 Qe:∀x∈P.QE,0<x.size∧x.size≤67108864∧x.Q7+x.size≤4294967296∧x.Q7%4096=0∧x.size%4096=0
 sum:(P.QE.map Ram.size).sum≤67108864
 dev:∀x∈P.Q5,0<x.size∧x.size≤1048576∧x.Q7+x.size≤4294967296∧x.Q7%4096=0∧x.size%4096=0
 rr:∀(i j:Nat) (x y:Ram),j<i→P.QE[i]?=some x→P.QE[j]?=some y→Off x.Q7 x.size y.Q7 y.size
 dd:∀(i j:Nat) (x y:bM),j<i→P.Q5[i]?=some x→P.Q5[j]?=some y→Off x.Q7 x.size y.Q7 y.size
 dr:∀(x:bM) (y:Ram),x∈P.Q5→y∈P.QE→Off x.Q7 x.size y.Q7 y.size
theorem Bt{x:dY}(h:sh x=[]):0<x.size∧x.Q7+x.size≤4294967296∧x.Q7%4096=0∧x.size%4096=0:=by
 simp only[sh,List.append_eq_nil_iff,b8,decide_eq_true_eq,jy]at h;obtain⟨⟨g,j⟩,l⟩:=h;have d:=(ut (n:=12)).1 g;exact⟨j,l,d.1,d.2⟩
theorem Bd{l:List Nat}{x:Nat}(h:x∈l):x≤l.sum:=by
 induction l with
 | nil=>simp at h
 | cons a l ih =>
  rcases Ξ.1 h with rfl|h
  ·simp
  ·have:=ih h;simp;omega
theorem Dv{P:aF}(h:vm P=[]):pq P:=by
 simp only[vm,List.append_eq_nil_iff,bk,b8,decide_eq_true_eq]at h;obtain⟨⟨⟨H,I⟩,J⟩,K⟩:=h;have w:∀x∈P.parts,0<x.size∧x.Q7+x.size≤4294967296∧x.Q7%4096=0∧x.size%4096=0:=fun x g=>Bt (J x g)
 have u:(P.QE.map Ram.size).sum≤67108864:=by simpa using wN (s:=0) χ H
 have B:∀(i j:Nat) (x y:dY),j<i→P.parts[i]?=some x→P.parts[j]?=some y→Off x.Q7 x.size y.Q7 y.size:=fun i j x y l g q=>by
  have C:=dq.1 K i j x y l g q;rw[b8]at C;exact mn (w x (γ g)).1 (w y (γ q)).1 C
 have v:∀(i:Nat) (x:Ram),P.QE[i]?=some x→P.parts[i]?=some ⟨x.Q7,x.size,x.pos⟩:=fun i x g=>by
  have E:=(ο.1 g).1;unfold aF.parts;rw[List.getElem?_append_left (by simpa using E),List.getElem?_map,g];rfl
 have gd:∀(i:Nat) (x:bM),P.Q5[i]?=some x→P.parts[P.QE.length+i]?=some ⟨x.Q7,x.size,x.pos⟩:=fun i x g=>by
  unfold aF.parts;rw[List.getElem?_append_right ξ];simp only[List.length_map,Nat.add_sub_cancel_left,List.getElem?_map,g];rfl
 refine⟨fun x g=>?_,u,fun x g=>?_,fun i j x y l g q=>B i j _ _ l (v i x g) (v j y q),fun i j x y l g q=>B _ _ _ _ χ (gd i x g) (gd j y q),fun x y g q=>?_⟩
 ·obtain⟨i,hi⟩:=List.getElem?_of_mem g
  obtain⟨a,b,c,d⟩:=w _ (γ (v i x hi));have:=Bd (List.mem_map_of_mem (f:=Ram.size) g);exact⟨a,χ,b,c,d⟩
 ·obtain⟨i,hi⟩:=List.getElem?_of_mem g
  obtain⟨a,b,c,d⟩:=w _ (γ (gd i x hi));exact⟨a,I x g,b,c,d⟩
 ·obtain⟨i,hi⟩:=List.getElem?_of_mem g
  obtain⟨j,D⟩:=List.getElem?_of_mem q;have E:=(ο.1 D).1;exact B _ _ _ _ χ (gd i x hi) (v j y D)
theorem rZ{l:List Nm}{s:ByteArray}:has l s=true↔∃p,(s,p)∈l:=by
 unfold has;simp only[List.any_eq_true,decide_eq_true_eq,Prod.exists];constructor
 ·rintro⟨a,b,h,rfl⟩;exact⟨b,h⟩
 ·rintro⟨p,h⟩;exact⟨s,p,h,rfl⟩
def E6(l:List Nm):Prop:=∀(i j:Nat) (x y:Nm),j<i→l[i]?=some x→l[j]?=some y→x.1≠y.1
theorem dD{l:List Nm}(h:iH named l=[]):(∀x∈l,named x.1=true)∧E6 l:=by
 simp only[iH,List.append_eq_nil_iff,bk,b8]at h;refine⟨h.1,fun i j x y d g q e=>?_⟩;have:=dq.1 h.2 i j x y d g q;rw[if_pos e]at this
 cases this
theorem mQ{l:List ii}{of:List Nm}(h:gO l of=[]):l.length≤1∧∀x∈l,has of x.name=true:=by
 simp only[gO,List.append_eq_nil_iff,bk,b8]at h;refine⟨?_,h.2⟩
 rcases Ψ l.length 2 with d|d
 ·omega
 ·have:=dq.1 h.1 1 0 l[1] l[0] χ (θ χ) (θ χ)
  cases this
structure xO (named:ByteArray→Bool) (P:aF):Prop where
 flat:∀l∈[P.things,P.QP,P.chans,P.irqn,P.ques,P.plns],∀x∈l,named x.1=true
 uniq:∀l∈[P.things,P.QP,P.chans,P.irqn,P.ques,P.plns],E6 l
 QH:P.QH.length≤1∧∀x∈P.QH,has P.plns x.name=true
 QD:P.QD.length≤1∧∀x∈P.QD,has P.QP x.name=true
 QC:P.QC.length≤1∧∀x∈P.QC,has P.QP x.name=true
 ban:∀x∈P.QF,(has P.QP x.QG=true∨has P.QR x.QG=true)∧has P.QP x.to=true
 queue:∀x∈P.QB,1≤x.how∧x.how≤3∧(x.how=3→x.depth=0)∧has P.QP x.QG=true∧has P.QP x.to=true
 Qh:∀x∈P.Q5,∀m∈x.QA,has P.regs m.of=true
 region:∀x∈P.Q3,(x.fixed=true∨x.Q7=0)∧(x.QQ=true∨x.text=ByteArray.empty)∧(x.QQ=true→x.fill=0)
 Qg:∀x∈P.Q4,∀m∈x.QA,has P.things m.of=true
 QO:∀x∈P.Q4,x.QO.length≤1
 rule:∀x∈P.Q4,∀r∈x.QO,1≤r.how∧r.how≤3∧(r.how=1∧has P.QP r.to=true∨r.how≠1∧r.to=ByteArray.empty∧r.QK=0)
 channel:∀x∈P.Q8,1≤x.how∧x.how≤4∧(x.shared=true∨x.over=ByteArray.empty)∧(x.how=1∨x.QK=0)∧has P.QP x.QG=true∧has P.QP x.to=true∧(x.shared=true→has P.regs x.over=true)
 irq:∀x∈P.QM,has P.QR x.QG=true∧has P.QP x.to=true
 cpus:∀x∈P.Q9,∀(i j:Nat) (y z:cK),j<i→x.QL[i]?=some y→x.QL[j]?=some z→y.QN≠z.QN
 run:∀x∈P.Q9,∀y∈x.QL,∀r∈y.runs,(y.needs=true∨r.per=0)∧(r.QI=ByteArray.empty∨has P.QP r.QI=true)
theorem AJ{P:aF}(h:ke named P=[]):xO named P:=by
 simp only[ke,List.append_eq_nil_iff,bk]at h;obtain⟨⟨⟨⟨⟨⟨⟨⟨⟨⟨⟨⟨⟨⟨H,I⟩,J⟩,K⟩,L⟩,N⟩,⟨b1,b2⟩,Q⟩,c1⟩,c2⟩,R⟩,U⟩,w⟩,V⟩,W⟩,O⟩:=h;refine⟨?_,?_,mQ b1,mQ b2,mQ Q,fun x d=>?_,fun x d=>?_,fun x d m C=>?_,fun x d=>?_,fun x d m C=>?_,fun x d=>?_,fun x d r D=>?_,fun x d=>?_,fun x d=>?_,fun x d i j y z B E Y=>?_,fun x d y E r D=>?_⟩
 ·intro l g
  simp only[List.mem_cons,List.mem_nil_iff,or_false]at g
  rcases g with rfl|rfl|rfl|rfl|rfl|rfl
  ·exact(dD H).1
  ·exact(dD I).1
  ·exact(dD J).1
  ·exact(dD K).1
  ·exact(dD L).1
  ·exact(dD N).1
 ·intro l g
  simp only[List.mem_cons,List.mem_nil_iff,or_false]at g
  rcases g with rfl|rfl|rfl|rfl|rfl|rfl
  ·exact(dD H).2
  ·exact(dD I).2
  ·exact(dD J).2
  ·exact(dD K).2
  ·exact(dD L).2
  ·exact(dD N).2
 ·have:=c1 x d
  simpa only[Ca,b8,Bool.and_eq_true,Bool.or_eq_true]using this
 ·have:=c2 x d
  simp only[uh,List.append_eq_nil_iff,b8,Bool.and_eq_true,Bool.or_eq_true,decide_eq_true_eq,Bool.not_eq_true',decide_eq_false_iff_not]at this;obtain⟨⟨⟨p,q⟩,r⟩,s,t⟩:=this;exact⟨p,q,fun e=>r.resolve_left (fun h=>h e),s,t⟩
 ·exact b8.1 (R x d m C)
 ·have:=U x d
  simp only[ng,b8,Bool.and_eq_true,Bool.or_eq_true,decide_eq_true_eq,Bool.not_eq_true']at this;obtain⟨⟨p,q⟩,r⟩:=this;exact⟨p,q,fun e=>r.resolve_left (fun h=>by rw[h]at e;cases e)⟩
 ·have:=w x d
  simp only[jJ,List.append_eq_nil_iff,bk]at this;exact b8.1 (this.1 m C)
 ·have:=w x d
  simp only[jJ,List.append_eq_nil_iff,bk]at this
  rcases Ψ x.QO.length 2 with X|X
  ·omega
  ·have:=dq.1 this.2.1 1 0 x.QO[1] x.QO[0] χ (θ χ) (θ χ)
   cases this
 ·have:=w x d
  simp only[jJ,List.append_eq_nil_iff,bk]at this;have:=this.2.2 r D;simp only[sQ,List.append_eq_nil_iff,b8,Bool.and_eq_true,Bool.or_eq_true,decide_eq_true_eq,Bool.not_eq_true',decide_eq_false_iff_not]at this;obtain⟨⟨⟨p,q⟩,Z⟩,s⟩:=this;refine⟨p,q,?_⟩
  by_cases e:r.how=1
  ·exact .inl ⟨e,s.resolve_left (fun h=>h e)⟩
  ·exact .inr ⟨e,Z.resolve_left e⟩
 ·have:=V x d
  simp only[pV,List.append_eq_nil_iff,b8,Bool.and_eq_true,Bool.or_eq_true,decide_eq_true_eq,Bool.not_eq_true']at this;obtain⟨⟨⟨⟨p,q⟩,r⟩,s⟩,⟨t,u⟩,v⟩:=this;exact⟨p,q,r,s,t,u,fun e=>v.resolve_left (fun h=>by rw[h]at e;cases e)⟩
 ·have:=W x d
  simpa only[CE,b8,Bool.and_eq_true]using this
 ·have:=O x d
  simp only[gK,List.append_eq_nil_iff,bk]at this;have:=dq.1 this.1 i j y z B E Y
  simpa only[b8,Bool.not_eq_true',decide_eq_false_iff_not]using this
 ·have:=O x d
  simp only[gK,List.append_eq_nil_iff,bk]at this;have:=this.2 y E r D
  simpa only[sP,List.append_eq_nil_iff,b8,Bool.or_eq_true,decide_eq_true_eq]using this
theorem AK{α:Type}{pos:α→Int}{n:Nat}{l:List α}:most pos n l=[]↔l.length≤n:=by
 unfold most
 rcases Ψ n l.length with h|h
 ·rw[θ h];simp;omega
 ·rw[List.getElem?_eq_none h];simp[h]
structure uM (P:aF):Prop where
 QE:P.QE.length≤8
 Q5:P.Q5.length≤32
 Q3:P.Q3.length≤256
 Q4:P.Q4.length≤64
 Q8:P.Q8.length≤256
 QM:P.QM.length≤64
 QB:P.QB.length≤64
 QF:P.QF.length≤256
 Q9:P.Q9.length≤16
 submaps:∀x∈P.Q4,x.QA.length≤64
 devmaps:∀x∈P.Q5,x.QA.length≤64
theorem yq{P:aF}(h:gR P=[]):uM P:=by
 simp only[gR,List.append_eq_nil_iff,bk,AK]at h;obtain⟨⟨⟨⟨⟨⟨⟨⟨⟨a,b⟩,c⟩,d⟩,e⟩,f⟩,g⟩,i⟩,j⟩,k⟩:=h;refine⟨a,b,c,d,e,f,g,i,j,fun x l=>k _ ?_,fun x l=>k _ ?_⟩
 ·exact List.mem_append_left _ (List.mem_map_of_mem l)
 ·exact List.mem_append_right _ (List.mem_map_of_mem l)
theorem oe{α:Type}{f:α→α→List Wr}{l:List α}:cU f l=[]↔l.Pairwise (fun y x=>f x y=[]):=by
 induction l with
 | nil=>simp[cU]
 | cons a l ih=>simp only[cU,List.append_eq_nil_iff,bk,ih,List.pairwise_cons]
theorem zM{y:Nat}:(x ||| y)%cO b=0↔x%cO b=0∧y%cO b=0:=by
 cases b
 ·exact ut (n:=12)
 ·exact ut (n:=21)
theorem mB(h:x%cO b=0):x%4096=0:=by
 cases b
 ·exact h
 ·have h:x%2097152=0:=h
  omega
structure eX (P:aF):Prop where
 one:∀x∈P.Q3,0<x.size∧x.size≤67108864∧x.size%cO x.big=0∧x.Q7%cO x.big=0∧x.fill<256∧x.text.size≤x.size∧x.text.size≤1048576∧(x.fill=0∨x.size≤1048576)
 fixed:∀x∈P.Q3,x.fixed=true→x.Q7+x.size≤4294967296∧eV P.QE x.Q7 (d6 x.Q7 x.size)=true
 apart:∀(i j:Nat) (x y:Region),j<i→P.Q3[i]?=some x→P.Q3[j]?=some y→x.fixed=true→y.fixed=true→Off x.Q7 x.size y.Q7 y.size
theorem uf{P:aF}(h:fY P=[]):eX P:=by
 simp only[fY,List.append_eq_nil_iff,bk]at h;obtain⟨v,w⟩:=h;have one:∀x∈P.Q3,0<x.size∧x.size≤67108864∧x.size%cO x.big=0∧x.Q7%cO x.big=0∧x.fill<256∧x.text.size≤x.size∧x.text.size≤1048576∧(x.fill=0∨x.size≤1048576):=fun x l=>by
  have:=v x l;simp only[mN,qt,List.append_eq_nil_iff,b8,Bool.and_eq_true,Bool.or_eq_true,decide_eq_true_eq,zM]at this;obtain⟨⟨⟨⟨a,b⟩,c,d⟩,_⟩,⟨⟨e,f⟩,g⟩,i⟩:=this;exact⟨c,d,a,b,e,f,g,i⟩
 refine⟨one,fun x l D=>?_,fun i j x y u l E fx C=>?_⟩
 ·have:=v x l
  simp only[mN,kq,D,if_true,List.append_eq_nil_iff,b8,Bool.and_eq_true,Bool.or_eq_true,decide_eq_true_eq,jy]at this;have q:=(one x l).1;exact this.1.2.resolve_left χ
 ·rw[dW,oe,aF.fixed,List.pairwise_map,List.pairwise_filter,List.pairwise_iff_getElem]at w
  obtain⟨hi,rfl⟩:=ο.1 l;obtain⟨B,rfl⟩:=ο.1 E;have q:=w j i B hi u (by simpa using C) (by simpa using fx);rw[b8]at q;exact mn (one _ (List.getElem_mem hi)).1 (one _ (List.getElem_mem B)).1 q
structure kC (P:aF) (device:Bool) (l:List Map):Prop where
 one:∀m∈l,m.Q7%cO (aQ P m.of).big=0∧m.Q7+(aQ P m.of).size≤549755813888∧(m.exec=true→device=false∧((aQ P m.of).wx=true∨m.write=false))
 apart:∀(i j:Nat) (x y:Map),j<i→l[i]?=some x→l[j]?=some y→0<(aQ P x.of).size→0<(aQ P y.of).size→Off x.Q7 (aQ P x.of).size y.Q7 (aQ P y.of).size
theorem qX{P:aF}{d:Bool}:∀{l:List Map} {pages:Nat},(bH P d pages l).1=[] →
 ∀m∈l,m.Q7%cO (aQ P m.of).big=0∧m.Q7+(aQ P m.of).size≤549755813888∧(m.exec=true→d=false∧((aQ P m.of).wx=true∨m.write=false))
 | [],_,_,m,g=>by simp at g
 | a::t,pages,h,m,g=>by
  simp only[bH,List.append_eq_nil_iff,b8,Bool.and_eq_true,Bool.or_eq_true,decide_eq_true_eq,jy,Bool.not_eq_true']at h;obtain⟨⟨⟨⟨j,q⟩,u⟩,_⟩,v⟩:=h
  rcases Ξ.1 g with rfl|g
  ·exact⟨j,q,fun e=>u.resolve_left (fun h=>by rw[h]at e;cases e)⟩
  ·exact qX v m g
theorem mH{P:aF}{d:Bool}:∀{ls:List (List Map)} {pages:Nat},(bO P d pages ls).1=[]→∀l∈ls,kC P d l
 | [],_,_,l,g=>by simp at g
 | a::t,pages,h,l,g=>by
  simp only[bO,List.append_eq_nil_iff]at h;obtain⟨⟨v,w⟩,B⟩:=h
  rcases Ξ.1 g with rfl|g
  ·refine⟨qX v,fun i j x y q C D E H=>?_⟩
   have u:=dq.1 w i j ⟨x.Q7,(aQ P x.of).size,x.pos⟩ ⟨y.Q7,(aQ P y.of).size,y.pos⟩ q (by simp[bJ,C]) (by simp[bJ,D]);rw[b8]at u;exact mn (a:=⟨x.Q7,(aQ P x.of).size,x.pos⟩) (b:=⟨y.Q7,(aQ P y.of).size,y.pos⟩) E H u
  ·exact mH B l g
theorem C4{P:aF}(h:lQ P=[]):(∀x∈P.Q4,kC P false x.QA)∧∀x∈P.Q5,kC P true x.QA:=by
 simp only[lQ,List.append_eq_nil_iff]at h;exact⟨fun x d=>mH h.1 _ (List.mem_map_of_mem d),fun x d=>mH h.2 _ (List.mem_map_of_mem d)⟩
structure Cv (P:aF):Prop where
 subject:∀x∈P.Q4,x.QN<4
 rule:∀x∈P.Q4,∀r∈x.QO,r.how=1→r.QK<64∧r.to≠x.name
 irq:∀x∈P.QM,x.QK<64
 channel:∀x∈P.Q8,(x.how=1→x.QK<64)∧x.QG≠x.to∧(x.shared=true→gU P x=true)
 ban:∀x∈P.QF,x.QG≠x.to
 queue:∀x∈P.QB,(x.how≠3→1≤x.depth∧x.depth≤64)∧x.QG≠x.to
theorem D4{P:aF}(h:uO P=[]):Cv P:=by
 simp only[uO,List.append_eq_nil_iff,bk,iC,lC,kQ,oD,b8,Bool.and_eq_true,Bool.or_eq_true,decide_eq_true_eq,Bool.not_eq_true',decide_eq_false_iff_not]at h;obtain⟨⟨⟨⟨a,b⟩,c⟩,d⟩,e⟩:=h;refine⟨fun x g=>(a x g).1,fun x g r u e=>?_,b,fun x g=>?_,d,fun x g=>?_⟩
 ·obtain⟨j,l⟩:=(a x g).2 r u
  exact⟨j.resolve_left (fun h=>h e),l.resolve_left (fun h=>h e)⟩
 ·obtain⟨⟨j,l⟩,q⟩:=c x g
  exact⟨fun e=>j.resolve_left (fun h=>h e),l,fun e=>q.resolve_left (fun h=>by rw[h]at e;cases e)⟩
 ·obtain⟨j,l⟩:=e x g
  exact⟨fun e=>j.resolve_left e,l⟩
structure xN (flat:Nat→cK→Int×Int) (P:aF):Prop where
 QH:0<P.QH.length
 QD:1<P.Q9.length→0<P.QD.length
 QJ:∀x∈P.Q9,1≤x.QJ∧x.QJ≤65536
 lane:∀x∈P.Q9,∀y∈x.QL,y.QN<4∧(flat x.QJ y).2=0
 run:∀x∈P.Q9,∀y∈x.QL,∀r∈y.runs,r.QI=ByteArray.empty∨lg P r.QI=y.QN
theorem zz{flat:Nat→cK→Int×Int}{P:aF}(h:kc flat P=[]):xN flat P:=by
 simp only[kc,List.append_eq_nil_iff,bk,b8,decide_eq_true_eq]at h;obtain⟨⟨a,b⟩,c⟩:=h;have u:∀x∈P.Q9,1≤x.QJ∧x.QJ≤65536:=fun x d=>by
  have:=c x d;unfold kJ at this;split at this
  ·cases this
  ·omega
 have q:∀x∈P.Q9,∀y∈x.QL,jW P y=[]∧lS flat x.QJ y=[]:=fun x d y j=>by
  have:=c x d;unfold kJ at this;split at this
  ·cases this
  ·have:=bk.1 this y j
   exact List.append_eq_nil_iff.1 this
 refine⟨a,fun h=>?_,u,fun x d y j=>?_,fun x d y j r v=>?_⟩
 ·rw[θ h]at b
  simpa only[b8,decide_eq_true_eq]using b
 ·obtain⟨g,l⟩:=q x d y j
  simp only[jW,List.append_eq_nil_iff,b8,decide_eq_true_eq]at g;refine⟨g.1,?_⟩;unfold lS at l;simp only at l;split at l
  ·assumption
  ·cases l
 ·obtain⟨g,_⟩:=q x d y j
  simp only[jW,List.append_eq_nil_iff,bk,b8,Bool.or_eq_true,decide_eq_true_eq]at g;exact g.2 r v
structure El (named:ByteArray→Bool) (flat:Nat→cK→Nat×Int×Int) (P:aF):Prop where
 names:xO named P
 counts:uM P
 bus:pq P
 Q3:eX P
 QP:∀x∈P.Q4,kC P false x.QA
 QR:∀x∈P.Q5,kC P true x.QA
 who:Cv P
 Q9:xN (fun M y=>(flat M y).2) P
 image:pages flat P≤1024
theorem vW{flat:Nat→cK→Nat×Int×Int}{P:aF}:∀g∈dV named flat P,∀r,g.2 r≠0:=by
 intro g d r;simp only[dV,List.mem_cons,List.mem_nil_iff,or_false]at d
 rcases d with rfl|rfl|rfl|rfl|rfl|rfl|rfl|rfl
 ·show cQ r≠0;unfold cQ;repeat' split
  all_goals omega
 ·show kP r≠0;unfold kP;omega
 ·show pt r≠0;unfold pt;repeat' split
  all_goals omega
 ·show em r≠0;unfold em;repeat' split
  all_goals omega
 ·show eJ r≠0;unfold eJ;repeat' split
  all_goals omega
 ·show pr r≠0;unfold pr;repeat' split
  all_goals omega
 ·show ek r≠0;unfold ek;repeat' split
  all_goals omega
 ·show xU r≠0;unfold xU;omega
end Ck
namespace Ck
def fb(P:aF)(m:Map):Nat:=(aQ P m.of).size / 4096
theorem qW{P:aF}(g:∀s,(aQ P s).size≤67108864){d:Bool}:∀{l:List Map} {pages:Nat},pages≤131072→(bH P d pages l).1=[] →
 (bH P d pages l).2=pages+(l.map (fb P)).sum∧pages+(l.map (fb P)).sum≤131072
 | [],pages,hp,_=>by simpa[bH]using hp
 | a::t,pages,hp,h=>by
  have v:=g a.of;have e:(pages+(aQ P a.of).size / 4096)%M64=pages+fb P a:=Nat.mod_eq_of_lt (by unfold M64;omega);simp only[bH,List.append_eq_nil_iff,b8,decide_eq_true_eq]at h⊢;rw[e]at h⊢;obtain⟨⟨_,j⟩,q⟩:=h;obtain⟨u,w⟩:=qW g j q;simp only[List.map_cons,List.sum_cons];exact⟨by rw[u];omega,χ⟩
theorem kR{P:aF}(j:∀s,(aQ P s).size≤67108864){d:Bool}:∀{ls:List (List Map)} {pages:Nat},pages≤131072→(bO P d pages ls).1=[] →
 (bO P d pages ls).2=pages+(ls.map fun l=>(l.map (fb P)).sum).sum∧pages+(ls.map fun l=>(l.map (fb P)).sum).sum≤131072
 | [],pages,hp,_=>by simpa[bO]using hp
 | a::t,pages,hp,h=>by
  simp only[bO,List.append_eq_nil_iff]at h⊢;obtain⟨⟨q,_⟩,g⟩:=h;obtain⟨u,v⟩:=qW j hp q;rw[u]at g⊢;obtain⟨w,x⟩:=kR j v g;simp only[List.map_cons,List.sum_cons];exact⟨by rw[w];omega,χ⟩
variable {named:ByteArray→Bool} {s:ByteArray}
theorem Em{l:List Nm}(g:∀x∈l,named x.1=true)(h:E6 l):iH named l=[]:=by
 simp only[iH,List.append_eq_nil_iff,bk,b8];exact⟨g,dq.2 fun i j x y d q u=>if_neg (h i j x y d q u)⟩
theorem Off.symm{a b c d:Nat}(h:Off a b c d):Off c d a b:=by unfold Off at *; omega
def iz(named:ByteArray→Bool)(flat:Nat→cK→Nat×Int×Int)(P:aF):Prop:=∀g∈dV named flat P,g.1=[]
def tC(P:aF):Nat:=((P.Q4.map aj.QA).map fun l=>(l.map (fb P)).sum).sum+((P.Q5.map bM.QA).map fun l=>(l.map (fb P)).sum).sum
structure BQ (named:ByteArray→Bool) (flat:Nat→cK→Nat×Int×Int) (P:aF):Prop extends El named flat P where
 mapped:tC P≤131072
theorem t8{α:Type}{p:α→Bool}{l:List α}{x:α}(h:l.find? p=some x):x∈l∧p x=true:=⟨List.mem_of_find?_eq_some h,List.find?_some h⟩
theorem xd{P:aF}{t:jh}(h:ep P s=some t):(∃x∈P.Q3,x.name=s∧t=⟨x.size,x.big,x.wx⟩)∨∃x∈P.Q5,x.name=s∧t=⟨x.size,false,false⟩:=by
 unfold ep at h;split at h
 ·rename_i x j
  obtain⟨d,g⟩:=t8 j;exact .inl ⟨x,d,by simpa using g,(ι h).symm⟩
 ·rw[Option.map_eq_some_iff]at h
  obtain⟨x,j,rfl⟩:=h;obtain⟨d,g⟩:=t8 j;exact .inr ⟨x,d,by simpa using g,rfl⟩
theorem sF{P:aF}(g:pq P)(j:eX P)(s:ByteArray):(aQ P s).size≤67108864:=by
 unfold aQ
 cases h:ep P s with
 | none=>simp
 | some t =>
  rcases xd h with⟨x,d,_,rfl⟩|⟨x,d,_,rfl⟩
  ·exact(j.one x d).2.1
  ·have:=(g.dev x d).2.1
   simp only[Option.getD_some];omega
theorem rH{P:aF}(h:has P.things s=true):∃t,ep P s=some t:=by
 unfold ep;split
 ·exact⟨_,rfl⟩
 ·rename_i j
  obtain⟨p,d⟩:=rZ.1 h
  rcases Ω.1 d with d|d
  ·obtain⟨x,g,e⟩:=List.mem_map.1 d
   cases hf:P.Q5.find? (fun x=>decide (x.name=s))with
   | some y=>exact⟨_,rfl⟩
   | none =>
    have:=List.find?_eq_none.1 hf x g;simp only[Prod.mk.injEq]at e;simp[e.1]at this
  ·obtain⟨x,g,e⟩:=List.mem_map.1 d
   have:=List.find?_eq_none.1 j x g;simp only[Prod.mk.injEq]at e;simp[e.1]at this
theorem vV{P:aF}(h:has P.regs s=true):has P.things s=true:=by
 obtain⟨p,d⟩:=rZ.1 h;exact rZ.2 ⟨p,List.mem_append_right _ d⟩
theorem co{flat:Nat→cK→Nat×Int×Int}{P:aF}(h:iz named flat P):BQ named flat P:=by
 have d:=h (lQ P,eJ) (by simp[dV]);have m:=C4 d;have g:=Dv (h (vm P,pt) (by simp[dV]));have j:=uf (h (fY P,em) (by simp[dV]));have hi:=h (me flat P,xU) (by simp[dV]);refine⟨⟨AJ (h (ke named P,cQ) (by simp[dV])),yq (h (gR P,kP) (by simp[dV])),g,j,m.1,m.2,
  D4 (h (uO P,pr) (by simp[dV])),zz (h (kc (fun M y=>(flat M y).2) P,ek) (by simp[dV])),by simpa only[me,b8,decide_eq_true_eq]using hi⟩,?_⟩
 simp only[lQ,List.append_eq_nil_iff]at d;have l:=sF g j;obtain⟨q,u⟩:=kR l (Nat.zero_le _) d.1;rw[q]at d;obtain⟨b1,b2⟩:=kR l u d.2;unfold tC;omega
theorem oI{flat:Nat→cK→Nat×Int×Int}{P:aF}{a e:Int}(h:r7 (dV named flat P) a e):(e=0↔iz named flat P)∧(e=0→a=0):=by
 have key:∀(l:List (List Wr×(Int→Int))) (a e:Int),(∀g∈l,∀r,g.2 r≠0)→r7 l a e→(e=0↔∀g∈l,g.1=[])∧(e=0→a=0):=by
  intro l
  induction l with
  | nil=>intro a e _ h;exact⟨⟨fun _ g hg=>by simp at hg,fun _=>h.2⟩,fun _=>h.1⟩
  | cons g t ih =>
   intro a e hw h
   rcases h with⟨h1,h2⟩|⟨r,hr,_,rfl⟩
   ·obtain⟨h3,h4⟩:=ih a e (fun g hg=>hw g (List.mem_cons_of_mem _ hg)) h2
    refine⟨⟨fun e0 g' hg'=>?_,fun hall=>h3.2 fun g' hg'=>hall g' (List.mem_cons_of_mem _ hg')⟩,h4⟩
    rcases Ξ.1 hg' with rfl|hg'
    ·exact h1
    ·exact h3.1 e0 g' hg'
   ·refine⟨⟨fun e0=>absurd e0 (hw g List.mem_cons_self r),fun hall=>?_⟩,fun e0=>absurd e0 (hw g List.mem_cons_self r)⟩
    rw[hall g List.mem_cons_self]at hr;simp at hr
 exact key _ a e vW h
end Ck
namespace Ck
abbrev PS:=Nat→Prop
def Fits(S:PS)(size al p:Nat):Prop:=al ∣ p∧∀q,p≤q→q<p+size→S q
def rC(S:PS)(size al p:Nat):Prop:=size≠0∧Fits S size al p∧∀q,q<p→¬ Fits S size al q
theorem yU{S:PS}{size al p r:Nat}(h:rC S size al p)(k:rC S size al r):p=r:=by
 rcases Nat.lt_trichotomy p r with e|e|e
 ·exact absurd h.2.1 (k.2.2 p e)
 ·exact e
 ·exact absurd k.2.1 (h.2.2 r e)
open Classical in
noncomputable def fit(S:PS)(size al:Nat):Option Nat:=if h:∃p,rC S size al p then some h.choose else none
theorem fq{S:PS}{size al p:Nat}:fit S size al=some p↔rC S size al p:=by
 unfold fit;split
 ·rename_i h
  exact⟨(fun e=>by cases e;exact h.choose_spec),fun k=>congrArg some (yU h.choose_spec k)⟩
 ·rename_i h
  exact⟨(fun e=>by cases e),fun k=>absurd ⟨p,k⟩ h⟩
theorem tG{S:PS}{size al:Nat}(j:size≠0):∀n p,p<n→Fits S size al p→∃r,rC S size al r
 | 0,_,h,_=>χ
 | n+1,p,h,hp=>by
  by_cases hq:∃q,q<p∧Fits S size al q
  ·obtain⟨q,g,d⟩:=hq
   exact tG j n q χ d
  ·exact⟨p,j,hp,fun q g d=>hq ⟨q,g,d⟩⟩
theorem tc{S:PS}{size al:Nat}:fit S size al=none↔size=0∨∀p,¬ Fits S size al p:=by
 unfold fit;split
 ·rename_i h
  obtain⟨p,d,g,_⟩:=h;exact⟨(fun e=>by cases e),(fun e=>by rcases e with e|e;exact absurd e d;exact absurd g (e p))⟩
 ·rename_i h
  refine⟨fun _=>?_,fun _=>rfl⟩
  by_cases hs:size=0
  ·exact .inl hs
  ·exact .inr fun p j=>h (tG hs (p+1) p (Nat.lt_succ_self p) j)
def rng(Q7 size:Nat):PS:=fun q=>Q7≤q∧q<Q7+size∧q<4294967296
def off(S:PS)(Q7 size:Nat):PS:=fun q=>S q∧¬ rng Q7 size q
def cX(P:aF):PS:=fun q=>∃r∈P.QE,rng r.Q7 r.size q
def cE(P:aF):PS:=fun q=>cX P q∧∀x∈P.Q3,x.fixed=true→¬ rng x.Q7 x.size q
noncomputable def gG(S:PS)(out:List Nat):List Region→Nat ⊕ (List Nat×PS)
 | [] =>.inr (out,S)
 | x::t=>if x.fixed then gG S (out++[x.Q7]) t else
  match fit S x.size (cO x.big)with
  | some p=>gG (off S p x.size) (out++[p]) t
  | none =>.inl out.length
structure Lay where
 Q3:List Nat
 image:Nat
 pages:Nat
noncomputable def fA(P:aF)(pages:Nat):Option Lay×Int×Int:=
 match gG (cE P) [] P.Q3 with
 | .inl i=>(none,i,110)
 | .inr (out,S)=>match fit S (pages*4096) 4096 with
  | none=>(none, -1,110)
  | some p=>(some ⟨out,p,pages⟩, -1,0)
theorem jR{a s b t:Nat}(d:0<s)(g:0<t)(h:∀q,a≤q→q<a+s→¬ (b≤q∧q<b+t)):Off a s b t:=by
 unfold Off
 by_cases h1:a≤b
 ·by_cases h2:a+s≤b
  ·exact .inl h2
  ·exact absurd ⟨Γ _,χ⟩ (h b h1 χ)
 ·by_cases h2:b+t≤a
  ·exact .inr h2
  ·exact absurd ⟨χ,χ⟩ (h a (Γ _) χ)
theorem qp{a s:Nat}(h:0<s)(d:a+s≤4294967296):d6 a s=a+s-1:=by
 unfold d6 M64;rw[show a+s+(18446744073709551616-1)=a+s-1+18446744073709551616 by omega,Nat.add_mod_right];exact Nat.mod_eq_of_lt χ
structure BP (P:aF) (k:Nat) (out:List Nat) (S:PS):Prop where
 len:out.length=k
 free:∀q,S q→cE P q
 one:∀(i p:Nat) (x:Region),i<k→P.Q3[i]?=some x→out[i]?=some p→(x.fixed=true→p=x.Q7)∧p%cO x.big=0∧p+x.size≤4294967296∧(∀q,p≤q→q<p+x.size→cX P q)∧(∀q,S q→¬ (p≤q∧q<p+x.size))∧(x.fixed=false→∀y∈P.Q3,y.fixed=true→Off p x.size y.Q7 y.size)
 two:∀(i j p r:Nat) (x y:Region),j<i→i<k→P.Q3[i]?=some x→P.Q3[j]?=some y→out[i]?=some p→out[j]?=some r→Off p x.size r y.size
section
variable {named:ByteArray→Bool} {flat:Nat→cK→Nat×Int×Int} {P:aF}
theorem yi(h:eX P)(B:pq P){x:Region}(j:x∈P.Q3)(C:x.fixed=true):∀q,x.Q7≤q→q<x.Q7+x.size→cX P q:=by
 intro q v D;obtain⟨w,d⟩:=h.fixed x j C;have y:=(h.one x j).1;unfold eV at d;simp only[decide_eq_true_eq]at d;obtain⟨r,g,l,u⟩:=d q v (by rw[qp y w];omega);obtain⟨b1,_,b2,_⟩:=B.Qe r g;rw[qp b1 b2]at u;exact⟨r,g,l,χ,χ⟩
theorem wU(h:pq P){q:Nat}(d:cX P q):q<4294967296:=by
 obtain⟨r,_,_,_,e⟩:=d;exact e
theorem pL(h:eX P){x:Region}(g:x∈P.Q3)(d:x.fixed=true){q:Nat}(u:cE P q):¬ (x.Q7≤q∧q<x.Q7+x.size):=fun⟨j,l⟩=>by
 have v:=(h.fixed x g d).1;exact u.2 x g d ⟨j,l,χ⟩
theorem ql(B:eX P)(hb:pq P){k:Nat}{out:List Nat}{S:PS}{x:Region}{p:Nat}{S':PS}(h:BP P k out S)(J:P.Q3[k]?=some x)(hS:∀q,S' q→S q)
 (hp:p%cO x.big=0)(hl:p+x.size≤4294967296)(I:∀q,p≤q→q<p+x.size→cX P q)(H:∀q,S' q→¬ (p≤q∧q<p+x.size))
 (D:x.fixed=true→p=x.Q7)(C:x.fixed=false→∀q,p≤q→q<p+x.size→S q):BP P (k+1) (out++[p]) S':=by
 have hm:=γ J;have hs:=(B.one x hm).1;have u:∀(i d:Nat),(out++[p])[i]?=some d→i<k∧out[i]?=some d∨i=k∧d=p:=fun i d e=>by
  rcases Ψ i k with c|c
  ·rw[List.getElem?_append_left (by rw[h.len];exact c)]at e
   exact .inl ⟨c,e⟩
  ·rw[List.getElem?_append_right (by rw[h.len];exact c),h.len]at e
   have:i-k=0:=by
    rcases ϑ (i-k)with z|z
    ·exact z
    ·rw[List.getElem?_eq_none η]at e;cases e
   rw[this]at e;exact .inr ⟨χ,by simpa using e.symm⟩
 have g:x.fixed=false→∀y∈P.Q3,y.fixed=true→Off p x.size y.Q7 y.size:=fun f y l w=>jR hs (B.one y l).1 fun q V W=>pL B l w (h.free q (C f q V W))
 refine⟨by simp[h.len],fun q Q=>h.free q (hS q Q),fun i d y hi l v=>?_,fun i j d r y z E hi l K v hr=>?_⟩
 ·rcases u i d v with⟨c,e⟩|⟨rfl,rfl⟩
  ·obtain⟨L,X,Y,Z,N,O⟩:=h.one i d y c l e
   exact⟨L,X,Y,Z,fun q Q=>N q (hS q Q),O⟩
  ·obtain rfl:=ι (J.symm.trans l)
   exact⟨D,hp,hl,I,H,g⟩
 ·rcases u j r hr with⟨c2,e2⟩|⟨c2,_⟩
  ·rcases u i d v with⟨c,e⟩|⟨rfl,rfl⟩
   ·exact h.two i j d r y z E c l K e e2
   ·obtain rfl:=ι (J.symm.trans l)
    obtain⟨L,X,Y,Z,N,O⟩:=h.one j r z c2 K e2;have R:=γ K;have U:=(B.one z R).1
    cases w:x.fixed with
    | false=>exact jR hs U fun q V W=>N q (C w q V W)
    | true =>
     rw[D w]
     cases hfz:z.fixed with
     | true=>rw[L hfz];exact B.apart i j x z E J K w hfz
     | false=>exact Off.symm (O hfz x hm w)
  ·omega
theorem tH{S:PS}{x:Region}{p:Nat}(h:rC S x.size (cO x.big) p):p%cO x.big=0∧∀q,p≤q→q<p+x.size→S q:=⟨Nat.mod_eq_zero_of_dvd h.2.1.1,h.2.1.2⟩
theorem rX(g:eX P)(j:pq P):∀(n k:Nat) (out:List Nat) (S:PS),k+n=P.Q3.length→BP P k out S→∀d S',gG S out (P.Q3.drop k)=.inr (d,S')→BP P P.Q3.length d S'
 | 0,k,out,S,hk,h,d,S',e=>by
  rw[List.drop_eq_nil_of_le χ]at e
  cases e
  rwa[←hk,Nat.add_zero]
 | n+1,k,out,S,hk,h,d,S',e=>by
  obtain⟨x,u⟩:∃x,P.Q3[k]?=some x:=⟨_,θ χ⟩;have l:=γ u;rw[List.drop_eq_getElem_cons χ,(ο.1 u).2]at e;simp only[gG]at e;have D:=(g.one x l).1
  cases hf:x.fixed with
  | true =>
   rw[hf,if_pos rfl]at e;exact rX g j n (k+1) _ _ χ (ql g j h u (fun _ h=>h) (g.one x l).2.2.2.1 (g.fixed x l hf).1 (yi g j l hf) (fun q v=>pL g l hf (h.free q v)) (fun _=>rfl) (by simp[hf])) _ _ e
  | false =>
   rw[hf]at e;simp only[Bool.false_eq_true,if_false]at e
   cases hfit:fit S x.size (cO x.big)with
   | none=>rw[hfit]at e;cases e
   | some p =>
    rw[hfit]at e;obtain⟨C,w⟩:=tH (fq.1 hfit);have pl:p+x.size≤4294967296:=by
     have:=wU j (h.free _ (w (p+x.size-1) χ χ)).1;omega
    exact rX g j n (k+1) _ _ χ (ql g j h u (fun _ h=>h.1) C pl (fun q y B=>(h.free q (w q y B)).1) (fun q v ⟨y,B⟩=>v.2 ⟨y,B,χ⟩) (by simp[hf]) (fun _=>w)) _ _ e
theorem EY:BP P 0 [] (cE P):=⟨rfl,fun _ h=>h,fun _ _ _ h=>χ,fun _ _ _ _ _ _ _ h=>χ⟩
def gz(P:aF)(l:Lay):List (Nat×Nat):=l.Q3.zip (P.Q3.map Region.size)++[(l.image,l.pages*4096)]
structure jm (P:aF) (l:Lay):Prop where
 len:l.Q3.length=P.Q3.length
 fixed:∀(i p:Nat) (x:Region),P.Q3[i]?=some x→l.Q3[i]?=some p→(x.fixed=true→p=x.Q7)∧p%cO x.big=0
 one:∀(i a s:Nat),(gz P l)[i]?=some (a,s)→0<s∧a%4096=0∧a+s≤4294967296∧∀q,a≤q→q<a+s→cX P q
 two:∀(i j a s b t:Nat),j<i→(gz P l)[i]?=some (a,s)→(gz P l)[j]?=some (b,t)→Off a s b t
theorem gv{l:Lay}(q:l.Q3.length=P.Q3.length){i a s:Nat}(h:(gz P l)[i]?=some (a,s)):(∃x,i<P.Q3.length∧P.Q3[i]?=some x∧l.Q3[i]?=some a∧s=x.size)∨i=P.Q3.length∧a=l.image∧s=l.pages*4096:=by
 unfold gz at h;have d:(l.Q3.zip (P.Q3.map Region.size)).length=P.Q3.length:=by simp[q]
 rcases Ψ i P.Q3.length with c|c
 ·rw[List.getElem?_append_left (by rw[d];exact c),List.getElem?_zip_eq_some]at h
  obtain⟨j,g⟩:=h;rw[List.getElem?_map]at g;obtain⟨x,u,e⟩:=Option.map_eq_some_iff.1 g;exact .inl ⟨x,c,u,j,e.symm⟩
 ·rw[List.getElem?_append_right (by rw[d];exact c),d]at h
  have:i-P.Q3.length=0:=by
   rcases ϑ (i-P.Q3.length)with z|z
   ·exact z
   ·rw[List.getElem?_eq_none η]at h;cases h
  rw[this]at h;have e:(l.image,l.pages*4096)=(a,s):=by simpa using h
  cases e
  exact .inr ⟨χ,rfl,rfl⟩
theorem mP(h:BQ named flat P){pg:Nat}{l:Lay}{n e:Int}(hp:0<pg)(u:fA P pg=(some l,n,e)):jm P l∧n = -1∧e=0∧l.pages=pg:=by
 have H:=h.Q3;have U:=h.bus;unfold fA at u;split at u
 ·cases u
 ·rename_i out S B
  split at u
  ·cases u
  ·rename_i p w
   cases u
   have d:=rX H U P.Q3.length 0 [] _ χ EY out S B;obtain⟨f0,⟨D,E⟩,_⟩:=fq.1 w;have D:=Nat.mod_eq_zero_of_dvd D;have pl:p+pg*4096≤4294967296:=by
    have:=wU U (d.free _ (E (p+pg*4096-1) χ χ)).1;omega
   refine⟨⟨d.len,fun i Z x g K=>?_,fun i a s hi=>?_,fun i j a s b t J hi Y=>?_⟩,rfl,rfl,rfl⟩
   ·obtain⟨R,C,_⟩:=d.one i Z x (ο.1 g).1 g K
    exact⟨R,C⟩
   ·rcases gv d.len hi with⟨x,c,g,I,rfl⟩|⟨rfl,rfl,rfl⟩
    ·obtain⟨R,C,V,W,a5,a6⟩:=d.one i a x c g I
     exact⟨(H.one x (γ g)).1,mB C,V,W⟩
    ·exact⟨show 0<pg*4096 by omega,D,pl,fun q O Q=>(d.free q (E q O Q)).1⟩
   ·rcases gv d.len Y with⟨y,c2,L,v,rfl⟩|⟨rfl,rfl,rfl⟩
    ·obtain⟨b1,b2,b3,b4,X,b6⟩:=d.one j b y c2 L v
     have N:=(H.one y (γ L)).1
     rcases gv d.len hi with⟨x,c,g,I,rfl⟩|⟨rfl,rfl,rfl⟩
     ·exact d.two i j a b x y J c g L I v
     ·exact jR (show 0<pg*4096 by omega) N fun q O Q=>X q (E q O Q)
    ·rcases gv d.len hi with⟨x,c,_⟩|⟨c,_⟩<;>omega
end
end Ck
namespace Ck
variable {l A B:List Sp}
def inB(l:List Sp)(q:Nat):Bool:=l.any fun s=>decide (s.1≤q)&&decide (q≤s.2)
theorem iQ{q:Nat}:inB l q=true↔aW l q:=by simp[inB,aW]
structure dR (l:List Sp):Prop where
 ok:df l
 QW:∀s∈l,s.1%4096=0∧(s.2+1)%4096=0∧s.2<4294967296
theorem sW:dR []:=⟨⟨ξ,ξ⟩,ξ⟩
theorem dR.len(h:dR l):l.length≤1048576:=by
 have key:∀(i:Nat) (s:Sp),l[i]?=some s→i*4096≤s.1:=by
  intro i
  induction i with
  | zero=>intro s _;omega
  | succ i ih =>
   intro s hs;obtain⟨hi,e⟩:=ο.1 hs;have h1:=ih l[i] (θ χ);have h2:=List.pairwise_iff_getElem.1 h.ok.apart i (i+1) χ hi χ;rw[e]at h2;have h3:=h.ok.some_ l[i] (List.getElem_mem _);have h4:=(h.QW l[i] (List.getElem_mem _)).2.1;have h5:=(h.QW s (by rw[←e];exact List.getElem_mem _)).1;obtain⟨b,hb⟩:∃b,l[i].2+1=4096*b:=⟨(l[i].2+1) / 4096,χ⟩;have h6:i+1≤b:=χ
   have h7:(i+1)*4096≤4096*b:=by rw[Nat.mul_comm];exact Nat.mul_le_mul_left _ h6
   exact Δ h7 χ
 rcases ϑ l.length with z|z
 ·rw[z];exact Nat.zero_le _
 ·have hs:l[l.length-1]?=some l[l.length-1]:=θ χ
  have h1:=key _ _ hs;have h2:=h.QW _ (γ hs);have h3:=h.ok.some_ _ (γ hs);omega
structure AtK (l:List Sp) (p k:Nat):Prop where
 lo:∀(j:Nat) (s:Sp),j<k→l[j]?=some s→s.2<p
 hi:∀s,l[k]?=some s→p≤s.2
 le:k≤l.length
theorem xJ{l:List Sp}{p:Nat}:∀(n g:Nat),n+g=l.length→(∀(j:Nat) (s:Sp),j<g→l[j]?=some s→s.2<p)→∃k,g≤k∧AtK l p k
 | 0,g,hn,h=>⟨g,Γ _,h,(fun s u=>by rw[List.getElem?_eq_none χ]at u;cases u),χ⟩
 | n+1,g,hn,h=>by
  have u:l[g]?=some l[g]:=θ χ
  rcases Ψ l[g].2 p with c|c
  ·obtain⟨k,x,w⟩:=xJ (l:=l) (p:=p) n (g+1) χ fun j s y q=>by
    rcases Ψ j g with d|d
    ·exact h j s d q
    ·obtain rfl:j=g:=χ
     rw[u]at q;obtain rfl:=ι q;exact c
   exact⟨k,χ,w⟩
  ·exact⟨g,Γ _,h,(fun s v=>by rw[u]at v;obtain rfl:=ι v;exact c),χ⟩
def jP(l:List Sp)(p k:Nat):Bool×Nat:=
 match l[k]? with
 | none=>(false,18446744073709551615)
 | some s=>if p<s.1 then(false,s.1-1)else(true,s.2)
theorem zh{l:List Sp}(h:dR l){p k:Nat}(O:p<18446744073709551616)(hk:AtK l p k):p≤(jP l p k).2∧(jP l p k).2<18446744073709551616∧((jP l p k).2+1)%4096=0∧((jP l p k).1=true→(jP l p k).2<4294967296)∧∀q,p≤q→q≤(jP l p k).2→inB l q=(jP l p k).1:=by
 have v:∀(j:Nat) (s:Sp) (i:Nat) (t:Sp),i<j→l[i]?=some t→l[j]?=some s→t.2+1<s.1:=fun j s i t w C B=>by
  obtain⟨hi,E⟩:=ο.1 C;obtain⟨u,H⟩:=ο.1 B;have:=List.pairwise_iff_getElem.1 h.ok.apart i j hi u w
  rwa[E,H]at this
 unfold jP
 cases e:l[k]? with
 | none =>
  refine⟨by show p≤18446744073709551615;omega,(show 18446744073709551615<18446744073709551616 by decide),(show(18446744073709551615+1)%4096=0 by decide),(fun h=>by cases h),fun q I _=>?_⟩;rw[Bool.eq_false_iff];intro y;obtain⟨s,B,_,K⟩:=iQ.1 y;obtain⟨j,u⟩:=List.getElem?_of_mem B;have:j<k:=by
   have:=(ο.1 u).1
   rcases Ψ j k with c|c
   ·exact c
   ·rw[List.getElem?_eq_none_iff]at e;omega
  have:=hk.lo j s this u;omega
 | some s =>
  have x:=γ e;have g:=h.QW s x;have I:=h.ok.some_ s x;have J:=hk.hi s e
  by_cases c:p<s.1
  ·simp only[if_pos c]
   refine⟨χ,χ,χ,(fun h=>by cases h),fun q L D=>?_⟩;rw[Bool.eq_false_iff];intro y;obtain⟨t,C,K,N⟩:=iQ.1 y;obtain⟨j,u⟩:=List.getElem?_of_mem C
   rcases Nat.lt_trichotomy j k with d|d|d
   ·have:=hk.lo j t d u;omega
   ·subst d;rw[e]at u;obtain rfl:=ι u;omega
   ·have:=v j t k s d e u;omega
  ·simp only[if_neg c]
   refine⟨J,χ,g.2.1,fun _=>g.2.2,fun q L D=>?_⟩;exact iQ.2 ⟨s,x,χ,D⟩
def push(out:List Sp)(p last:Nat):List Sp:=
 match out.getLast? with
 | some y=>if y.2+1=p then out.dropLast++[(y.1,last)]else out++[(p,last)]
 | none=>[(p,last)]
structure MkI (keep:Bool→Bool→Bool) (A B:List Sp) (p:Nat) (out:List Sp):Prop where
 set:dR out
 page:p%4096=0
 lt:∀s∈out,s.2<p
 mem:∀q,inB out q=(decide (q<p)&&keep (inB A q) (inB B q))
theorem mk0{keep:Bool→Bool→Bool}:MkI keep A B 0 []:=⟨sW,rfl,ξ,fun q=>by simp[inB]⟩
theorem pG(l:List Sp)(x:Sp)(q:Nat):inB (l++[x]) q=(inB l q||(decide (x.1≤q)&&decide (q≤x.2))):=by simp[inB]
theorem C1{keep:Bool→Bool→Bool}{A B out:List Sp}{p last:Nat}{b1 b2:Bool}(h:MkI keep A B p out)(H:p≤last)(l:(last+1)%4096=0)(C:keep b1 b2=true→last<4294967296)(I:∀q,p≤q→q≤last→inB A q=b1)(J:∀q,p≤q→q≤last→inB B q=b2):
 MkI keep A B (last+1) (if keep b1 b2 then push out p last else out):=by
 have rest:∀q,(decide (q<p)&&keep (inB A q) (inB B q)||(decide (p≤q)&&decide (q≤last)&&keep b1 b2))=(decide (q<last+1)&&keep (inB A q) (inB B q)):=fun q=>by
  by_cases c:q<p
  ·have:¬ p≤q:=χ
   have u:q<last+1:=χ
   simp[c,this,u]
  ·by_cases d:q≤last
   ·rw[I q χ d,J q χ d]
    have u:p≤q:=χ
    have v:q<last+1:=χ
    simp[c,d,u,v]
   ·have v:¬ q<last+1:=χ
    simp[c,d,v]
 cases hk:keep b1 b2 with
 | false =>
  refine⟨h.set,l,fun s g=>by have:=h.lt s g;omega,fun q=>?_⟩;rw[if_neg ξ,h.mem q,←rest q,hk];simp
 | true =>
  have x:=C hk;rw[if_pos rfl];rw[hk]at rest;unfold push
  cases e:out.getLast? with
  | none =>
   obtain rfl:out=[]:=List.getLast?_eq_none_iff.1 e;refine⟨⟨⟨by simpa using H,ξ⟩,by simpa using⟨h.page,l,x⟩⟩,l,ξ,fun q=>?_⟩;rw[←rest q,←h.mem q];simp[inB]
  | some y =>
   obtain⟨t,rfl,K⟩:=fh e;have O:=h.lt y ξ;have L:=h.set.ok.some_ y ξ;have E:=h.set.QW y ξ;have D:=List.pairwise_append.1 h.set.ok.apart;simp only[]
   by_cases c:y.2+1=p
   ·rw[if_pos c,K]
    refine⟨⟨⟨fun s g=>?_,List.pairwise_append.2 ⟨D.1,ξ,fun a j b w=>?_⟩⟩,fun s g=>?_⟩,l,fun s g=>?_,fun q=>?_⟩
    ·rcases Ω.1 g with g|g
     ·exact h.set.ok.some_ s (by simp[g])
     ·obtain rfl:s=(y.1,last):=by simpa using g
      show y.1≤last;omega
    ·obtain rfl:b=(y.1,last):=by simpa using w
     exact D.2.2 a j y ξ
    ·rcases Ω.1 g with g|g
     ·exact h.set.QW s (by simp[g])
     ·obtain rfl:s=(y.1,last):=by simpa using g
      exact⟨E.1,l,x⟩
    ·rcases Ω.1 g with g|g
     ·have:=h.lt s (by simp[g]);omega
     ·obtain rfl:s=(y.1,last):=by simpa using g
      show last<last+1;omega
    ·rw[←rest q,←h.mem q,pG,pG]
     cases inB t q<;>simp
     rw[Bool.eq_iff_iff];simp;omega
   ·rw[if_neg c]
    refine⟨⟨⟨fun s g=>?_,List.pairwise_append.2 ⟨h.set.ok.apart,ξ,fun a j b w=>?_⟩⟩,fun s g=>?_⟩,l,fun s g=>?_,fun q=>?_⟩
    ·rcases Ω.1 g with g|g
     ·exact h.set.ok.some_ s g
     ·obtain rfl:s=(p,last):=by simpa using g
      exact H
    ·obtain rfl:b=(p,last):=by simpa using w
     have N:=h.lt a j
     rcases Ω.1 j with j|j
     ·have:=D.2.2 a j y ξ
      show a.2+1<p;omega
     ·obtain rfl:a=y:=by simpa using j
      show a.2+1<p;omega
    ·rcases Ω.1 g with g|g
     ·exact h.set.QW s g
     ·obtain rfl:s=(p,last):=by simpa using g
      exact⟨h.page,l,x⟩
    ·rcases Ω.1 g with g|g
     ·have:=h.lt s g;omega
     ·obtain rfl:s=(p,last):=by simpa using g
      show last<last+1;omega
    ·rw[←rest q,←h.mem q,pG _ (p,last)]
     simp
theorem DO{keep:Bool→Bool→Bool}{out:List Sp}(g:dR A)(j:dR B)(d:keep false false=false)(h:MkI keep A B 18446744073709551616 out):∀q,aW out q↔keep (inB A q) (inB B q)=true:=fun q=>by
 rw[←iQ,h.mem q]
 by_cases c:q<18446744073709551616
 ·simp[c]
 ·have no:∀{l:List Sp},dR l→inB l q=false:=fun{l} u=>by
   rw[Bool.eq_false_iff];intro v;obtain⟨s,w,_,x⟩:=iQ.1 v;have:=u.QW s w;omega
  rw[no g,no j,d];simp
end Ck
namespace Ck
theorem rm{l m:List Nat}(hn:l.Nodup)(h:∀x∈l,x∈m):l.length≤m.length:=by
 induction l generalizing m with
 | nil=>simp
 | cons a l ih =>
  obtain⟨h1,h2⟩:=List.nodup_cons.1 hn;have ha:=h a List.mem_cons_self;have:=ih h2 (m:=m.erase a) (fun x hx=>(List.mem_erase_of_ne (by rintro rfl;exact h1 hx)).2 (h x (List.mem_cons_of_mem _ hx)));rw[List.length_erase_of_mem ha]at this;have:=List.length_pos_of_mem ha;simp only[List.length_cons];omega
theorem pR(l:List Nat):l.eraseDups.Nodup:=by
 induction h:l.length using Nat.strongRecOn generalizing l with
 | ind n ih =>
  cases l with
  | nil=>simp
  | cons a t =>
   rw[List.eraseDups_cons];refine List.nodup_cons.2 ⟨fun hm=>?_,ih _ ?_ _ rfl⟩
   ·have:=(List.mem_filter.1 (List.mem_eraseDups.1 hm)).2
    simp at this
   ·have:=List.length_filter_le (fun b =>!b==a) t
    simp only[List.length_cons]at h;omega
namespace Turned
variable {P Q:aF}
end Turned
namespace Turned
variable {P Q:aF}
end Turned
def tak(P:aF)(l:Lay)(k:Nat):PS:=fun q=>∃j a s,j<k∧(gz P l)[j]?=some (a,s)∧a≤q∧q<a+s
theorem sI{P:aF}{l:Lay}(q:Nat):¬ tak P l 0 q:=fun⟨_,_,_,h,_⟩=>χ
theorem sJ{P:aF}{l:Lay}{k a s:Nat}(h:(gz P l)[k]?=some (a,s))(q:Nat):tak P l (k+1) q↔tak P l k q∨(a≤q∧q<a+s):=by
 constructor
 ·rintro⟨j,b,t,u,d,g⟩
  rcases Ψ j k with c|c
  ·exact .inl ⟨j,b,t,c,d,g⟩
  ·obtain rfl:j=k:=χ
   rw[h]at d
   cases d
   exact .inr g
 ·rintro(⟨j,b,t,u,d⟩|g)
  ·exact⟨j,b,t,χ,d⟩
  ·exact⟨k,a,s,χ,h,g⟩
theorem pE{P:aF}{l:Lay}(g:l.Q3.length=P.Q3.length){k p:Nat}{x:Region}(d:P.Q3[k]?=some x)(h:l.Q3[k]?=some p):(gz P l)[k]?=some (p,x.size):=by
 have hk:=(ο.1 d).1;unfold gz;have j:(l.Q3.zip (P.Q3.map Region.size)).length=P.Q3.length:=by simp[g]
 rw[List.getElem?_append_left (by rw[j];exact hk),List.getElem?_zip_eq_some];exact⟨h,by rw[List.getElem?_map,d];rfl⟩
theorem kj{P:aF}{l:Lay}(g:l.Q3.length=P.Q3.length):(gz P l)[P.Q3.length]?=some (l.image,l.pages*4096):=by
 unfold gz;have d:(l.Q3.zip (P.Q3.map Region.size)).length=P.Q3.length:=by simp[g]
 rw[List.getElem?_append_right (by rw[d];exact Γ _),d,Nat.sub_self];rfl
theorem jm.fresh{P:aF}{l:Lay}(h:jm P l){k a s:Nat}(hk:(gz P l)[k]?=some (a,s))(q:Nat)(d:a≤q)(g:q<a+s):cX P q∧¬ tak P l k q:=by
 refine⟨(h.one k a s hk).2.2.2 q d g,fun⟨j,b,t,v,u,w,x⟩=>?_⟩;have:=h.two k j a s b t v hk u;unfold Off at this;omega
def key(x:Region):Nat×Bool×Nat×Bool:=(x.size,x.fixed,x.Q7,x.big)
def bare(x:Region):Region:={ x with pos:=0,fill:=0 }
def smA(sz:Nat):Region:=⟨0,⟨#[97]⟩,sz,false,0,false,false,0,false,ByteArray.empty⟩
def smB:Region:=⟨0,⟨#[98]⟩,12288,true,65536,false,false,0,false,ByteArray.empty⟩
def smP(sz:Nat)(st:List ii):aF:=⟨0,ByteArray.empty,[⟨0,65536,40960⟩],[],[smA sz,smB],[],[],[],[],[⟨0,⟨#[112]⟩,1,[]⟩],[],st,[],[]⟩
def smQ:List ii:=[⟨0,⟨#[112]⟩⟩]
