import Derived.Test.YthobcefghkeddaaGreatDoorW
import Derived.Below
set_option maxRecDepth 100000
set_option linter.all false
set_option maxHeartbeats 4000000
namespace Go.Proofs.YthobcefghkeddaaGreatDoor
section
open Go Go.RowKit
structure Run where
 pos:Int
 QH:ByteArray
 QS:Nat
 per:Nat
structure aw where
 QH:ByteArray
 QF:Int
 to:Int
namespace Ln
def run(l:List aw)(s:ByteArray)(t:Int):List aw:=
 match l.getLast? with
 | none=>[⟨s,0,t⟩]
 | some x=>if x.QH=s then l.dropLast++[⟨x.QH,x.QF,x.to+t⟩]else l++[⟨s,x.to,x.to+t⟩]
def CC:Int→Option ByteArray→List aw→Int
 | e,_,[]=>e
 | e,p,s::l=>if s.QF≠e∨s.to≤s.QF∨p=some s.QH then 0 else CC s.to (some s.QH) l
def part(s:ByteArray)(x:aw):Int:=if x.QH=s∧0≤x.QF∧x.QF<x.to∧x.to≤65536 then x.to-x.QF else 0
def Dt(s:ByteArray):Int→List aw→Int
 | n,[]=>n
 | n,x::l=>Dt s (n+part s x) l
theorem part_le(s:ByteArray)(x:aw):0≤part s x∧part s x≤65536:=by unfold part;split<;>omega
def jE(l:List aw):Int:=match l.getLast? with|none=>0|some x=>x.to
def right(M:Nat)(r:Run)(nd:Bool):Int:=
 if r.QS=0∨M<r.QS then 90
 else if nd=true∧r.QH.toList.isEmpty=true then 80
 else if nd=true∧(r.per<r.QS∨M<r.per∨((M:Int)%(r.per:Int)!=0)=true)then 91
 else 0
def eM(M:Nat)(r:Run)(nd:Bool):Nat:=if nd then r.QS*(M / r.per)else r.QS
theorem gz{M:Nat}{r:Run}{j:Bool}(h:right M r j=0):1≤r.QS∧r.QS≤M∧(j=true→r.QH.toList.isEmpty=false∧r.QS≤r.per∧1≤r.per∧r.per≤M∧M%r.per=0):=by
 unfold right at h;split at h
 ·simp at h
 split at h
 ·simp at h
 split at h
 ·simp at h
 rename_i x g d
 refine⟨χ,χ,fun w=>?_⟩;subst w;simp only[true_and]at g d;have l:r.QS≤r.per:=by
  rcases Ψ r.per r.QS with h|h
  ·exact absurd (.inl h) d
  ·exact h
 have q:r.per≤M:=by
  rcases Ψ M r.per with h|h
  ·exact absurd (.inr (.inl h)) d
  ·exact h
 have u:((M:Int)%(r.per:Int)!=0)=false:=by
  rcases Bool.eq_false_or_eq_true ((M:Int)%(r.per:Int)!=0)with h|h
  ·exact absurd (.inr (.inr h)) d
  ·exact h
 refine⟨by simpa using g,l,χ,q,?_⟩;have v:(M:Int)%(r.per:Int)=0:=by simpa using u
 have y:((M%r.per:Nat):Int)=0:=by simpa using v
 omega
theorem rp{M:Nat}{r:Run}{d:Bool}(h:right M r d=0):eM M r d≤M:=by
 obtain⟨q,g,j⟩:=gz h;unfold eM
 cases d
 ·simpa using g
 ·obtain⟨_,l,u,v,_⟩:=j rfl
  exact Δ (Nat.mul_le_mul_right _ l) (Nat.mul_div_le M r.per)
def jW:Int→List aw→Int
 | e,[]=>e
 | _,s::l=>jW s.to l
end Ln
structure Ct where
 QH:Int
 QV:Int
namespace Ln
def take(M o e who left s t:Int):Bool×Int×Int×Int:=
 let e':=e+min t (M-e)
 let s':=max s (-1)
 if e'≤o then(decide (e'<M),e',who,left)
 else if left=0 then(decide (e'<M),e',s',e'-max e o)
 else if s'=who then(decide (e'<M),e',who,left+(e'-e))
 else(false,e',who,left)
def Dx(M o:Int):Int→Int→Int→List Ct→Int×Int
 | e,who,left,[]=>let r:=take M o e who left (-1) M;(r.2.2.1,r.2.2.2)
 | e,who,left,x::l =>
  if x.QV≤0 then Dx M o e who left l
  else
   let r:=take M o e who left x.QH x.QV
   if r.1 then Dx M o r.2.1 r.2.2.1 r.2.2.2 l else(r.2.2.1,r.2.2.2)
def Q7(l:List Ct)(M o:Int):Int×Int:=if o<0∨M≤o then(-1,0)else Dx M o 0 (-1) 0 l
def bV(M:Nat)(nd:Bool):Nat→Nat→List Run→Option (Int×Int)
 | _,_,[]=>none
 | i,sum,r::l=>if right M r nd=0 then(if M<sum+eM M r nd then some (i,93)else bV M nd (i+1) (sum+eM M r nd) l)else some (i,right M r nd)
def ef(l:List aw)(rs:List Run):List aw:=rs.foldl (fun acc r=>run acc r.QH r.QS) l
def fill(M:Nat)(l:List aw):List aw:=if 0<(M:Int)-jE l then run l ByteArray.empty (M-jE l)else l
def eZ(l:List aw):List aw×Int×Int:=if 4096<l.length then([], -1,4)else(l,0,0)
def nO(T:Int)(l:List aw):Prop:=∀x∈l,0≤x.to∧x.to≤T
theorem nr(T:Int):nO T []:=fun x h=>by simp at h
theorem nO.run{T:Int}{l:List aw}(h:nO T l)(u:0≤T)(s:ByteArray){t:Int}(j:0≤t):nO (T+t) (run l s t):=by
 unfold Ln.run;split
 ·intro x d
  simp at d;subst d;exact⟨j,η⟩
 ·rename_i y q
  have g:=List.mem_of_getLast? q;have v:=h y g;split
  ·intro x d
   rcases Ω.1 d with d|d
   ·have:=h x ((List.dropLast_sublist l).subset d)
    exact⟨this.1,χ⟩
   ·simp at d;subst d
    exact⟨η,η⟩
  ·intro x d
   rcases Ω.1 d with d|d
   ·have:=h x d
    exact⟨this.1,χ⟩
   ·simp at d;subst d
    exact⟨η,η⟩
theorem kO(l:List aw)(s:ByteArray)(t:Int):(run l s t).length≤l.length+1:=by
 unfold Ln.run;split
 ·simp
 ·split
  all_goals(simp only[List.length_append,List.length_dropLast,List.length_cons,List.length_nil];omega)
theorem nO.end_{T:Int}{l:List aw}(h:nO T l)(d:0≤T):0≤jE l∧jE l≤T:=by
 unfold jE;split
 ·exact⟨χ,d⟩
 ·rename_i y g
  exact h y (List.mem_of_getLast? g)
def fY(l:List Run):Nat:=l.foldr (fun r n=>r.QS+n) 0
theorem ic{M:Nat}{nd:Bool}{l:List Run}:∀{i s:Nat},bV M nd i s l=none→(∀r∈l,right M r nd=0)∧(nd=false→s≤M→s+fY l≤M):=by
 induction l with
 | nil=>intro i s _;exact⟨fun r h=>by simp at h,fun _ h=>by simpa[fY]using h⟩
 | cons r l ih =>
  intro i s h;simp only[bV]at h;split at h
  ·rename_i hr
   split at h
   ·simp at h
   ·rename_i hs
    obtain⟨h1,h2⟩:=ih h;refine⟨fun x hx=>?_,fun hn hm=>?_⟩
    ·rcases Ξ.1 hx with rfl|hx
     ·exact hr
     ·exact h1 x hx
    ·have:=h2 hn χ
     subst hn;simp only[fY,List.foldr_cons,eM,Bool.false_eq_true,if_false]at this⊢;omega
  ·simp at h
theorem uS{l:List Run}(h:∀r∈l,1≤r.QS):l.length≤fY l:=by
 induction l with
 | nil=>simp
 | cons r l ih =>
  have h1:=ih (fun x hx=>h x (List.mem_cons_of_mem _ hx));have h2:=h r ξ;simp only[fY,List.foldr_cons,List.length_cons]at h1⊢;omega
end Ln
structure Job where
 need:Int
 due:Int
 left:Int
namespace Ln
variable {l:List Job} {i j n:Nat}
def jlt(a b:Job):Prop:=a.due<b.due∨a.due=b.due∧a.need<b.need
instance (a b:Job):Decidable (jlt a b):=inferInstanceAs (Decidable (_∨_∧_))
theorem eW(a:Job):¬ jlt a a:=by unfold jlt;omega
theorem i9{a b c:Job}(h:¬ jlt b a)(k:¬ jlt c b):¬ jlt c a:=by unfold jlt at *; omega
theorem jt{a b:Job}(h:jlt a b):¬ jlt b a:=by unfold jlt at *; omega
def bn(l:List Job)(i j:Nat)(a b:Job):List Job:=(l.set i b).set j a
theorem dF{a b:Job}:(bn l i j a b).length=l.length:=by simp[bn]
theorem eC{a b:Job}(h:l[i]?=some a)(q:l[j]?=some b):(bn l i j a b).Perm l:=by
 obtain⟨d,rfl⟩:=ο.1 h;obtain⟨g,rfl⟩:=ο.1 q;exact List.set_set_perm d g
theorem dG{a b:Job}(h:l[i]?=some a)(q:l[j]?=some b)(k:Nat):(bn l i j a b)[k]?=if k=j then some a else if k=i then some b else l[k]?:=by
 have d:=(ο.1 h).1;have g:=(ο.1 q).1;unfold bn
 by_cases e1:k=j
 ·subst e1;rw[List.getElem?_set_self (by simpa using g),if_pos rfl]
 ·rw[List.getElem?_set_ne χ,if_neg e1]
  by_cases e2:k=i
  ·subst e2;rw[List.getElem?_set_self d,if_pos rfl]
  ·rw[List.getElem?_set_ne χ,if_neg e2]
def iv(l:List Job)(n j:Nat):Prop:=∀k x y,0<k→k<n→k≠j→l[k]?=some x→l[(k-1) / 2]?=some y→¬ jlt x y
def wE(l:List Job)(n j:Nat):Prop:=∀k x y,0<k→k<n→(k-1) / 2=j→0<j→l[k]?=some x→l[(j-1) / 2]?=some y→¬ jlt x y
def bE(l:List Job)(n:Nat):Prop:=∀k x y,0<k→k<n→l[k]?=some x→l[(k-1) / 2]?=some y→¬ jlt x y
theorem bE.root{l:List Job}{n:Nat}(h:bE l n)(hn:n≤l.length):∀k x r,k<n→l[k]?=some x→l[0]?=some r→¬ jlt x r:=by
 intro k
 induction k using Nat.strongRecOn with
 | _ k ih =>
  intro x r hk hx hr
  rcases ϑ k with h0|h0
  ·subst h0;rw[hx]at hr;injection hr with hr;subst hr;exact eW _
  ·obtain⟨y,hy⟩:∃y,l[(k-1) / 2]?=some y:=⟨_,θ χ⟩
   exact i9 (ih ((k-1) / 2) χ y r χ hy hr) (h k x y h0 hk hx hy)
theorem BX{a b:Job}(N:0<j)(O:j<n)(Q:n≤l.length)(C:iv l n j)(K:wE l n j)(u:l[(j-1) / 2]?=some a)(L:l[j]?=some b)(I:jlt b a):
 iv (bn l ((j-1) / 2) j a b) n ((j-1) / 2)∧wE (bn l ((j-1) / 2) j a b) n ((j-1) / 2):=by
 have v:=dG u L;constructor
 ·intro k x y h q E g d
  rw[v]at g d
  by_cases e1:k=j
  ·subst e1
   rw[if_pos rfl]at g;rw[if_neg χ,if_pos rfl]at d
   injection g with g;injection d with d
   subst g d;exact jt I
  ·rw[if_neg e1,if_neg E]at g
   by_cases e2:(k-1) / 2=j
   ·rw[if_pos e2]at d
    injection d with d
    subst d;exact K k x a h q e2 N g u
   ·rw[if_neg e2]at d
    by_cases e3:(k-1) / 2=(j-1) / 2
    ·rw[if_pos e3]at d
     injection d with d
     subst d;have:=C k x a h q e1 g (by rw[e3];exact u);unfold jlt at *;omega
    ·rw[if_neg e3]at d
     exact C k x y h q e1 g d
 ·intro k x y h q H D g d
  rw[v]at g d;have B:∃z,l[((j-1) / 2-1) / 2]?=some z:=⟨_,θ χ⟩;obtain⟨z,J⟩:=B;rw[if_neg χ,if_neg χ,J]at d
  injection d with d
  subst d;have w:=C ((j-1) / 2) a z D χ χ u J
  by_cases e1:k=j
  ·rw[if_pos e1]at g
   injection g with g
   subst g;exact w
  ·rw[if_neg e1,if_neg χ]at g
   have:=C k x a h q e1 g (by rw[H];exact u);exact i9 w this
theorem wK(C:iv l n j)(h:j=0∨∃a b,l[(j-1) / 2]?=some a∧l[j]?=some b∧¬ jlt b a):bE l n:=by
 intro k x y u v w B
 by_cases e:k=j
 ·rcases h with h|⟨a,b,d,g,q⟩
  ·omega
  ·subst e
   rw[w]at g;rw[B]at d
   injection g with g;injection d with d
   subst g d;exact q
 ·exact C k x y u v e w B
def dz(l:List Job)(n i:Nat):Prop:=
 (∀k x y,0<k→k<n→(k-1) / 2≠i→l[k]?=some x→l[(k-1) / 2]?=some y→¬ jlt x y)∧wE l n i
theorem mV{a b:Job}(hi:(j-1) / 2=i)(D:0<j)(E:j<n)(L:n≤l.length)(h:dz l n i)(K:l[i]?=some a)(C:l[j]?=some b)
 (B:∀k x,0<k→k<n→(k-1) / 2=i→l[k]?=some x→¬ jlt x b)(H:jlt b a):dz (bn l i j a b) n j:=by
 obtain⟨I,J⟩:=h;have w:=dG K C;constructor
 ·intro k x y q u v g d
  rw[w]at g d;rw[if_neg v]at d
  by_cases e1:k=j
  ·rw[if_pos e1]at g
   injection g with g;subst g
   rw[if_pos χ]at d
   injection d with d;subst d
   exact jt H
  ·rw[if_neg e1]at g
   by_cases e2:k=i
   ·rw[if_pos e2]at g
    injection g with g;subst g
    rw[if_neg χ]at d;subst e2;exact J j b y D E hi q C d
   ·rw[if_neg e2]at g
    by_cases e3:(k-1) / 2=i
    ·rw[if_pos e3]at d
     injection d with d;subst d
     exact B k x q u e3 g
    ·rw[if_neg e3]at d
     exact I k x y q u e3 g d
 ·intro k x y q u v _ g d
  rw[w]at g d;rw[if_neg χ,if_neg χ]at g;rw[if_neg χ,if_pos hi]at d
  injection d with d;subst d
  exact I k x b q u χ g (by rw[v];exact C)
theorem mW{a:Job}(h:dz l n i)(u:l[i]?=some a)(v:∀k x,0<k→k<n→(k-1) / 2=i→l[k]?=some x→¬ jlt x a):bE l n:=by
 intro k x y d g q j
 by_cases e:(k-1) / 2=i
 ·rw[e,u]at j
  injection j with j;subst j
  exact v k x d g e q
 ·exact h.1 k x y d g e q j
end Ln
namespace Ln
variable {ts:List ByteArray}
theorem rF(s:ByteArray)(t:Int):run [] s t=[⟨s,0,t⟩]:=rfl
theorem gv(l:List aw)(x:aw)(s:ByteArray)(t:Int):run (l++[x]) s t=if x.QH=s then l++[⟨x.QH,x.QF,x.to+t⟩]else l++[x]++[⟨s,x.to,x.to+t⟩]:=by
 unfold run;rw[List.getLast?_concat];simp only[List.dropLast_concat]
theorem rC(l:List aw):l=[]∨∃m x,l=m++[x]:=by
 rcases List.eq_nil_or_concat l with h|⟨m,x,h⟩
 ·exact .inl h
 ·exact .inr ⟨m,x,by rw[h,List.concat_eq_append]⟩
theorem Bi(l:List aw)(s:ByteArray)(a b:Int):run (run l s a) s b=run l s (a+b):=by
 rcases rC l with rfl|⟨m,x,rfl⟩
 ·rw[rF,show[(⟨s,0,a⟩:aw)]=[]++[⟨s,0,a⟩] from rfl,gv,if_pos rfl,rF]
  simp
 ·rw[gv,gv]
  by_cases h:x.QH=s
  ·rw[if_pos h,if_pos h,gv,if_pos h];simp[Int.add_assoc]
  ·rw[if_neg h,if_neg h,gv,if_pos rfl];simp[Int.add_assoc]
def bv(l:List aw)(ts:List ByteArray):List aw:=ts.foldl (fun l s=>run l s 1) l
theorem eE(l:List aw)(a b:List ByteArray):bv l (a++b)=bv (bv l a) b:=by simp[bv]
theorem xh(l:List aw)(s:ByteArray)(n:Nat):run l s ((n+1:Nat):Int)=bv l (List.replicate (n+1) s):=by
 induction n with
 | zero=>rfl
 | succ n ih =>
  rw[List.replicate_succ',eE,←ih];show _=run _ s 1;rw[Bi];congr 1
theorem oH(l:List aw)(s:ByteArray){n:Nat}(h:0<n):run l s (n:Int)=bv l (List.replicate n s):=by
 obtain⟨k,rfl⟩:∃k,n=k+1:=⟨n-1,χ⟩;exact xh l s k
def mS(xs:List Run):List ByteArray:=xs.flatMap fun r=>List.replicate r.QS r.QH
theorem ph{xs:List Run}(h:∀r∈xs,1≤r.QS):∀(l:List aw),ef l xs=bv l (mS xs):=by
 induction xs with
 | nil=>intro l;rfl
 | cons r xs ih =>
  intro l;have h1:=h r ξ;show ef (run l r.QH r.QS) xs=bv l (List.replicate r.QS r.QH++mS xs);rw[ih (fun x hx=>h x (List.mem_cons_of_mem _ hx)),eE,oH _ _ χ]
theorem pz(xs:List Run):(mS xs).length=fY xs:=by
 induction xs with
 | nil=>rfl
 | cons r xs ih=>simp only[mS,List.flatMap_cons,List.length_append,List.length_replicate,fY,List.foldr_cons]at ih⊢; omega
def mi:Int→Option ByteArray→List aw→Prop
 | _,_,[]=>True
 | e,p,s::l=>s.QF=e∧s.QF<s.to∧p≠some s.QH∧mi s.to (some s.QH) l
def jX:Option ByteArray→List aw→Option ByteArray
 | p,[]=>p
 | _,s::l=>jX (some s.QH) l
theorem pt(l:List aw)(x:aw):∀p,jX p (l++[x])=some x.QH:=by
 induction l with
 | nil=>intro p;rfl
 | cons s l ih=>intro p;exact ih _
theorem fD(l:List aw)(x:aw):∀e,jW e (l++[x])=x.to:=by
 induction l with
 | nil=>intro e;rfl
 | cons s l ih=>intro e;exact ih _
theorem jh{l:List aw}{x:aw}:∀{e p},mi e p (l++[x])↔mi e p l∧x.QF=jW e l∧x.QF<x.to∧jX p l≠some x.QH:=by
 induction l with
 | nil=>intro e p;simp[mi,jW,jX]
 | cons s l ih =>
  intro e p;simp only[List.cons_append,mi,jW,jX,ih];constructor
  ·rintro⟨h1,h2,h3,h4,h5⟩;exact⟨⟨h1,h2,h3,h4⟩,h5⟩
  ·rintro⟨⟨h1,h2,h3,h4⟩,h5⟩;exact⟨h1,h2,h3,h4,h5⟩
theorem pE(l:List aw):jE l=jW 0 l:=by
 rcases rC l with rfl|⟨m,x,rfl⟩
 ·rfl
 ·rw[fD];unfold jE;rw[List.getLast?_concat]
structure qH (l:List aw) (ts:List ByteArray):Prop where
 chain:mi 0 none l
 last:jW 0 l=ts.length
 tick:∀(o:Nat) (s:ByteArray),ts[o]?=some s→∃x∈l,x.QF≤(o:Int)∧(o:Int)<x.to∧x.QH=s
theorem tM:qH [] []:=⟨trivial,rfl,fun o s h=>by simp at h⟩
theorem qH.run{l:List aw}(h:qH l ts)(s:ByteArray):qH (run l s 1) (ts++[s]):=by
 obtain⟨C,D,E⟩:=h
 rcases rC l with rfl|⟨m,x,rfl⟩
 ·have I:ts=[]:=by simpa[jW,eq_comm]using D
  subst I;refine⟨⟨rfl,ξ,ξ,trivial⟩,rfl,fun o y d=>?_⟩;have J:o=0:=by
   rcases ϑ o with h|h
   ·exact h
   ·rw[List.getElem?_eq_none η]at d;simp at d
  subst J;simp at d;subst d;exact⟨⟨s,0,1⟩,by simp[rF],ξ,ξ,rfl⟩
 ·rw[fD]at D
  obtain⟨c1,c2,K,H⟩:=jh.1 C;rw[gv];have g:∀o y,(ts++[s])[o]?=some y→(ts[o]?=some y)∨(o=ts.length∧y=s):=fun o y d=>by
   rcases Ψ o ts.length with h|h
   ·rw[List.getElem?_append_left h]at d;exact .inl d
   ·rw[List.getElem?_append_right h]at d
    rcases ϑ (o-ts.length)with B|B
    ·rw[B]at d;simp at d;exact .inr ⟨χ,d.symm⟩
    ·rw[List.getElem?_eq_none η]at d;simp at d
  split
  ·rename_i v
   refine⟨jh.2 ⟨c1,c2,η,H⟩,by rw[fD];simp;omega,fun o y d=>?_⟩
   rcases g o y d with h|⟨rfl,rfl⟩
   ·obtain⟨z,j,q,w,u⟩:=E o y h
    rcases Ω.1 j with j|j
    ·exact⟨z,List.mem_append_left _ j,q,w,u⟩
    ·simp at j;subst j
     exact⟨⟨z.QH,z.QF,z.to+1⟩,ξ,q,η,u⟩
   ·exact⟨⟨x.QH,x.QF,x.to+1⟩,ξ,η,η,v⟩
  ·rename_i v
   refine⟨jh.2 ⟨C,by rw[fD],η,by rw[pt];simpa using v⟩,by rw[fD];simp;omega,fun o y d=>?_⟩
   rcases g o y d with h|⟨rfl,rfl⟩
   ·obtain⟨z,j,q,w,u⟩:=E o y h
    exact⟨z,List.mem_append_left _ j,q,w,u⟩
   ·exact⟨⟨y,x.to,x.to+1⟩,ξ,η,η,rfl⟩
theorem qH.rows{ts:List ByteArray}:∀{l:List aw} {us:List ByteArray},qH l us→qH (bv l ts) (us++ts):=by
 induction ts with
 | nil=>intro l us h;simpa[bv]using h
 | cons s ts ih =>
  intro l us h;have:=ih (h.run s)
  rwa[List.append_assoc]at this
theorem vW{M:Nat}{l:List aw}(h:qH l ts):fill M l=bv l (List.replicate (M-ts.length) ByteArray.empty):=by
 unfold fill;rw[pE,h.last];split
 ·rename_i d
  rw[show(M:Int)-(ts.length:Int)=((M-ts.length:Nat):Int) by omega,oH _ _ χ]
 ·rw[show M-ts.length=0 by omega];rfl
def oI(M:Nat)(xs:List Run):List ByteArray:=mS xs++List.replicate (M-fY xs) ByteArray.empty
theorem zS{M:Nat}{xs:List Run}(h:∀r∈xs,1≤r.QS):fill M (ef [] xs)=bv [] (oI M xs):=by
 rw[ph h];have d:=qH.rows (ts:=mS xs) tM;rw[List.nil_append]at d;rw[vW d,oI,eE,pz]
end Ln
namespace Edf
def sumTo:Nat→(Nat→Nat)→Nat
 | 0,_=>0
 | n+1,f=>sumTo n f+f n
theorem jK{n:Nat}{f g:Nat→Nat}(h:∀i,i<n→f i≤g i):sumTo n f≤sumTo n g:=by
 induction n with
 | zero=>exact Γ _
 | succ n ih=>simp only[sumTo];exact Nat.add_le_add (ih fun i hi=>h i χ) (h n χ)
theorem sC{n:Nat}{f g:Nat→Nat}(h:∀i,i<n→f i≤g i){k:Nat}(hk:k<n)(hlt:f k<g k):sumTo n f<sumTo n g:=by
 induction n with
 | zero=>omega
 | succ n ih =>
  simp only[sumTo]
  rcases Ψ k n with h1|h1
  ·have:=ih (fun i hi=>h i χ) h1
   have:=h n χ;omega
  ·obtain rfl:k=n:=χ
   have:=jK (n:=k) (fun i hi=>h i χ);omega
theorem AV{n:Nat}{f:Nat→Nat}{k:Nat}(hk:k<n):f k≤sumTo n f:=by
 induction n with
 | zero=>omega
 | succ n ih =>
  simp only[sumTo]
  rcases Ψ k n with h1|h1
  ·have:=ih h1;omega
  ·obtain rfl:k=n:=χ
   omega
theorem qN{n:Nat}{f:Nat→Nat}{c:Nat}:sumTo n (fun i=>f i*c)=sumTo n f*c:=by
 induction n with
 | zero=>simp[sumTo]
 | succ n ih=>simp only[sumTo,ih,Nat.add_mul]
section
variable (n:Nat) (p b:Nat→Nat)
def due(t i:Nat):Nat:=(t / p i+1)*p i
def rel(t:Nat)(L:Nat→Nat)(i:Nat):Nat:=if t%p i=0 then b i else L i
def pick(t:Nat)(L:Nat→Nat):Nat→Option Nat
 | 0=>none
 | m+1=>match pick t L m with
  | none=>if 0<L m then some m else none
  | some k=>if 0<L m∧due p t m<due p t k then some m else some k
def dec(L:Nat→Nat)(o:Option Nat)(i:Nat):Nat:=if o=some i then L i-1 else L i
def st:Nat→Nat→Nat
 | 0=>fun _=>0
 | t+1=>dec (rel p b t (st t)) (pick p t (rel p b t (st t)) n)
def who(t:Nat):Option Nat:=pick p t (rel p b t (st n p b t)) n
end
variable {n:Nat} {p b:Nat→Nat}
theorem mD{t:Nat}{L:Nat→Nat}:∀{m:Nat},pick p t L m=none→∀i,i<m→L i=0:=by
 intro m
 induction m with
 | zero=>intro _ i hi;omega
 | succ m ih =>
  intro h i hi;simp only[pick]at h;split at h
  ·rename_i h0
   split at h
   ·simp at h
   ·rcases Ψ i m with h1|h1
    ·exact ih h0 i h1
    ·obtain rfl:i=m:=χ
     omega
  ·split at h<;>simp at h
theorem hO{t:Nat}{L:Nat→Nat}:∀{m k:Nat},pick p t L m=some k→k<m∧0<L k∧∀i,i<m→0<L i→due p t k<due p t i∨due p t k=due p t i∧k≤i:=by
 intro m
 induction m with
 | zero=>intro k h;simp[pick]at h
 | succ m ih =>
  intro k h;simp only[pick]at h;split at h
  ·rename_i h0
   split at h
   ·injection h with h
    subst h;refine⟨χ,by assumption,fun i hi hl=>?_⟩
    rcases Ψ i m with h1|h1
    ·have:=mD h0 i h1;omega
    ·obtain rfl:i=m:=χ
     exact .inr ⟨rfl,Γ _⟩
   ·simp at h
  ·rename_i q h0
   obtain⟨h1,h2,h3⟩:=ih h0;split at h
   ·rename_i hc
    injection h with h
    subst h;refine⟨χ,hc.1,fun i hi hl=>?_⟩
    rcases Ψ i m with h4|h4
    ·have:=h3 i h4 hl;omega
    ·obtain rfl:i=m:=χ
     exact .inr ⟨rfl,Γ _⟩
   ·rename_i hc
    injection h with h
    subst h;refine⟨χ,h2,fun i hi hl=>?_⟩
    rcases Ψ i m with h4|h4
    ·exact h3 i h4 hl
    ·obtain rfl:i=m:=χ
     have:¬ due p t i<due p t q:=fun h=>hc ⟨hl,h⟩
     omega
theorem wR{t:Nat}{L:Nat→Nat}{m k:Nat}(hk:k<m)(d:0<L k)(h:∀i,i<m→0<L i→due p t k<due p t i∨due p t k=due p t i∧k≤i):pick p t L m=some k:=by
 rcases hp:pick p t L m with _|q
 ·have:=mD hp k hk;omega
 ·obtain⟨g,j,l⟩:=hO hp
  have u:=h q g j;have v:=l k hk d;have:k=q:=χ
  rw[this]
theorem kz{t:Nat}{L:Nat→Nat}{m:Nat}(h:∀i,i<m→L i=0):pick p t L m=none:=by
 rcases hp:pick p t L m with _|q
 ·rfl
 ·obtain⟨d,g,_⟩:=hO hp
  have:=h q d;omega
def jH(p b:Nat→Nat)(t d l i:Nat):Nat:=(if t / p i+1≤d / p i then l else 0)+b i*(d / p i-(t / p i+1))
def Fits(n:Nat)(p b:Nat→Nat):Prop:=∀(c:Nat→Nat) (D:Nat),(∀i,i<n→c i*p i≤D)→sumTo n (fun i=>b i*c i)≤D
theorem fits_of{M:Nat}(l:0<M)(u:∀i,i<n→1≤p i∧M%p i=0)(v:sumTo n (fun i=>b i*(M / p i))≤M):Fits n p b:=by
 intro c D q;have d:sumTo n (fun i=>b i*c i)*M≤D*M:=by
  rw[←qN];have g:sumTo n (fun i=>b i*c i*M)≤sumTo n (fun i=>b i*(M / p i)*D):=jK fun i hi=>by
   obtain⟨w,h⟩:=u i hi;have j:M=M / p i*p i:=by have:=Nat.div_add_mod M (p i);rw[h,Nat.add_zero,Nat.mul_comm]at this;exact this.symm
   calc b i*c i*M=b i*c i*(M / p i*p i):=by rw[←j]
    _=b i*(M / p i)*(c i*p i):=by simp only[Nat.mul_assoc,Nat.mul_left_comm,Nat.mul_comm]
    _≤b i*(M / p i)*D:=Nat.mul_le_mul_left _ (q i hi)
  refine Δ g ?_;rw[qN,Nat.mul_comm];exact Nat.mul_le_mul_left _ v
 exact Nat.le_of_mul_le_mul_right d l
theorem xI{t d l i:Nat}(u:1≤p i)(j:True):jH p b (t+1) d (if(t+1)%p i=0 then b i else l) i≤jH p b t d l i:=by
 unfold jH
 by_cases h:(t+1)%p i=0
 ·rw[if_pos h]
  have e:(t+1) / p i=t / p i+1:=by
   have g:=Nat.succ_div (a:=t) (b:=p i);rw[if_pos (Nat.dvd_of_mod_eq_zero h)]at g;exact g
  rw[e];split
  ·have:d / p i-(t / p i+1)=(d / p i-(t / p i+1+1))+1:=χ
   rw[this,Nat.mul_add];split<;>omega
  ·have:d / p i-(t / p i+1+1)=0:=χ
   rw[this];simp
 ·rw[if_neg h]
  have e:(t+1) / p i=t / p i:=by
   have g:=Nat.succ_div (a:=t) (b:=p i);rw[if_neg (fun q=>h (Nat.mod_eq_zero_of_dvd q))]at g;exact g
  rw[e];exact Γ _
theorem pT(D:Fits n p b)(w:∀i,i<n→1≤p i){t d:Nat}(E:t<d){L:Nat→Nat}(h:sumTo n (fun i=>jH p b t d (L i) i)≤d-t):
 sumTo n (fun i=>jH p b t d (dec L (pick p t L n) i) i)≤d-(t+1):=by
 have g:∀i,i<n→(due p t i≤d↔t / p i+1≤d / p i):=fun i hi=>by
  unfold due;exact(Nat.le_div_iff_mul_le (w i hi)).symm
 have l:∀i,i<n→jH p b t d (dec L (pick p t L n) i) i≤jH p b t d (L i) i:=fun i _=>by
  unfold jH dec;split
  ·split<;>omega
  ·exact Γ _
 by_cases hk:∃k,pick p t L n=some k∧due p t k≤d
 ·obtain⟨k,hk,j⟩:=hk
  obtain⟨q,x,_⟩:=hO hk;have:=sC l q (by
   unfold jH dec;rw[if_pos hk,if_pos ((g k q).1 j),if_pos ((g k q).1 j)];omega)
  omega
 ·have H:∀i,i<n→t / p i+1≤d / p i→L i=0:=fun i hi v=>by
   rcases ϑ (L i)with u|u
   ·exact u
   ·rcases hq:pick p t L n with _|k
    ·exact mD hq i hi
    ·obtain⟨q,x,y⟩:=hO hq
     have I:=y i hi u;have J:=(g i hi).2 v;exact absurd ⟨k,hq,χ⟩ hk
  have B:sumTo n (fun i=>jH p b t d (dec L (pick p t L n) i) i)≤sumTo n (fun i=>b i*(d / p i-(t / p i+1))):=jK fun i hi=>by
   refine Δ (l i hi) ?_;unfold jH;split
   ·rename_i v
    rw[H i hi v];omega
   ·omega
  refine Δ B (D _ _ fun i hi=>?_);have C:=Nat.div_add_mod t (p i);have K:=Nat.mod_lt t (w i hi);have N:=Nat.div_mul_le_self d (p i);rw[Nat.sub_mul,Nat.add_mul,Nat.one_mul];rw[Nat.mul_comm]at C;omega
theorem inv(hf:Fits n p b)(hp:∀i,i<n→1≤p i):∀(t d:Nat),t≤d→sumTo n (fun i=>jH p b t d (rel p b t (st n p b t) i) i)≤d-t:=by
 intro t
 induction t with
 | zero =>
  intro d _;refine Δ (jK fun i hi=>?_) (hf (fun i=>d / p i) d fun i hi=>Nat.div_mul_le_self d (p i));unfold jH rel;rw[if_pos (Nat.zero_mod _),Nat.zero_div];split
  ·have:d / p i=(d / p i-(0+1))+1:=χ
   rw[this,Nat.mul_add];simp only[Nat.add_sub_cancel];omega
  ·rename_i hd
   have:d / p i=0:=Nat.eq_zero_of_not_pos fun h=>hd h
   rw[this];simp
 | succ t ih =>
  intro d hd;refine Δ (jK fun i hi=>?_) (pT hf hp (t:=t) (d:=d) χ (ih d χ));exact xI (hp i hi) trivial
theorem wU(h:Fits n p b)(j:∀i,i<n→1≤p i){t i:Nat}(hi:i<n)(q:t%p i=0):st n p b t i=0:=by
 cases t with
 | zero=>rfl
 | succ t =>
  have g:=pT h j (t:=t) (d:=t+1) χ (inv h j t (t+1) χ);have l:=AV (f:=fun i=>jH p b t (t+1) (dec (rel p b t (st n p b t)) (pick p t (rel p b t (st n p b t)) n) i) i) hi;have e:(t+1) / p i=t / p i+1:=by
   have g:=Nat.succ_div (a:=t) (b:=p i);rw[if_pos (Nat.dvd_of_mod_eq_zero q)]at g;exact g
  have u:jH p b t (t+1) (st n p b (t+1) i) i=st n p b (t+1) i+b i*(t / p i+1-(t / p i+1)):=by
   unfold jH;rw[e,if_pos (Γ _)]
  have v:jH p b t (t+1) (st n p b (t+1) i) i≤0:=Δ l (Δ g χ);omega
end Edf
namespace Edf
open Ln
variable {L D N:Nat→Nat} {k n:Nat} {l:List Job}
def set1(L:Nat→Nat)(k v:Nat)(i:Nat):Nat:=if i=k then v else L i
def bZ(L D:Nat→Nat):Nat→List Job
 | 0=>[]
 | m+1=>bZ L D m++(if 0<L m then[⟨m,D m,L m⟩]else[])
def nextOf(N:Nat→Nat):Nat→List Job
 | 0=>[]
 | m+1=>nextOf N m++[⟨m,N m,0⟩]
def kH(N:Nat→Nat)(k:Nat):Nat→List Job
 | 0=>[]
 | m+1=>kH N k m++(if m=k then[]else[⟨m,N m,0⟩])
theorem iY{L D:Nat→Nat}{x:Job}:∀{n:Nat},x∈bZ L D n↔∃i,i<n∧0<L i∧x=⟨i,D i,L i⟩:=by
 intro n
 induction n with
 | zero=>simp[bZ]
 | succ n ih =>
  simp only[bZ,List.mem_append,ih];constructor
  ·rintro(⟨i,h1,h2,h3⟩|h)
   ·exact⟨i,χ,h2,h3⟩
   ·split at h
    ·simp at h;exact⟨n,χ,by assumption,h⟩
    ·simp at h
  ·rintro⟨i,h1,h2,h3⟩
   rcases Ψ i n with h|h
   ·exact .inl ⟨i,h,h2,h3⟩
   ·obtain rfl:i=n:=χ
    exact .inr (by rw[if_pos h2];simp[h3])
theorem oV{N:Nat→Nat}{x:Job}:∀{n:Nat},x∈nextOf N n↔∃i,i<n∧x=⟨i,N i,0⟩:=by
 intro n
 induction n with
 | zero=>simp[nextOf]
 | succ n ih =>
  simp only[nextOf,List.mem_append,ih,List.mem_singleton];constructor
  ·rintro(⟨i,h1,h3⟩|h)
   ·exact⟨i,χ,h3⟩
   ·exact⟨n,χ,h⟩
  ·rintro⟨i,h1,h3⟩
   rcases Ψ i n with h|h
   ·exact .inl ⟨i,h,h3⟩
   ·obtain rfl:i=n:=χ
    exact .inr h3
theorem dN{L L' D D':Nat→Nat}:∀{n:Nat},(∀i,i<n→L i=L' i)→(∀i,i<n→0<L i→D i=D' i)→bZ L D n=bZ L' D' n:=by
 intro n
 induction n with
 | zero=>intro _ _;rfl
 | succ n ih =>
  intro h1 h2;simp only[bZ];rw[ih (fun i hi=>h1 i χ) (fun i hi=>h2 i χ),←h1 n χ];split
  ·rename_i h;rw[h2 n χ h]
  ·rfl
theorem iS{N N':Nat→Nat}:∀{n:Nat},(∀i,i<n→N i=N' i)→nextOf N n=nextOf N' n:=by
 intro n
 induction n with
 | zero=>intro _;rfl
 | succ n ih =>
  intro h1;simp only[nextOf];rw[ih (fun i hi=>h1 i χ),h1 n χ]
theorem sY{N N':Nat→Nat}{k:Nat}:∀{n:Nat},(∀i,i<n→i≠k→N i=N' i)→kH N k n=kH N' k n:=by
 intro n
 induction n with
 | zero=>intro _;rfl
 | succ n ih =>
  intro h1;simp only[kH];rw[ih (fun i hi=>h1 i χ)];split
  ·rfl
  ·rename_i h;rw[h1 n χ h]
theorem nextOf_length(N:Nat→Nat)(n:Nat):(nextOf N n).length=n:=by
 induction n with
 | zero=>rfl
 | succ n ih=>simp[nextOf,ih]
theorem jobsOf_length(L D:Nat→Nat)(n:Nat):(bZ L D n).length≤n:=by
 induction n with
 | zero=>simp[bZ]
 | succ n ih=>simp only[bZ,List.length_append];split<;>simp<;>omega
theorem kd{L D:Nat→Nat}{k v:Nat}(h0:L k=0)(hv:0<v):∀{n:Nat},k<n→(bZ (set1 L k v) D n).Perm (⟨k,D k,v⟩::bZ L D n):=by
 intro n
 induction n with
 | zero=>intro h;omega
 | succ n ih =>
  intro hk;simp only[bZ]
  rcases Ψ k n with h|h
  ·have e:set1 L k v n=L n:=by unfold set1;rw[if_neg χ]
   rw[e];exact(ih h).append_right _
  ·obtain rfl:k=n:=χ
   have e:bZ (set1 L k v) D k=bZ L D k:=dN (fun i hi=>by unfold set1;rw[if_neg χ]) (fun i hi _=>rfl);have e2:set1 L k v k=v:=by unfold set1;rw[if_pos rfl]
   rw[e,e2,if_pos hv,if_neg χ,List.append_nil];exact List.perm_append_singleton _ _
theorem vQ(hk:k<n)(d:0<L k):(bZ L D n).Perm (⟨k,D k,L k⟩::bZ (set1 L k 0) D n):=by
 have h:=kd (L:=set1 L k 0) (D:=D) (k:=k) (v:=L k) (by unfold set1;rw[if_pos rfl]) d hk
 rwa[dN (L:=set1 (set1 L k 0) k (L k)) (L':=L) (fun i _=>by unfold set1;split<;>simp_all) (fun i _ _=>rfl)]at h
theorem lE{N:Nat→Nat}{k:Nat}:∀{n:Nat},k<n→(nextOf N n).Perm (⟨k,N k,0⟩::kH N k n):=by
 intro n
 induction n with
 | zero=>intro h;omega
 | succ n ih =>
  intro hk;simp only[nextOf,kH]
  rcases Ψ k n with h|h
  ·rw[if_neg χ]
   exact(ih h).append_right _
  ·obtain rfl:k=n:=χ
   have e:∀m,m≤k→kH N k m=nextOf N m:=by
    intro m
    induction m with
    | zero=>intro _;rfl
    | succ m ihm =>
     intro hm;simp only[kH,nextOf];rw[ihm χ,if_neg χ]
   rw[if_pos rfl,List.append_nil,e k (Γ _)];exact List.perm_append_singleton _ _
theorem uw{v:Nat}(hk:k<n):(nextOf (set1 N k v) n).Perm (⟨k,v,0⟩::kH N k n):=by
 have h:=lE (N:=set1 N k v) hk;rw[show set1 N k v k=v by unfold set1;rw[if_pos rfl]]at h
 rwa[sY (N:=set1 N k v) (N':=N) (fun i _ hi=>by unfold set1;rw[if_neg hi])]at h
theorem set_root{l:List Job}{r r':Job}(h:l[0]?=some r):∃d,l=r::d∧l.set 0 r'=r'::d:=by
 cases l with
 | nil=>simp at h
 | cons x d=>simp at h;subst h;exact⟨d,rfl,rfl⟩
theorem next_root{r:Job}(g:l.Perm (nextOf N n))(hh:bE l l.length)(j:l[0]?=some r):
 ∃k,k<n∧r=⟨k,N k,0⟩∧∀i,i<n→N k≤N i:=by
 obtain⟨k,hk,d⟩:=oV.1 (g.mem_iff.1 (γ j));refine⟨k,hk,d,fun i hi=>?_⟩;obtain⟨q,h⟩:=List.getElem?_of_mem (g.mem_iff.2 (oV.2 ⟨i,hi,rfl⟩));have:=hh.root (Γ _) q _ r (ο.1 h).1 h j;subst d;unfold jlt at this;simp only at this;omega
theorem xL{p:Nat→Nat}{t:Nat}{r:Job}(j:l.Perm (bZ L (due p t) n))(hh:bE l l.length)(v:l[0]?=some r):
 ∃k,k<n∧0<L k∧r=⟨k,due p t k,L k⟩∧pick p t L n=some k:=by
 obtain⟨k,hk,d,g⟩:=iY.1 (j.mem_iff.1 (γ v));refine⟨k,hk,d,g,wR hk d fun i hi h=>?_⟩;obtain⟨q,u⟩:=List.getElem?_of_mem (j.mem_iff.2 (iY.2 ⟨i,hi,h,rfl⟩));have:=hh.root (Γ _) q _ r (ο.1 u).1 u v;subst g;unfold jlt at this;simp only at this;omega
theorem heap_set_same{r:Job}{c:Int}(hh:bE l n)(u:l[0]?=some r):bE (l.set 0 ⟨r.need,r.due,c⟩) n:=by
 intro k x y j q g d;rw[List.getElem?_set_ne χ]at g
 rcases ϑ ((k-1) / 2)with h|h
 ·rw[h,List.getElem?_set_self (ο.1 u).1]at d
  injection d with d
  have:=hh k x r j q g (by rw[h];exact u);subst d;unfold jlt at *;exact this
 ·rw[List.getElem?_set_ne χ]at d
  exact hh k x y j q g d
theorem heap_set_under{r':Job}(hh:bE l n):dz (l.set 0 r') n 0:=by
 refine⟨fun k x y j q u d g=>?_,fun k a b _ _ _ h _ _=>χ⟩;rw[List.getElem?_set_ne χ]at d;rw[List.getElem?_set_ne χ]at g;exact hh k x y j q d g
end Edf
namespace Edf
open Ln
variable {n:Nat} {p b:Nat→Nat}
theorem rX{t i:Nat}(d:1≤p i):t<due p t i:=by
 unfold due;have g:=Nat.div_add_mod t (p i);have h:=Nat.mod_lt t d;rw[Nat.add_mul,Nat.one_mul,Nat.mul_comm];omega
theorem pH{t t' i:Nat}(j:1≤p i)(d:t≤t')(g:t'<due p t i):due p t' i=due p t i:=by
 have l:t / p i≤t' / p i:=Nat.div_le_div_right d;have q:t' / p i<t / p i+1:=(Nat.div_lt_iff_lt_mul j).2 g;have h:t' / p i=t / p i:=χ
 unfold due;rw[h]
theorem je{t t' i:Nat}(j:1≤p i)(l:t<t')(q:t'≤due p t i)(u:t'%p i=0):t'=due p t i:=by
 rcases Ψ t' (due p t i)with h|h
 ·have v:t / p i≤t' / p i:=Nat.div_le_div_right χ
  have w:t' / p i<t / p i+1:=(Nat.div_lt_iff_lt_mul j).2 h;have d:t' / p i=t / p i:=χ
  have g:=Nat.div_add_mod t' (p i);have x:=Nat.div_add_mod t (p i);rw[d]at g;omega
 ·omega
theorem Dj{t i:Nat}(h:t%p i=0):due p t i=t+p i:=by
 unfold due;have d:=Nat.div_add_mod t (p i);rw[Nat.add_mul,Nat.one_mul,Nat.mul_comm];omega
def nx(p:Nat→Nat)(t i:Nat):Nat:=if t%p i=0 then t else due p t i
structure HeadInv (n:Nat) (p b:Nat→Nat) (t:Nat) (wl nl:List Job):Prop where
 wait:wl.Perm (bZ (st n p b t) (due p t) n)
 next:nl.Perm (nextOf (nx p t) n)
structure RelInv (n:Nat) (p b:Nat→Nat) (t:Nat) (L N:Nat→Nat) (wl nl:List Job):Prop where
 wait:wl.Perm (bZ L (due p t) n)
 next:nl.Perm (nextOf N n)
 off:∀i,i<n→t%p i≠0→L i=st n p b t i∧N i=due p t i
 on:∀i,i<n→t%p i=0→(L i=0∧N i=t)∨(L i=b i∧N i=due p t i)
structure gO (n:Nat) (p b:Nat→Nat) (t:Nat) (wl nl:List Job):Prop where
 wait:wl.Perm (bZ (rel p b t (st n p b t)) (due p t) n)
 next:nl.Perm (nextOf (due p t) n)
def todo(n t:Nat)(N:Nat→Nat):Nat:=sumTo n fun i=>if N i=t then 1 else 0
theorem headInv_zero{wl nl:List Job}(hw:wl=[])(hn:nl.Perm (nextOf (fun _=>0) n)):HeadInv n p b 0 wl nl:=by
 refine⟨?_,?_⟩
 ·have e:∀m,bZ (st n p b 0) (due p 0) m=[]:=fun m=>by
   induction m with
   | zero=>rfl
   | succ m ih=>simp only[bZ,ih];rfl
  rw[hw,e]
 ·rw[iS (N':=fun _=>0) (fun i _=>by unfold nx;rw[if_pos (Nat.zero_mod _)])]
  exact hn
theorem HeadInv.rel(g:Fits n p b)(j:∀i,i<n→1≤p i){t:Nat}{wl nl:List Job}(h:HeadInv n p b t wl nl):RelInv n p b t (st n p b t) (nx p t) wl nl:=
 ⟨h.wait,h.next,fun i _ d=>⟨rfl,by unfold nx;rw[if_neg d]⟩,fun i hi d =>.inl ⟨wU g j hi d,by unfold nx;rw[if_pos d]⟩⟩
theorem RelInv.step(O:∀i,i<n→1≤p i∧1≤b i){t:Nat}{L N:Nat→Nat}{wl nl:List Job}{r:Job}(h:RelInv n p b t L N wl nl)(hh:bE nl nl.length)(Q:nl[0]?=some r)(I:r.due=t):
 ∃k,k<n∧r.need=k∧∀q l,q.Perm (wl++[⟨k,((t+p k:Nat):Int),b k⟩])→l.Perm (nl.set 0 ⟨k,((t+p k:Nat):Int),0⟩) →
  RelInv n p b t (set1 L k (b k)) (set1 N k (t+p k)) q l∧todo n t (set1 N k (t+p k))<todo n t N:=by
 obtain⟨k,hk,g,J⟩:=next_root h.next hh Q
 have E:N k=t:=by rw[g]at I;simp only at I;omega
 have y:=(O k hk).1;have j:t%p k=0:=by
  rcases ϑ (t%p k)with u|u
  ·exact u
  ·have w:=(h.off k hk χ).2
   have:=rX (p:=p) (t:=t) y;omega
 have C:L k=0:=by
  rcases h.on k hk j with u|u
  ·exact u.1
  ·have:=rX (p:=p) (t:=t) y
   omega
 have x:=Dj (p:=p) (i:=k) j;refine⟨k,hk,by rw[g],fun q l U K=>⟨⟨?_,?_,?_,?_⟩,?_⟩⟩
 ·have w:=kd (L:=L) (D:=due p t) (v:=b k) C (O k hk).2 hk
  rw[x]at w;exact(U.trans (List.perm_append_singleton _ _)).trans ((h.wait.cons _).trans w.symm)
 ·obtain⟨V,w,R⟩:=set_root (r':=⟨k,((t+p k:Nat):Int),0⟩) Q
  rw[R]at K;have H:(r::V).Perm (⟨k,N k,0⟩::kH N k n):=by rw[←w];exact h.next.trans (lE hk)
  rw[g]at H;exact K.trans (((List.perm_cons _).1 H).cons _ |>.trans (uw hk).symm)
 ·intro i hi B
  have d:i≠k:=by rintro rfl;exact B j
  unfold set1;rw[if_neg d,if_neg d];exact h.off i hi B
 ·intro i hi B
  unfold set1
  by_cases d:i=k
  ·subst d;rw[if_pos rfl,if_pos rfl];exact .inr ⟨rfl,x.symm⟩
  ·rw[if_neg d,if_neg d];exact h.on i hi B
 ·refine sC (fun i _=>?_) hk ?_
  ·unfold set1
   by_cases d:i=k
   ·subst d;rw[if_pos rfl,if_neg χ];omega
   ·rw[if_neg d];exact Γ _
  ·simp only[set1,if_pos E];rw[if_pos trivial,if_neg χ];omega
theorem RelInv.after(x:∀i,i<n→1≤p i){t:Nat}{L N:Nat→Nat}{wl nl:List Job}(h:RelInv n p b t L N wl nl)(hh:bE nl nl.length)(w:∀r:Job,nl[0]?=some r→r.due≠(t:Int)):gO n p b t wl nl:=by
 have u:∀i,i<n→N i≠t:=by
  intro i hi;have E:nl.length=n:=by rw[h.next.length_eq,nextOf_length]
  obtain⟨r,v⟩:∃r,nl[0]?=some r:=⟨_,θ χ⟩;obtain⟨k,hk,l,j⟩:=next_root h.next hh v
  have q:=w r v;rw[l]at q;simp only at q;have y:=j i hi;have B:t≤N k:=by
   have C:=rX (p:=p) (t:=t) (x k hk)
   rcases ϑ (t%p k)with d|d
   ·rcases h.on k hk d with g|g<;>omega
   ·have:=(h.off k hk χ).2;omega
  omega
 refine⟨?_,?_⟩
 ·have e:=dN (L:=L) (L':=rel p b t (st n p b t)) (D:=due p t) (D':=due p t) (n:=n) (fun i hi=>?_) (fun i _ _=>rfl)
  ·rw[←e];exact h.wait
  ·unfold rel
   split
   ·rename_i d
    rcases h.on i hi d with g|g
    ·exact absurd g.2 (u i hi)
    ·exact g.1
   ·rename_i d;exact(h.off i hi d).1
 ·have e:=iS (N:=N) (N':=due p t) (n:=n) (fun i hi=>?_)
  ·rw[←e];exact h.next
  ·rcases ϑ (t%p i)with d|d
   ·rcases h.on i hi d with g|g
    ·exact absurd g.2 (u i hi)
    ·exact g.2
   ·exact(h.off i hi χ).2
theorem Ek(hp:∀i,i<n→1≤p i){t k c:Nat}(hk:pick p t (rel p b t (st n p b t)) n=some k)(hc:c≤rel p b t (st n p b t) k)(hu:∀i,i<n→t+c≤due p t i):
 ∀s,s≤c→(1≤s→∀i,i<n→st n p b (t+s) i=if i=k then rel p b t (st n p b t) k-s else rel p b t (st n p b t) i)∧(s<c→who n p b (t+s)=some k):=by
 obtain⟨k1,k2,k3⟩:=hO hk;intro s
 induction s with
 | zero=>intro _;exact⟨fun h=>χ,fun _=>hk⟩
 | succ s ih =>
  intro hs;obtain⟨i1,i2⟩:=ih χ;have hw:=i2 χ;have hst:∀i,i<n→st n p b (t+(s+1)) i=if i=k then rel p b t (st n p b t) k-(s+1)else rel p b t (st n p b t) i:=by
   intro i hi;have h1:st n p b (t+(s+1)) i=dec (rel p b (t+s) (st n p b (t+s))) (who n p b (t+s)) i:=rfl;have h2:rel p b (t+s) (st n p b (t+s)) i=if i=k then rel p b t (st n p b t) k-s else rel p b t (st n p b t) i:=by
    rcases ϑ s with h0|h0
    ·subst h0
     rw[Nat.add_zero,Nat.sub_zero];split
     ·rename_i h;rw[h]
     ·rfl
    ·rw[←i1 h0 i hi]
     have h4:(t+s)%p i≠0:=fun h=>by
      have:=je (p:=p) (hp i hi) (t:=t) (t':=t+s) χ (by have:=hu i hi;omega) h;have:=hu i hi;omega
     unfold rel;rw[if_neg h4]
   rw[h1,hw];unfold dec;rw[h2]
   by_cases hik:i=k
   ·subst hik;rw[if_pos rfl,if_pos rfl,if_pos rfl];omega
   ·rw[if_neg (fun h=>hik (ι h).symm),if_neg hik,if_neg hik]
  refine⟨fun _=>hst,fun hlt=>?_⟩;have hrel:∀i,i<n→rel p b (t+(s+1)) (st n p b (t+(s+1))) i=if i=k then rel p b t (st n p b t) k-(s+1)else rel p b t (st n p b t) i:=fun i hi=>by
   rw[←hst i hi];unfold rel;rw[if_neg (fun h=>by
    have:=je (p:=p) (hp i hi) (t:=t) (t':=t+(s+1)) χ (by have:=hu i hi;omega) h;have:=hu i hi;omega)]
  have hdue:∀i,i<n→due p (t+(s+1)) i=due p t i:=fun i hi=>pH (hp i hi) χ (by have:=hu i hi;omega)
  refine wR k1 (by rw[hrel k k1,if_pos rfl];omega) fun i hi h0=>?_
  rw[hdue k k1,hdue i hi]
  by_cases hik:i=k
  ·subst hik;exact .inr ⟨rfl,Γ _⟩
  ·rw[hrel i hi,if_neg hik]at h0
   exact k3 i hi h0
theorem idle(hp:∀i,i<n→1≤p i){t c:Nat}(h0:∀i,i<n→rel p b t (st n p b t) i=0)(hu:∀i,i<n→t+c≤due p t i):
 ∀s,s≤c→(1≤s→∀i,i<n→st n p b (t+s) i=0)∧(s<c→who n p b (t+s)=none):=by
 intro s
 induction s with
 | zero=>intro _;exact⟨fun h=>χ,fun _=>kz h0⟩
 | succ s ih =>
  intro hs;obtain⟨i1,i2⟩:=ih χ;have hw:=i2 χ;have hst:∀i,i<n→st n p b (t+(s+1)) i=0:=by
   intro i hi;have h1:st n p b (t+(s+1)) i=dec (rel p b (t+s) (st n p b (t+s))) (who n p b (t+s)) i:=rfl;rw[h1,hw];unfold dec;rw[if_neg ξ]
   rcases ϑ s with h2|h2
   ·subst h2;exact h0 i hi
   ·unfold rel
    rw[if_neg (fun h=>by
     have:=je (p:=p) (hp i hi) (t:=t) (t':=t+s) χ (by have:=hu i hi;omega) h;have:=hu i hi;omega)]
    exact i1 h2 i hi
  refine⟨fun _=>hst,fun hlt=>kz fun i hi=>?_⟩;unfold rel;rw[if_neg (fun h=>by
   have:=je (p:=p) (hp i hi) (t:=t) (t':=t+(s+1)) χ (by have:=hu i hi;omega) h;have:=hu i hi;omega)]
  exact hst i hi
theorem mP(w:Fits n p b)(g:∀i,i<n→1≤p i){t t':Nat}(x:t<t')(j:∀i,i<n→t'≤due p t i){wl nl:List Job}(u:wl.Perm (bZ (st n p b t') (due p t) n))(q:nl.Perm (nextOf (due p t) n)):HeadInv n p b t' wl nl:=by
 refine⟨?_,?_⟩
 ·rw[dN (L':=st n p b t') (D':=due p t') (fun i _=>rfl) (fun i hi d=>?_)]at u
  ·exact u
  ·rcases Ψ t' (due p t i)with h|h
   ·exact(pH (g i hi) χ h).symm
   ·have l:t'=due p t i:=by have:=j i hi;omega
    have v:t'%p i=0:=by rw[l];unfold due;exact Nat.mul_mod_left _ _
    rw[wU w g hi v]at d;omega
 ·rw[iS (N':=nx p t') (fun i hi=>?_)]at q
  ·exact q
  ·unfold nx
   split
   ·rename_i d;exact(je (g i hi) x (j i hi) d).symm
   ·rename_i d
    have l:t'≠due p t i:=fun h=>d (by rw[h];unfold due;exact Nat.mul_mod_left _ _)
    exact(pH (g i hi) χ (by have:=j i hi;omega)).symm
def nameOf(sub:Nat→ByteArray):Option Nat→ByteArray
 | none=>ByteArray.empty
 | some k=>sub k
def QV(n:Nat)(p b:Nat→Nat)(sub:Nat→ByteArray)(t:Nat):List ByteArray:=(List.range t).map fun s=>nameOf sub (who n p b s)
theorem uO{sub:Nat→ByteArray}{t c:Nat}{o:Option Nat}(h:∀s,s<c→who n p b (t+s)=o):QV n p b sub (t+c)=QV n p b sub t++List.replicate c (nameOf sub o):=by
 unfold QV;rw[List.range_add,List.map_append]
 congr 1
 rw[List.map_map]
 apply List.ext_getElem
 ·simp
 ·intro i d g
  simp at d;simp[h i d]
theorem rows_more{sub:Nat→ByteArray}{t c:Nat}{o:Option Nat}(h:∀s,s<c→who n p b (t+s)=o)(d:0<c):bv [] (QV n p b sub (t+c))=run (bv [] (QV n p b sub t)) (nameOf sub o) (c:Int):=by
 rw[uO h,eE,oH _ _ d]
theorem ticks_length{sub:Nat→ByteArray}(t:Nat):(QV n p b sub t).length=t:=by simp[QV]
end Edf
namespace Ln
variable {xs:List Run} {i:Nat}
def nP(xs:List Run)(i:Nat):Nat:=match xs[i]? with|some r=>r.per|none=>1
def nB(xs:List Run)(i:Nat):Nat:=match xs[i]? with|some r=>r.QS|none=>1
def nS(xs:List Run)(i:Nat):ByteArray:=match xs[i]? with|some r=>r.QH|none=>ByteArray.empty
theorem wV{r:Run}(h:xs[i]?=some r):nP xs i=r.per:=by unfold nP;rw[h]
theorem wW{r:Run}(h:xs[i]?=some r):nB xs i=r.QS:=by unfold nB;rw[h]
theorem EM{r:Run}(h:xs[i]?=some r):nS xs i=r.QH:=by unfold nS;rw[h]
def edf(xs:List Run)(t:Nat):List aw:=bv [] (Edf.QV xs.length (nP xs) (nB xs) (nS xs) t)
theorem np(ts:List ByteArray):∀{l:List aw} {T:Nat},nO T l→nO (T+ts.length) (bv l ts)∧(bv l ts).length≤l.length+ts.length:=by
 induction ts with
 | nil=>intro l T h;exact⟨h,Γ _⟩
 | cons s ts ih =>
  intro l T h;have h1:=h.run χ s (t:=1) ψ;obtain⟨h2,h3⟩:=ih (T:=T+1) (by simpa using h1);have h4:=kO l s 1;refine⟨?_,?_⟩
  ·have e:(T:Int)+((s::ts).length:Nat)=((T+1:Nat):Int)+(ts.length:Nat):=η
   rw[e];exact h2
  ·have:(bv l (s::ts))=bv (run l s 1) ts:=rfl
   rw[this];simp;omega
end Ln
namespace Edf
open Ln
variable {n:Nat} {p b:Nat→Nat}
theorem EA:∀(t i:Nat),st n p b t i≤b i:=by
 intro t
 induction t with
 | zero=>intro i;exact Nat.zero_le _
 | succ t ih =>
  intro i;have h1:rel p b t (st n p b t) i≤b i:=by
   unfold rel;split
   ·exact Γ _
   ·exact ih i
  show dec (rel p b t (st n p b t)) _ i≤b i;unfold dec;split<;>omega
theorem DD(t i:Nat):rel p b t (st n p b t) i≤b i:=by
 unfold rel;split
 ·exact Γ _
 ·exact EA t i
theorem gO.busy(R:Fits n p b)(K:∀i,i<n→1≤p i){t:Nat}{wl nl:List Job}{x:Job}(h:gO n p b t wl nl)(hh:bE wl wl.length)(O:wl[0]?=some x):
 ∃k l:Nat,k<n∧0<l∧l≤b k∧x=⟨k,due p t k,l⟩∧∀c:Nat,1≤c→c≤l→(∀i,i<n→t+c≤due p t i)→(∀s,s<c→who n p b (t+s)=some k) ∧
  (c<l→HeadInv n p b (t+c) (wl.set 0 ⟨k,due p t k,l-c⟩) nl)∧(c=l→∀g,(g++[⟨k,due p t k,0⟩]).Perm (wl.set 0 ⟨k,due p t k,0⟩)→HeadInv n p b (t+c) g nl):=by
 obtain⟨k,hk,u,rfl,q⟩:=xL h.wait hh O;refine⟨k,_,hk,u,DD t k,rfl,fun c I J N=>?_⟩;have Q:=Ek K q J N;obtain⟨d,_⟩:=Q c (Γ _);have d:=d I;have j:=vQ (L:=rel p b t (st n p b t)) (D:=due p t) hk u;refine⟨fun s W=>(Q s χ).2 W,fun V=>?_,fun U g w=>?_⟩
 ·obtain⟨B,C,E⟩:=set_root (r':=⟨k,due p t k,((rel p b t (st n p b t) k:Nat):Int)-c⟩) O
  rw[E];refine mP R K χ N ?_ h.next
  have H:B.Perm (bZ (set1 (rel p b t (st n p b t)) k 0) (due p t) n):=by
   have:=h.wait.trans j;rw[C]at this;exact(List.perm_cons _).1 this
  have y:=kd (L:=set1 (rel p b t (st n p b t)) k 0) (D:=due p t) (k:=k) (v:=rel p b t (st n p b t) k-c) (by simp[set1]) χ hk;have e:(((rel p b t (st n p b t) k-c:Nat):Int))=((rel p b t (st n p b t) k:Nat):Int)-c:=χ
  rw[e]at y;rw[dN (L':=set1 (set1 (rel p b t (st n p b t)) k 0) k (rel p b t (st n p b t) k-c)) (D':=due p t) (fun i hi=>?_) (fun _ _ _=>rfl)]
  ·exact(H.cons _).trans y.symm
  ·rw[d i hi];unfold set1;split<;>rfl
 ·obtain⟨B,C,E⟩:=set_root (r':=⟨k,due p t k,0⟩) O
  rw[E]at w;refine mP R K χ N ?_ h.next
  have H:B.Perm (bZ (set1 (rel p b t (st n p b t)) k 0) (due p t) n):=by
   have:=h.wait.trans j;rw[C]at this;exact(List.perm_cons _).1 this
  have y:g.Perm B:=(List.perm_cons _).1 ((List.perm_append_singleton _ _).symm.trans w);rw[dN (L':=set1 (rel p b t (st n p b t)) k 0) (D':=due p t) (fun i hi=>?_) (fun _ _ _=>rfl)]
  ·exact y.trans H
  ·rw[d i hi]
   unfold set1;split
   ·omega
   ·rfl
theorem gO.idle(w:Fits n p b)(j:∀i,i<n→1≤p i){t:Nat}{wl nl:List Job}(h:gO n p b t wl nl)(B:wl.length=0){c:Nat}(v:1≤c)(q:∀i,i<n→t+c≤due p t i):
 (∀s,s<c→who n p b (t+s)=none)∧HeadInv n p b (t+c) wl nl:=by
 obtain rfl:=List.eq_nil_of_length_eq_zero B;have u:∀i,i<n→rel p b t (st n p b t) i=0:=fun i hi=>by
  rcases ϑ (rel p b t (st n p b t) i)with d|d
  ·exact d
  ·have:=h.wait.mem_iff.2 (iY.2 ⟨i,hi,d,rfl⟩)
   simp at this
 have hi:=Edf.idle j u q;refine⟨fun s y=>(hi s χ).2 y,mP w j χ q ?_ h.next⟩;have g:=(hi c (Γ _)).1 v;have e:bZ (st n p b (t+c)) (due p t) n=[]:=by
  rcases hj:bZ (st n p b (t+c)) (due p t) n with _|⟨x,l⟩
  ·rfl
  ·obtain⟨i,hi,d,_⟩:=iY.1 (show x∈bZ (st n p b (t+c)) (due p t) n by rw[hj];simp)
   have:=g i hi;omega
 rw[e]
theorem gO.until(g:∀i,i<n→1≤p i){t:Nat}{wl nl:List Job}{r:Job}(h:gO n p b t wl nl)(hh:bE nl nl.length)(j:nl[0]?=some r):
 ∃u:Nat,r.due=u∧t<u∧∀i,i<n→u≤due p t i:=by
 obtain⟨k,hk,rfl,d⟩:=next_root h.next hh j
 exact⟨due p t k,rfl,rX (g k hk),d⟩
end Edf
namespace Ln
variable {M:Nat} {xs:List Run}
def cP(M:Nat)(l:List Run):Nat:=l.foldr (fun r n=>eM M r true+n) 0
theorem pv{M:Nat}{l:List Run}:∀{i s:Nat},bV M true i s l=none→s≤M→s+cP M l≤M:=by
 induction l with
 | nil=>intro i s _ h;simpa[cP]using h
 | cons r l ih =>
  intro i s h hm;simp only[bV]at h;split at h
  ·split at h
   ·simp at h
   ·have:=ih h χ
    simp only[cP,List.foldr_cons]at this⊢;omega
  ·simp at h
theorem nJ(M:Nat)(l m:List Run):cP M (l++m)=cP M l+cP M m:=by
 induction l with
 | nil=>simp[cP]
 | cons r l ih=>simp only[cP,List.cons_append,List.foldr_cons]at ih⊢; omega
theorem sA(M:Nat)(xs:List Run):∀n,n≤xs.length→Edf.sumTo n (fun i=>nB xs i*(M / nP xs i))=cP M (xs.take n):=by
 intro n
 induction n with
 | zero=>intro _;simp[Edf.sumTo,cP]
 | succ n ih =>
  intro hn;have h1:xs[n]?=some xs[n]:=θ χ;rw[List.take_add_one,h1,nJ,←ih χ];simp only[Edf.sumTo,wW h1,wV h1,Option.toList_some];simp[cP,eM]
structure ir (M:Nat) (xs:List Run):Prop where
 each:∀r∈xs,1≤r.QS∧r.QS≤M∧r.QS≤r.per∧1≤r.per∧r.per≤M∧M%r.per=0
 sum:cP M xs≤M
theorem AH(h:bV M true 0 0 xs=none):ir M xs:=by
 refine⟨fun r w=>?_,by simpa using pv h (Nat.zero_le _)⟩;obtain⟨d,g,j⟩:=gz ((ic h).1 r w);obtain⟨_,l,q,u,v⟩:=j rfl;exact⟨d,g,l,q,u,v⟩
theorem ir.pos(h:ir M xs):∀i,i<xs.length→1≤nP xs i∧1≤nB xs i∧nB xs i≤nP xs i∧M%nP xs i=0:=fun i hi=>by
 have g:xs[i]?=some xs[i]:=θ hi;obtain⟨a,b,c,d,e,f⟩:=h.each _ (γ g);rw[wV g,wW g];exact⟨d,a,c,f⟩
theorem ir.fits(d:0<M)(h:ir M xs):Edf.Fits xs.length (nP xs) (nB xs):=by
 refine Edf.fits_of d (fun i hi=>⟨(h.pos i hi).1,(h.pos i hi).2.2.2⟩) ?_;rw[sA M xs _ (Γ _),List.take_length];exact h.sum
theorem ir.len(h:ir M xs):xs.length≤M:=by
 refine Δ ?_ h.sum;have:∀l:List Run,(∀r∈l,1≤r.QS∧1≤r.per∧r.per≤M)→l.length≤cP M l:=fun l=>by
  induction l with
  | nil=>intro _;simp
  | cons r l ih =>
   intro h;have h1:=ih (fun x hx=>h x (List.mem_cons_of_mem _ hx));obtain⟨h2,h3,h4⟩:=h r ξ;have h5:1≤M / r.per:=(Nat.le_div_iff_mul_le h3).2 χ;have h6:1*1≤r.QS*(M / r.per):=Nat.mul_le_mul h2 h5;simp only[cP,List.foldr_cons,eM,if_true,List.length_cons]at h1⊢;omega
 exact this xs fun r hr=>by obtain⟨a,b,c,d,e,f⟩:=h.each r hr;exact⟨a,d,e⟩
theorem Az(xs:List Run)(M:Nat):qH (edf xs M) (Edf.QV xs.length (nP xs) (nB xs) (nS xs) M):=by
 have:=tM.rows (ts:=Edf.QV xs.length (nP xs) (nB xs) (nS xs) M)
 simpa[edf]using this
theorem CS(xs:List Run)(M:Nat):jE (edf xs M)=M:=by
 rw[pE,(Az xs M).last,Edf.ticks_length]
theorem CR(xs:List Run)(M:Nat):(edf xs M).length≤M:=by
 have:=(np (Edf.QV xs.length (nP xs) (nB xs) (nS xs) M) (nr (0:Nat))).2;rw[Edf.ticks_length]at this
 simpa[edf]using this
def eX(M:Nat)(xs:List Run):List aw×Int×Int:=
 match bV M true 0 0 xs with
 | some (i,e)=>([],i,e)
 | none=>eZ (edf xs M)
end Ln
end
namespace Ck
structure Ram where
 pos:Int
 Q7:Nat
 size:Nat
structure Map where
 pos:Int
 of:ByteArray
 Q7:Nat
 write:Bool
 exec:Bool
structure bR where
 pos:Int
 name:ByteArray
 Q7:Nat
 size:Nat
 QA:List Map
structure Region where
 pos:Int
 name:ByteArray
 size:Nat
 fixed:Bool
 Q7:Nat
 big:Bool
 wx:Bool
 fill:Nat
 QQ:Bool
 text:ByteArray
structure mf where
 pos:Int
 how:Int
 to:ByteArray
 QK:Nat
structure ak where
 pos:Int
 name:ByteArray
 QN:Nat
 stopped:Bool
 QA:List Map
 QO:List mf
structure bO where
 pos:Int
 name:ByteArray
 QF:ByteArray
 to:ByteArray
 shared:Bool
 over:ByteArray
 how:Int
 QK:Nat
structure Irq where
 pos:Int
 name:ByteArray
 QF:ByteArray
 to:ByteArray
 QK:Nat
 masked:Bool
structure iG where
 pos:Int
 name:ByteArray
 QF:ByteArray
 to:ByteArray
 how:Int
 depth:Nat
structure cK where
 pos:Int
 QN:Nat
 needs:Bool
 runs:List Run
structure jp where
 pos:Int
 name:ByteArray
 QJ:Nat
 QL:List cK
structure iq where
 pos:Int
 name:ByteArray
structure Ban where
 pos:Int
 QF:ByteArray
 to:ByteArray
structure aF where
 pos:Int
 name:ByteArray
 QD:List Ram
 Q5:List bR
 Q3:List Region
 Q4:List ak
 Q8:List bO
 QM:List Irq
 QB:List iG
 Q9:List jp
 QC:List iq
 QI:List iq
 QE:List iq
 QG:List Ban
abbrev Wr:=Int×Int
def say(ok:Bool)(Q7 rank:Int):List Wr:=if ok then[]else[(Q7,rank)]
def cQ{α:Type}(f:α→α→List Wr):List α→List Wr
 | []=>[]
 | x::t=>t.flatMap (fun y=>f y x)++cQ f t
theorem cg{α:Type}{f:α→α→List Wr}{x:α}{p:Wr}:∀{l:List α},p∈cQ f (l++[x])↔p∈cQ f l∨∃y∈l,p∈f x y
 | []=>by simp[cQ]
 | a::l=>by
  simp only[cQ,List.cons_append,List.mem_append,List.mem_flatMap,cg (l:=l),List.mem_cons,List.mem_singleton,List.mem_nil_iff,or_false];constructor
  ·rintro(⟨y,g|rfl,d⟩|h|⟨y,g,d⟩)
   ·exact .inl (.inl ⟨y,g,d⟩)
   ·exact .inr ⟨a,.inl rfl,d⟩
   ·exact .inl (.inr h)
   ·exact .inr ⟨y,.inr g,d⟩
  ·rintro((⟨y,g,d⟩|h)|⟨y,rfl|g,d⟩)
   ·exact .inl ⟨y,.inl g,d⟩
   ·exact .inr (.inl h)
   ·exact .inl ⟨x,.inr rfl,d⟩
   ·exact .inr (.inr ⟨y,g,d⟩)
abbrev Nm:=ByteArray×Int
def has(l:List Nm)(s:ByteArray):Bool:=l.any fun x=>decide (x.1=s)
def iQ(named:ByteArray→Bool)(l:List Nm):List Wr:=
 l.flatMap (fun x=>say (named x.1) x.2 0)++cQ (fun x y=>if x.1=y.1 then[(max x.2 y.2,1)]else[]) l
def gU(l:List iq)(of:List Nm):List Wr:=
 cQ (fun x y=>[(max x.pos y.pos,1)]) l++l.flatMap fun x=>say (has of x.name) x.pos 2
def aF.QR(P:aF):List Nm:=P.Q5.map fun x=>(x.name,x.pos)
def aF.regs(P:aF):List Nm:=P.Q3.map fun x=>(x.name,x.pos)
def aF.QP(P:aF):List Nm:=P.Q4.map fun x=>(x.name,x.pos)
def aF.chans(P:aF):List Nm:=P.Q8.map fun x=>(x.name,x.pos)
def aF.irqn(P:aF):List Nm:=P.QM.map fun x=>(x.name,x.pos)
def aF.ques(P:aF):List Nm:=P.QB.map fun x=>(x.name,x.pos)
def aF.plns(P:aF):List Nm:=P.Q9.map fun x=>(x.name,x.pos)
def aF.things(P:aF):List Nm:=P.QR++P.regs
def Cd(P:aF)(x:Ban):List Wr:=say ((has P.QP x.QF||has P.QR x.QF)&&has P.QP x.to) x.pos 2
def ud(P:aF)(x:iG):List Wr:=
 say (decide (1≤x.how)&&decide (x.how≤3)&&(!decide (x.how=3)||decide (x.depth=0))) x.pos 0++say (has P.QP x.QF&&has P.QP x.to) x.pos 2
def oa(of:List Nm)(m:Map):List Wr:=say (has of m.of) m.pos 2
def nR(x:Region):List Wr:=
 say ((x.fixed||decide (x.Q7=0))&&(x.QQ||decide (x.text=ByteArray.empty))&&(!x.QQ||decide (x.fill=0))) x.pos 0
def sH(P:aF)(r:mf):List Wr:=
 say (decide (1≤r.how)&&decide (r.how≤3)&&(decide (r.how=1)||decide (r.to=ByteArray.empty)&&decide (r.QK=0))) r.pos 0 ++
 say (!decide (r.how=1)||has P.QP r.to) r.pos 2
def jM(P:aF)(x:ak):List Wr:=
 x.QA.flatMap (oa P.things)++(cQ (fun r s=>[(max r.pos s.pos,1)]) x.QO++x.QO.flatMap (sH P))
def pL(P:aF)(x:bO):List Wr:=
 say (decide (1≤x.how)&&decide (x.how≤4)&&(x.shared||decide (x.over=ByteArray.empty))&&(decide (x.how=1)||decide (x.QK=0))) x.pos 0 ++
 say (has P.QP x.QF&&has P.QP x.to&&(!x.shared||has P.regs x.over)) x.pos 2
def CH(P:aF)(x:Irq):List Wr:=say (has P.QR x.QF&&has P.QP x.to) x.pos 2
def sG(P:aF)(needs:Bool)(r:Run):List Wr:=
 say (needs||decide (r.per=0)) r.pos 0++say (decide (r.QH=ByteArray.empty)||has P.QP r.QH) r.pos 2
def gR(P:aF)(l:List cK):List Wr:=
 cQ (fun x y=>say (!decide (x.QN=y.QN)) (max x.pos y.pos) 1) l++l.flatMap fun x=>x.runs.flatMap (sG P x.needs)
def kX(named:ByteArray→Bool)(P:aF):List Wr:=
 (iQ named P.things++iQ named P.QP++iQ named P.chans++iQ named P.irqn++iQ named P.ques++iQ named P.plns) ++
 (gU P.QI P.plns++gU P.QC P.QP++gU P.QE P.QP) ++
 P.QG.flatMap (Cd P)++P.QB.flatMap (ud P)++P.Q5.flatMap (fun x=>x.QA.flatMap (oa P.regs))++P.Q3.flatMap nR ++
 P.Q4.flatMap (jM P)++P.Q8.flatMap (pL P)++P.QM.flatMap (CH P)++P.Q9.flatMap fun x=>gR P x.QL
def most{α:Type}(pos:α→Int)(n:Nat)(l:List α):List Wr:=
 match l[n]? with
 | some x=>[(pos x,0)]
 | none=>[]
def aF.spaces(P:aF):List (List Map):=P.Q4.map ak.QA++P.Q5.map bR.QA
def gZ(P:aF):List Wr:=
 most Ram.pos 8 P.QD++most bR.pos 32 P.Q5++most Region.pos 256 P.Q3++most ak.pos 64 P.Q4++most bO.pos 256 P.Q8 ++
 most Irq.pos 64 P.QM++most iG.pos 64 P.QB++most Ban.pos 256 P.QG++most jp.pos 16 P.Q9++P.spaces.flatMap (most Map.pos 64)
structure db where
 Q7:Nat
 size:Nat
 pos:Int
def clear(a b:db):Bool:=
 if b.Q7<a.Q7 then decide (a.size=0)||decide (b.size≤a.Q7-b.Q7)else decide (b.size=0)||decide (a.size≤b.Q7-a.Q7)
def dZ(rank:Int)(l:List db):List Wr:=cQ (fun a b=>say (clear a b) (max a.pos b.pos) rank) l
def below(Q7 size bound:Nat):Bool:=decide (Q7≤bound)&&decide (size≤bound-Q7)
def ck(s:Nat):List Ram→List Wr
 | []=>[]
 | x::t=>let s':=min (s+min x.size 67108865) 67108865;say (decide (s'≤67108864)) x.pos 4++ck s' t
def sW(x:db):List Wr:=
 say (decide ((x.Q7 ||| x.size)%4096=0)) x.pos 0++say (decide (0<x.size)) x.pos 1++say (below x.Q7 x.size 4294967296) x.pos 2
def aF.parts(P:aF):List db:=P.QD.map (fun x=>⟨x.Q7,x.size,x.pos⟩)++P.Q5.map fun x=>⟨x.Q7,x.size,x.pos⟩
def vi(P:aF):List Wr:=
 ck 0 P.QD++P.Q5.flatMap (fun x=>say (decide (x.size≤1048576)) x.pos 1)++P.parts.flatMap sW++dZ 3 P.parts
def cX(big:Bool):Nat:=if big then 2097152 else 4096
abbrev M64:Nat:=18446744073709551616
def cz(Q7 size:Nat):Nat:=(Q7+size+(M64-1))%M64
open Classical in
noncomputable def eY(QD:List Ram)(a b:Nat):Bool:=decide (∀p,a≤p→p≤b→∃r∈QD,r.Q7≤p∧p≤cz r.Q7 r.size)
noncomputable def kg(P:aF)(x:Region):List Wr:=
 if x.fixed then say (decide (x.size=0)||below x.Q7 x.size 4294967296&&eY P.QD x.Q7 (cz x.Q7 x.size)) x.pos 2 else[]
def ql(x:Region):List Wr:=
 say (decide (x.fill<256)&&decide (x.text.size≤x.size)&&decide (x.text.size≤1048576)&&(decide (x.fill=0)||decide (x.size≤1048576))) x.pos 4
noncomputable def lu(P:aF)(x:Region):List Wr:=
 say (decide ((x.size ||| x.Q7)%cX x.big=0)) x.pos 0++say (decide (0<x.size)&&decide (x.size≤67108864)) x.pos 1++kg P x++ql x
def aF.fixed(P:aF):List db:=(P.Q3.filter Region.fixed).map fun x=>⟨x.Q7,x.size,x.pos⟩
noncomputable def fo(P:aF):List Wr:=P.Q3.flatMap (lu P)++dZ 3 P.fixed
structure jl where
 size:Nat
 big:Bool
 wx:Bool
def fC(P:aF)(s:ByteArray):Option jl:=
 match P.Q3.find? (fun x=>decide (x.name=s))with
 | some x=>some ⟨x.size,x.big,x.wx⟩
 | none=>(P.Q5.find? (fun x=>decide (x.name=s))).map fun x=>⟨x.size,false,false⟩
def aP(P:aF)(s:ByteArray):jl:=(fC P s).getD ⟨0,false,false⟩
def bH(P:aF)(device:Bool)(pages:Nat):List Map→List Wr×Nat
 | []=>([],pages)
 | m::t =>
  let x:=aP P m.of
  let n:=(pages+x.size / 4096)%M64
  let r:=bH P device n t
  (say (decide (m.Q7%cX x.big=0)) m.pos 0++say (below m.Q7 x.size 549755813888) m.pos 1++say (!m.exec || !device&&(x.wx || !m.write)) m.pos 3++say (decide (n≤131072)) m.pos 4++r.1,r.2)
def bJ(P:aF)(l:List Map):List db:=l.map fun m=>⟨m.Q7,(aP P m.of).size,m.pos⟩
def bM(P:aF)(device:Bool)(pages:Nat):List (List Map)→List Wr×Nat
 | []=>([],pages)
 | l::t =>
  let r:=bH P device pages l
  let q:=bM P device r.2 t
  (r.1++dZ 2 (bJ P l)++q.1,q.2)
def lF(P:aF):List Wr:=
 let a:=bM P false 0 (P.Q4.map ak.QA)
 a.1++(bM P true a.2 (P.Q5.map bR.QA)).1
def gg(P:aF)(c:bO):Bool:=
 (P.Q4.all fun x=>x.QA.all fun m =>!decide (m.of=c.over)||(decide (x.name=c.QF)||decide (x.name=c.to) && !m.write)) &&
 (P.Q5.all fun x=>x.QA.all fun m =>!decide (m.of=c.over)) &&
 (P.Q4.any fun x=>decide (x.name=c.QF)&&x.QA.any fun m=>decide (m.of=c.over)) &&
 (P.Q4.any fun x=>decide (x.name=c.to)&&x.QA.any fun m=>decide (m.of=c.over))
def kn(x:ak)(r:mf):List Wr:=
 say (!decide (r.how=1)||decide (r.QK<64)) r.pos 1++say (!decide (r.how=1) || !decide (r.to=x.name)) r.pos 3
def iL(x:ak):List Wr:=say (decide (x.QN<4)) x.pos 0++x.QO.flatMap (kn x)
def kM(P:aF)(x:bO):List Wr:=
 say (!decide (x.how=1)||decide (x.QK<64)) x.pos 1++say (!decide (x.QF=x.to)) x.pos 3++say (!x.shared||gg P x) x.pos 4
def nj(x:iG):List Wr:=
 say (decide (x.how=3)||decide (1≤x.depth)&&decide (x.depth≤64)) x.pos 2++say (!decide (x.QF=x.to)) x.pos 3
def uK(P:aF):List Wr:=
 P.Q4.flatMap iL++P.QM.flatMap (fun x=>say (decide (x.QK<64)) x.pos 1)++P.Q8.flatMap (kM P) ++
 P.QG.flatMap (fun x=>say (!decide (x.QF=x.to)) x.pos 3)++P.QB.flatMap nj
def lR(P:aF)(s:ByteArray):Nat:=
 match P.Q4.find? (fun x=>decide (x.name=s))with
 | some x=>x.QN
 | none=>0
def eG(e:Int):Int:=if e=90 then 4 else if e=80 then 5 else if e=91 then 6 else if e=93 then 7 else 8
def lH(flat:Nat→cK→Int×Int)(M:Nat)(y:cK):List Wr:=
 let r:=flat M y
 if r.2=0 then[]else[(if 0≤r.1 then((y.runs[r.1.toNat]?).map Run.pos).getD 0 else y.pos,eG r.2)]
def jY(P:aF)(y:cK):List Wr:=
 say (decide (y.QN<4)) y.pos 3++y.runs.flatMap fun r=>say (decide (r.QH=ByteArray.empty)||decide (lR P r.QH=y.QN)) r.pos 3
def kG(flat:Nat→cK→Int×Int)(P:aF)(x:jp):List Wr:=
 if x.QJ<1∨65536<x.QJ then[(x.pos,2)]else x.QL.flatMap fun y=>jY P y++lH flat x.QJ y
def kW(flat:Nat→cK→Int×Int)(P:aF):List Wr:=
 say (decide (0<P.QI.length)) P.pos 0 ++
 (match P.Q9[1]? with|some x=>say (decide (0<P.QC.length)) x.pos 1|none=>[])++P.Q9.flatMap (kG flat P)
def cN(r:Int):Int:=if r=0 then 5 else if r=1 then 81 else 80
def kL(_:Int):Int:=4
def pf(r:Int):Int:=if r=0 then 33 else if r=1 then 32 else if r=2 then 34 else if r=3 then 35 else 36
def fB(r:Int):Int:=if r=0 then 33 else if r=1 then 32 else if r=2 then 109 else if r=3 then 35 else 105
def eL(r:Int):Int:=if r=0 then 33 else if r=1 then 40 else if r=2 then 35 else if r=3 then 104 else 4
def pc(r:Int):Int:=if r=0 then 100 else if r=1 then 101 else if r=2 then 113 else if r=3 then 102 else 103
def fA(r:Int):Int:=if r=0 then 107 else if r=1 then 106 else if r=2 then 92 else if r=3 then 100 else if r=4 then 90 else if r=5 then 80 else if r=6 then 91 else if r=7 then 93 else 4
def xJ(_:Int):Int:=108
def Le(x y:Wr):Prop:=x.1<y.1∨x.1=y.1∧x.2≤y.2
instance (x y:Wr):Decidable (Le x y):=by unfold Le;exact inferInstance
def upd(o:Option Wr)(x:Wr):Option Wr:=
 match o with
 | none=>some x
 | some y=>if Le y x then some y else some x
def iI(L:List Wr):Option Wr→Prop
 | none=>∀x,x ∉ L
 | some m=>m∈L∧∀x∈L,Le m x
theorem Le.refl(x:Wr):Le x x := .inr ⟨rfl,Int.le_refl _⟩
theorem Le.trans{x y z:Wr}(h:Le x y)(k:Le y z):Le x z:=by unfold Le at *; omega
theorem Le.of_not{x y:Wr}(h:¬ Le x y):Le y x:=by unfold Le at *; omega
theorem iI.tell{L:List Wr}{o:Option Wr}(h:iI L o)(x:Wr):iI (x::L) (upd o x):=by
 cases o with
 | none=>exact⟨List.mem_cons_self,fun y d=>by rcases Ξ.1 d with rfl|d;exact Le.refl _;exact absurd d (h y)⟩
 | some m =>
  obtain⟨j,g⟩:=h
  by_cases hle:Le m x
  ·have:upd (some m) x=some m:=by simp[upd,hle]
   rw[this];exact⟨List.mem_cons_of_mem _ j,fun y d=>by rcases Ξ.1 d with rfl|d;exact hle;exact g y d⟩
  ·have:upd (some m) x=some x:=by simp[upd,hle]
   rw[this];exact⟨List.mem_cons_self,fun y d=>by rcases Ξ.1 d with rfl|d;exact Le.refl _;exact(Le.of_not hle).trans (g y d)⟩
theorem iI.congr{L L':List Wr}{o:Option Wr}(h:iI L o)(d:∀p,p∈L↔p∈L'):iI L' o:=by
 cases o with
 | none=>exact fun x g=>h x ((d x).2 g)
 | some m=>exact⟨(d m).1 h.1,fun x g=>h.2 x ((d x).2 g)⟩
theorem yQ:iI [] none:=fun x d=>by simp at d
theorem iI.none_iff{L:List Wr}(h:iI L none):L=[]:=List.eq_nil_iff_forall_not_mem.2 h
def ups(m:Map)(x:jl):List Nat:=(List.range ((m.Q7+x.size-1) / 2097152+1-m.Q7 / 2097152)).map (· + m.Q7 / 2097152)
def dJ(P:aF)(m:Map):Bool:=
 match fC P m.of with
 | none=>false
 | some x=>decide (x.size≤67108864)&&below m.Q7 x.size 549755813888
def eO(P:aF)(l:List Map):List Nat:=l.flatMap fun m=>if(aP P m.of).size=0 then[]else(ups m (aP P m.of)).map (· / 512)
def eV(P:aF)(l:List Map):List Nat:=l.flatMap fun m=>if(aP P m.of).size=0∨(aP P m.of).big=true then[]else ups m (aP P m.of)
def bP(P:aF)(l:List Map):Nat:=if l.all (dJ P)then 1+(eO P l).eraseDups.length+(eV P l).eraseDups.length else 0
def cH(flat:Nat→cK→Nat×Int×Int)(x:jp)(c:Nat):Nat:=
 match x.QL.find? (fun y=>decide (y.QN=c))with
 | some y=>(flat x.QJ y).1
 | none=>1
def dl(flat:Nat→cK→Nat×Int×Int)(P:aF):Nat:=
 248+16*(P.QD.length+P.Q5.length)+8*(P.Q4.length+P.Q5.length+P.Q8.length+P.QM.length+P.QB.length+P.Q9.length) +
 (P.Q3.map fun x=>24+(x.text.size+7) / 8*8).sum +
 (P.Q9.map fun x=>32+8*(cH flat x 0+cH flat x 1+cH flat x 2+cH flat x 3)).sum
def aF.tabled(P:aF):List (List Map):=P.Q4.map ak.QA++(P.Q5.map bR.QA).filter fun l=>decide (0<l.length)
def pages(flat:Nat→cK→Nat×Int×Int)(P:aF):Nat:=
 if P.tabled.all (fun l=>decide (0<bP P l))then(P.tabled.map (bP P)).sum+(dl flat P+4095) / 4096 else 0
def mO(flat:Nat→cK→Nat×Int×Int)(P:aF):List Wr:=say (decide (pages flat P≤1024)) P.pos 0
def qr:List (List Wr×(Int→Int))→Int→Int→Prop
 | [],a,e=>a=0∧e=0
 | g::t,a,e=>(g.1=[]∧qr t a e)∨∃r,(a,r)∈g.1∧(∀x∈g.1,Le (a,r) x)∧e=g.2 r
noncomputable def dX(named:ByteArray→Bool)(flat:Nat→cK→Nat×Int×Int)(P:aF):List (List Wr×(Int→Int)):=
 [(kX named P,cN),(gZ P,kL),(vi P,pf),(fo P,fB),(lF P,eL),(uK P,pc),(kW (fun M y=>(flat M y).2) P,fA),(mO flat P,xJ)]
abbrev Sp:=Nat×Nat
def aW(l:List Sp)(p:Nat):Prop:=∃s∈l,s.1≤p∧p≤s.2
structure dS (l:List Sp):Prop where
 some_:∀s∈l,s.1≤s.2
 apart:l.Pairwise fun a b=>a.2+1<b.1
def cI(out:List Sp)(x:Sp):List Sp:=
 match out.getLast? with
 | none=>[x]
 | some y=>if x.1≤y.2+1 then out.dropLast++[(y.1,max y.2 x.2)]else out++[x]
theorem gC{l:List Sp}{y:Sp}(h:l.getLast?=some y):∃t,l=t++[y]∧l.dropLast=t:=by
 obtain⟨t,d⟩:=List.getLast?_eq_some_iff.1 h;exact⟨t,d,by rw[d];simp⟩
theorem AK{out:List Sp}{x:Sp}(h:dS out)(B:x.1≤x.2)(u:∀s∈out,s.1≤x.1):
 dS (cI out x)∧(∀p,aW (cI out x) p↔aW out p∨(x.1≤p∧p≤x.2))∧∀s∈cI out x,s.1≤x.1:=by
 unfold cI
 cases hl:out.getLast? with
 | none =>
  have:out=[]:=List.getLast?_eq_none_iff.1 hl;subst this;refine⟨⟨by simpa using B,ξ⟩,fun p=>by simp[aW],ξ⟩
 | some y =>
  obtain⟨t,E,D⟩:=gC hl;subst E;have v:=List.pairwise_append.1 h.apart;have H:=h.some_ y ξ;have w:=u y ξ
  dsimp only
  split
  ·rename_i C
   rw[D];refine⟨⟨fun s d=>?_,List.pairwise_append.2 ⟨v.1,ξ,fun a l b q=>?_⟩⟩,fun p=>?_,fun s d=>?_⟩
   ·rcases Ω.1 d with d|d
    ·exact h.some_ s (by simp[d])
    ·have:s=(y.1,max y.2 x.2):=by simpa using d
     subst this;show y.1≤max y.2 x.2;omega
   ·have:b=(y.1,max y.2 x.2):=by simpa using q
    subst this;exact v.2.2 a l y ξ
   ·simp only[aW,List.mem_append,List.mem_singleton]
    constructor
    ·rintro⟨s,d|rfl,g,j⟩
     ·exact .inl ⟨s,.inl d,g,j⟩
     ·dsimp only at g j
      by_cases h3:p≤y.2
      ·exact .inl ⟨y,.inr rfl,g,h3⟩
      ·exact .inr ⟨χ,χ⟩
    ·rintro(⟨s,d|rfl,g,j⟩|⟨g,j⟩)
     ·exact⟨s,.inl d,g,j⟩
     ·exact⟨_,.inr rfl,g,by show p≤max s.2 x.2;omega⟩
     ·exact⟨_,.inr rfl,by show y.1≤p;omega,by show p≤max y.2 x.2;omega⟩
   ·rcases Ω.1 d with d|d
    ·exact u s (by simp[d])
    ·have:s=(y.1,max y.2 x.2):=by simpa using d
     subst this;exact w
  ·rename_i C
   refine⟨⟨fun s d=>?_,List.pairwise_append.2 ⟨h.apart,ξ,fun a l b q=>?_⟩⟩,fun p=>?_,fun s d=>?_⟩
   ·rcases Ω.1 d with d|d
    ·exact h.some_ s d
    ·have:s=x:=by simpa using d
     subst this;exact B
   ·have:b=x:=by simpa using q
    subst this
    rcases Ω.1 l with l|l
    ·have g:=v.2.2 a l y ξ
     omega
    ·have:a=y:=by simpa using l
     subst this;omega
   ·simp only[aW,List.mem_append,List.mem_singleton]
    constructor
    ·rintro⟨s,(d|rfl)|rfl,g,j⟩
     ·exact .inl ⟨s,.inl d,g,j⟩
     ·exact .inl ⟨s,.inr rfl,g,j⟩
     ·exact .inr ⟨g,j⟩
    ·rintro(⟨s,d|rfl,g,j⟩|⟨g,j⟩)
     ·exact⟨s,.inl (.inl d),g,j⟩
     ·exact⟨s,.inl (.inr rfl),g,j⟩
     ·exact⟨x,.inr rfl,g,j⟩
   ·rcases Ω.1 d with d|d
    ·exact u s d
    ·have:s=x:=by simpa using d
     subst this;exact Γ _
def aZ(l:List Sp):List Sp:=l.foldl cI []
theorem ek(l:List Sp)(x:Sp):aZ (l++[x])=cI (aZ l) x:=by simp[aZ]
theorem mr:∀(n:Nat) (l:List Sp),l.length=n→(∀s∈l,s.1≤s.2)→l.Pairwise (fun a b=>a.1≤b.1)→dS (aZ l)∧(∀p,aW (aZ l) p↔aW l p)∧∀x,(∀s∈l,s.1≤x)→∀s∈aZ l,s.1≤x
 | 0,l,hl,_,_=>by
  have:l=[]:=List.length_eq_zero_iff.1 hl;subst this;exact⟨⟨by simp[aZ],by simp[aZ]⟩,fun p=>by simp[aZ,aW],fun x _ s q=>by simp[aZ]at q⟩
 | n+1,l,hl,q,hp=>by
  obtain⟨t,x,rfl⟩:∃t x,l=t++[x]:=by
   have d:l≠[]:=by intro e;rw[e]at hl;simp at hl
   exact⟨l.dropLast,l.getLast d,(List.dropLast_concat_getLast d).symm⟩
  have g:=List.pairwise_append.1 hp;obtain⟨B,C,D⟩:=mr n t (by simpa using hl) (fun s h=>q s (by simp[h])) g.1;have w:∀s∈aZ t,s.1≤x.1:=D x.1 fun s h=>g.2.2 s h x ξ
  obtain⟨E,H,I⟩:=AK B (q x ξ) w;rw[ek];refine⟨E,fun p=>?_,fun z y s v=>?_⟩
  ·rw[H,C]
   simp only[aW,List.mem_append,List.mem_singleton];constructor
   ·rintro(⟨s,u,j⟩|h)
    ·exact⟨s,.inl u,j⟩
    ·exact⟨x,.inr rfl,h⟩
   ·rintro⟨s,u|rfl,j⟩
    ·exact .inl ⟨s,u,j⟩
    ·exact .inr j
  ·exact Δ (I s v) (y x ξ)
theorem vb{l:List Sp}(h:dS l){a b i:Nat}(E:a≤b)(L:∀j s,j<i→l[j]?=some s→s.2<a)(N:∀s,l[i]?=some s→a≤s.2):
 (∀p,a≤p→p≤b→aW l p)↔∃s,l[i]?=some s∧s.1≤a∧b≤s.2:=by
 constructor
 ·intro K
  obtain⟨s,D,I,U⟩:=K a (Γ _) E;obtain⟨j,C⟩:=List.getElem?_of_mem D;have O:i≤j:=by
   rcases Ψ j i with g|g
   ·have:=L j s g C;omega
   ·exact g
  obtain⟨x,d⟩:∃s,l[i]?=some s:=⟨_,θ (by have:=(ο.1 C).1;omega)⟩;have J:x=s∧i=j:=by
   rcases Ψ i j with g|g
   ·obtain⟨q,v⟩:=ο.1 d
    obtain⟨H,w⟩:=ο.1 C;have:=List.pairwise_iff_getElem.1 h.apart i j q H g;rw[v,w]at this;have:=N x d;omega
   ·have:i=j:=χ
    subst this;exact⟨ι (d.symm.trans C),rfl⟩
  obtain⟨v,w⟩:=J;subst v;subst w;refine⟨x,d,I,?_⟩
  rcases Ψ x.2 b with g|g
  ·exfalso
   -- the point behind the span is in none
   obtain⟨u,V,W,X⟩:=K (x.2+1) χ χ;obtain⟨k,hk⟩:=List.getElem?_of_mem V;obtain⟨q,v⟩:=ο.1 d;obtain⟨B,w⟩:=ο.1 hk
   rcases Nat.lt_trichotomy i k with y|y|y
   ·have:=List.pairwise_iff_getElem.1 h.apart i k q B y
    rw[v,w]at this;omega
   ·subst y
    have:x=u:=by rw[←v,←w]
    subst this;omega
   ·have:=List.pairwise_iff_getElem.1 h.apart k i B q y
    have Y:=h.some_ x D;rw[v,w]at this;omega
  ·exact g
 ·rintro⟨s,D,g,y⟩ p Q R
  exact⟨s,γ D,χ,χ⟩
variable {b:Bool} {x:Nat} {named:ByteArray→Bool}
theorem bj{α β:Type}{f:α→List β}{l:List α}:l.flatMap f=[]↔∀x∈l,f x=[]:=by
 rw[List.flatMap_eq_nil_iff]
theorem b8{a r:Int}:say b a r=[]↔b=true:=by cases b<;>simp[say]
theorem dw{α:Type}{f:α→α→List Wr}:∀{l:List α},cQ f l=[]↔∀(i j:Nat) (x y:α),j<i→l[i]?=some x→l[j]?=some y→f x y=[]
 | []=>by simp[cQ]
 | a::l=>by
  simp only[cQ,List.append_eq_nil_iff,bj,dw (l:=l)];constructor
  ·rintro⟨u,v⟩ i j x y q d g
   cases i with
   | zero=>omega
   | succ i =>
    simp only[List.getElem?_cons_succ]at d
    cases j with
    | zero =>
     simp only[List.getElem?_cons_zero,Option.some.injEq]at g;subst g;exact u x (γ d)
    | succ j =>
     simp only[List.getElem?_cons_succ]at g;exact v i j x y χ d g
  ·intro h
   refine⟨fun x d=>?_,fun i j x y q d g=>h (i+1) (j+1) x y χ (by simpa using d) (by simpa using g)⟩;obtain⟨i,hi⟩:=List.getElem?_of_mem d;exact h (i+1) 0 x a χ (by simpa using hi) ξ
theorem uj{a b n:Nat}:(a ||| b)%2 ^ n=0↔a%2 ^ n=0∧b%2 ^ n=0:=by
 rw[Nat.or_mod_two_pow,Nat.or_eq_zero_iff]
def Off(a b c d:Nat):Prop:=a+b≤c∨c+d≤a
theorem mY{a b:db}(d:0<a.size)(g:0<b.size)(h:clear a b=true):Off a.Q7 a.size b.Q7 b.size:=by
 unfold clear at h;unfold Off;split at h
 ·simp only[Bool.or_eq_true,decide_eq_true_eq]at h
  omega
 ·simp only[Bool.or_eq_true,decide_eq_true_eq]at h
  omega
theorem jw{a s b:Nat}:below a s b=true↔a+s≤b:=by
 unfold below;simp only[Bool.and_eq_true,decide_eq_true_eq];omega
theorem wL:∀{l:List Ram} {s:Nat},s≤67108864→ck s l=[]→s+(l.map Ram.size).sum≤67108864
 | [],s,hs,_=>by simpa using hs
 | x::t,s,hs,h=>by
  simp only[ck,List.append_eq_nil_iff,b8,decide_eq_true_eq]at h;obtain⟨d,g⟩:=h;have e:min (s+min x.size 67108865) 67108865=s+x.size:=χ
  rw[e]at d g;have:=wL d g;simp only[List.map_cons,List.sum_cons];omega
structure nI (P:aF):Prop where
 Qe:∀x∈P.QD,0<x.size∧x.size≤67108864∧x.Q7+x.size≤4294967296∧x.Q7%4096=0∧x.size%4096=0
 sum:(P.QD.map Ram.size).sum≤67108864
 dev:∀x∈P.Q5,0<x.size∧x.size≤1048576∧x.Q7+x.size≤4294967296∧x.Q7%4096=0∧x.size%4096=0
 rr:∀(i j:Nat) (x y:Ram),j<i→P.QD[i]?=some x→P.QD[j]?=some y→Off x.Q7 x.size y.Q7 y.size
 dd:∀(i j:Nat) (x y:bR),j<i→P.Q5[i]?=some x→P.Q5[j]?=some y→Off x.Q7 x.size y.Q7 y.size
 dr:∀(x:bR) (y:Ram),x∈P.Q5→y∈P.QD→Off x.Q7 x.size y.Q7 y.size
theorem Bt{x:db}(h:sW x=[]):0<x.size∧x.Q7+x.size≤4294967296∧x.Q7%4096=0∧x.size%4096=0:=by
 simp only[sW,List.append_eq_nil_iff,b8,decide_eq_true_eq,jw]at h;obtain⟨⟨g,j⟩,l⟩:=h;have d:=(uj (n:=12)).1 g;exact⟨j,l,d.1,d.2⟩
theorem Bc{l:List Nat}{x:Nat}(h:x∈l):x≤l.sum:=by
 induction l with
 | nil=>simp at h
 | cons a l ih =>
  rcases Ξ.1 h with rfl|h
  ·simp
  ·have:=ih h;simp;omega
theorem Ds{P:aF}(h:vi P=[]):nI P:=by
 simp only[vi,List.append_eq_nil_iff,bj,b8,decide_eq_true_eq]at h;obtain⟨⟨⟨H,I⟩,J⟩,K⟩:=h;have w:∀x∈P.parts,0<x.size∧x.Q7+x.size≤4294967296∧x.Q7%4096=0∧x.size%4096=0:=fun x g=>Bt (J x g)
 have u:(P.QD.map Ram.size).sum≤67108864:=by simpa using wL (s:=0) χ H
 have B:∀(i j:Nat) (x y:db),j<i→P.parts[i]?=some x→P.parts[j]?=some y→Off x.Q7 x.size y.Q7 y.size:=fun i j x y l g q=>by
  have C:=dw.1 K i j x y l g q;rw[b8]at C;exact mY (w x (γ g)).1 (w y (γ q)).1 C
 have v:∀(i:Nat) (x:Ram),P.QD[i]?=some x→P.parts[i]?=some ⟨x.Q7,x.size,x.pos⟩:=fun i x g=>by
  have E:=(ο.1 g).1;unfold aF.parts;rw[List.getElem?_append_left (by simpa using E),List.getElem?_map,g];rfl
 have gd:∀(i:Nat) (x:bR),P.Q5[i]?=some x→P.parts[P.QD.length+i]?=some ⟨x.Q7,x.size,x.pos⟩:=fun i x g=>by
  unfold aF.parts;rw[List.getElem?_append_right ξ];simp only[List.length_map,Nat.add_sub_cancel_left,List.getElem?_map,g];rfl
 refine⟨fun x g=>?_,u,fun x g=>?_,fun i j x y l g q=>B i j _ _ l (v i x g) (v j y q),fun i j x y l g q=>B _ _ _ _ χ (gd i x g) (gd j y q),fun x y g q=>?_⟩
 ·obtain⟨i,hi⟩:=List.getElem?_of_mem g
  obtain⟨a,b,c,d⟩:=w _ (γ (v i x hi));have:=Bc (List.mem_map_of_mem (f:=Ram.size) g);exact⟨a,χ,b,c,d⟩
 ·obtain⟨i,hi⟩:=List.getElem?_of_mem g
  obtain⟨a,b,c,d⟩:=w _ (γ (gd i x hi));exact⟨a,I x g,b,c,d⟩
 ·obtain⟨i,hi⟩:=List.getElem?_of_mem g
  obtain⟨j,D⟩:=List.getElem?_of_mem q;have E:=(ο.1 D).1;exact B _ _ _ _ χ (gd i x hi) (v j y D)
theorem rP{l:List Nm}{s:ByteArray}:has l s=true↔∃p,(s,p)∈l:=by
 unfold has;simp only[List.any_eq_true,decide_eq_true_eq,Prod.exists];constructor
 ·rintro⟨a,b,h,rfl⟩;exact⟨b,h⟩
 ·rintro⟨p,h⟩;exact⟨s,p,h,rfl⟩
def Dy(l:List Nm):Prop:=∀(i j:Nat) (x y:Nm),j<i→l[i]?=some x→l[j]?=some y→x.1≠y.1
theorem dC{l:List Nm}(h:iQ named l=[]):(∀x∈l,named x.1=true)∧Dy l:=by
 simp only[iQ,List.append_eq_nil_iff,bj,b8]at h;refine⟨h.1,fun i j x y d g q e=>?_⟩;have:=dw.1 h.2 i j x y d g q;rw[if_pos e]at this
 cases this
theorem mB{l:List iq}{of:List Nm}(h:gU l of=[]):l.length≤1∧∀x∈l,has of x.name=true:=by
 simp only[gU,List.append_eq_nil_iff,bj,b8]at h;refine⟨?_,h.2⟩
 rcases Ψ l.length 2 with d|d
 ·omega
 ·have:=dw.1 h.1 1 0 l[1] l[0] χ (θ χ) (θ χ)
  cases this
structure xG (named:ByteArray→Bool) (P:aF):Prop where
 flat:∀l∈[P.things,P.QP,P.chans,P.irqn,P.ques,P.plns],∀x∈l,named x.1=true
 uniq:∀l∈[P.things,P.QP,P.chans,P.irqn,P.ques,P.plns],Dy l
 QI:P.QI.length≤1∧∀x∈P.QI,has P.plns x.name=true
 QC:P.QC.length≤1∧∀x∈P.QC,has P.QP x.name=true
 QE:P.QE.length≤1∧∀x∈P.QE,has P.QP x.name=true
 ban:∀x∈P.QG,(has P.QP x.QF=true∨has P.QR x.QF=true)∧has P.QP x.to=true
 queue:∀x∈P.QB,1≤x.how∧x.how≤3∧(x.how=3→x.depth=0)∧has P.QP x.QF=true∧has P.QP x.to=true
 Qh:∀x∈P.Q5,∀m∈x.QA,has P.regs m.of=true
 region:∀x∈P.Q3,(x.fixed=true∨x.Q7=0)∧(x.QQ=true∨x.text=ByteArray.empty)∧(x.QQ=true→x.fill=0)
 Qg:∀x∈P.Q4,∀m∈x.QA,has P.things m.of=true
 QO:∀x∈P.Q4,x.QO.length≤1
 rule:∀x∈P.Q4,∀r∈x.QO,1≤r.how∧r.how≤3∧(r.how=1∧has P.QP r.to=true∨r.how≠1∧r.to=ByteArray.empty∧r.QK=0)
 channel:∀x∈P.Q8,1≤x.how∧x.how≤4∧(x.shared=true∨x.over=ByteArray.empty)∧(x.how=1∨x.QK=0)∧has P.QP x.QF=true∧has P.QP x.to=true∧(x.shared=true→has P.regs x.over=true)
 irq:∀x∈P.QM,has P.QR x.QF=true∧has P.QP x.to=true
 cpus:∀x∈P.Q9,∀(i j:Nat) (y z:cK),j<i→x.QL[i]?=some y→x.QL[j]?=some z→y.QN≠z.QN
 run:∀x∈P.Q9,∀y∈x.QL,∀r∈y.runs,(y.needs=true∨r.per=0)∧(r.QH=ByteArray.empty∨has P.QP r.QH=true)
theorem AI{P:aF}(h:kX named P=[]):xG named P:=by
 simp only[kX,List.append_eq_nil_iff,bj]at h;obtain⟨⟨⟨⟨⟨⟨⟨⟨⟨⟨⟨⟨⟨⟨H,I⟩,J⟩,K⟩,L⟩,N⟩,⟨b1,b2⟩,Q⟩,c1⟩,c2⟩,R⟩,U⟩,w⟩,V⟩,W⟩,O⟩:=h;refine⟨?_,?_,mB b1,mB b2,mB Q,fun x d=>?_,fun x d=>?_,fun x d m C=>?_,fun x d=>?_,fun x d m C=>?_,fun x d=>?_,fun x d r D=>?_,fun x d=>?_,fun x d=>?_,fun x d i j y z B E Y=>?_,fun x d y E r D=>?_⟩
 ·intro l g
  simp only[List.mem_cons,List.mem_nil_iff,or_false]at g
  rcases g with rfl|rfl|rfl|rfl|rfl|rfl
  ·exact(dC H).1
  ·exact(dC I).1
  ·exact(dC J).1
  ·exact(dC K).1
  ·exact(dC L).1
  ·exact(dC N).1
 ·intro l g
  simp only[List.mem_cons,List.mem_nil_iff,or_false]at g
  rcases g with rfl|rfl|rfl|rfl|rfl|rfl
  ·exact(dC H).2
  ·exact(dC I).2
  ·exact(dC J).2
  ·exact(dC K).2
  ·exact(dC L).2
  ·exact(dC N).2
 ·have:=c1 x d
  simpa only[Cd,b8,Bool.and_eq_true,Bool.or_eq_true]using this
 ·have:=c2 x d
  simp only[ud,List.append_eq_nil_iff,b8,Bool.and_eq_true,Bool.or_eq_true,decide_eq_true_eq,Bool.not_eq_true',decide_eq_false_iff_not]at this;obtain⟨⟨⟨p,q⟩,r⟩,s,t⟩:=this;exact⟨p,q,fun e=>r.resolve_left (fun h=>h e),s,t⟩
 ·exact b8.1 (R x d m C)
 ·have:=U x d
  simp only[nR,b8,Bool.and_eq_true,Bool.or_eq_true,decide_eq_true_eq,Bool.not_eq_true']at this;obtain⟨⟨p,q⟩,r⟩:=this;exact⟨p,q,fun e=>r.resolve_left (fun h=>by rw[h]at e;cases e)⟩
 ·have:=w x d
  simp only[jM,List.append_eq_nil_iff,bj]at this;exact b8.1 (this.1 m C)
 ·have:=w x d
  simp only[jM,List.append_eq_nil_iff,bj]at this
  rcases Ψ x.QO.length 2 with X|X
  ·omega
  ·have:=dw.1 this.2.1 1 0 x.QO[1] x.QO[0] χ (θ χ) (θ χ)
   cases this
 ·have:=w x d
  simp only[jM,List.append_eq_nil_iff,bj]at this;have:=this.2.2 r D;simp only[sH,List.append_eq_nil_iff,b8,Bool.and_eq_true,Bool.or_eq_true,decide_eq_true_eq,Bool.not_eq_true',decide_eq_false_iff_not]at this;obtain⟨⟨⟨p,q⟩,Z⟩,s⟩:=this;refine⟨p,q,?_⟩
  by_cases e:r.how=1
  ·exact .inl ⟨e,s.resolve_left (fun h=>h e)⟩
  ·exact .inr ⟨e,Z.resolve_left e⟩
 ·have:=V x d
  simp only[pL,List.append_eq_nil_iff,b8,Bool.and_eq_true,Bool.or_eq_true,decide_eq_true_eq,Bool.not_eq_true']at this;obtain⟨⟨⟨⟨p,q⟩,r⟩,s⟩,⟨t,u⟩,v⟩:=this;exact⟨p,q,r,s,t,u,fun e=>v.resolve_left (fun h=>by rw[h]at e;cases e)⟩
 ·have:=W x d
  simpa only[CH,b8,Bool.and_eq_true]using this
 ·have:=O x d
  simp only[gR,List.append_eq_nil_iff,bj]at this;have:=dw.1 this.1 i j y z B E Y
  simpa only[b8,Bool.not_eq_true',decide_eq_false_iff_not]using this
 ·have:=O x d
  simp only[gR,List.append_eq_nil_iff,bj]at this;have:=this.2 y E r D
  simpa only[sG,List.append_eq_nil_iff,b8,Bool.or_eq_true,decide_eq_true_eq]using this
theorem AJ{α:Type}{pos:α→Int}{n:Nat}{l:List α}:most pos n l=[]↔l.length≤n:=by
 unfold most
 rcases Ψ n l.length with h|h
 ·rw[θ h];simp;omega
 ·rw[List.getElem?_eq_none h];simp[h]
structure uI (P:aF):Prop where
 QD:P.QD.length≤8
 Q5:P.Q5.length≤32
 Q3:P.Q3.length≤256
 Q4:P.Q4.length≤64
 Q8:P.Q8.length≤256
 QM:P.QM.length≤64
 QB:P.QB.length≤64
 QG:P.QG.length≤256
 Q9:P.Q9.length≤16
 submaps:∀x∈P.Q4,x.QA.length≤64
 devmaps:∀x∈P.Q5,x.QA.length≤64
theorem yj{P:aF}(h:gZ P=[]):uI P:=by
 simp only[gZ,List.append_eq_nil_iff,bj,AJ]at h;obtain⟨⟨⟨⟨⟨⟨⟨⟨⟨a,b⟩,c⟩,d⟩,e⟩,f⟩,g⟩,i⟩,j⟩,k⟩:=h;refine⟨a,b,c,d,e,f,g,i,j,fun x l=>k _ ?_,fun x l=>k _ ?_⟩
 ·exact List.mem_append_left _ (List.mem_map_of_mem l)
 ·exact List.mem_append_right _ (List.mem_map_of_mem l)
theorem oP{α:Type}{f:α→α→List Wr}{l:List α}:cQ f l=[]↔l.Pairwise (fun y x=>f x y=[]):=by
 induction l with
 | nil=>simp[cQ]
 | cons a l ih=>simp only[cQ,List.append_eq_nil_iff,bj,ih,List.pairwise_cons]
theorem zG{y:Nat}:(x ||| y)%cX b=0↔x%cX b=0∧y%cX b=0:=by
 cases b
 ·exact uj (n:=12)
 ·exact uj (n:=21)
theorem fQ(h:x%cX b=0):x%4096=0:=by
 cases b
 ·exact h
 ·have h:x%2097152=0:=h
  omega
structure dO (P:aF):Prop where
 one:∀x∈P.Q3,0<x.size∧x.size≤67108864∧x.size%cX x.big=0∧x.Q7%cX x.big=0∧x.fill<256∧x.text.size≤x.size∧x.text.size≤1048576∧(x.fill=0∨x.size≤1048576)
 fixed:∀x∈P.Q3,x.fixed=true→x.Q7+x.size≤4294967296∧eY P.QD x.Q7 (cz x.Q7 x.size)=true
 apart:∀(i j:Nat) (x y:Region),j<i→P.Q3[i]?=some x→P.Q3[j]?=some y→x.fixed=true→y.fixed=true→Off x.Q7 x.size y.Q7 y.size
theorem ub{P:aF}(h:fo P=[]):dO P:=by
 simp only[fo,List.append_eq_nil_iff,bj]at h;obtain⟨v,w⟩:=h;have one:∀x∈P.Q3,0<x.size∧x.size≤67108864∧x.size%cX x.big=0∧x.Q7%cX x.big=0∧x.fill<256∧x.text.size≤x.size∧x.text.size≤1048576∧(x.fill=0∨x.size≤1048576):=fun x l=>by
  have:=v x l;simp only[lu,ql,List.append_eq_nil_iff,b8,Bool.and_eq_true,Bool.or_eq_true,decide_eq_true_eq,zG]at this;obtain⟨⟨⟨⟨a,b⟩,c,d⟩,_⟩,⟨⟨e,f⟩,g⟩,i⟩:=this;exact⟨c,d,a,b,e,f,g,i⟩
 refine⟨one,fun x l D=>?_,fun i j x y u l E fx C=>?_⟩
 ·have:=v x l
  simp only[lu,kg,D,if_true,List.append_eq_nil_iff,b8,Bool.and_eq_true,Bool.or_eq_true,decide_eq_true_eq,jw]at this;have q:=(one x l).1;exact this.1.2.resolve_left χ
 ·rw[dZ,oP,aF.fixed,List.pairwise_map,List.pairwise_filter,List.pairwise_iff_getElem]at w
  obtain⟨hi,rfl⟩:=ο.1 l;obtain⟨B,rfl⟩:=ο.1 E;have q:=w j i B hi u (by simpa using C) (by simpa using fx);rw[b8]at q;exact mY (one _ (List.getElem_mem hi)).1 (one _ (List.getElem_mem B)).1 q
structure jz (P:aF) (device:Bool) (l:List Map):Prop where
 one:∀m∈l,m.Q7%cX (aP P m.of).big=0∧m.Q7+(aP P m.of).size≤549755813888∧(m.exec=true→device=false∧((aP P m.of).wx=true∨m.write=false))
 apart:∀(i j:Nat) (x y:Map),j<i→l[i]?=some x→l[j]?=some y→0<(aP P x.of).size→0<(aP P y.of).size→Off x.Q7 (aP P x.of).size y.Q7 (aP P y.of).size
theorem qQ{P:aF}{d:Bool}:∀{l:List Map} {pages:Nat},(bH P d pages l).1=[] →
 ∀m∈l,m.Q7%cX (aP P m.of).big=0∧m.Q7+(aP P m.of).size≤549755813888∧(m.exec=true→d=false∧((aP P m.of).wx=true∨m.write=false))
 | [],_,_,m,g=>by simp at g
 | a::t,pages,h,m,g=>by
  simp only[bH,List.append_eq_nil_iff,b8,Bool.and_eq_true,Bool.or_eq_true,decide_eq_true_eq,jw,Bool.not_eq_true']at h;obtain⟨⟨⟨⟨j,q⟩,u⟩,_⟩,v⟩:=h
  rcases Ξ.1 g with rfl|g
  ·exact⟨j,q,fun e=>u.resolve_left (fun h=>by rw[h]at e;cases e)⟩
  ·exact qQ v m g
theorem li{P:aF}{d:Bool}:∀{ls:List (List Map)} {pages:Nat},(bM P d pages ls).1=[]→∀l∈ls,jz P d l
 | [],_,_,l,g=>by simp at g
 | a::t,pages,h,l,g=>by
  simp only[bM,List.append_eq_nil_iff]at h;obtain⟨⟨v,w⟩,B⟩:=h
  rcases Ξ.1 g with rfl|g
  ·refine⟨qQ v,fun i j x y q C D E H=>?_⟩
   have u:=dw.1 w i j ⟨x.Q7,(aP P x.of).size,x.pos⟩ ⟨y.Q7,(aP P y.of).size,y.pos⟩ q (by simp[bJ,C]) (by simp[bJ,D]);rw[b8]at u;exact mY (a:=⟨x.Q7,(aP P x.of).size,x.pos⟩) (b:=⟨y.Q7,(aP P y.of).size,y.pos⟩) E H u
  ·exact li B l g
theorem C4{P:aF}(h:lF P=[]):(∀x∈P.Q4,jz P false x.QA)∧∀x∈P.Q5,jz P true x.QA:=by
 simp only[lF,List.append_eq_nil_iff]at h;exact⟨fun x d=>li h.1 _ (List.mem_map_of_mem d),fun x d=>li h.2 _ (List.mem_map_of_mem d)⟩
structure Cs (P:aF):Prop where
 subject:∀x∈P.Q4,x.QN<4
 rule:∀x∈P.Q4,∀r∈x.QO,r.how=1→r.QK<64∧r.to≠x.name
 irq:∀x∈P.QM,x.QK<64
 channel:∀x∈P.Q8,(x.how=1→x.QK<64)∧x.QF≠x.to∧(x.shared=true→gg P x=true)
 ban:∀x∈P.QG,x.QF≠x.to
 queue:∀x∈P.QB,(x.how≠3→1≤x.depth∧x.depth≤64)∧x.QF≠x.to
theorem Cy{P:aF}(h:uK P=[]):Cs P:=by
 simp only[uK,List.append_eq_nil_iff,bj,iL,kn,kM,nj,b8,Bool.and_eq_true,Bool.or_eq_true,decide_eq_true_eq,Bool.not_eq_true',decide_eq_false_iff_not]at h;obtain⟨⟨⟨⟨a,b⟩,c⟩,d⟩,e⟩:=h;refine⟨fun x g=>(a x g).1,fun x g r u e=>?_,b,fun x g=>?_,d,fun x g=>?_⟩
 ·obtain⟨j,l⟩:=(a x g).2 r u
  exact⟨j.resolve_left (fun h=>h e),l.resolve_left (fun h=>h e)⟩
 ·obtain⟨⟨j,l⟩,q⟩:=c x g
  exact⟨fun e=>j.resolve_left (fun h=>h e),l,fun e=>q.resolve_left (fun h=>by rw[h]at e;cases e)⟩
 ·obtain⟨j,l⟩:=e x g
  exact⟨fun e=>j.resolve_left e,l⟩
structure xF (flat:Nat→cK→Int×Int) (P:aF):Prop where
 QI:0<P.QI.length
 QC:1<P.Q9.length→0<P.QC.length
 QJ:∀x∈P.Q9,1≤x.QJ∧x.QJ≤65536
 lane:∀x∈P.Q9,∀y∈x.QL,y.QN<4∧(flat x.QJ y).2=0
 run:∀x∈P.Q9,∀y∈x.QL,∀r∈y.runs,r.QH=ByteArray.empty∨lR P r.QH=y.QN
theorem zw{flat:Nat→cK→Int×Int}{P:aF}(h:kW flat P=[]):xF flat P:=by
 simp only[kW,List.append_eq_nil_iff,bj,b8,decide_eq_true_eq]at h;obtain⟨⟨a,b⟩,c⟩:=h;have u:∀x∈P.Q9,1≤x.QJ∧x.QJ≤65536:=fun x d=>by
  have:=c x d;unfold kG at this;split at this
  ·cases this
  ·omega
 have q:∀x∈P.Q9,∀y∈x.QL,jY P y=[]∧lH flat x.QJ y=[]:=fun x d y j=>by
  have:=c x d;unfold kG at this;split at this
  ·cases this
  ·have:=bj.1 this y j
   exact List.append_eq_nil_iff.1 this
 refine⟨a,fun h=>?_,u,fun x d y j=>?_,fun x d y j r v=>?_⟩
 ·rw[θ h]at b
  simpa only[b8,decide_eq_true_eq]using b
 ·obtain⟨g,l⟩:=q x d y j
  simp only[jY,List.append_eq_nil_iff,b8,decide_eq_true_eq]at g;refine⟨g.1,?_⟩;unfold lH at l;simp only at l;split at l
  ·assumption
  ·cases l
 ·obtain⟨g,_⟩:=q x d y j
  simp only[jY,List.append_eq_nil_iff,bj,b8,Bool.or_eq_true,decide_eq_true_eq]at g;exact g.2 r v
structure En (named:ByteArray→Bool) (flat:Nat→cK→Nat×Int×Int) (P:aF):Prop where
 names:xG named P
 counts:uI P
 Qk:nI P
 Q3:dO P
 QP:∀x∈P.Q4,jz P false x.QA
 QR:∀x∈P.Q5,jz P true x.QA
 who:Cs P
 Q9:xF (fun M y=>(flat M y).2) P
 image:pages flat P≤1024
theorem vT{flat:Nat→cK→Nat×Int×Int}{P:aF}:∀g∈dX named flat P,∀r,g.2 r≠0:=by
 intro g d r;simp only[dX,List.mem_cons,List.mem_nil_iff,or_false]at d
 rcases d with rfl|rfl|rfl|rfl|rfl|rfl|rfl|rfl
 ·show cN r≠0;unfold cN;repeat' split
  all_goals omega
 ·show kL r≠0;unfold kL;omega
 ·show pf r≠0;unfold pf;repeat' split
  all_goals omega
 ·show fB r≠0;unfold fB;repeat' split
  all_goals omega
 ·show eL r≠0;unfold eL;repeat' split
  all_goals omega
 ·show pc r≠0;unfold pc;repeat' split
  all_goals omega
 ·show fA r≠0;unfold fA;repeat' split
  all_goals omega
 ·show xJ r≠0;unfold xJ;omega
end Ck
namespace Ck
def fu(P:aF)(m:Map):Nat:=(aP P m.of).size / 4096
theorem qP{P:aF}(g:∀s,(aP P s).size≤67108864){d:Bool}:∀{l:List Map} {pages:Nat},pages≤131072→(bH P d pages l).1=[] →
 (bH P d pages l).2=pages+(l.map (fu P)).sum∧pages+(l.map (fu P)).sum≤131072
 | [],pages,hp,_=>by simpa[bH]using hp
 | a::t,pages,hp,h=>by
  have v:=g a.of;have e:(pages+(aP P a.of).size / 4096)%M64=pages+fu P a:=Nat.mod_eq_of_lt (by unfold M64;omega);simp only[bH,List.append_eq_nil_iff,b8,decide_eq_true_eq]at h⊢;rw[e]at h⊢;obtain⟨⟨_,j⟩,q⟩:=h;obtain⟨u,w⟩:=qP g j q;simp only[List.map_cons,List.sum_cons];exact⟨by rw[u];omega,χ⟩
theorem kN{P:aF}(j:∀s,(aP P s).size≤67108864){d:Bool}:∀{ls:List (List Map)} {pages:Nat},pages≤131072→(bM P d pages ls).1=[] →
 (bM P d pages ls).2=pages+(ls.map fun l=>(l.map (fu P)).sum).sum∧pages+(ls.map fun l=>(l.map (fu P)).sum).sum≤131072
 | [],pages,hp,_=>by simpa[bM]using hp
 | a::t,pages,hp,h=>by
  simp only[bM,List.append_eq_nil_iff]at h⊢;obtain⟨⟨q,_⟩,g⟩:=h;obtain⟨u,v⟩:=qP j hp q;rw[u]at g⊢;obtain⟨w,x⟩:=kN j v g;simp only[List.map_cons,List.sum_cons];exact⟨by rw[w];omega,χ⟩
variable {named:ByteArray→Bool} {s:ByteArray}
theorem Eo{l:List Nm}(g:∀x∈l,named x.1=true)(h:Dy l):iQ named l=[]:=by
 simp only[iQ,List.append_eq_nil_iff,bj,b8];exact⟨g,dw.2 fun i j x y d q u=>if_neg (h i j x y d q u)⟩
theorem Off.symm{a b c d:Nat}(h:Off a b c d):Off c d a b:=by unfold Off at *; omega
def nH(named:ByteArray→Bool)(flat:Nat→cK→Nat×Int×Int)(P:aF):Prop:=∀g∈dX named flat P,g.1=[]
def sr(P:aF):Nat:=((P.Q4.map ak.QA).map fun l=>(l.map (fu P)).sum).sum+((P.Q5.map bR.QA).map fun l=>(l.map (fu P)).sum).sum
structure yw (named:ByteArray→Bool) (flat:Nat→cK→Nat×Int×Int) (P:aF):Prop extends En named flat P where
 mapped:sr P≤131072
theorem sp{α:Type}{p:α→Bool}{l:List α}{x:α}(h:l.find? p=some x):x∈l∧p x=true:=⟨List.mem_of_find?_eq_some h,List.find?_some h⟩
theorem xP{P:aF}{t:jl}(h:fC P s=some t):(∃x∈P.Q3,x.name=s∧t=⟨x.size,x.big,x.wx⟩)∨∃x∈P.Q5,x.name=s∧t=⟨x.size,false,false⟩:=by
 unfold fC at h;split at h
 ·rename_i x j
  obtain⟨d,g⟩:=sp j;exact .inl ⟨x,d,by simpa using g,(ι h).symm⟩
 ·rw[Option.map_eq_some_iff]at h
  obtain⟨x,j,rfl⟩:=h;obtain⟨d,g⟩:=sp j;exact .inr ⟨x,d,by simpa using g,rfl⟩
theorem rx{P:aF}(g:nI P)(j:dO P)(s:ByteArray):(aP P s).size≤67108864:=by
 unfold aP
 cases h:fC P s with
 | none=>simp
 | some t =>
  rcases xP h with⟨x,d,_,rfl⟩|⟨x,d,_,rfl⟩
  ·exact(j.one x d).2.1
  ·have:=(g.dev x d).2.1
   simp only[Option.getD_some];omega
theorem qy{P:aF}(h:has P.things s=true):∃t,fC P s=some t:=by
 unfold fC;split
 ·exact⟨_,rfl⟩
 ·rename_i j
  obtain⟨p,d⟩:=rP.1 h
  rcases Ω.1 d with d|d
  ·obtain⟨x,g,e⟩:=List.mem_map.1 d
   cases hf:P.Q5.find? (fun x=>decide (x.name=s))with
   | some y=>exact⟨_,rfl⟩
   | none =>
    have:=List.find?_eq_none.1 hf x g;simp only[Prod.mk.injEq]at e;simp[e.1]at this
  ·obtain⟨x,g,e⟩:=List.mem_map.1 d
   have:=List.find?_eq_none.1 j x g;simp only[Prod.mk.injEq]at e;simp[e.1]at this
theorem vS{P:aF}(h:has P.regs s=true):has P.things s=true:=by
 obtain⟨p,d⟩:=rP.1 h;exact rP.2 ⟨p,List.mem_append_right _ d⟩
theorem dH{flat:Nat→cK→Nat×Int×Int}{P:aF}(h:nH named flat P):yw named flat P:=by
 have d:=h (lF P,eL) (by simp[dX]);have m:=C4 d;have g:=Ds (h (vi P,pf) (by simp[dX]));have j:=ub (h (fo P,fB) (by simp[dX]));have hi:=h (mO flat P,xJ) (by simp[dX]);refine⟨⟨AI (h (kX named P,cN) (by simp[dX])),yj (h (gZ P,kL) (by simp[dX])),g,j,m.1,m.2,
  Cy (h (uK P,pc) (by simp[dX])),zw (h (kW (fun M y=>(flat M y).2) P,fA) (by simp[dX])),by simpa only[mO,b8,decide_eq_true_eq]using hi⟩,?_⟩
 simp only[lF,List.append_eq_nil_iff]at d;have l:=rx g j;obtain⟨q,u⟩:=kN l (Nat.zero_le _) d.1;rw[q]at d;obtain⟨b1,b2⟩:=kN l u d.2;unfold sr;omega
theorem uQ{flat:Nat→cK→Nat×Int×Int}{P:aF}{a e:Int}(h:qr (dX named flat P) a e):(e=0↔nH named flat P)∧(e=0→a=0):=by
 have key:∀(l:List (List Wr×(Int→Int))) (a e:Int),(∀g∈l,∀r,g.2 r≠0)→qr l a e→(e=0↔∀g∈l,g.1=[])∧(e=0→a=0):=by
  intro l
  induction l with
  | nil=>intro a e _ h;exact⟨⟨fun _ g hg=>by simp at hg,fun _=>h.2⟩,fun _=>h.1⟩
  | cons g t ih =>
   intro a e hw h
   rcases h with⟨h1,h2⟩|⟨r,hr,_,rfl⟩
   ·obtain⟨h3,h4⟩:=ih a e (fun g hg=>hw g (List.mem_cons_of_mem _ hg)) h2
    refine⟨⟨fun e0 g' hg'=>?_,fun hall=>h3.2 fun g' hg'=>hall g' (List.mem_cons_of_mem _ hg')⟩,h4⟩
    rcases Ξ.1 hg' with rfl|hg'
    ·exact h1
    ·exact h3.1 e0 g' hg'
   ·refine⟨⟨fun e0=>absurd e0 (hw g List.mem_cons_self r),fun hall=>?_⟩,fun e0=>absurd e0 (hw g List.mem_cons_self r)⟩
    rw[hall g List.mem_cons_self]at hr;simp at hr
 exact key _ a e vT h
end Ck
namespace Ck
abbrev PS:=Nat→Prop
def Fits(S:PS)(size al p:Nat):Prop:=al ∣ p∧∀q,p≤q→q<p+size→S q
def pY(S:PS)(size al p:Nat):Prop:=size≠0∧Fits S size al p∧∀q,q<p→¬ Fits S size al q
theorem yM{S:PS}{size al p r:Nat}(h:pY S size al p)(k:pY S size al r):p=r:=by
 rcases Nat.lt_trichotomy p r with e|e|e
 ·exact absurd h.2.1 (k.2.2 p e)
 ·exact e
 ·exact absurd k.2.1 (h.2.2 r e)
open Classical in
noncomputable def fit(S:PS)(size al:Nat):Option Nat:=if h:∃p,pY S size al p then some h.choose else none
theorem fE{S:PS}{size al p:Nat}:fit S size al=some p↔pY S size al p:=by
 unfold fit;split
 ·rename_i h
  exact⟨(fun e=>by cases e;exact h.choose_spec),fun k=>congrArg some (yM h.choose_spec k)⟩
 ·rename_i h
  exact⟨(fun e=>by cases e),fun k=>absurd ⟨p,k⟩ h⟩
theorem tA{S:PS}{size al:Nat}(j:size≠0):∀n p,p<n→Fits S size al p→∃r,pY S size al r
 | 0,_,h,_=>χ
 | n+1,p,h,hp=>by
  by_cases hq:∃q,q<p∧Fits S size al q
  ·obtain⟨q,g,d⟩:=hq
   exact tA j n q χ d
  ·exact⟨p,j,hp,fun q g d=>hq ⟨q,g,d⟩⟩
theorem oy{S:PS}{size al:Nat}:fit S size al=none↔size=0∨∀p,¬ Fits S size al p:=by
 unfold fit;split
 ·rename_i h
  obtain⟨p,d,g,_⟩:=h;exact⟨(fun e=>by cases e),(fun e=>by rcases e with e|e;exact absurd e d;exact absurd g (e p))⟩
 ·rename_i h
  refine⟨fun _=>?_,fun _=>rfl⟩
  by_cases hs:size=0
  ·exact .inl hs
  ·exact .inr fun p j=>h (tA hs (p+1) p (Nat.lt_succ_self p) j)
def rng(Q7 size:Nat):PS:=fun q=>Q7≤q∧q<Q7+size∧q<4294967296
def off(S:PS)(Q7 size:Nat):PS:=fun q=>S q∧¬ rng Q7 size q
def co(P:aF):PS:=fun q=>∃r∈P.QD,rng r.Q7 r.size q
def ay(P:aF):PS:=fun q=>co P q∧∀x∈P.Q3,x.fixed=true→¬ rng x.Q7 x.size q
noncomputable def fH(S:PS)(out:List Nat):List Region→Nat ⊕ (List Nat×PS)
 | [] =>.inr (out,S)
 | x::t=>if x.fixed then fH S (out++[x.Q7]) t else
  match fit S x.size (cX x.big)with
  | some p=>fH (off S p x.size) (out++[p]) t
  | none =>.inl out.length
structure Lay where
 Q3:List Nat
 image:Nat
 pages:Nat
noncomputable def dQ(P:aF)(pages:Nat):Option Lay×Int×Int:=
 match fH (ay P) [] P.Q3 with
 | .inl i=>(none,i,110)
 | .inr (out,S)=>match fit S (pages*4096) 4096 with
  | none=>(none, -1,110)
  | some p=>(some ⟨out,p,pages⟩, -1,0)
theorem jT{a s b t:Nat}(d:0<s)(g:0<t)(h:∀q,a≤q→q<a+s→¬ (b≤q∧q<b+t)):Off a s b t:=by
 unfold Off
 by_cases h1:a≤b
 ·by_cases h2:a+s≤b
  ·exact .inl h2
  ·exact absurd ⟨Γ _,χ⟩ (h b h1 χ)
 ·by_cases h2:b+t≤a
  ·exact .inr h2
  ·exact absurd ⟨χ,χ⟩ (h a (Γ _) χ)
theorem qh{a s:Nat}(h:0<s)(d:a+s≤4294967296):cz a s=a+s-1:=by
 unfold cz M64;rw[show a+s+(18446744073709551616-1)=a+s-1+18446744073709551616 by omega,Nat.add_mod_right];exact Nat.mod_eq_of_lt χ
structure BN (P:aF) (k:Nat) (out:List Nat) (S:PS):Prop where
 len:out.length=k
 free:∀q,S q→ay P q
 one:∀(i p:Nat) (x:Region),i<k→P.Q3[i]?=some x→out[i]?=some p→(x.fixed=true→p=x.Q7)∧p%cX x.big=0∧p+x.size≤4294967296∧(∀q,p≤q→q<p+x.size→co P q)∧(∀q,S q→¬ (p≤q∧q<p+x.size))∧(x.fixed=false→∀y∈P.Q3,y.fixed=true→Off p x.size y.Q7 y.size)
 two:∀(i j p r:Nat) (x y:Region),j<i→i<k→P.Q3[i]?=some x→P.Q3[j]?=some y→out[i]?=some p→out[j]?=some r→Off p x.size r y.size
section
variable {named:ByteArray→Bool} {flat:Nat→cK→Nat×Int×Int} {P:aF}
theorem yX(h:dO P)(B:nI P){x:Region}(j:x∈P.Q3)(C:x.fixed=true):∀q,x.Q7≤q→q<x.Q7+x.size→co P q:=by
 intro q v D;obtain⟨w,d⟩:=h.fixed x j C;have y:=(h.one x j).1;unfold eY at d;simp only[decide_eq_true_eq]at d;obtain⟨r,g,l,u⟩:=d q v (by rw[qh y w];omega);obtain⟨b1,_,b2,_⟩:=B.Qe r g;rw[qh b1 b2]at u;exact⟨r,g,l,χ,χ⟩
theorem nU(h:nI P){q:Nat}(d:co P q):q<4294967296:=by
 obtain⟨r,_,_,_,e⟩:=d;exact e
theorem ox(h:dO P){x:Region}(g:x∈P.Q3)(d:x.fixed=true){q:Nat}(u:ay P q):¬ (x.Q7≤q∧q<x.Q7+x.size):=fun⟨j,l⟩=>by
 have v:=(h.fixed x g d).1;exact u.2 x g d ⟨j,l,χ⟩
theorem qe(B:dO P)(hb:nI P){k:Nat}{out:List Nat}{S:PS}{x:Region}{p:Nat}{S':PS}(h:BN P k out S)(J:P.Q3[k]?=some x)(hS:∀q,S' q→S q)
 (hp:p%cX x.big=0)(hl:p+x.size≤4294967296)(I:∀q,p≤q→q<p+x.size→co P q)(H:∀q,S' q→¬ (p≤q∧q<p+x.size))
 (D:x.fixed=true→p=x.Q7)(C:x.fixed=false→∀q,p≤q→q<p+x.size→S q):BN P (k+1) (out++[p]) S':=by
 have hm:=γ J;have hs:=(B.one x hm).1;have u:∀(i d:Nat),(out++[p])[i]?=some d→i<k∧out[i]?=some d∨i=k∧d=p:=fun i d e=>by
  rcases Ψ i k with c|c
  ·rw[List.getElem?_append_left (by rw[h.len];exact c)]at e
   exact .inl ⟨c,e⟩
  ·rw[List.getElem?_append_right (by rw[h.len];exact c),h.len]at e
   have:i-k=0:=by
    rcases ϑ (i-k)with z|z
    ·exact z
    ·rw[List.getElem?_eq_none η]at e;cases e
   rw[this]at e;exact .inr ⟨χ,by simpa using e.symm⟩
 have g:x.fixed=false→∀y∈P.Q3,y.fixed=true→Off p x.size y.Q7 y.size:=fun f y l w=>jT hs (B.one y l).1 fun q V W=>ox B l w (h.free q (C f q V W))
 refine⟨by simp[h.len],fun q Q=>h.free q (hS q Q),fun i d y hi l v=>?_,fun i j d r y z E hi l K v hr=>?_⟩
 ·rcases u i d v with⟨c,e⟩|⟨rfl,rfl⟩
  ·obtain⟨L,X,Y,Z,N,O⟩:=h.one i d y c l e
   exact⟨L,X,Y,Z,fun q Q=>N q (hS q Q),O⟩
  ·obtain rfl:=ι (J.symm.trans l)
   exact⟨D,hp,hl,I,H,g⟩
 ·rcases u j r hr with⟨c2,e2⟩|⟨c2,_⟩
  ·rcases u i d v with⟨c,e⟩|⟨rfl,rfl⟩
   ·exact h.two i j d r y z E c l K e e2
   ·obtain rfl:=ι (J.symm.trans l)
    obtain⟨L,X,Y,Z,N,O⟩:=h.one j r z c2 K e2;have R:=γ K;have U:=(B.one z R).1
    cases w:x.fixed with
    | false=>exact jT hs U fun q V W=>N q (C w q V W)
    | true =>
     rw[D w]
     cases hfz:z.fixed with
     | true=>rw[L hfz];exact B.apart i j x z E J K w hfz
     | false=>exact Off.symm (O hfz x hm w)
  ·omega
theorem tC{S:PS}{x:Region}{p:Nat}(h:pY S x.size (cX x.big) p):p%cX x.big=0∧∀q,p≤q→q<p+x.size→S q:=⟨Nat.mod_eq_zero_of_dvd h.2.1.1,h.2.1.2⟩
theorem rN(g:dO P)(j:nI P):∀(n k:Nat) (out:List Nat) (S:PS),k+n=P.Q3.length→BN P k out S→∀d S',fH S out (P.Q3.drop k)=.inr (d,S')→BN P P.Q3.length d S'
 | 0,k,out,S,hk,h,d,S',e=>by
  rw[List.drop_eq_nil_of_le χ]at e
  cases e
  rwa[←hk,Nat.add_zero]
 | n+1,k,out,S,hk,h,d,S',e=>by
  obtain⟨x,u⟩:∃x,P.Q3[k]?=some x:=⟨_,θ χ⟩;have l:=γ u;rw[List.drop_eq_getElem_cons χ,(ο.1 u).2]at e;simp only[fH]at e;have D:=(g.one x l).1
  cases hf:x.fixed with
  | true =>
   rw[hf,if_pos rfl]at e;exact rN g j n (k+1) _ _ χ (qe g j h u (fun _ h=>h) (g.one x l).2.2.2.1 (g.fixed x l hf).1 (yX g j l hf) (fun q v=>ox g l hf (h.free q v)) (fun _=>rfl) (by simp[hf])) _ _ e
  | false =>
   rw[hf]at e;simp only[Bool.false_eq_true,if_false]at e
   cases hfit:fit S x.size (cX x.big)with
   | none=>rw[hfit]at e;cases e
   | some p =>
    rw[hfit]at e;obtain⟨C,w⟩:=tC (fE.1 hfit);have pl:p+x.size≤4294967296:=by
     have:=nU j (h.free _ (w (p+x.size-1) χ χ)).1;omega
    exact rN g j n (k+1) _ _ χ (qe g j h u (fun _ h=>h.1) C pl (fun q y B=>(h.free q (w q y B)).1) (fun q v ⟨y,B⟩=>v.2 ⟨y,B,χ⟩) (by simp[hf]) (fun _=>w)) _ _ e
theorem Ea:BN P 0 [] (ay P):=⟨rfl,fun _ h=>h,fun _ _ _ h=>χ,fun _ _ _ _ _ _ _ h=>χ⟩
def iB(P:aF)(l:Lay):List (Nat×Nat):=l.Q3.zip (P.Q3.map Region.size)++[(l.image,l.pages*4096)]
structure lY (P:aF) (l:Lay):Prop where
 len:l.Q3.length=P.Q3.length
 fixed:∀(i p:Nat) (x:Region),P.Q3[i]?=some x→l.Q3[i]?=some p→(x.fixed=true→p=x.Q7)∧p%cX x.big=0
 one:∀(i a s:Nat),(iB P l)[i]?=some (a,s)→0<s∧a%4096=0∧a+s≤4294967296∧∀q,a≤q→q<a+s→co P q
 two:∀(i j a s b t:Nat),j<i→(iB P l)[i]?=some (a,s)→(iB P l)[j]?=some (b,t)→Off a s b t
theorem iA{l:Lay}(q:l.Q3.length=P.Q3.length){i a s:Nat}(h:(iB P l)[i]?=some (a,s)):(∃x,i<P.Q3.length∧P.Q3[i]?=some x∧l.Q3[i]?=some a∧s=x.size)∨i=P.Q3.length∧a=l.image∧s=l.pages*4096:=by
 unfold iB at h;have d:(l.Q3.zip (P.Q3.map Region.size)).length=P.Q3.length:=by simp[q]
 rcases Ψ i P.Q3.length with c|c
 ·rw[List.getElem?_append_left (by rw[d];exact c),List.getElem?_zip_eq_some]at h
  obtain⟨j,g⟩:=h;rw[List.getElem?_map]at g;obtain⟨x,u,e⟩:=Option.map_eq_some_iff.1 g;exact .inl ⟨x,c,u,j,e.symm⟩
 ·rw[List.getElem?_append_right (by rw[d];exact c),d]at h
  have:i-P.Q3.length=0:=by
   rcases ϑ (i-P.Q3.length)with z|z
   ·exact z
   ·rw[List.getElem?_eq_none η]at h;cases h
  rw[this]at h;have e:(l.image,l.pages*4096)=(a,s):=by simpa using h
  cases e
  exact .inr ⟨χ,rfl,rfl⟩
theorem qY(h:yw named flat P){pg:Nat}{l:Lay}{n e:Int}(hp:0<pg)(u:dQ P pg=(some l,n,e)):lY P l∧n = -1∧e=0∧l.pages=pg:=by
 have H:=h.Q3;have U:=h.Qk;unfold dQ at u;split at u
 ·cases u
 ·rename_i out S B
  split at u
  ·cases u
  ·rename_i p w
   cases u
   have d:=rN H U P.Q3.length 0 [] _ χ Ea out S B;obtain⟨f0,⟨D,E⟩,_⟩:=fE.1 w;have D:=Nat.mod_eq_zero_of_dvd D;have pl:p+pg*4096≤4294967296:=by
    have:=nU U (d.free _ (E (p+pg*4096-1) χ χ)).1;omega
   refine⟨⟨d.len,fun i Z x g K=>?_,fun i a s hi=>?_,fun i j a s b t J hi Y=>?_⟩,rfl,rfl,rfl⟩
   ·obtain⟨R,C,_⟩:=d.one i Z x (ο.1 g).1 g K
    exact⟨R,C⟩
   ·rcases iA d.len hi with⟨x,c,g,I,rfl⟩|⟨rfl,rfl,rfl⟩
    ·obtain⟨R,C,V,W,a5,a6⟩:=d.one i a x c g I
     exact⟨(H.one x (γ g)).1,fQ C,V,W⟩
    ·exact⟨show 0<pg*4096 by omega,D,pl,fun q O Q=>(d.free q (E q O Q)).1⟩
   ·rcases iA d.len Y with⟨y,c2,L,v,rfl⟩|⟨rfl,rfl,rfl⟩
    ·obtain⟨b1,b2,b3,b4,X,b6⟩:=d.one j b y c2 L v
     have N:=(H.one y (γ L)).1
     rcases iA d.len hi with⟨x,c,g,I,rfl⟩|⟨rfl,rfl,rfl⟩
     ·exact d.two i j a b x y J c g L I v
     ·exact jT (show 0<pg*4096 by omega) N fun q O Q=>X q (E q O Q)
    ·rcases iA d.len hi with⟨x,c,_⟩|⟨c,_⟩<;>omega
def cO(l:List Region):Nat:=((l.filter fun x =>!x.fixed).map Region.size).sum
structure wD (f l:Nat) (S:PS) (used:Nat):Prop where
 inv:∃s,f≤s∧s≤l+1∧s≤f+used∧s%4096=0∧∀q,f≤q→q≤l→(S q↔s≤q)
 lo:∀q,q+1=f→¬ S q
 hi:¬ S (l+1)
theorem xk{f l d size p:Nat}{S:PS}(h:wD f l S d)(Q:l<4294967296)(R:size%4096=0)(I:pY S size 4096 p):wD f l (off S p size) (d+size):=by
 obtain⟨⟨s,N,O,V,E,u⟩,B,C⟩:=h;obtain⟨U,⟨D,y⟩,L⟩:=I;have D:=Nat.mod_eq_zero_of_dvd D;refine⟨?_,fun q J v=>B q J v.1,fun v=>C v.1⟩
 by_cases hc:p≤l∧f<p+size
 ·-- within the span
  obtain⟨c1,c2⟩:=hc;have H:f≤p:=by
   rcases Ψ p f with z|z
   ·exact absurd (y (f-1) χ χ) (B (f-1) χ)
   ·exact z
  have w:p+size≤l+1:=by
   rcases Ψ (l+1) (p+size)with z|z
   ·exact absurd (y (l+1) χ z) C
   ·exact z
  have K:s≤p:=(u p H c1).1 (y p (Γ _) χ);have x:p=s:=by
   rcases Ψ s p with z|z
   ·exact absurd ⟨Nat.dvd_of_mod_eq_zero E,fun q g j=>(u q χ χ).2 g⟩ (L s z)
   ·omega
  subst x;refine⟨p+size,χ,w,χ,χ,fun q g j=>?_⟩;unfold off rng;rw[u q g j];omega
 ·refine⟨s,N,O,χ,E,fun q g j=>?_⟩
  unfold off rng;rw[u q g j];constructor
  ·exact fun h=>h.1
  ·exact fun h=>⟨h,χ⟩
theorem qT{f l d size:Nat}{S:PS}(h:wD f l S d)(j:size≠0)(g:fit S size 4096=none):l+1<f+d+size:=by
 obtain⟨⟨s,C,D,E,v,w⟩,x,y⟩:=h
 rcases oy.1 g with e|e
 ·exact absurd e j
 ·rcases Ψ (l+1) (s+size)with z|z
  ·omega
  ·exact absurd ⟨Nat.dvd_of_mod_eq_zero v,fun q u B=>(w q χ χ).2 u⟩ (e s)
theorem tV(l:List Region)(x:Region):cO (l++[x])=cO l+if x.fixed then 0 else x.size:=by
 unfold cO
 cases h:x.fixed<;>simp[h]
theorem jc{k:Nat}{x:Region}(d:P.Q3[k]?=some x):cO (P.Q3.take (k+1))=cO (P.Q3.take k)+if x.fixed then 0 else x.size:=by
 rw[List.take_add_one,d];exact tV _ _
theorem yT(k:Nat):cO (P.Q3.take k)≤cO P.Q3:=by
 conv=>rhs;rw[←List.take_append_drop k P.Q3]
 unfold cO;simp only[List.filter_append,List.map_append,List.sum_append];omega
theorem oJ(j:dO P)(d:∀x∈P.Q3,x.fixed=false→x.big=false){f l:Nat}(q:l<4294967296):∀(n k:Nat) (out:List Nat) (S:PS),k+n=P.Q3.length→wD f l S (cO (P.Q3.take k)) →
 (match fH S out (P.Q3.drop k)with
 | .inr (_,S')=>wD f l S' (cO P.Q3)
 | .inl _=>l+1<f+cO P.Q3)
 | 0,k,out,S,hk,h=>by
  rw[List.drop_eq_nil_of_le χ];rw[List.take_of_length_le χ]at h;exact h
 | n+1,k,out,S,hk,h=>by
  obtain⟨x,v⟩:∃x,P.Q3[k]?=some x:=⟨_,θ χ⟩;have u:=γ v;rw[List.drop_eq_getElem_cons χ,(ο.1 v).2];simp only[fH];have y:=(j.one x u).1;have g:=jc v
  cases hf:x.fixed with
  | true =>
   rw[hf,if_pos rfl]at g;rw[if_pos rfl];exact oJ j d q n (k+1) _ S χ (by rw[g];exact h)
  | false =>
   rw[hf]at g;simp only[Bool.false_eq_true,if_false]at g⊢;have w:cX x.big=4096:=by rw[d x u hf];rfl
   rw[w]
   cases hfit:fit S x.size 4096 with
   | none =>
    have:=qT h χ hfit;have:=yT (P:=P) (k+1);show l+1<f+cO P.Q3;omega
   | some p =>
    exact oJ j d q n (k+1) _ _ χ (by rw[g];exact xk h q (fQ (j.one x u).2.2.1) (fE.1 hfit))
theorem sX{a s q r:Nat}(d:a%4096=0)(g:s%4096=0)(h:q / 4096=r / 4096):rng a s q↔rng a s r:=by
 unfold rng;have:(a+s)%4096=0:=χ
 omega
theorem xx(g:dO P)(w:nI P){q r:Nat}(h:q / 4096=r / 4096):ay P q↔ay P r:=by
 have one:∀{q r:Nat},q / 4096=r / 4096→ay P q→ay P r:=fun{q r} h ⟨⟨x,j,l⟩,u⟩=>by
  obtain⟨_,_,_,b1,b2⟩:=w.Qe x j;exact⟨⟨x,j,(sX b1 b2 h).1 l⟩,fun y d B v=>u y d B ((sX (fQ (g.one y d).2.2.2.1) (fQ (g.one y d).2.2.1) h).2 v)⟩
 exact⟨one h,one h.symm⟩
theorem zZ(h:yw named flat P){pg:Nat}(Y:0<pg∧pg≤1024){n:Int}(g:dQ P pg=(none,n,110))(l:∀x∈P.Q3,x.fixed=false→x.big=false){L:List Sp}(D:dS L)(d:∀q,aW L q↔ay P q){x:Sp}(E:x∈L):
 x.2-x.1+1<cO P.Q3+if 0≤n then 4096 else 1024*4096:=by
 have O:=h.Q3;have Q:=h.Qk;have B:=D.some_ x E;have w:x.2<4294967296:=nU Q ((d x.2).1 ⟨x,E,B,Γ _⟩).1
 -- a span's borders
 have out:∀q,(q+1=x.1∨q=x.2+1)→¬ aW L q:=fun q U ⟨y,V,y1,y2⟩=>by
  have Z:=D.some_ y V;obtain⟨i,hi⟩:=List.getElem?_of_mem E;obtain⟨j,R⟩:=List.getElem?_of_mem V;obtain⟨u,K⟩:=ο.1 hi;obtain⟨v,N⟩:=ο.1 R
  rcases Nat.lt_trichotomy i j with z|z|z
  ·have:=List.pairwise_iff_getElem.1 D.apart i j u v z
   rw[K,N]at this;omega
  ·subst z
   obtain rfl:x=y:=ι (hi.symm.trans R);omega
  ·have:=List.pairwise_iff_getElem.1 D.apart j i v u z
   rw[K,N]at this;omega
 have C:∀q,x.1≤q→q≤x.2→ay P q:=fun q H J=>(d q).1 ⟨x,E,H,J⟩
 have m1:x.1%4096=0:=by
  rcases ϑ (x.1%4096)with z|z
  ·exact z
  ·exact absurd ((d (x.1-1)).2 ((xx O Q χ).1 (C x.1 (Γ _) B))) (out _ (.inl χ))
 have X:wD x.1 x.2 (ay P) (cO (P.Q3.take 0)):=⟨⟨x.1,Γ _,χ,χ,m1,fun q H J=>⟨fun _=>H,fun _=>C q H J⟩⟩,fun q U I=>out q (.inl U) ((d q).2 I),fun I=>out _ (.inr rfl) ((d _).2 I)⟩;have key:=oJ O l w P.Q3.length 0 [] (ay P) χ X;rw[List.drop_zero]at key;unfold dQ at g
 revert key g
 cases e:fH (ay P) [] P.Q3 with
 | inl i =>
  intro g key
  cases g
  rw[if_pos χ];replace key:x.2+1<x.1+cO P.Q3:=key;omega
 | inr o =>
  obtain⟨W,S'⟩:=o;intro g key;replace key:wD x.1 x.2 S' (cO P.Q3):=key;simp only at g
  cases hfit:fit S' (pg*4096) 4096 with
  | some p=>rw[hfit]at g;cases g
  | none =>
   rw[hfit]at g
   cases g
   rw[if_neg χ];have:=qT key χ hfit;omega
end
end Ck
namespace Ck
variable {l A B:List Sp}
def inB(l:List Sp)(q:Nat):Bool:=l.any fun s=>decide (s.1≤q)&&decide (q≤s.2)
theorem iZ{q:Nat}:inB l q=true↔aW l q:=by simp[inB,aW]
structure dP (l:List Sp):Prop where
 ok:dS l
 QW:∀s∈l,s.1%4096=0∧(s.2+1)%4096=0∧s.2<4294967296
theorem sP:dP []:=⟨⟨ξ,ξ⟩,ξ⟩
theorem dP.len(h:dP l):l.length≤1048576:=by
 have key:∀(i:Nat) (s:Sp),l[i]?=some s→i*4096≤s.1:=by
  intro i
  induction i with
  | zero=>intro s _;omega
  | succ i ih =>
   intro s hs;obtain⟨hi,e⟩:=ο.1 hs;have h1:=ih l[i] (θ χ);have h2:=List.pairwise_iff_getElem.1 h.ok.apart i (i+1) χ hi χ;rw[e]at h2;have h3:=h.ok.some_ l[i] (List.getElem_mem _);have h4:=(h.QW l[i] (List.getElem_mem _)).2.1;have h5:=(h.QW s (by rw[←e];exact List.getElem_mem _)).1;obtain⟨b,hb⟩:∃b,l[i].2+1=4096*b:=⟨(l[i].2+1) / 4096,χ⟩;have h6:i+1≤b:=χ
   have h7:(i+1)*4096≤4096*b:=by rw[Nat.mul_comm];exact Nat.mul_le_mul_left _ h6
   exact Δ h7 χ
 rcases ϑ l.length with z|z
 ·rw[z];exact Nat.zero_le _
 ·have hs:l[l.length-1]?=some l[l.length-1]:=θ χ
  have h1:=key _ _ hs;have h2:=h.QW _ (γ hs);have h3:=h.ok.some_ _ (γ hs);omega
structure AtK (l:List Sp) (p k:Nat):Prop where
 lo:∀(j:Nat) (s:Sp),j<k→l[j]?=some s→s.2<p
 hi:∀s,l[k]?=some s→p≤s.2
 le:k≤l.length
theorem xC{l:List Sp}{p:Nat}:∀(n g:Nat),n+g=l.length→(∀(j:Nat) (s:Sp),j<g→l[j]?=some s→s.2<p)→∃k,g≤k∧AtK l p k
 | 0,g,hn,h=>⟨g,Γ _,h,(fun s u=>by rw[List.getElem?_eq_none χ]at u;cases u),χ⟩
 | n+1,g,hn,h=>by
  have u:l[g]?=some l[g]:=θ χ
  rcases Ψ l[g].2 p with c|c
  ·obtain⟨k,x,w⟩:=xC (l:=l) (p:=p) n (g+1) χ fun j s y q=>by
    rcases Ψ j g with d|d
    ·exact h j s d q
    ·obtain rfl:j=g:=χ
     rw[u]at q;obtain rfl:=ι q;exact c
   exact⟨k,χ,w⟩
  ·exact⟨g,Γ _,h,(fun s v=>by rw[u]at v;obtain rfl:=ι v;exact c),χ⟩
def jR(l:List Sp)(p k:Nat):Bool×Nat:=
 match l[k]? with
 | none=>(false,18446744073709551615)
 | some s=>if p<s.1 then(false,s.1-1)else(true,s.2)
theorem zg{l:List Sp}(h:dP l){p k:Nat}(O:p<18446744073709551616)(hk:AtK l p k):p≤(jR l p k).2∧(jR l p k).2<18446744073709551616∧((jR l p k).2+1)%4096=0∧((jR l p k).1=true→(jR l p k).2<4294967296)∧∀q,p≤q→q≤(jR l p k).2→inB l q=(jR l p k).1:=by
 have v:∀(j:Nat) (s:Sp) (i:Nat) (t:Sp),i<j→l[i]?=some t→l[j]?=some s→t.2+1<s.1:=fun j s i t w C B=>by
  obtain⟨hi,E⟩:=ο.1 C;obtain⟨u,H⟩:=ο.1 B;have:=List.pairwise_iff_getElem.1 h.ok.apart i j hi u w
  rwa[E,H]at this
 unfold jR
 cases e:l[k]? with
 | none =>
  refine⟨by show p≤18446744073709551615;omega,(show 18446744073709551615<18446744073709551616 by decide),(show(18446744073709551615+1)%4096=0 by decide),(fun h=>by cases h),fun q I _=>?_⟩;rw[Bool.eq_false_iff];intro y;obtain⟨s,B,_,K⟩:=iZ.1 y;obtain⟨j,u⟩:=List.getElem?_of_mem B;have:j<k:=by
   have:=(ο.1 u).1
   rcases Ψ j k with c|c
   ·exact c
   ·rw[List.getElem?_eq_none_iff]at e;omega
  have:=hk.lo j s this u;omega
 | some s =>
  have x:=γ e;have g:=h.QW s x;have I:=h.ok.some_ s x;have J:=hk.hi s e
  by_cases c:p<s.1
  ·simp only[if_pos c]
   refine⟨χ,χ,χ,(fun h=>by cases h),fun q L D=>?_⟩;rw[Bool.eq_false_iff];intro y;obtain⟨t,C,K,N⟩:=iZ.1 y;obtain⟨j,u⟩:=List.getElem?_of_mem C
   rcases Nat.lt_trichotomy j k with d|d|d
   ·have:=hk.lo j t d u;omega
   ·subst d;rw[e]at u;obtain rfl:=ι u;omega
   ·have:=v j t k s d e u;omega
  ·simp only[if_neg c]
   refine⟨J,χ,g.2.1,fun _=>g.2.2,fun q L D=>?_⟩;exact iZ.2 ⟨s,x,χ,D⟩
def push(out:List Sp)(p last:Nat):List Sp:=
 match out.getLast? with
 | some y=>if y.2+1=p then out.dropLast++[(y.1,last)]else out++[(p,last)]
 | none=>[(p,last)]
structure MkI (keep:Bool→Bool→Bool) (A B:List Sp) (p:Nat) (out:List Sp):Prop where
 set:dP out
 page:p%4096=0
 lt:∀s∈out,s.2<p
 mem:∀q,inB out q=(decide (q<p)&&keep (inB A q) (inB B q))
theorem mk0{keep:Bool→Bool→Bool}:MkI keep A B 0 []:=⟨sP,rfl,ξ,fun q=>by simp[inB]⟩
theorem oq(l:List Sp)(x:Sp)(q:Nat):inB (l++[x]) q=(inB l q||(decide (x.1≤q)&&decide (q≤x.2))):=by simp[inB]
theorem C1{keep:Bool→Bool→Bool}{A B out:List Sp}{p last:Nat}{b1 b2:Bool}(h:MkI keep A B p out)(H:p≤last)(l:(last+1)%4096=0)(C:keep b1 b2=true→last<4294967296)(I:∀q,p≤q→q≤last→inB A q=b1)(J:∀q,p≤q→q≤last→inB B q=b2):
 MkI keep A B (last+1) (if keep b1 b2 then push out p last else out):=by
 have rest:∀q,(decide (q<p)&&keep (inB A q) (inB B q)||(decide (p≤q)&&decide (q≤last)&&keep b1 b2))=(decide (q<last+1)&&keep (inB A q) (inB B q)):=fun q=>by
  by_cases c:q<p
  ·have:¬ p≤q:=χ
   have u:q<last+1:=χ
   simp[c,this,u]
  ·by_cases d:q≤last
   ·rw[I q χ d,J q χ d]
    have u:p≤q:=χ
    have v:q<last+1:=χ
    simp[c,d,u,v]
   ·have v:¬ q<last+1:=χ
    simp[c,d,v]
 cases hk:keep b1 b2 with
 | false =>
  refine⟨h.set,l,fun s g=>by have:=h.lt s g;omega,fun q=>?_⟩;rw[if_neg ξ,h.mem q,←rest q,hk];simp
 | true =>
  have x:=C hk;rw[if_pos rfl];rw[hk]at rest;unfold push
  cases e:out.getLast? with
  | none =>
   obtain rfl:out=[]:=List.getLast?_eq_none_iff.1 e;refine⟨⟨⟨by simpa using H,ξ⟩,by simpa using⟨h.page,l,x⟩⟩,l,ξ,fun q=>?_⟩;rw[←rest q,←h.mem q];simp[inB]
  | some y =>
   obtain⟨t,rfl,K⟩:=gC e;have O:=h.lt y ξ;have L:=h.set.ok.some_ y ξ;have E:=h.set.QW y ξ;have D:=List.pairwise_append.1 h.set.ok.apart;simp only[]
   by_cases c:y.2+1=p
   ·rw[if_pos c,K]
    refine⟨⟨⟨fun s g=>?_,List.pairwise_append.2 ⟨D.1,ξ,fun a j b w=>?_⟩⟩,fun s g=>?_⟩,l,fun s g=>?_,fun q=>?_⟩
    ·rcases Ω.1 g with g|g
     ·exact h.set.ok.some_ s (by simp[g])
     ·obtain rfl:s=(y.1,last):=by simpa using g
      show y.1≤last;omega
    ·obtain rfl:b=(y.1,last):=by simpa using w
     exact D.2.2 a j y ξ
    ·rcases Ω.1 g with g|g
     ·exact h.set.QW s (by simp[g])
     ·obtain rfl:s=(y.1,last):=by simpa using g
      exact⟨E.1,l,x⟩
    ·rcases Ω.1 g with g|g
     ·have:=h.lt s (by simp[g]);omega
     ·obtain rfl:s=(y.1,last):=by simpa using g
      show last<last+1;omega
    ·rw[←rest q,←h.mem q,oq,oq]
     cases inB t q<;>simp
     rw[Bool.eq_iff_iff];simp;omega
   ·rw[if_neg c]
    refine⟨⟨⟨fun s g=>?_,List.pairwise_append.2 ⟨h.set.ok.apart,ξ,fun a j b w=>?_⟩⟩,fun s g=>?_⟩,l,fun s g=>?_,fun q=>?_⟩
    ·rcases Ω.1 g with g|g
     ·exact h.set.ok.some_ s g
     ·obtain rfl:s=(p,last):=by simpa using g
      exact H
    ·obtain rfl:b=(p,last):=by simpa using w
     have N:=h.lt a j
     rcases Ω.1 j with j|j
     ·have:=D.2.2 a j y ξ
      show a.2+1<p;omega
     ·obtain rfl:a=y:=by simpa using j
      show a.2+1<p;omega
    ·rcases Ω.1 g with g|g
     ·exact h.set.QW s g
     ·obtain rfl:s=(p,last):=by simpa using g
      exact⟨h.page,l,x⟩
    ·rcases Ω.1 g with g|g
     ·have:=h.lt s g;omega
     ·obtain rfl:s=(p,last):=by simpa using g
      show last<last+1;omega
    ·rw[←rest q,←h.mem q,oq _ (p,last)]
     simp
theorem DL{keep:Bool→Bool→Bool}{out:List Sp}(g:dP A)(j:dP B)(d:keep false false=false)(h:MkI keep A B 18446744073709551616 out):∀q,aW out q↔keep (inB A q) (inB B q)=true:=fun q=>by
 rw[←iZ,h.mem q]
 by_cases c:q<18446744073709551616
 ·simp[c]
 ·have no:∀{l:List Sp},dP l→inB l q=false:=fun{l} u=>by
   rw[Bool.eq_false_iff];intro v;obtain⟨s,w,_,x⟩:=iZ.1 v;have:=u.QW s w;omega
  rw[no g,no j,d];simp
end Ck
namespace Ck
theorem rW{l m:List Nat}(hn:l.Nodup)(h:∀x∈l,x∈m):l.length≤m.length:=by
 induction l generalizing m with
 | nil=>simp
 | cons a l ih =>
  obtain⟨h1,h2⟩:=List.nodup_cons.1 hn;have ha:=h a List.mem_cons_self;have:=ih h2 (m:=m.erase a) (fun x hx=>(List.mem_erase_of_ne (by rintro rfl;exact h1 hx)).2 (h x (List.mem_cons_of_mem _ hx)));rw[List.length_erase_of_mem ha]at this;have:=List.length_pos_of_mem ha;simp only[List.length_cons];omega
theorem pG(l:List Nat):l.eraseDups.Nodup:=by
 induction h:l.length using Nat.strongRecOn generalizing l with
 | ind n ih =>
  cases l with
  | nil=>simp
  | cons a t =>
   rw[List.eraseDups_cons];refine List.nodup_cons.2 ⟨fun hm=>?_,ih _ ?_ _ rfl⟩
   ·have:=(List.mem_filter.1 (List.mem_eraseDups.1 hm)).2
    simp at this
   ·have:=List.length_filter_le (fun b =>!b==a) t
    simp only[List.length_cons]at h;omega
namespace Turned
variable {P Q:aF}
end Turned
namespace Turned
variable {P Q:aF}
end Turned
def tak(P:aF)(l:Lay)(k:Nat):PS:=fun q=>∃j a s,j<k∧(iB P l)[j]?=some (a,s)∧a≤q∧q<a+s
theorem zJ{P:aF}{l:Lay}(q:Nat):¬ tak P l 0 q:=fun⟨_,_,_,h,_⟩=>χ
theorem zK{P:aF}{l:Lay}{k a s:Nat}(h:(iB P l)[k]?=some (a,s))(q:Nat):tak P l (k+1) q↔tak P l k q∨(a≤q∧q<a+s):=by
 constructor
 ·rintro⟨j,b,t,u,d,g⟩
  rcases Ψ j k with c|c
  ·exact .inl ⟨j,b,t,c,d,g⟩
  ·obtain rfl:j=k:=χ
   rw[h]at d
   cases d
   exact .inr g
 ·rintro(⟨j,b,t,u,d⟩|g)
  ·exact⟨j,b,t,χ,d⟩
  ·exact⟨k,a,s,χ,h,g⟩
theorem tG{P:aF}{l:Lay}(g:l.Q3.length=P.Q3.length){k p:Nat}{x:Region}(d:P.Q3[k]?=some x)(h:l.Q3[k]?=some p):(iB P l)[k]?=some (p,x.size):=by
 have hk:=(ο.1 d).1;unfold iB;have j:(l.Q3.zip (P.Q3.map Region.size)).length=P.Q3.length:=by simp[g]
 rw[List.getElem?_append_left (by rw[j];exact hk),List.getElem?_zip_eq_some];exact⟨h,by rw[List.getElem?_map,d];rfl⟩
theorem oo{P:aF}{l:Lay}(g:l.Q3.length=P.Q3.length):(iB P l)[P.Q3.length]?=some (l.image,l.pages*4096):=by
 unfold iB;have d:(l.Q3.zip (P.Q3.map Region.size)).length=P.Q3.length:=by simp[g]
 rw[List.getElem?_append_right (by rw[d];exact Γ _),d,Nat.sub_self];rfl
theorem lY.fresh{P:aF}{l:Lay}(h:lY P l){k a s:Nat}(hk:(iB P l)[k]?=some (a,s))(q:Nat)(d:a≤q)(g:q<a+s):co P q∧¬ tak P l k q:=by
 refine⟨(h.one k a s hk).2.2.2 q d g,fun⟨j,b,t,v,u,w,x⟩=>?_⟩;have:=h.two k j a s b t v hk u;unfold Off at this;omega
def key(x:Region):Nat×Bool×Nat×Bool:=(x.size,x.fixed,x.Q7,x.big)
def bare(x:Region):Region:={ x with pos:=0,fill:=0 }
def smA(sz:Nat):Region:=⟨0,⟨#[97]⟩,sz,false,0,false,false,0,false,ByteArray.empty⟩
def smB:Region:=⟨0,⟨#[98]⟩,12288,true,65536,false,false,0,false,ByteArray.empty⟩
def smP(sz:Nat)(st:List iq):aF:=⟨0,ByteArray.empty,[⟨0,65536,40960⟩],[],[smA sz,smB],[],[],[],[],[⟨0,⟨#[112]⟩,1,[]⟩],[],st,[],[]⟩
def smQ:List iq:=[⟨0,⟨#[112]⟩⟩]
