import Derived.Test.YtpblcjipmoblnaaGreatDoorW
import Derived.Below
set_option maxRecDepth 100000
set_option linter.all false
set_option maxHeartbeats 4000000
namespace Go.Proofs.YtpblcjipmoblnaaGreatDoor
open Go Go.RowKit
structure Run where
 pos:Int
 QK:ByteArray
 QT:Nat
 per:Nat
structure bB where
 QK:ByteArray
 QI:Int
 to:Int
namespace Ln
def run(l:List bB)(s:ByteArray)(t:Int):List bB:=
 match l.getLast? with
 | none=>[⟨s,0,t⟩]
 | some x=>if x.QK=s then l.dropLast++[⟨x.QK,x.QI,x.to+t⟩]else l++[⟨s,x.to,x.to+t⟩]
def Ab:Int→Option ByteArray→List bB→Int
 | e,_,[]=>e
 | e,p,s::l=>if s.QI≠e∨s.to≤s.QI∨p=some s.QK then 0 else Ab s.to (some s.QK) l
def part(s:ByteArray)(x:bB):Int:=if x.QK=s∧0≤x.QI∧x.QI<x.to∧x.to≤65536 then x.to-x.QI else 0
def CQ(s:ByteArray):Int→List bB→Int
 | n,[]=>n
 | n,x::l=>CQ s (n+part s x) l
theorem part_le(s:ByteArray)(x:bB):0≤part s x∧part s x≤65536:=by unfold part;split<;>omega
def jG(l:List bB):Int:=match l.getLast? with|none=>0|some x=>x.to
def right(M:Nat)(r:Run)(nd:Bool):Int:=
 if r.QT=0∨M<r.QT then 90
 else if nd=true∧r.QK.toList.isEmpty=true then 80
 else if nd=true∧(r.per<r.QT∨M<r.per∨((M:Int)%(r.per:Int)!=0)=true)then 91
 else 0
def eZ(M:Nat)(r:Run)(nd:Bool):Nat:=if nd then r.QT*(M / r.per)else r.QT
theorem iB{M:Nat}{r:Run}{j:Bool}(h:right M r j=0):1≤r.QT∧r.QT≤M∧(j=true→r.QK.toList.isEmpty=false∧r.QT≤r.per∧1≤r.per∧r.per≤M∧M%r.per=0):=by
 unfold right at h;split at h
 ·simp at h
 split at h
 ·simp at h
 split at h
 ·simp at h
 rename_i w g d
 refine⟨χ,χ,fun v=>?_⟩;subst v;simp only[true_and]at g d;have l:r.QT≤r.per:=by
  rcases Nat.lt_or_ge r.per r.QT with h|h
  ·exact absurd (.inl h) d
  ·exact h
 have p:r.per≤M:=by
  rcases Nat.lt_or_ge M r.per with h|h
  ·exact absurd (.inr (.inl h)) d
  ·exact h
 have q:((M:Int)%(r.per:Int)!=0)=false:=by
  rcases Bool.eq_false_or_eq_true ((M:Int)%(r.per:Int)!=0)with h|h
  ·exact absurd (.inr (.inr h)) d
  ·exact h
 refine⟨by simpa using g,l,χ,p,?_⟩;have u:(M:Int)%(r.per:Int)=0:=by simpa using q
 have x:((M%r.per:Nat):Int)=0:=by simpa using u
 omega
theorem rE{M:Nat}{r:Run}{d:Bool}(h:right M r d=0):eZ M r d≤M:=by
 obtain⟨p,g,j⟩:=iB h;unfold eZ
 cases d
 ·simpa using g
 ·obtain⟨_,l,q,u,_⟩:=j rfl
  exact Nat.le_trans (Nat.mul_le_mul_right _ l) (Nat.mul_div_le M r.per)
def jY:Int→List bB→Int
 | e,[]=>e
 | _,s::l=>jY s.to l
theorem vG{α:Type}{p:α→Bool}{l:List α}:∀{k:Nat} {y:α},(∀j x,j<k→l[j]?=some x→p x=false)→l[k]?=some y→p y=true→l.find? p=some y:=by
 induction l with
 | nil=>intro k y _ h;simp at h
 | cons x l ih =>
  intro k y h hy hp
  cases k with
  | zero=>simp at hy;subst hy;simp[hp]
  | succ k =>
   have h0:=h 0 x χ ξ;rw[List.find?_cons_of_neg (by simp[h0])];exact ih (k:=k) (fun j z hj hz=>h (j+1) z χ (by simpa using hz)) (by simpa using hy) hp
end Ln
structure BW where
 QK:Int
 QV:Int
namespace Ln
def take(M o e who left s t:Int):Bool×Int×Int×Int:=
 let e':=e+min t (M-e)
 let s':=max s (-1)
 if e'≤o then(decide (e'<M),e',who,left)
 else if left=0 then(decide (e'<M),e',s',e'-max e o)
 else if s'=who then(decide (e'<M),e',who,left+(e'-e))
 else(false,e',who,left)
def CS(M o:Int):Int→Int→Int→List BW→Int×Int
 | e,who,left,[]=>let r:=take M o e who left (-1) M;(r.2.2.1,r.2.2.2)
 | e,who,left,x::l =>
  if x.QV≤0 then CS M o e who left l
  else
   let r:=take M o e who left x.QK x.QV
   if r.1 then CS M o r.2.1 r.2.2.1 r.2.2.2 l else(r.2.2.1,r.2.2.2)
def Q7(l:List BW)(M o:Int):Int×Int:=if o<0∨M≤o then(-1,0)else CS M o 0 (-1) 0 l
def cF(M:Nat)(nd:Bool):Nat→Nat→List Run→Option (Int×Int)
 | _,_,[]=>none
 | i,sum,r::l=>if right M r nd=0 then(if M<sum+eZ M r nd then some (i,93)else cF M nd (i+1) (sum+eZ M r nd) l)else some (i,right M r nd)
def fJ(l:List bB)(rs:List Run):List bB:=rs.foldl (fun acc r=>run acc r.QK r.QT) l
def fill(M:Nat)(l:List bB):List bB:=if 0<(M:Int)-jG l then run l ByteArray.empty (M-jG l)else l
def fI(l:List bB):List bB×Int×Int:=if 4096<l.length then([], -1,4)else(l,0,0)
def ml(T:Int)(l:List bB):Prop:=∀x∈l,0≤x.to∧x.to≤T
theorem nL(T:Int):ml T []:=fun x h=>by simp at h
theorem ml.run{T:Int}{l:List bB}(h:ml T l)(p:0≤T)(s:ByteArray){t:Int}(g:0≤t):ml (T+t) (run l s t):=by
 unfold Ln.run;split
 ·intro x hx
  simp at hx;subst hx;exact⟨g,η⟩
 ·rename_i y j
  have d:=List.mem_of_getLast? j;have q:=h y d;split
  ·intro x hx
   rcases List.mem_append.1 hx with hx|hx
   ·have:=h x ((List.dropLast_sublist l).subset hx)
    exact⟨this.1,χ⟩
   ·simp at hx;subst hx
    exact⟨η,η⟩
  ·intro x hx
   rcases List.mem_append.1 hx with hx|hx
   ·have:=h x hx
    exact⟨this.1,χ⟩
   ·simp at hx;subst hx
    exact⟨η,η⟩
theorem kX(l:List bB)(s:ByteArray)(t:Int):(run l s t).length≤l.length+1:=by
 unfold Ln.run;split
 ·simp
 ·split
  all_goals(simp only[List.length_append,List.length_dropLast,List.length_cons,List.length_nil];omega)
theorem ml.end_{T:Int}{l:List bB}(h:ml T l)(d:0≤T):0≤jG l∧jG l≤T:=by
 unfold jG;split
 ·exact⟨χ,d⟩
 ·rename_i y g
  exact h y (List.mem_of_getLast? g)
def gK(l:List Run):Nat:=l.foldr (fun r n=>r.QT+n) 0
theorem iq{M:Nat}{nd:Bool}{l:List Run}:∀{i s:Nat},cF M nd i s l=none→(∀r∈l,right M r nd=0)∧(nd=false→s≤M→s+gK l≤M):=by
 induction l with
 | nil=>intro i s _;exact⟨fun r h=>by simp at h,fun _ h=>by simpa[gK]using h⟩
 | cons r l ih =>
  intro i s h;simp only[cF]at h;split at h
  ·rename_i hr
   split at h
   ·simp at h
   ·rename_i hs
    obtain⟨h1,h2⟩:=ih h;refine⟨fun x hx=>?_,fun hn hm=>?_⟩
    ·rcases List.mem_cons.1 hx with rfl|hx
     ·exact hr
     ·exact h1 x hx
    ·have:=h2 hn χ
     subst hn;simp only[gK,List.foldr_cons,eZ,Bool.false_eq_true,if_false]at this⊢;omega
  ·simp at h
theorem tB{l:List Run}(h:∀r∈l,1≤r.QT):l.length≤gK l:=by
 induction l with
 | nil=>simp
 | cons r l ih =>
  have h1:=ih (fun x hx=>h x (List.mem_cons_of_mem _ hx));have h2:=h r ξ;simp only[gK,List.foldr_cons,List.length_cons]at h1⊢;omega
end Ln
structure Job where
 need:Int
 due:Int
 left:Int
namespace Ln
variable {l:List Job} {i j n:Nat}
def jlt(a b:Job):Prop:=a.due<b.due∨a.due=b.due∧a.need<b.need
instance (a b:Job):Decidable (jlt a b):=inferInstanceAs (Decidable (_∨_∧_))
theorem fE(a:Job):¬ jlt a a:=by unfold jlt;omega
theorem iG{a b c:Job}(h:¬ jlt b a)(k:¬ jlt c b):¬ jlt c a:=by unfold jlt at *; omega
theorem jz{a b:Job}(h:jlt a b):¬ jlt b a:=by unfold jlt at *; omega
def cQ(l:List Job)(i j:Nat)(a b:Job):List Job:=(l.set i b).set j a
theorem dV{a b:Job}:(cQ l i j a b).length=l.length:=by simp[cQ]
theorem eL{a b:Job}(h:l[i]?=some a)(p:l[j]?=some b):(cQ l i j a b).Perm l:=by
 obtain⟨d,rfl⟩:=List.getElem?_eq_some_iff.1 h;obtain⟨g,rfl⟩:=List.getElem?_eq_some_iff.1 p;exact List.set_set_perm d g
theorem dW{a b:Job}(h:l[i]?=some a)(p:l[j]?=some b)(k:Nat):(cQ l i j a b)[k]?=if k=j then some a else if k=i then some b else l[k]?:=by
 have d:=(List.getElem?_eq_some_iff.1 h).1;have g:=(List.getElem?_eq_some_iff.1 p).1;unfold cQ
 by_cases e1:k=j
 ·subst e1;rw[List.getElem?_set_self (by simpa using g),if_pos rfl]
 ·rw[List.getElem?_set_ne χ,if_neg e1]
  by_cases e2:k=i
  ·subst e2;rw[List.getElem?_set_self d,if_pos rfl]
  ·rw[List.getElem?_set_ne χ,if_neg e2]
def jA(l:List Job)(n j:Nat):Prop:=∀k x y,0<k→k<n→k≠j→l[k]?=some x→l[(k-1) / 2]?=some y→¬ jlt x y
def uV(l:List Job)(n j:Nat):Prop:=∀k x y,0<k→k<n→(k-1) / 2=j→0<j→l[k]?=some x→l[(j-1) / 2]?=some y→¬ jlt x y
def bQ(l:List Job)(n:Nat):Prop:=∀k x y,0<k→k<n→l[k]?=some x→l[(k-1) / 2]?=some y→¬ jlt x y
theorem bQ.root{l:List Job}{n:Nat}(h:bQ l n)(hn:n≤l.length):∀k x r,k<n→l[k]?=some x→l[0]?=some r→¬ jlt x r:=by
 intro k
 induction k using Nat.strongRecOn with
 | _ k ih =>
  intro x r hk hx hr
  rcases Nat.eq_zero_or_pos k with h0|h0
  ·subst h0;rw[hx]at hr;injection hr with hr;subst hr;exact fE _
  ·obtain⟨y,hy⟩:∃y,l[(k-1) / 2]?=some y:=⟨_,List.getElem?_eq_getElem χ⟩
   exact iG (ih ((k-1) / 2) χ y r χ hy hr) (h k x y h0 hk hx hy)
theorem zz{a b:Job}(I:0<j)(J:j<n)(K:n≤l.length)(v:jA l n j)(E:uV l n j)(p:l[(j-1) / 2]?=some a)(H:l[j]?=some b)(C:jlt b a):
 jA (cQ l ((j-1) / 2) j a b) n ((j-1) / 2)∧uV (cQ l ((j-1) / 2) j a b) n ((j-1) / 2):=by
 have q:=dW p H;constructor
 ·intro k x y g h A hx d
  rw[q]at hx d
  by_cases e1:k=j
  ·subst e1
   rw[if_pos rfl]at hx;rw[if_neg χ,if_pos rfl]at d
   injection hx with hx;injection d with d
   subst hx d;exact jz C
  ·rw[if_neg e1,if_neg A]at hx
   by_cases e2:(k-1) / 2=j
   ·rw[if_pos e2]at d
    injection d with d
    subst d;exact E k x a g h e2 I hx p
   ·rw[if_neg e2]at d
    by_cases e3:(k-1) / 2=(j-1) / 2
    ·rw[if_pos e3]at d
     injection d with d
     subst d;have:=v k x a g h e1 hx (by rw[e3];exact p);unfold jlt at *;omega
    ·rw[if_neg e3]at d
     exact v k x y g h e1 hx d
 ·intro k x y g h B w hx d
  rw[q]at hx d;have u:∃z,l[((j-1) / 2-1) / 2]?=some z:=⟨_,List.getElem?_eq_getElem χ⟩;obtain⟨z,D⟩:=u;rw[if_neg χ,if_neg χ,D]at d
  injection d with d
  subst d;have r:=v ((j-1) / 2) a z w χ χ p D
  by_cases e1:k=j
  ·rw[if_pos e1]at hx
   injection hx with hx
   subst hx;exact r
  ·rw[if_neg e1,if_neg χ]at hx
   have:=v k x a g h e1 hx (by rw[B];exact p);exact iG r this
theorem uc(v:jA l n j)(h:j=0∨∃a b,l[(j-1) / 2]?=some a∧l[j]?=some b∧¬ jlt b a):bQ l n:=by
 intro k x y q r hx u
 by_cases e:k=j
 ·rcases h with h|⟨a,b,d,g,p⟩
  ·omega
  ·subst e
   rw[hx]at g;rw[u]at d
   injection g with g;injection d with d
   subst g d;exact p
 ·exact v k x y q r e hx u
def eI(l:List Job)(n i:Nat):Prop:=
 (∀k x y,0<k→k<n→(k-1) / 2≠i→l[k]?=some x→l[(k-1) / 2]?=some y→¬ jlt x y)∧uV l n i
theorem mB{a b:Job}(D:(j-1) / 2=i)(w:0<j)(A:j<n)(I:n≤l.length)(h:eI l n i)(H:l[i]?=some a)(v:l[j]?=some b)
 (u:∀k x,0<k→k<n→(k-1) / 2=i→l[k]?=some x→¬ jlt x b)(B:jlt b a):eI (cQ l i j a b) n j:=by
 obtain⟨C,E⟩:=h;have r:=dW H v;constructor
 ·intro k x y g p q hx d
  rw[r]at hx d;rw[if_neg q]at d
  by_cases e1:k=j
  ·rw[if_pos e1]at hx
   injection hx with hx;subst hx
   rw[if_pos χ]at d
   injection d with d;subst d
   exact jz B
  ·rw[if_neg e1]at hx
   by_cases e2:k=i
   ·rw[if_pos e2]at hx
    injection hx with hx;subst hx
    rw[if_neg χ]at d;subst e2;exact E j b y w A D g v d
   ·rw[if_neg e2]at hx
    by_cases e3:(k-1) / 2=i
    ·rw[if_pos e3]at d
     injection d with d;subst d
     exact u k x g p e3 hx
    ·rw[if_neg e3]at d
     exact C k x y g p e3 hx d
 ·intro k x y g p q _ hx d
  rw[r]at hx d;rw[if_neg χ,if_neg χ]at hx;rw[if_neg χ,if_pos D]at d
  injection d with d;subst d
  exact C k x b g p χ hx (by rw[q];exact v)
theorem mC{a:Job}(h:eI l n i)(p:l[i]?=some a)(q:∀k x,0<k→k<n→(k-1) / 2=i→l[k]?=some x→¬ jlt x a):bQ l n:=by
 intro k x y d g hx j
 by_cases e:(k-1) / 2=i
 ·rw[e,p]at j
  injection j with j;subst j
  exact q k x d g e hx
 ·exact h.1 k x y d g e hx j
end Ln
end Go.Proofs.YtpblcjipmoblnaaGreatDoor
namespace Go.Proofs.YtpblcjipmoblnaaGreatDoor
open Go Go.RowKit
namespace Ln
variable {ts:List ByteArray}
theorem qY(s:ByteArray)(t:Int):run [] s t=[⟨s,0,t⟩]:=rfl
theorem iA(l:List bB)(x:bB)(s:ByteArray)(t:Int):run (l++[x]) s t=if x.QK=s then l++[⟨x.QK,x.QI,x.to+t⟩]else l++[x]++[⟨s,x.to,x.to+t⟩]:=by
 unfold run;rw[List.getLast?_concat];simp only[List.dropLast_concat]
theorem qW(l:List bB):l=[]∨∃m x,l=m++[x]:=by
 rcases List.eq_nil_or_concat l with h|⟨m,x,h⟩
 ·exact .inl h
 ·exact .inr ⟨m,x,by rw[h,List.concat_eq_append]⟩
theorem AC(l:List bB)(s:ByteArray)(a b:Int):run (run l s a) s b=run l s (a+b):=by
 rcases qW l with rfl|⟨m,x,rfl⟩
 ·rw[qY,show[(⟨s,0,a⟩:bB)]=[]++[⟨s,0,a⟩] from rfl,iA,if_pos rfl,qY]
  simp
 ·rw[iA,iA]
  by_cases h:x.QK=s
  ·rw[if_pos h,if_pos h,iA,if_pos h];simp[Int.add_assoc]
  ·rw[if_neg h,if_neg h,iA,if_pos rfl];simp[Int.add_assoc]
def cX(l:List bB)(ts:List ByteArray):List bB:=ts.foldl (fun l s=>run l s 1) l
theorem eN(l:List bB)(a b:List ByteArray):cX l (a++b)=cX (cX l a) b:=by simp[cX]
theorem vq(l:List bB)(s:ByteArray)(n:Nat):run l s ((n+1:Nat):Int)=cX l (List.replicate (n+1) s):=by
 induction n with
 | zero=>rfl
 | succ n ih =>
  rw[List.replicate_succ',eN,←ih];show _=run _ s 1;rw[AC];congr 1
theorem nc(l:List bB)(s:ByteArray){n:Nat}(h:0<n):run l s (n:Int)=cX l (List.replicate n s):=by
 obtain⟨k,rfl⟩:∃k,n=k+1:=⟨n-1,χ⟩;exact vq l s k
def m8(xs:List Run):List ByteArray:=xs.flatMap fun r=>List.replicate r.QT r.QK
theorem pC{xs:List Run}(h:∀r∈xs,1≤r.QT):∀(l:List bB),fJ l xs=cX l (m8 xs):=by
 induction xs with
 | nil=>intro l;rfl
 | cons r xs ih =>
  intro l;have h1:=h r ξ;show fJ (run l r.QK r.QT) xs=cX l (List.replicate r.QT r.QK++m8 xs);rw[ih (fun x hx=>h x (List.mem_cons_of_mem _ hx)),eN,nc _ _ χ]
theorem pP(xs:List Run):(m8 xs).length=gK xs:=by
 induction xs with
 | nil=>rfl
 | cons r xs ih=>simp only[m8,List.flatMap_cons,List.length_append,List.length_replicate,gK,List.foldr_cons]at ih⊢; omega
def mL:Int→Option ByteArray→List bB→Prop
 | _,_,[]=>True
 | e,p,s::l=>s.QI=e∧s.QI<s.to∧p≠some s.QK∧mL s.to (some s.QK) l
def jZ:Option ByteArray→List bB→Option ByteArray
 | p,[]=>p
 | _,s::l=>jZ (some s.QK) l
theorem pK(l:List bB)(x:bB):∀p,jZ p (l++[x])=some x.QK:=by
 induction l with
 | nil=>intro p;rfl
 | cons s l ih=>intro p;exact ih _
theorem fU(l:List bB)(x:bB):∀e,jY e (l++[x])=x.to:=by
 induction l with
 | nil=>intro e;rfl
 | cons s l ih=>intro e;exact ih _
theorem jh{l:List bB}{x:bB}:∀{e p},mL e p (l++[x])↔mL e p l∧x.QI=jY e l∧x.QI<x.to∧jZ p l≠some x.QK:=by
 induction l with
 | nil=>intro e p;simp[mL,jY,jZ]
 | cons s l ih =>
  intro e p;simp only[List.cons_append,mL,jY,jZ,ih];constructor
  ·rintro⟨h1,h2,h3,h4,h5⟩;exact⟨⟨h1,h2,h3,h4⟩,h5⟩
  ·rintro⟨⟨h1,h2,h3,h4⟩,h5⟩;exact⟨h1,h2,h3,h4,h5⟩
theorem oP(l:List bB):jG l=jY 0 l:=by
 rcases qW l with rfl|⟨m,x,rfl⟩
 ·rfl
 ·rw[fU];unfold jG;rw[List.getLast?_concat]
structure pX (l:List bB) (ts:List ByteArray):Prop where
 chain:mL 0 none l
 last:jY 0 l=ts.length
 tick:∀(o:Nat) (s:ByteArray),ts[o]?=some s→∃x∈l,x.QI≤(o:Int)∧(o:Int)<x.to∧x.QK=s
theorem sI:pX [] []:=⟨trivial,rfl,fun o s h=>by simp at h⟩
theorem pX.run{l:List bB}(h:pX l ts)(s:ByteArray):pX (run l s 1) (ts++[s]):=by
 obtain⟨q,r,u⟩:=h
 rcases qW l with rfl|⟨m,x,rfl⟩
 ·have w:ts=[]:=by simpa[jY,eq_comm]using r
  subst w;refine⟨⟨rfl,ξ,ξ,trivial⟩,rfl,fun o y d=>?_⟩;have A:o=0:=by
   rcases Nat.eq_zero_or_pos o with h|h
   ·exact h
   ·rw[List.getElem?_eq_none η]at d;simp at d
  subst A;simp at d;subst d;exact⟨⟨s,0,1⟩,by simp[qY],ξ,ξ,rfl⟩
 ·rw[fU]at r
  obtain⟨c1,c2,B,v⟩:=jh.1 q;rw[iA];have g:∀o y,(ts++[s])[o]?=some y→(ts[o]?=some y)∨(o=ts.length∧y=s):=fun o y d=>by
   rcases Nat.lt_or_ge o ts.length with h|h
   ·rw[List.getElem?_append_left h]at d;exact .inl d
   ·rw[List.getElem?_append_right h]at d
    rcases Nat.eq_zero_or_pos (o-ts.length)with p|p
    ·rw[p]at d;simp at d;exact .inr ⟨χ,d.symm⟩
    ·rw[List.getElem?_eq_none η]at d;simp at d
  split
  ·rename_i hx
   refine⟨jh.2 ⟨c1,c2,η,v⟩,by rw[fU];simp;omega,fun o y d=>?_⟩
   rcases g o y d with h|⟨rfl,rfl⟩
   ·obtain⟨z,j,z1,z2,z3⟩:=u o y h
    rcases List.mem_append.1 j with j|j
    ·exact⟨z,List.mem_append_left _ j,z1,z2,z3⟩
    ·simp at j;subst j
     exact⟨⟨z.QK,z.QI,z.to+1⟩,ξ,z1,η,z3⟩
   ·exact⟨⟨x.QK,x.QI,x.to+1⟩,ξ,η,η,hx⟩
  ·rename_i hx
   refine⟨jh.2 ⟨q,by rw[fU],η,by rw[pK];simpa using hx⟩,by rw[fU];simp;omega,fun o y d=>?_⟩
   rcases g o y d with h|⟨rfl,rfl⟩
   ·obtain⟨z,j,z1,z2,z3⟩:=u o y h
    exact⟨z,List.mem_append_left _ j,z1,z2,z3⟩
   ·exact⟨⟨y,x.to,x.to+1⟩,ξ,η,η,rfl⟩
theorem pX.rows{ts:List ByteArray}:∀{l:List bB} {us:List ByteArray},pX l us→pX (cX l ts) (us++ts):=by
 induction ts with
 | nil=>intro l us h;simpa[cX]using h
 | cons s ts ih =>
  intro l us h;have:=ih (h.run s)
  rwa[List.append_assoc]at this
theorem uB{M:Nat}{l:List bB}(h:pX l ts):fill M l=cX l (List.replicate (M-ts.length) ByteArray.empty):=by
 unfold fill;rw[oP,h.last];split
 ·rename_i d
  rw[show(M:Int)-(ts.length:Int)=((M-ts.length:Nat):Int) by omega,nc _ _ χ]
 ·rw[show M-ts.length=0 by omega];rfl
def nf(M:Nat)(xs:List Run):List ByteArray:=m8 xs++List.replicate (M-gK xs) ByteArray.empty
theorem xo{M:Nat}{xs:List Run}(h:∀r∈xs,1≤r.QT):fill M (fJ [] xs)=cX [] (nf M xs):=by
 rw[pC h];have d:=pX.rows (ts:=m8 xs) sI;rw[List.nil_append]at d;rw[uB d,nf,eN,pP]
end Ln
end Go.Proofs.YtpblcjipmoblnaaGreatDoor
namespace Go.Proofs.YtpblcjipmoblnaaGreatDoor
namespace Edf
def sumTo:Nat→(Nat→Nat)→Nat
 | 0,_=>0
 | n+1,f=>sumTo n f+f n
theorem jN{n:Nat}{f g:Nat→Nat}(h:∀i,i<n→f i≤g i):sumTo n f≤sumTo n g:=by
 induction n with
 | zero=>exact Nat.le_refl _
 | succ n ih=>simp only[sumTo];exact Nat.add_le_add (ih fun i hi=>h i χ) (h n χ)
theorem rL{n:Nat}{f g:Nat→Nat}(h:∀i,i<n→f i≤g i){k:Nat}(hk:k<n)(hlt:f k<g k):sumTo n f<sumTo n g:=by
 induction n with
 | zero=>omega
 | succ n ih =>
  simp only[sumTo]
  rcases Nat.lt_or_ge k n with h1|h1
  ·have:=ih (fun i hi=>h i χ) h1
   have:=h n χ;omega
  ·obtain rfl:k=n:=χ
   have:=jN (n:=k) (fun i hi=>h i χ);omega
theorem yk{n:Nat}{f:Nat→Nat}{k:Nat}(hk:k<n):f k≤sumTo n f:=by
 induction n with
 | zero=>omega
 | succ n ih =>
  simp only[sumTo]
  rcases Nat.lt_or_ge k n with h1|h1
  ·have:=ih h1;omega
  ·obtain rfl:k=n:=χ
   omega
theorem pi{n:Nat}{f:Nat→Nat}{c:Nat}:sumTo n (fun i=>f i*c)=sumTo n f*c:=by
 induction n with
 | zero=>simp[sumTo]
 | succ n ih=>simp only[sumTo,ih,Nat.add_mul]
section
variable (n:Nat) (p b:Nat→Nat)
def due(t i:Nat):Nat:=(t / p i+1)*p i
def rel(t:Nat)(L:Nat→Nat)(i:Nat):Nat:=if t%p i=0 then b i else L i
def pick(t:Nat)(L:Nat→Nat):Nat→Option Nat
 | 0=>none
 | m+1=>match pick t L m with
  | none=>if 0<L m then some m else none
  | some k=>if 0<L m∧due p t m<due p t k then some m else some k
def dec(L:Nat→Nat)(o:Option Nat)(i:Nat):Nat:=if o=some i then L i-1 else L i
def st:Nat→Nat→Nat
 | 0=>fun _=>0
 | t+1=>dec (rel p b t (st t)) (pick p t (rel p b t (st t)) n)
def who(t:Nat):Option Nat:=pick p t (rel p b t (st n p b t)) n
end
variable {n:Nat} {p b:Nat→Nat}
theorem ld{t:Nat}{L:Nat→Nat}:∀{m:Nat},pick p t L m=none→∀i,i<m→L i=0:=by
 intro m
 induction m with
 | zero=>intro _ i hi;omega
 | succ m ih =>
  intro h i hi;simp only[pick]at h;split at h
  ·rename_i h0
   split at h
   ·simp at h
   ·rcases Nat.lt_or_ge i m with h1|h1
    ·exact ih h0 i h1
    ·obtain rfl:i=m:=χ
     omega
  ·split at h<;>simp at h
theorem iD{t:Nat}{L:Nat→Nat}:∀{m k:Nat},pick p t L m=some k→k<m∧0<L k∧∀i,i<m→0<L i→due p t k<due p t i∨due p t k=due p t i∧k≤i:=by
 intro m
 induction m with
 | zero=>intro k h;simp[pick]at h
 | succ m ih =>
  intro k h;simp only[pick]at h;split at h
  ·rename_i h0
   split at h
   ·injection h with h
    subst h;refine⟨χ,by assumption,fun i hi hl=>?_⟩
    rcases Nat.lt_or_ge i m with h1|h1
    ·have:=ld h0 i h1;omega
    ·obtain rfl:i=m:=χ
     exact .inr ⟨rfl,Nat.le_refl _⟩
   ·simp at h
  ·rename_i q h0
   obtain⟨h1,h2,h3⟩:=ih h0;split at h
   ·rename_i hc
    injection h with h
    subst h;refine⟨χ,hc.1,fun i hi hl=>?_⟩
    rcases Nat.lt_or_ge i m with h4|h4
    ·have:=h3 i h4 hl;omega
    ·obtain rfl:i=m:=χ
     exact .inr ⟨rfl,Nat.le_refl _⟩
   ·rename_i hc
    injection h with h
    subst h;refine⟨χ,h2,fun i hi hl=>?_⟩
    rcases Nat.lt_or_ge i m with h4|h4
    ·exact h3 i h4 hl
    ·obtain rfl:i=m:=χ
     have:¬ due p t i<due p t q:=fun h=>hc ⟨hl,h⟩
     omega
theorem uj{t:Nat}{L:Nat→Nat}{m k:Nat}(hk:k<m)(d:0<L k)(h:∀i,i<m→0<L i→due p t k<due p t i∨due p t k=due p t i∧k≤i):pick p t L m=some k:=by
 rcases hp:pick p t L m with _|q
 ·have:=ld hp k hk;omega
 ·obtain⟨g,j,l⟩:=iD hp
  have r:=h q g j;have u:=l k hk d;have:k=q:=χ
  rw[this]
theorem lA{t:Nat}{L:Nat→Nat}{m:Nat}(h:∀i,i<m→L i=0):pick p t L m=none:=by
 rcases hp:pick p t L m with _|q
 ·rfl
 ·obtain⟨d,g,_⟩:=iD hp
  have:=h q d;omega
def jK(p b:Nat→Nat)(t d l i:Nat):Nat:=(if t / p i+1≤d / p i then l else 0)+b i*(d / p i-(t / p i+1))
def Fits(n:Nat)(p b:Nat→Nat):Prop:=∀(c:Nat→Nat) (D:Nat),(∀i,i<n→c i*p i≤D)→sumTo n (fun i=>b i*c i)≤D
theorem fits_of{M:Nat}(q:0<M)(u:∀i,i<n→1≤p i∧M%p i=0)(v:sumTo n (fun i=>b i*(M / p i))≤M):Fits n p b:=by
 intro c D r;have g:sumTo n (fun i=>b i*c i)*M≤D*M:=by
  rw[←pi];have h:sumTo n (fun i=>b i*c i*M)≤sumTo n (fun i=>b i*(M / p i)*D):=jN fun i d=>by
   obtain⟨w,j⟩:=u i d;have l:M=M / p i*p i:=by have:=Nat.div_add_mod M (p i);rw[j,Nat.add_zero,Nat.mul_comm]at this;exact this.symm
   calc b i*c i*M=b i*c i*(M / p i*p i):=by rw[←l]
    _=b i*(M / p i)*(c i*p i):=by simp only[Nat.mul_assoc,Nat.mul_left_comm,Nat.mul_comm]
    _≤b i*(M / p i)*D:=Nat.mul_le_mul_left _ (r i d)
  refine Nat.le_trans h ?_;rw[pi,Nat.mul_comm];exact Nat.mul_le_mul_left _ v
 exact Nat.le_of_mul_le_mul_right g q
theorem vQ{t d l i:Nat}(r:1≤p i)(j:True):jK p b (t+1) d (if(t+1)%p i=0 then b i else l) i≤jK p b t d l i:=by
 unfold jK
 by_cases h:(t+1)%p i=0
 ·rw[if_pos h]
  have e:(t+1) / p i=t / p i+1:=by
   have g:=Nat.succ_div (a:=t) (b:=p i);rw[if_pos (Nat.dvd_of_mod_eq_zero h)]at g;exact g
  rw[e];split
  ·have:d / p i-(t / p i+1)=(d / p i-(t / p i+1+1))+1:=χ
   rw[this,Nat.mul_add];split<;>omega
  ·have:d / p i-(t / p i+1+1)=0:=χ
   rw[this];simp
 ·rw[if_neg h]
  have e:(t+1) / p i=t / p i:=by
   have g:=Nat.succ_div (a:=t) (b:=p i);rw[if_neg (fun q=>h (Nat.mod_eq_zero_of_dvd q))]at g;exact g
  rw[e];exact Nat.le_refl _
theorem om(C:Fits n p b)(w:∀i,i<n→1≤p i){t d:Nat}(D:t<d){L:Nat→Nat}(h:sumTo n (fun i=>jK p b t d (L i) i)≤d-t):
 sumTo n (fun i=>jK p b t d (dec L (pick p t L n) i) i)≤d-(t+1):=by
 have g:∀i,i<n→(due p t i≤d↔t / p i+1≤d / p i):=fun i j=>by
  unfold due;exact(Nat.le_div_iff_mul_le (w i j)).symm
 have q:∀i,i<n→jK p b t d (dec L (pick p t L n) i) i≤jK p b t d (L i) i:=fun i _=>by
  unfold jK dec;split
  ·split<;>omega
  ·exact Nat.le_refl _
 by_cases hk:∃k,pick p t L n=some k∧due p t k≤d
 ·obtain⟨k,hk,l⟩:=hk
  obtain⟨r,x,_⟩:=iD hk;have:=rL q r (by
   unfold jK dec;rw[if_pos hk,if_pos ((g k r).1 l),if_pos ((g k r).1 l)];omega)
  omega
 ·have E:∀i,i<n→t / p i+1≤d / p i→L i=0:=fun i j v=>by
   rcases Nat.eq_zero_or_pos (L i)with u|u
   ·exact u
   ·rcases hq:pick p t L n with _|k
    ·exact ld hq i j
    ·obtain⟨r,x,y⟩:=iD hq
     have H:=y i j u;have I:=(g i j).2 v;exact absurd ⟨k,hq,χ⟩ hk
  have A:sumTo n (fun i=>jK p b t d (dec L (pick p t L n) i) i)≤sumTo n (fun i=>b i*(d / p i-(t / p i+1))):=jN fun i j=>by
   refine Nat.le_trans (q i j) ?_;unfold jK;split
   ·rename_i v
    rw[E i j v];omega
   ·omega
  refine Nat.le_trans A (C _ _ fun i j=>?_);have B:=Nat.div_add_mod t (p i);have J:=Nat.mod_lt t (w i j);have K:=Nat.div_mul_le_self d (p i);rw[Nat.sub_mul,Nat.add_mul,Nat.one_mul];rw[Nat.mul_comm]at B;omega
theorem inv(hf:Fits n p b)(hp:∀i,i<n→1≤p i):∀(t d:Nat),t≤d→sumTo n (fun i=>jK p b t d (rel p b t (st n p b t) i) i)≤d-t:=by
 intro t
 induction t with
 | zero =>
  intro d _;refine Nat.le_trans (jN fun i hi=>?_) (hf (fun i=>d / p i) d fun i hi=>Nat.div_mul_le_self d (p i));unfold jK rel;rw[if_pos (Nat.zero_mod _),Nat.zero_div];split
  ·have:d / p i=(d / p i-(0+1))+1:=χ
   rw[this,Nat.mul_add];simp only[Nat.add_sub_cancel];omega
  ·rename_i hd
   have:d / p i=0:=Nat.eq_zero_of_not_pos fun h=>hd h
   rw[this];simp
 | succ t ih =>
  intro d hd;refine Nat.le_trans (jN fun i hi=>?_) (om hf hp (t:=t) (d:=d) χ (ih d χ));exact vQ (hp i hi) trivial
theorem ul(h:Fits n p b)(j:∀i,i<n→1≤p i){t i:Nat}(q:i<n)(r:t%p i=0):st n p b t i=0:=by
 cases t with
 | zero=>rfl
 | succ t =>
  have g:=om h j (t:=t) (d:=t+1) χ (inv h j t (t+1) χ);have l:=yk (f:=fun i=>jK p b t (t+1) (dec (rel p b t (st n p b t)) (pick p t (rel p b t (st n p b t)) n) i) i) q;have e:(t+1) / p i=t / p i+1:=by
   have g:=Nat.succ_div (a:=t) (b:=p i);rw[if_pos (Nat.dvd_of_mod_eq_zero r)]at g;exact g
  have u:jK p b t (t+1) (st n p b (t+1) i) i=st n p b (t+1) i+b i*(t / p i+1-(t / p i+1)):=by
   unfold jK;rw[e,if_pos (Nat.le_refl _)]
  have v:jK p b t (t+1) (st n p b (t+1) i) i≤0:=Nat.le_trans l (Nat.le_trans g χ);omega
end Edf
end Go.Proofs.YtpblcjipmoblnaaGreatDoor
namespace Go.Proofs.YtpblcjipmoblnaaGreatDoor
open Go Go.RowKit
namespace Edf
open Ln
variable {L D N:Nat→Nat} {k n:Nat} {l:List Job}
def set1(L:Nat→Nat)(k v:Nat)(i:Nat):Nat:=if i=k then v else L i
def cL(L D:Nat→Nat):Nat→List Job
 | 0=>[]
 | m+1=>cL L D m++(if 0<L m then[⟨m,D m,L m⟩]else[])
def nextOf(N:Nat→Nat):Nat→List Job
 | 0=>[]
 | m+1=>nextOf N m++[⟨m,N m,0⟩]
def kO(N:Nat→Nat)(k:Nat):Nat→List Job
 | 0=>[]
 | m+1=>kO N k m++(if m=k then[]else[⟨m,N m,0⟩])
theorem ip{L D:Nat→Nat}{x:Job}:∀{n:Nat},x∈cL L D n↔∃i,i<n∧0<L i∧x=⟨i,D i,L i⟩:=by
 intro n
 induction n with
 | zero=>simp[cL]
 | succ n ih =>
  simp only[cL,List.mem_append,ih];constructor
  ·rintro(⟨i,h1,h2,h3⟩|h)
   ·exact⟨i,χ,h2,h3⟩
   ·split at h
    ·simp at h;exact⟨n,χ,by assumption,h⟩
    ·simp at h
  ·rintro⟨i,h1,h2,h3⟩
   rcases Nat.lt_or_ge i n with h|h
   ·exact .inl ⟨i,h,h2,h3⟩
   ·obtain rfl:i=n:=χ
    exact .inr (by rw[if_pos h2];simp[h3])
theorem ns{N:Nat→Nat}{x:Job}:∀{n:Nat},x∈nextOf N n↔∃i,i<n∧x=⟨i,N i,0⟩:=by
 intro n
 induction n with
 | zero=>simp[nextOf]
 | succ n ih =>
  simp only[nextOf,List.mem_append,ih,List.mem_singleton];constructor
  ·rintro(⟨i,h1,h3⟩|h)
   ·exact⟨i,χ,h3⟩
   ·exact⟨n,χ,h⟩
  ·rintro⟨i,h1,h3⟩
   rcases Nat.lt_or_ge i n with h|h
   ·exact .inl ⟨i,h,h3⟩
   ·obtain rfl:i=n:=χ
    exact .inr h3
theorem df{L L' D D':Nat→Nat}:∀{n:Nat},(∀i,i<n→L i=L' i)→(∀i,i<n→0<L i→D i=D' i)→cL L D n=cL L' D' n:=by
 intro n
 induction n with
 | zero=>intro _ _;rfl
 | succ n ih =>
  intro h1 h2;simp only[cL];rw[ih (fun i hi=>h1 i χ) (fun i hi=>h2 i χ),←h1 n χ];split
  ·rename_i h;rw[h2 n χ h]
  ·rfl
theorem ic{N N':Nat→Nat}:∀{n:Nat},(∀i,i<n→N i=N' i)→nextOf N n=nextOf N' n:=by
 intro n
 induction n with
 | zero=>intro _;rfl
 | succ n ih =>
  intro h1;simp only[nextOf];rw[ih (fun i hi=>h1 i χ),h1 n χ]
theorem rn{N N':Nat→Nat}{k:Nat}:∀{n:Nat},(∀i,i<n→i≠k→N i=N' i)→kO N k n=kO N' k n:=by
 intro n
 induction n with
 | zero=>intro _;rfl
 | succ n ih =>
  intro h1;simp only[kO];rw[ih (fun i hi=>h1 i χ)];split
  ·rfl
  ·rename_i h;rw[h1 n χ h]
theorem nextOf_length(N:Nat→Nat)(n:Nat):(nextOf N n).length=n:=by
 induction n with
 | zero=>rfl
 | succ n ih=>simp[nextOf,ih]
theorem jobsOf_length(L D:Nat→Nat)(n:Nat):(cL L D n).length≤n:=by
 induction n with
 | zero=>simp[cL]
 | succ n ih=>simp only[cL,List.length_append];split<;>simp<;>omega
theorem kf{L D:Nat→Nat}{k v:Nat}(h0:L k=0)(hv:0<v):∀{n:Nat},k<n→(cL (set1 L k v) D n).Perm (⟨k,D k,v⟩::cL L D n):=by
 intro n
 induction n with
 | zero=>intro h;omega
 | succ n ih =>
  intro hk;simp only[cL]
  rcases Nat.lt_or_ge k n with h|h
  ·have e:set1 L k v n=L n:=by unfold set1;rw[if_neg χ]
   rw[e];exact(ih h).append_right _
  ·obtain rfl:k=n:=χ
   have e:cL (set1 L k v) D k=cL L D k:=df (fun i hi=>by unfold set1;rw[if_neg χ]) (fun i hi _=>rfl);have e2:set1 L k v k=v:=by unfold set1;rw[if_pos rfl]
   rw[e,e2,if_pos hv,if_neg χ,List.append_nil];exact List.perm_append_singleton _ _
theorem tr(hk:k<n)(d:0<L k):(cL L D n).Perm (⟨k,D k,L k⟩::cL (set1 L k 0) D n):=by
 have h:=kf (L:=set1 L k 0) (D:=D) (k:=k) (v:=L k) (by unfold set1;rw[if_pos rfl]) d hk
 rwa[df (L:=set1 (set1 L k 0) k (L k)) (L':=L) (fun i _=>by unfold set1;split<;>simp_all) (fun i _ _=>rfl)]at h
theorem lE{N:Nat→Nat}{k:Nat}:∀{n:Nat},k<n→(nextOf N n).Perm (⟨k,N k,0⟩::kO N k n):=by
 intro n
 induction n with
 | zero=>intro h;omega
 | succ n ih =>
  intro hk;simp only[nextOf,kO]
  rcases Nat.lt_or_ge k n with h|h
  ·rw[if_neg χ]
   exact(ih h).append_right _
  ·obtain rfl:k=n:=χ
   have e:∀m,m≤k→kO N k m=nextOf N m:=by
    intro m
    induction m with
    | zero=>intro _;rfl
    | succ m ihm =>
     intro hm;simp only[kO,nextOf];rw[ihm χ,if_neg χ]
   rw[if_pos rfl,List.append_nil,e k (Nat.le_refl _)];exact List.perm_append_singleton _ _
theorem tY{v:Nat}(hk:k<n):(nextOf (set1 N k v) n).Perm (⟨k,v,0⟩::kO N k n):=by
 have h:=lE (N:=set1 N k v) hk;rw[show set1 N k v k=v by unfold set1;rw[if_pos rfl]]at h
 rwa[rn (N:=set1 N k v) (N':=N) (fun i _ d=>by unfold set1;rw[if_neg d])]at h
theorem set_root{l:List Job}{r r':Job}(h:l[0]?=some r):∃d,l=r::d∧l.set 0 r'=r'::d:=by
 cases l with
 | nil=>simp at h
 | cons x d=>simp at h;subst h;exact⟨d,rfl,rfl⟩
theorem next_root{r:Job}(g:l.Perm (nextOf N n))(hh:bQ l l.length)(j:l[0]?=some r):
 ∃k,k<n∧r=⟨k,N k,0⟩∧∀i,i<n→N k≤N i:=by
 obtain⟨k,hk,d⟩:=ns.1 (g.mem_iff.1 (List.mem_of_getElem? j));refine⟨k,hk,d,fun i p=>?_⟩;obtain⟨q,h⟩:=List.getElem?_of_mem (g.mem_iff.2 (ns.2 ⟨i,p,rfl⟩));have:=hh.root (Nat.le_refl _) q _ r (List.getElem?_eq_some_iff.1 h).1 h j;subst d;unfold jlt at this;simp only at this;omega
theorem vU{p:Nat→Nat}{t:Nat}{r:Job}(j:l.Perm (cL L (due p t) n))(hh:bQ l l.length)(v:l[0]?=some r):
 ∃k,k<n∧0<L k∧r=⟨k,due p t k,L k⟩∧pick p t L n=some k:=by
 obtain⟨k,hk,d,g⟩:=ip.1 (j.mem_iff.1 (List.mem_of_getElem? v));refine⟨k,hk,d,g,uj hk d fun i w h=>?_⟩;obtain⟨q,u⟩:=List.getElem?_of_mem (j.mem_iff.2 (ip.2 ⟨i,w,h,rfl⟩));have:=hh.root (Nat.le_refl _) q _ r (List.getElem?_eq_some_iff.1 u).1 u v;subst g;unfold jlt at this;simp only at this;omega
theorem heap_set_same{r:Job}{c:Int}(hh:bQ l n)(p:l[0]?=some r):bQ (l.set 0 ⟨r.need,r.due,c⟩) n:=by
 intro k x y g j hx d;rw[List.getElem?_set_ne χ]at hx
 rcases Nat.eq_zero_or_pos ((k-1) / 2)with h|h
 ·rw[h,List.getElem?_set_self (List.getElem?_eq_some_iff.1 p).1]at d
  injection d with d
  have:=hh k x r g j hx (by rw[h];exact p);subst d;unfold jlt at *;exact this
 ·rw[List.getElem?_set_ne χ]at d
  exact hh k x y g j hx d
theorem heap_set_under{r':Job}(hh:bQ l n):eI (l.set 0 r') n 0:=by
 refine⟨fun k x y g j p hx d=>?_,fun k a b _ _ _ h _ _=>χ⟩;rw[List.getElem?_set_ne χ]at hx;rw[List.getElem?_set_ne χ]at d;exact hh k x y g j hx d
end Edf
end Go.Proofs.YtpblcjipmoblnaaGreatDoor
namespace Go.Proofs.YtpblcjipmoblnaaGreatDoor
open Go Go.RowKit
namespace Edf
open Ln
variable {n:Nat} {p b:Nat→Nat}
theorem qs{t i:Nat}(d:1≤p i):t<due p t i:=by
 unfold due;have g:=Nat.div_add_mod t (p i);have h:=Nat.mod_lt t d;rw[Nat.add_mul,Nat.one_mul,Nat.mul_comm];omega
theorem oU{t t' i:Nat}(j:1≤p i)(d:t≤t')(g:t'<due p t i):due p t' i=due p t i:=by
 have l:t / p i≤t' / p i:=Nat.div_le_div_right d;have q:t' / p i<t / p i+1:=(Nat.div_lt_iff_lt_mul j).2 g;have h:t' / p i=t / p i:=χ
 unfold due;rw[h]
theorem jf{t t' i:Nat}(j:1≤p i)(l:t<t')(q:t'≤due p t i)(r:t'%p i=0):t'=due p t i:=by
 rcases Nat.lt_or_ge t' (due p t i)with h|h
 ·have u:t / p i≤t' / p i:=Nat.div_le_div_right χ
  have v:t' / p i<t / p i+1:=(Nat.div_lt_iff_lt_mul j).2 h;have d:t' / p i=t / p i:=χ
  have g:=Nat.div_add_mod t' (p i);have w:=Nat.div_add_mod t (p i);rw[d]at g;omega
 ·omega
theorem CG{t i:Nat}(h:t%p i=0):due p t i=t+p i:=by
 unfold due;have d:=Nat.div_add_mod t (p i);rw[Nat.add_mul,Nat.one_mul,Nat.mul_comm];omega
def nx(p:Nat→Nat)(t i:Nat):Nat:=if t%p i=0 then t else due p t i
structure HeadInv (n:Nat) (p b:Nat→Nat) (t:Nat) (wl nl:List Job):Prop where
 wait:wl.Perm (cL (st n p b t) (due p t) n)
 next:nl.Perm (nextOf (nx p t) n)
structure RelInv (n:Nat) (p b:Nat→Nat) (t:Nat) (L N:Nat→Nat) (wl nl:List Job):Prop where
 wait:wl.Perm (cL L (due p t) n)
 next:nl.Perm (nextOf N n)
 off:∀i,i<n→t%p i≠0→L i=st n p b t i∧N i=due p t i
 on:∀i,i<n→t%p i=0→(L i=0∧N i=t)∨(L i=b i∧N i=due p t i)
structure gU (n:Nat) (p b:Nat→Nat) (t:Nat) (wl nl:List Job):Prop where
 wait:wl.Perm (cL (rel p b t (st n p b t)) (due p t) n)
 next:nl.Perm (nextOf (due p t) n)
def todo(n t:Nat)(N:Nat→Nat):Nat:=sumTo n fun i=>if N i=t then 1 else 0
theorem headInv_zero{wl nl:List Job}(hw:wl=[])(hn:nl.Perm (nextOf (fun _=>0) n)):HeadInv n p b 0 wl nl:=by
 refine⟨?_,?_⟩
 ·have e:∀m,cL (st n p b 0) (due p 0) m=[]:=fun m=>by
   induction m with
   | zero=>rfl
   | succ m ih=>simp only[cL,ih];rfl
  rw[hw,e]
 ·rw[ic (N':=fun _=>0) (fun i _=>by unfold nx;rw[if_pos (Nat.zero_mod _)])]
  exact hn
theorem HeadInv.rel(g:Fits n p b)(l:∀i,i<n→1≤p i){t:Nat}{wl nl:List Job}(h:HeadInv n p b t wl nl):RelInv n p b t (st n p b t) (nx p t) wl nl:=
 ⟨h.wait,h.next,fun i _ d=>⟨rfl,by unfold nx;rw[if_neg d]⟩,fun i j d =>.inl ⟨ul g l j d,by unfold nx;rw[if_pos d]⟩⟩
theorem RelInv.step(O:∀i,i<n→1≤p i∧1≤b i){t:Nat}{L N:Nat→Nat}{wl nl:List Job}{r:Job}(h:RelInv n p b t L N wl nl)(hh:bQ nl nl.length)(Q:nl[0]?=some r)(I:r.due=t):
 ∃k,k<n∧r.need=k∧∀q l,q.Perm (wl++[⟨k,((t+p k:Nat):Int),b k⟩])→l.Perm (nl.set 0 ⟨k,((t+p k:Nat):Int),0⟩) →
  RelInv n p b t (set1 L k (b k)) (set1 N k (t+p k)) q l∧todo n t (set1 N k (t+p k))<todo n t N:=by
 obtain⟨k,hk,g,J⟩:=next_root h.next hh Q
 have C:N k=t:=by rw[g]at I;simp only at I;omega
 have y:=(O k hk).1;have j:t%p k=0:=by
  rcases Nat.eq_zero_or_pos (t%p k)with u|u
  ·exact u
  ·have w:=(h.off k hk χ).2
   have:=qs (p:=p) (t:=t) y;omega
 have B:L k=0:=by
  rcases h.on k hk j with u|u
  ·exact u.1
  ·have:=qs (p:=p) (t:=t) y
   omega
 have x:=CG (p:=p) (i:=k) j;refine⟨k,hk,by rw[g],fun q l S K=>⟨⟨?_,?_,?_,?_⟩,?_⟩⟩
 ·have w:=kf (L:=L) (D:=due p t) (v:=b k) B (O k hk).2 hk
  rw[x]at w;exact(S.trans (List.perm_append_singleton _ _)).trans ((h.wait.cons _).trans w.symm)
 ·obtain⟨U,w,R⟩:=set_root (r':=⟨k,((t+p k:Nat):Int),0⟩) Q
  rw[R]at K;have H:(r::U).Perm (⟨k,N k,0⟩::kO N k n):=by rw[←w];exact h.next.trans (lE hk)
  rw[g]at H;exact K.trans (((List.perm_cons _).1 H).cons _ |>.trans (tY hk).symm)
 ·intro i E A
  have d:i≠k:=by rintro rfl;exact A j
  unfold set1;rw[if_neg d,if_neg d];exact h.off i E A
 ·intro i E A
  unfold set1
  by_cases d:i=k
  ·subst d;rw[if_pos rfl,if_pos rfl];exact .inr ⟨rfl,x.symm⟩
  ·rw[if_neg d,if_neg d];exact h.on i E A
 ·refine rL (fun i _=>?_) hk ?_
  ·unfold set1
   by_cases d:i=k
   ·subst d;rw[if_pos rfl,if_neg χ];omega
   ·rw[if_neg d];exact Nat.le_refl _
  ·simp only[set1,if_pos C];rw[if_pos trivial,if_neg χ];omega
theorem RelInv.after(y:∀i,i<n→1≤p i){t:Nat}{L N:Nat→Nat}{wl nl:List Job}(h:RelInv n p b t L N wl nl)(hh:bQ nl nl.length)(x:∀r:Job,nl[0]?=some r→r.due≠(t:Int)):gU n p b t wl nl:=by
 have v:∀i,i<n→N i≠t:=by
  intro i j;have E:nl.length=n:=by rw[h.next.length_eq,nextOf_length]
  obtain⟨r,w⟩:∃r,nl[0]?=some r:=⟨_,List.getElem?_eq_getElem χ⟩;obtain⟨k,hk,q,l⟩:=next_root h.next hh w
  have u:=x r w;rw[q]at u;simp only at u;have A:=l i j;have B:t≤N k:=by
   have C:=qs (p:=p) (t:=t) (y k hk)
   rcases Nat.eq_zero_or_pos (t%p k)with d|d
   ·rcases h.on k hk d with g|g<;>omega
   ·have:=(h.off k hk χ).2;omega
  omega
 refine⟨?_,?_⟩
 ·have e:=df (L:=L) (L':=rel p b t (st n p b t)) (D:=due p t) (D':=due p t) (n:=n) (fun i j=>?_) (fun i _ _=>rfl)
  ·rw[←e];exact h.wait
  ·unfold rel
   split
   ·rename_i d
    rcases h.on i j d with g|g
    ·exact absurd g.2 (v i j)
    ·exact g.1
   ·rename_i d;exact(h.off i j d).1
 ·have e:=ic (N:=N) (N':=due p t) (n:=n) (fun i j=>?_)
  ·rw[←e];exact h.next
  ·rcases Nat.eq_zero_or_pos (t%p i)with d|d
   ·rcases h.on i j d with g|g
    ·exact absurd g.2 (v i j)
    ·exact g.2
   ·exact(h.off i j χ).2
theorem Cp(hp:∀i,i<n→1≤p i){t k c:Nat}(hk:pick p t (rel p b t (st n p b t)) n=some k)(hc:c≤rel p b t (st n p b t) k)(hu:∀i,i<n→t+c≤due p t i):
 ∀s,s≤c→(1≤s→∀i,i<n→st n p b (t+s) i=if i=k then rel p b t (st n p b t) k-s else rel p b t (st n p b t) i)∧(s<c→who n p b (t+s)=some k):=by
 obtain⟨k1,k2,k3⟩:=iD hk;intro s
 induction s with
 | zero=>intro _;exact⟨fun h=>χ,fun _=>hk⟩
 | succ s ih =>
  intro hs;obtain⟨i1,i2⟩:=ih χ;have hw:=i2 χ;have hst:∀i,i<n→st n p b (t+(s+1)) i=if i=k then rel p b t (st n p b t) k-(s+1)else rel p b t (st n p b t) i:=by
   intro i hi;have h1:st n p b (t+(s+1)) i=dec (rel p b (t+s) (st n p b (t+s))) (who n p b (t+s)) i:=rfl;have h2:rel p b (t+s) (st n p b (t+s)) i=if i=k then rel p b t (st n p b t) k-s else rel p b t (st n p b t) i:=by
    rcases Nat.eq_zero_or_pos s with h0|h0
    ·subst h0
     rw[Nat.add_zero,Nat.sub_zero];split
     ·rename_i h;rw[h]
     ·rfl
    ·rw[←i1 h0 i hi]
     have h4:(t+s)%p i≠0:=fun h=>by
      have:=jf (p:=p) (hp i hi) (t:=t) (t':=t+s) χ (by have:=hu i hi;omega) h;have:=hu i hi;omega
     unfold rel;rw[if_neg h4]
   rw[h1,hw];unfold dec;rw[h2]
   by_cases hik:i=k
   ·subst hik;rw[if_pos rfl,if_pos rfl,if_pos rfl];omega
   ·rw[if_neg (fun h=>hik (Option.some.inj h).symm),if_neg hik,if_neg hik]
  refine⟨fun _=>hst,fun hlt=>?_⟩;have hrel:∀i,i<n→rel p b (t+(s+1)) (st n p b (t+(s+1))) i=if i=k then rel p b t (st n p b t) k-(s+1)else rel p b t (st n p b t) i:=fun i hi=>by
   rw[←hst i hi];unfold rel;rw[if_neg (fun h=>by
    have:=jf (p:=p) (hp i hi) (t:=t) (t':=t+(s+1)) χ (by have:=hu i hi;omega) h;have:=hu i hi;omega)]
  have hdue:∀i,i<n→due p (t+(s+1)) i=due p t i:=fun i hi=>oU (hp i hi) χ (by have:=hu i hi;omega)
  refine uj k1 (by rw[hrel k k1,if_pos rfl];omega) fun i hi h0=>?_
  rw[hdue k k1,hdue i hi]
  by_cases hik:i=k
  ·subst hik;exact .inr ⟨rfl,Nat.le_refl _⟩
  ·rw[hrel i hi,if_neg hik]at h0
   exact k3 i hi h0
theorem idle(hp:∀i,i<n→1≤p i){t c:Nat}(h0:∀i,i<n→rel p b t (st n p b t) i=0)(hu:∀i,i<n→t+c≤due p t i):
 ∀s,s≤c→(1≤s→∀i,i<n→st n p b (t+s) i=0)∧(s<c→who n p b (t+s)=none):=by
 intro s
 induction s with
 | zero=>intro _;exact⟨fun h=>χ,fun _=>lA h0⟩
 | succ s ih =>
  intro hs;obtain⟨i1,i2⟩:=ih χ;have hw:=i2 χ;have hst:∀i,i<n→st n p b (t+(s+1)) i=0:=by
   intro i hi;have h1:st n p b (t+(s+1)) i=dec (rel p b (t+s) (st n p b (t+s))) (who n p b (t+s)) i:=rfl;rw[h1,hw];unfold dec;rw[if_neg ξ]
   rcases Nat.eq_zero_or_pos s with h2|h2
   ·subst h2;exact h0 i hi
   ·unfold rel
    rw[if_neg (fun h=>by
     have:=jf (p:=p) (hp i hi) (t:=t) (t':=t+s) χ (by have:=hu i hi;omega) h;have:=hu i hi;omega)]
    exact i1 h2 i hi
  refine⟨fun _=>hst,fun hlt=>lA fun i hi=>?_⟩;unfold rel;rw[if_neg (fun h=>by
   have:=jf (p:=p) (hp i hi) (t:=t) (t':=t+(s+1)) χ (by have:=hu i hi;omega) h;have:=hu i hi;omega)]
  exact hst i hi
theorem lr(w:Fits n p b)(j:∀i,i<n→1≤p i){t t':Nat}(x:t<t')(l:∀i,i<n→t'≤due p t i){wl nl:List Job}(u:wl.Perm (cL (st n p b t') (due p t) n))(r:nl.Perm (nextOf (due p t) n)):HeadInv n p b t' wl nl:=by
 refine⟨?_,?_⟩
 ·rw[df (L':=st n p b t') (D':=due p t') (fun i _=>rfl) (fun i d g=>?_)]at u
  ·exact u
  ·rcases Nat.lt_or_ge t' (due p t i)with h|h
   ·exact(oU (j i d) χ h).symm
   ·have q:t'=due p t i:=by have:=l i d;omega
    have v:t'%p i=0:=by rw[q];unfold due;exact Nat.mul_mod_left _ _
    rw[ul w j d v]at g;omega
 ·rw[ic (N':=nx p t') (fun i d=>?_)]at r
  ·exact r
  ·unfold nx
   split
   ·rename_i g;exact(jf (j i d) x (l i d) g).symm
   ·rename_i g
    have q:t'≠due p t i:=fun h=>g (by rw[h];unfold due;exact Nat.mul_mod_left _ _)
    exact(oU (j i d) χ (by have:=l i d;omega)).symm
def nameOf(sub:Nat→ByteArray):Option Nat→ByteArray
 | none=>ByteArray.empty
 | some k=>sub k
def QV(n:Nat)(p b:Nat→Nat)(sub:Nat→ByteArray)(t:Nat):List ByteArray:=(List.range t).map fun s=>nameOf sub (who n p b s)
theorem sr{sub:Nat→ByteArray}{t c:Nat}{o:Option Nat}(h:∀s,s<c→who n p b (t+s)=o):QV n p b sub (t+c)=QV n p b sub t++List.replicate c (nameOf sub o):=by
 unfold QV;rw[List.range_add,List.map_append]
 congr 1
 rw[List.map_map]
 apply List.ext_getElem
 ·simp
 ·intro i d g
  simp at d;simp[h i d]
theorem rows_more{sub:Nat→ByteArray}{t c:Nat}{o:Option Nat}(h:∀s,s<c→who n p b (t+s)=o)(d:0<c):cX [] (QV n p b sub (t+c))=run (cX [] (QV n p b sub t)) (nameOf sub o) (c:Int):=by
 rw[sr h,eN,nc _ _ d]
theorem ticks_length{sub:Nat→ByteArray}(t:Nat):(QV n p b sub t).length=t:=by simp[QV]
end Edf
end Go.Proofs.YtpblcjipmoblnaaGreatDoor
namespace Go.Proofs.YtpblcjipmoblnaaGreatDoor
open Go Go.RowKit
namespace Ln
variable {xs:List Run} {i:Nat}
def nP(xs:List Run)(i:Nat):Nat:=match xs[i]? with|some r=>r.per|none=>1
def nB(xs:List Run)(i:Nat):Nat:=match xs[i]? with|some r=>r.QT|none=>1
def nS(xs:List Run)(i:Nat):ByteArray:=match xs[i]? with|some r=>r.QK|none=>ByteArray.empty
theorem uo{r:Run}(h:xs[i]?=some r):nP xs i=r.per:=by unfold nP;rw[h]
theorem uq{r:Run}(h:xs[i]?=some r):nB xs i=r.QT:=by unfold nB;rw[h]
theorem Ca{r:Run}(h:xs[i]?=some r):nS xs i=r.QK:=by unfold nS;rw[h]
def edf(xs:List Run)(t:Nat):List bB:=cX [] (Edf.QV xs.length (nP xs) (nB xs) (nS xs) t)
theorem nK(ts:List ByteArray):∀{l:List bB} {T:Nat},ml T l→ml (T+ts.length) (cX l ts)∧(cX l ts).length≤l.length+ts.length:=by
 induction ts with
 | nil=>intro l T h;exact⟨h,Nat.le_refl _⟩
 | cons s ts ih =>
  intro l T h;have h1:=h.run χ s (t:=1) ψ;obtain⟨h2,h3⟩:=ih (T:=T+1) (by simpa using h1);have h4:=kX l s 1;refine⟨?_,?_⟩
  ·have e:(T:Int)+((s::ts).length:Nat)=((T+1:Nat):Int)+(ts.length:Nat):=η
   rw[e];exact h2
  ·have:(cX l (s::ts))=cX (run l s 1) ts:=rfl
   rw[this];simp;omega
end Ln
namespace Edf
open Ln
variable {n:Nat} {p b:Nat→Nat}
theorem CZ:∀(t i:Nat),st n p b t i≤b i:=by
 intro t
 induction t with
 | zero=>intro i;exact Nat.zero_le _
 | succ t ih =>
  intro i;have h1:rel p b t (st n p b t) i≤b i:=by
   unfold rel;split
   ·exact Nat.le_refl _
   ·exact ih i
  show dec (rel p b t (st n p b t)) _ i≤b i;unfold dec;split<;>omega
theorem Bg(t i:Nat):rel p b t (st n p b t) i≤b i:=by
 unfold rel;split
 ·exact Nat.le_refl _
 ·exact CZ t i
theorem gU.busy(O:Fits n p b)(J:∀i,i<n→1≤p i){t:Nat}{wl nl:List Job}{x:Job}(h:gU n p b t wl nl)(hh:bQ wl wl.length)(hx:wl[0]?=some x):
 ∃k l:Nat,k<n∧0<l∧l≤b k∧x=⟨k,due p t k,l⟩∧∀c:Nat,1≤c→c≤l→(∀i,i<n→t+c≤due p t i)→(∀s,s<c→who n p b (t+s)=some k) ∧
  (c<l→HeadInv n p b (t+c) (wl.set 0 ⟨k,due p t k,l-c⟩) nl)∧(c=l→∀g,(g++[⟨k,due p t k,0⟩]).Perm (wl.set 0 ⟨k,due p t k,0⟩)→HeadInv n p b (t+c) g nl):=by
 obtain⟨k,hk,r,rfl,q⟩:=vU h.wait hh hx;refine⟨k,_,hk,r,Bg t k,rfl,fun c E H K=>?_⟩;have N:=Cp J q H K;obtain⟨d,_⟩:=N c (Nat.le_refl _);have d:=d E;have j:=tr (L:=rel p b t (st n p b t)) (D:=due p t) hk r;refine⟨fun s S=>(N s χ).2 S,fun R=>?_,fun Q g u=>?_⟩
 ·obtain⟨y,A,B⟩:=set_root (r':=⟨k,due p t k,((rel p b t (st n p b t) k:Nat):Int)-c⟩) hx
  rw[B];refine lr O J χ K ?_ h.next
  have C:y.Perm (cL (set1 (rel p b t (st n p b t)) k 0) (due p t) n):=by
   have:=h.wait.trans j;rw[A]at this;exact(List.perm_cons _).1 this
  have w:=kf (L:=set1 (rel p b t (st n p b t)) k 0) (D:=due p t) (k:=k) (v:=rel p b t (st n p b t) k-c) (by simp[set1]) χ hk;have e:(((rel p b t (st n p b t) k-c:Nat):Int))=((rel p b t (st n p b t) k:Nat):Int)-c:=χ
  rw[e]at w;rw[df (L':=set1 (set1 (rel p b t (st n p b t)) k 0) k (rel p b t (st n p b t) k-c)) (D':=due p t) (fun i I=>?_) (fun _ _ _=>rfl)]
  ·exact(C.cons _).trans w.symm
  ·rw[d i I];unfold set1;split<;>rfl
 ·obtain⟨y,A,B⟩:=set_root (r':=⟨k,due p t k,0⟩) hx
  rw[B]at u;refine lr O J χ K ?_ h.next
  have C:y.Perm (cL (set1 (rel p b t (st n p b t)) k 0) (due p t) n):=by
   have:=h.wait.trans j;rw[A]at this;exact(List.perm_cons _).1 this
  have w:g.Perm y:=(List.perm_cons _).1 ((List.perm_append_singleton _ _).symm.trans u);rw[df (L':=set1 (rel p b t (st n p b t)) k 0) (D':=due p t) (fun i I=>?_) (fun _ _ _=>rfl)]
  ·exact w.trans C
  ·rw[d i I]
   unfold set1;split
   ·omega
   ·rfl
theorem gU.idle(w:Fits n p b)(q:∀i,i<n→1≤p i){t:Nat}{wl nl:List Job}(h:gU n p b t wl nl)(A:wl.length=0){c:Nat}(v:1≤c)(r:∀i,i<n→t+c≤due p t i):
 (∀s,s<c→who n p b (t+s)=none)∧HeadInv n p b (t+c) wl nl:=by
 obtain rfl:=List.eq_nil_of_length_eq_zero A;have u:∀i,i<n→rel p b t (st n p b t) i=0:=fun i d=>by
  rcases Nat.eq_zero_or_pos (rel p b t (st n p b t) i)with g|g
  ·exact g
  ·have:=h.wait.mem_iff.2 (ip.2 ⟨i,d,g,rfl⟩)
   simp at this
 have d:=Edf.idle q u r;refine⟨fun s y=>(d s χ).2 y,lr w q χ r ?_ h.next⟩;have j:=(d c (Nat.le_refl _)).1 v;have e:cL (st n p b (t+c)) (due p t) n=[]:=by
  rcases hj:cL (st n p b (t+c)) (due p t) n with _|⟨x,l⟩
  ·rfl
  ·obtain⟨i,d,g,_⟩:=ip.1 (show x∈cL (st n p b (t+c)) (due p t) n by rw[hj];simp)
   have:=j i d;omega
 rw[e]
theorem gU.until(g:∀i,i<n→1≤p i){t:Nat}{wl nl:List Job}{r:Job}(h:gU n p b t wl nl)(hh:bQ nl nl.length)(j:nl[0]?=some r):
 ∃u:Nat,r.due=u∧t<u∧∀i,i<n→u≤due p t i:=by
 obtain⟨k,hk,rfl,d⟩:=next_root h.next hh j
 exact⟨due p t k,rfl,qs (g k hk),d⟩
end Edf
end Go.Proofs.YtpblcjipmoblnaaGreatDoor
namespace Go.Proofs.YtpblcjipmoblnaaGreatDoor
open Go Go.RowKit
namespace Ln
variable {M:Nat} {xs:List Run}
def cz(M:Nat)(l:List Run):Nat:=l.foldr (fun r n=>eZ M r true+n) 0
theorem pN{M:Nat}{l:List Run}:∀{i s:Nat},cF M true i s l=none→s≤M→s+cz M l≤M:=by
 induction l with
 | nil=>intro i s _ h;simpa[cz]using h
 | cons r l ih =>
  intro i s h hm;simp only[cF]at h;split at h
  ·split at h
   ·simp at h
   ·have:=ih h χ
    simp only[cz,List.foldr_cons]at this⊢;omega
  ·simp at h
theorem ma(M:Nat)(l m:List Run):cz M (l++m)=cz M l+cz M m:=by
 induction l with
 | nil=>simp[cz]
 | cons r l ih=>simp only[cz,List.cons_append,List.foldr_cons]at ih⊢; omega
theorem rK(M:Nat)(xs:List Run):∀n,n≤xs.length→Edf.sumTo n (fun i=>nB xs i*(M / nP xs i))=cz M (xs.take n):=by
 intro n
 induction n with
 | zero=>intro _;simp[Edf.sumTo,cz]
 | succ n ih =>
  intro hn;have h1:xs[n]?=some xs[n]:=List.getElem?_eq_getElem χ;rw[List.take_add_one,h1,ma,←ih χ];simp only[Edf.sumTo,uq h1,uo h1,Option.toList_some];simp[cz,eZ]
structure iz (M:Nat) (xs:List Run):Prop where
 each:∀r∈xs,1≤r.QT∧r.QT≤M∧r.QT≤r.per∧1≤r.per∧r.per≤M∧M%r.per=0
 sum:cz M xs≤M
theorem yT(h:cF M true 0 0 xs=none):iz M xs:=by
 refine⟨fun r v=>?_,by simpa using pN h (Nat.zero_le _)⟩;obtain⟨d,g,j⟩:=iB ((iq h).1 r v);obtain⟨_,l,p,q,u⟩:=j rfl;exact⟨d,g,l,p,q,u⟩
theorem iz.pos(h:iz M xs):∀i,i<xs.length→1≤nP xs i∧1≤nB xs i∧nB xs i≤nP xs i∧M%nP xs i=0:=fun i j=>by
 have g:xs[i]?=some xs[i]:=List.getElem?_eq_getElem j;obtain⟨a,b,c,d,e,f⟩:=h.each _ (List.mem_of_getElem? g);rw[uo g,uq g];exact⟨d,a,c,f⟩
theorem iz.fits(g:0<M)(h:iz M xs):Edf.Fits xs.length (nP xs) (nB xs):=by
 refine Edf.fits_of g (fun i d=>⟨(h.pos i d).1,(h.pos i d).2.2.2⟩) ?_;rw[rK M xs _ (Nat.le_refl _),List.take_length];exact h.sum
theorem iz.len(h:iz M xs):xs.length≤M:=by
 refine Nat.le_trans ?_ h.sum;have:∀l:List Run,(∀r∈l,1≤r.QT∧1≤r.per∧r.per≤M)→l.length≤cz M l:=fun l=>by
  induction l with
  | nil=>intro _;simp
  | cons r l ih =>
   intro h;have h1:=ih (fun x hx=>h x (List.mem_cons_of_mem _ hx));obtain⟨h2,h3,h4⟩:=h r ξ;have h5:1≤M / r.per:=(Nat.le_div_iff_mul_le h3).2 χ;have h6:1*1≤r.QT*(M / r.per):=Nat.mul_le_mul h2 h5;simp only[cz,List.foldr_cons,eZ,if_true,List.length_cons]at h1⊢;omega
 exact this xs fun r hr=>by obtain⟨a,b,c,d,e,f⟩:=h.each r hr;exact⟨a,d,e⟩
theorem zK(xs:List Run)(M:Nat):pX (edf xs M) (Edf.QV xs.length (nP xs) (nB xs) (nS xs) M):=by
 have:=sI.rows (ts:=Edf.QV xs.length (nP xs) (nB xs) (nS xs) M)
 simpa[edf]using this
theorem Aq(xs:List Run)(M:Nat):jG (edf xs M)=M:=by
 rw[oP,(zK xs M).last,Edf.ticks_length]
theorem Ap(xs:List Run)(M:Nat):(edf xs M).length≤M:=by
 have:=(nK (Edf.QV xs.length (nP xs) (nB xs) (nS xs) M) (nL (0:Nat))).2;rw[Edf.ticks_length]at this
 simpa[edf]using this
def fG(M:Nat)(xs:List Run):List bB×Int×Int:=
 match cF M true 0 0 xs with
 | some (i,e)=>([],i,e)
 | none=>fI (edf xs M)
end Ln
end Go.Proofs.YtpblcjipmoblnaaGreatDoor
namespace Go.Proofs.YtpblcjipmoblnaaGreatDoor.Ck
structure Ram where
 pos:Int
 Q7:Nat
 size:Nat
structure Map where
 pos:Int
 of:ByteArray
 Q7:Nat
 write:Bool
 exec:Bool
structure bA where
 pos:Int
 name:ByteArray
 Q7:Nat
 size:Nat
 QF:List Map
structure Region where
 pos:Int
 name:ByteArray
 size:Nat
 fixed:Bool
 Q7:Nat
 big:Bool
 wx:Bool
 fill:Nat
 QR:Bool
 text:ByteArray
structure jq where
 pos:Int
 how:Int
 to:ByteArray
 QL:Nat
structure aj where
 pos:Int
 name:ByteArray
 QO:Nat
 stopped:Bool
 QF:List Map
 QN:List jq
structure au where
 pos:Int
 name:ByteArray
 QI:ByteArray
 to:ByteArray
 shared:Bool
 over:ByteArray
 how:Int
 QL:Nat
structure Irq where
 pos:Int
 name:ByteArray
 QI:ByteArray
 to:ByteArray
 QL:Nat
 masked:Bool
structure eH where
 pos:Int
 name:ByteArray
 QI:ByteArray
 to:ByteArray
 how:Int
 depth:Nat
structure cW where
 pos:Int
 QO:Nat
 needs:Bool
 runs:List Run
structure eX where
 pos:Int
 name:ByteArray
 QM:Nat
 QH:List cW
structure fY where
 pos:Int
 name:ByteArray
structure Ban where
 pos:Int
 QI:ByteArray
 to:ByteArray
structure aC where
 pos:Int
 name:ByteArray
 QG:List Ram
 Q4:List bA
 Q5:List Region
 Q3:List aj
 Q8:List au
 QJ:List Irq
 QC:List eH
 Q9:List eX
 QB:List fY
 QE:List fY
 QA:List fY
 QD:List Ban
abbrev Wr:=Int×Int
def say(ok:Bool)(Q7 rank:Int):List Wr:=if ok then[]else[(Q7,rank)]
def dA{α:Type}(f:α→α→List Wr):List α→List Wr
 | []=>[]
 | x::t=>t.flatMap (fun y=>f y x)++dA f t
theorem dE{α:Type}{f:α→α→List Wr}{x:α}{p:Wr}:∀{l:List α},p∈dA f (l++[x])↔p∈dA f l∨∃y∈l,p∈f x y
 | []=>by simp[dA]
 | a::l=>by
  simp only[dA,List.cons_append,List.mem_append,List.mem_flatMap,dE (l:=l),List.mem_cons,List.mem_singleton,List.mem_nil_iff,or_false];constructor
  ·rintro(⟨y,g|rfl,d⟩|h|⟨y,g,d⟩)
   ·exact .inl (.inl ⟨y,g,d⟩)
   ·exact .inr ⟨a,.inl rfl,d⟩
   ·exact .inl (.inr h)
   ·exact .inr ⟨y,.inr g,d⟩
  ·rintro((⟨y,g,d⟩|h)|⟨y,rfl|g,d⟩)
   ·exact .inl ⟨y,.inl g,d⟩
   ·exact .inr (.inl h)
   ·exact .inl ⟨x,.inr rfl,d⟩
   ·exact .inr (.inr ⟨y,g,d⟩)
abbrev Nm:=ByteArray×Int
def has(l:List Nm)(s:ByteArray):Bool:=l.any fun x=>decide (x.1=s)
def once(named:ByteArray→Bool)(l:List Nm):List Wr:=
 l.flatMap (fun x=>say (named x.1) x.2 0)++dA (fun x y=>if x.1=y.1 then[(max x.2 y.2,1)]else[]) l
def gb(l:List fY)(of:List Nm):List Wr:=
 dA (fun x y=>[(max x.pos y.pos,1)]) l++l.flatMap fun x=>say (has of x.name) x.pos 2
def aC.QW(P:aC):List Nm:=P.Q4.map fun x=>(x.name,x.pos)
def aC.regs(P:aC):List Nm:=P.Q5.map fun x=>(x.name,x.pos)
def aC.QS(P:aC):List Nm:=P.Q3.map fun x=>(x.name,x.pos)
def aC.chans(P:aC):List Nm:=P.Q8.map fun x=>(x.name,x.pos)
def aC.irqn(P:aC):List Nm:=P.QJ.map fun x=>(x.name,x.pos)
def aC.QX(P:aC):List Nm:=P.QC.map fun x=>(x.name,x.pos)
def aC.plns(P:aC):List Nm:=P.Q9.map fun x=>(x.name,x.pos)
def aC.things(P:aC):List Nm:=P.QW++P.regs
def BH(P:aC)(x:Ban):List Wr:=say ((has P.QS x.QI||has P.QW x.QI)&&has P.QS x.to) x.pos 2
def tK(P:aC)(x:eH):List Wr:=
 say (decide (1≤x.how)&&decide (x.how≤3)&&(!decide (x.how=3)||decide (x.depth=0))) x.pos 0++say (has P.QS x.QI&&has P.QS x.to) x.pos 2
def o9(of:List Nm)(m:Map):List Wr:=say (has of m.of) m.pos 2
def mn(x:Region):List Wr:=
 say ((x.fixed||decide (x.Q7=0))&&(x.QR||decide (x.text=ByteArray.empty))&&(!x.QR||decide (x.fill=0))) x.pos 0
def rU(P:aC)(r:jq):List Wr:=
 say (decide (1≤r.how)&&decide (r.how≤3)&&(decide (r.how=1)||decide (r.to=ByteArray.empty)&&decide (r.QL=0))) r.pos 0 ++
 say (!decide (r.how=1)||has P.QS r.to) r.pos 2
def jP(P:aC)(x:aj):List Wr:=
 x.QF.flatMap (o9 P.things)++(dA (fun r s=>[(max r.pos s.pos,1)]) x.QN++x.QN.flatMap (rU P))
def oZ(P:aC)(x:au):List Wr:=
 say (decide (1≤x.how)&&decide (x.how≤4)&&(x.shared||decide (x.over=ByteArray.empty))&&(decide (x.how=1)||decide (x.QL=0))) x.pos 0 ++
 say (has P.QS x.QI&&has P.QS x.to&&(!x.shared||has P.regs x.over)) x.pos 2
def Ae(P:aC)(x:Irq):List Wr:=say (has P.QW x.QI&&has P.QS x.to) x.pos 2
def rT(P:aC)(needs:Bool)(r:Run):List Wr:=
 say (needs||decide (r.per=0)) r.pos 0++say (decide (r.QK=ByteArray.empty)||has P.QS r.QK) r.pos 2
def gZ(P:aC)(l:List cW):List Wr:=
 dA (fun x y=>say (!decide (x.QO=y.QO)) (max x.pos y.pos) 1) l++l.flatMap fun x=>x.runs.flatMap (rT P x.needs)
def jU(named:ByteArray→Bool)(P:aC):List Wr:=
 (once named P.things++once named P.QS++once named P.chans++once named P.irqn++once named P.QX++once named P.plns) ++
 (gb P.QE P.plns++gb P.QB P.QS++gb P.QA P.QS) ++
 P.QD.flatMap (BH P)++P.QC.flatMap (tK P)++P.Q4.flatMap (fun x=>x.QF.flatMap (o9 P.regs))++P.Q5.flatMap mn ++
 P.Q3.flatMap (jP P)++P.Q8.flatMap (oZ P)++P.QJ.flatMap (Ae P)++P.Q9.flatMap fun x=>gZ P x.QH
def bT{α:Type}(pos:α→Int)(n:Nat)(l:List α):List Wr:=
 match l[n]? with
 | some x=>[(pos x,0)]
 | none=>[]
def aC.spaces(P:aC):List (List Map):=P.Q3.map aj.QF++P.Q4.map bA.QF
def fq(P:aC):List Wr:=
 bT Ram.pos 8 P.QG++bT bA.pos 32 P.Q4++bT Region.pos 256 P.Q5++bT aj.pos 64 P.Q3++bT au.pos 256 P.Q8 ++
 bT Irq.pos 64 P.QJ++bT eH.pos 64 P.QC++bT Ban.pos 256 P.QD++bT eX.pos 16 P.Q9++P.spaces.flatMap (bT Map.pos 64)
structure dp where
 Q7:Nat
 size:Nat
 pos:Int
def clear(a b:dp):Bool:=
 if b.Q7<a.Q7 then decide (a.size=0)||decide (b.size≤a.Q7-b.Q7)else decide (b.size=0)||decide (a.size≤b.Q7-a.Q7)
def eB(rank:Int)(l:List dp):List Wr:=dA (fun a b=>say (clear a b) (max a.pos b.pos) rank) l
def below(Q7 size bound:Nat):Bool:=decide (Q7≤bound)&&decide (size≤bound-Q7)
def dJ(s:Nat):List Ram→List Wr
 | []=>[]
 | x::t=>let s':=min (s+min x.size 67108865) 67108865;say (decide (s'≤67108864)) x.pos 4++dJ s' t
def rj(x:dp):List Wr:=
 say (decide ((x.Q7 ||| x.size)%4096=0)) x.pos 0++say (decide (0<x.size)) x.pos 1++say (below x.Q7 x.size 4294967296) x.pos 2
def aC.parts(P:aC):List dp:=P.QG.map (fun x=>⟨x.Q7,x.size,x.pos⟩)++P.Q4.map fun x=>⟨x.Q7,x.size,x.pos⟩
def sY(P:aC):List Wr:=
 dJ 0 P.QG++P.Q4.flatMap (fun x=>say (decide (x.size≤1048576)) x.pos 1)++P.parts.flatMap rj++eB 3 P.parts
def unit(big:Bool):Nat:=if big then 2097152 else 4096
abbrev M64:Nat:=18446744073709551616
def dM(Q7 size:Nat):Nat:=(Q7+size+(M64-1))%M64
open Classical in
noncomputable def gv(QG:List Ram)(a b:Nat):Bool:=decide (∀p,a≤p→p≤b→∃r∈QG,r.Q7≤p∧p≤dM r.Q7 r.size)
noncomputable def oL(P:aC)(x:Region):List Wr:=
 if x.fixed then say (decide (x.size=0)||below x.Q7 x.size 4294967296&&gv P.QG x.Q7 (dM x.Q7 x.size)) x.pos 2 else[]
def qK(x:Region):List Wr:=
 say (decide (x.fill<256)&&decide (x.text.size≤x.size)&&decide (x.text.size≤1048576)&&(decide (x.fill=0)||decide (x.size≤1048576))) x.pos 4
noncomputable def ra(P:aC)(x:Region):List Wr:=
 say (decide ((x.size ||| x.Q7)%unit x.big=0)) x.pos 0++say (decide (0<x.size)&&decide (x.size≤67108864)) x.pos 1++oL P x++qK x
def aC.fixed(P:aC):List dp:=(P.Q5.filter Region.fixed).map fun x=>⟨x.Q7,x.size,x.pos⟩
noncomputable def fS(P:aC):List Wr:=P.Q5.flatMap (ra P)++eB 3 P.fixed
structure jl where
 size:Nat
 big:Bool
 wx:Bool
def eD(P:aC)(s:ByteArray):Option jl:=
 match P.Q5.find? (fun x=>decide (x.name=s))with
 | some x=>some ⟨x.size,x.big,x.wx⟩
 | none=>(P.Q4.find? (fun x=>decide (x.name=s))).map fun x=>⟨x.size,false,false⟩
def aS(P:aC)(s:ByteArray):jl:=(eD P s).getD ⟨0,false,false⟩
def bZ(P:aC)(device:Bool)(pages:Nat):List Map→List Wr×Nat
 | []=>([],pages)
 | m::t =>
  let x:=aS P m.of
  let n:=(pages+x.size / 4096)%M64
  let r:=bZ P device n t
  (say (decide (m.Q7%unit x.big=0)) m.pos 0++say (below m.Q7 x.size 549755813888) m.pos 1++say (!m.exec || !device&&(x.wx || !m.write)) m.pos 3++say (decide (n≤131072)) m.pos 4++r.1,r.2)
def bn(P:aC)(l:List Map):List dp:=l.map fun m=>⟨m.Q7,(aS P m.of).size,m.pos⟩
def cB(P:aC)(device:Bool)(pages:Nat):List (List Map)→List Wr×Nat
 | []=>([],pages)
 | l::t =>
  let r:=bZ P device pages l
  let q:=cB P device r.2 t
  (r.1++eB 2 (bn P l)++q.1,q.2)
def kP(P:aC):List Wr:=
 let a:=cB P false 0 (P.Q3.map aj.QF)
 a.1++(cB P true a.2 (P.Q4.map bA.QF)).1
def gI(P:aC)(c:au):Bool:=
 (P.Q3.all fun x=>x.QF.all fun m =>!decide (m.of=c.over)||(decide (x.name=c.QI)||decide (x.name=c.to) && !m.write)) &&
 (P.Q4.all fun x=>x.QF.all fun m =>!decide (m.of=c.over)) &&
 (P.Q3.any fun x=>decide (x.name=c.QI)&&x.QF.any fun m=>decide (m.of=c.over)) &&
 (P.Q3.any fun x=>decide (x.name=c.to)&&x.QF.any fun m=>decide (m.of=c.over))
def ks(x:aj)(r:jq):List Wr:=
 say (!decide (r.how=1)||decide (r.QL<64)) r.pos 1++say (!decide (r.how=1) || !decide (r.to=x.name)) r.pos 3
def iV(x:aj):List Wr:=say (decide (x.QO<4)) x.pos 0++x.QN.flatMap (ks x)
def kT(P:aC)(x:au):List Wr:=
 say (!decide (x.how=1)||decide (x.QL<64)) x.pos 1++say (!decide (x.QI=x.to)) x.pos 3++say (!x.shared||gI P x) x.pos 4
def nI(x:eH):List Wr:=
 say (decide (x.how=3)||decide (1≤x.depth)&&decide (x.depth≤64)) x.pos 2++say (!decide (x.QI=x.to)) x.pos 3
def rD(P:aC):List Wr:=
 P.Q3.flatMap iV++P.QJ.flatMap (fun x=>say (decide (x.QL<64)) x.pos 1)++P.Q8.flatMap (kT P) ++
 P.QD.flatMap (fun x=>say (!decide (x.QI=x.to)) x.pos 3)++P.QC.flatMap nI
def kR(P:aC)(s:ByteArray):Nat:=
 match P.Q3.find? (fun x=>decide (x.name=s))with
 | some x=>x.QO
 | none=>0
def eR(e:Int):Int:=if e=90 then 4 else if e=80 then 5 else if e=91 then 6 else if e=93 then 7 else 8
def lH(br:Nat→cW→Int×Int)(M:Nat)(y:cW):List Wr:=
 let r:=br M y
 if r.2=0 then[]else[(if 0≤r.1 then((y.runs[r.1.toNat]?).map Run.pos).getD 0 else y.pos,eR r.2)]
def jb(P:aC)(y:cW):List Wr:=
 say (decide (y.QO<4)) y.pos 3++y.runs.flatMap fun r=>say (decide (r.QK=ByteArray.empty)||decide (kR P r.QK=y.QO)) r.pos 3
def kN(br:Nat→cW→Int×Int)(P:aC)(x:eX):List Wr:=
 if x.QM<1∨65536<x.QM then[(x.pos,2)]else x.QH.flatMap fun y=>jb P y++lH br x.QM y
def jS(br:Nat→cW→Int×Int)(P:aC):List Wr:=
 say (decide (0<P.QE.length)) P.pos 0 ++
 (match P.Q9[1]? with|some x=>say (decide (0<P.QB.length)) x.pos 1|none=>[])++P.Q9.flatMap (kN br P)
def cq(r:Int):Int:=if r=0 then 5 else if r=1 then 81 else 80
def eK(_:Int):Int:=4
def pB(r:Int):Int:=if r=0 then 33 else if r=1 then 32 else if r=2 then 34 else if r=3 then 35 else 36
def fQ(r:Int):Int:=if r=0 then 33 else if r=1 then 32 else if r=2 then 109 else if r=3 then 35 else 105
def eY(r:Int):Int:=if r=0 then 33 else if r=1 then 40 else if r=2 then 35 else if r=3 then 104 else 4
def pA(r:Int):Int:=if r=0 then 100 else if r=1 then 101 else if r=2 then 113 else if r=3 then 102 else 103
def fP(r:Int):Int:=if r=0 then 107 else if r=1 then 106 else if r=2 then 92 else if r=3 then 100 else if r=4 then 90 else if r=5 then 80 else if r=6 then 91 else if r=7 then 93 else 4
def vR(_:Int):Int:=108
def Le(x y:Wr):Prop:=x.1<y.1∨x.1=y.1∧x.2≤y.2
instance (x y:Wr):Decidable (Le x y):=by unfold Le;exact inferInstance
def upd(o:Option Wr)(x:Wr):Option Wr:=
 match o with
 | none=>some x
 | some y=>if Le y x then some y else some x
def iQ(L:List Wr):Option Wr→Prop
 | none=>∀x,x ∉ L
 | some m=>m∈L∧∀x∈L,Le m x
theorem Le.refl(x:Wr):Le x x := .inr ⟨rfl,Int.le_refl _⟩
theorem Le.trans{x y z:Wr}(h:Le x y)(k:Le y z):Le x z:=by unfold Le at *; omega
theorem Le.of_not{x y:Wr}(h:¬ Le x y):Le y x:=by unfold Le at *; omega
theorem iQ.tell{L:List Wr}{o:Option Wr}(h:iQ L o)(x:Wr):iQ (x::L) (upd o x):=by
 cases o with
 | none=>exact⟨List.mem_cons_self,fun y d=>by rcases List.mem_cons.1 d with rfl|d;exact Le.refl _;exact absurd d (h y)⟩
 | some m =>
  obtain⟨j,g⟩:=h
  by_cases hle:Le m x
  ·have:upd (some m) x=some m:=by simp[upd,hle]
   rw[this];exact⟨List.mem_cons_of_mem _ j,fun y d=>by rcases List.mem_cons.1 d with rfl|d;exact hle;exact g y d⟩
  ·have:upd (some m) x=some x:=by simp[upd,hle]
   rw[this];exact⟨List.mem_cons_self,fun y d=>by rcases List.mem_cons.1 d with rfl|d;exact Le.refl _;exact(Le.of_not hle).trans (g y d)⟩
theorem iQ.congr{L L':List Wr}{o:Option Wr}(h:iQ L o)(d:∀p,p∈L↔p∈L'):iQ L' o:=by
 cases o with
 | none=>exact fun x hx=>h x ((d x).2 hx)
 | some m=>exact⟨(d m).1 h.1,fun x hx=>h.2 x ((d x).2 hx)⟩
theorem wW:iQ [] none:=fun x hx=>by simp at hx
theorem iQ.none_iff{L:List Wr}(h:iQ L none):L=[]:=List.eq_nil_iff_forall_not_mem.2 h
def ups(m:Map)(x:jl):List Nat:=(List.range ((m.Q7+x.size-1) / 2097152+1-m.Q7 / 2097152)).map (· + m.Q7 / 2097152)
def da(P:aC)(m:Map):Bool:=
 match eD P m.of with
 | none=>false
 | some x=>decide (x.size≤67108864)&&below m.Q7 x.size 549755813888
def eh(P:aC)(l:List Map):List Nat:=l.flatMap fun m=>if(aS P m.of).size=0 then[]else(ups m (aS P m.of)).map (· / 512)
def fB(P:aC)(l:List Map):List Nat:=l.flatMap fun m=>if(aS P m.of).size=0∨(aS P m.of).big=true then[]else ups m (aS P m.of)
def bY(P:aC)(l:List Map):Nat:=if l.all (da P)then 1+(eh P l).eraseDups.length+(fB P l).eraseDups.length else 0
def cJ(br:Nat→cW→Nat×Int×Int)(x:eX)(c:Nat):Nat:=
 match x.QH.find? (fun y=>decide (y.QO=c))with
 | some y=>(br x.QM y).1
 | none=>1
def dz(br:Nat→cW→Nat×Int×Int)(P:aC):Nat:=
 248+16*(P.QG.length+P.Q4.length)+8*(P.Q3.length+P.Q4.length+P.Q8.length+P.QJ.length+P.QC.length+P.Q9.length) +
 (P.Q5.map fun x=>24+(x.text.size+7) / 8*8).sum +
 (P.Q9.map fun x=>32+8*(cJ br x 0+cJ br x 1+cJ br x 2+cJ br x 3)).sum
def aC.tabled(P:aC):List (List Map):=P.Q3.map aj.QF++(P.Q4.map bA.QF).filter fun l=>decide (0<l.length)
def pages(br:Nat→cW→Nat×Int×Int)(P:aC):Nat:=
 if P.tabled.all (fun l=>decide (0<bY P l))then(P.tabled.map (bY P)).sum+(dz br P+4095) / 4096 else 0
def lq(br:Nat→cW→Nat×Int×Int)(P:aC):List Wr:=say (decide (pages br P≤1024)) P.pos 0
def jm:List (List Wr×(Int→Int))→Int→Int→Prop
 | [],a,e=>a=0∧e=0
 | g::t,a,e=>(g.1=[]∧jm t a e)∨∃r,(a,r)∈g.1∧(∀x∈g.1,Le (a,r) x)∧e=g.2 r
noncomputable def dF(named:ByteArray→Bool)(br:Nat→cW→Nat×Int×Int)(P:aC):List (List Wr×(Int→Int)):=
 [(jU named P,cq),(fq P,eK),(sY P,pB),(fS P,fQ),(kP P,eY),(rD P,pA),(jS (fun M y=>(br M y).2) P,fP),(lq br P,vR)]
variable {b:Bool} {x:Nat} {named:ByteArray→Bool}
theorem cO{α β:Type}{f:α→List β}{l:List α}:l.flatMap f=[]↔∀x∈l,f x=[]:=by
 rw[List.flatMap_eq_nil_iff]
theorem bJ{a r:Int}:say b a r=[]↔b=true:=by cases b<;>simp[say]
theorem eF{α:Type}{f:α→α→List Wr}:∀{l:List α},dA f l=[]↔∀(i j:Nat) (x y:α),j<i→l[i]?=some x→l[j]?=some y→f x y=[]
 | []=>by simp[dA]
 | a::l=>by
  simp only[dA,List.append_eq_nil_iff,cO,eF (l:=l)];constructor
  ·rintro⟨p,q⟩ i j x y g hx d
   cases i with
   | zero=>omega
   | succ i =>
    simp only[List.getElem?_cons_succ]at hx
    cases j with
    | zero =>
     simp only[List.getElem?_cons_zero,Option.some.injEq]at d;subst d;exact p x (List.mem_of_getElem? hx)
    | succ j =>
     simp only[List.getElem?_cons_succ]at d;exact q i j x y χ hx d
  ·intro h
   refine⟨fun x hx=>?_,fun i j x y g hx d=>h (i+1) (j+1) x y χ (by simpa using hx) (by simpa using d)⟩;obtain⟨i,r⟩:=List.getElem?_of_mem hx;exact h (i+1) 0 x a χ (by simpa using r) ξ
theorem tV{a b n:Nat}:(a ||| b)%2 ^ n=0↔a%2 ^ n=0∧b%2 ^ n=0:=by
 rw[Nat.or_mod_two_pow,Nat.or_eq_zero_iff]
def Off(a b c d:Nat):Prop:=a+b≤c∨c+d≤a
theorem mD{a b:dp}(d:0<a.size)(g:0<b.size)(h:clear a b=true):Off a.Q7 a.size b.Q7 b.size:=by
 unfold clear at h;unfold Off;split at h
 ·simp only[Bool.or_eq_true,decide_eq_true_eq]at h
  omega
 ·simp only[Bool.or_eq_true,decide_eq_true_eq]at h
  omega
theorem kE{a s b:Nat}:below a s b=true↔a+s≤b:=by
 unfold below;simp only[Bool.and_eq_true,decide_eq_true_eq];omega
theorem ud:∀{l:List Ram} {s:Nat},s≤67108864→dJ s l=[]→s+(l.map Ram.size).sum≤67108864
 | [],s,hs,_=>by simpa using hs
 | x::t,s,hs,h=>by
  simp only[dJ,List.append_eq_nil_iff,bJ,decide_eq_true_eq]at h;obtain⟨d,g⟩:=h;have e:min (s+min x.size 67108865) 67108865=s+x.size:=χ
  rw[e]at d g;have:=ud d g;simp only[List.map_cons,List.sum_cons];omega
structure vO (P:aC):Prop where
 Ql:∀x∈P.QG,0<x.size∧x.size≤67108864∧x.Q7+x.size≤4294967296∧x.Q7%4096=0∧x.size%4096=0
 sum:(P.QG.map Ram.size).sum≤67108864
 dev:∀x∈P.Q4,0<x.size∧x.size≤1048576∧x.Q7+x.size≤4294967296∧x.Q7%4096=0∧x.size%4096=0
 rr:∀(i j:Nat) (x y:Ram),j<i→P.QG[i]?=some x→P.QG[j]?=some y→Off x.Q7 x.size y.Q7 y.size
 dd:∀(i j:Nat) (x y:bA),j<i→P.Q4[i]?=some x→P.Q4[j]?=some y→Off x.Q7 x.size y.Q7 y.size
 dr:∀(x:bA) (y:Ram),x∈P.Q4→y∈P.QG→Off x.Q7 x.size y.Q7 y.size
theorem AL{x:dp}(h:rj x=[]):0<x.size∧x.Q7+x.size≤4294967296∧x.Q7%4096=0∧x.size%4096=0:=by
 simp only[rj,List.append_eq_nil_iff,bJ,decide_eq_true_eq,kE]at h;obtain⟨⟨g,j⟩,l⟩:=h;have d:=(tV (n:=12)).1 g;exact⟨j,l,d.1,d.2⟩
theorem AA{l:List Nat}{x:Nat}(h:x∈l):x≤l.sum:=by
 induction l with
 | nil=>simp at h
 | cons a l ih =>
  rcases List.mem_cons.1 h with rfl|h
  ·simp
  ·have:=ih h;simp;omega
theorem CP{P:aC}(h:sY P=[]):vO P:=by
 simp only[sY,List.append_eq_nil_iff,cO,bJ,decide_eq_true_eq]at h;obtain⟨⟨⟨C,D⟩,E⟩,H⟩:=h;have u:∀x∈P.parts,0<x.size∧x.Q7+x.size≤4294967296∧x.Q7%4096=0∧x.size%4096=0:=fun x hx=>AL (E x hx)
 have q:(P.QG.map Ram.size).sum≤67108864:=by simpa using ud (s:=0) χ C
 have v:∀(i j:Nat) (x y:dp),j<i→P.parts[i]?=some x→P.parts[j]?=some y→Off x.Q7 x.size y.Q7 y.size:=fun i j x y g hx l=>by
  have w:=eF.1 H i j x y g hx l;rw[bJ]at w;exact mD (u x (List.mem_of_getElem? hx)).1 (u y (List.mem_of_getElem? l)).1 w
 have r:∀(i:Nat) (x:Ram),P.QG[i]?=some x→P.parts[i]?=some ⟨x.Q7,x.size,x.pos⟩:=fun i x hx=>by
  have B:=(List.getElem?_eq_some_iff.1 hx).1;unfold aC.parts;rw[List.getElem?_append_left (by simpa using B),List.getElem?_map,hx];rfl
 have gd:∀(i:Nat) (x:bA),P.Q4[i]?=some x→P.parts[P.QG.length+i]?=some ⟨x.Q7,x.size,x.pos⟩:=fun i x hx=>by
  unfold aC.parts;rw[List.getElem?_append_right ξ];simp only[List.length_map,Nat.add_sub_cancel_left,List.getElem?_map,hx];rfl
 refine⟨fun x hx=>?_,q,fun x hx=>?_,fun i j x y g hx l=>v i j _ _ g (r i x hx) (r j y l),fun i j x y g hx l=>v _ _ _ _ χ (gd i x hx) (gd j y l),fun x y hx l=>?_⟩
 ·obtain⟨i,p⟩:=List.getElem?_of_mem hx
  obtain⟨a,b,c,d⟩:=u _ (List.mem_of_getElem? (r i x p));have:=AA (List.mem_map_of_mem (f:=Ram.size) hx);exact⟨a,χ,b,c,d⟩
 ·obtain⟨i,p⟩:=List.getElem?_of_mem hx
  obtain⟨a,b,c,d⟩:=u _ (List.mem_of_getElem? (gd i x p));exact⟨a,D x hx,b,c,d⟩
 ·obtain⟨i,p⟩:=List.getElem?_of_mem hx
  obtain⟨j,A⟩:=List.getElem?_of_mem l;have B:=(List.getElem?_eq_some_iff.1 A).1;exact v _ _ _ _ χ (gd i x p) (r j y A)
theorem fo{l:List Nm}{s:ByteArray}:has l s=true↔∃p,(s,p)∈l:=by
 unfold has;simp only[List.any_eq_true,decide_eq_true_eq,Prod.exists];constructor
 ·rintro⟨a,b,h,rfl⟩;exact⟨b,h⟩
 ·rintro⟨p,h⟩;exact⟨s,p,h,rfl⟩
def BM(l:List Nm):Prop:=∀(i j:Nat) (x y:Nm),j<i→l[i]?=some x→l[j]?=some y→x.1≠y.1
theorem dQ{l:List Nm}(h:once named l=[]):(∀x∈l,named x.1=true)∧BM l:=by
 simp only[once,List.append_eq_nil_iff,cO,bJ]at h;refine⟨h.1,fun i j x y d hx g e=>?_⟩;have:=eF.1 h.2 i j x y d hx g;rw[if_pos e]at this
 cases this
theorem lZ{l:List fY}{of:List Nm}(h:gb l of=[]):l.length≤1∧∀x∈l,has of x.name=true:=by
 simp only[gb,List.append_eq_nil_iff,cO,bJ]at h;refine⟨?_,h.2⟩
 rcases Nat.lt_or_ge l.length 2 with d|d
 ·omega
 ·have:=eF.1 h.1 1 0 l[1] l[0] χ (List.getElem?_eq_getElem χ) (List.getElem?_eq_getElem χ)
  cases this
structure vN (named:ByteArray→Bool) (P:aC):Prop where
 br:∀l∈[P.things,P.QS,P.chans,P.irqn,P.QX,P.plns],∀x∈l,named x.1=true
 uniq:∀l∈[P.things,P.QS,P.chans,P.irqn,P.QX,P.plns],BM l
 QE:P.QE.length≤1∧∀x∈P.QE,has P.plns x.name=true
 QB:P.QB.length≤1∧∀x∈P.QB,has P.QS x.name=true
 QA:P.QA.length≤1∧∀x∈P.QA,has P.QS x.name=true
 Qv:∀x∈P.QD,(has P.QS x.QI=true∨has P.QW x.QI=true)∧has P.QS x.to=true
 queue:∀x∈P.QC,1≤x.how∧x.how≤3∧(x.how=3→x.depth=0)∧has P.QS x.QI=true∧has P.QS x.to=true
 Qb:∀x∈P.Q4,∀m∈x.QF,has P.regs m.of=true
 region:∀x∈P.Q5,(x.fixed=true∨x.Q7=0)∧(x.QR=true∨x.text=ByteArray.empty)∧(x.QR=true→x.fill=0)
 Qh:∀x∈P.Q3,∀m∈x.QF,has P.things m.of=true
 QN:∀x∈P.Q3,x.QN.length≤1
 rule:∀x∈P.Q3,∀r∈x.QN,1≤r.how∧r.how≤3∧(r.how=1∧has P.QS r.to=true∨r.how≠1∧r.to=ByteArray.empty∧r.QL=0)
 channel:∀x∈P.Q8,1≤x.how∧x.how≤4∧(x.shared=true∨x.over=ByteArray.empty)∧(x.how=1∨x.QL=0)∧has P.QS x.QI=true∧has P.QS x.to=true∧(x.shared=true→has P.regs x.over=true)
 Qr:∀x∈P.QJ,has P.QW x.QI=true∧has P.QS x.to=true
 Qm:∀x∈P.Q9,∀(i j:Nat) (y z:cW),j<i→x.QH[i]?=some y→x.QH[j]?=some z→y.QO≠z.QO
 run:∀x∈P.Q9,∀y∈x.QH,∀r∈y.runs,(y.needs=true∨r.per=0)∧(r.QK=ByteArray.empty∨has P.QS r.QK=true)
theorem yU{P:aC}(h:jU named P=[]):vN named P:=by
 simp only[jU,List.append_eq_nil_iff,cO]at h;obtain⟨⟨⟨⟨⟨⟨⟨⟨⟨⟨⟨⟨⟨⟨D,E⟩,H⟩,I⟩,J⟩,K⟩,⟨N,O⟩,Q⟩,c1⟩,c2⟩,R⟩,S⟩,g⟩,U⟩,V⟩,L⟩:=h;refine⟨?_,?_,lZ N,lZ O,lZ Q,fun x hx=>?_,fun x hx=>?_,fun x hx m A=>?_,fun x hx=>?_,fun x hx m A=>?_,fun x hx=>?_,fun x hx r B=>?_,fun x hx=>?_,fun x hx=>?_,fun x hx i j y z w C X=>?_,fun x hx y C r B=>?_⟩
 ·intro l d
  simp only[List.mem_cons,List.mem_nil_iff,or_false]at d
  rcases d with rfl|rfl|rfl|rfl|rfl|rfl
  ·exact(dQ D).1
  ·exact(dQ E).1
  ·exact(dQ H).1
  ·exact(dQ I).1
  ·exact(dQ J).1
  ·exact(dQ K).1
 ·intro l d
  simp only[List.mem_cons,List.mem_nil_iff,or_false]at d
  rcases d with rfl|rfl|rfl|rfl|rfl|rfl
  ·exact(dQ D).2
  ·exact(dQ E).2
  ·exact(dQ H).2
  ·exact(dQ I).2
  ·exact(dQ J).2
  ·exact(dQ K).2
 ·have:=c1 x hx
  simpa only[BH,bJ,Bool.and_eq_true,Bool.or_eq_true]using this
 ·have:=c2 x hx
  simp only[tK,List.append_eq_nil_iff,bJ,Bool.and_eq_true,Bool.or_eq_true,decide_eq_true_eq,Bool.not_eq_true',decide_eq_false_iff_not]at this;obtain⟨⟨⟨p,q⟩,r⟩,s,t⟩:=this;exact⟨p,q,fun e=>r.resolve_left (fun h=>h e),s,t⟩
 ·exact bJ.1 (R x hx m A)
 ·have:=S x hx
  simp only[mn,bJ,Bool.and_eq_true,Bool.or_eq_true,decide_eq_true_eq,Bool.not_eq_true']at this;obtain⟨⟨p,q⟩,r⟩:=this;exact⟨p,q,fun e=>r.resolve_left (fun h=>by rw[h]at e;cases e)⟩
 ·have:=g x hx
  simp only[jP,List.append_eq_nil_iff,cO]at this;exact bJ.1 (this.1 m A)
 ·have:=g x hx
  simp only[jP,List.append_eq_nil_iff,cO]at this
  rcases Nat.lt_or_ge x.QN.length 2 with W|W
  ·omega
  ·have:=eF.1 this.2.1 1 0 x.QN[1] x.QN[0] χ (List.getElem?_eq_getElem χ) (List.getElem?_eq_getElem χ)
   cases this
 ·have:=g x hx
  simp only[jP,List.append_eq_nil_iff,cO]at this;have:=this.2.2 r B;simp only[rU,List.append_eq_nil_iff,bJ,Bool.and_eq_true,Bool.or_eq_true,decide_eq_true_eq,Bool.not_eq_true',decide_eq_false_iff_not]at this;obtain⟨⟨⟨p,q⟩,Y⟩,s⟩:=this;refine⟨p,q,?_⟩
  by_cases e:r.how=1
  ·exact .inl ⟨e,s.resolve_left (fun h=>h e)⟩
  ·exact .inr ⟨e,Y.resolve_left e⟩
 ·have:=U x hx
  simp only[oZ,List.append_eq_nil_iff,bJ,Bool.and_eq_true,Bool.or_eq_true,decide_eq_true_eq,Bool.not_eq_true']at this;obtain⟨⟨⟨⟨p,q⟩,r⟩,s⟩,⟨t,u⟩,v⟩:=this;exact⟨p,q,r,s,t,u,fun e=>v.resolve_left (fun h=>by rw[h]at e;cases e)⟩
 ·have:=V x hx
  simpa only[Ae,bJ,Bool.and_eq_true]using this
 ·have:=L x hx
  simp only[gZ,List.append_eq_nil_iff,cO]at this;have:=eF.1 this.1 i j y z w C X
  simpa only[bJ,Bool.not_eq_true',decide_eq_false_iff_not]using this
 ·have:=L x hx
  simp only[gZ,List.append_eq_nil_iff,cO]at this;have:=this.2 y C r B
  simpa only[rT,List.append_eq_nil_iff,bJ,Bool.or_eq_true,decide_eq_true_eq]using this
theorem yW{α:Type}{pos:α→Int}{n:Nat}{l:List α}:bT pos n l=[]↔l.length≤n:=by
 unfold bT
 rcases Nat.lt_or_ge n l.length with h|h
 ·rw[List.getElem?_eq_getElem h];simp;omega
 ·rw[List.getElem?_eq_none h];simp[h]
structure sh (P:aC):Prop where
 QG:P.QG.length≤8
 Q4:P.Q4.length≤32
 Q5:P.Q5.length≤256
 Q3:P.Q3.length≤64
 Q8:P.Q8.length≤256
 QJ:P.QJ.length≤64
 QC:P.QC.length≤64
 QD:P.QD.length≤256
 Q9:P.Q9.length≤16
 Qj:∀x∈P.Q3,x.QF.length≤64
 Qk:∀x∈P.Q4,x.QF.length≤64
theorem xF{P:aC}(h:fq P=[]):sh P:=by
 simp only[fq,List.append_eq_nil_iff,cO,yW]at h;obtain⟨⟨⟨⟨⟨⟨⟨⟨⟨a,b⟩,c⟩,d⟩,e⟩,f⟩,g⟩,i⟩,j⟩,k⟩:=h;refine⟨a,b,c,d,e,f,g,i,j,fun x hx=>k _ ?_,fun x hx=>k _ ?_⟩
 ·exact List.mem_append_left _ (List.mem_map_of_mem hx)
 ·exact List.mem_append_right _ (List.mem_map_of_mem hx)
theorem np{α:Type}{f:α→α→List Wr}{l:List α}:dA f l=[]↔l.Pairwise (fun y x=>f x y=[]):=by
 induction l with
 | nil=>simp[dA]
 | cons a l ih=>simp only[dA,List.append_eq_nil_iff,cO,ih,List.pairwise_cons]
theorem xY{y:Nat}:(x ||| y)%unit b=0↔x%unit b=0∧y%unit b=0:=by
 cases b
 ·exact tV (n:=12)
 ·exact tV (n:=21)
theorem jt(h:x%unit b=0):x%4096=0:=by
 cases b
 ·exact h
 ·have h:x%2097152=0:=h
  omega
structure kH (P:aC):Prop where
 one:∀x∈P.Q5,0<x.size∧x.size≤67108864∧x.size%unit x.big=0∧x.Q7%unit x.big=0∧x.fill<256∧x.text.size≤x.size∧x.text.size≤1048576∧(x.fill=0∨x.size≤1048576)
 fixed:∀x∈P.Q5,x.fixed=true→x.Q7+x.size≤4294967296∧gv P.QG x.Q7 (dM x.Q7 x.size)=true
 apart:∀(i j:Nat) (x y:Region),j<i→P.Q5[i]?=some x→P.Q5[j]?=some y→x.fixed=true→y.fixed=true→Off x.Q7 x.size y.Q7 y.size
theorem tI{P:aC}(h:fS P=[]):kH P:=by
 simp only[fS,List.append_eq_nil_iff,cO]at h;obtain⟨q,r⟩:=h;have one:∀x∈P.Q5,0<x.size∧x.size≤67108864∧x.size%unit x.big=0∧x.Q7%unit x.big=0∧x.fill<256∧x.text.size≤x.size∧x.text.size≤1048576∧(x.fill=0∨x.size≤1048576):=fun x hx=>by
  have:=q x hx;simp only[ra,qK,List.append_eq_nil_iff,bJ,Bool.and_eq_true,Bool.or_eq_true,decide_eq_true_eq,xY]at this;obtain⟨⟨⟨⟨a,b⟩,c,d⟩,_⟩,⟨⟨e,f⟩,g⟩,i⟩:=this;exact⟨c,d,a,b,e,f,g,i⟩
 refine⟨one,fun x hx A=>?_,fun i j x y p hx B fx w=>?_⟩
 ·have:=q x hx
  simp only[ra,oL,A,if_true,List.append_eq_nil_iff,bJ,Bool.and_eq_true,Bool.or_eq_true,decide_eq_true_eq,kE]at this;have l:=(one x hx).1;exact this.1.2.resolve_left χ
 ·rw[eB,np,aC.fixed,List.pairwise_map,List.pairwise_filter,List.pairwise_iff_getElem]at r
  obtain⟨u,rfl⟩:=List.getElem?_eq_some_iff.1 hx;obtain⟨v,rfl⟩:=List.getElem?_eq_some_iff.1 B;have l:=r j i v u p (by simpa using w) (by simpa using fx);rw[bJ]at l;exact mD (one _ (List.getElem_mem u)).1 (one _ (List.getElem_mem v)).1 l
structure iy (P:aC) (device:Bool) (l:List Map):Prop where
 one:∀m∈l,m.Q7%unit (aS P m.of).big=0∧m.Q7+(aS P m.of).size≤549755813888∧(m.exec=true→device=false∧((aS P m.of).wx=true∨m.write=false))
 apart:∀(i j:Nat) (x y:Map),j<i→l[i]?=some x→l[j]?=some y→0<(aS P x.of).size→0<(aS P y.of).size→Off x.Q7 (aS P x.of).size y.Q7 (aS P y.of).size
theorem pn{P:aC}{d:Bool}:∀{l:List Map} {pages:Nat},(bZ P d pages l).1=[] →
 ∀m∈l,m.Q7%unit (aS P m.of).big=0∧m.Q7+(aS P m.of).size≤549755813888∧(m.exec=true→d=false∧((aS P m.of).wx=true∨m.write=false))
 | [],_,_,m,g=>by simp at g
 | a::t,pages,h,m,g=>by
  simp only[bZ,List.append_eq_nil_iff,bJ,Bool.and_eq_true,Bool.or_eq_true,decide_eq_true_eq,kE,Bool.not_eq_true']at h;obtain⟨⟨⟨⟨j,p⟩,q⟩,_⟩,r⟩:=h
  rcases List.mem_cons.1 g with rfl|g
  ·exact⟨j,p,fun e=>q.resolve_left (fun h=>by rw[h]at e;cases e)⟩
  ·exact pn r m g
theorem lU{P:aC}{d:Bool}:∀{ls:List (List Map)} {pages:Nat},(cB P d pages ls).1=[]→∀l∈ls,iy P d l
 | [],_,_,l,g=>by simp at g
 | a::t,pages,h,l,g=>by
  simp only[cB,List.append_eq_nil_iff]at h;obtain⟨⟨r,u⟩,v⟩:=h
  rcases List.mem_cons.1 g with rfl|g
  ·refine⟨pn r,fun i j x y p hx w A B=>?_⟩
   have q:=eF.1 u i j ⟨x.Q7,(aS P x.of).size,x.pos⟩ ⟨y.Q7,(aS P y.of).size,y.pos⟩ p (by simp[bn,hx]) (by simp[bn,w]);rw[bJ]at q;exact mD (a:=⟨x.Q7,(aS P x.of).size,x.pos⟩) (b:=⟨y.Q7,(aS P y.of).size,y.pos⟩) A B q
  ·exact lU v l g
theorem AU{P:aC}(h:kP P=[]):(∀x∈P.Q3,iy P false x.QF)∧∀x∈P.Q4,iy P true x.QF:=by
 simp only[kP,List.append_eq_nil_iff]at h;exact⟨fun x hx=>lU h.1 _ (List.mem_map_of_mem hx),fun x hx=>lU h.2 _ (List.mem_map_of_mem hx)⟩
structure BV (P:aC):Prop where
 subject:∀x∈P.Q3,x.QO<4
 rule:∀x∈P.Q3,∀r∈x.QN,r.how=1→r.QL<64∧r.to≠x.name
 Qr:∀x∈P.QJ,x.QL<64
 channel:∀x∈P.Q8,(x.how=1→x.QL<64)∧x.QI≠x.to∧(x.shared=true→gI P x=true)
 Qv:∀x∈P.QD,x.QI≠x.to
 queue:∀x∈P.QC,(x.how≠3→1≤x.depth∧x.depth≤64)∧x.QI≠x.to
theorem Ba{P:aC}(h:rD P=[]):BV P:=by
 simp only[rD,List.append_eq_nil_iff,cO,iV,ks,kT,nI,bJ,Bool.and_eq_true,Bool.or_eq_true,decide_eq_true_eq,Bool.not_eq_true',decide_eq_false_iff_not]at h;obtain⟨⟨⟨⟨a,b⟩,c⟩,d⟩,e⟩:=h;refine⟨fun x hx=>(a x hx).1,fun x hx r p e=>?_,b,fun x hx=>?_,d,fun x hx=>?_⟩
 ·obtain⟨g,j⟩:=(a x hx).2 r p
  exact⟨g.resolve_left (fun h=>h e),j.resolve_left (fun h=>h e)⟩
 ·obtain⟨⟨g,j⟩,l⟩:=c x hx
  exact⟨fun e=>g.resolve_left (fun h=>h e),j,fun e=>l.resolve_left (fun h=>by rw[h]at e;cases e)⟩
 ·obtain⟨g,j⟩:=e x hx
  exact⟨fun e=>g.resolve_left e,j⟩
structure vM (br:Nat→cW→Int×Int) (P:aC):Prop where
 QE:0<P.QE.length
 QB:1<P.Q9.length→0<P.QB.length
 QM:∀x∈P.Q9,1≤x.QM∧x.QM≤65536
 lane:∀x∈P.Q9,∀y∈x.QH,y.QO<4∧(br x.QM y).2=0
 run:∀x∈P.Q9,∀y∈x.QH,∀r∈y.runs,r.QK=ByteArray.empty∨kR P r.QK=y.QO
theorem yI{br:Nat→cW→Int×Int}{P:aC}(h:jS br P=[]):vM br P:=by
 simp only[jS,List.append_eq_nil_iff,cO,bJ,decide_eq_true_eq]at h;obtain⟨⟨a,b⟩,c⟩:=h;have p:∀x∈P.Q9,1≤x.QM∧x.QM≤65536:=fun x hx=>by
  have:=c x hx;unfold kN at this;split at this
  ·cases this
  ·omega
 have l:∀x∈P.Q9,∀y∈x.QH,jb P y=[]∧lH br x.QM y=[]:=fun x hx y g=>by
  have:=c x hx;unfold kN at this;split at this
  ·cases this
  ·have:=cO.1 this y g
   exact List.append_eq_nil_iff.1 this
 refine⟨a,fun h=>?_,p,fun x hx y g=>?_,fun x hx y g r q=>?_⟩
 ·rw[List.getElem?_eq_getElem h]at b
  simpa only[bJ,decide_eq_true_eq]using b
 ·obtain⟨d,j⟩:=l x hx y g
  simp only[jb,List.append_eq_nil_iff,bJ,decide_eq_true_eq]at d;refine⟨d.1,?_⟩;unfold lH at j;simp only at j;split at j
  ·assumption
  ·cases j
 ·obtain⟨d,_⟩:=l x hx y g
  simp only[jb,List.append_eq_nil_iff,cO,bJ,Bool.or_eq_true,decide_eq_true_eq]at d;exact d.2 r q
structure Cs (named:ByteArray→Bool) (br:Nat→cW→Nat×Int×Int) (P:aC):Prop where
 names:vN named P
 counts:sh P
 Qg:vO P
 Q5:kH P
 QS:∀x∈P.Q3,iy P false x.QF
 QW:∀x∈P.Q4,iy P true x.QF
 who:BV P
 Q9:vM (fun M y=>(br M y).2) P
 image:pages br P≤1024
theorem tw{br:Nat→cW→Nat×Int×Int}{P:aC}:∀g∈dF named br P,∀r,g.2 r≠0:=by
 intro g d r;simp only[dF,List.mem_cons,List.mem_nil_iff,or_false]at d
 rcases d with rfl|rfl|rfl|rfl|rfl|rfl|rfl|rfl
 ·show cq r≠0;unfold cq;repeat' split
  all_goals omega
 ·show eK r≠0;unfold eK;omega
 ·show pB r≠0;unfold pB;repeat' split
  all_goals omega
 ·show fQ r≠0;unfold fQ;repeat' split
  all_goals omega
 ·show eY r≠0;unfold eY;repeat' split
  all_goals omega
 ·show pA r≠0;unfold pA;repeat' split
  all_goals omega
 ·show fP r≠0;unfold fP;repeat' split
  all_goals omega
 ·show vR r≠0;unfold vR;omega
end Go.Proofs.YtpblcjipmoblnaaGreatDoor.Ck
namespace Go.Proofs.YtpblcjipmoblnaaGreatDoor.Ck
def gO(P:aC)(m:Map):Nat:=(aS P m.of).size / 4096
theorem pj{P:aC}(g:∀s,(aS P s).size≤67108864){d:Bool}:∀{l:List Map} {pages:Nat},pages≤131072→(bZ P d pages l).1=[] →
 (bZ P d pages l).2=pages+(l.map (gO P)).sum∧pages+(l.map (gO P)).sum≤131072
 | [],pages,hp,_=>by simpa[bZ]using hp
 | a::t,pages,hp,h=>by
  have r:=g a.of;have e:(pages+(aS P a.of).size / 4096)%M64=pages+gO P a:=Nat.mod_eq_of_lt (by unfold M64;omega);simp only[bZ,List.append_eq_nil_iff,bJ,decide_eq_true_eq]at h⊢;rw[e]at h⊢;obtain⟨⟨_,j⟩,p⟩:=h;obtain⟨q,u⟩:=pj g j p;simp only[List.map_cons,List.sum_cons];exact⟨by rw[q];omega,χ⟩
theorem kW{P:aC}(j:∀s,(aS P s).size≤67108864){d:Bool}:∀{ls:List (List Map)} {pages:Nat},pages≤131072→(cB P d pages ls).1=[] →
 (cB P d pages ls).2=pages+(ls.map fun l=>(l.map (gO P)).sum).sum∧pages+(ls.map fun l=>(l.map (gO P)).sum).sum≤131072
 | [],pages,hp,_=>by simpa[cB]using hp
 | a::t,pages,hp,h=>by
  simp only[cB,List.append_eq_nil_iff]at h⊢;obtain⟨⟨p,_⟩,g⟩:=h;obtain⟨q,r⟩:=pj j hp p;rw[q]at g⊢;obtain⟨u,v⟩:=kW j r g;simp only[List.map_cons,List.sum_cons];exact⟨by rw[u];omega,χ⟩
variable {named:ByteArray→Bool} {s:ByteArray}
theorem Ct{l:List Nm}(g:∀x∈l,named x.1=true)(h:BM l):once named l=[]:=by
 simp only[once,List.append_eq_nil_iff,cO,bJ];exact⟨g,eF.2 fun i j x y d hx p=>if_neg (h i j x y d hx p)⟩
def BX(named:ByteArray→Bool)(br:Nat→cW→Nat×Int×Int)(P:aC):Prop:=∀g∈dF named br P,g.1=[]
def s9(P:aC):Nat:=((P.Q3.map aj.QF).map fun l=>(l.map (gO P)).sum).sum+((P.Q4.map bA.QF).map fun l=>(l.map (gO P)).sum).sum
structure ox (named:ByteArray→Bool) (br:Nat→cW→Nat×Int×Int) (P:aC):Prop extends Cs named br P where
 mapped:s9 P≤131072
theorem rz{α:Type}{p:α→Bool}{l:List α}{x:α}(h:l.find? p=some x):x∈l∧p x=true:=⟨List.mem_of_find?_eq_some h,List.find?_some h⟩
theorem lR{P:aC}{t:jl}(h:eD P s=some t):(∃x∈P.Q5,x.name=s∧t=⟨x.size,x.big,x.wx⟩)∨∃x∈P.Q4,x.name=s∧t=⟨x.size,false,false⟩:=by
 unfold eD at h;split at h
 ·rename_i x hx
  obtain⟨d,g⟩:=rz hx;exact .inl ⟨x,d,by simpa using g,(Option.some.inj h).symm⟩
 ·rw[Option.map_eq_some_iff]at h
  obtain⟨x,hx,rfl⟩:=h;obtain⟨d,g⟩:=rz hx;exact .inr ⟨x,d,by simpa using g,rfl⟩
theorem nN{P:aC}(d:vO P)(g:kH P)(s:ByteArray):(aS P s).size≤67108864:=by
 unfold aS
 cases h:eD P s with
 | none=>simp
 | some t =>
  rcases lR h with⟨x,hx,_,rfl⟩|⟨x,hx,_,rfl⟩
  ·exact(g.one x hx).2.1
  ·have:=(d.dev x hx).2.1
   simp only[Option.getD_some];omega
theorem iW{P:aC}(h:has P.things s=true):∃t,eD P s=some t:=by
 unfold eD;split
 ·exact⟨_,rfl⟩
 ·rename_i g
  obtain⟨p,d⟩:=fo.1 h
  rcases List.mem_append.1 d with d|d
  ·obtain⟨x,hx,e⟩:=List.mem_map.1 d
   cases hf:P.Q4.find? (fun x=>decide (x.name=s))with
   | some y=>exact⟨_,rfl⟩
   | none =>
    have:=List.find?_eq_none.1 hf x hx;simp only[Prod.mk.injEq]at e;simp[e.1]at this
  ·obtain⟨x,hx,e⟩:=List.mem_map.1 d
   have:=List.find?_eq_none.1 g x hx;simp only[Prod.mk.injEq]at e;simp[e.1]at this
theorem oI{P:aC}(h:has P.regs s=true):has P.things s=true:=by
 obtain⟨p,d⟩:=fo.1 h;exact fo.2 ⟨p,List.mem_append_right _ d⟩
theorem vY{P:aC}(g:vO P)(j:kH P){s:ByteArray}(h:has P.things s=true):0<(aS P s).size:=by
 obtain⟨t,d⟩:=iW h;unfold aS;rw[d]
 rcases lR d with⟨x,hx,_,rfl⟩|⟨x,hx,_,rfl⟩
 ·exact(j.one x hx).1
 ·exact(g.dev x hx).1
theorem tH{br:Nat→cW→Nat×Int×Int}{P:aC}(h:BX named br P):ox named br P:=by
 have d:=h (kP P,eY) (by simp[dF]);have m:=AU d;have g:=CP (h (sY P,pB) (by simp[dF]));have j:=tI (h (fS P,fQ) (by simp[dF]));have r:=h (lq br P,vR) (by simp[dF]);refine⟨⟨yU (h (jU named P,cq) (by simp[dF])),xF (h (fq P,eK) (by simp[dF])),g,j,m.1,m.2,
  Ba (h (rD P,pA) (by simp[dF])),yI (h (jS (fun M y=>(br M y).2) P,fP) (by simp[dF])),by simpa only[lq,bJ,decide_eq_true_eq]using r⟩,?_⟩
 simp only[kP,List.append_eq_nil_iff]at d;have l:=nN g j;obtain⟨p,q⟩:=kW l (Nat.zero_le _) d.1;rw[p]at d;obtain⟨u,v⟩:=kW l q d.2;unfold s9;omega
theorem su{br:Nat→cW→Nat×Int×Int}{P:aC}{a e:Int}(h:jm (dF named br P) a e):(e=0↔BX named br P)∧(e=0→a=0):=by
 have key:∀(l:List (List Wr×(Int→Int))) (a e:Int),(∀g∈l,∀r,g.2 r≠0)→jm l a e→(e=0↔∀g∈l,g.1=[])∧(e=0→a=0):=by
  intro l
  induction l with
  | nil=>intro a e _ h;exact⟨⟨fun _ g hg=>by simp at hg,fun _=>h.2⟩,fun _=>h.1⟩
  | cons g t ih =>
   intro a e hw h
   rcases h with⟨h1,h2⟩|⟨r,hr,_,rfl⟩
   ·obtain⟨h3,h4⟩:=ih a e (fun g hg=>hw g (List.mem_cons_of_mem _ hg)) h2
    refine⟨⟨fun e0 g' hg'=>?_,fun hall=>h3.2 fun g' hg'=>hall g' (List.mem_cons_of_mem _ hg')⟩,h4⟩
    rcases List.mem_cons.1 hg' with rfl|hg'
    ·exact h1
    ·exact h3.1 e0 g' hg'
   ·refine⟨⟨fun e0=>absurd e0 (hw g List.mem_cons_self r),fun hall=>?_⟩,fun e0=>absurd e0 (hw g List.mem_cons_self r)⟩
    rw[hall g List.mem_cons_self]at hr;simp at hr
 exact key _ a e tw h
end Go.Proofs.YtpblcjipmoblnaaGreatDoor.Ck
namespace Go.Proofs.YtpblcjipmoblnaaGreatDoor.Ck
theorem qr{l m:List Nat}(hn:l.Nodup)(h:∀x∈l,x∈m):l.length≤m.length:=by
 induction l generalizing m with
 | nil=>simp
 | cons a l ih =>
  obtain⟨h1,h2⟩:=List.nodup_cons.1 hn;have ha:=h a List.mem_cons_self;have:=ih h2 (m:=m.erase a) (fun x hx=>(List.mem_erase_of_ne (by rintro rfl;exact h1 hx)).2 (h x (List.mem_cons_of_mem _ hx)));rw[List.length_erase_of_mem ha]at this;have:=List.length_pos_of_mem ha;simp only[List.length_cons];omega
theorem oQ(l:List Nat):l.eraseDups.Nodup:=by
 induction h:l.length using Nat.strongRecOn generalizing l with
 | ind n ih =>
  cases l with
  | nil=>simp
  | cons a t =>
   rw[List.eraseDups_cons];refine List.nodup_cons.2 ⟨fun hm=>?_,ih _ ?_ _ rfl⟩
   ·have:=(List.mem_filter.1 (List.mem_eraseDups.1 hm)).2
    simp at this
   ·have:=List.length_filter_le (fun b =>!b==a) t
    simp only[List.length_cons]at h;omega
namespace Turned
variable {P Q:aC}
end Turned
namespace Turned
variable {P Q:aC}
end Turned
end Go.Proofs.YtpblcjipmoblnaaGreatDoor.Ck
namespace Go.Proofs.YtpblcjipmoblnaaGreatDoor.Ck
abbrev Sp:=Nat×Nat
def dg(l:List Sp)(p:Nat):Prop:=∃s∈l,s.1≤p∧p≤s.2
structure iN (l:List Sp):Prop where
 some_:∀s∈l,s.1≤s.2
 apart:l.Pairwise fun a b=>a.2+1<b.1
def cg(out:List Sp)(x:Sp):List Sp:=
 match out.getLast? with
 | none=>[x]
 | some y=>if x.1≤y.2+1 then out.dropLast++[(y.1,max y.2 x.2)]else out++[x]
theorem oD{l:List Sp}{y:Sp}(h:l.getLast?=some y):∃t,l=t++[y]∧l.dropLast=t:=by
 obtain⟨t,d⟩:=List.getLast?_eq_some_iff.1 h;exact⟨t,d,by rw[d];simp⟩
theorem yY{j:List Sp}{x:Sp}(h:iN j)(hx:x.1≤x.2)(u:∀s∈j,s.1≤x.1):
 iN (cg j x)∧(∀p,dg (cg j x) p↔dg j p∨(x.1≤p∧p≤x.2))∧∀s∈cg j x,s.1≤x.1:=by
 unfold cg
 cases hl:j.getLast? with
 | none =>
  have:j=[]:=List.getLast?_eq_none_iff.1 hl;subst this;refine⟨⟨by simpa using hx,ξ⟩,fun p=>by simp[dg],ξ⟩
 | some y =>
  obtain⟨t,C,B⟩:=oD hl;subst C;have v:=List.pairwise_append.1 h.apart;have D:=h.some_ y ξ;have w:=u y ξ
  dsimp only
  split
  ·rename_i A
   rw[B];refine⟨⟨fun s d=>?_,List.pairwise_append.2 ⟨v.1,ξ,fun a q b r=>?_⟩⟩,fun p=>?_,fun s d=>?_⟩
   ·rcases List.mem_append.1 d with d|d
    ·exact h.some_ s (by simp[d])
    ·have:s=(y.1,max y.2 x.2):=by simpa using d
     subst this;show y.1≤max y.2 x.2;omega
   ·have:b=(y.1,max y.2 x.2):=by simpa using r
    subst this;exact v.2.2 a q y ξ
   ·simp only[dg,List.mem_append,List.mem_singleton]
    constructor
    ·rintro⟨s,d|rfl,g,l⟩
     ·exact .inl ⟨s,.inl d,g,l⟩
     ·dsimp only at g l
      by_cases h3:p≤y.2
      ·exact .inl ⟨y,.inr rfl,g,h3⟩
      ·exact .inr ⟨χ,χ⟩
    ·rintro(⟨s,d|rfl,g,l⟩|⟨g,l⟩)
     ·exact⟨s,.inl d,g,l⟩
     ·exact⟨_,.inr rfl,g,by show p≤max s.2 x.2;omega⟩
     ·exact⟨_,.inr rfl,by show y.1≤p;omega,by show p≤max y.2 x.2;omega⟩
   ·rcases List.mem_append.1 d with d|d
    ·exact u s (by simp[d])
    ·have:s=(y.1,max y.2 x.2):=by simpa using d
     subst this;exact w
  ·rename_i A
   refine⟨⟨fun s d=>?_,List.pairwise_append.2 ⟨h.apart,ξ,fun a q b r=>?_⟩⟩,fun p=>?_,fun s d=>?_⟩
   ·rcases List.mem_append.1 d with d|d
    ·exact h.some_ s d
    ·have:s=x:=by simpa using d
     subst this;exact hx
   ·have:b=x:=by simpa using r
    subst this
    rcases List.mem_append.1 q with q|q
    ·have g:=v.2.2 a q y ξ
     omega
    ·have:a=y:=by simpa using q
     subst this;omega
   ·simp only[dg,List.mem_append,List.mem_singleton]
    constructor
    ·rintro⟨s,(d|rfl)|rfl,g,l⟩
     ·exact .inl ⟨s,.inl d,g,l⟩
     ·exact .inl ⟨s,.inr rfl,g,l⟩
     ·exact .inr ⟨g,l⟩
    ·rintro(⟨s,d|rfl,g,l⟩|⟨g,l⟩)
     ·exact⟨s,.inl (.inl d),g,l⟩
     ·exact⟨s,.inl (.inr rfl),g,l⟩
     ·exact⟨x,.inr rfl,g,l⟩
   ·rcases List.mem_append.1 d with d|d
    ·exact u s d
    ·have:s=x:=by simpa using d
     subst this;exact Nat.le_refl _
def an(l:List Sp):List Sp:=l.foldl cg []
theorem fK(l:List Sp)(x:Sp):an (l++[x])=cg (an l) x:=by simp[an]
theorem mT:∀(n:Nat) (l:List Sp),l.length=n→(∀s∈l,s.1≤s.2)→l.Pairwise (fun a b=>a.1≤b.1)→iN (an l)∧(∀p,dg (an l) p↔dg l p)∧∀x,(∀s∈l,s.1≤x)→∀s∈an l,s.1≤x
 | 0,l,hl,_,_=>by
  have:l=[]:=List.length_eq_zero_iff.1 hl;subst this;exact⟨⟨by simp[an],by simp[an]⟩,fun p=>by simp[an,dg],fun x _ s q=>by simp[an]at q⟩
 | n+1,l,hl,q,hp=>by
  obtain⟨t,x,rfl⟩:∃t x,l=t++[x]:=by
   have d:l≠[]:=by intro e;rw[e]at hl;simp at hl
   exact⟨l.dropLast,l.getLast d,(List.dropLast_concat_getLast d).symm⟩
  have g:=List.pairwise_append.1 hp;obtain⟨y,A,B⟩:=mT n t (by simpa using hl) (fun s h=>q s (by simp[h])) g.1;have v:∀s∈an t,s.1≤x.1:=B x.1 fun s h=>g.2.2 s h x ξ
  obtain⟨C,D,E⟩:=yY y (q x ξ) v;rw[fK];refine⟨C,fun p=>?_,fun z w s u=>?_⟩
  ·rw[D,A]
   simp only[dg,List.mem_append,List.mem_singleton];constructor
   ·rintro(⟨s,r,j⟩|h)
    ·exact⟨s,.inl r,j⟩
    ·exact⟨x,.inr rfl,h⟩
   ·rintro⟨s,r|rfl,j⟩
    ·exact .inl ⟨s,r,j⟩
    ·exact .inr j
  ·exact Nat.le_trans (E s u) (w x ξ)
theorem uG{l:List Sp}(h:iN l){a b i:Nat}(C:a≤b)(J:∀j s,j<i→l[j]?=some s→s.2<a)(K:∀s,l[i]?=some s→a≤s.2):
 (∀p,a≤p→p≤b→dg l p)↔∃s,l[i]?=some s∧s.1≤a∧b≤s.2:=by
 constructor
 ·intro I
  obtain⟨s,B,E,Q⟩:=I a (Nat.le_refl _) C;obtain⟨j,A⟩:=List.getElem?_of_mem B;have L:i≤j:=by
   rcases Nat.lt_or_ge j i with g|g
   ·have:=J j s g A;omega
   ·exact g
  obtain⟨w,d⟩:∃s,l[i]?=some s:=⟨_,List.getElem?_eq_getElem (by have:=(List.getElem?_eq_some_iff.1 A).1;omega)⟩;have H:w=s∧i=j:=by
   rcases Nat.lt_or_ge i j with g|g
   ·obtain⟨q,r⟩:=List.getElem?_eq_some_iff.1 d
    obtain⟨D,v⟩:=List.getElem?_eq_some_iff.1 A;have:=List.pairwise_iff_getElem.1 h.apart i j q D g;rw[r,v]at this;have:=K w d;omega
   ·have:i=j:=χ
    subst this;exact⟨Option.some.inj (d.symm.trans A),rfl⟩
  obtain⟨r,v⟩:=H;subst r;subst v;refine⟨w,d,E,?_⟩
  rcases Nat.lt_or_ge w.2 b with g|g
  ·exfalso
   -- the point behind the span is in none
   obtain⟨u,R,S,U⟩:=I (w.2+1) χ χ;obtain⟨k,hk⟩:=List.getElem?_of_mem R;obtain⟨q,r⟩:=List.getElem?_eq_some_iff.1 d;obtain⟨y,v⟩:=List.getElem?_eq_some_iff.1 hk
   rcases Nat.lt_trichotomy i k with x|x|x
   ·have:=List.pairwise_iff_getElem.1 h.apart i k q y x
    rw[r,v]at this;omega
   ·subst x
    have:w=u:=by rw[←r,←v]
    subst this;omega
   ·have:=List.pairwise_iff_getElem.1 h.apart k i y q x
    have V:=h.some_ w B;rw[r,v]at this;omega
  ·exact g
 ·rintro⟨s,B,g,x⟩ p N O
  exact⟨s,List.mem_of_getElem? B,χ,χ⟩
