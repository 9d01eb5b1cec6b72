import GoSem.Core.World
import Derived.Below
set_option maxRecDepth 100000
set_option maxHeartbeats 4000000
set_option linter.unusedVariables false
set_option linter.unusedSimpArgs false
set_option linter.unnecessarySimpa false
namespace Go.Proofs.YtpblcjipmoblnaaGreatDoor
open Go Go.RowKit
structure Run where
 pos:Int
 QM:ByteArray
 QT:Nat
 per:Nat
structure bH where
 QM:ByteArray
 QH:Int
 to:Int
namespace Ln
def run(l:List bH)(s:ByteArray)(t:Int):List bH:=
 match l.getLast? with
 | none=>[⟨s,0,t⟩]
 | some x=>if x.QM=s then l.dropLast++[⟨x.QM,x.QH,x.to+t⟩]else l++[⟨s,x.to,x.to+t⟩]
def xX:Int→Option ByteArray→List bH→Int
 | e,_,[]=>e
 | e,p,s::l=>if s.QH≠e∨s.to≤s.QH∨p=some s.QM then 0 else xX s.to (some s.QM) l
def part(s:ByteArray)(x:bH):Int:=if x.QM=s∧0≤x.QH∧x.QH<x.to∧x.to≤65536 then x.to-x.QH else 0
def yo(s:ByteArray):Int→List bH→Int
 | n,[]=>n
 | n,x::l=>yo s (n+part s x) l
theorem part_le(s:ByteArray)(x:bH):0≤part s x∧part s x≤65536:=by unfold part;split<;>omega
def ia(l:List bH):Int:=match l.getLast? with|none=>0|some x=>x.to
def right(M:Nat)(r:Run)(nd:Bool):Int:=
 if r.QT=0∨M<r.QT then 90
 else if nd=true∧r.QM.toList.isEmpty=true then 80
 else if nd=true∧(r.per<r.QT∨M<r.per∨((M:Int)%(r.per:Int)!=0)=true)then 91
 else 0
def ec(M:Nat)(r:Run)(nd:Bool):Nat:=if nd then r.QT*(M / r.per)else r.QT
theorem gR{M:Nat}{r:Run}{d:Bool}(h:right M r d=0):1≤r.QT∧r.QT≤M∧(d=true→r.QM.toList.isEmpty=false∧r.QT≤r.per∧1≤r.per∧r.per≤M∧M%r.per=0):=by
 unfold right at h;split at h
 ·simp at h
 split at h
 ·simp at h
 split at h
 ·simp at h
 rename_i n b a
 refine⟨by omega,by omega,fun l=>?_⟩;subst l;simp only[true_and]at b a;have e:r.QT≤r.per:=by
  rcases Nat.lt_or_ge r.per r.QT with h|h
  ·exact absurd (.inl h) a
  ·exact h
 have g:r.per≤M:=by
  rcases Nat.lt_or_ge M r.per with h|h
  ·exact absurd (.inr (.inl h)) a
  ·exact h
 have i:((M:Int)%(r.per:Int)!=0)=false:=by
  rcases Bool.eq_false_or_eq_true ((M:Int)%(r.per:Int)!=0)with h|h
  ·exact absurd (.inr (.inr h)) a
  ·exact h
 refine⟨by simpa using b,e,by omega,g,?_⟩;have j:(M:Int)%(r.per:Int)=0:=by simpa using i
 have p:((M%r.per:Nat):Int)=0:=by simpa using j
 omega
theorem pP{M:Nat}{r:Run}{a:Bool}(h:right M r a=0):ec M r a≤M:=by
 obtain⟨g,b,d⟩:=gR h;unfold ec
 cases a
 ·simpa using b
 ·obtain⟨_,e,i,j,_⟩:=d rfl
  exact Nat.le_trans (Nat.mul_le_mul_right _ e) (Nat.mul_div_le M r.per)
def iv:Int→List bH→Int
 | e,[]=>e
 | _,s::l=>iv s.to l
end Ln
structure yJ where
 QM:Int
 QW:Int
namespace Ln
def take(M o e who left s t:Int):Bool×Int×Int×Int:=
 let e':=e+min t (M-e)
 let s':=max s (-1)
 if e'≤o then(decide (e'<M),e',who,left)
 else if left=0 then(decide (e'<M),e',s',e'-max e o)
 else if s'=who then(decide (e'<M),e',who,left+(e'-e))
 else(false,e',who,left)
def yp(M o:Int):Int→Int→Int→List yJ→Int×Int
 | e,who,left,[]=>let r:=take M o e who left (-1) M;(r.2.2.1,r.2.2.2)
 | e,who,left,x::l =>
  if x.QW≤0 then yp M o e who left l
  else
   let r:=take M o e who left x.QM x.QW
   if r.1 then yp M o r.2.1 r.2.2.1 r.2.2.2 l else(r.2.2.1,r.2.2.2)
def Q7(l:List yJ)(M o:Int):Int×Int:=if o<0∨M≤o then(-1,0)else yp M o 0 (-1) 0 l
def cC(M:Nat)(nd:Bool):Nat→Nat→List Run→Option (Int×Int)
 | _,_,[]=>none
 | i,sum,r::l=>if right M r nd=0 then(if M<sum+ec M r nd then some (i,93)else cC M nd (i+1) (sum+ec M r nd) l)else some (i,right M r nd)
def ez(l:List bH)(rs:List Run):List bH:=rs.foldl (fun acc r=>run acc r.QM r.QT) l
def fill(M:Nat)(l:List bH):List bH:=if 0<(M:Int)-ia l then run l ByteArray.empty (M-ia l)else l
def ew(l:List bH):List bH×Int×Int:=if 4096<l.length then([], -1,4)else(l,0,0)
def lG(T:Int)(l:List bH):Prop:=∀x∈l,0≤x.to∧x.to≤T
theorem lQ(T:Int):lG T []:=fun x h=>by simp at h
theorem lG.run{T:Int}{l:List bH}(h:lG T l)(e:0≤T)(s:ByteArray){t:Int}(b:0≤t):lG (T+t) (run l s t):=by
 unfold Ln.run;split
 ·intro x hx
  simp at hx;subst hx;exact⟨b,by simp;omega⟩
 ·rename_i y d
  have a:=List.mem_of_getLast? d;have g:=h y a;split
  ·intro x hx
   rcases List.mem_append.1 hx with hx|hx
   ·have:=h x ((List.dropLast_sublist l).subset hx)
    exact⟨this.1,by omega⟩
   ·simp at hx;subst hx
    exact⟨by simp;omega,by simp;omega⟩
  ·intro x hx
   rcases List.mem_append.1 hx with hx|hx
   ·have:=h x hx
    exact⟨this.1,by omega⟩
   ·simp at hx;subst hx
    exact⟨by simp;omega,by simp;omega⟩
theorem jb(l:List bH)(s:ByteArray)(t:Int):(run l s t).length≤l.length+1:=by
 unfold Ln.run;split
 ·simp
 ·split
  all_goals(simp only[List.length_append,List.length_dropLast,List.length_cons,List.length_nil];omega)
theorem lG.end_{T:Int}{l:List bH}(h:lG T l)(a:0≤T):0≤ia l∧ia l≤T:=by
 unfold ia;split
 ·exact⟨by omega,a⟩
 ·rename_i y b
  exact h y (List.mem_of_getLast? b)
def fo(l:List Run):Nat:=l.foldr (fun r n=>r.QT+n) 0
theorem iK{M:Nat}{nd:Bool}{l:List Run}:∀{i s:Nat},cC M nd i s l=none→(∀r∈l,right M r nd=0)∧(nd=false→s≤M→s+fo l≤M):=by
 induction l with
 | nil=>intro i s _;exact⟨fun r h=>by simp at h,fun _ h=>by simpa[fo]using h⟩
 | cons r l ih =>
  intro i s h;simp only[cC]at h;split at h
  ·rename_i hr
   split at h
   ·simp at h
   ·rename_i hs
    obtain⟨h1,h2⟩:=ih h;refine⟨fun x hx=>?_,fun hn hm=>?_⟩
    ·rcases List.mem_cons.1 hx with rfl|hx
     ·exact hr
     ·exact h1 x hx
    ·have:=h2 hn (by omega)
     subst hn;simp only[fo,List.foldr_cons,ec,Bool.false_eq_true,if_false]at this⊢;omega
  ·simp at h
theorem rH{l:List Run}(h:∀r∈l,1≤r.QT):l.length≤fo l:=by
 induction l with
 | nil=>simp
 | cons r l ih =>
  have h1:=ih (fun x hx=>h x (List.mem_cons_of_mem _ hx));have h2:=h r (by simp);simp only[fo,List.foldr_cons,List.length_cons]at h1⊢;omega
end Ln
structure Job where
 need:Int
 due:Int
 left:Int
namespace Ln
variable {l:List Job} {i j n:Nat}
def jlt(a b:Job):Prop:=a.due<b.due∨a.due=b.due∧a.need<b.need
instance (a b:Job):Decidable (jlt a b):=inferInstanceAs (Decidable (_∨_∧_))
theorem et(a:Job):¬ jlt a a:=by unfold jlt;omega
theorem gZ{a b c:Job}(h:¬ jlt b a)(k:¬ jlt c b):¬ jlt c a:=by unfold jlt at *; omega
theorem jN{a b:Job}(h:jlt a b):¬ jlt b a:=by unfold jlt at *; omega
def cL(l:List Job)(i j:Nat)(a b:Job):List Job:=(l.set i b).set j a
theorem dZ{a b:Job}:(cL l i j a b).length=l.length:=by simp[cL]
theorem eP{a b:Job}(g:l[i]?=some a)(h:l[j]?=some b):(cL l i j a b).Perm l:=by
 obtain⟨d,rfl⟩:=List.getElem?_eq_some_iff.1 g;obtain⟨e,rfl⟩:=List.getElem?_eq_some_iff.1 h;exact List.set_set_perm d e
theorem da{a b:Job}(g:l[i]?=some a)(h:l[j]?=some b)(k:Nat):(cL l i j a b)[k]?=if k=j then some a else if k=i then some b else l[k]?:=by
 have d:=(List.getElem?_eq_some_iff.1 g).1;have e:=(List.getElem?_eq_some_iff.1 h).1;unfold cL
 by_cases e1:k=j
 ·subst e1;rw[List.getElem?_set_self (by simpa using e),if_pos rfl]
 ·rw[List.getElem?_set_ne (by omega),if_neg e1]
  by_cases e2:k=i
  ·subst e2;rw[List.getElem?_set_self d,if_pos rfl]
  ·rw[List.getElem?_set_ne (by omega),if_neg e2]
def iT(l:List Job)(n j:Nat):Prop:=∀k x y,0<k→k<n→k≠j→l[k]?=some x→l[(k-1) / 2]?=some y→¬ jlt x y
def sJ(l:List Job)(n j:Nat):Prop:=∀k x y,0<k→k<n→(k-1) / 2=j→0<j→l[k]?=some x→l[(j-1) / 2]?=some y→¬ jlt x y
def bV(l:List Job)(n:Nat):Prop:=∀k x y,0<k→k<n→l[k]?=some x→l[(k-1) / 2]?=some y→¬ jlt x y
theorem bV.root{l:List Job}{n:Nat}(h:bV l n)(hn:n≤l.length):∀k x r,k<n→l[k]?=some x→l[0]?=some r→¬ jlt x r:=by
 intro k
 induction k using Nat.strongRecOn with
 | _ k ih =>
  intro x r hk hx hr
  rcases Nat.eq_zero_or_pos k with h0|h0
  ·subst h0;rw[hx]at hr;injection hr with hr;subst hr;exact et _
  ·obtain⟨y,hy⟩:∃y,l[(k-1) / 2]?=some y:=⟨_,List.getElem?_eq_getElem (by omega)⟩
   exact gZ (ih ((k-1) / 2) (by omega) y r (by omega) hy hr) (h k x y h0 hk hx hy)
theorem wi{a b:Job}(E:0<j)(G:j<n)(H:n≤l.length)(r:iT l n j)(C:sJ l n j)(h:l[(j-1) / 2]?=some a)(D:l[j]?=some b)(A:jlt b a):
 iT (cL l ((j-1) / 2) j a b) n ((j-1) / 2)∧sJ (cL l ((j-1) / 2) j a b) n ((j-1) / 2):=by
 have i:=da h D;constructor
 ·intro k x y e g v hx d
  rw[i]at hx d
  by_cases e1:k=j
  ·subst e1
   rw[if_pos rfl]at hx;rw[if_neg (by omega),if_pos rfl]at d
   injection hx with hx;injection d with d
   subst hx d;exact jN A
  ·rw[if_neg e1,if_neg v]at hx
   by_cases e2:(k-1) / 2=j
   ·rw[if_pos e2]at d
    injection d with d
    subst d;exact C k x a e g e2 E hx h
   ·rw[if_neg e2]at d
    by_cases e3:(k-1) / 2=(j-1) / 2
    ·rw[if_pos e3]at d
     injection d with d
     subst d;have:=r k x a e g e1 hx (by rw[e3];exact h);unfold jlt at *;omega
    ·rw[if_neg e3]at d
     exact r k x y e g e1 hx d
 ·intro k x y e g w u hx d
  rw[i]at hx d;have q:∃z,l[((j-1) / 2-1) / 2]?=some z:=⟨_,List.getElem?_eq_getElem (by omega)⟩;obtain⟨z,B⟩:=q;rw[if_neg (by omega),if_neg (by omega),B]at d
  injection d with d
  subst d;have p:=r ((j-1) / 2) a z u (by omega) (by omega) h B
  by_cases e1:k=j
  ·rw[if_pos e1]at hx
   injection hx with hx
   subst hx;exact p
  ·rw[if_neg e1,if_neg (by omega)]at hx
   have:=r k x a e g e1 hx (by rw[w];exact h);exact gZ p this
theorem sN(u:iT l n j)(h:j=0∨∃a b,l[(j-1) / 2]?=some a∧l[j]?=some b∧¬ jlt b a):bV l n:=by
 intro k x y p q hx r
 by_cases e:k=j
 ·rcases h with h|⟨a,b,d,g,i⟩
  ·omega
  ·subst e
   rw[hx]at g;rw[r]at d
   injection g with g;injection d with d
   subst g d;exact i
 ·exact u k x y p q e hx r
def eN(l:List Job)(n i:Nat):Prop:=
 (∀k x y,0<k→k<n→(k-1) / 2≠i→l[k]?=some x→l[(k-1) / 2]?=some y→¬ jlt x y)∧sJ l n i
theorem ke{a b:Job}(C:(j-1) / 2=i)(v:0<j)(w:j<n)(G:n≤l.length)(h:eN l n i)(E:l[i]?=some a)(u:l[j]?=some b)
 (r:∀k x,0<k→k<n→(k-1) / 2=i→l[k]?=some x→¬ jlt x b)(A:jlt b a):eN (cL l i j a b) n j:=by
 obtain⟨B,D⟩:=h;have q:=da E u;constructor
 ·intro k x y e g p hx d
  rw[q]at hx d;rw[if_neg p]at d
  by_cases e1:k=j
  ·rw[if_pos e1]at hx
   injection hx with hx;subst hx
   rw[if_pos (by omega)]at d
   injection d with d;subst d
   exact jN A
  ·rw[if_neg e1]at hx
   by_cases e2:k=i
   ·rw[if_pos e2]at hx
    injection hx with hx;subst hx
    rw[if_neg (by omega)]at d;subst e2;exact D j b y v w C e u d
   ·rw[if_neg e2]at hx
    by_cases e3:(k-1) / 2=i
    ·rw[if_pos e3]at d
     injection d with d;subst d
     exact r k x e g e3 hx
    ·rw[if_neg e3]at d
     exact B k x y e g e3 hx d
 ·intro k x y e g p _ hx d
  rw[q]at hx d;rw[if_neg (by omega),if_neg (by omega)]at hx;rw[if_neg (by omega),if_pos C]at d
  injection d with d;subst d
  exact B k x b e g (by omega) hx (by rw[p];exact u)
theorem kf{a:Job}(h:eN l n i)(j:l[i]?=some a)(p:∀k x,0<k→k<n→(k-1) / 2=i→l[k]?=some x→¬ jlt x a):bV l n:=by
 intro k x y b d hx g
 by_cases e:(k-1) / 2=i
 ·rw[e,j]at g
  injection g with g;subst g
  exact p k x b d e hx
 ·exact h.1 k x y b d e hx g
end Ln
end Go.Proofs.YtpblcjipmoblnaaGreatDoor
namespace Go.Proofs.YtpblcjipmoblnaaGreatDoor
open Go Go.RowKit
namespace Ln
variable {ts:List ByteArray}
theorem oh(s:ByteArray)(t:Int):run [] s t=[⟨s,0,t⟩]:=rfl
theorem gP(l:List bH)(x:bH)(s:ByteArray)(t:Int):run (l++[x]) s t=if x.QM=s then l++[⟨x.QM,x.QH,x.to+t⟩]else l++[x]++[⟨s,x.to,x.to+t⟩]:=by
 unfold run;rw[List.getLast?_concat];simp only[List.dropLast_concat]
theorem og(l:List bH):l=[]∨∃m x,l=m++[x]:=by
 rcases List.eq_nil_or_concat l with h|⟨m,x,h⟩
 ·exact .inl h
 ·exact .inr ⟨m,x,by rw[h,List.concat_eq_append]⟩
theorem wv(l:List bH)(s:ByteArray)(a b:Int):run (run l s a) s b=run l s (a+b):=by
 rcases og l with rfl|⟨m,x,rfl⟩
 ·rw[oh,show[(⟨s,0,a⟩:bH)]=[]++[⟨s,0,a⟩] from rfl,gP,if_pos rfl,oh]
  simp
 ·rw[gP,gP]
  by_cases h:x.QM=s
  ·rw[if_pos h,if_pos h,gP,if_pos h];simp[Int.add_assoc]
  ·rw[if_neg h,if_neg h,gP,if_pos rfl];simp[Int.add_assoc]
def cQ(l:List bH)(ts:List ByteArray):List bH:=ts.foldl (fun l s=>run l s 1) l
theorem eR(l:List bH)(a b:List ByteArray):cQ l (a++b)=cQ (cQ l a) b:=by simp[cQ]
theorem tM(l:List bH)(s:ByteArray)(n:Nat):run l s ((n+1:Nat):Int)=cQ l (List.replicate (n+1) s):=by
 induction n with
 | zero=>rfl
 | succ n ih =>
  rw[List.replicate_succ',eR,←ih];show _=run _ s 1;rw[wv];congr 1
theorem lc(l:List bH)(s:ByteArray){n:Nat}(h:0<n):run l s (n:Int)=cQ l (List.replicate n s):=by
 obtain⟨k,rfl⟩:∃k,n=k+1:=⟨n-1,by omega⟩;exact tM l s k
def kd(xs:List Run):List ByteArray:=xs.flatMap fun r=>List.replicate r.QT r.QM
theorem nG{xs:List Run}(h:∀r∈xs,1≤r.QT):∀(l:List bH),ez l xs=cQ l (kd xs):=by
 induction xs with
 | nil=>intro l;rfl
 | cons r xs ih =>
  intro l;have h1:=h r (by simp);show ez (run l r.QM r.QT) xs=cQ l (List.replicate r.QT r.QM++kd xs);rw[ih (fun x hx=>h x (List.mem_cons_of_mem _ hx)),eR,lc _ _ (by omega)]
theorem nV(xs:List Run):(kd xs).length=fo xs:=by
 induction xs with
 | nil=>rfl
 | cons r xs ih=>simp only[kd,List.flatMap_cons,List.length_append,List.length_replicate,fo,List.foldr_cons]at ih⊢; omega
def kn:Int→Option ByteArray→List bH→Prop
 | _,_,[]=>True
 | e,p,s::l=>s.QH=e∧s.QH<s.to∧p≠some s.QM∧kn s.to (some s.QM) l
def iw:Option ByteArray→List bH→Option ByteArray
 | p,[]=>p
 | _,s::l=>iw (some s.QM) l
theorem nR(l:List bH)(x:bH):∀p,iw p (l++[x])=some x.QM:=by
 induction l with
 | nil=>intro p;rfl
 | cons s l ih=>intro p;exact ih _
theorem fK(l:List bH)(x:bH):∀e,iv e (l++[x])=x.to:=by
 induction l with
 | nil=>intro e;rfl
 | cons s l ih=>intro e;exact ih _
theorem jD{l:List bH}{x:bH}:∀{e p},kn e p (l++[x])↔kn e p l∧x.QH=iv e l∧x.QH<x.to∧iw p l≠some x.QM:=by
 induction l with
 | nil=>intro e p;simp[kn,iv,iw]
 | cons s l ih =>
  intro e p;simp only[List.cons_append,kn,iv,iw,ih];constructor
  ·rintro⟨h1,h2,h3,h4,h5⟩;exact⟨⟨h1,h2,h3,h4⟩,h5⟩
  ·rintro⟨⟨h1,h2,h3,h4⟩,h5⟩;exact⟨h1,h2,h3,h4,h5⟩
theorem mZ(l:List bH):ia l=iv 0 l:=by
 rcases og l with rfl|⟨m,x,rfl⟩
 ·rfl
 ·rw[fK];unfold ia;rw[List.getLast?_concat]
structure nf (l:List bH) (ts:List ByteArray):Prop where
 chain:kn 0 none l
 last:iv 0 l=ts.length
 tick:∀(o:Nat) (s:ByteArray),ts[o]?=some s→∃x∈l,x.QH≤(o:Int)∧(o:Int)<x.to∧x.QM=s
theorem qY:nf [] []:=⟨trivial,rfl,fun o s h=>by simp at h⟩
theorem nf.run{l:List bH}(h:nf l ts)(s:ByteArray):nf (run l s 1) (ts++[s]):=by
 obtain⟨g,i,j⟩:=h
 rcases og l with rfl|⟨m,x,rfl⟩
 ·have p:ts=[]:=by simpa[iv,eq_comm]using i
  subst p;refine⟨⟨rfl,by simp,by simp,trivial⟩,rfl,fun o y a=>?_⟩;have q:o=0:=by
   rcases Nat.eq_zero_or_pos o with h|h
   ·exact h
   ·rw[List.getElem?_eq_none (by simp;omega)]at a;simp at a
  subst q;simp at a;subst a;exact⟨⟨s,0,1⟩,by simp[oh],by simp,by simp,rfl⟩
 ·rw[fK]at i
  obtain⟨c1,c2,r,n⟩:=jD.1 g;rw[gP];have b:∀o y,(ts++[s])[o]?=some y→(ts[o]?=some y)∨(o=ts.length∧y=s):=fun o y a=>by
   rcases Nat.lt_or_ge o ts.length with h|h
   ·rw[List.getElem?_append_left h]at a;exact .inl a
   ·rw[List.getElem?_append_right h]at a
    rcases Nat.eq_zero_or_pos (o-ts.length)with e|e
    ·rw[e]at a;simp at a;exact .inr ⟨by omega,a.symm⟩
    ·rw[List.getElem?_eq_none (by simp;omega)]at a;simp at a
  split
  ·rename_i hx
   refine⟨jD.2 ⟨c1,c2,by simp;omega,n⟩,by rw[fK];simp;omega,fun o y a=>?_⟩
   rcases b o y a with h|⟨rfl,rfl⟩
   ·obtain⟨z,d,z1,z2,z3⟩:=j o y h
    rcases List.mem_append.1 d with d|d
    ·exact⟨z,List.mem_append_left _ d,z1,z2,z3⟩
    ·simp at d;subst d
     exact⟨⟨z.QM,z.QH,z.to+1⟩,by simp,z1,by simp;omega,z3⟩
   ·exact⟨⟨x.QM,x.QH,x.to+1⟩,by simp,by simp;omega,by simp;omega,hx⟩
  ·rename_i hx
   refine⟨jD.2 ⟨g,by rw[fK],by simp;omega,by rw[nR];simpa using hx⟩,by rw[fK];simp;omega,fun o y a=>?_⟩
   rcases b o y a with h|⟨rfl,rfl⟩
   ·obtain⟨z,d,z1,z2,z3⟩:=j o y h
    exact⟨z,List.mem_append_left _ d,z1,z2,z3⟩
   ·exact⟨⟨y,x.to,x.to+1⟩,by simp,by simp;omega,by simp;omega,rfl⟩
theorem nf.rows{ts:List ByteArray}:∀{l:List bH} {us:List ByteArray},nf l us→nf (cQ l ts) (us++ts):=by
 induction ts with
 | nil=>intro l us h;simpa[cQ]using h
 | cons s ts ih =>
  intro l us h;have:=ih (h.run s)
  rwa[List.append_assoc]at this
theorem ru{M:Nat}{l:List bH}(h:nf l ts):fill M l=cQ l (List.replicate (M-ts.length) ByteArray.empty):=by
 unfold fill;rw[mZ,h.last];split
 ·rename_i a
  rw[show(M:Int)-(ts.length:Int)=((M-ts.length:Nat):Int) by omega,lc _ _ (by omega)]
 ·rw[show M-ts.length=0 by omega];rfl
def ld(M:Nat)(xs:List Run):List ByteArray:=kd xs++List.replicate (M-fo xs) ByteArray.empty
theorem vC{M:Nat}{xs:List Run}(h:∀r∈xs,1≤r.QT):fill M (ez [] xs)=cQ [] (ld M xs):=by
 rw[nG h];have a:=nf.rows (ts:=kd xs) qY;rw[List.nil_append]at a;rw[ru a,ld,eR,nV]
end Ln
end Go.Proofs.YtpblcjipmoblnaaGreatDoor
namespace Go.Proofs.YtpblcjipmoblnaaGreatDoor
namespace Edf
def sumTo:Nat→(Nat→Nat)→Nat
 | 0,_=>0
 | n+1,f=>sumTo n f+f n
theorem ig{n:Nat}{f g:Nat→Nat}(h:∀i,i<n→f i≤g i):sumTo n f≤sumTo n g:=by
 induction n with
 | zero=>exact Nat.le_refl _
 | succ n ih=>simp only[sumTo];exact Nat.add_le_add (ih fun i hi=>h i (by omega)) (h n (by omega))
theorem pX{n:Nat}{f g:Nat→Nat}(h:∀i,i<n→f i≤g i){k:Nat}(hk:k<n)(hlt:f k<g k):sumTo n f<sumTo n g:=by
 induction n with
 | zero=>omega
 | succ n ih =>
  simp only[sumTo]
  rcases Nat.lt_or_ge k n with h1|h1
  ·have:=ih (fun i hi=>h i (by omega)) h1
   have:=h n (by omega);omega
  ·obtain rfl:k=n:=by omega
   have:=ig (n:=k) (fun i hi=>h i (by omega));omega
theorem vo{n:Nat}{f:Nat→Nat}{k:Nat}(hk:k<n):f k≤sumTo n f:=by
 induction n with
 | zero=>omega
 | succ n ih =>
  simp only[sumTo]
  rcases Nat.lt_or_ge k n with h1|h1
  ·have:=ih h1;omega
  ·obtain rfl:k=n:=by omega
   omega
theorem nt{n:Nat}{f:Nat→Nat}{c:Nat}:sumTo n (fun i=>f i*c)=sumTo n f*c:=by
 induction n with
 | zero=>simp[sumTo]
 | succ n ih=>simp only[sumTo,ih,Nat.add_mul]
section
variable (n:Nat) (p b:Nat→Nat)
def due(t i:Nat):Nat:=(t / p i+1)*p i
def rel(t:Nat)(L:Nat→Nat)(i:Nat):Nat:=if t%p i=0 then b i else L i
def gT(t:Nat)(L:Nat→Nat):Nat→Option Nat
 | 0=>none
 | m+1=>match gT t L m with
  | none=>if 0<L m then some m else none
  | some k=>if 0<L m∧due p t m<due p t k then some m else some k
def dec(L:Nat→Nat)(o:Option Nat)(i:Nat):Nat:=if o=some i then L i-1 else L i
def st:Nat→Nat→Nat
 | 0=>fun _=>0
 | t+1=>dec (rel p b t (st t)) (gT p t (rel p b t (st t)) n)
def who(t:Nat):Option Nat:=gT p t (rel p b t (st n p b t)) n
end
variable {n:Nat} {p b:Nat→Nat}
theorem kV{t:Nat}{L:Nat→Nat}:∀{m:Nat},gT p t L m=none→∀i,i<m→L i=0:=by
 intro m
 induction m with
 | zero=>intro _ i hi;omega
 | succ m ih =>
  intro h i hi;simp only[gT]at h;split at h
  ·rename_i h0
   split at h
   ·simp at h
   ·rcases Nat.lt_or_ge i m with h1|h1
    ·exact ih h0 i h1
    ·obtain rfl:i=m:=by omega
     omega
  ·split at h<;>simp at h
theorem gS{t:Nat}{L:Nat→Nat}:∀{m k:Nat},gT p t L m=some k→k<m∧0<L k∧∀i,i<m→0<L i→due p t k<due p t i∨due p t k=due p t i∧k≤i:=by
 intro m
 induction m with
 | zero=>intro k h;simp[gT]at h
 | succ m ih =>
  intro k h;simp only[gT]at h;split at h
  ·rename_i h0
   split at h
   ·injection h with h
    subst h;refine⟨by omega,by assumption,fun i hi hl=>?_⟩
    rcases Nat.lt_or_ge i m with h1|h1
    ·have:=kV h0 i h1;omega
    ·obtain rfl:i=m:=by omega
     exact .inr ⟨rfl,Nat.le_refl _⟩
   ·simp at h
  ·rename_i q h0
   obtain⟨h1,h2,h3⟩:=ih h0;split at h
   ·rename_i hc
    injection h with h
    subst h;refine⟨by omega,hc.1,fun i hi hl=>?_⟩
    rcases Nat.lt_or_ge i m with h4|h4
    ·have:=h3 i h4 hl;omega
    ·obtain rfl:i=m:=by omega
     exact .inr ⟨rfl,Nat.le_refl _⟩
   ·rename_i hc
    injection h with h
    subst h;refine⟨by omega,h2,fun i hi hl=>?_⟩
    rcases Nat.lt_or_ge i m with h4|h4
    ·exact h3 i h4 hl
    ·obtain rfl:i=m:=by omega
     have:¬ due p t i<due p t q:=fun h=>hc ⟨hl,h⟩
     omega
theorem sT{t:Nat}{L:Nat→Nat}{m k:Nat}(hk:k<m)(a:0<L k)(h:∀i,i<m→0<L i→due p t k<due p t i∨due p t k=due p t i∧k≤i):gT p t L m=some k:=by
 rcases hp:gT p t L m with _|q
 ·have:=kV hp k hk;omega
 ·obtain⟨b,d,e⟩:=gS hp
  have g:=h q b d;have j:=e k hk a;have:k=q:=by omega
  rw[this]
theorem js{t:Nat}{L:Nat→Nat}{m:Nat}(h:∀i,i<m→L i=0):gT p t L m=none:=by
 rcases hp:gT p t L m with _|q
 ·rfl
 ·obtain⟨a,b,_⟩:=gS hp
  have:=h q a;omega
def ic(p b:Nat→Nat)(t d l i:Nat):Nat:=(if t / p i+1≤d / p i then l else 0)+b i*(d / p i-(t / p i+1))
def Fits(n:Nat)(p b:Nat→Nat):Prop:=∀(c:Nat→Nat) (D:Nat),(∀i,i<n→c i*p i≤D)→sumTo n (fun i=>b i*c i)≤D
theorem fits_of{M:Nat}(j:0<M)(q:∀i,i<n→1≤p i∧M%p i=0)(r:sumTo n (fun i=>b i*(M / p i))≤M):Fits n p b:=by
 intro c D l;have d:sumTo n (fun i=>b i*c i)*M≤D*M:=by
  rw[←nt];have e:sumTo n (fun i=>b i*c i*M)≤sumTo n (fun i=>b i*(M / p i)*D):=ig fun i a=>by
   obtain⟨u,g⟩:=q i a;have h:M=M / p i*p i:=by have:=Nat.div_add_mod M (p i);rw[g,Nat.add_zero,Nat.mul_comm]at this;exact this.symm
   calc b i*c i*M=b i*c i*(M / p i*p i):=by rw[←h]
    _=b i*(M / p i)*(c i*p i):=by simp only[Nat.mul_assoc,Nat.mul_left_comm,Nat.mul_comm]
    _≤b i*(M / p i)*D:=Nat.mul_le_mul_left _ (l i a)
  refine Nat.le_trans e ?_;rw[nt,Nat.mul_comm];exact Nat.mul_le_mul_left _ r
 exact Nat.le_of_mul_le_mul_right d j
theorem sp{t d l i:Nat}(q:1≤p i)(j:True):ic p b (t+1) d (if(t+1)%p i=0 then b i else l) i≤ic p b t d l i:=by
 unfold ic
 by_cases h:(t+1)%p i=0
 ·rw[if_pos h]
  have e:(t+1) / p i=t / p i+1:=by
   have g:=Nat.succ_div (a:=t) (b:=p i);rw[if_pos (Nat.dvd_of_mod_eq_zero h)]at g;exact g
  rw[e];split
  ·have:d / p i-(t / p i+1)=(d / p i-(t / p i+1+1))+1:=by omega
   rw[this,Nat.mul_add];split<;>omega
  ·have:d / p i-(t / p i+1+1)=0:=by omega
   rw[this];simp
 ·rw[if_neg h]
  have e:(t+1) / p i=t / p i:=by
   have g:=Nat.succ_div (a:=t) (b:=p i);rw[if_neg (fun n=>h (Nat.mod_eq_zero_of_dvd n))]at g;exact g
  rw[e];exact Nat.le_refl _
theorem mm(A:Fits n p b)(u:∀i,i<n→1≤p i){t d:Nat}(B:t<d){L:Nat→Nat}(h:sumTo n (fun i=>ic p b t d (L i) i)≤d-t):
 sumTo n (fun i=>ic p b t d (dec L (gT p t L n) i) i)≤d-(t+1):=by
 have a:∀i,i<n→(due p t i≤d↔t / p i+1≤d / p i):=fun i e=>by
  unfold due;exact(Nat.le_div_iff_mul_le (u i e)).symm
 have j:∀i,i<n→ic p b t d (dec L (gT p t L n) i) i≤ic p b t d (L i) i:=fun i _=>by
  unfold ic dec;split
  ·split<;>omega
  ·exact Nat.le_refl _
 by_cases hk:∃k,gT p t L n=some k∧due p t k≤d
 ·obtain⟨k,hk,g⟩:=hk
  obtain⟨l,v,_⟩:=gS hk;have:=pX j l (by
   unfold ic dec;rw[if_pos hk,if_pos ((a k l).1 g),if_pos ((a k l).1 g)];omega)
  omega
 ·have C:∀i,i<n→t / p i+1≤d / p i→L i=0:=fun i e r=>by
   rcases Nat.eq_zero_or_pos (L i)with q|q
   ·exact q
   ·rcases hq:gT p t L n with _|k
    ·exact kV hq i e
    ·obtain⟨l,v,w⟩:=gS hq
     have D:=w i e q;have E:=(a i e).2 r;exact absurd ⟨k,hq,by omega⟩ hk
  have x:sumTo n (fun i=>ic p b t d (dec L (gT p t L n) i) i)≤sumTo n (fun i=>b i*(d / p i-(t / p i+1))):=ig fun i e=>by
   refine Nat.le_trans (j i e) ?_;unfold ic;split
   ·rename_i r
    rw[C i e r];omega
   ·omega
  refine Nat.le_trans x (A _ _ fun i e=>?_);have y:=Nat.div_add_mod t (p i);have G:=Nat.mod_lt t (u i e);have H:=Nat.div_mul_le_self d (p i);rw[Nat.sub_mul,Nat.add_mul,Nat.one_mul];rw[Nat.mul_comm]at y;omega
theorem inv(hf:Fits n p b)(hp:∀i,i<n→1≤p i):∀(t d:Nat),t≤d→sumTo n (fun i=>ic p b t d (rel p b t (st n p b t) i) i)≤d-t:=by
 intro t
 induction t with
 | zero =>
  intro d _;refine Nat.le_trans (ig fun i hi=>?_) (hf (fun i=>d / p i) d fun i hi=>Nat.div_mul_le_self d (p i));unfold ic rel;rw[if_pos (Nat.zero_mod _),Nat.zero_div];split
  ·have:d / p i=(d / p i-(0+1))+1:=by omega
   rw[this,Nat.mul_add];simp only[Nat.add_sub_cancel];omega
  ·rename_i hd
   have:d / p i=0:=Nat.eq_zero_of_not_pos fun h=>hd h
   rw[this];simp
 | succ t ih =>
  intro d hd;refine Nat.le_trans (ig fun i hi=>?_) (mm hf hp (t:=t) (d:=d) (by omega) (ih d (by omega)));exact sp (hp i hi) trivial
theorem sV(h:Fits n p b)(j:∀i,i<n→1≤p i){t i:Nat}(q:i<n)(r:t%p i=0):st n p b t i=0:=by
 cases t with
 | zero=>rfl
 | succ t =>
  have g:=mm h j (t:=t) (d:=t+1) (by omega) (inv h j t (t+1) (by omega));have l:=vo (f:=fun i=>ic p b t (t+1) (dec (rel p b t (st n p b t)) (gT p t (rel p b t (st n p b t)) n) i) i) q;have e:(t+1) / p i=t / p i+1:=by
   have g:=Nat.succ_div (a:=t) (b:=p i);rw[if_pos (Nat.dvd_of_mod_eq_zero r)]at g;exact g
  have u:ic p b t (t+1) (st n p b (t+1) i) i=st n p b (t+1) i+b i*(t / p i+1-(t / p i+1)):=by
   unfold ic;rw[e,if_pos (Nat.le_refl _)]
  have v:ic p b t (t+1) (st n p b (t+1) i) i≤0:=Nat.le_trans l (Nat.le_trans g (by omega));omega
end Edf
end Go.Proofs.YtpblcjipmoblnaaGreatDoor
namespace Go.Proofs.YtpblcjipmoblnaaGreatDoor
open Go Go.RowKit
namespace Edf
open Ln
variable {L D N:Nat→Nat} {k n:Nat} {l:List Job}
def set1(L:Nat→Nat)(k v:Nat)(i:Nat):Nat:=if i=k then v else L i
def cG(L D:Nat→Nat):Nat→List Job
 | 0=>[]
 | m+1=>cG L D m++(if 0<L m then[⟨m,D m,L m⟩]else[])
def nextOf(N:Nat→Nat):Nat→List Job
 | 0=>[]
 | m+1=>nextOf N m++[⟨m,N m,0⟩]
def jV(N:Nat→Nat)(k:Nat):Nat→List Job
 | 0=>[]
 | m+1=>jV N k m++(if m=k then[]else[⟨m,N m,0⟩])
theorem iI{L D:Nat→Nat}{x:Job}:∀{n:Nat},x∈cG L D n↔∃i,i<n∧0<L i∧x=⟨i,D i,L i⟩:=by
 intro n
 induction n with
 | zero=>simp[cG]
 | succ n ih =>
  simp only[cG,List.mem_append,ih];constructor
  ·rintro(⟨i,h1,h2,h3⟩|h)
   ·exact⟨i,by omega,h2,h3⟩
   ·split at h
    ·simp at h;exact⟨n,by omega,by assumption,h⟩
    ·simp at h
  ·rintro⟨i,h1,h2,h3⟩
   rcases Nat.lt_or_ge i n with h|h
   ·exact .inl ⟨i,h,h2,h3⟩
   ·obtain rfl:i=n:=by omega
    exact .inr (by rw[if_pos h2];simp[h3])
theorem ly{N:Nat→Nat}{x:Job}:∀{n:Nat},x∈nextOf N n↔∃i,i<n∧x=⟨i,N i,0⟩:=by
 intro n
 induction n with
 | zero=>simp[nextOf]
 | succ n ih =>
  simp only[nextOf,List.mem_append,ih,List.mem_singleton];constructor
  ·rintro(⟨i,h1,h3⟩|h)
   ·exact⟨i,by omega,h3⟩
   ·exact⟨n,by omega,h⟩
  ·rintro⟨i,h1,h3⟩
   rcases Nat.lt_or_ge i n with h|h
   ·exact .inl ⟨i,h,h3⟩
   ·obtain rfl:i=n:=by omega
    exact .inr h3
theorem dp{L L' D D':Nat→Nat}:∀{n:Nat},(∀i,i<n→L i=L' i)→(∀i,i<n→0<L i→D i=D' i)→cG L D n=cG L' D' n:=by
 intro n
 induction n with
 | zero=>intro _ _;rfl
 | succ n ih =>
  intro h1 h2;simp only[cG];rw[ih (fun i hi=>h1 i (by omega)) (fun i hi=>h2 i (by omega)),←h1 n (by omega)];split
  ·rename_i h;rw[h2 n (by omega) h]
  ·rfl
theorem iB{N N':Nat→Nat}:∀{n:Nat},(∀i,i<n→N i=N' i)→nextOf N n=nextOf N' n:=by
 intro n
 induction n with
 | zero=>intro _;rfl
 | succ n ih =>
  intro h1;simp only[nextOf];rw[ih (fun i hi=>h1 i (by omega)),h1 n (by omega)]
theorem pz{N N':Nat→Nat}{k:Nat}:∀{n:Nat},(∀i,i<n→i≠k→N i=N' i)→jV N k n=jV N' k n:=by
 intro n
 induction n with
 | zero=>intro _;rfl
 | succ n ih =>
  intro h1;simp only[jV];rw[ih (fun i hi=>h1 i (by omega))];split
  ·rfl
  ·rename_i h;rw[h1 n (by omega) h]
theorem nextOf_length(N:Nat→Nat)(n:Nat):(nextOf N n).length=n:=by
 induction n with
 | zero=>rfl
 | succ n ih=>simp[nextOf,ih]
theorem jobsOf_length(L D:Nat→Nat)(n:Nat):(cG L D n).length≤n:=by
 induction n with
 | zero=>simp[cG]
 | succ n ih=>simp only[cG,List.length_append];split<;>simp<;>omega
theorem jg{L D:Nat→Nat}{k v:Nat}(h0:L k=0)(hv:0<v):∀{n:Nat},k<n→(cG (set1 L k v) D n).Perm (⟨k,D k,v⟩::cG L D n):=by
 intro n
 induction n with
 | zero=>intro h;omega
 | succ n ih =>
  intro hk;simp only[cG]
  rcases Nat.lt_or_ge k n with h|h
  ·have e:set1 L k v n=L n:=by unfold set1;rw[if_neg (by omega)]
   rw[e];exact(ih h).append_right _
  ·obtain rfl:k=n:=by omega
   have e:cG (set1 L k v) D k=cG L D k:=dp (fun i hi=>by unfold set1;rw[if_neg (by omega)]) (fun i hi _=>rfl);have e2:set1 L k v k=v:=by unfold set1;rw[if_pos rfl]
   rw[e,e2,if_pos hv,if_neg (by omega),List.append_nil];exact List.perm_append_singleton _ _
theorem rm(hk:k<n)(a:0<L k):(cG L D n).Perm (⟨k,D k,L k⟩::cG (set1 L k 0) D n):=by
 have h:=jg (L:=set1 L k 0) (D:=D) (k:=k) (v:=L k) (by unfold set1;rw[if_pos rfl]) a hk
 rwa[dp (L:=set1 (set1 L k 0) k (L k)) (L':=L) (fun i _=>by unfold set1;split<;>simp_all) (fun i _ _=>rfl)]at h
theorem jy{N:Nat→Nat}{k:Nat}:∀{n:Nat},k<n→(nextOf N n).Perm (⟨k,N k,0⟩::jV N k n):=by
 intro n
 induction n with
 | zero=>intro h;omega
 | succ n ih =>
  intro hk;simp only[nextOf,jV]
  rcases Nat.lt_or_ge k n with h|h
  ·rw[if_neg (by omega)]
   exact(ih h).append_right _
  ·obtain rfl:k=n:=by omega
   have e:∀m,m≤k→jV N k m=nextOf N m:=by
    intro m
    induction m with
    | zero=>intro _;rfl
    | succ m ihm =>
     intro hm;simp only[jV,nextOf];rw[ihm (by omega),if_neg (by omega)]
   rw[if_pos rfl,List.append_nil,e k (Nat.le_refl _)];exact List.perm_append_singleton _ _
theorem rU{v:Nat}(hk:k<n):(nextOf (set1 N k v) n).Perm (⟨k,v,0⟩::jV N k n):=by
 have h:=jy (N:=set1 N k v) hk;rw[show set1 N k v k=v by unfold set1;rw[if_pos rfl]]at h
 rwa[pz (N:=set1 N k v) (N':=N) (fun i _ a=>by unfold set1;rw[if_neg a])]at h
theorem set_root{l:List Job}{r r':Job}(h:l[0]?=some r):∃a,l=r::a∧l.set 0 r'=r'::a:=by
 cases l with
 | nil=>simp at h
 | cons x a=>simp at h;subst h;exact⟨a,rfl,rfl⟩
theorem next_root{r:Job}(b:l.Perm (nextOf N n))(hh:bV l l.length)(e:l[0]?=some r):
 ∃k,k<n∧r=⟨k,N k,0⟩∧∀i,i<n→N k≤N i:=by
 obtain⟨k,hk,a⟩:=ly.1 (b.mem_iff.1 (List.mem_of_getElem? e));refine⟨k,hk,a,fun i g=>?_⟩;obtain⟨q,d⟩:=List.getElem?_of_mem (b.mem_iff.2 (ly.2 ⟨i,g,rfl⟩));have:=hh.root (Nat.le_refl _) q _ r (List.getElem?_eq_some_iff.1 d).1 d e;subst a;unfold jlt at this;simp only at this;omega
theorem sv{p:Nat→Nat}{t:Nat}{r:Job}(e:l.Perm (cG L (due p t) n))(hh:bV l l.length)(h:l[0]?=some r):
 ∃k,k<n∧0<L k∧r=⟨k,due p t k,L k⟩∧gT p t L n=some k:=by
 obtain⟨k,hk,a,b⟩:=iI.1 (e.mem_iff.1 (List.mem_of_getElem? h));refine⟨k,hk,a,b,sT hk a fun i j d=>?_⟩;obtain⟨q,g⟩:=List.getElem?_of_mem (e.mem_iff.2 (iI.2 ⟨i,j,d,rfl⟩));have:=hh.root (Nat.le_refl _) q _ r (List.getElem?_eq_some_iff.1 g).1 g h;subst b;unfold jlt at this;simp only at this;omega
theorem heap_set_same{r:Job}{c:Int}(hh:bV l n)(e:l[0]?=some r):bV (l.set 0 ⟨r.need,r.due,c⟩) n:=by
 intro k x y b d hx a;rw[List.getElem?_set_ne (by omega)]at hx
 rcases Nat.eq_zero_or_pos ((k-1) / 2)with h|h
 ·rw[h,List.getElem?_set_self (List.getElem?_eq_some_iff.1 e).1]at a
  injection a with a
  have:=hh k x r b d hx (by rw[h];exact e);subst a;unfold jlt at *;exact this
 ·rw[List.getElem?_set_ne (by omega)]at a
  exact hh k x y b d hx a
theorem heap_set_under{r':Job}(hh:bV l n):eN (l.set 0 r') n 0:=by
 refine⟨fun k x y e g i hx d=>?_,fun k a b _ _ _ h _ _=>by omega⟩;rw[List.getElem?_set_ne (by omega)]at hx;rw[List.getElem?_set_ne (by omega)]at d;exact hh k x y e g hx d
end Edf
end Go.Proofs.YtpblcjipmoblnaaGreatDoor
namespace Go.Proofs.YtpblcjipmoblnaaGreatDoor
open Go Go.RowKit
namespace Edf
open Ln
variable {n:Nat} {p b:Nat→Nat}
theorem pD{t i:Nat}(a:1≤p i):t<due p t i:=by
 unfold due;have b:=Nat.div_add_mod t (p i);have d:=Nat.mod_lt t a;rw[Nat.add_mul,Nat.one_mul,Nat.mul_comm];omega
theorem ma{t t' i:Nat}(e:1≤p i)(a:t≤t')(b:t'<due p t i):due p t' i=due p t i:=by
 have g:t / p i≤t' / p i:=Nat.div_le_div_right a;have h:t' / p i<t / p i+1:=(Nat.div_lt_iff_lt_mul e).2 b;have d:t' / p i=t / p i:=by omega
 unfold due;rw[d]
theorem jB{t t' i:Nat}(d:1≤p i)(e:t<t')(g:t'≤due p t i)(j:t'%p i=0):t'=due p t i:=by
 rcases Nat.lt_or_ge t' (due p t i)with h|h
 ·have l:t / p i≤t' / p i:=Nat.div_le_div_right (by omega)
  have n:t' / p i<t / p i+1:=(Nat.div_lt_iff_lt_mul d).2 h;have a:t' / p i=t / p i:=by omega
  have b:=Nat.div_add_mod t' (p i);have q:=Nat.div_add_mod t (p i);rw[a]at b;omega
 ·omega
theorem yi{t i:Nat}(h:t%p i=0):due p t i=t+p i:=by
 unfold due;have a:=Nat.div_add_mod t (p i);rw[Nat.add_mul,Nat.one_mul,Nat.mul_comm];omega
def nx(p:Nat→Nat)(t i:Nat):Nat:=if t%p i=0 then t else due p t i
structure HeadInv (n:Nat) (p b:Nat→Nat) (t:Nat) (wl nl:List Job):Prop where
 wait:wl.Perm (cG (st n p b t) (due p t) n)
 next:nl.Perm (nextOf (nx p t) n)
structure RelInv (n:Nat) (p b:Nat→Nat) (t:Nat) (L N:Nat→Nat) (wl nl:List Job):Prop where
 wait:wl.Perm (cG L (due p t) n)
 next:nl.Perm (nextOf N n)
 off:∀i,i<n→t%p i≠0→L i=st n p b t i∧N i=due p t i
 on:∀i,i<n→t%p i=0→(L i=0∧N i=t)∨(L i=b i∧N i=due p t i)
structure gC (n:Nat) (p b:Nat→Nat) (t:Nat) (wl nl:List Job):Prop where
 wait:wl.Perm (cG (rel p b t (st n p b t)) (due p t) n)
 next:nl.Perm (nextOf (due p t) n)
def todo(n t:Nat)(N:Nat→Nat):Nat:=sumTo n fun i=>if N i=t then 1 else 0
theorem headInv_zero{wl nl:List Job}(hw:wl=[])(hn:nl.Perm (nextOf (fun _=>0) n)):HeadInv n p b 0 wl nl:=by
 refine⟨?_,?_⟩
 ·have e:∀m,cG (st n p b 0) (due p 0) m=[]:=fun m=>by
   induction m with
   | zero=>rfl
   | succ m ih=>simp only[cG,ih];rfl
  rw[hw,e]
 ·rw[iB (N':=fun _=>0) (fun i _=>by unfold nx;rw[if_pos (Nat.zero_mod _)])]
  exact hn
theorem HeadInv.rel(e:Fits n p b)(j:∀i,i<n→1≤p i){t:Nat}{wl d:List Job}(h:HeadInv n p b t wl d):RelInv n p b t (st n p b t) (nx p t) wl d:=
 ⟨h.wait,h.next,fun i _ a=>⟨rfl,by unfold nx;rw[if_neg a]⟩,fun i g a =>.inl ⟨sV e j g a,by unfold nx;rw[if_pos a]⟩⟩
theorem RelInv.step(J:∀i,i<n→1≤p i∧1≤b i){t:Nat}{L N:Nat→Nat}{wl x:List Job}{r:Job}(h:RelInv n p b t L N wl x)(hh:bV x x.length)(K:x[0]?=some r)(G:r.due=t):
 ∃k,k<n∧r.need=k∧∀j g,j.Perm (wl++[⟨k,((t+p k:Nat):Int),b k⟩])→g.Perm (x.set 0 ⟨k,((t+p k:Nat):Int),0⟩) →
  RelInv n p b t (set1 L k (b k)) (set1 N k (t+p k)) j g∧todo n t (set1 N k (t+p k))<todo n t N:=by
 obtain⟨k,hk,d,H⟩:=next_root h.next hh K
 have B:N k=t:=by rw[d]at G;simp only at G;omega
 have w:=(J k hk).1;have e:t%p k=0:=by
  rcases Nat.eq_zero_or_pos (t%p k)with l|l
  ·exact l
  ·have q:=(h.off k hk (by omega)).2
   have:=pD (p:=p) (t:=t) w;omega
 have A:L k=0:=by
  rcases h.on k hk e with l|l
  ·exact l.1
  ·have:=pD (p:=p) (t:=t) w
   omega
 have u:=yi (p:=p) (i:=k) e;refine⟨k,hk,by rw[d],fun j g O I=>⟨⟨?_,?_,?_,?_⟩,?_⟩⟩
 ·have q:=jg (L:=L) (D:=due p t) (v:=b k) A (J k hk).2 hk
  rw[u]at q;exact(O.trans (List.perm_append_singleton _ _)).trans ((h.wait.cons _).trans q.symm)
 ·obtain⟨Q,q,M⟩:=set_root (r':=⟨k,((t+p k:Nat):Int),0⟩) K
  rw[M]at I;have E:(r::Q).Perm (⟨k,N k,0⟩::jV N k n):=by rw[←q];exact h.next.trans (jy hk)
  rw[d]at E;exact I.trans (((List.perm_cons _).1 E).cons _ |>.trans (rU hk).symm)
 ·intro i C y
  have a:i≠k:=by rintro rfl;exact y e
  unfold set1;rw[if_neg a,if_neg a];exact h.off i C y
 ·intro i C y
  unfold set1
  by_cases a:i=k
  ·subst a;rw[if_pos rfl,if_pos rfl];exact .inr ⟨rfl,u.symm⟩
  ·rw[if_neg a,if_neg a];exact h.on i C y
 ·refine pX (fun i _=>?_) hk ?_
  ·unfold set1
   by_cases a:i=k
   ·subst a;rw[if_pos rfl,if_neg (by omega)];omega
   ·rw[if_neg a];exact Nat.le_refl _
  ·simp only[set1,if_pos B];rw[if_pos trivial,if_neg (by omega)];omega
theorem RelInv.after(y:∀i,i<n→1≤p i){t:Nat}{L N:Nat→Nat}{wl j:List Job}(h:RelInv n p b t L N wl j)(hh:bV j j.length)(x:∀r:Job,j[0]?=some r→r.due≠(t:Int)):gC n p b t wl j:=by
 have v:∀i,i<n→N i≠t:=by
  intro i g;have E:j.length=n:=by rw[h.next.length_eq,nextOf_length]
  obtain⟨r,w⟩:∃r,j[0]?=some r:=⟨_,List.getElem?_eq_getElem (by omega)⟩;obtain⟨k,hk,q,l⟩:=next_root h.next hh w
  have u:=x r w;rw[q]at u;simp only at u;have A:=l i g;have B:t≤N k:=by
   have C:=pD (p:=p) (t:=t) (y k hk)
   rcases Nat.eq_zero_or_pos (t%p k)with a|a
   ·rcases h.on k hk a with d|d<;>omega
   ·have:=(h.off k hk (by omega)).2;omega
  omega
 refine⟨?_,?_⟩
 ·have e:=dp (L:=L) (L':=rel p b t (st n p b t)) (D:=due p t) (D':=due p t) (n:=n) (fun i g=>?_) (fun i _ _=>rfl)
  ·rw[←e];exact h.wait
  ·unfold rel
   split
   ·rename_i a
    rcases h.on i g a with d|d
    ·exact absurd d.2 (v i g)
    ·exact d.1
   ·rename_i a;exact(h.off i g a).1
 ·have e:=iB (N:=N) (N':=due p t) (n:=n) (fun i g=>?_)
  ·rw[←e];exact h.next
  ·rcases Nat.eq_zero_or_pos (t%p i)with a|a
   ·rcases h.on i g a with d|d
    ·exact absurd d.2 (v i g)
    ·exact d.2
   ·exact(h.off i g (by omega)).2
theorem zC(hp:∀i,i<n→1≤p i){t k c:Nat}(hk:gT p t (rel p b t (st n p b t)) n=some k)(hc:c≤rel p b t (st n p b t) k)(hu:∀i,i<n→t+c≤due p t i):
 ∀s,s≤c→(1≤s→∀i,i<n→st n p b (t+s) i=if i=k then rel p b t (st n p b t) k-s else rel p b t (st n p b t) i)∧(s<c→who n p b (t+s)=some k):=by
 obtain⟨k1,k2,k3⟩:=gS hk;intro s
 induction s with
 | zero=>intro _;exact⟨fun h=>by omega,fun _=>hk⟩
 | succ s ih =>
  intro hs;obtain⟨i1,i2⟩:=ih (by omega);have hw:=i2 (by omega);have hst:∀i,i<n→st n p b (t+(s+1)) i=if i=k then rel p b t (st n p b t) k-(s+1)else rel p b t (st n p b t) i:=by
   intro i hi;have h1:st n p b (t+(s+1)) i=dec (rel p b (t+s) (st n p b (t+s))) (who n p b (t+s)) i:=rfl;have h2:rel p b (t+s) (st n p b (t+s)) i=if i=k then rel p b t (st n p b t) k-s else rel p b t (st n p b t) i:=by
    rcases Nat.eq_zero_or_pos s with h0|h0
    ·subst h0
     rw[Nat.add_zero,Nat.sub_zero];split
     ·rename_i h;rw[h]
     ·rfl
    ·rw[←i1 h0 i hi]
     have h4:(t+s)%p i≠0:=fun h=>by
      have:=jB (p:=p) (hp i hi) (t:=t) (t':=t+s) (by omega) (by have:=hu i hi;omega) h;have:=hu i hi;omega
     unfold rel;rw[if_neg h4]
   rw[h1,hw];unfold dec;rw[h2]
   by_cases hik:i=k
   ·subst hik;rw[if_pos rfl,if_pos rfl,if_pos rfl];omega
   ·rw[if_neg (fun h=>hik (Option.some.inj h).symm),if_neg hik,if_neg hik]
  refine⟨fun _=>hst,fun hlt=>?_⟩;have hrel:∀i,i<n→rel p b (t+(s+1)) (st n p b (t+(s+1))) i=if i=k then rel p b t (st n p b t) k-(s+1)else rel p b t (st n p b t) i:=fun i hi=>by
   rw[←hst i hi];unfold rel;rw[if_neg (fun h=>by
    have:=jB (p:=p) (hp i hi) (t:=t) (t':=t+(s+1)) (by omega) (by have:=hu i hi;omega) h;have:=hu i hi;omega)]
  have hdue:∀i,i<n→due p (t+(s+1)) i=due p t i:=fun i hi=>ma (hp i hi) (by omega) (by have:=hu i hi;omega)
  refine sT k1 (by rw[hrel k k1,if_pos rfl];omega) fun i hi h0=>?_
  rw[hdue k k1,hdue i hi]
  by_cases hik:i=k
  ·subst hik;exact .inr ⟨rfl,Nat.le_refl _⟩
  ·rw[hrel i hi,if_neg hik]at h0
   exact k3 i hi h0
theorem idle(hp:∀i,i<n→1≤p i){t c:Nat}(h0:∀i,i<n→rel p b t (st n p b t) i=0)(hu:∀i,i<n→t+c≤due p t i):
 ∀s,s≤c→(1≤s→∀i,i<n→st n p b (t+s) i=0)∧(s<c→who n p b (t+s)=none):=by
 intro s
 induction s with
 | zero=>intro _;exact⟨fun h=>by omega,fun _=>js h0⟩
 | succ s ih =>
  intro hs;obtain⟨i1,i2⟩:=ih (by omega);have hw:=i2 (by omega);have hst:∀i,i<n→st n p b (t+(s+1)) i=0:=by
   intro i hi;have h1:st n p b (t+(s+1)) i=dec (rel p b (t+s) (st n p b (t+s))) (who n p b (t+s)) i:=rfl;rw[h1,hw];unfold dec;rw[if_neg (by simp)]
   rcases Nat.eq_zero_or_pos s with h2|h2
   ·subst h2;exact h0 i hi
   ·unfold rel
    rw[if_neg (fun h=>by
     have:=jB (p:=p) (hp i hi) (t:=t) (t':=t+s) (by omega) (by have:=hu i hi;omega) h;have:=hu i hi;omega)]
    exact i1 h2 i hi
  refine⟨fun _=>hst,fun hlt=>js fun i hi=>?_⟩;unfold rel;rw[if_neg (fun h=>by
   have:=jB (p:=p) (hp i hi) (t:=t) (t':=t+(s+1)) (by omega) (by have:=hu i hi;omega) h;have:=hu i hi;omega)]
  exact hst i hi
theorem kb(v:Fits n p b)(e:∀i,i<n→1≤p i){t t':Nat}(w:t<t')(g:∀i,i<n→t'≤due p t i){wl r:List Job}(q:wl.Perm (cG (st n p b t') (due p t) n))(l:r.Perm (nextOf (due p t) n)):HeadInv n p b t' wl r:=by
 refine⟨?_,?_⟩
 ·rw[dp (L':=st n p b t') (D':=due p t') (fun i _=>rfl) (fun i a d=>?_)]at q
  ·exact q
  ·rcases Nat.lt_or_ge t' (due p t i)with h|h
   ·exact(ma (e i a) (by omega) h).symm
   ·have j:t'=due p t i:=by have:=g i a;omega
    have u:t'%p i=0:=by rw[j];unfold due;exact Nat.mul_mod_left _ _
    rw[sV v e a u]at d;omega
 ·rw[iB (N':=nx p t') (fun i a=>?_)]at l
  ·exact l
  ·unfold nx
   split
   ·rename_i d;exact(jB (e i a) w (g i a) d).symm
   ·rename_i d
    have j:t'≠due p t i:=fun h=>d (by rw[h];unfold due;exact Nat.mul_mod_left _ _)
    exact(ma (e i a) (by omega) (by have:=g i a;omega)).symm
def nameOf(sub:Nat→ByteArray):Option Nat→ByteArray
 | none=>ByteArray.empty
 | some k=>sub k
def QW(n:Nat)(p b:Nat→Nat)(sub:Nat→ByteArray)(t:Nat):List ByteArray:=(List.range t).map fun s=>nameOf sub (who n p b s)
theorem rD{sub:Nat→ByteArray}{t c:Nat}{o:Option Nat}(h:∀s,s<c→who n p b (t+s)=o):QW n p b sub (t+c)=QW n p b sub t++List.replicate c (nameOf sub o):=by
 unfold QW;rw[List.range_add,List.map_append]
 congr 1
 rw[List.map_map]
 apply List.ext_getElem
 ·simp
 ·intro i a d
  simp at a;simp[h i a]
theorem rows_more{sub:Nat→ByteArray}{t c:Nat}{o:Option Nat}(h:∀s,s<c→who n p b (t+s)=o)(a:0<c):cQ [] (QW n p b sub (t+c))=run (cQ [] (QW n p b sub t)) (nameOf sub o) (c:Int):=by
 rw[rD h,eR,lc _ _ a]
theorem ticks_length{sub:Nat→ByteArray}(t:Nat):(QW n p b sub t).length=t:=by simp[QW]
end Edf
end Go.Proofs.YtpblcjipmoblnaaGreatDoor
namespace Go.Proofs.YtpblcjipmoblnaaGreatDoor
open Go Go.RowKit
namespace Ln
variable {xs:List Run} {i:Nat}
def nP(xs:List Run)(i:Nat):Nat:=match xs[i]? with|some r=>r.per|none=>1
def nB(xs:List Run)(i:Nat):Nat:=match xs[i]? with|some r=>r.QT|none=>1
def nS(xs:List Run)(i:Nat):ByteArray:=match xs[i]? with|some r=>r.QM|none=>ByteArray.empty
theorem sW{r:Run}(h:xs[i]?=some r):nP xs i=r.per:=by unfold nP;rw[h]
theorem sX{r:Run}(h:xs[i]?=some r):nB xs i=r.QT:=by unfold nB;rw[h]
theorem yu{r:Run}(h:xs[i]?=some r):nS xs i=r.QM:=by unfold nS;rw[h]
def edf(xs:List Run)(t:Nat):List bH:=cQ [] (Edf.QW xs.length (nP xs) (nB xs) (nS xs) t)
theorem lP(ts:List ByteArray):∀{l:List bH} {T:Nat},lG T l→lG (T+ts.length) (cQ l ts)∧(cQ l ts).length≤l.length+ts.length:=by
 induction ts with
 | nil=>intro l T h;exact⟨h,Nat.le_refl _⟩
 | cons s ts ih =>
  intro l T h;have h1:=h.run (by omega) s (t:=1) (by decide);obtain⟨h2,h3⟩:=ih (T:=T+1) (by simpa using h1);have h4:=jb l s 1;refine⟨?_,?_⟩
  ·have e:(T:Int)+((s::ts).length:Nat)=((T+1:Nat):Int)+(ts.length:Nat):=by simp;omega
   rw[e];exact h2
  ·have:(cQ l (s::ts))=cQ (run l s 1) ts:=rfl
   rw[this];simp;omega
end Ln
namespace Edf
open Ln
variable {n:Nat} {p b:Nat→Nat}
theorem yt:∀(t i:Nat),st n p b t i≤b i:=by
 intro t
 induction t with
 | zero=>intro i;exact Nat.zero_le _
 | succ t ih =>
  intro i;have h1:rel p b t (st n p b t) i≤b i:=by
   unfold rel;split
   ·exact Nat.le_refl _
   ·exact ih i
  show dec (rel p b t (st n p b t)) _ i≤b i;unfold dec;split<;>omega
theorem yP(t i:Nat):rel p b t (st n p b t) i≤b i:=by
 unfold rel;split
 ·exact Nat.le_refl _
 ·exact yt t i
theorem gC.busy(M:Fits n p b)(H:∀i,i<n→1≤p i){t:Nat}{wl J:List Job}{x:Job}(h:gC n p b t wl J)(hh:bV wl wl.length)(hx:wl[0]?=some x):
 ∃k l:Nat,k<n∧0<l∧l≤b k∧x=⟨k,due p t k,l⟩∧∀c:Nat,1≤c→c≤l→(∀i,i<n→t+c≤due p t i)→(∀s,s<c→who n p b (t+s)=some k) ∧
  (c<l→HeadInv n p b (t+c) (wl.set 0 ⟨k,due p t k,l-c⟩) J)∧(c=l→∀d,(d++[⟨k,due p t k,0⟩]).Perm (wl.set 0 ⟨k,due p t k,0⟩)→HeadInv n p b (t+c) d J):=by
 obtain⟨k,hk,q,rfl,j⟩:=sv h.wait hh hx;refine⟨k,_,hk,q,yP t k,rfl,fun c C E I=>?_⟩;have K:=zC H j E I;obtain⟨a,_⟩:=K c (Nat.le_refl _);have a:=a C;have g:=rm (L:=rel p b t (st n p b t)) (D:=due p t) hk q;refine⟨fun s Q=>(K s (by omega)).2 Q,fun O=>?_,fun N d r=>?_⟩
 ·obtain⟨w,y,A⟩:=set_root (r':=⟨k,due p t k,((rel p b t (st n p b t) k:Nat):Int)-c⟩) hx
  rw[A];refine kb M H (by omega) I ?_ h.next
  have B:w.Perm (cG (set1 (rel p b t (st n p b t)) k 0) (due p t) n):=by
   have:=h.wait.trans g;rw[y]at this;exact(List.perm_cons _).1 this
  have u:=jg (L:=set1 (rel p b t (st n p b t)) k 0) (D:=due p t) (k:=k) (v:=rel p b t (st n p b t) k-c) (by simp[set1]) (by omega) hk;have e:(((rel p b t (st n p b t) k-c:Nat):Int))=((rel p b t (st n p b t) k:Nat):Int)-c:=by omega
  rw[e]at u;rw[dp (L':=set1 (set1 (rel p b t (st n p b t)) k 0) k (rel p b t (st n p b t) k-c)) (D':=due p t) (fun i G=>?_) (fun _ _ _=>rfl)]
  ·exact(B.cons _).trans u.symm
  ·rw[a i G];unfold set1;split<;>rfl
 ·obtain⟨w,y,A⟩:=set_root (r':=⟨k,due p t k,0⟩) hx
  rw[A]at r;refine kb M H (by omega) I ?_ h.next
  have B:w.Perm (cG (set1 (rel p b t (st n p b t)) k 0) (due p t) n):=by
   have:=h.wait.trans g;rw[y]at this;exact(List.perm_cons _).1 this
  have u:d.Perm w:=(List.perm_cons _).1 ((List.perm_append_singleton _ _).symm.trans r);rw[dp (L':=set1 (rel p b t (st n p b t)) k 0) (D':=due p t) (fun i G=>?_) (fun _ _ _=>rfl)]
  ·exact u.trans B
  ·rw[a i G]
   unfold set1;split
   ·omega
   ·rfl
theorem gC.idle(w:Fits n p b)(j:∀i,i<n→1≤p i){t:Nat}{wl r:List Job}(h:gC n p b t wl r)(A:wl.length=0){c:Nat}(v:1≤c)(q:∀i,i<n→t+c≤due p t i):
 (∀s,s<c→who n p b (t+s)=none)∧HeadInv n p b (t+c) wl r:=by
 obtain rfl:=List.eq_nil_of_length_eq_zero A;have u:∀i,i<n→rel p b t (st n p b t) i=0:=fun i a=>by
  rcases Nat.eq_zero_or_pos (rel p b t (st n p b t) i)with d|d
  ·exact d
  ·have:=h.wait.mem_iff.2 (iI.2 ⟨i,a,d,rfl⟩)
   simp at this
 have a:=Edf.idle j u q;refine⟨fun s y=>(a s (by omega)).2 y,kb w j (by omega) q ?_ h.next⟩;have g:=(a c (Nat.le_refl _)).1 v;have e:cG (st n p b (t+c)) (due p t) n=[]:=by
  rcases hj:cG (st n p b (t+c)) (due p t) n with _|⟨x,l⟩
  ·rfl
  ·obtain⟨i,a,d,_⟩:=iI.1 (show x∈cG (st n p b (t+c)) (due p t) n by rw[hj];simp)
   have:=g i a;omega
 rw[e]
theorem gC.until(e:∀i,i<n→1≤p i){t:Nat}{wl d:List Job}{r:Job}(h:gC n p b t wl d)(hh:bV d d.length)(g:d[0]?=some r):
 ∃u:Nat,r.due=u∧t<u∧∀i,i<n→u≤due p t i:=by
 obtain⟨k,hk,rfl,a⟩:=next_root h.next hh g
 exact⟨due p t k,rfl,pD (e k hk),a⟩
end Edf
end Go.Proofs.YtpblcjipmoblnaaGreatDoor
namespace Go.Proofs.YtpblcjipmoblnaaGreatDoor
open Go Go.RowKit
namespace Ln
variable {M:Nat} {xs:List Run}
def cg(M:Nat)(l:List Run):Nat:=l.foldr (fun r n=>ec M r true+n) 0
theorem nT{M:Nat}{l:List Run}:∀{i s:Nat},cC M true i s l=none→s≤M→s+cg M l≤M:=by
 induction l with
 | nil=>intro i s _ h;simpa[cg]using h
 | cons r l ih =>
  intro i s h hm;simp only[cC]at h;split at h
  ·split at h
   ·simp at h
   ·have:=ih h (by omega)
    simp only[cg,List.foldr_cons]at this⊢;omega
  ·simp at h
theorem l9(M:Nat)(l m:List Run):cg M (l++m)=cg M l+cg M m:=by
 induction l with
 | nil=>simp[cg]
 | cons r l ih=>simp only[cg,List.cons_append,List.foldr_cons]at ih⊢; omega
theorem pW(M:Nat)(xs:List Run):∀n,n≤xs.length→Edf.sumTo n (fun i=>nB xs i*(M / nP xs i))=cg M (xs.take n):=by
 intro n
 induction n with
 | zero=>intro _;simp[Edf.sumTo,cg]
 | succ n ih =>
  intro hn;have h1:xs[n]?=some xs[n]:=List.getElem?_eq_getElem (by omega);rw[List.take_add_one,h1,l9,←ih (by omega)];simp only[Edf.sumTo,sX h1,sW h1,Option.toList_some];simp[cg,ec]
structure iR (M:Nat) (xs:List Run):Prop where
 each:∀r∈xs,1≤r.QT∧r.QT≤M∧r.QT≤r.per∧1≤r.per∧r.per≤M∧M%r.per=0
 sum:cg M xs≤M
theorem vd(h:cC M true 0 0 xs=none):iR M xs:=by
 refine⟨fun r l=>?_,by simpa using nT h (Nat.zero_le _)⟩;obtain⟨a,b,d⟩:=gR ((iK h).1 r l);obtain⟨_,e,g,i,j⟩:=d rfl;exact⟨a,b,e,g,i,j⟩
theorem iR.pos(h:iR M xs):∀i,i<xs.length→1≤nP xs i∧1≤nB xs i∧nB xs i≤nP xs i∧M%nP xs i=0:=fun i j=>by
 have g:xs[i]?=some xs[i]:=List.getElem?_eq_getElem j;obtain⟨a,b,c,d,e,f⟩:=h.each _ (List.mem_of_getElem? g);rw[sW g,sX g];exact⟨d,a,c,f⟩
theorem iR.fits(b:0<M)(h:iR M xs):Edf.Fits xs.length (nP xs) (nB xs):=by
 refine Edf.fits_of b (fun i a=>⟨(h.pos i a).1,(h.pos i a).2.2.2⟩) ?_;rw[pW M xs _ (Nat.le_refl _),List.take_length];exact h.sum
theorem iR.len(h:iR M xs):xs.length≤M:=by
 refine Nat.le_trans ?_ h.sum;have:∀l:List Run,(∀r∈l,1≤r.QT∧1≤r.per∧r.per≤M)→l.length≤cg M l:=fun l=>by
  induction l with
  | nil=>intro _;simp
  | cons r l ih =>
   intro h;have h1:=ih (fun x hx=>h x (List.mem_cons_of_mem _ hx));obtain⟨h2,h3,h4⟩:=h r (by simp);have h5:1≤M / r.per:=(Nat.le_div_iff_mul_le h3).2 (by omega);have h6:1*1≤r.QT*(M / r.per):=Nat.mul_le_mul h2 h5;simp only[cg,List.foldr_cons,ec,if_true,List.length_cons]at h1⊢;omega
 exact this xs fun r hr=>by obtain⟨a,b,c,d,e,f⟩:=h.each r hr;exact⟨a,d,e⟩
theorem wK(xs:List Run)(M:Nat):nf (edf xs M) (Edf.QW xs.length (nP xs) (nB xs) (nS xs) M):=by
 have:=qY.rows (ts:=Edf.QW xs.length (nP xs) (nB xs) (nS xs) M)
 simpa[edf]using this
theorem xh(xs:List Run)(M:Nat):ia (edf xs M)=M:=by
 rw[mZ,(wK xs M).last,Edf.ticks_length]
theorem xg(xs:List Run)(M:Nat):(edf xs M).length≤M:=by
 have:=(lP (Edf.QW xs.length (nP xs) (nB xs) (nS xs) M) (lQ (0:Nat))).2;rw[Edf.ticks_length]at this
 simpa[edf]using this
def eu(M:Nat)(xs:List Run):List bH×Int×Int:=
 match cC M true 0 0 xs with
 | some (i,e)=>([],i,e)
 | none=>ew (edf xs M)
end Ln
end Go.Proofs.YtpblcjipmoblnaaGreatDoor
namespace Go.Proofs.YtpblcjipmoblnaaGreatDoor.Ck
structure Ram where
 pos:Int
 Q7:Nat
 size:Nat
structure Map where
 pos:Int
 of:ByteArray
 Q7:Nat
 write:Bool
 exec:Bool
structure bE where
 pos:Int
 name:ByteArray
 Q7:Nat
 size:Nat
 maps:List Map
structure Region where
 pos:Int
 name:ByteArray
 size:Nat
 fixed:Bool
 Q7:Nat
 big:Bool
 wx:Bool
 fill:Nat
 QS:Bool
 text:ByteArray
structure gi where
 pos:Int
 how:Int
 to:ByteArray
 QK:Nat
structure aS where
 pos:Int
 name:ByteArray
 QP:Nat
 stopped:Bool
 maps:List Map
 QR:List gi
structure b7 where
 pos:Int
 name:ByteArray
 QH:ByteArray
 to:ByteArray
 shared:Bool
 over:ByteArray
 how:Int
 QK:Nat
structure Irq where
 pos:Int
 name:ByteArray
 QH:ByteArray
 to:ByteArray
 QK:Nat
 masked:Bool
structure dt where
 pos:Int
 name:ByteArray
 QH:ByteArray
 to:ByteArray
 how:Int
 depth:Nat
structure cK where
 pos:Int
 QP:Nat
 needs:Bool
 runs:List Run
structure eZ where
 pos:Int
 name:ByteArray
 QN:Nat
 QJ:List cK
structure gk where
 pos:Int
 name:ByteArray
structure Ban where
 pos:Int
 QH:ByteArray
 to:ByteArray
structure aC where
 pos:Int
 name:ByteArray
 QF:List Ram
 Q4:List bE
 Q5:List Region
 Q3:List aS
 Q8:List b7
 QG:List Irq
 QC:List dt
 Q9:List eZ
 QD:List gk
 QE:List gk
 QB:List gk
 QA:List Ban
abbrev Wr:=Int×Int
def say(ok:Bool)(Q7 rank:Int):List Wr:=if ok then[]else[(Q7,rank)]
def cZ{α:Type}(f:α→α→List Wr):List α→List Wr
 | []=>[]
 | x::t=>t.flatMap (fun y=>f y x)++cZ f t
theorem dG{α:Type}{f:α→α→List Wr}{x:α}{p:Wr}:∀{l:List α},p∈cZ f (l++[x])↔p∈cZ f l∨∃y∈l,p∈f x y
 | []=>by simp[cZ]
 | a::l=>by
  simp only[cZ,List.cons_append,List.mem_append,List.mem_flatMap,dG (l:=l),List.mem_cons,List.mem_singleton,List.mem_nil_iff,or_false];constructor
  ·rintro(⟨y,d|rfl,b⟩|h|⟨y,d,b⟩)
   ·exact .inl (.inl ⟨y,d,b⟩)
   ·exact .inr ⟨a,.inl rfl,b⟩
   ·exact .inl (.inr h)
   ·exact .inr ⟨y,.inr d,b⟩
  ·rintro((⟨y,d,b⟩|h)|⟨y,rfl|d,b⟩)
   ·exact .inl ⟨y,.inl d,b⟩
   ·exact .inr (.inl h)
   ·exact .inl ⟨x,.inr rfl,b⟩
   ·exact .inr (.inr ⟨y,d,b⟩)
abbrev Nm:=ByteArray×Int
def has(l:List Nm)(s:ByteArray):Bool:=l.any fun x=>decide (x.1=s)
def fb(named:ByteArray→Bool)(l:List Nm):List Wr:=
 l.flatMap (fun x=>say (named x.1) x.2 0)++cZ (fun x y=>if x.1=y.1 then[(max x.2 y.2,1)]else[]) l
def ed(l:List gk)(of:List Nm):List Wr:=
 cZ (fun x y=>[(max x.pos y.pos,1)]) l++l.flatMap fun x=>say (has of x.name) x.pos 2
def aC.QU(P:aC):List Nm:=P.Q4.map fun x=>(x.name,x.pos)
def aC.regs(P:aC):List Nm:=P.Q5.map fun x=>(x.name,x.pos)
def aC.QO(P:aC):List Nm:=P.Q3.map fun x=>(x.name,x.pos)
def aC.chans(P:aC):List Nm:=P.Q8.map fun x=>(x.name,x.pos)
def aC.irqn(P:aC):List Nm:=P.QG.map fun x=>(x.name,x.pos)
def aC.ques(P:aC):List Nm:=P.QC.map fun x=>(x.name,x.pos)
def aC.plns(P:aC):List Nm:=P.Q9.map fun x=>(x.name,x.pos)
def aC.things(P:aC):List Nm:=P.QU++P.regs
def pI(P:aC)(x:Ban):List Wr:=say ((has P.QO x.QH||has P.QU x.QH)&&has P.QO x.to) x.pos 2
def il(P:aC)(x:dt):List Wr:=
 say (decide (1≤x.how)&&decide (x.how≤3)&&(!decide (x.how=3)||decide (x.depth=0))) x.pos 0++say (has P.QO x.QH&&has P.QO x.to) x.pos 2
def jS(of:List Nm)(m:Map):List Wr:=say (has of m.of) m.pos 2
def fY(x:Region):List Wr:=
 say ((x.fixed||decide (x.Q7=0))&&(x.QS||decide (x.text=ByteArray.empty))&&(!x.QS||decide (x.fill=0))) x.pos 0
def oA(P:aC)(r:gi):List Wr:=
 say (decide (1≤r.how)&&decide (r.how≤3)&&(decide (r.how=1)||decide (r.to=ByteArray.empty)&&decide (r.QK=0))) r.pos 0 ++
 say (!decide (r.how=1)||has P.QO r.to) r.pos 2
def fG(P:aC)(x:aS):List Wr:=
 x.maps.flatMap (jS P.things)++(cZ (fun r s=>[(max r.pos s.pos,1)]) x.QR++x.QR.flatMap (oA P))
def fM(P:aC)(x:b7):List Wr:=
 say (decide (1≤x.how)&&decide (x.how≤4)&&(x.shared||decide (x.over=ByteArray.empty))&&(decide (x.how=1)||decide (x.QK=0))) x.pos 0 ++
 say (has P.QO x.QH&&has P.QO x.to&&(!x.shared||has P.regs x.over)) x.pos 2
def p8(P:aC)(x:Irq):List Wr:=say (has P.QU x.QH&&has P.QO x.to) x.pos 2
def ol(P:aC)(needs:Bool)(r:Run):List Wr:=
 say (needs||decide (r.per=0)) r.pos 0++say (decide (r.QM=ByteArray.empty)||has P.QO r.QM) r.pos 2
def fH(P:aC)(l:List cK):List Wr:=
 cZ (fun x y=>say (!decide (x.QP=y.QP)) (max x.pos y.pos) 1) l++l.flatMap fun x=>x.runs.flatMap (ol P x.needs)
def gL(named:ByteArray→Bool)(P:aC):List Wr:=
 (fb named P.things++fb named P.QO++fb named P.chans++fb named P.irqn++fb named P.ques++fb named P.plns) ++
 (ed P.QE P.plns++ed P.QD P.QO++ed P.QB P.QO) ++
 P.QA.flatMap (pI P)++P.QC.flatMap (il P)++P.Q4.flatMap (fun x=>x.maps.flatMap (jS P.regs))++P.Q5.flatMap fY ++
 P.Q3.flatMap (fG P)++P.Q8.flatMap (fM P)++P.QG.flatMap (p8 P)++P.Q9.flatMap fun x=>fH P x.QJ
def bX{α:Type}(pos:α→Int)(n:Nat)(l:List α):List Wr:=
 match l[n]? with
 | some x=>[(pos x,0)]
 | none=>[]
def aC.spaces(P:aC):List (List Map):=P.Q3.map aS.maps++P.Q4.map bE.maps
def eU(P:aC):List Wr:=
 bX Ram.pos 8 P.QF++bX bE.pos 32 P.Q4++bX Region.pos 256 P.Q5++bX aS.pos 64 P.Q3++bX b7.pos 256 P.Q8 ++
 bX Irq.pos 64 P.QG++bX dt.pos 64 P.QC++bX Ban.pos 256 P.QA++bX eZ.pos 16 P.Q9++P.spaces.flatMap (bX Map.pos 64)
structure dU where
 Q7:Nat
 size:Nat
 pos:Int
def clear(a b:dU):Bool:=
 if b.Q7<a.Q7 then decide (a.size=0)||decide (b.size≤a.Q7-b.Q7)else decide (b.size=0)||decide (a.size≤b.Q7-a.Q7)
def dT(rank:Int)(l:List dU):List Wr:=cZ (fun a b=>say (clear a b) (max a.pos b.pos) rank) l
def below(Q7 size bound:Nat):Bool:=decide (Q7≤bound)&&decide (size≤bound-Q7)
def ch(s:Nat):List Ram→List Wr
 | []=>[]
 | x::t=>let s':=min (s+min x.size 67108865) 67108865;say (decide (s'≤67108864)) x.pos 4++ch s' t
def lr(x:dU):List Wr:=
 say (decide ((x.Q7 ||| x.size)%4096=0)) x.pos 0++say (decide (0<x.size)) x.pos 1++say (below x.Q7 x.size 4294967296) x.pos 2
def aC.parts(P:aC):List dU:=P.QF.map (fun x=>⟨x.Q7,x.size,x.pos⟩)++P.Q4.map fun x=>⟨x.Q7,x.size,x.pos⟩
def nZ(P:aC):List Wr:=
 ch 0 P.QF++P.Q4.flatMap (fun x=>say (decide (x.size≤1048576)) x.pos 1)++P.parts.flatMap lr++dT 3 P.parts
def fF(big:Bool):Nat:=if big then 2097152 else 4096
abbrev M64:Nat:=18446744073709551616
def eJ(Q7 size:Nat):Nat:=(Q7+size+(M64-1))%M64
open Classical in
noncomputable def fT(QF:List Ram)(a b:Nat):Bool:=decide (∀p,a≤p→p≤b→∃r∈QF,r.Q7≤p∧p≤eJ r.Q7 r.size)
noncomputable def kc(P:aC)(x:Region):List Wr:=
 if x.fixed then say (decide (x.size=0)||below x.Q7 x.size 4294967296&&fT P.QF x.Q7 (eJ x.Q7 x.size)) x.pos 2 else[]
def mW(x:Region):List Wr:=
 say (decide (x.fill<256)&&decide (x.text.size≤x.size)&&decide (x.text.size≤1048576)&&(decide (x.fill=0)||decide (x.size≤1048576))) x.pos 4
noncomputable def oo(P:aC)(x:Region):List Wr:=
 say (decide ((x.size ||| x.Q7)%fF x.big=0)) x.pos 0++say (decide (0<x.size)&&decide (x.size≤67108864)) x.pos 1++kc P x++mW x
def aC.fixed(P:aC):List dU:=(P.Q5.filter Region.fixed).map fun x=>⟨x.Q7,x.size,x.pos⟩
noncomputable def eB(P:aC):List Wr:=P.Q5.flatMap (oo P)++dT 3 P.fixed
structure jF where
 size:Nat
 big:Bool
 wx:Bool
def eL(P:aC)(s:ByteArray):Option jF:=
 match P.Q5.find? (fun x=>decide (x.name=s))with
 | some x=>some ⟨x.size,x.big,x.wx⟩
 | none=>(P.Q4.find? (fun x=>decide (x.name=s))).map fun x=>⟨x.size,false,false⟩
def aU(P:aC)(s:ByteArray):jF:=(eL P s).getD ⟨0,false,false⟩
def bN(P:aC)(device:Bool)(ap:Nat):List Map→List Wr×Nat
 | []=>([],ap)
 | m::t =>
  let x:=aU P m.of
  let n:=(ap+x.size / 4096)%M64
  let r:=bN P device n t
  (say (decide (m.Q7%fF x.big=0)) m.pos 0++say (below m.Q7 x.size 549755813888) m.pos 1++say (!m.exec || !device&&(x.wx || !m.write)) m.pos 3++say (decide (n≤131072)) m.pos 4++r.1,r.2)
def bR(P:aC)(l:List Map):List dU:=l.map fun m=>⟨m.Q7,(aU P m.of).size,m.pos⟩
def bY(P:aC)(device:Bool)(ap:Nat):List (List Map)→List Wr×Nat
 | []=>([],ap)
 | l::t =>
  let r:=bN P device ap l
  let q:=bY P device r.2 t
  (r.1++dT 2 (bR P l)++q.1,q.2)
def iV(P:aC):List Wr:=
 let a:=bY P false 0 (P.Q3.map aS.maps)
 a.1++(bY P true a.2 (P.Q4.map bE.maps)).1
def dY(P:aC)(c:b7):Bool:=
 (P.Q3.all fun x=>x.maps.all fun m =>!decide (m.of=c.over)||(decide (x.name=c.QH)||decide (x.name=c.to) && !m.write)) &&
 (P.Q4.all fun x=>x.maps.all fun m =>!decide (m.of=c.over)) &&
 (P.Q3.any fun x=>decide (x.name=c.QH)&&x.maps.any fun m=>decide (m.of=c.over)) &&
 (P.Q3.any fun x=>decide (x.name=c.to)&&x.maps.any fun m=>decide (m.of=c.over))
def gD(x:aS)(r:gi):List Wr:=
 say (!decide (r.how=1)||decide (r.QK<64)) r.pos 1++say (!decide (r.how=1) || !decide (r.to=x.name)) r.pos 3
def eI(x:aS):List Wr:=say (decide (x.QP<4)) x.pos 0++x.QR.flatMap (gD x)
def dI(P:aC)(x:b7):List Wr:=
 say (!decide (x.how=1)||decide (x.QK<64)) x.pos 1++say (!decide (x.QH=x.to)) x.pos 3++say (!x.shared||dY P x) x.pos 4
def fE(x:dt):List Wr:=
 say (decide (x.how=3)||decide (1≤x.depth)&&decide (x.depth≤64)) x.pos 2++say (!decide (x.QH=x.to)) x.pos 3
def nD(P:aC):List Wr:=
 P.Q3.flatMap eI++P.QG.flatMap (fun x=>say (decide (x.QK<64)) x.pos 1)++P.Q8.flatMap (dI P) ++
 P.QA.flatMap (fun x=>say (!decide (x.QH=x.to)) x.pos 3)++P.QC.flatMap fE
def g9(P:aC)(s:ByteArray):Nat:=
 match P.Q3.find? (fun x=>decide (x.name=s))with
 | some x=>x.QP
 | none=>0
def eS(e:Int):Int:=if e=90 then 4 else if e=80 then 5 else if e=91 then 6 else if e=93 then 7 else 8
def jW(flat:Nat→cK→Int×Int)(M:Nat)(y:cK):List Wr:=
 let r:=flat M y
 if r.2=0 then[]else[(if 0≤r.1 then((y.runs[r.1.toNat]?).map Run.pos).getD 0 else y.pos,eS r.2)]
def gX(P:aC)(y:cK):List Wr:=
 say (decide (y.QP<4)) y.pos 3++y.runs.flatMap fun r=>say (decide (r.QM=ByteArray.empty)||decide (g9 P r.QM=y.QP)) r.pos 3
def im(flat:Nat→cK→Int×Int)(P:aC)(x:eZ):List Wr:=
 if x.QN<1∨65536<x.QN then[(x.pos,2)]else x.QJ.flatMap fun y=>gX P y++jW flat x.QN y
def gK(flat:Nat→cK→Int×Int)(P:aC):List Wr:=
 say (decide (0<P.QE.length)) P.pos 0 ++
 (match P.Q9[1]? with|some x=>say (decide (0<P.QD.length)) x.pos 1|none=>[])++P.Q9.flatMap (im flat P)
def aw(r:Int):Int:=if r=0 then 5 else if r=1 then 81 else 80
def eO(_:Int):Int:=4
def nC(r:Int):Int:=if r=0 then 33 else if r=1 then 32 else if r=2 then 34 else if r=3 then 35 else 36
def fD(r:Int):Int:=if r=0 then 33 else if r=1 then 32 else if r=2 then 109 else if r=3 then 35 else 105
def ea(r:Int):Int:=if r=0 then 33 else if r=1 then 40 else if r=2 then 35 else if r=3 then 104 else 4
def dh(r:Int):Int:=if r=0 then 100 else if r=1 then 101 else if r=2 then 113 else if r=3 then 102 else 103
def fC(r:Int):Int:=if r=0 then 107 else if r=1 then 106 else if r=2 then 92 else if r=3 then 100 else if r=4 then 90 else if r=5 then 80 else if r=6 then 91 else if r=7 then 93 else 4
def sq(_:Int):Int:=108
def Le(x y:Wr):Prop:=x.1<y.1∨x.1=y.1∧x.2≤y.2
instance (x y:Wr):Decidable (Le x y):=by unfold Le;exact inferInstance
def upd(o:Option Wr)(x:Wr):Option Wr:=
 match o with
 | none=>some x
 | some y=>if Le y x then some y else some x
def gq(L:List Wr):Option Wr→Prop
 | none=>∀x,x ∉ L
 | some m=>m∈L∧∀x∈L,Le m x
theorem Le.refl(x:Wr):Le x x := .inr ⟨rfl,Int.le_refl _⟩
theorem Le.trans{x y z:Wr}(h:Le x y)(k:Le y z):Le x z:=by unfold Le at *; omega
theorem Le.of_not{x y:Wr}(h:¬ Le x y):Le y x:=by unfold Le at *; omega
theorem gq.tell{L:List Wr}{o:Option Wr}(h:gq L o)(x:Wr):gq (x::L) (upd o x):=by
 cases o with
 | none=>exact⟨List.mem_cons_self,fun y a=>by rcases List.mem_cons.1 a with rfl|a;exact Le.refl _;exact absurd a (h y)⟩
 | some m =>
  obtain⟨d,b⟩:=h
  by_cases hle:Le m x
  ·have:upd (some m) x=some m:=by simp[upd,hle]
   rw[this];exact⟨List.mem_cons_of_mem _ d,fun y a=>by rcases List.mem_cons.1 a with rfl|a;exact hle;exact b y a⟩
  ·have:upd (some m) x=some x:=by simp[upd,hle]
   rw[this];exact⟨List.mem_cons_self,fun y a=>by rcases List.mem_cons.1 a with rfl|a;exact Le.refl _;exact(Le.of_not hle).trans (b y a)⟩
theorem gq.congr{L L':List Wr}{o:Option Wr}(h:gq L o)(a:∀p,p∈L↔p∈L'):gq L' o:=by
 cases o with
 | none=>exact fun x hx=>h x ((a x).2 hx)
 | some m=>exact⟨(a m).1 h.1,fun x hx=>h.2 x ((a x).2 hx)⟩
theorem tz:gq [] none:=fun x hx=>by simp at hx
theorem gq.none_iff{L:List Wr}(h:gq L none):L=[]:=List.eq_nil_iff_forall_not_mem.2 h
def ups(m:Map)(x:jF):List Nat:=(List.range ((m.Q7+x.size-1) / 2097152+1-m.Q7 / 2097152)).map (· + m.Q7 / 2097152)
def ce(P:aC)(m:Map):Bool:=
 match eL P m.of with
 | none=>false
 | some x=>decide (x.size≤67108864)&&below m.Q7 x.size 549755813888
def du(P:aC)(l:List Map):List Nat:=l.flatMap fun m=>if(aU P m.of).size=0 then[]else(ups m (aU P m.of)).map (· / 512)
def dy(P:aC)(l:List Map):List Nat:=l.flatMap fun m=>if(aU P m.of).size=0∨(aU P m.of).big=true then[]else ups m (aU P m.of)
def bJ(P:aC)(l:List Map):Nat:=if l.all (ce P)then 1+(du P l).eraseDups.length+(dy P l).eraseDups.length else 0
def cE(flat:Nat→cK→Nat×Int×Int)(x:eZ)(c:Nat):Nat:=
 match x.QJ.find? (fun y=>decide (y.QP=c))with
 | some y=>(flat x.QN y).1
 | none=>1
def dV(flat:Nat→cK→Nat×Int×Int)(P:aC):Nat:=
 248+16*(P.QF.length+P.Q4.length)+8*(P.Q3.length+P.Q4.length+P.Q8.length+P.QG.length+P.QC.length+P.Q9.length) +
 (P.Q5.map fun x=>24+(x.text.size+7) / 8*8).sum +
 (P.Q9.map fun x=>32+8*(cE flat x 0+cE flat x 1+cE flat x 2+cE flat x 3)).sum
def aC.tabled(P:aC):List (List Map):=P.Q3.map aS.maps++(P.Q4.map bE.maps).filter fun l=>decide (0<l.length)
def ap(flat:Nat→cK→Nat×Int×Int)(P:aC):Nat:=
 if P.tabled.all (fun l=>decide (0<bJ P l))then(P.tabled.map (bJ P)).sum+(dV flat P+4095) / 4096 else 0
def jh(flat:Nat→cK→Nat×Int×Int)(P:aC):List Wr:=say (decide (ap flat P≤1024)) P.pos 0
def fW:List (List Wr×(Int→Int))→Int→Int→Prop
 | [],a,e=>a=0∧e=0
 | g::t,a,e=>(g.1=[]∧fW t a e)∨∃r,(a,r)∈g.1∧(∀x∈g.1,Le (a,r) x)∧e=g.2 r
noncomputable def cM(named:ByteArray→Bool)(flat:Nat→cK→Nat×Int×Int)(P:aC):List (List Wr×(Int→Int)):=
 [(gL named P,aw),(eU P,eO),(nZ P,nC),(eB P,fD),(iV P,ea),(nD P,dh),(gK (fun M y=>(flat M y).2) P,fC),(jh flat P,sq)]
variable {named:ByteArray→Bool}
theorem bB{α β:Type}{f:α→List β}{l:List α}:l.flatMap f=[]↔∀x∈l,f x=[]:=by
 rw[List.flatMap_eq_nil_iff]
theorem aZ{b:Bool}{a r:Int}:say b a r=[]↔b=true:=by cases b<;>simp[say]
theorem dE{α:Type}{f:α→α→List Wr}:∀{l:List α},cZ f l=[]↔∀(i j:Nat) (x y:α),j<i→l[i]?=some x→l[j]?=some y→f x y=[]
 | []=>by simp[cZ]
 | a::l=>by
  simp only[cZ,List.append_eq_nil_iff,bB,dE (l:=l)];constructor
  ·rintro⟨e,g⟩ i j x y d hx b
   cases i with
   | zero=>omega
   | succ i =>
    simp only[List.getElem?_cons_succ]at hx
    cases j with
    | zero =>
     simp only[List.getElem?_cons_zero,Option.some.injEq]at b;subst b;exact e x (List.mem_of_getElem? hx)
    | succ j =>
     simp only[List.getElem?_cons_succ]at b;exact g i j x y (by omega) hx b
  ·intro h
   refine⟨fun x hx=>?_,fun i j x y d hx b=>h (i+1) (j+1) x y (by omega) (by simpa using hx) (by simpa using b)⟩;obtain⟨i,n⟩:=List.getElem?_of_mem hx;exact h (i+1) 0 x a (by omega) (by simpa using n) (by simp)
theorem ot{a b n:Nat}:(a ||| b)%2 ^ n=0↔a%2 ^ n=0∧b%2 ^ n=0:=by
 rw[Nat.or_mod_two_pow,Nat.or_eq_zero_iff]
def Off(a b c d:Nat):Prop:=a+b≤c∨c+d≤a
theorem kg{a b:dU}(d:0<a.size)(e:0<b.size)(h:clear a b=true):Off a.Q7 a.size b.Q7 b.size:=by
 unfold clear at h;unfold Off;split at h
 ·simp only[Bool.or_eq_true,decide_eq_true_eq]at h
  omega
 ·simp only[Bool.or_eq_true,decide_eq_true_eq]at h
  omega
theorem fk{a s b:Nat}:below a s b=true↔a+s≤b:=by
 unfold below;simp only[Bool.and_eq_true,decide_eq_true_eq];omega
theorem sP:∀{l:List Ram} {s:Nat},s≤67108864→ch s l=[]→s+(l.map Ram.size).sum≤67108864
 | [],s,hs,_=>by simpa using hs
 | x::t,s,hs,h=>by
  simp only[ch,List.append_eq_nil_iff,aZ,decide_eq_true_eq]at h;obtain⟨a,b⟩:=h;have e:min (s+min x.size 67108865) 67108865=s+x.size:=by omega
  rw[e]at a b;have:=sP a b;simp only[List.map_cons,List.sum_cons];omega
structure qx (P:aC):Prop where
 ram:∀x∈P.QF,0<x.size∧x.size≤67108864∧x.Q7+x.size≤4294967296∧x.Q7%4096=0∧x.size%4096=0
 sum:(P.QF.map Ram.size).sum≤67108864
 dev:∀x∈P.Q4,0<x.size∧x.size≤1048576∧x.Q7+x.size≤4294967296∧x.Q7%4096=0∧x.size%4096=0
 rr:∀(i j:Nat) (x y:Ram),j<i→P.QF[i]?=some x→P.QF[j]?=some y→Off x.Q7 x.size y.Q7 y.size
 dd:∀(i j:Nat) (x y:bE),j<i→P.Q4[i]?=some x→P.Q4[j]?=some y→Off x.Q7 x.size y.Q7 y.size
 dr:∀(x:bE) (y:Ram),x∈P.Q4→y∈P.QF→Off x.Q7 x.size y.Q7 y.size
theorem xH{x:dU}(h:lr x=[]):0<x.size∧x.Q7+x.size≤4294967296∧x.Q7%4096=0∧x.size%4096=0:=by
 simp only[lr,List.append_eq_nil_iff,aZ,decide_eq_true_eq,fk]at h;obtain⟨⟨b,d⟩,e⟩:=h;have a:=(ot (n:=12)).1 b;exact⟨d,e,a.1,a.2⟩
theorem wt{l:List Nat}{x:Nat}(h:x∈l):x≤l.sum:=by
 induction l with
 | nil=>simp at h
 | cons a l ih =>
  rcases List.mem_cons.1 h with rfl|h
  ·simp
  ·have:=ih h;simp;omega
theorem ym{P:aC}(h:nZ P=[]):qx P:=by
 simp only[nZ,List.append_eq_nil_iff,bB,aZ,decide_eq_true_eq]at h;obtain⟨⟨⟨B,C⟩,D⟩,E⟩:=h;have r:∀x∈P.parts,0<x.size∧x.Q7+x.size≤4294967296∧x.Q7%4096=0∧x.size%4096=0:=fun x hx=>xH (D x hx)
 have n:(P.QF.map Ram.size).sum≤67108864:=by simpa using sP (s:=0) (by omega) B
 have u:∀(i j:Nat) (x y:dU),j<i→P.parts[i]?=some x→P.parts[j]?=some y→Off x.Q7 x.size y.Q7 y.size:=fun i j x y e hx g=>by
  have v:=dE.1 E i j x y e hx g;rw[aZ]at v;exact kg (r x (List.mem_of_getElem? hx)).1 (r y (List.mem_of_getElem? g)).1 v
 have q:∀(i:Nat) (x:Ram),P.QF[i]?=some x→P.parts[i]?=some ⟨x.Q7,x.size,x.pos⟩:=fun i x hx=>by
  have A:=(List.getElem?_eq_some_iff.1 hx).1;unfold aC.parts;rw[List.getElem?_append_left (by simpa using A),List.getElem?_map,hx];rfl
 have p:∀(i:Nat) (x:bE),P.Q4[i]?=some x→P.parts[P.QF.length+i]?=some ⟨x.Q7,x.size,x.pos⟩:=fun i x hx=>by
  unfold aC.parts;rw[List.getElem?_append_right (by simp)];simp only[List.length_map,Nat.add_sub_cancel_left,List.getElem?_map,hx];rfl
 refine⟨fun x hx=>?_,n,fun x hx=>?_,fun i j x y e hx g=>u i j _ _ e (q i x hx) (q j y g),fun i j x y e hx g=>u _ _ _ _ (by omega) (p i x hx) (p j y g),fun x y hx g=>?_⟩
 ·obtain⟨i,l⟩:=List.getElem?_of_mem hx
  obtain⟨a,b,c,d⟩:=r _ (List.mem_of_getElem? (q i x l));have:=wt (List.mem_map_of_mem (f:=Ram.size) hx);exact⟨a,by omega,b,c,d⟩
 ·obtain⟨i,l⟩:=List.getElem?_of_mem hx
  obtain⟨a,b,c,d⟩:=r _ (List.mem_of_getElem? (p i x l));exact⟨a,C x hx,b,c,d⟩
 ·obtain⟨i,l⟩:=List.getElem?_of_mem hx
  obtain⟨j,w⟩:=List.getElem?_of_mem g;have A:=(List.getElem?_eq_some_iff.1 w).1;exact u _ _ _ _ (by omega) (p i x l) (q j y w)
theorem kC{l:List Nm}{s:ByteArray}:has l s=true↔∃p,(s,p)∈l:=by
 unfold has;simp only[List.any_eq_true,decide_eq_true_eq,Prod.exists];constructor
 ·rintro⟨a,b,h,rfl⟩;exact⟨b,h⟩
 ·rintro⟨p,h⟩;exact⟨s,p,h,rfl⟩
def gM(l:List Nm):Prop:=∀(i j:Nat) (x y:Nm),j<i→l[i]?=some x→l[j]?=some y→x.1≠y.1
theorem dO{l:List Nm}(h:fb named l=[]):(∀x∈l,named x.1=true)∧gM l:=by
 simp only[fb,List.append_eq_nil_iff,bB,aZ]at h;refine⟨h.1,fun i j x y a hx b e=>?_⟩;have:=dE.1 h.2 i j x y a hx b;rw[if_pos e]at this
 cases this
theorem kS{l:List gk}{of:List Nm}(h:ed l of=[]):l.length≤1∧∀x∈l,has of x.name=true:=by
 simp only[ed,List.append_eq_nil_iff,bB,aZ]at h;refine⟨?_,h.2⟩
 rcases Nat.lt_or_ge l.length 2 with a|a
 ·omega
 ·have:=dE.1 h.1 1 0 l[1] l[0] (by omega) (List.getElem?_eq_getElem (by omega)) (List.getElem?_eq_getElem (by omega))
  cases this
structure pM (named:ByteArray→Bool) (P:aC):Prop where
 flat:∀l∈[P.things,P.QO,P.chans,P.irqn,P.ques,P.plns],∀x∈l,named x.1=true
 uniq:∀l∈[P.things,P.QO,P.chans,P.irqn,P.ques,P.plns],gM l
 QE:P.QE.length≤1∧∀x∈P.QE,has P.plns x.name=true
 QD:P.QD.length≤1∧∀x∈P.QD,has P.QO x.name=true
 QB:P.QB.length≤1∧∀x∈P.QB,has P.QO x.name=true
 Qo:∀x∈P.QA,(has P.QO x.QH=true∨has P.QU x.QH=true)∧has P.QO x.to=true
 queue:∀x∈P.QC,1≤x.how∧x.how≤3∧(x.how=3→x.depth=0)∧has P.QO x.QH=true∧has P.QO x.to=true
 Qb:∀x∈P.Q4,∀m∈x.maps,has P.regs m.of=true
 region:∀x∈P.Q5,(x.fixed=true∨x.Q7=0)∧(x.QS=true∨x.text=ByteArray.empty)∧(x.QS=true→x.fill=0)
 QZ:∀x∈P.Q3,∀m∈x.maps,has P.things m.of=true
 QR:∀x∈P.Q3,x.QR.length≤1
 rule:∀x∈P.Q3,∀r∈x.QR,1≤r.how∧r.how≤3∧(r.how=1∧has P.QO r.to=true∨r.how≠1∧r.to=ByteArray.empty∧r.QK=0)
 channel:∀x∈P.Q8,1≤x.how∧x.how≤4∧(x.shared=true∨x.over=ByteArray.empty)∧(x.how=1∨x.QK=0)∧has P.QO x.QH=true∧has P.QO x.to=true∧(x.shared=true→has P.regs x.over=true)
 Qm:∀x∈P.QG,has P.QU x.QH=true∧has P.QO x.to=true
 Qn:∀x∈P.Q9,∀(i j:Nat) (y z:cK),j<i→x.QJ[i]?=some y→x.QJ[j]?=some z→y.QP≠z.QP
 run:∀x∈P.Q9,∀y∈x.QJ,∀r∈y.runs,(y.needs=true∨r.per=0)∧(r.QM=ByteArray.empty∨has P.QO r.QM=true)
theorem ve{P:aC}(h:gL named P=[]):pM named P:=by
 simp only[gL,List.append_eq_nil_iff,bB]at h;obtain⟨⟨⟨⟨⟨⟨⟨⟨⟨⟨⟨⟨⟨⟨A,B⟩,C⟩,D⟩,E⟩,G⟩,⟨I,J⟩,K⟩,c1⟩,c2⟩,L⟩,M⟩,b⟩,N⟩,O⟩,H⟩:=h;refine⟨?_,?_,kS I,kS J,kS K,fun x hx=>?_,fun x hx=>?_,fun x hx m g=>?_,fun x hx=>?_,fun x hx m g=>?_,fun x hx=>?_,fun x hx r n=>?_,fun x hx=>?_,fun x hx=>?_,fun x hx i j y z d w R=>?_,fun x hx y w r n=>?_⟩
 ·intro l a
  simp only[List.mem_cons,List.mem_nil_iff,or_false]at a
  rcases a with rfl|rfl|rfl|rfl|rfl|rfl
  ·exact(dO A).1
  ·exact(dO B).1
  ·exact(dO C).1
  ·exact(dO D).1
  ·exact(dO E).1
  ·exact(dO G).1
 ·intro l a
  simp only[List.mem_cons,List.mem_nil_iff,or_false]at a
  rcases a with rfl|rfl|rfl|rfl|rfl|rfl
  ·exact(dO A).2
  ·exact(dO B).2
  ·exact(dO C).2
  ·exact(dO D).2
  ·exact(dO E).2
  ·exact(dO G).2
 ·have:=c1 x hx
  simpa only[pI,aZ,Bool.and_eq_true,Bool.or_eq_true]using this
 ·have:=c2 x hx
  simp only[il,List.append_eq_nil_iff,aZ,Bool.and_eq_true,Bool.or_eq_true,decide_eq_true_eq,Bool.not_eq_true',decide_eq_false_iff_not]at this;obtain⟨⟨⟨p,q⟩,r⟩,s,t⟩:=this;exact⟨p,q,fun e=>r.resolve_left (fun h=>h e),s,t⟩
 ·exact aZ.1 (L x hx m g)
 ·have:=M x hx
  simp only[fY,aZ,Bool.and_eq_true,Bool.or_eq_true,decide_eq_true_eq,Bool.not_eq_true']at this;obtain⟨⟨p,q⟩,r⟩:=this;exact⟨p,q,fun e=>r.resolve_left (fun h=>by rw[h]at e;cases e)⟩
 ·have:=b x hx
  simp only[fG,List.append_eq_nil_iff,bB]at this;exact aZ.1 (this.1 m g)
 ·have:=b x hx
  simp only[fG,List.append_eq_nil_iff,bB]at this
  rcases Nat.lt_or_ge x.QR.length 2 with Q|Q
  ·omega
  ·have:=dE.1 this.2.1 1 0 x.QR[1] x.QR[0] (by omega) (List.getElem?_eq_getElem (by omega)) (List.getElem?_eq_getElem (by omega))
   cases this
 ·have:=b x hx
  simp only[fG,List.append_eq_nil_iff,bB]at this;have:=this.2.2 r n;simp only[oA,List.append_eq_nil_iff,aZ,Bool.and_eq_true,Bool.or_eq_true,decide_eq_true_eq,Bool.not_eq_true',decide_eq_false_iff_not]at this;obtain⟨⟨⟨p,q⟩,S⟩,s⟩:=this;refine⟨p,q,?_⟩
  by_cases e:r.how=1
  ·exact .inl ⟨e,s.resolve_left (fun h=>h e)⟩
  ·exact .inr ⟨e,S.resolve_left e⟩
 ·have:=N x hx
  simp only[fM,List.append_eq_nil_iff,aZ,Bool.and_eq_true,Bool.or_eq_true,decide_eq_true_eq,Bool.not_eq_true']at this;obtain⟨⟨⟨⟨p,q⟩,r⟩,s⟩,⟨t,u⟩,v⟩:=this;exact⟨p,q,r,s,t,u,fun e=>v.resolve_left (fun h=>by rw[h]at e;cases e)⟩
 ·have:=O x hx
  simpa only[p8,aZ,Bool.and_eq_true]using this
 ·have:=H x hx
  simp only[fH,List.append_eq_nil_iff,bB]at this;have:=dE.1 this.1 i j y z d w R
  simpa only[aZ,Bool.not_eq_true',decide_eq_false_iff_not]using this
 ·have:=H x hx
  simp only[fH,List.append_eq_nil_iff,bB]at this;have:=this.2 y w r n
  simpa only[ol,List.append_eq_nil_iff,aZ,Bool.or_eq_true,decide_eq_true_eq]using this
theorem qJ{α:Type}{pos:α→Int}{n:Nat}{l:List α}:bX pos n l=[]↔l.length≤n:=by
 unfold bX
 rcases Nat.lt_or_ge n l.length with h|h
 ·rw[List.getElem?_eq_getElem h];simp;omega
 ·rw[List.getElem?_eq_none h];simp[h]
structure mu (P:aC):Prop where
 QF:P.QF.length≤8
 Q4:P.Q4.length≤32
 Q5:P.Q5.length≤256
 Q3:P.Q3.length≤64
 Q8:P.Q8.length≤256
 QG:P.QG.length≤64
 QC:P.QC.length≤64
 QA:P.QA.length≤256
 Q9:P.Q9.length≤16
 Qc:∀x∈P.Q3,x.maps.length≤64
 Qd:∀x∈P.Q4,x.maps.length≤64
theorem uP{P:aC}(h:eU P=[]):mu P:=by
 simp only[eU,List.append_eq_nil_iff,bB,qJ]at h;obtain⟨⟨⟨⟨⟨⟨⟨⟨⟨a,b⟩,c⟩,d⟩,e⟩,f⟩,g⟩,i⟩,j⟩,k⟩:=h;refine⟨a,b,c,d,e,f,g,i,j,fun x hx=>k _ ?_,fun x hx=>k _ ?_⟩
 ·exact List.mem_append_left _ (List.mem_map_of_mem hx)
 ·exact List.mem_append_right _ (List.mem_map_of_mem hx)
theorem io{α:Type}{f:α→α→List Wr}{l:List α}:cZ f l=[]↔l.Pairwise (fun y x=>f x y=[]):=by
 induction l with
 | nil=>simp[cZ]
 | cons a l ih=>simp only[cZ,List.append_eq_nil_iff,bB,ih,List.pairwise_cons]
theorem pQ{b:Bool}{x y:Nat}:(x ||| y)%fF b=0↔x%fF b=0∧y%fF b=0:=by
 cases b
 ·exact ot (n:=12)
 ·exact ot (n:=21)
structure gj (P:aC):Prop where
 one:∀x∈P.Q5,0<x.size∧x.size≤67108864∧x.size%fF x.big=0∧x.Q7%fF x.big=0∧x.fill<256∧x.text.size≤x.size∧x.text.size≤1048576∧(x.fill=0∨x.size≤1048576)
 fixed:∀x∈P.Q5,x.fixed=true→x.Q7+x.size≤4294967296∧fT P.QF x.Q7 (eJ x.Q7 x.size)=true
 apart:∀(i j:Nat) (x y:Region),j<i→P.Q5[i]?=some x→P.Q5[j]?=some y→x.fixed=true→y.fixed=true→Off x.Q7 x.size y.Q7 y.size
theorem rK{P:aC}(h:eB P=[]):gj P:=by
 simp only[eB,List.append_eq_nil_iff,bB]at h;obtain⟨p,q⟩:=h;have one:∀x∈P.Q5,0<x.size∧x.size≤67108864∧x.size%fF x.big=0∧x.Q7%fF x.big=0∧x.fill<256∧x.text.size≤x.size∧x.text.size≤1048576∧(x.fill=0∨x.size≤1048576):=fun x hx=>by
  have:=p x hx;simp only[oo,mW,List.append_eq_nil_iff,aZ,Bool.and_eq_true,Bool.or_eq_true,decide_eq_true_eq,pQ]at this;obtain⟨⟨⟨⟨a,b⟩,c,d⟩,_⟩,⟨⟨e,f⟩,g⟩,i⟩:=this;exact⟨c,d,a,b,e,f,g,i⟩
 refine⟨one,fun x hx A=>?_,fun i j x y n hx B v w=>?_⟩
 ·have:=p x hx
  simp only[oo,kc,A,if_true,List.append_eq_nil_iff,aZ,Bool.and_eq_true,Bool.or_eq_true,decide_eq_true_eq,fk]at this;have l:=(one x hx).1;exact this.1.2.resolve_left (by omega)
 ·rw[dT,io,aC.fixed,List.pairwise_map,List.pairwise_filter,List.pairwise_iff_getElem]at q
  obtain⟨r,rfl⟩:=List.getElem?_eq_some_iff.1 hx;obtain⟨u,rfl⟩:=List.getElem?_eq_some_iff.1 B;have l:=q j i u r n (by simpa using w) (by simpa using v);rw[aZ]at l;exact kg (one _ (List.getElem_mem r)).1 (one _ (List.getElem_mem u)).1 l
structure gI (P:aC) (device:Bool) (l:List Map):Prop where
 one:∀m∈l,m.Q7%fF (aU P m.of).big=0∧m.Q7+(aU P m.of).size≤549755813888∧(m.exec=true→device=false∧((aU P m.of).wx=true∨m.write=false))
 apart:∀(i j:Nat) (x y:Map),j<i→l[i]?=some x→l[j]?=some y→0<(aU P x.of).size→0<(aU P y.of).size→Off x.Q7 (aU P x.of).size y.Q7 (aU P y.of).size
theorem ny{P:aC}{device:Bool}:∀{l:List Map} {ap:Nat},(bN P device ap l).1=[] →
 ∀m∈l,m.Q7%fF (aU P m.of).big=0∧m.Q7+(aU P m.of).size≤549755813888∧(m.exec=true→device=false∧((aU P m.of).wx=true∨m.write=false))
 | [],_,_,m,b=>by simp at b
 | a::t,ap,h,m,b=>by
  simp only[bN,List.append_eq_nil_iff,aZ,Bool.and_eq_true,Bool.or_eq_true,decide_eq_true_eq,fk,Bool.not_eq_true']at h;obtain⟨⟨⟨⟨d,g⟩,i⟩,_⟩,j⟩:=h
  rcases List.mem_cons.1 b with rfl|b
  ·exact⟨d,g,fun e=>i.resolve_left (fun h=>by rw[h]at e;cases e)⟩
  ·exact ny j m b
theorem kM{P:aC}{device:Bool}:∀{ls:List (List Map)} {ap:Nat},(bY P device ap ls).1=[]→∀l∈ls,gI P device l
 | [],_,_,l,d=>by simp at d
 | a::t,ap,h,l,d=>by
  simp only[bY,List.append_eq_nil_iff]at h;obtain⟨⟨n,p⟩,q⟩:=h
  rcases List.mem_cons.1 d with rfl|d
  ·refine⟨ny n,fun i j x y e hx r u v=>?_⟩
   have g:=dE.1 p i j ⟨x.Q7,(aU P x.of).size,x.pos⟩ ⟨y.Q7,(aU P y.of).size,y.pos⟩ e (by simp[bR,hx]) (by simp[bR,r]);rw[aZ]at g;exact kg (a:=⟨x.Q7,(aU P x.of).size,x.pos⟩) (b:=⟨y.Q7,(aU P y.of).size,y.pos⟩) u v g
  ·exact kM q l d
theorem xQ{P:aC}(h:iV P=[]):(∀x∈P.Q3,gI P false x.maps)∧∀x∈P.Q4,gI P true x.maps:=by
 simp only[iV,List.append_eq_nil_iff]at h;exact⟨fun x hx=>kM h.1 _ (List.mem_map_of_mem hx),fun x hx=>kM h.2 _ (List.mem_map_of_mem hx)⟩
structure wT (P:aC):Prop where
 subject:∀x∈P.Q3,x.QP<4
 rule:∀x∈P.Q3,∀r∈x.QR,r.how=1→r.QK<64∧r.to≠x.name
 Qm:∀x∈P.QG,x.QK<64
 channel:∀x∈P.Q8,(x.how=1→x.QK<64)∧x.QH≠x.to∧(x.shared=true→dY P x=true)
 Qo:∀x∈P.QA,x.QH≠x.to
 queue:∀x∈P.QC,(x.how≠3→1≤x.depth∧x.depth≤64)∧x.QH≠x.to
theorem yM{P:aC}(h:nD P=[]):wT P:=by
 simp only[nD,List.append_eq_nil_iff,bB,eI,gD,dI,fE,aZ,Bool.and_eq_true,Bool.or_eq_true,decide_eq_true_eq,Bool.not_eq_true',decide_eq_false_iff_not]at h;obtain⟨⟨⟨⟨a,b⟩,c⟩,d⟩,e⟩:=h;refine⟨fun x hx=>(a x hx).1,fun x hx r l e=>?_,b,fun x hx=>?_,d,fun x hx=>?_⟩
 ·obtain⟨g,i⟩:=(a x hx).2 r l
  exact⟨g.resolve_left (fun h=>h e),i.resolve_left (fun h=>h e)⟩
 ·obtain⟨⟨g,i⟩,j⟩:=c x hx
  exact⟨fun e=>g.resolve_left (fun h=>h e),i,fun e=>j.resolve_left (fun h=>by rw[h]at e;cases e)⟩
 ·obtain⟨g,i⟩:=e x hx
  exact⟨fun e=>g.resolve_left e,i⟩
structure pJ (flat:Nat→cK→Int×Int) (P:aC):Prop where
 QE:0<P.QE.length
 QD:1<P.Q9.length→0<P.QD.length
 QN:∀x∈P.Q9,1≤x.QN∧x.QN≤65536
 lane:∀x∈P.Q9,∀y∈x.QJ,y.QP<4∧(flat x.QN y).2=0
 run:∀x∈P.Q9,∀y∈x.QJ,∀r∈y.runs,r.QM=ByteArray.empty∨g9 P r.QM=y.QP
theorem vT{flat:Nat→cK→Int×Int}{P:aC}(h:gK flat P=[]):pJ flat P:=by
 simp only[gK,List.append_eq_nil_iff,bB,aZ,decide_eq_true_eq]at h;obtain⟨⟨a,b⟩,c⟩:=h;have j:∀x∈P.Q9,1≤x.QN∧x.QN≤65536:=fun x hx=>by
  have:=c x hx;unfold im at this;split at this
  ·cases this
  ·omega
 have i:∀x∈P.Q9,∀y∈x.QJ,gX P y=[]∧jW flat x.QN y=[]:=fun x hx y e=>by
  have:=c x hx;unfold im at this;split at this
  ·cases this
  ·have:=bB.1 this y e
   exact List.append_eq_nil_iff.1 this
 refine⟨a,fun h=>?_,j,fun x hx y e=>?_,fun x hx y e r l=>?_⟩
 ·rw[List.getElem?_eq_getElem h]at b
  simpa only[aZ,decide_eq_true_eq]using b
 ·obtain⟨d,g⟩:=i x hx y e
  simp only[gX,List.append_eq_nil_iff,aZ,decide_eq_true_eq]at d;refine⟨d.1,?_⟩;unfold jW at g;simp only at g;split at g
  ·assumption
  ·cases g
 ·obtain⟨d,_⟩:=i x hx y e
  simp only[gX,List.append_eq_nil_iff,bB,aZ,Bool.or_eq_true,decide_eq_true_eq]at d;exact d.2 r l
structure zD (named:ByteArray→Bool) (flat:Nat→cK→Nat×Int×Int) (P:aC):Prop where
 names:pM named P
 counts:mu P
 Qj:qx P
 Q5:gj P
 QO:∀x∈P.Q3,gI P false x.maps
 QU:∀x∈P.Q4,gI P true x.maps
 who:wT P
 Q9:pJ (fun M y=>(flat M y).2) P
 image:ap flat P≤1024
theorem rp{flat:Nat→cK→Nat×Int×Int}{P:aC}:∀g∈cM named flat P,∀r,g.2 r≠0:=by
 intro g a r;simp only[cM,List.mem_cons,List.mem_nil_iff,or_false]at a
 rcases a with rfl|rfl|rfl|rfl|rfl|rfl|rfl|rfl
 ·show aw r≠0;unfold aw;repeat' split
  all_goals omega
 ·show eO r≠0;unfold eO;omega
 ·show nC r≠0;unfold nC;repeat' split
  all_goals omega
 ·show fD r≠0;unfold fD;repeat' split
  all_goals omega
 ·show ea r≠0;unfold ea;repeat' split
  all_goals omega
 ·show dh r≠0;unfold dh;repeat' split
  all_goals omega
 ·show fC r≠0;unfold fC;repeat' split
  all_goals omega
 ·show sq r≠0;unfold sq;omega
end Go.Proofs.YtpblcjipmoblnaaGreatDoor.Ck
namespace Go.Proofs.YtpblcjipmoblnaaGreatDoor.Ck
def bn(P:aC)(m:Map):Nat:=(aU P m.of).size / 4096
theorem nv{P:aC}(b:∀s,(aU P s).size≤67108864){device:Bool}:∀{l:List Map} {ap:Nat},ap≤131072→(bN P device ap l).1=[] →
 (bN P device ap l).2=ap+(l.map (bn P)).sum∧ap+(l.map (bn P)).sum≤131072
 | [],ap,hp,_=>by simpa[bN]using hp
 | a::t,ap,hp,h=>by
  have j:=b a.of;have e:(ap+(aU P a.of).size / 4096)%M64=ap+bn P a:=Nat.mod_eq_of_lt (by unfold M64;omega);simp only[bN,List.append_eq_nil_iff,aZ,decide_eq_true_eq]at h⊢;rw[e]at h⊢;obtain⟨⟨_,d⟩,g⟩:=h;obtain⟨i,n⟩:=nv b d g;simp only[List.map_cons,List.sum_cons];exact⟨by rw[i];omega,by omega⟩
theorem ja{P:aC}(d:∀s,(aU P s).size≤67108864){device:Bool}:∀{ls:List (List Map)} {ap:Nat},ap≤131072→(bY P device ap ls).1=[] →
 (bY P device ap ls).2=ap+(ls.map fun l=>(l.map (bn P)).sum).sum∧ap+(ls.map fun l=>(l.map (bn P)).sum).sum≤131072
 | [],ap,hp,_=>by simpa[bY]using hp
 | a::t,ap,hp,h=>by
  simp only[bY,List.append_eq_nil_iff]at h⊢;obtain⟨⟨e,_⟩,b⟩:=h;obtain⟨g,i⟩:=nv d hp e;rw[g]at b⊢;obtain⟨j,n⟩:=ja d i b;simp only[List.map_cons,List.sum_cons];exact⟨by rw[j];omega,by omega⟩
theorem pa{P:aC}(d:∀s,(aU P s).size≤67108864){device:Bool}:∀{l:List Map} {ap:Nat},ap+(l.map (bn P)).sum≤131072 →
 (∀m∈l,m.Q7%fF (aU P m.of).big=0∧m.Q7+(aU P m.of).size≤549755813888∧(m.exec=true→device=false∧((aU P m.of).wx=true∨m.write=false))) →
 bN P device ap l=([],ap+(l.map (bn P)).sum)
 | [],ap,_,_=>by simp[bN]
 | a::t,ap,hp,h=>by
  have w:=d a.of;simp only[List.map_cons,List.sum_cons]at hp⊢;have e:(ap+(aU P a.of).size / 4096)%M64=ap+bn P a:=Nat.mod_eq_of_lt (by unfold M64;omega);obtain⟨p,q,r⟩:=h a List.mem_cons_self;have v:=pa d (device:=device) (l:=t) (ap:=ap+bn P a) (by omega) (fun m u=>h m (List.mem_cons_of_mem _ u));simp only[bN];rw[e,v];have g:say (decide (a.Q7%fF (aU P a.of).big=0)) a.pos 0=[]:=by rw[aZ];simpa using p
  have i:say (below a.Q7 (aU P a.of).size 549755813888) a.pos 1=[]:=by rw[aZ,fk];exact q
  have j:say (!a.exec || !device&&((aU P a.of).wx || !a.write)) a.pos 3=[]:=by
   rw[aZ]
   cases he:a.exec with
   | false=>rfl
   | true =>
    obtain⟨rfl,b⟩:=r he
    rcases b with b|b<;>simp[b]
  have n:say (decide (ap+bn P a≤131072)) a.pos 4=[]:=by rw[aZ];simp;omega
  rw[g,i,j,n];simp[Nat.add_assoc]
theorem iO{a b:dU}(h:Off a.Q7 a.size b.Q7 b.size):clear a b=true:=by
 unfold Off at h;unfold clear;split<;>simp only[Bool.or_eq_true,decide_eq_true_eq]<;>omega
theorem qv{r:Int}{l:List dU}(h:∀(i j:Nat) (x y:dU),j<i→l[i]?=some x→l[j]?=some y→clear x y=true):dT r l=[]:=
 dE.2 fun i j x y a hx b=>aZ.2 (h i j x y a hx b)
theorem kN{P:aC}(u:∀s,(aU P s).size≤67108864){device:Bool}:∀{ls:List (List Map)} {ap:Nat},ap+(ls.map fun l=>(l.map (bn P)).sum).sum≤131072 →
 (∀l∈ls,gI P device l∧∀m∈l,0<(aU P m.of).size)→bY P device ap ls=([],ap+(ls.map fun l=>(l.map (bn P)).sum).sum)
 | [],ap,_,_=>by simp[bY]
 | a::t,ap,hp,h=>by
  simp only[List.map_cons,List.sum_cons]at hp⊢;obtain⟨r,q⟩:=h a List.mem_cons_self;have w:=pa u (device:=device) (l:=a) (ap:=ap) (by omega) r.one;have C:=kN u (device:=device) (ls:=t) (ap:=ap+(a.map (bn P)).sum) (by omega) (fun l B=>h l (List.mem_cons_of_mem _ B));have A:dT 2 (bR P a)=[]:=qv fun i j x y p hx v=>by
   simp only[bR,List.getElem?_map,Option.map_eq_some_iff]at hx v;obtain⟨g,d,rfl⟩:=hx;obtain⟨n,e,rfl⟩:=v;exact iO (a:=⟨g.Q7,(aU P g.of).size,g.pos⟩) (b:=⟨n.Q7,(aU P n.of).size,n.pos⟩) (r.apart i j g n p d e (q g (List.mem_of_getElem? d)) (q n (List.mem_of_getElem? e)))
  simp only[bY];rw[w];simp only;rw[A,C];simp[Nat.add_assoc]
variable {named:ByteArray→Bool} {s:ByteArray}
theorem xL{l:List Nm}(b:∀x∈l,named x.1=true)(d:gM l):fb named l=[]:=by
 simp only[fb,List.append_eq_nil_iff,bB,aZ];exact⟨b,dE.2 fun i j x y a hx e=>if_neg (d i j x y a hx e)⟩
theorem ks{α:Type}{f:α→α→List Wr}{l:List α}(h:l.length≤1):cZ f l=[]:=
 dE.2 fun i j x y a hx b=>by
  have:=(List.getElem?_eq_some_iff.1 hx).1;omega
theorem lm{l:List gk}{of:List Nm}(a:l.length≤1)(b:∀x∈l,has of x.name=true):ed l of=[]:=by
 simp only[ed,List.append_eq_nil_iff,bB,aZ];exact⟨ks a,b⟩
theorem vf{P:aC}(h:pM named P):gL named P=[]:=by
 have a:∀l∈[P.things,P.QO,P.chans,P.irqn,P.ques,P.plns],fb named l=[]:=fun l A=>xL (h.flat l A) (h.uniq l A)
 simp only[gL,List.append_eq_nil_iff,bB];refine⟨⟨⟨⟨⟨⟨⟨⟨⟨⟨⟨⟨⟨⟨a _ (by simp),a _ (by simp)⟩,a _ (by simp)⟩,a _ (by simp)⟩,a _ (by simp)⟩,a _ (by simp)⟩,⟨lm h.QE.1 h.QE.2,lm h.QD.1 h.QD.2⟩,lm h.QB.1 h.QB.2⟩,
  fun x hx=>?_⟩,fun x hx=>?_⟩,fun x hx m d=>?_⟩,fun x hx=>?_⟩,fun x hx=>?_⟩,fun x hx=>?_⟩,fun x hx=>?_⟩,fun x hx=>?_⟩
 ·simpa only[pI,aZ,Bool.and_eq_true,Bool.or_eq_true]using h.Qo x hx
 ·obtain⟨p,q,r,s,t⟩:=h.queue x hx
  simp only[il,List.append_eq_nil_iff,aZ,Bool.and_eq_true,Bool.or_eq_true,decide_eq_true_eq,Bool.not_eq_true',decide_eq_false_iff_not];exact⟨⟨⟨p,q⟩,Decidable.or_iff_not_imp_left.2 (fun h=>r (Decidable.not_not.1 h))⟩,s,t⟩
 ·exact aZ.2 (h.Qb x hx m d)
 ·obtain⟨p,q,r⟩:=h.region x hx
  simp only[fY,aZ,Bool.and_eq_true,Bool.or_eq_true,decide_eq_true_eq,Bool.not_eq_true'];refine⟨⟨p,q⟩,?_⟩
  cases ht:x.QS with
  | false=>exact .inl rfl
  | true=>exact .inr (r ht)
 ·simp only[fG,List.append_eq_nil_iff,bB]
  refine⟨fun m d=>aZ.2 (h.QZ x hx m d),ks (h.QR x hx),fun r e=>?_⟩;obtain⟨p,q,s⟩:=h.rule x hx r e;simp only[oA,List.append_eq_nil_iff,aZ,Bool.and_eq_true,Bool.or_eq_true,decide_eq_true_eq,Bool.not_eq_true',decide_eq_false_iff_not]
  rcases s with⟨n,w⟩|⟨n,w⟩
  ·exact⟨⟨⟨p,q⟩,.inl n⟩,.inr w⟩
  ·exact⟨⟨⟨p,q⟩,.inr w⟩,.inl n⟩
 ·obtain⟨p,q,r,s,t,u,v⟩:=h.channel x hx
  simp only[fM,List.append_eq_nil_iff,aZ,Bool.and_eq_true,Bool.or_eq_true,decide_eq_true_eq,Bool.not_eq_true'];refine⟨⟨⟨⟨p,q⟩,r⟩,s⟩,⟨t,u⟩,?_⟩
  cases ht:x.shared with
  | false=>exact .inl rfl
  | true=>exact .inr (v ht)
 ·simpa only[p8,aZ,Bool.and_eq_true]using h.Qm x hx
 ·simp only[fH,List.append_eq_nil_iff,bB]
  refine⟨dE.2 fun i j y z b g B=>?_,fun y g r e=>?_⟩
  ·simpa only[aZ,Bool.not_eq_true',decide_eq_false_iff_not]using h.Qn x hx i j y z b g B
  ·simpa only[ol,List.append_eq_nil_iff,aZ,Bool.or_eq_true,decide_eq_true_eq]using h.run x hx y g r e
theorem uQ{P:aC}(h:mu P):eU P=[]:=by
 simp only[eU,List.append_eq_nil_iff,bB,qJ];refine⟨⟨⟨⟨⟨⟨⟨⟨⟨h.QF,h.Q4⟩,h.Q5⟩,h.Q3⟩,h.Q8⟩,h.QG⟩,h.QC⟩,h.QA⟩,h.Q9⟩,fun l a=>?_⟩
 rcases List.mem_append.1 a with a|a
 ·obtain⟨x,hx,rfl⟩:=List.mem_map.1 a
  exact h.Qc x hx
 ·obtain⟨x,hx,rfl⟩:=List.mem_map.1 a
  exact h.Qd x hx
theorem sO:∀{l:List Ram} {s:Nat},s+(l.map Ram.size).sum≤67108864→ch s l=[]
 | [],s,_=>rfl
 | x::t,s,h=>by
  simp only[List.map_cons,List.sum_cons]at h;have e:min (s+min x.size 67108865) 67108865=s+x.size:=by omega
  simp only[ch,List.append_eq_nil_iff,aZ,decide_eq_true_eq];rw[e];exact⟨by omega,sO (by omega)⟩
theorem xI{x:dU}(h:0<x.size∧x.Q7+x.size≤4294967296∧x.Q7%4096=0∧x.size%4096=0):lr x=[]:=by
 simp only[lr,List.append_eq_nil_iff,aZ,decide_eq_true_eq,fk];exact⟨⟨(ot (n:=12)).2 h.2.2,h.1⟩,h.2.1⟩
theorem Off.symm{a b c d:Nat}(h:Off a b c d):Off c d a b:=by unfold Off at *; omega
theorem yn{P:aC}(h:qx P):nZ P=[]:=by
 simp only[nZ,List.append_eq_nil_iff,bB,aZ,decide_eq_true_eq];refine⟨⟨⟨sO (by simpa using h.sum),fun x hx=>(h.dev x hx).2.1⟩,fun x hx=>xI ?_⟩,qv fun i j x y u hx g=>iO ?_⟩
 ·rcases List.mem_append.1 hx with hx|hx
  ·obtain⟨r,v,rfl⟩:=List.mem_map.1 hx
   obtain⟨a,b,c,d,e⟩:=h.ram r v;exact⟨a,c,d,e⟩
  ·obtain⟨r,v,rfl⟩:=List.mem_map.1 hx
   obtain⟨a,b,c,d,e⟩:=h.dev r v;exact⟨a,c,d,e⟩
 ·unfold aC.parts at hx g
  rcases Nat.lt_or_ge i P.QF.length with p|p
  ·rw[List.getElem?_append_left (by simpa using p)]at hx
   rw[List.getElem?_append_left (by simp;omega)]at g;simp only[List.getElem?_map,Option.map_eq_some_iff]at hx g;obtain⟨a,n,rfl⟩:=hx;obtain⟨b,l,rfl⟩:=g;exact h.rr i j a b u n l
  ·rw[List.getElem?_append_right (by simpa using p)]at hx
   simp only[List.length_map,List.getElem?_map,Option.map_eq_some_iff]at hx;obtain⟨a,n,rfl⟩:=hx
   rcases Nat.lt_or_ge j P.QF.length with q|q
   ·rw[List.getElem?_append_left (by simpa using q)]at g
    simp only[List.getElem?_map,Option.map_eq_some_iff]at g;obtain⟨b,l,rfl⟩:=g;exact h.dr a b (List.mem_of_getElem? n) (List.mem_of_getElem? l)
   ·rw[List.getElem?_append_right (by simpa using q)]at g
    simp only[List.length_map,List.getElem?_map,Option.map_eq_some_iff]at g;obtain⟨b,l,rfl⟩:=g;exact h.dd _ _ a b (by omega) n l
theorem rL{P:aC}(h:gj P):eB P=[]:=by
 simp only[eB,List.append_eq_nil_iff,bB];refine⟨fun x hx=>?_,?_⟩
 ·obtain⟨a,b,c,d,e,f,g,i⟩:=h.one x hx
  simp only[oo,mW,List.append_eq_nil_iff,aZ,Bool.and_eq_true,Bool.or_eq_true,decide_eq_true_eq,pQ];refine⟨⟨⟨⟨c,d⟩,a,b⟩,?_⟩,⟨⟨e,f⟩,g⟩,i⟩;unfold kc;split
  ·rename_i u
   obtain⟨q,r⟩:=h.fixed x hx u;simp only[aZ,Bool.and_eq_true,Bool.or_eq_true,decide_eq_true_eq,fk];exact .inr ⟨q,r⟩
  ·rfl
 ·rw[dT,io,aC.fixed,List.pairwise_map,List.pairwise_filter,List.pairwise_iff_getElem]
  intro i j v w l n p;rw[aZ];exact iO (a:=⟨_,_,_⟩) (b:=⟨_,_,_⟩) (h.apart j i _ _ l (List.getElem?_eq_getElem w) (List.getElem?_eq_getElem v) (by simpa using p) (by simpa using n))
theorem yN{P:aC}(h:wT P):nD P=[]:=by
 simp only[nD,List.append_eq_nil_iff,bB,eI,gD,dI,fE,aZ,Bool.and_eq_true,Bool.or_eq_true,decide_eq_true_eq,Bool.not_eq_true',decide_eq_false_iff_not];refine⟨⟨⟨⟨fun x hx=>⟨h.subject x hx,fun r d=>?_⟩,h.Qm⟩,fun x hx=>?_⟩,h.Qo⟩,fun x hx=>?_⟩
 ·by_cases e:r.how=1
  ·exact⟨.inr (h.rule x hx r d e).1,.inr (h.rule x hx r d e).2⟩
  ·exact⟨.inl e,.inl e⟩
 ·obtain⟨a,b,c⟩:=h.channel x hx
  refine⟨⟨?_,b⟩,?_⟩
  ·by_cases e:x.how=1
   ·exact .inr (a e)
   ·exact .inl e
  ·cases ht:x.shared with
   | false=>exact .inl rfl
   | true=>exact .inr (c ht)
 ·obtain⟨a,b⟩:=h.queue x hx
  refine⟨?_,b⟩
  by_cases e:x.how=3
  ·exact .inl e
  ·exact .inr (a e)
theorem vU{flat:Nat→cK→Int×Int}{P:aC}(h:pJ flat P):gK flat P=[]:=by
 simp only[gK,List.append_eq_nil_iff,bB,aZ,decide_eq_true_eq];refine⟨⟨h.QE,?_⟩,fun x hx=>?_⟩
 ·rcases Nat.lt_or_ge 1 P.Q9.length with a|a
  ·rw[List.getElem?_eq_getElem a]
   simpa only[aZ,decide_eq_true_eq]using h.QD a
  ·rw[List.getElem?_eq_none a]
 ·have:=h.QN x hx
  unfold im;rw[if_neg (by omega)];refine bB.2 fun y b=>List.append_eq_nil_iff.2 ⟨?_,?_⟩
  ·simp only[gX,List.append_eq_nil_iff,bB,aZ,Bool.or_eq_true,decide_eq_true_eq]
   exact⟨(h.lane x hx y b).1,h.run x hx y b⟩
  ·unfold jW
   simp only;rw[if_pos (h.lane x hx y b).2]
def qw(named:ByteArray→Bool)(flat:Nat→cK→Nat×Int×Int)(P:aC):Prop:=∀g∈cM named flat P,g.1=[]
def gV(P:aC):Nat:=((P.Q3.map aS.maps).map fun l=>(l.map (bn P)).sum).sum+((P.Q4.map bE.maps).map fun l=>(l.map (bn P)).sum).sum
structure yF (named:ByteArray→Bool) (flat:Nat→cK→Nat×Int×Int) (P:aC):Prop extends zD named flat P where
 mapped:gV P≤131072
theorem gU{α:Type}{p:α→Bool}{l:List α}{x:α}(h:l.find? p=some x):x∈l∧p x=true:=⟨List.mem_of_find?_eq_some h,List.find?_some h⟩
theorem np{P:aC}{t:jF}(h:eL P s=some t):(∃x∈P.Q5,x.name=s∧t=⟨x.size,x.big,x.wx⟩)∨∃x∈P.Q4,x.name=s∧t=⟨x.size,false,false⟩:=by
 unfold eL at h;split at h
 ·rename_i x hx
  obtain⟨a,b⟩:=gU hx;exact .inl ⟨x,a,by simpa using b,(Option.some.inj h).symm⟩
 ·rw[Option.map_eq_some_iff]at h
  obtain⟨x,hx,rfl⟩:=h;obtain⟨a,b⟩:=gU hx;exact .inr ⟨x,a,by simpa using b,rfl⟩
theorem pS{P:aC}(a:qx P)(b:gj P)(s:ByteArray):(aU P s).size≤67108864:=by
 unfold aU
 cases h:eL P s with
 | none=>simp
 | some t =>
  rcases np h with⟨x,hx,_,rfl⟩|⟨x,hx,_,rfl⟩
  ·exact(b.one x hx).2.1
  ·have:=(a.dev x hx).2.1
   simp only[Option.getD_some];omega
theorem oX{P:aC}(h:has P.things s=true):∃t,eL P s=some t:=by
 unfold eL;split
 ·exact⟨_,rfl⟩
 ·rename_i b
  obtain⟨p,a⟩:=kC.1 h
  rcases List.mem_append.1 a with a|a
  ·obtain⟨x,hx,e⟩:=List.mem_map.1 a
   cases hf:P.Q4.find? (fun x=>decide (x.name=s))with
   | some y=>exact⟨_,rfl⟩
   | none =>
    have:=List.find?_eq_none.1 hf x hx;simp only[Prod.mk.injEq]at e;simp[e.1]at this
  ·obtain⟨x,hx,e⟩:=List.mem_map.1 a
   have:=List.find?_eq_none.1 b x hx;simp only[Prod.mk.injEq]at e;simp[e.1]at this
theorem ro{P:aC}(h:has P.regs s=true):has P.things s=true:=by
 obtain⟨p,a⟩:=kC.1 h;exact kC.2 ⟨p,List.mem_append_right _ a⟩
theorem nk{P:aC}(b:qx P)(d:gj P){s:ByteArray}(h:has P.things s=true):0<(aU P s).size:=by
 obtain⟨t,a⟩:=oX h;unfold aU;rw[a]
 rcases np a with⟨x,hx,_,rfl⟩|⟨x,hx,_,rfl⟩
 ·exact(d.one x hx).1
 ·exact(b.dev x hx).1
theorem jd{flat:Nat→cK→Nat×Int×Int}{P:aC}(h:qw named flat P):yF named flat P:=by
 have a:=h (iV P,ea) (by simp[cM]);have m:=xQ a;have b:=ym (h (nZ P,nC) (by simp[cM]));have d:=rK (h (eB P,fD) (by simp[cM]));have j:=h (jh flat P,sq) (by simp[cM]);refine⟨⟨ve (h (gL named P,aw) (by simp[cM])),uP (h (eU P,eO) (by simp[cM])),b,d,m.1,m.2,
  yM (h (nD P,dh) (by simp[cM])),vT (h (gK (fun M y=>(flat M y).2) P,fC) (by simp[cM])),by simpa only[jh,aZ,decide_eq_true_eq]using j⟩,?_⟩
 simp only[iV,List.append_eq_nil_iff]at a;have e:=pS b d;obtain⟨g,i⟩:=ja e (Nat.zero_le _) a.1;rw[g]at a;obtain⟨l,n⟩:=ja e i a.2;unfold gV;omega
theorem mT{flat:Nat→cK→Nat×Int×Int}{P:aC}(h:yF named flat P):qw named flat P:=by
 have i:=pS h.Qj h.Q5;have d:=h.mapped;unfold gV at d;have j:=kN i (device:=false) (ls:=P.Q3.map aS.maps) (ap:=0) (by omega) (fun l a=>by
  obtain⟨x,hx,rfl⟩:=List.mem_map.1 a;exact⟨h.QO x hx,fun m b=>nk h.Qj h.Q5 (h.names.QZ x hx m b)⟩)
 have n:=kN i (device:=true) (ls:=P.Q4.map bE.maps) (ap:=0+((P.Q3.map aS.maps).map fun l=>(l.map (bn P)).sum).sum) (by omega) (fun l a=>by
  obtain⟨x,hx,rfl⟩:=List.mem_map.1 a;exact⟨h.QU x hx,fun m b=>nk h.Qj h.Q5 (ro (h.names.Qb x hx m b))⟩)
 intro g e;simp only[cM,List.mem_cons,List.mem_nil_iff,or_false]at e
 rcases e with rfl|rfl|rfl|rfl|rfl|rfl|rfl|rfl
 ·exact vf h.names
 ·exact uQ h.counts
 ·exact yn h.Qj
 ·exact rL h.Q5
 ·show iV P=[]
  simp only[iV];rw[j];simp only;rw[n];rfl
 ·exact yN h.who
 ·exact vU h.Q9
 ·simpa only[jh,aZ,decide_eq_true_eq]using h.image
theorem lT{flat:Nat→cK→Nat×Int×Int}{P:aC}{a e:Int}(h:fW (cM named flat P) a e):(e=0↔qw named flat P)∧(e=0→a=0):=by
 have key:∀(l:List (List Wr×(Int→Int))) (a e:Int),(∀g∈l,∀r,g.2 r≠0)→fW l a e→(e=0↔∀g∈l,g.1=[])∧(e=0→a=0):=by
  intro l
  induction l with
  | nil=>intro a e _ h;exact⟨⟨fun _ g hg=>by simp at hg,fun _=>h.2⟩,fun _=>h.1⟩
  | cons g t ih =>
   intro a e hw h
   rcases h with⟨h1,h2⟩|⟨r,hr,_,rfl⟩
   ·obtain⟨h3,h4⟩:=ih a e (fun g hg=>hw g (List.mem_cons_of_mem _ hg)) h2
    refine⟨⟨fun e0 g' hg'=>?_,fun hall=>h3.2 fun g' hg'=>hall g' (List.mem_cons_of_mem _ hg')⟩,h4⟩
    rcases List.mem_cons.1 hg' with rfl|hg'
    ·exact h1
    ·exact h3.1 e0 g' hg'
   ·refine⟨⟨fun e0=>absurd e0 (hw g List.mem_cons_self r),fun hall=>?_⟩,fun e0=>absurd e0 (hw g List.mem_cons_self r)⟩
    rw[hall g List.mem_cons_self]at hr;simp at hr
 exact key _ a e rp h
end Go.Proofs.YtpblcjipmoblnaaGreatDoor.Ck
namespace Go.Proofs.YtpblcjipmoblnaaGreatDoor.Ck
variable {l:List Nat}
theorem fu{l l':List Nat}(h:l.Perm l'):l.sum=l'.sum:=by
 induction h with
 | nil=>rfl
 | cons x _ ih=>simp[ih]
 | swap x y l=>simp only[List.sum_cons];omega
 | trans _ _ a b=>exact a.trans b
theorem pA{α:Type}{R:α→α→Prop}{l:List α}:(∀(i j:Nat) (x y:α),j<i→l[i]?=some x→l[j]?=some y→R x y)↔l.Pairwise (fun y x=>R x y):=by
 rw[List.pairwise_iff_getElem];constructor
 ·intro h i j a d b
  exact h j i _ _ b (List.getElem?_eq_getElem d) (List.getElem?_eq_getElem a)
 ·intro h i j x y e hx g
  obtain⟨a,rfl⟩:=List.getElem?_eq_some_iff.1 hx;obtain⟨d,rfl⟩:=List.getElem?_eq_some_iff.1 g;exact h j i d a e
theorem iz{α:Type}{R:α→α→Prop}(d:∀x y,R x y→R y x){l a:List α}(b:a.Perm l)(h:∀(i j:Nat) (x y:α),j<i→l[i]?=some x→l[j]?=some y→R x y):
 ∀(i j:Nat) (x y:α),j<i→a[i]?=some x→a[j]?=some y→R x y:=by
 rw[pA]at h⊢;exact(b.pairwise_iff (fun{x y} h=>d _ _ h)).2 h
theorem oN{α:Type}{p:α→Bool}{l b:List α}(a:b.Perm l)(j:∀x∈l,∀y∈l,p x=true→p y=true→x=y):b.find? p=l.find? p:=by
 cases h:l.find? p with
 | none =>
  rw[List.find?_eq_none]at h⊢;exact fun x hx=>h x (a.mem_iff.1 hx)
 | some x =>
  obtain⟨d,e⟩:=gU h
  cases h':b.find? p with
  | none=>exact absurd e (List.find?_eq_none.1 h' x (a.mem_iff.2 d))
  | some y =>
   obtain⟨g,i⟩:=gU h';rw[j y (a.mem_iff.1 g) x d i e]
theorem kF{l m:List Nat}(hn:l.Nodup)(h:∀x∈l,x∈m):l.length≤m.length:=by
 induction l generalizing m with
 | nil=>simp
 | cons a l ih =>
  obtain⟨h1,h2⟩:=List.nodup_cons.1 hn;have ha:=h a List.mem_cons_self;have:=ih h2 (m:=m.erase a) (fun x hx=>(List.mem_erase_of_ne (by rintro rfl;exact h1 hx)).2 (h x (List.mem_cons_of_mem _ hx)));rw[List.length_erase_of_mem ha]at this;have:=List.length_pos_of_mem ha;simp only[List.length_cons];omega
theorem iM(l:List Nat):l.eraseDups.Nodup:=by
 induction h:l.length using Nat.strongRecOn generalizing l with
 | ind n ih =>
  cases l with
  | nil=>simp
  | cons a t =>
   rw[List.eraseDups_cons];refine List.nodup_cons.2 ⟨fun hm=>?_,ih _ ?_ _ rfl⟩
   ·have:=(List.mem_filter.1 (List.mem_eraseDups.1 hm)).2
    simp at this
   ·have:=List.length_filter_le (fun b =>!b==a) t
    simp only[List.length_cons]at h;omega
theorem se{m:List Nat}(h:∀x,x∈l↔x∈m):l.eraseDups.length=m.eraseDups.length:=by
 have a:=kF (iM l) (m:=m.eraseDups) (fun x hx=>List.mem_eraseDups.2 ((h x).1 (List.mem_eraseDups.1 hx)));have b:=kF (iM m) (m:=l.eraseDups) (fun x hx=>List.mem_eraseDups.2 ((h x).2 (List.mem_eraseDups.1 hx)));omega
theorem tZ{α β:Type}{f:α→β}{m m':List β}(h:m.Perm m'):∀l:List α,l.map f=m→∃l':List α,l'.Perm l∧l'.map f=m':=by
 induction h with
 | nil=>intro l hl;exact⟨l,.refl _,hl⟩
 | cons x _ ih =>
  intro l hl
  cases l with
  | nil=>cases hl
  | cons a l =>
   simp only[List.map_cons,List.cons.injEq]at hl;obtain⟨l',h1,h2⟩:=ih l hl.2;exact⟨a::l',h1.cons a,by simp[hl.1,h2]⟩
 | swap x y t =>
  intro l hl
  match l,hl with
  | a::b::l,hl =>
   simp only[List.map_cons,List.cons.injEq]at hl;exact⟨b::a::l,.swap a b l,by simp[hl]⟩
 | trans _ _ ih1 ih2 =>
  intro l hl;obtain⟨l1,h1,h2⟩:=ih1 l hl;obtain⟨l2,h3,h4⟩:=ih2 l1 h2;exact⟨l2,h3.trans h1,h4⟩
def aS.with_(x:aS)(l:List Map):aS:={ x with maps:=l }
structure Turned (P Q:aC):Prop where
 pos:Q.pos=P.pos
 QF:Q.QF.Perm P.QF
 Q4:Q.Q4.Perm P.Q4
 Q5:Q.Q5.Perm P.Q5
 Q3:∃zs:List (aS×List Map),(zs.map (·.1)).Perm P.Q3∧(∀z∈zs,z.2.Perm z.1.maps)∧Q.Q3=zs.map fun z=>z.1.with_ z.2
 Q8:Q.Q8.Perm P.Q8
 QG:Q.QG.Perm P.QG
 QC:Q.QC.Perm P.QC
 Q9:Q.Q9.Perm P.Q9
 QA:Q.QA.Perm P.QA
 QD:Q.QD=P.QD
 QE:Q.QE=P.QE
 QB:Q.QB=P.QB
theorem Turned.symm{P Q:aC}(h:Turned P Q):Turned Q P:=by
 refine⟨h.pos.symm,h.QF.symm,h.Q4.symm,h.Q5.symm,?_,h.Q8.symm,h.QG.symm,h.QC.symm,h.Q9.symm,h.QA.symm,h.QD.symm,h.QE.symm,h.QB.symm⟩;obtain⟨n,b,d,e⟩:=h.Q3;obtain⟨l,a,g⟩:=tZ b n rfl;refine⟨l.map fun z=>(z.1.with_ z.2,z.1.maps),?_,fun z j=>?_,?_⟩
 ·rw[e,List.map_map]
  exact a.map _
 ·obtain⟨y,i,rfl⟩:=List.mem_map.1 j
  exact(d y (a.mem_iff.1 i)).symm
 ·rw[List.map_map,←g]
  rfl
namespace Turned
variable {P Q:aC}
theorem mem_sub(h:Turned P Q){y:aS}(a:y∈Q.Q3):∃x∈P.Q3,y=x.with_ y.maps∧y.maps.Perm x.maps:=by
 obtain⟨i,d,e,g⟩:=h.Q3;rw[g]at a;obtain⟨z,b,rfl⟩:=List.mem_map.1 a;exact⟨z.1,d.mem_iff.1 (List.mem_map_of_mem b),rfl,e z b⟩
theorem QO(h:Turned P Q):Q.QO.Perm P.QO:=by
 obtain⟨e,a,d,b⟩:=h.Q3;have:=a.map (fun x:aS=>((x.name,x.pos):Nm));rw[List.map_map]at this;unfold aC.QO;rw[b,List.map_map];exact this
theorem QU(h:Turned P Q):Q.QU.Perm P.QU:=h.Q4.map _
theorem regs(h:Turned P Q):Q.regs.Perm P.regs:=h.Q5.map _
theorem things(h:Turned P Q):Q.things.Perm P.things:=h.QU.append h.regs
theorem chans(h:Turned P Q):Q.chans.Perm P.chans:=h.Q8.map _
theorem irqn(h:Turned P Q):Q.irqn.Perm P.irqn:=h.QG.map _
theorem ques(h:Turned P Q):Q.ques.Perm P.ques:=h.QC.map _
theorem plns(h:Turned P Q):Q.plns.Perm P.plns:=h.Q9.map _
theorem mS{l b:List Nm}(h:b.Perm l)(s:ByteArray):has b s=has l s:=by
 rw[Bool.eq_iff_iff,kC,kC];exact⟨fun⟨p,a⟩=>⟨p,h.mem_iff.1 a⟩,fun⟨p,a⟩=>⟨p,h.mem_iff.2 a⟩⟩
theorem uniq{l a:List Nm}(h:a.Perm l)(b:gM l):gM a:=by
 unfold gM at *;exact iz (R:=fun(x y:Nm)=>x.1≠y.1) (fun _ _ h=>h.symm) h b
end Turned
theorem oW{α:Type}{f:α→Nm}{l:List α}(d:gM (l.map f)):∀x∈l,∀y∈l,(f x).1=(f y).1→x=y:=by
 intro x hx y g e;obtain⟨i,a⟩:=List.getElem?_of_mem hx;obtain⟨j,b⟩:=List.getElem?_of_mem g
 rcases Nat.lt_trichotomy i j with h|h|h
 ·exact absurd e.symm (d j i _ _ h (by simp[b]) (by simp[a]))
 ·subst h
  exact Option.some.inj (a.symm.trans b)
 ·exact absurd e (d i j _ _ h (by simp[a]) (by simp[b]))
namespace Turned
variable {P Q:aC}
theorem sw(h:gM P.things):gM P.regs:=fun i j x y a hx b=>h (P.QU.length+i) (P.QU.length+j) x y (by omega)
 (by unfold aC.things;rw[List.getElem?_append_right (by omega)];simpa using hx) (by unfold aC.things;rw[List.getElem?_append_right (by omega)];simpa using b)
theorem sz(h:gM P.things):gM P.QU:=fun i j x y a hx b=>h i j x y a
 (by unfold aC.things;rw[List.getElem?_append_left (List.getElem?_eq_some_iff.1 hx).1];exact hx) (by unfold aC.things;rw[List.getElem?_append_left (List.getElem?_eq_some_iff.1 b).1];exact b)
theorem thing_eq(h:Turned P Q)(e:gM P.things)(s:ByteArray):eL Q s=eL P s:=by
 unfold eL;rw[oN h.Q5 (fun x hx y d a b=>oW (sw e) x hx y d (by simp only[decide_eq_true_eq]at a b;exact a.trans b.symm)),
  oN h.Q4 (fun x hx y d a b=>oW (sz e) x hx y d (by simp only[decide_eq_true_eq]at a b;exact a.trans b.symm))]
theorem thing0_eq(h:Turned P Q)(a:gM P.things)(s:ByteArray):aU Q s=aU P s:=by
 unfold aU;rw[h.thing_eq a]
theorem qi{s:ByteArray}{x:aS}(e:gM P.QO)(hx:x∈P.Q3)(b:x.name=s):g9 P s=x.QP:=by
 unfold g9
 cases hf:P.Q3.find? (fun x=>decide (x.name=s))with
 | none=>have:=List.find?_eq_none.1 hf x hx;simp[b]at this
 | some y =>
  obtain⟨d,a⟩:=gU hf;rw[oW e x hx y d (by simp only[decide_eq_true_eq]at a;exact b.trans a.symm)]
theorem qj{s:ByteArray}(d:∀x∈P.Q3,x.name≠s):g9 P s=0:=by
 unfold g9
 cases hf:P.Q3.find? (fun x=>decide (x.name=s))with
 | none=>rfl
 | some y =>
  obtain⟨a,b⟩:=gU hf;exact absurd (by simpa using b) (d y a)
theorem cpu_eq(h:Turned P Q)(g:gM P.QO)(s:ByteArray):g9 Q s=g9 P s:=by
 rcases Classical.em (∃y∈Q.Q3,y.name=s)with⟨y,a,b⟩|d
 ·obtain⟨x,hx,e,_⟩:=h.mem_sub a
  rw[qi (uniq h.QO g) a b,qi g hx (by rw[e]at b;exact b),e];rfl
 ·rw[qj (fun y a e=>d ⟨y,a,e⟩),qj (fun x hx e=>?_)]
  obtain⟨y,a,i,_⟩:=h.symm.mem_sub hx;exact d ⟨y,a,by rw[i]at e;exact e⟩
theorem covers_eq(h:Turned P Q)(a b:Nat):fT Q.QF a b=fT P.QF a b:=by
 rw[Bool.eq_iff_iff];simp only[fT,decide_eq_true_eq];exact⟨fun k p d e=>by obtain⟨r,g,q⟩:=k p d e;exact⟨r,h.QF.mem_iff.1 g,q⟩,fun k p d e=>by obtain⟨r,g,q⟩:=k p d e;exact⟨r,h.QF.mem_iff.2 g,q⟩⟩
theorem theirs_of(h:Turned P Q){c:b7}(p:dY P c=true):dY Q c=true:=by
 simp only[dY,Bool.and_eq_true,List.all_eq_true,List.any_eq_true,Bool.or_eq_true,decide_eq_true_eq,Bool.not_eq_true',decide_eq_false_iff_not]at p⊢;obtain⟨⟨⟨a,b⟩,c1⟩,d⟩:=p;refine⟨⟨⟨fun y i m g=>?_,fun y i m g=>b y (h.Q4.mem_iff.1 i) m g⟩,?_⟩,?_⟩
 ·obtain⟨x,hx,e,l⟩:=h.mem_sub i
  have:=a x hx m (l.mem_iff.1 g);rw[e];exact this
 ·obtain⟨x,hx,j,m,g,n⟩:=c1
  obtain⟨y,i,e,l⟩:=h.symm.mem_sub hx;exact⟨y,i,by rw[e]at j;exact j,m,l.mem_iff.1 g,n⟩
 ·obtain⟨x,hx,j,m,g,n⟩:=d
  obtain⟨y,i,e,l⟩:=h.symm.mem_sub hx;exact⟨y,i,by rw[e]at j;exact j,m,l.mem_iff.1 g,n⟩
theorem tables_eq(h:Turned P Q)(e:gM P.things){l a:List Map}(d:a.Perm l):bJ Q a=bJ P l:=by
 have b:∀m,ce Q m=ce P m:=fun m=>by unfold ce;rw[h.thing_eq e]
 have g:a.all (ce Q)=l.all (ce P):=by
  rw[Bool.eq_iff_iff,List.all_eq_true,List.all_eq_true];simp only[b,d.mem_iff]
 have i:(du Q a).eraseDups.length=(du P l).eraseDups.length:=se fun x=>by
  simp only[du,List.mem_flatMap,d.mem_iff,h.thing0_eq e]
 have e3:(dy Q a).eraseDups.length=(dy P l).eraseDups.length:=se fun x=>by
  simp only[dy,List.mem_flatMap,d.mem_iff,h.thing0_eq e]
 unfold bJ;rw[g,i,e3]
theorem sub_maps(h:Turned P Q){f g:List Map→Nat}(a:∀l d,d.Perm l→f d=g l):((Q.Q3.map aS.maps).map f).Perm ((P.Q3.map aS.maps).map g):=by
 obtain⟨i,j,n,p⟩:=h.Q3;rw[p,List.map_map,List.map_map];have e:i.map (f ∘ (aS.maps ∘ fun z=>z.1.with_ z.2))=(i.map (·.1)).map (g ∘ aS.maps):=by
  rw[List.map_map];refine List.map_congr_left fun z q=>a _ _ (n z q)
 have b:=j.map (g ∘ aS.maps);rw[←e]at b;rw[List.map_map];exact b
theorem tc{f g:List Map→Nat}{a b:List (List Map)}(h:(a.map f).Perm (b.map g)):a.all (fun l=>decide (0<f l))=b.all (fun l=>decide (0<g l))∧(a.map f).sum=(b.map g).sum:=by
 refine⟨?_,fu h⟩;have key:∀(c:List (List Map)) (k:List Map→Nat),c.all (fun l=>decide (0<k l))=(c.map k).all (fun n=>decide (0<n)):=fun c k=>by rw[List.all_map];rfl
 rw[key a f,key b g,Bool.eq_iff_iff,List.all_eq_true,List.all_eq_true];exact⟨fun k x hx=>k x (h.mem_iff.2 hx),fun k x hx=>k x (h.mem_iff.1 hx)⟩
theorem pages_eq(h:Turned P Q)(a:gM P.things)(flat:Nat→cK→Nat×Int×Int):ap flat Q=ap flat P:=by
 have b:(Q.tabled.map (bJ Q)).Perm (P.tabled.map (bJ P)):=by
  unfold aC.tabled;rw[List.map_append,List.map_append];refine(h.sub_maps fun l j g=>h.tables_eq a g).append ?_;have d:∀l:List Map,bJ Q l=bJ P l:=fun l=>h.tables_eq a (.refl _)
  rw[show bJ Q=bJ P from funext d];exact((h.Q4.map bE.maps).filter _).map _
 obtain⟨e3,e4⟩:=tc b;have e:dV flat Q=dV flat P:=by
  unfold dV;have i:Q.Q3.length=P.Q3.length:=by
   have:=h.QO.length_eq
   simpa[aC.QO]using this
  rw[h.QF.length_eq,h.Q4.length_eq,i,h.Q8.length_eq,h.QG.length_eq,h.QC.length_eq,h.Q9.length_eq,fu (h.Q5.map _),fu (h.Q9.map _)]
 unfold ap;rw[e3,e4,e]
theorem mapped_eq(h:Turned P Q)(d:gM P.things):gV Q=gV P:=by
 have a:bn Q=bn P:=funext fun m=>by unfold bn;rw[h.thing0_eq d]
 unfold gV;rw[a,fu (h.sub_maps (f:=fun l=>(l.map (bn P)).sum) (g:=fun l=>(l.map (bn P)).sum) fun l e b=>fu (b.map _)),fu ((h.Q4.map bE.maps).map _)]
theorem space_of(h:Turned P Q)(i:gM P.things){d:Bool}{l j:List Map}(e:j.Perm l)(g:gI P d l):gI Q d j:=by
 refine⟨fun m n=>?_,?_⟩
 ·rw[h.thing0_eq i]
  exact g.one m (e.mem_iff.1 n)
 ·simp only[h.thing0_eq i]
  have:=iz (R:=fun x y:Map=>0<(aU P x.of).size→0<(aU P y.of).size→Off x.Q7 (aU P x.of).size y.Q7 (aU P y.of).size) (fun x y h a b=>(h b a).symm) e g.apart;exact this
theorem full{named:ByteArray→Bool}{flat:Nat→cK→Nat×Int×Int}(h:Turned P Q)(f:yF named flat P):yF named flat Q:=by
 have C:gM P.things:=f.names.uniq _ (by simp);have E:gM P.QO:=f.names.uniq _ (by simp);have d:∀s,has Q.QO s=has P.QO s:=mS h.QO;have j:∀s,has Q.QU s=has P.QU s:=mS h.QU;have q:∀s,has Q.regs s=has P.regs s:=mS h.regs;have B:∀s,has Q.things s=has P.things s:=mS h.things;have A:∀s,has Q.plns s=has P.plns s:=mS h.plns;refine⟨⟨?names,?counts,?Qj,?Q5,?QO,?QU,?who,?Q9,?image⟩,?mapped⟩
 case mapped=>rw[h.mapped_eq C];exact f.mapped
 case image=>rw[h.pages_eq C];exact f.image
 case names =>
  have n:=f.names;refine⟨?_,?_,?_,?_,?_,?_,?_,?_,?_,?_,?_,?_,?_,?_,?_,?_⟩
  ·intro l v
   simp only[List.mem_cons,List.mem_nil_iff,or_false]at v
   rcases v with rfl|rfl|rfl|rfl|rfl|rfl
   ·exact fun x hx=>n.flat P.things (by simp) x (h.things.mem_iff.1 hx)
   ·exact fun x hx=>n.flat P.QO (by simp) x (h.QO.mem_iff.1 hx)
   ·exact fun x hx=>n.flat P.chans (by simp) x (h.chans.mem_iff.1 hx)
   ·exact fun x hx=>n.flat P.irqn (by simp) x (h.irqn.mem_iff.1 hx)
   ·exact fun x hx=>n.flat P.ques (by simp) x (h.ques.mem_iff.1 hx)
   ·exact fun x hx=>n.flat P.plns (by simp) x (h.plns.mem_iff.1 hx)
  ·intro l v
   simp only[List.mem_cons,List.mem_nil_iff,or_false]at v
   rcases v with rfl|rfl|rfl|rfl|rfl|rfl
   ·exact uniq h.things (n.uniq _ (by simp))
   ·exact uniq h.QO (n.uniq _ (by simp))
   ·exact uniq h.chans (n.uniq _ (by simp))
   ·exact uniq h.irqn (n.uniq _ (by simp))
   ·exact uniq h.ques (n.uniq _ (by simp))
   ·exact uniq h.plns (n.uniq _ (by simp))
  ·rw[h.QE];simp only[A];exact n.QE
  ·rw[h.QD];simp only[d];exact n.QD
  ·rw[h.QB];simp only[d];exact n.QB
  ·intro x hx;simp only[d,j];exact n.Qo x (h.QA.mem_iff.1 hx)
  ·intro x hx;simp only[d];exact n.queue x (h.QC.mem_iff.1 hx)
  ·intro x hx m D;rw[q];exact n.Qb x (h.Q4.mem_iff.1 hx) m D
  ·intro x hx;exact n.region x (h.Q5.mem_iff.1 hx)
  ·intro y g m D
   obtain⟨x,hx,e,i⟩:=h.mem_sub g;rw[B];exact n.QZ x hx m (i.mem_iff.1 D)
  ·intro y g
   obtain⟨x,hx,e,i⟩:=h.mem_sub g;rw[e];exact n.QR x hx
  ·intro y g r u
   obtain⟨x,hx,e,i⟩:=h.mem_sub g;rw[e]at u;rw[d];exact n.rule x hx r u
  ·intro x hx;simp only[d,q];exact n.channel x (h.Q8.mem_iff.1 hx)
  ·intro x hx;simp only[d,j];exact n.Qm x (h.QG.mem_iff.1 hx)
  ·intro x hx;exact n.Qn x (h.Q9.mem_iff.1 hx)
  ·intro x hx;simp only[d];exact n.run x (h.Q9.mem_iff.1 hx)
 case counts =>
  have c:=f.counts;have H:Q.Q3.length=P.Q3.length:=by
   have:=h.QO.length_eq
   simpa[aC.QO]using this
  exact⟨by rw[h.QF.length_eq];exact c.QF,by rw[h.Q4.length_eq];exact c.Q4,by rw[h.Q5.length_eq];exact c.Q5,by rw[H];exact c.Q3,by rw[h.Q8.length_eq];exact c.Q8,
   by rw[h.QG.length_eq];exact c.QG,by rw[h.QC.length_eq];exact c.QC,by rw[h.QA.length_eq];exact c.QA,by rw[h.Q9.length_eq];exact c.Q9,
   fun y g=>by obtain⟨x,hx,e,i⟩:=h.mem_sub g;rw[i.length_eq];exact c.Qc x hx,fun x hx=>c.Qd x (h.Q4.mem_iff.1 hx)⟩
 case Qj =>
  have b:=f.Qj;exact⟨fun x hx=>b.ram x (h.QF.mem_iff.1 hx),by rw[fu (h.QF.map _)];exact b.sum,fun x hx=>b.dev x (h.Q4.mem_iff.1 hx),
   iz (R:=fun x y:Ram=>Off x.Q7 x.size y.Q7 y.size) (fun _ _ h=>h.symm) h.QF b.rr,iz (R:=fun x y:bE=>Off x.Q7 x.size y.Q7 y.size) (fun _ _ h=>h.symm) h.Q4 b.dd,
   fun x y hx g=>b.dr x y (h.Q4.mem_iff.1 hx) (h.QF.mem_iff.1 g)⟩
 case Q5 =>
  have r:=f.Q5;refine⟨fun x hx=>r.one x (h.Q5.mem_iff.1 hx),fun x hx G=>?_,?_⟩
  ·rw[h.covers_eq];exact r.fixed x (h.Q5.mem_iff.1 hx) G
  ·exact iz (R:=fun x y:Region=>x.fixed=true→y.fixed=true→Off x.Q7 x.size y.Q7 y.size) (fun _ _ h a b=>(h b a).symm) h.Q5 r.apart
 case QO =>
  intro y g;obtain⟨x,hx,e,i⟩:=h.mem_sub g;exact h.space_of C i (f.QO x hx)
 case QU=>exact fun x hx=>h.space_of C (.refl _) (f.QU x (h.Q4.mem_iff.1 hx))
 case who =>
  have w:=f.who;refine⟨fun y g=>?_,fun y g r u=>?_,fun x hx=>w.Qm x (h.QG.mem_iff.1 hx),fun x hx=>?_,fun x hx=>w.Qo x (h.QA.mem_iff.1 hx),fun x hx=>w.queue x (h.QC.mem_iff.1 hx)⟩
  ·obtain⟨x,hx,e,i⟩:=h.mem_sub g
   rw[e];exact w.subject x hx
  ·obtain⟨x,hx,e,i⟩:=h.mem_sub g
   rw[e]at u⊢;exact w.rule x hx r u
  ·obtain⟨a,b,c⟩:=w.channel x (h.Q8.mem_iff.1 hx)
   exact⟨a,b,fun e=>h.theirs_of (c e)⟩
 case Q9 =>
  have p:=f.Q9;refine⟨by rw[h.QE];exact p.QE,by rw[h.QD,h.Q9.length_eq];exact p.QD,fun x hx=>p.QN x (h.Q9.mem_iff.1 hx),fun x hx=>p.lane x (h.Q9.mem_iff.1 hx),fun x hx y g r u=>?_⟩;rw[h.cpu_eq E];exact p.run x (h.Q9.mem_iff.1 hx) y g r u
theorem right_iff{named:ByteArray→Bool}{flat:Nat→cK→Nat×Int×Int}(h:Turned P Q):qw named flat P↔qw named flat Q:=
 ⟨fun r=>mT (h.full (jd r)),fun r=>mT (h.symm.full (jd r))⟩
theorem law{named:ByteArray→Bool}{flat:Nat→cK→Nat×Int×Int}(h:Turned P Q){a e i j:Int}(l:fW (cM named flat P) a e)(n:fW (cM named flat Q) i j):
 (e=0↔j=0)∧(e=0→a=0∧i=0∧ap flat P=ap flat Q):=by
 obtain⟨b,p⟩:=lT l;obtain⟨g,q⟩:=lT n;have d:=h.right_iff (named:=named) (flat:=flat);refine⟨⟨fun e=>g.2 (d.1 (b.1 e)),fun e=>b.2 (d.2 (g.1 e))⟩,fun e=>⟨p e,q (g.2 (d.1 (b.1 e))),?_⟩⟩;have f:=jd (b.1 e);exact(h.pages_eq (f.names.uniq _ (by simp)) flat).symm
end Turned
end Go.Proofs.YtpblcjipmoblnaaGreatDoor.Ck
namespace Go.Proofs.YtpblcjipmoblnaaGreatDoor.Ck
abbrev Sp:=Nat×Nat
def dq(l:List Sp)(p:Nat):Prop:=∃s∈l,s.1≤p∧p≤s.2
structure gh (l:List Sp):Prop where
 some_:∀s∈l,s.1≤s.2
 apart:l.Pairwise fun a b=>a.2+1<b.1
def cY(out:List Sp)(x:Sp):List Sp:=
 match out.getLast? with
 | none=>[x]
 | some y=>if x.1≤y.2+1 then out.dropLast++[(y.1,max y.2 x.2)]else out++[x]
theorem mL{l:List Sp}{y:Sp}(h:l.getLast?=some y):∃t,l=t++[y]∧l.dropLast=t:=by
 obtain⟨t,a⟩:=List.getLast?_eq_some_iff.1 h;exact⟨t,a,by rw[a];simp⟩
theorem vh{g:List Sp}{x:Sp}(h:gh g)(hx:x.1≤x.2)(n:∀s∈g,s.1≤x.1):
 gh (cY g x)∧(∀p,dq (cY g x) p↔dq g p∨(x.1≤p∧p≤x.2))∧∀s∈cY g x,s.1≤x.1:=by
 unfold cY
 cases hl:g.getLast? with
 | none =>
  have:g=[]:=List.getLast?_eq_none_iff.1 hl;subst this;refine⟨⟨by simpa using hx,by simp⟩,fun p=>by simp[dq],by simp⟩
 | some y =>
  obtain⟨t,w,v⟩:=mL hl;subst w;have q:=List.pairwise_append.1 h.apart;have A:=h.some_ y (by simp);have r:=n y (by simp)
  dsimp only
  split
  ·rename_i u
   rw[v];refine⟨⟨fun s d=>?_,List.pairwise_append.2 ⟨q.1,by simp,fun a j b l=>?_⟩⟩,fun p=>?_,fun s d=>?_⟩
   ·rcases List.mem_append.1 d with d|d
    ·exact h.some_ s (by simp[d])
    ·have:s=(y.1,max y.2 x.2):=by simpa using d
     subst this;show y.1≤max y.2 x.2;omega
   ·have:b=(y.1,max y.2 x.2):=by simpa using l
    subst this;exact q.2.2 a j y (by simp)
   ·simp only[dq,List.mem_append,List.mem_singleton]
    constructor
    ·rintro⟨s,d|rfl,e,i⟩
     ·exact .inl ⟨s,.inl d,e,i⟩
     ·dsimp only at e i
      by_cases h3:p≤y.2
      ·exact .inl ⟨y,.inr rfl,e,h3⟩
      ·exact .inr ⟨by omega,by omega⟩
    ·rintro(⟨s,d|rfl,e,i⟩|⟨e,i⟩)
     ·exact⟨s,.inl d,e,i⟩
     ·exact⟨_,.inr rfl,e,by show p≤max s.2 x.2;omega⟩
     ·exact⟨_,.inr rfl,by show y.1≤p;omega,by show p≤max y.2 x.2;omega⟩
   ·rcases List.mem_append.1 d with d|d
    ·exact n s (by simp[d])
    ·have:s=(y.1,max y.2 x.2):=by simpa using d
     subst this;exact r
  ·rename_i u
   refine⟨⟨fun s d=>?_,List.pairwise_append.2 ⟨h.apart,by simp,fun a j b l=>?_⟩⟩,fun p=>?_,fun s d=>?_⟩
   ·rcases List.mem_append.1 d with d|d
    ·exact h.some_ s d
    ·have:s=x:=by simpa using d
     subst this;exact hx
   ·have:b=x:=by simpa using l
    subst this
    rcases List.mem_append.1 j with j|j
    ·have e:=q.2.2 a j y (by simp)
     omega
    ·have:a=y:=by simpa using j
     subst this;omega
   ·simp only[dq,List.mem_append,List.mem_singleton]
    constructor
    ·rintro⟨s,(d|rfl)|rfl,e,i⟩
     ·exact .inl ⟨s,.inl d,e,i⟩
     ·exact .inl ⟨s,.inr rfl,e,i⟩
     ·exact .inr ⟨e,i⟩
    ·rintro(⟨s,d|rfl,e,i⟩|⟨e,i⟩)
     ·exact⟨s,.inl (.inl d),e,i⟩
     ·exact⟨s,.inl (.inr rfl),e,i⟩
     ·exact⟨x,.inr rfl,e,i⟩
   ·rcases List.mem_append.1 d with d|d
    ·exact n s d
    ·have:s=x:=by simpa using d
     subst this;exact Nat.le_refl _
def av(l:List Sp):List Sp:=l.foldl cY []
theorem f9(l:List Sp)(x:Sp):av (l++[x])=cY (av l) x:=by simp[av]
theorem ku:∀(n:Nat) (l:List Sp),l.length=n→(∀s∈l,s.1≤s.2)→l.Pairwise (fun a b=>a.1≤b.1)→gh (av l)∧(∀p,dq (av l) p↔dq l p)∧∀x,(∀s∈l,s.1≤x)→∀s∈av l,s.1≤x
 | 0,l,hl,_,_=>by
  have:l=[]:=List.length_eq_zero_iff.1 hl;subst this;exact⟨⟨by simp[av],by simp[av]⟩,fun p=>by simp[av,dq],fun x _ s j=>by simp[av]at j⟩
 | n+1,l,hl,j,hp=>by
  obtain⟨t,x,rfl⟩:∃t x,l=t++[x]:=by
   have d:l≠[]:=by intro e;rw[e]at hl;simp at hl
   exact⟨l.dropLast,l.getLast d,(List.dropLast_concat_getLast d).symm⟩
  have g:=List.pairwise_append.1 hp;obtain⟨w,y,A⟩:=ku n t (by simpa using hl) (fun s h=>j s (by simp[h])) g.1;have u:∀s∈av t,s.1≤x.1:=A x.1 fun s h=>g.2.2 s h x (by simp)
  obtain⟨B,C,D⟩:=vh w (j x (by simp)) u;rw[f9];refine⟨B,fun p=>?_,fun z v s r=>?_⟩
  ·rw[C,y]
   simp only[dq,List.mem_append,List.mem_singleton];constructor
   ·rintro(⟨s,q,i⟩|h)
    ·exact⟨s,.inl q,i⟩
    ·exact⟨x,.inr rfl,h⟩
   ·rintro⟨s,q|rfl,i⟩
    ·exact .inl ⟨s,q,i⟩
    ·exact .inr i
  ·exact Nat.le_trans (D s r) (v x (by simp))
theorem ry{l:List Sp}(h:gh l){a b i:Nat}(A:a≤b)(G:∀j s,j<i→l[j]?=some s→s.2<a)(H:∀s,l[i]?=some s→a≤s.2):
 (∀p,a≤p→p≤b→dq l p)↔∃s,l[i]?=some s∧s.1≤a∧b≤s.2:=by
 constructor
 ·intro E
  obtain⟨s,y,C,L⟩:=E a (Nat.le_refl _) A;obtain⟨j,x⟩:=List.getElem?_of_mem y;have I:i≤j:=by
   rcases Nat.lt_or_ge j i with e|e
   ·have:=G j s e x;omega
   ·exact e
  obtain⟨r,d⟩:∃s,l[i]?=some s:=⟨_,List.getElem?_eq_getElem (by have:=(List.getElem?_eq_some_iff.1 x).1;omega)⟩;have D:r=s∧i=j:=by
   rcases Nat.lt_or_ge i j with e|e
   ·obtain⟨g,n⟩:=List.getElem?_eq_some_iff.1 d
    obtain⟨B,q⟩:=List.getElem?_eq_some_iff.1 x;have:=List.pairwise_iff_getElem.1 h.apart i j g B e;rw[n,q]at this;have:=H r d;omega
   ·have:i=j:=by omega
    subst this;exact⟨Option.some.inj (d.symm.trans x),rfl⟩
  obtain⟨n,q⟩:=D;subst n;subst q;refine⟨r,d,C,?_⟩
  rcases Nat.lt_or_ge r.2 b with e|e
  ·exfalso
   -- the point behind the span is in none
   obtain⟨u,M,N,O⟩:=E (r.2+1) (by omega) (by omega);obtain⟨k,hk⟩:=List.getElem?_of_mem M;obtain⟨g,n⟩:=List.getElem?_eq_some_iff.1 d;obtain⟨w,q⟩:=List.getElem?_eq_some_iff.1 hk
   rcases Nat.lt_trichotomy i k with v|v|v
   ·have:=List.pairwise_iff_getElem.1 h.apart i k g w v
    rw[n,q]at this;omega
   ·subst v
    have:r=u:=by rw[←n,←q]
    subst this;omega
   ·have:=List.pairwise_iff_getElem.1 h.apart k i w g v
    have Q:=h.some_ r y;rw[n,q]at this;omega
  ·exact e
 ·rintro⟨s,y,e,v⟩ p J K
  exact⟨s,List.mem_of_getElem? y,by omega,by omega⟩
end Go.Proofs.YtpblcjipmoblnaaGreatDoor.Ck
