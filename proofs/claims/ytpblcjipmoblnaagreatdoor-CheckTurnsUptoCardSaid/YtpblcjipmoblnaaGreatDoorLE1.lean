import Derived.Test.YtpblcjipmoblnaaGreatDoorLH2
import Derived.Deep.RegionLaw
import Derived.Test.YtpblcjipmoblnaaGreatDoorSpanP
set_option maxRecDepth 100000
set_option maxHeartbeats 4000000
set_option linter.unusedVariables false
set_option linter.unusedSimpArgs false
set_option linter.unnecessarySimpa false
namespace Go.Proofs.YtpblcjipmoblnaaGreatDoor
open Go.RowKit Go.IntWalk
variable {w:World} {P:Nat} {v:Value} {l:List Job}
def Job.val(s:Job):Value := .agg #[.int .i64 s.need,.int .i64 s.due,.int .i64 s.left]
structure bC (w:World) (P:Nat) (v:Value) (l:List Job):Prop where
 var:Var w P 247 v
 own:w.ownsRow 0 250 3 v l.length (bA l)
theorem wB{a b c:Int}:∀u∈[Value.int .i64 a,.int .i64 b,.int .i64 c],u.oneCell'=true:=by
 intro u d;simp at d;rcases d with rfl|rfl|rfl<;>rfl
theorem bC.ne(h:bC w P v l):¬ v.ownBlock=some P:=by
 rcases h.own.2 with⟨rfl,_⟩|⟨g,cap,a,rfl,_,hh,_⟩
 ·simp[Value.ownBlock]
 ·intro b
  have:g=P:=by simpa[Value.ownBlock]using b
  subst this;have:=h.var;unfold Var at this;rw[hh]at this;simp at this
theorem sG(x:Value)(w:World):(Instr.typeAssert (.iface 250 x) 20 250 false).run Tryz.prog w=.ok x w:=by kernel_rfl
theorem tU(w:World)(P:Nat)(v:Value)(l:List Job)(x:Job)(hn:l.length≤1000000000)(h:bC w P v l):
 Calls Tryz.prog 266 #[.pointer (some ⟨P,0,none⟩),.iface 250 x.val] w fun e w'=>e=.returned (.tuple #[])∧∃L,bC w' P L (l++[x])∧aB (fun k=>k=P∨v.ownBlock=some k) w w'∧(L.ownBlock=v.ownBlock∨∃k,L.ownBlock=some k∧w.heap.size≤k):=by
 have hc:=h.var.cell;have hf:=h.var.frozen;have X:=h.var.lt;have B:=h.own;have q:=h.ne;have C:=h.var;obtain⟨Z,W,I,J,K⟩:=info_parts Tryz.info250;have Y:=sG;unfold Job.val
 go_enter Tryz.func266,Tryz.ntmps266
 go_wp2
 have r:(w.alloc (.cells #[.int .i64 x.need,.int .i64 x.due,.int .i64 x.left] 250)).drew.ownsRow 0 250 3 v l.length (bA l):=(B.alloc _).drew;have n:∀j u,[Value.int .i64 x.need,.int .i64 x.due,.int .i64 x.left][j]?=some u→(w.alloc (.cells #[.int .i64 x.need,.int .i64 x.due,.int .i64 x.left] 250)).drew.cell? ((⟨w.heap.size,0,none⟩:Addr).add j)=some u:=World.news_of_block (cs := #[.int .i64 x.need,.int .i64 x.due,.int .i64 x.left]) (heap_alloc_new w _);have O:=Lib.hid n;clear n
 go_region_law ((refine step_append_lies ((w.alloc (.cells #[.int .i64 x.need,.int .i64 x.due,.int .i64 x.left] 250)).drew) rfl (.tmp 7) (.tmp 10) 247 rfl 0 250 Z (.agg #[.int .i64 0,.int .i64 0,.int .i64 0]) 3 24 Tryz.underlying247 W I J K rfl (by omega) v l.length (bA l) rfl r ⟨w.heap.size,0,none⟩ 1 1 [.int .i64 x.need,.int .i64 x.due,.int .i64 x.left] rfl rfl O.out wB (by omega) (by unfold maxLen;omega) (by omega) (by omega) (w.heap.size+1) (by simp) ?_;intro g cap D a d E N;have A:aB (fun k=>v.ownBlock=some k) w D:=((aB.refl _ w).alloc _).drew.trans (aB.of_grown (S:=fun k=>v.ownBlock=some k) d (fun k h=>h)) (fun _ _ h=>h);have b:=C.keep A q;have T:=b.cell;have V:=b.frozen))
 all_goals
  have H:bC D P v l∨True := .inr trivial;have G:¬ g=P:=by
   intro U;subst U
   rcases a.2 with⟨h,_⟩|⟨g',M,Q,h,_,R,_⟩
   ·simp at h
   ·simp only[Value.slice.injEq,Option.some.injEq,Addr.mk.injEq,and_true,true_and]at h
    obtain⟨rfl,rfl⟩:=h;unfold Var at b;rw[R]at b;simp at b
  have p:∀u,(D.setCell ⟨P,0,none⟩ u).ownsRow 0 250 3 (.slice (some ⟨g,0,none⟩) (l.length+1) cap) (l.length+1) (bA l++[.int .i64 x.need,.int .i64 x.due,.int .i64 x.left]):=fun u =>
   a.kept (row:=some P) ⟨rfl,rfl,rfl,by simp[World.setCell],fun k hk q=>Below.heap_setCell D _ u k (by intro e;exact q (by rw[e]))⟩ (.inr (by simp[Value.ownBlock];exact G))
  have y:=Lib.hid p;clear p a d H
  go_wp2
  go_end0
  refine⟨rfl,_,⟨b.set_ _,?_⟩,(A.mono fun i _ h =>.inr h).setCell (fun _ =>.inl rfl) _,?_⟩
  ·rw[iX,List.length_append]
   exact y.out _
  ·rcases E with h|h
   ·exact .inl (by rw[h];rfl)
   ·exact .inr ⟨g,rfl,by omega⟩
theorem vS(w:World)(P:Nat)(v:Value)(l:List Job)(x:Job)(X:l.length≤1000000000)(h:bC w P v (l++[x])):
 Calls Tryz.prog 265 #[.pointer (some ⟨P,0,none⟩)] w fun e w'=>e=.returned (.iface 250 x.val)∧∃Q,bC w' P Q l∧aB (fun k=>k=P) w w'∧Q.ownBlock=v.ownBlock:=by
 have N:=h.var.cell;have hf:=h.var.frozen;have K:=h.var.lt;have b:=h.own;have C:=h.ne;have j:=h.var;obtain⟨g,cap,hv,_,hg⟩:=b.form (by simp);subst hv;obtain⟨Y,Z,q2⟩:=fh b (i:=l.length) (a:=x) (by simp);rw[List.length_append,List.length_singleton]at b N j C;have J:¬ g=P:=by simpa[Value.ownBlock]using C
 obtain⟨n,d⟩:∃n,n=l.length:=⟨_,rfl⟩;rw[←d]at b N j Y Z q2 X;have O:n+1≤cap:=by
  rcases b.2 with⟨h,_⟩|⟨R,y,A,h,_,_,L,_⟩
  ·simp at h
  ·simp only[Value.slice.injEq]at h
   obtain⟨_,_,rfl⟩:=h;exact L
 have I:(n:Int)≤(cap:Int):=by omega
 have p:w.ownsRow 0 250 3 (.slice (some ⟨g,0,none⟩) n cap) n (bA l):=by
  rcases b.2 with⟨h,_⟩|⟨R,y,A,h,W,S,L,T,U,V⟩
  ·simp at h
  ·simp only[Value.slice.injEq,Option.some.injEq,Addr.mk.injEq,and_true,true_and]at h
   obtain⟨rfl,rfl⟩:=h;refine⟨by rw[iW,d],.inr ⟨g,cap,A,rfl,W,S,by omega,T,U,?_⟩⟩;have M:=congrArg (List.take (n*3)) V;rw[List.take_take,Nat.min_eq_left (by omega)]at M;rw[M,iX,List.take_left' (by rw[iW,d])]
 have H:=Lib.hid d;clear b d h;unfold Job.val;have q:=fun u=>(ownsRow_setCell_other p (a:=⟨P,0,none⟩) (by simp[Value.ownBlock];exact J) u).alloc (.cells #[.int .i64 x.need,.int .i64 x.due,.int .i64 x.left] 250)
 have D:∀u,Var ((w.setCell ⟨P,0,none⟩ u).alloc (.cells #[.int .i64 x.need,.int .i64 x.due,.int .i64 x.left] 250)) P 247 u:=fun u=>(Below.heap_alloc _ _ P (by simpa[World.setCell]using K)).trans (Var.set_ j u)
 have B:∀u,aB (fun k=>k=P) w ((w.setCell ⟨P,0,none⟩ u).alloc (.cells #[.int .i64 x.need,.int .i64 x.due,.int .i64 x.left] 250)):=fun u=>((aB.refl (fun k=>k=P) w).setCell (fun _=>rfl) u).alloc _
 have r:=Lib.hid q;have G:=Lib.hid D;have E:=Lib.hid B;clear q D p B
 go_enter Tryz.func265,Tryz.ntmps265
 go_wp2
 go_ret
 refine⟨rfl,.slice (some ⟨g,0,none⟩) n cap,⟨G.out _,?_⟩,E.out _,rfl⟩;rw[←H.out];exact r.out _
theorem bC.drewN(h:bC w P v l)(n:Nat):bC (w.drewN n) P v l:=
 ⟨h.var.keep ((aB.refl (fun _=>False) w).drewN n) (by simp),h.own⟩
theorem bC.form(h:bC w P v l)(b:0<l.length):∃g c,v=.slice (some ⟨g,0,none⟩) l.length c∧v.ownBlock=some g∧g<w.heap.size:=by
 obtain⟨g,cap,hv,_,a⟩:=h.own.form b;exact⟨g,cap,hv,by rw[hv];rfl,a⟩
theorem uf(w:World)(P:Nat)(v:Value)(l:List Job)(j:Nat)(hn:l.length≤1000000000)(hj:j<l.length)(h:bC w P v l)(h1:Ln.iT l l.length j)(h2:Ln.sJ l l.length j):
 Calls Tryz.prog 149 #[.iface 245 (.pointer (some ⟨P,0,none⟩)),.int .i64 j] w fun e w'=>e=.returned (.tuple #[])∧∃l',l'.Perm l∧Ln.bV l' l'.length∧bC w' P v l'∧aB (fun k=>v.ownBlock=some k) w w':=by
 obtain⟨g,c,hv,hob,hg⟩:=h.form (by omega);have hne:=h.ne;obtain⟨N,hN⟩:∃N,N=l.length:=⟨_,rfl⟩;rw[←hN]at hv hn hj h1 h2;subst hv;have HNE:=Lib.hid hne;have H1:=Lib.hid h1;have H2:=Lib.hid h2;have HN:=Lib.hid hN;have HH:=Lib.hid h;have HOB:=Lib.hid hob;clear hne h1 h2 hN h hob
 go_enter Tryz.func149,Tryz.ntmps149
 go_wp2
 go_loopw [1] (fun x wr=>∃(k:Nat) (m:List Job),k<N∧x=.int .i64 k∧Hid (m.Perm l)∧Hid (m.length=N)∧Hid (Ln.iT m N k)∧Hid (Ln.sJ m N k)∧bC wr P (.slice (some ⟨g,0,none⟩) N c) m∧Hid (aB (fun k=>(Value.slice (some ⟨g,0,none⟩) N c).ownBlock=some k) w wr)) (fun x _=>(intOf x).toNat)
 case atStart=>exact⟨j,l,hj,rfl,List.Perm.refl _,HN.out.symm,H1.out,H2.out,HH.out,aB.refl _ _⟩
 case round =>
  obtain⟨k,m,hk,rfl,HP,HL,HB,HO,hat,HK⟩:=hrel;have hc:=hat.var.cell;have e1:=rd hc;have e2:=ir hc;have HAT:=Lib.hid hat
  clear hc hat
  by_cases hk0:k=0
  ·subst hk0
   go_wp2
   go_end0
   exact⟨rfl,m,HP.out,by rw[HL.out];exact Ln.sN HB.out (.inl rfl),HAT.out,HK.out⟩
  ·obtain⟨p,hp⟩:∃p,p=(k-1) / 2:=⟨_,rfl⟩
   have hpk:p<k:=by omega
   have hpi:((k:Int)-1) / 2=(p:Int):=by omega
   obtain⟨a,ha⟩:∃a,m[p]?=some a:=⟨_,List.getElem?_eq_getElem (by rw[HL.out];omega)⟩;obtain⟨b,hb⟩:∃b,m[k]?=some b:=⟨_,List.getElem?_eq_getElem (by rw[HL.out];omega)⟩;have HPP:=Lib.hid hp;have HA:=Lib.hid ha;have HBB:=Lib.hid hb;clear hp ha hb;have hown:=HAT.out.own;rw[HL.out]at hown;have HOwn:=Lib.hid hown;clear hown
   go_wp2_with fail
   refine(iu wr g N c k p b a m HL.out HBB.out HA.out HOwn.out).mono ?_;rintro e w1 ⟨rfl,nd,rfl⟩;have hat1:=HAT.out.drewN nd;have hc1:=hat1.var.cell;have e2:=ir hc1;have HAT1:=Lib.hid hat1;clear hc1 hat1
   by_cases hlt:Ln.jlt b a
   ·have hd:decide (Ln.jlt b a)=true:=decide_eq_true hlt
    rw[hd];have HLT:=Lib.hid hlt;clear hd hlt;have hown1:=HAT1.out.own;rw[HL.out]at hown1;have HOwn1:=Lib.hid hown1;clear hown1
    go_wp2_with fail
    refine(ie (wr.drewN nd) g N c p k a b m HL.out HA.out HBB.out HOwn1.out).mono ?_;rintro e w2 ⟨rfl,hown2,hk2⟩;have hstep:=Ln.wi (by omega) hk (by rw[HL.out];exact Nat.le_refl _) HB.out HO.out (by rw[←HPP.out];exact HA.out) HBB.out HLT.out;rw[←HPP.out]at hstep;have HS:=Lib.hid hstep;have hlen:(Ln.cL m p k a b).length=N:=by rw[Ln.dZ,HL.out]
    have hvar2:=HAT1.out.var.keep hk2 (by have:=HNE.out;simp[Value.ownBlock]at this;exact fun e=>this e.symm);clear hstep
    go_wp2
    go_roundw
    case rel=>exact⟨p,Ln.cL m p k a b,by omega,rfl,(Ln.eP HA.out HBB.out).trans HP.out,hlen,HS.out.1,HS.out.2,⟨hvar2,by rw[hlen];exact hown2⟩,(HK.out.drewN nd).trans hk2 (fun i _ hi=>by rw[hi];rfl)⟩
    case measure=>simp[intOf];omega
   ·have hd:decide (Ln.jlt b a)=false:=decide_eq_false hlt
    rw[hd]
    go_wp2
    go_end0
    exact⟨rfl,m,HP.out,by rw[HL.out];exact Ln.sN HB.out (.inr ⟨a,b,by rw[←HPP.out];exact HA.out,HBB.out,hlt⟩),HAT1.out,HK.out.drewN nd⟩
theorem sY{m:List Job}{n k j1:Nat}{a:Job}(b:m[j1]?=some a)(d:j1=2*k+1)(e:¬ j1+1<n):∀q x,0<q→q<n→(q-1) / 2=k→m[q]?=some x→¬ Ln.jlt x a:=by
 intro q x g h i hx;obtain rfl:q=j1:=by omega
 rw[b]at hx;injection hx with hx;subst hx;exact Ln.et _
theorem lJ{m:List Job}{n k j1 j2:Nat}{b a d:Job}(e:m[j1]?=some a)(g:m[j2]?=some d)(l:j1=2*k+1)(h:j2=j1+1)(i:¬ Ln.jlt a b)(j:¬ Ln.jlt d b):∀q x,0<q→q<n→(q-1) / 2=k→m[q]?=some x→¬ Ln.jlt x b:=by
 intro q x p r u hx
 rcases(by omega:q=j1∨q=j2)with rfl|rfl
 ·rw[e]at hx;injection hx with hx;subst hx;exact i
 ·rw[g]at hx;injection hx with hx;subst hx;exact j
theorem qe(w:World)(P:Nat)(g c N:Nat)(l:List Job)(j n:Nat)(hN:l.length=N)(hN2:N≤1000000000)(hn:n≤N)(hj:j=0∨j<n)(h:bC w P (.slice (some ⟨g,0,none⟩) N c) l)(h1:Ln.eN l n j):
 Calls Tryz.prog 150 #[.iface 245 (.pointer (some ⟨P,0,none⟩)),.int .i64 j,.int .i64 n] w fun e w'=>∃b l',e=.returned (.bool b)∧l'.Perm l∧Ln.bV l' n∧(∀q,n≤q→l'[q]?=l[q]?)∧bC w' P (.slice (some ⟨g,0,none⟩) N c) l'∧aB (fun k=>k=g) w w':=by
 have hne:=h.ne;have HNE:=Lib.hid hne;have H1:=Lib.hid h1;have HN:=Lib.hid hN;have HH:=Lib.hid h;clear hne h1 hN h
 go_enter Tryz.func150,Tryz.ntmps150
 go_wp2
 go_loopw [7] (fun x wr=>∃(k:Nat) (m:List Job),(k=j∨k<n)∧x=.int .i64 k∧Hid (m.Perm l)∧Hid (m.length=N)∧Hid (Ln.eN m n k)∧Hid (∀q,n≤q→m[q]?=l[q]?)∧bC wr P (.slice (some ⟨g,0,none⟩) N c) m∧Hid (aB (fun k=>k=g) w wr)) (fun x _=>N+j-(intOf x).toNat)
 case atStart=>exact⟨j,l,.inl rfl,rfl,List.Perm.refl _,HN.out,H1.out,Lib.hid (fun _ _=>rfl),HH.out,aB.refl _ _⟩
 case round =>
  obtain⟨k,m,hk,rfl,HP,HL,HU,HF,hat,HK⟩:=hrel;have hc:=hat.var.cell;have e1:=rd hc;have e2:=ir hc;have HAT:=Lib.hid hat
  clear hc hat
  obtain⟨j1,hj1⟩:∃j1,j1=2*k+1:=⟨_,rfl⟩;have hi1:2*(k:Int)+1=(j1:Int):=by omega
  have hk1:k<j1:=by omega
  have hj1b:j1≤2*N+1:=by omega
  have HJ1:=Lib.hid hj1
  by_cases hc1:n≤j1
  ·clear hj1
   go_wp2
   go_ret
   refine⟨_,m,rfl,HP.out,fun q x y q0 q1 hx hy=>HU.out.1 q x y q0 q1 (by have:=HJ1.out;omega) hx hy,HF.out,HAT.out,HK.out⟩
  ·obtain⟨a,ha⟩:∃a,m[k]?=some a:=⟨_,List.getElem?_eq_getElem (by rw[HL.out];omega)⟩
   obtain⟨b1,hb1⟩:∃b,m[j1]?=some b:=⟨_,List.getElem?_eq_getElem (by rw[HL.out];omega)⟩;have HA:=Lib.hid ha;have HB1:=Lib.hid hb1;obtain⟨j2,hj2⟩:∃j2,j2=j1+1:=⟨_,rfl⟩;have hi2:(j1:Int)+1=(j2:Int):=by omega
   have HJ2:=Lib.hid hj2;clear ha hb1
   by_cases hc2:j2<n
   ·obtain⟨b2,hb2⟩:∃b,m[j2]?=some b:=⟨_,List.getElem?_eq_getElem (by rw[HL.out];omega)⟩
    have HB2:=Lib.hid hb2;have hown:=HAT.out.own;rw[HL.out]at hown;have HOwn:=Lib.hid hown;clear hown hb2 hj1 hj2
    go_wp2_with fail
    refine(iu wr g N c j2 j1 b2 b1 m HL.out HB2.out HB1.out HOwn.out).mono ?_;rintro e w1 ⟨rfl,nd,hw1⟩;have hat1:bC w1 P (.slice (some ⟨g,0,none⟩) N c) m:=by rw[hw1];exact HAT.out.drewN nd
    have HK1:Hid (aB (fun k=>k=g) w w1):=by rw[hw1];exact HK.out.drewN nd
    clear hw1;have hc3:=hat1.var.cell;have e3:=ir hc3;have e4:=rd hc3;have HAT1:=Lib.hid hat1;have hj1:=HJ1.out;have hj2:=HJ2.out;clear hc3 hat1
    by_cases hlt2:Ln.jlt b2 b1
    ·have hd2:decide (Ln.jlt b2 b1)=true:=decide_eq_true hlt2
     rw[hd2];have HN2:=Lib.hid hlt2;clear hd2 hlt2 hj1 hj2;have hown1:=HAT1.out.own;rw[HL.out]at hown1;have HOwn1:=Lib.hid hown1;clear hown1
     go_wp2_with fail
     refine(iu w1 g N c j2 k b2 a m HL.out HB2.out HA.out HOwn1.out).mono ?_;rintro e w9 ⟨rfl,nd2,hw9⟩;have hat9:bC w9 P (.slice (some ⟨g,0,none⟩) N c) m:=by rw[hw9];exact HAT1.out.drewN nd2
     have HK9:Hid (aB (fun k=>k=g) w w9):=by rw[hw9];exact HK1.out.drewN nd2
     clear hw9;have hc9:=hat9.var.cell;have e9:=ir hc9;have HAT9:=Lib.hid hat9;clear hc9 hat9
     by_cases hlt:Ln.jlt b2 a
     ·have hd:decide (Ln.jlt b2 a)=true:=decide_eq_true hlt
      rw[hd];have hstep:=Ln.ke (j:=j2) (i:=k) (by have:=HJ1.out;have:=HJ2.out;omega) (by omega) (by omega) (by rw[HL.out];omega) HU.out HA.out HB2.out (lJ HB1.out HB2.out HJ1.out HJ2.out (Ln.jN HN2.out) (Ln.et _)) hlt;have HS:=Lib.hid hstep;have hown9:=HAT9.out.own;rw[HL.out]at hown9;have HOwn9:=Lib.hid hown9;clear hown9 hd hlt hstep
      go_wp2_with fail
      refine(ie w9 g N c k j2 a b2 m HL.out HA.out HB2.out HOwn9.out).mono ?_;rintro e w2 ⟨rfl,hown2,hk2⟩;have hlen:(Ln.cL m k j2 a b2).length=N:=by rw[Ln.dZ,HL.out]
      have hvar2:=HAT9.out.var.keep hk2 (by have:=HNE.out;simp[Value.ownBlock]at this;exact fun e=>this e.symm)
      go_wp2
      go_roundw
      case rel=>exact⟨j2,Ln.cL m k j2 a b2,.inr (by omega),rfl,(Ln.eP HA.out HB2.out).trans HP.out,hlen,HS.out,Lib.hid (fun q hq=>by rw[Ln.da HA.out HB2.out,if_neg (by have:=HJ1.out;have:=HJ2.out;omega),if_neg (by have:=HJ1.out;have:=HJ2.out;omega)];exact HF.out q hq),⟨hvar2,by rw[hlen];exact hown2⟩,HK9.out.trans hk2 (fun i _ hi=>hi)⟩
      case measure=>simp[intOf];omega
     ·have hd:decide (Ln.jlt b2 a)=false:=decide_eq_false hlt
      rw[hd];have HNL:=Lib.hid hlt;clear hd hlt
      go_wp2
      go_ret
      exact⟨_,m,rfl,HP.out,Ln.kf HU.out HA.out (fun q x q0 q1 q2 hx=>Ln.gZ HNL.out ((lJ HB1.out HB2.out HJ1.out HJ2.out (Ln.jN HN2.out) (Ln.et _)) q x q0 q1 q2 hx)),HF.out,HAT9.out,HK9.out⟩
    ·have hd2:decide (Ln.jlt b2 b1)=false:=decide_eq_false hlt2
     rw[hd2];have HN2:=Lib.hid hlt2;clear hd2 hlt2 hj1 hj2;have hown1:=HAT1.out.own;rw[HL.out]at hown1;have HOwn1:=Lib.hid hown1;clear hown1
     go_wp2_with fail
     refine(iu w1 g N c j1 k b1 a m HL.out HB1.out HA.out HOwn1.out).mono ?_;rintro e w9 ⟨rfl,nd2,hw9⟩;have hat9:bC w9 P (.slice (some ⟨g,0,none⟩) N c) m:=by rw[hw9];exact HAT1.out.drewN nd2
     have HK9:Hid (aB (fun k=>k=g) w w9):=by rw[hw9];exact HK1.out.drewN nd2
     clear hw9;have hc9:=hat9.var.cell;have e9:=ir hc9;have HAT9:=Lib.hid hat9;clear hc9 hat9
     by_cases hlt:Ln.jlt b1 a
     ·have hd:decide (Ln.jlt b1 a)=true:=decide_eq_true hlt
      rw[hd];have hstep:=Ln.ke (j:=j1) (i:=k) (by have:=HJ1.out;have:=HJ2.out;omega) (by omega) (by omega) (by rw[HL.out];omega) HU.out HA.out HB1.out (lJ HB1.out HB2.out HJ1.out HJ2.out (Ln.et _) HN2.out) hlt;have HS:=Lib.hid hstep;have hown9:=HAT9.out.own;rw[HL.out]at hown9;have HOwn9:=Lib.hid hown9;clear hown9 hd hlt hstep
      go_wp2_with fail
      refine(ie w9 g N c k j1 a b1 m HL.out HA.out HB1.out HOwn9.out).mono ?_;rintro e w2 ⟨rfl,hown2,hk2⟩;have hlen:(Ln.cL m k j1 a b1).length=N:=by rw[Ln.dZ,HL.out]
      have hvar2:=HAT9.out.var.keep hk2 (by have:=HNE.out;simp[Value.ownBlock]at this;exact fun e=>this e.symm)
      go_wp2
      go_roundw
      case rel=>exact⟨j1,Ln.cL m k j1 a b1,.inr (by omega),rfl,(Ln.eP HA.out HB1.out).trans HP.out,hlen,HS.out,Lib.hid (fun q hq=>by rw[Ln.da HA.out HB1.out,if_neg (by have:=HJ1.out;have:=HJ2.out;omega),if_neg (by have:=HJ1.out;have:=HJ2.out;omega)];exact HF.out q hq),⟨hvar2,by rw[hlen];exact hown2⟩,HK9.out.trans hk2 (fun i _ hi=>hi)⟩
      case measure=>simp[intOf];omega
     ·have hd:decide (Ln.jlt b1 a)=false:=decide_eq_false hlt
      rw[hd];have HNL:=Lib.hid hlt;clear hd hlt
      go_wp2
      go_ret
      exact⟨_,m,rfl,HP.out,Ln.kf HU.out HA.out (fun q x q0 q1 q2 hx=>Ln.gZ HNL.out ((lJ HB1.out HB2.out HJ1.out HJ2.out (Ln.et _) HN2.out) q x q0 q1 q2 hx)),HF.out,HAT9.out,HK9.out⟩
   ·clear hj1 hj2
    have HC2:=Lib.hid hc2;have hown:=HAT.out.own;rw[HL.out]at hown;have HOwn:=Lib.hid hown;clear hown
    go_wp2_with fail
    refine(iu wr g N c j1 k b1 a m HL.out HB1.out HA.out HOwn.out).mono ?_;rintro e w9 ⟨rfl,nd2,hw9⟩;have hat9:bC w9 P (.slice (some ⟨g,0,none⟩) N c) m:=by rw[hw9];exact HAT.out.drewN nd2
    have HK9:Hid (aB (fun k=>k=g) w w9):=by rw[hw9];exact HK.out.drewN nd2
    clear hw9;have hc9:=hat9.var.cell;have e9:=ir hc9;have HAT9:=Lib.hid hat9;clear hc9 hat9
    by_cases hlt:Ln.jlt b1 a
    ·have hd:decide (Ln.jlt b1 a)=true:=decide_eq_true hlt
     rw[hd];have hstep:=Ln.ke (j:=j1) (i:=k) (by have:=HJ1.out;have:=HJ2.out;omega) (by omega) (by omega) (by rw[HL.out];omega) HU.out HA.out HB1.out (sY HB1.out HJ1.out (by have:=HC2.out;have:=HJ2.out;omega)) hlt;have HS:=Lib.hid hstep;have hown9:=HAT9.out.own;rw[HL.out]at hown9;have HOwn9:=Lib.hid hown9;clear hown9 hd hlt hstep
     go_wp2_with fail
     refine(ie w9 g N c k j1 a b1 m HL.out HA.out HB1.out HOwn9.out).mono ?_;rintro e w2 ⟨rfl,hown2,hk2⟩;have hlen:(Ln.cL m k j1 a b1).length=N:=by rw[Ln.dZ,HL.out]
     have hvar2:=HAT9.out.var.keep hk2 (by have:=HNE.out;simp[Value.ownBlock]at this;exact fun e=>this e.symm)
     go_wp2
     go_roundw
     case rel=>exact⟨j1,Ln.cL m k j1 a b1,.inr (by omega),rfl,(Ln.eP HA.out HB1.out).trans HP.out,hlen,HS.out,Lib.hid (fun q hq=>by rw[Ln.da HA.out HB1.out,if_neg (by have:=HJ1.out;have:=HJ2.out;omega),if_neg (by have:=HJ1.out;have:=HJ2.out;omega)];exact HF.out q hq),⟨hvar2,by rw[hlen];exact hown2⟩,HK9.out.trans hk2 (fun i _ hi=>hi)⟩
     case measure=>simp[intOf];omega
    ·have hd:decide (Ln.jlt b1 a)=false:=decide_eq_false hlt
     rw[hd];have HNL:=Lib.hid hlt;clear hd hlt
     go_wp2
     go_ret
     exact⟨_,m,rfl,HP.out,Ln.kf HU.out HA.out (fun q x q0 q1 q2 hx=>Ln.gZ HNL.out ((sY HB1.out HJ1.out (by have:=HC2.out;have:=HJ2.out;omega)) q x q0 q1 q2 hx)),HF.out,HAT9.out,HK9.out⟩
namespace Ln
variable {l:List Job} {n:Nat}
theorem bV.but(h:bV l n)(j:Nat):iT l n j:=fun k x y a b _ hx d=>h k x y a b hx d
theorem bV.push(h:bV l l.length)(x:Job):iT (l++[x]) (l++[x]).length l.length:=fun k a b g i j d e=>by
 simp only[List.length_append,List.length_singleton]at i;rw[List.getElem?_append_left (by omega)]at d;rw[List.getElem?_append_left (by omega)]at e;exact h k a b g (by omega) d e
theorem th(l:List Job)(x:Job):sJ (l++[x]) (l++[x]).length l.length:=fun k a b e d g _ _ _=>by
 simp only[List.length_append,List.length_singleton]at d;omega
theorem oF(l:List Job)(n:Nat):sJ l n 0:=fun k a b _ _ _ h _ _=>by omega
theorem bV.under_swap{a b:Job}(h:bV l (n+1))(d:l[0]?=some a)(e:l[n]?=some b):eN (cL l 0 n a b) n 0:=by
 refine⟨fun k x y i j p hx g=>?_,oF _ _⟩;rw[da d e,if_neg (by omega),if_neg (by omega)]at hx;rw[da d e,if_neg (by omega),if_neg (by omega)]at g;exact h k x y i (by omega) hx g
theorem bV.take(h:bV l n)(e:n≤l.length):bV (l.take n) (l.take n).length:=fun k x y d a hx b=>by
 rw[List.length_take,Nat.min_eq_left e]at a;rw[List.getElem?_take_of_lt a]at hx;rw[List.getElem?_take_of_lt (by omega)]at b;exact h k x y d a hx b
theorem tH{a:Job}(e:l.length=n+1)(d:l[n]?=some a):l=l.take n++[a]:=by
 obtain⟨g,b⟩:=List.getElem?_eq_some_iff.1 d;rw[←b,List.take_append_getElem];rw[←e,List.take_length]
end Ln
theorem pq(w:World)(P:Nat)(v:Value)(l:List Job)(x:Job)(W:l.length≤900000000)(h:bC w P v l)(K:Ln.bV l l.length):
 Calls Tryz.prog 136 #[.iface 245 (.pointer (some ⟨P,0,none⟩)),.iface 250 x.val] w fun e w'=>e=.returned (.tuple #[])∧∃H q,q.Perm (l++[x])∧Ln.bV q q.length∧bC w' P H q∧aB (fun k=>k=P∨v.ownBlock=some k) w w'∧(H.ownBlock=v.ownBlock∨∃k,H.ownBlock=some k∧w.heap.size≤k):=by
 have e0:=yd;have O:=Lib.hid h;have N:=Lib.hid K;obtain⟨X,D⟩:∃X,X=x.val:=⟨_,rfl⟩;have T:=Lib.hid D;rw[←D];clear h K D
 go_enter Tryz.func136,Tryz.ntmps136
 go_wp2_with fail
 rw[T.out];refine(tU w P v l x (by omega) O.out).mono ?_;rintro e M ⟨rfl,v1,a,E,y⟩;have L:=a.var.cell;have e1:=vl L;obtain⟨m,A⟩:∃m,m=l++[x]:=⟨_,rfl⟩;have d:m.length=l.length+1:=by rw[A];simp
 have b:=Ln.bV.push N.out x;have p:=Ln.th l x;rw[←A]at a b p;obtain⟨g,c,hv,Y,hg⟩:=a.form (by omega);subst hv;have C:=Lib.hid a;have I:=Lib.hid b;have J:=Lib.hid p;have Q:=Lib.hid A;obtain⟨n,j⟩:∃n,n=l.length:=⟨_,rfl⟩;rw[←j]at d W I J;have U:(m.length:Int)-1=n:=by omega
 have R:=Lib.hid d;have V:m.length≤900000001:=by omega
 have u:n<m.length:=by omega
 have S:=Lib.hid j;clear L a b p A d j
 go_wp2_with fail
 refine(fA M (some ⟨g,0,none⟩) m.length c).mono ?_;rintro e w2 ⟨rfl,rfl⟩
 go_wp2_with fail
 refine(uf M P _ m n (by omega) u C.out I.out J.out).mono ?_;rintro e w2 ⟨rfl,q,Z,hh,r,G⟩
 go_wp2
 go_end0
 refine⟨rfl,_,q,by rw[←Q.out];exact Z,hh,r,E.trans G (fun i hi B=>?_),y⟩
 rcases y with h|⟨k,h,hk⟩
 ·exact .inr (by rw[←h];exact B)
 ·rw[h]at B;injection B with B;omega
theorem xd(w:World)(P g c N:Nat)(l:List Job)(E:l.length=N)(K:0<N)(L:N≤900000000)(h:bC w P (.slice (some ⟨g,0,none⟩) N c) l)(D:Ln.eN l N 0):
 Calls Tryz.prog 138 #[.iface 245 (.pointer (some ⟨P,0,none⟩)),.int .i64 0] w fun e w'=>e=.returned (.tuple #[])∧∃a,a.Perm l∧Ln.bV a a.length∧bC w' P (.slice (some ⟨g,0,none⟩) N c) a∧aB (fun k=>k=g) w w':=by
 have G:=h.var.cell;have O:=vl G;have r:=Lib.hid h;have J:=Lib.hid D;have C:=Lib.hid E;clear h D E G
 go_enter Tryz.func138,Tryz.ntmps138
 go_wp2_with fail
 refine(fA w (some ⟨g,0,none⟩) N c).mono ?_;rintro e I ⟨rfl,rfl⟩
 go_wp2_with fail
 refine(qe w P g c N l 0 N C.out (by omega) (Nat.le_refl _) (.inl rfl) r.out J.out).mono ?_;rintro e I ⟨b,a,rfl,y,hh,_,j,p⟩;have q:a.length=N:=by rw[y.length_eq,C.out]
 have x:a.length≤1000000000:=by omega
 have A:0<a.length:=by omega
 have HL':=Lib.hid q;have d:=Lib.hid j;clear q j
 cases b
 ·go_wp2_with fail
  refine(uf I P _ a 0 x A d.out (by rw[HL'.out];exact hh.but 0) (Ln.oF _ _)).mono ?_;rintro e Q ⟨rfl,M,B,u,n,v⟩
  go_wp2
  go_end0
  exact⟨rfl,M,B.trans y,u,n,p.trans v (fun i _ H=>by simp[Value.ownBlock]at H;exact H.symm)⟩
 ·go_wp2
  go_end0
  exact⟨rfl,a,y,by rw[HL'.out];exact hh,d.out,p⟩
theorem xF(w:World)(P g c N n:Nat)(l:List Job)(a:Job)(hN:l.length=N)(hn:N=n+1)(an:N≤900000000)(ha:l[0]?=some a)(h:bC w P (.slice (some ⟨g,0,none⟩) N c) l)(h1:Ln.bV l N):
 Calls Tryz.prog 139 #[.iface 245 (.pointer (some ⟨P,0,none⟩))] w fun e w'=>e=.returned (.iface 250 a.val)∧∃v' Z,(Z++[a]).Perm l∧Ln.bV Z Z.length∧bC w' P v' Z∧aB (fun k=>k=P∨k=g) w w'∧v'.ownBlock=some g:=by
 have hc:=h.var.cell;have e1:=vl hc;have e2:=ir hc;have e3:=yw;obtain⟨b,hb⟩:∃b,l[n]?=some b:=⟨_,List.getElem?_eq_getElem (by omega)⟩;have af:¬ P=g:=by have:=h.ne;simp[Value.ownBlock]at this;exact fun e=>this e.symm
 have J:=Lib.hid h;have H1:=Lib.hid h1;have HN:=Lib.hid hN;have X:=Lib.hid ha;have Y:=Lib.hid hb;have Hn:=Lib.hid hn;have a0:(N:Int)-1=n:=by omega
 have a1:n<N:=by omega
 clear h h1 hN hc ha hb hn
 go_enter Tryz.func139,Tryz.ntmps139
 go_wp2_with fail
 refine(fA w (some ⟨g,0,none⟩) N c).mono ?_;rintro e w2 ⟨rfl,rfl⟩;have q:=J.out.own;rw[HN.out]at q;have M:=Lib.hid q;clear q
 go_wp2_with fail
 refine(ie w g N c 0 n a b l HN.out X.out Y.out M.out).mono ?_;rintro e w2 ⟨rfl,r,S⟩;have p:(Ln.cL l 0 n a b).length=N:=by rw[Ln.dZ,HN.out]
 have v:=J.out.var.keep S af;have E:=H1.out;rw[Hn.out]at E;have W:=E.under_swap X.out Y.out;have y:bC w2 P (.slice (some ⟨g,0,none⟩) N c) (Ln.cL l 0 n a b):=⟨v,by rw[p];exact r⟩;have L:=Lib.hid p;have K:=Lib.hid y;clear p r v y E
 go_wp2_with fail
 refine(qe w2 P g c N _ 0 n L.out (by omega) (by omega) (.inl rfl) K.out W).mono ?_;rintro e w3 ⟨bb,l3,rfl,I,R,Q,A,ac⟩;have G:l3.length=n+1:=by rw[I.length_eq,L.out,Hn.out]
 have j:l3[n]?=some a:=by rw[Q n (Nat.le_refl _),Ln.da X.out Y.out,if_pos rfl]
 have x:=Ln.tH G j;have V:(l3.take n).length=n:=by rw[List.length_take,G];omega
 obtain⟨B,H⟩:∃B,B=l3.take n:=⟨_,rfl⟩;rw[←H]at x V;have u:(B++[a]).Perm l:=by rw[←x];exact I.trans (Ln.eP X.out Y.out)
 have d:Ln.bV B B.length:=by rw[H];exact R.take (by omega)
 rw[x]at A;have D:=Lib.hid u;have C:=Lib.hid d;have T:B.length≤1000000000:=by omega
 clear G j x V H u d I R Q
 go_wp2_with fail
 refine(vS w3 P _ B a T A).mono ?_;rintro e w4 ⟨rfl,v4,O,ad,ah⟩
 go_wp2
 go_ret
 exact⟨rfl,v4,B,D.out,C.out,O,((S.trans ac (fun i _ U=>U)).mono (fun i _ U =>.inr U)).trans ad (fun i _ U =>.inl U),by rw[ah];rfl⟩
def wn(w:World)(k:Nat):Option TypeId:=match w.heap[k]? with|some (.cells _ t _)=>some t|_=>none
theorem Var.ty{w:World}{b:Nat}{t:TypeId}{v:Value}(h:Var w b t v):wn w b=some t:=by unfold wn;unfold Var at h;rw[h]
theorem iA{w:World}{B:Nat}{e:TypeId}{size:Nat}{v:Value}{n:Nat}{d:List Value}(h:w.ownsRow B e size v n d){k:Nat}(hk:v.ownBlock=some k):wn w k=some e∧B≤k∧k<w.heap.size:=by
 rcases h.2 with⟨rfl,_⟩|⟨g,cap,a,rfl,b,hh,_⟩
 ·simp[Value.ownBlock]at hk
 ·have:g=k:=by simpa[Value.ownBlock]using hk
  subst this;exact⟨by unfold wn;rw[hh],b,(Array.getElem?_eq_some_iff.1 hh).1⟩
theorem gW{S:Nat→Prop}{w w':World}{B:Nat}{e:TypeId}{size:Nat}{v:Value}{n:Nat}{b:List Value}(h:w.ownsRow B e size v n b)(hk:aB S w w')(l:∀k,v.ownBlock=some k→¬ S k):w'.ownsRow B e size v n b:=by
 refine⟨h.1,?_⟩
 rcases h.2 with d|⟨g,cap,a,rfl,j,hh,i⟩
 ·exact .inl d
 ·exact .inr ⟨g,cap,a,rfl,j,by rw[hk.block g (Array.getElem?_eq_some_iff.1 hh).1 (l g rfl)];exact hh,i⟩
theorem bC.keep{S:Nat→Prop}{w w':World}{P:Nat}{v:Value}{l:List Job}(h:bC w P v l)(hk:aB S w w')(a:¬ S P)(hv:∀k,v.ownBlock=some k→¬ S k):bC w' P v l:=
 ⟨h.var.keep hk a,gW h.own hk hv⟩
structure ESt (z:Nat) (w0 w:World) (p PW PN:Nat) (rv vw vn:Value) (rows:List bH) (wl nl:List Job):Prop where
 vp:Var w p 216 rv
 row:w.ownsRow (p+1) 256 3 rv rows.length (ak rows)
 wait:bC w PW vw wl
 next:bC w PN vn nl
 Qa:PW≠PN
 ne:∀k,vw.ownBlock=some k→vn.ownBlock≠some k
 QY:z≤p
 Qg:z≤PW
 Qh:z≤PN
 Qk:∀k,vw.ownBlock=some k→z≤k
 Ql:∀k,vn.ownBlock=some k→z≤k
 below:Below z w0 w
namespace ESt
variable {z:Nat} {w0 w w':World} {p PW PN:Nat} {rv vw vn rv' vw' vn':Value} {rows rows':List bH} {wl nl wl' nl':List Job}
theorem onNext(h:ESt z w0 w p PW PN rv vw vn rows wl nl)(x:z≤w.heap.size)(hk:aB (fun k=>k=PN∨vn.ownBlock=some k) w w')(u:bC w' PN vn' nl')(j:vn'.ownBlock=vn.ownBlock∨∃k,vn'.ownBlock=some k∧w.heap.size≤k):
 ESt z w0 w' p PW PN rv vw vn' rows wl nl':=by
 have l:=h.vp.ty;have y:=h.wait.var.ty;have b:=h.next.var.ty
 have n:=fun k hk=>(iA h.row (k:=k) hk).1
 have r:=fun k hk=>(iA h.wait.own (k:=k) hk)
 have d:=fun k hk=>(iA h.next.own (k:=k) hk).1
 refine⟨h.vp.keep hk ?_,gW h.row hk ?_,h.wait.keep hk ?_ ?_,u,h.Qa,?_,h.QY,h.Qg,h.Qh,h.Qk,?_,h.below.trans (hk.below x ?_)⟩
 ·rintro(e|e)
  ·subst e;rw[l]at b;simp at b
  ·have:=d _ e;rw[l]at this;simp at this
 ·rintro k a (e|e)
  ·subst e;have:=n _ a;rw[b]at this;simp at this
  ·have:=n _ a;have g:=d _ e;rw[this]at g;simp at g
 ·rintro(e|e)
  ·exact h.Qa e
  ·have:=d _ e;rw[y]at this;simp at this
 ·rintro k a (e|e)
  ·subst e;have:=(r _ a).1;rw[b]at this;simp at this
  ·exact h.ne k a e
 ·intro k a
  rcases j with e|⟨q,e,v⟩
  ·rw[e];exact h.ne k a
  ·rw[e]
   have:=(r k a).2.2;intro h;injection h with h;omega
 ·intro k a
  rcases j with e|⟨q,e,v⟩
  ·rw[e]at a;exact h.Ql k a
  ·rw[e]at a;injection a with a;omega
 ·rintro i A (e|e)
  ·have:=h.Qh;omega
  ·have:=h.Ql i e;omega
theorem onWait(h:ESt z w0 w p PW PN rv vw vn rows wl nl)(y:z≤w.heap.size)(hk:aB (fun k=>k=PW∨vw.ownBlock=some k) w w')(v:bC w' PW vw' wl')(l:vw'.ownBlock=vw.ownBlock∨∃k,vw'.ownBlock=some k∧w.heap.size≤k):
 ESt z w0 w' p PW PN rv vw' vn rows wl' nl:=by
 have n:=h.vp.ty;have d:=h.wait.var.ty;have A:=h.next.var.ty
 have r:=fun k hk=>(iA h.row (k:=k) hk).1
 have g:=fun k hk=>(iA h.wait.own (k:=k) hk)
 have u:=fun k hk=>(iA h.next.own (k:=k) hk)
 refine⟨h.vp.keep hk ?_,gW h.row hk ?_,v,h.next.keep hk ?_ ?_,h.Qa,?_,h.QY,h.Qg,h.Qh,?_,h.Ql,h.below.trans (hk.below y ?_)⟩
 ·rintro(e|e)
  ·subst e;rw[n]at d;simp at d
  ·have:=(g _ e).1;rw[n]at this;simp at this
 ·rintro k a (e|e)
  ·subst e;have:=r _ a;rw[d]at this;simp at this
  ·have:=r _ a;have j:=(g _ e).1;rw[this]at j;simp at j
 ·rintro(e|e)
  ·exact h.Qa e.symm
  ·have:=(g _ e).1;rw[A]at this;simp at this
 ·rintro k a (e|e)
  ·subst e;have:=(u _ a).1;rw[d]at this;simp at this
  ·exact h.ne k e a
 ·intro k a b
  rcases l with e|⟨q,e,x⟩
  ·rw[e]at a;exact h.ne k a b
  ·rw[e]at a
   have:=(u k b).2.2
   injection a with h;omega
 ·intro k a
  rcases l with e|⟨q,e,x⟩
  ·rw[e]at a;exact h.Qk k a
  ·rw[e]at a;injection a with a;omega
 ·rintro i B (e|e)
  ·have:=h.Qg;omega
  ·have:=h.Qk i e;omega
theorem onRow(h:ESt z w0 w p PW PN rv vw vn rows wl nl)(u:z≤w.heap.size)(hk:aB (fun k=>k=p∨rv.ownBlock=some k) w w')(hv:Var w' p 216 rv')(r:w'.ownsRow (p+1) 256 3 rv' rows'.length (ak rows')):
 ESt z w0 w' p PW PN rv' vw vn rows' wl nl:=by
 have g:=h.vp.ty;have j:=h.wait.var.ty;have l:=h.next.var.ty
 have d:=fun k hk=>(iA h.row (k:=k) hk)
 have n:=fun k hk=>(iA h.wait.own (k:=k) hk)
 have q:=fun k hk=>(iA h.next.own (k:=k) hk)
 refine⟨hv,r,h.wait.keep hk ?_ ?_,h.next.keep hk ?_ ?_,h.Qa,h.ne,h.QY,h.Qg,h.Qh,h.Qk,h.Ql,h.below.trans (hk.below u ?_)⟩
 ·rintro(e|e)
  ·subst e;rw[g]at j;simp at j
  ·have:=(d _ e).1;rw[j]at this;simp at this
 ·rintro k a (e|e)
  ·subst e;have:=(n _ a).1;rw[g]at this;simp at this
  ·have:=(n _ a).1;have b:=(d _ e).1;rw[this]at b;simp at b
 ·rintro(e|e)
  ·subst e;rw[g]at l;simp at l
  ·have:=(d _ e).1;rw[l]at this;simp at this
 ·rintro k a (e|e)
  ·subst e;have:=(q _ a).1;rw[g]at this;simp at this
  ·have:=(q _ a).1;have b:=(d _ e).1;rw[this]at b;simp at b
 ·rintro i v (e|e)
  ·have:=h.QY;omega
  ·have:=(d _ e).2.1;have:=h.QY;omega
theorem alloc(h:ESt z w0 w p PW PN rv vw vn rows wl nl)(a:z≤w.heap.size)(o:Obj):ESt z w0 (w.alloc o) p PW PN rv vw vn rows wl nl:=by
 have hk:Kz w (w.alloc o):=(aB.refl _ _).alloc _;exact⟨h.vp.keep hk (by simp),gW h.row hk (by simp),h.wait.keep hk (by simp) (by simp),h.next.keep hk (by simp) (by simp),h.Qa,h.ne,h.QY,h.Qg,h.Qh,h.Qk,h.Ql,h.below.alloc a _⟩
theorem keepN(h:ESt z w0 w p PW PN rv vw vn rows wl nl)(a:z≤w.heap.size)(hk:Kz w w'):ESt z w0 w' p PW PN rv vw vn rows wl nl:=
 ⟨h.vp.keep hk (by simp),gW h.row hk (by simp),h.wait.keep hk (by simp) (by simp),h.next.keep hk (by simp) (by simp),h.Qa,h.ne,h.QY,h.Qg,h.Qh,h.Qk,h.Ql,h.below.trans (hk.below a (by simp))⟩
theorem size(h:ESt z w0 w p PW PN rv vw vn rows wl nl):z≤w.heap.size:=by have:=h.vp.lt;have:=h.QY;omega
end ESt
theorem bC.set_cell{w:World}{P g n c:Nat}{l:List Job}{r r':Job}(h:bC w P (.slice (some ⟨g,0,none⟩) n c) l)(x:l[0]?=some r)(b:n=l.length){i:Nat}{d:Int}
 (v:(i=1∧r'=⟨r.need,d,r.left⟩)∨(i=2∧r'=⟨r.need,r.due,d⟩)):
 bC (w.setCell ⟨g,i,none⟩ (.int .i64 d)) P (.slice (some ⟨g,0,none⟩) n c) (l.set 0 r')∧aB (fun k=>k=g) w (w.setCell ⟨g,i,none⟩ (.int .i64 d)):=by
 have hk:aB (fun k=>k=g) w (w.setCell ⟨g,i,none⟩ (.int .i64 d)):=(aB.refl (fun k=>k=g) w).setCell (fun _=>rfl) _;have a:¬ P=g:=by have:=h.ne;simp[Value.ownBlock]at this;exact fun e=>this e.symm
 refine⟨⟨h.var.keep hk a,?_⟩,hk⟩;have j:=h.own;rw[←b]at j;have p:=(j.stored i (.int .i64 d)).1;obtain⟨y,q,u⟩:=Edf.set_root (r':=r') x;rw[List.length_set,←b,u];rw[q]at p
 rcases v with⟨rfl,rfl⟩|⟨rfl,rfl⟩<;>simpa[bA,Job.cells]using p
theorem ESt.start(w:World)(p PW PN j i:Nat)(b:World)(D:p=w.heap.size)(r:j=p+1)(n:PW=p+2)(q:i=p+3)(l:PN=p+4)
 (a:b=(((((w.alloc (Obj.cells #[Value.slice none 0 0] 216)).alloc (Obj.cells #[] 250)).alloc (Obj.cells #[Value.slice (some ⟨j,0,none⟩) 0 0] 247)).alloc (Obj.cells #[] 250)).alloc (Obj.cells #[Value.slice (some ⟨i,0,none⟩) 0 0] 247))):
 ESt w.heap.size w b p PW PN (.slice none 0 0) (.slice (some ⟨j,0,none⟩) 0 0) (.slice (some ⟨i,0,none⟩) 0 0) [] [] []:=by
 subst D r n q l;have d:∀(w:World) (o:Obj),(w.alloc o).heap[w.heap.size]?=some o:=fun w o=>heap_alloc_new w o
 have keep:∀{w:World} {k:Nat} {o:Obj} (u:Obj),w.heap[k]?=some o→(w.alloc u).heap[k]?=some o:=fun{w k o} u h=>by
  have hk:=(Array.getElem?_eq_some_iff.1 h).1;rw[Below.heap_alloc w u k hk];exact h
 have e:∀(w:World) (o:Obj),(w.alloc o).heap.size=w.heap.size+1:=fun w o=>by simp
 have x:b.heap[w.heap.size]?=some (Obj.cells #[Value.slice none 0 0] 216):=by subst a;exact keep _ (keep _ (keep _ (keep _ (d _ _))))
 have y:b.heap[w.heap.size+1]?=some (Obj.cells #[] 250):=by
  subst a;refine keep _ (keep _ (keep _ ?_));have:=d (w.alloc (Obj.cells #[Value.slice none 0 0] 216)) (Obj.cells #[] 250);rwa[e]at this
 have A:b.heap[w.heap.size+2]?=some (Obj.cells #[Value.slice (some ⟨w.heap.size+1,0,none⟩) 0 0] 247):=by
  subst a;refine keep _ (keep _ ?_);have:=d ((w.alloc (Obj.cells #[Value.slice none 0 0] 216)).alloc (Obj.cells #[] 250)) (Obj.cells #[Value.slice (some ⟨w.heap.size+1,0,none⟩) 0 0] 247);simpa only[e]using this
 have e3:b.heap[w.heap.size+3]?=some (Obj.cells #[] 250):=by
  subst a;refine keep _ ?_;have:=d (((w.alloc (Obj.cells #[Value.slice none 0 0] 216)).alloc (Obj.cells #[] 250)).alloc (Obj.cells #[Value.slice (some ⟨w.heap.size+1,0,none⟩) 0 0] 247)) (Obj.cells #[] 250);simpa only[e]using this
 have e4:b.heap[w.heap.size+4]?=some (Obj.cells #[Value.slice (some ⟨w.heap.size+3,0,none⟩) 0 0] 247):=by
  subst a;have:=d ((((w.alloc (Obj.cells #[Value.slice none 0 0] 216)).alloc (Obj.cells #[] 250)).alloc (Obj.cells #[Value.slice (some ⟨w.heap.size+1,0,none⟩) 0 0] 247)).alloc (Obj.cells #[] 250)) (Obj.cells #[Value.slice (some ⟨w.heap.size+3,0,none⟩) 0 0] 247);simpa only[e]using this
 have B:Below w.heap.size w b:=by
  subst a;refine((((((Below.refl _ _).alloc ?_ _).alloc ?_ _).alloc ?_ _).alloc ?_ _).alloc ?_ _)<;>simp<;>omega
 have v:∀g,b.heap[g]?=some (Obj.cells #[] 250)→b.ownsRow 0 250 3 (.slice (some ⟨g,0,none⟩) 0 0) 0 (bA []):=fun g C =>
  ⟨rfl,.inr ⟨g,0, #[],rfl,by omega,C,by omega,by omega,rfl,rfl⟩⟩
 refine⟨x,World.ownsRow_nil _ _ _ _,⟨A,v _ y⟩,⟨e4,v _ e3⟩,by omega,?_,by omega,by omega,by omega,?_,?_,B⟩
 ·intro k hk h;simp[Value.ownBlock]at hk h;omega
 ·intro k hk;simp[Value.ownBlock]at hk;omega
 ·intro k hk;simp[Value.ownBlock]at hk;omega
theorem bC.slice{w:World}{P:Nat}{v:Value}{l:List Job}(h:bC w P v l):∃A c,v=.slice A l.length c:=by
 rcases h.own.2 with⟨h,b⟩|⟨g,cap,a,h,_⟩
 ·exact⟨none,0,by rw[h,b]⟩
 ·exact⟨_,_,h⟩
theorem bC.root{w:World}{P g n c:Nat}{l:List Job}{r:Job}(h:bC w P (.slice (some ⟨g,0,none⟩) n c) l)(b:l.length=n)(d:l[0]?=some r):
 w.cell? ⟨g,0,none⟩=some (.int .i64 r.need)∧w.cell? ⟨g,1,none⟩=some (.int .i64 r.due)∧w.cell? ⟨g,2,none⟩=some (.int .i64 r.left):=by
 have a:=h.own;rw[b]at a;have:=fh a d
 simpa using this
theorem jv{w:World}{base a:Nat}{e:TypeId}{size:Nat}{v:Value}{n:Nat}{i:List Value}(h:w.ownsRow base e size v n i)(p:a≤base):w.ownsRow a e size v n i:=by
 refine⟨h.1,?_⟩
 rcases h.2 with d|⟨g,cap,b,d,j,l⟩
 ·exact .inl d
 ·exact .inr ⟨g,cap,b,d,Nat.le_trans p j,l⟩
end Go.Proofs.YtpblcjipmoblnaaGreatDoor
