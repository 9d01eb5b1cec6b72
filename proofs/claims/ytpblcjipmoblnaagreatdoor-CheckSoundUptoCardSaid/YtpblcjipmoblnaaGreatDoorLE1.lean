import Derived.Test.YtpblcjipmoblnaaGreatDoorLH2
import Derived.Deep.RegionLaw
set_option maxRecDepth 100000
set_option linter.all false
set_option maxHeartbeats 4000000
namespace Go.Proofs.YtpblcjipmoblnaaGreatDoor
open Go.RowKit Go.IntWalk
variable {w:World} {P:Nat} {v:Value} {l:List Job}
def Job.val(s:Job):Value := .agg #[.int .i64 s.need,.int .i64 s.due,.int .i64 s.left]
structure az (w:World) (P:Nat) (v:Value) (l:List Job):Prop where
 var:Var w P 247 v
 own:w.ownsRow 0 250 3 v l.length (ay l)
theorem yt{a b c:Int}:∀u∈[Value.int .i64 a,.int .i64 b,.int .i64 c],u.oneCell'=true:=by
 intro u d;simp at d;rcases d with rfl|rfl|rfl<;>rfl
theorem az.ne(h:az w P v l):¬ v.ownBlock=some P:=by
 rcases h.own.2 with⟨rfl,_⟩|⟨g,d,j,rfl,_,hh,_⟩
 ·simp[Value.ownBlock]
 ·intro p
  have:g=P:=by simpa[Value.ownBlock]using p
  subst this;have:=h.var;unfold Var at this;rw[hh]at this;simp at this
theorem uQ(x:Value)(w:World):(Instr.typeAssert (.iface 250 x) 20 250 false).run Tryz.prog w=.ok x w:=δ
theorem wC(w:World)(P:Nat)(v:Value)(l:List Job)(x:Job)(hn:l.length≤1000000000)(h:az w P v l):
 Calls Tryz.prog 266 #[.pointer (some ⟨P,0,none⟩),.iface 250 x.val] w fun e w'=>e=.returned (.tuple #[])∧∃U,az w' P U (l++[x])∧aD (fun k=>k=P∨v.ownBlock=some k) w w'∧(U.ownBlock=v.ownBlock∨∃k,U.ownBlock=some k∧w.heap.size≤k):=by
 have hc:=h.var.cell;have hf:=h.var.frozen;have af:=h.var.lt;have E:=h.own;have A:=h.ne;have H:=h.var;obtain⟨i0,hi,O,Q,R⟩:=info_parts Tryz.info250;have a0:=uQ;unfold Job.val
 go_enter Tryz.func266,Tryz.ntmps266
 go_wp2
 have B:(w.alloc (.cells #[.int .i64 x.need,.int .i64 x.due,.int .i64 x.left] 250)).drew.ownsRow 0 250 3 v l.length (ay l):=(E.alloc _).drew;have r:∀j u,[Value.int .i64 x.need,.int .i64 x.due,.int .i64 x.left][j]?=some u→(w.alloc (.cells #[.int .i64 x.need,.int .i64 x.due,.int .i64 x.left] 250)).drew.cell? ((⟨w.heap.size,0,none⟩:Addr).add j)=some u:=World.news_of_block (cs := #[.int .i64 x.need,.int .i64 x.due,.int .i64 x.left]) (heap_alloc_new w _);have X:=Lib.hid r;clear r
 go_region_law ((refine step_append_lies ((w.alloc (.cells #[.int .i64 x.need,.int .i64 x.due,.int .i64 x.left] 250)).drew) rfl (.tmp 7) (.tmp 10) 247 rfl 0 250 i0 (.agg #[.int .i64 0,.int .i64 0,.int .i64 0]) 3 24 Tryz.underlying247 hi O Q R rfl χ v l.length (ay l) rfl B ⟨w.heap.size,0,none⟩ 1 1 [.int .i64 x.need,.int .i64 x.due,.int .i64 x.left] rfl rfl X.out yt χ (by unfold maxLen;omega) χ χ (w.heap.size+1) ξ ?_;intro g J I d q K W;have D:aD (fun k=>v.ownBlock=some k) w I:=((aD.refl _ w).alloc _).drew.trans (aD.of_grown (S:=fun k=>v.ownBlock=some k) q (fun k h=>h)) (fun _ _ h=>h);have p:=H.keep D A;have ac:=p.cell;have ad:=p.frozen))
 all_goals
  have N:az I P v l∨True := .inr trivial;have L:¬ g=P:=by
   intro he;subst he
   rcases d.2 with⟨h,_⟩|⟨g',V,Y,h,_,Z,_⟩
   ·simp at h
   ·simp only[Value.slice.injEq,Option.some.injEq,Addr.mk.injEq,and_true,true_and]at h
    obtain⟨rfl,rfl⟩:=h;unfold Var at p;rw[Z]at p;simp at p
  have y:∀u,(I.setCell ⟨P,0,none⟩ u).ownsRow 0 250 3 (.slice (some ⟨g,0,none⟩) (l.length+1) J) (l.length+1) (ay l++[.int .i64 x.need,.int .i64 x.due,.int .i64 x.left]):=fun u =>
   d.kept (row:=some P) ⟨rfl,rfl,rfl,by simp[World.setCell],fun k hk A=>Below.heap_setCell I _ u k (by intro e;exact A (by rw[e]))⟩ (.inr (by simp[Value.ownBlock];exact L))
  have C:=Lib.hid y;clear y d q N
  go_wp2
  go_end0
  refine⟨rfl,_,⟨p.set_ _,?_⟩,(D.mono fun i _ h =>.inr h).setCell (fun _ =>.inl rfl) _,?_⟩
  ·rw[jD,List.length_append]
   exact C.out _
  ·rcases K with h|h
   ·exact .inl (by rw[h];rfl)
   ·exact .inr ⟨g,rfl,χ⟩
theorem yH(w:World)(P:Nat)(v:Value)(l:List Job)(x:Job)(hn:l.length≤1000000000)(h:az w P v (l++[x])):
 Calls Tryz.prog 265 #[.pointer (some ⟨P,0,none⟩)] w fun e w'=>e=.returned (.iface 250 x.val)∧∃V,az w' P V l∧aD (fun k=>k=P) w w'∧V.ownBlock=v.ownBlock:=by
 have S:=h.var.cell;have hf:=h.var.frozen;have O:=h.var.lt;have d:=h.own;have E:=h.ne;have q:=h.var;obtain⟨g,j,hv,_,hg⟩:=d.form ξ;subst hv;obtain⟨q0,q1,q2⟩:=gA d (i:=l.length) (a:=x) ξ;rw[List.length_append,List.length_singleton]at d S q E;have N:¬ g=P:=by simpa[Value.ownBlock]using E
 obtain⟨n,p⟩:∃n,n=l.length:=⟨_,rfl⟩;rw[←p]at d S q q0 q1 q2 hn;have U:n+1≤j:=by
  rcases d.2 with⟨h,_⟩|⟨W,B,C,h,_,_,Q,_⟩
  ·simp at h
  ·simp only[Value.slice.injEq]at h
   obtain⟨_,_,rfl⟩:=h;exact Q
 have L:(n:Int)≤(j:Int):=χ
 have r:w.ownsRow 0 250 3 (.slice (some ⟨g,0,none⟩) n j) n (ay l):=by
  rcases d.2 with⟨h,_⟩|⟨W,B,C,h,hb,X,Q,Y,Z,h6⟩
  ·simp at h
  ·simp only[Value.slice.injEq,Option.some.injEq,Addr.mk.injEq,and_true,true_and]at h
   obtain⟨rfl,rfl⟩:=h;refine⟨by rw[jC,p],.inr ⟨g,j,C,rfl,hb,X,χ,Y,Z,?_⟩⟩;have R:=congrArg (List.take (n*3)) h6;rw[List.take_take,Nat.min_eq_left χ]at R;rw[R,jD,List.take_left' (by rw[jC,p])]
 have K:=Lib.hid p;clear d p h;unfold Job.val;have y:=fun u=>(ownsRow_setCell_other r (a:=⟨P,0,none⟩) (by simp[Value.ownBlock];exact N) u).alloc (.cells #[.int .i64 x.need,.int .i64 x.due,.int .i64 x.left] 250)
 have H:∀u,Var ((w.setCell ⟨P,0,none⟩ u).alloc (.cells #[.int .i64 x.need,.int .i64 x.due,.int .i64 x.left] 250)) P 247 u:=fun u=>(Below.heap_alloc _ _ P (by simpa[World.setCell]using O)).trans (Var.set_ q u)
 have D:∀u,aD (fun k=>k=P) w ((w.setCell ⟨P,0,none⟩ u).alloc (.cells #[.int .i64 x.need,.int .i64 x.due,.int .i64 x.left] 250)):=fun u=>((aD.refl (fun k=>k=P) w).setCell (fun _=>rfl) u).alloc _
 have A:=Lib.hid y;have J:=Lib.hid H;have I:=Lib.hid D;clear y H r D
 go_enter Tryz.func265,Tryz.ntmps265
 go_wp2
 go_ret
 refine⟨rfl,.slice (some ⟨g,0,none⟩) n j,⟨J.out _,?_⟩,I.out _,rfl⟩;rw[←K.out];exact A.out _
theorem az.drewN(h:az w P v l)(n:Nat):az (w.drewN n) P v l:=
 ⟨h.var.keep ((aD.refl (fun _=>False) w).drewN n) ξ,h.own⟩
theorem az.form(h:az w P v l)(p:0<l.length):∃g c,v=.slice (some ⟨g,0,none⟩) l.length c∧v.ownBlock=some g∧g<w.heap.size:=by
 obtain⟨g,d,hv,_,j⟩:=h.own.form p;exact⟨g,d,hv,by rw[hv];rfl,j⟩
theorem xX(w:World)(P:Nat)(v:Value)(l:List Job)(j:Nat)(hn:l.length≤1000000000)(hj:j<l.length)(h:az w P v l)(h1:Ln.jA l l.length j)(h2:Ln.uV l l.length j):
 Calls Tryz.prog 149 #[.iface 245 (.pointer (some ⟨P,0,none⟩)),.int .i64 j] w fun e w'=>e=.returned (.tuple #[])∧∃l',l'.Perm l∧Ln.bQ l' l'.length∧az w' P v l'∧aD (fun k=>v.ownBlock=some k) w w':=by
 obtain⟨g,c,hv,hob,hg⟩:=h.form χ;have hne:=h.ne;obtain⟨N,hN⟩:∃N,N=l.length:=⟨_,rfl⟩;rw[←hN]at hv hn hj h1 h2;subst hv;have HNE:=Lib.hid hne;have H1:=Lib.hid h1;have H2:=Lib.hid h2;have HN:=Lib.hid hN;have HH:=Lib.hid h;have HOB:=Lib.hid hob;clear hne h1 h2 hN h hob
 go_enter Tryz.func149,Tryz.ntmps149
 go_wp2
 go_loopw [1] (fun x wr=>∃(k:Nat) (m:List Job),k<N∧x=.int .i64 k∧Hid (m.Perm l)∧Hid (m.length=N)∧Hid (Ln.jA m N k)∧Hid (Ln.uV m N k)∧az wr P (.slice (some ⟨g,0,none⟩) N c) m∧Hid (aD (fun k=>(Value.slice (some ⟨g,0,none⟩) N c).ownBlock=some k) w wr)) (fun x _=>(intOf x).toNat)
 case atStart=>exact⟨j,l,hj,rfl,List.Perm.refl _,HN.out.symm,H1.out,H2.out,HH.out,aD.refl _ _⟩
 case round =>
  obtain⟨k,m,hk,rfl,HP,HL,HB,HO,hat,HK⟩:=hrel;have hc:=hat.var.cell;have e1:=tj hc;have e2:=jV hc;have HAT:=Lib.hid hat
  clear hc hat
  by_cases hk0:k=0
  ·subst hk0
   go_wp2
   go_end0
   exact⟨rfl,m,HP.out,by rw[HL.out];exact Ln.uc HB.out (.inl rfl),HAT.out,HK.out⟩
  ·obtain⟨p,hp⟩:∃p,p=(k-1) / 2:=⟨_,rfl⟩
   have hpk:p<k:=χ
   have hpi:((k:Int)-1) / 2=(p:Int):=χ
   obtain⟨a,ha⟩:∃a,m[p]?=some a:=⟨_,List.getElem?_eq_getElem (by rw[HL.out];omega)⟩;obtain⟨b,hb⟩:∃b,m[k]?=some b:=⟨_,List.getElem?_eq_getElem (by rw[HL.out];omega)⟩;have HPP:=Lib.hid hp;have HA:=Lib.hid ha;have HBB:=Lib.hid hb;clear hp ha hb;have hown:=HAT.out.own;rw[HL.out]at hown;have HOwn:=Lib.hid hown;clear hown
   go_wp2_with fail
   refine(jX wr g N c k p b a m HL.out HBB.out HA.out HOwn.out).mono ?_;rintro e w1 ⟨rfl,nd,rfl⟩;have hat1:=HAT.out.drewN nd;have hc1:=hat1.var.cell;have e2:=jV hc1;have HAT1:=Lib.hid hat1;clear hc1 hat1
   by_cases hlt:Ln.jlt b a
   ·have hd:decide (Ln.jlt b a)=true:=decide_eq_true hlt
    rw[hd];have HLT:=Lib.hid hlt;clear hd hlt;have hown1:=HAT1.out.own;rw[HL.out]at hown1;have HOwn1:=Lib.hid hown1;clear hown1
    go_wp2_with fail
    refine(jM (wr.drewN nd) g N c p k a b m HL.out HA.out HBB.out HOwn1.out).mono ?_;rintro e w2 ⟨rfl,hown2,hk2⟩;have hstep:=Ln.zz χ hk (by rw[HL.out];exact Nat.le_refl _) HB.out HO.out (by rw[←HPP.out];exact HA.out) HBB.out HLT.out;rw[←HPP.out]at hstep;have HS:=Lib.hid hstep;have hlen:(Ln.cQ m p k a b).length=N:=by rw[Ln.dV,HL.out]
    have hvar2:=HAT1.out.var.keep hk2 (by have:=HNE.out;simp[Value.ownBlock]at this;exact fun e=>this e.symm);clear hstep
    go_wp2
    go_roundw
    case rel=>exact⟨p,Ln.cQ m p k a b,χ,rfl,(Ln.eL HA.out HBB.out).trans HP.out,hlen,HS.out.1,HS.out.2,⟨hvar2,by rw[hlen];exact hown2⟩,(HK.out.drewN nd).trans hk2 (fun i _ hi=>by rw[hi];rfl)⟩
    case measure=>simp[intOf];omega
   ·have hd:decide (Ln.jlt b a)=false:=decide_eq_false hlt
    rw[hd]
    go_wp2
    go_end0
    exact⟨rfl,m,HP.out,by rw[HL.out];exact Ln.uc HB.out (.inr ⟨a,b,by rw[←HPP.out];exact HA.out,HBB.out,hlt⟩),HAT1.out,HK.out.drewN nd⟩
theorem ut{m:List Job}{n k j1:Nat}{d:Job}(g:m[j1]?=some d)(h:j1=2*k+1)(j:¬ j1+1<n):∀q x,0<q→q<n→(q-1) / 2=k→m[q]?=some x→¬ Ln.jlt x d:=by
 intro q x l p r hx;obtain rfl:q=j1:=χ
 rw[g]at hx;injection hx with hx;subst hx;exact Ln.fE _
theorem mp{m:List Job}{n k j1 j2:Nat}{b d g:Job}(h:m[j1]?=some d)(j:m[j2]?=some g)(u:j1=2*k+1)(l:j2=j1+1)(p:¬ Ln.jlt d b)(r:¬ Ln.jlt g b):∀q x,0<q→q<n→(q-1) / 2=k→m[q]?=some x→¬ Ln.jlt x b:=by
 intro q x v w y hx
 rcases(by omega:q=j1∨q=j2)with rfl|rfl
 ·rw[h]at hx;injection hx with hx;subst hx;exact p
 ·rw[j]at hx;injection hx with hx;subst hx;exact r
theorem sS(w:World)(P:Nat)(g c N:Nat)(l:List Job)(j n:Nat)(hN:l.length=N)(hN2:N≤1000000000)(hn:n≤N)(hj:j=0∨j<n)(h:az w P (.slice (some ⟨g,0,none⟩) N c) l)(h1:Ln.eI l n j):
 Calls Tryz.prog 150 #[.iface 245 (.pointer (some ⟨P,0,none⟩)),.int .i64 j,.int .i64 n] w fun e w'=>∃b l',e=.returned (.bool b)∧l'.Perm l∧Ln.bQ l' n∧(∀q,n≤q→l'[q]?=l[q]?)∧az w' P (.slice (some ⟨g,0,none⟩) N c) l'∧aD (fun k=>k=g) w w':=by
 have hne:=h.ne;have HNE:=Lib.hid hne;have H1:=Lib.hid h1;have HN:=Lib.hid hN;have HH:=Lib.hid h;clear hne h1 hN h
 go_enter Tryz.func150,Tryz.ntmps150
 go_wp2
 go_loopw [7] (fun x wr=>∃(k:Nat) (m:List Job),(k=j∨k<n)∧x=.int .i64 k∧Hid (m.Perm l)∧Hid (m.length=N)∧Hid (Ln.eI m n k)∧Hid (∀q,n≤q→m[q]?=l[q]?)∧az wr P (.slice (some ⟨g,0,none⟩) N c) m∧Hid (aD (fun k=>k=g) w wr)) (fun x _=>N+j-(intOf x).toNat)
 case atStart=>exact⟨j,l,.inl rfl,rfl,List.Perm.refl _,HN.out,H1.out,Lib.hid (fun _ _=>rfl),HH.out,aD.refl _ _⟩
 case round =>
  obtain⟨k,m,hk,rfl,HP,HL,HU,HF,hat,HK⟩:=hrel;have hc:=hat.var.cell;have e1:=tj hc;have e2:=jV hc;have HAT:=Lib.hid hat
  clear hc hat
  obtain⟨j1,hj1⟩:∃j1,j1=2*k+1:=⟨_,rfl⟩;have hi1:2*(k:Int)+1=(j1:Int):=χ
  have hk1:k<j1:=χ
  have hj1b:j1≤2*N+1:=χ
  have HJ1:=Lib.hid hj1
  by_cases hc1:n≤j1
  ·clear hj1
   go_wp2
   go_ret
   refine⟨_,m,rfl,HP.out,fun q x y q0 q1 hx hy=>HU.out.1 q x y q0 q1 (by have:=HJ1.out;omega) hx hy,HF.out,HAT.out,HK.out⟩
  ·obtain⟨a,ha⟩:∃a,m[k]?=some a:=⟨_,List.getElem?_eq_getElem (by rw[HL.out];omega)⟩
   obtain⟨b1,hb1⟩:∃b,m[j1]?=some b:=⟨_,List.getElem?_eq_getElem (by rw[HL.out];omega)⟩;have HA:=Lib.hid ha;have HB1:=Lib.hid hb1;obtain⟨j2,hj2⟩:∃j2,j2=j1+1:=⟨_,rfl⟩;have hi2:(j1:Int)+1=(j2:Int):=χ
   have HJ2:=Lib.hid hj2;clear ha hb1
   by_cases hc2:j2<n
   ·obtain⟨b2,hb2⟩:∃b,m[j2]?=some b:=⟨_,List.getElem?_eq_getElem (by rw[HL.out];omega)⟩
    have HB2:=Lib.hid hb2;have hown:=HAT.out.own;rw[HL.out]at hown;have HOwn:=Lib.hid hown;clear hown hb2 hj1 hj2
    go_wp2_with fail
    refine(jX wr g N c j2 j1 b2 b1 m HL.out HB2.out HB1.out HOwn.out).mono ?_;rintro e w1 ⟨rfl,nd,hw1⟩;have hat1:az w1 P (.slice (some ⟨g,0,none⟩) N c) m:=by rw[hw1];exact HAT.out.drewN nd
    have HK1:Hid (aD (fun k=>k=g) w w1):=by rw[hw1];exact HK.out.drewN nd
    clear hw1;have hc3:=hat1.var.cell;have e3:=jV hc3;have e4:=tj hc3;have HAT1:=Lib.hid hat1;have hj1:=HJ1.out;have hj2:=HJ2.out;clear hc3 hat1
    by_cases hlt2:Ln.jlt b2 b1
    ·have hd2:decide (Ln.jlt b2 b1)=true:=decide_eq_true hlt2
     rw[hd2];have HN2:=Lib.hid hlt2;clear hd2 hlt2 hj1 hj2;have hown1:=HAT1.out.own;rw[HL.out]at hown1;have HOwn1:=Lib.hid hown1;clear hown1
     go_wp2_with fail
     refine(jX w1 g N c j2 k b2 a m HL.out HB2.out HA.out HOwn1.out).mono ?_;rintro e w9 ⟨rfl,nd2,hw9⟩;have hat9:az w9 P (.slice (some ⟨g,0,none⟩) N c) m:=by rw[hw9];exact HAT1.out.drewN nd2
     have HK9:Hid (aD (fun k=>k=g) w w9):=by rw[hw9];exact HK1.out.drewN nd2
     clear hw9;have hc9:=hat9.var.cell;have e9:=jV hc9;have HAT9:=Lib.hid hat9;clear hc9 hat9
     by_cases hlt:Ln.jlt b2 a
     ·have hd:decide (Ln.jlt b2 a)=true:=decide_eq_true hlt
      rw[hd];have hstep:=Ln.mB (j:=j2) (i:=k) (by have:=HJ1.out;have:=HJ2.out;omega) χ χ (by rw[HL.out];omega) HU.out HA.out HB2.out (mp HB1.out HB2.out HJ1.out HJ2.out (Ln.jz HN2.out) (Ln.fE _)) hlt;have HS:=Lib.hid hstep;have hown9:=HAT9.out.own;rw[HL.out]at hown9;have HOwn9:=Lib.hid hown9;clear hown9 hd hlt hstep
      go_wp2_with fail
      refine(jM w9 g N c k j2 a b2 m HL.out HA.out HB2.out HOwn9.out).mono ?_;rintro e w2 ⟨rfl,hown2,hk2⟩;have hlen:(Ln.cQ m k j2 a b2).length=N:=by rw[Ln.dV,HL.out]
      have hvar2:=HAT9.out.var.keep hk2 (by have:=HNE.out;simp[Value.ownBlock]at this;exact fun e=>this e.symm)
      go_wp2
      go_roundw
      case rel=>exact⟨j2,Ln.cQ m k j2 a b2,.inr χ,rfl,(Ln.eL HA.out HB2.out).trans HP.out,hlen,HS.out,Lib.hid (fun q hq=>by rw[Ln.dW HA.out HB2.out,if_neg (by have:=HJ1.out;have:=HJ2.out;omega),if_neg (by have:=HJ1.out;have:=HJ2.out;omega)];exact HF.out q hq),⟨hvar2,by rw[hlen];exact hown2⟩,HK9.out.trans hk2 (fun i _ hi=>hi)⟩
      case measure=>simp[intOf];omega
     ·have hd:decide (Ln.jlt b2 a)=false:=decide_eq_false hlt
      rw[hd];have HNL:=Lib.hid hlt;clear hd hlt
      go_wp2
      go_ret
      exact⟨_,m,rfl,HP.out,Ln.mC HU.out HA.out (fun q x q0 q1 q2 hx=>Ln.iG HNL.out ((mp HB1.out HB2.out HJ1.out HJ2.out (Ln.jz HN2.out) (Ln.fE _)) q x q0 q1 q2 hx)),HF.out,HAT9.out,HK9.out⟩
    ·have hd2:decide (Ln.jlt b2 b1)=false:=decide_eq_false hlt2
     rw[hd2];have HN2:=Lib.hid hlt2;clear hd2 hlt2 hj1 hj2;have hown1:=HAT1.out.own;rw[HL.out]at hown1;have HOwn1:=Lib.hid hown1;clear hown1
     go_wp2_with fail
     refine(jX w1 g N c j1 k b1 a m HL.out HB1.out HA.out HOwn1.out).mono ?_;rintro e w9 ⟨rfl,nd2,hw9⟩;have hat9:az w9 P (.slice (some ⟨g,0,none⟩) N c) m:=by rw[hw9];exact HAT1.out.drewN nd2
     have HK9:Hid (aD (fun k=>k=g) w w9):=by rw[hw9];exact HK1.out.drewN nd2
     clear hw9;have hc9:=hat9.var.cell;have e9:=jV hc9;have HAT9:=Lib.hid hat9;clear hc9 hat9
     by_cases hlt:Ln.jlt b1 a
     ·have hd:decide (Ln.jlt b1 a)=true:=decide_eq_true hlt
      rw[hd];have hstep:=Ln.mB (j:=j1) (i:=k) (by have:=HJ1.out;have:=HJ2.out;omega) χ χ (by rw[HL.out];omega) HU.out HA.out HB1.out (mp HB1.out HB2.out HJ1.out HJ2.out (Ln.fE _) HN2.out) hlt;have HS:=Lib.hid hstep;have hown9:=HAT9.out.own;rw[HL.out]at hown9;have HOwn9:=Lib.hid hown9;clear hown9 hd hlt hstep
      go_wp2_with fail
      refine(jM w9 g N c k j1 a b1 m HL.out HA.out HB1.out HOwn9.out).mono ?_;rintro e w2 ⟨rfl,hown2,hk2⟩;have hlen:(Ln.cQ m k j1 a b1).length=N:=by rw[Ln.dV,HL.out]
      have hvar2:=HAT9.out.var.keep hk2 (by have:=HNE.out;simp[Value.ownBlock]at this;exact fun e=>this e.symm)
      go_wp2
      go_roundw
      case rel=>exact⟨j1,Ln.cQ m k j1 a b1,.inr χ,rfl,(Ln.eL HA.out HB1.out).trans HP.out,hlen,HS.out,Lib.hid (fun q hq=>by rw[Ln.dW HA.out HB1.out,if_neg (by have:=HJ1.out;have:=HJ2.out;omega),if_neg (by have:=HJ1.out;have:=HJ2.out;omega)];exact HF.out q hq),⟨hvar2,by rw[hlen];exact hown2⟩,HK9.out.trans hk2 (fun i _ hi=>hi)⟩
      case measure=>simp[intOf];omega
     ·have hd:decide (Ln.jlt b1 a)=false:=decide_eq_false hlt
      rw[hd];have HNL:=Lib.hid hlt;clear hd hlt
      go_wp2
      go_ret
      exact⟨_,m,rfl,HP.out,Ln.mC HU.out HA.out (fun q x q0 q1 q2 hx=>Ln.iG HNL.out ((mp HB1.out HB2.out HJ1.out HJ2.out (Ln.fE _) HN2.out) q x q0 q1 q2 hx)),HF.out,HAT9.out,HK9.out⟩
   ·clear hj1 hj2
    have HC2:=Lib.hid hc2;have hown:=HAT.out.own;rw[HL.out]at hown;have HOwn:=Lib.hid hown;clear hown
    go_wp2_with fail
    refine(jX wr g N c j1 k b1 a m HL.out HB1.out HA.out HOwn.out).mono ?_;rintro e w9 ⟨rfl,nd2,hw9⟩;have hat9:az w9 P (.slice (some ⟨g,0,none⟩) N c) m:=by rw[hw9];exact HAT.out.drewN nd2
    have HK9:Hid (aD (fun k=>k=g) w w9):=by rw[hw9];exact HK.out.drewN nd2
    clear hw9;have hc9:=hat9.var.cell;have e9:=jV hc9;have HAT9:=Lib.hid hat9;clear hc9 hat9
    by_cases hlt:Ln.jlt b1 a
    ·have hd:decide (Ln.jlt b1 a)=true:=decide_eq_true hlt
     rw[hd];have hstep:=Ln.mB (j:=j1) (i:=k) (by have:=HJ1.out;have:=HJ2.out;omega) χ χ (by rw[HL.out];omega) HU.out HA.out HB1.out (ut HB1.out HJ1.out (by have:=HC2.out;have:=HJ2.out;omega)) hlt;have HS:=Lib.hid hstep;have hown9:=HAT9.out.own;rw[HL.out]at hown9;have HOwn9:=Lib.hid hown9;clear hown9 hd hlt hstep
     go_wp2_with fail
     refine(jM w9 g N c k j1 a b1 m HL.out HA.out HB1.out HOwn9.out).mono ?_;rintro e w2 ⟨rfl,hown2,hk2⟩;have hlen:(Ln.cQ m k j1 a b1).length=N:=by rw[Ln.dV,HL.out]
     have hvar2:=HAT9.out.var.keep hk2 (by have:=HNE.out;simp[Value.ownBlock]at this;exact fun e=>this e.symm)
     go_wp2
     go_roundw
     case rel=>exact⟨j1,Ln.cQ m k j1 a b1,.inr χ,rfl,(Ln.eL HA.out HB1.out).trans HP.out,hlen,HS.out,Lib.hid (fun q hq=>by rw[Ln.dW HA.out HB1.out,if_neg (by have:=HJ1.out;have:=HJ2.out;omega),if_neg (by have:=HJ1.out;have:=HJ2.out;omega)];exact HF.out q hq),⟨hvar2,by rw[hlen];exact hown2⟩,HK9.out.trans hk2 (fun i _ hi=>hi)⟩
     case measure=>simp[intOf];omega
    ·have hd:decide (Ln.jlt b1 a)=false:=decide_eq_false hlt
     rw[hd];have HNL:=Lib.hid hlt;clear hd hlt
     go_wp2
     go_ret
     exact⟨_,m,rfl,HP.out,Ln.mC HU.out HA.out (fun q x q0 q1 q2 hx=>Ln.iG HNL.out ((ut HB1.out HJ1.out (by have:=HC2.out;have:=HJ2.out;omega)) q x q0 q1 q2 hx)),HF.out,HAT9.out,HK9.out⟩
namespace Ln
variable {l:List Job} {n:Nat}
theorem bQ.but(h:bQ l n)(j:Nat):jA l n j:=fun k x y d g _ hx p=>h k x y d g hx p
theorem bQ.push(h:bQ l l.length)(x:Job):jA (l++[x]) (l++[x]).length l.length:=fun k a b j p q d g=>by
 simp only[List.length_append,List.length_singleton]at p;rw[List.getElem?_append_left χ]at d;rw[List.getElem?_append_left χ]at g;exact h k a b j χ d g
theorem wL(l:List Job)(x:Job):uV (l++[x]) (l++[x]).length l.length:=fun k a b g d h _ _ _=>by
 simp only[List.length_append,List.length_singleton]at d;omega
theorem pw(l:List Job)(n:Nat):uV l n 0:=fun k a b _ _ _ h _ _=>χ
theorem bQ.under_swap{a b:Job}(h:bQ l (n+1))(d:l[0]?=some a)(g:l[n]?=some b):eI (cQ l 0 n a b) n 0:=by
 refine⟨fun k x y p q r hx j=>?_,pw _ _⟩;rw[dW d g,if_neg χ,if_neg χ]at hx;rw[dW d g,if_neg χ,if_neg χ]at j;exact h k x y p χ hx j
theorem bQ.take(h:bQ l n)(p:n≤l.length):bQ (l.take n) (l.take n).length:=fun k x y j d hx g=>by
 rw[List.length_take,Nat.min_eq_left p]at d;rw[List.getElem?_take_of_lt d]at hx;rw[List.getElem?_take_of_lt χ]at g;exact h k x y j d hx g
theorem vf{a:Job}(h:l.length=n+1)(g:l[n]?=some a):l=l.take n++[a]:=by
 obtain⟨j,d⟩:=List.getElem?_eq_some_iff.1 g;rw[←d,List.take_append_getElem];rw[←h,List.take_length]
end Ln
theorem rb(w:World)(P:Nat)(v:Value)(l:List Job)(x:Job)(hn:l.length≤900000000)(h:az w P v l)(O:Ln.bQ l l.length):
 Calls Tryz.prog 136 #[.iface 245 (.pointer (some ⟨P,0,none⟩)),.iface 250 x.val] w fun e w'=>e=.returned (.tuple #[])∧∃K u,u.Perm (l++[x])∧Ln.bQ u u.length∧az w' P K u∧aD (fun k=>k=P∨v.ownBlock=some k) w w'∧(K.ownBlock=v.ownBlock∨∃k,K.ownBlock=some k∧w.heap.size≤k):=by
 have e0:=By;have U:=Lib.hid h;have S:=Lib.hid O;obtain⟨X,H⟩:∃X,X=x.val:=⟨_,rfl⟩;have Z:=Lib.hid H;rw[←H];clear h O H
 go_enter Tryz.func136,Tryz.ntmps136
 go_wp2_with fail
 rw[Z.out];refine(wC w P v l x χ U.out).mono ?_;rintro e R ⟨rfl,v1,d,I,B⟩;have Q:=d.var.cell;have e1:=yg Q;obtain⟨m,C⟩:∃m,m=l++[x]:=⟨_,rfl⟩;have p:m.length=l.length+1:=by rw[C];simp
 have j:=Ln.bQ.push S.out x;have r:=Ln.wL l x;rw[←C]at d j r;obtain⟨g,c,hv,af,hg⟩:=d.form χ;subst hv;have E:=Lib.hid d;have L:=Lib.hid j;have N:=Lib.hid r;have V:=Lib.hid C;obtain⟨n,q⟩:∃n,n=l.length:=⟨_,rfl⟩;rw[←q]at p hn L N;have ac:(m.length:Int)-1=n:=χ
 have W:=Lib.hid p;have ad:m.length≤900000001:=χ
 have A:n<m.length:=χ
 have Y:=Lib.hid q;clear Q d j r C p q
 go_wp2_with fail
 refine(fL R (some ⟨g,0,none⟩) m.length c).mono ?_;rintro e w2 ⟨rfl,rfl⟩
 go_wp2_with fail
 refine(xX R P _ m n χ A E.out L.out N.out).mono ?_;rintro e w2 ⟨rfl,u,hp,hh,y,J⟩
 go_wp2
 go_end0
 refine⟨rfl,_,u,by rw[←V.out];exact hp,hh,y,I.trans J (fun i hi D=>?_),B⟩
 rcases B with h|⟨k,h,hk⟩
 ·exact .inr (by rw[←h];exact D)
 ·rw[h]at D;injection D with D;omega
theorem Ai(w:World)(P g c N:Nat)(l:List Job)(I:l.length=N)(Q:0<N)(R:N≤900000000)(h:az w P (.slice (some ⟨g,0,none⟩) N c) l)(H:Ln.eI l N 0):
 Calls Tryz.prog 138 #[.iface 245 (.pointer (some ⟨P,0,none⟩)),.int .i64 0] w fun e w'=>e=.returned (.tuple #[])∧∃d,d.Perm l∧Ln.bQ d d.length∧az w' P (.slice (some ⟨g,0,none⟩) N c) d∧aD (fun k=>k=g) w w':=by
 have J:=h.var.cell;have U:=yg J;have v:=Lib.hid h;have O:=Lib.hid H;have E:=Lib.hid I;clear h H I J
 go_enter Tryz.func138,Tryz.ntmps138
 go_wp2_with fail
 refine(fL w (some ⟨g,0,none⟩) N c).mono ?_;rintro e L ⟨rfl,rfl⟩
 go_wp2_with fail
 refine(sS w P g c N l 0 N E.out χ (Nat.le_refl _) (.inl rfl) v.out O.out).mono ?_;rintro e L ⟨b,d,rfl,B,hh,_,p,r⟩;have u:d.length=N:=by rw[B.length_eq,E.out]
 have A:d.length≤1000000000:=χ
 have C:0<d.length:=χ
 have HL':=Lib.hid u;have j:=Lib.hid p;clear u p
 cases b
 ·go_wp2_with fail
  refine(xX L P _ d 0 A C j.out (by rw[HL'.out];exact hh.but 0) (Ln.pw _ _)).mono ?_;rintro e V ⟨rfl,S,D,x,q,y⟩
  go_wp2
  go_end0
  exact⟨rfl,S,D.trans B,x,q,r.trans y (fun i _ K=>by simp[Value.ownBlock]at K;exact K.symm)⟩
 ·go_wp2
  go_end0
  exact⟨rfl,d,B,by rw[HL'.out];exact hh,j.out,r⟩
theorem AI(w:World)(P g c N n:Nat)(l:List Job)(a:Job)(hN:l.length=N)(hn:N=n+1)(a1:N≤900000000)(ha:l[0]?=some a)(h:az w P (.slice (some ⟨g,0,none⟩) N c) l)(h1:Ln.bQ l N):
 Calls Tryz.prog 139 #[.iface 245 (.pointer (some ⟨P,0,none⟩))] w fun e w'=>e=.returned (.iface 250 a.val)∧∃v' l',(l'++[a]).Perm l∧Ln.bQ l' l'.length∧az w' P v' l'∧aD (fun k=>k=P∨k=g) w w'∧v'.ownBlock=some g:=by
 have hc:=h.var.cell;have e1:=yg hc;have e2:=jV hc;have e3:=Cd;obtain⟨b,hb⟩:∃b,l[n]?=some b:=⟨_,List.getElem?_eq_getElem χ⟩;have af:¬ P=g:=by have:=h.ne;simp[Value.ownBlock]at this;exact fun e=>this e.symm
 have K:=Lib.hid h;have H1:=Lib.hid h1;have HN:=Lib.hid hN;have HA:=Lib.hid ha;have HB:=Lib.hid hb;have Hn:=Lib.hid hn;have a2:(N:Int)-1=n:=χ
 have a3:n<N:=χ
 clear h h1 hN hc ha hb hn
 go_enter Tryz.func139,Tryz.ntmps139
 go_wp2_with fail
 refine(fL w (some ⟨g,0,none⟩) N c).mono ?_;rintro e w2 ⟨rfl,rfl⟩;have q:=K.out.own;rw[HN.out]at q;have Q:=Lib.hid q;clear q
 go_wp2_with fail
 refine(jM w g N c 0 n a b l HN.out HA.out HB.out Q.out).mono ?_;rintro e w2 ⟨rfl,r,V⟩;have p:(Ln.cQ l 0 n a b).length=N:=by rw[Ln.dV,HN.out]
 have v:=K.out.var.keep V af;have E:=H1.out;rw[Hn.out]at E;have Z:=E.under_swap HA.out HB.out;have y:az w2 P (.slice (some ⟨g,0,none⟩) N c) (Ln.cQ l 0 n a b):=⟨v,by rw[p];exact r⟩;have O:=Lib.hid p;have L:=Lib.hid y;clear p r v y E
 go_wp2_with fail
 refine(sS w2 P g c N _ 0 n O.out χ χ (.inl rfl) L.out Z).mono ?_;rintro e w3 ⟨bb,l3,rfl,J,U,S,A,ac⟩;have H:l3.length=n+1:=by rw[J.length_eq,O.out,Hn.out]
 have j:l3[n]?=some a:=by rw[S n (Nat.le_refl _),Ln.dW HA.out HB.out,if_pos rfl]
 have x:=Ln.vf H j;have Y:(l3.take n).length=n:=by rw[List.length_take,H];omega
 obtain⟨B,I⟩:∃B,B=l3.take n:=⟨_,rfl⟩;rw[←I]at x Y;have u:(B++[a]).Perm l:=by rw[←x];exact J.trans (Ln.eL HA.out HB.out)
 have d:Ln.bQ B B.length:=by rw[I];exact U.take χ
 rw[x]at A;have D:=Lib.hid u;have C:=Lib.hid d;have W:B.length≤1000000000:=χ
 clear H j x Y I u d J U S
 go_wp2_with fail
 refine(yH w3 P _ B a W A).mono ?_;rintro e w4 ⟨rfl,v4,R,ad,a0⟩
 go_wp2
 go_ret
 exact⟨rfl,v4,B,D.out,C.out,R,((V.trans ac (fun i _ X=>X)).mono (fun i _ X =>.inr X)).trans ad (fun i _ X =>.inl X),by rw[a0];rfl⟩
def A8(w:World)(k:Nat):Option TypeId:=match w.heap[k]? with|some (.cells _ t _)=>some t|_=>none
theorem Var.ty{w:World}{b:Nat}{t:TypeId}{v:Value}(h:Var w b t v):A8 w b=some t:=by unfold A8;unfold Var at h;rw[h]
theorem ia{w:World}{B:Nat}{e:TypeId}{size:Nat}{v:Value}{n:Nat}{xs:List Value}(h:w.ownsRow B e size v n xs){k:Nat}(hk:v.ownBlock=some k):A8 w k=some e∧B≤k∧k<w.heap.size:=by
 rcases h.2 with⟨rfl,_⟩|⟨g,d,j,rfl,l,hh,_⟩
 ·simp[Value.ownBlock]at hk
 ·have:g=k:=by simpa[Value.ownBlock]using hk
  subst this;exact⟨by unfold A8;rw[hh],l,(Array.getElem?_eq_some_iff.1 hh).1⟩
theorem iE{S:Nat→Prop}{w w':World}{B:Nat}{e:TypeId}{size:Nat}{v:Value}{n:Nat}{xs:List Value}(h:w.ownsRow B e size v n xs)(hk:aD S w w')(r:∀k,v.ownBlock=some k→¬ S k):w'.ownsRow B e size v n xs:=by
 refine⟨h.1,?_⟩
 rcases h.2 with l|⟨g,d,j,rfl,q,hh,p⟩
 ·exact .inl l
 ·exact .inr ⟨g,d,j,rfl,q,by rw[hk.block g (Array.getElem?_eq_some_iff.1 hh).1 (r g rfl)];exact hh,p⟩
theorem az.keep{S:Nat→Prop}{w w':World}{P:Nat}{v:Value}{l:List Job}(h:az w P v l)(hk:aD S w w')(d:¬ S P)(hv:∀k,v.ownBlock=some k→¬ S k):az w' P v l:=
 ⟨h.var.keep hk d,iE h.own hk hv⟩
structure ESt (z:Nat) (w0 w:World) (p PW PN:Nat) (rv vw vn:Value) (rows:List bB) (wl nl:List Job):Prop where
 vp:Var w p 216 rv
 row:w.ownsRow (p+1) 256 3 rv rows.length (ab rows)
 wait:az w PW vw wl
 next:az w PN vn nl
 Qa:PW≠PN
 ne:∀k,vw.ownBlock=some k→vn.ownBlock≠some k
 QZ:z≤p
 Qd:z≤PW
 Qe:z≤PN
 Qn:∀k,vw.ownBlock=some k→z≤k
 Qo:∀k,vn.ownBlock=some k→z≤k
 below:Below z w0 w
namespace ESt
variable {z:Nat} {w0 w w':World} {p PW PN:Nat} {rv vw vn rv' vw' vn':Value} {rows rows':List bB} {wl nl wl' nl':List Job}
theorem onNext(h:ESt z w0 w p PW PN rv vw vn rows wl nl)(B:z≤w.heap.size)(hk:aD (fun k=>k=PN∨vn.ownBlock=some k) w w')(y:az w' PN vn' nl')(r:vn'.ownBlock=vn.ownBlock∨∃k,vn'.ownBlock=some k∧w.heap.size≤k):
 ESt z w0 w' p PW PN rv vw vn' rows wl nl':=by
 have u:=h.vp.ty;have C:=h.wait.var.ty;have g:=h.next.var.ty
 have v:=fun k hk=>(ia h.row (k:=k) hk).1
 have x:=fun k hk=>(ia h.wait.own (k:=k) hk)
 have j:=fun k hk=>(ia h.next.own (k:=k) hk).1
 refine⟨h.vp.keep hk ?_,iE h.row hk ?_,h.wait.keep hk ?_ ?_,y,h.Qa,?_,h.QZ,h.Qd,h.Qe,h.Qn,?_,h.below.trans (hk.below B ?_)⟩
 ·rintro(e|e)
  ·subst e;rw[u]at g;simp at g
  ·have:=j _ e;rw[u]at this;simp at this
 ·rintro k d (e|e)
  ·subst e;have:=v _ d;rw[g]at this;simp at this
  ·have:=v _ d;have l:=j _ e;rw[this]at l;simp at l
 ·rintro(e|e)
  ·exact h.Qa e
  ·have:=j _ e;rw[C]at this;simp at this
 ·rintro k d (e|e)
  ·subst e;have:=(x _ d).1;rw[g]at this;simp at this
  ·exact h.ne k d e
 ·intro k d
  rcases r with e|⟨q,e,A⟩
  ·rw[e];exact h.ne k d
  ·rw[e]
   have:=(x k d).2.2;intro h;injection h with h;omega
 ·intro k d
  rcases r with e|⟨q,e,A⟩
  ·rw[e]at d;exact h.Qo k d
  ·rw[e]at d;injection d with d;omega
 ·rintro i D (e|e)
  ·have:=h.Qe;omega
  ·have:=h.Qo i e;omega
theorem onWait(h:ESt z w0 w p PW PN rv vw vn rows wl nl)(C:z≤w.heap.size)(hk:aD (fun k=>k=PW∨vw.ownBlock=some k) w w')(A:az w' PW vw' wl')(u:vw'.ownBlock=vw.ownBlock∨∃k,vw'.ownBlock=some k∧w.heap.size≤k):
 ESt z w0 w' p PW PN rv vw' vn rows wl' nl:=by
 have v:=h.vp.ty;have j:=h.wait.var.ty;have D:=h.next.var.ty
 have x:=fun k hk=>(ia h.row (k:=k) hk).1
 have l:=fun k hk=>(ia h.wait.own (k:=k) hk)
 have y:=fun k hk=>(ia h.next.own (k:=k) hk)
 refine⟨h.vp.keep hk ?_,iE h.row hk ?_,A,h.next.keep hk ?_ ?_,h.Qa,?_,h.QZ,h.Qd,h.Qe,?_,h.Qo,h.below.trans (hk.below C ?_)⟩
 ·rintro(e|e)
  ·subst e;rw[v]at j;simp at j
  ·have:=(l _ e).1;rw[v]at this;simp at this
 ·rintro k d (e|e)
  ·subst e;have:=x _ d;rw[j]at this;simp at this
  ·have:=x _ d;have r:=(l _ e).1;rw[this]at r;simp at r
 ·rintro(e|e)
  ·exact h.Qa e.symm
  ·have:=(l _ e).1;rw[D]at this;simp at this
 ·rintro k d (e|e)
  ·subst e;have:=(y _ d).1;rw[j]at this;simp at this
  ·exact h.ne k e d
 ·intro k d g
  rcases u with e|⟨q,e,B⟩
  ·rw[e]at d;exact h.ne k d g
  ·rw[e]at d
   have:=(y k g).2.2
   injection d with h;omega
 ·intro k d
  rcases u with e|⟨q,e,B⟩
  ·rw[e]at d;exact h.Qn k d
  ·rw[e]at d;injection d with d;omega
 ·rintro i E (e|e)
  ·have:=h.Qd;omega
  ·have:=h.Qn i e;omega
theorem onRow(h:ESt z w0 w p PW PN rv vw vn rows wl nl)(y:z≤w.heap.size)(hk:aD (fun k=>k=p∨rv.ownBlock=some k) w w')(hv:Var w' p 216 rv')(x:w'.ownsRow (p+1) 256 3 rv' rows'.length (ab rows')):
 ESt z w0 w' p PW PN rv' vw vn rows' wl nl:=by
 have l:=h.vp.ty;have q:=h.wait.var.ty;have r:=h.next.var.ty
 have j:=fun k hk=>(ia h.row (k:=k) hk)
 have u:=fun k hk=>(ia h.wait.own (k:=k) hk)
 have v:=fun k hk=>(ia h.next.own (k:=k) hk)
 refine⟨hv,x,h.wait.keep hk ?_ ?_,h.next.keep hk ?_ ?_,h.Qa,h.ne,h.QZ,h.Qd,h.Qe,h.Qn,h.Qo,h.below.trans (hk.below y ?_)⟩
 ·rintro(e|e)
  ·subst e;rw[l]at q;simp at q
  ·have:=(j _ e).1;rw[q]at this;simp at this
 ·rintro k d (e|e)
  ·subst e;have:=(u _ d).1;rw[l]at this;simp at this
  ·have:=(u _ d).1;have g:=(j _ e).1;rw[this]at g;simp at g
 ·rintro(e|e)
  ·subst e;rw[l]at r;simp at r
  ·have:=(j _ e).1;rw[r]at this;simp at this
 ·rintro k d (e|e)
  ·subst e;have:=(v _ d).1;rw[l]at this;simp at this
  ·have:=(v _ d).1;have g:=(j _ e).1;rw[this]at g;simp at g
 ·rintro i A (e|e)
  ·have:=h.QZ;omega
  ·have:=(j _ e).2.1;have:=h.QZ;omega
theorem alloc(h:ESt z w0 w p PW PN rv vw vn rows wl nl)(d:z≤w.heap.size)(o:Obj):ESt z w0 (w.alloc o) p PW PN rv vw vn rows wl nl:=by
 have hk:Kz w (w.alloc o):=(aD.refl _ _).alloc _;exact⟨h.vp.keep hk ξ,iE h.row hk ξ,h.wait.keep hk ξ ξ,h.next.keep hk ξ ξ,h.Qa,h.ne,h.QZ,h.Qd,h.Qe,h.Qn,h.Qo,h.below.alloc d _⟩
theorem keepN(h:ESt z w0 w p PW PN rv vw vn rows wl nl)(d:z≤w.heap.size)(hk:Kz w w'):ESt z w0 w' p PW PN rv vw vn rows wl nl:=
 ⟨h.vp.keep hk ξ,iE h.row hk ξ,h.wait.keep hk ξ ξ,h.next.keep hk ξ ξ,h.Qa,h.ne,h.QZ,h.Qd,h.Qe,h.Qn,h.Qo,h.below.trans (hk.below d ξ)⟩
theorem size(h:ESt z w0 w p PW PN rv vw vn rows wl nl):z≤w.heap.size:=by have:=h.vp.lt;have:=h.QZ;omega
end ESt
theorem az.set_cell{w:World}{P g n c:Nat}{l:List Job}{r r':Job}(h:az w P (.slice (some ⟨g,0,none⟩) n c) l)(A:l[0]?=some r)(p:n=l.length){i:Nat}{d:Int}
 (y:(i=1∧r'=⟨r.need,d,r.left⟩)∨(i=2∧r'=⟨r.need,r.due,d⟩)):
 az (w.setCell ⟨g,i,none⟩ (.int .i64 d)) P (.slice (some ⟨g,0,none⟩) n c) (l.set 0 r')∧aD (fun k=>k=g) w (w.setCell ⟨g,i,none⟩ (.int .i64 d)):=by
 have hk:aD (fun k=>k=g) w (w.setCell ⟨g,i,none⟩ (.int .i64 d)):=(aD.refl (fun k=>k=g) w).setCell (fun _=>rfl) _;have j:¬ P=g:=by have:=h.ne;simp[Value.ownBlock]at this;exact fun e=>this e.symm
 refine⟨⟨h.var.keep hk j,?_⟩,hk⟩;have q:=h.own;rw[←p]at q;have u:=(q.stored i (.int .i64 d)).1;obtain⟨B,v,x⟩:=Edf.set_root (r':=r') A;rw[List.length_set,←p,x];rw[v]at u
 rcases y with⟨rfl,rfl⟩|⟨rfl,rfl⟩<;>simpa[ay,Job.cells]using u
theorem ESt.start(w:World)(p PW PN u r:Nat)(j:World)(K:p=w.heap.size)(A:u=p+1)(x:PW=p+2)(y:r=p+3)(v:PN=p+4)
 (d:j=(((((w.alloc (Obj.cells #[Value.slice none 0 0] 216)).alloc (Obj.cells #[] 250)).alloc (Obj.cells #[Value.slice (some ⟨u,0,none⟩) 0 0] 247)).alloc (Obj.cells #[] 250)).alloc (Obj.cells #[Value.slice (some ⟨r,0,none⟩) 0 0] 247))):
 ESt w.heap.size w j p PW PN (.slice none 0 0) (.slice (some ⟨u,0,none⟩) 0 0) (.slice (some ⟨r,0,none⟩) 0 0) [] [] []:=by
 subst K A x y v;have l:∀(w:World) (o:Obj),(w.alloc o).heap[w.heap.size]?=some o:=fun w o=>heap_alloc_new w o
 have keep:∀{w:World} {k:Nat} {o:Obj} (B:Obj),w.heap[k]?=some o→(w.alloc B).heap[k]?=some o:=fun{w k o} B h=>by
  have hk:=(Array.getElem?_eq_some_iff.1 h).1;rw[Below.heap_alloc w B k hk];exact h
 have q:∀(w:World) (o:Obj),(w.alloc o).heap.size=w.heap.size+1:=fun w o=>ξ
 have D:j.heap[w.heap.size]?=some (Obj.cells #[Value.slice none 0 0] 216):=by subst d;exact keep _ (keep _ (keep _ (keep _ (l _ _))))
 have E:j.heap[w.heap.size+1]?=some (Obj.cells #[] 250):=by
  subst d;refine keep _ (keep _ (keep _ ?_));have:=l (w.alloc (Obj.cells #[Value.slice none 0 0] 216)) (Obj.cells #[] 250);rwa[q]at this
 have H:j.heap[w.heap.size+2]?=some (Obj.cells #[Value.slice (some ⟨w.heap.size+1,0,none⟩) 0 0] 247):=by
  subst d;refine keep _ (keep _ ?_);have:=l ((w.alloc (Obj.cells #[Value.slice none 0 0] 216)).alloc (Obj.cells #[] 250)) (Obj.cells #[Value.slice (some ⟨w.heap.size+1,0,none⟩) 0 0] 247);simpa only[q]using this
 have e3:j.heap[w.heap.size+3]?=some (Obj.cells #[] 250):=by
  subst d;refine keep _ ?_;have:=l (((w.alloc (Obj.cells #[Value.slice none 0 0] 216)).alloc (Obj.cells #[] 250)).alloc (Obj.cells #[Value.slice (some ⟨w.heap.size+1,0,none⟩) 0 0] 247)) (Obj.cells #[] 250);simpa only[q]using this
 have e4:j.heap[w.heap.size+4]?=some (Obj.cells #[Value.slice (some ⟨w.heap.size+3,0,none⟩) 0 0] 247):=by
  subst d;have:=l ((((w.alloc (Obj.cells #[Value.slice none 0 0] 216)).alloc (Obj.cells #[] 250)).alloc (Obj.cells #[Value.slice (some ⟨w.heap.size+1,0,none⟩) 0 0] 247)).alloc (Obj.cells #[] 250)) (Obj.cells #[Value.slice (some ⟨w.heap.size+3,0,none⟩) 0 0] 247);simpa only[q]using this
 have I:Below w.heap.size w j:=by
  subst d;refine((((((Below.refl _ _).alloc ?_ _).alloc ?_ _).alloc ?_ _).alloc ?_ _).alloc ?_ _)<;>simp<;>omega
 have C:∀g,j.heap[g]?=some (Obj.cells #[] 250)→j.ownsRow 0 250 3 (.slice (some ⟨g,0,none⟩) 0 0) 0 (ay []):=fun g J =>
  ⟨rfl,.inr ⟨g,0, #[],rfl,χ,J,χ,χ,rfl,rfl⟩⟩
 refine⟨D,World.ownsRow_nil _ _ _ _,⟨H,C _ E⟩,⟨e4,C _ e3⟩,χ,?_,χ,χ,χ,?_,?_,I⟩
 ·intro k hk h;simp[Value.ownBlock]at hk h;omega
 ·intro k hk;simp[Value.ownBlock]at hk;omega
 ·intro k hk;simp[Value.ownBlock]at hk;omega
theorem az.slice{w:World}{P:Nat}{v:Value}{l:List Job}(h:az w P v l):∃A c,v=.slice A l.length c:=by
 rcases h.own.2 with⟨h,p⟩|⟨g,d,j,h,_⟩
 ·exact⟨none,0,by rw[h,p]⟩
 ·exact⟨_,_,h⟩
theorem az.root{w:World}{P g n c:Nat}{l:List Job}{r:Job}(h:az w P (.slice (some ⟨g,0,none⟩) n c) l)(j:l.length=n)(p:l[0]?=some r):
 w.cell? ⟨g,0,none⟩=some (.int .i64 r.need)∧w.cell? ⟨g,1,none⟩=some (.int .i64 r.due)∧w.cell? ⟨g,2,none⟩=some (.int .i64 r.left):=by
 have d:=h.own;rw[j]at d;have:=gA d p
 simpa using this
theorem lD{w:World}{base d:Nat}{e:TypeId}{size:Nat}{v:Value}{n:Nat}{xs:List Value}(h:w.ownsRow base e size v n xs)(u:d≤base):w.ownsRow d e size v n xs:=by
 refine⟨h.1,?_⟩
 rcases h.2 with p|⟨g,j,l,p,q,r⟩
 ·exact .inl p
 ·exact .inr ⟨g,j,l,p,Nat.le_trans u q,r⟩
