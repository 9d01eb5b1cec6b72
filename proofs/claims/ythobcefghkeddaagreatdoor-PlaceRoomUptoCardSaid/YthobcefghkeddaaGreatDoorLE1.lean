import Derived.Test.YthobcefghkeddaaGreatDoorLH2
import Derived.Deep.RegionLaw
set_option maxRecDepth 100000
set_option linter.all false
set_option maxHeartbeats 4000000
namespace Go.Proofs.YthobcefghkeddaaGreatDoor
open Go.RowKit Go.IntWalk
variable {w:World} {P:Nat} {v:Value} {l:List Job}
def Job.val(s:Job):Value := .agg #[.int .i64 s.need,.int .i64 s.due,.int .i64 s.left]
structure am (w:World) (P:Nat) (v:Value) (l:List Job):Prop where
 var:Var w P 269 v
 own:w.ownsRow 0 272 3 v l.length (aj l)
theorem Ab{a b c:Int}:∀u∈[Value.int .i64 a,.int .i64 b,.int .i64 c],u.oneCell'=true:=by
 intro u d;simp at d;rcases d with rfl|rfl|rfl<;>rfl
theorem am.ne(h:am w P v l):¬ v.ownBlock=some P:=by
 rcases h.own.2 with⟨rfl,_⟩|⟨g,d,j,rfl,_,hh,_⟩
 ·simp[Value.ownBlock]
 ·intro q
  have:g=P:=by simpa[Value.ownBlock]using q
  subst this;have:=h.var;unfold Var at this;rw[hh]at this;simp at this
theorem vr(x:Value)(w:World):(Instr.typeAssert (.iface 272 x) 20 272 false).run Tryz.prog w=.ok x w:=δ
theorem xo(w:World)(P:Nat)(v:Value)(l:List Job)(x:Job)(hn:l.length≤1000000000)(h:am w P v l):
 Calls Tryz.prog 270 #[.pointer (some ⟨P,0,none⟩),.iface 272 x.val] w fun e w'=>e=.returned (.tuple #[])∧∃X,am w' P X (l++[x])∧aD (fun k=>k=P∨v.ownBlock=some k) w w'∧(X.ownBlock=v.ownBlock∨∃k,X.ownBlock=some k∧w.heap.size≤k):=by
 have hc:=h.var.cell;have hf:=h.var.frozen;have al:=h.var.lt;have J:=h.own;have D:=h.ne;have K:=h.var;obtain⟨i0,hi,U,V,W⟩:=info_parts Tryz.info272;have an:=vr;unfold Job.val
 go_enter Tryz.func270,Tryz.ntmps270
 go_wp2
 have E:(w.alloc (.cells #[.int .i64 x.need,.int .i64 x.due,.int .i64 x.left] 272)).drew.ownsRow 0 272 3 v l.length (aj l):=(J.alloc _).drew;have B:∀j u,[Value.int .i64 x.need,.int .i64 x.due,.int .i64 x.left][j]?=some u→(w.alloc (.cells #[.int .i64 x.need,.int .i64 x.due,.int .i64 x.left] 272)).drew.cell? ((⟨w.heap.size,0,none⟩:Addr).add j)=some u:=World.news_of_block (cs := #[.int .i64 x.need,.int .i64 x.due,.int .i64 x.left]) (heap_alloc_new w _);have HN:=ν B;clear B
 go_region_law ((refine step_append_lies ((w.alloc (.cells #[.int .i64 x.need,.int .i64 x.due,.int .i64 x.left] 272)).drew) rfl (.tmp 7) (.tmp 10) 269 rfl 0 272 i0 (.agg #[.int .i64 0,.int .i64 0,.int .i64 0]) 3 24 Tryz.underlying269 hi U V W rfl χ v l.length (aj l) rfl E ⟨w.heap.size,0,none⟩ 1 1 [.int .i64 x.need,.int .i64 x.due,.int .i64 x.left] rfl rfl HN.out Ab χ (by unfold maxLen;omega) χ χ (w.heap.size+1) ξ ?_;intro g N L d y O Z;have I:aD (fun k=>v.ownBlock=some k) w L:=((aD.refl _ w).alloc _).drew.trans (aD.of_grown (S:=fun k=>v.ownBlock=some k) y (fun k h=>h)) (fun _ _ h=>h);have q:=K.keep I D;have ad:=q.cell;have af:=q.frozen))
 all_goals
  have R:am L P v l∨True := .inr trivial;have Q:¬ g=P:=by
   intro he;subst he
   rcases d.2 with⟨h,_⟩|⟨g',Y,ac,h,_,h2,_⟩
   ·simp at h
   ·simp only[Value.slice.injEq,Option.some.injEq,Addr.mk.injEq,and_true,true_and]at h
    obtain⟨rfl,rfl⟩:=h;unfold Var at q;rw[h2]at q;simp at q
  have C:∀u,(L.setCell ⟨P,0,none⟩ u).ownsRow 0 272 3 (.slice (some ⟨g,0,none⟩) (l.length+1) N) (l.length+1) (aj l++[.int .i64 x.need,.int .i64 x.due,.int .i64 x.left]):=fun u =>
   d.kept (row:=some P) ⟨rfl,rfl,rfl,by simp[World.setCell],fun k hk D=>Below.heap_setCell L _ u k (by intro e;exact D (by rw[e]))⟩ (.inr (by simp[Value.ownBlock];exact Q))
  have H:=ν C;clear C d y R
  go_wp2
  go_end0
  refine⟨rfl,_,⟨q.set_ _,?_⟩,(I.mono fun i _ h =>.inr h).setCell (fun _ =>.inl rfl) _,?_⟩
  ·rw[jC,List.length_append]
   exact H.out _
  ·rcases O with h|h
   ·exact .inl (by rw[h];rfl)
   ·exact .inr ⟨g,rfl,χ⟩
theorem zu(w:World)(P:Nat)(v:Value)(l:List Job)(x:Job)(hn:l.length≤1000000000)(h:am w P v (l++[x])):
 Calls Tryz.prog 269 #[.pointer (some ⟨P,0,none⟩)] w fun e w'=>e=.returned (.iface 272 x.val)∧∃Z,am w' P Z l∧aD (fun k=>k=P) w w'∧Z.ownBlock=v.ownBlock:=by
 have X:=h.var.cell;have hf:=h.var.frozen;have U:=h.var.lt;have d:=h.own;have J:=h.ne;have y:=h.var;obtain⟨g,j,hv,_,hg⟩:=d.form ξ;subst hv;obtain⟨q0,q1,q2⟩:=fS d (i:=l.length) (a:=x) ξ;rw[List.length_append,List.length_singleton]at d X y J;have R:¬ g=P:=by simpa[Value.ownBlock]using J
 obtain⟨n,q⟩:∃n,n=l.length:=⟨_,rfl⟩;rw[←q]at d X y q0 q1 q2 hn;have Y:n+1≤j:=by
  rcases d.2 with⟨h,_⟩|⟨g',E,H,h,_,_,V,_⟩
  ·simp at h
  ·simp only[Value.slice.injEq]at h
   obtain⟨_,_,rfl⟩:=h;exact V
 have Q:(n:Int)≤(j:Int):=χ
 have B:w.ownsRow 0 272 3 (.slice (some ⟨g,0,none⟩) n j) n (aj l):=by
  rcases d.2 with⟨h,_⟩|⟨g',E,H,h,hb,h2,V,h4,h5,h6⟩
  ·simp at h
  ·simp only[Value.slice.injEq,Option.some.injEq,Addr.mk.injEq,and_true,true_and]at h
   obtain⟨rfl,rfl⟩:=h;refine⟨by rw[jB,q],.inr ⟨g,j,H,rfl,hb,h2,χ,h4,h5,?_⟩⟩;have W:=congrArg (List.take (n*3)) h6;rw[List.take_take,Nat.min_eq_left χ]at W;rw[W,jC,List.take_left' (by rw[jB,q])]
 have O:=ν q;clear d q h;unfold Job.val;have C:=fun u=>(ownsRow_setCell_other B (a:=⟨P,0,none⟩) (by simp[Value.ownBlock];exact R) u).alloc (.cells #[.int .i64 x.need,.int .i64 x.due,.int .i64 x.left] 272)
 have K:∀u,Var ((w.setCell ⟨P,0,none⟩ u).alloc (.cells #[.int .i64 x.need,.int .i64 x.due,.int .i64 x.left] 272)) P 269 u:=fun u=>(Below.heap_alloc _ _ P (by simpa[World.setCell]using U)).trans (Var.set_ y u)
 have I:∀u,aD (fun k=>k=P) w ((w.setCell ⟨P,0,none⟩ u).alloc (.cells #[.int .i64 x.need,.int .i64 x.due,.int .i64 x.left] 272)):=fun u=>((aD.refl (fun k=>k=P) w).setCell (fun _=>rfl) u).alloc _
 have D:=ν C;have N:=ν K;have L:=ν I;clear C K B I
 go_enter Tryz.func269,Tryz.ntmps269
 go_wp2
 go_ret
 refine⟨rfl,.slice (some ⟨g,0,none⟩) n j,⟨N.out _,?_⟩,L.out _,rfl⟩;rw[←O.out];exact D.out _
theorem am.drewN(h:am w P v l)(n:Nat):am (w.drewN n) P v l:=
 ⟨h.var.keep ((aD.refl (fun _=>False) w).drewN n) ξ,h.own⟩
theorem am.form(h:am w P v l)(u:0<l.length):∃g c,v=.slice (some ⟨g,0,none⟩) l.length c∧v.ownBlock=some g∧g<w.heap.size:=by
 obtain⟨g,d,j,_,q⟩:=h.own.form u;exact⟨g,d,j,by rw[j];rfl,q⟩
theorem qx(w:World)(P:Nat)(v:Value)(l:List Job)(j:Nat)(hn:l.length≤1000000000)(hj:j<l.length)(h:am w P v l)(h1:Ln.iv l l.length j)(h2:Ln.wE l l.length j):
 Calls Tryz.prog 178 #[.iface 267 (.pointer (some ⟨P,0,none⟩)),.int .i64 j] w fun e w'=>e=.returned (.tuple #[])∧∃l',l'.Perm l∧Ln.bE l' l'.length∧am w' P v l'∧aD (fun k=>v.ownBlock=some k) w w':=by
 obtain⟨g,c,hv,hob,hg⟩:=h.form χ;have hne:=h.ne;obtain⟨N,hN⟩:∃N,N=l.length:=⟨_,rfl⟩;rw[←hN]at hv hn hj h1 h2;subst hv;have HNE:=ν hne;have H1:=ν h1;have H2:=ν h2;have HN:=ν hN;have HH:=ν h;have HOB:=ν hob;clear hne h1 h2 hN h hob
 go_enter Tryz.func178,Tryz.ntmps178
 go_wp2
 go_loopw [1] (fun x wr=>∃(k:Nat) (m:List Job),k<N∧x=.int .i64 k∧Hid (m.Perm l)∧Hid (m.length=N)∧Hid (Ln.iv m N k)∧Hid (Ln.wE m N k)∧am wr P (.slice (some ⟨g,0,none⟩) N c) m∧Hid (aD (fun k=>(Value.slice (some ⟨g,0,none⟩) N c).ownBlock=some k) w wr)) (fun x _=>(intOf x).toNat)
 case atStart=>exact⟨j,l,hj,rfl,List.Perm.refl _,HN.out.symm,H1.out,H2.out,HH.out,aD.refl _ _⟩
 case round =>
  obtain⟨k,m,hk,rfl,HP,HL,HB,HO,hat,HK⟩:=hrel;have hc:=hat.var.cell;have e1:=vJ hc;have e2:=jV hc;have HAT:=ν hat
  clear hc hat
  by_cases hk0:k=0
  ·subst hk0
   go_wp2
   go_end0
   exact⟨rfl,m,HP.out,by rw[HL.out];exact Ln.wK HB.out (.inl rfl),HAT.out,HK.out⟩
  ·obtain⟨p,hp⟩:∃p,p=(k-1) / 2:=⟨_,rfl⟩
   have hpk:p<k:=χ
   have hpi:((k:Int)-1) / 2=(p:Int):=χ
   obtain⟨a,ha⟩:∃a,m[p]?=some a:=⟨_,θ (by rw[HL.out];omega)⟩;obtain⟨b,hb⟩:∃b,m[k]?=some b:=⟨_,θ (by rw[HL.out];omega)⟩;have HPP:=ν hp;have HA:=ν ha;have HBB:=ν hb;clear hp ha hb;have hown:=HAT.out.own;rw[HL.out]at hown;have HOwn:=ν hown;clear hown
   go_wp2_with fail
   refine(fw wr g N c k p b a m HL.out HBB.out HA.out HOwn.out).mono ?_;rintro e w1 ⟨rfl,nd,rfl⟩;have hat1:=HAT.out.drewN nd;have hc1:=hat1.var.cell;have e2:=jV hc1;have HAT1:=ν hat1;clear hc1 hat1
   by_cases hlt:Ln.jlt b a
   ·have hd:decide (Ln.jlt b a)=true:=decide_eq_true hlt
    rw[hd];have HLT:=ν hlt;clear hd hlt;have hown1:=HAT1.out.own;rw[HL.out]at hown1;have HOwn1:=ν hown1;clear hown1
    go_wp2_with fail
    refine(jJ (wr.drewN nd) g N c p k a b m HL.out HA.out HBB.out HOwn1.out).mono ?_;rintro e w2 ⟨rfl,hown2,hk2⟩;have hstep:=Ln.BX χ hk (by rw[HL.out];exact Γ _) HB.out HO.out (by rw[←HPP.out];exact HA.out) HBB.out HLT.out;rw[←HPP.out]at hstep;have HS:=ν hstep;have hlen:(Ln.bn m p k a b).length=N:=by rw[Ln.dF,HL.out]
    have hvar2:=HAT1.out.var.keep hk2 (by have:=HNE.out;simp[Value.ownBlock]at this;exact fun e=>this e.symm);clear hstep
    go_wp2
    go_roundw
    case rel=>exact⟨p,Ln.bn m p k a b,χ,rfl,(Ln.eC HA.out HBB.out).trans HP.out,hlen,HS.out.1,HS.out.2,⟨hvar2,by rw[hlen];exact hown2⟩,(HK.out.drewN nd).trans hk2 (fun i _ hi=>by rw[hi];rfl)⟩
    case measure=>simp[intOf];omega
   ·have hd:decide (Ln.jlt b a)=false:=decide_eq_false hlt
    rw[hd]
    go_wp2
    go_end0
    exact⟨rfl,m,HP.out,by rw[HL.out];exact Ln.wK HB.out (.inr ⟨a,b,by rw[←HPP.out];exact HA.out,HBB.out,hlt⟩),HAT1.out,HK.out.drewN nd⟩
theorem wX{m:List Job}{n k j1:Nat}{b1:Job}(g:m[j1]?=some b1)(h:j1=2*k+1)(j:¬ j1+1<n):∀q x,0<q→q<n→(q-1) / 2=k→m[q]?=some x→¬ Ln.jlt x b1:=by
 intro q x l u v d;obtain rfl:q=j1:=χ
 rw[g]at d;injection d with d;subst d;exact Ln.eW _
theorem nV{m:List Job}{n k j1 j2:Nat}{b b1 b2:Job}(g:m[j1]?=some b1)(h:m[j2]?=some b2)(l:j1=2*k+1)(j:j2=j1+1)(l1:¬ Ln.jlt b1 b)(l2:¬ Ln.jlt b2 b):∀q x,0<q→q<n→(q-1) / 2=k→m[q]?=some x→¬ Ln.jlt x b:=by
 intro q x u v w d
 rcases(by omega:q=j1∨q=j2)with rfl|rfl
 ·rw[g]at d;injection d with d;subst d;exact l1
 ·rw[h]at d;injection d with d;subst d;exact l2
theorem tm(w:World)(P:Nat)(g c N:Nat)(l:List Job)(j n:Nat)(hN:l.length=N)(hN2:N≤1000000000)(hn:n≤N)(hj:j=0∨j<n)(h:am w P (.slice (some ⟨g,0,none⟩) N c) l)(h1:Ln.dz l n j):
 Calls Tryz.prog 179 #[.iface 267 (.pointer (some ⟨P,0,none⟩)),.int .i64 j,.int .i64 n] w fun e w'=>∃b l',e=.returned (.bool b)∧l'.Perm l∧Ln.bE l' n∧(∀q,n≤q→l'[q]?=l[q]?)∧am w' P (.slice (some ⟨g,0,none⟩) N c) l'∧aD (fun k=>k=g) w w':=by
 have hne:=h.ne;have HNE:=ν hne;have H1:=ν h1;have HN:=ν hN;have HH:=ν h;clear hne h1 hN h
 go_enter Tryz.func179,Tryz.ntmps179
 go_wp2
 go_loopw [7] (fun x wr=>∃(k:Nat) (m:List Job),(k=j∨k<n)∧x=.int .i64 k∧Hid (m.Perm l)∧Hid (m.length=N)∧Hid (Ln.dz m n k)∧Hid (∀q,n≤q→m[q]?=l[q]?)∧am wr P (.slice (some ⟨g,0,none⟩) N c) m∧Hid (aD (fun k=>k=g) w wr)) (fun x _=>N+j-(intOf x).toNat)
 case atStart=>exact⟨j,l,.inl rfl,rfl,List.Perm.refl _,HN.out,H1.out,ν (fun _ _=>rfl),HH.out,aD.refl _ _⟩
 case round =>
  obtain⟨k,m,hk,rfl,HP,HL,HU,HF,hat,HK⟩:=hrel;have hc:=hat.var.cell;have e1:=vJ hc;have e2:=jV hc;have HAT:=ν hat
  clear hc hat
  obtain⟨j1,hj1⟩:∃j1,j1=2*k+1:=⟨_,rfl⟩;have hi1:2*(k:Int)+1=(j1:Int):=χ
  have hk1:k<j1:=χ
  have hj1b:j1≤2*N+1:=χ
  have HJ1:=ν hj1
  by_cases hc1:n≤j1
  ·clear hj1
   go_wp2
   go_ret
   refine⟨_,m,rfl,HP.out,fun q x y q0 q1 hx hy=>HU.out.1 q x y q0 q1 (by have:=HJ1.out;omega) hx hy,HF.out,HAT.out,HK.out⟩
  ·obtain⟨a,ha⟩:∃a,m[k]?=some a:=⟨_,θ (by rw[HL.out];omega)⟩
   obtain⟨b1,hb1⟩:∃b,m[j1]?=some b:=⟨_,θ (by rw[HL.out];omega)⟩;have HA:=ν ha;have HB1:=ν hb1;obtain⟨j2,hj2⟩:∃j2,j2=j1+1:=⟨_,rfl⟩;have hi2:(j1:Int)+1=(j2:Int):=χ
   have HJ2:=ν hj2;clear ha hb1
   by_cases hc2:j2<n
   ·obtain⟨b2,hb2⟩:∃b,m[j2]?=some b:=⟨_,θ (by rw[HL.out];omega)⟩
    have HB2:=ν hb2;have hown:=HAT.out.own;rw[HL.out]at hown;have HOwn:=ν hown;clear hown hb2 hj1 hj2
    go_wp2_with fail
    refine(fw wr g N c j2 j1 b2 b1 m HL.out HB2.out HB1.out HOwn.out).mono ?_;rintro e w1 ⟨rfl,nd,hw1⟩;have hat1:am w1 P (.slice (some ⟨g,0,none⟩) N c) m:=by rw[hw1];exact HAT.out.drewN nd
    have HK1:Hid (aD (fun k=>k=g) w w1):=by rw[hw1];exact HK.out.drewN nd
    clear hw1;have hc3:=hat1.var.cell;have e3:=jV hc3;have e4:=vJ hc3;have HAT1:=ν hat1;have hj1:=HJ1.out;have hj2:=HJ2.out;clear hc3 hat1
    by_cases hlt2:Ln.jlt b2 b1
    ·have hd2:decide (Ln.jlt b2 b1)=true:=decide_eq_true hlt2
     rw[hd2];have HN2:=ν hlt2;clear hd2 hlt2 hj1 hj2;have hown1:=HAT1.out.own;rw[HL.out]at hown1;have HOwn1:=ν hown1;clear hown1
     go_wp2_with fail
     refine(fw w1 g N c j2 k b2 a m HL.out HB2.out HA.out HOwn1.out).mono ?_;rintro e w9 ⟨rfl,nd2,hw9⟩;have hat9:am w9 P (.slice (some ⟨g,0,none⟩) N c) m:=by rw[hw9];exact HAT1.out.drewN nd2
     have HK9:Hid (aD (fun k=>k=g) w w9):=by rw[hw9];exact HK1.out.drewN nd2
     clear hw9;have hc9:=hat9.var.cell;have e9:=jV hc9;have HAT9:=ν hat9;clear hc9 hat9
     by_cases hlt:Ln.jlt b2 a
     ·have hd:decide (Ln.jlt b2 a)=true:=decide_eq_true hlt
      rw[hd];have hstep:=Ln.mV (j:=j2) (i:=k) (by have:=HJ1.out;have:=HJ2.out;omega) χ χ (by rw[HL.out];omega) HU.out HA.out HB2.out (nV HB1.out HB2.out HJ1.out HJ2.out (Ln.jt HN2.out) (Ln.eW _)) hlt;have HS:=ν hstep;have hown9:=HAT9.out.own;rw[HL.out]at hown9;have HOwn9:=ν hown9;clear hown9 hd hlt hstep
      go_wp2_with fail
      refine(jJ w9 g N c k j2 a b2 m HL.out HA.out HB2.out HOwn9.out).mono ?_;rintro e w2 ⟨rfl,hown2,hk2⟩;have hlen:(Ln.bn m k j2 a b2).length=N:=by rw[Ln.dF,HL.out]
      have hvar2:=HAT9.out.var.keep hk2 (by have:=HNE.out;simp[Value.ownBlock]at this;exact fun e=>this e.symm)
      go_wp2
      go_roundw
      case rel=>exact⟨j2,Ln.bn m k j2 a b2,.inr χ,rfl,(Ln.eC HA.out HB2.out).trans HP.out,hlen,HS.out,ν (fun q hq=>by rw[Ln.dG HA.out HB2.out,if_neg (by have:=HJ1.out;have:=HJ2.out;omega),if_neg (by have:=HJ1.out;have:=HJ2.out;omega)];exact HF.out q hq),⟨hvar2,by rw[hlen];exact hown2⟩,HK9.out.trans hk2 (fun i _ hi=>hi)⟩
      case measure=>simp[intOf];omega
     ·have hd:decide (Ln.jlt b2 a)=false:=decide_eq_false hlt
      rw[hd];have HNL:=ν hlt;clear hd hlt
      go_wp2
      go_ret
      exact⟨_,m,rfl,HP.out,Ln.mW HU.out HA.out (fun q x q0 q1 q2 hx=>Ln.i9 HNL.out ((nV HB1.out HB2.out HJ1.out HJ2.out (Ln.jt HN2.out) (Ln.eW _)) q x q0 q1 q2 hx)),HF.out,HAT9.out,HK9.out⟩
    ·have hd2:decide (Ln.jlt b2 b1)=false:=decide_eq_false hlt2
     rw[hd2];have HN2:=ν hlt2;clear hd2 hlt2 hj1 hj2;have hown1:=HAT1.out.own;rw[HL.out]at hown1;have HOwn1:=ν hown1;clear hown1
     go_wp2_with fail
     refine(fw w1 g N c j1 k b1 a m HL.out HB1.out HA.out HOwn1.out).mono ?_;rintro e w9 ⟨rfl,nd2,hw9⟩;have hat9:am w9 P (.slice (some ⟨g,0,none⟩) N c) m:=by rw[hw9];exact HAT1.out.drewN nd2
     have HK9:Hid (aD (fun k=>k=g) w w9):=by rw[hw9];exact HK1.out.drewN nd2
     clear hw9;have hc9:=hat9.var.cell;have e9:=jV hc9;have HAT9:=ν hat9;clear hc9 hat9
     by_cases hlt:Ln.jlt b1 a
     ·have hd:decide (Ln.jlt b1 a)=true:=decide_eq_true hlt
      rw[hd];have hstep:=Ln.mV (j:=j1) (i:=k) (by have:=HJ1.out;have:=HJ2.out;omega) χ χ (by rw[HL.out];omega) HU.out HA.out HB1.out (nV HB1.out HB2.out HJ1.out HJ2.out (Ln.eW _) HN2.out) hlt;have HS:=ν hstep;have hown9:=HAT9.out.own;rw[HL.out]at hown9;have HOwn9:=ν hown9;clear hown9 hd hlt hstep
      go_wp2_with fail
      refine(jJ w9 g N c k j1 a b1 m HL.out HA.out HB1.out HOwn9.out).mono ?_;rintro e w2 ⟨rfl,hown2,hk2⟩;have hlen:(Ln.bn m k j1 a b1).length=N:=by rw[Ln.dF,HL.out]
      have hvar2:=HAT9.out.var.keep hk2 (by have:=HNE.out;simp[Value.ownBlock]at this;exact fun e=>this e.symm)
      go_wp2
      go_roundw
      case rel=>exact⟨j1,Ln.bn m k j1 a b1,.inr χ,rfl,(Ln.eC HA.out HB1.out).trans HP.out,hlen,HS.out,ν (fun q hq=>by rw[Ln.dG HA.out HB1.out,if_neg (by have:=HJ1.out;have:=HJ2.out;omega),if_neg (by have:=HJ1.out;have:=HJ2.out;omega)];exact HF.out q hq),⟨hvar2,by rw[hlen];exact hown2⟩,HK9.out.trans hk2 (fun i _ hi=>hi)⟩
      case measure=>simp[intOf];omega
     ·have hd:decide (Ln.jlt b1 a)=false:=decide_eq_false hlt
      rw[hd];have HNL:=ν hlt;clear hd hlt
      go_wp2
      go_ret
      exact⟨_,m,rfl,HP.out,Ln.mW HU.out HA.out (fun q x q0 q1 q2 hx=>Ln.i9 HNL.out ((nV HB1.out HB2.out HJ1.out HJ2.out (Ln.eW _) HN2.out) q x q0 q1 q2 hx)),HF.out,HAT9.out,HK9.out⟩
   ·clear hj1 hj2
    have HC2:=ν hc2;have hown:=HAT.out.own;rw[HL.out]at hown;have HOwn:=ν hown;clear hown
    go_wp2_with fail
    refine(fw wr g N c j1 k b1 a m HL.out HB1.out HA.out HOwn.out).mono ?_;rintro e w9 ⟨rfl,nd2,hw9⟩;have hat9:am w9 P (.slice (some ⟨g,0,none⟩) N c) m:=by rw[hw9];exact HAT.out.drewN nd2
    have HK9:Hid (aD (fun k=>k=g) w w9):=by rw[hw9];exact HK.out.drewN nd2
    clear hw9;have hc9:=hat9.var.cell;have e9:=jV hc9;have HAT9:=ν hat9;clear hc9 hat9
    by_cases hlt:Ln.jlt b1 a
    ·have hd:decide (Ln.jlt b1 a)=true:=decide_eq_true hlt
     rw[hd];have hstep:=Ln.mV (j:=j1) (i:=k) (by have:=HJ1.out;have:=HJ2.out;omega) χ χ (by rw[HL.out];omega) HU.out HA.out HB1.out (wX HB1.out HJ1.out (by have:=HC2.out;have:=HJ2.out;omega)) hlt;have HS:=ν hstep;have hown9:=HAT9.out.own;rw[HL.out]at hown9;have HOwn9:=ν hown9;clear hown9 hd hlt hstep
     go_wp2_with fail
     refine(jJ w9 g N c k j1 a b1 m HL.out HA.out HB1.out HOwn9.out).mono ?_;rintro e w2 ⟨rfl,hown2,hk2⟩;have hlen:(Ln.bn m k j1 a b1).length=N:=by rw[Ln.dF,HL.out]
     have hvar2:=HAT9.out.var.keep hk2 (by have:=HNE.out;simp[Value.ownBlock]at this;exact fun e=>this e.symm)
     go_wp2
     go_roundw
     case rel=>exact⟨j1,Ln.bn m k j1 a b1,.inr χ,rfl,(Ln.eC HA.out HB1.out).trans HP.out,hlen,HS.out,ν (fun q hq=>by rw[Ln.dG HA.out HB1.out,if_neg (by have:=HJ1.out;have:=HJ2.out;omega),if_neg (by have:=HJ1.out;have:=HJ2.out;omega)];exact HF.out q hq),⟨hvar2,by rw[hlen];exact hown2⟩,HK9.out.trans hk2 (fun i _ hi=>hi)⟩
     case measure=>simp[intOf];omega
    ·have hd:decide (Ln.jlt b1 a)=false:=decide_eq_false hlt
     rw[hd];have HNL:=ν hlt;clear hd hlt
     go_wp2
     go_ret
     exact⟨_,m,rfl,HP.out,Ln.mW HU.out HA.out (fun q x q0 q1 q2 hx=>Ln.i9 HNL.out ((wX HB1.out HJ1.out (by have:=HC2.out;have:=HJ2.out;omega)) q x q0 q1 q2 hx)),HF.out,HAT9.out,HK9.out⟩
namespace Ln
variable {l:List Job} {n:Nat}
theorem bE.but(h:bE l n)(j:Nat):iv l n j:=fun k x y d g _ q u=>h k x y d g q u
theorem bE.push(h:bE l l.length)(x:Job):iv (l++[x]) (l++[x]).length l.length:=fun k a b j q u d g=>by
 simp only[List.length_append,List.length_singleton]at q;rw[List.getElem?_append_left χ]at d;rw[List.getElem?_append_left χ]at g;exact h k a b j χ d g
theorem y9(l:List Job)(x:Job):wE (l++[x]) (l++[x]).length l.length:=fun k a b g d h _ _ _=>by
 simp only[List.length_append,List.length_singleton]at d;omega
theorem qa(l:List Job)(n:Nat):wE l n 0:=fun k a b _ _ _ h _ _=>χ
theorem bE.under_swap{a b:Job}(h:bE l (n+1))(d:l[0]?=some a)(g:l[n]?=some b):dz (bn l 0 n a b) n 0:=by
 refine⟨fun k x y u v w j q=>?_,qa _ _⟩;rw[dG d g,if_neg χ,if_neg χ]at j;rw[dG d g,if_neg χ,if_neg χ]at q;exact h k x y u χ j q
theorem bE.take(h:bE l n)(u:n≤l.length):bE (l.take n) (l.take n).length:=fun k x y q d g j=>by
 rw[List.length_take,Nat.min_eq_left u]at d;rw[List.getElem?_take_of_lt d]at g;rw[List.getElem?_take_of_lt χ]at j;exact h k x y q d g j
theorem xU{a:Job}(h:l.length=n+1)(g:l[n]?=some a):l=l.take n++[a]:=by
 obtain⟨j,d⟩:=ο.1 g;rw[←d,List.take_append_getElem];rw[←h,List.take_length]
end Ln
theorem sO(w:World)(P:Nat)(v:Value)(l:List Job)(x:Job)(hn:l.length≤900000000)(h:am w P v l)(U:Ln.bE l l.length):
 Calls Tryz.prog 155 #[.iface 267 (.pointer (some ⟨P,0,none⟩)),.iface 272 x.val] w fun e w'=>e=.returned (.tuple #[])∧∃O B,B.Perm (l++[x])∧Ln.bE B B.length∧am w' P O B∧aD (fun k=>k=P∨v.ownBlock=some k) w w'∧(O.ownBlock=v.ownBlock∨∃k,O.ownBlock=some k∧w.heap.size≤k):=by
 have e0:=DP;have Z:=ν h;have Y:=ν U;obtain⟨X,K⟩:∃X,X=x.val:=⟨_,rfl⟩;have HX:=ν K;rw[←K];clear h U K
 go_enter Tryz.func155,Tryz.ntmps155
 go_wp2_with fail
 rw[HX.out];refine(xo w P v l x χ Z.out).mono ?_;rintro e W ⟨rfl,v1,d,L,E⟩;have V:=d.var.cell;have e1:=AO V;obtain⟨m,H⟩:∃m,m=l++[x]:=⟨_,rfl⟩;have q:m.length=l.length+1:=by rw[H];simp
 have j:=Ln.bE.push Y.out x;have y:=Ln.y9 l x;rw[←H]at d j y;obtain⟨g,c,hv,an,hg⟩:=d.form χ;subst hv;have J:=ν d;have Q:=ν j;have R:=ν y;have HM:=ν H;obtain⟨n,u⟩:∃n,n=l.length:=⟨_,rfl⟩;rw[←u]at q hn Q R;have af:(m.length:Int)-1=n:=χ
 have ac:=ν q;have al:m.length≤900000001:=χ
 have D:n<m.length:=χ
 have ad:=ν u;clear V d j y H q u
 go_wp2_with fail
 refine(em W (some ⟨g,0,none⟩) m.length c).mono ?_;rintro e w2 ⟨rfl,rfl⟩
 go_wp2_with fail
 refine(qx W P _ m n χ D J.out Q.out R.out).mono ?_;rintro e w2 ⟨rfl,B,hp,hh,C,N⟩
 go_wp2
 go_end0
 refine⟨rfl,_,B,by rw[←HM.out];exact hp,hh,C,L.trans N (fun i hi I=>?_),E⟩
 rcases E with h|⟨k,h,hk⟩
 ·exact .inr (by rw[←h];exact I)
 ·rw[h]at I;injection I with I;omega
theorem CK(w:World)(P g c N:Nat)(l:List Job)(L:l.length=N)(V:0<N)(W:N≤900000000)(h:am w P (.slice (some ⟨g,0,none⟩) N c) l)(K:Ln.dz l N 0):
 Calls Tryz.prog 157 #[.iface 267 (.pointer (some ⟨P,0,none⟩)),.int .i64 0] w fun e w'=>e=.returned (.tuple #[])∧∃d,d.Perm l∧Ln.bE d d.length∧am w' P (.slice (some ⟨g,0,none⟩) N c) d∧aD (fun k=>k=g) w w':=by
 have O:=h.var.cell;have X:=AO O;have y:=ν h;have U:=ν K;have J:=ν L;clear h K L O
 go_enter Tryz.func157,Tryz.ntmps157
 go_wp2_with fail
 refine(em w (some ⟨g,0,none⟩) N c).mono ?_;rintro e R ⟨rfl,rfl⟩
 go_wp2_with fail
 refine(tm w P g c N l 0 N J.out χ (Γ _) (.inl rfl) y.out U.out).mono ?_;rintro e R ⟨b,d,rfl,E,hh,_,q,v⟩;have x:d.length=N:=by rw[E.length_eq,J.out]
 have D:d.length≤1000000000:=χ
 have H:0<d.length:=χ
 have HL':=ν x;have j:=ν q;clear x q
 cases b
 ·go_wp2_with fail
  refine(qx R P _ d 0 D H j.out (by rw[HL'.out];exact hh.but 0) (Ln.qa _ _)).mono ?_;rintro e Y ⟨rfl,l2,I,B,u,C⟩
  go_wp2
  go_end0
  exact⟨rfl,l2,I.trans E,B,u,v.trans C (fun i _ Q=>by simp[Value.ownBlock]at Q;exact Q.symm)⟩
 ·go_wp2
  go_end0
  exact⟨rfl,d,E,by rw[HL'.out];exact hh,j.out,v⟩
theorem Bq(w:World)(P g c N n:Nat)(l:List Job)(a:Job)(hN:l.length=N)(hn:N=n+1)(a2:N≤900000000)(ha:l[0]?=some a)(h:am w P (.slice (some ⟨g,0,none⟩) N c) l)(h1:Ln.bE l N):
 Calls Tryz.prog 158 #[.iface 267 (.pointer (some ⟨P,0,none⟩))] w fun e w'=>e=.returned (.iface 272 a.val)∧∃v' l',(l'++[a]).Perm l∧Ln.bE l' l'.length∧am w' P v' l'∧aD (fun k=>k=P∨k=g) w w'∧v'.ownBlock=some g:=by
 have hc:=h.var.cell;have e1:=AO hc;have e2:=jV hc;have e3:=ES;obtain⟨b,hb⟩:∃b,l[n]?=some b:=⟨_,θ χ⟩;have a0:¬ P=g:=by have:=h.ne;simp[Value.ownBlock]at this;exact fun e=>this e.symm
 have Q:=ν h;have H1:=ν h1;have HN:=ν hN;have HA:=ν ha;have HB:=ν hb;have Hn:=ν hn;have a3:(N:Int)-1=n:=χ
 have a4:n<N:=χ
 clear h h1 hN hc ha hb hn
 go_enter Tryz.func158,Tryz.ntmps158
 go_wp2_with fail
 refine(em w (some ⟨g,0,none⟩) N c).mono ?_;rintro e w2 ⟨rfl,rfl⟩;have u:=Q.out.own;rw[HN.out]at u;have V:=ν u;clear u
 go_wp2_with fail
 refine(jJ w g N c 0 n a b l HN.out HA.out HB.out V.out).mono ?_;rintro e w2 ⟨rfl,v,Z⟩;have q:(Ln.bn l 0 n a b).length=N:=by rw[Ln.dF,HN.out]
 have y:=Q.out.var.keep Z a0;have J:=H1.out;rw[Hn.out]at J;have af:=J.under_swap HA.out HB.out;have C:am w2 P (.slice (some ⟨g,0,none⟩) N c) (Ln.bn l 0 n a b):=⟨y,by rw[q];exact v⟩;have U:=ν q;have R:=ν C;clear q v y C J
 go_wp2_with fail
 refine(tm w2 P g c N _ 0 n U.out χ χ (.inl rfl) R.out af).mono ?_;rintro e w3 ⟨bb,l3,rfl,O,Y,X,D,al⟩;have K:l3.length=n+1:=by rw[O.length_eq,U.out,Hn.out]
 have j:l3[n]?=some a:=by rw[X n (Γ _),Ln.dG HA.out HB.out,if_pos rfl]
 have B:=Ln.xU K j;have ad:(l3.take n).length=n:=by rw[List.length_take,K];omega
 obtain⟨E,L⟩:∃E,E=l3.take n:=⟨_,rfl⟩;rw[←L]at B ad;have x:(E++[a]).Perm l:=by rw[←B];exact O.trans (Ln.eC HA.out HB.out)
 have d:Ln.bE E E.length:=by rw[L];exact Y.take χ
 rw[B]at D;have I:=ν x;have H:=ν d;have ac:E.length≤1000000000:=χ
 clear K j B ad L x d O Y X
 go_wp2_with fail
 refine(zu w3 P _ E a ac D).mono ?_;rintro e w4 ⟨rfl,v4,W,an,a1⟩
 go_wp2
 go_ret
 exact⟨rfl,v4,E,I.out,H.out,W,((Z.trans al (fun i _ hs=>hs)).mono (fun i _ hs =>.inr hs)).trans an (fun i _ hs =>.inl hs),by rw[a1];rfl⟩
def Ba(w:World)(k:Nat):Option TypeId:=match w.heap[k]? with|some (.cells _ t _)=>some t|_=>none
theorem Var.ty{w:World}{b:Nat}{t:TypeId}{v:Value}(h:Var w b t v):Ba w b=some t:=by unfold Ba;unfold Var at h;rw[h]
theorem iP{w:World}{B:Nat}{e:TypeId}{size:Nat}{v:Value}{n:Nat}{xs:List Value}(h:w.ownsRow B e size v n xs){k:Nat}(hk:v.ownBlock=some k):Ba w k=some e∧B≤k∧k<w.heap.size:=by
 rcases h.2 with⟨rfl,_⟩|⟨g,d,j,rfl,l,hh,_⟩
 ·simp[Value.ownBlock]at hk
 ·have:g=k:=by simpa[Value.ownBlock]using hk
  subst this;exact⟨by unfold Ba;rw[hh],l,(ϱ.1 hh).1⟩
theorem i7{S:Nat→Prop}{w w':World}{B:Nat}{e:TypeId}{size:Nat}{v:Value}{n:Nat}{xs:List Value}(h:w.ownsRow B e size v n xs)(hk:aD S w w')(x:∀k,v.ownBlock=some k→¬ S k):w'.ownsRow B e size v n xs:=by
 refine⟨h.1,?_⟩
 rcases h.2 with l|⟨g,d,j,rfl,u,hh,q⟩
 ·exact .inl l
 ·exact .inr ⟨g,d,j,rfl,u,by rw[hk.block g (ϱ.1 hh).1 (x g rfl)];exact hh,q⟩
theorem am.keep{S:Nat→Prop}{w w':World}{P:Nat}{v:Value}{l:List Job}(h:am w P v l)(hk:aD S w w')(d:¬ S P)(g:∀k,v.ownBlock=some k→¬ S k):am w' P v l:=
 ⟨h.var.keep hk d,i7 h.own hk g⟩
structure ESt (z:Nat) (w0 w:World) (p PW PN:Nat) (rv vw vn:Value) (rows:List aw) (wl nl:List Job):Prop where
 vp:Var w p 252 rv
 row:w.ownsRow (p+1) 278 3 rv rows.length (aT rows)
 wait:am w PW vw wl
 next:am w PN vn nl
 Qa:PW≠PN
 ne:∀k,vw.ownBlock=some k→vn.ownBlock≠some k
 QZ:z≤p
 Qb:z≤PW
 Qc:z≤PN
 Qi:∀k,vw.ownBlock=some k→z≤k
 Qj:∀k,vn.ownBlock=some k→z≤k
 below:Below z w0 w
namespace ESt
variable {z:Nat} {w0 w w':World} {p PW PN:Nat} {rv vw vn rv' vw' vn':Value} {rows rows':List aw} {wl nl wl' nl':List Job}
theorem onNext(h:ESt z w0 w p PW PN rv vw vn rows wl nl)(D:z≤w.heap.size)(hk:aD (fun k=>k=PN∨vn.ownBlock=some k) w w')(B:am w' PN vn' nl')(u:vn'.ownBlock=vn.ownBlock∨∃k,vn'.ownBlock=some k∧w.heap.size≤k):
 ESt z w0 w' p PW PN rv vw vn' rows wl nl':=by
 have v:=h.vp.ty;have t2:=h.wait.var.ty;have g:=h.next.var.ty
 have x:=fun k hk=>(iP h.row (k:=k) hk).1
 have y:=fun k hk=>(iP h.wait.own (k:=k) hk)
 have j:=fun k hk=>(iP h.next.own (k:=k) hk).1
 refine⟨h.vp.keep hk ?_,i7 h.row hk ?_,h.wait.keep hk ?_ ?_,B,h.Qa,?_,h.QZ,h.Qb,h.Qc,h.Qi,?_,h.below.trans (hk.below D ?_)⟩
 ·rintro(e|e)
  ·subst e;rw[v]at g;simp at g
  ·have:=j _ e;rw[v]at this;simp at this
 ·rintro k d (e|e)
  ·subst e;have:=x _ d;rw[g]at this;simp at this
  ·have:=x _ d;have l:=j _ e;rw[this]at l;simp at l
 ·rintro(e|e)
  ·exact h.Qa e
  ·have:=j _ e;rw[t2]at this;simp at this
 ·rintro k d (e|e)
  ·subst e;have:=(y _ d).1;rw[g]at this;simp at this
  ·exact h.ne k d e
 ·intro k d
  rcases u with e|⟨q,e,C⟩
  ·rw[e];exact h.ne k d
  ·rw[e]
   have:=(y k d).2.2;intro h;injection h with h;omega
 ·intro k d
  rcases u with e|⟨q,e,C⟩
  ·rw[e]at d;exact h.Qj k d
  ·rw[e]at d;injection d with d;omega
 ·rintro i hi (e|e)
  ·have:=h.Qc;omega
  ·have:=h.Qj i e;omega
theorem onWait(h:ESt z w0 w p PW PN rv vw vn rows wl nl)(D:z≤w.heap.size)(hk:aD (fun k=>k=PW∨vw.ownBlock=some k) w w')(B:am w' PW vw' wl')(u:vw'.ownBlock=vw.ownBlock∨∃k,vw'.ownBlock=some k∧w.heap.size≤k):
 ESt z w0 w' p PW PN rv vw' vn rows wl' nl:=by
 have v:=h.vp.ty;have t2:=h.wait.var.ty;have E:=h.next.var.ty
 have x:=fun k hk=>(iP h.row (k:=k) hk).1
 have j:=fun k hk=>(iP h.wait.own (k:=k) hk)
 have y:=fun k hk=>(iP h.next.own (k:=k) hk)
 refine⟨h.vp.keep hk ?_,i7 h.row hk ?_,B,h.next.keep hk ?_ ?_,h.Qa,?_,h.QZ,h.Qb,h.Qc,?_,h.Qj,h.below.trans (hk.below D ?_)⟩
 ·rintro(e|e)
  ·subst e;rw[v]at t2;simp at t2
  ·have:=(j _ e).1;rw[v]at this;simp at this
 ·rintro k d (e|e)
  ·subst e;have:=x _ d;rw[t2]at this;simp at this
  ·have:=x _ d;have l:=(j _ e).1;rw[this]at l;simp at l
 ·rintro(e|e)
  ·exact h.Qa e.symm
  ·have:=(j _ e).1;rw[E]at this;simp at this
 ·rintro k d (e|e)
  ·subst e;have:=(y _ d).1;rw[t2]at this;simp at this
  ·exact h.ne k e d
 ·intro k d g
  rcases u with e|⟨q,e,C⟩
  ·rw[e]at d;exact h.ne k d g
  ·rw[e]at d
   have:=(y k g).2.2
   injection d with h;omega
 ·intro k d
  rcases u with e|⟨q,e,C⟩
  ·rw[e]at d;exact h.Qi k d
  ·rw[e]at d;injection d with d;omega
 ·rintro i hi (e|e)
  ·have:=h.Qb;omega
  ·have:=h.Qi i e;omega
theorem onRow(h:ESt z w0 w p PW PN rv vw vn rows wl nl)(B:z≤w.heap.size)(hk:aD (fun k=>k=p∨rv.ownBlock=some k) w w')(y:Var w' p 252 rv')(x:w'.ownsRow (p+1) 278 3 rv' rows'.length (aT rows')):
 ESt z w0 w' p PW PN rv' vw vn rows' wl nl:=by
 have l:=h.vp.ty;have t2:=h.wait.var.ty;have q:=h.next.var.ty
 have j:=fun k hk=>(iP h.row (k:=k) hk)
 have u:=fun k hk=>(iP h.wait.own (k:=k) hk)
 have v:=fun k hk=>(iP h.next.own (k:=k) hk)
 refine⟨y,x,h.wait.keep hk ?_ ?_,h.next.keep hk ?_ ?_,h.Qa,h.ne,h.QZ,h.Qb,h.Qc,h.Qi,h.Qj,h.below.trans (hk.below B ?_)⟩
 ·rintro(e|e)
  ·subst e;rw[l]at t2;simp at t2
  ·have:=(j _ e).1;rw[t2]at this;simp at this
 ·rintro k d (e|e)
  ·subst e;have:=(u _ d).1;rw[l]at this;simp at this
  ·have:=(u _ d).1;have g:=(j _ e).1;rw[this]at g;simp at g
 ·rintro(e|e)
  ·subst e;rw[l]at q;simp at q
  ·have:=(j _ e).1;rw[q]at this;simp at this
 ·rintro k d (e|e)
  ·subst e;have:=(v _ d).1;rw[l]at this;simp at this
  ·have:=(v _ d).1;have g:=(j _ e).1;rw[this]at g;simp at g
 ·rintro i hi (e|e)
  ·have:=h.QZ;omega
  ·have:=(j _ e).2.1;have:=h.QZ;omega
theorem alloc(h:ESt z w0 w p PW PN rv vw vn rows wl nl)(d:z≤w.heap.size)(o:Obj):ESt z w0 (w.alloc o) p PW PN rv vw vn rows wl nl:=by
 have hk:Kz w (w.alloc o):=(aD.refl _ _).alloc _;exact⟨h.vp.keep hk ξ,i7 h.row hk ξ,h.wait.keep hk ξ ξ,h.next.keep hk ξ ξ,h.Qa,h.ne,h.QZ,h.Qb,h.Qc,h.Qi,h.Qj,h.below.alloc d _⟩
theorem keepN(h:ESt z w0 w p PW PN rv vw vn rows wl nl)(d:z≤w.heap.size)(hk:Kz w w'):ESt z w0 w' p PW PN rv vw vn rows wl nl:=
 ⟨h.vp.keep hk ξ,i7 h.row hk ξ,h.wait.keep hk ξ ξ,h.next.keep hk ξ ξ,h.Qa,h.ne,h.QZ,h.Qb,h.Qc,h.Qi,h.Qj,h.below.trans (hk.below d ξ)⟩
theorem size(h:ESt z w0 w p PW PN rv vw vn rows wl nl):z≤w.heap.size:=by have:=h.vp.lt;have:=h.QZ;omega
end ESt
theorem am.set_cell{w:World}{P g n c:Nat}{l:List Job}{r r':Job}(h:am w P (.slice (some ⟨g,0,none⟩) n c) l)(C:l[0]?=some r)(q:n=l.length){i:Nat}{d:Int}
 (B:(i=1∧r'=⟨r.need,d,r.left⟩)∨(i=2∧r'=⟨r.need,r.due,d⟩)):
 am (w.setCell ⟨g,i,none⟩ (.int .i64 d)) P (.slice (some ⟨g,0,none⟩) n c) (l.set 0 r')∧aD (fun k=>k=g) w (w.setCell ⟨g,i,none⟩ (.int .i64 d)):=by
 have hk:aD (fun k=>k=g) w (w.setCell ⟨g,i,none⟩ (.int .i64 d)):=(aD.refl (fun k=>k=g) w).setCell (fun _=>rfl) _;have j:¬ P=g:=by have:=h.ne;simp[Value.ownBlock]at this;exact fun e=>this e.symm
 refine⟨⟨h.var.keep hk j,?_⟩,hk⟩;have u:=h.own;rw[←q]at u;have v:=(u.stored i (.int .i64 d)).1;obtain⟨D,x,y⟩:=Edf.set_root (r':=r') C;rw[List.length_set,←q,y];rw[x]at v
 rcases B with⟨rfl,rfl⟩|⟨rfl,rfl⟩<;>simpa[aj,Job.cells]using v
theorem ESt.start(w:World)(p PW PN v u:Nat)(j:World)(N:p=w.heap.size)(C:v=p+1)(y:PW=p+2)(B:u=p+3)(x:PN=p+4)
 (d:j=(((((w.alloc (Obj.cells #[Value.slice none 0 0] 252)).alloc (Obj.cells #[] 272)).alloc (Obj.cells #[Value.slice (some ⟨v,0,none⟩) 0 0] 269)).alloc (Obj.cells #[] 272)).alloc (Obj.cells #[Value.slice (some ⟨u,0,none⟩) 0 0] 269))):
 ESt w.heap.size w j p PW PN (.slice none 0 0) (.slice (some ⟨v,0,none⟩) 0 0) (.slice (some ⟨u,0,none⟩) 0 0) [] [] []:=by
 subst N C y B x;have l:∀(w:World) (o:Obj),(w.alloc o).heap[w.heap.size]?=some o:=fun w o=>heap_alloc_new w o
 have keep:∀{w:World} {k:Nat} {o:Obj} (D:Obj),w.heap[k]?=some o→(w.alloc D).heap[k]?=some o:=fun{w k o} D h=>by
  have hk:=(ϱ.1 h).1;rw[Below.heap_alloc w D k hk];exact h
 have q:∀(w:World) (o:Obj),(w.alloc o).heap.size=w.heap.size+1:=fun w o=>ξ
 have H:j.heap[w.heap.size]?=some (Obj.cells #[Value.slice none 0 0] 252):=by subst d;exact keep _ (keep _ (keep _ (keep _ (l _ _))))
 have I:j.heap[w.heap.size+1]?=some (Obj.cells #[] 272):=by
  subst d;refine keep _ (keep _ (keep _ ?_));have:=l (w.alloc (Obj.cells #[Value.slice none 0 0] 252)) (Obj.cells #[] 272);rwa[q]at this
 have J:j.heap[w.heap.size+2]?=some (Obj.cells #[Value.slice (some ⟨w.heap.size+1,0,none⟩) 0 0] 269):=by
  subst d;refine keep _ (keep _ ?_);have:=l ((w.alloc (Obj.cells #[Value.slice none 0 0] 252)).alloc (Obj.cells #[] 272)) (Obj.cells #[Value.slice (some ⟨w.heap.size+1,0,none⟩) 0 0] 269);simpa only[q]using this
 have e3:j.heap[w.heap.size+3]?=some (Obj.cells #[] 272):=by
  subst d;refine keep _ ?_;have:=l (((w.alloc (Obj.cells #[Value.slice none 0 0] 252)).alloc (Obj.cells #[] 272)).alloc (Obj.cells #[Value.slice (some ⟨w.heap.size+1,0,none⟩) 0 0] 269)) (Obj.cells #[] 272);simpa only[q]using this
 have e4:j.heap[w.heap.size+4]?=some (Obj.cells #[Value.slice (some ⟨w.heap.size+3,0,none⟩) 0 0] 269):=by
  subst d;have:=l ((((w.alloc (Obj.cells #[Value.slice none 0 0] 252)).alloc (Obj.cells #[] 272)).alloc (Obj.cells #[Value.slice (some ⟨w.heap.size+1,0,none⟩) 0 0] 269)).alloc (Obj.cells #[] 272)) (Obj.cells #[Value.slice (some ⟨w.heap.size+3,0,none⟩) 0 0] 269);simpa only[q]using this
 have K:Below w.heap.size w j:=by
  subst d;refine((((((Below.refl _ _).alloc ?_ _).alloc ?_ _).alloc ?_ _).alloc ?_ _).alloc ?_ _)<;>simp<;>omega
 have E:∀g,j.heap[g]?=some (Obj.cells #[] 272)→j.ownsRow 0 272 3 (.slice (some ⟨g,0,none⟩) 0 0) 0 (aj []):=fun g L =>
  ⟨rfl,.inr ⟨g,0, #[],rfl,χ,L,χ,χ,rfl,rfl⟩⟩
 refine⟨H,World.ownsRow_nil _ _ _ _,⟨J,E _ I⟩,⟨e4,E _ e3⟩,χ,?_,χ,χ,χ,?_,?_,K⟩
 ·intro k hk h;simp[Value.ownBlock]at hk h;omega
 ·intro k hk;simp[Value.ownBlock]at hk;omega
 ·intro k hk;simp[Value.ownBlock]at hk;omega
theorem am.slice{w:World}{P:Nat}{v:Value}{l:List Job}(h:am w P v l):∃A c,v=.slice A l.length c:=by
 rcases h.own.2 with⟨h,q⟩|⟨g,d,j,h,_⟩
 ·exact⟨none,0,by rw[h,q]⟩
 ·exact⟨_,_,h⟩
theorem am.root{w:World}{P g n c:Nat}{l:List Job}{r:Job}(h:am w P (.slice (some ⟨g,0,none⟩) n c) l)(j:l.length=n)(q:l[0]?=some r):
 w.cell? ⟨g,0,none⟩=some (.int .i64 r.need)∧w.cell? ⟨g,1,none⟩=some (.int .i64 r.due)∧w.cell? ⟨g,2,none⟩=some (.int .i64 r.left):=by
 have d:=h.own;rw[j]at d;have:=fS d q
 simpa using this
theorem lD{w:World}{base d:Nat}{e:TypeId}{size:Nat}{v:Value}{n:Nat}{xs:List Value}(h:w.ownsRow base e size v n xs)(y:d≤base):w.ownsRow d e size v n xs:=by
 refine⟨h.1,?_⟩
 rcases h.2 with q|⟨g,j,l,q,u,x⟩
 ·exact .inl q
 ·exact .inr ⟨g,j,l,q,Δ y u,x⟩
