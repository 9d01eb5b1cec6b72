import Derived.Test.YtpblcjipmoblnaaGreatDoorApart
import Derived.Test.YtpblcjipmoblnaaGreatDoorAsE
import Derived.StillTailTactics
import Derived.Test.YtpblcjipmoblnaaGreatDoorSmap
import Derived.Test.YtpblcjipmoblnaaGreatDoorDraw
import Derived.Test.YtpblcjipmoblnaaGreatDoorWho
set_option maxRecDepth 100000
set_option maxHeartbeats 4000000
set_option linter.unusedVariables false
set_option linter.unusedSimpArgs false
set_option linter.unnecessarySimpa false
namespace Go.Proofs.YtpblcjipmoblnaaGreatDoor
open Go.RowKit Go.IntWalk Ck
variable {w w':World} {B size n pb z c:Nat} {e:TypeId} {v u:Value} {xs:List Value} {L:List Wr}
theorem am{S:Nat→Prop}(h:w.ownsRow B e size v n xs)(hk:aB S w w')(j:∀k,v.ownBlock=some k→¬ S k):w'.ownsRow B e size v n xs:=by
 refine⟨h.1,?_⟩
 rcases h.2 with b|⟨g,cap,a,rfl,i,hh,d⟩
 ·exact .inl b
 ·exact .inr ⟨g,cap,a,rfl,i,by rw[hk.block g (Array.getElem?_eq_some_iff.1 hh).1 (j g rfl)];exact hh,d⟩
theorem tP(h:w.ownsRow B e size v n xs){k:Nat}(hk:v.ownBlock=some k):bk w k=some e∧B≤k∧k<w.heap.size:=by
 refine⟨?_,h.lt k hk⟩
 rcases h.2 with⟨b,_⟩|⟨g,cap,a,rfl,i,hh,d⟩
 ·subst b;cases hk
 ·have:g=k:=by simpa[Value.ownBlock]using hk
  subst this;unfold bk;rw[hh]
theorem aF.grown{v:aV}{P:aC}{W:Int→Int}(h:aF B w pb v P W L)(a:w.ownsRow z e size u n xs)(j:B≤z)(b:e≠113∧e≠120)(hk:aB (fun k=>u.ownBlock=some k) w w'):aF B w' pb v P W L:=
 h.keep hk fun k g _=>by
  obtain⟨d,i,_⟩:=tP a g;refine⟨by omega,?_,?_⟩<;>rw[d]<;>simp[b.1,b.2]
def ax(xs:List dU):List Value:=xs.flatMap Ck.dU.cells
def oq(x:Ram):dU:=⟨x.Q7,x.size,x.pos⟩
def sg(x:Ck.bE):dU:=⟨x.Q7,x.size,x.pos⟩
def ii(l:List Ram):Nat:=l.foldl (fun s x=>min (s+min x.size 67108865) 67108865) 0
theorem lW(l:List Ram)(x:Ram):ii (l++[x])=min (ii l+min x.size 67108865) 67108865:=by simp[ii]
theorem pY(l:List Ram):ii l≤67108865:=by
 unfold ii
 suffices h:∀(l:List Ram) (s:Nat),s≤67108865→l.foldl (fun s x=>min (s+min x.size 67108865) 67108865) s≤67108865 from h l 0 (by omega)
 intro l
 induction l with
 | nil=>intro s h;exact h
 | cons x t ih=>intro s h;exact ih _ (Nat.min_le_right _ _)
theorem jr(x:Ram):∀(l:List Ram) (s:Nat),ch s (l++[x])=ch s l++say (decide (min (l.foldl (fun s x=>min (s+min x.size 67108865) 67108865) s+min x.size 67108865) 67108865≤67108864)) x.pos 4
 | [],s=>by simp only[List.nil_append,ch,List.append_nil,List.foldl_nil];congr
 | y::t,s=>by simp only[List.cons_append,ch,jr x t,List.foldl_cons,List.append_assoc];congr
theorem nH(x:Ram)(l:List Ram):ch 0 (l++[x])=ch 0 l++say (decide (ii (l++[x])≤67108864)) x.pos 4:=by rw[jr,lW];rfl
theorem fw(l:List dU)(x:dU):ax (l++[x])=ax l++x.cells:=by simp[ax]
theorem Tryz.info170:(Tryz.prog.info? 170).map (fun i=>(i.zero,i.size,i.bytes))=some (some (.agg #[.int .u64 0,.int .u64 0,.int .i64 0]),3,24):=by kernel_rfl
theorem kX{a b c:Int}:∀u∈[Value.int .u64 a,.int .u64 b,.int .i64 c],u.oneCell'=true:=by
 intro u d;simp at d;rcases d with rfl|rfl|rfl<;>rfl
theorem jt:∀(xs:List dU) (i j:Nat) (x:dU) (c:Value),xs[i]?=some x→x.cells[j]?=some c→(ax xs)[i*3+j]?=some c
 | [],i,j,x,c,h,_=>by simp at h
 | y::t,0,j,x,c,h,hc=>by
  obtain rfl:y=x:=by simpa using h
  have b:j<y.cells.length:=(List.getElem?_eq_some_iff.1 hc).1;simp only[ax,List.flatMap_cons,Nat.zero_mul,Nat.zero_add];rw[List.getElem?_append_left b];exact hc
 | y::t,i+1,j,x,c,h,hc=>by
  have a:t[i]?=some x:=by simpa using h
  have d:y.cells.length=3:=rfl;have:=jt t i j x c a hc;have e:ax (y::t)=y.cells++ax t:=by simp[ax]
  rw[e,List.getElem?_append_right (by omega),d,show(i+1)*3+j-3=i*3+j by omega];exact this
theorem fZ{xs:List dU}(h:w.ownsRow z 170 3 u xs.length (ax xs))(q:∀x∈xs,x.Ok)(n:xs.length≤8388608)(A:pb<z):fB w pb u xs:=by
 rcases Nat.eq_zero_or_pos xs.length with l|l
 ·rcases h.2 with⟨b,y⟩|⟨g,cap,e,b,_,_,a,_⟩
  ·exact⟨none,0,by rw[b,l],by omega,n,fun h=>by omega⟩
  ·exact⟨some ⟨g,0,none⟩,cap,b,by omega,n,fun h=>by omega⟩
 ·have a:=h.2
  obtain⟨g,cap,hv,C,p⟩:=h.form l;subst hv;refine⟨_,cap,rfl,?_,n,fun _=>⟨g,0,rfl,p,by omega,fun i x hx=>⟨fun j c v=>?_,q x (List.mem_of_getElem? hx)⟩⟩⟩
  ·rcases a with⟨b,y⟩|⟨B,r,e,b,_,_,v,_⟩
   ·cases b
   ·cases b;omega
  ·have:=h.cells (g:=g) rfl _ _ (jt xs i j x c hx v)
   have d:∀j,(⟨g,0,none⟩:Addr).add j=⟨g,j,none⟩:=fun j=>by unfold Addr.add;split<;>simp_all
   rw[d]at this;rw[Nat.zero_add];exact this
theorem fB.keep{xs:List dU}(h:fB w pb u xs)(hk:aB (fun k=>k=pb) w w'):fB w' pb u xs:=by
 obtain⟨A,c,rfl,l,n,p⟩:=h;refine⟨A,c,rfl,l,n,fun j=>?_⟩;obtain⟨g,off,e,b,d,a⟩:=p j;exact⟨g,off,e,Nat.lt_of_lt_of_le b hk.size,d,fun i x hx=>⟨(a i x hx).1.keep hk b d,(a i x hx).2⟩⟩
theorem pw{v:aV}{P:aC}(h:cX B w v P):∀x∈P.parts,x.Ok:=by
 intro x hx;simp only[aC.parts,List.mem_append,List.mem_map]at hx
 rcases hx with⟨y,b,rfl⟩|⟨y,b,rfl⟩
 ·obtain⟨A,c,_,_,_,l⟩:=h.QF
  obtain⟨i,j⟩:=List.getElem?_of_mem b;obtain⟨n,off,_,_,a⟩:=l (List.length_pos_of_mem b);obtain⟨_,d,e,g⟩:=a i y j;exact⟨e,g,d⟩
 ·obtain⟨A,c,_,_,_,l⟩:=h.Q4
  obtain⟨i,j⟩:=List.getElem?_of_mem b;obtain⟨n,off,_,_,a⟩:=l (List.length_pos_of_mem b);obtain⟨_,_,_,d,e,g,_⟩:=a i y j;exact⟨e,g,d⟩
theorem sU{a s:Nat}(b:a<18446744073709551616)(d:s<18446744073709551616):bits .or .u64 (a:Int) (s:Int)=((a ||| s:Nat):Int):=by
 have h:a ||| s<2 ^ 64:=Nat.or_lt_two_pow b d;have hk:IntKind.u64.bits=64:=rfl;unfold bits;simp only[hk,BitVec.ofInt_natCast,BitVec.toNat_or,BitVec.toNat_ofNat,Nat.mod_eq_of_lt (show a<2 ^ 64 from b),Nat.mod_eq_of_lt (show s<2 ^ 64 from d)];have e:(((a ||| s:Nat):Int))<18446744073709551616:=by omega
 have g:(0:Int)≤((a ||| s:Nat):Int):=Int.natCast_nonneg _
 generalize ((a ||| s:Nat):Int)=q at e g
 simp[IntKind.wrap,IntKind.bits,IntKind.signed];omega
theorem xK{a s:Nat}(b:a<18446744073709551616)(d:s<18446744073709551616):((bits .or .u64 (a:Int) (s:Int)).tmod 4096==0)=decide ((a ||| s)%4096=0):=by
 rw[sU b d];have e:(((a ||| s:Nat):Int)).tmod 4096=(((a ||| s)%4096:Nat):Int):=by
  rw[Int.tmod_eq_emod_of_nonneg (by omega)];omega
 rw[e]
 by_cases h:(a ||| s)%4096=0
 ·simp[h]
 ·have:¬ (((a ||| s)%4096:Nat):Int)=0:=by omega
  simp only[h,decide_false];exact beq_eq_false_iff_ne.2 this
theorem yB{v:aV}{P:aC}(h:aF B w pb v P nC []):
 Calls Tryz.prog 51 #[.pointer (some ⟨pb,0,none⟩)] w fun e w'=>e=.returned (.tuple #[])∧aF B w' pb v P nC (nZ P)∧aB (fun k=>k=pb) w w':=by
 obtain⟨i0,hi,hz0,hz1,hz2⟩:=info_parts Tryz.info170;obtain⟨z,hz⟩:∃z,z=w.heap.size:=⟨_,rfl⟩;have HZ:=Lib.hid hz;have hlt:=h.lt;have hBp:=h.base;obtain⟨A0,c0,hv0,_,hn0,hl0⟩:=h.QL.QF;obtain⟨A1,c1,hv1,_,hn1,hl1⟩:=h.QL.Q4;have HV1:=Lib.hid hv1;have hp0:w.cell? ⟨pb,2,none⟩=some v.QF:=h.cell rfl;rw[hv0]at hp0;unfold top at hn0 hn1;have hpz:pb<z:=by omega
 clear hv0 hv1 hz
 go_enter Tryz.func51,Tryz.ntmps51
 go_wp2
 go_loopw [2,3,16] (fun u s i wr=>∃n:Nat,n≤P.QF.length∧i=.int .i64 n∧s=.int .u64 (ii (P.QF.take n):Nat)∧wr.ownsRow z 170 3 u n (ax ((P.QF.take n).map oq))∧aF B wr pb v P nC (ch 0 (P.QF.take n))∧aB (fun k=>k=pb) w wr) (fun _ _ i _=>P.QF.length-(intOf i).toNat)
 case atStart=>exact⟨0,Nat.zero_le _,rfl,rfl,World.ownsRow_nil _ _ _ _,by simpa[ch]using h,aB.refl _ _⟩
 case round =>
 obtain⟨n,hn,rfl,rfl,hown,hL,hk⟩:=hrel
 by_cases hlt2:n<P.QF.length
 ·obtain⟨bl,off,rfl,hbl,hcs⟩:=hl0 (by omega)
  obtain⟨x,hx⟩:∃x,P.QF[n]?=some x:=⟨_,Ez hlt2⟩;obtain⟨hc,hok⟩:=(aK B _ _) _ _ _ _ _ (hk.below (B:=B) (by omega) (fun _ hi e=>by omega)) hbl (hcs n x hx);have q0:=hc.c0;have q1:=hc 1 _ rfl;have q2:=hc 2 _ rfl;have hsz:=hk.size;have hblr:bl<wr.heap.size:=by omega
  obtain⟨hw1,hat,hsi⟩:=hok;unfold lim at hat hsi;have hso:=pY (P.QF.take n);have hsn:=lW (P.QF.take n) x;obtain⟨s,hs⟩:∃s,s=ii (P.QF.take n):=⟨_,rfl⟩;rw[←hs]at hso hsn⊢;have HSN:=Lib.hid hsn;have HX:=Lib.hid hx;have HL:=Lib.hid hL;have HK:=Lib.hid hk;have HCS:=Lib.hid hcs;have hzr:z≤wr.heap.size:=by have:=HZ.out;omega
  clear hx hc hL hk hcs hs hsn
  go_wp2_with (at_builtin;refine wpList_append_lies _ rfl _ _ 168 rfl z 170 i0 (.agg #[.int .u64 0,.int .u64 0,.int .i64 0]) 3 24 Tryz.underlying168 hi hz0 hz1 hz2 rfl (by omega) _ n _ rfl ((hown.alloc _).alloc _) ⟨wr.heap.size+1,0,none⟩ 1 1 [.int .u64 x.Q7,.int .u64 x.size,.int .i64 x.pos] rfl rfl ?c1 kX (by omega) (by unfold maxLen;omega) (by omega) ?c2 (wr.heap.size+2) (by simp) ?_)
  case c1=>have:=World.news_of_block (cs := #[.int .u64 x.Q7,.int .u64 x.size,.int .i64 x.pos]) (heap_alloc_new (wr.alloc (.cells #[.int .i64 x.pos,.int .u64 x.Q7,.int .u64 x.size] 41)) (.cells #[.int .u64 x.Q7,.int .u64 x.size,.int .i64 x.pos] 170));simpa using this
  case c2=>simp;omega
  intro g cap w1 hown1 hgrow hat hlt3;have hkA:aB (fun k=>u2.ownBlock=some k) wr w1:=(((aB.refl _ _).alloc _).alloc _).trans (aB.of_grown hgrow (S:=fun k=>u2.ownBlock=some k) (fun k h=>h)) (fun _ _ h=>h);have hlo:=hown.lt;have hLn:aF B w1 pb v P nC (ch 0 (P.QF.take n)):=HL.out.grown hown (by omega) (by decide) hkA;have hKn:aB (fun k=>k=pb) w w1:=HK.out.trans hkA (fun i hi h=>by have:=(hlo i h).1;have:=HZ.out;omega);have hbx:w1.heap[wr.heap.size]?=some (.cells #[.int .i64 x.pos,.int .u64 x.Q7,.int .u64 x.size] 41 (0,0)):=by
   have e1:=(aB.of_grown hgrow (S:=fun k=>u2.ownBlock=some k) (fun k h=>h)).block wr.heap.size (by simp;omega) (fun h=>by have:=(hlo _ h).2;omega);refine e1.trans (((((aB.refl (fun _=>False) _).alloc _).block wr.heap.size (by simp) (fun h=>h))).trans (heap_alloc_new _ _))
  have r0:w1.cell? ⟨wr.heap.size,0,none⟩=some (.int .i64 x.pos):=by rw[cell_of_row _ _ _ _ _ _ hbx];rfl
  have r2:w1.cell? ⟨wr.heap.size,2,none⟩=some (.int .u64 x.size):=by rw[cell_of_row _ _ _ _ _ _ hbx];rfl
  have HLN:=Lib.hid hLn;have HKN:=Lib.hid hKn;have HO1:=Lib.hid hown1;clear hLn hKn hbx hkA hgrow hown hown1 q0 q1 q2
  go_upto_region 7 with fail
  have hm2:(if(67108865:Int)<(x.size:Int)then(67108865:Int)else(x.size:Int))=((min x.size 67108865:Nat):Int):=by split<;>omega
  have hm3:(if(67108865:Int)<(s:Int)+((min x.size 67108865:Nat):Int)then(67108865:Int)else(s:Int)+((min x.size 67108865:Nat):Int))=((ii (P.QF.take n++[x]):Nat):Int):=by rw[HSN.out];split<;>omega
  rw[hm2,hm3];obtain⟨m,hm⟩:∃m,m=min x.size 67108865:=⟨_,rfl⟩;obtain⟨s2,hs2⟩:∃s2,s2=ii (P.QF.take n++[x]):=⟨_,rfl⟩;rw[←hm,←hs2];have hs3:s2≤67108865:=by rw[hs2];exact pY _
  have HS2:=Lib.hid hs2;clear hs2 hm hm2 hm3
  go_wp2_with fail
  all_goals
   refine(aO _ x.pos 4 36 HLN.out rfl).mono ?_;rintro e w2 ⟨rfl,hL3,hk3⟩;have HL3:=Lib.hid hL3;have HK3:=Lib.hid hk3;clear hL3 hk3
   go_wp2
   go_roundw
   case rel =>
    refine⟨n+1,by omega,by go_num,?_,?_,?_,HKN.out.trans HK3.out (fun _ _ e=>e)⟩
    ·rw[aP HX.out,←HS2.out]
    ·rw[aP HX.out,List.map_append]
     refine am (by rw[List.map_cons,List.map_nil,fw];have:=HO1.out;rw[←List.map_take]at this;exact this) HK3.out (fun k hk e=>?_);subst e;have:=(HO1.out.lt _ hk).1;omega
    ·refine HL3.out.congr fun p=>?_
     rw[aP HX.out,nH,←HS2.out];have hd:decide ((s2:Int)≤67108864)=decide (s2≤67108864):=decide_eq_decide.2 (by omega);simp only[hd,List.mem_append,or_comm]
   case measure=>simp[intOf];omega
 obtain rfl:n=P.QF.length:=by omega
 rw[List.take_length]at hown hL;obtain⟨wo,hwo⟩:∃u:World,u=wr:=⟨_,rfl⟩;rw[←hwo]at hk hown hL⊢;obtain⟨s0,hs0⟩:∃u:Nat,u=ii (P.QF.take P.QF.length):=⟨_,rfl⟩;rw[←hs0];clear hwo wr hlt2 hn hl0 hp0 hs0;have hp1:wo.cell? ⟨pb,3,none⟩=some v.Q4:=hL.cell rfl;rw[HV1.out]at hp1;have HOWN:=Lib.hid hown;have HL:=Lib.hid hL;have HK:=Lib.hid hk;have hrl:P.QF.length≤2097152:=by omega
 clear hown hL hk
 go_wp2
 clear hp1
 go_loopw [2,49] (fun u i wr=>∃n:Nat,n≤P.Q4.length∧i=.int .i64 n∧wr.ownsRow z 170 3 u (P.QF.length+n) (ax (P.QF.map oq++(P.Q4.take n).map sg))∧aF B wr pb v P nC (ch 0 P.QF++(P.Q4.take n).flatMap fun x=>say (decide (x.size≤1048576)) x.pos 1)∧aB (fun k=>k=pb) w wr) (fun _ i _=>P.Q4.length-(intOf i).toNat)
 case atStart=>exact⟨0,Nat.zero_le _,rfl,by simpa using HOWN.out,by simpa using HL.out,HK.out⟩
 case round =>
 clear HOWN HL HK;obtain⟨n,hn,rfl,hown,hL,hk⟩:=hrel
 by_cases hlt2:n<P.Q4.length
 ·obtain⟨bl,off,rfl,hbl,hcs⟩:=hl1 (by omega)
  obtain⟨x,hx⟩:∃x,P.Q4[n]?=some x:=⟨_,Ez hlt2⟩;obtain⟨um,hc,⟨Am,cm,rfl,_⟩,hw1,hat,hsi,_⟩:=hcs n x hx;unfold lim at hat hsi;have hc:=hc.below (hk.below (B:=B) (by omega) (fun _ hi e=>by omega)) hbl;have q0:=hc.c0;have q1:=hc 1 _ rfl;have q2:=hc 2 _ rfl;have q3:=hc 3 _ rfl;have q4:=hc 4 _ rfl;have hsz:=hk.size;have hblr:bl<wr.heap.size:=by omega
  have HX:=Lib.hid hx;have HL:=Lib.hid hL;have HK:=Lib.hid hk;have HCS:=Lib.hid hcs;have hzr:z≤wr.heap.size:=by have:=HZ.out;omega
  clear hx hc hL hk hcs
  go_wp2_with (at_builtin;refine wpList_append_lies _ rfl _ _ 168 rfl z 170 i0 (.agg #[.int .u64 0,.int .u64 0,.int .i64 0]) 3 24 Tryz.underlying168 hi hz0 hz1 hz2 rfl (by omega) _ (P.QF.length+n) _ rfl ((hown.alloc _).alloc _) ⟨wr.heap.size+1,0,none⟩ 1 1 [.int .u64 x.Q7,.int .u64 x.size,.int .i64 x.pos] rfl rfl ?c1 kX (by omega) (by unfold maxLen;omega) (by omega) ?c2 (wr.heap.size+2) (by simp) ?_)
  case c1=>have:=World.news_of_block (cs := #[.int .u64 x.Q7,.int .u64 x.size,.int .i64 x.pos]) (heap_alloc_new (wr.alloc (.cells #[.int .i64 x.pos,.string x.name,.int .u64 x.Q7,.int .u64 x.size,.slice Am x.maps.length cm] 45)) (.cells #[.int .u64 x.Q7,.int .u64 x.size,.int .i64 x.pos] 170));simpa using this
  case c2=>simp;omega
  intro g cap w1 hown1 hgrow hat hlt3;have hkA:aB (fun k=>u2.ownBlock=some k) wr w1:=(((aB.refl _ _).alloc _).alloc _).trans (aB.of_grown hgrow (S:=fun k=>u2.ownBlock=some k) (fun k h=>h)) (fun _ _ h=>h);have hlo:=hown.lt;have hLn:=HL.out.grown hown (by omega) (by decide) hkA;have hKn:aB (fun k=>k=pb) w w1:=HK.out.trans hkA (fun i hi h=>by have:=(hlo i h).1;have:=HZ.out;omega);have hbx:w1.heap[wr.heap.size]?=some (.cells #[.int .i64 x.pos,.string x.name,.int .u64 x.Q7,.int .u64 x.size,.slice Am x.maps.length cm] 45 (0,0)):=by
   have e1:=(aB.of_grown hgrow (S:=fun k=>u2.ownBlock=some k) (fun k h=>h)).block wr.heap.size (by simp;omega) (fun h=>by have:=(hlo _ h).2;omega);refine e1.trans (((((aB.refl (fun _=>False) _).alloc _).block wr.heap.size (by simp) (fun h=>h))).trans (heap_alloc_new _ _))
  have r0:w1.cell? ⟨wr.heap.size,0,none⟩=some (.int .i64 x.pos):=by rw[cell_of_row _ _ _ _ _ _ hbx];rfl
  have r3:w1.cell? ⟨wr.heap.size,3,none⟩=some (.int .u64 x.size):=by rw[cell_of_row _ _ _ _ _ _ hbx];rfl
  have HLN:=Lib.hid hLn;have HKN:=Lib.hid hKn;have HO1:=Lib.hid hown1;clear hLn hKn hbx hkA hgrow hown hown1 q0 q1 q2 q3 q4
  go_wp2_with fail
  all_goals
   refine(aO _ x.pos 1 32 HLN.out rfl).mono ?_;rintro e w2 ⟨rfl,hL3,hk3⟩;have HL3:=Lib.hid hL3;have HK3:=Lib.hid hk3;clear hL3 hk3
   go_wp2
   go_roundw
   case rel =>
    refine⟨n+1,by omega,by go_num,?_,?_,HKN.out.trans HK3.out (fun _ _ e=>e)⟩
    ·rw[aP HX.out,List.map_append,←List.append_assoc]
     refine am (by rw[List.map_cons,List.map_nil,fw];have:=HO1.out;simp only[←List.map_take]at this;exact this) HK3.out (fun k hk e=>?_);subst e;have:=(HO1.out.lt _ hk).1;omega
    ·refine HL3.out.congr fun p=>?_
     rw[aP HX.out];have hd:decide ((x.size:Int)≤1048576)=decide (x.size≤1048576):=decide_eq_decide.2 (by omega);simp only[hd,List.mem_append,List.flatMap_append,List.flatMap_cons,List.flatMap_nil,List.append_nil];constructor
     ·rintro(h|h|h)
      ·exact .inr (.inr h)
      ·exact .inl h
      ·exact .inr (.inl h)
     ·rintro(h|h|h)
      ·exact .inr (.inl h)
      ·exact .inr (.inr h)
      ·exact .inl h
   case measure=>simp[intOf];omega
 obtain rfl:n=P.Q4.length:=by omega
 rw[List.take_length]at hown hL;have hpl:P.QF.length+P.Q4.length=P.parts.length:=by simp[aC.parts]
 have hpe:P.QF.map oq++P.Q4.map sg=P.parts:=rfl;rw[hpl,hpe]at hown;obtain⟨wo,hwo⟩:∃u:World,u=wr:=⟨_,rfl⟩;rw[←hwo]at hk hown hL⊢;have hlen:P.parts.length≤8388608:=by rw[←hpl];omega
 have hpz2:pb<z:=hpz;have hPa:fB wo pb u2 P.parts:=fZ hown (pw h.QL) hlen hpz;obtain⟨Au,cu,rfl,hcu,_,hlu⟩:=hPa;have HPa:Hid (fB wo pb (.slice Au P.parts.length cu) P.parts):=fZ hown (pw h.QL) hlen hpz;have HL:=Lib.hid hL;have HK:=Lib.hid hk;clear hwo wr hlt2 hn hl1 hown hL hk hpe hpl
 go_wp2
 go_loopw [73] (fun i wr=>∃n:Nat,n≤P.parts.length∧i=.int .i64 n∧aF B wr pb v P nC ((P.parts.take n).flatMap lr++(ch 0 P.QF++P.Q4.flatMap fun x=>say (decide (x.size≤1048576)) x.pos 1))∧aB (fun k=>k=pb) wo wr) (fun i _=>P.parts.length-(intOf i).toNat)
 case atStart=>exact⟨0,Nat.zero_le _,rfl,by simpa using HL.out,aB.refl _ _⟩
 case round =>
 clear HL;obtain⟨n,hn,rfl,hL,hk⟩:=hrel
 by_cases hlt2:n<P.parts.length
 ·obtain⟨bl,off,rfl,hbl,hbp,hcs⟩:=hlu (by omega)
  obtain⟨x,hx⟩:∃x,P.parts[n]?=some x:=⟨_,Ez hlt2⟩;obtain⟨hc,hok⟩:=hcs n x hx;have hc:=hc.keep hk hbl hbp;have q0:=hc.c0;have q1:=hc 1 _ rfl;have q2:=hc 2 _ rfl;have hsz:=hk.size;have hblr:bl<wr.heap.size:=by omega
  have hnc2:n≤cu:=by omega
  obtain⟨hxa,hxs,_⟩:=hok;unfold lim at hxa hxs;have HX:=Lib.hid hx;have HL:=Lib.hid hL;have HKr:=Lib.hid hk;clear hx hL hk hc hcs
  go_upto_region 18 with fail
  obtain⟨wb,hwb⟩:∃u:World,u=wr.alloc (Obj.cells #[.int .u64 x.Q7,.int .u64 x.size,.int .i64 x.pos] 170):=⟨_,rfl⟩;rw[←hwb];obtain⟨zb,hzb⟩:∃u,u=wr.heap.size:=⟨_,rfl⟩;rw[←hzb];have hb0:wb.heap[zb]?=some (.cells #[.int .u64 x.Q7,.int .u64 x.size,.int .i64 x.pos] 170 (0,0)):=by rw[hwb,hzb];exact heap_alloc_new _ _
  have hLb:=HL.out.new (w':=wb) (by rw[hwb];exact(aB.refl _ _).alloc _);have hKb:aB (fun k=>k=pb) wo wb:=by rw[hwb];exact HKr.out.alloc _
  have hzp:zb≠pb:=by have:=HKr.out.size;have:=HK.out.size;omega
  have b0:wb.cell? ⟨zb,0,none⟩=some (.int .u64 x.Q7):=by rw[cell_of_row _ _ _ _ _ _ hb0];rfl
  have b1:wb.cell? ⟨zb,1,none⟩=some (.int .u64 x.size):=by rw[cell_of_row _ _ _ _ _ _ hb0];rfl
  have b2:wb.cell? ⟨zb,2,none⟩=some (.int .i64 x.pos):=by rw[cell_of_row _ _ _ _ _ _ hb0];rfl
  have HB0:=Lib.hid hb0;have HLB:=Lib.hid hLb;have HKB:=Lib.hid hKb;clear hwb hzb hb0 hLb hKb HL HKr q0 q1 q2;have HPG:=Lib.hid (xK hxa hxs)
  go_wp2_with fail
  rw[HPG.out];refine(aO _ x.pos 0 33 HLB.out rfl).mono ?_;rintro e w3 ⟨rfl,hL3,hk3⟩;have hb3:=(hk3.block zb (aG HB0.out) hzp).trans HB0.out;have c1:w3.cell? ⟨zb,1,none⟩=some (.int .u64 x.size):=by rw[cell_of_row _ _ _ _ _ _ hb3];rfl
  have c2:w3.cell? ⟨zb,2,none⟩=some (.int .i64 x.pos):=by rw[cell_of_row _ _ _ _ _ _ hb3];rfl
  have HL3:=Lib.hid hL3;have HK3:=Lib.hid (HKB.out.trans hk3 (fun _ _ e=>e));have HB3:=Lib.hid hb3;clear hL3 hk3 hb3 b0 b1 b2 HLB HKB HB0 HPG
  go_wp2_with fail
  refine(aO _ x.pos 1 32 HL3.out rfl).mono ?_;rintro e w4 ⟨rfl,hL4,hk4⟩;have hb4:=(hk4.block zb (aG HB3.out) hzp).trans HB3.out;have d0:w4.cell? ⟨zb,0,none⟩=some (.int .u64 x.Q7):=by rw[cell_of_row _ _ _ _ _ _ hb4];rfl
  have d1:w4.cell? ⟨zb,1,none⟩=some (.int .u64 x.size):=by rw[cell_of_row _ _ _ _ _ _ hb4];rfl
  have d2:w4.cell? ⟨zb,2,none⟩=some (.int .i64 x.pos):=by rw[cell_of_row _ _ _ _ _ _ hb4];rfl
  have HL4:=Lib.hid hL4;have HK4:=Lib.hid (HK3.out.trans hk4 (fun _ _ e=>e));have hzr:=aG hb4;have HC:Hid (∀w',aB (fun i=>i=pb) w4 w'→w'.cell? ⟨zb,0,none⟩=some (.int .u64 x.Q7)∧w'.cell? ⟨zb,1,none⟩=some (.int .u64 x.size)∧w'.cell? ⟨zb,2,none⟩=some (.int .i64 x.pos)):=fun w' hk =>
   ⟨(hk.cell (p:=⟨zb,0,none⟩) hzr hzp).trans d0,(hk.cell (p:=⟨zb,1,none⟩) hzr hzp).trans d1,(hk.cell (p:=⟨zb,2,none⟩) hzr hzp).trans d2⟩
  have HLd:=Lib.hid (hL4.new ((aB.refl _ w4).drew));clear hL4 hk4 hb4 c1 c2 HL3 HK3 HB3
  go_wp2_with fail
  go_region_held3 (fun w'=>w'.cell? ⟨zb,0,none⟩=some (.int .u64 x.Q7)∧w'.cell? ⟨zb,1,none⟩=some (.int .u64 x.size)∧w'.cell? ⟨zb,2,none⟩=some (.int .i64 x.pos))
   (first|exact HC.out _ ((aB.refl _ w4).drew)|exact HC.out _ (((aB.refl _ w4).drew).trans (by assumption) (fun _ _ e=>e)))
   (first
    | (go_at_call 98;refine(jP x.Q7 x.size 4294967296 _ hxa hxs (by omega)).mono ?_;rintro e w2 ⟨rfl,rfl⟩)
    | (go_at_call 73;refine(aO _ _ 2 34 HLd.out rfl).mono ?_;rintro e w2 ⟨rfl,hL5,hk5⟩))
  have HL5:=Lib.hid hL5;have HK5:=Lib.hid hk5;clear hL5 hk5
  go_wp2
  go_roundw
  case rel =>
   refine⟨n+1,by omega,by go_num,HL5.out.congr fun p=>?_,HK4.out.trans (((aB.refl _ _).drew).trans HK5.out (fun _ _ e=>e)) (fun _ _ e=>e)⟩;rw[aP HX.out];have hd:decide ((0:Int)<(x.size:Int))=decide (0<x.size):=decide_eq_decide.2 (by omega);simp only[hd,lr,List.mem_append,List.flatMap_append,List.flatMap_cons,List.flatMap_nil,List.append_nil];constructor
   ·rintro(h|h|h|h)
    ·exact .inl (.inr (.inr h))
    ·exact .inl (.inr (.inl (.inr h)))
    ·exact .inl (.inr (.inl (.inl h)))
    ·rcases h with h|h
     ·exact .inl (.inl h)
     ·exact .inr h
   ·rintro((h|(h|h)|h)|h)
    ·exact .inr (.inr (.inr (.inl h)))
    ·exact .inr (.inr (.inl h))
    ·exact .inr (.inl h)
    ·exact .inl h
    ·exact .inr (.inr (.inr (.inr h)))
  case measure=>simp[intOf];omega
 ·obtain rfl:n=P.parts.length:=by omega
  rw[List.take_length]at hL;have HL2:=Lib.hid hL;have HK2:=Lib.hid hk;clear hL;have hP2:fB wr pb (.slice Au P.parts.length cu) P.parts:=HPa.out.keep hk;clear hk
  go_wp2_with fail
  refine(kj HL2.out hP2 3 rfl).mono ?_;rintro e w2 ⟨rfl,hL3,hk3⟩;have HL3:=Lib.hid hL3;have HK3:=Lib.hid hk3;clear hL3 hk3
  go_wp2
  go_end0
  refine⟨rfl,HL3.out.congr fun p=>?_,(HK.out.trans HK2.out (fun _ _ e=>e)).trans HK3.out (fun _ _ e=>e)⟩;simp only[nZ,List.mem_append];constructor
  ·rintro(h|h|h|h)
   ·exact .inr h
   ·exact .inl (.inr h)
   ·exact .inl (.inl (.inl h))
   ·exact .inl (.inl (.inr h))
  ·rintro(((h|h)|h)|h)
   ·exact .inr (.inr (.inl h))
   ·exact .inr (.inr (.inr h))
   ·exact .inr (.inl h)
   ·exact .inl h
theorem mC{P:aC}{l:List cK}{x:cK}{p:Wr}:p∈fH P (l++[x])↔p∈fH P l∨(∃y∈l,p∈say (!decide (x.QP=y.QP)) (max x.pos y.pos) 1)∨p∈x.runs.flatMap (ol P x.needs):=by
 simp only[fH,List.mem_append,dG,List.flatMap_append,List.flatMap_cons,List.flatMap_nil,List.append_nil];constructor
 ·rintro((h|h)|(h|h))
  ·exact .inl (.inl h)
  ·exact .inr (.inl h)
  ·exact .inl (.inr h)
  ·exact .inr (.inr h)
 ·rintro((h|h)|(h|h))
  ·exact .inl (.inl h)
  ·exact .inr (.inl h)
  ·exact .inl (.inr h)
  ·exact .inr (.inr h)
theorem vI{v:aV}{P:aC}(h:aF B w pb v P aw L){z0:Nat}{D:Nat→DataW Value}{r:Nat→ByteArray→Value}(hF:bh (z0+10) w (aQ z0) (bD P) D r)
 (hpb:pb<z0){u:Value}{xs:List cK}(hs:aT B 4 (iS B) w u xs):
 Calls Tryz.prog 76 #[.pointer (some ⟨pb,0,none⟩),u,.agg (cF z0)] w fun e w'=>e=.returned (.tuple #[])∧aF B w' pb v P aw (fH P xs++L)∧aB (fun k=>k=pb) w w':=by
 obtain⟨A,c,rfl,hnc,hn0,hl⟩:=hs;unfold top at hn0;have hlt:=h.lt;have hBp:=h.base;unfold cF;have HF:=hh hF;clear hF
 go_enter Tryz.func76,Tryz.ntmps76
 go_wp2
 obtain⟨wb,hwb⟩:∃u:World,u=w.alloc (Obj.cells (cF z0) 137):=⟨_,rfl⟩;unfold cF at hwb;rw[←hwb];obtain⟨zb,hzb⟩:∃u:Nat,u=w.heap.size:=⟨_,rfl⟩;rw[←hzb];have hb0:wb.heap[zb]?=some (.cells (cF z0) 137 (0,0)):=by rw[hwb,hzb];exact heap_alloc_new _ _
 have hkb:aB (fun k=>k=pb) w wb:=by rw[hwb];exact(aB.refl _ _).alloc _
 have hLb:aF B wb pb v P aw L:=by rw[hwb];exact h.new ((aB.refl _ _).alloc _)
 have hzp:zb≠pb:=by omega
 have HKb:=hh hkb;have HLb:=hh hLb;have HB0:=hh hb0;clear hwb hzb hb0 hkb hLb
 go_loopw [14] (fun i wr=>∃n:Nat,n≤xs.length∧i=.int .i64 n∧aF B wr pb v P aw (fH P (xs.take n)++L)∧aB (fun k=>k=pb) wb wr) (fun i _=>xs.length-(intOf i).toNat)
 case atStart=>exact⟨0,Nat.zero_le _,rfl,by simpa[fH,cZ]using HLb.out,aB.refl _ _⟩
 case round =>
 obtain⟨n,hn,rfl,hL,hk⟩:=hrel
 by_cases hlt2:n<xs.length
 ·obtain⟨bl,off,rfl,hbl,hcs⟩:=hl (by omega)
  obtain⟨x,hx⟩:=ge hlt2;have hkw:=HKb.out.trans hk (fun _ _ e=>e);obtain⟨ur,hc,hs1,hpos,hcpu⟩:=(ca B) _ _ _ _ _ (hkw.below (B:=B) (by omega) (fun _ hi e=>by omega)) hbl (hcs n x hx);have hs2:=hs1;obtain⟨Ar,crw,rfl,hrc,hrn,_⟩:=hs1;have q0:=hc.c0;have q1:=hc 1 _ rfl;have q2:=hc 2 _ rfl;have q3:=hc 3 _ rfl;have hsz:=hkw.size;have hblr:bl<wr.heap.size:=by omega
  unfold lim at hcpu;unfold top at hrn;have HX:=hh hx;have HL:=hh hL;have HK:=hh hk;have HCS:=hh hcs;have HS2:=hh hs2;have hnc2:n≤c:=by omega
  clear hx hL hk hkw hc hs2
  go_wp2
  obtain⟨wo,hwo⟩:∃wo:World,wo=wr.alloc (Obj.cells #[.int .i64 x.pos,.int .u64 x.QP,.bool x.needs,.slice Ar x.runs.length crw] 92):=⟨_,rfl⟩;rw[←hwo];obtain⟨z,hz⟩:∃z,z=wr.heap.size:=⟨_,rfl⟩;rw[←hz];have hx0:wo.heap[z]?=some (.cells #[.int .i64 x.pos,.int .u64 x.QP,.bool x.needs,.slice Ar x.runs.length crw] 92 (0,0)):=by rw[hwo,hz];exact heap_alloc_new _ _
  have hLo:aF B wo pb v P aw (fH P (xs.take n)++L):=by rw[hwo];exact HL.out.new ((aB.refl _ _).alloc _)
  have hKo:aB (fun k=>k=pb) wb wo:=by rw[hwo];exact HK.out.alloc _
  have hsro:aT B 4 ef wo (.slice Ar x.runs.length crw) x.runs:=HS2.out.below (aK _ _ _) (by rw[hwo];exact((aB.refl (fun _=>False) _).alloc _).below (by omega) (fun _ _ h=>h));have HSR:=hh hsro;have hzp2:z≠pb:=by omega
  have HX0:=hh hx0;have HKo:=hh hKo;have HLo:=hh hLo;clear hwo hz hx0 hKo hLo q0 q1 q2 q3 HL HK hsro HS2
  go_loopw [23] (fun j wq=>∃k:Nat,k≤n∧j=.int .i64 k∧aF B wq pb v P aw ((xs.take k).flatMap (fun y=>say (!decide (x.QP=y.QP)) (max x.pos y.pos) 1)++(fH P (xs.take n)++L))∧aB (fun i=>i=pb) wo wq) (fun j _=>n-(intOf j).toNat)
  case atStart=>exact⟨0,Nat.zero_le _,rfl,HLo.out,aB.refl _ _⟩
  case round =>
  obtain⟨k,hkn,rfl,hL2,hk2⟩:=hrel;have hx2:=(hk2.block z (aG HX0.out) hzp2).trans HX0.out;have x0:wr.cell? ⟨z,0,none⟩=some (.int .i64 x.pos):=cr hx2 rfl;have x1:wr.cell? ⟨z,1,none⟩=some (.int .u64 x.QP):=cr hx2 rfl;have x3:wr.cell? ⟨z,3,none⟩=some (.slice Ar x.runs.length crw):=cr hx2 rfl;have hzr:z<wr.heap.size:=aG hx2
  by_cases hlt3:k<n
  ·obtain⟨y,hy⟩:∃y,xs[k]?=some y:=⟨_,Ez (by omega)⟩
   have hkw:=(HKb.out.trans HKo.out (fun _ _ e=>e)).trans hk2 (fun _ _ e=>e);have hsz2:=hkw.size;obtain⟨uy,hc,⟨Ay,cy,rfl,_⟩,hpy,hcy⟩:=(ca B) _ _ _ _ _ (hkw.below (B:=B) (by omega) (fun _ hi e=>by omega)) hbl (HCS.out k y hy);have y0:=hc.c0;have y1:=hc 1 _ rfl;have y2:=hc 2 _ rfl;have y3:=hc 3 _ rfl;unfold lim at hcy;have hbl2:bl<wr.heap.size:=by omega
   have HL2:=hh hL2;have HK2:=hh hk2;have HY:=hh hy;have HV:=hh (show((x.QP:Int)!=(y.QP:Int))=!decide (x.QP=y.QP) by
    by_cases he:x.QP=y.QP
    ·simp[he]
    ·have:¬ (x.QP:Int)=y.QP:=by omega
     simp[he,this])
   clear hL2 hk2 hkw hc hy hx2
   go_wp2_with fail
   all_goals
    rw[HV.out];refine(aO _ _ 1 81 (HL2.out.new ((aB.refl _ _).alloc _)) rfl).mono ?_;rintro e w2 ⟨rfl,hL3,hk3⟩;have HL3:=hh hL3;have HK3:=hh hk3;clear hL3 hk3
    go_wp2
    go_roundw
    case rel =>
     refine⟨k+1,by omega,by go_num,HL3.out.congr fun p=>?_,HK2.out.trans (((aB.refl _ _).alloc _).trans HK3.out (fun _ _ e=>e)) (fun _ _ e=>e)⟩;rw[aP HY.out]
     first
      | (have hm:max x.pos y.pos=y.pos:=(by omega);simp[hm,or_assoc,or_comm,or_left_comm])
      | (have hm:max x.pos y.pos=x.pos:=(by omega);simp[hm,or_assoc,or_comm,or_left_comm])
    case measure=>simp[intOf];omega
  ·obtain rfl:k=n:=by omega
   obtain⟨wm,hwm⟩:∃u:World,u=wr:=⟨_,rfl⟩;rw[←hwm]at hL2 hk2 hx2 x0 x1 x3 hzr⊢;have HL2:=hh hL2;have HK2:=hh hk2;have HX2:=hh hx2;clear hwm wr hL2 hk2 hx2 HX0 HLo
   go_wp2
   clear x0 x1 x3
   go_loopw [43] (fun j wq=>∃m:Nat,m≤x.runs.length∧j=.int .i64 m∧aF B wq pb v P aw ((x.runs.take m).flatMap (ol P x.needs)++((xs.take k).flatMap (fun y=>say (!decide (x.QP=y.QP)) (max x.pos y.pos) 1)++(fH P (xs.take k)++L)))∧aB (fun i=>i=pb) wm wq) (fun j _=>x.runs.length-(intOf j).toNat)
   case atStart=>exact⟨0,Nat.zero_le _,rfl,HL2.out,aB.refl _ _⟩
   case round =>
   obtain⟨m,hm,rfl,hL3,hk3⟩:=hrel
   by_cases hlt4:m<x.runs.length
   ·obtain⟨Ar',cr',e,_,_,hlr⟩:=HSR.out
    cases e
    obtain⟨gl,go_,rfl,hgl,hgs⟩:=hlr (by omega);obtain⟨rr,hrr⟩:=ge hlt4;have hk4:=HK2.out.trans hk3 (fun _ _ e=>e);have hbo:B≤wo.heap.size:=by have:=HKb.out.size;have:=HKo.out.size;omega
    have hsz3:=hk4.size;obtain⟨hc,hok⟩:=(aK B _ _) _ _ _ _ _ (hk4.below (B:=B) hbo (fun _ hi e=>by omega)) hgl (hgs m rr hrr);have q0:=hc.c0;have q1:=hc 1 _ rfl;have q2:=hc 2 _ rfl;have q3:=hc 3 _ rfl;obtain⟨hrp,hrb,hrpe,hrs⟩:=hok;unfold lim at hrpe hrb;have hgr:gl<wr.heap.size:=by omega
    have hsm:rr.QM.size≤maxLen:=by unfold ae at hrs;unfold maxLen;omega
    have HR:=hh hrr;have HL3:=hh hL3;have HK3:=hh hk3;have HX3:=hh ((hk3.block z (aG HX2.out) hzp2).trans HX2.out);have HB3:=hh ((((HKo.out.trans HK2.out (fun _ _ e=>e)).trans hk3 (fun _ _ e=>e)).block zb (aG HB0.out) hzp).trans HB0.out);have x2:wr.cell? ⟨z,2,none⟩=some (.bool x.needs):=cr HX3.out rfl;have hzr3:z<wr.heap.size:=aG HX3.out;have hzr4:z<wr.heap.size+1:=by omega
    have hbr3:zb<wr.heap.size:=aG HB3.out;clear hL3 hk3 hk4 hc hrr hgs hlr;have HPE:=hh (show((rr.per:Int)==0)=decide (rr.per=0) by
     by_cases he:rr.per=0
     ·simp[he]
     ·have:¬ (rr.per:Int)=0:=by omega
      simp[he])
    obtain⟨nd,hnd⟩:∃nd,nd=x.needs:=⟨_,rfl⟩;rw[←hnd]at x2;have HND:=hh hnd;clear hnd;have HOK:=hh (show(nd||decide (rr.per=0))=(x.needs||decide (rr.per=0)) by rw[HND.out])
    cases nd
    ·go_wp2_with fail
     rw[HPE.out];obtain⟨wc,hwc⟩:∃u:World,u=wr.alloc (Obj.cells #[.int .i64 rr.pos,.string rr.QM,.int .u64 rr.QT,.int .u64 rr.per] 108):=⟨_,rfl⟩;rw[←hwc];obtain⟨zr,hzr5⟩:∃u,u=wr.heap.size:=⟨_,rfl⟩;rw[←hzr5];have hr0:wc.heap[zr]?=some (.cells #[.int .i64 rr.pos,.string rr.QM,.int .u64 rr.QT,.int .u64 rr.per] 108 (0,0)):=by rw[hwc,hzr5];exact heap_alloc_new _ _
     have hkc:Kz wr wc:=by rw[hwc];exact(aB.refl _ _).alloc _
     have hLc:=HL3.out.new hkc;have hrp2:zr≠pb:=by have:=HKb.out.size;have:=HKo.out.size;omega
     refine(aO _ rr.pos 0 5 hLc rfl).mono ?_;rintro e w3 ⟨rfl,hL4,hk4⟩;have hkwx:aB (fun i=>i=pb) wr w3:=(hkc.mono (T:=fun i=>i=pb) (fun i _ h=>h.elim)).trans hk4 (fun _ _ e=>e);have hr4:=(hk4.block zr (aG hr0) hrp2).trans hr0;have hb4:=(hkwx.block zb hbr3 hzp).trans HB3.out;have r0:w3.cell? ⟨zr,0,none⟩=some (.int .i64 rr.pos):=cr hr4 rfl;have r1:w3.cell? ⟨zr,1,none⟩=some (.string rr.QM):=cr hr4 rfl;have b3:w3.cell? ⟨zb,3,none⟩=some (.map (some (z0+4))):=cr hb4 rfl;have hzr6:zr<w3.heap.size:=aG hr4;have hzb6:zb<w3.heap.size:=aG hb4;have hkall:aB (fun i=>i=pb) w w3:=(HKb.out.trans HKo.out (fun _ _ e=>e)).trans ((HK2.out.trans HK3.out (fun _ _ e=>e)).trans hkwx (fun _ _ e=>e)) (fun _ _ e=>e);have hasq:∀w',Kz w3 w'→Calls Tryz.prog 74 #[.map (some (z0+4)),.string rr.QM] w' fun e w2=>e=.returned (.bool (has P.QO rr.QM))∧w'=w2:=fun w' hk=>by
      have hk5:aB (fun i=>i=pb) w w':=hkall.trans hk (fun _ _ e=>e.elim);exact dB (HF.out.keep hk5 (fun k e _=>by subst e;exact⟨by omega,by simp[aQ];omega⟩)) 3 (z0+4) P.QO rfl rfl rr.QM hsm
     have HH:=hh hasq;have HC:Hid (∀w',aB (fun i=>i=pb) w3 w'→w'.cell? ⟨zr,0,none⟩=some (.int .i64 rr.pos)∧w'.cell? ⟨zr,1,none⟩=some (.string rr.QM)∧w'.cell? ⟨zb,3,none⟩=some (.map (some (z0+4)))):=fun w' hk =>
      ⟨(hk.cell (p:=⟨zr,0,none⟩) hzr6 hrp2).trans r0,(hk.cell (p:=⟨zr,1,none⟩) hzr6 hrp2).trans r1,(hk.cell (p:=⟨zb,3,none⟩) hzb6 hzp).trans b3⟩
     have HLd:=hh (hL4.new ((aB.refl _ w3).drew));have HKW:=hh hkwx;clear hwc hzr5 hr0 hkc hLc hL4 hk4 hkwx hr4 hb4 hkall hasq q0 q1 q2 q3 x2
     by_cases hse:rr.QM=ByteArray.empty
     ·have hd1:(rr.QM.toList==ByteArray.toList { data := #[] })=true:=by rw[bv];exact decide_eq_true hse
      have hd2:(rr.QM.toList==[])=true:=by rw[dX]at hd1;exact hd1
      have HSE:=hh hse;clear hse
      go_upto_region 13 with fail
      refine wp_region_still_tail 13 (by kernel_rfl) (by kernel_rfl) ?_;simp only[List.take_succ_cons,List.take_zero,List.drop_succ_cons,List.drop_zero]
      iterate 13 with_reducible refine sl ?_
      with_reducible refine wpStill_nil ?_;refine Lz (fun K hK=>?_)
      go_simp;refine(aO _ _ 2 80 HLd.out rfl).mono ?_;rintro e w2 ⟨rfl,hL5,hk5⟩;with_reducible refine hK _ _ (ln ?_);clear hK K;apply iy
      have HL5:=hh hL5;have HK5:=hh hk5;clear hL5 hk5
      go_wp2
      go_roundw
      case rel =>
       refine⟨m+1,by omega,by go_num,HL5.out.congr fun p=>?_,(HK3.out.trans HKW.out (fun _ _ e=>e)).trans (((aB.refl _ _).drew).trans HK5.out (fun _ _ e=>e)) (fun _ _ e=>e)⟩;rw[aP HR.out];have hse2:decide (rr.QM=ByteArray.empty)=true:=decide_eq_true HSE.out;have hok2:=HOK.out;simp only[Bool.false_or,Bool.true_or]at hok2;simp only[ol,←hok2,hse2,Bool.true_or,List.mem_append,List.flatMap_append,List.flatMap_cons,List.flatMap_nil,List.append_nil];constructor
       ·rintro(h|h|h|h)
        ·exact .inl (.inr (.inr h))
        ·exact .inl (.inr (.inl h))
        ·exact .inl (.inl h)
        ·exact .inr h
       ·rintro((h|h|h)|h)
        ·exact .inr (.inr (.inl h))
        ·exact .inr (.inl h)
        ·exact .inl h
        ·exact .inr (.inr (.inr h))
      case measure=>simp[intOf];omega
     ·have hd1:(rr.QM.toList==ByteArray.toList { data := #[] })=false:=by rw[bv];exact decide_eq_false hse
      have hd2:(rr.QM.toList==[])=false:=by rw[dX]at hd1;exact hd1
      have HSE:=hh hse;clear hse
      go_upto_region 13 with fail
      go_region_held3 (fun w'=>w'.cell? ⟨zr,0,none⟩=some (.int .i64 rr.pos)∧w'.cell? ⟨zr,1,none⟩=some (.string rr.QM)∧w'.cell? ⟨zb,3,none⟩=some (.map (some (z0+4))))
       (first|exact HC.out _ ((aB.refl _ w3).drew)|exact HC.out _ (((aB.refl _ w3).drew).trans (by assumption) (fun _ _ e=>e)))
       (first
        | (go_at_call 74;refine(HH.out _ ((aB.refl _ w3).drew)).mono ?_;rintro e w2 ⟨rfl,rfl⟩)
        | (go_at_call 73;refine(aO _ _ 2 80 HLd.out rfl).mono ?_;rintro e w2 ⟨rfl,hL5,hk5⟩))
      have HL5:=hh hL5;have HK5:=hh hk5;clear hL5 hk5
      go_wp2
      go_roundw
      case rel =>
       refine⟨m+1,by omega,by go_num,HL5.out.congr fun p=>?_,(HK3.out.trans HKW.out (fun _ _ e=>e)).trans (((aB.refl _ _).drew).trans HK5.out (fun _ _ e=>e)) (fun _ _ e=>e)⟩;rw[aP HR.out];have hse2:decide (rr.QM=ByteArray.empty)=false:=decide_eq_false HSE.out;have hok2:=HOK.out;simp only[Bool.false_or,Bool.true_or]at hok2;simp only[ol,←hok2,hse2,Bool.false_or,List.mem_append,List.flatMap_append,List.flatMap_cons,List.flatMap_nil,List.append_nil];constructor
       ·rintro(h|h|h|h)
        ·exact .inl (.inr (.inr h))
        ·exact .inl (.inr (.inl h))
        ·exact .inl (.inl h)
        ·exact .inr h
       ·rintro((h|h|h)|h)
        ·exact .inr (.inr (.inl h))
        ·exact .inr (.inl h)
        ·exact .inl h
        ·exact .inr (.inr (.inr h))
      case measure=>simp[intOf];omega
    ·go_wp2_with fail
     obtain⟨wc,hwc⟩:∃u:World,u=wr.alloc (Obj.cells #[.int .i64 rr.pos,.string rr.QM,.int .u64 rr.QT,.int .u64 rr.per] 108):=⟨_,rfl⟩;rw[←hwc];obtain⟨zr,hzr5⟩:∃u,u=wr.heap.size:=⟨_,rfl⟩;rw[←hzr5];have hr0:wc.heap[zr]?=some (.cells #[.int .i64 rr.pos,.string rr.QM,.int .u64 rr.QT,.int .u64 rr.per] 108 (0,0)):=by rw[hwc,hzr5];exact heap_alloc_new _ _
     have hkc:Kz wr wc:=by rw[hwc];exact(aB.refl _ _).alloc _
     have hLc:=HL3.out.new hkc;have hrp2:zr≠pb:=by have:=HKb.out.size;have:=HKo.out.size;omega
     refine(aO _ rr.pos 0 5 hLc rfl).mono ?_;rintro e w3 ⟨rfl,hL4,hk4⟩;have hkwx:aB (fun i=>i=pb) wr w3:=(hkc.mono (T:=fun i=>i=pb) (fun i _ h=>h.elim)).trans hk4 (fun _ _ e=>e);have hr4:=(hk4.block zr (aG hr0) hrp2).trans hr0;have hb4:=(hkwx.block zb hbr3 hzp).trans HB3.out;have r0:w3.cell? ⟨zr,0,none⟩=some (.int .i64 rr.pos):=cr hr4 rfl;have r1:w3.cell? ⟨zr,1,none⟩=some (.string rr.QM):=cr hr4 rfl;have b3:w3.cell? ⟨zb,3,none⟩=some (.map (some (z0+4))):=cr hb4 rfl;have hzr6:zr<w3.heap.size:=aG hr4;have hzb6:zb<w3.heap.size:=aG hb4;have hkall:aB (fun i=>i=pb) w w3:=(HKb.out.trans HKo.out (fun _ _ e=>e)).trans ((HK2.out.trans HK3.out (fun _ _ e=>e)).trans hkwx (fun _ _ e=>e)) (fun _ _ e=>e);have hasq:∀w',Kz w3 w'→Calls Tryz.prog 74 #[.map (some (z0+4)),.string rr.QM] w' fun e w2=>e=.returned (.bool (has P.QO rr.QM))∧w'=w2:=fun w' hk=>by
      have hk5:aB (fun i=>i=pb) w w':=hkall.trans hk (fun _ _ e=>e.elim);exact dB (HF.out.keep hk5 (fun k e _=>by subst e;exact⟨by omega,by simp[aQ];omega⟩)) 3 (z0+4) P.QO rfl rfl rr.QM hsm
     have HH:=hh hasq;have HC:Hid (∀w',aB (fun i=>i=pb) w3 w'→w'.cell? ⟨zr,0,none⟩=some (.int .i64 rr.pos)∧w'.cell? ⟨zr,1,none⟩=some (.string rr.QM)∧w'.cell? ⟨zb,3,none⟩=some (.map (some (z0+4)))):=fun w' hk =>
      ⟨(hk.cell (p:=⟨zr,0,none⟩) hzr6 hrp2).trans r0,(hk.cell (p:=⟨zr,1,none⟩) hzr6 hrp2).trans r1,(hk.cell (p:=⟨zb,3,none⟩) hzb6 hzp).trans b3⟩
     have HLd:=hh (hL4.new ((aB.refl _ w3).drew));have HKW:=hh hkwx;clear hwc hzr5 hr0 hkc hLc hL4 hk4 hkwx hr4 hb4 hkall hasq q0 q1 q2 q3 x2
     by_cases hse:rr.QM=ByteArray.empty
     ·have hd1:(rr.QM.toList==ByteArray.toList { data := #[] })=true:=by rw[bv];exact decide_eq_true hse
      have hd2:(rr.QM.toList==[])=true:=by rw[dX]at hd1;exact hd1
      have HSE:=hh hse;clear hse
      go_upto_region 13 with fail
      refine wp_region_still_tail 13 (by kernel_rfl) (by kernel_rfl) ?_;simp only[List.take_succ_cons,List.take_zero,List.drop_succ_cons,List.drop_zero]
      iterate 13 with_reducible refine sl ?_
      with_reducible refine wpStill_nil ?_;refine Lz (fun K hK=>?_)
      go_simp;refine(aO _ _ 2 80 HLd.out rfl).mono ?_;rintro e w2 ⟨rfl,hL5,hk5⟩;with_reducible refine hK _ _ (ln ?_);clear hK K;apply iy
      have HL5:=hh hL5;have HK5:=hh hk5;clear hL5 hk5
      go_wp2
      go_roundw
      case rel =>
       refine⟨m+1,by omega,by go_num,HL5.out.congr fun p=>?_,(HK3.out.trans HKW.out (fun _ _ e=>e)).trans (((aB.refl _ _).drew).trans HK5.out (fun _ _ e=>e)) (fun _ _ e=>e)⟩;rw[aP HR.out];have hse2:decide (rr.QM=ByteArray.empty)=true:=decide_eq_true HSE.out;have hok2:=HOK.out;simp only[Bool.false_or,Bool.true_or]at hok2;simp only[ol,←hok2,hse2,Bool.true_or,List.mem_append,List.flatMap_append,List.flatMap_cons,List.flatMap_nil,List.append_nil];constructor
       ·rintro(h|h|h|h)
        ·exact .inl (.inr (.inr h))
        ·exact .inl (.inr (.inl h))
        ·exact .inl (.inl h)
        ·exact .inr h
       ·rintro((h|h|h)|h)
        ·exact .inr (.inr (.inl h))
        ·exact .inr (.inl h)
        ·exact .inl h
        ·exact .inr (.inr (.inr h))
      case measure=>simp[intOf];omega
     ·have hd1:(rr.QM.toList==ByteArray.toList { data := #[] })=false:=by rw[bv];exact decide_eq_false hse
      have hd2:(rr.QM.toList==[])=false:=by rw[dX]at hd1;exact hd1
      have HSE:=hh hse;clear hse
      go_upto_region 13 with fail
      go_region_held3 (fun w'=>w'.cell? ⟨zr,0,none⟩=some (.int .i64 rr.pos)∧w'.cell? ⟨zr,1,none⟩=some (.string rr.QM)∧w'.cell? ⟨zb,3,none⟩=some (.map (some (z0+4))))
       (first|exact HC.out _ ((aB.refl _ w3).drew)|exact HC.out _ (((aB.refl _ w3).drew).trans (by assumption) (fun _ _ e=>e)))
       (first
        | (go_at_call 74;refine(HH.out _ ((aB.refl _ w3).drew)).mono ?_;rintro e w2 ⟨rfl,rfl⟩)
        | (go_at_call 73;refine(aO _ _ 2 80 HLd.out rfl).mono ?_;rintro e w2 ⟨rfl,hL5,hk5⟩))
      have HL5:=hh hL5;have HK5:=hh hk5;clear hL5 hk5
      go_wp2
      go_roundw
      case rel =>
       refine⟨m+1,by omega,by go_num,HL5.out.congr fun p=>?_,(HK3.out.trans HKW.out (fun _ _ e=>e)).trans (((aB.refl _ _).drew).trans HK5.out (fun _ _ e=>e)) (fun _ _ e=>e)⟩;rw[aP HR.out];have hse2:decide (rr.QM=ByteArray.empty)=false:=decide_eq_false HSE.out;have hok2:=HOK.out;simp only[Bool.false_or,Bool.true_or]at hok2;simp only[ol,←hok2,hse2,Bool.false_or,List.mem_append,List.flatMap_append,List.flatMap_cons,List.flatMap_nil,List.append_nil];constructor
       ·rintro(h|h|h|h)
        ·exact .inl (.inr (.inr h))
        ·exact .inl (.inr (.inl h))
        ·exact .inl (.inl h)
        ·exact .inr h
       ·rintro((h|h|h)|h)
        ·exact .inr (.inr (.inl h))
        ·exact .inr (.inl h)
        ·exact .inl h
        ·exact .inr (.inr (.inr h))
      case measure=>simp[intOf];omega
   ·obtain rfl:m=x.runs.length:=by omega
    rw[List.take_length]at hL3;have HL3:=hh hL3;have HK3:=hh hk3;clear hL3 hk3
    go_wp2
    go_roundw
    case rel =>
     refine⟨k+1,by omega,by go_num,HL3.out.congr fun p=>?_,(HKo.out.trans HK2.out (fun _ _ e=>e)).trans HK3.out (fun _ _ e=>e)⟩;rw[aP HX.out];simp only[List.mem_append,mC];rw[show(p∈(xs.take k).flatMap (fun y=>say (!decide (x.QP=y.QP)) (max x.pos y.pos) 1))↔∃y∈xs.take k,p∈say (!decide (x.QP=y.QP)) (max x.pos y.pos) 1 from List.mem_flatMap];constructor
     ·rintro(h|h|h|h)
      ·exact .inl (.inr (.inr h))
      ·exact .inl (.inr (.inl h))
      ·exact .inl (.inl h)
      ·exact .inr h
     ·rintro((h|h|h)|h)
      ·exact .inr (.inr (.inl h))
      ·exact .inr (.inl h)
      ·exact .inl h
      ·exact .inr (.inr (.inr h))
    case measure=>simp[intOf];omega
 ·obtain rfl:n=xs.length:=by omega
  rw[List.take_length]at hL;have HL:=hh hL;have HK:=hh hk;clear hL hk
  go_wp2
  go_end0
  exact⟨rfl,HL.out,HKb.out.trans HK.out (fun _ _ e=>e)⟩
theorem nL{v:aV}{P:aC}(h:aF B w pb v P aw L){z0 zb:Nat}{D:Nat→DataW Value}{r:Nat→ByteArray→Value}(hF:bh (z0+10) w (aQ z0) (bD P) D r)
 (cp:pb<z0)(Z:w.heap[zb]?=some (.cells (cF z0) 137 (0,0)))(bx:zb≠pb)(a:Act)(bw:a.tmps.size=441)
 (h0:At a 0 (.pointer (some ⟨pb,0,none⟩)))(h2:At a 2 (.pointer (some ⟨zb,0,none⟩)))(Q:Exit→Act→World→Prop)
 (hQ:∀a' w',aA (fun i=>i==6||(rg 81 114 i)) a a'→aF B w' pb v P aw (P.QA.flatMap (pI P)++L)→aB (fun k=>k=pb) w w'→Q .normal a' w'):
 (al Tryz.f49 [1,1,1,1,1,0]).wp Tryz.prog Q a w:=by
 have hs:=h.QL.QA;obtain⟨A,c,hu,cm,bu,hl⟩:=hs;unfold top at bu;have cl:=h.lt;have ci:=h.base;have hq:w.cell? ⟨pb,13,none⟩=some v.QA:=h.cell rfl;rw[hu]at hq;clear hu
 conv=>arg 2;whnf
 refine so (fun O w1=>aA (fun i=>i==81||i==82||i==83||i==84||i==85||i==86||i==87) a O∧At O 85 (.slice A P.QA.length c)∧At O 86 (.int .i64 P.QA.length)∧At O 87 (.int .i64 0)∧w1=w) ?_ ?_
 ·clear hF Z hl
  obtain⟨T,d⟩:=a;refine rl ?_
  iterate 7 with_reducible refine st ?_
  with_reducible refine ln ?_
  refine⟨rfl,ag,aq,aq,aq,rfl⟩
 rintro a0 w0 ⟨U,b2,b1,bz,rfl⟩;have a5:a0.tmps.size=441:=U.size.trans bw;replace h0:=U.Q7 h0 rfl;replace h2:=U.Q7 h2 rfl;refine ai P.QA.length (fun i=>i==6||(rg 87 114 i)) (fun i=>i==6||(rg 89 113 i)) (fun k _ w'=>aF B w' pb v P aw ((P.QA.take k).flatMap (pI P)++L)∧aB (fun k=>k=pb) w0 w') (by omega) bz b1 (by decide) rfl
  (by intro j;simp;omega) (by omega) (by decide) (fun k O a2 w S hI=>hI) ⟨by simpa[List.take_zero]using h,aB.refl _ _⟩ ?_ ?_
 ·rintro n O wr a4 S b0 ⟨hL,hk⟩
  obtain⟨bl,off,rfl,bo,an⟩:=hl (by omega);obtain⟨x,hx⟩:=ge a4;obtain⟨hc,ac⟩:=(aK B _ _) _ _ _ _ _ (hk.below (B:=B) (by omega) (fun _ hi e=>by omega)) bo (an n x hx);have q0:=hc.c0;have q1:=hc 1 _ rfl;have q2:=hc 2 _ rfl;have a7:=S.Q7 h0 rfl;have a8:=S.Q7 h2 rfl;have a9:=S.Q7 b2 rfl;have a6:O.tmps.size=441:=S.size.trans a5;have cc:=hk.size;have b4:bl<wr.heap.size:=by omega
  have HX:=hh hx;have HL:=hh hL;have HK:=hh hk;have b5:n≤c:=by omega
  have HA:=hh S;clear hx hL hk hc S an;refine so (fun a2 w2=>aA (fun i=>i==89||i==90||i==6) O a2∧At a2 6 (.pointer (some ⟨wr.heap.size,0,none⟩))∧w2=wr.alloc (Obj.cells #[.int .i64 x.pos,.string x.QH,.string x.to] 68)) ?_ ?_
  ·clear hF Z
   obtain⟨T,d⟩:=O;refine rl ?_
   iterate 4 with_reducible refine st ?_
   with_reducible refine ln ?_
   refine⟨rfl,ag,aq,rfl⟩
  rintro a2 wo ⟨J,b3,X⟩;obtain⟨z,hz⟩:∃z,z=wr.heap.size:=⟨_,rfl⟩;rw[←hz]at b3;have Y:aN wo z 0 [.int .i64 x.pos,.string x.QH,.string x.to]:=by rw[X,hz];exact aX _ _ _
  have ct:z<wo.heap.size:=by rw[X,hz];simp
  have cd:z≠pb:=by omega
  have W:Kz wr wo:=by rw[X];exact(aB.refl _ _).alloc _
  have bd:=hh (HL.out.new W);have ad:=hh (HK.out.trans W (fun _ _ h=>h.elim));have cf:Hid (aB (fun k=>k=pb) wr wo):=W.mono (fun _ _ h=>h.elim);have a7:=J.Q7 a7 rfl;have a8:=J.Q7 a8 rfl;have cb:=J.size.trans a6;have ah:Hid (aA (fun i=>i==6||(rg 89 113 i)) O a2):=J.m;clear X hz W HL HK J q0 q1 q2;clear a9 b0 hl;refine Code.wp_only (R:=fun a' w'=>aA (fun i=>(rg 91 113 i)) a2 a'∧aF B w' pb v P aw (pI P x++((P.QA.take n).flatMap (pI P)++L))∧aB (fun k=>k=pb) wo w') ?_ ?_
  ·skip
   clear ah HX;have bb:=Y.c0;have af:=Y 1 _ rfl;have bc:=Y 2 _ rfl;have M:=(ad.out.block zb (aG Z) bx).trans Z;have m1:wo.cell? ⟨zb,1,none⟩=some (.map (some (z0+2))):=cr M rfl;have m3:wo.cell? ⟨zb,3,none⟩=some (.map (some (z0+4))):=cr M rfl;clear M;clear Y;have C:x.QH.size≤maxLen:=by have:=ac;unfold Ban.Ok ae at this;unfold maxLen;omega
   have N:x.to.size≤maxLen:=by have:=ac;unfold Ban.Ok ae at this;unfold maxLen;omega
   have V:=hF.keep (ad.out.drew) (fun k e _=>by subst e;exact⟨by omega,by simp[aQ];omega⟩);have G:=ee (dB V 3 (z0+4) P.QO rfl rfl x.QH C);obtain⟨y,l⟩:∃b,b=has P.QO x.QH:=⟨_,rfl⟩;rw[←l]at G;have E:=ee (dB V 1 (z0+2) P.QU rfl rfl x.QH C);obtain⟨u,g⟩:∃b,b=has P.QU x.QH:=⟨_,rfl⟩;rw[←g]at E;have H:=ee (dB V 3 (z0+4) P.QO rfl rfl x.to N);obtain⟨I,q⟩:∃b,b=has P.QO x.to:=⟨_,rfl⟩;rw[←q]at H;have HS:Hid (pI P x=say (((y||u)&&I)) x.pos 2):=by rw[l,g,q];rfl
   clear V;clear l;clear g;clear q;have be:=hh (bd.out.new ((aB.refl _ wo).drew));have cs:=aJ;obtain⟨T,d⟩:=a2;refine wp_region_still_tail 22 (by kernel_rfl) (by kernel_rfl) ?_;simp only[List.take_succ_cons,List.take_zero,List.drop_succ_cons,List.drop_zero]
   iterate 22 all_goals first|with_reducible refine sl ?_|(cases y<;>with_reducible refine sl ?_)|(cases u<;>with_reducible refine sl ?_)
   all_goals
    with_reducible refine wpStill_nil ?_;refine Lz (fun K hK=>?_)
    go_simp;refine(aO _ _ 2 80 be.out rfl).mono ?_;rintro e w2 ⟨rfl,bj,bp⟩;with_reducible refine hK _ _ (ln ?_)
    refine⟨rfl,?_,?_,?_⟩
    ·exact ag
    ·have hs:=HS.out
     try simp only[bS]at hs
     rw[hs];exact bj
    ·exact((aB.refl _ _).drew).trans bp (fun _ _ e=>e)
  rintro a3 w3 ⟨bf,bm,bt⟩;refine⟨ah.out.t bf,bm.congr fun p=>?_,ad.out.trans bt (fun _ _ e=>e)⟩;rw[aP HX.out,List.flatMap_append,List.flatMap_cons,List.flatMap_nil,List.append_nil];simp only[List.mem_append,pI]
  try simp only[or_assoc,or_comm,or_left_comm]
 ·rintro a' w' S ⟨hL,hk⟩
  rw[List.take_length]at hL;exact hQ _ _ ((U.m).t S) hL hk
theorem oy{v:aV}{P:aC}(h:aF B w pb v P aw L){z0 zb:Nat}{D:Nat→DataW Value}{r:Nat→ByteArray→Value}(hF:bh (z0+10) w (aQ z0) (bD P) D r)
 (c8:pb<z0)(bm:w.heap[zb]?=some (.cells (cF z0) 137 (0,0)))(cv:zb≠pb)(a:Act)(ct:a.tmps.size=441)
 (h0:At a 0 (.pointer (some ⟨pb,0,none⟩)))(h2:At a 2 (.pointer (some ⟨zb,0,none⟩)))(Q:Exit→Act→World→Prop)
 (hQ:∀a' w',aA (fun i=>i==8||(rg 115 163 i)) a a'→aF B w' pb v P aw (P.QC.flatMap (il P)++L)→aB (fun k=>k=pb) w w'→Q .normal a' w'):
 (al Tryz.f49 [1,1,1,1,1,1,0]).wp Tryz.prog Q a w:=by
 have hs:=h.QL.QC;obtain⟨A,c,hu,c7,cs,hl⟩:=hs;unfold top at cs;have c6:=h.lt;have c5:=h.base;have hq:w.cell? ⟨pb,8,none⟩=some v.QC:=h.cell rfl;rw[hu]at hq;clear hu
 conv=>arg 2;whnf
 refine so (fun a1 w1=>aA (fun i=>i==115||i==116||i==117||i==118||i==119||i==120||i==121) a a1∧At a1 119 (.slice A P.QC.length c)∧At a1 120 (.int .i64 P.QC.length)∧At a1 121 (.int .i64 0)∧w1=w) ?_ ?_
 ·clear hF bm hl
  obtain⟨T,d⟩:=a;refine rl ?_
  iterate 7 with_reducible refine st ?_
  with_reducible refine ln ?_
  refine⟨rfl,ag,aq,aq,aq,rfl⟩
 rintro a0 w0 ⟨bd,c1,cy,cw,rfl⟩;have cf:a0.tmps.size=441:=bd.size.trans ct;replace h0:=bd.Q7 h0 rfl;replace h2:=bd.Q7 h2 rfl;refine ai P.QC.length (fun i=>i==8||(rg 121 163 i)) (fun i=>i==8||(rg 123 162 i)) (fun k _ w'=>aF B w' pb v P aw ((P.QC.take k).flatMap (il P)++L)∧aB (fun k=>k=pb) w0 w') (by omega) cw cy (by decide) rfl
  (by intro j;simp;omega) (by omega) (by decide) (fun k a1 a2 w hA hI=>hI) ⟨by simpa[List.take_zero]using h,aB.refl _ _⟩ ?_ ?_
 ·rintro n a1 wr cd hA cx ⟨hL,hk⟩
  obtain⟨bl,off,rfl,cp,cc⟩:=hl (by omega);obtain⟨x,hx⟩:=ge cd;obtain⟨hc,bx⟩:=(aK B _ _) _ _ _ _ _ (hk.below (B:=B) (by omega) (fun _ hi e=>by omega)) cp (cc n x hx);have q0:=hc.c0;have q1:=hc 1 _ rfl;have q2:=hc 2 _ rfl;have q3:=hc 3 _ rfl;have q4:=hc 4 _ rfl;have q5:=hc 5 _ rfl;have bo:=hA.Q7 h0 rfl;have bp:=hA.Q7 h2 rfl;have cm:=hA.Q7 c1 rfl;have ci:a1.tmps.size=441:=hA.size.trans cf;have c4:=hk.size;have c2:bl<wr.heap.size:=by omega
  have HX:=hh hx;have HL:=hh hL;have HK:=hh hk;have c3:n≤c:=by omega
  have HA:=hh hA;clear hx hL hk hc hA cc;refine so (fun a2 w2=>aA (fun i=>i==123||i==124||i==8) a1 a2∧At a2 8 (.pointer (some ⟨wr.heap.size,0,none⟩))∧w2=wr.alloc (Obj.cells #[.int .i64 x.pos,.string x.name,.string x.QH,.string x.to,.int .i64 x.how,.int .u64 x.depth] 65)) ?_ ?_
  ·clear hF bm
   obtain⟨T,d⟩:=a1;refine rl ?_
   iterate 4 with_reducible refine st ?_
   with_reducible refine ln ?_
   refine⟨rfl,ag,aq,rfl⟩
  rintro a2 wo ⟨an,b5,bj⟩;obtain⟨z,hz⟩:∃z,z=wr.heap.size:=⟨_,rfl⟩;rw[←hz]at b5;have G:aN wo z 0 [.int .i64 x.pos,.string x.name,.string x.QH,.string x.to,.int .i64 x.how,.int .u64 x.depth]:=by rw[bj,hz];exact aX _ _ _
  have b4:z<wo.heap.size:=by rw[bj,hz];simp
  have cl:z≠pb:=by omega
  have bf:Kz wr wo:=by rw[bj];exact(aB.refl _ _).alloc _
  have bz:=hh (HL.out.new bf);have af:=hh (HK.out.trans bf (fun _ _ h=>h.elim));have cb:Hid (aB (fun k=>k=pb) wr wo):=bf.mono (fun _ _ h=>h.elim);have bo:=an.Q7 bo rfl;have bp:=an.Q7 bp rfl;have bu:=an.size.trans ci;have ad:Hid (aA (fun i=>i==8||(rg 123 162 i)) a1 a2):=an.m;clear bj hz bf HL HK an q0 q1 q2 q3 q4 q5;clear cm cx hl;refine so (fun a' w'=>aA (fun i=>(rg 125 146 i)) a2 a'∧aF B w' pb v P aw (say (decide (1≤x.how)&&decide (x.how≤3)&&(!decide (x.how=3)||decide (x.depth=0))) x.pos 0++((P.QC.take n).flatMap (il P)++L))∧aB (fun k=>k=pb) wo w') ?_ ?_
  ·skip
   clear ad HX;have a6:=G.c0;have Y:=G 1 _ rfl;have W:=G 2 _ rfl;have bt:=G 3 _ rfl;have a5:=G 4 _ rfl;have V:=G 5 _ rfl;clear G;obtain⟨H,y⟩:∃b,b=decide (1≤x.how):=⟨_,rfl⟩;have a9:=y.symm;obtain⟨I,C⟩:∃b,b=decide (x.how≤3):=⟨_,rfl⟩;have bb:=C.symm;obtain⟨q,l⟩:∃b,b=decide (x.how=3):=⟨_,rfl⟩;have a8:((x.how:Int)==3)=q:=by rw[l];exact eG _ _
   have bc:((x.how:Int)!=3)=!q:=by rw[l];exact iJ _ _
   obtain⟨u,g⟩:∃b,b=decide (x.depth=0):=⟨_,rfl⟩;have Z:((x.depth:Int)==0)=u:=by rw[g];exact dK _ _
   have ac:((x.depth:Int)!=0)=!u:=by rw[g];exact jz _ _
   have HS:Hid (say (decide (1≤x.how)&&decide (x.how≤3)&&(!decide (x.how=3)||decide (x.depth=0))) x.pos 0=say (((H&&I)&&(!q||u))) x.pos 0):=by rw[y,C,l,g];rfl
   clear y;clear C;clear l;clear g;have b0:=bz;have cu:=aJ;obtain⟨T,d⟩:=a2;refine rl ?_
   iterate 21 all_goals first|with_reducible refine st ?_|(cases H<;>with_reducible refine st ?_)|(cases I<;>with_reducible refine st ?_)|(cases q<;>with_reducible refine st ?_)
   all_goals
    with_reducible refine Lz (fun K hK=>?_)
    go_simp;refine(aO _ _ 0 5 b0.out rfl).mono ?_;rintro e w2 ⟨rfl,b2,b3⟩;with_reducible refine hK _ _ (ln ?_)
    refine⟨rfl,?_,?_,?_⟩
    ·exact ag
    ·have hs:=HS.out
     try simp only[bS]at hs
     rw[hs];exact b2
    ·exact b3
  rintro a3 w3 ⟨O,be,U⟩;replace G:=G.keep U b4 cl;replace b4:z<w3.heap.size:=Nat.lt_of_lt_of_le b4 U.size;replace bz:=hh be;replace af:=hh (af.out.trans U (fun _ _ e=>e));replace cb:=hh (cb.out.trans U (fun _ _ e=>e));replace bo:=O.Q7 bo rfl;replace b5:=O.Q7 b5 rfl;replace bp:=O.Q7 bp rfl;replace bu:=O.size.trans bu;replace ad:Hid (aA (fun i=>i==8||(rg 123 162 i)) a1 a3):=ad.out.t O;clear O be U;refine Code.wp_only (R:=fun a' w'=>aA (fun i=>(rg 147 162 i)) a3 a'∧aF B w' pb v P aw (say (has P.QO x.QH&&has P.QO x.to) x.pos 2++(say (decide (1≤x.how)&&decide (x.how≤3)&&(!decide (x.how=3)||decide (x.depth=0))) x.pos 0++((P.QC.take n).flatMap (il P)++L)))∧aB (fun k=>k=pb) w3 w') ?_ ?_
  ·skip
   clear ad HX;have a6:=G.c0;have Y:=G 1 _ rfl;have W:=G 2 _ rfl;have bt:=G 3 _ rfl;have a5:=G 4 _ rfl;have V:=G 5 _ rfl;have bw:=(af.out.block zb (aG bm) cv).trans bm;have m3:w3.cell? ⟨zb,3,none⟩=some (.map (some (z0+4))):=cr bw rfl;clear bw;clear G;have S:x.QH.size≤maxLen:=by have:=bx;unfold Ck.dt.Ok ae at this;unfold maxLen;omega
   have a7:x.to.size≤maxLen:=by have:=bx;unfold Ck.dt.Ok ae at this;unfold maxLen;omega
   have b1:=hF.keep (af.out.drew) (fun k e _=>by subst e;exact⟨by omega,by simp[aQ];omega⟩);have N:=ee (dB b1 3 (z0+4) P.QO rfl rfl x.QH S);obtain⟨M,E⟩:∃b,b=has P.QO x.QH:=⟨_,rfl⟩;rw[←E]at N;have X:=ee (dB b1 3 (z0+4) P.QO rfl rfl x.to a7);obtain⟨ah,J⟩:∃b,b=has P.QO x.to:=⟨_,rfl⟩;rw[←J]at X;have HS:Hid (say (has P.QO x.QH&&has P.QO x.to) x.pos 2=say ((M&&ah)) x.pos 2):=by rw[E,J];rfl
   clear b1;clear E;clear J;have b0:=hh (bz.out.new ((aB.refl _ w3).drew));have cu:=aJ;obtain⟨T,d⟩:=a3;refine wp_region_still_tail 15 (by kernel_rfl) (by kernel_rfl) ?_;simp only[List.take_succ_cons,List.take_zero,List.drop_succ_cons,List.drop_zero]
   iterate 15 all_goals first|with_reducible refine sl ?_|(cases M<;>with_reducible refine sl ?_)
   all_goals
    with_reducible refine wpStill_nil ?_;refine Lz (fun K hK=>?_)
    go_simp;refine(aO _ _ 2 80 b0.out rfl).mono ?_;rintro e w2 ⟨rfl,b2,b3⟩;with_reducible refine hK _ _ (ln ?_)
    refine⟨rfl,?_,?_,?_⟩
    ·exact ag
    ·have hs:=HS.out
     try simp only[bS]at hs
     rw[hs];exact b2
    ·exact((aB.refl _ _).drew).trans b3 (fun _ _ e=>e)
  rintro a4 w4 ⟨O,be,U⟩;refine⟨ad.out.t O,be.congr fun p=>?_,af.out.trans U (fun _ _ e=>e)⟩;rw[aP HX.out,List.flatMap_append,List.flatMap_cons,List.flatMap_nil,List.append_nil];simp only[List.mem_append,il]
  try simp only[or_assoc,or_comm,or_left_comm]
 ·rintro a' w' hA ⟨hL,hk⟩
  rw[List.take_length]at hL;exact hQ _ _ ((bd.m).t hA) hL hk
theorem nJ{v:aV}{P:aC}(h:aF B w pb v P aw L){z0 zb:Nat}{D:Nat→DataW Value}{r:Nat→ByteArray→Value}(hF:bh (z0+10) w (aQ z0) (bD P) D r)
 (c1:pb<z0)(bc:w.heap[zb]?=some (.cells (cF z0) 137 (0,0)))(c4:zb≠pb)(a:Act)(b5:a.tmps.size=441)
 (h0:At a 0 (.pointer (some ⟨pb,0,none⟩)))(h2:At a 2 (.pointer (some ⟨zb,0,none⟩)))(Q:Exit→Act→World→Prop)
 (hQ:∀a' w',aA (fun i=>i==14||(rg 192 232 i)) a a'→aF B w' pb v P aw (P.Q5.flatMap fY++L)→aB (fun k=>k=pb) w w'→Q .normal a' w'):
 (al Tryz.f49 [1,1,1,1,1,1,1,1,0]).wp Tryz.prog Q a w:=by
 have hs:=h.QL.Q5;obtain⟨A,c,hu,cy,b4,hl⟩:=hs;unfold top at b4;have cx:=h.lt;have cw:=h.base;have hq:w.cell? ⟨pb,4,none⟩=some v.Q5:=h.cell rfl;rw[hu]at hq;clear hu
 conv=>arg 2;whnf
 refine so (fun a1 w1=>aA (fun i=>i==192||i==193||i==194||i==195||i==196||i==197||i==198) a a1∧At a1 196 (.slice A P.Q5.length c)∧At a1 197 (.int .i64 P.Q5.length)∧At a1 198 (.int .i64 0)∧w1=w) ?_ ?_
 ·clear hF bc hl
  obtain⟨T,d⟩:=a;refine rl ?_
  iterate 7 with_reducible refine st ?_
  with_reducible refine ln ?_
  refine⟨rfl,ag,aq,aq,aq,rfl⟩
 rintro a0 w0 ⟨ac,cf,cd,cb,rfl⟩;have a9:a0.tmps.size=441:=ac.size.trans b5;replace h0:=ac.Q7 h0 rfl;replace h2:=ac.Q7 h2 rfl;refine ai P.Q5.length (fun i=>i==14||(rg 198 232 i)) (fun i=>i==14||(rg 200 231 i)) (fun k _ w'=>aF B w' pb v P aw ((P.Q5.take k).flatMap fY++L)∧aB (fun k=>k=pb) w0 w') (by omega) cb cd (by decide) rfl
  (by intro j;simp;omega) (by omega) (by decide) (fun k a1 a2 w hA hI=>hI) ⟨by simpa[List.take_zero]using h,aB.refl _ _⟩ ?_ ?_
 ·rintro n a1 wr a8 hA cc ⟨hL,hk⟩
  obtain⟨bl,off,rfl,b1,a7⟩:=hl (by omega);obtain⟨x,hx⟩:=ge a8;obtain⟨X,cu⟩:=(aK B _ _) _ _ _ _ _ (hk.below (B:=B) (by omega) (fun _ hi e=>by omega)) b1 (a7 n x hx);have q0:=X.c0;have q1:=X 1 _ rfl;have q2:=X 2 _ rfl;have q3:=X 3 _ rfl;have q4:=X 4 _ rfl;have q5:=X 5 _ rfl;have q6:=X 6 _ rfl;have q7:=X 7 _ rfl;have q8:=X 8 _ rfl;have q9:=X 9 _ rfl;have bd:=hA.Q7 h0 rfl;have be:=hA.Q7 h2 rfl;have bf:=hA.Q7 cf rfl;have bb:a1.tmps.size=441:=hA.size.trans a9;have cs:=hk.size;have cl:bl<wr.heap.size:=by omega
  have HX:=hh hx;have HL:=hh hL;have HK:=hh hk;have cm:n≤c:=by omega
  have HA:=hh hA;clear hx hL hk X hA a7;refine so (fun a2 w2=>aA (fun i=>i==200||i==201||i==14) a1 a2∧At a2 14 (.pointer (some ⟨wr.heap.size,0,none⟩))∧w2=wr.alloc (Obj.cells #[.int .i64 x.pos,.string x.name,.int .u64 x.size,.bool x.fixed,.int .u64 x.Q7,.bool x.big,.bool x.wx,.int .u64 x.fill,.bool x.QS,.string x.text] 48)) ?_ ?_
  ·clear hF bc
   obtain⟨T,d⟩:=a1;refine rl ?_
   iterate 4 with_reducible refine st ?_
   with_reducible refine ln ?_
   refine⟨rfl,ag,aq,rfl⟩
  rintro a2 wo ⟨W,ci,af⟩;obtain⟨z,hz⟩:∃z,z=wr.heap.size:=⟨_,rfl⟩;rw[←hz]at ci;have M:aN wo z 0 [.int .i64 x.pos,.string x.name,.int .u64 x.size,.bool x.fixed,.int .u64 x.Q7,.bool x.big,.bool x.wx,.int .u64 x.fill,.bool x.QS,.string x.text]:=by rw[af,hz];exact aX _ _ _
  have c3:z<wo.heap.size:=by rw[af,hz];simp
  have ct:z≠pb:=by omega
  have ad:Kz wr wo:=by rw[af];exact(aB.refl _ _).alloc _
  have bu:=hh (HL.out.new ad);have bt:=hh (HK.out.trans ad (fun _ _ h=>h.elim));have cv:Hid (aB (fun k=>k=pb) wr wo):=ad.mono (fun _ _ h=>h.elim);have bd:=W.Q7 bd rfl;have be:=W.Q7 be rfl;have cp:=W.size.trans bb;have a6:Hid (aA (fun i=>i==14||(rg 200 231 i)) a1 a2):=W.m;clear af hz ad HL HK W q0 q1 q2 q3 q4 q5 q6 q7 q8 q9;clear bf cc hl;refine Code.wp_only (R:=fun a' w'=>aA (fun i=>(rg 202 231 i)) a2 a'∧aF B w' pb v P aw (fY x++((P.Q5.take n).flatMap fY++L))∧aB (fun k=>k=pb) wo w') ?_ ?_
  ·skip
   clear a6 HX;have bo:=M.c0;have an:=M 1 _ rfl;have a4:=M 2 _ rfl;have O:=M 3 _ rfl;have bj:=M 4 _ rfl;have bm:=M 5 _ rfl;have bp:=M 6 _ rfl;have ah:=M 7 _ rfl;have N:=M 8 _ rfl;have a5:=M 9 _ rfl;clear M;obtain⟨J,H⟩:∃b,b=x.fixed:=⟨_,rfl⟩;rw[←H]at O;obtain⟨y,u⟩:∃b,b=decide (x.Q7=0):=⟨_,rfl⟩;have Y:((x.Q7:Int)==0)=y:=by rw[u];exact dK _ _
   have Z:((x.Q7:Int)!=0)=!y:=by rw[u];exact jz _ _
   obtain⟨G,E⟩:∃b,b=x.QS:=⟨_,rfl⟩;rw[←E]at N;obtain⟨g,q⟩:∃b,b=decide (x.text=ByteArray.empty):=⟨_,rfl⟩;have I:(x.text.toList==ByteArray.toList { data := #[] })=g:=by rw[q];exact bv _ _
   have S:(x.text.toList==[])=g:=by rw[←I,dX]
   obtain⟨C,l⟩:∃b,b=decide (x.fill=0):=⟨_,rfl⟩;have U:((x.fill:Int)==0)=C:=by rw[l];exact dK _ _
   have V:((x.fill:Int)!=0)=!C:=by rw[l];exact jz _ _
   have HS:Hid (fY x=say ((((J||y)&&(G||g))&&((!G)||C))) x.pos 0):=by rw[H,u,E,q,l];rfl
   clear H;clear u;clear E;clear q;clear l;have bw:=bu;have c2:=aJ;obtain⟨T,d⟩:=a2;refine rl ?_
   iterate 29 all_goals first|with_reducible refine st ?_|(cases J<;>with_reducible refine st ?_)|(cases y<;>with_reducible refine st ?_)|(cases G<;>with_reducible refine st ?_)|(cases g<;>with_reducible refine st ?_)
   all_goals
    with_reducible refine Lz (fun K hK=>?_)
    go_simp;refine(aO _ _ 0 5 bw.out rfl).mono ?_;rintro e w2 ⟨rfl,bz,b2⟩;with_reducible refine hK _ _ (ln ?_)
    refine⟨rfl,?_,?_,?_⟩
    ·exact ag
    ·have hs:=HS.out
     try simp only[bS]at hs
     rw[hs];exact bz
    ·exact b2
  rintro a3 w3 ⟨bx,b0,b3⟩;refine⟨a6.out.t bx,b0.congr fun p=>?_,bt.out.trans b3 (fun _ _ e=>e)⟩;rw[aP HX.out,List.flatMap_append,List.flatMap_cons,List.flatMap_nil,List.append_nil];simp only[List.mem_append,fY]
  try simp only[or_assoc,or_comm,or_left_comm]
 ·rintro a' w' hA ⟨hL,hk⟩
  rw[List.take_length]at hL;exact hQ _ _ ((ac.m).t hA) hL hk
theorem m9{v:aV}{P:aC}(h:aF B w pb v P aw L){z0 zb:Nat}{D:Nat→DataW Value}{r:Nat→ByteArray→Value}(hF:bh (z0+10) w (aQ z0) (bD P) D r)
 (d6:pb<z0)(cc:w.heap[zb]?=some (.cells (cF z0) 137 (0,0)))(c9:zb≠pb)(a:Act)(c7:a.tmps.size=441)
 (h0:At a 0 (.pointer (some ⟨pb,0,none⟩)))(h2:At a 2 (.pointer (some ⟨zb,0,none⟩)))(Q:Exit→Act→World→Prop)
 (hQ:∀a' w',aA (fun i=>i==25||(rg 328 397 i)) a a'→aF B w' pb v P aw (P.Q8.flatMap (fM P)++L)→aB (fun k=>k=pb) w w'→Q .normal a' w'):
 (al Tryz.f49 [1,1,1,1,1,1,1,1,1,1,0]).wp Tryz.prog Q a w:=by
 have hs:=h.QL.Q8;obtain⟨A,c,hu,d5,c6,hl⟩:=hs;unfold top at c6;have d4:=h.lt;have d3:=h.base;have hq:w.cell? ⟨pb,6,none⟩=some v.Q8:=h.cell rfl;rw[hu]at hq;clear hu
 conv=>arg 2;whnf
 refine so (fun a1 w1=>aA (fun i=>i==328||i==329||i==330||i==331||i==332||i==333||i==334) a a1∧At a1 332 (.slice A P.Q8.length c)∧At a1 333 (.int .i64 P.Q8.length)∧At a1 334 (.int .i64 0)∧w1=w) ?_ ?_
 ·clear hF cc hl
  obtain⟨T,d⟩:=a;refine rl ?_
  iterate 7 with_reducible refine st ?_
  with_reducible refine ln ?_
  refine⟨rfl,ag,aq,aq,aq,rfl⟩
 rintro a0 w0 ⟨b2,ds,dl,di,rfl⟩;have c1:a0.tmps.size=441:=b2.size.trans c7;replace h0:=b2.Q7 h0 rfl;replace h2:=b2.Q7 h2 rfl;refine ai P.Q8.length (fun i=>i==25||(rg 334 397 i)) (fun i=>i==25||(rg 336 396 i)) (fun k _ w'=>aF B w' pb v P aw ((P.Q8.take k).flatMap (fM P)++L)∧aB (fun k=>k=pb) w0 w') (by omega) di dl (by decide) rfl
  (by intro j;simp;omega) (by omega) (by decide) (fun k a1 a2 w hA hI=>hI) ⟨by simpa[List.take_zero]using h,aB.refl _ _⟩ ?_ ?_
 ·rintro n a1 wr cy hA dk ⟨hL,hk⟩
  obtain⟨bl,off,rfl,c5,cx⟩:=hl (by omega);obtain⟨x,hx⟩:=ge cy;obtain⟨hc,bp⟩:=(aK B _ _) _ _ _ _ _ (hk.below (B:=B) (by omega) (fun _ hi e=>by omega)) c5 (cx n x hx);have q0:=hc.c0;have q1:=hc 1 _ rfl;have q2:=hc 2 _ rfl;have q3:=hc 3 _ rfl;have q4:=hc 4 _ rfl;have q5:=hc 5 _ rfl;have q6:=hc 6 _ rfl;have q7:=hc 7 _ rfl;have cd:=hA.Q7 h0 rfl;have cf:=hA.Q7 h2 rfl;have c4:=hA.Q7 ds rfl;have c2:a1.tmps.size=441:=hA.size.trans c1;have d2:=hk.size;have d0:bl<wr.heap.size:=by omega
  have HX:=hh hx;have HL:=hh hL;have HK:=hh hk;have d1:n≤c:=by omega
  have HA:=hh hA;clear hx hL hk hc hA cx;refine so (fun a2 w2=>aA (fun i=>i==336||i==337||i==25) a1 a2∧At a2 25 (.pointer (some ⟨wr.heap.size,0,none⟩))∧w2=wr.alloc (Obj.cells #[.int .i64 x.pos,.string x.name,.string x.QH,.string x.to,.bool x.shared,.string x.over,.int .i64 x.how,.int .u64 x.QK] 55)) ?_ ?_
  ·clear hF cc
   obtain⟨T,d⟩:=a1;refine rl ?_
   iterate 4 with_reducible refine st ?_
   with_reducible refine ln ?_
   refine⟨rfl,ag,aq,rfl⟩
  rintro a2 wo ⟨bm,cv,cb⟩;obtain⟨z,hz⟩:∃z,z=wr.heap.size:=⟨_,rfl⟩;rw[←hz]at cv;have J:aN wo z 0 [.int .i64 x.pos,.string x.name,.string x.QH,.string x.to,.bool x.shared,.string x.over,.int .i64 x.how,.int .u64 x.QK]:=by rw[cb,hz];exact aX _ _ _
  have cu:z<wo.heap.size:=by rw[cb,hz];simp
  have c3:z≠pb:=by omega
  have b5:Kz wr wo:=by rw[cb];exact(aB.refl _ _).alloc _
  have cm:=hh (HL.out.new b5);have bj:=hh (HK.out.trans b5 (fun _ _ h=>h.elim));have cw:Hid (aB (fun k=>k=pb) wr wo):=b5.mono (fun _ _ h=>h.elim);have cd:=bm.Q7 cd rfl;have cf:=bm.Q7 cf rfl;have cl:=bm.size.trans c2;have bf:Hid (aA (fun i=>i==25||(rg 336 396 i)) a1 a2):=bm.m;clear cb hz b5 HL HK bm q0 q1 q2 q3 q4 q5 q6 q7;clear c4 dk hl;refine so (fun a' w'=>aA (fun i=>(rg 338 368 i)) a2 a'∧aF B w' pb v P aw (say (decide (1≤x.how)&&decide (x.how≤4)&&(x.shared||decide (x.over=ByteArray.empty))&&(decide (x.how=1)||decide (x.QK=0))) x.pos 0++((P.Q8.take n).flatMap (fM P)++L))∧aB (fun k=>k=pb) wo w') ?_ ?_
  ·skip
   clear bf HX;have bu:=J.c0;have bd:=J 1 _ rfl;have a6:=J 2 _ rfl;have ci:=J 3 _ rfl;have O:=J 4 _ rfl;have be:=J 5 _ rfl;have bt:=J 6 _ rfl;have af:=J 7 _ rfl;clear J;obtain⟨S,H⟩:∃b,b=decide (1≤x.how):=⟨_,rfl⟩;have bz:=H.symm;obtain⟨U,I⟩:∃b,b=decide (x.how≤4):=⟨_,rfl⟩;have b0:=I.symm;obtain⟨C,g⟩:∃b,b=x.shared:=⟨_,rfl⟩;rw[←g]at O;obtain⟨q,u⟩:∃b,b=decide (x.over=ByteArray.empty):=⟨_,rfl⟩;have V:(x.over.toList==ByteArray.toList { data := #[] })=q:=by rw[u];exact bv _ _
   have a9:(x.over.toList==[])=q:=by rw[←V,dX]
   obtain⟨G,y⟩:∃b,b=decide (x.how=1):=⟨_,rfl⟩;have bx:((x.how:Int)==1)=G:=by rw[y];exact eG _ _
   have b1:((x.how:Int)!=1)=!G:=by rw[y];exact iJ _ _
   obtain⟨E,l⟩:∃b,b=decide (x.QK=0):=⟨_,rfl⟩;have a8:((x.QK:Int)==0)=E:=by rw[l];exact dK _ _
   have bb:((x.QK:Int)!=0)=!E:=by rw[l];exact jz _ _
   have HS:Hid (say (decide (1≤x.how)&&decide (x.how≤4)&&(x.shared||decide (x.over=ByteArray.empty))&&(decide (x.how=1)||decide (x.QK=0))) x.pos 0=say ((((S&&U)&&(C||q))&&(G||E))) x.pos 0):=by rw[H,I,g,u,y,l];rfl
   clear H;clear I;clear g;clear u;clear y;clear l;have cp:=cm;have c8:=aJ;obtain⟨T,d⟩:=a2;refine rl ?_
   iterate 30 all_goals first|with_reducible refine st ?_|(cases S<;>with_reducible refine st ?_)|(cases U<;>with_reducible refine st ?_)|(cases C<;>with_reducible refine st ?_)|(cases q<;>with_reducible refine st ?_)|(cases G<;>with_reducible refine st ?_)
   all_goals
    with_reducible refine Lz (fun K hK=>?_)
    go_simp;refine(aO _ _ 0 5 cp.out rfl).mono ?_;rintro e w2 ⟨rfl,cs,ct⟩;with_reducible refine hK _ _ (ln ?_)
    refine⟨rfl,?_,?_,?_⟩
    ·exact ag
    ·have hs:=HS.out
     try simp only[bS]at hs
     rw[hs];exact cs
    ·exact ct
  rintro a3 w3 ⟨ad,b4,a5⟩;replace J:=J.keep a5 cu c3;replace cu:z<w3.heap.size:=Nat.lt_of_lt_of_le cu a5.size;replace cm:=hh b4;replace bj:=hh (bj.out.trans a5 (fun _ _ e=>e));replace cw:=hh (cw.out.trans a5 (fun _ _ e=>e));replace cd:=ad.Q7 cd rfl;replace cv:=ad.Q7 cv rfl;replace cf:=ad.Q7 cf rfl;replace cl:=ad.size.trans cl;replace bf:Hid (aA (fun i=>i==25||(rg 336 396 i)) a1 a3):=bf.out.t ad;clear ad b4 a5;refine Code.wp_only (R:=fun a' w'=>aA (fun i=>(rg 369 396 i)) a3 a'∧aF B w' pb v P aw (say (has P.QO x.QH&&has P.QO x.to&&(!x.shared||has P.regs x.over)) x.pos 2++(say (decide (1≤x.how)&&decide (x.how≤4)&&(x.shared||decide (x.over=ByteArray.empty))&&(decide (x.how=1)||decide (x.QK=0))) x.pos 0++((P.Q8.take n).flatMap (fM P)++L)))∧aB (fun k=>k=pb) w3 w') ?_ ?_
  ·skip
   clear bf HX;have bu:=J.c0;have bd:=J 1 _ rfl;have a6:=J 2 _ rfl;have ci:=J 3 _ rfl;have O:=J 4 _ rfl;have be:=J 5 _ rfl;have bt:=J 6 _ rfl;have af:=J 7 _ rfl;have bo:=(bj.out.block zb (aG cc) c9).trans cc;have m2:w3.cell? ⟨zb,2,none⟩=some (.map (some (z0+3))):=cr bo rfl;have m3:w3.cell? ⟨zb,3,none⟩=some (.map (some (z0+4))):=cr bo rfl;clear bo;clear J;have ah:x.QH.size≤maxLen:=by have:=bp;unfold Ck.b7.Ok ae at this;unfold maxLen;omega
   have a7:x.over.size≤maxLen:=by have:=bp;unfold Ck.b7.Ok ae at this;unfold maxLen;omega
   have bw:x.to.size≤maxLen:=by have:=bp;unfold Ck.b7.Ok ae at this;unfold maxLen;omega
   have b3:=hF.keep (bj.out.drew) (fun k e _=>by subst e;exact⟨by omega,by simp[aQ];omega⟩);have Y:=ee (dB b3 3 (z0+4) P.QO rfl rfl x.QH ah);obtain⟨X,M⟩:∃b,b=has P.QO x.QH:=⟨_,rfl⟩;rw[←M]at Y;have bc:=ee (dB b3 3 (z0+4) P.QO rfl rfl x.to bw);obtain⟨ac,W⟩:∃b,b=has P.QO x.to:=⟨_,rfl⟩;rw[←W]at bc;obtain⟨C,g⟩:∃b,b=x.shared:=⟨_,rfl⟩;rw[←g]at O;have Z:=ee (dB b3 2 (z0+3) P.regs rfl rfl x.over a7);obtain⟨an,N⟩:∃b,b=has P.regs x.over:=⟨_,rfl⟩;rw[←N]at Z;have HS:Hid (say (has P.QO x.QH&&has P.QO x.to&&(!x.shared||has P.regs x.over)) x.pos 2=say (((X&&ac)&&((!C)||an))) x.pos 2):=by rw[M,W,g,N];rfl
   clear b3;clear M;clear W;clear g;clear N;have cp:=hh (cm.out.new ((aB.refl _ w3).drew));have c8:=aJ;obtain⟨T,d⟩:=a3;refine wp_region_still_tail 27 (by kernel_rfl) (by kernel_rfl) ?_;simp only[List.take_succ_cons,List.take_zero,List.drop_succ_cons,List.drop_zero]
   iterate 27 all_goals first|with_reducible refine sl ?_|(cases X<;>with_reducible refine sl ?_)|(cases ac<;>with_reducible refine sl ?_)|(cases C<;>with_reducible refine sl ?_)
   all_goals
    with_reducible refine wpStill_nil ?_;refine Lz (fun K hK=>?_)
    go_simp;refine(aO _ _ 2 80 cp.out rfl).mono ?_;rintro e w2 ⟨rfl,cs,ct⟩;with_reducible refine hK _ _ (ln ?_)
    refine⟨rfl,?_,?_,?_⟩
    ·exact ag
    ·have hs:=HS.out
     try simp only[bS]at hs
     rw[hs];exact cs
    ·exact((aB.refl _ _).drew).trans ct (fun _ _ e=>e)
  rintro a4 w4 ⟨ad,b4,a5⟩;refine⟨bf.out.t ad,b4.congr fun p=>?_,bj.out.trans a5 (fun _ _ e=>e)⟩;rw[aP HX.out,List.flatMap_append,List.flatMap_cons,List.flatMap_nil,List.append_nil];simp only[List.mem_append,fM]
  try simp only[or_assoc,or_comm,or_left_comm]
 ·rintro a' w' hA ⟨hL,hk⟩
  rw[List.take_length]at hL;exact hQ _ _ ((b2.m).t hA) hL hk
theorem rV{v:aV}{P:aC}(h:aF B w pb v P aw L){z0 zb:Nat}{D:Nat→DataW Value}{r:Nat→ByteArray→Value}(hF:bh (z0+10) w (aQ z0) (bD P) D r)
 (cs:pb<z0)(V:w.heap[zb]?=some (.cells (cF z0) 137 (0,0)))(bz:zb≠pb)(a:Act)(bx:a.tmps.size=441)
 (h0:At a 0 (.pointer (some ⟨pb,0,none⟩)))(h2:At a 2 (.pointer (some ⟨zb,0,none⟩)))(Q:Exit→Act→World→Prop)
 (hQ:∀a' w',aA (fun i=>i==27||(rg 398 424 i)) a a'→aF B w' pb v P aw (P.QG.flatMap (p8 P)++L)→aB (fun k=>k=pb) w w'→Q .normal a' w'):
 (al Tryz.f49 [1,1,1,1,1,1,1,1,1,1,1,0]).wp Tryz.prog Q a w:=by
 have hs:=h.QL.QG;obtain⟨A,c,hu,cp,bw,hl⟩:=hs;unfold top at bw;have cm:=h.lt;have cl:=h.base;have hq:w.cell? ⟨pb,7,none⟩=some v.QG:=h.cell rfl;rw[hu]at hq;clear hu
 conv=>arg 2;whnf
 refine so (fun M w1=>aA (fun i=>i==398||i==399||i==400||i==401||i==402||i==403||i==404) a M∧At M 402 (.slice A P.QG.length c)∧At M 403 (.int .i64 P.QG.length)∧At M 404 (.int .i64 0)∧w1=w) ?_ ?_
 ·clear hF V hl
  obtain⟨T,d⟩:=a;refine rl ?_
  iterate 7 with_reducible refine st ?_
  with_reducible refine ln ?_
  refine⟨rfl,ag,aq,aq,aq,rfl⟩
 rintro a0 w0 ⟨O,b3,b2,b0,rfl⟩;have a6:a0.tmps.size=441:=O.size.trans bx;replace h0:=O.Q7 h0 rfl;replace h2:=O.Q7 h2 rfl;refine ai P.QG.length (fun i=>i==27||(rg 404 424 i)) (fun i=>i==27||(rg 406 423 i)) (fun k _ w'=>aF B w' pb v P aw ((P.QG.take k).flatMap (p8 P)++L)∧aB (fun k=>k=pb) w0 w') (by omega) b0 b2 (by decide) rfl
  (by intro j;simp;omega) (by omega) (by decide) (fun k M a2 w N hI=>hI) ⟨by simpa[List.take_zero]using h,aB.refl _ _⟩ ?_ ?_
 ·rintro n M wr a5 N b1 ⟨hL,hk⟩
  obtain⟨bl,off,rfl,bp,a4⟩:=hl (by omega);obtain⟨x,hx⟩:=ge a5;obtain⟨hc,W⟩:=(aK B _ _) _ _ _ _ _ (hk.below (B:=B) (by omega) (fun _ hi e=>by omega)) bp (a4 n x hx);have q0:=hc.c0;have q1:=hc 1 _ rfl;have q2:=hc 2 _ rfl;have q3:=hc 3 _ rfl;have q4:=hc 4 _ rfl;have q5:=hc 5 _ rfl;have a8:=N.Q7 h0 rfl;have a9:=N.Q7 h2 rfl;have bb:=N.Q7 b3 rfl;have a7:M.tmps.size=441:=N.size.trans a6;have cd:=hk.size;have b5:bl<wr.heap.size:=by omega
  have HX:=hh hx;have HL:=hh hL;have HK:=hh hk;have cb:n≤c:=by omega
  have HA:=hh N;clear hx hL hk hc N a4;refine so (fun a2 w2=>aA (fun i=>i==406||i==407||i==27) M a2∧At a2 27 (.pointer (some ⟨wr.heap.size,0,none⟩))∧w2=wr.alloc (Obj.cells #[.int .i64 x.pos,.string x.name,.string x.QH,.string x.to,.int .u64 x.QK,.bool x.masked] 58)) ?_ ?_
  ·clear hF V
   obtain⟨T,d⟩:=M;refine rl ?_
   iterate 4 with_reducible refine st ?_
   with_reducible refine ln ?_
   refine⟨rfl,ag,aq,rfl⟩
  rintro a2 Z ⟨H,b4,U⟩;obtain⟨z,hz⟩:∃z,z=wr.heap.size:=⟨_,rfl⟩;rw[←hz]at b4;have C:aN Z z 0 [.int .i64 x.pos,.string x.name,.string x.QH,.string x.to,.int .u64 x.QK,.bool x.masked]:=by rw[U,hz];exact aX _ _ _
  have cu:z<Z.heap.size:=by rw[U,hz];simp
  have cf:z≠pb:=by omega
  have S:Kz wr Z:=by rw[U];exact(aB.refl _ _).alloc _
  have be:=hh (HL.out.new S);have ac:=hh (HK.out.trans S (fun _ _ h=>h.elim));have ci:Hid (aB (fun k=>k=pb) wr Z):=S.mono (fun _ _ h=>h.elim);have a8:=H.Q7 a8 rfl;have a9:=H.Q7 a9 rfl;have cc:=H.size.trans a7;have an:Hid (aA (fun i=>i==27||(rg 406 423 i)) M a2):=H.m;clear U hz S HL HK H q0 q1 q2 q3 q4 q5;clear bb b1 hl;refine Code.wp_only (R:=fun a' w'=>aA (fun i=>(rg 408 423 i)) a2 a'∧aF B w' pb v P aw (p8 P x++((P.QG.take n).flatMap (p8 P)++L))∧aB (fun k=>k=pb) Z w') ?_ ?_
  ·skip
   clear an HX;have bc:=C.c0;have ah:=C 1 _ rfl;have af:=C 2 _ rfl;have bd:=C 3 _ rfl;have Y:=C 4 _ rfl;have X:=C 5 _ rfl;have I:=(ac.out.block zb (aG V) bz).trans V;have m1:Z.cell? ⟨zb,1,none⟩=some (.map (some (z0+2))):=cr I rfl;have m3:Z.cell? ⟨zb,3,none⟩=some (.map (some (z0+4))):=cr I rfl;clear I;clear C;have y:x.QH.size≤maxLen:=by have:=W;unfold Ck.Irq.Ok ae at this;unfold maxLen;omega
   have J:x.to.size≤maxLen:=by have:=W;unfold Ck.Irq.Ok ae at this;unfold maxLen;omega
   have ad:=hF.keep (ac.out.drew) (fun k e _=>by subst e;exact⟨by omega,by simp[aQ];omega⟩);have u:=ee (dB ad 1 (z0+2) P.QU rfl rfl x.QH y);obtain⟨q,g⟩:∃b,b=has P.QU x.QH:=⟨_,rfl⟩;rw[←g]at u;have E:=ee (dB ad 3 (z0+4) P.QO rfl rfl x.to J);obtain⟨G,l⟩:∃b,b=has P.QO x.to:=⟨_,rfl⟩;rw[←l]at E;have HS:Hid (p8 P x=say ((q&&G)) x.pos 2):=by rw[g,l];rfl
   clear ad;clear g;clear l;have bf:=hh (be.out.new ((aB.refl _ Z).drew));have ct:=aJ;obtain⟨T,d⟩:=a2;refine wp_region_still_tail 15 (by kernel_rfl) (by kernel_rfl) ?_;simp only[List.take_succ_cons,List.take_zero,List.drop_succ_cons,List.drop_zero]
   iterate 15 all_goals first|with_reducible refine sl ?_|(cases q<;>with_reducible refine sl ?_)
   all_goals
    with_reducible refine wpStill_nil ?_;refine Lz (fun K hK=>?_)
    go_simp;refine(aO _ _ 2 80 bf.out rfl).mono ?_;rintro e w2 ⟨rfl,bm,bt⟩;with_reducible refine hK _ _ (ln ?_)
    refine⟨rfl,?_,?_,?_⟩
    ·exact ag
    ·have hs:=HS.out
     try simp only[bS]at hs
     rw[hs];exact bm
    ·exact((aB.refl _ _).drew).trans bt (fun _ _ e=>e)
  rintro a3 w3 ⟨bj,bo,bu⟩;refine⟨an.out.t bj,bo.congr fun p=>?_,ac.out.trans bu (fun _ _ e=>e)⟩;rw[aP HX.out,List.flatMap_append,List.flatMap_cons,List.flatMap_nil,List.append_nil];simp only[List.mem_append,p8]
  try simp only[or_assoc,or_comm,or_left_comm]
 ·rintro a' w' N ⟨hL,hk⟩
  rw[List.take_length]at hL;exact hQ _ _ ((O.m).t N) hL hk
theorem qG{v:aV}{P:aC}(h:aF B w pb v P aw L){z0 zb:Nat}{D:Nat→DataW Value}{r:Nat→ByteArray→Value}(hF:bh (z0+10) w (aQ z0) (bD P) D r)
 (cp:pb<z0)(N:w.heap[zb]?=some (.cells (cF z0) 137 (0,0)))(bx:zb≠pb)(a:Act)(bw:a.tmps.size=441)
 (h0:At a 0 (.pointer (some ⟨pb,0,none⟩)))(h2:At a 2 (.pointer (some ⟨zb,0,none⟩))){zx:Nat}{A:Option Addr}{c:Nat}{l:List Ck.Map}(ct:At a 10 (.pointer (some ⟨zx,0,none⟩)))(hq:w.cell? ⟨zx,4,none⟩=some (.slice A l.length c))(hs:aT B 5 cD w (.slice A l.length c) l)(Q:Exit→Act→World→Prop)
 (hQ:∀a' w',aA (fun i=>i==12||(rg 174 190 i)) a a'→aF B w' pb v P aw (l.flatMap (jS P.regs)++L)→aB (fun k=>k=pb) w w'→Q .normal a' w'):
 (al Tryz.f49 [1,1,1,1,1,1,1,0,1,0,0,1,1,0,0,1]).wp Tryz.prog Q a w:=by
 have cs:=hs;obtain⟨_,_,e,cm,bu,hl⟩:=hs
 cases e
 unfold top at bu;have cl:=h.lt;have ci:=h.base
 conv=>arg 2;whnf
 refine so (fun G w1=>aA (fun i=>i==174||i==175||i==176||i==177) a G∧At G 175 (.slice A l.length c)∧At G 176 (.int .i64 l.length)∧At G 177 (.int .i64 0)∧w1=w) ?_ ?_
 ·clear hF N hl
  obtain⟨T,d⟩:=a;refine rl ?_
  iterate 4 with_reducible refine st ?_
  with_reducible refine ln ?_
  refine⟨rfl,ag,aq,aq,aq,rfl⟩
 rintro a0 w0 ⟨I,b2,b1,bz,rfl⟩;have an:a0.tmps.size=441:=I.size.trans bw;replace h0:=I.Q7 h0 rfl;replace h2:=I.Q7 h2 rfl;refine ai l.length (fun i=>i==12||(rg 177 190 i)) (fun i=>i==12||(rg 179 189 i)) (fun k _ w'=>aF B w' pb v P aw ((l.take k).flatMap (jS P.regs)++L)∧aB (fun k=>k=pb) w0 w') (by omega) bz b1 (by decide) rfl
  (by intro j;simp;omega) (by omega) (by decide) (fun k G U w H hI=>hI) ⟨by simpa[List.take_zero]using h,aB.refl _ _⟩ ?_ ?_
 ·rintro n G Z ah H b0 ⟨hL,hk⟩
  obtain⟨bl,off,rfl,bo,af⟩:=hl (by omega);obtain⟨x,hx⟩:=ge ah;obtain⟨X,a8⟩:=(aK B _ _) _ _ _ _ _ (hk.below (B:=B) (by omega) (fun _ hi e=>by omega)) bo (af n x hx);have q0:=X.c0;have q1:=X 1 _ rfl;have q2:=X 2 _ rfl;have q3:=X 3 _ rfl;have q4:=X 4 _ rfl;have a5:=H.Q7 h0 rfl;have a6:=H.Q7 h2 rfl;have a7:=H.Q7 b2 rfl;have a4:G.tmps.size=441:=H.size.trans an;have cc:=hk.size;have b4:bl<Z.heap.size:=by omega
  have HX:=hh hx;have HL:=hh hL;have HK:=hh hk;have b5:n≤c:=by omega
  have HA:=hh H;clear hx hL hk X H af;refine so (fun U w2=>aA (fun i=>i==179||i==180||i==12) G U∧At U 12 (.pointer (some ⟨Z.heap.size,0,none⟩))∧w2=Z.alloc (Obj.cells #[.int .i64 x.pos,.string x.of,.int .u64 x.Q7,.bool x.write,.bool x.exec] 71)) ?_ ?_
  ·clear hF N
   obtain⟨T,d⟩:=G;refine rl ?_
   iterate 4 with_reducible refine st ?_
   with_reducible refine ln ?_
   refine⟨rfl,ag,aq,rfl⟩
  rintro U W ⟨C,b3,M⟩;obtain⟨z,hz⟩:∃z,z=Z.heap.size:=⟨_,rfl⟩;rw[←hz]at b3;have u:aN W z 0 [.int .i64 x.pos,.string x.of,.int .u64 x.Q7,.bool x.write,.bool x.exec]:=by rw[M,hz];exact aX _ _ _
  have cu:z<W.heap.size:=by rw[M,hz];simp
  have cd:z≠pb:=by omega
  have J:Kz Z W:=by rw[M];exact(aB.refl _ _).alloc _
  have bd:=hh (HL.out.new J);have S:=hh (HK.out.trans J (fun _ _ h=>h.elim));have cf:Hid (aB (fun k=>k=pb) Z W):=J.mono (fun _ _ h=>h.elim);have a5:=C.Q7 a5 rfl;have a6:=C.Q7 a6 rfl;have cb:=C.size.trans a4;have ac:Hid (aA (fun i=>i==12||(rg 179 189 i)) G U):=C.m;clear M hz J HL HK C q0 q1 q2 q3 q4;clear a7 b0 hl;refine Code.wp_only (R:=fun a' w'=>aA (fun i=>(rg 181 189 i)) U a'∧aF B w' pb v P aw (jS P.regs x++((l.take n).flatMap (jS P.regs)++L))∧aB (fun k=>k=pb) W w') ?_ ?_
  ·skip
   clear ac HX;have bb:=u.c0;have bc:=u 1 _ rfl;have a9:=u 2 _ rfl;have V:=u 3 _ rfl;have Y:=u 4 _ rfl;have O:=(S.out.block zb (aG N) bx).trans N;have m2:W.cell? ⟨zb,2,none⟩=some (.map (some (z0+3))):=cr O rfl;clear O;clear u;have E:x.of.size≤maxLen:=by have:=a8;unfold Ck.Map.Ok ae at this;unfold maxLen;omega
   have ad:=hF.keep (S.out.drew) (fun k e _=>by subst e;exact⟨by omega,by simp[aQ];omega⟩);have q:=ee (dB ad 2 (z0+3) P.regs rfl rfl x.of E);obtain⟨y,g⟩:∃b,b=has P.regs x.of:=⟨_,rfl⟩;rw[←g]at q;have HS:Hid (jS P.regs x=say (y) x.pos 2):=by rw[g];rfl
   clear ad;clear g;have be:=hh (bd.out.new ((aB.refl _ W).drew));obtain⟨T,d⟩:=U;refine wp_region_still_tail 8 (by kernel_rfl) (by kernel_rfl) ?_;simp only[List.take_succ_cons,List.take_zero,List.drop_succ_cons,List.drop_zero]
   iterate 8 all_goals first|with_reducible refine sl ?_
   all_goals
    with_reducible refine wpStill_nil ?_;refine Lz (fun K hK=>?_)
    go_simp;refine(aO _ _ 2 80 be.out rfl).mono ?_;rintro e w2 ⟨rfl,bj,bp⟩;with_reducible refine hK _ _ (ln ?_)
    refine⟨rfl,?_,?_,?_⟩
    ·exact ag
    ·have hs:=HS.out
     try simp only[bS]at hs
     rw[hs];exact bj
    ·exact((aB.refl _ _).drew).trans bp (fun _ _ e=>e)
  rintro a3 w3 ⟨bf,bm,bt⟩;refine⟨ac.out.t bf,bm.congr fun p=>?_,S.out.trans bt (fun _ _ e=>e)⟩;rw[aP HX.out,List.flatMap_append,List.flatMap_cons,List.flatMap_nil,List.append_nil];simp only[List.mem_append,jS]
  try simp only[or_assoc,or_comm,or_left_comm]
 ·rintro a' w' H ⟨hL,hk⟩
  rw[List.take_length]at hL;exact hQ _ _ ((I.m).t H) hL hk
theorem nM{v:aV}{P:aC}(h:aF B w pb v P aw L){z0 zb:Nat}{D:Nat→DataW Value}{r:Nat→ByteArray→Value}(hF:bh (z0+10) w (aQ z0) (bD P) D r)
 (bc:pb<z0)(I:w.heap[zb]?=some (.cells (cF z0) 137 (0,0)))(ac:zb≠pb)(a:Act)(bd:a.tmps.size=441)
 (h0:At a 0 (.pointer (some ⟨pb,0,none⟩)))(h2:At a 2 (.pointer (some ⟨zb,0,none⟩)))(Q:Exit→Act→World→Prop)
 (hQ:∀a' w',aA (fun i=>i==10||i==12||(rg 164 191 i)) a a'→aF B w' pb v P aw (P.Q4.flatMap (fun x=>x.maps.flatMap (jS P.regs))++L)→aB (fun k=>k=pb) w w'→Q .normal a' w'):
 (al Tryz.f49 [1,1,1,1,1,1,1,0]).wp Tryz.prog Q a w:=by
 have hs:=h.QL.Q4;obtain⟨A,c,hu,b1,bb,hl⟩:=hs;unfold top at bb;have b0:=h.lt;have bz:=h.base;have hq:w.cell? ⟨pb,3,none⟩=some v.Q4:=h.cell rfl;rw[hu]at hq;clear hu
 conv=>arg 2;whnf
 refine so (fun y w1=>aA (fun i=>i==164||i==165||i==166||i==167||i==168||i==169||i==170) a y∧At y 168 (.slice A P.Q4.length c)∧At y 169 (.int .i64 P.Q4.length)∧At y 170 (.int .i64 0)∧w1=w) ?_ ?_
 ·clear hF I hl
  obtain⟨T,d⟩:=a;refine rl ?_
  iterate 7 with_reducible refine st ?_
  with_reducible refine ln ?_
  refine⟨rfl,ag,aq,aq,aq,rfl⟩
 rintro a0 w0 ⟨E,bo,bm,bf,rfl⟩;have X:a0.tmps.size=441:=E.size.trans bd;replace h0:=E.Q7 h0 rfl;replace h2:=E.Q7 h2 rfl;refine ai P.Q4.length (fun i=>i==10||i==12||(rg 170 191 i)) (fun i=>i==10||i==12||(rg 172 190 i)) (fun k _ w'=>aF B w' pb v P aw ((P.Q4.take k).flatMap (fun x=>x.maps.flatMap (jS P.regs))++L)∧aB (fun k=>k=pb) w0 w') (by omega) bf bm (by decide) rfl
  (by intro j;simp;omega) (by omega) (by decide) (fun k y N w C hI=>hI) ⟨by simpa[List.take_zero]using h,aB.refl _ _⟩ ?_ ?_
 ·rintro n y S W C bj ⟨U,hk⟩
  obtain⟨bl,off,rfl,a8,V⟩:=hl (by omega);obtain⟨x,hx⟩:=ge W;obtain⟨ah,O,g,bx⟩:=(eT B) _ _ _ _ _ (hk.below (B:=B) (by omega) (fun _ hi e=>by omega)) a8 (V n x hx);have l:=hh g;obtain⟨A_mapsx,b,rfl,R,u,_⟩:=g;unfold top at u;have q0:=O.c0;have q1:=O 1 _ rfl;have q2:=O 2 _ rfl;have q3:=O 3 _ rfl;have q4:=O 4 _ rfl;have K:=C.Q7 h0 rfl;have M:=C.Q7 h2 rfl;have ad:=C.Q7 bo rfl;have Y:y.tmps.size=441:=C.size.trans X;have bu:=hk.size;have bp:bl<S.heap.size:=by omega
  have HX:=hh hx;have HL:=hh U;have HK:=hh hk;have bt:n≤c:=by omega
  have HA:=hh C;clear hx U hk O C V;refine so (fun N w2=>aA (fun i=>i==172||i==173||i==10) y N∧At N 10 (.pointer (some ⟨S.heap.size,0,none⟩))∧w2=S.alloc (Obj.cells #[.int .i64 x.pos,.string x.name,.int .u64 x.Q7,.int .u64 x.size,.slice A_mapsx x.maps.length b] 45)) ?_ ?_
  ·clear hF I
   obtain⟨T,d⟩:=y;refine rl ?_
   iterate 4 with_reducible refine st ?_
   with_reducible refine ln ?_
   refine⟨rfl,ag,aq,rfl⟩
  rintro N wo ⟨q,af,H⟩;obtain⟨z,hz⟩:∃z,z=S.heap.size:=⟨_,rfl⟩;rw[←hz]at af;have be:aN wo z 0 [.int .i64 x.pos,.string x.name,.int .u64 x.Q7,.int .u64 x.size,.slice A_mapsx x.maps.length b]:=by rw[H,hz];exact aX _ _ _
  have b2:z<wo.heap.size:=by rw[H,hz];simp
  have bw:z≠pb:=by omega
  have G:Kz S wo:=by rw[H];exact(aB.refl _ _).alloc _
  have a5:=hh (HL.out.new G);have J:=hh (HK.out.trans G (fun _ _ h=>h.elim));have a4:Hid (aB (fun k=>k=pb) S wo):=G.mono (fun _ _ h=>h.elim);have K:=q.Q7 K rfl;have M:=q.Q7 M rfl;have Z:=q.size.trans Y;have an:Hid (aA (fun i=>i==10||i==12||(rg 172 190 i)) y N):=q.m;clear H hz G HL HK q q0 q1 q2 q3 q4;clear ad bj hl;refine qG a5.out (hF.keep J.out (fun k e _=>by subst e;exact⟨by omega,by simp[aQ];omega⟩)) bc ((J.out.block zb (aG I) ac).trans I) ac N Z K M af (be 4 _ rfl) (l.out.below (aK _ _ _) (a4.out.below (B:=B) (by omega) (fun _ hi e=>by omega))) _ (fun a3 w3 a6 a7 a9=>?_);refine⟨an.out.t a6,a7.congr fun p=>?_,J.out.trans a9 (fun _ _ e=>e)⟩;rw[aP HX.out,List.flatMap_append,List.flatMap_cons,List.flatMap_nil,List.append_nil];simp only[List.mem_append,List.mem_append]
  try simp only[or_assoc,or_comm,or_left_comm]
 ·rintro a' w' C ⟨U,hk⟩
  rw[List.take_length]at U;exact hQ _ _ ((E.m).t C) U hk
theorem aT.take{α:Type}{k:Nat}{R:World→Nat→Nat→α→Prop}{A:Option Addr}{xs:List α}(h:aT B k R w (.slice A xs.length c) xs){n:Nat}(r:n≤xs.length):aT B k R w (.slice A (xs.take n).length c) (xs.take n):=by
 obtain⟨_,_,e,l,p,a⟩:=h
 cases e
 have q:(xs.take n).length=n:=by rw[List.length_take];omega
 refine⟨A,c,rfl,by omega,by omega,fun j=>?_⟩;obtain⟨b,off,e,d,g⟩:=a (by omega);exact⟨b,off,e,d,fun i x hx=>g i x (by rw[List.getElem?_take]at hx;split at hx;exact hx;cases hx)⟩
def i8(P:aC)(l:List Ck.gi):List Wr:=cZ (fun r s=>[(max r.pos s.pos,1)]) l++l.flatMap (oA P)
theorem lD{P:aC}{l:List Ck.gi}{x:Ck.gi}{p:Wr}:p∈i8 P (l++[x])↔p∈i8 P l∨p∈l.flatMap (fun s=>[(max x.pos s.pos,1)])∨p∈oA P x:=by
 simp only[i8,List.mem_append,dG,List.flatMap_append,List.flatMap_cons,List.flatMap_nil,List.append_nil,List.mem_flatMap];constructor
 ·rintro((h|h)|(h|h))
  ·exact .inl (.inl h)
  ·exact .inr (.inl h)
  ·exact .inl (.inr h)
  ·exact .inr (.inr h)
 ·rintro((h|h)|(h|h))
  ·exact .inl (.inl h)
  ·exact .inr (.inl h)
  ·exact .inl (.inr h)
  ·exact .inr (.inr h)
theorem qD{v:aV}{P:aC}(h:aF B w pb v P aw L){z0 zb:Nat}{D:Nat→DataW Value}{r:Nat→ByteArray→Value}(hF:bh (z0+10) w (aQ z0) (bD P) D r)
 (cp:pb<z0)(N:w.heap[zb]?=some (.cells (cF z0) 137 (0,0)))(bx:zb≠pb)(a:Act)(bw:a.tmps.size=441)
 (h0:At a 0 (.pointer (some ⟨pb,0,none⟩)))(h2:At a 2 (.pointer (some ⟨zb,0,none⟩))){zx:Nat}{A:Option Addr}{c:Nat}{l:List Ck.Map}(ct:At a 16 (.pointer (some ⟨zx,0,none⟩)))(hq:w.cell? ⟨zx,4,none⟩=some (.slice A l.length c))(hs:aT B 5 cD w (.slice A l.length c) l)(Q:Exit→Act→World→Prop)
 (hQ:∀a' w',aA (fun i=>i==18||(rg 243 259 i)) a a'→aF B w' pb v P aw (l.flatMap (jS P.things)++L)→aB (fun k=>k=pb) w w'→Q .normal a' w'):
 (al Tryz.f49 [1,1,1,1,1,1,1,1,1,0,1,0,0,1,1,0,0,1,0]).wp Tryz.prog Q a w:=by
 have cs:=hs;obtain⟨_,_,e,cm,bu,hl⟩:=hs
 cases e
 unfold top at bu;have cl:=h.lt;have ci:=h.base
 conv=>arg 2;whnf
 refine so (fun G w1=>aA (fun i=>i==243||i==244||i==245||i==246) a G∧At G 244 (.slice A l.length c)∧At G 245 (.int .i64 l.length)∧At G 246 (.int .i64 0)∧w1=w) ?_ ?_
 ·clear hF N hl
  obtain⟨T,d⟩:=a;refine rl ?_
  iterate 4 with_reducible refine st ?_
  with_reducible refine ln ?_
  refine⟨rfl,ag,aq,aq,aq,rfl⟩
 rintro a0 w0 ⟨I,b2,b1,bz,rfl⟩;have an:a0.tmps.size=441:=I.size.trans bw;replace h0:=I.Q7 h0 rfl;replace h2:=I.Q7 h2 rfl;refine ai l.length (fun i=>i==18||(rg 246 259 i)) (fun i=>i==18||(rg 248 258 i)) (fun k _ w'=>aF B w' pb v P aw ((l.take k).flatMap (jS P.things)++L)∧aB (fun k=>k=pb) w0 w') (by omega) bz b1 (by decide) rfl
  (by intro j;simp;omega) (by omega) (by decide) (fun k G U w H hI=>hI) ⟨by simpa[List.take_zero]using h,aB.refl _ _⟩ ?_ ?_
 ·rintro n G Z ah H b0 ⟨hL,hk⟩
  obtain⟨bl,off,rfl,bo,af⟩:=hl (by omega);obtain⟨x,hx⟩:=ge ah;obtain⟨X,a8⟩:=(aK B _ _) _ _ _ _ _ (hk.below (B:=B) (by omega) (fun _ hi e=>by omega)) bo (af n x hx);have q0:=X.c0;have q1:=X 1 _ rfl;have q2:=X 2 _ rfl;have q3:=X 3 _ rfl;have q4:=X 4 _ rfl;have a5:=H.Q7 h0 rfl;have a6:=H.Q7 h2 rfl;have a7:=H.Q7 b2 rfl;have a4:G.tmps.size=441:=H.size.trans an;have cc:=hk.size;have b4:bl<Z.heap.size:=by omega
  have HX:=hh hx;have HL:=hh hL;have HK:=hh hk;have b5:n≤c:=by omega
  have HA:=hh H;clear hx hL hk X H af;refine so (fun U w2=>aA (fun i=>i==248||i==249||i==18) G U∧At U 18 (.pointer (some ⟨Z.heap.size,0,none⟩))∧w2=Z.alloc (Obj.cells #[.int .i64 x.pos,.string x.of,.int .u64 x.Q7,.bool x.write,.bool x.exec] 71)) ?_ ?_
  ·clear hF N
   obtain⟨T,d⟩:=G;refine rl ?_
   iterate 4 with_reducible refine st ?_
   with_reducible refine ln ?_
   refine⟨rfl,ag,aq,rfl⟩
  rintro U W ⟨C,b3,M⟩;obtain⟨z,hz⟩:∃z,z=Z.heap.size:=⟨_,rfl⟩;rw[←hz]at b3;have u:aN W z 0 [.int .i64 x.pos,.string x.of,.int .u64 x.Q7,.bool x.write,.bool x.exec]:=by rw[M,hz];exact aX _ _ _
  have cu:z<W.heap.size:=by rw[M,hz];simp
  have cd:z≠pb:=by omega
  have J:Kz Z W:=by rw[M];exact(aB.refl _ _).alloc _
  have bd:=hh (HL.out.new J);have S:=hh (HK.out.trans J (fun _ _ h=>h.elim));have cf:Hid (aB (fun k=>k=pb) Z W):=J.mono (fun _ _ h=>h.elim);have a5:=C.Q7 a5 rfl;have a6:=C.Q7 a6 rfl;have cb:=C.size.trans a4;have ac:Hid (aA (fun i=>i==18||(rg 248 258 i)) G U):=C.m;clear M hz J HL HK C q0 q1 q2 q3 q4;clear a7 b0 hl;refine Code.wp_only (R:=fun a' w'=>aA (fun i=>(rg 250 258 i)) U a'∧aF B w' pb v P aw (jS P.things x++((l.take n).flatMap (jS P.things)++L))∧aB (fun k=>k=pb) W w') ?_ ?_
  ·skip
   clear ac HX;have bb:=u.c0;have bc:=u 1 _ rfl;have a9:=u 2 _ rfl;have V:=u 3 _ rfl;have Y:=u 4 _ rfl;have O:=(S.out.block zb (aG N) bx).trans N;have m0:W.cell? ⟨zb,0,none⟩=some (.map (some (z0+1))):=cr O rfl;clear O;clear u;have E:x.of.size≤maxLen:=by have:=a8;unfold Ck.Map.Ok ae at this;unfold maxLen;omega
   have ad:=hF.keep (S.out.drew) (fun k e _=>by subst e;exact⟨by omega,by simp[aQ];omega⟩);have q:=ee (dB ad 0 (z0+1) P.things rfl rfl x.of E);obtain⟨y,g⟩:∃b,b=has P.things x.of:=⟨_,rfl⟩;rw[←g]at q;have HS:Hid (jS P.things x=say (y) x.pos 2):=by rw[g];rfl
   clear ad;clear g;have be:=hh (bd.out.new ((aB.refl _ W).drew));obtain⟨T,d⟩:=U;refine wp_region_still_tail 8 (by kernel_rfl) (by kernel_rfl) ?_;simp only[List.take_succ_cons,List.take_zero,List.drop_succ_cons,List.drop_zero]
   iterate 8 all_goals first|with_reducible refine sl ?_
   all_goals
    with_reducible refine wpStill_nil ?_;refine Lz (fun K hK=>?_)
    go_simp;refine(aO _ _ 2 80 be.out rfl).mono ?_;rintro e w2 ⟨rfl,bj,bp⟩;with_reducible refine hK _ _ (ln ?_)
    refine⟨rfl,?_,?_,?_⟩
    ·exact ag
    ·have hs:=HS.out
     try simp only[bS]at hs
     rw[hs];exact bj
    ·exact((aB.refl _ _).drew).trans bp (fun _ _ e=>e)
  rintro a3 w3 ⟨bf,bm,bt⟩;refine⟨ac.out.t bf,bm.congr fun p=>?_,S.out.trans bt (fun _ _ e=>e)⟩;rw[aP HX.out,List.flatMap_append,List.flatMap_cons,List.flatMap_nil,List.append_nil];simp only[List.mem_append,jS]
  try simp only[or_assoc,or_comm,or_left_comm]
 ·rintro a' w' H ⟨hL,hk⟩
  rw[List.take_length]at hL;exact hQ _ _ ((I.m).t H) hL hk
theorem qC{v:aV}{P:aC}(h:aF B w pb v P aw L){z0 zb:Nat}{D:Nat→DataW Value}{r:Nat→ByteArray→Value}(hF:bh (z0+10) w (aQ z0) (bD P) D r)
 (ct:pb<z0)(af:w.heap[zb]?=some (.cells (cF z0) 137 (0,0)))(cx:zb≠pb)(a:Act)(bu:a.tmps.size=441)
 (h0:At a 0 (.pointer (some ⟨pb,0,none⟩)))(h2:At a 2 (.pointer (some ⟨zb,0,none⟩))){zx:Nat}{A:Option Addr}{c N:Nat}{l:List Ck.gi}(cv:At a 16 (.pointer (some ⟨zx,0,none⟩)))(hq:w.cell? ⟨zx,5,none⟩=some (.slice A N c))(b3:At a 19 (.int .i64 l.length))(cm:l.length≤N)(cl:N≤c)(hs:aT B 4 eX w (.slice A l.length c) l){zy:Nat}{y:Ck.gi}(HO:Hid (∀w0,aB (fun k=>k=pb) w w0→aN w0 zy 0 [.int .i64 y.pos,.int .i64 y.how,.string y.to,.int .u64 y.QK]))(hy:At a 20 (.pointer (some ⟨zy,0,none⟩)))(Q:Exit→Act→World→Prop)
 (hQ:∀V w',aA (fun i=>i==22||(rg 268 284 i)) a V→aF B w' pb v P aw (l.flatMap (fun s=>[(max y.pos s.pos,1)])++L)→aB (fun k=>k=pb) w w'→Q .normal V w'):
 (al Tryz.f49 [1,1,1,1,1,1,1,1,1,0,1,0,0,1,1,0,0,1,1,1,0,0,1,1,0,0,1,0]).wp Tryz.prog Q a w:=by
 have cu:=hs;obtain⟨_,_,e,cs,bt,hl⟩:=hs
 cases e
 unfold top at bt;have cp:=h.lt;have ci:=h.base
 conv=>arg 2;whnf
 refine so (fun C w1=>aA (fun i=>i==268||i==269||i==270||i==271||i==272||i==273) a C∧At C 271 (.slice A l.length c)∧At C 272 (.int .i64 l.length)∧At C 273 (.int .i64 0)∧w1=w) ?_ ?_
 ·clear hF af hl
  obtain⟨T,d⟩:=a;refine rl ?_
  iterate 6 with_reducible refine st ?_
  with_reducible refine ln ?_
  refine⟨rfl,ag,aq,aq,aq,rfl⟩
 rintro a0 w0 ⟨q,b0,bz,bw,rfl⟩;have ac:a0.tmps.size=441:=q.size.trans bu;replace h0:=q.Q7 h0 rfl;replace h2:=q.Q7 h2 rfl;replace hy:=q.Q7 hy rfl;refine ai l.length (fun i=>i==22||(rg 273 284 i)) (fun i=>i==22||(rg 275 283 i)) (fun k _ w'=>aF B w' pb v P aw ((l.take k).flatMap (fun s=>[(max y.pos s.pos,1)])++L)∧aB (fun k=>k=pb) w0 w') (by omega) bw bz (by decide) rfl
  (by intro j;simp;omega) (by omega) (by decide) (fun k C O w E hI=>hI) ⟨by simpa[List.take_zero]using h,aB.refl _ _⟩ ?_ ?_
 ·rintro n C S Z E bx ⟨W,hk⟩
  obtain⟨bl,off,rfl,bm,Y⟩:=hl (by omega);obtain⟨x,hx⟩:=ge Z;obtain⟨X,cd⟩:=(aK B _ _) _ _ _ _ _ (hk.below (B:=B) (by omega) (fun _ hi e=>by omega)) bm (Y n x hx);have q0:=X.c0;have q1:=X 1 _ rfl;have q2:=X 2 _ rfl;have q3:=X 3 _ rfl;have ah:=E.Q7 h0 rfl;have an:=E.Q7 h2 rfl;have I:=E.Q7 hy rfl;have a4:=E.Q7 b0 rfl;have ad:C.tmps.size=441:=E.size.trans ac;have cb:=hk.size;have b2:bl<S.heap.size:=by omega
  have HX:=hh hx;have HL:=hh W;have HK:=hh hk;have b4:n≤c:=by omega
  have HA:=hh E;clear hx W hk X E Y;refine so (fun O w2=>aA (fun i=>i==275||i==276||i==22) C O∧At O 22 (.pointer (some ⟨S.heap.size,0,none⟩))∧w2=S.alloc (Obj.cells #[.int .i64 x.pos,.int .i64 x.how,.string x.to,.int .u64 x.QK] 85)) ?_ ?_
  ·clear hF af
   obtain⟨T,d⟩:=C;refine rl ?_
   iterate 4 with_reducible refine st ?_
   with_reducible refine ln ?_
   refine⟨rfl,ag,aq,rfl⟩
  rintro O wo ⟨b,b1,H⟩;obtain⟨z,hz⟩:∃z,z=S.heap.size:=⟨_,rfl⟩;rw[←hz]at b1;have u:aN wo z 0 [.int .i64 x.pos,.int .i64 x.how,.string x.to,.int .u64 x.QK]:=by rw[H,hz];exact aX _ _ _
  have cw:z<wo.heap.size:=by rw[H,hz];simp
  have cc:z≠pb:=by omega
  have G:Kz S wo:=by rw[H];exact(aB.refl _ _).alloc _
  have bc:=hh (HL.out.new G);have g:=hh (HK.out.trans G (fun _ _ h=>h.elim));have cf:Hid (aB (fun k=>k=pb) S wo):=G.mono (fun _ _ h=>h.elim);have ah:=b.Q7 ah rfl;have an:=b.Q7 an rfl;replace I:=b.Q7 I rfl;have b5:=b.size.trans ad;have U:Hid (aA (fun i=>i==22||(rg 275 283 i)) C O):=b.m;clear H hz G HL HK b q0 q1 q2 q3;clear a4 bx hl;refine Code.wp_only (R:=fun V w'=>aA (fun i=>(rg 277 283 i)) O V∧aF B w' pb v P aw ([(max y.pos x.pos,1)]++((l.take n).flatMap (fun s=>[(max y.pos s.pos,1)])++L))∧aB (fun k=>k=pb) wo w') ?_ ?_
  ·skip
   clear U HX;have a6:=u.c0;have a5:=u 1 _ rfl;have a9:=u 2 _ rfl;have J:=u 3 _ rfl;have a8:=(HO.out _ g.out).c0;have a7:=(HO.out _ g.out) 1 _ rfl;have bb:=(HO.out _ g.out) 2 _ rfl;have M:=(HO.out _ g.out) 3 _ rfl;clear u;have bd:=bc;obtain⟨T,d⟩:=O;refine rl ?_
   iterate 6 with_reducible refine st ?_
   with_reducible refine Lz (fun K hK=>?_)
   go_simp;refine(cW _ 1 81 bd.out rfl).mono ?_;rintro e w2 ⟨rfl,bf,bo⟩;with_reducible refine hK _ _ (ln ?_)
   refine⟨rfl,?_,?_,?_⟩
   ·exact ag
   ·refine bf.congr fun p=>?_
    rw[show(if y.pos<x.pos then x.pos else y.pos)=max y.pos x.pos from by split<;>omega];exact Iff.rfl
   ·exact bo
  rintro a3 w3 ⟨be,bj,bp⟩;refine⟨U.out.t be,bj.congr fun p=>?_,g.out.trans bp (fun _ _ e=>e)⟩;rw[aP HX.out,List.flatMap_append,List.flatMap_cons,List.flatMap_nil,List.append_nil];simp only[List.mem_append,List.mem_append]
  try simp only[or_assoc,or_comm,or_left_comm]
 ·rintro V w' E ⟨W,hk⟩
  rw[List.take_length]at W;exact hQ _ _ ((q.m).t E) W hk
theorem qE{v:aV}{P:aC}(h:aF B w pb v P aw L){z0 zb:Nat}{D:Nat→DataW Value}{r:Nat→ByteArray→Value}(hF:bh (z0+10) w (aQ z0) (bD P) D r)
 (c2:pb<z0)(bm:w.heap[zb]?=some (.cells (cF z0) 137 (0,0)))(cf:zb≠pb)(a:Act)(c4:a.tmps.size=441)
 (h0:At a 0 (.pointer (some ⟨pb,0,none⟩)))(h2:At a 2 (.pointer (some ⟨zb,0,none⟩))){zx:Nat}{A:Option Addr}{c:Nat}{l:List Ck.gi}(cd:At a 16 (.pointer (some ⟨zx,0,none⟩)))(hq:w.cell? ⟨zx,5,none⟩=some (.slice A l.length c))(hs:aT B 4 eX w (.slice A l.length c) l)(HB:Hid (∀w0,aB (fun k=>k=pb) w w0→w0.cell? ⟨zx,5,none⟩=some (.slice A l.length c)))(Q:Exit→Act→World→Prop)
 (hQ:∀a' w',aA (fun i=>i==19||i==20||i==22||i==23||(rg 260 326 i)) a a'→aF B w' pb v P aw (i8 P l++L)→aB (fun k=>k=pb) w w'→Q .normal a' w'):
 (al Tryz.f49 [1,1,1,1,1,1,1,1,1,0,1,0,0,1,1,0,0,1,1]).wp Tryz.prog Q a w:=by
 have c3:=hs;obtain⟨_,_,e,d2,c1,hl⟩:=hs
 cases e
 unfold top at c1;have d1:=h.lt;have d0:=h.base
 conv=>arg 2;whnf
 refine so (fun a1 w1=>aA (fun i=>i==260||i==261||i==262||i==263) a a1∧At a1 261 (.slice A l.length c)∧At a1 262 (.int .i64 l.length)∧At a1 263 (.int .i64 0)∧w1=w) ?_ ?_
 ·clear hF bm hl
  obtain⟨T,d⟩:=a;refine rl ?_
  iterate 4 with_reducible refine st ?_
  with_reducible refine ln ?_
  refine⟨rfl,ag,aq,aq,aq,rfl⟩
 rintro a0 w0 ⟨bt,di,c9,c7,rfl⟩;have ct:a0.tmps.size=441:=bt.size.trans c4;replace h0:=bt.Q7 h0 rfl;replace h2:=bt.Q7 h2 rfl;replace cd:=bt.Q7 cd rfl;refine ai l.length (fun i=>i==19||i==20||i==22||i==23||(rg 263 326 i)) (fun i=>i==19||i==20||i==22||i==23||(rg 265 325 i)) (fun k _ w'=>aF B w' pb v P aw (i8 P (l.take k)++L)∧aB (fun k=>k=pb) w0 w') (by omega) c7 c9 (by decide) rfl
  (by intro j;simp;omega) (by omega) (by decide) (fun k a1 a2 w hA hI=>hI) ⟨by simpa[i8,cZ]using h,aB.refl _ _⟩ ?_ ?_
 ·rintro n a1 wr cp hA c8 ⟨hL,hk⟩
  obtain⟨bl,off,rfl,cx,cm⟩:=hl (by omega);obtain⟨x,hx⟩:=ge cp;obtain⟨hc,cw⟩:=(aK B _ _) _ _ _ _ _ (hk.below (B:=B) (by omega) (fun _ hi e=>by omega)) cx (cm n x hx);have q0:=hc.c0;have q1:=hc 1 _ rfl;have q2:=hc 2 _ rfl;have q3:=hc 3 _ rfl;have ad:=hA.Q7 h0 rfl;have af:=hA.Q7 h2 rfl;have J:=hA.Q7 cd rfl;have cv:=hA.Q7 di rfl;have cu:a1.tmps.size=441:=hA.size.trans ct;have ds:=hk.size;have dk:bl<wr.heap.size:=by omega
  have HX:=hh hx;have HL:=hh hL;have HK:=hh hk;have dl:n≤c:=by omega
  have HA:=hh hA;clear hx hL hk hc hA cm;refine so (fun a2 w2=>aA (fun i=>i==265||i==266||i==267||i==20||i==19) a1 a2∧At a2 20 (.pointer (some ⟨wr.heap.size,0,none⟩))∧At a2 19 (.int .i64 n)∧w2=wr.alloc (Obj.cells #[.int .i64 x.pos,.int .i64 x.how,.string x.to,.int .u64 x.QK] 85)) ?_ ?_
  ·clear hF bm
   obtain⟨T,d⟩:=a1;refine rl ?_
   iterate 6 with_reducible refine st ?_
   with_reducible refine ln ?_
   refine⟨rfl,ag,aq,aq,rfl⟩
  rintro a2 wo ⟨bj,ah,a9,b1⟩;obtain⟨z,hz⟩:∃z,z=wr.heap.size:=⟨_,rfl⟩;rw[←hz]at ah;have M:aN wo z 0 [.int .i64 x.pos,.int .i64 x.how,.string x.to,.int .u64 x.QK]:=by rw[b1,hz];exact aX _ _ _
  have Z:z<wo.heap.size:=by rw[b1,hz];simp
  have bb:z≠pb:=by omega
  have b0:Kz wr wo:=by rw[b1];exact(aB.refl _ _).alloc _
  have a8:=hh (HL.out.new b0);have U:=hh (HK.out.trans b0 (fun _ _ h=>h.elim));have be:Hid (aB (fun k=>k=pb) wr wo):=b0.mono (fun _ _ h=>h.elim);have ad:=bj.Q7 ad rfl;have af:=bj.Q7 af rfl;replace J:=bj.Q7 J rfl;have X:=bj.size.trans cu;have ac:Hid (aA (fun i=>i==19||i==20||i==22||i==23||(rg 265 325 i)) a1 a2):=bj.m;clear b1 hz b0 HL HK bj q0 q1 q2 q3;clear cv c8 hl;have cs:(l.take n).length=n:=by rw[List.length_take];omega
  have ci:=hh (aT.take c3 (n:=n) (by omega));refine wp_seq (qC a8.out (hF.keep U.out (fun k e _=>by subst e;exact⟨by omega,by simp[aQ];omega⟩)) c2 ((U.out.block zb (aG bm) cf).trans bm) cf a2 X ad af J (HB.out _ U.out) (by rw[cs];exact a9) (by omega) (by omega) (ci.out.below (aK _ _ _) (U.out.below (B:=B) (by omega) (fun _ hi e=>by omega))) (hh fun w4 cy=>M.keep cy Z bb) ah _ (fun a3 w3 q Y I=>?_));with_reducible apply aY;clear cs ci
  replace M:=M.keep I Z bb;replace Z:z<w3.heap.size:=Nat.lt_of_lt_of_le Z I.size;replace a8:=hh Y;replace U:=hh (U.out.trans I (fun _ _ e=>e));replace be:=hh (be.out.trans I (fun _ _ e=>e));replace ad:=q.Q7 ad rfl;replace ah:=q.Q7 ah rfl;replace af:=q.Q7 af rfl;replace a9:=q.Q7 a9 rfl;replace J:=q.Q7 J rfl;replace X:=q.size.trans X;replace ac:Hid (aA (fun i=>i==19||i==20||i==22||i==23||(rg 265 325 i)) a1 a3):=ac.out.t q;clear q Y I;refine so (fun a' w'=>aA (fun i=>i==23||(rg 285 287 i)) a3 a'∧At a' 23 (.bool (decide (x.how=1)))∧w'=w3) ?_ ?_
  ·have an:=M 1 _ rfl
   have w1:(x.how==1)=decide (x.how=1):=rfl;obtain⟨T,d⟩:=a3;refine rl ?_
   iterate 4 with_reducible refine st ?_
   with_reducible refine ln ?_
   refine⟨rfl,ag,aq,rfl⟩
  rintro a4 w4 ⟨q,b2,c6⟩;subst c6;have Y:=a8.out;have I:=aB.refl (fun k=>k=pb) w4;replace M:=M.keep I Z bb;replace Z:z<w4.heap.size:=Nat.lt_of_lt_of_le Z I.size;replace a8:=hh Y;replace U:=hh (U.out.trans I (fun _ _ e=>e));replace be:=hh (be.out.trans I (fun _ _ e=>e));replace ad:=q.Q7 ad rfl;replace ah:=q.Q7 ah rfl;replace af:=q.Q7 af rfl;replace a9:=q.Q7 a9 rfl;replace J:=q.Q7 J rfl;replace X:=q.size.trans X;replace ac:Hid (aA (fun i=>i==19||i==20||i==22||i==23||(rg 265 325 i)) a1 a4):=ac.out.t q;clear q Y I;refine so (fun a' w'=>aA (fun i=>(rg 288 312 i)) a4 a'∧aF B w' pb v P aw (say (decide (1≤x.how)&&decide (x.how≤3)&&(decide (x.how=1)||decide (x.to=ByteArray.empty)&&decide (x.QK=0))) x.pos 0++((l.take n).flatMap (fun s=>[(max x.pos s.pos,1)])++(i8 P (l.take n)++L)))∧aB (fun k=>k=pb) w4 w') ?_ ?_
  ·skip
   clear ac HX;have bu:=M.c0;have an:=M 1 _ rfl;have b3:=M 2 _ rfl;have a7:=M 3 _ rfl;clear M;obtain⟨N,u⟩:∃b,b=decide (x.how=1):=⟨_,rfl⟩;rw[←u]at b2;obtain⟨O,G⟩:∃b,b=decide (1≤x.how):=⟨_,rfl⟩;have bx:=G.symm;obtain⟨S,H⟩:∃b,b=decide (x.how≤3):=⟨_,rfl⟩;have bz:=H.symm;obtain⟨y,E⟩:∃b,b=decide (x.to=ByteArray.empty):=⟨_,rfl⟩;have W:(x.to.toList==ByteArray.toList { data := #[] })=y:=by rw[E];exact bv _ _
   have bo:(x.to.toList==[])=y:=by rw[←W,dX]
   obtain⟨C,g⟩:∃b,b=decide (x.QK=0):=⟨_,rfl⟩;have bc:((x.QK:Int)==0)=C:=by rw[g];exact dK _ _
   have bd:((x.QK:Int)!=0)=!C:=by rw[g];exact jz _ _
   have HS:Hid (say (decide (1≤x.how)&&decide (x.how≤3)&&(decide (x.how=1)||decide (x.to=ByteArray.empty)&&decide (x.QK=0))) x.pos 0=say (((O&&S)&&(N||(y&&C)))) x.pos 0):=by rw[u,G,H,E,g];rfl
   clear u;clear G;clear H;clear E;clear g;have b5:=a8;have c5:=aJ;obtain⟨T,d⟩:=a4;refine rl ?_
   iterate 24 all_goals first|with_reducible refine st ?_|(cases O<;>with_reducible refine st ?_)|(cases S<;>with_reducible refine st ?_)|(cases N<;>with_reducible refine st ?_)|(cases y<;>with_reducible refine st ?_)
   all_goals
    with_reducible refine Lz (fun K hK=>?_)
    go_simp;refine(aO _ _ 0 5 b5.out rfl).mono ?_;rintro e w2 ⟨rfl,cb,cc⟩;with_reducible refine hK _ _ (ln ?_)
    refine⟨rfl,?_,?_,?_⟩
    ·exact ag
    ·have hs:=HS.out
     try simp only[bS]at hs
     rw[hs];exact cb
    ·exact cc
  rintro a5 w5 ⟨q,Y,I⟩;replace M:=M.keep I Z bb;replace Z:z<w5.heap.size:=Nat.lt_of_lt_of_le Z I.size;replace a8:=hh Y;replace U:=hh (U.out.trans I (fun _ _ e=>e));replace be:=hh (be.out.trans I (fun _ _ e=>e));replace ad:=q.Q7 ad rfl;replace ah:=q.Q7 ah rfl;replace af:=q.Q7 af rfl;replace a9:=q.Q7 a9 rfl;replace b2:=q.Q7 b2 rfl;replace J:=q.Q7 J rfl;replace X:=q.size.trans X;replace ac:Hid (aA (fun i=>i==19||i==20||i==22||i==23||(rg 265 325 i)) a1 a5):=ac.out.t q;clear q Y I;refine Code.wp_only (R:=fun a' w'=>aA (fun i=>(rg 313 325 i)) a5 a'∧aF B w' pb v P aw (say (!decide (x.how=1)||has P.QO x.to) x.pos 2++(say (decide (1≤x.how)&&decide (x.how≤3)&&(decide (x.how=1)||decide (x.to=ByteArray.empty)&&decide (x.QK=0))) x.pos 0++((l.take n).flatMap (fun s=>[(max x.pos s.pos,1)])++(i8 P (l.take n)++L))))∧aB (fun k=>k=pb) w5 w') ?_ ?_
  ·skip
   clear ac HX;have bu:=M.c0;have an:=M 1 _ rfl;have b3:=M 2 _ rfl;have a7:=M 3 _ rfl;have b4:=(U.out.block zb (aG bm) cf).trans bm;have m3:w5.cell? ⟨zb,3,none⟩=some (.map (some (z0+4))):=cr b4 rfl;clear b4;clear M;have bw:x.to.size≤maxLen:=by have:=cw;unfold Ck.gi.Ok ae at this;unfold maxLen;omega
   have cl:=hF.keep (U.out.drew) (fun k e _=>by subst e;exact⟨by omega,by simp[aQ];omega⟩);obtain⟨N,u⟩:∃b,b=decide (x.how=1):=⟨_,rfl⟩;rw[←u]at b2;have bf:=ee (dB cl 3 (z0+4) P.QO rfl rfl x.to bw);obtain⟨bp,V⟩:∃b,b=has P.QO x.to:=⟨_,rfl⟩;rw[←V]at bf;have HS:Hid (say (!decide (x.how=1)||has P.QO x.to) x.pos 2=say (((!N)||bp)) x.pos 2):=by rw[u,V];rfl
   clear cl;clear u;clear V;have b5:=hh (a8.out.new ((aB.refl _ w5).drew));have c5:=aJ;obtain⟨T,d⟩:=a5;refine wp_region_still_tail 12 (by kernel_rfl) (by kernel_rfl) ?_;simp only[List.take_succ_cons,List.take_zero,List.drop_succ_cons,List.drop_zero]
   iterate 12 all_goals first|with_reducible refine sl ?_|(cases N<;>with_reducible refine sl ?_)
   all_goals
    with_reducible refine wpStill_nil ?_;refine Lz (fun K hK=>?_)
    go_simp;refine(aO _ _ 2 80 b5.out rfl).mono ?_;rintro e w2 ⟨rfl,cb,cc⟩;with_reducible refine hK _ _ (ln ?_)
    refine⟨rfl,?_,?_,?_⟩
    ·exact ag
    ·have hs:=HS.out
     try simp only[bS]at hs
     rw[hs];exact cb
    ·exact((aB.refl _ _).drew).trans cc (fun _ _ e=>e)
  rintro a6 w6 ⟨q,Y,I⟩;refine⟨ac.out.t q,Y.congr fun p=>?_,U.out.trans I (fun _ _ e=>e)⟩;rw[aP HX.out];simp only[List.mem_append,lD,oA]
  try simp only[or_assoc,or_comm,or_left_comm]
 ·rintro a' w' hA ⟨hL,hk⟩
  rw[List.take_length]at hL;exact hQ _ _ ((bt.m).t hA) hL hk
theorem lz{v:aV}{P:aC}(h:aF B w pb v P aw L){z0 zb:Nat}{D:Nat→DataW Value}{r:Nat→ByteArray→Value}(hF:bh (z0+10) w (aQ z0) (bD P) D r)
 (bb:pb<z0)(I:w.heap[zb]?=some (.cells (cF z0) 137 (0,0)))(af:zb≠pb)(a:Act)(bt:a.tmps.size=441)
 (h0:At a 0 (.pointer (some ⟨pb,0,none⟩)))(h2:At a 2 (.pointer (some ⟨zb,0,none⟩)))(Q:Exit→Act→World→Prop)
 (hQ:∀a' w',aA (fun i=>i==16||i==18||i==19||i==20||i==22||i==23||(rg 233 327 i)) a a'→aF B w' pb v P aw (P.Q3.flatMap (fG P)++L)→aB (fun k=>k=pb) w w'→Q .normal a' w'):
 (al Tryz.f49 [1,1,1,1,1,1,1,1,1,0]).wp Tryz.prog Q a w:=by
 have hs:=h.QL.Q3;obtain⟨A,c,hu,cb,bp,hl⟩:=hs;unfold top at bp;have b5:=h.lt;have b4:=h.base;have hq:w.cell? ⟨pb,5,none⟩=some v.Q3:=h.cell rfl;rw[hu]at hq;clear hu
 conv=>arg 2;whnf
 refine so (fun N w1=>aA (fun i=>i==233||i==234||i==235||i==236||i==237||i==238||i==239) a N∧At N 237 (.slice A P.Q3.length c)∧At N 238 (.int .i64 P.Q3.length)∧At N 239 (.int .i64 0)∧w1=w) ?_ ?_
 ·clear hF I hl
  obtain⟨T,d⟩:=a;refine rl ?_
  iterate 7 with_reducible refine st ?_
  with_reducible refine ln ?_
  refine⟨rfl,ag,aq,aq,aq,rfl⟩
 rintro a0 w0 ⟨X,bz,bx,bu,rfl⟩;have bc:a0.tmps.size=441:=X.size.trans bt;replace h0:=X.Q7 h0 rfl;replace h2:=X.Q7 h2 rfl;refine ai P.Q3.length (fun i=>i==16||i==18||i==19||i==20||i==22||i==23||(rg 239 327 i)) (fun i=>i==16||i==18||i==19||i==20||i==22||i==23||(rg 241 326 i)) (fun k _ w'=>aF B w' pb v P aw ((P.Q3.take k).flatMap (fG P)++L)∧aB (fun k=>k=pb) w0 w') (by omega) bu bx (by decide) rfl
  (by intro j;simp;omega) (by omega) (by decide) (fun k N a2 w W hI=>hI) ⟨by simpa[List.take_zero]using h,aB.refl _ _⟩ ?_ ?_
 ·rintro n N wr a9 W bw ⟨hL,hk⟩
  obtain⟨bl,off,rfl,bm,a8⟩:=hl (by omega);obtain⟨x,hx⟩:=ge a9;obtain⟨bj,bf,hc,u,g,b3⟩:=(dQ B) _ _ _ _ _ (hk.below (B:=B) (by omega) (fun _ hi e=>by omega)) bm (a8 n x hx);have M:=hh u;obtain⟨A_mapsx,l,rfl,a7,R,_⟩:=u;unfold top at R;have G:=hh g;obtain⟨A_rulesx,b,rfl,a6,H,_⟩:=g;unfold top at H;have q0:=hc.c0;have q1:=hc 1 _ rfl;have q2:=hc 2 _ rfl;have q3:=hc 3 _ rfl;have q4:=hc 4 _ rfl;have q5:=hc 5 _ rfl;have J:=W.Q7 h0 rfl;have K:=W.Q7 h2 rfl;have be:=W.Q7 bz rfl;have bd:N.tmps.size=441:=W.size.trans bc;have b2:=hk.size;have b0:bl<wr.heap.size:=by omega
  have HX:=hh hx;have HL:=hh hL;have HK:=hh hk;have b1:n≤c:=by omega
  have HA:=hh W;clear hx hL hk hc W a8;refine so (fun a2 w2=>aA (fun i=>i==241||i==242||i==16) N a2∧At a2 16 (.pointer (some ⟨wr.heap.size,0,none⟩))∧w2=wr.alloc (Obj.cells #[.int .i64 x.pos,.string x.name,.int .u64 x.QP,.bool x.stopped,.slice A_mapsx x.maps.length l,.slice A_rulesx x.QR.length b] 52)) ?_ ?_
  ·clear hF I
   obtain⟨T,d⟩:=N;refine rl ?_
   iterate 4 with_reducible refine st ?_
   with_reducible refine ln ?_
   refine⟨rfl,ag,aq,rfl⟩
  rintro a2 wo ⟨O,U,ac⟩;obtain⟨z,hz⟩:∃z,z=wr.heap.size:=⟨_,rfl⟩;rw[←hz]at U;have S:aN wo z 0 [.int .i64 x.pos,.string x.name,.int .u64 x.QP,.bool x.stopped,.slice A_mapsx x.maps.length l,.slice A_rulesx x.QR.length b]:=by rw[ac,hz];exact aX _ _ _
  have ad:z<wo.heap.size:=by rw[ac,hz];simp
  have ah:z≠pb:=by omega
  have Z:Kz wr wo:=by rw[ac];exact(aB.refl _ _).alloc _
  have a5:=hh (HL.out.new Z);have y:=hh (HK.out.trans Z (fun _ _ h=>h.elim));have V:Hid (aB (fun k=>k=pb) wr wo):=Z.mono (fun _ _ h=>h.elim);have J:=O.Q7 J rfl;have K:=O.Q7 K rfl;have E:=O.size.trans bd;have an:Hid (aA (fun i=>i==16||i==18||i==19||i==20||i==22||i==23||(rg 241 326 i)) N a2):=O.m;clear ac hz Z HL HK O q0 q1 q2 q3 q4 q5;clear be bw hl;refine wp_seq (qD a5.out (hF.keep y.out (fun k e _=>by subst e;exact⟨by omega,by simp[aQ];omega⟩)) bb ((y.out.block zb (aG I) af).trans I) af a2 E J K U (S 4 _ rfl) (M.out.below (aK _ _ _) (V.out.below (B:=B) (by omega) (fun _ hi e=>by omega))) _ (fun a3 w3 q Y C=>?_));with_reducible apply aY
  replace S:=S.keep C ad ah;replace ad:z<w3.heap.size:=Nat.lt_of_lt_of_le ad C.size;replace a5:=hh Y;replace y:=hh (y.out.trans C (fun _ _ e=>e));replace V:=hh (V.out.trans C (fun _ _ e=>e));replace J:=q.Q7 J rfl;replace U:=q.Q7 U rfl;replace K:=q.Q7 K rfl;replace E:=q.size.trans E;replace an:Hid (aA (fun i=>i==16||i==18||i==19||i==20||i==22||i==23||(rg 241 326 i)) N a3):=an.out.t q;clear q Y C;refine qE a5.out (hF.keep y.out (fun k e _=>by subst e;exact⟨by omega,by simp[aQ];omega⟩)) bb ((y.out.block zb (aG I) af).trans I) af a3 E J K U (S 5 _ rfl) (G.out.below (aK _ _ _) (V.out.below (B:=B) (by omega) (fun _ hi e=>by omega))) (hh fun w4 bo=>(S.keep bo ad ah) 5 _ rfl) _ (fun a4 w4 q Y C=>?_);refine⟨an.out.t q,Y.congr fun p=>?_,y.out.trans C (fun _ _ e=>e)⟩;rw[aP HX.out,List.flatMap_append,List.flatMap_cons,List.flatMap_nil,List.append_nil];simp only[List.mem_append,fG,i8]
  try simp only[or_assoc,or_comm,or_left_comm]
 ·rintro a' w' W ⟨hL,hk⟩
  rw[List.take_length]at hL;exact hQ _ _ ((X.m).t W) hL hk
theorem qF{v:aV}{P:aC}(h:aF B w pb v P aw L){C E:Nat}{D:Nat→DataW Value}{r:Nat→ByteArray→Value}(hF:bh (C+10) w (aQ C) (bD P) D r)
 (bt:pb<C)(O:w.heap[E]?=some (.cells (cF C) 137 (0,0)))(bw:E≠pb)(a:Act)(bu:a.tmps.size=441)
 (h0:At a 0 (.pointer (some ⟨pb,0,none⟩)))(h2:At a 2 (.pointer (some ⟨E,0,none⟩)))(Q:Exit→Act→World→Prop)
 (hQ:∀X w',aA (fun i=>i==29||(rg 425 440 i)) a X→aF B w' pb v P aw (P.Q9.flatMap (fun x=>fH P x.QJ)++L)→aB (fun k=>k=pb) w w'→Q .normal X w'):
 (al Tryz.f49 [1,1,1,1,1,1,1,1,1,1,1,1]).wp Tryz.prog Q a w:=by
 have hs:=h.QL.Q9;obtain⟨A,c,hu,cl,bp,hl⟩:=hs;unfold top at bp;have ci:=h.lt;have cf:=h.base;have hq:w.cell? ⟨pb,9,none⟩=some v.Q9:=h.cell rfl;rw[hu]at hq;clear hu
 conv=>arg 2;whnf
 refine so (fun H w1=>aA (fun i=>i==425||i==426||i==427||i==428||i==429||i==430||i==431) a H∧At H 429 (.slice A P.Q9.length c)∧At H 430 (.int .i64 P.Q9.length)∧At H 431 (.int .i64 0)∧w1=w) ?_ ?_
 ·clear hF O hl
  obtain⟨T,d⟩:=a;refine rl ?_
  iterate 7 with_reducible refine st ?_
  with_reducible refine ln ?_
  refine⟨rfl,ag,aq,aq,aq,rfl⟩
 rintro a0 w0 ⟨J,b1,b0,bx,rfl⟩;have af:a0.tmps.size=441:=J.size.trans bu;replace h0:=J.Q7 h0 rfl;replace h2:=J.Q7 h2 rfl;refine ai P.Q9.length (fun i=>i==29||(rg 431 440 i)) (fun i=>i==29||(rg 433 439 i)) (fun k _ w'=>aF B w' pb v P aw ((P.Q9.take k).flatMap (fun x=>fH P x.QJ)++L)∧aB (fun k=>k=pb) w0 w') (by omega) bx b0 (by decide) rfl
  (by intro j;simp;omega) (by omega) (by decide) (fun k H U w I hI=>hI) ⟨by simpa[List.take_zero]using h,aB.refl _ _⟩ ?_ ?_
 ·rintro n H W ad I bz ⟨Y,hk⟩
  obtain⟨bl,off,rfl,bj,ac⟩:=hl (by omega);obtain⟨x,hx⟩:=ge ad;obtain⟨a7,Z,l,cd⟩:=(ek B) _ _ _ _ _ (hk.below (B:=B) (by omega) (fun _ hi e=>by omega)) bj (ac n x hx);have q:=hh l;obtain⟨A_lanesx,g,rfl,V,u,_⟩:=l;unfold top at u;have q0:=Z.c0;have q1:=Z 1 _ rfl;have q2:=Z 2 _ rfl;have q3:=Z 3 _ rfl;have a4:=I.Q7 h0 rfl;have a5:=I.Q7 h2 rfl;have a6:=I.Q7 b1 rfl;have ah:H.tmps.size=441:=I.size.trans af;have cb:=hk.size;have b3:bl<W.heap.size:=by omega
  have HX:=hh hx;have HL:=hh Y;have HK:=hh hk;have b4:n≤c:=by omega
  have HA:=hh I;clear hx Y hk Z I ac;refine so (fun U w2=>aA (fun i=>i==433||i==434||i==29) H U∧At U 29 (.pointer (some ⟨W.heap.size,0,none⟩))∧w2=W.alloc (Obj.cells #[.int .i64 x.pos,.string x.name,.int .u64 x.QN,.slice A_lanesx x.QJ.length g] 62)) ?_ ?_
  ·clear hF O
   obtain⟨T,d⟩:=H;refine rl ?_
   iterate 4 with_reducible refine st ?_
   with_reducible refine ln ?_
   refine⟨rfl,ag,aq,rfl⟩
  rintro U y ⟨G,b2,N⟩;obtain⟨z,hz⟩:∃z,z=W.heap.size:=⟨_,rfl⟩;rw[←hz]at b2;have an:aN y z 0 [.int .i64 x.pos,.string x.name,.int .u64 x.QN,.slice A_lanesx x.QJ.length g]:=by rw[N,hz];exact aX _ _ _
  have cm:z<y.heap.size:=by rw[N,hz];simp
  have cc:z≠pb:=by omega
  have M:Kz W y:=by rw[N];exact(aB.refl _ _).alloc _
  have bb:=hh (HL.out.new M);have S:=hh (HK.out.trans M (fun _ _ h=>h.elim));have a9:Hid (aB (fun k=>k=pb) W y):=M.mono (fun _ _ h=>h.elim);have a4:=G.Q7 a4 rfl;have a5:=G.Q7 a5 rfl;have b5:=G.size.trans ah;have a8:Hid (aA (fun i=>i==29||(rg 433 439 i)) H U):=G.m;clear N hz M HL HK G q0 q1 q2 q3;clear a6 bz hl;refine Code.wp_only (R:=fun X w'=>aA (fun i=>(rg 435 439 i)) U X∧aF B w' pb v P aw (fH P x.QJ++((P.Q9.take n).flatMap (fun x=>fH P x.QJ)++L))∧aB (fun k=>k=pb) y w') ?_ ?_
  ·have q3:=an 3 _ rfl
   have b:=(S.out.block E (aG O) bw).trans O;have m0:y.cell? ⟨E,0,none⟩=some (.map (some (C+1))):=cr b rfl;have m1:y.cell? ⟨E,1,none⟩=some (.map (some (C+2))):=cr b rfl;have m2:y.cell? ⟨E,2,none⟩=some (.map (some (C+3))):=cr b rfl;have m3:y.cell? ⟨E,3,none⟩=some (.map (some (C+4))):=cr b rfl;have m4:y.cell? ⟨E,4,none⟩=some (.map (some (C+5))):=cr b rfl;have m5:y.cell? ⟨E,5,none⟩=some (.map (some (C+6))):=cr b rfl;have m6:y.cell? ⟨E,6,none⟩=some (.map (some (C+7))):=cr b rfl;have m7:y.cell? ⟨E,7,none⟩=some (.map (some (C+8))):=cr b rfl;clear b an;obtain⟨T,d⟩:=U;refine rl ?_
   iterate 4 with_reducible refine st ?_
   with_reducible refine Lz (fun K hK=>?_)
   go_simp;have bd:=hF.keep S.out (fun k e _=>by subst e;exact⟨by omega,by simp[aQ];omega⟩);refine(vI bb.out bd bt (q.out.below (ca B) (a9.out.below (B:=B) (by omega) (fun _ hi e=>by omega)))).mono ?_;rintro e w2 ⟨rfl,be,bm⟩;with_reducible refine hK _ _ (ln ?_)
   refine⟨rfl,ag,be,bm⟩
  rintro a3 w3 ⟨bc,bf,bo⟩;refine⟨a8.out.t bc,bf.congr fun p=>?_,S.out.trans bo (fun _ _ e=>e)⟩;rw[aP HX.out,List.flatMap_append,List.flatMap_cons,List.flatMap_nil,List.append_nil];simp only[List.mem_append,List.mem_append]
  try simp only[or_assoc,or_comm,or_left_comm]
 ·rintro X w' I ⟨Y,hk⟩
  rw[List.take_length]at Y;exact hQ _ _ ((J.m).t I) Y hk
theorem dD{α:Type}{k:Nat}{R:World→Nat→Nat→α→Prop}{xs:List α}{Q:α→Prop}(h:aT B k R w v xs)(j:∀b o x,R w b o x→Q x):∀x∈xs,Q x:=by
 intro x hx;obtain⟨A,c,e,_,_,g⟩:=h;obtain⟨i,a⟩:=List.getElem?_of_mem hx;obtain⟨b,off,_,_,d⟩:=g (by have:=(List.getElem?_eq_some_iff.1 a).1;omega);exact j _ _ _ (d i x a)
def zG(f:List Nm):Prop:=f.length≤4194304∧∀x∈f,ae x.1
theorem xf{v:aV}{P:aC}(h:cX B w v P):∀f∈bD P,zG f:=by
 have e:∀x∈P.Q4,ae x.name:=dD h.Q4 fun b o x hx=>by obtain⟨_,_,_,_,_,_,h⟩:=hx;exact h
 have g:∀x∈P.Q5,ae x.name:=dD h.Q5 fun b o x hx=>hx.2.2.2.2.2.1
 have i:∀x∈P.Q3,ae x.name:=dD h.Q3 fun b o x hx=>by obtain⟨_,_,_,_,_,_,_,h⟩:=hx;exact h
 have j:∀x∈P.Q8,ae x.name:=dD h.Q8 fun b o x hx=>hx.2.2.2.2.1
 have l:∀x∈P.QG,ae x.name:=dD h.QG fun b o x hx=>hx.2.2.2.1
 have n:∀x∈P.QC,ae x.name:=dD h.QC fun b o x hx=>hx.2.2.2.2.1
 have p:∀x∈P.Q9,ae x.name:=dD h.Q9 fun b o x hx=>by obtain⟨_,_,_,_,_,h⟩:=hx;exact h
 have q:P.Q4.length≤2097152:=by obtain⟨_,_,_,_,b,_⟩:=h.Q4;exact b
 have r:P.Q5.length≤2097152:=by obtain⟨_,_,_,_,b,_⟩:=h.Q5;exact b
 have u:P.Q3.length≤2097152:=by obtain⟨_,_,_,_,b,_⟩:=h.Q3;exact b
 have A:P.Q8.length≤2097152:=by obtain⟨_,_,_,_,b,_⟩:=h.Q8;exact b
 have C:P.QG.length≤2097152:=by obtain⟨_,_,_,_,b,_⟩:=h.QG;exact b
 have D:P.QC.length≤2097152:=by obtain⟨_,_,_,_,b,_⟩:=h.QC;exact b
 have E:P.Q9.length≤2097152:=by obtain⟨_,_,_,_,b,_⟩:=h.Q9;exact b
 intro f d;simp only[bD,List.mem_cons,List.mem_nil_iff,or_false]at d
 rcases d with rfl|rfl|rfl|rfl|rfl|rfl|rfl|rfl
 ·refine⟨by simp[aC.things,aC.QU,aC.regs];omega,fun x hx=>?_⟩
  simp only[aC.things,aC.QU,aC.regs,List.mem_append,List.mem_map]at hx
  rcases hx with⟨y,a,rfl⟩|⟨y,a,rfl⟩
  ·exact e y a
  ·exact g y a
 ·exact⟨by simp[aC.QU];omega,fun x hx=>by simp only[aC.QU,List.mem_map]at hx;obtain⟨y,a,rfl⟩:=hx;exact e y a⟩
 ·exact⟨by simp[aC.regs];omega,fun x hx=>by simp only[aC.regs,List.mem_map]at hx;obtain⟨y,a,rfl⟩:=hx;exact g y a⟩
 ·exact⟨by simp[aC.QO];omega,fun x hx=>by simp only[aC.QO,List.mem_map]at hx;obtain⟨y,a,rfl⟩:=hx;exact i y a⟩
 ·exact⟨by simp[aC.chans];omega,fun x hx=>by simp only[aC.chans,List.mem_map]at hx;obtain⟨y,a,rfl⟩:=hx;exact j y a⟩
 ·exact⟨by simp[aC.irqn];omega,fun x hx=>by simp only[aC.irqn,List.mem_map]at hx;obtain⟨y,a,rfl⟩:=hx;exact l y a⟩
 ·exact⟨by simp[aC.ques];omega,fun x hx=>by simp only[aC.ques,List.mem_map]at hx;obtain⟨y,a,rfl⟩:=hx;exact n y a⟩
 ·exact⟨by simp[aC.plns];omega,fun x hx=>by simp only[aC.plns,List.mem_map]at hx;obtain⟨y,a,rfl⟩:=hx;exact p y a⟩
def dx(named:ByteArray→Bool)(P:aC)(is:List Nat):List Wr:=is.flatMap fun i=>fb named ((bD P).getD i [])
theorem ox{v:aV}{P:aC}(h:aF B w pb v P aw L){b g:Nat}{D:Nat→DataW Value}{r:Nat→ByteArray→Value}(C:bh (b+10) w (aQ b) (bD P) D r)
 (I:pb<b)(q:w.heap[g]?=some (.cells (cF b) 137 (0,0)))(M:g≠pb)(a:Act)(J:a.tmps.size=441)
 (N:At a 0 (.pointer (some ⟨pb,0,none⟩)))(O:At a 2 (.pointer (some ⟨g,0,none⟩)))(Q:Exit→Act→World→Prop)
 (G:∀x w',aA (fun i=>(rg 54 62 i)) a x→aF B w' pb v P aw (ed P.QE P.plns++L)→aB (fun k=>k=pb) w w'→Q .normal x w'):
 (al Tryz.f49 [1,1,0]).wp Tryz.prog Q a w:=by
 have H:=h.lt;obtain⟨u,p⟩:∃u,u=v.QE:=⟨_,rfl⟩;have n:=h.QL.QE;rw[←p]at n;have R:w.cell? ⟨pb,11,none⟩=some u:=by rw[p];exact h.cell rfl
 have S:w.cell? ⟨g,7,none⟩=some (.map (some (b+8))):=cr q rfl;have y:=(kT (h.new ((aB.refl _ w).drew)) (C.keep ((aB.refl (fun _=>False) w).drew) (fun _ h=>h.elim)) 7 _ _ rfl rfl ⟨by omega,by simp[aQ];omega⟩ (n.below (aK _ _ _) ((aB.refl (fun _=>False) w).drew.below (B:=B) (by have:=h.base;omega) (fun _ _ e=>e))));have A:=hh y;clear y p n
 conv=>arg 2;whnf
 obtain⟨T,d⟩:=a;refine wp_region_still_tail 8 (by kernel_rfl) (by kernel_rfl) ?_;simp only[List.take_succ_cons,List.take_zero,List.drop_succ_cons,List.drop_zero]
 iterate 8 with_reducible refine sl ?_
 with_reducible refine wpStill_nil ?_;refine Lz (fun K E=>?_)
 go_simp;refine A.out.mono ?_;rintro e U ⟨rfl,j,l⟩;with_reducible refine E _ _ (ln ?_)
 refine G _ _ ?_ j (((aB.refl _ _).drew).trans l (fun _ _ e=>e));exact ag
theorem nK{v:aV}{P:aC}(h:aF B w pb v P aw L){b g:Nat}{D:Nat→DataW Value}{r:Nat→ByteArray→Value}(C:bh (b+10) w (aQ b) (bD P) D r)
 (I:pb<b)(q:w.heap[g]?=some (.cells (cF b) 137 (0,0)))(M:g≠pb)(a:Act)(J:a.tmps.size=441)
 (N:At a 0 (.pointer (some ⟨pb,0,none⟩)))(O:At a 2 (.pointer (some ⟨g,0,none⟩)))(Q:Exit→Act→World→Prop)
 (G:∀x w',aA (fun i=>(rg 63 71 i)) a x→aF B w' pb v P aw (ed P.QD P.QO++L)→aB (fun k=>k=pb) w w'→Q .normal x w'):
 (al Tryz.f49 [1,1,1,0]).wp Tryz.prog Q a w:=by
 have H:=h.lt;obtain⟨u,p⟩:∃u,u=v.QD:=⟨_,rfl⟩;have n:=h.QL.QD;rw[←p]at n;have R:w.cell? ⟨pb,10,none⟩=some u:=by rw[p];exact h.cell rfl
 have S:w.cell? ⟨g,3,none⟩=some (.map (some (b+4))):=cr q rfl;have y:=(kT (h.new ((aB.refl _ w).drew)) (C.keep ((aB.refl (fun _=>False) w).drew) (fun _ h=>h.elim)) 3 _ _ rfl rfl ⟨by omega,by simp[aQ];omega⟩ (n.below (aK _ _ _) ((aB.refl (fun _=>False) w).drew.below (B:=B) (by have:=h.base;omega) (fun _ _ e=>e))));have A:=hh y;clear y p n
 conv=>arg 2;whnf
 obtain⟨T,d⟩:=a;refine wp_region_still_tail 8 (by kernel_rfl) (by kernel_rfl) ?_;simp only[List.take_succ_cons,List.take_zero,List.drop_succ_cons,List.drop_zero]
 iterate 8 with_reducible refine sl ?_
 with_reducible refine wpStill_nil ?_;refine Lz (fun K E=>?_)
 go_simp;refine A.out.mono ?_;rintro e U ⟨rfl,j,l⟩;with_reducible refine E _ _ (ln ?_)
 refine G _ _ ?_ j (((aB.refl _ _).drew).trans l (fun _ _ e=>e));exact ag
theorem m8{v:aV}{P:aC}(h:aF B w pb v P aw L){b g:Nat}{D:Nat→DataW Value}{r:Nat→ByteArray→Value}(C:bh (b+10) w (aQ b) (bD P) D r)
 (I:pb<b)(q:w.heap[g]?=some (.cells (cF b) 137 (0,0)))(M:g≠pb)(a:Act)(J:a.tmps.size=441)
 (N:At a 0 (.pointer (some ⟨pb,0,none⟩)))(O:At a 2 (.pointer (some ⟨g,0,none⟩)))(Q:Exit→Act→World→Prop)
 (G:∀x w',aA (fun i=>(rg 72 80 i)) a x→aF B w' pb v P aw (ed P.QB P.QO++L)→aB (fun k=>k=pb) w w'→Q .normal x w'):
 (al Tryz.f49 [1,1,1,1,0]).wp Tryz.prog Q a w:=by
 have H:=h.lt;obtain⟨u,p⟩:∃u,u=v.QB:=⟨_,rfl⟩;have n:=h.QL.QB;rw[←p]at n;have R:w.cell? ⟨pb,12,none⟩=some u:=by rw[p];exact h.cell rfl
 have S:w.cell? ⟨g,3,none⟩=some (.map (some (b+4))):=cr q rfl;have y:=(kT (h.new ((aB.refl _ w).drew)) (C.keep ((aB.refl (fun _=>False) w).drew) (fun _ h=>h.elim)) 3 _ _ rfl rfl ⟨by omega,by simp[aQ];omega⟩ (n.below (aK _ _ _) ((aB.refl (fun _=>False) w).drew.below (B:=B) (by have:=h.base;omega) (fun _ _ e=>e))));have A:=hh y;clear y p n
 conv=>arg 2;whnf
 obtain⟨T,d⟩:=a;refine wp_region_still_tail 8 (by kernel_rfl) (by kernel_rfl) ?_;simp only[List.take_succ_cons,List.take_zero,List.drop_succ_cons,List.drop_zero]
 iterate 8 with_reducible refine sl ?_
 with_reducible refine wpStill_nil ?_;refine Lz (fun K E=>?_)
 go_simp;refine A.out.mono ?_;rintro e U ⟨rfl,j,l⟩;with_reducible refine E _ _ (ln ?_)
 refine G _ _ ?_ j (((aB.refl _ _).drew).trans l (fun _ _ e=>e));exact ag
theorem ow{v:aV}{P:aC}{named:ByteArray→Bool}(hN:ex B named)(h:aF B w pb v P aw L){g zb:Nat}{D:Nat→DataW Value}{r:Nat→ByteArray→Value}(hF:bh (g+10) w (aQ g) (bD P) D r)
 (bw:pb<g)(O:w.heap[zb]?=some (.cells (cF g) 137 (0,0)))(bx:zb≠pb)(a:Act)(bf:a.tmps.size=441)
 (h0:At a 0 (.pointer (some ⟨pb,0,none⟩)))(h2:At a 2 (.pointer (some ⟨zb,0,none⟩)))(Q:Exit→Act→World→Prop)
 (hQ:∀a' w',aA (fun i=>i==4||(rg 32 53 i)) a a'→aF B w' pb v P aw (dx named P [0,3,4,5,6,7]++L)→aB (fun k=>k=pb) w w'→Q .normal a' w'):
 (al Tryz.f49 [1,0]).wp Tryz.prog Q a w:=by
 have bu:=h.lt;have bt:=h.base;have an:=xf h.QL;have m0:w.cell? ⟨zb,0,none⟩=some (.map (some (g+1))):=cr O rfl;have m3:w.cell? ⟨zb,3,none⟩=some (.map (some (g+4))):=cr O rfl;have m4:w.cell? ⟨zb,4,none⟩=some (.map (some (g+5))):=cr O rfl;have m5:w.cell? ⟨zb,5,none⟩=some (.map (some (g+6))):=cr O rfl;have m6:w.cell? ⟨zb,6,none⟩=some (.map (some (g+7))):=cr O rfl;have m7:w.cell? ⟨zb,7,none⟩=some (.map (some (g+8))):=cr O rfl
 conv=>arg 2;whnf
 refine so (fun I w1=>aA (fun i=>(rg 32 46 i)) a I∧At I 44 (.slice (some ⟨w.heap.size,0,none⟩) 6 6)∧At I 45 (.int .i64 (6:Nat))∧At I 46 (.int .i64 0)∧w1=w.alloc (.cells #[.map (some (g+1)),.map (some (g+4)),.map (some (g+5)),.map (some (g+6)),.map (some (g+7)),.map (some (g+8))] 135)) ?_ ?_
 ·clear hN hF an O
  obtain⟨T,d⟩:=a;refine rl ?_
  iterate 15 with_reducible refine st ?_
  with_reducible refine ln ?_
  refine⟨rfl,?_,?_,?_,?_,?_⟩
  ·exact ag
  ·exact aq
  ·show At _ 45 (.int .i64 6)
   exact aq
  ·exact aq
  ·rfl
 rintro a0 w1 ⟨af,bd,bm,bl,ad⟩;have ah:Kz w w1:=by rw[ad];exact(aB.refl _ _).alloc _
 obtain⟨z,hz⟩:∃z,z=w.heap.size:=⟨_,rfl⟩;rw[←hz]at bd;have a8:aN w1 z 0 [.map (some (g+1)),.map (some (g+4)),.map (some (g+5)),.map (some (g+6)),.map (some (g+7)),.map (some (g+8))]:=by rw[ad,hz];exact aX _ _ _
 have bb:z<w1.heap.size:=by rw[ad,hz];simp
 have bc:z≠pb:=by omega
 have a5:=h.new ah;have a7:=af.size.trans bf;have bj:=af.Q7 h0 rfl;clear ad hz m0 m3 m4 m5 m6 m7;refine ai 6 (fun i=>i==4||(rg 46 53 i)) (fun i=>i==4||(rg 48 52 i)) (fun k _ w'=>aF B w' pb v P aw (dx named P (([0,3,4,5,6,7]:List Nat).take k)++L)∧aB (fun k=>k=pb) w1 w') (by omega) bl bm (by decide) rfl
  (by intro j;simp;omega) (by omega) (by decide) (fun k I l w hA hI=>hI) ⟨by simpa[dx]using a5,aB.refl _ _⟩ ?_ ?_
 ·rintro n I S bo hA W ⟨hL,hk⟩
  have a6:aB (fun k=>k=pb) w S:=(ah.mono (fun _ _ h=>h.elim)).trans hk (fun _ _ e=>e);have a9:=a8.keep hk bb bc;have a4:=hF.keep a6 (fun k e _=>by subst e;exact⟨by omega,by simp[aQ];omega⟩);have H:=hA.size.trans a7;have bz:z<S.heap.size:=Nat.lt_of_lt_of_le bb hk.size;have U:=hA.Q7 bj rfl;have V:=hA.Q7 bd rfl;have HL:=hh hL;have HK:=hh hk;have HN:=hh hN;have HF:=hh a4;have HX:=hh a9;have q:=hh an;have bp:=hh hA;clear hL hk hN a4 hF a8 a9 an hA a6 a5 h;have be:n=0∨n=1∨n=2∨n=3∨n=4∨n=5:=by omega
  rcases be with rfl|rfl|rfl|rfl|rfl|rfl
  ·have q0:S.cell? ⟨z,0,none⟩=some (.map (some (g+1))):=by have:=HX.out 0 _ rfl;simpa using this
   refine so (fun l E=>aA (fun i=>i==48||i==49||i==4) I l∧At l 4 (.map (some (g+1)))∧E=S) ?_ ?_
   ·obtain⟨T,d⟩:=I
    refine rl ?_
    iterate 3 with_reducible refine st ?_
    with_reducible refine ln ?_
    refine⟨rfl,ag,aq,rfl⟩
   rintro l E ⟨b,ac,rfl⟩;have Z:=b.Q7 U rfl;have N:=b.size.trans H;refine Code.wp_only (R:=fun J G=>aA (fun i=>i==50||i==51||i==52) l J∧aF B G pb v P aw (fb named ((bD P).getD 0 [])++(dx named P (([0,3,4,5,6,7]:List Nat).take 0)++L))∧aB (fun k=>k=pb) E G) ?_ ?_
   ·have M:=fg HN.out HL.out HF.out 0 (g+1) _ rfl rfl ⟨by omega,by simp[aQ];omega⟩ (q.out _ (by simp[bD])).1 (q.out _ (by simp[bD])).2
    have X:=hh M;clear M b q0 W V;obtain⟨T,d⟩:=l;refine rl ?_
    iterate 2 with_reducible refine st ?_
    with_reducible refine Lz (fun K Y=>?_)
    go_simp;refine X.out.mono ?_;rintro e w4 ⟨rfl,x,A⟩;with_reducible refine Y _ _ (ln ?_)
    refine⟨rfl,?_,x,A⟩;exact ag
   rintro J G ⟨u,y,C⟩;refine⟨(b.m).t u,y.congr fun p=>?_,HK.out.trans C (fun _ _ e=>e)⟩;simp[dx,or_assoc,or_comm,or_left_comm]
  ·have q0:S.cell? ⟨z,1,none⟩=some (.map (some (g+4))):=by have:=HX.out 1 _ rfl;simpa using this
   refine so (fun l E=>aA (fun i=>i==48||i==49||i==4) I l∧At l 4 (.map (some (g+4)))∧E=S) ?_ ?_
   ·obtain⟨T,d⟩:=I
    refine rl ?_
    iterate 3 with_reducible refine st ?_
    with_reducible refine ln ?_
    refine⟨rfl,ag,aq,rfl⟩
   rintro l E ⟨b,ac,rfl⟩;have Z:=b.Q7 U rfl;have N:=b.size.trans H;refine Code.wp_only (R:=fun J G=>aA (fun i=>i==50||i==51||i==52) l J∧aF B G pb v P aw (fb named ((bD P).getD 3 [])++(dx named P (([0,3,4,5,6,7]:List Nat).take 1)++L))∧aB (fun k=>k=pb) E G) ?_ ?_
   ·have M:=fg HN.out HL.out HF.out 3 (g+4) _ rfl rfl ⟨by omega,by simp[aQ];omega⟩ (q.out _ (by simp[bD])).1 (q.out _ (by simp[bD])).2
    have X:=hh M;clear M b q0 W V;obtain⟨T,d⟩:=l;refine rl ?_
    iterate 2 with_reducible refine st ?_
    with_reducible refine Lz (fun K Y=>?_)
    go_simp;refine X.out.mono ?_;rintro e w4 ⟨rfl,x,A⟩;with_reducible refine Y _ _ (ln ?_)
    refine⟨rfl,?_,x,A⟩;exact ag
   rintro J G ⟨u,y,C⟩;refine⟨(b.m).t u,y.congr fun p=>?_,HK.out.trans C (fun _ _ e=>e)⟩;simp[dx,or_assoc,or_comm,or_left_comm]
  ·have q0:S.cell? ⟨z,2,none⟩=some (.map (some (g+5))):=by have:=HX.out 2 _ rfl;simpa using this
   refine so (fun l E=>aA (fun i=>i==48||i==49||i==4) I l∧At l 4 (.map (some (g+5)))∧E=S) ?_ ?_
   ·obtain⟨T,d⟩:=I
    refine rl ?_
    iterate 3 with_reducible refine st ?_
    with_reducible refine ln ?_
    refine⟨rfl,ag,aq,rfl⟩
   rintro l E ⟨b,ac,rfl⟩;have Z:=b.Q7 U rfl;have N:=b.size.trans H;refine Code.wp_only (R:=fun J G=>aA (fun i=>i==50||i==51||i==52) l J∧aF B G pb v P aw (fb named ((bD P).getD 4 [])++(dx named P (([0,3,4,5,6,7]:List Nat).take 2)++L))∧aB (fun k=>k=pb) E G) ?_ ?_
   ·have M:=fg HN.out HL.out HF.out 4 (g+5) _ rfl rfl ⟨by omega,by simp[aQ];omega⟩ (q.out _ (by simp[bD])).1 (q.out _ (by simp[bD])).2
    have X:=hh M;clear M b q0 W V;obtain⟨T,d⟩:=l;refine rl ?_
    iterate 2 with_reducible refine st ?_
    with_reducible refine Lz (fun K Y=>?_)
    go_simp;refine X.out.mono ?_;rintro e w4 ⟨rfl,x,A⟩;with_reducible refine Y _ _ (ln ?_)
    refine⟨rfl,?_,x,A⟩;exact ag
   rintro J G ⟨u,y,C⟩;refine⟨(b.m).t u,y.congr fun p=>?_,HK.out.trans C (fun _ _ e=>e)⟩;simp[dx,or_assoc,or_comm,or_left_comm]
  ·have q0:S.cell? ⟨z,3,none⟩=some (.map (some (g+6))):=by have:=HX.out 3 _ rfl;simpa using this
   refine so (fun l E=>aA (fun i=>i==48||i==49||i==4) I l∧At l 4 (.map (some (g+6)))∧E=S) ?_ ?_
   ·obtain⟨T,d⟩:=I
    refine rl ?_
    iterate 3 with_reducible refine st ?_
    with_reducible refine ln ?_
    refine⟨rfl,ag,aq,rfl⟩
   rintro l E ⟨b,ac,rfl⟩;have Z:=b.Q7 U rfl;have N:=b.size.trans H;refine Code.wp_only (R:=fun J G=>aA (fun i=>i==50||i==51||i==52) l J∧aF B G pb v P aw (fb named ((bD P).getD 5 [])++(dx named P (([0,3,4,5,6,7]:List Nat).take 3)++L))∧aB (fun k=>k=pb) E G) ?_ ?_
   ·have M:=fg HN.out HL.out HF.out 5 (g+6) _ rfl rfl ⟨by omega,by simp[aQ];omega⟩ (q.out _ (by simp[bD])).1 (q.out _ (by simp[bD])).2
    have X:=hh M;clear M b q0 W V;obtain⟨T,d⟩:=l;refine rl ?_
    iterate 2 with_reducible refine st ?_
    with_reducible refine Lz (fun K Y=>?_)
    go_simp;refine X.out.mono ?_;rintro e w4 ⟨rfl,x,A⟩;with_reducible refine Y _ _ (ln ?_)
    refine⟨rfl,?_,x,A⟩;exact ag
   rintro J G ⟨u,y,C⟩;refine⟨(b.m).t u,y.congr fun p=>?_,HK.out.trans C (fun _ _ e=>e)⟩;simp[dx,or_assoc,or_comm,or_left_comm]
  ·have q0:S.cell? ⟨z,4,none⟩=some (.map (some (g+7))):=by have:=HX.out 4 _ rfl;simpa using this
   refine so (fun l E=>aA (fun i=>i==48||i==49||i==4) I l∧At l 4 (.map (some (g+7)))∧E=S) ?_ ?_
   ·obtain⟨T,d⟩:=I
    refine rl ?_
    iterate 3 with_reducible refine st ?_
    with_reducible refine ln ?_
    refine⟨rfl,ag,aq,rfl⟩
   rintro l E ⟨b,ac,rfl⟩;have Z:=b.Q7 U rfl;have N:=b.size.trans H;refine Code.wp_only (R:=fun J G=>aA (fun i=>i==50||i==51||i==52) l J∧aF B G pb v P aw (fb named ((bD P).getD 6 [])++(dx named P (([0,3,4,5,6,7]:List Nat).take 4)++L))∧aB (fun k=>k=pb) E G) ?_ ?_
   ·have M:=fg HN.out HL.out HF.out 6 (g+7) _ rfl rfl ⟨by omega,by simp[aQ];omega⟩ (q.out _ (by simp[bD])).1 (q.out _ (by simp[bD])).2
    have X:=hh M;clear M b q0 W V;obtain⟨T,d⟩:=l;refine rl ?_
    iterate 2 with_reducible refine st ?_
    with_reducible refine Lz (fun K Y=>?_)
    go_simp;refine X.out.mono ?_;rintro e w4 ⟨rfl,x,A⟩;with_reducible refine Y _ _ (ln ?_)
    refine⟨rfl,?_,x,A⟩;exact ag
   rintro J G ⟨u,y,C⟩;refine⟨(b.m).t u,y.congr fun p=>?_,HK.out.trans C (fun _ _ e=>e)⟩;simp[dx,or_assoc,or_comm,or_left_comm]
  ·have q0:S.cell? ⟨z,5,none⟩=some (.map (some (g+8))):=by have:=HX.out 5 _ rfl;simpa using this
   refine so (fun l E=>aA (fun i=>i==48||i==49||i==4) I l∧At l 4 (.map (some (g+8)))∧E=S) ?_ ?_
   ·obtain⟨T,d⟩:=I
    refine rl ?_
    iterate 3 with_reducible refine st ?_
    with_reducible refine ln ?_
    refine⟨rfl,ag,aq,rfl⟩
   rintro l E ⟨b,ac,rfl⟩;have Z:=b.Q7 U rfl;have N:=b.size.trans H;refine Code.wp_only (R:=fun J G=>aA (fun i=>i==50||i==51||i==52) l J∧aF B G pb v P aw (fb named ((bD P).getD 7 [])++(dx named P (([0,3,4,5,6,7]:List Nat).take 5)++L))∧aB (fun k=>k=pb) E G) ?_ ?_
   ·have M:=fg HN.out HL.out HF.out 7 (g+8) _ rfl rfl ⟨by omega,by simp[aQ];omega⟩ (q.out _ (by simp[bD])).1 (q.out _ (by simp[bD])).2
    have X:=hh M;clear M b q0 W V;obtain⟨T,d⟩:=l;refine rl ?_
    iterate 2 with_reducible refine st ?_
    with_reducible refine Lz (fun K Y=>?_)
    go_simp;refine X.out.mono ?_;rintro e w4 ⟨rfl,x,A⟩;with_reducible refine Y _ _ (ln ?_)
    refine⟨rfl,?_,x,A⟩;exact ag
   rintro J G ⟨u,y,C⟩;refine⟨(b.m).t u,y.congr fun p=>?_,HK.out.trans C (fun _ _ e=>e)⟩;simp[dx,or_assoc,or_comm,or_left_comm]
 ·rintro a' w' hA ⟨hL,hk⟩
  exact hQ _ _ ((af.m).t hA) hL ((ah.mono (fun _ _ h=>h.elim)).trans hk (fun _ _ e=>e))
theorem tj{v:aV}{P:aC}{named:ByteArray→Bool}(hN:ex B named)(h:aF B w pb v P aw []):
 Calls Tryz.prog 49 #[.pointer (some ⟨pb,0,none⟩)] w fun e w'=>e=.returned (.tuple #[])∧aF B w' pb v P aw (gL named P)∧aB (fun k=>k=pb) w w':=by
 have eg:=h.lt;have eb:=h.base;refine az Tryz.func49 Tryz.ntmps49 rfl (by simp) fun a d5 d4 L=>?_
 have j:At a 0 (.pointer (some ⟨pb,0,none⟩)):=L 0 _ rfl;clear L
 conv=>arg 2;whnf
 refine so (fun a1 w1=>aA (fun i=>i==2||i==30||i==31) a a1∧(∃q,At a1 2 (.pointer (some ⟨q,0,none⟩))∧w1.heap[q]?=some (.cells (cF w.heap.size) 137 (0,0))∧q≠pb)∧(∃D r,bh (w.heap.size+10) w1 (aQ w.heap.size) (bD P) D r)∧Kz w w1) ?_ ?_
 ·have hc:=tx h
  unfold cF at hc;have HC:=hh hc;clear hc;obtain⟨T,d⟩:=a;refine rl ?_;with_reducible refine st ?_;refine Lz (fun K hK=>?_)
  go_simp;refine HC.out.mono ?_;rintro e w2 ⟨rfl,b4,D,r,hF⟩;with_reducible refine hK _ _ ?_;clear hK K
  have HF:=hh hF;have W:=hh b4;have G:=b4.size;clear hF b4
  iterate 2 with_reducible refine st ?_
  with_reducible refine ln ?_
  refine⟨rfl,ag,⟨w2.heap.size,aq,heap_alloc_new _ _,by omega⟩,⟨D,r,HF.out.keep ((aB.refl (fun _=>False) _).alloc _) (fun _ h=>h.elim)⟩,W.out.alloc _⟩
 rintro a1 w1 ⟨b,⟨q,n,d0,g⟩,⟨D,r,hF⟩,b3⟩;replace j:=b.Q7 j rfl;have M:=b.size.trans d5;have c4:=b.defers.trans d4;have cs:=hh (h.new b3);have b5:Hid (aB (fun k=>k=pb) w w1):=b3.mono (fun _ _ h=>h.elim);have bp:=hh hF;have X:=hh d0;clear b h b3 hF d0;refine wp_seq (ow hN cs.out bp.out (by omega) X.out g a1 M j n _ (fun a2 w2 b l hk=>?_));with_reducible apply aY
 replace j:=b.Q7 j rfl;replace n:=b.Q7 n rfl;have G:=b.size.trans M;have c6:=b.defers.trans c4;have cu:=hh l;have W:=hh (b5.out.trans hk (fun _ _ e=>e));have bt:=hh (bp.out.keep hk (fun k e _=>by subst e;exact⟨by omega,by simp[aQ];omega⟩));have Y:=hh ((hk.block q (aG X.out) g).trans X.out);clear b l hk cs b5 bp X M c4;refine wp_seq (ox cu.out bt.out (by omega) Y.out g a2 G j n _ (fun a3 w3 b l hk=>?_));with_reducible apply aY
 replace j:=b.Q7 j rfl;replace n:=b.Q7 n rfl;have N:=b.size.trans G;have c7:=b.defers.trans c6;have cv:=hh l;have cc:=hh (W.out.trans hk (fun _ _ e=>e));have bu:=hh (bt.out.keep hk (fun k e _=>by subst e;exact⟨by omega,by simp[aQ];omega⟩));have Z:=hh ((hk.block q (aG Y.out) g).trans Y.out);clear b l hk cu W bt Y G c6;refine wp_seq (nK cv.out bu.out (by omega) Z.out g a3 N j n _ (fun a4 w4 b l hk=>?_));with_reducible apply aY
 replace j:=b.Q7 j rfl;replace n:=b.Q7 n rfl;have O:=b.size.trans N;have c8:=b.defers.trans c7;have cw:=hh l;have cd:=hh (cc.out.trans hk (fun _ _ e=>e));have bw:=hh (bu.out.keep hk (fun k e _=>by subst e;exact⟨by omega,by simp[aQ];omega⟩));have ac:=hh ((hk.block q (aG Z.out) g).trans Z.out);clear b l hk cv cc bu Z N c7;refine wp_seq (m8 cw.out bw.out (by omega) ac.out g a4 O j n _ (fun a5 w5 b l hk=>?_));with_reducible apply aY
 replace j:=b.Q7 j rfl;replace n:=b.Q7 n rfl;have Q:=b.size.trans O;have c9:=b.defers.trans c8;have cx:=hh l;have cf:=hh (cd.out.trans hk (fun _ _ e=>e));have bx:=hh (bw.out.keep hk (fun k e _=>by subst e;exact⟨by omega,by simp[aQ];omega⟩));have ad:=hh ((hk.block q (aG ac.out) g).trans ac.out);clear b l hk cw cd bw ac O c8;refine wp_seq (nL cx.out bx.out (by omega) ad.out g a5 Q j n _ (fun a6 w6 b l hk=>?_));with_reducible apply aY
 replace j:=b.Q7 j rfl;replace n:=b.Q7 n rfl;have R:=b.size.trans Q;have di:=b.defers.trans c9;have cy:=hh l;have ci:=hh (cf.out.trans hk (fun _ _ e=>e));have bz:=hh (bx.out.keep hk (fun k e _=>by subst e;exact⟨by omega,by simp[aQ];omega⟩));have af:=hh ((hk.block q (aG ad.out) g).trans ad.out);clear b l hk cx cf bx ad Q c9;refine wp_seq (oy cy.out bz.out (by omega) af.out g a6 R j n _ (fun a7 w7 b l hk=>?_));with_reducible apply aY
 replace j:=b.Q7 j rfl;replace n:=b.Q7 n rfl;have S:=b.size.trans R;have dk:=b.defers.trans di;have c1:=hh l;have cl:=hh (ci.out.trans hk (fun _ _ e=>e));have b0:=hh (bz.out.keep hk (fun k e _=>by subst e;exact⟨by omega,by simp[aQ];omega⟩));have ah:=hh ((hk.block q (aG af.out) g).trans af.out);clear b l hk cy ci bz af R di;refine wp_seq (nM c1.out b0.out (by omega) ah.out g a7 S j n _ (fun a8 w8 b l hk=>?_));with_reducible apply aY
 replace j:=b.Q7 j rfl;replace n:=b.Q7 n rfl;have U:=b.size.trans S;have dl:=b.defers.trans dk;have c2:=hh l;have cm:=hh (cl.out.trans hk (fun _ _ e=>e));have b1:=hh (b0.out.keep hk (fun k e _=>by subst e;exact⟨by omega,by simp[aQ];omega⟩));have an:=hh ((hk.block q (aG ah.out) g).trans ah.out);clear b l hk c1 cl b0 ah S dk;refine wp_seq (nJ c2.out b1.out (by omega) an.out g a8 U j n _ (fun a9 w9 b l hk=>?_));with_reducible apply aY
 replace j:=b.Q7 j rfl;replace n:=b.Q7 n rfl;have V:=b.size.trans U;have ds:=b.defers.trans dl;have c3:=hh l;have cp:=hh (cm.out.trans hk (fun _ _ e=>e));have b2:=hh (b1.out.keep hk (fun k e _=>by subst e;exact⟨by omega,by simp[aQ];omega⟩));have a0:=hh ((hk.block q (aG an.out) g).trans an.out);clear b l hk c2 cm b1 an U dl;refine wp_seq (lz c3.out b2.out (by omega) a0.out g a9 V j n _ (fun d1 el b l hk=>?_));with_reducible apply aY
 replace j:=b.Q7 j rfl;replace n:=b.Q7 n rfl;have u:=b.size.trans V;have bl:=b.defers.trans ds;have be:=hh l;have bb:=hh (cp.out.trans hk (fun _ _ e=>e));have H:=hh (b2.out.keep hk (fun k e _=>by subst e;exact⟨by omega,by simp[aQ];omega⟩));have A:=hh ((hk.block q (aG a0.out) g).trans a0.out);clear b l hk c3 cp b2 a0 V ds;refine wp_seq (m9 be.out H.out (by omega) A.out g d1 u j n _ (fun d2 em b l hk=>?_));with_reducible apply aY
 replace j:=b.Q7 j rfl;replace n:=b.Q7 n rfl;have x:=b.size.trans u;have bm:=b.defers.trans bl;have bf:=hh l;have bc:=hh (bb.out.trans hk (fun _ _ e=>e));have I:=hh (H.out.keep hk (fun k e _=>by subst e;exact⟨by omega,by simp[aQ];omega⟩));have C:=hh ((hk.block q (aG A.out) g).trans A.out);clear b l hk be bb H A u bl;refine wp_seq (rV bf.out I.out (by omega) C.out g d2 x j n _ (fun d3 en b l hk=>?_));with_reducible apply aY
 replace j:=b.Q7 j rfl;replace n:=b.Q7 n rfl;have y:=b.size.trans x;have bo:=b.defers.trans bm;have bj:=hh l;have bd:=hh (bc.out.trans hk (fun _ _ e=>e));have J:=hh (I.out.keep hk (fun k e _=>by subst e;exact⟨by omega,by simp[aQ];omega⟩));have E:=hh ((hk.block q (aG C.out) g).trans C.out);clear b l hk bf bc I C x bm;refine qF bj.out J.out (by omega) E.out g d3 y j n _ (fun d9 eo b l hk=>?_);have d6:=b.size.trans y;have c5:=b.defers.trans bo;have ct:=hh l;have cb:=hh (bd.out.trans hk (fun _ _ e=>e));have d7:=hh (J.out.keep hk (fun k e _=>by subst e;exact⟨by omega,by simp[aQ];omega⟩));have d8:=hh ((hk.block q (aG E.out) g).trans E.out);clear b l hk bj bd J E y bo;refine ej rfl c5 ⟨rfl,ct.out.congr fun p=>?_,cb.out⟩;simp only[gL,dx,bD,List.flatMap_cons,List.flatMap_nil,List.append_nil,List.getD_cons_zero,List.getD_cons_succ,List.mem_append];simp only[or_assoc,or_comm,or_left_comm]
def spC(l:List Sp):List Value:=l.flatMap eC
theorem lY(l:List Sp)(x:Sp):spC (l++[x])=spC l++eC x:=by simp[spC]
theorem od(l:List Sp):(spC l).length=l.length*2:=by
 induction l with
 | nil=>rfl
 | cons x t ih=>simp only[spC,List.flatMap_cons,List.length_append]at ih⊢; rw[ih];simp[eC];omega
theorem oe:∀(l:List Sp) (i:Nat) (s:Sp),l[i]?=some s→(spC l)[i*2]?=some (.int .u64 s.1)∧(spC l)[i*2+1]?=some (.int .u64 s.2)
 | [],_,_,h=>by simp at h
 | x::t,0,s,h=>by
  have:x=s:=by simpa using h
  subst this;exact⟨rfl,rfl⟩
 | x::t,i+1,s,h=>by
  obtain⟨a,b⟩:=oe t i s (by simpa using h);have e:spC (x::t)=.int .u64 x.1 :: .int .u64 x.2::spC t:=rfl;rw[e];refine⟨?_,?_⟩
  ·rw[show(i+1)*2=i*2+1+1 by omega];simpa using a
  ·rw[show(i+1)*2+1=i*2+1+1+1 by omega];simpa using b
theorem Tryz.info180:(Tryz.prog.info? 180).map (fun i=>(i.zero,i.size,i.bytes))=some (some (.agg #[.int .u64 0,.int .u64 0]),2,16):=by kernel_rfl
theorem ki{P:Program}(E:P=Tryz.prog){n:Array Oper}{rest:List Oper}{o:Oper}{a:Act}{Q:Exit→Act→World→Prop}(q:o.guard=none){s x:Operand}
 (I:o.op=.call { callee := .builtin .append,args := #[s,x],argTypes := #[173,173] }){Z:Nat}{u:Value}{l:List Sp}(J:a.eval s=u)(i:w.ownsRow Z 180 2 u l.length (spC l))(N:l.length≤8388608)
 {b:Nat}{p:Sp}(hx:a.eval x=.slice (some ⟨b,0,none⟩) 1 1)(c0:w.cell? ⟨b,0,none⟩=some (.int .u64 p.1))(c1:w.cell? ⟨b,1,none⟩=some (.int .u64 p.2))(G:Z≤w.heap.size)
 (h:∀B w',w'.ownsRow Z 180 2 B (l.length+1) (spC (l++[p]))→aB (fun k=>u.ownBlock=some k) w w'→wpList P n Q rest (a.put o.dst B) w'):wpList P n Q (o::rest) a w:=by
 subst E;obtain⟨K,H,r,y,A⟩:=info_parts Tryz.info180;have d:∀j,(⟨b,0,none⟩:Addr).add j=⟨b,j,none⟩:=fun j=>by unfold Addr.add;split<;>simp_all
 refine wpList_append_lies w q s x 173 I Z 180 K (.agg #[.int .u64 0,.int .u64 0]) 2 16 Tryz.underlying173 H r y A rfl (by omega) u l.length (spC l) J i ⟨b,0,none⟩ 1 1 (eC p) hx rfl (fun j v hv=>?_) ?_ (by omega) (by unfold maxLen;omega) (by omega) G w.heap.size rfl ?_
 ·rw[d]
  match j,hv with
  | 0,hv=>cases hv;exact c0
  | 1,hv=>cases hv;exact c1
  | j+2,hv=>simp[eC]at hv
 ·simp[eC,Value.oneCell']
 ·intro g cap w' C D L M
  refine h _ w' ?_ (aB.of_grown D (fun k e=>e));rw[lY];exact C
theorem eQ{Z:Nat}{l:List Sp}(h:w.ownsRow Z 180 2 u l.length (spC l))(j:l.length≤4194304)(A:pb<Z)(p:∀s∈l,s.1<lim∧s.2<lim):bZ w pb u l:=by
 rcases Nat.eq_zero_or_pos l.length with e|e
 ·rcases h.2 with⟨a,_⟩|⟨g,cap,d,a,_,_,b,_⟩
  ·exact⟨none,0,by rw[a,e],by omega,j,fun h=>by omega⟩
  ·exact⟨_,_,a,b,j,fun h=>by omega⟩
 ·obtain⟨g,cap,hv,C,n⟩:=h.form e
  subst hv;have b:l.length≤cap:=by
   rcases h.2 with⟨a,_⟩|⟨B,r,d,a,_,_,b,_⟩
   ·cases a
   ·cases a;exact b
  refine⟨_,_,rfl,b,j,fun _=>⟨g,rfl,n,by omega,fun i s q=>?_⟩⟩;obtain⟨v,x⟩:=oe l i s q;have y:=(List.getElem?_eq_some_iff.1 q).1;exact⟨(h.cellAt _ (by omega)).trans v,(h.cellAt _ (by omega)).trans x,p s (List.mem_of_getElem? q)⟩
def df(l:List Sp):List Sp:=l.filter fun s=>decide (s.1≤s.2)
theorem kw(l:List Sp)(x:Sp):df (l++[x])=if x.1≤x.2 then df l++[x]else df l:=by
 unfold df;rw[List.filter_append]
 by_cases h:x.1≤x.2<;>simp[h]
theorem mO(l:List Sp):(df l).length≤l.length:=List.length_filter_le _ _
theorem ti{A:Option Addr}{xs:List Sp}(hu:bZ w pb (.slice A xs.length c) xs)(cc:pb<w.heap.size)(a:Act)(bl:a.tmps.size=80)(h0:At a 0 (.slice A xs.length c))(h3:At a 3 (.slice none 0 0))(Q:Exit→Act→World→Prop)
 (hQ:∀a' w' Y,aA (fun i=>i==3||i==5||(rg 10 23 i)) a a'→At a' 3 Y→w'.ownsRow w.heap.size 180 2 Y (df xs).length (spC (df xs))→Kz w w'→Q .normal a' w'):
 (al Tryz.f124 [1,1,0]).wp Tryz.prog Q a w:=by
 obtain⟨_,_,e,hc,b0,q⟩:=hu
 cases e
 conv=>arg 2;whnf
 refine so (fun C w1=>aA (fun i=>i==10||i==11||i==12) a C∧At C 10 (.slice A xs.length c)∧At C 11 (.int .i64 xs.length)∧At C 12 (.int .i64 0)∧w1=w) ?_ ?_
 ·clear q
  obtain⟨T,d⟩:=a;refine rl ?_
  iterate 3 with_reducible refine st ?_
  with_reducible refine ln ?_
  refine⟨rfl,ag,aq,aq,aq,rfl⟩
 rintro a0 w0 ⟨V,bx,bw,bt,rfl⟩;have ah:=V.size.trans bl;replace h3:=V.Q7 h3 rfl;obtain⟨Z,hZ⟩:∃z,z=w0.heap.size:=⟨_,rfl⟩;rw[←hZ]at hQ;have HZ:=hh hZ;have cd:pb<Z:=by omega
 clear hZ;refine ai xs.length (fun i=>i==3||i==5||(rg 12 23 i)) (fun i=>i==3||i==5||(rg 14 22 i)) (fun k a' w'=>∃u,At a' 3 u∧w'.ownsRow Z 180 2 u (df (xs.take k)).length (spC (df (xs.take k)))∧Kz w0 w') (by omega) bt bw (by decide) rfl
  (by intro j;simp;omega) (by omega) (by decide) (fun k C U w O ⟨u,h1,h2⟩=>⟨u,O.Q7 h1 rfl,h2⟩) ⟨_,h3,by simpa[df,spC]using World.ownsRow_nil _ _ _ _,aB.refl _ _⟩ ?_ ?_
 ·rintro k C wr bj O bu ⟨u,M,n,hk⟩
  obtain⟨g,rfl,hg,b4,af⟩:=q (by omega);obtain⟨x,hx⟩:=ge bj;obtain⟨c1,c2,c3,c4⟩:=af k x hx;unfold lim at c3 c4;have q0:wr.cell? ⟨g,k*2,none⟩=some (.int .u64 x.1):=(hk.cell (p:=⟨g,k*2,none⟩) hg (fun h=>h)).trans c1;have q1:wr.cell? ⟨g,k*2+1,none⟩=some (.int .u64 x.2):=(hk.cell (p:=⟨g,k*2+1,none⟩) hg (fun h=>h)).trans c2;have a8:=O.Q7 bx rfl;have an:=O.size.trans ah;have b2:=hk.size;have b5:g<wr.heap.size:=by omega
  have cb:k≤c:=by omega
  have HX:=hh hx;have HO:=hh n;have HK:=hh hk;have HA:=hh O;clear hx n hk O af c1 c2 q;refine so (fun U w2=>aA (fun i=>i==14||i==15||i==5) C U∧At U 5 (.pointer (some ⟨wr.heap.size,0,none⟩))∧w2=wr.alloc (.cells #[.int .u64 x.1,.int .u64 x.2] 180)) ?_ ?_
  ·obtain⟨T,d⟩:=C
   refine rl ?_
   iterate 4 with_reducible refine st ?_
   with_reducible refine ln ?_
   refine⟨rfl,ag,aq,rfl⟩
  rintro U wo ⟨E,a7,J⟩;obtain⟨z,hz⟩:∃z,z=wr.heap.size:=⟨_,rfl⟩;rw[←hz]at a7;have L:aN wo z 0 [.int .u64 x.1,.int .u64 x.2]:=by rw[J,hz];exact aX _ _ _
  have a6:z<wo.heap.size:=by rw[J,hz];simp
  have I:Kz wr wo:=by rw[J];exact(aB.refl _ _).alloc _
  have a5:=E.size.trans an;have bm:=E.Q7 M rfl;have ad:=hh (am HO.out I (fun _ _ h=>h));have ac:=hh (HK.out.trans I (fun _ _ h=>h));have b1:=I.size;have a9:Hid (aA (fun i=>i==3||i==5||(rg 14 22 i)) C U):=E.m;clear J hz I HO HK E q0 q1 a8 M bu;refine so (fun a3 w3=>aA (fun i=>i==16||i==17||i==18) U a3∧At a3 18 (.bool (!decide (x.2<x.1)))∧Kz wo w3) ?_ ?_
  ·have q0:=L.c0
   have q1:=L 1 _ rfl;obtain⟨t,ht⟩:∃t,t=decide (x.2<x.1):=⟨_,rfl⟩;rw[←ht];have hc:=qA x.1 x.2 wo;rw[←ht]at hc;have HC:=hh hc;clear hc ht;obtain⟨T,d⟩:=U;refine rl ?_;with_reducible refine st ?_;refine Lz (fun K hK=>?_)
   go_simp;refine HC.out.mono ?_;rintro e w3 ⟨rfl,b⟩;with_reducible refine hK _ _ ?_;clear hK K
   have r:=hh b;clear b;with_reducible refine st ?_;refine ln ?_
   refine⟨rfl,ag,aq,r.out⟩
  rintro a3 w3 ⟨y,bo,b⟩;have S:=y.size.trans a5;have v:=bo.eval (by omega);have bz:=y.Q7 bm rfl;have ci:=y.Q7 a7 rfl;have X:=L.keep b a6 (fun h=>h);have cf:z<w3.heap.size:=Nat.lt_of_lt_of_le a6 b.size;have D:=hh (am ad.out b (fun _ _ h=>h));have r:=hh (ac.out.trans b (fun _ _ h=>h));have N:Hid (aA (fun i=>i==3||i==5||(rg 14 22 i)) C a3):=a9.out.t y;have bf:(df (xs.take k)).length≤4194304:=by have:=mO (xs.take k);rw[List.length_take]at this;omega
  clear y b ad ac L
  by_cases hxx:x.2<x.1
  ·rw[decide_eq_true hxx]at v
   refine wp_cond_false v (wp_skip ?_);refine⟨N.out,u,bz,?_,r.out⟩;rw[aP HX.out,kw,if_neg (by omega)];exact D.out
  ·rw[decide_eq_false hxx]at v
   refine wp_cond_true v ?_;refine Code.wp_only (R:=fun a4 w4=>aA (fun i=>i==3||(rg 19 22 i)) a3 a4∧(∃Y,At a4 3 Y∧w4.ownsRow Z 180 2 Y ((df (xs.take k)).length+1) (spC (df (xs.take k)++[x])))∧Kz w0 w4) ?_ ?_
   ·have q0:=X.c0
    have q1:=X 1 _ rfl;obtain⟨l,hl⟩:∃l,l=df (xs.take k):=⟨_,rfl⟩;rw[←hl]at D bf⊢;have b3:=hh hl;clear hl X v;obtain⟨T,d⟩:=a3;refine rl ?_
    iterate 3 with_reducible refine st ?_
    have hb:=aX w3 [.int .u64 x.1,.int .u64 x.2] 180;have H:Kz w3 (w3.alloc (.cells #[.int .u64 x.1,.int .u64 x.2] 180)):=(aB.refl _ _).alloc _;have bc:=hh (am D.out H (fun _ _ h=>h));refine ki rfl rfl rfl (At.eval (by exact aq) (by have:=S;simp at this⊢; omega)) bc.out (by omega) (At.eval (by exact aq) (by have:=S;simp at this⊢; omega)) hb.c0 (hb 1 _ rfl) (by have:=HZ.out;have:=H.size;have:=r.out.size;omega) ?_;intro u2 w4 B G;have bd:=hh B;have bb:Hid (Kz w0 w4):=(r.out.trans H (fun _ _ h=>h)).trans G (fun i hi h=>by have:=(D.out.lt i h).1;have:=HZ.out;omega);clear B G hb H;simp only[Act.put];with_reducible refine st ?_;refine ln ?_
    refine⟨rfl,ag,⟨u2,aq,bd.out⟩,bb.out⟩
   rintro a4 w4 ⟨be,⟨Y,bp,W⟩,G⟩;refine⟨N.out.t be,Y,bp,?_,G⟩;rw[aP HX.out,kw,if_pos (by omega),List.length_append];exact W
 ·rintro a' w' O ⟨u,M,n,hk⟩
  rw[List.take_length]at n;exact hQ _ _ _ ((V.m).t O) M n hk
theorem vX{Z:Nat}{l:List Sp}{x:Sp}(a:Act)(p:a.tmps.size=80)(G:At a 6 u)(H:At a 8 (.pointer (some ⟨z,0,none⟩)))(C:Hid (w.ownsRow Z 180 2 u l.length (spC l)))(K:l.length≤8388608)(I:Z≤w.heap.size)
 (L:w.cell? ⟨z,0,none⟩=some (.int .u64 x.1))(M:w.cell? ⟨z,1,none⟩=some (.int .u64 x.2))(Q:Exit→Act→World→Prop)
 (D:∀A w' q,aA (fun i=>i==6||(rg 73 76 i)) a A→At A 6 q→w'.ownsRow Z 180 2 q (l.length+1) (spC (l++[x]))→aB (fun k=>Z≤k) w w'→Q .normal A w'):
 (al Tryz.f124 [1,1,1,1,1,0,1,0,0,1,1,0,0,1,1,1]).wp Tryz.prog Q a w:=by
 conv=>arg 2;whnf
 refine Code.wp_only (R:=fun r g=>aA (fun i=>i==6||(rg 73 76 i)) a r∧(∃q,At r 6 q∧g.ownsRow Z 180 2 q (l.length+1) (spC (l++[x])))∧aB (fun k=>Z≤k) w g) ?_ (fun r g h=>D r g h.2.1.choose h.1 h.2.1.choose_spec.1 h.2.1.choose_spec.2 h.2.2);clear D;obtain⟨T,d⟩:=a;refine rl ?_
 iterate 3 with_reducible refine st ?_
 have B:=aX w [.int .u64 x.1,.int .u64 x.2] 180;have e:Kz w (w.alloc (.cells #[.int .u64 x.1,.int .u64 x.2] 180)):=(aB.refl _ _).alloc _;have j:=hh (am C.out e (fun _ _ h=>h));refine ki rfl rfl rfl (At.eval (by exact aq) (by have:=p;simp at this⊢; omega)) j.out (by omega) (At.eval (by exact aq) (by have:=p;simp at this⊢; omega)) B.c0 (B 1 _ rfl) (by have:=e.size;omega) ?_;intro E g b n;have y:=hh b;have v:Hid (aB (fun k=>Z≤k) w g):=(e.mono fun _ _ h=>h.elim).trans n (fun i J h=>(C.out.lt i h).1);clear b n B e j;simp only[Act.put];with_reducible refine st ?_;refine ln ?_
 refine⟨rfl,ag,⟨E,aq,y.out⟩,v.out⟩
theorem vc(a:Act)(n:a.tmps.size=80)(q:At a 9 (.int .i64 (0:Nat)))(Q:Exit→Act→World→Prop)(e:∀b,aA (fun i=>(rg 34 58 i)) a b→At b 58 (.bool false)→Q .normal b w.drew):
 (al Tryz.f124 [1,1,1,1,1,0,1,0,0,1,1,0,0,1,1,0,0]).wp Tryz.prog Q a w:=by
 conv=>arg 2;whnf
 refine Code.wp_only (R:=fun b w'=>aA (fun i=>(rg 34 58 i)) a b∧At b 58 (.bool false)∧w'=w.drew) ?_ (fun g r h=>by obtain⟨j,l,rfl⟩:=h;exact e g j l);clear e;have p:=aJ;obtain⟨T,d⟩:=a;refine wp_region_still_lit (by kernel_rfl) (by kernel_rfl) ?_
 iterate 25 with_reducible refine sl ?_
 with_reducible refine wpStill_nil ?_
 refine⟨rfl,ag,aq,rfl⟩
theorem vb{g m:Nat}{x y:Sp}(a:Act)(D:a.tmps.size=80)(M:m+1≤c)(C:m≤8388608)(hx:x.1<lim)(I:y.2<lim)(J:At a 6 (.slice (some ⟨g,0,none⟩) (m+1) c))(K:At a 8 (.pointer (some ⟨z,0,none⟩)))(L:At a 9 (.int .i64 ((m+1:Nat):Int)))
 (N:w.cell? ⟨z,0,none⟩=some (.int .u64 x.1))(O:w.cell? ⟨g,m*2+1,none⟩=some (.int .u64 y.2))(Q:Exit→Act→World→Prop)(p:∀b,aA (fun i=>(rg 34 58 i)) a b→At b 58 (.bool (decide (x.1≤y.2+1)))→Q .normal b w.drew):
 (al Tryz.f124 [1,1,1,1,1,0,1,0,0,1,1,0,0,1,1,0,0]).wp Tryz.prog Q a w:=by
 unfold lim at hx I
 conv=>arg 2;whnf
 refine Code.wp_only (R:=fun b w'=>aA (fun i=>(rg 34 58 i)) a b∧At b 58 (.bool (decide (x.1≤y.2+1)))∧w'=w.drew) ?_ (fun q S h=>by obtain⟨v,A,rfl⟩:=h;exact p q v A);clear p;have E:=aJ;have G:IntKind.i64.wrap (((m+1:Nat):Int)-1)=(m:Int):=by rw[show((m+1:Nat):Int)-1=m by omega];exact i64_in _ (by omega)
 have H:IntKind.i64.wrap (m:Int)=(m:Int):=i64_in _ (by omega);obtain⟨l,r⟩:∃t,decide (x.1≤y.2)=t:=⟨_,rfl⟩;obtain⟨n,u⟩:∃t,((x.1:Int)==IntKind.u64.wrap ((y.2:Int)+1))=t:=⟨_,rfl⟩;obtain⟨e,e3⟩:∃t,decide (x.1≤y.2+1)=t:=⟨_,rfl⟩;have j:Hid (e=(l||n)):=by
  refine hh ?_;rw[←r,←u,←e3,eG,IntKind.wrap_u64,Bool.eq_iff_iff];simp only[Bool.or_eq_true,decide_eq_true_eq];omega
 rw[e3];clear e3;have B:(m:Int)<(m:Int)+1:=by omega
 obtain⟨T,d⟩:=a;refine wp_region_still_lit (by kernel_rfl) (by kernel_rfl) ?_
 cases l
 ·skip
  iterate 25 with_reducible refine sl ?_
  with_reducible refine wpStill_nil ?_
  refine⟨rfl,?_,?_,rfl⟩
  ·exact ag
  ·rw[show e=n from j.out]
   exact aq
 ·skip
  iterate 25 with_reducible refine sl ?_
  with_reducible refine wpStill_nil ?_
  refine⟨rfl,?_,?_,rfl⟩
  ·exact ag
  ·rw[show e=true from j.out]
   exact aq
theorem yX{g m:Nat}{x y:Sp}(a:Act)(q:a.tmps.size=80)(C:m+1≤c)(p:m≤8388608)(v:At a 6 (.slice (some ⟨g,0,none⟩) (m+1) c))(A:At a 8 (.pointer (some ⟨z,0,none⟩)))(B:At a 9 (.int .i64 ((m+1:Nat):Int)))
 (D:w.cell? ⟨z,1,none⟩=some (.int .u64 x.2))(E:w.cell? ⟨g,m*2+1,none⟩=some (.int .u64 y.2))(G:w.frozen? ⟨g,m*2+1,none⟩=false)(Q:Exit→Act→World→Prop)(e:∀b,aA (fun i=>(rg 59 72 i)) a b→Q .normal b (w.setCell ⟨g,m*2+1,none⟩ (.int .u64 (max y.2 x.2:Nat))).drew):
 (al Tryz.f124 [1,1,1,1,1,0,1,0,0,1,1,0,0,1,1,0,1,0,0]).wp Tryz.prog Q a w:=by
 conv=>arg 2;whnf
 refine Code.wp_only (R:=fun b w'=>aA (fun i=>(rg 59 72 i)) a b∧w'=(w.setCell ⟨g,m*2+1,none⟩ (.int .u64 (max y.2 x.2:Nat))).drew) ?_ (fun j H h=>by obtain⟨l,rfl⟩:=h;exact e j l);clear e;have r:IntKind.i64.wrap (((m+1:Nat):Int)-1)=(m:Int):=by rw[show((m+1:Nat):Int)-1=m by omega];exact i64_in _ (by omega)
 have u:IntKind.i64.wrap (m:Int)=(m:Int):=i64_in _ (by omega);have n:(m:Int)<(m:Int)+1:=by omega
 obtain⟨T,d⟩:=a;refine wp_region_still_tail 14 (by kernel_rfl) (by kernel_rfl) ?_;simp only[List.take_succ_cons,List.take_zero,List.drop_succ_cons,List.drop_zero]
 iterate 14 with_reducible refine sl ?_
 with_reducible refine wpStill_nil ?_;refine st ?_;refine ln ?_
 refine⟨rfl,?_,?_⟩
 ·exact ag
 ·rw[show(if y.2<x.2 then(x.2:Int)else(y.2:Int))=((max y.2 x.2:Nat):Int) by split<;>omega]
end Go.Proofs.YtpblcjipmoblnaaGreatDoor
