import Derived.Test.YtpblcjipmoblnaaGreatDoorApart
import Derived.Test.YtpblcjipmoblnaaGreatDoorTheirs3
set_option maxRecDepth 100000
set_option linter.all false
set_option maxHeartbeats 4000000
namespace Go.Proofs.YtpblcjipmoblnaaGreatDoor
open Go.RowKit Go.IntWalk Ck
variable {w w':World} {B size n pb z c:Nat} {e:TypeId} {xs:List Value} {u:Value}
theorem ak{S:Nat→Prop}{v:Value}(h:w.ownsRow B e size v n xs)(hk:aD S w w')(r:∀k,v.ownBlock=some k→¬ S k):w'.ownsRow B e size v n xs:=by
 refine⟨h.1,?_⟩
 rcases h.2 with l|⟨g,d,j,rfl,q,hh,p⟩
 ·exact .inl l
 ·exact .inr ⟨g,d,j,rfl,q,by rw[hk.block g (Array.getElem?_eq_some_iff.1 hh).1 (r g rfl)];exact hh,p⟩
theorem vt{v:Value}(h:w.ownsRow B e size v n xs){k:Nat}(hk:v.ownBlock=some k):cD w k=some e∧B≤k∧k<w.heap.size:=by
 refine⟨?_,h.lt k hk⟩
 rcases h.2 with⟨l,_⟩|⟨g,d,j,rfl,q,hh,p⟩
 ·subst l;cases hk
 ·have:g=k:=by simpa[Value.ownBlock]using hk
  subst this;unfold cD;rw[hh]
theorem aE.grown{v:aR}{P:aC}{W:Int→Int}{L:List Wr}(h:aE B w pb v P W L)(d:w.ownsRow z e size u n xs)(q:B≤z)(g:e≠113∧e≠120)(hk:aD (fun k=>u.ownBlock=some k) w w'):aE B w' pb v P W L:=
 h.keep hk fun k l _=>by
  obtain⟨j,p,_⟩:=vt d l;refine⟨χ,?_,?_⟩<;>rw[j]<;>simp[g.1,g.2]
def ap(xs:List dp):List Value:=xs.flatMap Ck.dp.cells
def qa(x:Ram):dp:=⟨x.Q7,x.size,x.pos⟩
def vJ(x:Ck.bA):dp:=⟨x.Q7,x.size,x.pos⟩
def jO(l:List Ram):Nat:=l.foldl (fun s x=>min (s+min x.size 67108865) 67108865) 0
theorem nU(l:List Ram)(x:Ram):jO (l++[x])=min (jO l+min x.size 67108865) 67108865:=by simp[jO]
theorem rM(l:List Ram):jO l≤67108865:=by
 unfold jO
 suffices h:∀(l:List Ram) (s:Nat),s≤67108865→l.foldl (fun s x=>min (s+min x.size 67108865) 67108865) s≤67108865 from h l 0 χ
 intro l
 induction l with
 | nil=>intro s h;exact h
 | cons x t ih=>intro s h;exact ih _ (Nat.min_le_right _ _)
theorem l9(x:Ram):∀(l:List Ram) (s:Nat),dJ s (l++[x])=dJ s l++say (decide (min (l.foldl (fun s x=>min (s+min x.size 67108865) 67108865) s+min x.size 67108865) 67108865≤67108864)) x.pos 4
 | [],s=>by simp only[List.nil_append,dJ,List.append_nil,List.foldl_nil];congr
 | y::t,s=>by simp only[List.cons_append,dJ,l9 x t,List.foldl_cons,List.append_assoc];congr
theorem pG(x:Ram)(l:List Ram):dJ 0 (l++[x])=dJ 0 l++say (decide (jO (l++[x])≤67108864)) x.pos 4:=by rw[l9,nU];rfl
theorem gM(l:List dp)(x:dp):ap (l++[x])=ap l++x.cells:=by simp[ap]
theorem Tryz.info170:(Tryz.prog.info? 170).map (fun i=>(i.zero,i.size,i.bytes))=some (some (.agg #[.int .u64 0,.int .u64 0,.int .i64 0]),3,24):=δ
theorem lg{a b c:Int}:∀u∈[Value.int .u64 a,.int .u64 b,.int .i64 c],u.oneCell'=true:=by
 intro u d;simp at d;rcases d with rfl|rfl|rfl<;>rfl
theorem lB:∀(xs:List dp) (i j:Nat) (x:dp) (c:Value),xs[i]?=some x→x.cells[j]?=some c→(ap xs)[i*3+j]?=some c
 | [],i,j,x,c,h,_=>by simp at h
 | y::t,0,j,x,c,h,hc=>by
  obtain rfl:y=x:=by simpa using h
  have g:j<y.cells.length:=(List.getElem?_eq_some_iff.1 hc).1;simp only[ap,List.flatMap_cons,Nat.zero_mul,Nat.zero_add];rw[List.getElem?_append_left g];exact hc
 | y::t,i+1,j,x,c,h,hc=>by
  have d:t[i]?=some x:=by simpa using h
  have l:y.cells.length=3:=rfl;have:=lB t i j x c d hc;have e:ap (y::t)=y.cells++ap t:=by simp[ap]
  rw[e,List.getElem?_append_right χ,l,show(i+1)*3+j-3=i*3+j by omega];exact this
theorem fi{xs:List dp}(h:w.ownsRow z 170 3 u xs.length (ap xs))(B:∀x∈xs,x.Ok)(y:xs.length≤8388608)(H:pb<z):fO w pb u xs:=by
 rcases Nat.eq_zero_or_pos xs.length with v|v
 ·rcases h.2 with⟨p,E⟩|⟨g,l,r,p,_,_,d,_⟩
  ·exact⟨none,0,by rw[p,v],χ,y,fun h=>χ⟩
  ·exact⟨some ⟨g,0,none⟩,l,p,χ,y,fun h=>χ⟩
 ·have d:=h.2
  obtain⟨g,l,hv,J,A⟩:=h.form v;subst hv;refine⟨_,l,rfl,?_,y,fun _=>⟨g,0,rfl,A,χ,fun i x hx=>⟨fun j c D=>?_,B x (List.mem_of_getElem? hx)⟩⟩⟩
  ·rcases d with⟨p,E⟩|⟨I,C,r,p,_,_,D,_⟩
   ·cases p
   ·cases p;omega
  ·have:=h.cells (g:=g) rfl _ _ (lB xs i j x c hx D)
   have q:∀j,(⟨g,0,none⟩:Addr).add j=⟨g,j,none⟩:=fun j=>by unfold Addr.add;split<;>simp_all
   rw[q]at this;rw[Nat.zero_add];exact this
theorem fO.keep{xs:List dp}(h:fO w pb u xs)(hk:aD (fun k=>k=pb) w w'):fO w' pb u xs:=by
 obtain⟨A,c,rfl,q,r,v⟩:=h;refine⟨A,c,rfl,q,r,fun p=>?_⟩;obtain⟨g,off,e,j,l,d⟩:=v p;exact⟨g,off,e,Nat.lt_of_lt_of_le j hk.size,l,fun i x hx=>⟨(d i x hx).1.keep hk j l,(d i x hx).2⟩⟩
theorem ri{v:aR}{P:aC}(h:ao B w v P):∀x∈P.parts,x.Ok:=by
 intro x hx;simp only[aC.parts,List.mem_append,List.mem_map]at hx
 rcases hx with⟨y,g,rfl⟩|⟨y,g,rfl⟩
 ·obtain⟨A,c,_,_,_,r⟩:=h.QG
  obtain⟨i,q⟩:=List.getElem?_of_mem g;obtain⟨u,off,_,_,d⟩:=r (List.length_pos_of_mem g);obtain⟨_,j,l,p⟩:=d i y q;exact⟨l,p,j⟩
 ·obtain⟨A,c,_,_,_,r⟩:=h.Q4
  obtain⟨i,q⟩:=List.getElem?_of_mem g;obtain⟨u,off,_,_,d⟩:=r (List.length_pos_of_mem g);obtain⟨_,_,_,j,l,p,_⟩:=d i y q;exact⟨l,p,j⟩
theorem uk{a s:Nat}(d:a<18446744073709551616)(g:s<18446744073709551616):bits .or .u64 (a:Int) (s:Int)=((a ||| s:Nat):Int):=by
 have l:a ||| s<2 ^ 64:=Nat.or_lt_two_pow d g;have hk:IntKind.u64.bits=64:=rfl;unfold bits;simp only[hk,BitVec.ofInt_natCast,BitVec.toNat_or,BitVec.toNat_ofNat,Nat.mod_eq_of_lt (show a<2 ^ 64 from d),Nat.mod_eq_of_lt (show s<2 ^ 64 from g)];have h:(((a ||| s:Nat):Int))<18446744073709551616:=χ
 have j:(0:Int)≤((a ||| s:Nat):Int):=Int.natCast_nonneg _
 generalize ((a ||| s:Nat):Int)=q at h j
 simp[IntKind.wrap,IntKind.bits,IntKind.signed];omega
theorem AN{a s:Nat}(d:a<18446744073709551616)(g:s<18446744073709551616):((bits .or .u64 (a:Int) (s:Int)).tmod 4096==0)=decide ((a ||| s)%4096=0):=by
 rw[uk d g];have e:(((a ||| s:Nat):Int)).tmod 4096=(((a ||| s)%4096:Nat):Int):=by
  rw[Int.tmod_eq_emod_of_nonneg χ];omega
 rw[e]
 by_cases h:(a ||| s)%4096=0
 ·simp[h]
 ·have:¬ (((a ||| s)%4096:Nat):Int)=0:=χ
  simp only[h,decide_false];exact beq_eq_false_iff_ne.2 this
theorem BG{v:aR}{P:aC}(h:aE B w pb v P pB []):
 Calls Tryz.prog 51 #[.pointer (some ⟨pb,0,none⟩)] w fun e w'=>e=.returned (.tuple #[])∧aE B w' pb v P pB (sY P)∧aD (fun k=>k=pb) w w':=by
 obtain⟨i0,hi,hz0,hz1,hz2⟩:=info_parts Tryz.info170;obtain⟨z,hz⟩:∃z,z=w.heap.size:=⟨_,rfl⟩;have HZ:=Lib.hid hz;have hlt:=h.lt;have hBp:=h.base;obtain⟨A0,c0,hv0,_,hn0,hl0⟩:=h.QP.QG;obtain⟨A1,c1,hv1,_,hn1,hl1⟩:=h.QP.Q4;have HV1:=Lib.hid hv1;have hp0:w.cell? ⟨pb,2,none⟩=some v.QG:=h.cell rfl;rw[hv0]at hp0;unfold top at hn0 hn1;have hpz:pb<z:=χ
 clear hv0 hv1 hz
 go_enter Tryz.func51,Tryz.ntmps51
 go_wp2
 go_loopw [2,3,16] (fun u s i wr=>∃n:Nat,n≤P.QG.length∧i=.int .i64 n∧s=.int .u64 (jO (P.QG.take n):Nat)∧wr.ownsRow z 170 3 u n (ap ((P.QG.take n).map qa))∧aE B wr pb v P pB (dJ 0 (P.QG.take n))∧aD (fun k=>k=pb) w wr) (fun _ _ i _=>P.QG.length-(intOf i).toNat)
 case atStart=>exact⟨0,Nat.zero_le _,rfl,rfl,World.ownsRow_nil _ _ _ _,by simpa[dJ]using h,aD.refl _ _⟩
 case round =>
 obtain⟨n,hn,rfl,rfl,hown,hL,hk⟩:=hrel
 by_cases hlt2:n<P.QG.length
 ·obtain⟨bl,off,rfl,hbl,hcs⟩:=hl0 χ
  obtain⟨x,hx⟩:∃x,P.QG[n]?=some x:=⟨_,Ez hlt2⟩;obtain⟨hc,hok⟩:=(aF B _ _) _ _ _ _ _ (hk.below (B:=B) χ (fun _ hi e=>χ)) hbl (hcs n x hx);have q0:=hc.c0;have q1:=hc 1 _ rfl;have q2:=hc 2 _ rfl;have hsz:=hk.size;have hblr:bl<wr.heap.size:=χ
  obtain⟨hw1,hat,hsi⟩:=hok;unfold lim at hat hsi;have hso:=rM (P.QG.take n);have hsn:=nU (P.QG.take n) x;obtain⟨s,hs⟩:∃s,s=jO (P.QG.take n):=⟨_,rfl⟩;rw[←hs]at hso hsn⊢;have HSN:=Lib.hid hsn;have HX:=Lib.hid hx;have HL:=Lib.hid hL;have HK:=Lib.hid hk;have HCS:=Lib.hid hcs;have hzr:z≤wr.heap.size:=by have:=HZ.out;omega
  clear hx hc hL hk hcs hs hsn
  go_wp2_with (at_builtin;refine wpList_append_lies _ rfl _ _ 168 rfl z 170 i0 (.agg #[.int .u64 0,.int .u64 0,.int .i64 0]) 3 24 Tryz.underlying168 hi hz0 hz1 hz2 rfl χ _ n _ rfl ((hown.alloc _).alloc _) ⟨wr.heap.size+1,0,none⟩ 1 1 [.int .u64 x.Q7,.int .u64 x.size,.int .i64 x.pos] rfl rfl ?c1 lg χ (by unfold maxLen;omega) χ ?c2 (wr.heap.size+2) ξ ?_)
  case c1=>have:=World.news_of_block (cs := #[.int .u64 x.Q7,.int .u64 x.size,.int .i64 x.pos]) (heap_alloc_new (wr.alloc (.cells #[.int .i64 x.pos,.int .u64 x.Q7,.int .u64 x.size] 41)) (.cells #[.int .u64 x.Q7,.int .u64 x.size,.int .i64 x.pos] 170));simpa using this
  case c2=>simp;omega
  intro g cap w1 hown1 hgrow hat hlt3;have hkA:aD (fun k=>u2.ownBlock=some k) wr w1:=(((aD.refl _ _).alloc _).alloc _).trans (aD.of_grown hgrow (S:=fun k=>u2.ownBlock=some k) (fun k h=>h)) (fun _ _ h=>h);have hlo:=hown.lt;have hLn:aE B w1 pb v P pB (dJ 0 (P.QG.take n)):=HL.out.grown hown χ ψ hkA;have hKn:aD (fun k=>k=pb) w w1:=HK.out.trans hkA (fun i hi h=>by have:=(hlo i h).1;have:=HZ.out;omega);have hbx:w1.heap[wr.heap.size]?=some (.cells #[.int .i64 x.pos,.int .u64 x.Q7,.int .u64 x.size] 41 (0,0)):=by
   have e1:=(aD.of_grown hgrow (S:=fun k=>u2.ownBlock=some k) (fun k h=>h)).block wr.heap.size η (fun h=>by have:=(hlo _ h).2;omega);refine e1.trans (((((aD.refl (fun _=>False) _).alloc _).block wr.heap.size ξ (fun h=>h))).trans (heap_alloc_new _ _))
  have r0:w1.cell? ⟨wr.heap.size,0,none⟩=some (.int .i64 x.pos):=by rw[cell_of_row _ _ _ _ _ _ hbx];rfl
  have r2:w1.cell? ⟨wr.heap.size,2,none⟩=some (.int .u64 x.size):=by rw[cell_of_row _ _ _ _ _ _ hbx];rfl
  have HLN:=Lib.hid hLn;have HKN:=Lib.hid hKn;have HO1:=Lib.hid hown1;clear hLn hKn hbx hkA hgrow hown hown1 q0 q1 q2
  go_upto_region 7 with fail
  have hm2:(if(67108865:Int)<(x.size:Int)then(67108865:Int)else(x.size:Int))=((min x.size 67108865:Nat):Int):=by split<;>omega
  have hm3:(if(67108865:Int)<(s:Int)+((min x.size 67108865:Nat):Int)then(67108865:Int)else(s:Int)+((min x.size 67108865:Nat):Int))=((jO (P.QG.take n++[x]):Nat):Int):=by rw[HSN.out];split<;>omega
  rw[hm2,hm3];obtain⟨m,hm⟩:∃m,m=min x.size 67108865:=⟨_,rfl⟩;obtain⟨s2,hs2⟩:∃s2,s2=jO (P.QG.take n++[x]):=⟨_,rfl⟩;rw[←hm,←hs2];have hs3:s2≤67108865:=by rw[hs2];exact rM _
  have HS2:=Lib.hid hs2;clear hs2 hm hm2 hm3
  go_wp2_with fail
  all_goals
   refine(ae _ x.pos 4 36 HLN.out rfl).mono ?_;rintro e w2 ⟨rfl,hL3,hk3⟩;have HL3:=Lib.hid hL3;have HK3:=Lib.hid hk3;clear hL3 hk3
   go_wp2
   go_roundw
   case rel =>
    refine⟨n+1,χ,by go_num,?_,?_,?_,HKN.out.trans HK3.out (fun _ _ e=>e)⟩
    ·rw[aP HX.out,←HS2.out]
    ·rw[aP HX.out,List.map_append]
     refine ak (by rw[List.map_cons,List.map_nil,gM];have:=HO1.out;rw[←List.map_take]at this;exact this) HK3.out (fun k hk e=>?_);subst e;have:=(HO1.out.lt _ hk).1;omega
    ·refine HL3.out.congr fun p=>?_
     rw[aP HX.out,pG,←HS2.out];have hd:decide ((s2:Int)≤67108864)=decide (s2≤67108864):=decide_eq_decide.2 χ;simp only[hd,List.mem_append,or_comm]
   case measure=>simp[intOf];omega
 obtain rfl:n=P.QG.length:=χ
 rw[List.take_length]at hown hL;obtain⟨wo,hwo⟩:∃u:World,u=wr:=⟨_,rfl⟩;rw[←hwo]at hk hown hL⊢;obtain⟨s0,hs0⟩:∃u:Nat,u=jO (P.QG.take P.QG.length):=⟨_,rfl⟩;rw[←hs0];clear hwo wr hlt2 hn hl0 hp0 hs0;have hp1:wo.cell? ⟨pb,3,none⟩=some v.Q4:=hL.cell rfl;rw[HV1.out]at hp1;have HOWN:=Lib.hid hown;have HL:=Lib.hid hL;have HK:=Lib.hid hk;have hrl:P.QG.length≤2097152:=χ
 clear hown hL hk
 go_wp2
 clear hp1
 go_loopw [2,49] (fun u i wr=>∃n:Nat,n≤P.Q4.length∧i=.int .i64 n∧wr.ownsRow z 170 3 u (P.QG.length+n) (ap (P.QG.map qa++(P.Q4.take n).map vJ))∧aE B wr pb v P pB (dJ 0 P.QG++(P.Q4.take n).flatMap fun x=>say (decide (x.size≤1048576)) x.pos 1)∧aD (fun k=>k=pb) w wr) (fun _ i _=>P.Q4.length-(intOf i).toNat)
 case atStart=>exact⟨0,Nat.zero_le _,rfl,by simpa using HOWN.out,by simpa using HL.out,HK.out⟩
 case round =>
 clear HOWN HL HK;obtain⟨n,hn,rfl,hown,hL,hk⟩:=hrel
 by_cases hlt2:n<P.Q4.length
 ·obtain⟨bl,off,rfl,hbl,hcs⟩:=hl1 χ
  obtain⟨x,hx⟩:∃x,P.Q4[n]?=some x:=⟨_,Ez hlt2⟩;obtain⟨um,hc,⟨Am,cm,rfl,_⟩,hw1,hat,hsi,_⟩:=hcs n x hx;unfold lim at hat hsi;have hc:=hc.below (hk.below (B:=B) χ (fun _ hi e=>χ)) hbl;have q0:=hc.c0;have q1:=hc 1 _ rfl;have q2:=hc 2 _ rfl;have q3:=hc 3 _ rfl;have q4:=hc 4 _ rfl;have hsz:=hk.size;have hblr:bl<wr.heap.size:=χ
  have HX:=Lib.hid hx;have HL:=Lib.hid hL;have HK:=Lib.hid hk;have HCS:=Lib.hid hcs;have hzr:z≤wr.heap.size:=by have:=HZ.out;omega
  clear hx hc hL hk hcs
  go_wp2_with (at_builtin;refine wpList_append_lies _ rfl _ _ 168 rfl z 170 i0 (.agg #[.int .u64 0,.int .u64 0,.int .i64 0]) 3 24 Tryz.underlying168 hi hz0 hz1 hz2 rfl χ _ (P.QG.length+n) _ rfl ((hown.alloc _).alloc _) ⟨wr.heap.size+1,0,none⟩ 1 1 [.int .u64 x.Q7,.int .u64 x.size,.int .i64 x.pos] rfl rfl ?c1 lg χ (by unfold maxLen;omega) χ ?c2 (wr.heap.size+2) ξ ?_)
  case c1=>have:=World.news_of_block (cs := #[.int .u64 x.Q7,.int .u64 x.size,.int .i64 x.pos]) (heap_alloc_new (wr.alloc (.cells #[.int .i64 x.pos,.string x.name,.int .u64 x.Q7,.int .u64 x.size,.slice Am x.QF.length cm] 45)) (.cells #[.int .u64 x.Q7,.int .u64 x.size,.int .i64 x.pos] 170));simpa using this
  case c2=>simp;omega
  intro g cap w1 hown1 hgrow hat hlt3;have hkA:aD (fun k=>u2.ownBlock=some k) wr w1:=(((aD.refl _ _).alloc _).alloc _).trans (aD.of_grown hgrow (S:=fun k=>u2.ownBlock=some k) (fun k h=>h)) (fun _ _ h=>h);have hlo:=hown.lt;have hLn:=HL.out.grown hown χ ψ hkA;have hKn:aD (fun k=>k=pb) w w1:=HK.out.trans hkA (fun i hi h=>by have:=(hlo i h).1;have:=HZ.out;omega);have hbx:w1.heap[wr.heap.size]?=some (.cells #[.int .i64 x.pos,.string x.name,.int .u64 x.Q7,.int .u64 x.size,.slice Am x.QF.length cm] 45 (0,0)):=by
   have e1:=(aD.of_grown hgrow (S:=fun k=>u2.ownBlock=some k) (fun k h=>h)).block wr.heap.size η (fun h=>by have:=(hlo _ h).2;omega);refine e1.trans (((((aD.refl (fun _=>False) _).alloc _).block wr.heap.size ξ (fun h=>h))).trans (heap_alloc_new _ _))
  have r0:w1.cell? ⟨wr.heap.size,0,none⟩=some (.int .i64 x.pos):=by rw[cell_of_row _ _ _ _ _ _ hbx];rfl
  have r3:w1.cell? ⟨wr.heap.size,3,none⟩=some (.int .u64 x.size):=by rw[cell_of_row _ _ _ _ _ _ hbx];rfl
  have HLN:=Lib.hid hLn;have HKN:=Lib.hid hKn;have HO1:=Lib.hid hown1;clear hLn hKn hbx hkA hgrow hown hown1 q0 q1 q2 q3 q4
  go_wp2_with fail
  all_goals
   refine(ae _ x.pos 1 32 HLN.out rfl).mono ?_;rintro e w2 ⟨rfl,hL3,hk3⟩;have HL3:=Lib.hid hL3;have HK3:=Lib.hid hk3;clear hL3 hk3
   go_wp2
   go_roundw
   case rel =>
    refine⟨n+1,χ,by go_num,?_,?_,HKN.out.trans HK3.out (fun _ _ e=>e)⟩
    ·rw[aP HX.out,List.map_append,←List.append_assoc]
     refine ak (by rw[List.map_cons,List.map_nil,gM];have:=HO1.out;simp only[←List.map_take]at this;exact this) HK3.out (fun k hk e=>?_);subst e;have:=(HO1.out.lt _ hk).1;omega
    ·refine HL3.out.congr fun p=>?_
     rw[aP HX.out];have hd:decide ((x.size:Int)≤1048576)=decide (x.size≤1048576):=decide_eq_decide.2 χ;simp only[hd,List.mem_append,List.flatMap_append,List.flatMap_cons,List.flatMap_nil,List.append_nil];constructor
     ·rintro(h|h|h)
      ·exact .inr (.inr h)
      ·exact .inl h
      ·exact .inr (.inl h)
     ·rintro(h|h|h)
      ·exact .inr (.inl h)
      ·exact .inr (.inr h)
      ·exact .inl h
   case measure=>simp[intOf];omega
 obtain rfl:n=P.Q4.length:=χ
 rw[List.take_length]at hown hL;have hpl:P.QG.length+P.Q4.length=P.parts.length:=by simp[aC.parts]
 have hpe:P.QG.map qa++P.Q4.map vJ=P.parts:=rfl;rw[hpl,hpe]at hown;obtain⟨wo,hwo⟩:∃u:World,u=wr:=⟨_,rfl⟩;rw[←hwo]at hk hown hL⊢;have hlen:P.parts.length≤8388608:=by rw[←hpl];omega
 have hpz2:pb<z:=hpz;have hPa:fO wo pb u2 P.parts:=fi hown (ri h.QP) hlen hpz;obtain⟨Au,cu,rfl,hcu,_,hlu⟩:=hPa;have HPa:Hid (fO wo pb (.slice Au P.parts.length cu) P.parts):=fi hown (ri h.QP) hlen hpz;have HL:=Lib.hid hL;have HK:=Lib.hid hk;clear hwo wr hlt2 hn hl1 hown hL hk hpe hpl
 go_wp2
 go_loopw [73] (fun i wr=>∃n:Nat,n≤P.parts.length∧i=.int .i64 n∧aE B wr pb v P pB ((P.parts.take n).flatMap rj++(dJ 0 P.QG++P.Q4.flatMap fun x=>say (decide (x.size≤1048576)) x.pos 1))∧aD (fun k=>k=pb) wo wr) (fun i _=>P.parts.length-(intOf i).toNat)
 case atStart=>exact⟨0,Nat.zero_le _,rfl,by simpa using HL.out,aD.refl _ _⟩
 case round =>
 clear HL;obtain⟨n,hn,rfl,hL,hk⟩:=hrel
 by_cases hlt2:n<P.parts.length
 ·obtain⟨bl,off,rfl,hbl,hbp,hcs⟩:=hlu χ
  obtain⟨x,hx⟩:∃x,P.parts[n]?=some x:=⟨_,Ez hlt2⟩;obtain⟨hc,hok⟩:=hcs n x hx;have hc:=hc.keep hk hbl hbp;have q0:=hc.c0;have q1:=hc 1 _ rfl;have q2:=hc 2 _ rfl;have hsz:=hk.size;have hblr:bl<wr.heap.size:=χ
  have hnc2:n≤cu:=χ
  obtain⟨hxa,hxs,_⟩:=hok;unfold lim at hxa hxs;have HX:=Lib.hid hx;have HL:=Lib.hid hL;have HKr:=Lib.hid hk;clear hx hL hk hc hcs
  go_upto_region 18 with fail
  obtain⟨wb,hwb⟩:∃u:World,u=wr.alloc (Obj.cells #[.int .u64 x.Q7,.int .u64 x.size,.int .i64 x.pos] 170):=⟨_,rfl⟩;rw[←hwb];obtain⟨zb,hzb⟩:∃u,u=wr.heap.size:=⟨_,rfl⟩;rw[←hzb];have hb0:wb.heap[zb]?=some (.cells #[.int .u64 x.Q7,.int .u64 x.size,.int .i64 x.pos] 170 (0,0)):=by rw[hwb,hzb];exact heap_alloc_new _ _
  have hLb:=HL.out.new (w':=wb) (by rw[hwb];exact(aD.refl _ _).alloc _);have hKb:aD (fun k=>k=pb) wo wb:=by rw[hwb];exact HKr.out.alloc _
  have hzp:zb≠pb:=by have:=HKr.out.size;have:=HK.out.size;omega
  have b0:wb.cell? ⟨zb,0,none⟩=some (.int .u64 x.Q7):=by rw[cell_of_row _ _ _ _ _ _ hb0];rfl
  have b1:wb.cell? ⟨zb,1,none⟩=some (.int .u64 x.size):=by rw[cell_of_row _ _ _ _ _ _ hb0];rfl
  have b2:wb.cell? ⟨zb,2,none⟩=some (.int .i64 x.pos):=by rw[cell_of_row _ _ _ _ _ _ hb0];rfl
  have HB0:=Lib.hid hb0;have HLB:=Lib.hid hLb;have HKB:=Lib.hid hKb;clear hwb hzb hb0 hLb hKb HL HKr q0 q1 q2;have HPG:=Lib.hid (AN hxa hxs)
  go_wp2_with fail
  rw[HPG.out];refine(ae _ x.pos 0 33 HLB.out rfl).mono ?_;rintro e w3 ⟨rfl,hL3,hk3⟩;have hb3:=(hk3.block zb (aG HB0.out) hzp).trans HB0.out;have c1:w3.cell? ⟨zb,1,none⟩=some (.int .u64 x.size):=by rw[cell_of_row _ _ _ _ _ _ hb3];rfl
  have c2:w3.cell? ⟨zb,2,none⟩=some (.int .i64 x.pos):=by rw[cell_of_row _ _ _ _ _ _ hb3];rfl
  have HL3:=Lib.hid hL3;have HK3:=Lib.hid (HKB.out.trans hk3 (fun _ _ e=>e));have HB3:=Lib.hid hb3;clear hL3 hk3 hb3 b0 b1 b2 HLB HKB HB0 HPG
  go_wp2_with fail
  refine(ae _ x.pos 1 32 HL3.out rfl).mono ?_;rintro e w4 ⟨rfl,hL4,hk4⟩;have hb4:=(hk4.block zb (aG HB3.out) hzp).trans HB3.out;have d0:w4.cell? ⟨zb,0,none⟩=some (.int .u64 x.Q7):=by rw[cell_of_row _ _ _ _ _ _ hb4];rfl
  have d1:w4.cell? ⟨zb,1,none⟩=some (.int .u64 x.size):=by rw[cell_of_row _ _ _ _ _ _ hb4];rfl
  have d2:w4.cell? ⟨zb,2,none⟩=some (.int .i64 x.pos):=by rw[cell_of_row _ _ _ _ _ _ hb4];rfl
  have HL4:=Lib.hid hL4;have HK4:=Lib.hid (HK3.out.trans hk4 (fun _ _ e=>e));have hzr:=aG hb4;have HC:Hid (∀w',aD (fun i=>i=pb) w4 w'→w'.cell? ⟨zb,0,none⟩=some (.int .u64 x.Q7)∧w'.cell? ⟨zb,1,none⟩=some (.int .u64 x.size)∧w'.cell? ⟨zb,2,none⟩=some (.int .i64 x.pos)):=fun w' hk =>
   ⟨(hk.cell (p:=⟨zb,0,none⟩) hzr hzp).trans d0,(hk.cell (p:=⟨zb,1,none⟩) hzr hzp).trans d1,(hk.cell (p:=⟨zb,2,none⟩) hzr hzp).trans d2⟩
  have HLd:=Lib.hid (hL4.new ((aD.refl _ w4).drew));clear hL4 hk4 hb4 c1 c2 HL3 HK3 HB3
  go_wp2_with fail
  go_region_held3 (fun w'=>w'.cell? ⟨zb,0,none⟩=some (.int .u64 x.Q7)∧w'.cell? ⟨zb,1,none⟩=some (.int .u64 x.size)∧w'.cell? ⟨zb,2,none⟩=some (.int .i64 x.pos))
   (first|exact HC.out _ ((aD.refl _ w4).drew)|exact HC.out _ (((aD.refl _ w4).drew).trans (by assumption) (fun _ _ e=>e)))
   (first
    | (go_at_call 98;refine(kG x.Q7 x.size 4294967296 _ hxa hxs χ).mono ?_;rintro e w2 ⟨rfl,rfl⟩)
    | (go_at_call 73;refine(ae _ _ 2 34 HLd.out rfl).mono ?_;rintro e w2 ⟨rfl,hL5,hk5⟩))
  have HL5:=Lib.hid hL5;have HK5:=Lib.hid hk5;clear hL5 hk5
  go_wp2
  go_roundw
  case rel =>
   refine⟨n+1,χ,by go_num,HL5.out.congr fun p=>?_,HK4.out.trans (((aD.refl _ _).drew).trans HK5.out (fun _ _ e=>e)) (fun _ _ e=>e)⟩;rw[aP HX.out];have hd:decide ((0:Int)<(x.size:Int))=decide (0<x.size):=decide_eq_decide.2 χ;simp only[hd,rj,List.mem_append,List.flatMap_append,List.flatMap_cons,List.flatMap_nil,List.append_nil];constructor
   ·rintro(h|h|h|h)
    ·exact .inl (.inr (.inr h))
    ·exact .inl (.inr (.inl (.inr h)))
    ·exact .inl (.inr (.inl (.inl h)))
    ·rcases h with h|h
     ·exact .inl (.inl h)
     ·exact .inr h
   ·rintro((h|(h|h)|h)|h)
    ·exact .inr (.inr (.inr (.inl h)))
    ·exact .inr (.inr (.inl h))
    ·exact .inr (.inl h)
    ·exact .inl h
    ·exact .inr (.inr (.inr (.inr h)))
  case measure=>simp[intOf];omega
 ·obtain rfl:n=P.parts.length:=χ
  rw[List.take_length]at hL;have HL2:=Lib.hid hL;have HK2:=Lib.hid hk;clear hL;have hP2:fO wr pb (.slice Au P.parts.length cu) P.parts:=HPa.out.keep hk;clear hk
  go_wp2_with fail
  refine(mJ HL2.out hP2 3 rfl).mono ?_;rintro e w2 ⟨rfl,hL3,hk3⟩;have HL3:=Lib.hid hL3;have HK3:=Lib.hid hk3;clear hL3 hk3
  go_wp2
  go_end0
  refine⟨rfl,HL3.out.congr fun p=>?_,(HK.out.trans HK2.out (fun _ _ e=>e)).trans HK3.out (fun _ _ e=>e)⟩;simp only[sY,List.mem_append];constructor
  ·rintro(h|h|h|h)
   ·exact .inr h
   ·exact .inl (.inr h)
   ·exact .inl (.inl (.inl h))
   ·exact .inl (.inl (.inr h))
  ·rintro(((h|h)|h)|h)
   ·exact .inr (.inr (.inl h))
   ·exact .inr (.inr (.inr h))
   ·exact .inr (.inl h)
   ·exact .inl h
theorem nv{P:aC}{l:List cW}{x:cW}{p:Wr}:p∈gZ P (l++[x])↔p∈gZ P l∨(∃y∈l,p∈say (!decide (x.QO=y.QO)) (max x.pos y.pos) 1)∨p∈x.runs.flatMap (rT P x.needs):=by
 simp only[gZ,List.mem_append,dE,List.flatMap_append,List.flatMap_cons,List.flatMap_nil,List.append_nil];constructor
 ·rintro((h|h)|(h|h))
  ·exact .inl (.inl h)
  ·exact .inr (.inl h)
  ·exact .inl (.inr h)
  ·exact .inr (.inr h)
 ·rintro((h|h)|(h|h))
  ·exact .inl (.inl h)
  ·exact .inr (.inl h)
  ·exact .inl (.inr h)
  ·exact .inr (.inr h)
theorem xu{v:aR}{P:aC}{L:List Wr}(h:aE B w pb v P cq L){z0:Nat}{D:Nat→DataW Value}{r:Nat→ByteArray→Value}(hF:dI (z0+10) w (bP z0) (dN P) D r)
 (hpb:pb<z0){u:Value}{xs:List cW}(hs:aJ B 4 (i7 B) w u xs):
 Calls Tryz.prog 76 #[.pointer (some ⟨pb,0,none⟩),u,.agg (dm z0)] w fun e w'=>e=.returned (.tuple #[])∧aE B w' pb v P cq (gZ P xs++L)∧aD (fun k=>k=pb) w w':=by
 obtain⟨A,c,rfl,hnc,hn0,hl⟩:=hs;unfold top at hn0;have hlt:=h.lt;have hBp:=h.base;unfold dm;have HF:=hh hF;clear hF
 go_enter Tryz.func76,Tryz.ntmps76
 go_wp2
 obtain⟨wb,hwb⟩:∃u:World,u=w.alloc (Obj.cells (dm z0) 137):=⟨_,rfl⟩;unfold dm at hwb;rw[←hwb];obtain⟨zb,hzb⟩:∃u:Nat,u=w.heap.size:=⟨_,rfl⟩;rw[←hzb];have hb0:wb.heap[zb]?=some (.cells (dm z0) 137 (0,0)):=by rw[hwb,hzb];exact heap_alloc_new _ _
 have hkb:aD (fun k=>k=pb) w wb:=by rw[hwb];exact(aD.refl _ _).alloc _
 have hLb:aE B wb pb v P cq L:=by rw[hwb];exact h.new ((aD.refl _ _).alloc _)
 have hzp:zb≠pb:=χ
 have HKb:=hh hkb;have HLb:=hh hLb;have HB0:=hh hb0;clear hwb hzb hb0 hkb hLb
 go_loopw [14] (fun i wr=>∃n:Nat,n≤xs.length∧i=.int .i64 n∧aE B wr pb v P cq (gZ P (xs.take n)++L)∧aD (fun k=>k=pb) wb wr) (fun i _=>xs.length-(intOf i).toNat)
 case atStart=>exact⟨0,Nat.zero_le _,rfl,by simpa[gZ,dA]using HLb.out,aD.refl _ _⟩
 case round =>
 obtain⟨n,hn,rfl,hL,hk⟩:=hrel
 by_cases hlt2:n<xs.length
 ·obtain⟨bl,off,rfl,hbl,hcs⟩:=hl χ
  obtain⟨x,hx⟩:=ge hlt2;have hkw:=HKb.out.trans hk (fun _ _ e=>e);obtain⟨ur,hc,hs1,hpos,hcpu⟩:=(cK B) _ _ _ _ _ (hkw.below (B:=B) χ (fun _ hi e=>χ)) hbl (hcs n x hx);have hs2:=hs1;obtain⟨Ar,cR,rfl,hrc,hrn,_⟩:=hs1;have q0:=hc.c0;have q1:=hc 1 _ rfl;have q2:=hc 2 _ rfl;have q3:=hc 3 _ rfl;have hsz:=hkw.size;have hblr:bl<wr.heap.size:=χ
  unfold lim at hcpu;unfold top at hrn;have HX:=hh hx;have HL:=hh hL;have HK:=hh hk;have HCS:=hh hcs;have HS2:=hh hs2;have hnc2:n≤c:=χ
  clear hx hL hk hkw hc hs2
  go_wp2
  obtain⟨wo,hwo⟩:∃wo:World,wo=wr.alloc (Obj.cells #[.int .i64 x.pos,.int .u64 x.QO,.bool x.needs,.slice Ar x.runs.length cR] 92):=⟨_,rfl⟩;rw[←hwo];obtain⟨z,hz⟩:∃z,z=wr.heap.size:=⟨_,rfl⟩;rw[←hz];have hx0:wo.heap[z]?=some (.cells #[.int .i64 x.pos,.int .u64 x.QO,.bool x.needs,.slice Ar x.runs.length cR] 92 (0,0)):=by rw[hwo,hz];exact heap_alloc_new _ _
  have hLo:aE B wo pb v P cq (gZ P (xs.take n)++L):=by rw[hwo];exact HL.out.new ((aD.refl _ _).alloc _)
  have hKo:aD (fun k=>k=pb) wb wo:=by rw[hwo];exact HK.out.alloc _
  have hsro:aJ B 4 ec wo (.slice Ar x.runs.length cR) x.runs:=HS2.out.below (aF _ _ _) (by rw[hwo];exact((aD.refl (fun _=>False) _).alloc _).below χ (fun _ _ h=>h));have HSR:=hh hsro;have hzp2:z≠pb:=χ
  have HX0:=hh hx0;have HKo:=hh hKo;have HLo:=hh hLo;clear hwo hz hx0 hKo hLo q0 q1 q2 q3 HL HK hsro HS2
  go_loopw [23] (fun j wq=>∃k:Nat,k≤n∧j=.int .i64 k∧aE B wq pb v P cq ((xs.take k).flatMap (fun y=>say (!decide (x.QO=y.QO)) (max x.pos y.pos) 1)++(gZ P (xs.take n)++L))∧aD (fun i=>i=pb) wo wq) (fun j _=>n-(intOf j).toNat)
  case atStart=>exact⟨0,Nat.zero_le _,rfl,HLo.out,aD.refl _ _⟩
  case round =>
  obtain⟨k,hkn,rfl,hL2,hk2⟩:=hrel;have hx2:=(hk2.block z (aG HX0.out) hzp2).trans HX0.out;have x0:wr.cell? ⟨z,0,none⟩=some (.int .i64 x.pos):=cr hx2 rfl;have x1:wr.cell? ⟨z,1,none⟩=some (.int .u64 x.QO):=cr hx2 rfl;have x3:wr.cell? ⟨z,3,none⟩=some (.slice Ar x.runs.length cR):=cr hx2 rfl;have hzr:z<wr.heap.size:=aG hx2
  by_cases hlt3:k<n
  ·obtain⟨y,hy⟩:∃y,xs[k]?=some y:=⟨_,Ez χ⟩
   have hkw:=(HKb.out.trans HKo.out (fun _ _ e=>e)).trans hk2 (fun _ _ e=>e);have hsz2:=hkw.size;obtain⟨uy,hc,⟨Ay,cy,rfl,_⟩,hpy,hcy⟩:=(cK B) _ _ _ _ _ (hkw.below (B:=B) χ (fun _ hi e=>χ)) hbl (HCS.out k y hy);have y0:=hc.c0;have y1:=hc 1 _ rfl;have y2:=hc 2 _ rfl;have y3:=hc 3 _ rfl;unfold lim at hcy;have hbl2:bl<wr.heap.size:=χ
   have HL2:=hh hL2;have HK2:=hh hk2;have HY:=hh hy;have HV:=hh (show((x.QO:Int)!=(y.QO:Int))=!decide (x.QO=y.QO) by
    by_cases he:x.QO=y.QO
    ·simp[he]
    ·have:¬ (x.QO:Int)=y.QO:=χ
     simp[he,this])
   clear hL2 hk2 hkw hc hy hx2
   go_wp2_with fail
   all_goals
    rw[HV.out];refine(ae _ _ 1 81 (HL2.out.new ((aD.refl _ _).alloc _)) rfl).mono ?_;rintro e w2 ⟨rfl,hL3,hk3⟩;have HL3:=hh hL3;have HK3:=hh hk3;clear hL3 hk3
    go_wp2
    go_roundw
    case rel =>
     refine⟨k+1,χ,by go_num,HL3.out.congr fun p=>?_,HK2.out.trans (((aD.refl _ _).alloc _).trans HK3.out (fun _ _ e=>e)) (fun _ _ e=>e)⟩;rw[aP HY.out]
     first
      | (have hm:max x.pos y.pos=y.pos:=χ;simp[hm,or_assoc,or_comm,or_left_comm])
      | (have hm:max x.pos y.pos=x.pos:=χ;simp[hm,or_assoc,or_comm,or_left_comm])
    case measure=>simp[intOf];omega
  ·obtain rfl:k=n:=χ
   obtain⟨wm,hwm⟩:∃u:World,u=wr:=⟨_,rfl⟩;rw[←hwm]at hL2 hk2 hx2 x0 x1 x3 hzr⊢;have HL2:=hh hL2;have HK2:=hh hk2;have HX2:=hh hx2;clear hwm wr hL2 hk2 hx2 HX0 HLo
   go_wp2
   clear x0 x1 x3
   go_loopw [43] (fun j wq=>∃m:Nat,m≤x.runs.length∧j=.int .i64 m∧aE B wq pb v P cq ((x.runs.take m).flatMap (rT P x.needs)++((xs.take k).flatMap (fun y=>say (!decide (x.QO=y.QO)) (max x.pos y.pos) 1)++(gZ P (xs.take k)++L)))∧aD (fun i=>i=pb) wm wq) (fun j _=>x.runs.length-(intOf j).toNat)
   case atStart=>exact⟨0,Nat.zero_le _,rfl,HL2.out,aD.refl _ _⟩
   case round =>
   obtain⟨m,hm,rfl,hL3,hk3⟩:=hrel
   by_cases hlt4:m<x.runs.length
   ·obtain⟨Ar',cR',e,_,_,hlr⟩:=HSR.out
    cases e
    obtain⟨gl,go_,rfl,hgl,hgs⟩:=hlr χ;obtain⟨rr,hrr⟩:=ge hlt4;have hk4:=HK2.out.trans hk3 (fun _ _ e=>e);have hbo:B≤wo.heap.size:=by have:=HKb.out.size;have:=HKo.out.size;omega
    have hsz3:=hk4.size;obtain⟨hc,hok⟩:=(aF B _ _) _ _ _ _ _ (hk4.below (B:=B) hbo (fun _ hi e=>χ)) hgl (hgs m rr hrr);have q0:=hc.c0;have q1:=hc 1 _ rfl;have q2:=hc 2 _ rfl;have q3:=hc 3 _ rfl;obtain⟨hrp,hrb,hrpe,hrs⟩:=hok;unfold lim at hrpe hrb;have hgr:gl<wr.heap.size:=χ
    have hsm:rr.QK.size≤maxLen:=by unfold aX at hrs;unfold maxLen;omega
    have HR:=hh hrr;have HL3:=hh hL3;have HK3:=hh hk3;have HX3:=hh ((hk3.block z (aG HX2.out) hzp2).trans HX2.out);have HB3:=hh ((((HKo.out.trans HK2.out (fun _ _ e=>e)).trans hk3 (fun _ _ e=>e)).block zb (aG HB0.out) hzp).trans HB0.out);have x2:wr.cell? ⟨z,2,none⟩=some (.bool x.needs):=cr HX3.out rfl;have hzr3:z<wr.heap.size:=aG HX3.out;have hzr4:z<wr.heap.size+1:=χ
    have hbr3:zb<wr.heap.size:=aG HB3.out;clear hL3 hk3 hk4 hc hrr hgs hlr;have HPE:=hh (show((rr.per:Int)==0)=decide (rr.per=0) by
     by_cases he:rr.per=0
     ·simp[he]
     ·have:¬ (rr.per:Int)=0:=χ
      simp[he])
    obtain⟨nd,hnd⟩:∃nd,nd=x.needs:=⟨_,rfl⟩;rw[←hnd]at x2;have HND:=hh hnd;clear hnd;have HOK:=hh (show(nd||decide (rr.per=0))=(x.needs||decide (rr.per=0)) by rw[HND.out])
    cases nd
    ·go_wp2_with fail
     rw[HPE.out];obtain⟨wc,hwc⟩:∃u:World,u=wr.alloc (Obj.cells #[.int .i64 rr.pos,.string rr.QK,.int .u64 rr.QT,.int .u64 rr.per] 108):=⟨_,rfl⟩;rw[←hwc];obtain⟨zr,hzr5⟩:∃u,u=wr.heap.size:=⟨_,rfl⟩;rw[←hzr5];have hr0:wc.heap[zr]?=some (.cells #[.int .i64 rr.pos,.string rr.QK,.int .u64 rr.QT,.int .u64 rr.per] 108 (0,0)):=by rw[hwc,hzr5];exact heap_alloc_new _ _
     have hkc:Kz wr wc:=by rw[hwc];exact(aD.refl _ _).alloc _
     have hLc:=HL3.out.new hkc;have hrp2:zr≠pb:=by have:=HKb.out.size;have:=HKo.out.size;omega
     refine(ae _ rr.pos 0 5 hLc rfl).mono ?_;rintro e w3 ⟨rfl,hL4,hk4⟩;have hkwx:aD (fun i=>i=pb) wr w3:=(hkc.mono (T:=fun i=>i=pb) (fun i _ h=>h.elim)).trans hk4 (fun _ _ e=>e);have hr4:=(hk4.block zr (aG hr0) hrp2).trans hr0;have hb4:=(hkwx.block zb hbr3 hzp).trans HB3.out;have r0:w3.cell? ⟨zr,0,none⟩=some (.int .i64 rr.pos):=cr hr4 rfl;have r1:w3.cell? ⟨zr,1,none⟩=some (.string rr.QK):=cr hr4 rfl;have b3:w3.cell? ⟨zb,3,none⟩=some (.map (some (z0+4))):=cr hb4 rfl;have hzr6:zr<w3.heap.size:=aG hr4;have hzb6:zb<w3.heap.size:=aG hb4;have hkall:aD (fun i=>i=pb) w w3:=(HKb.out.trans HKo.out (fun _ _ e=>e)).trans ((HK2.out.trans HK3.out (fun _ _ e=>e)).trans hkwx (fun _ _ e=>e)) (fun _ _ e=>e);have hasq:∀w',Kz w3 w'→Calls Tryz.prog 74 #[.map (some (z0+4)),.string rr.QK] w' fun e w2=>e=.returned (.bool (has P.QS rr.QK))∧w'=w2:=fun w' hk=>by
      have hk5:aD (fun i=>i=pb) w w':=hkall.trans hk (fun _ _ e=>e.elim);exact mr (HF.out.keep hk5 (fun k e _=>by subst e;exact⟨χ,by simp[bP];omega⟩)) 3 (z0+4) P.QS rfl rfl rr.QK hsm
     have HH:=hh hasq;have HC:Hid (∀w',aD (fun i=>i=pb) w3 w'→w'.cell? ⟨zr,0,none⟩=some (.int .i64 rr.pos)∧w'.cell? ⟨zr,1,none⟩=some (.string rr.QK)∧w'.cell? ⟨zb,3,none⟩=some (.map (some (z0+4)))):=fun w' hk =>
      ⟨(hk.cell (p:=⟨zr,0,none⟩) hzr6 hrp2).trans r0,(hk.cell (p:=⟨zr,1,none⟩) hzr6 hrp2).trans r1,(hk.cell (p:=⟨zb,3,none⟩) hzb6 hzp).trans b3⟩
     have HLd:=hh (hL4.new ((aD.refl _ w3).drew));have HKW:=hh hkwx;clear hwc hzr5 hr0 hkc hLc hL4 hk4 hkwx hr4 hb4 hkall hasq q0 q1 q2 q3 x2
     by_cases hse:rr.QK=ByteArray.empty
     ·have hd1:(rr.QK.toList==ByteArray.toList { data := #[] })=true:=by rw[aw];exact decide_eq_true hse
      have hd2:(rr.QK.toList==[])=true:=by rw[gH]at hd1;exact hd1
      have HSE:=hh hse;clear hse
      go_upto_region 13 with fail
      refine wp_region_still_tail 13 δ δ ?_;simp only[List.take_succ_cons,List.take_zero,List.drop_succ_cons,List.drop_zero]
      iterate 13 with_reducible refine sl ?_
      with_reducible refine wpStill_nil ?_;refine Lz (fun K hK=>?_)
      go_simp;refine(ae _ _ 2 80 HLd.out rfl).mono ?_;rintro e w2 ⟨rfl,hL5,hk5⟩;with_reducible refine hK _ _ (ln ?_);clear hK K;apply jc
      have HL5:=hh hL5;have HK5:=hh hk5;clear hL5 hk5
      go_wp2
      go_roundw
      case rel =>
       refine⟨m+1,χ,by go_num,HL5.out.congr fun p=>?_,(HK3.out.trans HKW.out (fun _ _ e=>e)).trans (((aD.refl _ _).drew).trans HK5.out (fun _ _ e=>e)) (fun _ _ e=>e)⟩;rw[aP HR.out];have hse2:decide (rr.QK=ByteArray.empty)=true:=decide_eq_true HSE.out;have hok2:=HOK.out;simp only[Bool.false_or,Bool.true_or]at hok2;simp only[rT,←hok2,hse2,Bool.true_or,List.mem_append,List.flatMap_append,List.flatMap_cons,List.flatMap_nil,List.append_nil];constructor
       ·rintro(h|h|h|h)
        ·exact .inl (.inr (.inr h))
        ·exact .inl (.inr (.inl h))
        ·exact .inl (.inl h)
        ·exact .inr h
       ·rintro((h|h|h)|h)
        ·exact .inr (.inr (.inl h))
        ·exact .inr (.inl h)
        ·exact .inl h
        ·exact .inr (.inr (.inr h))
      case measure=>simp[intOf];omega
     ·have hd1:(rr.QK.toList==ByteArray.toList { data := #[] })=false:=by rw[aw];exact decide_eq_false hse
      have hd2:(rr.QK.toList==[])=false:=by rw[gH]at hd1;exact hd1
      have HSE:=hh hse;clear hse
      go_upto_region 13 with fail
      go_region_held3 (fun w'=>w'.cell? ⟨zr,0,none⟩=some (.int .i64 rr.pos)∧w'.cell? ⟨zr,1,none⟩=some (.string rr.QK)∧w'.cell? ⟨zb,3,none⟩=some (.map (some (z0+4))))
       (first|exact HC.out _ ((aD.refl _ w3).drew)|exact HC.out _ (((aD.refl _ w3).drew).trans (by assumption) (fun _ _ e=>e)))
       (first
        | (go_at_call 74;refine(HH.out _ ((aD.refl _ w3).drew)).mono ?_;rintro e w2 ⟨rfl,rfl⟩)
        | (go_at_call 73;refine(ae _ _ 2 80 HLd.out rfl).mono ?_;rintro e w2 ⟨rfl,hL5,hk5⟩))
      have HL5:=hh hL5;have HK5:=hh hk5;clear hL5 hk5
      go_wp2
      go_roundw
      case rel =>
       refine⟨m+1,χ,by go_num,HL5.out.congr fun p=>?_,(HK3.out.trans HKW.out (fun _ _ e=>e)).trans (((aD.refl _ _).drew).trans HK5.out (fun _ _ e=>e)) (fun _ _ e=>e)⟩;rw[aP HR.out];have hse2:decide (rr.QK=ByteArray.empty)=false:=decide_eq_false HSE.out;have hok2:=HOK.out;simp only[Bool.false_or,Bool.true_or]at hok2;simp only[rT,←hok2,hse2,Bool.false_or,List.mem_append,List.flatMap_append,List.flatMap_cons,List.flatMap_nil,List.append_nil];constructor
       ·rintro(h|h|h|h)
        ·exact .inl (.inr (.inr h))
        ·exact .inl (.inr (.inl h))
        ·exact .inl (.inl h)
        ·exact .inr h
       ·rintro((h|h|h)|h)
        ·exact .inr (.inr (.inl h))
        ·exact .inr (.inl h)
        ·exact .inl h
        ·exact .inr (.inr (.inr h))
      case measure=>simp[intOf];omega
    ·go_wp2_with fail
     obtain⟨wc,hwc⟩:∃u:World,u=wr.alloc (Obj.cells #[.int .i64 rr.pos,.string rr.QK,.int .u64 rr.QT,.int .u64 rr.per] 108):=⟨_,rfl⟩;rw[←hwc];obtain⟨zr,hzr5⟩:∃u,u=wr.heap.size:=⟨_,rfl⟩;rw[←hzr5];have hr0:wc.heap[zr]?=some (.cells #[.int .i64 rr.pos,.string rr.QK,.int .u64 rr.QT,.int .u64 rr.per] 108 (0,0)):=by rw[hwc,hzr5];exact heap_alloc_new _ _
     have hkc:Kz wr wc:=by rw[hwc];exact(aD.refl _ _).alloc _
     have hLc:=HL3.out.new hkc;have hrp2:zr≠pb:=by have:=HKb.out.size;have:=HKo.out.size;omega
     refine(ae _ rr.pos 0 5 hLc rfl).mono ?_;rintro e w3 ⟨rfl,hL4,hk4⟩;have hkwx:aD (fun i=>i=pb) wr w3:=(hkc.mono (T:=fun i=>i=pb) (fun i _ h=>h.elim)).trans hk4 (fun _ _ e=>e);have hr4:=(hk4.block zr (aG hr0) hrp2).trans hr0;have hb4:=(hkwx.block zb hbr3 hzp).trans HB3.out;have r0:w3.cell? ⟨zr,0,none⟩=some (.int .i64 rr.pos):=cr hr4 rfl;have r1:w3.cell? ⟨zr,1,none⟩=some (.string rr.QK):=cr hr4 rfl;have b3:w3.cell? ⟨zb,3,none⟩=some (.map (some (z0+4))):=cr hb4 rfl;have hzr6:zr<w3.heap.size:=aG hr4;have hzb6:zb<w3.heap.size:=aG hb4;have hkall:aD (fun i=>i=pb) w w3:=(HKb.out.trans HKo.out (fun _ _ e=>e)).trans ((HK2.out.trans HK3.out (fun _ _ e=>e)).trans hkwx (fun _ _ e=>e)) (fun _ _ e=>e);have hasq:∀w',Kz w3 w'→Calls Tryz.prog 74 #[.map (some (z0+4)),.string rr.QK] w' fun e w2=>e=.returned (.bool (has P.QS rr.QK))∧w'=w2:=fun w' hk=>by
      have hk5:aD (fun i=>i=pb) w w':=hkall.trans hk (fun _ _ e=>e.elim);exact mr (HF.out.keep hk5 (fun k e _=>by subst e;exact⟨χ,by simp[bP];omega⟩)) 3 (z0+4) P.QS rfl rfl rr.QK hsm
     have HH:=hh hasq;have HC:Hid (∀w',aD (fun i=>i=pb) w3 w'→w'.cell? ⟨zr,0,none⟩=some (.int .i64 rr.pos)∧w'.cell? ⟨zr,1,none⟩=some (.string rr.QK)∧w'.cell? ⟨zb,3,none⟩=some (.map (some (z0+4)))):=fun w' hk =>
      ⟨(hk.cell (p:=⟨zr,0,none⟩) hzr6 hrp2).trans r0,(hk.cell (p:=⟨zr,1,none⟩) hzr6 hrp2).trans r1,(hk.cell (p:=⟨zb,3,none⟩) hzb6 hzp).trans b3⟩
     have HLd:=hh (hL4.new ((aD.refl _ w3).drew));have HKW:=hh hkwx;clear hwc hzr5 hr0 hkc hLc hL4 hk4 hkwx hr4 hb4 hkall hasq q0 q1 q2 q3 x2
     by_cases hse:rr.QK=ByteArray.empty
     ·have hd1:(rr.QK.toList==ByteArray.toList { data := #[] })=true:=by rw[aw];exact decide_eq_true hse
      have hd2:(rr.QK.toList==[])=true:=by rw[gH]at hd1;exact hd1
      have HSE:=hh hse;clear hse
      go_upto_region 13 with fail
      refine wp_region_still_tail 13 δ δ ?_;simp only[List.take_succ_cons,List.take_zero,List.drop_succ_cons,List.drop_zero]
      iterate 13 with_reducible refine sl ?_
      with_reducible refine wpStill_nil ?_;refine Lz (fun K hK=>?_)
      go_simp;refine(ae _ _ 2 80 HLd.out rfl).mono ?_;rintro e w2 ⟨rfl,hL5,hk5⟩;with_reducible refine hK _ _ (ln ?_);clear hK K;apply jc
      have HL5:=hh hL5;have HK5:=hh hk5;clear hL5 hk5
      go_wp2
      go_roundw
      case rel =>
       refine⟨m+1,χ,by go_num,HL5.out.congr fun p=>?_,(HK3.out.trans HKW.out (fun _ _ e=>e)).trans (((aD.refl _ _).drew).trans HK5.out (fun _ _ e=>e)) (fun _ _ e=>e)⟩;rw[aP HR.out];have hse2:decide (rr.QK=ByteArray.empty)=true:=decide_eq_true HSE.out;have hok2:=HOK.out;simp only[Bool.false_or,Bool.true_or]at hok2;simp only[rT,←hok2,hse2,Bool.true_or,List.mem_append,List.flatMap_append,List.flatMap_cons,List.flatMap_nil,List.append_nil];constructor
       ·rintro(h|h|h|h)
        ·exact .inl (.inr (.inr h))
        ·exact .inl (.inr (.inl h))
        ·exact .inl (.inl h)
        ·exact .inr h
       ·rintro((h|h|h)|h)
        ·exact .inr (.inr (.inl h))
        ·exact .inr (.inl h)
        ·exact .inl h
        ·exact .inr (.inr (.inr h))
      case measure=>simp[intOf];omega
     ·have hd1:(rr.QK.toList==ByteArray.toList { data := #[] })=false:=by rw[aw];exact decide_eq_false hse
      have hd2:(rr.QK.toList==[])=false:=by rw[gH]at hd1;exact hd1
      have HSE:=hh hse;clear hse
      go_upto_region 13 with fail
      go_region_held3 (fun w'=>w'.cell? ⟨zr,0,none⟩=some (.int .i64 rr.pos)∧w'.cell? ⟨zr,1,none⟩=some (.string rr.QK)∧w'.cell? ⟨zb,3,none⟩=some (.map (some (z0+4))))
       (first|exact HC.out _ ((aD.refl _ w3).drew)|exact HC.out _ (((aD.refl _ w3).drew).trans (by assumption) (fun _ _ e=>e)))
       (first
        | (go_at_call 74;refine(HH.out _ ((aD.refl _ w3).drew)).mono ?_;rintro e w2 ⟨rfl,rfl⟩)
        | (go_at_call 73;refine(ae _ _ 2 80 HLd.out rfl).mono ?_;rintro e w2 ⟨rfl,hL5,hk5⟩))
      have HL5:=hh hL5;have HK5:=hh hk5;clear hL5 hk5
      go_wp2
      go_roundw
      case rel =>
       refine⟨m+1,χ,by go_num,HL5.out.congr fun p=>?_,(HK3.out.trans HKW.out (fun _ _ e=>e)).trans (((aD.refl _ _).drew).trans HK5.out (fun _ _ e=>e)) (fun _ _ e=>e)⟩;rw[aP HR.out];have hse2:decide (rr.QK=ByteArray.empty)=false:=decide_eq_false HSE.out;have hok2:=HOK.out;simp only[Bool.false_or,Bool.true_or]at hok2;simp only[rT,←hok2,hse2,Bool.false_or,List.mem_append,List.flatMap_append,List.flatMap_cons,List.flatMap_nil,List.append_nil];constructor
       ·rintro(h|h|h|h)
        ·exact .inl (.inr (.inr h))
        ·exact .inl (.inr (.inl h))
        ·exact .inl (.inl h)
        ·exact .inr h
       ·rintro((h|h|h)|h)
        ·exact .inr (.inr (.inl h))
        ·exact .inr (.inl h)
        ·exact .inl h
        ·exact .inr (.inr (.inr h))
      case measure=>simp[intOf];omega
   ·obtain rfl:m=x.runs.length:=χ
    rw[List.take_length]at hL3;have HL3:=hh hL3;have HK3:=hh hk3;clear hL3 hk3
    go_wp2
    go_roundw
    case rel =>
     refine⟨k+1,χ,by go_num,HL3.out.congr fun p=>?_,(HKo.out.trans HK2.out (fun _ _ e=>e)).trans HK3.out (fun _ _ e=>e)⟩;rw[aP HX.out];simp only[List.mem_append,nv];rw[show(p∈(xs.take k).flatMap (fun y=>say (!decide (x.QO=y.QO)) (max x.pos y.pos) 1))↔∃y∈xs.take k,p∈say (!decide (x.QO=y.QO)) (max x.pos y.pos) 1 from List.mem_flatMap];constructor
     ·rintro(h|h|h|h)
      ·exact .inl (.inr (.inr h))
      ·exact .inl (.inr (.inl h))
      ·exact .inl (.inl h)
      ·exact .inr h
     ·rintro((h|h|h)|h)
      ·exact .inr (.inr (.inl h))
      ·exact .inr (.inl h)
      ·exact .inl h
      ·exact .inr (.inr (.inr h))
    case measure=>simp[intOf];omega
 ·obtain rfl:n=xs.length:=χ
  rw[List.take_length]at hL;have HL:=hh hL;have HK:=hh hk;clear hL hk
  go_wp2
  go_end0
  exact⟨rfl,HL.out,HKb.out.trans HK.out (fun _ _ e=>e)⟩
def spC(l:List Sp):List Value:=l.flatMap du
theorem nX(l:List Sp)(x:Sp):spC (l++[x])=spC l++du x:=by simp[spC]
theorem qU(l:List Sp):(spC l).length=l.length*2:=by
 induction l with
 | nil=>rfl
 | cons x t ih=>simp only[spC,List.flatMap_cons,List.length_append]at ih⊢; rw[ih];simp[du];omega
theorem qV:∀(l:List Sp) (i:Nat) (s:Sp),l[i]?=some s→(spC l)[i*2]?=some (.int .u64 s.1)∧(spC l)[i*2+1]?=some (.int .u64 s.2)
 | [],_,_,h=>by simp at h
 | x::t,0,s,h=>by
  have:x=s:=by simpa using h
  subst this;exact⟨rfl,rfl⟩
 | x::t,i+1,s,h=>by
  obtain⟨d,g⟩:=qV t i s (by simpa using h);have e:spC (x::t)=.int .u64 x.1 :: .int .u64 x.2::spC t:=rfl;rw[e];refine⟨?_,?_⟩
  ·rw[show(i+1)*2=i*2+1+1 by omega];simpa using d
  ·rw[show(i+1)*2+1=i*2+1+1+1 by omega];simpa using g
theorem Tryz.info180:(Tryz.prog.info? 180).map (fun i=>(i.zero,i.size,i.bytes))=some (some (.agg #[.int .u64 0,.int .u64 0]),2,16):=δ
theorem mH{P:Program}(K:P=Tryz.prog){y:Array Oper}{rest:List Oper}{o:Oper}{a:Act}{Q:Exit→Act→World→Prop}(A:o.guard=none){s x:Operand}
 (O:o.op=.call { callee := .builtin .append,args := #[s,x],argTypes := #[173,173] }){Z:Nat}{u:Value}{l:List Sp}(R:a.eval s=u)(r:w.ownsRow Z 180 2 u l.length (spC l))(W:l.length≤8388608)
 {d:Nat}{p:Sp}(hx:a.eval x=.slice (some ⟨d,0,none⟩) 1 1)(c0:w.cell? ⟨d,0,none⟩=some (.int .u64 p.1))(c1:w.cell? ⟨d,1,none⟩=some (.int .u64 p.2))(L:Z≤w.heap.size)
 (h:∀E w',w'.ownsRow Z 180 2 E (l.length+1) (spC (l++[p]))→aD (fun k=>u.ownBlock=some k) w w'→wpList P y Q rest (a.put o.dst E) w'):wpList P y Q (o::rest) a w:=by
 subst K;obtain⟨S,N,B,C,D⟩:=info_parts Tryz.info180;have q:∀j,(⟨d,0,none⟩:Addr).add j=⟨d,j,none⟩:=fun j=>by unfold Addr.add;split<;>simp_all
 refine wpList_append_lies w A s x 173 O Z 180 S (.agg #[.int .u64 0,.int .u64 0]) 2 16 Tryz.underlying173 N B C D rfl χ u l.length (spC l) R r ⟨d,0,none⟩ 1 1 (du p) hx rfl (fun j v hv=>?_) ?_ χ (by unfold maxLen;omega) χ L w.heap.size rfl ?_
 ·rw[q]
  match j,hv with
  | 0,hv=>cases hv;exact c0
  | 1,hv=>cases hv;exact c1
  | j+2,hv=>simp[du]at hv
 ·simp[du,Value.oneCell']
 ·intro g H w' I J U V
  refine h _ w' ?_ (aD.of_grown J (fun k e=>e));rw[nX];exact I
theorem eM{Z:Nat}{l:List Sp}(h:w.ownsRow Z 180 2 u l.length (spC l))(v:l.length≤4194304)(H:pb<Z)(y:∀s∈l,s.1<lim∧s.2<lim):bU w pb u l:=by
 rcases Nat.eq_zero_or_pos l.length with r|r
 ·rcases h.2 with⟨d,_⟩|⟨g,j,q,d,_,_,p,_⟩
  ·exact⟨none,0,by rw[d,r],χ,v,fun h=>χ⟩
  ·exact⟨_,_,d,p,v,fun h=>χ⟩
 ·obtain⟨g,j,hv,J,x⟩:=h.form r
  subst hv;have p:l.length≤j:=by
   rcases h.2 with⟨d,_⟩|⟨I,B,q,d,_,_,p,_⟩
   ·cases d
   ·cases d;exact p
  refine⟨_,_,rfl,p,v,fun _=>⟨g,rfl,x,χ,fun i s A=>?_⟩⟩;obtain⟨C,D⟩:=qV l i s A;have E:=(List.getElem?_eq_some_iff.1 A).1;exact⟨(h.cellAt _ χ).trans C,(h.cellAt _ χ).trans D,y s (List.mem_of_getElem? A)⟩
def dY(l:List Sp):List Sp:=l.filter fun s=>decide (s.1≤s.2)
theorem mW(l:List Sp)(x:Sp):dY (l++[x])=if x.1≤x.2 then dY l++[x]else dY l:=by
 unfold dY;rw[List.filter_append]
 by_cases h:x.1≤x.2<;>simp[h]
theorem oF(l:List Sp):(dY l).length≤l.length:=List.length_filter_le _ _
theorem wM{A:Option Addr}{xs:List Sp}(hu:bU w pb (.slice A xs.length c) xs)(cp:pb<w.heap.size)(a:Act)(bw:a.tmps.size=80)(h0:At a 0 (.slice A xs.length c))(h3:At a 3 (.slice none 0 0))(Q:Exit→Act→World→Prop)
 (hQ:∀a' w' u',aA (fun i=>i==3||i==5||(rg 10 23 i)) a a'→At a' 3 u'→w'.ownsRow w.heap.size 180 2 u' (dY xs).length (spC (dY xs))→Kz w w'→Q .normal a' w'):
 (bE Tryz.f124 [1,1,0]).wp Tryz.prog Q a w:=by
 obtain⟨_,_,e,hc,cb,v⟩:=hu
 cases e
 conv=>arg 2;whnf
 refine so (fun E w1=>aA (fun i=>i==10||i==11||i==12) a E∧At E 10 (.slice A xs.length c)∧At E 11 (.int .i64 xs.length)∧At E 12 (.int .i64 0)∧w1=w) ?_ ?_
 ·clear v
  obtain⟨T,d⟩:=a;refine rl ?_
  iterate 3 with_reducible refine st ?_
  with_reducible refine ln ?_
  refine⟨rfl,ag,aq,aq,aq,rfl⟩
 rintro a0 w0 ⟨ac,b4,b3,b1,rfl⟩;have a8:=ac.size.trans bw;replace h3:=ac.Q7 h3 rfl;obtain⟨Z,hZ⟩:∃z,z=w0.heap.size:=⟨_,rfl⟩;rw[←hZ]at hQ;have HZ:=hh hZ;have cs:pb<Z:=χ
 clear hZ;refine bj xs.length (fun i=>i==3||i==5||(rg 12 23 i)) (fun i=>i==3||i==5||(rg 14 22 i)) (fun k a' w'=>∃u,At a' 3 u∧w'.ownsRow Z 180 2 u (dY (xs.take k)).length (spC (dY (xs.take k)))∧Kz w0 w') χ b1 b3 ψ rfl
  ζ χ ψ (fun k E Y w W ⟨u,h1,h2⟩=>⟨u,W.Q7 h1 rfl,h2⟩) ⟨_,h3,by simpa[dY,spC]using World.ownsRow_nil _ _ _ _,aD.refl _ _⟩ ?_ ?_
 ·rintro k E wr bt W b2 ⟨u,U,r,hk⟩
  obtain⟨g,rfl,hg,ci,a7⟩:=v χ;obtain⟨x,hx⟩:=ge bt;obtain⟨c1,c2,c3,c4⟩:=a7 k x hx;unfold lim at c3 c4;have q0:wr.cell? ⟨g,k*2,none⟩=some (.int .u64 x.1):=(hk.cell (p:=⟨g,k*2,none⟩) hg (fun h=>h)).trans c1;have q1:wr.cell? ⟨g,k*2+1,none⟩=some (.int .u64 x.2):=(hk.cell (p:=⟨g,k*2+1,none⟩) hg (fun h=>h)).trans c2;have bd:=W.Q7 b4 rfl;have a9:=W.size.trans a8;have cd:=hk.size;have cl:g<wr.heap.size:=χ
  have cm:k≤c:=χ
  have HX:=hh hx;have HO:=hh r;have HK:=hh hk;have HA:=hh W;clear hx r hk W a7 c1 c2 v;refine so (fun Y w2=>aA (fun i=>i==14||i==15||i==5) E Y∧At Y 5 (.pointer (some ⟨wr.heap.size,0,none⟩))∧w2=wr.alloc (.cells #[.int .u64 x.1,.int .u64 x.2] 180)) ?_ ?_
  ·obtain⟨T,d⟩:=E
   refine rl ?_
   iterate 4 with_reducible refine st ?_
   with_reducible refine ln ?_
   refine⟨rfl,ag,aq,rfl⟩
  rintro Y wo ⟨I,bc,O⟩;obtain⟨z,hz⟩:∃z,z=wr.heap.size:=⟨_,rfl⟩;rw[←hz]at bc;have S:aL wo z 0 [.int .u64 x.1,.int .u64 x.2]:=by rw[O,hz];exact b8 _ _ _
  have bb:z<wo.heap.size:=by rw[O,hz];simp
  have N:Kz wr wo:=by rw[O];exact(aD.refl _ _).alloc _
  have ba:=I.size.trans a9;have bx:=I.Q7 U rfl;have a6:=hh (ak HO.out N (fun _ _ h=>h));have a5:=hh (HK.out.trans N (fun _ _ h=>h));have cc:=N.size;have be:Hid (aA (fun i=>i==3||i==5||(rg 14 22 i)) E Y):=I.m;clear O hz N HO HK I q0 q1 bd U b2;refine so (fun a3 w3=>aA (fun i=>i==16||i==17||i==18) Y a3∧At a3 18 (.bool (!decide (x.2<x.1)))∧Kz wo w3) ?_ ?_
  ·have q0:=S.c0
   have q1:=S 1 _ rfl;obtain⟨t,ht⟩:∃t,t=decide (x.2<x.1):=⟨_,rfl⟩;rw[←ht];have hc:=ro x.1 x.2 wo;rw[←ht]at hc;have HC:=hh hc;clear hc ht;obtain⟨T,d⟩:=Y;refine rl ?_;with_reducible refine st ?_;refine Lz (fun K hK=>?_)
   go_simp;refine HC.out.mono ?_;rintro e w3 ⟨rfl,q⟩;with_reducible refine hK _ _ ?_;clear hK K
   have y:=hh q;clear q;with_reducible refine st ?_;refine ln ?_
   refine⟨rfl,ag,aq,y.out⟩
  rintro a3 w3 ⟨C,bz,q⟩;have X:=C.size.trans ba;have B:=bz.eval χ;have b5:=C.Q7 bx rfl;have cv:=C.Q7 bc rfl;have af:=S.keep q bb (fun h=>h);have cu:z<w3.heap.size:=Nat.lt_of_lt_of_le bb q.size;have H:=hh (ak a6.out q (fun _ _ h=>h));have y:=hh (a5.out.trans q (fun _ _ h=>h));have V:Hid (aA (fun i=>i==3||i==5||(rg 14 22 i)) E a3):=be.out.t C;have bp:(dY (xs.take k)).length≤4194304:=by have:=oF (xs.take k);rw[List.length_take]at this;omega
  clear C q a6 a5 S
  by_cases hxx:x.2<x.1
  ·rw[decide_eq_true hxx]at B
   refine wp_cond_false B (wp_skip ?_);refine⟨V.out,u,b5,?_,y.out⟩;rw[aP HX.out,mW,if_neg χ];exact H.out
  ·rw[decide_eq_false hxx]at B
   refine wp_cond_true B ?_;refine Code.wp_only (R:=fun a4 w4=>aA (fun i=>i==3||(rg 19 22 i)) a3 a4∧(∃u',At a4 3 u'∧w4.ownsRow Z 180 2 u' ((dY (xs.take k)).length+1) (spC (dY (xs.take k)++[x])))∧Kz w0 w4) ?_ ?_
   ·have q0:=af.c0
    have q1:=af 1 _ rfl;obtain⟨l,hl⟩:∃l,l=dY (xs.take k):=⟨_,rfl⟩;rw[←hl]at H bp⊢;have cf:=hh hl;clear hl af B;obtain⟨T,d⟩:=a3;refine rl ?_
    iterate 3 with_reducible refine st ?_
    have hb:=b8 w3 [.int .u64 x.1,.int .u64 x.2] 180;have L:Kz w3 (w3.alloc (.cells #[.int .u64 x.1,.int .u64 x.2] 180)):=(aD.refl _ _).alloc _;have bl:=hh (ak H.out L (fun _ _ h=>h));refine mH rfl rfl rfl (At.eval (by exact aq) (by have:=X;simp at this⊢; omega)) bl.out χ (At.eval (by exact aq) (by have:=X;simp at this⊢; omega)) hb.c0 (hb 1 _ rfl) (by have:=HZ.out;have:=L.size;have:=y.out.size;omega) ?_;intro u2 w4 D J;have bm:=hh D;have bf:Hid (Kz w0 w4):=(y.out.trans L (fun _ _ h=>h)).trans J (fun i hi h=>by have:=(H.out.lt i h).1;have:=HZ.out;omega);clear D J hb L;simp only[Act.put];with_reducible refine st ?_;refine ln ?_
    refine⟨rfl,ag,⟨u2,aq,bm.out⟩,bf.out⟩
   rintro a4 w4 ⟨bo,⟨u',b0,ad⟩,J⟩;refine⟨V.out.t bo,u',b0,?_,J⟩;rw[aP HX.out,mW,if_pos χ,List.length_append];exact ad
 ·rintro a' w' W ⟨u,U,r,hk⟩
  rw[List.take_length]at r;exact hQ _ _ _ ((ac.m).t W) U r hk
theorem yO{Z:Nat}{l:List Sp}{x:Sp}(a:Act)(v:a.tmps.size=80)(K:At a 6 u)(L:At a 8 (.pointer (some ⟨z,0,none⟩)))(H:Hid (w.ownsRow Z 180 2 u l.length (spC l)))(S:l.length≤8388608)(N:Z≤w.heap.size)
 (U:w.cell? ⟨z,0,none⟩=some (.int .u64 x.1))(V:w.cell? ⟨z,1,none⟩=some (.int .u64 x.2))(Q:Exit→Act→World→Prop)
 (I:∀D w' y,aA (fun i=>i==6||(rg 73 76 i)) a D→At D 6 y→w'.ownsRow Z 180 2 y (l.length+1) (spC (l++[x]))→aD (fun k=>Z≤k) w w'→Q .normal D w'):
 (bE Tryz.f124 [1,1,1,1,1,0,1,0,0,1,1,0,0,1,1,1]).wp Tryz.prog Q a w:=by
 conv=>arg 2;whnf
 refine Code.wp_only (R:=fun A p=>aA (fun i=>i==6||(rg 73 76 i)) a A∧(∃y,At A 6 y∧p.ownsRow Z 180 2 y (l.length+1) (spC (l++[x])))∧aD (fun k=>Z≤k) w p) ?_ (fun A p h=>I A p h.2.1.choose h.1 h.2.1.choose_spec.1 h.2.1.choose_spec.2 h.2.2);clear I;obtain⟨T,d⟩:=a;refine rl ?_
 iterate 3 with_reducible refine st ?_
 have E:=b8 w [.int .u64 x.1,.int .u64 x.2] 180;have j:Kz w (w.alloc (.cells #[.int .u64 x.1,.int .u64 x.2] 180)):=(aD.refl _ _).alloc _;have q:=hh (ak H.out j (fun _ _ h=>h));refine mH rfl rfl rfl (At.eval (by exact aq) (by have:=v;simp at this⊢; omega)) q.out χ (At.eval (by exact aq) (by have:=v;simp at this⊢; omega)) E.c0 (E 1 _ rfl) (by have:=j.size;omega) ?_;intro J p g r;have C:=hh g;have B:Hid (aD (fun k=>Z≤k) w p):=(j.mono fun _ _ h=>h.elim).trans r (fun i O h=>(H.out.lt i h).1);clear g r E j q;simp only[Act.put];with_reducible refine st ?_;refine ln ?_
 refine⟨rfl,ag,⟨J,aq,C.out⟩,B.out⟩
theorem yR(a:Act)(r:a.tmps.size=80)(v:At a 9 (.int .i64 (0:Nat)))(Q:Exit→Act→World→Prop)(j:∀g,aA (fun i=>(rg 34 58 i)) a g→At g 58 (.bool false)→Q .normal g w.drew):
 (bE Tryz.f124 [1,1,1,1,1,0,1,0,0,1,1,0,0,1,1,0,0]).wp Tryz.prog Q a w:=by
 conv=>arg 2;whnf
 refine Code.wp_only (R:=fun g w'=>aA (fun i=>(rg 34 58 i)) a g∧At g 58 (.bool false)∧w'=w.drew) ?_ (fun l x h=>by obtain⟨p,q,rfl⟩:=h;exact j l p q);clear j;have u:=al;obtain⟨T,d⟩:=a;refine wp_region_still_lit δ δ ?_
 iterate 25 with_reducible refine sl ?_
 with_reducible refine wpStill_nil ?_
 refine⟨rfl,ag,aq,rfl⟩
theorem yQ{g m:Nat}{x y:Sp}(a:Act)(I:a.tmps.size=80)(V:m+1≤c)(H:m≤8388608)(hx:x.1<lim)(N:y.2<lim)(O:At a 6 (.slice (some ⟨g,0,none⟩) (m+1) c))(S:At a 8 (.pointer (some ⟨z,0,none⟩)))(U:At a 9 (.int .i64 ((m+1:Nat):Int)))
 (W:w.cell? ⟨z,0,none⟩=some (.int .u64 x.1))(X:w.cell? ⟨g,m*2+1,none⟩=some (.int .u64 y.2))(Q:Exit→Act→World→Prop)(u:∀j,aA (fun i=>(rg 34 58 i)) a j→At j 58 (.bool (decide (x.1≤y.2+1)))→Q .normal j w.drew):
 (bE Tryz.f124 [1,1,1,1,1,0,1,0,0,1,1,0,0,1,1,0,0]).wp Tryz.prog Q a w:=by
 unfold lim at hx N
 conv=>arg 2;whnf
 refine Code.wp_only (R:=fun j w'=>aA (fun i=>(rg 34 58 i)) a j∧At j 58 (.bool (decide (x.1≤y.2+1)))∧w'=w.drew) ?_ (fun v Y h=>by obtain⟨C,D,rfl⟩:=h;exact u v C D);clear u;have J:=al;have K:IntKind.i64.wrap (((m+1:Nat):Int)-1)=(m:Int):=by rw[show((m+1:Nat):Int)-1=m by omega];exact i64_in _ χ
 have L:IntKind.i64.wrap (m:Int)=(m:Int):=i64_in _ χ;obtain⟨q,A⟩:∃t,decide (x.1≤y.2)=t:=⟨_,rfl⟩;obtain⟨r,B⟩:∃t,((x.1:Int)==IntKind.u64.wrap ((y.2:Int)+1))=t:=⟨_,rfl⟩;obtain⟨l,e3⟩:∃t,decide (x.1≤y.2+1)=t:=⟨_,rfl⟩;have p:Hid (l=(q||r)):=by
  refine hh ?_;rw[←A,←B,←e3,kB,IntKind.wrap_u64,Bool.eq_iff_iff];simp only[Bool.or_eq_true,decide_eq_true_eq];omega
 rw[e3];clear e3;have E:(m:Int)<(m:Int)+1:=χ
 obtain⟨T,d⟩:=a;refine wp_region_still_lit δ δ ?_
 cases q
 ·skip
  iterate 25 with_reducible refine sl ?_
  with_reducible refine wpStill_nil ?_
  refine⟨rfl,?_,?_,rfl⟩
  ·exact ag
  ·rw[show l=r from p.out]
   exact aq
 ·skip
  iterate 25 with_reducible refine sl ?_
  with_reducible refine wpStill_nil ?_
  refine⟨rfl,?_,?_,rfl⟩
  ·exact ag
  ·rw[show l=true from p.out]
   exact aq
theorem Bq{g m:Nat}{x y:Sp}(a:Act)(v:a.tmps.size=80)(H:m+1≤c)(u:m≤8388608)(C:At a 6 (.slice (some ⟨g,0,none⟩) (m+1) c))(D:At a 8 (.pointer (some ⟨z,0,none⟩)))(E:At a 9 (.int .i64 ((m+1:Nat):Int)))
 (I:w.cell? ⟨z,1,none⟩=some (.int .u64 x.2))(J:w.cell? ⟨g,m*2+1,none⟩=some (.int .u64 y.2))(K:w.frozen? ⟨g,m*2+1,none⟩=false)(Q:Exit→Act→World→Prop)(l:∀j,aA (fun i=>(rg 59 72 i)) a j→Q .normal j (w.setCell ⟨g,m*2+1,none⟩ (.int .u64 (max y.2 x.2:Nat))).drew):
 (bE Tryz.f124 [1,1,1,1,1,0,1,0,0,1,1,0,0,1,1,0,1,0,0]).wp Tryz.prog Q a w:=by
 conv=>arg 2;whnf
 refine Code.wp_only (R:=fun j w'=>aA (fun i=>(rg 59 72 i)) a j∧w'=(w.setCell ⟨g,m*2+1,none⟩ (.int .u64 (max y.2 x.2:Nat))).drew) ?_ (fun p L h=>by obtain⟨q,rfl⟩:=h;exact l p q);clear l;have A:IntKind.i64.wrap (((m+1:Nat):Int)-1)=(m:Int):=by rw[show((m+1:Nat):Int)-1=m by omega];exact i64_in _ χ
 have B:IntKind.i64.wrap (m:Int)=(m:Int):=i64_in _ χ;have r:(m:Int)<(m:Int)+1:=χ
 obtain⟨T,d⟩:=a;refine wp_region_still_tail 14 δ δ ?_;simp only[List.take_succ_cons,List.take_zero,List.drop_succ_cons,List.drop_zero]
 iterate 14 with_reducible refine sl ?_
 with_reducible refine wpStill_nil ?_;refine st ?_;refine ln ?_
 refine⟨rfl,?_,?_⟩
 ·exact ag
 ·rw[show(if y.2<x.2 then(x.2:Int)else(y.2:Int))=((max y.2 x.2:Nat):Int) by split<;>omega]
theorem pI(d:List Sp)(x:Sp):(cg d x).length≤d.length+1:=by
 unfold cg;split
 ·simp
 ·rename_i y g
  have h:d≠[]:=by intro e;rw[e]at g;simp at g
  have:=List.length_pos_iff.2 h;split
  ·simp;try omega
  ·simp
theorem ij(l:List Sp):∀n:Nat,n≤l.length→(an (l.take n)).length≤n
 | 0,_=>by simp[an]
 | n+1,h=>by
  have d:=ij l n χ;rw[List.take_succ_eq_append_getElem χ,fK];have:=pI (an (l.take n)) l[n];omega
theorem pH{g:List Sp}{x:Sp}(h:∀s∈g,s.1<lim∧s.2<lim)(hx:x.1<lim∧x.2<lim):∀s∈cg g x,s.1<lim∧s.2<lim:=by
 unfold cg;split
 ·simpa using hx
 ·rename_i y l
  have j:=h y (List.mem_of_getLast? l);split
  ·intro s d
   rcases List.mem_append.1 d with d|d
   ·exact h s (List.dropLast_subset _ d)
   ·have:s=(y.1,max y.2 x.2):=by simpa using d
    subst this;exact⟨j.1,by show max y.2 x.2<lim;omega⟩
  ·intro s d
   rcases List.mem_append.1 d with d|d
   ·exact h s d
   ·have:s=x:=by simpa using d
    subst this;exact hx
theorem ii:∀(n:Nat) (l:List Sp),l.length=n→(∀s∈l,s.1<lim∧s.2<lim)→∀s∈an l,s.1<lim∧s.2<lim
 | 0,l,hl,_=>by
  have:l=[]:=List.length_eq_zero_iff.1 hl;subst this;simp[an]
 | n+1,l,hl,h=>by
  obtain⟨t,x,rfl⟩:∃t x,l=t++[x]:=by
   have d:l≠[]:=by intro e;rw[e]at hl;simp at hl
   exact⟨l.dropLast,l.getLast d,(List.dropLast_concat_getLast d).symm⟩
  rw[fK];exact pH (ii n t (by simpa using hl) fun s g=>h s (by simp[g])) (h x ξ)
theorem Bd(t:List Sp)(y:Sp)(v:Nat):(spC (t++[y])).set (t.length*2+1) (.int .u64 v)=spC (t++[(y.1,v)]):=by
 rw[nX,nX,←qU,List.set_append_right _ _ χ]
 congr 1
 rw[show(spC t).length+1-(spC t).length=1 by omega];rfl
theorem yP{A:Option Addr}{xs:List Sp}(hu:bU w pb (.slice A xs.length c) xs)(di:pb<w.heap.size)(ba:∀s∈xs,s.1<lim∧s.2<lim)(a:Act)(cf:a.tmps.size=80)(h3:At a 3 (.slice A xs.length c))(h6:At a 6 (.slice none 0 0))(Q:Exit→Act→World→Prop)
 (hQ:∀a' w' u',aA (fun i=>i==6||i==8||i==9||(rg 26 77 i)) a a'→At a' 6 u'→w'.ownsRow w.heap.size 180 2 u' (an xs).length (spC (an xs))→Kz w w'→Q .normal a' w'):
 (bE Tryz.f124 [1,1,1,1,1,0]).wp Tryz.prog Q a w:=by
 obtain⟨_,_,e,hc,cx,v⟩:=hu
 cases e
 conv=>arg 2;whnf
 refine so (fun N w1=>aA (fun i=>i==26||i==27||i==28) a N∧At N 26 (.slice A xs.length c)∧At N 27 (.int .i64 xs.length)∧At N 28 (.int .i64 0)∧w1=w) ?_ ?_
 ·clear v
  obtain⟨T,d⟩:=a;refine rl ?_
  iterate 3 with_reducible refine st ?_
  with_reducible refine ln ?_
  refine⟨rfl,ag,aq,aq,aq,rfl⟩
 rintro a0 w0 ⟨bb,cu,cs,cm,rfl⟩;have b0:=bb.size.trans cf;replace h6:=bb.Q7 h6 rfl;obtain⟨Z,hZ⟩:∃z,z=w0.heap.size:=⟨_,rfl⟩;rw[←hZ]at hQ;have HZ:=hh hZ;have dk:pb<Z:=χ
 have bl:=hh ba;clear hZ ba;refine bj xs.length (fun i=>i==6||i==8||i==9||(rg 28 77 i)) (fun i=>i==6||i==8||i==9||(rg 30 76 i)) (fun k a' w'=>∃u,At a' 6 u∧w'.ownsRow Z 180 2 u (an (xs.take k)).length (spC (an (xs.take k)))∧Kz w0 w') χ cm cs ψ rfl
  ζ χ ψ (fun k N a2 w hA ⟨u,h1,h2⟩=>⟨u,hA.Q7 h1 rfl,h2⟩) ⟨_,h6,by simpa[an,spC]using World.ownsRow_nil _ _ _ _,aD.refl _ _⟩ ?_ ?_
 ·rintro k N wr cd hA cp ⟨u,ad,r,hk⟩
  obtain⟨g,rfl,hg,c7,bp⟩:=v χ;obtain⟨x,hx⟩:=ge cd;obtain⟨c1,c2,c3,c4⟩:=bp k x hx;have q0:wr.cell? ⟨g,k*2,none⟩=some (.int .u64 x.1):=(hk.cell (p:=⟨g,k*2,none⟩) hg (fun h=>h)).trans c1;have q1:wr.cell? ⟨g,k*2+1,none⟩=some (.int .u64 x.2):=(hk.cell (p:=⟨g,k*2+1,none⟩) hg (fun h=>h)).trans c2;have b5:=hA.Q7 cu rfl;have b1:=hA.size.trans b0;have c5:=hk.size;have c8:g<wr.heap.size:=χ
  have c9:k≤c:=χ
  have R:Hid (an (xs.take (k+1))=cg (an (xs.take k)) x):=by
   refine hh ?_;rw[aP hx,fK]
  have bx:=ij xs k χ;have bm:Hid (∀s∈an (xs.take k),s.1<lim∧s.2<lim):=ii _ _ rfl fun s hs=>bl.out s (List.mem_of_mem_take hs)
  obtain⟨a8,J⟩:∃l,l=an (xs.take k):=⟨_,rfl⟩;rw[←J]at r R bx bm;have c6:=hh J;clear J;obtain⟨p,V,rfl⟩:∃p V,u=.slice p a8.length V:=by
   rcases r.2 with⟨e1,e2⟩|⟨g,V,cc,e1,_⟩
   ·exact⟨_,_,by rw[e1,e2]⟩
   ·exact⟨_,_,e1⟩
  have HX:=hh hx;have HO:=hh r;have HK:=hh hk;have HA:=hh hA;have cb:=hh c3;clear hx r hk hA bp c1 c2 v c3 c4;refine so (fun a2 w2=>aA (fun i=>i==30||i==31||i==8) N a2∧At a2 8 (.pointer (some ⟨wr.heap.size,0,none⟩))∧w2=wr.alloc (.cells #[.int .u64 x.1,.int .u64 x.2] 180)) ?_ ?_
  ·obtain⟨T,d⟩:=N
   refine rl ?_
   iterate 4 with_reducible refine st ?_
   with_reducible refine ln ?_
   refine⟨rfl,ag,aq,rfl⟩
  rintro a2 wo ⟨X,b4,ac⟩;obtain⟨z,hz⟩:∃z,z=wr.heap.size:=⟨_,rfl⟩;rw[←hz]at b4;have bd:aL wo z 0 [.int .u64 x.1,.int .u64 x.2]:=by rw[ac,hz];exact b8 _ _ _
  have ci:z<wo.heap.size:=by rw[ac,hz];simp
  have Y:Kz wr wo:=by rw[ac];exact(aD.refl _ _).alloc _
  have b2:=X.size.trans b1;have cl:=X.Q7 ad rfl;have S:=hh (ak HO.out Y (fun _ _ h=>h));have O:=hh (HK.out.trans Y (fun _ _ h=>h));have cy:=Y.size;have bf:Hid (aA (fun i=>i==6||i==8||i==9||(rg 30 76 i)) N a2):=X.m;clear ac hz Y HO HK X q0 q1 b5 ad cp;refine so (fun a3 w3=>aA (fun i=>i==32||i==33||i==9) a2 a3∧At a3 9 (.int .i64 (a8.length:Nat))∧w3=wo) ?_ ?_
  ·clear bd
   obtain⟨T,d⟩:=a2;refine rl ?_
   iterate 3 with_reducible refine st ?_
   with_reducible refine ln ?_
   refine⟨rfl,ag,aq,rfl⟩
  rintro a3 w3 ⟨I,af,rfl⟩;have C:=I.size.trans b2;have a6:=I.Q7 cl rfl;have a7:=I.Q7 b4 rfl;have H:Hid (aA (fun i=>i==6||i==8||i==9||(rg 30 76 i)) N a3):=bf.out.t I;have K:=bd.keep (aD.drew (aD.refl (fun _=>False) w3)) ci (fun h=>h);have U:=hh (ak S.out (aD.drew (aD.refl (fun _=>False) w3)) (fun _ _ h=>h));have b3:Z≤w3.drew.heap.size:=by have:=HZ.out;have:=O.out.size;show Z≤w3.heap.size;omega
  clear I bf;refine wp_seq (wp_seq ?_)
  cases hgl:a8.getLast? with
  | none =>
   have bw:a8=[]:=List.getLast?_eq_none_iff.1 hgl;subst bw;refine yR a3 C af _ (fun a4 q be=>?_);have D:=q.size.trans C;refine wp_cond_false (be.eval χ) (wp_skip ?_)
   repeat with_reducible apply bu
   refine yO a4 D (q.Q7 a6 rfl) (q.Q7 a7 rfl) U ξ b3 K.c0 (K 1 _ rfl) _ (fun a5 w5 u5 E k6 B bc=>?_);refine⟨(H.out.t q).t E,u5,k6,?_,(O.out.drew).trans bc (fun i h1 h2=>by have:=HZ.out;omega)⟩;rw[show an (xs.take (k+1))=[x] from R.out];exact B
  | some y =>
   obtain⟨t,ht,hd⟩:=oD hgl;subst ht;have hY:=bm.out y ξ;have el:(t++[y]).length=t.length+1:=ξ
   rw[el]at af bx;obtain⟨g2,cw,hv,hB,bt⟩:=S.out.form ξ
   cases hv
   have a9:t.length+1≤V:=by
    rcases S.out.2 with⟨e1,_⟩|⟨g1,cv,cc,e1,_,_,bo,_⟩
    ·cases e1
    ·cases e1;rw[el]at bo;exact bo
   have L:=a6;rw[el]at L;obtain⟨_,s2⟩:=qV (t++[y]) t.length y ξ;have q3:w3.cell? ⟨g2,t.length*2+1,none⟩=some (.int .u64 y.2):=(S.out.cellAt _ (by rw[el];omega)).trans s2;refine yQ a3 C a9 χ cb.out hY.2 L a7 af bd.c0 q3 _ (fun a4 q be=>?_);have D:=q.size.trans C;have W:=be.eval χ
   by_cases hxy:x.1≤y.2+1
   ·rw[decide_eq_true hxy]at W
    refine wp_cond_true W (wp_seq ?_);refine Bq (w:=w3.drew) (x:=x) a4 D a9 χ (q.Q7 L rfl) (q.Q7 a7 rfl) (q.Q7 af rfl) (K 1 _ rfl) ((aD.cell (aD.drew (aD.refl (fun _=>False) w3)) bt (fun h=>h)).trans q3) (U.out.frozenAt _) _ (fun a5 E=>?_);refine wp_exit ?_
    repeat with_reducible apply g9
    simp only[cC,if_true];obtain⟨bz,ds⟩:=U.out.stored (t.length*2+1) (.int .u64 (max y.2 x.2:Nat));refine⟨(H.out.t q).t E,_,E.Q7 (q.Q7 a6 rfl) rfl,?_,?_⟩
    ·have e:an (xs.take (k+1))=t++[(y.1,max y.2 x.2)]:=by
      rw[R.out];unfold cg;rw[hgl];simp only[if_pos hxy,hd]
     rw[Bd]at bz;rw[e,show(t++[(y.1,max y.2 x.2)]).length=(t++[y]).length by simp];exact ak bz (aD.drew (aD.refl (fun _=>False) _)) (fun _ _ h=>h)
    ·refine aD.drew ((O.out.drew).setCell (fun h=>?_) _)
     have h:g2<w0.heap.size:=h;have:=HZ.out;omega
   ·rw[decide_eq_false hxy]at W
    refine wp_cond_false W (wp_skip ?_)
    repeat with_reducible apply bu
    refine yO a4 D (q.Q7 a6 rfl) (q.Q7 a7 rfl) U (by rw[el];omega) b3 K.c0 (K 1 _ rfl) _ (fun a5 w5 u5 E k6 B bc=>?_);refine⟨(H.out.t q).t E,u5,k6,?_,(O.out.drew).trans bc (fun i h1 h2=>by have:=HZ.out;omega)⟩;have e:an (xs.take (k+1))=t++[y]++[x]:=by
     rw[R.out];unfold cg;rw[hgl];simp only[if_neg hxy]
    rw[e,show(t++[y]++[x]).length=(t++[y]).length+1 by simp];exact B
 ·rintro a' w' hA ⟨u,ad,r,hk⟩
  rw[List.take_length]at r;exact hQ _ _ _ ((bb.m).t hA) ad r hk
