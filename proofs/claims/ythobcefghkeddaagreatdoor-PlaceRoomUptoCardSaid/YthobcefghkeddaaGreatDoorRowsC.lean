import Derived.Test.YthobcefghkeddaaGreatDoorApart
import Derived.Test.YthobcefghkeddaaGreatDoorClone
set_option maxRecDepth 100000
set_option linter.all false
set_option maxHeartbeats 4000000
namespace Go.Proofs.YthobcefghkeddaaGreatDoor
open Go.RowKit Go.IntWalk Ck
variable {w w':World} {B size n pb:Nat} {e:TypeId} {xs:List Value} {u:Value}
theorem aK{S:Nat→Prop}{v:Value}(h:w.ownsRow B e size v n xs)(hk:aD S w w')(x:∀k,v.ownBlock=some k→¬ S k):w'.ownsRow B e size v n xs:=by
 refine⟨h.1,?_⟩
 rcases h.2 with l|⟨g,d,j,rfl,u,hh,q⟩
 ·exact .inl l
 ·exact .inr ⟨g,d,j,rfl,u,by rw[hk.block g (ϱ.1 hh).1 (x g rfl)];exact hh,q⟩
theorem xj{v:Value}(h:w.ownsRow B e size v n xs){k:Nat}(hk:v.ownBlock=some k):gb w k=some e∧B≤k∧k<w.heap.size:=by
 refine⟨?_,h.lt k hk⟩
 rcases h.2 with⟨l,_⟩|⟨g,d,j,rfl,u,hh,q⟩
 ·subst l;cases hk
 ·have:g=k:=by simpa[Value.ownBlock]using hk
  subst this;unfold gb;rw[hh]
theorem aG.grown{v:ae}{P:aF}{W:Int→Int}{L:List Wr}{z:Nat}(h:aG B w pb v P W L)(d:w.ownsRow z e size u n xs)(x:B≤z)(g:e≠77∧e≠84)(hk:aD (fun k=>u.ownBlock=some k) w w'):aG B w' pb v P W L:=
 h.keep hk fun k l _=>by
  obtain⟨j,q,_⟩:=xj d l;refine⟨χ,?_,?_⟩<;>rw[j]<;>simp[g.1,g.2]
def ab(xs:List db):List Value:=xs.flatMap Ck.db.cells
def rI(x:Ram):db:=⟨x.Q7,x.size,x.pos⟩
def ww(x:Ck.bR):db:=⟨x.Q7,x.size,x.pos⟩
def jL(l:List Ram):Nat:=l.foldl (fun s x=>min (s+min x.size 67108865) 67108865) 0
theorem nw(l:List Ram)(x:Ram):jL (l++[x])=min (jL l+min x.size 67108865) 67108865:=by simp[jL]
theorem sD(l:List Ram):jL l≤67108865:=by
 unfold jL
 suffices h:∀(l:List Ram) (s:Nat),s≤67108865→l.foldl (fun s x=>min (s+min x.size 67108865) 67108865) s≤67108865 from h l 0 χ
 intro l
 induction l with
 | nil=>intro s h;exact h
 | cons x t ih=>intro s h;exact ih _ (Nat.min_le_right _ _)
theorem kx(x:Ram):∀(l:List Ram) (s:Nat),ck s (l++[x])=ck s l++say (decide (min (l.foldl (fun s x=>min (s+min x.size 67108865) 67108865) s+min x.size 67108865) 67108865≤67108864)) x.pos 4
 | [],s=>by simp only[List.nil_append,ck,List.append_nil,List.foldl_nil];congr
 | y::t,s=>by simp only[List.cons_append,ck,kx x t,List.foldl_cons,List.append_assoc];congr
theorem pi(x:Ram)(l:List Ram):ck 0 (l++[x])=ck 0 l++say (decide (jL (l++[x])≤67108864)) x.pos 4:=by rw[kx,nw];rfl
theorem fq(l:List db)(x:db):ab (l++[x])=ab l++x.cells:=by simp[ab]
theorem Tryz.info172:(Tryz.prog.info? 172).map (fun i=>(i.zero,i.size,i.bytes))=some (some (.agg #[.int .u64 0,.int .u64 0,.int .i64 0]),3,24):=δ
theorem mG{a b c:Int}:∀u∈[Value.int .u64 a,.int .u64 b,.int .i64 c],u.oneCell'=true:=by
 intro u d;simp at d;rcases d with rfl|rfl|rfl<;>rfl
theorem l8:∀(xs:List db) (i j:Nat) (x:db) (c:Value),xs[i]?=some x→x.cells[j]?=some c→(ab xs)[i*3+j]?=some c
 | [],i,j,x,c,h,_=>by simp at h
 | y::t,0,j,x,c,h,hc=>by
  obtain rfl:y=x:=by simpa using h
  have g:j<y.cells.length:=(ο.1 hc).1;simp only[ab,List.flatMap_cons,Nat.zero_mul,Nat.zero_add];rw[List.getElem?_append_left g];exact hc
 | y::t,i+1,j,x,c,h,hc=>by
  have d:t[i]?=some x:=by simpa using h
  have l:y.cells.length=3:=rfl;have:=l8 t i j x c d hc;have e:ab (y::t)=y.cells++ab t:=by simp[ab]
  rw[e,List.getElem?_append_right χ,l,show(i+1)*3+j-3=i*3+j by omega];exact this
theorem fN{z:Nat}{xs:List db}(h:w.ownsRow z 172 3 u xs.length (ab xs))(E:∀x∈xs,x.Ok)(C:xs.length≤8388608)(L:pb<z):f8 w pb u xs:=by
 rcases ϑ xs.length with B|B
 ·rcases h.2 with⟨q,K⟩|⟨g,l,y,q,_,_,d,_⟩
  ·exact⟨none,0,by rw[q,B],χ,C,fun h=>χ⟩
  ·exact⟨some ⟨g,0,none⟩,l,q,χ,C,fun h=>χ⟩
 ·have d:=h.2
  obtain⟨g,l,N,Q,D⟩:=h.form B;subst N;refine⟨_,l,rfl,?_,C,fun _=>⟨g,0,rfl,D,χ,fun i x J=>⟨fun j c I=>?_,E x (γ J)⟩⟩⟩
  ·rcases d with⟨q,K⟩|⟨O,H,y,q,_,_,I,_⟩
   ·cases q
   ·cases q;omega
  ·have:=h.cells (g:=g) rfl _ _ (l8 xs i j x c J I)
   have v:∀j,(⟨g,0,none⟩:Addr).add j=⟨g,j,none⟩:=fun j=>by unfold Addr.add;split<;>simp_all
   rw[v]at this;rw[Nat.zero_add];exact this
theorem f8.keep{xs:List db}(h:f8 w pb u xs)(hk:aD (fun k=>k=pb) w w'):f8 w' pb u xs:=by
 obtain⟨A,c,rfl,y,B,C⟩:=h;refine⟨A,c,rfl,y,B,fun v=>?_⟩;obtain⟨g,off,e,j,l,d⟩:=C v;exact⟨g,off,e,Θ j hk.size,l,fun i x q=>⟨(d i x q).1.keep hk j l,(d i x q).2⟩⟩
theorem sV{v:ae}{P:aF}(h:bD B w v P):∀x∈P.parts,x.Ok:=by
 intro x C;simp only[aF.parts,List.mem_append,List.mem_map]at C
 rcases C with⟨y,g,rfl⟩|⟨y,g,rfl⟩
 ·obtain⟨A,c,_,_,_,u⟩:=h.QD
  obtain⟨i,hi⟩:=List.getElem?_of_mem g;obtain⟨D,off,_,_,d⟩:=u (List.length_pos_of_mem g);obtain⟨_,j,l,q⟩:=d i y hi;exact⟨l,q,j⟩
 ·obtain⟨A,c,_,_,_,u⟩:=h.Q5
  obtain⟨i,hi⟩:=List.getElem?_of_mem g;obtain⟨D,off,_,_,d⟩:=u (List.length_pos_of_mem g);obtain⟨_,_,_,j,l,q,_⟩:=d i y hi;exact⟨l,q,j⟩
theorem wS{a s:Nat}(d:a<18446744073709551616)(g:s<18446744073709551616):bits .or .u64 (a:Int) (s:Int)=((a ||| s:Nat):Int):=by
 have l:a ||| s<2 ^ 64:=Nat.or_lt_two_pow d g;have hk:IntKind.u64.bits=64:=rfl;unfold bits;simp only[hk,BitVec.ofInt_natCast,BitVec.toNat_or,BitVec.toNat_ofNat,Nat.mod_eq_of_lt (show a<2 ^ 64 from d),Nat.mod_eq_of_lt (show s<2 ^ 64 from g)];have h:(((a ||| s:Nat):Int))<18446744073709551616:=χ
 have j:(0:Int)≤((a ||| s:Nat):Int):=Int.natCast_nonneg _
 generalize ((a ||| s:Nat):Int)=q at h j
 simp[IntKind.wrap,IntKind.bits,IntKind.signed];omega
theorem By{a s:Nat}(d:a<18446744073709551616)(g:s<18446744073709551616):((bits .or .u64 (a:Int) (s:Int)).tmod 4096==0)=decide ((a ||| s)%4096=0):=by
 rw[wS d g];have e:(((a ||| s:Nat):Int)).tmod 4096=(((a ||| s)%4096:Nat):Int):=by
  rw[Int.tmod_eq_emod_of_nonneg χ];omega
 rw[e]
 by_cases h:(a ||| s)%4096=0
 ·simp[h]
 ·have:¬ (((a ||| s)%4096:Nat):Int)=0:=χ
  simp only[h,decide_false];exact beq_eq_false_iff_ne.2 this
theorem Cc{v:ae}{P:aF}(h:aG B w pb v P pf []):
 Calls Tryz.prog 27 #[.pointer (some ⟨pb,0,none⟩)] w fun e w'=>e=.returned (.tuple #[])∧aG B w' pb v P pf (vi P)∧aD (fun k=>k=pb) w w':=by
 obtain⟨i0,hi,hz0,hz1,hz2⟩:=info_parts Tryz.info172;obtain⟨z,hz⟩:∃z,z=w.heap.size:=⟨_,rfl⟩;have HZ:=ν hz;have hlt:=h.lt;have hBp:=h.base;obtain⟨A0,c0,hv0,_,hn0,hl0⟩:=h.QU.QD;obtain⟨A1,c1,hv1,_,hn1,hl1⟩:=h.QU.Q5;have HV1:=ν hv1;have hp0:w.cell? ⟨pb,2,none⟩=some v.QD:=h.cell rfl;rw[hv0]at hp0;unfold top at hn0 hn1;have hpz:pb<z:=χ
 clear hv0 hv1 hz
 go_enter Tryz.func27,Tryz.ntmps27
 go_wp2
 go_loopw [2,3,16] (fun u s i wr=>∃n:Nat,n≤P.QD.length∧i=.int .i64 n∧s=.int .u64 (jL (P.QD.take n):Nat)∧wr.ownsRow z 172 3 u n (ab ((P.QD.take n).map rI))∧aG B wr pb v P pf (ck 0 (P.QD.take n))∧aD (fun k=>k=pb) w wr) (fun _ _ i _=>P.QD.length-(intOf i).toNat)
 case atStart=>exact⟨0,Nat.zero_le _,rfl,rfl,World.ownsRow_nil _ _ _ _,by simpa[ck]using h,aD.refl _ _⟩
 case round =>
 obtain⟨n,hn,rfl,rfl,hown,hL,hk⟩:=hrel
 by_cases hlt2:n<P.QD.length
 ·obtain⟨bl,off,rfl,hbl,hcs⟩:=hl0 χ
  obtain⟨x,hx⟩:∃x,P.QD[n]?=some x:=⟨_,Ez hlt2⟩;obtain⟨hc,hok⟩:=(aI B _ _) _ _ _ _ _ (hk.below (B:=B) χ (fun _ hi e=>χ)) hbl (hcs n x hx);have q0:=hc.c0;have q1:=hc 1 _ rfl;have q2:=hc 2 _ rfl;have hsz:=hk.size;have hblr:bl<wr.heap.size:=χ
  obtain⟨hw1,hat,hsi⟩:=hok;unfold lim at hat hsi;have hso:=sD (P.QD.take n);have hsn:=nw (P.QD.take n) x;obtain⟨s,hs⟩:∃s,s=jL (P.QD.take n):=⟨_,rfl⟩;rw[←hs]at hso hsn⊢;have HSN:=ν hsn;have HX:=ν hx;have HL:=ν hL;have HK:=ν hk;have HCS:=ν hcs;have hzr:z≤wr.heap.size:=by have:=HZ.out;omega
  clear hx hc hL hk hcs hs hsn
  go_wp2_with (at_builtin;refine wpList_append_lies _ rfl _ _ 170 rfl z 172 i0 (.agg #[.int .u64 0,.int .u64 0,.int .i64 0]) 3 24 Tryz.underlying170 hi hz0 hz1 hz2 rfl χ _ n _ rfl ((hown.alloc _).alloc _) ⟨wr.heap.size+1,0,none⟩ 1 1 [.int .u64 x.Q7,.int .u64 x.size,.int .i64 x.pos] rfl rfl ?c1 mG χ (by unfold maxLen;omega) χ ?c2 (wr.heap.size+2) ξ ?_)
  case c1=>have:=World.news_of_block (cs := #[.int .u64 x.Q7,.int .u64 x.size,.int .i64 x.pos]) (heap_alloc_new (wr.alloc (.cells #[.int .i64 x.pos,.int .u64 x.Q7,.int .u64 x.size] 91)) (.cells #[.int .u64 x.Q7,.int .u64 x.size,.int .i64 x.pos] 172));simpa using this
  case c2=>simp;omega
  intro g cap w1 hown1 hgrow hat hlt3;have hkA:aD (fun k=>u2.ownBlock=some k) wr w1:=(((aD.refl _ _).alloc _).alloc _).trans (aD.of_grown hgrow (S:=fun k=>u2.ownBlock=some k) (fun k h=>h)) (fun _ _ h=>h);have hlo:=hown.lt;have hLn:aG B w1 pb v P pf (ck 0 (P.QD.take n)):=HL.out.grown hown χ ψ hkA;have hKn:aD (fun k=>k=pb) w w1:=HK.out.trans hkA (fun i hi h=>by have:=(hlo i h).1;have:=HZ.out;omega);have hbx:w1.heap[wr.heap.size]?=some (.cells #[.int .i64 x.pos,.int .u64 x.Q7,.int .u64 x.size] 91 (0,0)):=by
   have e1:=(aD.of_grown hgrow (S:=fun k=>u2.ownBlock=some k) (fun k h=>h)).block wr.heap.size η (fun h=>by have:=(hlo _ h).2;omega);refine e1.trans (((((aD.refl (fun _=>False) _).alloc _).block wr.heap.size ξ (fun h=>h))).trans (heap_alloc_new _ _))
  have r0:w1.cell? ⟨wr.heap.size,0,none⟩=some (.int .i64 x.pos):=by rw[cell_of_row _ _ _ _ _ _ hbx];rfl
  have r2:w1.cell? ⟨wr.heap.size,2,none⟩=some (.int .u64 x.size):=by rw[cell_of_row _ _ _ _ _ _ hbx];rfl
  have HLN:=ν hLn;have HKN:=ν hKn;have HO1:=ν hown1;clear hLn hKn hbx hkA hgrow hown hown1 q0 q1 q2
  go_upto_region 7 with fail
  have hm2:(if(67108865:Int)<(x.size:Int)then(67108865:Int)else(x.size:Int))=((min x.size 67108865:Nat):Int):=by split<;>omega
  have hm3:(if(67108865:Int)<(s:Int)+((min x.size 67108865:Nat):Int)then(67108865:Int)else(s:Int)+((min x.size 67108865:Nat):Int))=((jL (P.QD.take n++[x]):Nat):Int):=by rw[HSN.out];split<;>omega
  rw[hm2,hm3];obtain⟨m,hm⟩:∃m,m=min x.size 67108865:=⟨_,rfl⟩;obtain⟨s2,hs2⟩:∃s2,s2=jL (P.QD.take n++[x]):=⟨_,rfl⟩;rw[←hm,←hs2];have hs3:s2≤67108865:=by rw[hs2];exact sD _
  have HS2:=ν hs2;clear hs2 hm hm2 hm3
  go_wp2_with fail
  all_goals
   refine(aR _ x.pos 4 36 HLN.out rfl).mono ?_;rintro e w2 ⟨rfl,hL3,hk3⟩;have HL3:=ν hL3;have HK3:=ν hk3;clear hL3 hk3
   go_wp2
   go_roundw
   case rel =>
    refine⟨n+1,χ,by go_num,?_,?_,?_,HKN.out.trans HK3.out (fun _ _ e=>e)⟩
    ·rw[aO HX.out,←HS2.out]
    ·rw[aO HX.out,List.map_append]
     refine aK (by rw[List.map_cons,List.map_nil,fq];have:=HO1.out;rw[←List.map_take]at this;exact this) HK3.out (fun k hk e=>?_);subst e;have:=(HO1.out.lt _ hk).1;omega
    ·refine HL3.out.congr fun p=>?_
     rw[aO HX.out,pi,←HS2.out];have hd:decide ((s2:Int)≤67108864)=decide (s2≤67108864):=decide_eq_decide.2 χ;simp only[hd,List.mem_append,or_comm]
   case measure=>simp[intOf];omega
 obtain rfl:n=P.QD.length:=χ
 rw[List.take_length]at hown hL;obtain⟨wo,hwo⟩:∃u:World,u=wr:=⟨_,rfl⟩;rw[←hwo]at hk hown hL⊢;obtain⟨s0,hs0⟩:∃u:Nat,u=jL (P.QD.take P.QD.length):=⟨_,rfl⟩;rw[←hs0];clear hwo wr hlt2 hn hl0 hp0 hs0;have hp1:wo.cell? ⟨pb,3,none⟩=some v.Q5:=hL.cell rfl;rw[HV1.out]at hp1;have HOWN:=ν hown;have HL:=ν hL;have HK:=ν hk;have hrl:P.QD.length≤2097152:=χ
 clear hown hL hk
 go_wp2
 clear hp1
 go_loopw [2,49] (fun u i wr=>∃n:Nat,n≤P.Q5.length∧i=.int .i64 n∧wr.ownsRow z 172 3 u (P.QD.length+n) (ab (P.QD.map rI++(P.Q5.take n).map ww))∧aG B wr pb v P pf (ck 0 P.QD++(P.Q5.take n).flatMap fun x=>say (decide (x.size≤1048576)) x.pos 1)∧aD (fun k=>k=pb) w wr) (fun _ i _=>P.Q5.length-(intOf i).toNat)
 case atStart=>exact⟨0,Nat.zero_le _,rfl,by simpa using HOWN.out,by simpa using HL.out,HK.out⟩
 case round =>
 clear HOWN HL HK;obtain⟨n,hn,rfl,hown,hL,hk⟩:=hrel
 by_cases hlt2:n<P.Q5.length
 ·obtain⟨bl,off,rfl,hbl,hcs⟩:=hl1 χ
  obtain⟨x,hx⟩:∃x,P.Q5[n]?=some x:=⟨_,Ez hlt2⟩;obtain⟨um,hc,⟨Am,cm,rfl,_⟩,hw1,hat,hsi,_⟩:=hcs n x hx;unfold lim at hat hsi;have hc:=hc.below (hk.below (B:=B) χ (fun _ hi e=>χ)) hbl;have q0:=hc.c0;have q1:=hc 1 _ rfl;have q2:=hc 2 _ rfl;have q3:=hc 3 _ rfl;have q4:=hc 4 _ rfl;have hsz:=hk.size;have hblr:bl<wr.heap.size:=χ
  have HX:=ν hx;have HL:=ν hL;have HK:=ν hk;have HCS:=ν hcs;have hzr:z≤wr.heap.size:=by have:=HZ.out;omega
  clear hx hc hL hk hcs
  go_wp2_with (at_builtin;refine wpList_append_lies _ rfl _ _ 170 rfl z 172 i0 (.agg #[.int .u64 0,.int .u64 0,.int .i64 0]) 3 24 Tryz.underlying170 hi hz0 hz1 hz2 rfl χ _ (P.QD.length+n) _ rfl ((hown.alloc _).alloc _) ⟨wr.heap.size+1,0,none⟩ 1 1 [.int .u64 x.Q7,.int .u64 x.size,.int .i64 x.pos] rfl rfl ?c1 mG χ (by unfold maxLen;omega) χ ?c2 (wr.heap.size+2) ξ ?_)
  case c1=>have:=World.news_of_block (cs := #[.int .u64 x.Q7,.int .u64 x.size,.int .i64 x.pos]) (heap_alloc_new (wr.alloc (.cells #[.int .i64 x.pos,.string x.name,.int .u64 x.Q7,.int .u64 x.size,.slice Am x.QA.length cm] 65)) (.cells #[.int .u64 x.Q7,.int .u64 x.size,.int .i64 x.pos] 172));simpa using this
  case c2=>simp;omega
  intro g cap w1 hown1 hgrow hat hlt3;have hkA:aD (fun k=>u2.ownBlock=some k) wr w1:=(((aD.refl _ _).alloc _).alloc _).trans (aD.of_grown hgrow (S:=fun k=>u2.ownBlock=some k) (fun k h=>h)) (fun _ _ h=>h);have hlo:=hown.lt;have hLn:=HL.out.grown hown χ ψ hkA;have hKn:aD (fun k=>k=pb) w w1:=HK.out.trans hkA (fun i hi h=>by have:=(hlo i h).1;have:=HZ.out;omega);have hbx:w1.heap[wr.heap.size]?=some (.cells #[.int .i64 x.pos,.string x.name,.int .u64 x.Q7,.int .u64 x.size,.slice Am x.QA.length cm] 65 (0,0)):=by
   have e1:=(aD.of_grown hgrow (S:=fun k=>u2.ownBlock=some k) (fun k h=>h)).block wr.heap.size η (fun h=>by have:=(hlo _ h).2;omega);refine e1.trans (((((aD.refl (fun _=>False) _).alloc _).block wr.heap.size ξ (fun h=>h))).trans (heap_alloc_new _ _))
  have r0:w1.cell? ⟨wr.heap.size,0,none⟩=some (.int .i64 x.pos):=by rw[cell_of_row _ _ _ _ _ _ hbx];rfl
  have r3:w1.cell? ⟨wr.heap.size,3,none⟩=some (.int .u64 x.size):=by rw[cell_of_row _ _ _ _ _ _ hbx];rfl
  have HLN:=ν hLn;have HKN:=ν hKn;have HO1:=ν hown1;clear hLn hKn hbx hkA hgrow hown hown1 q0 q1 q2 q3 q4
  go_wp2_with fail
  all_goals
   refine(aR _ x.pos 1 32 HLN.out rfl).mono ?_;rintro e w2 ⟨rfl,hL3,hk3⟩;have HL3:=ν hL3;have HK3:=ν hk3;clear hL3 hk3
   go_wp2
   go_roundw
   case rel =>
    refine⟨n+1,χ,by go_num,?_,?_,HKN.out.trans HK3.out (fun _ _ e=>e)⟩
    ·rw[aO HX.out,List.map_append,←List.append_assoc]
     refine aK (by rw[List.map_cons,List.map_nil,fq];have:=HO1.out;simp only[←List.map_take]at this;exact this) HK3.out (fun k hk e=>?_);subst e;have:=(HO1.out.lt _ hk).1;omega
    ·refine HL3.out.congr fun p=>?_
     rw[aO HX.out];have hd:decide ((x.size:Int)≤1048576)=decide (x.size≤1048576):=decide_eq_decide.2 χ;simp only[hd,List.mem_append,List.flatMap_append,List.flatMap_cons,List.flatMap_nil,List.append_nil];constructor
     ·rintro(h|h|h)
      ·exact .inr (.inr h)
      ·exact .inl h
      ·exact .inr (.inl h)
     ·rintro(h|h|h)
      ·exact .inr (.inl h)
      ·exact .inr (.inr h)
      ·exact .inl h
   case measure=>simp[intOf];omega
 obtain rfl:n=P.Q5.length:=χ
 rw[List.take_length]at hown hL;have hpl:P.QD.length+P.Q5.length=P.parts.length:=by simp[aF.parts]
 have hpe:P.QD.map rI++P.Q5.map ww=P.parts:=rfl;rw[hpl,hpe]at hown;obtain⟨wo,hwo⟩:∃u:World,u=wr:=⟨_,rfl⟩;rw[←hwo]at hk hown hL⊢;have hlen:P.parts.length≤8388608:=by rw[←hpl];omega
 have hpz2:pb<z:=hpz;have hPa:f8 wo pb u2 P.parts:=fN hown (sV h.QU) hlen hpz;obtain⟨Au,cu,rfl,hcu,_,hlu⟩:=hPa;have HPa:Hid (f8 wo pb (.slice Au P.parts.length cu) P.parts):=fN hown (sV h.QU) hlen hpz;have HL:=ν hL;have HK:=ν hk;clear hwo wr hlt2 hn hl1 hown hL hk hpe hpl
 go_wp2
 go_loopw [73] (fun i wr=>∃n:Nat,n≤P.parts.length∧i=.int .i64 n∧aG B wr pb v P pf ((P.parts.take n).flatMap sW++(ck 0 P.QD++P.Q5.flatMap fun x=>say (decide (x.size≤1048576)) x.pos 1))∧aD (fun k=>k=pb) wo wr) (fun i _=>P.parts.length-(intOf i).toNat)
 case atStart=>exact⟨0,Nat.zero_le _,rfl,by simpa using HL.out,aD.refl _ _⟩
 case round =>
 clear HL;obtain⟨n,hn,rfl,hL,hk⟩:=hrel
 by_cases hlt2:n<P.parts.length
 ·obtain⟨bl,off,rfl,hbl,hbp,hcs⟩:=hlu χ
  obtain⟨x,hx⟩:∃x,P.parts[n]?=some x:=⟨_,Ez hlt2⟩;obtain⟨hc,hok⟩:=hcs n x hx;have hc:=hc.keep hk hbl hbp;have q0:=hc.c0;have q1:=hc 1 _ rfl;have q2:=hc 2 _ rfl;have hsz:=hk.size;have hblr:bl<wr.heap.size:=χ
  have hnc2:n≤cu:=χ
  obtain⟨hxa,hxs,_⟩:=hok;unfold lim at hxa hxs;have HX:=ν hx;have HL:=ν hL;have HKr:=ν hk;clear hx hL hk hc hcs
  go_upto_region 18 with fail
  obtain⟨wb,hwb⟩:∃u:World,u=wr.alloc (Obj.cells #[.int .u64 x.Q7,.int .u64 x.size,.int .i64 x.pos] 172):=⟨_,rfl⟩;rw[←hwb];obtain⟨zb,hzb⟩:∃u,u=wr.heap.size:=⟨_,rfl⟩;rw[←hzb];have hb0:wb.heap[zb]?=some (.cells #[.int .u64 x.Q7,.int .u64 x.size,.int .i64 x.pos] 172 (0,0)):=by rw[hwb,hzb];exact heap_alloc_new _ _
  have hLb:=HL.out.new (w':=wb) (by rw[hwb];exact(aD.refl _ _).alloc _);have hKb:aD (fun k=>k=pb) wo wb:=by rw[hwb];exact HKr.out.alloc _
  have hzp:zb≠pb:=by have:=HKr.out.size;have:=HK.out.size;omega
  have b0:wb.cell? ⟨zb,0,none⟩=some (.int .u64 x.Q7):=by rw[cell_of_row _ _ _ _ _ _ hb0];rfl
  have b1:wb.cell? ⟨zb,1,none⟩=some (.int .u64 x.size):=by rw[cell_of_row _ _ _ _ _ _ hb0];rfl
  have b2:wb.cell? ⟨zb,2,none⟩=some (.int .i64 x.pos):=by rw[cell_of_row _ _ _ _ _ _ hb0];rfl
  have HB0:=ν hb0;have HLB:=ν hLb;have HKB:=ν hKb;clear hwb hzb hb0 hLb hKb HL HKr q0 q1 q2;have HPG:=ν (By hxa hxs)
  go_wp2_with fail
  rw[HPG.out];refine(aR _ x.pos 0 33 HLB.out rfl).mono ?_;rintro e w3 ⟨rfl,hL3,hk3⟩;have hb3:=(hk3.block zb (aH HB0.out) hzp).trans HB0.out;have c1:w3.cell? ⟨zb,1,none⟩=some (.int .u64 x.size):=by rw[cell_of_row _ _ _ _ _ _ hb3];rfl
  have c2:w3.cell? ⟨zb,2,none⟩=some (.int .i64 x.pos):=by rw[cell_of_row _ _ _ _ _ _ hb3];rfl
  have HL3:=ν hL3;have HK3:=ν (HKB.out.trans hk3 (fun _ _ e=>e));have HB3:=ν hb3;clear hL3 hk3 hb3 b0 b1 b2 HLB HKB HB0 HPG
  go_wp2_with fail
  refine(aR _ x.pos 1 32 HL3.out rfl).mono ?_;rintro e w4 ⟨rfl,hL4,hk4⟩;have hb4:=(hk4.block zb (aH HB3.out) hzp).trans HB3.out;have d0:w4.cell? ⟨zb,0,none⟩=some (.int .u64 x.Q7):=by rw[cell_of_row _ _ _ _ _ _ hb4];rfl
  have d1:w4.cell? ⟨zb,1,none⟩=some (.int .u64 x.size):=by rw[cell_of_row _ _ _ _ _ _ hb4];rfl
  have d2:w4.cell? ⟨zb,2,none⟩=some (.int .i64 x.pos):=by rw[cell_of_row _ _ _ _ _ _ hb4];rfl
  have HL4:=ν hL4;have HK4:=ν (HK3.out.trans hk4 (fun _ _ e=>e));have hzr:=aH hb4;have HC:Hid (∀w',aD (fun i=>i=pb) w4 w'→w'.cell? ⟨zb,0,none⟩=some (.int .u64 x.Q7)∧w'.cell? ⟨zb,1,none⟩=some (.int .u64 x.size)∧w'.cell? ⟨zb,2,none⟩=some (.int .i64 x.pos)):=fun w' hk =>
   ⟨(hk.cell (p:=⟨zb,0,none⟩) hzr hzp).trans d0,(hk.cell (p:=⟨zb,1,none⟩) hzr hzp).trans d1,(hk.cell (p:=⟨zb,2,none⟩) hzr hzp).trans d2⟩
  have HLd:=ν (hL4.new ((aD.refl _ w4).drew));clear hL4 hk4 hb4 c1 c2 HL3 HK3 HB3
  go_wp2_with fail
  go_region_held3 (fun w'=>w'.cell? ⟨zb,0,none⟩=some (.int .u64 x.Q7)∧w'.cell? ⟨zb,1,none⟩=some (.int .u64 x.size)∧w'.cell? ⟨zb,2,none⟩=some (.int .i64 x.pos))
   (first|exact HC.out _ ((aD.refl _ w4).drew)|exact HC.out _ (((aD.refl _ w4).drew).trans (by assumption) (fun _ _ e=>e)))
   (first
    | (go_at_call 96;refine(jx x.Q7 x.size 4294967296 _ hxa hxs χ).mono ?_;rintro e w2 ⟨rfl,rfl⟩)
    | (go_at_call 71;refine(aR _ _ 2 34 HLd.out rfl).mono ?_;rintro e w2 ⟨rfl,hL5,hk5⟩))
  have HL5:=ν hL5;have HK5:=ν hk5;clear hL5 hk5
  go_wp2
  go_roundw
  case rel =>
   refine⟨n+1,χ,by go_num,HL5.out.congr fun p=>?_,HK4.out.trans (((aD.refl _ _).drew).trans HK5.out (fun _ _ e=>e)) (fun _ _ e=>e)⟩;rw[aO HX.out];have hd:decide ((0:Int)<(x.size:Int))=decide (0<x.size):=decide_eq_decide.2 χ;simp only[hd,sW,List.mem_append,List.flatMap_append,List.flatMap_cons,List.flatMap_nil,List.append_nil];constructor
   ·rintro(h|h|h|h)
    ·exact .inl (.inr (.inr h))
    ·exact .inl (.inr (.inl (.inr h)))
    ·exact .inl (.inr (.inl (.inl h)))
    ·rcases h with h|h
     ·exact .inl (.inl h)
     ·exact .inr h
   ·rintro((h|(h|h)|h)|h)
    ·exact .inr (.inr (.inr (.inl h)))
    ·exact .inr (.inr (.inl h))
    ·exact .inr (.inl h)
    ·exact .inl h
    ·exact .inr (.inr (.inr (.inr h)))
  case measure=>simp[intOf];omega
 ·obtain rfl:n=P.parts.length:=χ
  rw[List.take_length]at hL;have HL2:=ν hL;have HK2:=ν hk;clear hL;have hP2:f8 wr pb (.slice Au P.parts.length cu) P.parts:=HPa.out.keep hk;clear hk
  go_wp2_with fail
  refine(me HL2.out hP2 3 rfl).mono ?_;rintro e w2 ⟨rfl,hL3,hk3⟩;have HL3:=ν hL3;have HK3:=ν hk3;clear hL3 hk3
  go_wp2
  go_end0
  refine⟨rfl,HL3.out.congr fun p=>?_,(HK.out.trans HK2.out (fun _ _ e=>e)).trans HK3.out (fun _ _ e=>e)⟩;simp only[vi,List.mem_append];constructor
  ·rintro(h|h|h|h)
   ·exact .inr h
   ·exact .inl (.inr h)
   ·exact .inl (.inl (.inl h))
   ·exact .inl (.inl (.inr h))
  ·rintro(((h|h)|h)|h)
   ·exact .inr (.inr (.inl h))
   ·exact .inr (.inr (.inr h))
   ·exact .inr (.inl h)
   ·exact .inl h
theorem oW{P:aF}{l:List cK}{x:cK}{p:Wr}:p∈gR P (l++[x])↔p∈gR P l∨(∃y∈l,p∈say (!decide (x.QN=y.QN)) (max x.pos y.pos) 1)∨p∈x.runs.flatMap (sG P x.needs):=by
 simp only[gR,List.mem_append,cg,List.flatMap_append,List.flatMap_cons,List.flatMap_nil,List.append_nil];constructor
 ·rintro((h|h)|(h|h))
  ·exact .inl (.inl h)
  ·exact .inr (.inl h)
  ·exact .inl (.inr h)
  ·exact .inr (.inr h)
 ·rintro((h|h)|(h|h))
  ·exact .inl (.inl h)
  ·exact .inr (.inl h)
  ·exact .inl (.inr h)
  ·exact .inr (.inr h)
theorem zY{v:ae}{P:aF}{L:List Wr}(h:aG B w pb v P cN L){z0:Nat}{D:Nat→DataW Value}{r:Nat→ByteArray→Value}(hF:ci (z0+10) w (bB z0) (d6 P) D r)
 (hpb:pb<z0){u:Value}{xs:List cK}(hs:aM B 4 (iu B) w u xs):
 Calls Tryz.prog 74 #[.pointer (some ⟨pb,0,none⟩),u,.agg (dW z0)] w fun e w'=>e=.returned (.tuple #[])∧aG B w' pb v P cN (gR P xs++L)∧aD (fun k=>k=pb) w w':=by
 obtain⟨A,c,rfl,hnc,hn0,hl⟩:=hs;unfold top at hn0;have hlt:=h.lt;have hBp:=h.base;unfold dW;have HF:=hh hF;clear hF
 go_enter Tryz.func74,Tryz.ntmps74
 go_wp2
 obtain⟨wb,hwb⟩:∃u:World,u=w.alloc (Obj.cells (dW z0) 139):=⟨_,rfl⟩;unfold dW at hwb;rw[←hwb];obtain⟨zb,hzb⟩:∃u:Nat,u=w.heap.size:=⟨_,rfl⟩;rw[←hzb];have hb0:wb.heap[zb]?=some (.cells (dW z0) 139 (0,0)):=by rw[hwb,hzb];exact heap_alloc_new _ _
 have hkb:aD (fun k=>k=pb) w wb:=by rw[hwb];exact(aD.refl _ _).alloc _
 have hLb:aG B wb pb v P cN L:=by rw[hwb];exact h.new ((aD.refl _ _).alloc _)
 have hzp:zb≠pb:=χ
 have HKb:=hh hkb;have HLb:=hh hLb;have HB0:=hh hb0;clear hwb hzb hb0 hkb hLb
 go_loopw [14] (fun i wr=>∃n:Nat,n≤xs.length∧i=.int .i64 n∧aG B wr pb v P cN (gR P (xs.take n)++L)∧aD (fun k=>k=pb) wb wr) (fun i _=>xs.length-(intOf i).toNat)
 case atStart=>exact⟨0,Nat.zero_le _,rfl,by simpa[gR,cQ]using HLb.out,aD.refl _ _⟩
 case round =>
 obtain⟨n,hn,rfl,hL,hk⟩:=hrel
 by_cases hlt2:n<xs.length
 ·obtain⟨bl,off,rfl,hbl,hcs⟩:=hl χ
  obtain⟨x,hx⟩:=ge hlt2;have hkw:=HKb.out.trans hk (fun _ _ e=>e);obtain⟨ur,hc,hs1,hpos,hcpu⟩:=(d5 B) _ _ _ _ _ (hkw.below (B:=B) χ (fun _ hi e=>χ)) hbl (hcs n x hx);have hs2:=hs1;obtain⟨Ar,cR,rfl,hrc,hrn,_⟩:=hs1;have q0:=hc.c0;have q1:=hc 1 _ rfl;have q2:=hc 2 _ rfl;have q3:=hc 3 _ rfl;have hsz:=hkw.size;have hblr:bl<wr.heap.size:=χ
  unfold lim at hcpu;unfold top at hrn;have HX:=hh hx;have HL:=hh hL;have HK:=hh hk;have HCS:=hh hcs;have HS2:=hh hs2;have hnc2:n≤c:=χ
  clear hx hL hk hkw hc hs2
  go_wp2
  obtain⟨wo,hwo⟩:∃wo:World,wo=wr.alloc (Obj.cells #[.int .i64 x.pos,.int .u64 x.QN,.bool x.needs,.slice Ar x.runs.length cR] 71):=⟨_,rfl⟩;rw[←hwo];obtain⟨z,hz⟩:∃z,z=wr.heap.size:=⟨_,rfl⟩;rw[←hz];have hx0:wo.heap[z]?=some (.cells #[.int .i64 x.pos,.int .u64 x.QN,.bool x.needs,.slice Ar x.runs.length cR] 71 (0,0)):=by rw[hwo,hz];exact heap_alloc_new _ _
  have hLo:aG B wo pb v P cN (gR P (xs.take n)++L):=by rw[hwo];exact HL.out.new ((aD.refl _ _).alloc _)
  have hKo:aD (fun k=>k=pb) wb wo:=by rw[hwo];exact HK.out.alloc _
  have hsro:aM B 4 nG wo (.slice Ar x.runs.length cR) x.runs:=HS2.out.below (aI _ _ _) (by rw[hwo];exact((aD.refl (fun _=>False) _).alloc _).below χ (fun _ _ h=>h));have HSR:=hh hsro;have hzp2:z≠pb:=χ
  have HX0:=hh hx0;have HKo:=hh hKo;have HLo:=hh hLo;clear hwo hz hx0 hKo hLo q0 q1 q2 q3 HL HK hsro HS2
  go_loopw [23] (fun j wq=>∃k:Nat,k≤n∧j=.int .i64 k∧aG B wq pb v P cN ((xs.take k).flatMap (fun y=>say (!decide (x.QN=y.QN)) (max x.pos y.pos) 1)++(gR P (xs.take n)++L))∧aD (fun i=>i=pb) wo wq) (fun j _=>n-(intOf j).toNat)
  case atStart=>exact⟨0,Nat.zero_le _,rfl,HLo.out,aD.refl _ _⟩
  case round =>
  obtain⟨k,hkn,rfl,hL2,hk2⟩:=hrel;have hx2:=(hk2.block z (aH HX0.out) hzp2).trans HX0.out;have x0:wr.cell? ⟨z,0,none⟩=some (.int .i64 x.pos):=cr hx2 rfl;have x1:wr.cell? ⟨z,1,none⟩=some (.int .u64 x.QN):=cr hx2 rfl;have x3:wr.cell? ⟨z,3,none⟩=some (.slice Ar x.runs.length cR):=cr hx2 rfl;have hzr:z<wr.heap.size:=aH hx2
  by_cases hlt3:k<n
  ·obtain⟨y,hy⟩:∃y,xs[k]?=some y:=⟨_,Ez χ⟩
   have hkw:=(HKb.out.trans HKo.out (fun _ _ e=>e)).trans hk2 (fun _ _ e=>e);have hsz2:=hkw.size;obtain⟨uy,hc,⟨Ay,cy,rfl,_⟩,hpy,hcy⟩:=(d5 B) _ _ _ _ _ (hkw.below (B:=B) χ (fun _ hi e=>χ)) hbl (HCS.out k y hy);have y0:=hc.c0;have y1:=hc 1 _ rfl;have y2:=hc 2 _ rfl;have y3:=hc 3 _ rfl;unfold lim at hcy;have hbl2:bl<wr.heap.size:=χ
   have HL2:=hh hL2;have HK2:=hh hk2;have HY:=hh hy;have HV:=hh (show((x.QN:Int)!=(y.QN:Int))=!decide (x.QN=y.QN) by
    by_cases he:x.QN=y.QN
    ·simp[he]
    ·have:¬ (x.QN:Int)=y.QN:=χ
     simp[he,this])
   clear hL2 hk2 hkw hc hy hx2
   go_wp2_with fail
   all_goals
    rw[HV.out];refine(aR _ _ 1 81 (HL2.out.new ((aD.refl _ _).alloc _)) rfl).mono ?_;rintro e w2 ⟨rfl,hL3,hk3⟩;have HL3:=hh hL3;have HK3:=hh hk3;clear hL3 hk3
    go_wp2
    go_roundw
    case rel =>
     refine⟨k+1,χ,by go_num,HL3.out.congr fun p=>?_,HK2.out.trans (((aD.refl _ _).alloc _).trans HK3.out (fun _ _ e=>e)) (fun _ _ e=>e)⟩;rw[aO HY.out]
     first
      | (have hm:max x.pos y.pos=y.pos:=χ;simp[hm,or_assoc,or_comm,or_left_comm])
      | (have hm:max x.pos y.pos=x.pos:=χ;simp[hm,or_assoc,or_comm,or_left_comm])
    case measure=>simp[intOf];omega
  ·obtain rfl:k=n:=χ
   obtain⟨wm,hwm⟩:∃u:World,u=wr:=⟨_,rfl⟩;rw[←hwm]at hL2 hk2 hx2 x0 x1 x3 hzr⊢;have HL2:=hh hL2;have HK2:=hh hk2;have HX2:=hh hx2;clear hwm wr hL2 hk2 hx2 HX0 HLo
   go_wp2
   clear x0 x1 x3
   go_loopw [43] (fun j wq=>∃m:Nat,m≤x.runs.length∧j=.int .i64 m∧aG B wq pb v P cN ((x.runs.take m).flatMap (sG P x.needs)++((xs.take k).flatMap (fun y=>say (!decide (x.QN=y.QN)) (max x.pos y.pos) 1)++(gR P (xs.take k)++L)))∧aD (fun i=>i=pb) wm wq) (fun j _=>x.runs.length-(intOf j).toNat)
   case atStart=>exact⟨0,Nat.zero_le _,rfl,HL2.out,aD.refl _ _⟩
   case round =>
   obtain⟨m,hm,rfl,hL3,hk3⟩:=hrel
   by_cases hlt4:m<x.runs.length
   ·obtain⟨Ar',cR',e,_,_,hlr⟩:=HSR.out
    cases e
    obtain⟨gl,go_,rfl,hgl,hgs⟩:=hlr χ;obtain⟨rr,hrr⟩:=ge hlt4;have hk4:=HK2.out.trans hk3 (fun _ _ e=>e);have hbo:B≤wo.heap.size:=by have:=HKb.out.size;have:=HKo.out.size;omega
    have hsz3:=hk4.size;obtain⟨hc,hok⟩:=(aI B _ _) _ _ _ _ _ (hk4.below (B:=B) hbo (fun _ hi e=>χ)) hgl (hgs m rr hrr);have q0:=hc.c0;have q1:=hc 1 _ rfl;have q2:=hc 2 _ rfl;have q3:=hc 3 _ rfl;obtain⟨hrp,hrb,hrpe,hrs⟩:=hok;unfold lim at hrpe hrb;have hgr:gl<wr.heap.size:=χ
    have hsm:rr.QH.size≤maxLen:=by unfold aV at hrs;unfold maxLen;omega
    have HR:=hh hrr;have HL3:=hh hL3;have HK3:=hh hk3;have HX3:=hh ((hk3.block z (aH HX2.out) hzp2).trans HX2.out);have HB3:=hh ((((HKo.out.trans HK2.out (fun _ _ e=>e)).trans hk3 (fun _ _ e=>e)).block zb (aH HB0.out) hzp).trans HB0.out);have x2:wr.cell? ⟨z,2,none⟩=some (.bool x.needs):=cr HX3.out rfl;have hzr3:z<wr.heap.size:=aH HX3.out;have hzr4:z<wr.heap.size+1:=χ
    have hbr3:zb<wr.heap.size:=aH HB3.out;clear hL3 hk3 hk4 hc hrr hgs hlr;have HPE:=hh (show((rr.per:Int)==0)=decide (rr.per=0) by
     by_cases he:rr.per=0
     ·simp[he]
     ·have:¬ (rr.per:Int)=0:=χ
      simp[he])
    obtain⟨nd,hnd⟩:∃nd,nd=x.needs:=⟨_,rfl⟩;rw[←hnd]at x2;have HND:=hh hnd;clear hnd;have HOK:=hh (show(nd||decide (rr.per=0))=(x.needs||decide (rr.per=0)) by rw[HND.out])
    cases nd
    ·go_wp2_with fail
     rw[HPE.out];obtain⟨wc,hwc⟩:∃u:World,u=wr.alloc (Obj.cells #[.int .i64 rr.pos,.string rr.QH,.int .u64 rr.QS,.int .u64 rr.per] 99):=⟨_,rfl⟩;rw[←hwc];obtain⟨zr,hzr5⟩:∃u,u=wr.heap.size:=⟨_,rfl⟩;rw[←hzr5];have hr0:wc.heap[zr]?=some (.cells #[.int .i64 rr.pos,.string rr.QH,.int .u64 rr.QS,.int .u64 rr.per] 99 (0,0)):=by rw[hwc,hzr5];exact heap_alloc_new _ _
     have hkc:Kz wr wc:=by rw[hwc];exact(aD.refl _ _).alloc _
     have hLc:=HL3.out.new hkc;have hrp2:zr≠pb:=by have:=HKb.out.size;have:=HKo.out.size;omega
     refine(aR _ rr.pos 0 5 hLc rfl).mono ?_;rintro e w3 ⟨rfl,hL4,hk4⟩;have hkwx:aD (fun i=>i=pb) wr w3:=(hkc.mono (T:=fun i=>i=pb) (fun i _ h=>h.elim)).trans hk4 (fun _ _ e=>e);have hr4:=(hk4.block zr (aH hr0) hrp2).trans hr0;have hb4:=(hkwx.block zb hbr3 hzp).trans HB3.out;have r0:w3.cell? ⟨zr,0,none⟩=some (.int .i64 rr.pos):=cr hr4 rfl;have r1:w3.cell? ⟨zr,1,none⟩=some (.string rr.QH):=cr hr4 rfl;have b3:w3.cell? ⟨zb,3,none⟩=some (.map (some (z0+4))):=cr hb4 rfl;have hzr6:zr<w3.heap.size:=aH hr4;have hzb6:zb<w3.heap.size:=aH hb4;have hkall:aD (fun i=>i=pb) w w3:=(HKb.out.trans HKo.out (fun _ _ e=>e)).trans ((HK2.out.trans HK3.out (fun _ _ e=>e)).trans hkwx (fun _ _ e=>e)) (fun _ _ e=>e);have hasq:∀w',Kz w3 w'→Calls Tryz.prog 72 #[.map (some (z0+4)),.string rr.QH] w' fun e w2=>e=.returned (.bool (has P.QP rr.QH))∧w'=w2:=fun w' hk=>by
      have hk5:aD (fun i=>i=pb) w w':=hkall.trans hk (fun _ _ e=>e.elim);exact nX (HF.out.keep hk5 (fun k e _=>by subst e;exact⟨χ,by simp[bB];omega⟩)) 3 (z0+4) P.QP rfl rfl rr.QH hsm
     have HH:=hh hasq;have HC:Hid (∀w',aD (fun i=>i=pb) w3 w'→w'.cell? ⟨zr,0,none⟩=some (.int .i64 rr.pos)∧w'.cell? ⟨zr,1,none⟩=some (.string rr.QH)∧w'.cell? ⟨zb,3,none⟩=some (.map (some (z0+4)))):=fun w' hk =>
      ⟨(hk.cell (p:=⟨zr,0,none⟩) hzr6 hrp2).trans r0,(hk.cell (p:=⟨zr,1,none⟩) hzr6 hrp2).trans r1,(hk.cell (p:=⟨zb,3,none⟩) hzb6 hzp).trans b3⟩
     have HLd:=hh (hL4.new ((aD.refl _ w3).drew));have HKW:=hh hkwx;clear hwc hzr5 hr0 hkc hLc hL4 hk4 hkwx hr4 hb4 hkall hasq q0 q1 q2 q3 x2
     by_cases hse:rr.QH=ByteArray.empty
     ·have hd1:(rr.QH.toList==ByteArray.toList { data := #[] })=true:=by rw[bU];exact decide_eq_true hse
      have hd2:(rr.QH.toList==[])=true:=by rw[fW]at hd1;exact hd1
      have HSE:=hh hse;clear hse
      go_upto_region 13 with fail
      refine wp_region_still_tail 13 δ δ ?_;simp only[List.take_succ_cons,List.take_zero,List.drop_succ_cons,List.drop_zero]
      iterate 13 with_reducible refine sl ?_
      with_reducible refine wpStill_nil ?_;refine Lz (fun K hK=>?_)
      go_simp;refine(aR _ _ 2 80 HLd.out rfl).mono ?_;rintro e w2 ⟨rfl,hL5,hk5⟩;with_reducible refine hK _ _ (ln ?_);clear hK K;apply jb
      have HL5:=hh hL5;have HK5:=hh hk5;clear hL5 hk5
      go_wp2
      go_roundw
      case rel =>
       refine⟨m+1,χ,by go_num,HL5.out.congr fun p=>?_,(HK3.out.trans HKW.out (fun _ _ e=>e)).trans (((aD.refl _ _).drew).trans HK5.out (fun _ _ e=>e)) (fun _ _ e=>e)⟩;rw[aO HR.out];have hse2:decide (rr.QH=ByteArray.empty)=true:=decide_eq_true HSE.out;have hok2:=HOK.out;simp only[Bool.false_or,Bool.true_or]at hok2;simp only[sG,←hok2,hse2,Bool.true_or,List.mem_append,List.flatMap_append,List.flatMap_cons,List.flatMap_nil,List.append_nil];constructor
       ·rintro(h|h|h|h)
        ·exact .inl (.inr (.inr h))
        ·exact .inl (.inr (.inl h))
        ·exact .inl (.inl h)
        ·exact .inr h
       ·rintro((h|h|h)|h)
        ·exact .inr (.inr (.inl h))
        ·exact .inr (.inl h)
        ·exact .inl h
        ·exact .inr (.inr (.inr h))
      case measure=>simp[intOf];omega
     ·have hd1:(rr.QH.toList==ByteArray.toList { data := #[] })=false:=by rw[bU];exact decide_eq_false hse
      have hd2:(rr.QH.toList==[])=false:=by rw[fW]at hd1;exact hd1
      have HSE:=hh hse;clear hse
      go_upto_region 13 with fail
      go_region_held3 (fun w'=>w'.cell? ⟨zr,0,none⟩=some (.int .i64 rr.pos)∧w'.cell? ⟨zr,1,none⟩=some (.string rr.QH)∧w'.cell? ⟨zb,3,none⟩=some (.map (some (z0+4))))
       (first|exact HC.out _ ((aD.refl _ w3).drew)|exact HC.out _ (((aD.refl _ w3).drew).trans (by assumption) (fun _ _ e=>e)))
       (first
        | (go_at_call 72;refine(HH.out _ ((aD.refl _ w3).drew)).mono ?_;rintro e w2 ⟨rfl,rfl⟩)
        | (go_at_call 71;refine(aR _ _ 2 80 HLd.out rfl).mono ?_;rintro e w2 ⟨rfl,hL5,hk5⟩))
      have HL5:=hh hL5;have HK5:=hh hk5;clear hL5 hk5
      go_wp2
      go_roundw
      case rel =>
       refine⟨m+1,χ,by go_num,HL5.out.congr fun p=>?_,(HK3.out.trans HKW.out (fun _ _ e=>e)).trans (((aD.refl _ _).drew).trans HK5.out (fun _ _ e=>e)) (fun _ _ e=>e)⟩;rw[aO HR.out];have hse2:decide (rr.QH=ByteArray.empty)=false:=decide_eq_false HSE.out;have hok2:=HOK.out;simp only[Bool.false_or,Bool.true_or]at hok2;simp only[sG,←hok2,hse2,Bool.false_or,List.mem_append,List.flatMap_append,List.flatMap_cons,List.flatMap_nil,List.append_nil];constructor
       ·rintro(h|h|h|h)
        ·exact .inl (.inr (.inr h))
        ·exact .inl (.inr (.inl h))
        ·exact .inl (.inl h)
        ·exact .inr h
       ·rintro((h|h|h)|h)
        ·exact .inr (.inr (.inl h))
        ·exact .inr (.inl h)
        ·exact .inl h
        ·exact .inr (.inr (.inr h))
      case measure=>simp[intOf];omega
    ·go_wp2_with fail
     obtain⟨wc,hwc⟩:∃u:World,u=wr.alloc (Obj.cells #[.int .i64 rr.pos,.string rr.QH,.int .u64 rr.QS,.int .u64 rr.per] 99):=⟨_,rfl⟩;rw[←hwc];obtain⟨zr,hzr5⟩:∃u,u=wr.heap.size:=⟨_,rfl⟩;rw[←hzr5];have hr0:wc.heap[zr]?=some (.cells #[.int .i64 rr.pos,.string rr.QH,.int .u64 rr.QS,.int .u64 rr.per] 99 (0,0)):=by rw[hwc,hzr5];exact heap_alloc_new _ _
     have hkc:Kz wr wc:=by rw[hwc];exact(aD.refl _ _).alloc _
     have hLc:=HL3.out.new hkc;have hrp2:zr≠pb:=by have:=HKb.out.size;have:=HKo.out.size;omega
     refine(aR _ rr.pos 0 5 hLc rfl).mono ?_;rintro e w3 ⟨rfl,hL4,hk4⟩;have hkwx:aD (fun i=>i=pb) wr w3:=(hkc.mono (T:=fun i=>i=pb) (fun i _ h=>h.elim)).trans hk4 (fun _ _ e=>e);have hr4:=(hk4.block zr (aH hr0) hrp2).trans hr0;have hb4:=(hkwx.block zb hbr3 hzp).trans HB3.out;have r0:w3.cell? ⟨zr,0,none⟩=some (.int .i64 rr.pos):=cr hr4 rfl;have r1:w3.cell? ⟨zr,1,none⟩=some (.string rr.QH):=cr hr4 rfl;have b3:w3.cell? ⟨zb,3,none⟩=some (.map (some (z0+4))):=cr hb4 rfl;have hzr6:zr<w3.heap.size:=aH hr4;have hzb6:zb<w3.heap.size:=aH hb4;have hkall:aD (fun i=>i=pb) w w3:=(HKb.out.trans HKo.out (fun _ _ e=>e)).trans ((HK2.out.trans HK3.out (fun _ _ e=>e)).trans hkwx (fun _ _ e=>e)) (fun _ _ e=>e);have hasq:∀w',Kz w3 w'→Calls Tryz.prog 72 #[.map (some (z0+4)),.string rr.QH] w' fun e w2=>e=.returned (.bool (has P.QP rr.QH))∧w'=w2:=fun w' hk=>by
      have hk5:aD (fun i=>i=pb) w w':=hkall.trans hk (fun _ _ e=>e.elim);exact nX (HF.out.keep hk5 (fun k e _=>by subst e;exact⟨χ,by simp[bB];omega⟩)) 3 (z0+4) P.QP rfl rfl rr.QH hsm
     have HH:=hh hasq;have HC:Hid (∀w',aD (fun i=>i=pb) w3 w'→w'.cell? ⟨zr,0,none⟩=some (.int .i64 rr.pos)∧w'.cell? ⟨zr,1,none⟩=some (.string rr.QH)∧w'.cell? ⟨zb,3,none⟩=some (.map (some (z0+4)))):=fun w' hk =>
      ⟨(hk.cell (p:=⟨zr,0,none⟩) hzr6 hrp2).trans r0,(hk.cell (p:=⟨zr,1,none⟩) hzr6 hrp2).trans r1,(hk.cell (p:=⟨zb,3,none⟩) hzb6 hzp).trans b3⟩
     have HLd:=hh (hL4.new ((aD.refl _ w3).drew));have HKW:=hh hkwx;clear hwc hzr5 hr0 hkc hLc hL4 hk4 hkwx hr4 hb4 hkall hasq q0 q1 q2 q3 x2
     by_cases hse:rr.QH=ByteArray.empty
     ·have hd1:(rr.QH.toList==ByteArray.toList { data := #[] })=true:=by rw[bU];exact decide_eq_true hse
      have hd2:(rr.QH.toList==[])=true:=by rw[fW]at hd1;exact hd1
      have HSE:=hh hse;clear hse
      go_upto_region 13 with fail
      refine wp_region_still_tail 13 δ δ ?_;simp only[List.take_succ_cons,List.take_zero,List.drop_succ_cons,List.drop_zero]
      iterate 13 with_reducible refine sl ?_
      with_reducible refine wpStill_nil ?_;refine Lz (fun K hK=>?_)
      go_simp;refine(aR _ _ 2 80 HLd.out rfl).mono ?_;rintro e w2 ⟨rfl,hL5,hk5⟩;with_reducible refine hK _ _ (ln ?_);clear hK K;apply jb
      have HL5:=hh hL5;have HK5:=hh hk5;clear hL5 hk5
      go_wp2
      go_roundw
      case rel =>
       refine⟨m+1,χ,by go_num,HL5.out.congr fun p=>?_,(HK3.out.trans HKW.out (fun _ _ e=>e)).trans (((aD.refl _ _).drew).trans HK5.out (fun _ _ e=>e)) (fun _ _ e=>e)⟩;rw[aO HR.out];have hse2:decide (rr.QH=ByteArray.empty)=true:=decide_eq_true HSE.out;have hok2:=HOK.out;simp only[Bool.false_or,Bool.true_or]at hok2;simp only[sG,←hok2,hse2,Bool.true_or,List.mem_append,List.flatMap_append,List.flatMap_cons,List.flatMap_nil,List.append_nil];constructor
       ·rintro(h|h|h|h)
        ·exact .inl (.inr (.inr h))
        ·exact .inl (.inr (.inl h))
        ·exact .inl (.inl h)
        ·exact .inr h
       ·rintro((h|h|h)|h)
        ·exact .inr (.inr (.inl h))
        ·exact .inr (.inl h)
        ·exact .inl h
        ·exact .inr (.inr (.inr h))
      case measure=>simp[intOf];omega
     ·have hd1:(rr.QH.toList==ByteArray.toList { data := #[] })=false:=by rw[bU];exact decide_eq_false hse
      have hd2:(rr.QH.toList==[])=false:=by rw[fW]at hd1;exact hd1
      have HSE:=hh hse;clear hse
      go_upto_region 13 with fail
      go_region_held3 (fun w'=>w'.cell? ⟨zr,0,none⟩=some (.int .i64 rr.pos)∧w'.cell? ⟨zr,1,none⟩=some (.string rr.QH)∧w'.cell? ⟨zb,3,none⟩=some (.map (some (z0+4))))
       (first|exact HC.out _ ((aD.refl _ w3).drew)|exact HC.out _ (((aD.refl _ w3).drew).trans (by assumption) (fun _ _ e=>e)))
       (first
        | (go_at_call 72;refine(HH.out _ ((aD.refl _ w3).drew)).mono ?_;rintro e w2 ⟨rfl,rfl⟩)
        | (go_at_call 71;refine(aR _ _ 2 80 HLd.out rfl).mono ?_;rintro e w2 ⟨rfl,hL5,hk5⟩))
      have HL5:=hh hL5;have HK5:=hh hk5;clear hL5 hk5
      go_wp2
      go_roundw
      case rel =>
       refine⟨m+1,χ,by go_num,HL5.out.congr fun p=>?_,(HK3.out.trans HKW.out (fun _ _ e=>e)).trans (((aD.refl _ _).drew).trans HK5.out (fun _ _ e=>e)) (fun _ _ e=>e)⟩;rw[aO HR.out];have hse2:decide (rr.QH=ByteArray.empty)=false:=decide_eq_false HSE.out;have hok2:=HOK.out;simp only[Bool.false_or,Bool.true_or]at hok2;simp only[sG,←hok2,hse2,Bool.false_or,List.mem_append,List.flatMap_append,List.flatMap_cons,List.flatMap_nil,List.append_nil];constructor
       ·rintro(h|h|h|h)
        ·exact .inl (.inr (.inr h))
        ·exact .inl (.inr (.inl h))
        ·exact .inl (.inl h)
        ·exact .inr h
       ·rintro((h|h|h)|h)
        ·exact .inr (.inr (.inl h))
        ·exact .inr (.inl h)
        ·exact .inl h
        ·exact .inr (.inr (.inr h))
      case measure=>simp[intOf];omega
   ·obtain rfl:m=x.runs.length:=χ
    rw[List.take_length]at hL3;have HL3:=hh hL3;have HK3:=hh hk3;clear hL3 hk3
    go_wp2
    go_roundw
    case rel =>
     refine⟨k+1,χ,by go_num,HL3.out.congr fun p=>?_,(HKo.out.trans HK2.out (fun _ _ e=>e)).trans HK3.out (fun _ _ e=>e)⟩;rw[aO HX.out];simp only[List.mem_append,oW];rw[show(p∈(xs.take k).flatMap (fun y=>say (!decide (x.QN=y.QN)) (max x.pos y.pos) 1))↔∃y∈xs.take k,p∈say (!decide (x.QN=y.QN)) (max x.pos y.pos) 1 from List.mem_flatMap];constructor
     ·rintro(h|h|h|h)
      ·exact .inl (.inr (.inr h))
      ·exact .inl (.inr (.inl h))
      ·exact .inl (.inl h)
      ·exact .inr h
     ·rintro((h|h|h)|h)
      ·exact .inr (.inr (.inl h))
      ·exact .inr (.inl h)
      ·exact .inl h
      ·exact .inr (.inr (.inr h))
    case measure=>simp[intOf];omega
 ·obtain rfl:n=xs.length:=χ
  rw[List.take_length]at hL;have HL:=hh hL;have HK:=hh hk;clear hL hk
  go_wp2
  go_end0
  exact⟨rfl,HL.out,HKb.out.trans HK.out (fun _ _ e=>e)⟩
