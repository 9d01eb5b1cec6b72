import Derived.Test.YthobcefghkeddaaGreatDoorApart
import Derived.Test.YthobcefghkeddaaGreatDoorClone
set_option maxRecDepth 100000
set_option linter.all false
set_option maxHeartbeats 4000000
namespace Go.Proofs.YthobcefghkeddaaGreatDoor
open Go.RowKit Go.IntWalk Ck
variable {w w':World} {B size n pb z c:Nat} {e:TypeId} {xs:List Value} {u:Value}
theorem aN{S:Nat→Prop}{v:Value}(h:w.ownsRow B e size v n xs)(hk:aD S w w')(x:∀k,v.ownBlock=some k→¬ S k):w'.ownsRow B e size v n xs:=by
 refine⟨h.1,?_⟩
 rcases h.2 with l|⟨g,d,j,rfl,u,hh,q⟩
 ·exact .inl l
 ·exact .inr ⟨g,d,j,rfl,u,by rw[hk.block g (Array.getElem?_eq_some_iff.1 hh).1 (x g rfl)];exact hh,q⟩
theorem xh{v:Value}(h:w.ownsRow B e size v n xs){k:Nat}(hk:v.ownBlock=some k):gQ w k=some e∧B≤k∧k<w.heap.size:=by
 refine⟨?_,h.lt k hk⟩
 rcases h.2 with⟨l,_⟩|⟨g,d,j,rfl,u,hh,q⟩
 ·subst l;cases hk
 ·have:g=k:=by simpa[Value.ownBlock]using hk
  subst this;unfold gQ;rw[hh]
theorem aG.grown{v:aY}{P:aF}{W:Int→Int}{L:List Wr}(h:aG B w pb v P W L)(d:w.ownsRow z e size u n xs)(x:B≤z)(g:e≠77∧e≠84)(hk:aD (fun k=>u.ownBlock=some k) w w'):aG B w' pb v P W L:=
 h.keep hk fun k l _=>by
  obtain⟨j,q,_⟩:=xh d l;refine⟨χ,?_,?_⟩<;>rw[j]<;>simp[g.1,g.2]
def ai(xs:List df):List Value:=xs.flatMap Ck.df.cells
def rA(x:Ram):df:=⟨x.Q7,x.size,x.pos⟩
def wk(x:Ck.bB):df:=⟨x.Q7,x.size,x.pos⟩
def jG(l:List Ram):Nat:=l.foldl (fun s x=>min (s+min x.size 67108865) 67108865) 0
theorem np(l:List Ram)(x:Ram):jG (l++[x])=min (jG l+min x.size 67108865) 67108865:=by simp[jG]
theorem ro(l:List Ram):jG l≤67108865:=by
 unfold jG
 suffices h:∀(l:List Ram) (s:Nat),s≤67108865→l.foldl (fun s x=>min (s+min x.size 67108865) 67108865) s≤67108865 from h l 0 χ
 intro l
 induction l with
 | nil=>intro s h;exact h
 | cons x t ih=>intro s h;exact ih _ (Nat.min_le_right _ _)
theorem kq(x:Ram):∀(l:List Ram) (s:Nat),d6 s (l++[x])=d6 s l++say (decide (min (l.foldl (fun s x=>min (s+min x.size 67108865) 67108865) s+min x.size 67108865) 67108865≤67108864)) x.pos 4
 | [],s=>by simp only[List.nil_append,d6,List.append_nil,List.foldl_nil];congr
 | y::t,s=>by simp only[List.cons_append,d6,kq x t,List.foldl_cons,List.append_assoc];congr
theorem pZ(x:Ram)(l:List Ram):d6 0 (l++[x])=d6 0 l++say (decide (jG (l++[x])≤67108864)) x.pos 4:=by rw[kq,np];rfl
theorem fh(l:List df)(x:df):ai (l++[x])=ai l++x.cells:=by simp[ai]
theorem Tryz.info172:(Tryz.prog.info? 172).map (fun i=>(i.zero,i.size,i.bytes))=some (some (.agg #[.int .u64 0,.int .u64 0,.int .i64 0]),3,24):=δ
theorem mB{a b c:Int}:∀u∈[Value.int .u64 a,.int .u64 b,.int .i64 c],u.oneCell'=true:=by
 intro u d;simp at d;rcases d with rfl|rfl|rfl<;>rfl
theorem ks:∀(xs:List df) (i j:Nat) (x:df) (c:Value),xs[i]?=some x→x.cells[j]?=some c→(ai xs)[i*3+j]?=some c
 | [],i,j,x,c,h,_=>by simp at h
 | y::t,0,j,x,c,h,hc=>by
  obtain rfl:y=x:=by simpa using h
  have g:j<y.cells.length:=(List.getElem?_eq_some_iff.1 hc).1;simp only[ai,List.flatMap_cons,Nat.zero_mul,Nat.zero_add];rw[List.getElem?_append_left g];exact hc
 | y::t,i+1,j,x,c,h,hc=>by
  have d:t[i]?=some x:=by simpa using h
  have l:y.cells.length=3:=rfl;have:=ks t i j x c d hc;have e:ai (y::t)=y.cells++ai t:=by simp[ai]
  rw[e,List.getElem?_append_right χ,l,show(i+1)*3+j-3=i*3+j by omega];exact this
theorem fS{xs:List df}(h:w.ownsRow z 172 3 u xs.length (ai xs))(E:∀x∈xs,x.Ok)(C:xs.length≤8388608)(L:pb<z):fE w pb u xs:=by
 rcases Nat.eq_zero_or_pos xs.length with B|B
 ·rcases h.2 with⟨q,K⟩|⟨g,l,y,q,_,_,d,_⟩
  ·exact⟨none,0,by rw[q,B],χ,C,fun h=>χ⟩
  ·exact⟨some ⟨g,0,none⟩,l,q,χ,C,fun h=>χ⟩
 ·have d:=h.2
  obtain⟨g,l,N,Q,D⟩:=h.form B;subst N;refine⟨_,l,rfl,?_,C,fun _=>⟨g,0,rfl,D,χ,fun i x J=>⟨fun j c I=>?_,E x (List.mem_of_getElem? J)⟩⟩⟩
  ·rcases d with⟨q,K⟩|⟨O,H,y,q,_,_,I,_⟩
   ·cases q
   ·cases q;omega
  ·have:=h.cells (g:=g) rfl _ _ (ks xs i j x c J I)
   have v:∀j,(⟨g,0,none⟩:Addr).add j=⟨g,j,none⟩:=fun j=>by unfold Addr.add;split<;>simp_all
   rw[v]at this;rw[Nat.zero_add];exact this
theorem fE.keep{xs:List df}(h:fE w pb u xs)(hk:aD (fun k=>k=pb) w w'):fE w' pb u xs:=by
 obtain⟨A,c,rfl,y,B,C⟩:=h;refine⟨A,c,rfl,y,B,fun v=>?_⟩;obtain⟨g,off,e,j,l,d⟩:=C v;exact⟨g,off,e,Nat.lt_of_lt_of_le j hk.size,l,fun i x q=>⟨(d i x q).1.keep hk j l,(d i x q).2⟩⟩
theorem sH{v:aY}{P:aF}(h:ax B w v P):∀x∈P.parts,x.Ok:=by
 intro x C;simp only[aF.parts,List.mem_append,List.mem_map]at C
 rcases C with⟨y,g,rfl⟩|⟨y,g,rfl⟩
 ·obtain⟨A,c,_,_,_,u⟩:=h.QF
  obtain⟨i,hi⟩:=List.getElem?_of_mem g;obtain⟨D,off,_,_,d⟩:=u (List.length_pos_of_mem g);obtain⟨_,j,l,q⟩:=d i y hi;exact⟨l,q,j⟩
 ·obtain⟨A,c,_,_,_,u⟩:=h.Q5
  obtain⟨i,hi⟩:=List.getElem?_of_mem g;obtain⟨D,off,_,_,d⟩:=u (List.length_pos_of_mem g);obtain⟨_,_,_,j,l,q,_⟩:=d i y hi;exact⟨l,q,j⟩
theorem wN{a s:Nat}(d:a<18446744073709551616)(g:s<18446744073709551616):bits .or .u64 (a:Int) (s:Int)=((a ||| s:Nat):Int):=by
 have l:a ||| s<2 ^ 64:=Nat.or_lt_two_pow d g;have hk:IntKind.u64.bits=64:=rfl;unfold bits;simp only[hk,BitVec.ofInt_natCast,BitVec.toNat_or,BitVec.toNat_ofNat,Nat.mod_eq_of_lt (show a<2 ^ 64 from d),Nat.mod_eq_of_lt (show s<2 ^ 64 from g)];have h:(((a ||| s:Nat):Int))<18446744073709551616:=χ
 have j:(0:Int)≤((a ||| s:Nat):Int):=Int.natCast_nonneg _
 generalize ((a ||| s:Nat):Int)=q at h j
 simp[IntKind.wrap,IntKind.bits,IntKind.signed];omega
theorem C1{a s:Nat}(d:a<18446744073709551616)(g:s<18446744073709551616):((bits .or .u64 (a:Int) (s:Int)).tmod 4096==0)=decide ((a ||| s)%4096=0):=by
 rw[wN d g];have e:(((a ||| s:Nat):Int)).tmod 4096=(((a ||| s)%4096:Nat):Int):=by
  rw[Int.tmod_eq_emod_of_nonneg χ];omega
 rw[e]
 by_cases h:(a ||| s)%4096=0
 ·simp[h]
 ·have:¬ (((a ||| s)%4096:Nat):Int)=0:=χ
  simp only[h,decide_false];exact beq_eq_false_iff_ne.2 this
theorem Ch{v:aY}{P:aF}(h:aG B w pb v P pT []):
 Calls Tryz.prog 27 #[.pointer (some ⟨pb,0,none⟩)] w fun e w'=>e=.returned (.tuple #[])∧aG B w' pb v P pT (vh P)∧aD (fun k=>k=pb) w w':=by
 obtain⟨i0,hi,hz0,hz1,hz2⟩:=info_parts Tryz.info172;obtain⟨z,hz⟩:∃z,z=w.heap.size:=⟨_,rfl⟩;have HZ:=Lib.hid hz;have hlt:=h.lt;have hBp:=h.base;obtain⟨A0,c0,hv0,_,hn0,hl0⟩:=h.QT.QF;obtain⟨A1,c1,hv1,_,hn1,hl1⟩:=h.QT.Q5;have HV1:=Lib.hid hv1;have hp0:w.cell? ⟨pb,2,none⟩=some v.QF:=h.cell rfl;rw[hv0]at hp0;unfold top at hn0 hn1;have hpz:pb<z:=χ
 clear hv0 hv1 hz
 go_enter Tryz.func27,Tryz.ntmps27
 go_wp2
 go_loopw [2,3,16] (fun u s i wr=>∃n:Nat,n≤P.QF.length∧i=.int .i64 n∧s=.int .u64 (jG (P.QF.take n):Nat)∧wr.ownsRow z 172 3 u n (ai ((P.QF.take n).map rA))∧aG B wr pb v P pT (d6 0 (P.QF.take n))∧aD (fun k=>k=pb) w wr) (fun _ _ i _=>P.QF.length-(intOf i).toNat)
 case atStart=>exact⟨0,Nat.zero_le _,rfl,rfl,World.ownsRow_nil _ _ _ _,by simpa[d6]using h,aD.refl _ _⟩
 case round =>
 obtain⟨n,hn,rfl,rfl,hown,hL,hk⟩:=hrel
 by_cases hlt2:n<P.QF.length
 ·obtain⟨bl,off,rfl,hbl,hcs⟩:=hl0 χ
  obtain⟨x,hx⟩:∃x,P.QF[n]?=some x:=⟨_,Ez hlt2⟩;obtain⟨hc,hok⟩:=(aJ B _ _) _ _ _ _ _ (hk.below (B:=B) χ (fun _ hi e=>χ)) hbl (hcs n x hx);have q0:=hc.c0;have q1:=hc 1 _ rfl;have q2:=hc 2 _ rfl;have hsz:=hk.size;have hblr:bl<wr.heap.size:=χ
  obtain⟨hw1,hat,hsi⟩:=hok;unfold lim at hat hsi;have hso:=ro (P.QF.take n);have hsn:=np (P.QF.take n) x;obtain⟨s,hs⟩:∃s,s=jG (P.QF.take n):=⟨_,rfl⟩;rw[←hs]at hso hsn⊢;have HSN:=Lib.hid hsn;have HX:=Lib.hid hx;have HL:=Lib.hid hL;have HK:=Lib.hid hk;have HCS:=Lib.hid hcs;have hzr:z≤wr.heap.size:=by have:=HZ.out;omega
  clear hx hc hL hk hcs hs hsn
  go_wp2_with (at_builtin;refine wpList_append_lies _ rfl _ _ 170 rfl z 172 i0 (.agg #[.int .u64 0,.int .u64 0,.int .i64 0]) 3 24 Tryz.underlying170 hi hz0 hz1 hz2 rfl χ _ n _ rfl ((hown.alloc _).alloc _) ⟨wr.heap.size+1,0,none⟩ 1 1 [.int .u64 x.Q7,.int .u64 x.size,.int .i64 x.pos] rfl rfl ?c1 mB χ (by unfold maxLen;omega) χ ?c2 (wr.heap.size+2) ξ ?_)
  case c1=>have:=World.news_of_block (cs := #[.int .u64 x.Q7,.int .u64 x.size,.int .i64 x.pos]) (heap_alloc_new (wr.alloc (.cells #[.int .i64 x.pos,.int .u64 x.Q7,.int .u64 x.size] 91)) (.cells #[.int .u64 x.Q7,.int .u64 x.size,.int .i64 x.pos] 172));simpa using this
  case c2=>simp;omega
  intro g cap w1 hown1 hgrow hat hlt3;have hkA:aD (fun k=>u2.ownBlock=some k) wr w1:=(((aD.refl _ _).alloc _).alloc _).trans (aD.of_grown hgrow (S:=fun k=>u2.ownBlock=some k) (fun k h=>h)) (fun _ _ h=>h);have hlo:=hown.lt;have hLn:aG B w1 pb v P pT (d6 0 (P.QF.take n)):=HL.out.grown hown χ ψ hkA;have hKn:aD (fun k=>k=pb) w w1:=HK.out.trans hkA (fun i hi h=>by have:=(hlo i h).1;have:=HZ.out;omega);have hbx:w1.heap[wr.heap.size]?=some (.cells #[.int .i64 x.pos,.int .u64 x.Q7,.int .u64 x.size] 91 (0,0)):=by
   have e1:=(aD.of_grown hgrow (S:=fun k=>u2.ownBlock=some k) (fun k h=>h)).block wr.heap.size η (fun h=>by have:=(hlo _ h).2;omega);refine e1.trans (((((aD.refl (fun _=>False) _).alloc _).block wr.heap.size ξ (fun h=>h))).trans (heap_alloc_new _ _))
  have r0:w1.cell? ⟨wr.heap.size,0,none⟩=some (.int .i64 x.pos):=by rw[cell_of_row _ _ _ _ _ _ hbx];rfl
  have r2:w1.cell? ⟨wr.heap.size,2,none⟩=some (.int .u64 x.size):=by rw[cell_of_row _ _ _ _ _ _ hbx];rfl
  have HLN:=Lib.hid hLn;have HKN:=Lib.hid hKn;have HO1:=Lib.hid hown1;clear hLn hKn hbx hkA hgrow hown hown1 q0 q1 q2
  go_upto_region 7 with fail
  have hm2:(if(67108865:Int)<(x.size:Int)then(67108865:Int)else(x.size:Int))=((min x.size 67108865:Nat):Int):=by split<;>omega
  have hm3:(if(67108865:Int)<(s:Int)+((min x.size 67108865:Nat):Int)then(67108865:Int)else(s:Int)+((min x.size 67108865:Nat):Int))=((jG (P.QF.take n++[x]):Nat):Int):=by rw[HSN.out];split<;>omega
  rw[hm2,hm3];obtain⟨m,hm⟩:∃m,m=min x.size 67108865:=⟨_,rfl⟩;obtain⟨s2,hs2⟩:∃s2,s2=jG (P.QF.take n++[x]):=⟨_,rfl⟩;rw[←hm,←hs2];have hs3:s2≤67108865:=by rw[hs2];exact ro _
  have HS2:=Lib.hid hs2;clear hs2 hm hm2 hm3
  go_wp2_with fail
  all_goals
   refine(aT _ x.pos 4 36 HLN.out rfl).mono ?_;rintro e w2 ⟨rfl,hL3,hk3⟩;have HL3:=Lib.hid hL3;have HK3:=Lib.hid hk3;clear hL3 hk3
   go_wp2
   go_roundw
   case rel =>
    refine⟨n+1,χ,by go_num,?_,?_,?_,HKN.out.trans HK3.out (fun _ _ e=>e)⟩
    ·rw[aP HX.out,←HS2.out]
    ·rw[aP HX.out,List.map_append]
     refine aN (by rw[List.map_cons,List.map_nil,fh];have:=HO1.out;rw[←List.map_take]at this;exact this) HK3.out (fun k hk e=>?_);subst e;have:=(HO1.out.lt _ hk).1;omega
    ·refine HL3.out.congr fun p=>?_
     rw[aP HX.out,pZ,←HS2.out];have hd:decide ((s2:Int)≤67108864)=decide (s2≤67108864):=decide_eq_decide.2 χ;simp only[hd,List.mem_append,or_comm]
   case measure=>simp[intOf];omega
 obtain rfl:n=P.QF.length:=χ
 rw[List.take_length]at hown hL;obtain⟨wo,hwo⟩:∃u:World,u=wr:=⟨_,rfl⟩;rw[←hwo]at hk hown hL⊢;obtain⟨s0,hs0⟩:∃u:Nat,u=jG (P.QF.take P.QF.length):=⟨_,rfl⟩;rw[←hs0];clear hwo wr hlt2 hn hl0 hp0 hs0;have hp1:wo.cell? ⟨pb,3,none⟩=some v.Q5:=hL.cell rfl;rw[HV1.out]at hp1;have HOWN:=Lib.hid hown;have HL:=Lib.hid hL;have HK:=Lib.hid hk;have hrl:P.QF.length≤2097152:=χ
 clear hown hL hk
 go_wp2
 clear hp1
 go_loopw [2,49] (fun u i wr=>∃n:Nat,n≤P.Q5.length∧i=.int .i64 n∧wr.ownsRow z 172 3 u (P.QF.length+n) (ai (P.QF.map rA++(P.Q5.take n).map wk))∧aG B wr pb v P pT (d6 0 P.QF++(P.Q5.take n).flatMap fun x=>say (decide (x.size≤1048576)) x.pos 1)∧aD (fun k=>k=pb) w wr) (fun _ i _=>P.Q5.length-(intOf i).toNat)
 case atStart=>exact⟨0,Nat.zero_le _,rfl,by simpa using HOWN.out,by simpa using HL.out,HK.out⟩
 case round =>
 clear HOWN HL HK;obtain⟨n,hn,rfl,hown,hL,hk⟩:=hrel
 by_cases hlt2:n<P.Q5.length
 ·obtain⟨bl,off,rfl,hbl,hcs⟩:=hl1 χ
  obtain⟨x,hx⟩:∃x,P.Q5[n]?=some x:=⟨_,Ez hlt2⟩;obtain⟨um,hc,⟨Am,cm,rfl,_⟩,hw1,hat,hsi,_⟩:=hcs n x hx;unfold lim at hat hsi;have hc:=hc.below (hk.below (B:=B) χ (fun _ hi e=>χ)) hbl;have q0:=hc.c0;have q1:=hc 1 _ rfl;have q2:=hc 2 _ rfl;have q3:=hc 3 _ rfl;have q4:=hc 4 _ rfl;have hsz:=hk.size;have hblr:bl<wr.heap.size:=χ
  have HX:=Lib.hid hx;have HL:=Lib.hid hL;have HK:=Lib.hid hk;have HCS:=Lib.hid hcs;have hzr:z≤wr.heap.size:=by have:=HZ.out;omega
  clear hx hc hL hk hcs
  go_wp2_with (at_builtin;refine wpList_append_lies _ rfl _ _ 170 rfl z 172 i0 (.agg #[.int .u64 0,.int .u64 0,.int .i64 0]) 3 24 Tryz.underlying170 hi hz0 hz1 hz2 rfl χ _ (P.QF.length+n) _ rfl ((hown.alloc _).alloc _) ⟨wr.heap.size+1,0,none⟩ 1 1 [.int .u64 x.Q7,.int .u64 x.size,.int .i64 x.pos] rfl rfl ?c1 mB χ (by unfold maxLen;omega) χ ?c2 (wr.heap.size+2) ξ ?_)
  case c1=>have:=World.news_of_block (cs := #[.int .u64 x.Q7,.int .u64 x.size,.int .i64 x.pos]) (heap_alloc_new (wr.alloc (.cells #[.int .i64 x.pos,.string x.name,.int .u64 x.Q7,.int .u64 x.size,.slice Am x.QA.length cm] 65)) (.cells #[.int .u64 x.Q7,.int .u64 x.size,.int .i64 x.pos] 172));simpa using this
  case c2=>simp;omega
  intro g cap w1 hown1 hgrow hat hlt3;have hkA:aD (fun k=>u2.ownBlock=some k) wr w1:=(((aD.refl _ _).alloc _).alloc _).trans (aD.of_grown hgrow (S:=fun k=>u2.ownBlock=some k) (fun k h=>h)) (fun _ _ h=>h);have hlo:=hown.lt;have hLn:=HL.out.grown hown χ ψ hkA;have hKn:aD (fun k=>k=pb) w w1:=HK.out.trans hkA (fun i hi h=>by have:=(hlo i h).1;have:=HZ.out;omega);have hbx:w1.heap[wr.heap.size]?=some (.cells #[.int .i64 x.pos,.string x.name,.int .u64 x.Q7,.int .u64 x.size,.slice Am x.QA.length cm] 65 (0,0)):=by
   have e1:=(aD.of_grown hgrow (S:=fun k=>u2.ownBlock=some k) (fun k h=>h)).block wr.heap.size η (fun h=>by have:=(hlo _ h).2;omega);refine e1.trans (((((aD.refl (fun _=>False) _).alloc _).block wr.heap.size ξ (fun h=>h))).trans (heap_alloc_new _ _))
  have r0:w1.cell? ⟨wr.heap.size,0,none⟩=some (.int .i64 x.pos):=by rw[cell_of_row _ _ _ _ _ _ hbx];rfl
  have r3:w1.cell? ⟨wr.heap.size,3,none⟩=some (.int .u64 x.size):=by rw[cell_of_row _ _ _ _ _ _ hbx];rfl
  have HLN:=Lib.hid hLn;have HKN:=Lib.hid hKn;have HO1:=Lib.hid hown1;clear hLn hKn hbx hkA hgrow hown hown1 q0 q1 q2 q3 q4
  go_wp2_with fail
  all_goals
   refine(aT _ x.pos 1 32 HLN.out rfl).mono ?_;rintro e w2 ⟨rfl,hL3,hk3⟩;have HL3:=Lib.hid hL3;have HK3:=Lib.hid hk3;clear hL3 hk3
   go_wp2
   go_roundw
   case rel =>
    refine⟨n+1,χ,by go_num,?_,?_,HKN.out.trans HK3.out (fun _ _ e=>e)⟩
    ·rw[aP HX.out,List.map_append,←List.append_assoc]
     refine aN (by rw[List.map_cons,List.map_nil,fh];have:=HO1.out;simp only[←List.map_take]at this;exact this) HK3.out (fun k hk e=>?_);subst e;have:=(HO1.out.lt _ hk).1;omega
    ·refine HL3.out.congr fun p=>?_
     rw[aP HX.out];have hd:decide ((x.size:Int)≤1048576)=decide (x.size≤1048576):=decide_eq_decide.2 χ;simp only[hd,List.mem_append,List.flatMap_append,List.flatMap_cons,List.flatMap_nil,List.append_nil];constructor
     ·rintro(h|h|h)
      ·exact .inr (.inr h)
      ·exact .inl h
      ·exact .inr (.inl h)
     ·rintro(h|h|h)
      ·exact .inr (.inl h)
      ·exact .inr (.inr h)
      ·exact .inl h
   case measure=>simp[intOf];omega
 obtain rfl:n=P.Q5.length:=χ
 rw[List.take_length]at hown hL;have hpl:P.QF.length+P.Q5.length=P.parts.length:=by simp[aF.parts]
 have hpe:P.QF.map rA++P.Q5.map wk=P.parts:=rfl;rw[hpl,hpe]at hown;obtain⟨wo,hwo⟩:∃u:World,u=wr:=⟨_,rfl⟩;rw[←hwo]at hk hown hL⊢;have hlen:P.parts.length≤8388608:=by rw[←hpl];omega
 have hpz2:pb<z:=hpz;have hPa:fE wo pb u2 P.parts:=fS hown (sH h.QT) hlen hpz;obtain⟨Au,cu,rfl,hcu,_,hlu⟩:=hPa;have HPa:Hid (fE wo pb (.slice Au P.parts.length cu) P.parts):=fS hown (sH h.QT) hlen hpz;have HL:=Lib.hid hL;have HK:=Lib.hid hk;clear hwo wr hlt2 hn hl1 hown hL hk hpe hpl
 go_wp2
 go_loopw [73] (fun i wr=>∃n:Nat,n≤P.parts.length∧i=.int .i64 n∧aG B wr pb v P pT ((P.parts.take n).flatMap sI++(d6 0 P.QF++P.Q5.flatMap fun x=>say (decide (x.size≤1048576)) x.pos 1))∧aD (fun k=>k=pb) wo wr) (fun i _=>P.parts.length-(intOf i).toNat)
 case atStart=>exact⟨0,Nat.zero_le _,rfl,by simpa using HL.out,aD.refl _ _⟩
 case round =>
 clear HL;obtain⟨n,hn,rfl,hL,hk⟩:=hrel
 by_cases hlt2:n<P.parts.length
 ·obtain⟨bl,off,rfl,hbl,hbp,hcs⟩:=hlu χ
  obtain⟨x,hx⟩:∃x,P.parts[n]?=some x:=⟨_,Ez hlt2⟩;obtain⟨hc,hok⟩:=hcs n x hx;have hc:=hc.keep hk hbl hbp;have q0:=hc.c0;have q1:=hc 1 _ rfl;have q2:=hc 2 _ rfl;have hsz:=hk.size;have hblr:bl<wr.heap.size:=χ
  have hnc2:n≤cu:=χ
  obtain⟨hxa,hxs,_⟩:=hok;unfold lim at hxa hxs;have HX:=Lib.hid hx;have HL:=Lib.hid hL;have HKr:=Lib.hid hk;clear hx hL hk hc hcs
  go_upto_region 18 with fail
  obtain⟨wb,hwb⟩:∃u:World,u=wr.alloc (Obj.cells #[.int .u64 x.Q7,.int .u64 x.size,.int .i64 x.pos] 172):=⟨_,rfl⟩;rw[←hwb];obtain⟨zb,hzb⟩:∃u,u=wr.heap.size:=⟨_,rfl⟩;rw[←hzb];have hb0:wb.heap[zb]?=some (.cells #[.int .u64 x.Q7,.int .u64 x.size,.int .i64 x.pos] 172 (0,0)):=by rw[hwb,hzb];exact heap_alloc_new _ _
  have hLb:=HL.out.new (w':=wb) (by rw[hwb];exact(aD.refl _ _).alloc _);have hKb:aD (fun k=>k=pb) wo wb:=by rw[hwb];exact HKr.out.alloc _
  have hzp:zb≠pb:=by have:=HKr.out.size;have:=HK.out.size;omega
  have b0:wb.cell? ⟨zb,0,none⟩=some (.int .u64 x.Q7):=by rw[cell_of_row _ _ _ _ _ _ hb0];rfl
  have b1:wb.cell? ⟨zb,1,none⟩=some (.int .u64 x.size):=by rw[cell_of_row _ _ _ _ _ _ hb0];rfl
  have b2:wb.cell? ⟨zb,2,none⟩=some (.int .i64 x.pos):=by rw[cell_of_row _ _ _ _ _ _ hb0];rfl
  have HB0:=Lib.hid hb0;have HLB:=Lib.hid hLb;have HKB:=Lib.hid hKb;clear hwb hzb hb0 hLb hKb HL HKr q0 q1 q2;have HPG:=Lib.hid (C1 hxa hxs)
  go_wp2_with fail
  rw[HPG.out];refine(aT _ x.pos 0 33 HLB.out rfl).mono ?_;rintro e w3 ⟨rfl,hL3,hk3⟩;have hb3:=(hk3.block zb (aH HB0.out) hzp).trans HB0.out;have c1:w3.cell? ⟨zb,1,none⟩=some (.int .u64 x.size):=by rw[cell_of_row _ _ _ _ _ _ hb3];rfl
  have c2:w3.cell? ⟨zb,2,none⟩=some (.int .i64 x.pos):=by rw[cell_of_row _ _ _ _ _ _ hb3];rfl
  have HL3:=Lib.hid hL3;have HK3:=Lib.hid (HKB.out.trans hk3 (fun _ _ e=>e));have HB3:=Lib.hid hb3;clear hL3 hk3 hb3 b0 b1 b2 HLB HKB HB0 HPG
  go_wp2_with fail
  refine(aT _ x.pos 1 32 HL3.out rfl).mono ?_;rintro e w4 ⟨rfl,hL4,hk4⟩;have hb4:=(hk4.block zb (aH HB3.out) hzp).trans HB3.out;have d0:w4.cell? ⟨zb,0,none⟩=some (.int .u64 x.Q7):=by rw[cell_of_row _ _ _ _ _ _ hb4];rfl
  have d1:w4.cell? ⟨zb,1,none⟩=some (.int .u64 x.size):=by rw[cell_of_row _ _ _ _ _ _ hb4];rfl
  have d2:w4.cell? ⟨zb,2,none⟩=some (.int .i64 x.pos):=by rw[cell_of_row _ _ _ _ _ _ hb4];rfl
  have HL4:=Lib.hid hL4;have HK4:=Lib.hid (HK3.out.trans hk4 (fun _ _ e=>e));have hzr:=aH hb4;have HC:Hid (∀w',aD (fun i=>i=pb) w4 w'→w'.cell? ⟨zb,0,none⟩=some (.int .u64 x.Q7)∧w'.cell? ⟨zb,1,none⟩=some (.int .u64 x.size)∧w'.cell? ⟨zb,2,none⟩=some (.int .i64 x.pos)):=fun w' hk =>
   ⟨(hk.cell (p:=⟨zb,0,none⟩) hzr hzp).trans d0,(hk.cell (p:=⟨zb,1,none⟩) hzr hzp).trans d1,(hk.cell (p:=⟨zb,2,none⟩) hzr hzp).trans d2⟩
  have HLd:=Lib.hid (hL4.new ((aD.refl _ w4).drew));clear hL4 hk4 hb4 c1 c2 HL3 HK3 HB3
  go_wp2_with fail
  go_region_held3 (fun w'=>w'.cell? ⟨zb,0,none⟩=some (.int .u64 x.Q7)∧w'.cell? ⟨zb,1,none⟩=some (.int .u64 x.size)∧w'.cell? ⟨zb,2,none⟩=some (.int .i64 x.pos))
   (first|exact HC.out _ ((aD.refl _ w4).drew)|exact HC.out _ (((aD.refl _ w4).drew).trans (by assumption) (fun _ _ e=>e)))
   (first
    | (go_at_call 96;refine(jt x.Q7 x.size 4294967296 _ hxa hxs χ).mono ?_;rintro e w2 ⟨rfl,rfl⟩)
    | (go_at_call 71;refine(aT _ _ 2 34 HLd.out rfl).mono ?_;rintro e w2 ⟨rfl,hL5,hk5⟩))
  have HL5:=Lib.hid hL5;have HK5:=Lib.hid hk5;clear hL5 hk5
  go_wp2
  go_roundw
  case rel =>
   refine⟨n+1,χ,by go_num,HL5.out.congr fun p=>?_,HK4.out.trans (((aD.refl _ _).drew).trans HK5.out (fun _ _ e=>e)) (fun _ _ e=>e)⟩;rw[aP HX.out];have hd:decide ((0:Int)<(x.size:Int))=decide (0<x.size):=decide_eq_decide.2 χ;simp only[hd,sI,List.mem_append,List.flatMap_append,List.flatMap_cons,List.flatMap_nil,List.append_nil];constructor
   ·rintro(h|h|h|h)
    ·exact .inl (.inr (.inr h))
    ·exact .inl (.inr (.inl (.inr h)))
    ·exact .inl (.inr (.inl (.inl h)))
    ·rcases h with h|h
     ·exact .inl (.inl h)
     ·exact .inr h
   ·rintro((h|(h|h)|h)|h)
    ·exact .inr (.inr (.inr (.inl h)))
    ·exact .inr (.inr (.inl h))
    ·exact .inr (.inl h)
    ·exact .inl h
    ·exact .inr (.inr (.inr (.inr h)))
  case measure=>simp[intOf];omega
 ·obtain rfl:n=P.parts.length:=χ
  rw[List.take_length]at hL;have HL2:=Lib.hid hL;have HK2:=Lib.hid hk;clear hL;have hP2:fE wr pb (.slice Au P.parts.length cu) P.parts:=HPa.out.keep hk;clear hk
  go_wp2_with fail
  refine(mX HL2.out hP2 3 rfl).mono ?_;rintro e w2 ⟨rfl,hL3,hk3⟩;have HL3:=Lib.hid hL3;have HK3:=Lib.hid hk3;clear hL3 hk3
  go_wp2
  go_end0
  refine⟨rfl,HL3.out.congr fun p=>?_,(HK.out.trans HK2.out (fun _ _ e=>e)).trans HK3.out (fun _ _ e=>e)⟩;simp only[vh,List.mem_append];constructor
  ·rintro(h|h|h|h)
   ·exact .inr h
   ·exact .inl (.inr h)
   ·exact .inl (.inl (.inl h))
   ·exact .inl (.inl (.inr h))
  ·rintro(((h|h)|h)|h)
   ·exact .inr (.inr (.inl h))
   ·exact .inr (.inr (.inr h))
   ·exact .inr (.inl h)
   ·exact .inl h
def spC(l:List Sp):List Value:=l.flatMap dV
theorem jJ(l:List Sp)(x:Sp):spC (l++[x])=spC l++dV x:=by simp[spC]
theorem jl(l:List Sp):(spC l).length=l.length*2:=by
 induction l with
 | nil=>rfl
 | cons x t ih=>simp only[spC,List.flatMap_cons,List.length_append]at ih⊢; rw[ih];simp[dV];omega
theorem ns:∀(l:List Sp) (i:Nat) (s:Sp),l[i]?=some s→(spC l)[i*2]?=some (.int .u64 s.1)∧(spC l)[i*2+1]?=some (.int .u64 s.2)
 | [],_,_,h=>by simp at h
 | x::t,0,s,h=>by
  have:x=s:=by simpa using h
  subst this;exact⟨rfl,rfl⟩
 | x::t,i+1,s,h=>by
  obtain⟨d,g⟩:=ns t i s (by simpa using h);have e:spC (x::t)=.int .u64 x.1 :: .int .u64 x.2::spC t:=rfl;rw[e];refine⟨?_,?_⟩
  ·rw[show(i+1)*2=i*2+1+1 by omega];simpa using d
  ·rw[show(i+1)*2+1=i*2+1+1+1 by omega];simpa using g
theorem Tryz.info125:(Tryz.prog.info? 125).map (fun i=>(i.zero,i.size,i.bytes))=some (some (.agg #[.int .u64 0,.int .u64 0]),2,16):=δ
theorem mW{P:Program}(L:P=Tryz.prog){ops:Array Oper}{rest:List Oper}{o:Oper}{a:Act}{Q:Exit→Act→World→Prop}(B:o.guard=none){s x:Operand}
 (O:o.op=.call { callee := .builtin .append,args := #[s,x],argTypes := #[117,117] }){Z:Nat}{u:Value}{l:List Sp}(R:a.eval s=u)(y:w.ownsRow Z 125 2 u l.length (spC l))(Y:l.length≤8388608)
 {blk:Nat}{p:Sp}(U:a.eval x=.slice (some ⟨blk,0,none⟩) 1 1)(c0:w.cell? ⟨blk,0,none⟩=some (.int .u64 p.1))(c1:w.cell? ⟨blk,1,none⟩=some (.int .u64 p.2))(N:Z≤w.heap.size)
 (h:∀H w',w'.ownsRow Z 125 2 H (l.length+1) (spC (l++[p]))→aD (fun k=>u.ownBlock=some k) w w'→wpList P ops Q rest (a.put o.dst H) w'):wpList P ops Q (o::rest) a w:=by
 subst L;obtain⟨V,hi,C,D,E⟩:=info_parts Tryz.info125;have q:∀j,(⟨blk,0,none⟩:Addr).add j=⟨blk,j,none⟩:=fun j=>by unfold Addr.add;split<;>simp_all
 refine wpList_append_lies w B s x 117 O Z 125 V (.agg #[.int .u64 0,.int .u64 0]) 2 16 Tryz.underlying117 hi C D E rfl χ u l.length (spC l) R y ⟨blk,0,none⟩ 1 1 (dV p) U rfl (fun j v d=>?_) ?_ χ (by unfold maxLen;omega) χ N w.heap.size rfl ?_
 ·rw[q]
  match j,d with
  | 0,d=>cases d;exact c0
  | 1,d=>cases d;exact c1
  | j+2,d=>simp[dV]at d
 ·simp[dV,Value.oneCell']
 ·intro g I w' J K W X
  refine h _ w' ?_ (aD.of_grown K (fun k e=>e));rw[jJ];exact J
theorem dQ{Z:Nat}{l:List Sp}(h:w.ownsRow Z 125 2 u l.length (spC l))(y:l.length≤4194304)(K:pb<Z)(C:∀s∈l,s.1<lim∧s.2<lim):aK w pb u l:=by
 rcases Nat.eq_zero_or_pos l.length with x|x
 ·rcases h.2 with⟨d,_⟩|⟨g,j,v,d,_,_,q,_⟩
  ·exact⟨none,0,by rw[d,x],χ,y,fun h=>χ⟩
  ·exact⟨_,_,d,q,y,fun h=>χ⟩
 ·obtain⟨g,j,L,O,B⟩:=h.form x
  subst L;have q:l.length≤j:=by
   rcases h.2 with⟨d,_⟩|⟨N,E,v,d,_,_,q,_⟩
   ·cases d
   ·cases d;exact q
  refine⟨_,_,rfl,q,y,fun _=>⟨g,rfl,B,χ,fun i s D=>?_⟩⟩;obtain⟨H,I⟩:=ns l i s D;have J:=(List.getElem?_eq_some_iff.1 D).1;exact⟨(h.cellAt _ χ).trans H,(h.cellAt _ χ).trans I,C s (List.mem_of_getElem? D)⟩
def dN(l:List Sp):List Sp:=l.filter fun s=>decide (s.1≤s.2)
theorem mo(l:List Sp)(x:Sp):dN (l++[x])=if x.1≤x.2 then dN l++[x]else dN l:=by
 unfold dN;rw[List.filter_append]
 by_cases h:x.1≤x.2<;>simp[h]
theorem oY(l:List Sp):(dN l).length≤l.length:=List.length_filter_le _ _
theorem yE{A:Option Addr}{xs:List Sp}(hu:aK w pb (.slice A xs.length c) xs)(cj:pb<w.heap.size)(a:Act)(bs:a.tmps.size=80)(h0:At a 0 (.slice A xs.length c))(h3:At a 3 (.slice none 0 0))(Q:Exit→Act→World→Prop)
 (hQ:∀a' w' u',aE (fun i=>i==3||i==5||(rg 10 23 i)) a a'→At a' 3 u'→w'.ownsRow w.heap.size 125 2 u' (dN xs).length (spC (dN xs))→Kz w w'→Q .normal a' w'):
 (b9 Tryz.f111 [1,1,0]).wp Tryz.prog Q a w:=by
 obtain⟨_,_,e,hc,b4,y⟩:=hu
 cases e
 conv=>arg 2;whnf
 refine so (fun H w1=>aE (fun i=>i==10||i==11||i==12) a H∧At H 10 (.slice A xs.length c)∧At H 11 (.int .i64 xs.length)∧At H 12 (.int .i64 0)∧w1=w) ?_ ?_
 ·clear y
  obtain⟨T,d⟩:=a;refine rl ?_
  iterate 3 with_reducible refine st ?_
  with_reducible refine ln ?_
  refine⟨rfl,ag,aq,aq,aq,rfl⟩
 rintro a0 w0 ⟨ac,b2,b1,bz,rfl⟩;have a6:=ac.size.trans bs;replace h3:=ac.Q7 h3 rfl;obtain⟨Z,hZ⟩:∃z,z=w0.heap.size:=⟨_,rfl⟩;rw[←hZ]at hQ;have HZ:=hh hZ;have cm:pb<Z:=χ
 clear hZ;refine bh xs.length (fun i=>i==3||i==5||(rg 12 23 i)) (fun i=>i==3||i==5||(rg 14 22 i)) (fun k a' w'=>∃u,At a' 3 u∧w'.ownsRow Z 125 2 u (dN (xs.take k)).length (spC (dN (xs.take k)))∧Kz w0 w') χ bz b1 ψ rfl
  ζ χ ψ (fun k H a2 w Y ⟨u,h1,h2⟩=>⟨u,Y.Q7 h1 rfl,h2⟩) ⟨_,h3,by simpa[dN,spC]using World.ownsRow_nil _ _ _ _,aD.refl _ _⟩ ?_ ?_
 ·rintro k H wr bp Y b0 ⟨u,W,v,hk⟩
  obtain⟨g,rfl,hg,cc,a5⟩:=y χ;obtain⟨x,hx⟩:=ge bp;obtain⟨c1,c2,c3,c4⟩:=a5 k x hx;unfold lim at c3 c4;have q0:wr.cell? ⟨g,k*2,none⟩=some (.int .u64 x.1):=(hk.cell (p:=⟨g,k*2,none⟩) hg (fun h=>h)).trans c1;have q1:wr.cell? ⟨g,k*2+1,none⟩=some (.int .u64 x.2):=(hk.cell (p:=⟨g,k*2+1,none⟩) hg (fun h=>h)).trans c2;have bc:=Y.Q7 b2 rfl;have a7:=Y.size.trans a6;have ca:=hk.size;have cd:g<wr.heap.size:=χ
  have cf:k≤c:=χ
  have HX:=hh hx;have HO:=hh v;have HK:=hh hk;have HA:=hh Y;clear hx v hk Y a5 c1 c2 y;refine so (fun a2 w2=>aE (fun i=>i==14||i==15||i==5) H a2∧At a2 5 (.pointer (some ⟨wr.heap.size,0,none⟩))∧w2=wr.alloc (.cells #[.int .u64 x.1,.int .u64 x.2] 125)) ?_ ?_
  ·obtain⟨T,d⟩:=H
   refine rl ?_
   iterate 4 with_reducible refine st ?_
   with_reducible refine ln ?_
   refine⟨rfl,ag,aq,rfl⟩
  rintro a2 wo ⟨J,bb,U⟩;obtain⟨z,hz⟩:∃z,z=wr.heap.size:=⟨_,rfl⟩;rw[←hz]at bb;have V:aM wo z 0 [.int .u64 x.1,.int .u64 x.2]:=by rw[U,hz];exact aw _ _ _
  have a9:z<wo.heap.size:=by rw[U,hz];simp
  have O:Kz wr wo:=by rw[U];exact(aD.refl _ _).alloc _
  have a8:=J.size.trans a7;have bt:=J.Q7 W rfl;have an:=hh (aN HO.out O (fun _ _ h=>h));have al:=hh (HK.out.trans O (fun _ _ h=>h));have b5:=O.size;have bd:Hid (aE (fun i=>i==3||i==5||(rg 14 22 i)) H a2):=J.m;clear U hz O HO HK J q0 q1 bc W b0;refine so (fun a3 w3=>aE (fun i=>i==16||i==17||i==18) a2 a3∧At a3 18 (.bool (!decide (x.2<x.1)))∧Kz wo w3) ?_ ?_
  ·have q0:=V.c0
   have q1:=V 1 _ rfl;obtain⟨t,ht⟩:∃t,t=decide (x.2<x.1):=⟨_,rfl⟩;rw[←ht];have hc:=sM x.1 x.2 wo;rw[←ht]at hc;have HC:=hh hc;clear hc ht;obtain⟨T,d⟩:=a2;refine rl ?_;with_reducible refine st ?_;refine Lz (fun K hK=>?_)
   go_simp;refine HC.out.mono ?_;rintro e w3 ⟨rfl,q⟩;with_reducible refine hK _ _ ?_;clear hK K
   have B:=hh q;clear q;with_reducible refine st ?_;refine ln ?_
   refine⟨rfl,ag,aq,B.out⟩
  rintro a3 w3 ⟨D,bw,q⟩;have aa:=D.size.trans a8;have C:=bw.eval χ;have b3:=D.Q7 bt rfl;have cs:=D.Q7 bb rfl;have af:=V.keep q a9 (fun h=>h);have cp:z<w3.heap.size:=Nat.lt_of_lt_of_le a9 q.size;have I:=hh (aN an.out q (fun _ _ h=>h));have B:=hh (al.out.trans q (fun _ _ h=>h));have X:Hid (aE (fun i=>i==3||i==5||(rg 14 22 i)) H a3):=bd.out.t D;have bo:(dN (xs.take k)).length≤4194304:=by have:=oY (xs.take k);rw[List.length_take]at this;omega
  clear D q an al V
  by_cases hxx:x.2<x.1
  ·rw[decide_eq_true hxx]at C
   refine wp_cond_false C (wp_skip ?_);refine⟨X.out,u,b3,?_,B.out⟩;rw[aP HX.out,mo,if_neg χ];exact I.out
  ·rw[decide_eq_false hxx]at C
   refine wp_cond_true C ?_;refine Code.wp_only (R:=fun a4 w4=>aE (fun i=>i==3||(rg 19 22 i)) a3 a4∧(∃u',At a4 3 u'∧w4.ownsRow Z 125 2 u' ((dN (xs.take k)).length+1) (spC (dN (xs.take k)++[x])))∧Kz w0 w4) ?_ ?_
   ·have q0:=af.c0
    have q1:=af 1 _ rfl;obtain⟨l,hl⟩:∃l,l=dN (xs.take k):=⟨_,rfl⟩;rw[←hl]at I bo⊢;have cb:=hh hl;clear hl af C;obtain⟨T,d⟩:=a3;refine rl ?_
    iterate 3 with_reducible refine st ?_
    have hb:=aw w3 [.int .u64 x.1,.int .u64 x.2] 125;have N:Kz w3 (w3.alloc (.cells #[.int .u64 x.1,.int .u64 x.2] 125)):=(aD.refl _ _).alloc _;have bf:=hh (aN I.out N (fun _ _ h=>h));refine mW rfl rfl rfl (At.eval (by exact aq) (by have:=aa;simp at this⊢; omega)) bf.out χ (At.eval (by exact aq) (by have:=aa;simp at this⊢; omega)) hb.c0 (hb 1 _ rfl) (by have:=HZ.out;have:=N.size;have:=B.out.size;omega) ?_;intro u2 w4 E L;have bl:=hh E;have be:Hid (Kz w0 w4):=(B.out.trans N (fun _ _ h=>h)).trans L (fun i hi h=>by have:=(I.out.lt i h).1;have:=HZ.out;omega);clear E L hb N;simp only[Act.put];with_reducible refine st ?_;refine ln ?_
    refine⟨rfl,ag,⟨u2,aq,bl.out⟩,be.out⟩
   rintro a4 w4 ⟨bm,⟨u',bx,ad⟩,L⟩;refine⟨X.out.t bm,u',bx,?_,L⟩;rw[aP HX.out,mo,if_pos χ,List.length_append];exact ad
 ·rintro a' w' Y ⟨u,W,v,hk⟩
  rw[List.take_length]at v;exact hQ _ _ _ ((ac.m).t Y) W v hk
theorem AC{Z:Nat}{l:List Sp}{x:Sp}(a:Act)(B:a.tmps.size=80)(O:At a 6 u)(U:At a 8 (.pointer (some ⟨z,0,none⟩)))(K:Hid (w.ownsRow Z 125 2 u l.length (spC l)))(W:l.length≤8388608)(V:Z≤w.heap.size)
 (X:w.cell? ⟨z,0,none⟩=some (.int .u64 x.1))(Y:w.cell? ⟨z,1,none⟩=some (.int .u64 x.2))(Q:Exit→Act→World→Prop)
 (L:∀I w' C,aE (fun i=>i==6||(rg 73 76 i)) a I→At I 6 C→w'.ownsRow Z 125 2 C (l.length+1) (spC (l++[x]))→aD (fun k=>Z≤k) w w'→Q .normal I w'):
 (b9 Tryz.f111 [1,1,1,1,1,0,1,0,0,1,1,0,0,1,1,1]).wp Tryz.prog Q a w:=by
 conv=>arg 2;whnf
 refine Code.wp_only (R:=fun D q=>aE (fun i=>i==6||(rg 73 76 i)) a D∧(∃C,At D 6 C∧q.ownsRow Z 125 2 C (l.length+1) (spC (l++[x])))∧aD (fun k=>Z≤k) w q) ?_ (fun D q h=>L D q h.2.1.choose h.1 h.2.1.choose_spec.1 h.2.1.choose_spec.2 h.2.2);clear L;obtain⟨T,d⟩:=a;refine rl ?_
 iterate 3 with_reducible refine st ?_
 have J:=aw w [.int .u64 x.1,.int .u64 x.2] 125;have j:Kz w (w.alloc (.cells #[.int .u64 x.1,.int .u64 x.2] 125)):=(aD.refl _ _).alloc _;have v:=hh (aN K.out j (fun _ _ h=>h));refine mW rfl rfl rfl (At.eval (by exact aq) (by have:=B;simp at this⊢; omega)) v.out χ (At.eval (by exact aq) (by have:=B;simp at this⊢; omega)) J.c0 (J 1 _ rfl) (by have:=j.size;omega) ?_;intro N q g y;have H:=hh g;have E:Hid (aD (fun k=>Z≤k) w q):=(j.mono fun _ _ h=>h.elim).trans y (fun i hi h=>(K.out.lt i h).1);clear g y J j v;simp only[Act.put];with_reducible refine st ?_;refine ln ?_
 refine⟨rfl,ag,⟨N,aq,H.out⟩,E.out⟩
theorem AF(a:Act)(v:a.tmps.size=80)(y:At a 9 (.int .i64 (0:Nat)))(Q:Exit→Act→World→Prop)(j:∀g,aE (fun i=>(rg 34 58 i)) a g→At g 58 (.bool false)→Q .normal g w.drew):
 (b9 Tryz.f111 [1,1,1,1,1,0,1,0,0,1,1,0,0,1,1,0,0]).wp Tryz.prog Q a w:=by
 conv=>arg 2;whnf
 refine Code.wp_only (R:=fun g w'=>aE (fun i=>(rg 34 58 i)) a g∧At g 58 (.bool false)∧w'=w.drew) ?_ (fun l B h=>by obtain⟨q,u,rfl⟩:=h;exact j l q u);clear j;have x:=aX;obtain⟨T,d⟩:=a;refine wp_region_still_lit δ δ ?_
 iterate 25 with_reducible refine sl ?_
 with_reducible refine wpStill_nil ?_
 refine⟨rfl,ag,aq,rfl⟩
theorem AE{g m:Nat}{x y:Sp}(a:Act)(J:a.tmps.size=80)(Y:m+1≤c)(I:m≤8388608)(O:x.1<lim)(U:y.2<lim)(V:At a 6 (.slice (some ⟨g,0,none⟩) (m+1) c))(W:At a 8 (.pointer (some ⟨z,0,none⟩)))(X:At a 9 (.int .i64 ((m+1:Nat):Int)))
 (Z:w.cell? ⟨z,0,none⟩=some (.int .u64 x.1))(q1:w.cell? ⟨g,m*2+1,none⟩=some (.int .u64 y.2))(Q:Exit→Act→World→Prop)(u:∀j,aE (fun i=>(rg 34 58 i)) a j→At j 58 (.bool (decide (x.1≤y.2+1)))→Q .normal j w.drew):
 (b9 Tryz.f111 [1,1,1,1,1,0,1,0,0,1,1,0,0,1,1,0,0]).wp Tryz.prog Q a w:=by
 unfold lim at O U
 conv=>arg 2;whnf
 refine Code.wp_only (R:=fun j w'=>aE (fun i=>(rg 34 58 i)) a j∧At j 58 (.bool (decide (x.1≤y.2+1)))∧w'=w.drew) ?_ (fun v w4 h=>by obtain⟨D,E,rfl⟩:=h;exact u v D E);clear u;have K:=aX;have L:IntKind.i64.wrap (((m+1:Nat):Int)-1)=(m:Int):=by rw[show((m+1:Nat):Int)-1=m by omega];exact i64_in _ χ
 have N:IntKind.i64.wrap (m:Int)=(m:Int):=i64_in _ χ;obtain⟨b1,B⟩:∃t,decide (x.1≤y.2)=t:=⟨_,rfl⟩;obtain⟨b2,C⟩:∃t,((x.1:Int)==IntKind.u64.wrap ((y.2:Int)+1))=t:=⟨_,rfl⟩;obtain⟨l,e3⟩:∃t,decide (x.1≤y.2+1)=t:=⟨_,rfl⟩;have q:Hid (l=(b1||b2)):=by
  refine hh ?_;rw[←B,←C,←e3,jq,IntKind.wrap_u64,Bool.eq_iff_iff];simp only[Bool.or_eq_true,decide_eq_true_eq];omega
 rw[e3];clear e3;have H:(m:Int)<(m:Int)+1:=χ
 obtain⟨T,d⟩:=a;refine wp_region_still_lit δ δ ?_
 cases b1
 ·skip
  iterate 25 with_reducible refine sl ?_
  with_reducible refine wpStill_nil ?_
  refine⟨rfl,?_,?_,rfl⟩
  ·exact ag
  ·rw[show l=b2 from q.out]
   exact aq
 ·skip
  iterate 25 with_reducible refine sl ?_
  with_reducible refine wpStill_nil ?_
  refine⟨rfl,?_,?_,rfl⟩
  ·exact ag
  ·rw[show l=true from q.out]
   exact aq
theorem DX{g m:Nat}{x y:Sp}(a:Act)(C:a.tmps.size=80)(K:m+1≤c)(B:m≤8388608)(H:At a 6 (.slice (some ⟨g,0,none⟩) (m+1) c))(I:At a 8 (.pointer (some ⟨z,0,none⟩)))(J:At a 9 (.int .i64 ((m+1:Nat):Int)))
 (L:w.cell? ⟨z,1,none⟩=some (.int .u64 x.2))(N:w.cell? ⟨g,m*2+1,none⟩=some (.int .u64 y.2))(O:w.frozen? ⟨g,m*2+1,none⟩=false)(Q:Exit→Act→World→Prop)(l:∀j,aE (fun i=>(rg 59 72 i)) a j→Q .normal j (w.setCell ⟨g,m*2+1,none⟩ (.int .u64 (max y.2 x.2:Nat))).drew):
 (b9 Tryz.f111 [1,1,1,1,1,0,1,0,0,1,1,0,0,1,1,0,1,0,0]).wp Tryz.prog Q a w:=by
 conv=>arg 2;whnf
 refine Code.wp_only (R:=fun j w'=>aE (fun i=>(rg 59 72 i)) a j∧w'=(w.setCell ⟨g,m*2+1,none⟩ (.int .u64 (max y.2 x.2:Nat))).drew) ?_ (fun q U h=>by obtain⟨u,rfl⟩:=h;exact l q u);clear l;have D:IntKind.i64.wrap (((m+1:Nat):Int)-1)=(m:Int):=by rw[show((m+1:Nat):Int)-1=m by omega];exact i64_in _ χ
 have E:IntKind.i64.wrap (m:Int)=(m:Int):=i64_in _ χ;have v:(m:Int)<(m:Int)+1:=χ
 obtain⟨T,d⟩:=a;refine wp_region_still_tail 14 δ δ ?_;simp only[List.take_succ_cons,List.take_zero,List.drop_succ_cons,List.drop_zero]
 iterate 14 with_reducible refine sl ?_
 with_reducible refine wpStill_nil ?_;refine st ?_;refine ln ?_
 refine⟨rfl,?_,?_⟩
 ·exact ag
 ·rw[show(if y.2<x.2 then(x.2:Int)else(y.2:Int))=((max y.2 x.2:Nat):Int) by split<;>omega]
theorem pf(out:List Sp)(x:Sp):(cO out x).length≤out.length+1:=by
 unfold cO;split
 ·simp
 ·rename_i y d
  have g:out≠[]:=by intro e;rw[e]at d;simp at d
  have:=List.length_pos_iff.2 g;split
  ·simp;try omega
  ·simp
theorem iS(l:List Sp):∀n:Nat,n≤l.length→(ah (l.take n)).length≤n
 | 0,_=>by simp[ah]
 | n+1,h=>by
  have d:=iS l n χ;rw[List.take_succ_eq_append_getElem χ,fB];have:=pf (ah (l.take n)) l[n];omega
theorem pc{out:List Sp}{x:Sp}(h:∀s∈out,s.1<lim∧s.2<lim)(j:x.1<lim∧x.2<lim):∀s∈cO out x,s.1<lim∧s.2<lim:=by
 unfold cO;split
 ·simpa using j
 ·rename_i y l
  have g:=h y (List.mem_of_getLast? l);split
  ·intro s d
   rcases List.mem_append.1 d with d|d
   ·exact h s (List.dropLast_subset _ d)
   ·have:s=(y.1,max y.2 x.2):=by simpa using d
    subst this;exact⟨g.1,by show max y.2 x.2<lim;omega⟩
  ·intro s d
   rcases List.mem_append.1 d with d|d
   ·exact h s d
   ·have:s=x:=by simpa using d
    subst this;exact j
theorem iR:∀(n:Nat) (l:List Sp),l.length=n→(∀s∈l,s.1<lim∧s.2<lim)→∀s∈ah l,s.1<lim∧s.2<lim
 | 0,l,hl,_=>by
  have:l=[]:=List.length_eq_zero_iff.1 hl;subst this;simp[ah]
 | n+1,l,hl,h=>by
  obtain⟨t,x,rfl⟩:∃t x,l=t++[x]:=by
   have d:l≠[]:=by intro e;rw[e]at hl;simp at hl
   exact⟨l.dropLast,l.getLast d,(List.dropLast_concat_getLast d).symm⟩
  rw[fB];exact pc (iR n t (by simpa using hl) fun s g=>h s (by simp[g])) (h x ξ)
theorem DK(t:List Sp)(y:Sp)(v:Nat):(spC (t++[y])).set (t.length*2+1) (.int .u64 v)=spC (t++[(y.1,v)]):=by
 rw[jJ,jJ,←jl,List.set_append_right _ _ χ]
 congr 1
 rw[show(spC t).length+1-(spC t).length=1 by omega];rfl
theorem AD{A:Option Addr}{xs:List Sp}(hu:aK w pb (.slice A xs.length c) xs)(c8:pb<w.heap.size)(a8:∀s∈xs,s.1<lim∧s.2<lim)(a:Act)(cb:a.tmps.size=80)(h3:At a 3 (.slice A xs.length c))(h6:At a 6 (.slice none 0 0))(Q:Exit→Act→World→Prop)
 (hQ:∀a' w' u',aE (fun i=>i==6||i==8||i==9||(rg 26 77 i)) a a'→At a' 6 u'→w'.ownsRow w.heap.size 125 2 u' (ah xs).length (spC (ah xs))→Kz w w'→Q .normal a' w'):
 (b9 Tryz.f111 [1,1,1,1,1,0]).wp Tryz.prog Q a w:=by
 obtain⟨_,_,e,hc,cv,B⟩:=hu
 cases e
 conv=>arg 2;whnf
 refine so (fun O w1=>aE (fun i=>i==26||i==27||i==28) a O∧At O 26 (.slice A xs.length c)∧At O 27 (.int .i64 xs.length)∧At O 28 (.int .i64 0)∧w1=w) ?_ ?_
 ·clear B
  obtain⟨T,d⟩:=a;refine rl ?_
  iterate 3 with_reducible refine st ?_
  with_reducible refine ln ?_
  refine⟨rfl,ag,aq,aq,aq,rfl⟩
 rintro a0 w0 ⟨a9,cp,cm,cf,rfl⟩;have bx:=a9.size.trans cb;replace h6:=a9.Q7 h6 rfl;obtain⟨Z,hZ⟩:∃z,z=w0.heap.size:=⟨_,rfl⟩;rw[←hZ]at hQ;have HZ:=hh hZ;have c9:pb<Z:=χ
 have bf:=hh a8;clear hZ a8;refine bh xs.length (fun i=>i==6||i==8||i==9||(rg 28 77 i)) (fun i=>i==6||i==8||i==9||(rg 30 76 i)) (fun k a' w'=>∃u,At a' 6 u∧w'.ownsRow Z 125 2 u (ah (xs.take k)).length (spC (ah (xs.take k)))∧Kz w0 w') χ cf cm ψ rfl
  ζ χ ψ (fun k O a2 w hA ⟨u,h1,h2⟩=>⟨u,hA.Q7 h1 rfl,h2⟩) ⟨_,h6,by simpa[ah,spC]using World.ownsRow_nil _ _ _ _,aD.refl _ _⟩ ?_ ?_
 ·rintro k O wr ca hA cj ⟨u,af,v,hk⟩
  obtain⟨g,rfl,hg,c5,bo⟩:=B χ;obtain⟨x,hx⟩:=ge ca;obtain⟨c1,c2,c3,c4⟩:=bo k x hx;have q0:wr.cell? ⟨g,k*2,none⟩=some (.int .u64 x.1):=(hk.cell (p:=⟨g,k*2,none⟩) hg (fun h=>h)).trans c1;have q1:wr.cell? ⟨g,k*2+1,none⟩=some (.int .u64 x.2):=(hk.cell (p:=⟨g,k*2+1,none⟩) hg (fun h=>h)).trans c2;have b3:=hA.Q7 cp rfl;have bz:=hA.size.trans bx;have cx:=hk.size;have c6:g<wr.heap.size:=χ
  have c7:k≤c:=χ
  have U:Hid (ah (xs.take (k+1))=cO (ah (xs.take k)) x):=by
   refine hh ?_;rw[aP hx,fB]
  have bt:=iS xs k χ;have bl:Hid (∀s∈ah (xs.take k),s.1<lim∧s.2<lim):=iR _ _ rfl fun s hs=>bf.out s (List.mem_of_mem_take hs)
  obtain⟨out,K⟩:∃l,l=ah (xs.take k):=⟨_,rfl⟩;rw[←K]at v U bt bl;have cy:=hh K;clear K;obtain⟨p,X,rfl⟩:∃p X,u=.slice p out.length X:=by
   rcases v.2 with⟨e1,e2⟩|⟨g,X,b5,e1,_⟩
   ·exact⟨_,_,by rw[e1,e2]⟩
   ·exact⟨_,_,e1⟩
  have HX:=hh hx;have HO:=hh v;have HK:=hh hk;have HA:=hh hA;have b4:=hh c3;clear hx v hk hA bo c1 c2 B c3 c4;refine so (fun a2 w2=>aE (fun i=>i==30||i==31||i==8) O a2∧At a2 8 (.pointer (some ⟨wr.heap.size,0,none⟩))∧w2=wr.alloc (.cells #[.int .u64 x.1,.int .u64 x.2] 125)) ?_ ?_
  ·obtain⟨T,d⟩:=O
   refine rl ?_
   iterate 4 with_reducible refine st ?_
   with_reducible refine ln ?_
   refine⟨rfl,ag,aq,rfl⟩
  rintro a2 wo ⟨aa,b2,ad⟩;obtain⟨z,hz⟩:∃z,z=wr.heap.size:=⟨_,rfl⟩;rw[←hz]at b2;have bc:aM wo z 0 [.int .u64 x.1,.int .u64 x.2]:=by rw[ad,hz];exact aw _ _ _
  have cc:z<wo.heap.size:=by rw[ad,hz];simp
  have ac:Kz wr wo:=by rw[ad];exact(aD.refl _ _).alloc _
  have b0:=aa.size.trans bz;have cd:=aa.Q7 af rfl;have V:=hh (aN HO.out ac (fun _ _ h=>h));have R:=hh (HK.out.trans ac (fun _ _ h=>h));have cw:=ac.size;have be:Hid (aE (fun i=>i==6||i==8||i==9||(rg 30 76 i)) O a2):=aa.m;clear ad hz ac HO HK aa q0 q1 b3 af cj;refine so (fun a3 w3=>aE (fun i=>i==32||i==33||i==9) a2 a3∧At a3 9 (.int .i64 (out.length:Nat))∧w3=wo) ?_ ?_
  ·clear bc
   obtain⟨T,d⟩:=a2;refine rl ?_
   iterate 3 with_reducible refine st ?_
   with_reducible refine ln ?_
   refine⟨rfl,ag,aq,rfl⟩
  rintro a3 w3 ⟨J,al,rfl⟩;have D:=J.size.trans b0;have an:=J.Q7 cd rfl;have a6:=J.Q7 b2 rfl;have I:Hid (aE (fun i=>i==6||i==8||i==9||(rg 30 76 i)) O a3):=be.out.t J;have L:=bc.keep (aD.drew (aD.refl (fun _=>False) w3)) cc (fun h=>h);have W:=hh (aN V.out (aD.drew (aD.refl (fun _=>False) w3)) (fun _ _ h=>h));have b1:Z≤w3.drew.heap.size:=by have:=HZ.out;have:=R.out.size;show Z≤w3.heap.size;omega
  clear J be;refine wp_seq (wp_seq ?_)
  cases hgl:out.getLast? with
  | none =>
   have bs:out=[]:=List.getLast?_eq_none_iff.1 hgl;subst bs;refine AF a3 D al _ (fun a4 q bd=>?_);have E:=q.size.trans D;refine wp_cond_false (bd.eval χ) (wp_skip ?_)
   repeat with_reducible apply bT
   refine AC a4 E (q.Q7 an rfl) (q.Q7 a6 rfl) W ξ b1 L.c0 (L 1 _ rfl) _ (fun a5 w5 u5 H k6 C bb=>?_);refine⟨(I.out.t q).t H,u5,k6,?_,(R.out.drew).trans bb (fun i h1 h2=>by have:=HZ.out;omega)⟩;rw[show ah (xs.take (k+1))=[x] from U.out];exact C
  | some y =>
   obtain⟨t,ht,hd⟩:=fq hgl;subst ht;have hY:=bl.out y ξ;have el:(t++[y]).length=t.length+1:=ξ
   rw[el]at al bt;obtain⟨g2,cu,hv,hB,bp⟩:=V.out.form ξ
   cases hv
   have a7:t.length+1≤X:=by
    rcases V.out.2 with⟨e1,_⟩|⟨g1,cs,b5,e1,_,_,bm,_⟩
    ·cases e1
    ·cases e1;rw[el]at bm;exact bm
   have N:=an;rw[el]at N;obtain⟨_,s2⟩:=ns (t++[y]) t.length y ξ;have q3:w3.cell? ⟨g2,t.length*2+1,none⟩=some (.int .u64 y.2):=(V.out.cellAt _ (by rw[el];omega)).trans s2;refine AE a3 D a7 χ b4.out hY.2 N a6 al bc.c0 q3 _ (fun a4 q bd=>?_);have E:=q.size.trans D;have Y:=bd.eval χ
   by_cases hxy:x.1≤y.2+1
   ·rw[decide_eq_true hxy]at Y
    refine wp_cond_true Y (wp_seq ?_);refine DX (w:=w3.drew) (x:=x) a4 E a7 χ (q.Q7 N rfl) (q.Q7 a6 rfl) (q.Q7 al rfl) (L 1 _ rfl) ((aD.cell (aD.drew (aD.refl (fun _=>False) w3)) bp (fun h=>h)).trans q3) (W.out.frozenAt _) _ (fun a5 H=>?_);refine wp_exit ?_
    repeat with_reducible apply fV
    simp only[bq,if_true];obtain⟨bw,dc⟩:=W.out.stored (t.length*2+1) (.int .u64 (max y.2 x.2:Nat));refine⟨(I.out.t q).t H,_,H.Q7 (q.Q7 an rfl) rfl,?_,?_⟩
    ·have e:ah (xs.take (k+1))=t++[(y.1,max y.2 x.2)]:=by
      rw[U.out];unfold cO;rw[hgl];simp only[if_pos hxy,hd]
     rw[DK]at bw;rw[e,show(t++[(y.1,max y.2 x.2)]).length=(t++[y]).length by simp];exact aN bw (aD.drew (aD.refl (fun _=>False) _)) (fun _ _ h=>h)
    ·refine aD.drew ((R.out.drew).setCell (fun h=>?_) _)
     have h:g2<w0.heap.size:=h;have:=HZ.out;omega
   ·rw[decide_eq_false hxy]at Y
    refine wp_cond_false Y (wp_skip ?_)
    repeat with_reducible apply bT
    refine AC a4 E (q.Q7 an rfl) (q.Q7 a6 rfl) W (by rw[el];omega) b1 L.c0 (L 1 _ rfl) _ (fun a5 w5 u5 H k6 C bb=>?_);refine⟨(I.out.t q).t H,u5,k6,?_,(R.out.drew).trans bb (fun i h1 h2=>by have:=HZ.out;omega)⟩;have e:ah (xs.take (k+1))=t++[y]++[x]:=by
     rw[U.out];unfold cO;rw[hgl];simp only[if_neg hxy]
    rw[e,show(t++[y]++[x]).length=(t++[y]).length+1 by simp];exact C
 ·rintro a' w' hA ⟨u,af,v,hk⟩
  rw[List.take_length]at v;exact hQ _ _ _ ((a9.m).t hA) af v hk
theorem oN{P:aF}{l:List cN}{x:cN}{p:Wr}:p∈gK P (l++[x])↔p∈gK P l∨(∃y∈l,p∈say (!decide (x.QN=y.QN)) (max x.pos y.pos) 1)∨p∈x.runs.flatMap (rq P x.needs):=by
 simp only[gK,List.mem_append,cq,List.flatMap_append,List.flatMap_cons,List.flatMap_nil,List.append_nil];constructor
 ·rintro((h|h)|(h|h))
  ·exact .inl (.inl h)
  ·exact .inr (.inl h)
  ·exact .inl (.inr h)
  ·exact .inr (.inr h)
 ·rintro((h|h)|(h|h))
  ·exact .inl (.inl h)
  ·exact .inr (.inl h)
  ·exact .inl (.inr h)
  ·exact .inr (.inr h)
theorem zZ{v:aY}{P:aF}{L:List Wr}(h:aG B w pb v P cV L){z0:Nat}{D:Nat→DataW Value}{r:Nat→ByteArray→Value}(hF:cz (z0+10) w (bG z0) (dC P) D r)
 (hpb:pb<z0){u:Value}{xs:List cN}(hs:aL B 4 (gY B) w u xs):
 Calls Tryz.prog 74 #[.pointer (some ⟨pb,0,none⟩),u,.agg (dY z0)] w fun e w'=>e=.returned (.tuple #[])∧aG B w' pb v P cV (gK P xs++L)∧aD (fun k=>k=pb) w w':=by
 obtain⟨A,c,rfl,hnc,hn0,hl⟩:=hs;unfold top at hn0;have hlt:=h.lt;have hBp:=h.base;unfold dY;have HF:=hh hF;clear hF
 go_enter Tryz.func74,Tryz.ntmps74
 go_wp2
 obtain⟨wb,hwb⟩:∃u:World,u=w.alloc (Obj.cells (dY z0) 139):=⟨_,rfl⟩;unfold dY at hwb;rw[←hwb];obtain⟨zb,hzb⟩:∃u:Nat,u=w.heap.size:=⟨_,rfl⟩;rw[←hzb];have hb0:wb.heap[zb]?=some (.cells (dY z0) 139 (0,0)):=by rw[hwb,hzb];exact heap_alloc_new _ _
 have hkb:aD (fun k=>k=pb) w wb:=by rw[hwb];exact(aD.refl _ _).alloc _
 have hLb:aG B wb pb v P cV L:=by rw[hwb];exact h.new ((aD.refl _ _).alloc _)
 have hzp:zb≠pb:=χ
 have HKb:=hh hkb;have HLb:=hh hLb;have HB0:=hh hb0;clear hwb hzb hb0 hkb hLb
 go_loopw [14] (fun i wr=>∃n:Nat,n≤xs.length∧i=.int .i64 n∧aG B wr pb v P cV (gK P (xs.take n)++L)∧aD (fun k=>k=pb) wb wr) (fun i _=>xs.length-(intOf i).toNat)
 case atStart=>exact⟨0,Nat.zero_le _,rfl,by simpa[gK,cY]using HLb.out,aD.refl _ _⟩
 case round =>
 obtain⟨n,hn,rfl,hL,hk⟩:=hrel
 by_cases hlt2:n<xs.length
 ·obtain⟨bl,off,rfl,hbl,hcs⟩:=hl χ
  obtain⟨x,hx⟩:=ge hlt2;have hkw:=HKb.out.trans hk (fun _ _ e=>e);obtain⟨ur,hc,hs1,hpos,hcpu⟩:=(dB B) _ _ _ _ _ (hkw.below (B:=B) χ (fun _ hi e=>χ)) hbl (hcs n x hx);have hs2:=hs1;obtain⟨Ar,cR,rfl,hrc,hrn,_⟩:=hs1;have q0:=hc.c0;have q1:=hc 1 _ rfl;have q2:=hc 2 _ rfl;have q3:=hc 3 _ rfl;have hsz:=hkw.size;have hblr:bl<wr.heap.size:=χ
  unfold lim at hcpu;unfold top at hrn;have HX:=hh hx;have HL:=hh hL;have HK:=hh hk;have HCS:=hh hcs;have HS2:=hh hs2;have hnc2:n≤c:=χ
  clear hx hL hk hkw hc hs2
  go_wp2
  obtain⟨wo,hwo⟩:∃wo:World,wo=wr.alloc (Obj.cells #[.int .i64 x.pos,.int .u64 x.QN,.bool x.needs,.slice Ar x.runs.length cR] 71):=⟨_,rfl⟩;rw[←hwo];obtain⟨z,hz⟩:∃z,z=wr.heap.size:=⟨_,rfl⟩;rw[←hz];have hx0:wo.heap[z]?=some (.cells #[.int .i64 x.pos,.int .u64 x.QN,.bool x.needs,.slice Ar x.runs.length cR] 71 (0,0)):=by rw[hwo,hz];exact heap_alloc_new _ _
  have hLo:aG B wo pb v P cV (gK P (xs.take n)++L):=by rw[hwo];exact HL.out.new ((aD.refl _ _).alloc _)
  have hKo:aD (fun k=>k=pb) wb wo:=by rw[hwo];exact HK.out.alloc _
  have hsro:aL B 4 kE wo (.slice Ar x.runs.length cR) x.runs:=HS2.out.below (aJ _ _ _) (by rw[hwo];exact((aD.refl (fun _=>False) _).alloc _).below χ (fun _ _ h=>h));have HSR:=hh hsro;have hzp2:z≠pb:=χ
  have HX0:=hh hx0;have HKo:=hh hKo;have HLo:=hh hLo;clear hwo hz hx0 hKo hLo q0 q1 q2 q3 HL HK hsro HS2
  go_loopw [23] (fun j wq=>∃k:Nat,k≤n∧j=.int .i64 k∧aG B wq pb v P cV ((xs.take k).flatMap (fun y=>say (!decide (x.QN=y.QN)) (max x.pos y.pos) 1)++(gK P (xs.take n)++L))∧aD (fun i=>i=pb) wo wq) (fun j _=>n-(intOf j).toNat)
  case atStart=>exact⟨0,Nat.zero_le _,rfl,HLo.out,aD.refl _ _⟩
  case round =>
  obtain⟨k,hkn,rfl,hL2,hk2⟩:=hrel;have hx2:=(hk2.block z (aH HX0.out) hzp2).trans HX0.out;have x0:wr.cell? ⟨z,0,none⟩=some (.int .i64 x.pos):=cr hx2 rfl;have x1:wr.cell? ⟨z,1,none⟩=some (.int .u64 x.QN):=cr hx2 rfl;have x3:wr.cell? ⟨z,3,none⟩=some (.slice Ar x.runs.length cR):=cr hx2 rfl;have hzr:z<wr.heap.size:=aH hx2
  by_cases hlt3:k<n
  ·obtain⟨y,hy⟩:∃y,xs[k]?=some y:=⟨_,Ez χ⟩
   have hkw:=(HKb.out.trans HKo.out (fun _ _ e=>e)).trans hk2 (fun _ _ e=>e);have hsz2:=hkw.size;obtain⟨uy,hc,⟨Ay,cy,rfl,_⟩,hpy,hcy⟩:=(dB B) _ _ _ _ _ (hkw.below (B:=B) χ (fun _ hi e=>χ)) hbl (HCS.out k y hy);have y0:=hc.c0;have y1:=hc 1 _ rfl;have y2:=hc 2 _ rfl;have y3:=hc 3 _ rfl;unfold lim at hcy;have hbl2:bl<wr.heap.size:=χ
   have HL2:=hh hL2;have HK2:=hh hk2;have HY:=hh hy;have HV:=hh (show((x.QN:Int)!=(y.QN:Int))=!decide (x.QN=y.QN) by
    by_cases he:x.QN=y.QN
    ·simp[he]
    ·have:¬ (x.QN:Int)=y.QN:=χ
     simp[he,this])
   clear hL2 hk2 hkw hc hy hx2
   go_wp2_with fail
   all_goals
    rw[HV.out];refine(aT _ _ 1 81 (HL2.out.new ((aD.refl _ _).alloc _)) rfl).mono ?_;rintro e w2 ⟨rfl,hL3,hk3⟩;have HL3:=hh hL3;have HK3:=hh hk3;clear hL3 hk3
    go_wp2
    go_roundw
    case rel =>
     refine⟨k+1,χ,by go_num,HL3.out.congr fun p=>?_,HK2.out.trans (((aD.refl _ _).alloc _).trans HK3.out (fun _ _ e=>e)) (fun _ _ e=>e)⟩;rw[aP HY.out]
     first
      | (have hm:max x.pos y.pos=y.pos:=χ;simp[hm,or_assoc,or_comm,or_left_comm])
      | (have hm:max x.pos y.pos=x.pos:=χ;simp[hm,or_assoc,or_comm,or_left_comm])
    case measure=>simp[intOf];omega
  ·obtain rfl:k=n:=χ
   obtain⟨wm,hwm⟩:∃u:World,u=wr:=⟨_,rfl⟩;rw[←hwm]at hL2 hk2 hx2 x0 x1 x3 hzr⊢;have HL2:=hh hL2;have HK2:=hh hk2;have HX2:=hh hx2;clear hwm wr hL2 hk2 hx2 HX0 HLo
   go_wp2
   clear x0 x1 x3
   go_loopw [43] (fun j wq=>∃m:Nat,m≤x.runs.length∧j=.int .i64 m∧aG B wq pb v P cV ((x.runs.take m).flatMap (rq P x.needs)++((xs.take k).flatMap (fun y=>say (!decide (x.QN=y.QN)) (max x.pos y.pos) 1)++(gK P (xs.take k)++L)))∧aD (fun i=>i=pb) wm wq) (fun j _=>x.runs.length-(intOf j).toNat)
   case atStart=>exact⟨0,Nat.zero_le _,rfl,HL2.out,aD.refl _ _⟩
   case round =>
   obtain⟨m,hm,rfl,hL3,hk3⟩:=hrel
   by_cases hlt4:m<x.runs.length
   ·obtain⟨Ar',cR',e,_,_,hlr⟩:=HSR.out
    cases e
    obtain⟨gl,go_,rfl,hgl,hgs⟩:=hlr χ;obtain⟨rr,hrr⟩:=ge hlt4;have hk4:=HK2.out.trans hk3 (fun _ _ e=>e);have hbo:B≤wo.heap.size:=by have:=HKb.out.size;have:=HKo.out.size;omega
    have hsz3:=hk4.size;obtain⟨hc,hok⟩:=(aJ B _ _) _ _ _ _ _ (hk4.below (B:=B) hbo (fun _ hi e=>χ)) hgl (hgs m rr hrr);have q0:=hc.c0;have q1:=hc 1 _ rfl;have q2:=hc 2 _ rfl;have q3:=hc 3 _ rfl;obtain⟨hrp,hrb,hrpe,hrs⟩:=hok;unfold lim at hrpe hrb;have hgr:gl<wr.heap.size:=χ
    have hsm:rr.QI.size≤maxLen:=by unfold aW at hrs;unfold maxLen;omega
    have HR:=hh hrr;have HL3:=hh hL3;have HK3:=hh hk3;have HX3:=hh ((hk3.block z (aH HX2.out) hzp2).trans HX2.out);have HB3:=hh ((((HKo.out.trans HK2.out (fun _ _ e=>e)).trans hk3 (fun _ _ e=>e)).block zb (aH HB0.out) hzp).trans HB0.out);have x2:wr.cell? ⟨z,2,none⟩=some (.bool x.needs):=cr HX3.out rfl;have hzr3:z<wr.heap.size:=aH HX3.out;have hzr4:z<wr.heap.size+1:=χ
    have hbr3:zb<wr.heap.size:=aH HB3.out;clear hL3 hk3 hk4 hc hrr hgs hlr;have HPE:=hh (show((rr.per:Int)==0)=decide (rr.per=0) by
     by_cases he:rr.per=0
     ·simp[he]
     ·have:¬ (rr.per:Int)=0:=χ
      simp[he])
    obtain⟨nd,hnd⟩:∃nd,nd=x.needs:=⟨_,rfl⟩;rw[←hnd]at x2;have HND:=hh hnd;clear hnd;have HOK:=hh (show(nd||decide (rr.per=0))=(x.needs||decide (rr.per=0)) by rw[HND.out])
    cases nd
    ·go_wp2_with fail
     rw[HPE.out];obtain⟨wc,hwc⟩:∃u:World,u=wr.alloc (Obj.cells #[.int .i64 rr.pos,.string rr.QI,.int .u64 rr.QR,.int .u64 rr.per] 99):=⟨_,rfl⟩;rw[←hwc];obtain⟨zr,hzr5⟩:∃u,u=wr.heap.size:=⟨_,rfl⟩;rw[←hzr5];have hr0:wc.heap[zr]?=some (.cells #[.int .i64 rr.pos,.string rr.QI,.int .u64 rr.QR,.int .u64 rr.per] 99 (0,0)):=by rw[hwc,hzr5];exact heap_alloc_new _ _
     have hkc:Kz wr wc:=by rw[hwc];exact(aD.refl _ _).alloc _
     have hLc:=HL3.out.new hkc;have hrp2:zr≠pb:=by have:=HKb.out.size;have:=HKo.out.size;omega
     refine(aT _ rr.pos 0 5 hLc rfl).mono ?_;rintro e w3 ⟨rfl,hL4,hk4⟩;have hkwx:aD (fun i=>i=pb) wr w3:=(hkc.mono (T:=fun i=>i=pb) (fun i _ h=>h.elim)).trans hk4 (fun _ _ e=>e);have hr4:=(hk4.block zr (aH hr0) hrp2).trans hr0;have hb4:=(hkwx.block zb hbr3 hzp).trans HB3.out;have r0:w3.cell? ⟨zr,0,none⟩=some (.int .i64 rr.pos):=cr hr4 rfl;have r1:w3.cell? ⟨zr,1,none⟩=some (.string rr.QI):=cr hr4 rfl;have b3:w3.cell? ⟨zb,3,none⟩=some (.map (some (z0+4))):=cr hb4 rfl;have hzr6:zr<w3.heap.size:=aH hr4;have hzb6:zb<w3.heap.size:=aH hb4;have hkall:aD (fun i=>i=pb) w w3:=(HKb.out.trans HKo.out (fun _ _ e=>e)).trans ((HK2.out.trans HK3.out (fun _ _ e=>e)).trans hkwx (fun _ _ e=>e)) (fun _ _ e=>e);have hasq:∀w',Kz w3 w'→Calls Tryz.prog 72 #[.map (some (z0+4)),.string rr.QI] w' fun e w2=>e=.returned (.bool (has P.QQ rr.QI))∧w'=w2:=fun w' hk=>by
      have hk5:aD (fun i=>i=pb) w w':=hkall.trans hk (fun _ _ e=>e.elim);exact nT (HF.out.keep hk5 (fun k e _=>by subst e;exact⟨χ,by simp[bG];omega⟩)) 3 (z0+4) P.QQ rfl rfl rr.QI hsm
     have HH:=hh hasq;have HC:Hid (∀w',aD (fun i=>i=pb) w3 w'→w'.cell? ⟨zr,0,none⟩=some (.int .i64 rr.pos)∧w'.cell? ⟨zr,1,none⟩=some (.string rr.QI)∧w'.cell? ⟨zb,3,none⟩=some (.map (some (z0+4)))):=fun w' hk =>
      ⟨(hk.cell (p:=⟨zr,0,none⟩) hzr6 hrp2).trans r0,(hk.cell (p:=⟨zr,1,none⟩) hzr6 hrp2).trans r1,(hk.cell (p:=⟨zb,3,none⟩) hzb6 hzp).trans b3⟩
     have HLd:=hh (hL4.new ((aD.refl _ w3).drew));have HKW:=hh hkwx;clear hwc hzr5 hr0 hkc hLc hL4 hk4 hkwx hr4 hb4 hkall hasq q0 q1 q2 q3 x2
     by_cases hse:rr.QI=ByteArray.empty
     ·have hd1:(rr.QI.toList==ByteArray.toList { data := #[] })=true:=by rw[ba];exact decide_eq_true hse
      have hd2:(rr.QI.toList==[])=true:=by rw[fY]at hd1;exact hd1
      have HSE:=hh hse;clear hse
      go_upto_region 13 with fail
      refine wp_region_still_tail 13 δ δ ?_;simp only[List.take_succ_cons,List.take_zero,List.drop_succ_cons,List.drop_zero]
      iterate 13 with_reducible refine sl ?_
      with_reducible refine wpStill_nil ?_;refine Lz (fun K hK=>?_)
      go_simp;refine(aT _ _ 2 80 HLd.out rfl).mono ?_;rintro e w2 ⟨rfl,hL5,hk5⟩;with_reducible refine hK _ _ (ln ?_);clear hK K;apply jW
      have HL5:=hh hL5;have HK5:=hh hk5;clear hL5 hk5
      go_wp2
      go_roundw
      case rel =>
       refine⟨m+1,χ,by go_num,HL5.out.congr fun p=>?_,(HK3.out.trans HKW.out (fun _ _ e=>e)).trans (((aD.refl _ _).drew).trans HK5.out (fun _ _ e=>e)) (fun _ _ e=>e)⟩;rw[aP HR.out];have hse2:decide (rr.QI=ByteArray.empty)=true:=decide_eq_true HSE.out;have hok2:=HOK.out;simp only[Bool.false_or,Bool.true_or]at hok2;simp only[rq,←hok2,hse2,Bool.true_or,List.mem_append,List.flatMap_append,List.flatMap_cons,List.flatMap_nil,List.append_nil];constructor
       ·rintro(h|h|h|h)
        ·exact .inl (.inr (.inr h))
        ·exact .inl (.inr (.inl h))
        ·exact .inl (.inl h)
        ·exact .inr h
       ·rintro((h|h|h)|h)
        ·exact .inr (.inr (.inl h))
        ·exact .inr (.inl h)
        ·exact .inl h
        ·exact .inr (.inr (.inr h))
      case measure=>simp[intOf];omega
     ·have hd1:(rr.QI.toList==ByteArray.toList { data := #[] })=false:=by rw[ba];exact decide_eq_false hse
      have hd2:(rr.QI.toList==[])=false:=by rw[fY]at hd1;exact hd1
      have HSE:=hh hse;clear hse
      go_upto_region 13 with fail
      go_region_held3 (fun w'=>w'.cell? ⟨zr,0,none⟩=some (.int .i64 rr.pos)∧w'.cell? ⟨zr,1,none⟩=some (.string rr.QI)∧w'.cell? ⟨zb,3,none⟩=some (.map (some (z0+4))))
       (first|exact HC.out _ ((aD.refl _ w3).drew)|exact HC.out _ (((aD.refl _ w3).drew).trans (by assumption) (fun _ _ e=>e)))
       (first
        | (go_at_call 72;refine(HH.out _ ((aD.refl _ w3).drew)).mono ?_;rintro e w2 ⟨rfl,rfl⟩)
        | (go_at_call 71;refine(aT _ _ 2 80 HLd.out rfl).mono ?_;rintro e w2 ⟨rfl,hL5,hk5⟩))
      have HL5:=hh hL5;have HK5:=hh hk5;clear hL5 hk5
      go_wp2
      go_roundw
      case rel =>
       refine⟨m+1,χ,by go_num,HL5.out.congr fun p=>?_,(HK3.out.trans HKW.out (fun _ _ e=>e)).trans (((aD.refl _ _).drew).trans HK5.out (fun _ _ e=>e)) (fun _ _ e=>e)⟩;rw[aP HR.out];have hse2:decide (rr.QI=ByteArray.empty)=false:=decide_eq_false HSE.out;have hok2:=HOK.out;simp only[Bool.false_or,Bool.true_or]at hok2;simp only[rq,←hok2,hse2,Bool.false_or,List.mem_append,List.flatMap_append,List.flatMap_cons,List.flatMap_nil,List.append_nil];constructor
       ·rintro(h|h|h|h)
        ·exact .inl (.inr (.inr h))
        ·exact .inl (.inr (.inl h))
        ·exact .inl (.inl h)
        ·exact .inr h
       ·rintro((h|h|h)|h)
        ·exact .inr (.inr (.inl h))
        ·exact .inr (.inl h)
        ·exact .inl h
        ·exact .inr (.inr (.inr h))
      case measure=>simp[intOf];omega
    ·go_wp2_with fail
     obtain⟨wc,hwc⟩:∃u:World,u=wr.alloc (Obj.cells #[.int .i64 rr.pos,.string rr.QI,.int .u64 rr.QR,.int .u64 rr.per] 99):=⟨_,rfl⟩;rw[←hwc];obtain⟨zr,hzr5⟩:∃u,u=wr.heap.size:=⟨_,rfl⟩;rw[←hzr5];have hr0:wc.heap[zr]?=some (.cells #[.int .i64 rr.pos,.string rr.QI,.int .u64 rr.QR,.int .u64 rr.per] 99 (0,0)):=by rw[hwc,hzr5];exact heap_alloc_new _ _
     have hkc:Kz wr wc:=by rw[hwc];exact(aD.refl _ _).alloc _
     have hLc:=HL3.out.new hkc;have hrp2:zr≠pb:=by have:=HKb.out.size;have:=HKo.out.size;omega
     refine(aT _ rr.pos 0 5 hLc rfl).mono ?_;rintro e w3 ⟨rfl,hL4,hk4⟩;have hkwx:aD (fun i=>i=pb) wr w3:=(hkc.mono (T:=fun i=>i=pb) (fun i _ h=>h.elim)).trans hk4 (fun _ _ e=>e);have hr4:=(hk4.block zr (aH hr0) hrp2).trans hr0;have hb4:=(hkwx.block zb hbr3 hzp).trans HB3.out;have r0:w3.cell? ⟨zr,0,none⟩=some (.int .i64 rr.pos):=cr hr4 rfl;have r1:w3.cell? ⟨zr,1,none⟩=some (.string rr.QI):=cr hr4 rfl;have b3:w3.cell? ⟨zb,3,none⟩=some (.map (some (z0+4))):=cr hb4 rfl;have hzr6:zr<w3.heap.size:=aH hr4;have hzb6:zb<w3.heap.size:=aH hb4;have hkall:aD (fun i=>i=pb) w w3:=(HKb.out.trans HKo.out (fun _ _ e=>e)).trans ((HK2.out.trans HK3.out (fun _ _ e=>e)).trans hkwx (fun _ _ e=>e)) (fun _ _ e=>e);have hasq:∀w',Kz w3 w'→Calls Tryz.prog 72 #[.map (some (z0+4)),.string rr.QI] w' fun e w2=>e=.returned (.bool (has P.QQ rr.QI))∧w'=w2:=fun w' hk=>by
      have hk5:aD (fun i=>i=pb) w w':=hkall.trans hk (fun _ _ e=>e.elim);exact nT (HF.out.keep hk5 (fun k e _=>by subst e;exact⟨χ,by simp[bG];omega⟩)) 3 (z0+4) P.QQ rfl rfl rr.QI hsm
     have HH:=hh hasq;have HC:Hid (∀w',aD (fun i=>i=pb) w3 w'→w'.cell? ⟨zr,0,none⟩=some (.int .i64 rr.pos)∧w'.cell? ⟨zr,1,none⟩=some (.string rr.QI)∧w'.cell? ⟨zb,3,none⟩=some (.map (some (z0+4)))):=fun w' hk =>
      ⟨(hk.cell (p:=⟨zr,0,none⟩) hzr6 hrp2).trans r0,(hk.cell (p:=⟨zr,1,none⟩) hzr6 hrp2).trans r1,(hk.cell (p:=⟨zb,3,none⟩) hzb6 hzp).trans b3⟩
     have HLd:=hh (hL4.new ((aD.refl _ w3).drew));have HKW:=hh hkwx;clear hwc hzr5 hr0 hkc hLc hL4 hk4 hkwx hr4 hb4 hkall hasq q0 q1 q2 q3 x2
     by_cases hse:rr.QI=ByteArray.empty
     ·have hd1:(rr.QI.toList==ByteArray.toList { data := #[] })=true:=by rw[ba];exact decide_eq_true hse
      have hd2:(rr.QI.toList==[])=true:=by rw[fY]at hd1;exact hd1
      have HSE:=hh hse;clear hse
      go_upto_region 13 with fail
      refine wp_region_still_tail 13 δ δ ?_;simp only[List.take_succ_cons,List.take_zero,List.drop_succ_cons,List.drop_zero]
      iterate 13 with_reducible refine sl ?_
      with_reducible refine wpStill_nil ?_;refine Lz (fun K hK=>?_)
      go_simp;refine(aT _ _ 2 80 HLd.out rfl).mono ?_;rintro e w2 ⟨rfl,hL5,hk5⟩;with_reducible refine hK _ _ (ln ?_);clear hK K;apply jW
      have HL5:=hh hL5;have HK5:=hh hk5;clear hL5 hk5
      go_wp2
      go_roundw
      case rel =>
       refine⟨m+1,χ,by go_num,HL5.out.congr fun p=>?_,(HK3.out.trans HKW.out (fun _ _ e=>e)).trans (((aD.refl _ _).drew).trans HK5.out (fun _ _ e=>e)) (fun _ _ e=>e)⟩;rw[aP HR.out];have hse2:decide (rr.QI=ByteArray.empty)=true:=decide_eq_true HSE.out;have hok2:=HOK.out;simp only[Bool.false_or,Bool.true_or]at hok2;simp only[rq,←hok2,hse2,Bool.true_or,List.mem_append,List.flatMap_append,List.flatMap_cons,List.flatMap_nil,List.append_nil];constructor
       ·rintro(h|h|h|h)
        ·exact .inl (.inr (.inr h))
        ·exact .inl (.inr (.inl h))
        ·exact .inl (.inl h)
        ·exact .inr h
       ·rintro((h|h|h)|h)
        ·exact .inr (.inr (.inl h))
        ·exact .inr (.inl h)
        ·exact .inl h
        ·exact .inr (.inr (.inr h))
      case measure=>simp[intOf];omega
     ·have hd1:(rr.QI.toList==ByteArray.toList { data := #[] })=false:=by rw[ba];exact decide_eq_false hse
      have hd2:(rr.QI.toList==[])=false:=by rw[fY]at hd1;exact hd1
      have HSE:=hh hse;clear hse
      go_upto_region 13 with fail
      go_region_held3 (fun w'=>w'.cell? ⟨zr,0,none⟩=some (.int .i64 rr.pos)∧w'.cell? ⟨zr,1,none⟩=some (.string rr.QI)∧w'.cell? ⟨zb,3,none⟩=some (.map (some (z0+4))))
       (first|exact HC.out _ ((aD.refl _ w3).drew)|exact HC.out _ (((aD.refl _ w3).drew).trans (by assumption) (fun _ _ e=>e)))
       (first
        | (go_at_call 72;refine(HH.out _ ((aD.refl _ w3).drew)).mono ?_;rintro e w2 ⟨rfl,rfl⟩)
        | (go_at_call 71;refine(aT _ _ 2 80 HLd.out rfl).mono ?_;rintro e w2 ⟨rfl,hL5,hk5⟩))
      have HL5:=hh hL5;have HK5:=hh hk5;clear hL5 hk5
      go_wp2
      go_roundw
      case rel =>
       refine⟨m+1,χ,by go_num,HL5.out.congr fun p=>?_,(HK3.out.trans HKW.out (fun _ _ e=>e)).trans (((aD.refl _ _).drew).trans HK5.out (fun _ _ e=>e)) (fun _ _ e=>e)⟩;rw[aP HR.out];have hse2:decide (rr.QI=ByteArray.empty)=false:=decide_eq_false HSE.out;have hok2:=HOK.out;simp only[Bool.false_or,Bool.true_or]at hok2;simp only[rq,←hok2,hse2,Bool.false_or,List.mem_append,List.flatMap_append,List.flatMap_cons,List.flatMap_nil,List.append_nil];constructor
       ·rintro(h|h|h|h)
        ·exact .inl (.inr (.inr h))
        ·exact .inl (.inr (.inl h))
        ·exact .inl (.inl h)
        ·exact .inr h
       ·rintro((h|h|h)|h)
        ·exact .inr (.inr (.inl h))
        ·exact .inr (.inl h)
        ·exact .inl h
        ·exact .inr (.inr (.inr h))
      case measure=>simp[intOf];omega
   ·obtain rfl:m=x.runs.length:=χ
    rw[List.take_length]at hL3;have HL3:=hh hL3;have HK3:=hh hk3;clear hL3 hk3
    go_wp2
    go_roundw
    case rel =>
     refine⟨k+1,χ,by go_num,HL3.out.congr fun p=>?_,(HKo.out.trans HK2.out (fun _ _ e=>e)).trans HK3.out (fun _ _ e=>e)⟩;rw[aP HX.out];simp only[List.mem_append,oN];rw[show(p∈(xs.take k).flatMap (fun y=>say (!decide (x.QN=y.QN)) (max x.pos y.pos) 1))↔∃y∈xs.take k,p∈say (!decide (x.QN=y.QN)) (max x.pos y.pos) 1 from List.mem_flatMap];constructor
     ·rintro(h|h|h|h)
      ·exact .inl (.inr (.inr h))
      ·exact .inl (.inr (.inl h))
      ·exact .inl (.inl h)
      ·exact .inr h
     ·rintro((h|h|h)|h)
      ·exact .inr (.inr (.inl h))
      ·exact .inr (.inl h)
      ·exact .inl h
      ·exact .inr (.inr (.inr h))
    case measure=>simp[intOf];omega
 ·obtain rfl:n=xs.length:=χ
  rw[List.take_length]at hL;have HL:=hh hL;have HK:=hh hk;clear hL hk
  go_wp2
  go_end0
  exact⟨rfl,HL.out,HKb.out.trans HK.out (fun _ _ e=>e)⟩
