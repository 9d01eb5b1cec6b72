import Derived.Test.YthobcefghkeddaaGreatDoorAsE
import Derived.Test.YthobcefghkeddaaGreatDoorFor2
set_option maxRecDepth 100000
set_option linter.all false
set_option maxHeartbeats 4000000
namespace Go.Proofs.YthobcefghkeddaaGreatDoor
section
open Go.RowKit Go.IntWalk Ck
variable {B pb:Nat} {w:World} {L:List Wr} {named:ByteArray→Bool} {u:Value} {l:List Sp}
theorem oO{l:List iE}{x:iE}{of:List Nm}{p:Wr}:p∈gN (l++[x]) of↔p∈gN l of∨(∃y∈l,p=(max x.pos y.pos,1))∨p∈say (has of x.name) x.pos 2:=by
 simp only[gN,List.mem_append,cq,List.flatMap_append,List.flatMap_cons,List.flatMap_nil,List.append_nil,List.mem_singleton];constructor
 ·rintro((h|h)|(h|h))
  ·exact .inl (.inl h)
  ·exact .inr (.inl h)
  ·exact .inl (.inr h)
  ·exact .inr (.inr h)
 ·rintro((h|h)|(h|h))
  ·exact .inl (.inl h)
  ·exact .inr (.inl h)
  ·exact .inl (.inr h)
  ·exact .inr (.inr h)
theorem xt{v:aY}{P:aF}(h:aG B w pb v P cV L){Bf:Nat}{bs:List Nat}{fs:List (List Nm)}{D:Nat→DataW Value}{r:Nat→ByteArray→Value}(hF:cz Bf w bs fs D r)
 (i b:Nat)(f:List Nm)(hb:bs[i]?=some b)(hf:fs[i]?=some f)(hpb:pb<Bf∧pb ∉ bs){u:Value}{xs:List iE}(hs:aL B 2 fP w u xs):
 Calls Tryz.prog 70 #[.pointer (some ⟨pb,0,none⟩),u,.map (some b)] w fun e w'=>e=.returned (.tuple #[])∧aG B w' pb v P cV (gN xs f++L)∧aD (fun k=>k=pb) w w':=by
 obtain⟨A,c,rfl,hnc,hn0,hl⟩:=hs;unfold top at hn0;have hlt:=h.lt;have hBp:=h.base
 go_enter Tryz.func70,Tryz.ntmps70
 go_wp2
 go_loopw [12] (fun i wr=>∃n:Nat,n≤xs.length∧i=.int .i64 n∧aG B wr pb v P cV (gN (xs.take n) f++L)∧aD (fun k=>k=pb) w wr) (fun i _=>xs.length-(intOf i).toNat)
 case atStart=>exact⟨0,Nat.zero_le _,rfl,by simpa[gN,cY]using h,aD.refl _ _⟩
 case round =>
 obtain⟨n,hn,rfl,hL,hk⟩:=hrel
 by_cases hlt2:n<xs.length
 ·obtain⟨bl,off,rfl,hbl,hcs⟩:=hl χ
  obtain⟨x,hx⟩:∃x,xs[n]?=some x:=⟨_,Ez hlt2⟩;obtain⟨hc,hok⟩:=(aJ B _ _) _ _ _ _ _ (hk.below (B:=B) χ (fun _ hi e=>χ)) hbl (hcs n x hx);have q0:=hc.c0;have q1:=hc 1 _ rfl;have hsz:=hk.size;have hblr:bl<wr.heap.size:=χ
  have hsm:x.name.size≤maxLen:=by have:=hok.2;unfold aW at this;unfold maxLen;omega
  have HX:=Lib.hid hx;have HL:=Lib.hid hL;have HK:=Lib.hid hk;have hnc2:n≤c:=χ
  clear hx hL hk hc hok
  go_wp2
  obtain⟨wo,hwo⟩:∃wo:World,wo=wr.alloc (Obj.cells #[.int .i64 x.pos,.string x.name] 47):=⟨_,rfl⟩;rw[←hwo];obtain⟨z,hz⟩:∃z,z=wr.heap.size:=⟨_,rfl⟩;rw[←hz];have hx0:wo.heap[z]?=some (.cells #[.int .i64 x.pos,.string x.name] 47 (0,0)):=by rw[hwo,hz];exact heap_alloc_new _ _
  have hLo:aG B wo pb v P cV (gN (xs.take n) f++L):=by rw[hwo];exact HL.out.new ((aD.refl _ _).alloc _)
  have hKo:aD (fun k=>k=pb) w wo:=by rw[hwo];exact HK.out.alloc _
  have hzp:z≠pb:=χ
  have HX0:=Lib.hid hx0;have HKo:=Lib.hid hKo;have HLo:=Lib.hid hLo;clear hwo hz hx0 hKo hLo q0 q1 HL HK
  go_loopw [21] (fun j wq=>∃k:Nat,k≤n∧j=.int .i64 k∧aG B wq pb v P cV ((xs.take k).map (fun y=>(max x.pos y.pos,1))++(gN (xs.take n) f++L))∧aD (fun i=>i=pb) wo wq) (fun j _=>n-(intOf j).toNat)
  case atStart=>exact⟨0,Nat.zero_le _,rfl,HLo.out,aD.refl _ _⟩
  case round =>
  obtain⟨k,hkn,rfl,hL2,hk2⟩:=hrel;have hx2:=(hk2.block z (aH HX0.out) hzp).trans HX0.out;have x0:wr.cell? ⟨z,0,none⟩=some (.int .i64 x.pos):=by rw[cell_of_row _ _ _ _ _ _ hx2];rfl
  have x1:wr.cell? ⟨z,1,none⟩=some (.string x.name):=by rw[cell_of_row _ _ _ _ _ _ hx2];rfl
  have hzr:z<wr.heap.size:=aH hx2
  by_cases hlt3:k<n
  ·obtain⟨y,hy⟩:∃y,xs[k]?=some y:=⟨_,Ez χ⟩
   have hkw:=HKo.out.trans hk2 (fun _ _ e=>e);have hsz2:=hkw.size;obtain⟨hc,hok⟩:=(aJ B _ _) _ _ _ _ _ (hkw.below (B:=B) χ (fun _ hi e=>χ)) hbl (hcs k y hy);have y0:=hc.c0;have y1:=hc 1 _ rfl;have hbl2:bl<wr.heap.size:=χ
   have HL2:=Lib.hid hL2;have HK2:=Lib.hid hk2;have HY:=Lib.hid hy;clear hL2 hk2 hkw hc hok hy hx2
   go_wp2_with fail
   all_goals
    refine(cI _ 1 81 (HL2.out.new ((aD.refl _ _).alloc _)) rfl).mono ?_;rintro e w2 ⟨rfl,hL3,hk3⟩;have HL3:=Lib.hid hL3;have HK3:=Lib.hid hk3;clear hL3 hk3
    go_wp2
    go_roundw
    case rel =>
     refine⟨k+1,χ,by go_num,HL3.out.congr fun p=>?_,HK2.out.trans (((aD.refl _ _).alloc _).trans HK3.out (fun _ _ e=>e)) (fun _ _ e=>e)⟩;rw[aP HY.out]
     first
      | (simp[or_assoc,or_comm,or_left_comm];done)
      | (have hm:max x.pos y.pos=y.pos:=χ;simp[hm,or_assoc,or_comm,or_left_comm])
      | (have hm:max x.pos y.pos=x.pos:=χ;simp[hm,or_assoc,or_comm,or_left_comm])
    case measure=>simp[intOf];omega
  ·obtain rfl:k=n:=χ
   have HL2:=Lib.hid hL2;have HK2:=Lib.hid hk2;clear hL2 hk2 hx2;have hasq:∀w',Kz wr w'→Calls Tryz.prog 72 #[.map (some b),.string x.name] w' fun e w2=>e=.returned (.bool (has f x.name))∧w'=w2:=fun w' hk=>by
    have hk3:aD (fun i=>i=pb) w w':=(HKo.out.trans HK2.out (fun _ _ e=>e)).trans hk (fun _ _ e=>e.elim);exact nT (hF.keep hk3 (fun k e _=>by subst e;exact hpb)) i b f hb hf x.name hsm
   have HH:=Lib.hid hasq;have HC:Hid (∀w',aD (fun i=>i=pb) wr w'→w'.cell? ⟨z,0,none⟩=some (.int .i64 x.pos)∧w'.cell? ⟨z,1,none⟩=some (.string x.name)):=fun w' hk =>
    ⟨(hk.cell (p:=⟨z,0,none⟩) hzr hzp).trans x0,(hk.cell (p:=⟨z,1,none⟩) hzr hzp).trans x1⟩
   have HLd:=Lib.hid (HL2.out.new ((aD.refl _ wr).drew));clear hasq
   go_wp2_with fail
   go_region_held3 (fun w'=>w'.cell? ⟨z,0,none⟩=some (.int .i64 x.pos)∧w'.cell? ⟨z,1,none⟩=some (.string x.name))
    (first|exact HC.out _ ((aD.refl _ wr).drew)|exact HC.out _ (((aD.refl _ wr).drew).trans (by assumption) (fun _ _ e=>e)))
    (first
     | (go_at_call 72;refine(HH.out _ ((aD.refl _ wr).drew)).mono ?_;rintro e w2 ⟨rfl,rfl⟩)
     | (go_at_call 71;refine(aT _ _ 2 80 HLd.out rfl).mono ?_;rintro e w2 ⟨rfl,hL3,hk3⟩))
   have HL3:=Lib.hid hL3;have HK3:=Lib.hid hk3;clear hL3 hk3
   go_wp2
   go_roundw
   case rel =>
    refine⟨k+1,χ,by go_num,HL3.out.congr fun p=>?_,(HKo.out.trans HK2.out (fun _ _ e=>e)).trans (((aD.refl _ _).drew).trans HK3.out (fun _ _ e=>e)) (fun _ _ e=>e)⟩;rw[aP HX.out];simp only[List.mem_append,oO,List.mem_map];constructor
    ·rintro(h|⟨y,h1,rfl⟩|h|h)
     ·exact .inl (.inr (.inr h))
     ·exact .inl (.inr (.inl ⟨y,h1,rfl⟩))
     ·exact .inl (.inl h)
     ·exact .inr h
    ·rintro((h|⟨y,h1,rfl⟩|h)|h)
     ·exact .inr (.inr (.inl h))
     ·exact .inr (.inl ⟨y,h1,rfl⟩)
     ·exact .inl h
     ·exact .inr (.inr (.inr h))
   case measure=>simp[intOf];omega
 ·obtain rfl:n=xs.length:=χ
  rw[List.take_length]at hL;have HL:=Lib.hid hL;have HK:=Lib.hid hk;clear hL hk
  go_wp2
  go_end0
  exact⟨rfl,HL.out,HK.out⟩
def fX(B:Nat)(named:ByteArray→Bool):Prop:=∀(w:World) (s:ByteArray),io B w→B≤w.heap.size→aW s→Calls Tryz.prog 122 #[.string s] w fun e w'=>e=.returned (.bool (named s))∧Kz w w'
def cH(named:ByteArray→Bool)(s:ByteArray)(l:List Int):List Wr:=l.flatMap (fun Q7=>say (named s) Q7 0)++cY (fun a b=>[(max a b,1)]) l
theorem nG{s:ByteArray}{l:List Int}{x:Int}{p:Wr}:p∈cH named s (l++[x])↔p∈cH named s l∨p∈say (named s) x 0∨p∈l.flatMap (fun y=>[(max x y,1)]):=by
 simp only[cH,List.mem_append,cq,List.flatMap_append,List.flatMap_cons,List.flatMap_nil,List.append_nil,List.mem_flatMap];constructor
 ·rintro((h|h)|(h|h))
  ·exact .inl (.inl h)
  ·exact .inr (.inl h)
  ·exact .inl (.inr h)
  ·exact .inr (.inr h)
 ·rintro((h|h)|(h|h))
  ·exact .inl (.inl h)
  ·exact .inr (.inl h)
  ·exact .inl (.inr h)
  ·exact .inr (.inr h)
theorem gM(x:Nm)(t:List Nm)(s:ByteArray):ab (x::t) s=if x.1=s then x.2::ab t s else ab t s:=by
 unfold ab
 by_cases h:x.1=s<;>simp[h]
theorem iT{t:List Nm}{s:ByteArray}{q:Int}:q∈ab t s↔(s,q)∈t:=by
 unfold ab;simp only[List.mem_map,List.mem_filter,decide_eq_true_eq];constructor
 ·rintro⟨⟨a,b⟩,⟨j,d⟩,g⟩
  simp only at d g;subst d;subst g;exact j
 ·intro h
  exact⟨(s,q),⟨h,rfl⟩,rfl⟩
theorem sV{named:ByteArray→Bool}{p:Wr}:∀{f:List Nm},p∈iO named f↔∃s,p∈cH named s (ab f s)
 | []=>by simp[iO,cH,ab,cY]
 | x::t=>by
  have u:=sV (named:=named) (p:=p) (f:=t);have j:p∈iO named (x::t)↔p∈say (named x.1) x.2 0∨(∃q,(x.1,q)∈t∧p=(max q x.2,1))∨p∈iO named t:=by
   simp only[iO,List.flatMap_cons,cY,List.mem_append,List.mem_flatMap];constructor
   ·rintro((h|h)|(⟨y,g,h⟩|h))
    ·exact .inl h
    ·exact .inr (.inr (.inl h))
    ·by_cases e:y.1=x.1
     ·simp only[e,if_true,List.mem_singleton]at h
      exact .inr (.inl ⟨y.2,by rw[←e];exact g,h⟩)
     ·simp[e]at h
    ·exact .inr (.inr (.inr h))
   ·rintro(h|⟨q,d,h⟩|(h|h))
    ·exact .inl (.inl h)
    ·exact .inr (.inl ⟨(x.1,q),d,by simp[h]⟩)
    ·exact .inl (.inr h)
    ·exact .inr (.inr h)
  have l:(∃s,p∈cH named s (ab (x::t) s))↔p∈say (named x.1) x.2 0∨(∃q,(x.1,q)∈t∧p=(max q x.2,1))∨∃s,p∈cH named s (ab t s):=by
   constructor
   ·rintro⟨s,h⟩
    rw[gM]at h
    by_cases e:x.1=s
    ·rw[if_pos e]at h
     simp only[cH,List.flatMap_cons,cY,List.mem_append,List.mem_flatMap]at h;subst e
     rcases h with(h|h)|(⟨y,g,h⟩|h)
     ·exact .inl h
     ·exact .inr (.inr ⟨x.1,by simp only[cH,List.mem_append,List.mem_flatMap];exact .inl h⟩)
     ·exact .inr (.inl ⟨y,iT.1 g,by simpa using h⟩)
     ·exact .inr (.inr ⟨x.1,by simp only[cH,List.mem_append];exact .inr h⟩)
    ·rw[if_neg e]at h
     exact .inr (.inr ⟨s,h⟩)
   ·have v:∀s,p∈cH named s (ab t s)→p∈cH named s (ab (x::t) s):=fun s h=>by
     rw[gM]
     by_cases e:x.1=s
     ·rw[if_pos e]
      simp only[cH,List.flatMap_cons,cY,List.mem_append]at h⊢
      rcases h with h|h
      ·exact .inl (.inr h)
      ·exact .inr (.inr h)
     ·rw[if_neg e];exact h
    rintro(h|⟨q,d,h⟩|⟨s,h⟩)
    ·exact⟨x.1,by rw[gM,if_pos rfl];simp only[cH,List.flatMap_cons,List.mem_append];exact .inl (.inl h)⟩
    ·exact⟨x.1,by rw[gM,if_pos rfl];simp only[cH,cY,List.mem_append,List.mem_flatMap];exact .inr (.inl ⟨q,iT.2 d,by simp[h]⟩)⟩
    ·exact⟨s,v s h⟩
  rw[j,l,u]
theorem mj{w':World}{b r n cnt:Nat}{D:DataW Value}{left:Lit→Bool}(h:w.ranges Tryz.prog 9 eE b r n D left cnt)(hk:aD (fun k=>k=pb) w w')(g:b≠pb)(j:r≠pb):w'.ranges Tryz.prog 9 eE b r n D left cnt:=
 h.kept (row:=some pb) ⟨hk.os,hk.tape,hk.output,hk.size,fun i hi d=>hk.block i hi (fun e=>d (by rw[e]))⟩ (fun e=>g (Option.some.inj e)) (fun e=>j (Option.some.inj e))
theorem zM{v:aY}{P:aF}(h:aG B w pb v P cV L)(a:Act)(a5:a.tmps.size=44)(h0:At a 0 (.pointer (some ⟨pb,0,none⟩)))
 {A:Option Addr}{c N:Nat}{q:List Int}{x:Int}(h5:At a 5 (.slice A N c))(h6:At a 6 (.int .i64 q.length))(h7:At a 7 (.int .i64 x))(bf:q.length≤N)(be:N≤c)(bo:q.length≤4194304)
 (l:0<q.length→∃g,A=some ⟨g,0,none⟩∧g<w.heap.size∧g≠pb∧∀(i:Nat) (y:Int),q[i]?=some y→w.cell? ⟨g,i,none⟩=some (.int .i64 y))(Q:Exit→Act→World→Prop)
 (hQ:∀Z w',aE (fun i=>i==9||(rg 29 42 i)) a Z→aG B w' pb v P cV (q.flatMap (fun y=>[(max x y,1)])++L)→aD (fun k=>k=pb) w w'→Q .normal Z w'):
 (b9 Tryz.f69 [1,0,0,1,1,0,1,1,0,0,1,1,0,0,1,1]).wp Tryz.prog Q a w:=by
 have bm:=h.lt;have bp:q.length≤c:=χ
 conv=>arg 2;whnf
 refine so (fun C w1=>aE (fun i=>i==29||i==30||i==31||i==32||i==33) a C∧At C 31 (.slice A q.length c)∧At C 32 (.int .i64 q.length)∧At C 33 (.int .i64 0)∧w1=w) ?_ ?_
 ·clear l
  obtain⟨T,d⟩:=a;refine rl ?_
  iterate 5 with_reducible refine st ?_
  with_reducible refine ln ?_
  refine⟨rfl,ag,aq,aq,aq,rfl⟩
 rintro a0 w0 ⟨D,a9,a8,a6,rfl⟩;have U:a0.tmps.size=44:=D.size.trans a5;replace h0:=D.Q7 h0 rfl;replace h7:=D.Q7 h7 rfl;refine bh q.length (fun i=>i==9||(rg 33 42 i)) (fun i=>i==9||(rg 35 41 i)) (fun k _ w'=>aG B w' pb v P cV ((q.take k).flatMap (fun y=>[(max x y,1)])++L)∧aD (fun k=>k=pb) w0 w') χ a6 a8 ψ rfl
  ζ χ ψ (fun k C H w E hI=>hI) ⟨by simpa using h,aD.refl _ _⟩ ?_ ?_
 ·rintro n C wr O E a7 ⟨I,hk⟩
  obtain⟨g,rfl,af,al,J⟩:=l χ;obtain⟨y,hy⟩:=ge O;have q0:wr.cell? ⟨g,n,none⟩=some (.int .i64 y):=(hk.cell (p:=⟨g,n,none⟩) af al).trans (J n y hy);have W:=E.Q7 h0 rfl;have X:=E.Q7 h7 rfl;have Y:=E.Q7 a9 rfl;have V:C.tmps.size=44:=E.size.trans U;have bd:=hk.size;have bl:g<wr.heap.size:=χ
  have HY:=hh hy;have HL:=hh I;have HK:=hh hk;have bb:n≤c:=χ
  clear hy I hk E J l;refine so (fun H w2=>aE (fun i=>i==35||i==36||i==9) C H∧At H 9 (.int .i64 y)∧w2=wr) ?_ ?_
  ·obtain⟨T,d⟩:=C
   refine rl ?_
   iterate 3 with_reducible refine st ?_
   with_reducible refine ln ?_
   refine⟨rfl,ag,aq,rfl⟩
  rintro H w2 ⟨u,bs,rfl⟩;replace W:=u.Q7 W rfl;replace X:=u.Q7 X rfl;have bc:=u.size.trans V;refine Code.wp_only (R:=fun a3 w3=>aE (fun i=>rg 37 41 i) H a3∧aG B w3 pb v P cV ([(max x y,1)]++((q.take n).flatMap (fun y=>[(max x y,1)])++L))∧aD (fun k=>k=pb) w2 w3) ?_ ?_
  ·clear u Y a7 q0
   obtain⟨T,d⟩:=H;refine rl ?_
   iterate 4 with_reducible refine st ?_
   with_reducible refine Lz (fun K hK=>?_)
   go_simp;refine(cI _ 1 81 HL.out rfl).mono ?_;rintro e w4 ⟨rfl,ac,an⟩;with_reducible refine hK _ _ (ln ?_)
   refine⟨rfl,?_,?_,an⟩
   ·exact ag
   ·refine ac.congr fun p=>?_
    rw[show(if x<y then y else x)=max x y from by split<;>omega];exact Iff.rfl
  rintro a3 w3 ⟨aa,ad,a4⟩;refine⟨(u.m).t aa,ad.congr fun p=>?_,HK.out.trans a4 (fun _ _ e=>e)⟩;rw[aP HY.out,List.flatMap_append,List.flatMap_cons,List.flatMap_nil,List.append_nil];simp only[List.mem_append];simp only[or_assoc,or_comm,or_left_comm]
 ·rintro Z w' E ⟨I,hk⟩
  rw[List.take_length]at I;exact hQ _ _ ((D.m).t E) I hk
theorem xI{v:aY}{P:aF}(hN:fX B named)(h:aG B w pb v P cV L)(a:Act)(bd:a.tmps.size=44)(h0:At a 0 (.pointer (some ⟨pb,0,none⟩)))
 {A:Option Addr}{c:Nat}{x:List Int}{s:ByteArray}(hs:aW s)(h4:At a 4 (.string s))(h5:At a 5 (.slice A x.length c))(bz:x.length≤c)(b1:x.length≤4194304)
 (l:0<x.length→∃g,A=some ⟨g,0,none⟩∧g<w.heap.size∧g≠pb∧∀(i:Nat) (y:Int),x[i]?=some y→w.cell? ⟨g,i,none⟩=some (.int .i64 y))(Q:Exit→Act→World→Prop)
 (hQ:∀a' w',aE (fun i=>i==6||i==7||i==9||(rg 17 43 i)) a a'→aG B w' pb v P cV (cH named s x++L)→aD (fun k=>k=pb) w w'→Q .normal a' w'):
 (b9 Tryz.f69 [1,0,0,1,1,0,1]).wp Tryz.prog Q a w:=by
 have b0:=h.lt;have bx:=h.base
 conv=>arg 2;whnf
 refine so (fun E w1=>aE (fun i=>i==17||i==18||i==19) a E∧At E 17 (.slice A x.length c)∧At E 18 (.int .i64 x.length)∧At E 19 (.int .i64 0)∧w1=w) ?_ ?_
 ·clear l hN
  obtain⟨T,d⟩:=a;refine rl ?_
  iterate 3 with_reducible refine st ?_
  with_reducible refine ln ?_
  refine⟨rfl,ag,aq,aq,aq,rfl⟩
 rintro a0 w0 ⟨C,bs,bp,bm,rfl⟩;have Z:a0.tmps.size=44:=C.size.trans bd;replace h0:=C.Q7 h0 rfl;replace h4:=C.Q7 h4 rfl;replace h5:=C.Q7 h5 rfl;refine bh x.length (fun i=>i==6||i==7||i==9||(rg 19 43 i)) (fun i=>i==6||i==7||i==9||(rg 21 42 i)) (fun k _ w'=>aG B w' pb v P cV (cH named s (x.take k)++L)∧aD (fun k=>k=pb) w0 w') χ bm bp ψ rfl
  ζ χ ψ (fun k E I w H hI=>hI) ⟨by simpa[cH,cY]using h,aD.refl _ _⟩ ?_ ?_
 ·rintro n E wr X H bo ⟨V,hk⟩
  obtain⟨g,rfl,W,J,N⟩:=l χ;obtain⟨y,hy⟩:=ge X;have q0:wr.cell? ⟨g,n,none⟩=some (.int .i64 y):=(hk.cell (p:=⟨g,n,none⟩) W J).trans (N n y hy);have R:=H.Q7 h0 rfl;have af:=H.Q7 h4 rfl;have U:=H.Q7 h5 rfl;have al:=H.Q7 bs rfl;have aa:E.tmps.size=44:=H.size.trans Z;have bw:=hk.size;have bb:g<wr.heap.size:=χ
  have HY:=hh hy;have HL:=hh V;have HK:=hh hk;have HG:=hh N;have bt:n≤c:=χ
  clear hy V hk H N l;refine so (fun I w2=>aE (fun i=>i==21||i==22||i==23||i==6||i==7) E I∧At I 6 (.int .i64 n)∧At I 7 (.int .i64 y)∧w2=wr) ?_ ?_
  ·clear hN
   obtain⟨T,d⟩:=E;refine rl ?_
   iterate 5 with_reducible refine st ?_
   with_reducible refine ln ?_
   refine⟨rfl,ag,aq,aq,rfl⟩
  rintro I w2 ⟨q,bf,bl,rfl⟩;replace R:=q.Q7 R rfl;replace af:=q.Q7 af rfl;replace U:=q.Q7 U rfl;have ac:=q.size.trans aa;clear al bo q0;refine so (fun a3 w3=>aE (fun i=>rg 24 28 i) I a3∧aG B w3 pb v P cV (say (named s) y 0++(cH named s (x.take n)++L))∧aD (fun k=>k=pb) w2 w3) ?_ ?_
  ·have HN:=hh (hN w2 s HL.out.laid χ hs)
   clear q hN;obtain⟨T,d⟩:=I;refine rl ?_
   iterate 2 with_reducible refine st ?_
   with_reducible refine Lz (fun K hK=>?_)
   go_simp;refine HN.out.mono ?_;rintro e w4 ⟨rfl,D⟩;with_reducible refine hK _ _ ?_;clear hK K
   have a5:=hh (HL.out.new D);have an:=hh D;clear D;with_reducible refine st ?_;refine Lz (fun K hK=>?_)
   go_simp;refine(aT _ _ 0 5 a5.out rfl).mono ?_;rintro e w5 ⟨rfl,a7,bc⟩;with_reducible refine hK _ _ (ln ?_)
   refine⟨rfl,ag,a7,(an.out.mono (fun _ _ h=>h.elim)).trans bc (fun _ _ e=>e)⟩
  rintro a3 w3 ⟨u,a8,O⟩;have ad:=u.size.trans ac;have Y:(x.take n).length=n:=by rw[List.length_take];omega
  refine zM a8 a3 ad (u.Q7 R rfl) (u.Q7 U rfl) (by rw[Y];exact u.Q7 bf rfl) (u.Q7 bl rfl) χ χ χ (fun _=>⟨g,rfl,Nat.lt_of_lt_of_le bb O.size,J,fun i z hz=>?_⟩) _ (fun a4 w4 a6 a9 D=>?_)
  ·have be:x[i]?=some z:=by rw[List.getElem?_take]at hz;split at hz;exact hz;cases hz
   exact((HK.out.trans O (fun _ _ e=>e)).cell (p:=⟨g,i,none⟩) W J).trans (HG.out i z be)
  refine⟨((q.m).t u).t a6,a9.congr fun p=>?_,(HK.out.trans O (fun _ _ e=>e)).trans D (fun _ _ e=>e)⟩;rw[aP HY.out];simp only[List.mem_append,nG];simp only[or_assoc,or_comm,or_left_comm]
 ·rintro a' w' H ⟨V,hk⟩
  rw[List.take_length]at V;exact hQ _ _ ((C.m).t H) V hk
theorem ud(f:List Nm)(s:ByteArray):(ab f s).length≤f.length:=by
 unfold ab;rw[List.length_map];exact List.length_filter_le _ _
theorem gk{k:Value}{d:Lit}(h:keyOf Tryz.prog 9 k=some d):∃s:ByteArray,k=.string s∧d=key s∧s.size≤maxLen:=by
 cases k<;>simp[keyOf,Tryz.underlying9,mapKey]at h
 exact⟨_,rfl,h.2.symm,h.1⟩
theorem uf{z:Nat}{e:TypeId}{d:List Value}(h:w.ownsRow z e 1 u d.length d):∃A c,u=.slice A d.length c∧d.length≤c:=by
 rcases h.2 with⟨j,v⟩|⟨g,l,q,j,_,_,x,_⟩
 ·exact⟨none,0,by rw[j,v],χ⟩
 ·exact⟨_,_,j,x⟩
theorem xJ{v:aY}{P:aF}(hN:fX B named)(h:aG B w pb v P cV L){Bf:Nat}{bs:List Nat}{fs:List (List Nm)}{D:Nat→DataW Value}{r:Nat→ByteArray→Value}(hF:cz Bf w bs fs D r)
 (i b:Nat)(f:List Nm)(hb:bs[i]?=some b)(hf:fs[i]?=some f)(dc:pb<Bf∧pb ∉ bs)(eg:f.length≤4194304)(b5:∀x∈f,aW x.1):
 Calls Tryz.prog 69 #[.pointer (some ⟨pb,0,none⟩),.map (some b)] w fun e w'=>e=.returned (.tuple #[])∧aG B w' pb v P cV (iO named f++L)∧aD (fun k=>k=pb) w w':=by
 have en:=h.lt;have eb:=h.base;obtain⟨m1,m3⟩:=hF.map i b f hb hf;have bw:b≠pb:=fun e=>dc.2 (by rw[←e];exact List.mem_of_getElem? hb)
 have d3:=m1.lt;refine bU Tryz.func69 Tryz.ntmps69 rfl ξ fun a ca c5 H=>?_
 have h0:At a 0 (.pointer (some ⟨pb,0,none⟩)):=H 0 _ rfl;have O:At a 1 (.map (some b)):=H 1 _ rfl;clear H
 conv=>arg 2;whnf
 refine so (fun Q w1=>aE (fun i=>i==10||i==11) a Q∧At Q 11 (.pointer (some ⟨w.heap.size,0,none⟩))∧w1.ranges Tryz.prog 9 eE b w.heap.size f.length (D i) (Go.Maps.has (D i)) (Go.Maps.size (D i))∧w.grownBy w1 none) ?_ ?_
 ·clear hN hF m3
  obtain⟨T,d⟩:=a;refine rl ?_;with_reducible refine st ?_
  refine wpList_range_own _ rfl _ 137 rfl 9 221 Tryz.law9 Tryz.underlying137 _ b f.length (D i) (by simp[Act.eval,ca]) m1 ?_;intro w0 b3 c6 eq;with_reducible refine ln ?_
  refine⟨rfl,?_,?_,b3,c6⟩
  ·(repeat (first|with_reducible apply aE.put|with_reducible apply aE.set))<;>first|with_reducible exact aE.refl _ _|rfl
  ·exact At.put_self
 rintro a0 w1 ⟨U,aa,a4,hg⟩;have bl:Kz w w1:=aD.of_grown hg (fun _ e=>by cases e);have a9:=U.size.trans ca;replace h0:=U.Q7 h0 rfl;have be:=h.new bl;have d8:w.heap.size<w1.heap.size:=a4.lt;have b4:w.heap.size≠pb:=χ
 have HN:=hh hN;have M3:=hh m3;have HF:=hh hF;have cd:=hh bl;have bd:∀s:ByteArray,s.size≤maxLen→Go.Maps.has (D i) (key s)=has f s:=fun s Z=>(m3 s Z).2.2
 clear hN hF m3 bl hg;refine zC (t:=13)
  (fun a' w'=>aE (fun i=>i==4||i==5||i==6||i==7||i==9||(rg 12 43 i)) a0 a'∧∃left cnt Lc,w'.ranges Tryz.prog 9 eE b w.heap.size f.length (D i) left cnt∧aG B w' pb v P cV (Lc++L)∧aD (fun k=>k=pb) w w' ∧
   (∀kl,left kl=true→Go.Maps.has (D i) kl=true)∧∀p,p∈Lc↔∃s:ByteArray,s.size≤maxLen∧left (key s)=false∧p∈cH named s (ab f s))
  (fun _ w'=>w'.rangeLeft b w.heap.size)
  (fun m a' w'=>aE (fun i=>i==4||i==5||i==6||i==7||i==9||(rg 12 43 i)) a0 a'∧∃(s:ByteArray) (left:Lit→Bool) (cnt:Nat) (Lc:List Wr),s.size≤maxLen∧has f s=true∧cnt<m∧(Instr.entry (.pointer (some ⟨w.heap.size,0,none⟩))).run Tryz.prog w'=.ok (.tuple #[.string s,r i s]) w' ∧
   w'.ranges Tryz.prog 9 eE b w.heap.size f.length (D i) (fun z=>left z && !z.sameKey (key s)) cnt∧aG B w' pb v P cV (Lc++L)∧aD (fun k=>k=pb) w w' ∧
   (∀kl,left kl=true→Go.Maps.has (D i) kl=true)∧∀p,p∈Lc↔∃s:ByteArray,s.size≤maxLen∧left (key s)=false∧p∈cH named s (ab f s))
  (fun a' w'=>a'.defers=[]∧∃Lc,aG B w' pb v P cV (Lc++L)∧aD (fun k=>k=pb) w w'∧∀p,p∈Lc↔∃s:ByteArray,s.size≤maxLen∧p∈cH named s (ab f s)) ?_ ?_ ?_ ?_
 ·refine⟨aE.refl _ _,_,_,[],a4,by simpa using be,cd.out.mono (fun _ _ h=>h.elim),fun _ h=>h,fun p=>⟨fun h=>by simp at h,fun⟨s,Z,hn,hp⟩=>?_⟩⟩
  rw[bd s Z]at hn;have:ab f s=[]:=by
   have:=kU f s;rw[hn]at this;have h2:¬ 0<(ab f s).length:=of_decide_eq_false this.symm;exact List.length_eq_zero_iff.1 χ
  rw[this]at hp;simp[cH,cY]at hp
 ·rintro Q w2 ⟨R,left,cnt,Lc,l,E,C,X,I⟩
  have ac:=R.Q7 aa rfl;have K:Q.tmps.size=44:=R.size.trans a9;have bx:Q.defers=[]:=R.defers.trans (U.defers.trans c5);have HR:=hh l;have af:=hh E;have ad:=hh C;have an:=hh X;have al:=hh I;have bb:=hh R;have eo:=l.lt;clear E C X I R l a4 be bd h h0 m1 U;refine rl ?_;refine wpList_next_ranges _ rfl _ rfl 9 Tryz.law9 eE (Value.string) (fun v:Value=>v) (fun ky kl hk=>by obtain⟨s,e,_⟩:=gk hk;exact⟨s,e⟩) (fun v y _=>⟨v,rfl⟩) b w.heap.size f.length (D i) left cnt (ac.eval χ) HR.out ?_ ?_
  ·intro ed c8
   obtain⟨T,d⟩:=Q;simp only[Act.put];with_reducible refine st ?_;refine ln ?_
   refine⟨rfl,.inr ⟨?_,?_⟩⟩
   ·exact At.eval At.self (by simp;exact K▸(by decide:13<44))
   ·exact⟨bx,Lc,af.out,ad.out,fun p=>by rw[al.out];exact⟨fun⟨s,O,_,h3⟩=>⟨s,O,h3⟩,fun⟨s,O,h3⟩=>⟨s,O,c8 _,h3⟩⟩⟩
  ·intro s c kl y w3 a5 a6 b1 hR bt a8 cy bz di V
   obtain⟨s',e,rfl,Z⟩:=gk a6
   cases e
   simp only[eE,Option.some.injEq]at hR;subst hR;have c4:c=r i s:=by
    have e1:=(M3.out s Z).1;rw[bt]at e1;exact DataW.held.inj e1
   subst c4;have W:has f s=true:=by rw[←(M3.out s Z).2.2];exact an.out _ b1
   have bm:aD (fun k=>k=w.heap.size) w2 w3:=aD.of_grown bz (fun k e=>by cases e;rfl);have cb:gQ w2 w.heap.size=none:=by
    obtain⟨es,cp,d2,d9,c0,_,_,_,_,e5,_⟩:=HR.out;unfold gQ;rw[e5]
   have cv:=af.out.keep bm (fun k hk _=>by subst hk;rw[cb];exact⟨χ,ξ,ξ⟩);have c7:aD (fun k=>k=pb) w w3:=ad.out.trans bm (fun k hk e=>χ);have b2:a5<w2.rangeLeft b w.heap.size:=by rw[HR.out.left_eq];exact cy
   clear bt a6 bz di bm cb b1;have cc:=hh V;have cj:=hh a8;clear V a8;obtain⟨T,d⟩:=Q;simp only[Act.put];with_reducible refine st ?_;refine ln ?_
   refine⟨rfl,.inl ⟨?_,?_,s,left,a5,Lc,Z,W,b2,cc.out,cj.out,cv,c7,an.out,al.out⟩⟩
   ·exact At.eval At.self (by simp;exact K▸(by decide:13<44))
   ·refine bb.out.trans (vs:=fun i=>i==12||i==13) ?_ ζ
    (repeat (first|with_reducible apply aE.put|with_reducible apply aE.set))<;>first|with_reducible exact aE.refl _ _|rfl
 ·rintro m Q w2 ⟨R,s,left,cnt,Lc,Z,W,c3,V,l,E,C,X,I⟩
  have dk:aW s:=by
   have O:=kU f s;rw[W]at O;obtain⟨q,hq⟩:=List.exists_mem_of_length_pos (of_decide_eq_true O.symm);exact b5 _ (iT.1 hq)
  obtain⟨A,c,hv,bp⟩:=uf (by rw[List.length_map];exact(M3.out s Z).2.1);rw[List.length_map]at hv bp;have Y:=(M3.out s Z).2.1;have J:=Y.keep C (fun k hk e=>by subst e;have:=(Y.lt _ hk).1;omega);have a7:(ab f s).length≤4194304:=by have:=ud f s;omega
  have ac:=R.Q7 aa rfl;have dt:=R.Q7 h0 rfl;have K:Q.tmps.size=44:=R.size.trans a9;rw[hv]at V J;have cm:=hh J;have HR:=hh l;have af:=hh E;have ad:=hh C;have an:=hh X;have al:=hh I;have bb:=hh R;clear E C X I R l a4 be bd h h0 m1 U Y J hv aa;obtain⟨N,bf⟩:∃n,n=(ab f s).length:=⟨_,rfl⟩;rw[←bf]at V bp a7;have cf:=hh bf;clear bf;refine so (fun a2 w3=>aE (fun i=>i==14||i==15||i==16||i==4||i==5) Q a2∧At a2 4 (.string s)∧At a2 5 (.slice A N c)∧w3=w2) ?_ ?_
  ·obtain⟨T,d⟩:=Q
   refine rl ?_
   iterate 5 with_reducible refine st ?_
   with_reducible refine ln ?_
   refine⟨rfl,ag,aq,aq,rfl⟩
  rintro a2 w3 ⟨bc,d0,d1,rfl⟩;have cx:=cf.out;subst cx;refine xI HN.out af.out a2 (bc.size.trans K) (bc.Q7 dt rfl) dk d0 d1 bp a7 (fun d7=>?_) _ (fun a3 w4 cu cw bo=>?_)
  ·rcases cm.out.2 with⟨e1,e2⟩|⟨g,ea,cs,e1,hg,hh,d4,_,ee,ds⟩
   ·omega
   ·cases e1
    refine⟨g,rfl,aH hh,χ,fun j y hy=>?_⟩;have h3:cs.toList[j]?=some (.int .i64 y):=by
     have h4:((ab f s).map (Value.int .i64))[j]?=some (.int .i64 y):=by rw[List.getElem?_map,hy];rfl
     rw[←ds,List.getElem?_take]at h4;split at h4
     ·exact h4
     ·cases h4
    rw[cell_of_row _ _ _ _ _ _ hh]
    simpa using h3
  refine⟨⟨(bb.out.t bc).t cu,_,cnt,cH named s (ab f s)++Lc,mj HR.out bo bw b4,by rw[List.append_assoc];exact cw,ad.out.trans bo (fun _ _ e=>e),fun kl b0=>an.out kl (by simp at b0;exact b0.1),fun p=>?_⟩,?_⟩
  ·simp only[List.mem_append,al.out]
   constructor
   ·rintro(O|⟨u,O,h2,h3⟩)
    ·exact⟨s,Z,by rw[WideAt.sameKey_self (kQ s)];simp,O⟩
    ·exact⟨u,O,by simp[h2],h3⟩
   ·rintro⟨u,O,h2,h3⟩
    by_cases hus:u=s
    ·subst hus;exact .inl h3
    ·refine .inr ⟨u,O,?_,h3⟩
     have c9:(key u).sameKey (key s)=false:=by
      rw[Bool.eq_false_iff];exact fun e=>hus (nR (WideAt.sameKey_eq e))
     simpa[c9]using h2
  ·have h5:=(mj HR.out bo bw b4).left_eq
   show w4.rangeLeft b w.heap.size<m;rw[h5];exact c3
 ·rintro Q w2 ⟨hd,Lc,E,C,I⟩
  refine ec rfl hd ⟨rfl,E.congr fun p=>?_,C⟩;simp only[List.mem_append,I,sV];constructor
  ·rintro(⟨s,_,h⟩|h)
   ·exact .inl ⟨s,h⟩
   ·exact .inr h
  ·rintro(⟨s,h⟩|h)
   ·refine .inl ⟨s,?_,h⟩
    by_cases hz:ab f s=[]
    ·rw[hz]at h;simp[cH,cY]at h
    ·obtain⟨q,hq⟩:=List.exists_mem_of_ne_nil _ hz
     have:=b5 _ (iT.1 hq);unfold aW at this;unfold maxLen;show s.size≤_;have e:((s,q):Nm).1=s:=rfl;rw[e]at this;omega
   ·exact .inr h
def dV(x:Sp):List Value:=[.int .u64 x.1,.int .u64 x.2]
theorem sM(a b:Nat)(w:World):Calls Tryz.prog 112 #[.agg #[.int .u64 a,.int .u64 b]] w fun e w'=>e=.returned (.bool (decide (b<a)))∧Kz w w':=by
 go_enter Tryz.func112,Tryz.ntmps112
 go_wp2
 go_ret
 exact⟨rfl,(aD.refl _ _).alloc _⟩
def aK(w:World)(pb:Nat)(u:Value)(l:List Sp):Prop:=
 ∃A c,u=.slice A l.length c∧l.length≤c∧l.length≤4194304∧(0<l.length→∃g,A=some ⟨g,0,none⟩∧g<w.heap.size∧g≠pb ∧
  ∀(i:Nat) (s:Sp),l[i]?=some s→w.cell? ⟨g,i*2,none⟩=some (.int .u64 s.1)∧w.cell? ⟨g,i*2+1,none⟩=some (.int .u64 s.2)∧s.1<lim∧s.2<lim)
theorem aK.keep{w':World}(h:aK w pb u l)(hk:aD (fun k=>k=pb) w w'):aK w' pb u l:=by
 obtain⟨A,c,e,x,y,B⟩:=h;refine⟨A,c,e,x,y,fun v=>?_⟩;obtain⟨g,e,d,j,C⟩:=B v;refine⟨g,e,Nat.lt_of_lt_of_le d hk.size,j,fun i s D=>?_⟩;obtain⟨c1,c2,q⟩:=C i s D;exact⟨(hk.cell (p:=⟨g,i*2,none⟩) d j).trans c1,(hk.cell (p:=⟨g,i*2+1,none⟩) d j).trans c2,q⟩
theorem xC{P:Program}{b b2 t:Nat}{R1 body:Code}{Q:Exit→Act→World→Prop}{a:Act}(I:Act→World→Prop)(μ:Act→World→Nat)(J:Nat→Act→World→Prop)(Done:Act→World→Prop)(q:I a w)
 (u:∀a w,I a w→R1.wp P (jx fun d w'=>(d.eval (.tmp t)=.bool true∧J (μ a w) d w')∨(d.eval (.tmp t)=.bool false∧Done d w')) a w)
 (B:∀m a w,J m a w→body.wp P (jx fun d w'=>I d w'∧μ d w'<m) a w)
 (C:∀a w,Done a w→Q .normal a w):
 (Code.block b (Code.loop (Code.seq (Code.seq R1 (Code.cond (.tmp t) .skip (.exit b))) (Code.block b2 body)))).wp P Q a w:=by
 refine wp_block (wp_loop I μ q ?_);intro a w x;refine wp_seq (wp_seq (Code.wp_only (u a w x) fun j l h=>?_))
 rcases h with⟨g,y⟩|⟨g,v⟩
 ·refine wp_cond_true g (wp_skip (wp_block (Code.wp_only (B _ j l y) fun D E hh=>?_)))
  exact hh
 ·refine wp_cond_false g (wp_exit ?_)
  show Exit.inBlock b Q (.exit b) j l;simp only[Exit.inBlock,if_true];exact C _ _ v
theorem qZ(h:fN l){i j:Nat}{s t:Sp}(y:i≤j)(v:l[i]?=some s)(q:l[j]?=some t):s.2≤t.2:=by
 rcases Nat.lt_or_ge i j with u|u
 ·obtain⟨d,w⟩:=List.getElem?_eq_some_iff.1 v
  obtain⟨g,x⟩:=List.getElem?_eq_some_iff.1 q;have:=List.pairwise_iff_getElem.1 h.apart i j d g u;have B:=h.some_ t (List.mem_of_getElem? q);rw[w,x]at this;omega
 ·have:i=j:=χ
  subst this;have:=Option.some.inj (v.symm.trans q);subst this;exact Nat.le_refl _
theorem Av(hu:aK w pb u l)(hl:fN l)(p:Nat)(hp:p<lim):
 Calls Tryz.prog 113 #[.agg #[u],.int .u64 p] w fun e w'=>(∃i:Nat,e=.returned (.int .i64 i)∧i≤l.length∧(∀j s,j<i→l[j]?=some s→s.2<p)∧∀s,l[i]?=some s→p≤s.2)∧Kz w w':=by
 obtain⟨A,c,rfl,hc,ca,y⟩:=hu;unfold lim at hp;refine bU Tryz.func113 Tryz.ntmps113 rfl ξ fun a L Q E=>?_
 have h0:At a 0 (.agg #[.slice A l.length c]):=E 0 _ rfl;have h1:At a 1 (.int .u64 p):=E 1 _ rfl;clear E
 conv=>arg 2;whnf
 refine so (fun a1 w1=>aE (fun i=>i==2||i==4) a a1∧At a1 2 (.pointer (some ⟨w.heap.size,0,none⟩))∧w1=w.alloc (.cells #[.slice A l.length c] 119)) ?_ ?_
 ·clear y
  obtain⟨T,d⟩:=a;refine rl ?_
  iterate 2 with_reducible refine st ?_
  with_reducible refine ln ?_
  refine⟨rfl,ag,aq,rfl⟩
 rintro a1 w1 ⟨ac,h2,af⟩;have a0:Kz w w1:=by rw[af];exact(aD.refl _ _).alloc _
 obtain⟨z,hz⟩:∃z,z=w.heap.size:=⟨_,rfl⟩;rw[←hz]at h2;have bf:w1.cell? ⟨z,0,none⟩=some (.slice A l.length c):=by rw[af,hz];exact aw w [.slice A l.length c] 119 0 _ rfl
 have bl:z<w1.heap.size:=by rw[af,hz];simp
 replace h1:=ac.Q7 h1 rfl;replace L:=ac.size.trans L;replace Q:=ac.defers.trans Q;clear ac h0 af hz;refine so (fun a2 w2=>aE (fun i=>i==8||i==9||i==10||i==5||i==6) a1 a2∧At a2 5 (.int .i64 (0:Nat))∧At a2 6 (.int .i64 l.length)∧w2=w1.drew) ?_ ?_
 ·clear y a0
  obtain⟨T,d⟩:=a1;refine wp_region_still_lit δ δ ?_
  iterate 5 with_reducible refine sl ?_
  with_reducible refine wpStill_nil ?_
  refine⟨rfl,?_,?_,?_,rfl⟩
  ·exact ag
  ·show At _ 5 (.int .i64 0)
   exact aq
  ·exact aq
 rintro a2 w2 ⟨O,h5,h6,al⟩;have a7:Kz w w2:=by rw[al];exact a0.drew
 have cv:w2.cell? ⟨z,0,none⟩=some (.slice A l.length c):=by rw[al];exact bf
 have cb:z<w2.heap.size:=by rw[al];exact bl
 replace h1:=O.Q7 h1 rfl;replace h2:=O.Q7 h2 rfl;replace L:=O.size.trans L;replace Q:=O.defers.trans Q;clear O al bf a0 bl w1;refine wp_seq (xC (t:=13)
  (fun H w'=>aE (fun i=>i==5||i==6||i==7||(rg 11 28 i)) a2 H∧w'=w2∧∃i j:Nat,At H 5 (.int .i64 i)∧At H 6 (.int .i64 j)∧i≤j∧j≤l.length∧(∀k s,k<i→l[k]?=some s→s.2<p)∧∀k s,j≤k→l[k]?=some s→p≤s.2)
  (fun H _=>(intOf (H.eval (.tmp 6))-intOf (H.eval (.tmp 5))).toNat)
  (fun m H w'=>aE (fun i=>i==5||i==6||i==7||(rg 11 28 i)) a2 H∧w'=w2∧∃i j:Nat,At H 5 (.int .i64 i)∧At H 6 (.int .i64 j)∧i<j∧m=j-i∧j≤l.length∧(∀k s,k<i→l[k]?=some s→s.2<p)∧∀k s,j≤k→l[k]?=some s→p≤s.2)
  (fun H w'=>H.defers=[]∧H.tmps.size=30∧w'=w2∧∃i:Nat,At H 5 (.int .i64 i)∧i≤l.length∧(∀k s,k<i→l[k]?=some s→s.2<p)∧∀k s,i≤k→l[k]?=some s→p≤s.2)
  ⟨aE.refl _ _,rfl,0,l.length,h5,h6,Nat.zero_le _,Nat.le_refl _,fun k s hk _=>χ,fun k s hk hs=>by have:=(List.getElem?_eq_some_iff.1 hs).1;omega⟩ ?_ ?_ ?_)
 ·rintro Z w3 ⟨V,rfl,i,j,J,N,bt,ad,C,B⟩
  have U:=V.size.trans L;have a9:=V.defers.trans Q;have e5:=J.eval χ;have e6:=N.eval χ;have Y:=hh C;have X:=hh B;have HA:=hh V;obtain⟨t,ht⟩:∃b,decide (i<j)=b:=⟨_,rfl⟩;clear C B V y;refine Code.wp_only (R:=fun I w4=>aE (fun i=>i==11||i==12||i==13) Z I∧At I 13 (.bool t)∧w4=w3) ?_ ?_
  ·clear e5 e6
   obtain⟨T,d⟩:=Z;refine rl ?_
   iterate 3 with_reducible refine st ?_
   with_reducible refine ln ?_
   refine⟨rfl,ag,aq,rfl⟩
  rintro I w4 ⟨v,b4,rfl⟩;have a8:=b4.eval (by have:=v.size;omega);have hm:(intOf (Z.eval (.tmp 6))-intOf (Z.eval (.tmp 5))).toNat=j-i:=by rw[e5,e6];simp[intOf]<;>omega
  rw[hm];refine⟨rfl,?_⟩
  cases t with
  | true=>exact .inl ⟨a8,HA.out.t v,rfl,i,j,v.Q7 J rfl,v.Q7 N rfl,of_decide_eq_true ht,rfl,ad,Y.out,X.out⟩
  | false =>
   have:i=j:=by have:=of_decide_eq_false ht;omega
   subst this;exact .inr ⟨a8,v.defers.trans a9,v.size.trans U,rfl,i,v.Q7 J rfl,ad,Y.out,X.out⟩
 ·rintro m Z w3 ⟨V,rfl,i,j,J,N,bt,hm,ad,C,B⟩
  have U:=V.size.trans L;have k1:=V.Q7 h1 rfl;have k2:=V.Q7 h2 rfl;obtain⟨q,hq⟩:∃q,q=(i+j) / 2:=⟨_,rfl⟩;have cm:i≤q:=χ
  have cp:q<j:=χ
  obtain⟨s,hs⟩:∃s,l[q]?=some s:=⟨_,Ez χ⟩;obtain⟨g,rfl,bs,_,bb⟩:=y χ;obtain⟨c1,c2,c3,c4⟩:=bb q s hs;have q1:w3.cell? ⟨g,q*2+1,none⟩=some (.int .u64 s.2):=(a7.cell (p:=⟨g,q*2+1,none⟩) bs (fun h=>h)).trans c2;have cd:g<w3.heap.size:=by have:=a7.size;omega
  unfold lim at c4;have bc:((i:Int)+(j:Int)) / 2=(q:Int):=χ
  have bx:((i:Int)+(j:Int)).tdiv 2=(q:Int):=by rw[Int.tdiv_eq_ediv_of_nonneg χ];exact bc
  have b0:IntKind.i64.wrap ((i:Int)+(j:Int))=(i:Int)+(j:Int):=i64_in _ χ;have bz:IntKind.i64.wrap (q:Int)=(q:Int):=i64_in _ χ;have cu:IntKind.i64.wrap ((q:Int)+1)=(q:Int)+1:=i64_in _ χ;have cs:q<l.length:=χ
  have b1:decide ((i:Int)+(j:Int) = -9223372036854775808)=false:=decide_eq_false χ;have cj:q≤c:=χ
  have Y:=hh C;have X:=hh B;have HA:=hh V;have HS:=hh hs;have HM:=hh hm;clear C B V y bb c1 c2 hq hs hm;refine so (fun I w4=>aE (fun i=>i==14||i==15||i==16||i==17||i==7) Z I∧At I 7 (.int .i64 q)∧w4=w3) ?_ ?_
  ·obtain⟨T,d⟩:=Z
   refine rl ?_
   iterate 5 with_reducible refine st ?_
   with_reducible refine ln ?_
   refine⟨rfl,ag,aq,rfl⟩
  rintro I w4 ⟨v,k7,rfl⟩;clear bc bx b0 bz b1;have bd:=v.size.trans U;have j1:=v.Q7 k1 rfl;have j2:=v.Q7 k2 rfl;have j5:=v.Q7 J rfl;have j6:=v.Q7 N rfl;obtain⟨t,ht⟩:∃b,decide (s.2<p)=b:=⟨_,rfl⟩;refine so (fun a5 w5=>aE (fun i=>rg 18 25 i) I a5∧At a5 25 (.bool t)∧w5=w4) ?_ ?_
  ·clear k1 k2 J N v
   obtain⟨T,d⟩:=I;refine rl ?_
   iterate 8 with_reducible refine st ?_
   with_reducible refine ln ?_
   refine⟨rfl,ag,aq,rfl⟩
  rintro a5 w5 ⟨K,bm,rfl⟩;have an:=K.size.trans bd;have aa:=bm.eval χ;have l5:=K.Q7 j5 rfl;have l6:=K.Q7 j6 rfl;have l7:=K.Q7 k7 rfl;have W:=hh (HA.out.trans ((v.mono (by intro j;simp;omega:∀x,_→(fun i=>i==7||(rg 14 25 i)) x=true)).t K) ζ);clear v K k1 k2 J N k7 j1 j2 j5 j6 bm
  cases t with
  | true =>
   refine wp_cond_true aa ?_;have cf:s.2<p:=of_decide_eq_true ht;refine Code.wp_only (R:=fun a6 w6=>aE (fun i=>i==26||i==27||i==5) a5 a6∧At a6 5 (.int .i64 ((q:Int)+1))∧w6=w5) ?_ ?_
   ·clear aa W
    obtain⟨T,d⟩:=a5;refine rl ?_
    iterate 3 with_reducible refine st ?_
    with_reducible refine ln ?_
    refine⟨rfl,ag,aq,rfl⟩
   rintro a6 w6 ⟨D,J,rfl⟩;have N:=D.Q7 l6 rfl;have be:=D.size.trans an;have e5:=J.eval χ;have e6:=N.eval χ;have b5:At a6 5 (.int .i64 ((q+1:Nat):Int)):=by rw[show((q+1:Nat):Int)=(q:Int)+1 by omega];exact J
   refine⟨rfl,⟨W.out.t D,rfl,q+1,j,b5,N,χ,ad,fun k u hk hu=>?_,X.out⟩,?_⟩
   ·have:=qZ hl (by omega:k≤q) hu HS.out;omega
   ·rw[e5,e6,HM.out];simp[intOf];omega
  | false =>
   refine wp_cond_false aa ?_;have cc:¬ s.2<p:=of_decide_eq_false ht;refine Code.wp_only (R:=fun a6 w6=>aE (fun i=>i==28||i==6) a5 a6∧At a6 6 (.int .i64 q)∧w6=w5) ?_ ?_
   ·clear aa W
    obtain⟨T,d⟩:=a5;refine rl ?_
    iterate 2 with_reducible refine st ?_
    with_reducible refine ln ?_
    refine⟨rfl,ag,aq,rfl⟩
   rintro a6 w6 ⟨D,N,rfl⟩;have J:=D.Q7 l5 rfl;have be:=D.size.trans an;have e5:=J.eval χ;have e6:=N.eval χ;refine⟨rfl,⟨W.out.t D,rfl,i,q,J,N,χ,χ,Y.out,fun k u hk hu=>?_⟩,?_⟩
   ·have:=qZ hl hk HS.out hu;omega
   ·rw[e5,e6,HM.out];simp[intOf];omega
 ·rintro Z w3 ⟨bo,b2,rfl,i,J,bw,C,B⟩
  with_reducible apply bT
  refine so (fun I w4=>At I 4 (.int .i64 i)∧I.tmps.size=30∧I.defers=[]∧w4=w3) ?_ ?_
  ·clear y C B
   obtain⟨T,d⟩:=Z;refine rl ?_
   iterate 2 with_reducible refine st ?_
   with_reducible refine ln ?_
   refine⟨rfl,?_,by simpa using b2,bo,rfl⟩;exact aq
  rintro I w4 ⟨h4,b3,bp,rfl⟩;exact wp_ret (bv (t:=4) rfl h4 (by rw[b3];decide) bp ⟨⟨i,rfl,bw,C,fun s hs=>B i s (Nat.le_refl _) hs⟩,a7⟩)
def ci(w:World)(b n:Nat)(z:Value)(F:ByteArray→Value)(p:ByteArray→Bool):Prop:=
 ∃D,w.ownsMap Tryz.prog 9 eE b n D∧∀s:ByteArray,s.size≤maxLen→D.atKey (key s) (.held z)=.held (F s)∧Go.Maps.has D (key s)=p s
namespace ci
variable {w w':World} {b n:Nat} {z:Value} {F:ByteArray→Value} {p:ByteArray→Bool}
theorem lt(h:ci w b n z F p):b<w.heap.size:=by obtain⟨D,d,_⟩:=h;exact d.lt
theorem keep{S:Nat→Prop}(h:ci w b n z F p)(hk:aD S w w')(j:¬ S b):ci w' b n z F p:=by
 obtain⟨D,d,g⟩:=h;exact⟨D,ku d hk j,g⟩
theorem new(w:World)(b:Nat)(z:Value)(h:w.heap[b]?=some (.map #[] 0)):ci w b 0 z (fun _=>z) (fun _=>false):=by
 exact⟨.map [],⟨#[],0,h,⟨ξ,Go.MapKept.stamped_empty 0,ξ⟩,Nat.le_refl _,rfl⟩,fun s _=>⟨rfl,rfl⟩⟩
theorem run(h:ci w b n z F p){t e:TypeId}(x:Tryz.prog.underlying t=some (.map 9 e))(y:∀w,(zeroValue e).run Tryz.prog w=.ok z w){s:ByteArray}(g:s.size≤maxLen):
 (Instr.lookup t (.map (some b)) (.string s) false).run Tryz.prog w=.ok (F s) w:=by
 obtain⟨D,q,u⟩:=h;obtain⟨v,B,d,j⟩:=q.lookup Tryz.law9 x (y w) (zd := .held z) (zp:=[]) rfl (Go.WideMaps.keyOf_string_mk Tryz.underlying9 g);have l:(DataW.held v:DataW Value)=.held (F s):=by
  simp only[eE,Option.some.injEq,Prod.mk.injEq]at j;rw[←(u s g).1];exact j.1
 rw[d,DataW.held.inj l]
theorem lookup{P:Program}(y:P=Tryz.prog)(h:ci w b n z F p){ops:Array Oper}{rest:List Oper}{o:Oper}{a:Act}{Q:Exit→Act→World→Prop}
 (B:o.guard=none){m x:Operand}{t e:TypeId}(d:o.op=Op.lookup t m x false)(E:P.underlying t=some (.map 9 e))(I:∀w,(zeroValue e).run P w=.ok z w)
 (C:a.eval m=.map (some b)){s:ByteArray}(H:a.eval x=.string s)(g:s.size≤maxLen)(u:wpList P ops Q rest (a.put o.dst (F s)) w):wpList P ops Q (o::rest) a w:=by
 subst y;obtain⟨D,l,q⟩:=h;refine dp _ B m x t d 9 e Tryz.law9 E z (I w) b n D C l _ (key s) H (Go.WideMaps.keyOf_string_mk Tryz.underlying9 g) fun v j=>?_
 rw[(q s g).1]at j;rw[←DataW.held.inj j];exact u
theorem update{P:Program}(E:P=Tryz.prog)(h:ci w b n z F p)(J:n<maxLen){ops:Array Oper}{rest:List Oper}{o:Oper}{a:Act}{Q:Exit→Act→World→Prop}
 (H:o.guard=none){m x u:Operand}{t e:TypeId}(q:o.op=Op.mapUpdate t m x u)(y:P.underlying t=some (.map 9 e))
 (I:a.eval m=.map (some b)){s:ByteArray}(N:a.eval x=.string s)(K:s.size≤maxLen){v:Value}(L:a.eval u=v)
 (C:∀w',ci w' b (n+1) z (fun t=>if t=s then v else F t) (fun t=>decide (t=s)||p t)→aD (fun k=>k=b) w w'→wpList P ops Q rest (a.put o.dst undef) w'):wpList P ops Q (o::rest) a w:=by
 subst E;obtain⟨D,j,B⟩:=h;refine wpList_mapUpdate_own _ H m x u t q 9 e Tryz.law9 y eE b n D I j J _ _ (key s) N L (Go.WideMaps.keyOf_string_mk Tryz.underlying9 K) _ [] rfl fun w' g l=>C w' ⟨_,g,fun t y=>?_⟩ (aD.of_grown l (fun k e=>by cases e;rfl))
 obtain⟨O,R⟩:=B t y
 by_cases hts:t=s
 ·subst hts
  exact⟨by show _=DataW.held (if t=t then v else F t);rw[if_pos rfl];exact Go.Maps.atKey_put_same j.isMap (kQ t) _ _,by rw[Go.Maps.has_put_same j.isMap (kQ t)];simp⟩
 ·have d:key t≠key s:=fun e=>hts (nR e)
  exact⟨by show _=DataW.held (if t=s then v else F t);rw[if_neg hts];exact(Go.Maps.atKey_put_other d _ _).trans O,by rw[Go.Maps.has_put_other d,R];simp[hts]⟩
theorem lookup_ok{P:Program}(B:P=Tryz.prog)(h:ci w b n z F p){ops:Array Oper}{rest:List Oper}{o:Oper}{a:Act}{Q:Exit→Act→World→Prop}
 (C:o.guard=none){m x:Operand}{t e:TypeId}(d:o.op=Op.lookup t m x true)(H:P.underlying t=some (.map 9 e))(J:∀w,(zeroValue e).run P w=.ok z w)
 (E:a.eval m=.map (some b)){s:ByteArray}(I:a.eval x=.string s)(g:s.size≤maxLen)(y:wpList P ops Q rest (a.put o.dst (.tuple #[F s,.bool (p s)])) w):wpList P ops Q (o::rest) a w:=by
 subst B;obtain⟨D,u,j⟩:=h;refine wpList_lookup_own_ok _ C m x t d 9 e Tryz.law9 H eE (J w) (.held z) [] rfl b n D E u _ (key s) I (Go.WideMaps.keyOf_string_mk Tryz.underlying9 g) fun v K l=>?_
 have q:(DataW.held v:DataW Value)=.held (F s):=by
  simp only[eE,Option.some.injEq,Prod.mk.injEq]at l;rw[←(j s g).1];exact l.1
 rw[DataW.held.inj q,(j s g).2];exact y
end ci
def yj(t:iB):Value := .agg #[.int .u64 t.size,.bool t.big,.bool t.wx]
theorem wA(w:World):(zeroValue 178).run Tryz.prog w=.ok (.agg #[.int .u64 0,.bool false,.bool false]) w:=δ
def gC(w:World)(b:Nat)(P:aF):Prop:=∃n,ci w b n (.agg #[.int .u64 0,.bool false,.bool false]) (fun s=>yj (aR P s)) (fun s=>(eC P s).isSome)
def pK:Prop:=∀{B:Nat} {w:World} {v:aY} {P:aF},ax B w v P→B≤w.heap.size→Calls Tryz.prog 65 #[.agg (v.cells P).toArray] w fun e w'=>∃mb,e=.returned (.map (some mb))∧w.heap.size≤mb∧mb<w'.heap.size∧gC w' mb P∧Kz w w'
theorem rh{B:Nat}{w:World}{v:aY}{P:aF}(h:ax B w v P)(s:ByteArray):(aR P s).size<lim:=by
 unfold aR eC;split
 ·rename_i x g
  have g:=List.mem_of_find?_eq_some g;obtain⟨A,c,_,_,_,j⟩:=h.Q3;obtain⟨q,off,_,_,d⟩:=j (List.length_pos_of_mem g);obtain⟨k,hk⟩:=List.getElem?_of_mem g;exact(d k x hk).2.2.1
 ·cases hd:P.Q5.find? (fun x=>decide (x.name=s))with
  | none=>simp
  | some x =>
   have g:=List.mem_of_find?_eq_some hd;obtain⟨A,c,_,_,_,j⟩:=h.Q5;obtain⟨q,off,_,_,d⟩:=j (List.length_pos_of_mem g);obtain⟨k,hk⟩:=List.getElem?_of_mem g;obtain⟨D,C,_,y,u,l,_⟩:=d k x hk;exact l
theorem Db{B:Nat}{w:World}{u:Value}{l:List Ck.Map}(h:aL B 5 dO w u l):∀x∈l,x.Ok:=by
 intro x g;obtain⟨A,c,_,_,_,j⟩:=h;obtain⟨q,off,_,_,d⟩:=j (List.length_pos_of_mem g);obtain⟨k,hk⟩:=List.getElem?_of_mem g;exact(d k x hk).2
def uD(x:Nat):Lit := .int .u64 x
def de(k:TypeId)(w:World)(b n:Nat)(S:List Nat):Prop:=
 ∃D,w.ownsMap (H:=Value) Tryz.prog k unitElem b n D∧S.Nodup∧Go.Maps.size D=S.length∧∀x,x<lim→(Go.Maps.has D (uD x)=true↔x∈S)
namespace de
variable {k:TypeId} {w w':World} {b n:Nat} {S:List Nat}
theorem lt(h:de k w b n S):b<w.heap.size:=by obtain⟨D,d,_⟩:=h;exact d.lt
theorem keep{T:Nat→Prop}(h:de k w b n S)(hk:aD T w w')(q:¬ T b):de k w' b n S:=by
 obtain⟨D,⟨g,c,d,j⟩,l⟩:=h;exact⟨D,⟨g,c,(hk.block b (aH d) q).trans d,j⟩,l⟩
theorem mono{d:Nat}(h:de k w b n S)(x:n≤d):de k w b d S:=by
 obtain⟨D,⟨g,c,j,l,q,u⟩,v⟩:=h;exact⟨D,⟨g,c,j,l,Nat.le_trans q x,u⟩,v⟩
theorem new(k:TypeId)(w:World)(b:Nat)(h:w.heap[b]?=some (.map #[] 0)):de k w b 0 []:=
 ⟨.map [],⟨#[],0,h,⟨ξ,Go.MapKept.stamped_empty 0,ξ⟩,Nat.le_refl _,rfl⟩,List.nodup_nil,rfl,fun x _=>by simp[Go.Maps.has]⟩
theorem Bc(x:Nat):WideAt.IsKeyLit (uD x):=by unfold uD;trivial
theorem zK{x y:Nat}(h:uD x=uD y):x=y:=by
 unfold uD at h
 injection h with _ h
 omega
def add(S:List Nat)(x:Nat):List Nat:=if x∈S then S else x::S
theorem mem_add{S:List Nat}{x y:Nat}:y∈add S x↔y=x∨y∈S:=by
 unfold add;split
 ·rename_i h
  exact⟨.inr,fun e=>e.elim (fun e=>e▸h) id⟩
 ·simp
theorem update{P:Program}(J:P=Tryz.prog)(h:de k w b n S)(K:Go.Maps.Keyed Tryz.prog k)(N:Tryz.prog.underlying k=some (.int .u64))(B:n<maxLen){ops:Array Oper}{rest:List Oper}{o:Oper}{a:Act}{Q:Exit→Act→World→Prop}
 (L:o.guard=none){m x u:Operand}{t e:TypeId}(C:o.op=Op.mapUpdate t m x u)(R:P.underlying t=some (.map k e))
 (d:a.eval m=.map (some b)){y:Nat}(V:a.eval x=.int .u64 y)(H:y<lim)(U:a.eval u=.agg #[])
 (I:∀w',de k w' b (n+1) (add S y)→aD (fun k=>k=b) w w'→wpList P ops Q rest (a.put o.dst undef) w'):wpList P ops Q (o::rest) a w:=by
 subst J;obtain⟨D,l,g,O,q⟩:=h;have E:(Lit.int .u64 (y:Int)).wf=true:=by
  have X:IntKind.u64.min=0:=rfl;have Y:IntKind.u64.max=18446744073709551615:=rfl;unfold lim at H;simp only[Lit.wf,Bool.and_eq_true,decide_eq_true_eq];omega
 refine wpList_mapUpdate_own _ L m x u t C k e K R unitElem b n D d l B _ _ (uD y) V U (Go.Maps.keyOf_int_mk N E) _ [] unitElem_mk fun w' j v=>I w' ⟨_,j,?_,?_,fun z W=>?_⟩ (aD.of_grown v (fun k e=>by cases e;rfl))
 ·unfold add
  split
  ·exact g
  ·rename_i B;exact List.nodup_cons.2 ⟨B,g⟩
 ·rw[Go.Maps.size_put (l.tidy K),O]
  unfold add
  by_cases d:y∈S
  ·rw[if_pos ((q y H).2 d),if_pos d]
  ·rw[if_neg (fun e=>d ((q y H).1 e)),if_neg d];rfl
 ·rw[mem_add]
  by_cases hzy:z=y
  ·subst hzy
   rw[Go.Maps.has_put_same l.isMap (Bc z)];simp
  ·rw[Go.Maps.has_put_other (fun e=>hzy (zK e)),q z W]
   simp[hzy]
theorem len{P:Program}(l:P=Tryz.prog)(h:de k w b n S){ops:Array Oper}{rest:List Oper}{o:Oper}{a:Act}{Q:Exit→Act→World→Prop}(q:o.guard=none){m:Operand}{t e:TypeId}
 (d:o.op=Op.call { callee:=Callee.builtin Builtin.len,args := #[m],argTypes := #[t] })(x:P.underlying t=some (.map k e))(u:a.eval m=.map (some b))
 (j:wpList P ops Q rest (a.put o.dst (.int .i64 S.length)) w):wpList P ops Q (o::rest) a w:=by
 subst l;obtain⟨D,g,_,v,_⟩:=h;exact wpList_len_own _ q m t d k e x unitElem b n D u g (by rw[v];exact j)
end de
end
section
open Go.RowKit Go.IntWalk Ck
open Classical in
noncomputable def dD(l:List Sp)(a b:Nat):Bool:=decide (∀p,a≤p→p≤b→aj l p)
theorem jc{l:List Sp}{a b:Nat}:dD l a b=true↔∀p,a≤p→p≤b→aj l p:=by unfold dD;simp
theorem vZ{w:World}{pb:Nat}{u:Value}{l:List Sp}(hu:aK w pb u l)(hl:fN l)(a b:Nat)(ha:a<lim)(hb:b<lim)(bp:pb<w.heap.size):
 Calls Tryz.prog 61 #[.agg #[u],.agg #[.int .u64 a,.int .u64 b]] w fun e w'=>e=.returned (.bool (dD l a b))∧Kz w w':=by
 unfold lim at ha hb;refine bU Tryz.func61 Tryz.ntmps61 rfl ξ fun ac aa Y B=>?_
 have h0:At ac 0 (.agg #[u]):=B 0 _ rfl;have h1:At ac 1 (.agg #[.int .u64 a,.int .u64 b]):=B 1 _ rfl;clear B;obtain⟨A,c,rfl,hc,a6,q⟩:=hu
 conv=>arg 2;whnf
 refine so (fun a1 N=>aE (fun i=>i==2||i==3||i==4) ac a1∧At a1 2 (.pointer (some ⟨w.heap.size,0,none⟩))∧At a1 3 (.pointer (some ⟨w.heap.size+1,0,none⟩))∧N=(w.alloc (.cells #[.slice A l.length c] 119)).alloc (.cells #[.int .u64 a,.int .u64 b] 125)) ?_ ?_
 ·clear q
  obtain⟨T,d⟩:=ac;refine rl ?_
  iterate 3 with_reducible refine st ?_
  with_reducible refine ln ?_
  refine⟨rfl,ag,aq,aq,rfl⟩
 rintro a1 N ⟨X,W,h3,C⟩;have Z:Kz w N:=by rw[C];exact((aD.refl _ _).alloc _).alloc _
 obtain⟨z,hz⟩:∃z,z=w.heap.size:=⟨_,rfl⟩;obtain⟨y,hy⟩:∃z,z=w.heap.size+1:=⟨_,rfl⟩;rw[←hz]at W;rw[←hy]at h3;have x0:N.cell? ⟨z,0,none⟩=some (.slice A l.length c):=by
  rw[C,hz];exact(((aD.refl (fun _=>False) _).alloc _).cell (p:=⟨w.heap.size,0,none⟩) ξ (fun h=>h)).trans (aw w [.slice A l.length c] 119 0 _ rfl)
 have y0:N.cell? ⟨y,0,none⟩=some (.int .u64 a):=by rw[C,hy];have:=aw (w.alloc (.cells #[.slice A l.length c] 119)) [.int .u64 a,.int .u64 b] 125 0 _ rfl;simpa using this
 have y1:N.cell? ⟨y,1,none⟩=some (.int .u64 b):=by rw[C,hy];have:=aw (w.alloc (.cells #[.slice A l.length c] 119)) [.int .u64 a,.int .u64 b] 125 1 _ rfl;simpa using this
 have zs:z<N.heap.size∧y<N.heap.size:=by rw[C,hz,hy];simp;omega
 replace aa:=X.size.trans aa;replace Y:=X.defers.trans Y;have a8:aK N pb (.slice A l.length c) l:=aK.keep (w:=w) ⟨A,c,rfl,hc,a6,q⟩ (Z.mono fun _ _ h=>h.elim);have HU:=hh a8;clear X h0 h1 C hz hy q a8;refine wp_seq (wp_seq (Code.wp_only (R:=fun a2 w2=>aE (fun i=>i==6||i==7) a1 a2∧At a2 7 (.bool (decide (b<a)))∧Kz N w2) ?_ ?_))
 ·obtain⟨T,d⟩:=a1
  refine rl ?_;with_reducible refine st ?_;refine Lz (fun K hK=>?_)
  go_simp;refine(sM a b N).mono ?_;rintro e w2 ⟨rfl,v⟩;with_reducible refine hK _ _ (ln ?_)
  refine⟨rfl,ag,aq,v⟩
 rintro a2 w2 ⟨E,k7,v⟩;have V:=E.size.trans aa;have U:=E.defers.trans Y;have e7:=k7.eval χ;have j2:=E.Q7 W rfl;have j3:=E.Q7 h3 rfl;have x0:=(v.cell (p:=⟨z,0,none⟩) zs.1 (fun h=>h)).trans x0;have y0:=(v.cell (p:=⟨y,0,none⟩) zs.2 (fun h=>h)).trans y0;have y1:=(v.cell (p:=⟨y,1,none⟩) zs.2 (fun h=>h)).trans y1;have O:z<w2.heap.size∧y<w2.heap.size:=⟨Nat.lt_of_lt_of_le zs.1 v.size,Nat.lt_of_lt_of_le zs.2 v.size⟩;have al:=hh (HU.out.keep (v.mono fun _ _ h=>h.elim));have af:=hh (Z.trans v (fun _ _ h=>h));clear E v Z k7 zs
 by_cases hba:b<a
 ·rw[decide_eq_true hba]at e7
  refine wp_cond_true e7 ?_;refine so (fun D Q=>At D 4 (.bool true)∧D.tmps.size=39∧D.defers=[]∧Q=w2) ?_ ?_
  ·obtain⟨T,d⟩:=a2
   refine rl ?_;with_reducible refine st ?_;refine ln ?_
   refine⟨rfl,?_,by simpa using V,U,rfl⟩;exact aq
  rintro D Q ⟨h4,bd,bb,rfl⟩;refine wp_ret ?_
  repeat (first|with_reducible apply bY|with_reducible apply bi)
  refine bv (t:=4) rfl h4 (by rw[bd];decide) bb ⟨?_,af.out⟩;have e:dD l a b=true:=jc.2 fun p h1 W=>χ
  rw[e]
 ·rw[decide_eq_false hba]at e7
  refine wp_cond_false e7 (wp_skip ?_)
  repeat with_reducible apply bT
  refine so (fun D Q=>aE (fun i=>i==5||(rg 8 11 i)) a2 D∧(∃i:Nat,At D 5 (.int .i64 i)∧i≤l.length∧(∀j s,j<i→l[j]?=some s→s.2<a)∧∀s,l[i]?=some s→a≤s.2)∧Kz w2 Q) ?_ ?_
  ·obtain⟨T,d⟩:=a2
   refine rl ?_
   iterate 3 with_reducible refine st ?_
   with_reducible refine Lz (fun K hK=>?_)
   go_simp;refine(Av al.out hl a (by unfold lim;omega)).mono ?_;rintro e Q ⟨⟨i,rfl,hi,h5,h6⟩,x⟩;with_reducible refine hK _ _ ?_;clear hK K
   have H5:=hh h5;have H6:=hh h6;clear h5 h6;with_reducible refine st ?_;refine ln ?_
   refine⟨rfl,ag,⟨i,aq,hi,H5.out,H6.out⟩,x⟩
  rintro D Q ⟨I,⟨i,k5,hi,a7,a0⟩,x⟩;have L:=I.size.trans V;have J:=I.defers.trans U;have l2:=I.Q7 j2 rfl;have l3:=I.Q7 j3 rfl;have x0:=(x.cell (p:=⟨z,0,none⟩) O.1 (fun h=>h)).trans x0;have y0:=(x.cell (p:=⟨y,0,none⟩) O.2 (fun h=>h)).trans y0;have y1:=(x.cell (p:=⟨y,1,none⟩) O.2 (fun h=>h)).trans y1;have bs:z<Q.heap.size∧y<Q.heap.size:=⟨Nat.lt_of_lt_of_le O.1 x.size,Nat.lt_of_lt_of_le O.2 x.size⟩;have bf:=al.out.keep (x.mono fun _ _ h=>h.elim);have ad:=hh (vY hl (by omega:a≤b) a7 a0);have a9:=hh (af.out.trans x (fun _ _ h=>h));obtain⟨_,_,e,_,_,q⟩:=bf
  cases e
  clear I x a7 a0 j2 j3
  suffices H:(Code.wp Tryz.prog (b9 Tryz.f61 [1,1,1,0]) (jx fun a4 w4=>At a4 4 (.bool (dD l a b))∧a4.tmps.size=39∧a4.defers=[]∧w4=Q.drew) D Q) from
   wp_seq (Code.wp_only H fun a4 w4 ⟨h4,be,bc,bm⟩=>wp_ret (bv (t:=4) rfl h4 (by rw[be];decide) bc ⟨rfl,by rw[bm];exact a9.out.drew⟩))
  conv=>arg 2;whnf
  by_cases hil:i<l.length
  ·obtain⟨s,hs⟩:=ge hil
   obtain⟨g,rfl,hg,_,an⟩:=q χ;obtain⟨c1,c2,c3,c4⟩:=an i s hs;unfold lim at c3 c4;have bo:i≤c:=χ
   obtain⟨b1,e1⟩:∃t,decide (s.1≤a)=t:=⟨_,rfl⟩;obtain⟨b2,e2⟩:∃t,decide (b≤s.2)=t:=⟨_,rfl⟩;have HV:Hid (dD l a b=(b1&&b2)):=by
    show dD l a b=_;rw[←e1,←e2,Bool.eq_iff_iff];rw[jc,ad.out];simp only[Bool.and_eq_true,decide_eq_true_eq];constructor
    ·rintro⟨t,ht,h1,W⟩
     have:=Option.some.inj (hs.symm.trans ht);subst this;exact⟨h1,W⟩
    ·rintro⟨h1,W⟩
     exact⟨s,hs,h1,W⟩
   have bl:=aX;have a5:decide (i<l.length)=true:=decide_eq_true hil;clear hs q an;obtain⟨T,d⟩:=D;refine wp_region_still_lit δ δ ?_
   cases b1
   ·skip
    iterate 28 with_reducible refine sl ?_
    with_reducible refine wpStill_nil ?_
    refine⟨rfl,?_,by simpa using L,J,rfl⟩;rw[show dD l a b=false from HV.out];exact aq
   ·skip
    iterate 28 with_reducible refine sl ?_
    with_reducible refine wpStill_nil ?_
    refine⟨rfl,?_,by simpa using L,J,rfl⟩;rw[show dD l a b=b2 from HV.out.trans (Bool.true_and _)];exact aq
  ·have HV:Hid (dD l a b=false):=by
    show dD l a b=_;rw[Bool.eq_false_iff,Ne,jc,ad.out];rintro⟨t,ht,_⟩;exact hil (List.getElem?_eq_some_iff.1 ht).1
   have bl:=aX;have a5:decide (i<l.length)=false:=decide_eq_false hil;clear q;obtain⟨T,d⟩:=D;refine wp_region_still_lit δ δ ?_
   iterate 28 with_reducible refine sl ?_
   with_reducible refine wpStill_nil ?_
   refine⟨rfl,?_,by simpa using L,J,rfl⟩;rw[show dD l a b=false from HV.out];exact aq
end
section
open Go.RowKit Go.IntWalk Ck
variable {B:Nat} {w:World}
def ml(c:Ck.b7)(y:ByteArray)(m:Ck.Map):Bool := !decide (m.of=c.over)||(decide (y=c.QE)||decide (y=c.to) && !m.write)
theorem zB(w:World):(zeroValue 3).run Tryz.prog w=.ok (.int .i64 0) w:=δ
theorem xM{M:Nat}{cnt0 n0:Nat}(hB:B≤M)(hM:M<w.heap.size)(a:Act)(eo:a.tmps.size=85){zc:Nat}{c:Ck.b7}(HC:Hid (∀w0,aD (fun k=>k=M) w w0→aM w0 zc 0 [.int .i64 c.pos,.string c.name,.string c.QE,.string c.to,.bool c.shared,.string c.over,.int .i64 c.how,.int .u64 c.QK]))(h3:At a 3 (.pointer (some ⟨zc,0,none⟩)))(h5:At a 5 (.map (some M)))
 {zy:Nat}{y:aZ}{A_rulesy:Option Addr}{O g:Nat}{A_mapsy:Option Addr}(HY:Hid (∀w0,aD (fun k=>k=M) w w0→aM w0 zy 0 [.int .i64 y.pos,.string y.name,.int .u64 y.QN,.bool y.stopped,.slice A_mapsy y.QA.length g,.slice A_rulesy y.QO.length O]))(h7:At a 7 (.pointer (some ⟨zy,0,none⟩)))(c5:y.name.size≤maxLen)
 (hs:aL B 5 dO w (.slice A_mapsy y.QA.length g) y.QA){n:Nat}{cnt:ByteArray→Nat}{p:ByteArray→Bool}{bz:ByteArray→Prop}(hn:n≤8796093022208)(hE:ci w M n (.int .i64 0) (fun s =>.int .i64 (cnt s)) p)(Y:∀s,cnt s≤n∧(0<cnt s↔bz s))(Q:Exit→Act→World→Prop)
 (hQ:∀a' w' (n':Nat) (q:ByteArray→Nat) p',aE (fun i=>i==4||i==9||(rg 23 56 i)) a a'→n'≤n+y.QA.length→ci w' M n' (.int .i64 0) (fun s =>.int .i64 (q s)) p'→(∀s,q s≤n'∧(0<q s↔(bz s∨(s=y.name∧∃m∈y.QA,m.of=c.over))))→(∀m∈y.QA,ml c y.name m=true)→aD (fun k=>k=M) w w'→Q .normal a' w')
 (hR:∀a' w',At a' 4 (.bool false)→a'.tmps.size=85→a'.defers=a.defers→(∃m∈y.QA,ml c y.name m=false)→aD (fun k=>k=M) w w'→Q .ret a' w'):
 (b9 Tryz.f100 [1,1,0,1,0,0,1,1,0,0,1]).wp Tryz.prog Q a w:=by
 have ff:=hs;obtain⟨_,_,e,fe,ee,hl⟩:=hs
 cases e
 unfold top at ee;have hq:=HY.out _ (aD.refl _ _) 4 _ rfl
 conv=>arg 2;whnf
 refine so (fun N w1=>aE (fun i=>(rg 23 26 i)) a N∧At N 24 (.slice A_mapsy y.QA.length g)∧At N 25 (.int .i64 y.QA.length)∧At N 26 (.int .i64 0)∧w1=w) ?_ ?_
 ·clear hl hE Y HC HY
  obtain⟨T,d⟩:=a;refine rl ?_
  iterate 4 with_reducible refine st ?_
  with_reducible refine ln ?_
  refine⟨rfl,ag,aq,aq,aq,rfl⟩
 rintro a0 w0 ⟨U,ew,eu,er,rfl⟩;have c6:a0.tmps.size=85:=U.size.trans eo;replace h3:=U.Q7 h3 rfl;replace h5:=U.Q7 h5 rfl;replace h7:=U.Q7 h7 rfl;refine bh y.QA.length (fun i=>i==4||i==9||(rg 26 56 i)) (fun i=>i==4||i==9||(rg 28 55 i)) (fun k _ w'=>∃(n':Nat) (q:ByteArray→Nat) (p':ByteArray→Bool),n'≤n+k∧ci w' M n' (.int .i64 0) (fun s =>.int .i64 (q s)) p'∧(∀s,q s≤n'∧(0<q s↔(bz s∨(s=y.name∧∃m∈y.QA.take k,m.of=c.over))))∧(∀m∈y.QA.take k,ml c y.name m=true)∧aD (fun k=>k=M) w0 w') χ er eu ψ rfl
  ζ χ ψ (fun k N Z w X hI=>hI) ⟨n,cnt,p,χ,hE,fun s=>⟨(Y s).1,by rw[(Y s).2];simp⟩,ξ,aD.refl _ _⟩ ?_ ?_
 ·rintro k N wr cx X es ⟨n1,l,p1,c4,ac,H,I,hk⟩
  obtain⟨bl,off,rfl,eb,bx⟩:=hl χ;obtain⟨m,J⟩:=ge cx;obtain⟨hc,e2⟩:=(aJ B _ _) _ _ _ _ _ (hk.below (B:=B) χ (fun _ hi e=>χ)) eb (bx k m J);have q0:=hc.c0;have q1:=hc 1 _ rfl;have q2:=hc 2 _ rfl;have q3:=hc 3 _ rfl;have q4:=hc 4 _ rfl;have dt:=X.Q7 h3 rfl;have d1:=X.Q7 h5 rfl;have d3:=X.Q7 h7 rfl;have d4:=X.Q7 ew rfl;have c7:N.tmps.size=85:=X.size.trans c6;have e1:=hk.size;have ez:bl<wr.heap.size:=χ
  have e0:k≤g:=χ
  have cu:N.defers=a0.defers:=X.defers;have HX:=hh J;have HK:=hh hk;have HA:=hh X;have HE:=hh ac;have L:=hh H;have cm:=hh I;have fd:=hh hE;have ey:=hh Y;have fc:=hh bx;have c3:m∈y.QA:=List.mem_of_getElem? J;clear J hk hc X bx ac H I hE Y hl;refine so (fun Z w2=>aE (fun i=>i==28||i==29||i==9) N Z∧At Z 9 (.pointer (some ⟨wr.heap.size,0,none⟩))∧w2=wr.alloc (Obj.cells #[.int .i64 m.pos,.string m.of,.int .u64 m.Q7,.bool m.write,.bool m.exec] 93)) ?_ ?_
  ·clear HC HY
   obtain⟨T,d⟩:=N;refine rl ?_
   iterate 4 with_reducible refine st ?_
   with_reducible refine ln ?_
   refine⟨rfl,ag,aq,rfl⟩
  rintro Z wo ⟨K,b3,af⟩;obtain⟨z,hz⟩:∃z,z=wr.heap.size:=⟨_,rfl⟩;rw[←hz]at b3;have b2:aM wo z 0 [.int .i64 m.pos,.string m.of,.int .u64 m.Q7,.bool m.write,.bool m.exec]:=by rw[af,hz];exact aw _ _ _
  have b1:Kz wr wo:=by rw[af];exact(aD.refl _ _).alloc _
  have fl:z≠M:=by have:=HE.out.lt;omega
  have fm:z<wo.heap.size:=by rw[af,hz];simp
  have ad:aD (fun k=>k=M) w0 wo:=HK.out.trans b1 (fun _ _ h=>h.elim);have a9:=hh (HE.out.keep b1 (fun h=>h));have xc:=HC.out _ ad;have xy:=HY.out _ ad;have a7:Z.tmps.size=85:=K.size.trans c7;have di:=K.Q7 dt rfl;have dk:=K.Q7 d1 rfl;have ds:=K.Q7 d3 rfl;have a6:Z.defers=a0.defers:=K.defers.trans cu;have cb:Hid (aE (fun i=>i==4||i==9||(rg 28 55 i)) N Z):=K.m;have bb:=hh ad;clear af hz b1 HE HK K ad q0 q1 q2 q3 q4 d4 es dt d1 d3;have e7:=b2 1 _ rfl;have ex:=b2 3 _ rfl;have e8:=xc 5 _ rfl;have e5:=xc 2 _ rfl;have e9:=xc 3 _ rfl;have e6:=xy 1 _ rfl;clear xc xy b2;obtain⟨bo,aa⟩:∃b,b=decide (m.of=c.over):=⟨_,rfl⟩;obtain⟨bf,bd⟩:∃b,b=decide (y.name=c.QE):=⟨_,rfl⟩;obtain⟨bt,be⟩:∃b,b=decide (y.name=c.to):=⟨_,rfl⟩;obtain⟨bw,bm⟩:∃b,b=m.write:=⟨_,rfl⟩;rw[←bm]at ex;have b4:(m.of.toList==c.over.toList)=bo:=by rw[aa];exact ba _ _
  have d7:(m.of.toList !=c.over.toList)=!bo:=by rw[←b4];rfl
  have b5:(y.name.toList==c.QE.toList)=bf:=by rw[bd];exact ba _ _
  have d8:(y.name.toList !=c.QE.toList)=!bf:=by rw[←b5];rfl
  have ca:(y.name.toList==c.to.toList)=bt:=by rw[be];exact ba _ _
  have d9:(y.name.toList !=c.to.toList)=!bt:=by rw[←ca];rfl
  have al:Hid (ml c y.name m=(!bo||(bf||bt && !bw))):=by rw[aa,bd,be,bm];rfl
  have cf:=hh aa;clear aa bd be bm;refine wp_seq (wp_seq (Code.wp_only (R:=fun a3 w3=>aE (fun i=>(rg 30 34 i)) Z a3∧At a3 34 (.bool (!bo))∧w3=wo) ?_ ?_))
  ·clear HC HY b5 d8 ca d9
   obtain⟨T,d⟩:=Z;refine rl ?_
   iterate 5 with_reducible refine st ?_
   with_reducible refine ln ?_
   refine⟨rfl,ag,aq,rfl⟩
  rintro a3 w3 ⟨D,d0,rfl⟩;have cs:=d0.eval (by rw[D.size,a7];decide);have a8:=D.size.trans a7;have c8:=D.Q7 di rfl;have c9:=D.Q7 dk rfl;have dc:=D.Q7 ds rfl;have eq:=D.Q7 b3 rfl;have cv:=D.defers.trans a6;have V:Hid (aE (fun i=>i==4||i==9||(rg 28 55 i)) N a3):=cb.out.t D;clear D di dk ds b3 cb a6
  cases bo
  ·refine wp_cond_true cs (wp_exit ?_)
   repeat with_reducible apply fV
   simp only[bq,if_true];have eg:m.of≠c.over:=of_decide_eq_false cf.out.symm;refine⟨V.out,n1,l,p1,χ,a9.out,fun s=>⟨(L.out s).1,?_⟩,?_,bb.out⟩
   ·rw[(L.out s).2,aP HX.out]
    simp[eg]
   ·rw[aP HX.out]
    intro x J
    rcases List.mem_append.1 J with J|J
    ·exact cm.out x J
    ·have e:x=m:=by simpa using J
     subst e;rw[al.out];rfl
  ·refine wp_cond_false cs (wp_skip ?_)
   with_reducible apply bT
   refine wp_seq (wp_seq (Code.wp_only (R:=fun a4 w4=>aE (fun i=>(rg 35 50 i)) a3 a4∧At a4 50 (.bool (!bf&&(!bt||bw)))∧w4=w3) ?_ ?_))
   ·clear HC HY b4 d7
    have fi:=aX;obtain⟨T,d⟩:=a3;refine rl ?_
    cases bf<;>cases bt<;>cases bw
    all_goals
     iterate 16 with_reducible refine st ?_
     with_reducible refine ln ?_
     refine⟨rfl,?_,?_,rfl⟩
     ·exact ag
     ·try simp only[Bool.not_true,Bool.not_false,Bool.true_and,Bool.false_and,Bool.true_or,Bool.false_or,Bool.or_true,Bool.or_false,Bool.and_true,Bool.and_false]
      exact aq
   rintro a4 w4 ⟨E,d2,rfl⟩;have bc:=d2.eval (by rw[E.size,a8];decide);have C:=E.size.trans a8;have fp:=E.Q7 c8 rfl;have fr:=E.Q7 c9 rfl;have fs:=E.Q7 dc rfl;have cw:=E.defers.trans cv;have cc:Hid (aE (fun i=>i==4||i==9||(rg 28 55 i)) N a4):=V.out.t E;clear E c8 c9 dc eq V;obtain⟨cp,W⟩:∃b,b=(!bf&&(!bt||bw)):=⟨_,rfl⟩;rw[←W]at bc;have an:ml c y.name m=!cp:=by rw[al.out,W];cases bf<;>cases bt<;>cases bw<;>rfl
   have cd:=hh an;clear an W b4 d7 b5 d8 ca d9
   cases cp
   ·refine wp_cond_false bc (wp_skip ?_)
    with_reducible apply bT
    have ed:=(L.out y.name).1;obtain⟨cy,bp⟩:∃u,u=l y.name:=⟨_,rfl⟩;rw[←bp]at ed;have cj:=hh bp;clear bp;refine Code.wp_only (R:=fun a5 w5=>aE (fun i=>(rg 51 55 i)) a4 a5∧ci w5 M (n1+1) (.int .i64 0) (fun t=>if t=y.name then .int .i64 ((cy:Int)+1)else .int .i64 (l t)) (fun t=>decide (t=y.name)||p1 t)∧aD (fun k=>k=M) w4 w5) ?_ ?_
    ·clear HC HY
     obtain⟨T,d⟩:=a4;refine rl ?_
     iterate 3 with_reducible refine st ?_
     refine ci.lookup rfl a9.out rfl rfl Tryz.underlying224 zB (At.eval (by exact aq) (by have:=C;simp at this⊢; omega)) (At.eval (by exact aq) (by have:=C;simp at this⊢; omega)) c5 ?_;rw[←cj.out];simp only[Act.put];have fk:IntKind.i64.wrap ((cy:Int)+1)=(cy:Int)+1:=IntWalk.i64_in _ χ;with_reducible refine st ?_
     refine ci.update rfl a9.out (by unfold maxLen;omega) rfl rfl Tryz.underlying224 (At.eval (by exact aq) (by have:=C;simp at this⊢; omega)) (At.eval (by exact aq) (by have:=C;simp at this⊢; omega)) c5 (v := .int .i64 ((cy:Int)+1)) (At.eval (by exact aq) (by have:=C;simp at this⊢; omega)) ?_;intro w5 bs b0;with_reducible refine ln ?_
     refine⟨rfl,?_,bs,b0⟩;simp only[Act.put]
     (repeat (first|with_reducible apply aE.put|with_reducible apply aE.set))<;>first|with_reducible exact aE.refl _ _|rfl
    rintro a5 w5 ⟨ea,bs,b0⟩;have en:m.of=c.over:=of_decide_eq_true cf.out.symm;refine⟨cc.out.t ea,n1+1,fun t=>if t=y.name then l y.name+1 else l t,fun t=>decide (t=y.name)||p1 t,χ,?_,fun s=>⟨?_,?_⟩,?_,bb.out.trans b0 (fun _ _ e=>e)⟩
    ·have e:(fun t=>if t=y.name then Value.int .i64 ((cy:Int)+1)else Value.int .i64 (l t))=fun t=>Value.int .i64 ((if t=y.name then l y.name+1 else l t:Nat):Int):=by
      funext t
      by_cases ht:t=y.name
      ·simp[ht,cj.out]
      ·simp[ht]
     rw[←e];exact bs
    ·by_cases hsy:s=y.name
     ·simp only[hsy,if_true];have:=(L.out y.name).1;omega
     ·simp only[hsy,if_false];have:=(L.out s).1;omega
    ·rw[aP HX.out]
     by_cases hsy:s=y.name
     ·simp only[hsy,if_true]
      exact⟨fun _ =>.inr ⟨trivial,m,ξ,en⟩,fun _=>χ⟩
     ·simp only[hsy,if_false]
      rw[(L.out s).2];simp[hsy]
    ·rw[aP HX.out]
     intro x J
     rcases List.mem_append.1 J with J|J
     ·exact cm.out x J
     ·have e:x=m:=by simpa using J
      subst e;exact cd.out
   ·refine wp_cond_true bc ?_
    refine so (fun a5 w5=>At a5 4 (.bool false)∧a5.tmps.size=85∧a5.defers=a4.defers∧w5=w4) ?_ ?_
    ·obtain⟨T,d⟩:=a4
     refine rl ?_;with_reducible refine st ?_;refine ln ?_
     refine⟨rfl,?_,?_,rfl,rfl⟩
     ·exact aq
     ·simpa using C
    rintro a5 w5 ⟨k4,k5,k6,rfl⟩;refine wp_ret ?_
    repeat with_reducible apply bi
    exact hR _ _ k4 k5 (k6.trans (cw.trans U.defers)) ⟨m,c3,cd.out⟩ bb.out
 ·rintro a' w' X ⟨n1,l,p1,c4,ac,H,I,hk⟩
  rw[List.take_length]at H I;exact hQ _ _ _ _ _ ((U.m).t X) c4 ac H I hk
theorem A8(m:Ck.Map)(c:Ck.b7)(d:Nat)(w:World)(h:d<w.heap.size)(q:w.cell? ⟨d,5,none⟩=some (.string c.over)):
 Calls Tryz.prog 126 #[.agg #[.int .i64 m.pos,.string m.of,.int .u64 m.Q7,.bool m.write,.bool m.exec],.pointer (some ⟨d,0,none⟩)] w fun e w'=>e=.returned (.bool (decide (m.of=c.over)))∧Kz w w':=by
 have g:(m.of.toList==c.over.toList)=decide (m.of=c.over):=ba _ _
 go_enter Tryz.func126,Tryz.ntmps126
 go_wp2
 go_ret
 exact⟨rfl,(aD.refl _ _).alloc _⟩
theorem vP{A:Option Addr}{cc:Nat}{l:List Ck.Map}(hs:aL B 5 dO w (.slice A l.length cc) l)(hB:B≤w.heap.size)(c:Ck.b7)(zc:Nat)(hz:zc<w.heap.size)(q:w.cell? ⟨zc,5,none⟩=some (.string c.over)):
 Calls Tryz.prog 150 #[.slice A l.length cc,.func (.func 126) #[] #[.pointer (some ⟨zc,0,none⟩)]] w fun e w'=>(∃i:Int,e=.returned (.int .i64 i)∧(0≤i↔∃m∈l,m.of=c.over))∧Kz w w':=by
 obtain⟨_,_,e,bw,be,hl⟩:=hs
 cases e
 unfold top at be;refine bU Tryz.func150 Tryz.ntmps150 rfl ξ fun a C y u=>?_
 have Y:At a 0 (.slice A l.length cc):=u 0 _ rfl;have U:At a 1 (.func (.func 126) #[] #[.pointer (some ⟨zc,0,none⟩)]):=u 1 _ rfl;clear u
 conv=>arg 2;whnf
 refine so (fun a1 w1=>aE (fun i=>i==4) a a1∧w1=w) ?_ ?_
 ·clear hl
  obtain⟨T,d⟩:=a;refine rl ?_;with_reducible refine st ?_;refine ln ?_
  refine⟨rfl,ag,rfl⟩
 rintro a1 w1 ⟨g,rfl⟩;replace Y:=g.Q7 Y rfl;replace U:=g.Q7 U rfl;replace C:=g.size.trans C;replace y:=g.defers.trans y;clear g;refine wp_seq (wp_seq (Code.wp_only (R:=fun a2 w2=>aE (fun i=>i==6||i==7||i==8) a1 a2∧At a2 7 (.int .i64 l.length)∧At a2 8 (.int .i64 0)∧w2=w1) ?_ ?_))
 ·clear hl
  obtain⟨T,d⟩:=a1;refine rl ?_
  iterate 3 with_reducible refine st ?_
  with_reducible refine ln ?_
  refine⟨rfl,ag,aq,aq,rfl⟩
 rintro a2 w2 ⟨D,a9,a8,rfl⟩;replace Y:=D.Q7 Y rfl;replace U:=D.Q7 U rfl;replace C:=D.size.trans C;replace y:=D.defers.trans y;clear D;refine bh l.length (fun i=>i==4||i==5||(rg 8 18 i)) (fun i=>i==4||i==5||(rg 10 17 i)) (fun k _ w'=>(∀m∈l.take k,m.of≠c.over)∧Kz w2 w') χ a8 a9 ψ rfl
  ζ χ ψ (fun k a1 a2 w g hI=>hI) ⟨ξ,aD.refl _ _⟩ ?_ ?_
 ·rintro k a3 wr bd g bm ⟨I,hk⟩
  obtain⟨bl,off,rfl,bc,aa⟩:=hl χ;obtain⟨m,L⟩:=ge bd;obtain⟨Z,bt⟩:=(aJ B _ _) _ _ _ _ _ (hk.below (B:=B) χ (fun _ hi e=>e)) bc (aa k m L);have q0:=Z.c0;have q1:=Z 1 _ rfl;have q2:=Z 2 _ rfl;have q3:=Z 3 _ rfl;have q4:=Z 4 _ rfl;have an:=g.Q7 Y rfl;have a0:=g.Q7 U rfl;have J:=g.size.trans C;have H:=g.defers.trans y;have bs:=hk.size;have bo:bl<wr.heap.size:=χ
  have bp:k≤cc:=χ
  have V:=hh (A8 m c zc wr χ ((hk.cell (p:=⟨zc,5,none⟩) hz (fun h=>h)).trans q));have HX:=hh L;have bb:=hh I;have HK:=hh hk;have HA:=hh g;clear L I hk g Z aa hl;refine so (fun a4 w4=>aE (fun i=>i==10||i==5) a3 a4∧At a4 5 (.int .i64 k)∧w4=wr) ?_ ?_
  ·obtain⟨T,d⟩:=a3
   refine rl ?_
   iterate 2 with_reducible refine st ?_
   with_reducible refine ln ?_
   refine⟨rfl,ag,aq,rfl⟩
  rintro a4 w4 ⟨v,bf,rfl⟩;have bz:=v.Q7 an rfl;have b0:=v.Q7 a0 rfl;have af:=v.size.trans J;have ac:=v.defers.trans H;refine so (fun a5 w5=>aE (fun i=>(rg 11 16 i)) a4 a5∧At a5 16 (.bool (decide (m.of=c.over)))∧Kz w4 w5) ?_ ?_
  ·clear an a0 bm v
   obtain⟨T,d⟩:=a4;refine rl ?_
   iterate 5 with_reducible refine st ?_
   with_reducible refine Lz (fun K hK=>?_)
   go_simp;refine V.out.mono ?_;rintro e w5 ⟨rfl,Q⟩;with_reducible refine hK _ _ (ln ?_)
   refine⟨rfl,ag,aq,Q⟩
  rintro a5 w5 ⟨E,a7,Q⟩;have al:=E.size.trans af;have O:=a7.eval χ;have bx:=E.Q7 bf rfl
  by_cases hov:m.of=c.over
  ·rw[decide_eq_true hov]at O
   refine wp_cond_true O ?_;refine so (fun N w6=>At N 4 (.int .i64 k)∧N.tmps.size=19∧N.defers=[]∧w6=w5) ?_ ?_
   ·have ad:=E.defers.trans ac
    clear E;obtain⟨T,d⟩:=a5;refine rl ?_
    iterate 2 with_reducible refine st ?_
    with_reducible refine ln ?_
    refine⟨rfl,?_,by simpa using al,ad,rfl⟩;exact aq
   rintro N w6 ⟨h4,X,W,rfl⟩;refine wp_ret ?_
   repeat (first|with_reducible apply bY|with_reducible apply bi)
   refine bv (t:=4) rfl h4 (by rw[X];decide) W ⟨⟨_,rfl,⟨fun _=>⟨m,List.mem_of_getElem? HX.out,hov⟩,fun _=>χ⟩⟩,HK.out.trans Q (fun _ _ e=>e)⟩
  ·rw[decide_eq_false hov]at O
   refine wp_cond_false O (wp_skip ?_);refine⟨(v.m).t E,fun x L=>?_,HK.out.trans Q (fun _ _ e=>e)⟩;rw[aP HX.out]at L
   rcases List.mem_append.1 L with L|L
   ·exact bb.out x L
   ·have e:x=m:=by simpa using L
    subst e;exact hov
 ·rintro a3 w3 g ⟨I,hk⟩
  rw[List.take_length]at I;have J:=g.size.trans C;have H:=g.defers.trans y;clear g Y U a8 a9 hl;show Code.wp _ _ _ _ _;refine so (fun N w6=>At N 4 (.int .i64 (-1))∧N.tmps.size=19∧N.defers=[]∧w6=w3) ?_ ?_
  ·obtain⟨T,d⟩:=a3
   refine rl ?_;with_reducible refine st ?_;refine ln ?_
   refine⟨rfl,?_,by simpa using J,H,rfl⟩;exact aq
  rintro N w6 ⟨h4,X,W,rfl⟩;refine wp_ret (bv (t:=4) rfl h4 (by rw[X];decide) W ⟨⟨_,rfl,⟨fun h=>χ,fun⟨m,U,h2⟩=>absurd h2 (I m U)⟩⟩,hk⟩)
theorem pv{A:Option Addr}{g:Nat}{l:List Ck.Map}(x:aL B 5 dO w (.slice A l.length g) l)(v:B≤w.heap.size)(c:Ck.b7)(d:Nat)(y:d<w.heap.size)(q:w.cell? ⟨d,5,none⟩=some (.string c.over)):
 Calls Tryz.prog 125 #[.slice A l.length g,.func (.func 126) #[] #[.pointer (some ⟨d,0,none⟩)]] w fun e w'=>e=.returned (.bool (l.any fun m=>decide (m.of=c.over)))∧Kz w w':=by
 go_enter Tryz.func125,Tryz.ntmps125
 go_wp2_with fail
 refine(vP x v c d y q).mono ?_;rintro e w' ⟨⟨i,rfl,hi⟩,hk⟩;have h:=hh hi;have j:=hh hk;clear hi hk
 go_wp2
 go_ret
 refine⟨?_,j.out⟩;have u:decide (0≤i)=l.any fun m=>decide (m.of=c.over):=by
  rw[Bool.eq_iff_iff,decide_eq_true_eq,h.out,List.any_eq_true];simp
 simp[←u]
theorem lX{P:aF}{c:Ck.b7}:gR P c=((P.Q4.all fun x=>x.QA.all fun m=>ml c x.name m)&&(P.Q5.all fun x =>!x.QA.any fun m=>decide (m.of=c.over))&&(P.Q4.any fun x=>decide (x.name=c.QE)&&x.QA.any fun m=>decide (m.of=c.over))&&(P.Q4.any fun x=>decide (x.name=c.to)&&x.QA.any fun m=>decide (m.of=c.over))):=by
 have e:(fun x:Ck.bB=>x.QA.all fun m =>!decide (m.of=c.over))=fun x =>!x.QA.any fun m=>decide (m.of=c.over):=by
  funext x
  rw[List.not_any_eq_all_not]
 unfold gR;rw[e];rfl
def sr(l:List aZ)(c:Ck.b7)(s:ByteArray):Prop:=∃x∈l,x.name=s∧∃m∈x.QA,m.of=c.over
theorem wW{l:List aZ}{c:Ck.b7}{s:ByteArray}:sr l c s↔(l.any fun x=>decide (x.name=s)&&x.QA.any fun m=>decide (m.of=c.over))=true:=by
 simp[sr,List.any_eq_true]
theorem uH{pb:Nat}{v:aY}{P:aF}{W:Int→Int}{L:List Wr}(h:aG B w pb v P W L){c:Ck.b7}(D:c.Ok):
 Calls Tryz.prog 100 #[.pointer (some ⟨pb,0,none⟩),.agg #[.int .i64 c.pos,.string c.name,.string c.QE,.string c.to,.bool c.shared,.string c.over,.int .i64 c.how,.int .u64 c.QK]] w fun e w'=>e=.returned (.bool (gR P c))∧Kz w w':=by
 have go:=h.lt;have gf:=h.base;have fs:=@run_makeMap Tryz.prog;refine bU Tryz.func100 Tryz.ntmps100 rfl ξ fun a bs bc O=>?_
 have h0:At a 0 (.pointer (some ⟨pb,0,none⟩)):=O 0 _ rfl;have h1:At a 1 (.agg #[.int .i64 c.pos,.string c.name,.string c.QE,.string c.to,.bool c.shared,.string c.over,.int .i64 c.how,.int .u64 c.QK]):=O 1 _ rfl;clear O
 conv=>arg 2;whnf
 refine so (fun a1 w1=>aE (fun i=>i==3||i==4) a a1∧At a1 3 (.pointer (some ⟨w.heap.size,0,none⟩))∧w1=w.alloc (.cells #[.int .i64 c.pos,.string c.name,.string c.QE,.string c.to,.bool c.shared,.string c.over,.int .i64 c.how,.int .u64 c.QK] 97)) ?_ ?_
 ·clear D
  obtain⟨T,d⟩:=a;refine rl ?_
  iterate 2 with_reducible refine st ?_
  with_reducible refine ln ?_
  refine⟨rfl,ag,aq,rfl⟩
 rintro a1 w1 ⟨b3,h3,cb⟩;have c9:Kz w w1:=by rw[cb];exact(aD.refl _ _).alloc _
 obtain⟨X,cj⟩:∃z,z=w.heap.size:=⟨_,rfl⟩;rw[←cj]at h3;have c4:aM w1 X 0 [.int .i64 c.pos,.string c.name,.string c.QE,.string c.to,.bool c.shared,.string c.over,.int .i64 c.how,.int .u64 c.QK]:=by rw[cb,cj];exact aw _ _ _
 have ey:X<w1.heap.size:=by rw[cb,cj];simp
 replace h0:=b3.Q7 h0 rfl;replace bs:=b3.size.trans bs;replace bc:=b3.defers.trans bc;clear b3 cb h1;refine so (fun a2 w2=>aE (fun i=>i==12||i==5) a1 a2∧At a2 5 (.map (some w1.heap.size))∧w2=w1.alloc (.map #[] 0)) ?_ ?_
 ·clear D c4
  obtain⟨T,d⟩:=a1;refine rl ?_
  iterate 2 with_reducible refine st ?_
  with_reducible refine ln ?_
  refine⟨rfl,ag,aq,rfl⟩
 rintro a2 w2 ⟨ac,h5,d0⟩;have bm:Kz w1 w2:=by rw[d0];exact(aD.refl _ _).alloc _
 obtain⟨M,hM⟩:∃z,z=w1.heap.size:=⟨_,rfl⟩;rw[←hM]at h5;have al:ci w2 M 0 (.int .i64 0) (fun _ =>.int .i64 0) (fun _=>false):=ci.new _ _ _ (by rw[d0,hM];exact heap_alloc_new _ _);have ea:M≠X:=χ
 have gn:w.heap.size≤M:=by have:=c9.size;omega
 have gl:M<w2.heap.size:=al.lt;have dk:Kz w w2:=c9.trans bm (fun _ _ h=>h);have HC:Hid (∀w0,aD (fun k=>k=M) w2 w0→aM w0 X 0 [.int .i64 c.pos,.string c.name,.string c.QE,.string c.to,.bool c.shared,.string c.over,.int .i64 c.how,.int .u64 c.QK]):=fun w0 hk=>(c4.keep bm ey (fun h=>h)).keep hk (by have:=bm.size;omega) (fun e=>ea e.symm)
 have an:=h.new dk;replace h0:=ac.Q7 h0 rfl;replace h3:=ac.Q7 h3 rfl;replace bs:=ac.size.trans bs;replace bc:=ac.defers.trans bc;have d3:=hh dk;have fi:B≤M:=χ
 have f9:B≤w2.heap.size:=χ
 have f7:X<w2.heap.size:=by have:=bm.size;omega
 have fy:pb≠M:=χ
 clear ac d0 hM fs c9 bm dk h c4 cj ey ea;obtain⟨A,cc,hu,eo,ca,hl⟩:=an.QT.Q4;unfold top at ca;have hq:w2.cell? ⟨pb,5,none⟩=some v.Q4:=an.cell rfl;rw[hu]at hq;clear hu;refine wp_seq (wp_seq (Code.wp_only (R:=fun a3 w3=>aE (fun i=>(rg 13 19 i)) a2 a3∧At a3 17 (.slice A P.Q4.length cc)∧At a3 18 (.int .i64 P.Q4.length)∧At a3 19 (.int .i64 0)∧w3=w2) ?_ ?_))
 ·clear hl al HC D
  obtain⟨T,d⟩:=a2;refine rl ?_
  iterate 7 with_reducible refine st ?_
  with_reducible refine ln ?_
  refine⟨rfl,ag,aq,aq,aq,rfl⟩
 rintro a3 w3 ⟨ad,b1,b0,bz,rfl⟩;have i0:=ad.Q7 h0 rfl;have i3:=ad.Q7 h3 rfl;have i5:=ad.Q7 h5 rfl;have cv:=ad.size.trans bs;have cs:=ad.defers.trans bc;clear hq;refine bh P.Q4.length (fun i=>i==4||i==7||i==9||(rg 19 57 i)) (fun i=>i==4||i==7||i==9||(rg 21 56 i)) (fun k _ w'=>∃(n:Nat) (cnt:ByteArray→Nat) (p:ByteArray→Bool),n≤k*2097152∧ci w' M n (.int .i64 0) (fun s =>.int .i64 (cnt s)) p∧(∀s,cnt s≤n∧(0<cnt s↔sr (P.Q4.take k) c s))∧(∀x∈P.Q4.take k,∀m∈x.QA,ml c x.name m=true)∧aD (fun k=>k=M) w3 w') χ bz b0 ψ rfl
  ζ χ ψ (fun k a1 a2 w I hI=>hI) ⟨0,fun _=>0,fun _=>false,χ,al,fun s=>⟨Nat.le_refl _,by simp[sr]⟩,ξ,aD.refl _ _⟩ ?_ ?_
 ·rintro k a4 wr bo I e5 ⟨n,cnt,p,hn,hE,Z,l,hk⟩
  obtain⟨bl,off,rfl,c3,bb⟩:=hl χ;obtain⟨x,hx⟩:=ge bo;obtain⟨u1,u2,Q,bp,f1,cx⟩:=(dH B) _ _ _ _ _ (hk.below (B:=B) χ (fun _ hi e=>χ)) c3 (bb k x hx);have cy:=hh bp;obtain⟨A_mapsx,g,rfl,fv,ds,_⟩:=bp;obtain⟨A_rulesx,C,rfl,_,_,_⟩:=f1;unfold top at ds;have q0:=Q.c0;have q1:=Q 1 _ rfl;have q2:=Q 2 _ rfl;have q3:=Q 3 _ rfl;have q4:=Q 4 _ rfl;have q5:=Q 5 _ rfl;have f5:=I.Q7 i0 rfl;have cm:=I.Q7 i3 rfl;have f6:=I.Q7 i5 rfl;have cw:=I.Q7 b1 rfl;have bw:=I.size.trans cv;have bd:=I.defers.trans cs;have ex:=hk.size;have ee:bl<wr.heap.size:=χ
  have eq:k≤cc:=χ
  have HX:=hh hx;have HK:=hh hk;have HA:=hh I;have HE:=hh hE;have b2:=hh Z;have HG:=hh l;have gs:n≤4398046511104:=χ
  clear hx hk Q I bb hE Z l hl al;refine so (fun a5 w5=>aE (fun i=>i==21||i==22||i==7) a4 a5∧At a5 7 (.pointer (some ⟨wr.heap.size,0,none⟩))∧w5=wr.alloc (Obj.cells #[.int .i64 x.pos,.string x.name,.int .u64 x.QN,.bool x.stopped,.slice A_mapsx x.QA.length g,.slice A_rulesx x.QO.length C] 45)) ?_ ?_
  ·clear HC D
   obtain⟨T,d⟩:=a4;refine rl ?_
   iterate 4 with_reducible refine st ?_
   with_reducible refine ln ?_
   refine⟨rfl,ag,aq,rfl⟩
  rintro a5 wo ⟨q,e1,H⟩;obtain⟨z,hz⟩:∃z,z=wr.heap.size:=⟨_,rfl⟩;rw[←hz]at e1;have cd:aM wo z 0 [.int .i64 x.pos,.string x.name,.int .u64 x.QN,.bool x.stopped,.slice A_mapsx x.QA.length g,.slice A_rulesx x.QO.length C]:=by rw[H,hz];exact aw _ _ _
  have u:Kz wr wo:=by rw[H];exact(aD.refl _ _).alloc _
  have f3:z≠M:=by have:=HE.out.lt;omega
  have ez:z<wo.heap.size:=by rw[H,hz];simp
  have b5:aD (fun k=>k=M) w3 wo:=HK.out.trans u (fun _ _ h=>h.elim);have eu:=b5.size;have ew:=u.size;have V:=q.size.trans bw;have U:=q.defers.trans bd;refine xM (cnt0:=0) (n0:=0) fi χ a5 V (hh fun w0 c8=>HC.out w0 (b5.trans c8 (fun _ _ e=>e))) (q.Q7 cm rfl) (q.Q7 f6 rfl) (hh fun w0 c8=>cd.keep c8 ez f3) e1 (by have:=cx.2.2;unfold aW at this;unfold maxLen;omega) (cy.out.below (aJ _ _ _) (u.below (B:=B) χ (fun _ _ e=>e))) χ (HE.out.keep u (fun e=>e)) b2.out _ (fun a6 w6 n6 d7 p6 N gr fk cp fm dc=>?_) (fun a6 w6 h4 fz fl E dc=>?_)
  ·refine⟨(q.m).t N,n6,d7,p6,χ,fk,fun s=>⟨(cp s).1,?_⟩,?_,b5.trans dc (fun _ _ e=>e)⟩
   ·rw[(cp s).2,aP HX.out]
    simp only[sr,List.mem_append,List.mem_singleton];constructor
    ·rintro(⟨y,J,h1,h2⟩|⟨rfl,h2⟩)
     ·exact⟨y,.inl J,h1,h2⟩
     ·exact⟨x,.inr rfl,rfl,h2⟩
    ·rintro⟨y,J|rfl,h1,h2⟩
     ·exact .inl ⟨y,J,h1,h2⟩
     ·exact .inr ⟨h1.symm,h2⟩
   ·rw[aP HX.out]
    intro y J
    rcases List.mem_append.1 J with J|J
    ·exact HG.out y J
    ·have e:y=x:=by simpa using J
     subst e;exact fm
  ·repeat (first|with_reducible apply bY|with_reducible apply bi)
   refine bv (t:=4) rfl h4 (by rw[fz];decide) (fl.trans U) ⟨?_,d3.out.trans (b5.trans dc (fun _ _ e=>e)) (fun i hi e=>χ)⟩;obtain⟨m,hm,hb⟩:=E;have e:gR P c=false:=by
    rw[lX,Bool.eq_false_iff];intro hh;simp only[Bool.and_eq_true,List.all_eq_true]at hh;have:=hh.1.1.1 x (List.mem_of_getElem? HX.out) m hm;rw[hb]at this
    cases this
   rw[e]
 ·rintro a4 w4 Y ⟨n,cnt,p,hn,hE,Z,l,hk⟩
  rw[List.take_length]at Z l;have j0:=Y.Q7 i0 rfl;have j3:=Y.Q7 i3 rfl;have j5:=Y.Q7 i5 rfl;have bw:=Y.size.trans cv;have bd:=Y.defers.trans cs;have ex:=hk.size;have d9:Kz w w4:=d3.out.trans hk (fun i hi e=>χ);have HE:=hh hE;have b2:=hh Z;have HG:=hh l;have HK:=hh hk;have d2:=hh d9;have xc:=(HC.out w4 hk) 5 _ rfl;have x2:=(HC.out w4 hk) 2 _ rfl;have x3:=(HC.out w4 hk) 3 _ rfl;clear hE Z l Y b1 b0 bz i0 i3 i5 hl al eo ca A cc;with_reducible apply bT
  obtain⟨A,cc,hu,eo,ca,hl⟩:=an.QT.Q5;unfold top at ca;have hq:w4.cell? ⟨pb,3,none⟩=some v.Q5:=(hk.cell (p:=⟨pb,3,none⟩) (by have:=an.lt;omega) fy).trans (an.cell rfl);rw[hu]at hq;clear hu hk d9;refine wp_seq (wp_seq (Code.wp_only (R:=fun a5 w5=>aE (fun i=>(rg 58 64 i)) a4 a5∧At a5 62 (.slice A P.Q5.length cc)∧At a5 63 (.int .i64 P.Q5.length)∧At a5 64 (.int .i64 0)∧w5=w4) ?_ ?_))
  ·clear hl HC D
   obtain⟨T,d⟩:=a4;refine rl ?_
   iterate 7 with_reducible refine st ?_
   with_reducible refine ln ?_
   refine⟨rfl,ag,aq,aq,aq,rfl⟩
  rintro a5 w5 ⟨q,b1,b0,bz,rfl⟩;have l0:=q.Q7 j0 rfl;have l3:=q.Q7 j3 rfl;have l5:=q.Q7 j5 rfl;have V:=q.size.trans bw;have U:=q.defers.trans bd;clear hq;refine bh P.Q5.length (fun i=>i==4||i==11||(rg 64 72 i)) (fun i=>i==4||i==11||(rg 66 71 i)) (fun k _ w'=>(∀x∈P.Q5.take k,(x.QA.any fun m=>decide (m.of=c.over))=false)∧Kz w5 w') χ bz b0 ψ rfl
   ζ χ ψ (fun k a1 a2 w I hI=>hI) ⟨ξ,aD.refl _ _⟩ ?_ ?_
  ·rintro k a6 wr bo I e5 ⟨aa,hk⟩
   obtain⟨bl,off,rfl,c3,bb⟩:=hl χ;obtain⟨x,hx⟩:=ge bo;obtain⟨u1,Q,bp,cx⟩:=(eP B) _ _ _ _ _ ((HK.out.trans hk (fun _ _ h=>h.elim)).below (B:=B) χ (fun _ hi e=>χ)) c3 (bb k x hx);have cy:=hh bp;obtain⟨A_mapsx,g,rfl,fv,ds,_⟩:=bp;unfold top at ds;have q0:=Q.c0;have q1:=Q 1 _ rfl;have q2:=Q 2 _ rfl;have q3:=Q 3 _ rfl;have q4:=Q 4 _ rfl;have f5:=I.Q7 l0 rfl;have cm:=I.Q7 l3 rfl;have cw:=I.Q7 b1 rfl;have bx:=I.size.trans V;have be:=I.defers.trans U;have ew:=hk.size;have ee:bl<wr.heap.size:=χ
   have eq:k≤cc:=χ
   have f4:X<wr.heap.size:=χ
   have XC:=hh ((hk.cell (p:=⟨X,5,none⟩) (by show X<_;omega) (fun h=>h)).trans xc);have HX:=hh hx;have fc:=hh hk;have fd:=hh aa;clear hx hk Q bb aa hl xc x2 x3;refine so (fun a7 w7=>aE (fun i=>i==66||i==67||i==11) a6 a7∧At a7 11 (.pointer (some ⟨wr.heap.size,0,none⟩))∧w7=wr.alloc (Obj.cells #[.int .i64 x.pos,.string x.name,.int .u64 x.Q7,.int .u64 x.size,.slice A_mapsx x.QA.length g] 65)) ?_ ?_
   ·clear HC D
    obtain⟨T,d⟩:=a6;refine rl ?_
    iterate 4 with_reducible refine st ?_
    with_reducible refine ln ?_
    refine⟨rfl,ag,aq,rfl⟩
   rintro a7 wo ⟨af,e0,H⟩;obtain⟨z,hz⟩:∃z,z=wr.heap.size:=⟨_,rfl⟩;rw[←hz]at e0;have cd:aM wo z 0 [.int .i64 x.pos,.string x.name,.int .u64 x.Q7,.int .u64 x.size,.slice A_mapsx x.QA.length g]:=by rw[H,hz];exact aw _ _ _
   have u:Kz wr wo:=by rw[H];exact(aD.refl _ _).alloc _
   have eu:=u.size;have q4:=cd 4 _ rfl;have ez:z<wo.heap.size:=by rw[H,hz];simp
   have er:=af.size.trans bx;have eg:=af.defers.trans be;have gw:=af.Q7 cm rfl;have a0:=hh (pv (cy.out.below (aJ _ _ _) (u.below (B:=B) χ (fun _ _ e=>e))) χ c X χ ((u.cell (p:=⟨X,5,none⟩) f4 (fun h=>h)).trans XC.out));have e9:=hh u;clear u H cd q0 q1 q2 q3 cw e5 cm hz;obtain⟨d4,E⟩:∃b,b=(x.QA.any fun m=>decide (m.of=c.over)):=⟨_,rfl⟩;rw[←E]at a0;have HB:=hh E;clear E;refine so (fun a8 w8=>aE (fun i=>(rg 68 71 i)) a7 a8∧At a8 71 (.bool d4)∧Kz wo w8) ?_ ?_
   ·clear HC D af
    obtain⟨T,d⟩:=a7;refine rl ?_
    iterate 3 with_reducible refine st ?_
    with_reducible refine Lz (fun K hK=>?_)
    go_simp;refine a0.out.mono ?_;rintro e w8 ⟨rfl,di⟩;with_reducible refine hK _ _ (ln ?_)
    refine⟨rfl,ag,aq,di⟩
   rintro a8 w8 ⟨b4,e2,di⟩;have es:=b4.size.trans er;have en:=b4.defers.trans eg;have d8:=e2.eval χ;have cu:Kz w5 w8:=(fc.out.trans e9.out (fun _ _ h=>h)).trans di (fun _ _ h=>h)
   cases d4
   ·refine wp_cond_false d8 (wp_skip ?_)
    refine⟨(af.m).t b4,fun y J=>?_,cu⟩;rw[aP HX.out]at J
    rcases List.mem_append.1 J with J|J
    ·exact fd.out y J
    ·have e:y=x:=by simpa using J
     subst e;exact HB.out.symm
   ·refine wp_cond_true d8 ?_
    refine so (fun a9 w9=>At a9 4 (.bool false)∧a9.tmps.size=85∧a9.defers=[]∧w9=w8) ?_ ?_
    ·clear b4
     obtain⟨T,d⟩:=a8;refine rl ?_;with_reducible refine st ?_;refine ln ?_
     refine⟨rfl,?_,by simpa using es,en,rfl⟩;exact aq
    rintro a9 w9 ⟨h4,dt,c7,rfl⟩;refine wp_ret ?_
    repeat (first|with_reducible apply bY|with_reducible apply bi)
    refine bv (t:=4) rfl h4 (by rw[dt];decide) c7 ⟨?_,d2.out.trans cu (fun _ _ h=>h)⟩;have e:gR P c=false:=by
     rw[lX,Bool.eq_false_iff];intro hh;simp only[Bool.and_eq_true,List.all_eq_true]at hh;have:=hh.1.1.2 x (List.mem_of_getElem? HX.out);rw[←HB.out]at this
     cases this
    rw[e]
  ·rintro a6 w6 N ⟨aa,hk⟩
   rw[List.take_length]at aa;have k3:=N.Q7 l3 rfl;have k5:=N.Q7 l5 rfl;have bx:=N.size.trans V;have be:=N.defers.trans U;have y2:=(hk.cell (p:=⟨X,2,none⟩) (by show X<_;omega) (fun h=>h)).trans x2;have y3:=(hk.cell (p:=⟨X,3,none⟩) (by show X<_;omega) (fun h=>h)).trans x3;have d1:=hh (HE.out.keep hk (fun h=>h));have e8:=hh hk;have f0:c.QE.size≤maxLen:=by have:=D;unfold Ck.b7.Ok aW at this;unfold maxLen;omega
   have f2:c.to.size≤maxLen:=by have:=D;unfold Ck.b7.Ok aW at this;unfold maxLen;omega
   obtain⟨cf,c5⟩:∃n,n=cnt c.QE:=⟨_,rfl⟩;obtain⟨ct,c6⟩:∃n,n=cnt c.to:=⟨_,rfl⟩;obtain⟨bf,fe⟩:∃b,decide (0<cf)=b:=⟨_,rfl⟩;obtain⟨bt,ff⟩:∃b,decide (0<ct)=b:=⟨_,rfl⟩;have eb:bf=(P.Q4.any fun x=>decide (x.name=c.QE)&&x.QA.any fun m=>decide (m.of=c.over)):=by
    rw[←fe,Bool.eq_iff_iff,decide_eq_true_eq,←wW,←(b2.out c.QE).2,c5]
   have ed:bt=(P.Q4.any fun x=>decide (x.name=c.to)&&x.QA.any fun m=>decide (m.of=c.over)):=by
    rw[←ff,Bool.eq_iff_iff,decide_eq_true_eq,←wW,←(b2.out c.to).2,c6]
   have HT:Hid (gR P c=(bf&&bt)):=by
    have g1:(P.Q4.all fun x=>x.QA.all fun m=>ml c x.name m)=true:=by simp only[List.all_eq_true];exact HG.out
    have g2:(P.Q5.all fun x =>!x.QA.any fun m=>decide (m.of=c.over))=true:=by simp only[List.all_eq_true];intro x hx;rw[aa x hx];rfl
    show gR P c=_;rw[lX,g1,g2,←eb,←ed];rfl
   have e6:=hh c5;have e7:=hh c6;clear eb ed c5 c6 aa hk N HC hl xc x2 x3 l0 l3 l5 b1 b0 bz j0 j3 j5 h0 h3 h5;refine so (fun a9 w9=>At a9 4 (.bool (bf&&bt))∧a9.tmps.size=85∧a9.defers=[]∧w9=w6) ?_ ?_
   ·have fp:=d1.out.run Tryz.underlying224 zB f0
    have fr:=d1.out.run Tryz.underlying224 zB f2;rw[←e6.out]at fp;rw[←e7.out]at fr;obtain⟨T,d⟩:=a6;have gu:=aX;refine rl ?_
    cases bf
    all_goals
     iterate 13 with_reducible refine st ?_
     with_reducible refine ln ?_
     refine⟨rfl,?_,by simpa using bx,be,rfl⟩;simp only[Bool.false_and,Bool.true_and];exact aq
   rintro a9 w9 ⟨h4,dt,c7,rfl⟩;refine wp_ret ?_;refine bv (t:=4) rfl h4 (by rw[dt];decide) c7 ⟨by rw[HT.out],d2.out.trans e8.out (fun _ _ h=>h)⟩
end
section
open Go.RowKit Go.IntWalk
variable {QS:Nat→Nat} {w:World}
def ig(QS:Nat→Nat)(b:Nat):Nat:=if 127<b then 0 else QS b
theorem qg(h:pR QS w)(b:Nat)(B:b<256):
 Calls Tryz.prog 160 #[.int .u8 b] w fun e w'=>e=.returned (.int .u8 (ig QS b))∧w'=w:=by
 unfold ig
 by_cases h1:127<b
 ·have g:decide ((127:Int)<(b:Int))=true:=η
  go_enter Tryz.func160,Tryz.ntmps160
  go_wp2
  go_ret
  exact⟨by simp[h1],rfl⟩
 ·have g:decide ((127:Int)<(b:Int))=false:=η
  have x:(b:Int)<128:=χ
  have l:b<128:=χ
  have q:=h b l;have y:¬ ((127:Int)<(b:Int)):=χ
  obtain⟨v,d⟩:∃n,n=QS b:=⟨_,rfl⟩;rw[←d]at q;have j:=hh d;have u:=hh h1;clear h d h1 g
  go_enter Tryz.func160,Tryz.ntmps160
  go_wp2
  go_ret
  exact⟨by rw[←j.out];rfl,rfl⟩
def kF(QS:Nat→Nat)(b:Nat):Bool:=decide (ig QS b=3)||decide (ig QS b=4)
theorem zD(h:pR QS w)(b:Nat)(q:b<256):
 Calls Tryz.prog 164 #[.int .u8 b] w fun e w'=>e=.returned (.bool (kF QS b))∧w'=w:=by
 have d:=qg h b q;unfold kF
 generalize ig QS b=c at d⊢
 clear h
 by_cases h3:c=3
 ·subst h3
  go_enter Tryz.func164,Tryz.ntmps164
  go_wp2_with (go_at_call 160;refine d.mono ?_;rintro e w' ⟨rfl,rfl⟩)
  go_ret
  exact⟨ξ,rfl⟩
 ·obtain⟨t,g⟩:∃t,decide (c=4)=t:=⟨_,rfl⟩
  have e3:((c:Int)==3)=false:=η
  have e4:((c:Int)==4)=t:=by rw[←g];exact fA c 4
  have j:Hid (decide (c=3)=false):=hh (decide_eq_false h3);have l:=hh g;clear h3 g
  go_enter Tryz.func164,Tryz.ntmps164
  go_wp2_with (go_at_call 160;refine d.mono ?_;rintro e w' ⟨rfl,rfl⟩)
  go_ret
  exact⟨by rw[l.out,j.out];rfl,rfl⟩
def kf(QS:Nat→Nat)(x:Nat):Bool:=decide (127<x) || !kF QS x
theorem rp(h:pR QS w)(x:Nat)(l:x≤1114111):
 Calls Tryz.prog 163 #[.int .i32 x] w fun e w'=>e=.returned (.bool (kf QS x))∧w'=w:=by
 unfold kf
 by_cases h1:127<x
 ·have g:(127:Int)<(x:Int):=χ
  have H:Hid ((decide (127<x) || !kF QS x)=true):=hh (by simp[h1]);clear h
  go_enter Tryz.func163,Tryz.ntmps163
  go_wp2
  go_ret
  exact⟨by rw[H.out];rfl,rfl⟩
 ·have g:¬ ((127:Int)<(x:Int)):=χ
  have d:=zD h x χ;have H:Hid ((decide (127<x) || !kF QS x)=!kF QS x):=hh (by simp[h1]);have j:IntKind.u8.wrap (x:Int)=(x:Int):=u8_in _ χ;rw[H.out]
  generalize kF QS x=b at d⊢
  clear h h1
  go_enter Tryz.func163,Tryz.ntmps163
  go_wp2_with (go_at_call 164;refine d.mono ?_;rintro e w' ⟨rfl,rfl⟩)
  go_ret
  exact⟨rfl,rfl⟩
end
open Go.RowKit Go.IntWalk Ck
variable {D:Nat→Prop} {k B:Nat} {w w':World} {v:Value} {T:TypeId}
abbrev fL:=TypeId→Nat→Prop
def BQ{α:Type}(D:Nat→Prop)(k:Nat)(R:World→Nat→Nat→α→Prop)(w:World)(A:Option Addr)(xs:List α):Prop:=
 0<xs.length→∃b off,A=some ⟨b,off,none⟩∧D b∧∀i x,xs[i]?=some x→R w b (off+i*k) x
def bM{α:Type}(D:Nat→Prop)(k:Nat)(R:World→Nat→Nat→α→Prop)(w:World)(v:Value)(xs:List α):Prop:=
 ∃A c,v=.slice A xs.length c∧xs.length≤c∧xs.length≤top∧BQ D k R w A xs
theorem lh{α:Type}{D':Nat→Prop}{R R':World→Nat→Nat→α→Prop}{xs:List α}(h:bM D k R w v xs)(l:∀b,D b→D' b)
 (q:∀b o (i:Nat) (x:α),xs[i]?=some x→D b→R w b o x→R' w' b o x):bM D' k R' w' v xs:=by
 obtain⟨A,c,e,u,B,y⟩:=h;refine⟨A,c,e,u,B,fun j=>?_⟩;obtain⟨b,off,e,d,C⟩:=y j;exact⟨b,off,e,l b d,fun i x g=>q _ _ i x g d (C i x g)⟩
theorem aL.in_{α:Type}{R:World→Nat→Nat→α→Prop}{xs:List α}(h:aL B k R w v xs):bM (fun b=>b<B) k R w v xs:=h
def tn(D:fL)(w:World)(b o:Nat)(x:Ck.bB):Prop:=
 ∃v,aM w b o [.int .i64 x.pos,.string x.name,.int .u64 x.Q7,.int .u64 x.size,v]∧bM (D 93) 5 dO w v x.QA∧dx x.pos∧x.Q7<lim∧x.size<lim∧aW x.name
def qk(D:fL)(w:World)(b o:Nat)(x:aZ):Prop:=
 ∃v u,aM w b o [.int .i64 x.pos,.string x.name,.int .u64 x.QN,.bool x.stopped,v,u]∧bM (D 93) 5 dO w v x.QA∧bM (D 95) 4 kY w u x.QO∧dx x.pos∧x.QN<lim∧aW x.name
def BR(D:fL)(w:World)(b o:Nat)(x:cN):Prop:=
 ∃v,aM w b o [.int .i64 x.pos,.int .u64 x.QN,.bool x.needs,v]∧bM (D 99) 4 kE w v x.runs∧dx x.pos∧x.QN<lim
def BP(D:fL)(w:World)(b o:Nat)(x:gD):Prop:=
 ∃v,aM w b o [.int .i64 x.pos,.string x.name,.int .u64 x.QJ,v]∧bM (D 71) 4 (BR D) w v x.QM∧dx x.pos∧x.QJ<lim∧aW x.name
structure ql (D:fL) (w:World) (v:aY) (P:aF):Prop where
 QF:bM (D 91) 3 tj w v.QF P.QF
 Q5:bM (D 65) 5 (tn D) w v.Q5 P.Q5
 Q3:bM (D 53) 10 eS w v.Q3 P.Q3
 Q4:bM (D 45) 6 (qk D) w v.Q4 P.Q4
 Q8:bM (D 97) 8 iH w v.Q8 P.Q8
 QL:bM (D 87) 6 tm w v.QL P.QL
 QB:bM (D 89) 6 lV w v.QB P.QB
 Q9:bM (D 68) 4 (BP D) w v.Q9 P.Q9
 QD:bM (D 47) 2 fP w v.QD P.QD
 QH:bM (D 47) 2 fP w v.QH P.QH
 QC:bM (D 47) 2 fP w v.QC P.QC
 QG:bM (D 101) 3 tq w v.QG P.QG
 pos:dx P.pos
 name:aW P.name
theorem ax.in_{v:aY}{P:aF}(h:ax B w v P):ql (fun _ b=>b<B) w v P:=
 ⟨h.QF,h.Q5,h.Q3,h.Q4,h.Q8,h.QL,h.QB,h.Q9,h.QD,h.QH,h.QC,h.QG,h.pos,h.name⟩
theorem ql.below{v:aY}{P:aF}(h:ql (fun _ b=>b<B) w v P):ax B w v P:=
 ⟨h.QF,h.Q5,h.Q3,h.Q4,h.Q8,h.QL,h.QB,h.Q9,h.QD,h.QH,h.QC,h.QG,h.pos,h.name⟩
def ij(D:Nat→Prop)(w w':World):Prop:=∀b,D b→∀o,w'.cell? ⟨b,o,none⟩=w.cell? ⟨b,o,none⟩
theorem ij.refl:ij D w w:=fun _ _ _=>rfl
structure pP {α:Type} (T:TypeId) (k:Nat) (N:TypeId→Prop) (RF:fL→World→Nat→Nat→α→Prop):Prop where
 pos:0<k
 ones:∀{D:fL} {w:World} {b o:Nat} {x:α},RF D w b o x→∀j,j<k→∃u,w.cell? ⟨b,o+j,none⟩=some u∧u.oneCell'=true
 moves:∀{D D':fL} {w w':World} {b o b' o':Nat} {x:α},RF D w b o x→(∀j,j<k→w'.cell? ⟨b',o'+j,none⟩=w.cell? ⟨b,o+j,none⟩)→(∀T',N T'→∀b,D T' b→D' T' b)→(∀T',N T'→ij (D T') w w')→RF D' w' b' o' x
theorem i7{b o:Nat}{vs:List Value}(h:aM w b o vs)(g:∀v∈vs,v.oneCell'=true)(j:Nat)(d:j<vs.length):∃u,w.cell? ⟨b,o+j,none⟩=some u∧u.oneCell'=true:=
 ⟨vs[j],h j _ (Ez d),g _ (List.getElem_mem d)⟩
theorem fw{b o d l:Nat}{vs:List Value}(h:aM w b o vs)(q:∀j,j<vs.length→w'.cell? ⟨d,l+j,none⟩=w.cell? ⟨b,o+j,none⟩):aM w' d l vs:=
 fun j v g=>(q j (List.getElem?_eq_some_iff.1 g).1).trans (h j v g)
theorem yf{α:Type}{cells:α→List Value}{Ok:α→Prop}(g:0<k)(hk:∀x,(cells x).length=k)(l:∀x,∀v∈cells x,v.oneCell'=true):pP T k (fun _=>False) (fun _=>dz cells Ok) where
 pos:=g
 ones:=fun h j d=>i7 h.1 (l _) j (by rw[hk];exact d)
 moves:=fun h q _ _=>⟨fw h.1 (fun j d=>q j (by rw[hk]at d;exact d)),h.2⟩
theorem mi:pP 53 10 (fun _=>False) (fun _=>eS):=yf ψ (fun _=>rfl) (fun x v d=>by simp[Ck.Region.cells]at d;rcases d with rfl|rfl|rfl|rfl|rfl|rfl|rfl|rfl|rfl|rfl<;>rfl)
theorem cP{α:Type}{D':Nat→Prop}{cells:α→List Value}{Ok:α→Prop}{xs:List α}(h:bM D k (dz cells Ok) w v xs)(g:∀b,D b→D' b)(q:ij D w w'):bM D' k (dz cells Ok) w' v xs:=
 lh h g fun b o _ x _ l d=>⟨fun j u y=>(q b l _).trans (d.1 j u y),d.2⟩
theorem fI{α:Type}{R:World→Nat→Nat→α→Prop}{xs:List α}(h:bM D k R w v xs):v.oneCell'=true:=by
 obtain⟨A,c,rfl,_⟩:=h;rfl
theorem tR:pP 65 5 (fun T=>T=93) tn where
 pos:=ψ
 ones:=fun⟨v,h,d,_⟩ j x=>i7 h (by intro u g;simp at g;rcases g with rfl|rfl|rfl|rfl|rfl<;>first|rfl|exact fI d) j x
 moves:=fun⟨v,h,d,l⟩ w q y=>⟨v,fw h w,cP d (q 93 rfl) (y 93 rfl),l⟩
theorem qv:pP 45 6 (fun T=>T=93∨T=95) qk where
 pos:=ψ
 ones:=fun⟨v,u,h,d,g,_⟩ j B=>i7 h (by intro u w;simp at w;rcases w with rfl|rfl|rfl|rfl|rfl|rfl<;>first|rfl|exact fI d|exact fI g) j B
 moves:=fun⟨v,u,h,d,g,x⟩ y l q=>⟨v,u,fw h y,cP d (l 93 (.inl rfl)) (q 93 (.inl rfl)),cP g (l 95 (.inr rfl)) (q 95 (.inr rfl)),x⟩
theorem yS:pP 71 4 (fun T=>T=99) BR where
 pos:=ψ
 ones:=fun⟨v,h,d,_⟩ j x=>i7 h (by intro u g;simp at g;rcases g with rfl|rfl|rfl|rfl<;>first|rfl|exact fI d) j x
 moves:=fun⟨v,h,d,l⟩ w q y=>⟨v,fw h w,cP d (q 99 rfl) (y 99 rfl),l⟩
theorem xr:pP 68 4 (fun T=>T=71∨T=99) BP where
 pos:=ψ
 ones:=fun⟨v,h,g,_⟩ j D=>i7 h (by intro u w;simp at w;rcases w with rfl|rfl|rfl|rfl<;>first|rfl|exact fI g) j D
 moves:=fun⟨v,h,g,y⟩ C l q=>⟨v,fw h C,lh g (l 71 (.inl rfl)) fun b o _ x _ B E=>yS.moves E (fun j _=>q 71 (.inl rfl) b B _) (fun T d=>by subst d;exact l 99 (.inr rfl)) (fun T d=>by subst d;exact q 99 (.inr rfl)),y⟩
theorem pP.same{α:Type}{N:TypeId→Prop}{RF:fL→World→Nat→Nat→α→Prop}(K:pP T k N RF){D0 D0':Nat→Prop}{D D':fL}{w w':World}{v:Value}{xs:List α}(h:bM D0 k (RF D) w v xs)
 (d:∀b,D0 b→D0' b)(g:ij D0 w w')(l:∀T',N T'→∀b,D T' b→D' T' b)(y:∀T',N T'→ij (D T') w w'):bM D0' k (RF D') w' v xs:=
 lh h d fun b o _ x _ q u=>K.moves u (fun j _=>g b q _) l y
theorem ql.same{D D':fL}{v:aY}{P:aF}(h:ql D w v P)(d:∀T b,D T b→D' T b)(g:∀T,ij (D T) w w'):ql D' w' v P:=
 ⟨cP h.QF (d _) (g _),tR.same h.Q5 (d _) (g _) (fun T _=>d T) (fun T _=>g T),cP h.Q3 (d _) (g _),qv.same h.Q4 (d _) (g _) (fun T _=>d T) (fun T _=>g T),cP h.Q8 (d _) (g _),cP h.QL (d _) (g _),
  cP h.QB (d _) (g _),xr.same h.Q9 (d _) (g _) (fun T _=>d T) (fun T _=>g T),cP h.QD (d _) (g _),cP h.QH (d _) (g _),cP h.QC (d _) (g _),cP h.QG (d _) (g _),h.pos,h.name⟩
def EG{α:Type}(D0:Nat→Prop)(k:Nat)(R:World→Nat→Nat→α→Prop)(w:World)(xs:List α)(cs:List Value):Prop:=
 cs.length=xs.length*k∧∀i x,xs[i]?=some x→∃b o,D0 b∧R w b o x∧∀j,j<k→cs[i*k+j]?=w.cell? ⟨b,o+j,none⟩
theorem pV{α:Type}{N:TypeId→Prop}{RF:fL→World→Nat→Nat→α→Prop}(K:pP T k N RF){D0 D0':Nat→Prop}{D D':fL}{w w':World}{n0:Nat}{v:Value}{xs:List α}{cs:List Value}
 (U:EG D0 k (RF D) w xs cs)(y:w'.ownsRow n0 T k v xs.length cs)(I:xs.length≤top)(E:∀g,v.ownBlock=some g→D0' g)(R:∀T',N T'→∀b,D T' b→D' T' b)(Y:∀T',N T'→ij (D T') w w'):bM D0' k (RF D') w' v xs:=by
 rcases Nat.eq_zero_or_pos xs.length with C|C
 ·rcases y.2 with⟨l,_⟩|⟨g,q,B,l,_,_,d,_⟩
  ·exact⟨none,0,by rw[l,C],χ,I,fun h=>χ⟩
  ·exact⟨_,_,l,d,I,fun h=>χ⟩
 ·obtain⟨g,q,rfl,hB,W⟩:=y.form C
  have d:xs.length≤q:=by
   rcases y.2 with⟨l,_⟩|⟨Z,J,B,l,_,_,d,_⟩
   ·cases l
   ·cases l;exact d
  refine⟨_,_,rfl,d,I,fun _=>⟨g,0,rfl,E g rfl,fun i x Q=>?_⟩⟩;obtain⟨b,o,_,X,V⟩:=U.2 i x Q;have H:=(List.getElem?_eq_some_iff.1 Q).1;refine K.moves X (fun j O=>?_) R Y;have u:i*k+j<xs.length*k:=Nat.lt_of_lt_of_le (Nat.add_lt_add_left O _) (by rw[←Nat.succ_mul];exact Nat.mul_le_mul_right _ H);have L:=y.cellAt (i*k+j) u;rw[V j O]at L;rw[Nat.zero_add];exact L
theorem Ce{α:Type}{N:TypeId→Prop}{RF:fL→World→Nat→Nat→α→Prop}(K:pP T k N RF){D0:Nat→Prop}{D:fL}{w:World}{A:Option Addr}{xs:List α}(h:BQ D0 k (RF D) w A xs):
 ∃cs:List Value,EG D0 k (RF D) w xs cs∧(∀u∈cs,u.oneCell'=true)∧(0<xs.length→∃b off,A=some ⟨b,off,none⟩∧∀j u,cs[j]?=some u→w.cell? ⟨b,off+j,none⟩=some u):=by
 rcases Nat.eq_zero_or_pos xs.length with B|B
 ·refine⟨[],⟨by rw[B];simp,fun i x y=>?_⟩,ξ,fun h=>χ⟩
  have:=(List.getElem?_eq_some_iff.1 y).1;omega
 ·obtain⟨b,off,rfl,I,H⟩:=h B
  have q:∀j,j<xs.length*k→∃u,w.cell? ⟨b,off+j,none⟩=some u∧u.oneCell'=true:=fun j g=>by
   have hi:j / k<xs.length:=Nat.div_lt_of_lt_mul (by rw[Nat.mul_comm];exact g);obtain⟨u,d,C⟩:=K.ones (H (j / k) _ (Ez hi)) (j%k) (Nat.mod_lt _ K.pos);rw[Nat.add_assoc,Nat.mul_comm,Nat.div_add_mod]at d;exact⟨u,d,C⟩
  have l:∀j,j<xs.length*k→((List.range (xs.length*k)).map fun j=>(w.cell? ⟨b,off+j,none⟩).getD undef)[j]?=w.cell? ⟨b,off+j,none⟩:=fun j g=>by
   obtain⟨u,d,_⟩:=q j g;rw[List.getElem?_map,List.getElem?_range g];simp[d]
  refine⟨(List.range (xs.length*k)).map fun j=>(w.cell? ⟨b,off+j,none⟩).getD undef,⟨ξ,fun i x y=>⟨b,off+i*k,I,H i x y,fun j g=>?_⟩⟩,fun u d=>?_,fun _=>⟨b,off,rfl,fun j u d=>?_⟩⟩
  ·have E:=(List.getElem?_eq_some_iff.1 y).1
   have v:i*k+j<xs.length*k:=Nat.lt_of_lt_of_le (Nat.add_lt_add_left g _) (by rw[←Nat.succ_mul];exact Nat.mul_le_mul_right _ E);rw[l _ v,Nat.add_assoc]
  ·obtain⟨j,g,rfl⟩:=List.mem_map.1 d
   obtain⟨u,d,C⟩:=q j (List.mem_range.1 g);rw[d];exact C
  ·have g:=(List.getElem?_eq_some_iff.1 d).1
   simp only[List.length_map,List.length_range]at g;rw[l j g]at d;exact d
theorem nC{P:Program}(w:World)(t ty e:TypeId)(i:TypeInfo)(d:P.underlying t=some (.slice e))(hi:P.info? e=some i)(c:Nat):(Builtin.append_ #[t,t] ty #[.slice none 0 0,.slice none 0 c]).run P w=.ok (.slice none 0 0) w:=by
 simp[Builtin.append_,run_underlying d,sizeOf,typeInfo,hi,Builtin.lenOf,Builtin.firstCells,loadCells,loadCellsFrom]
theorem qo{α:Type}{N:TypeId→Prop}{RF:fL→World→Nat→Nat→α→Prop}(K:pP T k N RF){P:Program}{ops:Array Oper}{rest:List Oper}{o:Oper}{a:Act}{Q:Exit→Act→World→Prop}{w:World}{s x:Operand}{t:TypeId}
 (Y:P.underlying t=some (.slice T)){z:Value}{bytes:Nat}(B:(P.info? T).map (fun i=>(i.zero,i.size,i.bytes))=some (some z,k,bytes))(I:z.cells.size=k)(V:bytes≤4096)
 (l:o.guard=none)(W:o.op=.call { callee := .builtin .append,args := #[s,x],argTypes := #[t,t] })
 {D0:Nat→Prop}{D:fL}{xs:List α}{v:Value}(hv:bM D0 k (RF D) w v xs)(X:a.eval s=.slice none 0 0)(O:a.eval x=v)
 (h:∀q w' cs,EG D0 k (RF D) w xs cs→(∀u∈cs,u.oneCell'=true)→w'.ownsRow w.heap.size T k q xs.length cs→Kz w w'→wpList P ops Q rest (a.put o.dst q) w'):wpList P ops Q (o::rest) a w:=by
 obtain⟨A,c,rfl,hc,hn,hl⟩:=hv;obtain⟨cs,d,Z,U⟩:=Ce K hl;obtain⟨i,hi,C,E,H⟩:=info_parts B;unfold top at hn
 rcases Nat.eq_zero_or_pos xs.length with J|J
 ·obtain rfl:cs=[]:=List.eq_nil_of_length_eq_zero (by rw[d.1,J];simp)
  rw[J]at O h
  cases A with
  | none =>
   refine wpList_plain l fun K' hK=>?_
   unfold Oper.wp execOp;have hr:=nC (P:=P) w t o.type T i Y hi c;simp only[W,resolve,invoke,builtin,Sem.run_bind,Sem.run_pure,Result.andThen_ok,List.map_toArray,List.map_cons,List.map_nil,X,O,hr];exact hK _ _ (h _ _ [] d ξ (World.ownsRow_nil _ _ _ _) (aD.refl _ _))
  | some ad =>
   refine wpList_append_own_at w l s x t W w.heap.size T i z k bytes Y hi C E H I K.pos (.slice none 0 0) 0 [] X (World.ownsRow_nil _ _ _ _) ad 0 c [] O ξ ξ ξ (by unfold maxLen;omega) χ (Nat.le_refl _) fun q w' L R _ _=>?_
   exact h q w' [] d ξ (by simpa using L) (aD.of_grown R (fun k e=>by cases e))
 ·obtain⟨b,off,rfl,g⟩:=U J
  have y:∀j,(⟨b,off,none⟩:Addr).add j=⟨b,off+j,none⟩:=fun j=>by unfold Addr.add;split<;>simp_all
  refine wpList_append_own_at w l s x t W w.heap.size T i z k bytes Y hi C E H I K.pos (.slice none 0 0) 0 [] X (World.ownsRow_nil _ _ _ _) ⟨b,off,none⟩ xs.length c cs O d.1 (fun j u hu=>by rw[y];exact g j u hu) Z (by unfold maxLen;omega)
   (by rw[Nat.zero_add];exact Nat.le_trans (Nat.mul_le_mul hn V) ψ) (Nat.le_refl _) fun q w' L R _ _=>?_
  rw[Nat.zero_add,List.nil_append]at L;exact h q w' cs d Z L (aD.of_grown R (fun k e=>by cases e))
def over:List Value→Nat→List Value→List Value
 | xs,_,[]=>xs
 | xs,o,v::t=>over (xs.set o v) (o+1) t
def wi(n:Int):Int:=if n.tmod 1000<0 then n.tmod 1000+1001 else n.tmod 1000+1
theorem rc(n:Int)(w:World)(y:dx n):Calls Tryz.prog 14 #[.int .i64 n,.int .i64 1,.int .i64 1000] w fun e w'=>e=.returned (.int .i64 (wi n))∧w'=w:=by
 obtain⟨B,C⟩:=y;have D:IntKind.i64.wrap ((1000:Int)-1)=999:=i64_in _ χ;have q:IntKind.i64.wrap (999:Int)=999:=i64_in _ χ;have E:IntKind.i64.wrap ((999:Int)+1)=1000:=i64_in _ χ;have u:IntKind.i64.wrap (1000:Int)=1000:=i64_in _ χ;have j : -(1000:Int)<n.tmod 1000:=Int.lt_tmod_of_pos n ψ;have l:n.tmod 1000<1000:=Int.tmod_lt_of_pos n ψ;obtain⟨r,g⟩:∃r,r=n.tmod 1000:=⟨_,rfl⟩;rw[←g]at j l;have e4:n.tmod (1000:Int)=r:=g.symm;have v:IntKind.i64.wrap r=r:=i64_in _ χ;have d:wi n=if r<0 then r+1001 else r+1:=by unfold wi;rw[←g]
 rw[d];clear g d
 by_cases h:r<0
 ·have H:IntKind.i64.wrap (r+1000)=r+1000:=i64_in _ χ
  have I:IntKind.i64.wrap (r+1000-1)=r+999:=by rw[i64_in _ χ];omega
  have J:IntKind.i64.wrap (r+999+1)=r+1000:=by rw[i64_in _ χ];omega
  have x:IntKind.i64.wrap (1+(r+1000))=r+1001:=by rw[i64_in _ χ];omega
  go_enter Tryz.func14,Tryz.ntmps14
  go_wp2
  go_ret
  refine⟨nM ?_,rfl⟩
  first|rfl|omega
 ·have x:IntKind.i64.wrap (1+r)=r+1:=by rw[i64_in _ χ];omega
  go_enter Tryz.func14,Tryz.ntmps14
  go_wp2
  go_ret
  refine⟨nM ?_,rfl⟩
  first|rfl|omega|(split<;>omega)
theorem Tryz.info48C:(Tryz.prog.info? 53).map (fun i=>(i.zero,i.size,i.bytes))=some (some (.agg #[.int .i64 0,.string { data := #[] },.int .u64 0,.bool false,.int .u64 0,.bool false,.bool false,.int .u64 0,.bool false,.string { data := #[] }]),10,88):=δ
