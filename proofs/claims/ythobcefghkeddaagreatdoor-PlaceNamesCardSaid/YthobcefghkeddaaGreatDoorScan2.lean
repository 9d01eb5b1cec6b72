import Derived.Test.YthobcefghkeddaaGreatDoorAsE
import Derived.Test.YthobcefghkeddaaGreatDoorFor2
set_option maxRecDepth 100000
set_option linter.all false
set_option maxHeartbeats 4000000
namespace Go.Proofs.YthobcefghkeddaaGreatDoor
open Go.RowKit Go.IntWalk Ck
variable {B pb:Nat} {w:World} {L:List Wr} {named:ByteArray→Bool} {u:Value} {l:List Sp}
theorem ns{l:List iQ}{x:iQ}{of:List Nm}{p:Wr}:p∈g0 (l++[x]) of↔p∈g0 l of∨(∃y∈l,p=(max x.pos y.pos,1))∨p∈say (has of x.name) x.pos 2:=by
 simp only[g0,List.mem_append,cY,List.flatMap_append,List.flatMap_cons,List.flatMap_nil,List.append_nil,List.mem_singleton];constructor
 ·rintro((h|h)|(h|h))
  ·exact .inl (.inl h)
  ·exact .inr (.inl h)
  ·exact .inl (.inr h)
  ·exact .inr (.inr h)
 ·rintro((h|h)|(h|h))
  ·exact .inl (.inl h)
  ·exact .inr (.inl h)
  ·exact .inl (.inr h)
  ·exact .inr (.inr h)
theorem x9{v:aX}{P:aF}(h:aG B w pb v P cM L){Bf:Nat}{bs:List Nat}{fs:List (List Nm)}{D:Nat→DataW Value}{r:Nat→ByteArray→Value}(hF:cZ Bf w bs fs D r)
 (i b:Nat)(f:List Nm)(hb:bs[i]?=some b)(hf:fs[i]?=some f)(hpb:pb<Bf∧pb ∉ bs){u:Value}{xs:List iQ}(hs:aK B 2 ou w u xs):
 Calls Tryz.prog 70 #[.pointer (some ⟨pb,0,none⟩),u,.map (some b)] w fun e w'=>e=.returned (.tuple #[])∧aG B w' pb v P cM (g0 xs f++L)∧aD (fun k=>k=pb) w w':=by
 obtain⟨A,c,rfl,hnc,hn0,hl⟩:=hs;unfold top at hn0;have hlt:=h.lt;have hBp:=h.base
 go_enter Tryz.func70,Tryz.ntmps70
 go_wp2
 go_loopw [12] (fun i wr=>∃n:Nat,n≤xs.length∧i=.int .i64 n∧aG B wr pb v P cM (g0 (xs.take n) f++L)∧aD (fun k=>k=pb) w wr) (fun i _=>xs.length-(intOf i).toNat)
 case atStart=>exact⟨0,Nat.zero_le _,rfl,by simpa[g0,cP]using h,aD.refl _ _⟩
 case round =>
 obtain⟨n,hn,rfl,hL,hk⟩:=hrel
 by_cases hlt2:n<xs.length
 ·obtain⟨bl,off,rfl,hbl,hcs⟩:=hl χ
  obtain⟨x,hx⟩:∃x,xs[n]?=some x:=⟨_,Ez hlt2⟩;obtain⟨hc,hok⟩:=(aI B _ _) _ _ _ _ _ (hk.below (B:=B) χ (fun _ hi e=>χ)) hbl (hcs n x hx);have q0:=hc.c0;have q1:=hc 1 _ rfl;have hsz:=hk.size;have hblr:bl<wr.heap.size:=χ
  have hsm:x.name.size≤maxLen:=by have:=hok.2;unfold aW at this;unfold maxLen;omega
  have HX:=Lib.hid hx;have HL:=Lib.hid hL;have HK:=Lib.hid hk;have hnc2:n≤c:=χ
  clear hx hL hk hc hok
  go_wp2
  obtain⟨wo,hwo⟩:∃wo:World,wo=wr.alloc (Obj.cells #[.int .i64 x.pos,.string x.name] 47):=⟨_,rfl⟩;rw[←hwo];obtain⟨z,hz⟩:∃z,z=wr.heap.size:=⟨_,rfl⟩;rw[←hz];have hx0:wo.heap[z]?=some (.cells #[.int .i64 x.pos,.string x.name] 47 (0,0)):=by rw[hwo,hz];exact heap_alloc_new _ _
  have hLo:aG B wo pb v P cM (g0 (xs.take n) f++L):=by rw[hwo];exact HL.out.new ((aD.refl _ _).alloc _)
  have hKo:aD (fun k=>k=pb) w wo:=by rw[hwo];exact HK.out.alloc _
  have hzp:z≠pb:=χ
  have HX0:=Lib.hid hx0;have HKo:=Lib.hid hKo;have HLo:=Lib.hid hLo;clear hwo hz hx0 hKo hLo q0 q1 HL HK
  go_loopw [21] (fun j wq=>∃k:Nat,k≤n∧j=.int .i64 k∧aG B wq pb v P cM ((xs.take k).map (fun y=>(max x.pos y.pos,1))++(g0 (xs.take n) f++L))∧aD (fun i=>i=pb) wo wq) (fun j _=>n-(intOf j).toNat)
  case atStart=>exact⟨0,Nat.zero_le _,rfl,HLo.out,aD.refl _ _⟩
  case round =>
  obtain⟨k,hkn,rfl,hL2,hk2⟩:=hrel;have hx2:=(hk2.block z (aH HX0.out) hzp).trans HX0.out;have x0:wr.cell? ⟨z,0,none⟩=some (.int .i64 x.pos):=by rw[cell_of_row _ _ _ _ _ _ hx2];rfl
  have x1:wr.cell? ⟨z,1,none⟩=some (.string x.name):=by rw[cell_of_row _ _ _ _ _ _ hx2];rfl
  have hzr:z<wr.heap.size:=aH hx2
  by_cases hlt3:k<n
  ·obtain⟨y,hy⟩:∃y,xs[k]?=some y:=⟨_,Ez χ⟩
   have hkw:=HKo.out.trans hk2 (fun _ _ e=>e);have hsz2:=hkw.size;obtain⟨hc,hok⟩:=(aI B _ _) _ _ _ _ _ (hkw.below (B:=B) χ (fun _ hi e=>χ)) hbl (hcs k y hy);have y0:=hc.c0;have y1:=hc 1 _ rfl;have hbl2:bl<wr.heap.size:=χ
   have HL2:=Lib.hid hL2;have HK2:=Lib.hid hk2;have HY:=Lib.hid hy;clear hL2 hk2 hkw hc hok hy hx2
   go_wp2_with fail
   all_goals
    refine(cE _ 1 81 (HL2.out.new ((aD.refl _ _).alloc _)) rfl).mono ?_;rintro e w2 ⟨rfl,hL3,hk3⟩;have HL3:=Lib.hid hL3;have HK3:=Lib.hid hk3;clear hL3 hk3
    go_wp2
    go_roundw
    case rel =>
     refine⟨k+1,χ,by go_num,HL3.out.congr fun p=>?_,HK2.out.trans (((aD.refl _ _).alloc _).trans HK3.out (fun _ _ e=>e)) (fun _ _ e=>e)⟩;rw[aO HY.out]
     first
      | (simp[or_assoc,or_comm,or_left_comm];done)
      | (have hm:max x.pos y.pos=y.pos:=χ;simp[hm,or_assoc,or_comm,or_left_comm])
      | (have hm:max x.pos y.pos=x.pos:=χ;simp[hm,or_assoc,or_comm,or_left_comm])
    case measure=>simp[intOf];omega
  ·obtain rfl:k=n:=χ
   have HL2:=Lib.hid hL2;have HK2:=Lib.hid hk2;clear hL2 hk2 hx2;have hasq:∀w',Kz wr w'→Calls Tryz.prog 72 #[.map (some b),.string x.name] w' fun e w2=>e=.returned (.bool (has f x.name))∧w'=w2:=fun w' hk=>by
    have hk3:aD (fun i=>i=pb) w w':=(HKo.out.trans HK2.out (fun _ _ e=>e)).trans hk (fun _ _ e=>e.elim);exact mp (hF.keep hk3 (fun k e _=>by subst e;exact hpb)) i b f hb hf x.name hsm
   have HH:=Lib.hid hasq;have HC:Hid (∀w',aD (fun i=>i=pb) wr w'→w'.cell? ⟨z,0,none⟩=some (.int .i64 x.pos)∧w'.cell? ⟨z,1,none⟩=some (.string x.name)):=fun w' hk =>
    ⟨(hk.cell (p:=⟨z,0,none⟩) hzr hzp).trans x0,(hk.cell (p:=⟨z,1,none⟩) hzr hzp).trans x1⟩
   have HLd:=Lib.hid (HL2.out.new ((aD.refl _ wr).drew));clear hasq
   go_wp2_with fail
   go_region_held3 (fun w'=>w'.cell? ⟨z,0,none⟩=some (.int .i64 x.pos)∧w'.cell? ⟨z,1,none⟩=some (.string x.name))
    (first|exact HC.out _ ((aD.refl _ wr).drew)|exact HC.out _ (((aD.refl _ wr).drew).trans (by assumption) (fun _ _ e=>e)))
    (first
     | (go_at_call 72;refine(HH.out _ ((aD.refl _ wr).drew)).mono ?_;rintro e w2 ⟨rfl,rfl⟩)
     | (go_at_call 71;refine(aR _ _ 2 80 HLd.out rfl).mono ?_;rintro e w2 ⟨rfl,hL3,hk3⟩))
   have HL3:=Lib.hid hL3;have HK3:=Lib.hid hk3;clear hL3 hk3
   go_wp2
   go_roundw
   case rel =>
    refine⟨k+1,χ,by go_num,HL3.out.congr fun p=>?_,(HKo.out.trans HK2.out (fun _ _ e=>e)).trans (((aD.refl _ _).drew).trans HK3.out (fun _ _ e=>e)) (fun _ _ e=>e)⟩;rw[aO HX.out];simp only[List.mem_append,ns,List.mem_map];constructor
    ·rintro(h|⟨y,h1,rfl⟩|h|h)
     ·exact .inl (.inr (.inr h))
     ·exact .inl (.inr (.inl ⟨y,h1,rfl⟩))
     ·exact .inl (.inl h)
     ·exact .inr h
    ·rintro((h|⟨y,h1,rfl⟩|h)|h)
     ·exact .inr (.inr (.inl h))
     ·exact .inr (.inl ⟨y,h1,rfl⟩)
     ·exact .inl h
     ·exact .inr (.inr (.inr h))
   case measure=>simp[intOf];omega
 ·obtain rfl:n=xs.length:=χ
  rw[List.take_length]at hL;have HL:=Lib.hid hL;have HK:=Lib.hid hk;clear hL hk
  go_wp2
  go_end0
  exact⟨rfl,HL.out,HK.out⟩
def fL(B:Nat)(named:ByteArray→Bool):Prop:=∀(w:World) (s:ByteArray),fH B w→B≤w.heap.size→aW s→Calls Tryz.prog 122 #[.string s] w fun e w'=>e=.returned (.bool (named s))∧Kz w w'
def cD(named:ByteArray→Bool)(s:ByteArray)(l:List Int):List Wr:=l.flatMap (fun Q7=>say (named s) Q7 0)++cP (fun a b=>[(max a b,1)]) l
theorem mg{s:ByteArray}{l:List Int}{x:Int}{p:Wr}:p∈cD named s (l++[x])↔p∈cD named s l∨p∈say (named s) x 0∨p∈l.flatMap (fun y=>[(max x y,1)]):=by
 simp only[cD,List.mem_append,cY,List.flatMap_append,List.flatMap_cons,List.flatMap_nil,List.append_nil,List.mem_flatMap];constructor
 ·rintro((h|h)|(h|h))
  ·exact .inl (.inl h)
  ·exact .inr (.inl h)
  ·exact .inl (.inr h)
  ·exact .inr (.inr h)
 ·rintro((h|h)|(h|h))
  ·exact .inl (.inl h)
  ·exact .inr (.inl h)
  ·exact .inl (.inr h)
  ·exact .inr (.inr h)
theorem fw(x:Nm)(t:List Nm)(s:ByteArray):aV (x::t) s=if x.1=s then x.2::aV t s else aV t s:=by
 unfold aV
 by_cases h:x.1=s<;>simp[h]
theorem iC{t:List Nm}{s:ByteArray}{q:Int}:q∈aV t s↔(s,q)∈t:=by
 unfold aV;simp only[List.mem_map,List.mem_filter,decide_eq_true_eq];constructor
 ·rintro⟨⟨a,b⟩,⟨j,d⟩,g⟩
  simp only at d g;subst d;subst g;exact j
 ·intro h
  exact⟨(s,q),⟨h,rfl⟩,rfl⟩
theorem sD{named:ByteArray→Bool}{p:Wr}:∀{f:List Nm},p∈i8 named f↔∃s,p∈cD named s (aV f s)
 | []=>by simp[i8,cD,aV,cP]
 | x::t=>by
  have u:=sD (named:=named) (p:=p) (f:=t);have j:p∈i8 named (x::t)↔p∈say (named x.1) x.2 0∨(∃q,(x.1,q)∈t∧p=(max q x.2,1))∨p∈i8 named t:=by
   simp only[i8,List.flatMap_cons,cP,List.mem_append,List.mem_flatMap];constructor
   ·rintro((h|h)|(⟨y,g,h⟩|h))
    ·exact .inl h
    ·exact .inr (.inr (.inl h))
    ·by_cases e:y.1=x.1
     ·simp only[e,if_true,List.mem_singleton]at h
      exact .inr (.inl ⟨y.2,by rw[←e];exact g,h⟩)
     ·simp[e]at h
    ·exact .inr (.inr (.inr h))
   ·rintro(h|⟨q,d,h⟩|(h|h))
    ·exact .inl (.inl h)
    ·exact .inr (.inl ⟨(x.1,q),d,by simp[h]⟩)
    ·exact .inl (.inr h)
    ·exact .inr (.inr h)
  have l:(∃s,p∈cD named s (aV (x::t) s))↔p∈say (named x.1) x.2 0∨(∃q,(x.1,q)∈t∧p=(max q x.2,1))∨∃s,p∈cD named s (aV t s):=by
   constructor
   ·rintro⟨s,h⟩
    rw[fw]at h
    by_cases e:x.1=s
    ·rw[if_pos e]at h
     simp only[cD,List.flatMap_cons,cP,List.mem_append,List.mem_flatMap]at h;subst e
     rcases h with(h|h)|(⟨y,g,h⟩|h)
     ·exact .inl h
     ·exact .inr (.inr ⟨x.1,by simp only[cD,List.mem_append,List.mem_flatMap];exact .inl h⟩)
     ·exact .inr (.inl ⟨y,iC.1 g,by simpa using h⟩)
     ·exact .inr (.inr ⟨x.1,by simp only[cD,List.mem_append];exact .inr h⟩)
    ·rw[if_neg e]at h
     exact .inr (.inr ⟨s,h⟩)
   ·have v:∀s,p∈cD named s (aV t s)→p∈cD named s (aV (x::t) s):=fun s h=>by
     rw[fw]
     by_cases e:x.1=s
     ·rw[if_pos e]
      simp only[cD,List.flatMap_cons,cP,List.mem_append]at h⊢
      rcases h with h|h
      ·exact .inl (.inr h)
      ·exact .inr (.inr h)
     ·rw[if_neg e];exact h
    rintro(h|⟨q,d,h⟩|⟨s,h⟩)
    ·exact⟨x.1,by rw[fw,if_pos rfl];simp only[cD,List.flatMap_cons,List.mem_append];exact .inl (.inl h)⟩
    ·exact⟨x.1,by rw[fw,if_pos rfl];simp only[cD,cP,List.mem_append,List.mem_flatMap];exact .inr (.inl ⟨q,iC.2 d,by simp[h]⟩)⟩
    ·exact⟨s,v s h⟩
  rw[j,l,u]
theorem mP{w':World}{b r n cnt:Nat}{D:DataW Value}{left:Lit→Bool}(h:w.ranges Tryz.prog 9 dl b r n D left cnt)(hk:aD (fun k=>k=pb) w w')(g:b≠pb)(j:r≠pb):w'.ranges Tryz.prog 9 dl b r n D left cnt:=
 h.kept (row:=some pb) ⟨hk.os,hk.tape,hk.output,hk.size,fun i hi d=>hk.block i hi (fun e=>d (by rw[e]))⟩ (fun e=>g (Option.some.inj e)) (fun e=>j (Option.some.inj e))
theorem yQ{v:aX}{P:aF}(h:aG B w pb v P cM L)(a:Act)(a6:a.tmps.size=44)(h0:At a 0 (.pointer (some ⟨pb,0,none⟩)))
 {A:Option Addr}{c N:Nat}{q:List Int}{x:Int}(h5:At a 5 (.slice A N c))(h6:At a 6 (.int .i64 q.length))(h7:At a 7 (.int .i64 x))(bg:q.length≤N)(bf:N≤c)(bo:q.length≤4194304)
 (l:0<q.length→∃g,A=some ⟨g,0,none⟩∧g<w.heap.size∧g≠pb∧∀(i:Nat) (y:Int),q[i]?=some y→w.cell? ⟨g,i,none⟩=some (.int .i64 y))(Q:Exit→Act→World→Prop)
 (hQ:∀Z w',aE (fun i=>i==9||(rg 29 42 i)) a Z→aG B w' pb v P cM (q.flatMap (fun y=>[(max x y,1)])++L)→aD (fun k=>k=pb) w w'→Q .normal Z w'):
 (ay Tryz.f69 [1,0,0,1,1,0,1,1,0,0,1,1,0,0,1,1]).wp Tryz.prog Q a w:=by
 have bm:=h.lt;have bp:q.length≤c:=χ
 conv=>arg 2;whnf
 refine so (fun C w1=>aE (fun i=>i==29||i==30||i==31||i==32||i==33) a C∧At C 31 (.slice A q.length c)∧At C 32 (.int .i64 q.length)∧At C 33 (.int .i64 0)∧w1=w) ?_ ?_
 ·clear l
  obtain⟨T,d⟩:=a;refine rl ?_
  iterate 5 with_reducible refine st ?_
  with_reducible refine ln ?_
  refine⟨rfl,ag,aq,aq,aq,rfl⟩
 rintro a0 w0 ⟨D,bb,a9,a7,rfl⟩;have U:a0.tmps.size=44:=D.size.trans a6;replace h0:=D.Q7 h0 rfl;replace h7:=D.Q7 h7 rfl;refine bU q.length (fun i=>i==9||(rg 33 42 i)) (fun i=>i==9||(rg 35 41 i)) (fun k _ w'=>aG B w' pb v P cM ((q.take k).flatMap (fun y=>[(max x y,1)])++L)∧aD (fun k=>k=pb) w0 w') χ a7 a9 ψ rfl
  ζ χ ψ (fun k C H w E hI=>hI) ⟨by simpa using h,aD.refl _ _⟩ ?_ ?_
 ·rintro n C wr O E a8 ⟨I,hk⟩
  obtain⟨g,rfl,al,an,J⟩:=l χ;obtain⟨y,hy⟩:=ge O;have q0:wr.cell? ⟨g,n,none⟩=some (.int .i64 y):=(hk.cell (p:=⟨g,n,none⟩) al an).trans (J n y hy);have W:=E.Q7 h0 rfl;have X:=E.Q7 h7 rfl;have Y:=E.Q7 bb rfl;have V:C.tmps.size=44:=E.size.trans U;have be:=hk.size;have bl:g<wr.heap.size:=χ
  have HY:=hh hy;have HL:=hh I;have HK:=hh hk;have bc:n≤c:=χ
  clear hy I hk E J l;refine so (fun H w2=>aE (fun i=>i==35||i==36||i==9) C H∧At H 9 (.int .i64 y)∧w2=wr) ?_ ?_
  ·obtain⟨T,d⟩:=C
   refine rl ?_
   iterate 3 with_reducible refine st ?_
   with_reducible refine ln ?_
   refine⟨rfl,ag,aq,rfl⟩
  rintro H w2 ⟨u,bs,rfl⟩;replace W:=u.Q7 W rfl;replace X:=u.Q7 X rfl;have bd:=u.size.trans V;refine Code.wp_only (R:=fun a3 w3=>aE (fun i=>rg 37 41 i) H a3∧aG B w3 pb v P cM ([(max x y,1)]++((q.take n).flatMap (fun y=>[(max x y,1)])++L))∧aD (fun k=>k=pb) w2 w3) ?_ ?_
  ·clear u Y a8 q0
   obtain⟨T,d⟩:=H;refine rl ?_
   iterate 4 with_reducible refine st ?_
   with_reducible refine Lz (fun K hK=>?_)
   go_simp;refine(cE _ 1 81 HL.out rfl).mono ?_;rintro e w4 ⟨rfl,ad,a4⟩;with_reducible refine hK _ _ (ln ?_)
   refine⟨rfl,?_,?_,a4⟩
   ·exact ag
   ·refine ad.congr fun p=>?_
    rw[show(if x<y then y else x)=max x y from by split<;>omega];exact Iff.rfl
  rintro a3 w3 ⟨ac,af,a5⟩;refine⟨(u.m).t ac,af.congr fun p=>?_,HK.out.trans a5 (fun _ _ e=>e)⟩;rw[aO HY.out,List.flatMap_append,List.flatMap_cons,List.flatMap_nil,List.append_nil];simp only[List.mem_append];simp only[or_assoc,or_comm,or_left_comm]
 ·rintro Z w' E ⟨I,hk⟩
  rw[List.take_length]at I;exact hQ _ _ ((D.m).t E) I hk
theorem wK{v:aX}{P:aF}(hN:fL B named)(h:aG B w pb v P cM L)(a:Act)(be:a.tmps.size=44)(h0:At a 0 (.pointer (some ⟨pb,0,none⟩)))
 {A:Option Addr}{c:Nat}{x:List Int}{s:ByteArray}(hs:aW s)(h4:At a 4 (.string s))(h5:At a 5 (.slice A x.length c))(bz:x.length≤c)(b1:x.length≤4194304)
 (l:0<x.length→∃g,A=some ⟨g,0,none⟩∧g<w.heap.size∧g≠pb∧∀(i:Nat) (y:Int),x[i]?=some y→w.cell? ⟨g,i,none⟩=some (.int .i64 y))(Q:Exit→Act→World→Prop)
 (hQ:∀a' w',aE (fun i=>i==6||i==7||i==9||(rg 17 43 i)) a a'→aG B w' pb v P cM (cD named s x++L)→aD (fun k=>k=pb) w w'→Q .normal a' w'):
 (ay Tryz.f69 [1,0,0,1,1,0,1]).wp Tryz.prog Q a w:=by
 have b0:=h.lt;have bx:=h.base
 conv=>arg 2;whnf
 refine so (fun E w1=>aE (fun i=>i==17||i==18||i==19) a E∧At E 17 (.slice A x.length c)∧At E 18 (.int .i64 x.length)∧At E 19 (.int .i64 0)∧w1=w) ?_ ?_
 ·clear l hN
  obtain⟨T,d⟩:=a;refine rl ?_
  iterate 3 with_reducible refine st ?_
  with_reducible refine ln ?_
  refine⟨rfl,ag,aq,aq,aq,rfl⟩
 rintro a0 w0 ⟨C,bs,bp,bm,rfl⟩;have Z:a0.tmps.size=44:=C.size.trans be;replace h0:=C.Q7 h0 rfl;replace h4:=C.Q7 h4 rfl;replace h5:=C.Q7 h5 rfl;refine bU x.length (fun i=>i==6||i==7||i==9||(rg 19 43 i)) (fun i=>i==6||i==7||i==9||(rg 21 42 i)) (fun k _ w'=>aG B w' pb v P cM (cD named s (x.take k)++L)∧aD (fun k=>k=pb) w0 w') χ bm bp ψ rfl
  ζ χ ψ (fun k E I w H hI=>hI) ⟨by simpa[cD,cP]using h,aD.refl _ _⟩ ?_ ?_
 ·rintro n E wr X H bo ⟨V,hk⟩
  obtain⟨g,rfl,W,J,N⟩:=l χ;obtain⟨y,hy⟩:=ge X;have q0:wr.cell? ⟨g,n,none⟩=some (.int .i64 y):=(hk.cell (p:=⟨g,n,none⟩) W J).trans (N n y hy);have R:=H.Q7 h0 rfl;have al:=H.Q7 h4 rfl;have U:=H.Q7 h5 rfl;have an:=H.Q7 bs rfl;have ac:E.tmps.size=44:=H.size.trans Z;have bw:=hk.size;have bc:g<wr.heap.size:=χ
  have HY:=hh hy;have HL:=hh V;have HK:=hh hk;have HG:=hh N;have bt:n≤c:=χ
  clear hy V hk H N l;refine so (fun I w2=>aE (fun i=>i==21||i==22||i==23||i==6||i==7) E I∧At I 6 (.int .i64 n)∧At I 7 (.int .i64 y)∧w2=wr) ?_ ?_
  ·clear hN
   obtain⟨T,d⟩:=E;refine rl ?_
   iterate 5 with_reducible refine st ?_
   with_reducible refine ln ?_
   refine⟨rfl,ag,aq,aq,rfl⟩
  rintro I w2 ⟨q,bg,bl,rfl⟩;replace R:=q.Q7 R rfl;replace al:=q.Q7 al rfl;replace U:=q.Q7 U rfl;have ad:=q.size.trans ac;clear an bo q0;refine so (fun a3 w3=>aE (fun i=>rg 24 28 i) I a3∧aG B w3 pb v P cM (say (named s) y 0++(cD named s (x.take n)++L))∧aD (fun k=>k=pb) w2 w3) ?_ ?_
  ·have HN:=hh (hN w2 s HL.out.laid χ hs)
   clear q hN;obtain⟨T,d⟩:=I;refine rl ?_
   iterate 2 with_reducible refine st ?_
   with_reducible refine Lz (fun K hK=>?_)
   go_simp;refine HN.out.mono ?_;rintro e w4 ⟨rfl,D⟩;with_reducible refine hK _ _ ?_;clear hK K
   have a6:=hh (HL.out.new D);have a5:=hh D;clear D;with_reducible refine st ?_;refine Lz (fun K hK=>?_)
   go_simp;refine(aR _ _ 0 5 a6.out rfl).mono ?_;rintro e w5 ⟨rfl,a8,bd⟩;with_reducible refine hK _ _ (ln ?_)
   refine⟨rfl,ag,a8,(a5.out.mono (fun _ _ h=>h.elim)).trans bd (fun _ _ e=>e)⟩
  rintro a3 w3 ⟨u,a9,O⟩;have af:=u.size.trans ad;have Y:(x.take n).length=n:=by rw[List.length_take];omega
  refine yQ a9 a3 af (u.Q7 R rfl) (u.Q7 U rfl) (by rw[Y];exact u.Q7 bg rfl) (u.Q7 bl rfl) χ χ χ (fun _=>⟨g,rfl,Nat.lt_of_lt_of_le bc O.size,J,fun i z hz=>?_⟩) _ (fun a4 w4 a7 bb D=>?_)
  ·have bf:x[i]?=some z:=by rw[List.getElem?_take]at hz;split at hz;exact hz;cases hz
   exact((HK.out.trans O (fun _ _ e=>e)).cell (p:=⟨g,i,none⟩) W J).trans (HG.out i z bf)
  refine⟨((q.m).t u).t a7,bb.congr fun p=>?_,(HK.out.trans O (fun _ _ e=>e)).trans D (fun _ _ e=>e)⟩;rw[aO HY.out];simp only[List.mem_append,mg];simp only[or_assoc,or_comm,or_left_comm]
 ·rintro a' w' H ⟨V,hk⟩
  rw[List.take_length]at V;exact hQ _ _ ((C.m).t H) V hk
theorem tn(f:List Nm)(s:ByteArray):(aV f s).length≤f.length:=by
 unfold aV;rw[List.length_map];exact List.length_filter_le _ _
theorem gV{k:Value}{d:Lit}(h:keyOf Tryz.prog 9 k=some d):∃s:ByteArray,k=.string s∧d=key s∧s.size≤maxLen:=by
 cases k<;>simp[keyOf,Tryz.underlying9,mapKey]at h
 exact⟨_,rfl,h.2.symm,h.1⟩
theorem tp{z:Nat}{e:TypeId}{d:List Value}(h:w.ownsRow z e 1 u d.length d):∃A c,u=.slice A d.length c∧d.length≤c:=by
 rcases h.2 with⟨j,v⟩|⟨g,l,q,j,_,_,x,_⟩
 ·exact⟨none,0,by rw[j,v],χ⟩
 ·exact⟨_,_,j,x⟩
theorem wL{v:aX}{P:aF}(hN:fL B named)(h:aG B w pb v P cM L){Bf:Nat}{bs:List Nat}{fs:List (List Nm)}{D:Nat→DataW Value}{r:Nat→ByteArray→Value}(hF:cZ Bf w bs fs D r)
 (i b:Nat)(f:List Nm)(hb:bs[i]?=some b)(hf:fs[i]?=some f)(c9:pb<Bf∧pb ∉ bs)(ee:f.length≤4194304)(b5:∀x∈f,aW x.1):
 Calls Tryz.prog 69 #[.pointer (some ⟨pb,0,none⟩),.map (some b)] w fun e w'=>e=.returned (.tuple #[])∧aG B w' pb v P cM (i8 named f++L)∧aD (fun k=>k=pb) w w':=by
 have eg:=h.lt;have ea:=h.base;obtain⟨m1,m3⟩:=hF.map i b f hb hf;have bw:b≠pb:=fun e=>c9.2 (by rw[←e];exact List.mem_of_getElem? hb)
 have d2:=m1.lt;refine bK Tryz.func69 Tryz.ntmps69 rfl ξ fun a b6 c4 H=>?_
 have h0:At a 0 (.pointer (some ⟨pb,0,none⟩)):=H 0 _ rfl;have O:At a 1 (.map (some b)):=H 1 _ rfl;clear H
 conv=>arg 2;whnf
 refine so (fun Q w1=>aE (fun i=>i==10||i==11) a Q∧At Q 11 (.pointer (some ⟨w.heap.size,0,none⟩))∧w1.ranges Tryz.prog 9 dl b w.heap.size f.length (D i) (Go.Maps.has (D i)) (Go.Maps.size (D i))∧w.grownBy w1 none) ?_ ?_
 ·clear hN hF m3
  obtain⟨T,d⟩:=a;refine rl ?_;with_reducible refine st ?_
  refine wpList_range_own _ rfl _ 137 rfl 9 221 Tryz.law9 Tryz.underlying137 _ b f.length (D i) (by simp[Act.eval,b6]) m1 ?_;intro w0 b3 c5 eo;with_reducible refine ln ?_
  refine⟨rfl,?_,?_,b3,c5⟩
  ·(repeat (first|with_reducible apply aE.put|with_reducible apply aE.set))<;>first|with_reducible exact aE.refl _ _|rfl
  ·exact At.put_self
 rintro a0 w1 ⟨U,ac,a5,hg⟩;have bl:Kz w w1:=aD.of_grown hg (fun _ e=>by cases e);have bb:=U.size.trans b6;replace h0:=U.Q7 h0 rfl;have bf:=h.new bl;have d7:w.heap.size<w1.heap.size:=a5.lt;have b4:w.heap.size≠pb:=χ
 have HN:=hh hN;have M3:=hh m3;have HF:=hh hF;have cc:=hh bl;have be:∀s:ByteArray,s.size≤maxLen→Go.Maps.has (D i) (key s)=has f s:=fun s Z=>(m3 s Z).2.2
 clear hN hF m3 bl hg;refine yI (t:=13)
  (fun a' w'=>aE (fun i=>i==4||i==5||i==6||i==7||i==9||(rg 12 43 i)) a0 a'∧∃left cnt Lc,w'.ranges Tryz.prog 9 dl b w.heap.size f.length (D i) left cnt∧aG B w' pb v P cM (Lc++L)∧aD (fun k=>k=pb) w w' ∧
   (∀kl,left kl=true→Go.Maps.has (D i) kl=true)∧∀p,p∈Lc↔∃s:ByteArray,s.size≤maxLen∧left (key s)=false∧p∈cD named s (aV f s))
  (fun _ w'=>w'.rangeLeft b w.heap.size)
  (fun m a' w'=>aE (fun i=>i==4||i==5||i==6||i==7||i==9||(rg 12 43 i)) a0 a'∧∃(s:ByteArray) (left:Lit→Bool) (cnt:Nat) (Lc:List Wr),s.size≤maxLen∧has f s=true∧cnt<m∧(Instr.entry (.pointer (some ⟨w.heap.size,0,none⟩))).run Tryz.prog w'=.ok (.tuple #[.string s,r i s]) w' ∧
   w'.ranges Tryz.prog 9 dl b w.heap.size f.length (D i) (fun z=>left z && !z.sameKey (key s)) cnt∧aG B w' pb v P cM (Lc++L)∧aD (fun k=>k=pb) w w' ∧
   (∀kl,left kl=true→Go.Maps.has (D i) kl=true)∧∀p,p∈Lc↔∃s:ByteArray,s.size≤maxLen∧left (key s)=false∧p∈cD named s (aV f s))
  (fun a' w'=>a'.defers=[]∧∃Lc,aG B w' pb v P cM (Lc++L)∧aD (fun k=>k=pb) w w'∧∀p,p∈Lc↔∃s:ByteArray,s.size≤maxLen∧p∈cD named s (aV f s)) ?_ ?_ ?_ ?_
 ·refine⟨aE.refl _ _,_,_,[],a5,by simpa using bf,cc.out.mono (fun _ _ h=>h.elim),fun _ h=>h,fun p=>⟨fun h=>by simp at h,fun⟨s,Z,hn,hp⟩=>?_⟩⟩
  rw[be s Z]at hn;have:aV f s=[]:=by
   have:=kM f s;rw[hn]at this;have h2:¬ 0<(aV f s).length:=of_decide_eq_false this.symm;exact List.length_eq_zero_iff.1 χ
  rw[this]at hp;simp[cD,cP]at hp
 ·rintro Q w2 ⟨R,left,cnt,Lc,l,E,C,X,I⟩
  have ad:=R.Q7 ac rfl;have K:Q.tmps.size=44:=R.size.trans bb;have bx:Q.defers=[]:=R.defers.trans (U.defers.trans c4);have HR:=hh l;have al:=hh E;have af:=hh C;have a4:=hh X;have an:=hh I;have bc:=hh R;have en:=l.lt;clear E C X I R l a5 bf be h h0 m1 U;refine rl ?_;refine wpList_next_ranges _ rfl _ rfl 9 Tryz.law9 dl (Value.string) (fun v:Value=>v) (fun ky kl hk=>by obtain⟨s,e,_⟩:=gV hk;exact⟨s,e⟩) (fun v y _=>⟨v,rfl⟩) b w.heap.size f.length (D i) left cnt (ad.eval χ) HR.out ?_ ?_
  ·intro eb c7
   obtain⟨T,d⟩:=Q;simp only[Act.put];with_reducible refine st ?_;refine ln ?_
   refine⟨rfl,.inr ⟨?_,?_⟩⟩
   ·exact At.eval At.self (by simp;exact K▸(by decide:13<44))
   ·exact⟨bx,Lc,al.out,af.out,fun p=>by rw[an.out];exact⟨fun⟨s,O,_,h3⟩=>⟨s,O,h3⟩,fun⟨s,O,h3⟩=>⟨s,O,c7 _,h3⟩⟩⟩
  ·intro s c kl y w3 a6 a7 b1 hR bt a9 cx bz dc V
   obtain⟨s',e,rfl,Z⟩:=gV a7
   cases e
   simp only[dl,Option.some.injEq]at hR;subst hR;have c3:c=r i s:=by
    have e1:=(M3.out s Z).1;rw[bt]at e1;exact DataW.held.inj e1
   subst c3;have W:has f s=true:=by rw[←(M3.out s Z).2.2];exact a4.out _ b1
   have bm:aD (fun k=>k=w.heap.size) w2 w3:=aD.of_grown bz (fun k e=>by cases e;rfl);have ca:gF w2 w.heap.size=none:=by
    obtain⟨es,cm,d1,d8,c0,_,_,_,_,e5,_⟩:=HR.out;unfold gF;rw[e5]
   have cu:=al.out.keep bm (fun k hk _=>by subst hk;rw[ca];exact⟨χ,ξ,ξ⟩);have c6:aD (fun k=>k=pb) w w3:=af.out.trans bm (fun k hk e=>χ);have b2:a6<w2.rangeLeft b w.heap.size:=by rw[HR.out.left_eq];exact cx
   clear bt a7 bz dc bm ca b1;have cb:=hh V;have cf:=hh a9;clear V a9;obtain⟨T,d⟩:=Q;simp only[Act.put];with_reducible refine st ?_;refine ln ?_
   refine⟨rfl,.inl ⟨?_,?_,s,left,a6,Lc,Z,W,b2,cb.out,cf.out,cu,c6,a4.out,an.out⟩⟩
   ·exact At.eval At.self (by simp;exact K▸(by decide:13<44))
   ·refine bc.out.trans (vs:=fun i=>i==12||i==13) ?_ ζ
    (repeat (first|with_reducible apply aE.put|with_reducible apply aE.set))<;>first|with_reducible exact aE.refl _ _|rfl
 ·rintro m Q w2 ⟨R,s,left,cnt,Lc,Z,W,cy,V,l,E,C,X,I⟩
  have di:aW s:=by
   have O:=kM f s;rw[W]at O;obtain⟨q,hq⟩:=List.exists_mem_of_length_pos (of_decide_eq_true O.symm);exact b5 _ (iC.1 hq)
  obtain⟨A,c,hv,bp⟩:=tp (by rw[List.length_map];exact(M3.out s Z).2.1);rw[List.length_map]at hv bp;have Y:=(M3.out s Z).2.1;have J:=Y.keep C (fun k hk e=>by subst e;have:=(Y.lt _ hk).1;omega);have a8:(aV f s).length≤4194304:=by have:=tn f s;omega
  have ad:=R.Q7 ac rfl;have ds:=R.Q7 h0 rfl;have K:Q.tmps.size=44:=R.size.trans bb;rw[hv]at V J;have cj:=hh J;have HR:=hh l;have al:=hh E;have af:=hh C;have a4:=hh X;have an:=hh I;have bc:=hh R;clear E C X I R l a5 bf be h h0 m1 U Y J hv ac;obtain⟨N,bg⟩:∃n,n=(aV f s).length:=⟨_,rfl⟩;rw[←bg]at V bp a8;have cd:=hh bg;clear bg;refine so (fun a2 w3=>aE (fun i=>i==14||i==15||i==16||i==4||i==5) Q a2∧At a2 4 (.string s)∧At a2 5 (.slice A N c)∧w3=w2) ?_ ?_
  ·obtain⟨T,d⟩:=Q
   refine rl ?_
   iterate 5 with_reducible refine st ?_
   with_reducible refine ln ?_
   refine⟨rfl,ag,aq,aq,rfl⟩
  rintro a2 w3 ⟨bd,dt,d0,rfl⟩;have cw:=cd.out;subst cw;refine wK HN.out al.out a2 (bd.size.trans K) (bd.Q7 ds rfl) di dt d0 bp a8 (fun d4=>?_) _ (fun a3 w4 cs cv bo=>?_)
  ·rcases cj.out.2 with⟨e1,e2⟩|⟨g,d9,cp,e1,hg,hh,d3,_,ed,dk⟩
   ·omega
   ·cases e1
    refine⟨g,rfl,aH hh,χ,fun j y hy=>?_⟩;have h3:cp.toList[j]?=some (.int .i64 y):=by
     have h4:((aV f s).map (Value.int .i64))[j]?=some (.int .i64 y):=by rw[List.getElem?_map,hy];rfl
     rw[←dk,List.getElem?_take]at h4;split at h4
     ·exact h4
     ·cases h4
    rw[cell_of_row _ _ _ _ _ _ hh]
    simpa using h3
  refine⟨⟨(bc.out.t bd).t cs,_,cnt,cD named s (aV f s)++Lc,mP HR.out bo bw b4,by rw[List.append_assoc];exact cv,af.out.trans bo (fun _ _ e=>e),fun kl b0=>a4.out kl (by simp at b0;exact b0.1),fun p=>?_⟩,?_⟩
  ·simp only[List.mem_append,an.out]
   constructor
   ·rintro(O|⟨u,O,h2,h3⟩)
    ·exact⟨s,Z,by rw[WideAt.sameKey_self (kI s)];simp,O⟩
    ·exact⟨u,O,by simp[h2],h3⟩
   ·rintro⟨u,O,h2,h3⟩
    by_cases hus:u=s
    ·subst hus;exact .inl h3
    ·refine .inr ⟨u,O,?_,h3⟩
     have c8:(key u).sameKey (key s)=false:=by
      rw[Bool.eq_false_iff];exact fun e=>hus (mo (WideAt.sameKey_eq e))
     simpa[c8]using h2
  ·have h5:=(mP HR.out bo bw b4).left_eq
   show w4.rangeLeft b w.heap.size<m;rw[h5];exact cy
 ·rintro Q w2 ⟨hd,Lc,E,C,I⟩
  refine eL rfl hd ⟨rfl,E.congr fun p=>?_,C⟩;simp only[List.mem_append,I,sD];constructor
  ·rintro(⟨s,_,h⟩|h)
   ·exact .inl ⟨s,h⟩
   ·exact .inr h
  ·rintro(⟨s,h⟩|h)
   ·refine .inl ⟨s,?_,h⟩
    by_cases hz:aV f s=[]
    ·rw[hz]at h;simp[cD,cP]at h
    ·obtain⟨q,hq⟩:=List.exists_mem_of_ne_nil _ hz
     have:=b5 _ (iC.1 hq);unfold aW at this;unfold maxLen;show s.size≤_;have e:((s,q):Nm).1=s:=rfl;rw[e]at this;omega
   ·exact .inr h
def dO(x:Sp):List Value:=[.int .u64 x.1,.int .u64 x.2]
theorem nj(a b:Nat)(w:World):Calls Tryz.prog 112 #[.agg #[.int .u64 a,.int .u64 b]] w fun e w'=>e=.returned (.bool (decide (b<a)))∧Kz w w':=by
 go_enter Tryz.func112,Tryz.ntmps112
 go_wp2
 go_ret
 exact⟨rfl,(aD.refl _ _).alloc _⟩
def aJ(w:World)(pb:Nat)(u:Value)(l:List Sp):Prop:=
 ∃A c,u=.slice A l.length c∧l.length≤c∧l.length≤4194304∧(0<l.length→∃g,A=some ⟨g,0,none⟩∧g<w.heap.size∧g≠pb ∧
  ∀(i:Nat) (s:Sp),l[i]?=some s→w.cell? ⟨g,i*2,none⟩=some (.int .u64 s.1)∧w.cell? ⟨g,i*2+1,none⟩=some (.int .u64 s.2)∧s.1<lim∧s.2<lim)
theorem aJ.keep{w':World}(h:aJ w pb u l)(hk:aD (fun k=>k=pb) w w'):aJ w' pb u l:=by
 obtain⟨A,c,e,x,y,B⟩:=h;refine⟨A,c,e,x,y,fun v=>?_⟩;obtain⟨g,e,d,j,C⟩:=B v;refine⟨g,e,Nat.lt_of_lt_of_le d hk.size,j,fun i s D=>?_⟩;obtain⟨c1,c2,q⟩:=C i s D;exact⟨(hk.cell (p:=⟨g,i*2,none⟩) d j).trans c1,(hk.cell (p:=⟨g,i*2+1,none⟩) d j).trans c2,q⟩
theorem wF{P:Program}{b b2 t:Nat}{R1 body:Code}{Q:Exit→Act→World→Prop}{a:Act}(I:Act→World→Prop)(μ:Act→World→Nat)(J:Nat→Act→World→Prop)(Done:Act→World→Prop)(q:I a w)
 (u:∀a w,I a w→R1.wp P (jl fun d w'=>(d.eval (.tmp t)=.bool true∧J (μ a w) d w')∨(d.eval (.tmp t)=.bool false∧Done d w')) a w)
 (B:∀m a w,J m a w→body.wp P (jl fun d w'=>I d w'∧μ d w'<m) a w)
 (C:∀a w,Done a w→Q .normal a w):
 (Code.block b (Code.loop (Code.seq (Code.seq R1 (Code.cond (.tmp t) .skip (.exit b))) (Code.block b2 body)))).wp P Q a w:=by
 refine wp_block (wp_loop I μ q ?_);intro a w x;refine wp_seq (wp_seq (Code.wp_only (u a w x) fun j l h=>?_))
 rcases h with⟨g,y⟩|⟨g,v⟩
 ·refine wp_cond_true g (wp_skip (wp_block (Code.wp_only (B _ j l y) fun D E hh=>?_)))
  exact hh
 ·refine wp_cond_false g (wp_exit ?_)
  show Exit.inBlock b Q (.exit b) j l;simp only[Exit.inBlock,if_true];exact C _ _ v
theorem qH(h:dZ l){i j:Nat}{s t:Sp}(y:i≤j)(v:l[i]?=some s)(q:l[j]?=some t):s.2≤t.2:=by
 rcases Nat.lt_or_ge i j with u|u
 ·obtain⟨d,w⟩:=List.getElem?_eq_some_iff.1 v
  obtain⟨g,x⟩:=List.getElem?_eq_some_iff.1 q;have:=List.pairwise_iff_getElem.1 h.apart i j d g u;have B:=h.some_ t (List.mem_of_getElem? q);rw[w,x]at this;omega
 ·have:i=j:=χ
  subst this;have:=Option.some.inj (v.symm.trans q);subst this;exact Nat.le_refl _
theorem sg(hu:aJ w pb u l)(hl:dZ l)(p:Nat)(hp:p<lim):
 Calls Tryz.prog 113 #[.agg #[u],.int .u64 p] w fun e w'=>(∃i:Nat,e=.returned (.int .i64 i)∧i≤l.length∧(∀j s,j<i→l[j]?=some s→s.2<p)∧∀s,l[i]?=some s→p≤s.2)∧Kz w w':=by
 obtain⟨A,c,rfl,hc,b6,y⟩:=hu;unfold lim at hp;refine bK Tryz.func113 Tryz.ntmps113 rfl ξ fun a L Q E=>?_
 have h0:At a 0 (.agg #[.slice A l.length c]):=E 0 _ rfl;have h1:At a 1 (.int .u64 p):=E 1 _ rfl;clear E
 conv=>arg 2;whnf
 refine so (fun a1 w1=>aE (fun i=>i==2||i==4) a a1∧At a1 2 (.pointer (some ⟨w.heap.size,0,none⟩))∧w1=w.alloc (.cells #[.slice A l.length c] 119)) ?_ ?_
 ·clear y
  obtain⟨T,d⟩:=a;refine rl ?_
  iterate 2 with_reducible refine st ?_
  with_reducible refine ln ?_
  refine⟨rfl,ag,aq,rfl⟩
 rintro a1 w1 ⟨ad,h2,al⟩;have a7:Kz w w1:=by rw[al];exact(aD.refl _ _).alloc _
 obtain⟨z,hz⟩:∃z,z=w.heap.size:=⟨_,rfl⟩;rw[←hz]at h2;have bg:w1.cell? ⟨z,0,none⟩=some (.slice A l.length c):=by rw[al,hz];exact ao w [.slice A l.length c] 119 0 _ rfl
 have bl:z<w1.heap.size:=by rw[al,hz];simp
 replace h1:=ad.Q7 h1 rfl;replace L:=ad.size.trans L;replace Q:=ad.defers.trans Q;clear ad h0 al hz;refine so (fun a2 w2=>aE (fun i=>i==8||i==9||i==10||i==5||i==6) a1 a2∧At a2 5 (.int .i64 (0:Nat))∧At a2 6 (.int .i64 l.length)∧w2=w1.drew) ?_ ?_
 ·clear y a7
  obtain⟨T,d⟩:=a1;refine wp_region_still_lit δ δ ?_
  iterate 5 with_reducible refine sl ?_
  with_reducible refine wpStill_nil ?_
  refine⟨rfl,?_,?_,?_,rfl⟩
  ·exact ag
  ·show At _ 5 (.int .i64 0)
   exact aq
  ·exact aq
 rintro a2 w2 ⟨O,h5,h6,an⟩;have a8:Kz w w2:=by rw[an];exact a7.drew
 have cu:w2.cell? ⟨z,0,none⟩=some (.slice A l.length c):=by rw[an];exact bg
 have ca:z<w2.heap.size:=by rw[an];exact bl
 replace h1:=O.Q7 h1 rfl;replace h2:=O.Q7 h2 rfl;replace L:=O.size.trans L;replace Q:=O.defers.trans Q;clear O an bg a7 bl w1;refine wp_seq (wF (t:=13)
  (fun H w'=>aE (fun i=>i==5||i==6||i==7||(rg 11 28 i)) a2 H∧w'=w2∧∃i j:Nat,At H 5 (.int .i64 i)∧At H 6 (.int .i64 j)∧i≤j∧j≤l.length∧(∀k s,k<i→l[k]?=some s→s.2<p)∧∀k s,j≤k→l[k]?=some s→p≤s.2)
  (fun H _=>(intOf (H.eval (.tmp 6))-intOf (H.eval (.tmp 5))).toNat)
  (fun m H w'=>aE (fun i=>i==5||i==6||i==7||(rg 11 28 i)) a2 H∧w'=w2∧∃i j:Nat,At H 5 (.int .i64 i)∧At H 6 (.int .i64 j)∧i<j∧m=j-i∧j≤l.length∧(∀k s,k<i→l[k]?=some s→s.2<p)∧∀k s,j≤k→l[k]?=some s→p≤s.2)
  (fun H w'=>H.defers=[]∧H.tmps.size=30∧w'=w2∧∃i:Nat,At H 5 (.int .i64 i)∧i≤l.length∧(∀k s,k<i→l[k]?=some s→s.2<p)∧∀k s,i≤k→l[k]?=some s→p≤s.2)
  ⟨aE.refl _ _,rfl,0,l.length,h5,h6,Nat.zero_le _,Nat.le_refl _,fun k s hk _=>χ,fun k s hk hs=>by have:=(List.getElem?_eq_some_iff.1 hs).1;omega⟩ ?_ ?_ ?_)
 ·rintro Z w3 ⟨V,rfl,i,j,J,N,bt,af,C,B⟩
  have U:=V.size.trans L;have bb:=V.defers.trans Q;have e5:=J.eval χ;have e6:=N.eval χ;have Y:=hh C;have X:=hh B;have HA:=hh V;obtain⟨t,ht⟩:∃b,decide (i<j)=b:=⟨_,rfl⟩;clear C B V y;refine Code.wp_only (R:=fun I w4=>aE (fun i=>i==11||i==12||i==13) Z I∧At I 13 (.bool t)∧w4=w3) ?_ ?_
  ·clear e5 e6
   obtain⟨T,d⟩:=Z;refine rl ?_
   iterate 3 with_reducible refine st ?_
   with_reducible refine ln ?_
   refine⟨rfl,ag,aq,rfl⟩
  rintro I w4 ⟨v,b4,rfl⟩;have a9:=b4.eval (by have:=v.size;omega);have hm:(intOf (Z.eval (.tmp 6))-intOf (Z.eval (.tmp 5))).toNat=j-i:=by rw[e5,e6];simp[intOf]<;>omega
  rw[hm];refine⟨rfl,?_⟩
  cases t with
  | true=>exact .inl ⟨a9,HA.out.t v,rfl,i,j,v.Q7 J rfl,v.Q7 N rfl,of_decide_eq_true ht,rfl,af,Y.out,X.out⟩
  | false =>
   have:i=j:=by have:=of_decide_eq_false ht;omega
   subst this;exact .inr ⟨a9,v.defers.trans bb,v.size.trans U,rfl,i,v.Q7 J rfl,af,Y.out,X.out⟩
 ·rintro m Z w3 ⟨V,rfl,i,j,J,N,bt,hm,af,C,B⟩
  have U:=V.size.trans L;have k1:=V.Q7 h1 rfl;have k2:=V.Q7 h2 rfl;obtain⟨q,hq⟩:∃q,q=(i+j) / 2:=⟨_,rfl⟩;have cj:i≤q:=χ
  have cm:q<j:=χ
  obtain⟨s,hs⟩:∃s,l[q]?=some s:=⟨_,Ez χ⟩;obtain⟨g,rfl,bs,_,bc⟩:=y χ;obtain⟨c1,c2,c3,c4⟩:=bc q s hs;have q1:w3.cell? ⟨g,q*2+1,none⟩=some (.int .u64 s.2):=(a8.cell (p:=⟨g,q*2+1,none⟩) bs (fun h=>h)).trans c2;have cc:g<w3.heap.size:=by have:=a8.size;omega
  unfold lim at c4;have bd:((i:Int)+(j:Int)) / 2=(q:Int):=χ
  have bx:((i:Int)+(j:Int)).tdiv 2=(q:Int):=by rw[Int.tdiv_eq_ediv_of_nonneg χ];exact bd
  have b0:IntKind.i64.wrap ((i:Int)+(j:Int))=(i:Int)+(j:Int):=i64_in _ χ;have bz:IntKind.i64.wrap (q:Int)=(q:Int):=i64_in _ χ;have cs:IntKind.i64.wrap ((q:Int)+1)=(q:Int)+1:=i64_in _ χ;have cp:q<l.length:=χ
  have b1:decide ((i:Int)+(j:Int) = -9223372036854775808)=false:=decide_eq_false χ;have cf:q≤c:=χ
  have Y:=hh C;have X:=hh B;have HA:=hh V;have HS:=hh hs;have HM:=hh hm;clear C B V y bc c1 c2 hq hs hm;refine so (fun I w4=>aE (fun i=>i==14||i==15||i==16||i==17||i==7) Z I∧At I 7 (.int .i64 q)∧w4=w3) ?_ ?_
  ·obtain⟨T,d⟩:=Z
   refine rl ?_
   iterate 5 with_reducible refine st ?_
   with_reducible refine ln ?_
   refine⟨rfl,ag,aq,rfl⟩
  rintro I w4 ⟨v,k7,rfl⟩;clear bd bx b0 bz b1;have be:=v.size.trans U;have j1:=v.Q7 k1 rfl;have j2:=v.Q7 k2 rfl;have j5:=v.Q7 J rfl;have j6:=v.Q7 N rfl;obtain⟨t,ht⟩:∃b,decide (s.2<p)=b:=⟨_,rfl⟩;refine so (fun a5 w5=>aE (fun i=>rg 18 25 i) I a5∧At a5 25 (.bool t)∧w5=w4) ?_ ?_
  ·clear k1 k2 J N v
   obtain⟨T,d⟩:=I;refine rl ?_
   iterate 8 with_reducible refine st ?_
   with_reducible refine ln ?_
   refine⟨rfl,ag,aq,rfl⟩
  rintro a5 w5 ⟨K,bm,rfl⟩;have a0:=K.size.trans be;have ac:=bm.eval χ;have l5:=K.Q7 j5 rfl;have l6:=K.Q7 j6 rfl;have l7:=K.Q7 k7 rfl;have W:=hh (HA.out.trans ((v.mono (by intro j;simp;omega:∀x,_→(fun i=>i==7||(rg 14 25 i)) x=true)).t K) ζ);clear v K k1 k2 J N k7 j1 j2 j5 j6 bm
  cases t with
  | true =>
   refine wp_cond_true ac ?_;have cd:s.2<p:=of_decide_eq_true ht;refine Code.wp_only (R:=fun a6 w6=>aE (fun i=>i==26||i==27||i==5) a5 a6∧At a6 5 (.int .i64 ((q:Int)+1))∧w6=w5) ?_ ?_
   ·clear ac W
    obtain⟨T,d⟩:=a5;refine rl ?_
    iterate 3 with_reducible refine st ?_
    with_reducible refine ln ?_
    refine⟨rfl,ag,aq,rfl⟩
   rintro a6 w6 ⟨D,J,rfl⟩;have N:=D.Q7 l6 rfl;have bf:=D.size.trans a0;have e5:=J.eval χ;have e6:=N.eval χ;have b5:At a6 5 (.int .i64 ((q+1:Nat):Int)):=by rw[show((q+1:Nat):Int)=(q:Int)+1 by omega];exact J
   refine⟨rfl,⟨W.out.t D,rfl,q+1,j,b5,N,χ,af,fun k u hk hu=>?_,X.out⟩,?_⟩
   ·have:=qH hl (by omega:k≤q) hu HS.out;omega
   ·rw[e5,e6,HM.out];simp[intOf];omega
  | false =>
   refine wp_cond_false ac ?_;have cb:¬ s.2<p:=of_decide_eq_false ht;refine Code.wp_only (R:=fun a6 w6=>aE (fun i=>i==28||i==6) a5 a6∧At a6 6 (.int .i64 q)∧w6=w5) ?_ ?_
   ·clear ac W
    obtain⟨T,d⟩:=a5;refine rl ?_
    iterate 2 with_reducible refine st ?_
    with_reducible refine ln ?_
    refine⟨rfl,ag,aq,rfl⟩
   rintro a6 w6 ⟨D,N,rfl⟩;have J:=D.Q7 l5 rfl;have bf:=D.size.trans a0;have e5:=J.eval χ;have e6:=N.eval χ;refine⟨rfl,⟨W.out.t D,rfl,i,q,J,N,χ,χ,Y.out,fun k u hk hu=>?_⟩,?_⟩
   ·have:=qH hl hk HS.out hu;omega
   ·rw[e5,e6,HM.out];simp[intOf];omega
 ·rintro Z w3 ⟨bo,b2,rfl,i,J,bw,C,B⟩
  with_reducible apply bJ
  refine so (fun I w4=>At I 4 (.int .i64 i)∧I.tmps.size=30∧I.defers=[]∧w4=w3) ?_ ?_
  ·clear y C B
   obtain⟨T,d⟩:=Z;refine rl ?_
   iterate 2 with_reducible refine st ?_
   with_reducible refine ln ?_
   refine⟨rfl,?_,by simpa using b2,bo,rfl⟩;exact aq
  rintro I w4 ⟨h4,b3,bp,rfl⟩;exact wp_ret (bk (t:=4) rfl h4 (by rw[b3];decide) bp ⟨⟨i,rfl,bw,C,fun s hs=>B i s (Nat.le_refl _) hs⟩,a8⟩)
def cV(w:World)(b n:Nat)(z:Value)(F:ByteArray→Value)(p:ByteArray→Bool):Prop:=
 ∃D,w.ownsMap Tryz.prog 9 dl b n D∧∀s:ByteArray,s.size≤maxLen→D.atKey (key s) (.held z)=.held (F s)∧Go.Maps.has D (key s)=p s
namespace cV
variable {w w':World} {b n:Nat} {z:Value} {F:ByteArray→Value} {p:ByteArray→Bool}
theorem lt(h:cV w b n z F p):b<w.heap.size:=by obtain⟨D,d,_⟩:=h;exact d.lt
theorem keep{S:Nat→Prop}(h:cV w b n z F p)(hk:aD S w w')(j:¬ S b):cV w' b n z F p:=by
 obtain⟨D,d,g⟩:=h;exact⟨D,kf d hk j,g⟩
theorem new(w:World)(b:Nat)(z:Value)(h:w.heap[b]?=some (.map #[] 0)):cV w b 0 z (fun _=>z) (fun _=>false):=by
 exact⟨.map [],⟨#[],0,h,⟨ξ,Go.MapKept.stamped_empty 0,ξ⟩,Nat.le_refl _,rfl⟩,fun s _=>⟨rfl,rfl⟩⟩
theorem run(h:cV w b n z F p){t e:TypeId}(x:Tryz.prog.underlying t=some (.map 9 e))(y:∀w,(zeroValue e).run Tryz.prog w=.ok z w){s:ByteArray}(g:s.size≤maxLen):
 (Instr.lookup t (.map (some b)) (.string s) false).run Tryz.prog w=.ok (F s) w:=by
 obtain⟨D,q,u⟩:=h;obtain⟨v,B,d,j⟩:=q.lookup Tryz.law9 x (y w) (zd := .held z) (zp:=[]) rfl (Go.WideMaps.keyOf_string_mk Tryz.underlying9 g);have l:(DataW.held v:DataW Value)=.held (F s):=by
  simp only[dl,Option.some.injEq,Prod.mk.injEq]at j;rw[←(u s g).1];exact j.1
 rw[d,DataW.held.inj l]
theorem lookup{P:Program}(y:P=Tryz.prog)(h:cV w b n z F p){ops:Array Oper}{rest:List Oper}{o:Oper}{a:Act}{Q:Exit→Act→World→Prop}
 (B:o.guard=none){m x:Operand}{t e:TypeId}(d:o.op=Op.lookup t m x false)(E:P.underlying t=some (.map 9 e))(I:∀w,(zeroValue e).run P w=.ok z w)
 (C:a.eval m=.map (some b)){s:ByteArray}(H:a.eval x=.string s)(g:s.size≤maxLen)(u:wpList P ops Q rest (a.put o.dst (F s)) w):wpList P ops Q (o::rest) a w:=by
 subst y;obtain⟨D,l,q⟩:=h;refine de _ B m x t d 9 e Tryz.law9 E z (I w) b n D C l _ (key s) H (Go.WideMaps.keyOf_string_mk Tryz.underlying9 g) fun v j=>?_
 rw[(q s g).1]at j;rw[←DataW.held.inj j];exact u
theorem update{P:Program}(E:P=Tryz.prog)(h:cV w b n z F p)(J:n<maxLen){ops:Array Oper}{rest:List Oper}{o:Oper}{a:Act}{Q:Exit→Act→World→Prop}
 (H:o.guard=none){m x u:Operand}{t e:TypeId}(q:o.op=Op.mapUpdate t m x u)(y:P.underlying t=some (.map 9 e))
 (I:a.eval m=.map (some b)){s:ByteArray}(N:a.eval x=.string s)(K:s.size≤maxLen){v:Value}(L:a.eval u=v)
 (C:∀w',cV w' b (n+1) z (fun t=>if t=s then v else F t) (fun t=>decide (t=s)||p t)→aD (fun k=>k=b) w w'→wpList P ops Q rest (a.put o.dst undef) w'):wpList P ops Q (o::rest) a w:=by
 subst E;obtain⟨D,j,B⟩:=h;refine wpList_mapUpdate_own _ H m x u t q 9 e Tryz.law9 y dl b n D I j J _ _ (key s) N L (Go.WideMaps.keyOf_string_mk Tryz.underlying9 K) _ [] rfl fun w' g l=>C w' ⟨_,g,fun t y=>?_⟩ (aD.of_grown l (fun k e=>by cases e;rfl))
 obtain⟨O,R⟩:=B t y
 by_cases hts:t=s
 ·subst hts
  exact⟨by show _=DataW.held (if t=t then v else F t);rw[if_pos rfl];exact Go.Maps.atKey_put_same j.isMap (kI t) _ _,by rw[Go.Maps.has_put_same j.isMap (kI t)];simp⟩
 ·have d:key t≠key s:=fun e=>hts (mo e)
  exact⟨by show _=DataW.held (if t=s then v else F t);rw[if_neg hts];exact(Go.Maps.atKey_put_other d _ _).trans O,by rw[Go.Maps.has_put_other d,R];simp[hts]⟩
theorem lookup_ok{P:Program}(B:P=Tryz.prog)(h:cV w b n z F p){ops:Array Oper}{rest:List Oper}{o:Oper}{a:Act}{Q:Exit→Act→World→Prop}
 (C:o.guard=none){m x:Operand}{t e:TypeId}(d:o.op=Op.lookup t m x true)(H:P.underlying t=some (.map 9 e))(J:∀w,(zeroValue e).run P w=.ok z w)
 (E:a.eval m=.map (some b)){s:ByteArray}(I:a.eval x=.string s)(g:s.size≤maxLen)(y:wpList P ops Q rest (a.put o.dst (.tuple #[F s,.bool (p s)])) w):wpList P ops Q (o::rest) a w:=by
 subst B;obtain⟨D,u,j⟩:=h;refine wpList_lookup_own_ok _ C m x t d 9 e Tryz.law9 H dl (J w) (.held z) [] rfl b n D E u _ (key s) I (Go.WideMaps.keyOf_string_mk Tryz.underlying9 g) fun v K l=>?_
 have q:(DataW.held v:DataW Value)=.held (F s):=by
  simp only[dl,Option.some.injEq,Prod.mk.injEq]at l;rw[←(j s g).1];exact l.1
 rw[DataW.held.inj q,(j s g).2];exact y
end cV
def xm(t:jR):Value := .agg #[.int .u64 t.size,.bool t.big,.bool t.wx]
theorem vF(w:World):(zeroValue 178).run Tryz.prog w=.ok (.agg #[.int .u64 0,.bool false,.bool false]) w:=δ
def fb(w:World)(b:Nat)(P:aF):Prop:=∃n,cV w b n (.agg #[.int .u64 0,.bool false,.bool false]) (fun s=>xm (aQ P s)) (fun s=>(fO P s).isSome)
def oo:Prop:=∀{B:Nat} {w:World} {v:aX} {P:aF},bO B w v P→B≤w.heap.size→Calls Tryz.prog 65 #[.agg (v.cells P).toArray] w fun e w'=>∃mb,e=.returned (.map (some mb))∧w.heap.size≤mb∧mb<w'.heap.size∧fb w' mb P∧Kz w w'
theorem rO{B:Nat}{w:World}{v:aX}{P:aF}(h:bO B w v P)(s:ByteArray):(aQ P s).size<lim:=by
 unfold aQ fO;split
 ·rename_i x g
  have g:=List.mem_of_find?_eq_some g;obtain⟨A,c,_,_,_,j⟩:=h.Q3;obtain⟨q,off,_,_,d⟩:=j (List.length_pos_of_mem g);obtain⟨k,hk⟩:=List.getElem?_of_mem g;exact(d k x hk).2.2.1
 ·cases hd:P.Q5.find? (fun x=>decide (x.name=s))with
  | none=>simp
  | some x =>
   have g:=List.mem_of_find?_eq_some hd;obtain⟨A,c,_,_,_,j⟩:=h.Q5;obtain⟨q,off,_,_,d⟩:=j (List.length_pos_of_mem g);obtain⟨k,hk⟩:=List.getElem?_of_mem g;obtain⟨D,C,_,y,u,l,_⟩:=d k x hk;exact l
theorem Cd{B:Nat}{w:World}{u:Value}{l:List Ck.Map}(h:aK B 5 eH w u l):∀x∈l,x.Ok:=by
 intro x g;obtain⟨A,c,_,_,_,j⟩:=h;obtain⟨q,off,_,_,d⟩:=j (List.length_pos_of_mem g);obtain⟨k,hk⟩:=List.getElem?_of_mem g;exact(d k x hk).2
def tL(x:Nat):Lit := .int .u64 x
def dT(k:TypeId)(w:World)(b n:Nat)(S:List Nat):Prop:=
 ∃D,w.ownsMap (H:=Value) Tryz.prog k unitElem b n D∧S.Nodup∧Go.Maps.size D=S.length∧∀x,x<lim→(Go.Maps.has D (tL x)=true↔x∈S)
namespace dT
variable {k:TypeId} {w w':World} {b n:Nat} {S:List Nat}
theorem lt(h:dT k w b n S):b<w.heap.size:=by obtain⟨D,d,_⟩:=h;exact d.lt
theorem keep{T:Nat→Prop}(h:dT k w b n S)(hk:aD T w w')(q:¬ T b):dT k w' b n S:=by
 obtain⟨D,⟨g,c,d,j⟩,l⟩:=h;exact⟨D,⟨g,c,(hk.block b (aH d) q).trans d,j⟩,l⟩
theorem mono{d:Nat}(h:dT k w b n S)(x:n≤d):dT k w b d S:=by
 obtain⟨D,⟨g,c,j,l,q,u⟩,v⟩:=h;exact⟨D,⟨g,c,j,l,Nat.le_trans q x,u⟩,v⟩
theorem new(k:TypeId)(w:World)(b:Nat)(h:w.heap[b]?=some (.map #[] 0)):dT k w b 0 []:=
 ⟨.map [],⟨#[],0,h,⟨ξ,Go.MapKept.stamped_empty 0,ξ⟩,Nat.le_refl _,rfl⟩,List.nodup_nil,rfl,fun x _=>by simp[Go.Maps.has]⟩
theorem Ac(x:Nat):WideAt.IsKeyLit (tL x):=by unfold tL;trivial
theorem yP{x y:Nat}(h:tL x=tL y):x=y:=by
 unfold tL at h
 injection h with _ h
 omega
def add(S:List Nat)(x:Nat):List Nat:=if x∈S then S else x::S
theorem mem_add{S:List Nat}{x y:Nat}:y∈add S x↔y=x∨y∈S:=by
 unfold add;split
 ·rename_i h
  exact⟨.inr,fun e=>e.elim (fun e=>e▸h) id⟩
 ·simp
theorem update{P:Program}(J:P=Tryz.prog)(h:dT k w b n S)(K:Go.Maps.Keyed Tryz.prog k)(N:Tryz.prog.underlying k=some (.int .u64))(B:n<maxLen){ops:Array Oper}{rest:List Oper}{o:Oper}{a:Act}{Q:Exit→Act→World→Prop}
 (L:o.guard=none){m x u:Operand}{t e:TypeId}(C:o.op=Op.mapUpdate t m x u)(R:P.underlying t=some (.map k e))
 (d:a.eval m=.map (some b)){y:Nat}(V:a.eval x=.int .u64 y)(H:y<lim)(U:a.eval u=.agg #[])
 (I:∀w',dT k w' b (n+1) (add S y)→aD (fun k=>k=b) w w'→wpList P ops Q rest (a.put o.dst undef) w'):wpList P ops Q (o::rest) a w:=by
 subst J;obtain⟨D,l,g,O,q⟩:=h;have E:(Lit.int .u64 (y:Int)).wf=true:=by
  have X:IntKind.u64.min=0:=rfl;have Y:IntKind.u64.max=18446744073709551615:=rfl;unfold lim at H;simp only[Lit.wf,Bool.and_eq_true,decide_eq_true_eq];omega
 refine wpList_mapUpdate_own _ L m x u t C k e K R unitElem b n D d l B _ _ (tL y) V U (Go.Maps.keyOf_int_mk N E) _ [] unitElem_mk fun w' j v=>I w' ⟨_,j,?_,?_,fun z W=>?_⟩ (aD.of_grown v (fun k e=>by cases e;rfl))
 ·unfold add
  split
  ·exact g
  ·rename_i B;exact List.nodup_cons.2 ⟨B,g⟩
 ·rw[Go.Maps.size_put (l.tidy K),O]
  unfold add
  by_cases d:y∈S
  ·rw[if_pos ((q y H).2 d),if_pos d]
  ·rw[if_neg (fun e=>d ((q y H).1 e)),if_neg d];rfl
 ·rw[mem_add]
  by_cases hzy:z=y
  ·subst hzy
   rw[Go.Maps.has_put_same l.isMap (Ac z)];simp
  ·rw[Go.Maps.has_put_other (fun e=>hzy (yP e)),q z W]
   simp[hzy]
theorem len{P:Program}(l:P=Tryz.prog)(h:dT k w b n S){ops:Array Oper}{rest:List Oper}{o:Oper}{a:Act}{Q:Exit→Act→World→Prop}(q:o.guard=none){m:Operand}{t e:TypeId}
 (d:o.op=Op.call { callee:=Callee.builtin Builtin.len,args := #[m],argTypes := #[t] })(x:P.underlying t=some (.map k e))(u:a.eval m=.map (some b))
 (j:wpList P ops Q rest (a.put o.dst (.int .i64 S.length)) w):wpList P ops Q (o::rest) a w:=by
 subst l;obtain⟨D,g,_,v,_⟩:=h;exact wpList_len_own _ q m t d k e x unitElem b n D u g (by rw[v];exact j)
end dT
end Go.Proofs.YthobcefghkeddaaGreatDoor
namespace Go.Proofs.YthobcefghkeddaaGreatDoor
open Go.RowKit Go.IntWalk Ck
open Classical in
noncomputable def cz(l:List Sp)(a b:Nat):Bool:=decide (∀p,a≤p→p≤b→aY l p)
theorem gC{l:List Sp}{a b:Nat}:cz l a b=true↔∀p,a≤p→p≤b→aY l p:=by unfold cz;simp
theorem oW{w:World}{pb:Nat}{u:Value}{l:List Sp}(hu:aJ w pb u l)(hl:dZ l)(a b:Nat)(ha:a<lim)(hb:b<lim)(bp:pb<w.heap.size):
 Calls Tryz.prog 61 #[.agg #[u],.agg #[.int .u64 a,.int .u64 b]] w fun e w'=>e=.returned (.bool (cz l a b))∧Kz w w':=by
 unfold lim at ha hb;refine bK Tryz.func61 Tryz.ntmps61 rfl ξ fun ac ad Y B=>?_
 have h0:At ac 0 (.agg #[u]):=B 0 _ rfl;have h1:At ac 1 (.agg #[.int .u64 a,.int .u64 b]):=B 1 _ rfl;clear B;obtain⟨A,c,rfl,hc,a7,q⟩:=hu
 conv=>arg 2;whnf
 refine so (fun a1 N=>aE (fun i=>i==2||i==3||i==4) ac a1∧At a1 2 (.pointer (some ⟨w.heap.size,0,none⟩))∧At a1 3 (.pointer (some ⟨w.heap.size+1,0,none⟩))∧N=(w.alloc (.cells #[.slice A l.length c] 119)).alloc (.cells #[.int .u64 a,.int .u64 b] 125)) ?_ ?_
 ·clear q
  obtain⟨T,d⟩:=ac;refine rl ?_
  iterate 3 with_reducible refine st ?_
  with_reducible refine ln ?_
  refine⟨rfl,ag,aq,aq,rfl⟩
 rintro a1 N ⟨X,W,h3,C⟩;have Z:Kz w N:=by rw[C];exact((aD.refl _ _).alloc _).alloc _
 obtain⟨z,hz⟩:∃z,z=w.heap.size:=⟨_,rfl⟩;obtain⟨y,hy⟩:∃z,z=w.heap.size+1:=⟨_,rfl⟩;rw[←hz]at W;rw[←hy]at h3;have x0:N.cell? ⟨z,0,none⟩=some (.slice A l.length c):=by
  rw[C,hz];exact(((aD.refl (fun _=>False) _).alloc _).cell (p:=⟨w.heap.size,0,none⟩) ξ (fun h=>h)).trans (ao w [.slice A l.length c] 119 0 _ rfl)
 have y0:N.cell? ⟨y,0,none⟩=some (.int .u64 a):=by rw[C,hy];have:=ao (w.alloc (.cells #[.slice A l.length c] 119)) [.int .u64 a,.int .u64 b] 125 0 _ rfl;simpa using this
 have y1:N.cell? ⟨y,1,none⟩=some (.int .u64 b):=by rw[C,hy];have:=ao (w.alloc (.cells #[.slice A l.length c] 119)) [.int .u64 a,.int .u64 b] 125 1 _ rfl;simpa using this
 have zs:z<N.heap.size∧y<N.heap.size:=by rw[C,hz,hy];simp;omega
 replace ad:=X.size.trans ad;replace Y:=X.defers.trans Y;have a9:aJ N pb (.slice A l.length c) l:=aJ.keep (w:=w) ⟨A,c,rfl,hc,a7,q⟩ (Z.mono fun _ _ h=>h.elim);have HU:=hh a9;clear X h0 h1 C hz hy q a9;refine wp_seq (wp_seq (Code.wp_only (R:=fun a2 w2=>aE (fun i=>i==6||i==7) a1 a2∧At a2 7 (.bool (decide (b<a)))∧Kz N w2) ?_ ?_))
 ·obtain⟨T,d⟩:=a1
  refine rl ?_;with_reducible refine st ?_;refine Lz (fun K hK=>?_)
  go_simp;refine(nj a b N).mono ?_;rintro e w2 ⟨rfl,v⟩;with_reducible refine hK _ _ (ln ?_)
  refine⟨rfl,ag,aq,v⟩
 rintro a2 w2 ⟨E,k7,v⟩;have V:=E.size.trans ad;have U:=E.defers.trans Y;have e7:=k7.eval χ;have j2:=E.Q7 W rfl;have j3:=E.Q7 h3 rfl;have x0:=(v.cell (p:=⟨z,0,none⟩) zs.1 (fun h=>h)).trans x0;have y0:=(v.cell (p:=⟨y,0,none⟩) zs.2 (fun h=>h)).trans y0;have y1:=(v.cell (p:=⟨y,1,none⟩) zs.2 (fun h=>h)).trans y1;have O:z<w2.heap.size∧y<w2.heap.size:=⟨Nat.lt_of_lt_of_le zs.1 v.size,Nat.lt_of_lt_of_le zs.2 v.size⟩;have an:=hh (HU.out.keep (v.mono fun _ _ h=>h.elim));have al:=hh (Z.trans v (fun _ _ h=>h));clear E v Z k7 zs
 by_cases hba:b<a
 ·rw[decide_eq_true hba]at e7
  refine wp_cond_true e7 ?_;refine so (fun D Q=>At D 4 (.bool true)∧D.tmps.size=39∧D.defers=[]∧Q=w2) ?_ ?_
  ·obtain⟨T,d⟩:=a2
   refine rl ?_;with_reducible refine st ?_;refine ln ?_
   refine⟨rfl,?_,by simpa using V,U,rfl⟩;exact aq
  rintro D Q ⟨h4,be,bc,rfl⟩;refine wp_ret ?_
  repeat (first|with_reducible apply bY|with_reducible apply ba)
  refine bk (t:=4) rfl h4 (by rw[be];decide) bc ⟨?_,al.out⟩;have e:cz l a b=true:=gC.2 fun p h1 W=>χ
  rw[e]
 ·rw[decide_eq_false hba]at e7
  refine wp_cond_false e7 (wp_skip ?_)
  repeat with_reducible apply bJ
  refine so (fun D Q=>aE (fun i=>i==5||(rg 8 11 i)) a2 D∧(∃i:Nat,At D 5 (.int .i64 i)∧i≤l.length∧(∀j s,j<i→l[j]?=some s→s.2<a)∧∀s,l[i]?=some s→a≤s.2)∧Kz w2 Q) ?_ ?_
  ·obtain⟨T,d⟩:=a2
   refine rl ?_
   iterate 3 with_reducible refine st ?_
   with_reducible refine Lz (fun K hK=>?_)
   go_simp;refine(sg an.out hl a (by unfold lim;omega)).mono ?_;rintro e Q ⟨⟨i,rfl,hi,h5,h6⟩,x⟩;with_reducible refine hK _ _ ?_;clear hK K
   have H5:=hh h5;have H6:=hh h6;clear h5 h6;with_reducible refine st ?_;refine ln ?_
   refine⟨rfl,ag,⟨i,aq,hi,H5.out,H6.out⟩,x⟩
  rintro D Q ⟨I,⟨i,k5,hi,a8,a5⟩,x⟩;have L:=I.size.trans V;have J:=I.defers.trans U;have l2:=I.Q7 j2 rfl;have l3:=I.Q7 j3 rfl;have x0:=(x.cell (p:=⟨z,0,none⟩) O.1 (fun h=>h)).trans x0;have y0:=(x.cell (p:=⟨y,0,none⟩) O.2 (fun h=>h)).trans y0;have y1:=(x.cell (p:=⟨y,1,none⟩) O.2 (fun h=>h)).trans y1;have bs:z<Q.heap.size∧y<Q.heap.size:=⟨Nat.lt_of_lt_of_le O.1 x.size,Nat.lt_of_lt_of_le O.2 x.size⟩;have bg:=an.out.keep (x.mono fun _ _ h=>h.elim);have af:=hh (ue hl (by omega:a≤b) a8 a5);have bb:=hh (al.out.trans x (fun _ _ h=>h));obtain⟨_,_,e,_,_,q⟩:=bg
  cases e
  clear I x a8 a5 j2 j3
  suffices H:(Code.wp Tryz.prog (ay Tryz.f61 [1,1,1,0]) (jl fun a4 w4=>At a4 4 (.bool (cz l a b))∧a4.tmps.size=39∧a4.defers=[]∧w4=Q.drew) D Q) from
   wp_seq (Code.wp_only H fun a4 w4 ⟨h4,bf,bd,bm⟩=>wp_ret (bk (t:=4) rfl h4 (by rw[bf];decide) bd ⟨rfl,by rw[bm];exact bb.out.drew⟩))
  conv=>arg 2;whnf
  by_cases hil:i<l.length
  ·obtain⟨s,hs⟩:=ge hil
   obtain⟨g,rfl,hg,_,a0⟩:=q χ;obtain⟨c1,c2,c3,c4⟩:=a0 i s hs;unfold lim at c3 c4;have bo:i≤c:=χ
   obtain⟨b1,e1⟩:∃t,decide (s.1≤a)=t:=⟨_,rfl⟩;obtain⟨b2,e2⟩:∃t,decide (b≤s.2)=t:=⟨_,rfl⟩;have HV:Hid (cz l a b=(b1&&b2)):=by
    show cz l a b=_;rw[←e1,←e2,Bool.eq_iff_iff];rw[gC,af.out];simp only[Bool.and_eq_true,decide_eq_true_eq];constructor
    ·rintro⟨t,ht,h1,W⟩
     have:=Option.some.inj (hs.symm.trans ht);subst this;exact⟨h1,W⟩
    ·rintro⟨h1,W⟩
     exact⟨s,hs,h1,W⟩
   have bl:=aU;have a6:decide (i<l.length)=true:=decide_eq_true hil;clear hs q a0;obtain⟨T,d⟩:=D;refine wp_region_still_lit δ δ ?_
   cases b1
   ·skip
    iterate 28 with_reducible refine sl ?_
    with_reducible refine wpStill_nil ?_
    refine⟨rfl,?_,by simpa using L,J,rfl⟩;rw[show cz l a b=false from HV.out];exact aq
   ·skip
    iterate 28 with_reducible refine sl ?_
    with_reducible refine wpStill_nil ?_
    refine⟨rfl,?_,by simpa using L,J,rfl⟩;rw[show cz l a b=b2 from HV.out.trans (Bool.true_and _)];exact aq
  ·have HV:Hid (cz l a b=false):=by
    show cz l a b=_;rw[Bool.eq_false_iff,Ne,gC,af.out];rintro⟨t,ht,_⟩;exact hil (List.getElem?_eq_some_iff.1 ht).1
   have bl:=aU;have a6:decide (i<l.length)=false:=decide_eq_false hil;clear q;obtain⟨T,d⟩:=D;refine wp_region_still_lit δ δ ?_
   iterate 28 with_reducible refine sl ?_
   with_reducible refine wpStill_nil ?_
   refine⟨rfl,?_,by simpa using L,J,rfl⟩;rw[show cz l a b=false from HV.out];exact aq
end Go.Proofs.YthobcefghkeddaaGreatDoor
namespace Go.Proofs.YthobcefghkeddaaGreatDoor
open Go.RowKit Go.IntWalk Ck
variable {B:Nat} {w:World}
def mQ(c:Ck.b7)(y:ByteArray)(m:Ck.Map):Bool := !decide (m.of=c.over)||(decide (y=c.QC)||decide (y=c.to) && !m.write)
theorem yH(w:World):(zeroValue 3).run Tryz.prog w=.ok (.int .i64 0) w:=δ
theorem wO{M:Nat}{cnt0 n0:Nat}(hB:B≤M)(hM:M<w.heap.size)(a:Act)(en:a.tmps.size=85){zc:Nat}{c:Ck.b7}(HC:Hid (∀w0,aD (fun k=>k=M) w w0→aM w0 zc 0 [.int .i64 c.pos,.string c.name,.string c.QC,.string c.to,.bool c.shared,.string c.over,.int .i64 c.how,.int .u64 c.QJ]))(h3:At a 3 (.pointer (some ⟨zc,0,none⟩)))(h5:At a 5 (.map (some M)))
 {zy:Nat}{y:aa}{A_rulesy:Option Addr}{O g:Nat}{A_mapsy:Option Addr}(HY:Hid (∀w0,aD (fun k=>k=M) w w0→aM w0 zy 0 [.int .i64 y.pos,.string y.name,.int .u64 y.QN,.bool y.stopped,.slice A_mapsy y.QA.length g,.slice A_rulesy y.QO.length O]))(h7:At a 7 (.pointer (some ⟨zy,0,none⟩)))(c4:y.name.size≤maxLen)
 (hs:aK B 5 eH w (.slice A_mapsy y.QA.length g) y.QA){n:Nat}{cnt:ByteArray→Nat}{p:ByteArray→Bool}{bz:ByteArray→Prop}(hn:n≤8796093022208)(hE:cV w M n (.int .i64 0) (fun s =>.int .i64 (cnt s)) p)(Y:∀s,cnt s≤n∧(0<cnt s↔bz s))(Q:Exit→Act→World→Prop)
 (hQ:∀a' w' (n':Nat) (q:ByteArray→Nat) p',aE (fun i=>i==4||i==9||(rg 23 56 i)) a a'→n'≤n+y.QA.length→cV w' M n' (.int .i64 0) (fun s =>.int .i64 (q s)) p'→(∀s,q s≤n'∧(0<q s↔(bz s∨(s=y.name∧∃m∈y.QA,m.of=c.over))))→(∀m∈y.QA,mQ c y.name m=true)→aD (fun k=>k=M) w w'→Q .normal a' w')
 (hR:∀a' w',At a' 4 (.bool false)→a'.tmps.size=85→a'.defers=a.defers→(∃m∈y.QA,mQ c y.name m=false)→aD (fun k=>k=M) w w'→Q .ret a' w'):
 (ay Tryz.f100 [1,1,0,1,0,0,1,1,0,0,1]).wp Tryz.prog Q a w:=by
 have fe:=hs;obtain⟨_,_,e,fd,ed,hl⟩:=hs
 cases e
 unfold top at ed;have hq:=HY.out _ (aD.refl _ _) 4 _ rfl
 conv=>arg 2;whnf
 refine so (fun N w1=>aE (fun i=>(rg 23 26 i)) a N∧At N 24 (.slice A_mapsy y.QA.length g)∧At N 25 (.int .i64 y.QA.length)∧At N 26 (.int .i64 0)∧w1=w) ?_ ?_
 ·clear hl hE Y HC HY
  obtain⟨T,d⟩:=a;refine rl ?_
  iterate 4 with_reducible refine st ?_
  with_reducible refine ln ?_
  refine⟨rfl,ag,aq,aq,aq,rfl⟩
 rintro a0 w0 ⟨U,eu,es,eq,rfl⟩;have c5:a0.tmps.size=85:=U.size.trans en;replace h3:=U.Q7 h3 rfl;replace h5:=U.Q7 h5 rfl;replace h7:=U.Q7 h7 rfl;refine bU y.QA.length (fun i=>i==4||i==9||(rg 26 56 i)) (fun i=>i==4||i==9||(rg 28 55 i)) (fun k _ w'=>∃(n':Nat) (q:ByteArray→Nat) (p':ByteArray→Bool),n'≤n+k∧cV w' M n' (.int .i64 0) (fun s =>.int .i64 (q s)) p'∧(∀s,q s≤n'∧(0<q s↔(bz s∨(s=y.name∧∃m∈y.QA.take k,m.of=c.over))))∧(∀m∈y.QA.take k,mQ c y.name m=true)∧aD (fun k=>k=M) w0 w') χ eq es ψ rfl
  ζ χ ψ (fun k N Z w X hI=>hI) ⟨n,cnt,p,χ,hE,fun s=>⟨(Y s).1,by rw[(Y s).2];simp⟩,ξ,aD.refl _ _⟩ ?_ ?_
 ·rintro k N wr cw X er ⟨n1,l,p1,c3,ad,H,I,hk⟩
  obtain⟨bl,off,rfl,ea,bx⟩:=hl χ;obtain⟨m,J⟩:=ge cw;obtain⟨hc,e1⟩:=(aI B _ _) _ _ _ _ _ (hk.below (B:=B) χ (fun _ hi e=>χ)) ea (bx k m J);have q0:=hc.c0;have q1:=hc 1 _ rfl;have q2:=hc 2 _ rfl;have q3:=hc 3 _ rfl;have q4:=hc 4 _ rfl;have ds:=X.Q7 h3 rfl;have d0:=X.Q7 h5 rfl;have d2:=X.Q7 h7 rfl;have d3:=X.Q7 eu rfl;have c6:N.tmps.size=85:=X.size.trans c5;have e0:=hk.size;have ey:bl<wr.heap.size:=χ
  have ez:k≤g:=χ
  have cs:N.defers=a0.defers:=X.defers;have HX:=hh J;have HK:=hh hk;have HA:=hh X;have HE:=hh ad;have L:=hh H;have cj:=hh I;have fc:=hh hE;have ex:=hh Y;have e9:=hh bx;have cx:m∈y.QA:=List.mem_of_getElem? J;clear J hk hc X bx ad H I hE Y hl;refine so (fun Z w2=>aE (fun i=>i==28||i==29||i==9) N Z∧At Z 9 (.pointer (some ⟨wr.heap.size,0,none⟩))∧w2=wr.alloc (Obj.cells #[.int .i64 m.pos,.string m.of,.int .u64 m.Q7,.bool m.write,.bool m.exec] 93)) ?_ ?_
  ·clear HC HY
   obtain⟨T,d⟩:=N;refine rl ?_
   iterate 4 with_reducible refine st ?_
   with_reducible refine ln ?_
   refine⟨rfl,ag,aq,rfl⟩
  rintro Z wo ⟨K,b3,al⟩;obtain⟨z,hz⟩:∃z,z=wr.heap.size:=⟨_,rfl⟩;rw[←hz]at b3;have b2:aM wo z 0 [.int .i64 m.pos,.string m.of,.int .u64 m.Q7,.bool m.write,.bool m.exec]:=by rw[al,hz];exact ao _ _ _
  have b1:Kz wr wo:=by rw[al];exact(aD.refl _ _).alloc _
  have fk:z≠M:=by have:=HE.out.lt;omega
  have fl:z<wo.heap.size:=by rw[al,hz];simp
  have af:aD (fun k=>k=M) w0 wo:=HK.out.trans b1 (fun _ _ h=>h.elim);have bb:=hh (HE.out.keep b1 (fun h=>h));have xc:=HC.out _ af;have xy:=HY.out _ af;have a8:Z.tmps.size=85:=K.size.trans c6;have dc:=K.Q7 ds rfl;have di:=K.Q7 d0 rfl;have dk:=K.Q7 d2 rfl;have a7:Z.defers=a0.defers:=K.defers.trans cs;have ca:Hid (aE (fun i=>i==4||i==9||(rg 28 55 i)) N Z):=K.m;have bc:=hh af;clear al hz b1 HE HK K af q0 q1 q2 q3 q4 d3 er ds d0 d2;have e6:=b2 1 _ rfl;have ew:=b2 3 _ rfl;have e7:=xc 5 _ rfl;have e2:=xc 2 _ rfl;have e8:=xc 3 _ rfl;have e5:=xy 1 _ rfl;clear xc xy b2;obtain⟨bo,ac⟩:∃b,b=decide (m.of=c.over):=⟨_,rfl⟩;obtain⟨bf,be⟩:∃b,b=decide (y.name=c.QC):=⟨_,rfl⟩;obtain⟨bt,bg⟩:∃b,b=decide (y.name=c.to):=⟨_,rfl⟩;obtain⟨bw,bm⟩:∃b,b=m.write:=⟨_,rfl⟩;rw[←bm]at ew;have b4:(m.of.toList==c.over.toList)=bo:=by rw[ac];exact bQ _ _
  have d4:(m.of.toList !=c.over.toList)=!bo:=by rw[←b4];rfl
  have b5:(y.name.toList==c.QC.toList)=bf:=by rw[be];exact bQ _ _
  have d7:(y.name.toList !=c.QC.toList)=!bf:=by rw[←b5];rfl
  have b6:(y.name.toList==c.to.toList)=bt:=by rw[bg];exact bQ _ _
  have d8:(y.name.toList !=c.to.toList)=!bt:=by rw[←b6];rfl
  have an:Hid (mQ c y.name m=(!bo||(bf||bt && !bw))):=by rw[ac,be,bg,bm];rfl
  have cd:=hh ac;clear ac be bg bm;refine wp_seq (wp_seq (Code.wp_only (R:=fun a3 w3=>aE (fun i=>(rg 30 34 i)) Z a3∧At a3 34 (.bool (!bo))∧w3=wo) ?_ ?_))
  ·clear HC HY b5 d7 b6 d8
   obtain⟨T,d⟩:=Z;refine rl ?_
   iterate 5 with_reducible refine st ?_
   with_reducible refine ln ?_
   refine⟨rfl,ag,aq,rfl⟩
  rintro a3 w3 ⟨D,dt,rfl⟩;have cp:=dt.eval (by rw[D.size,a8];decide);have a9:=D.size.trans a8;have c7:=D.Q7 dc rfl;have c8:=D.Q7 di rfl;have c9:=D.Q7 dk rfl;have eo:=D.Q7 b3 rfl;have cu:=D.defers.trans a7;have V:Hid (aE (fun i=>i==4||i==9||(rg 28 55 i)) N a3):=ca.out.t D;clear D dc di dk b3 ca a7
  cases bo
  ·refine wp_cond_true cp (wp_exit ?_)
   repeat with_reducible apply fJ
   simp only[br,if_true];have ee:m.of≠c.over:=of_decide_eq_false cd.out.symm;refine⟨V.out,n1,l,p1,χ,bb.out,fun s=>⟨(L.out s).1,?_⟩,?_,bc.out⟩
   ·rw[(L.out s).2,aO HX.out]
    simp[ee]
   ·rw[aO HX.out]
    intro x J
    rcases List.mem_append.1 J with J|J
    ·exact cj.out x J
    ·have e:x=m:=by simpa using J
     subst e;rw[an.out];rfl
  ·refine wp_cond_false cp (wp_skip ?_)
   with_reducible apply bJ
   refine wp_seq (wp_seq (Code.wp_only (R:=fun a4 w4=>aE (fun i=>(rg 35 50 i)) a3 a4∧At a4 50 (.bool (!bf&&(!bt||bw)))∧w4=w3) ?_ ?_))
   ·clear HC HY b4 d4
    have ff:=aU;obtain⟨T,d⟩:=a3;refine rl ?_
    cases bf<;>cases bt<;>cases bw
    all_goals
     iterate 16 with_reducible refine st ?_
     with_reducible refine ln ?_
     refine⟨rfl,?_,?_,rfl⟩
     ·exact ag
     ·try simp only[Bool.not_true,Bool.not_false,Bool.true_and,Bool.false_and,Bool.true_or,Bool.false_or,Bool.or_true,Bool.or_false,Bool.and_true,Bool.and_false]
      exact aq
   rintro a4 w4 ⟨E,d1,rfl⟩;have bd:=d1.eval (by rw[E.size,a9];decide);have C:=E.size.trans a9;have fm:=E.Q7 c7 rfl;have fp:=E.Q7 c8 rfl;have fr:=E.Q7 c9 rfl;have cv:=E.defers.trans cu;have cb:Hid (aE (fun i=>i==4||i==9||(rg 28 55 i)) N a4):=V.out.t E;clear E c7 c8 c9 eo V;obtain⟨cm,W⟩:∃b,b=(!bf&&(!bt||bw)):=⟨_,rfl⟩;rw[←W]at bd;have a6:mQ c y.name m=!cm:=by rw[an.out,W];cases bf<;>cases bt<;>cases bw<;>rfl
   have cc:=hh a6;clear a6 W b4 d4 b5 d7 b6 d8
   cases cm
   ·refine wp_cond_false bd (wp_skip ?_)
    with_reducible apply bJ
    have eb:=(L.out y.name).1;obtain⟨cy,bp⟩:∃u,u=l y.name:=⟨_,rfl⟩;rw[←bp]at eb;have cf:=hh bp;clear bp;refine Code.wp_only (R:=fun a5 w5=>aE (fun i=>(rg 51 55 i)) a4 a5∧cV w5 M (n1+1) (.int .i64 0) (fun t=>if t=y.name then .int .i64 ((cy:Int)+1)else .int .i64 (l t)) (fun t=>decide (t=y.name)||p1 t)∧aD (fun k=>k=M) w4 w5) ?_ ?_
    ·clear HC HY
     obtain⟨T,d⟩:=a4;refine rl ?_
     iterate 3 with_reducible refine st ?_
     refine cV.lookup rfl bb.out rfl rfl Tryz.underlying224 yH (At.eval (by exact aq) (by have:=C;simp at this⊢; omega)) (At.eval (by exact aq) (by have:=C;simp at this⊢; omega)) c4 ?_;rw[←cf.out];simp only[Act.put];have fi:IntKind.i64.wrap ((cy:Int)+1)=(cy:Int)+1:=IntWalk.i64_in _ χ;with_reducible refine st ?_
     refine cV.update rfl bb.out (by unfold maxLen;omega) rfl rfl Tryz.underlying224 (At.eval (by exact aq) (by have:=C;simp at this⊢; omega)) (At.eval (by exact aq) (by have:=C;simp at this⊢; omega)) c4 (v := .int .i64 ((cy:Int)+1)) (At.eval (by exact aq) (by have:=C;simp at this⊢; omega)) ?_;intro w5 bs b0;with_reducible refine ln ?_
     refine⟨rfl,?_,bs,b0⟩;simp only[Act.put]
     (repeat (first|with_reducible apply aE.put|with_reducible apply aE.set))<;>first|with_reducible exact aE.refl _ _|rfl
    rintro a5 w5 ⟨d9,bs,b0⟩;have eg:m.of=c.over:=of_decide_eq_true cd.out.symm;refine⟨cb.out.t d9,n1+1,fun t=>if t=y.name then l y.name+1 else l t,fun t=>decide (t=y.name)||p1 t,χ,?_,fun s=>⟨?_,?_⟩,?_,bc.out.trans b0 (fun _ _ e=>e)⟩
    ·have e:(fun t=>if t=y.name then Value.int .i64 ((cy:Int)+1)else Value.int .i64 (l t))=fun t=>Value.int .i64 ((if t=y.name then l y.name+1 else l t:Nat):Int):=by
      funext t
      by_cases ht:t=y.name
      ·simp[ht,cf.out]
      ·simp[ht]
     rw[←e];exact bs
    ·by_cases hsy:s=y.name
     ·simp only[hsy,if_true];have:=(L.out y.name).1;omega
     ·simp only[hsy,if_false];have:=(L.out s).1;omega
    ·rw[aO HX.out]
     by_cases hsy:s=y.name
     ·simp only[hsy,if_true]
      exact⟨fun _ =>.inr ⟨trivial,m,ξ,eg⟩,fun _=>χ⟩
     ·simp only[hsy,if_false]
      rw[(L.out s).2];simp[hsy]
    ·rw[aO HX.out]
     intro x J
     rcases List.mem_append.1 J with J|J
     ·exact cj.out x J
     ·have e:x=m:=by simpa using J
      subst e;exact cc.out
   ·refine wp_cond_true bd ?_
    refine so (fun a5 w5=>At a5 4 (.bool false)∧a5.tmps.size=85∧a5.defers=a4.defers∧w5=w4) ?_ ?_
    ·obtain⟨T,d⟩:=a4
     refine rl ?_;with_reducible refine st ?_;refine ln ?_
     refine⟨rfl,?_,?_,rfl,rfl⟩
     ·exact aq
     ·simpa using C
    rintro a5 w5 ⟨k4,k5,k6,rfl⟩;refine wp_ret ?_
    repeat with_reducible apply ba
    exact hR _ _ k4 k5 (k6.trans (cv.trans U.defers)) ⟨m,cx,cc.out⟩ bc.out
 ·rintro a' w' X ⟨n1,l,p1,c3,ad,H,I,hk⟩
  rw[List.take_length]at H I;exact hQ _ _ _ _ _ ((U.m).t X) c3 ad H I hk
theorem yt(m:Ck.Map)(c:Ck.b7)(d:Nat)(w:World)(h:d<w.heap.size)(q:w.cell? ⟨d,5,none⟩=some (.string c.over)):
 Calls Tryz.prog 126 #[.agg #[.int .i64 m.pos,.string m.of,.int .u64 m.Q7,.bool m.write,.bool m.exec],.pointer (some ⟨d,0,none⟩)] w fun e w'=>e=.returned (.bool (decide (m.of=c.over)))∧Kz w w':=by
 have g:(m.of.toList==c.over.toList)=decide (m.of=c.over):=bQ _ _
 go_enter Tryz.func126,Tryz.ntmps126
 go_wp2
 go_ret
 exact⟨rfl,(aD.refl _ _).alloc _⟩
theorem uV{A:Option Addr}{cc:Nat}{l:List Ck.Map}(hs:aK B 5 eH w (.slice A l.length cc) l)(hB:B≤w.heap.size)(c:Ck.b7)(zc:Nat)(hz:zc<w.heap.size)(q:w.cell? ⟨zc,5,none⟩=some (.string c.over)):
 Calls Tryz.prog 150 #[.slice A l.length cc,.func (.func 126) #[] #[.pointer (some ⟨zc,0,none⟩)]] w fun e w'=>(∃i:Int,e=.returned (.int .i64 i)∧(0≤i↔∃m∈l,m.of=c.over))∧Kz w w':=by
 obtain⟨_,_,e,bw,bf,hl⟩:=hs
 cases e
 unfold top at bf;refine bK Tryz.func150 Tryz.ntmps150 rfl ξ fun a C y u=>?_
 have Y:At a 0 (.slice A l.length cc):=u 0 _ rfl;have U:At a 1 (.func (.func 126) #[] #[.pointer (some ⟨zc,0,none⟩)]):=u 1 _ rfl;clear u
 conv=>arg 2;whnf
 refine so (fun a1 w1=>aE (fun i=>i==4) a a1∧w1=w) ?_ ?_
 ·clear hl
  obtain⟨T,d⟩:=a;refine rl ?_;with_reducible refine st ?_;refine ln ?_
  refine⟨rfl,ag,rfl⟩
 rintro a1 w1 ⟨g,rfl⟩;replace Y:=g.Q7 Y rfl;replace U:=g.Q7 U rfl;replace C:=g.size.trans C;replace y:=g.defers.trans y;clear g;refine wp_seq (wp_seq (Code.wp_only (R:=fun a2 w2=>aE (fun i=>i==6||i==7||i==8) a1 a2∧At a2 7 (.int .i64 l.length)∧At a2 8 (.int .i64 0)∧w2=w1) ?_ ?_))
 ·clear hl
  obtain⟨T,d⟩:=a1;refine rl ?_
  iterate 3 with_reducible refine st ?_
  with_reducible refine ln ?_
  refine⟨rfl,ag,aq,aq,rfl⟩
 rintro a2 w2 ⟨D,bb,a9,rfl⟩;replace Y:=D.Q7 Y rfl;replace U:=D.Q7 U rfl;replace C:=D.size.trans C;replace y:=D.defers.trans y;clear D;refine bU l.length (fun i=>i==4||i==5||(rg 8 18 i)) (fun i=>i==4||i==5||(rg 10 17 i)) (fun k _ w'=>(∀m∈l.take k,m.of≠c.over)∧Kz w2 w') χ a9 bb ψ rfl
  ζ χ ψ (fun k a1 a2 w g hI=>hI) ⟨ξ,aD.refl _ _⟩ ?_ ?_
 ·rintro k a3 wr be g bm ⟨I,hk⟩
  obtain⟨bl,off,rfl,bd,ac⟩:=hl χ;obtain⟨m,L⟩:=ge be;obtain⟨Z,bt⟩:=(aI B _ _) _ _ _ _ _ (hk.below (B:=B) χ (fun _ hi e=>e)) bd (ac k m L);have q0:=Z.c0;have q1:=Z 1 _ rfl;have q2:=Z 2 _ rfl;have q3:=Z 3 _ rfl;have q4:=Z 4 _ rfl;have a0:=g.Q7 Y rfl;have a7:=g.Q7 U rfl;have J:=g.size.trans C;have H:=g.defers.trans y;have bs:=hk.size;have bo:bl<wr.heap.size:=χ
  have bp:k≤cc:=χ
  have V:=hh (yt m c zc wr χ ((hk.cell (p:=⟨zc,5,none⟩) hz (fun h=>h)).trans q));have HX:=hh L;have bc:=hh I;have HK:=hh hk;have HA:=hh g;clear L I hk g Z ac hl;refine so (fun a4 w4=>aE (fun i=>i==10||i==5) a3 a4∧At a4 5 (.int .i64 k)∧w4=wr) ?_ ?_
  ·obtain⟨T,d⟩:=a3
   refine rl ?_
   iterate 2 with_reducible refine st ?_
   with_reducible refine ln ?_
   refine⟨rfl,ag,aq,rfl⟩
  rintro a4 w4 ⟨v,bg,rfl⟩;have bz:=v.Q7 a0 rfl;have b0:=v.Q7 a7 rfl;have al:=v.size.trans J;have ad:=v.defers.trans H;refine so (fun a5 w5=>aE (fun i=>(rg 11 16 i)) a4 a5∧At a5 16 (.bool (decide (m.of=c.over)))∧Kz w4 w5) ?_ ?_
  ·clear a0 a7 bm v
   obtain⟨T,d⟩:=a4;refine rl ?_
   iterate 5 with_reducible refine st ?_
   with_reducible refine Lz (fun K hK=>?_)
   go_simp;refine V.out.mono ?_;rintro e w5 ⟨rfl,Q⟩;with_reducible refine hK _ _ (ln ?_)
   refine⟨rfl,ag,aq,Q⟩
  rintro a5 w5 ⟨E,a8,Q⟩;have an:=E.size.trans al;have O:=a8.eval χ;have bx:=E.Q7 bg rfl
  by_cases hov:m.of=c.over
  ·rw[decide_eq_true hov]at O
   refine wp_cond_true O ?_;refine so (fun N w6=>At N 4 (.int .i64 k)∧N.tmps.size=19∧N.defers=[]∧w6=w5) ?_ ?_
   ·have af:=E.defers.trans ad
    clear E;obtain⟨T,d⟩:=a5;refine rl ?_
    iterate 2 with_reducible refine st ?_
    with_reducible refine ln ?_
    refine⟨rfl,?_,by simpa using an,af,rfl⟩;exact aq
   rintro N w6 ⟨h4,X,W,rfl⟩;refine wp_ret ?_
   repeat (first|with_reducible apply bY|with_reducible apply ba)
   refine bk (t:=4) rfl h4 (by rw[X];decide) W ⟨⟨_,rfl,⟨fun _=>⟨m,List.mem_of_getElem? HX.out,hov⟩,fun _=>χ⟩⟩,HK.out.trans Q (fun _ _ e=>e)⟩
  ·rw[decide_eq_false hov]at O
   refine wp_cond_false O (wp_skip ?_);refine⟨(v.m).t E,fun x L=>?_,HK.out.trans Q (fun _ _ e=>e)⟩;rw[aO HX.out]at L
   rcases List.mem_append.1 L with L|L
   ·exact bc.out x L
   ·have e:x=m:=by simpa using L
    subst e;exact hov
 ·rintro a3 w3 g ⟨I,hk⟩
  rw[List.take_length]at I;have J:=g.size.trans C;have H:=g.defers.trans y;clear g Y U a9 bb hl;show Code.wp _ _ _ _ _;refine so (fun N w6=>At N 4 (.int .i64 (-1))∧N.tmps.size=19∧N.defers=[]∧w6=w3) ?_ ?_
  ·obtain⟨T,d⟩:=a3
   refine rl ?_;with_reducible refine st ?_;refine ln ?_
   refine⟨rfl,?_,by simpa using J,H,rfl⟩;exact aq
  rintro N w6 ⟨h4,X,W,rfl⟩;refine wp_ret (bk (t:=4) rfl h4 (by rw[X];decide) W ⟨⟨_,rfl,⟨fun h=>χ,fun⟨m,U,h2⟩=>absurd h2 (I m U)⟩⟩,hk⟩)
theorem pV{A:Option Addr}{g:Nat}{l:List Ck.Map}(x:aK B 5 eH w (.slice A l.length g) l)(v:B≤w.heap.size)(c:Ck.b7)(d:Nat)(y:d<w.heap.size)(q:w.cell? ⟨d,5,none⟩=some (.string c.over)):
 Calls Tryz.prog 125 #[.slice A l.length g,.func (.func 126) #[] #[.pointer (some ⟨d,0,none⟩)]] w fun e w'=>e=.returned (.bool (l.any fun m=>decide (m.of=c.over)))∧Kz w w':=by
 go_enter Tryz.func125,Tryz.ntmps125
 go_wp2_with fail
 refine(uV x v c d y q).mono ?_;rintro e w' ⟨⟨i,rfl,hi⟩,hk⟩;have h:=hh hi;have j:=hh hk;clear hi hk
 go_wp2
 go_ret
 refine⟨?_,j.out⟩;have u:decide (0≤i)=l.any fun m=>decide (m.of=c.over):=by
  rw[Bool.eq_iff_iff,decide_eq_true_eq,h.out,List.any_eq_true];simp
 simp[←u]
theorem lK{P:aF}{c:Ck.b7}:gG P c=((P.Q4.all fun x=>x.QA.all fun m=>mQ c x.name m)&&(P.Q5.all fun x =>!x.QA.any fun m=>decide (m.of=c.over))&&(P.Q4.any fun x=>decide (x.name=c.QC)&&x.QA.any fun m=>decide (m.of=c.over))&&(P.Q4.any fun x=>decide (x.name=c.to)&&x.QA.any fun m=>decide (m.of=c.over))):=by
 have e:(fun x:Ck.bE=>x.QA.all fun m =>!decide (m.of=c.over))=fun x =>!x.QA.any fun m=>decide (m.of=c.over):=by
  funext x
  rw[List.not_any_eq_all_not]
 unfold gG;rw[e];rfl
def sR(l:List aa)(c:Ck.b7)(s:ByteArray):Prop:=∃x∈l,x.name=s∧∃m∈x.QA,m.of=c.over
theorem vb{l:List aa}{c:Ck.b7}{s:ByteArray}:sR l c s↔(l.any fun x=>decide (x.name=s)&&x.QA.any fun m=>decide (m.of=c.over))=true:=by
 simp[sR,List.any_eq_true]
theorem tN{pb:Nat}{v:aX}{P:aF}{W:Int→Int}{L:List Wr}(h:aG B w pb v P W L){c:Ck.b7}(D:c.Ok):
 Calls Tryz.prog 100 #[.pointer (some ⟨pb,0,none⟩),.agg #[.int .i64 c.pos,.string c.name,.string c.QC,.string c.to,.bool c.shared,.string c.over,.int .i64 c.how,.int .u64 c.QJ]] w fun e w'=>e=.returned (.bool (gG P c))∧Kz w w':=by
 have gn:=h.lt;have f9:=h.base;have fr:=@run_makeMap Tryz.prog;refine bK Tryz.func100 Tryz.ntmps100 rfl ξ fun a bs bd O=>?_
 have h0:At a 0 (.pointer (some ⟨pb,0,none⟩)):=O 0 _ rfl;have h1:At a 1 (.agg #[.int .i64 c.pos,.string c.name,.string c.QC,.string c.to,.bool c.shared,.string c.over,.int .i64 c.how,.int .u64 c.QJ]):=O 1 _ rfl;clear O
 conv=>arg 2;whnf
 refine so (fun a1 w1=>aE (fun i=>i==3||i==4) a a1∧At a1 3 (.pointer (some ⟨w.heap.size,0,none⟩))∧w1=w.alloc (.cells #[.int .i64 c.pos,.string c.name,.string c.QC,.string c.to,.bool c.shared,.string c.over,.int .i64 c.how,.int .u64 c.QJ] 97)) ?_ ?_
 ·clear D
  obtain⟨T,d⟩:=a;refine rl ?_
  iterate 2 with_reducible refine st ?_
  with_reducible refine ln ?_
  refine⟨rfl,ag,aq,rfl⟩
 rintro a1 w1 ⟨b3,h3,ca⟩;have c8:Kz w w1:=by rw[ca];exact(aD.refl _ _).alloc _
 obtain⟨X,cd⟩:∃z,z=w.heap.size:=⟨_,rfl⟩;rw[←cd]at h3;have c3:aM w1 X 0 [.int .i64 c.pos,.string c.name,.string c.QC,.string c.to,.bool c.shared,.string c.over,.int .i64 c.how,.int .u64 c.QJ]:=by rw[ca,cd];exact ao _ _ _
 have ex:X<w1.heap.size:=by rw[ca,cd];simp
 replace h0:=b3.Q7 h0 rfl;replace bs:=b3.size.trans bs;replace bd:=b3.defers.trans bd;clear b3 ca h1;refine so (fun a2 w2=>aE (fun i=>i==12||i==5) a1 a2∧At a2 5 (.map (some w1.heap.size))∧w2=w1.alloc (.map #[] 0)) ?_ ?_
 ·clear D c3
  obtain⟨T,d⟩:=a1;refine rl ?_
  iterate 2 with_reducible refine st ?_
  with_reducible refine ln ?_
  refine⟨rfl,ag,aq,rfl⟩
 rintro a2 w2 ⟨ad,h5,dt⟩;have bm:Kz w1 w2:=by rw[dt];exact(aD.refl _ _).alloc _
 obtain⟨M,hM⟩:∃z,z=w1.heap.size:=⟨_,rfl⟩;rw[←hM]at h5;have an:cV w2 M 0 (.int .i64 0) (fun _ =>.int .i64 0) (fun _=>false):=cV.new _ _ _ (by rw[dt,hM];exact heap_alloc_new _ _);have d9:M≠X:=χ
 have gl:w.heap.size≤M:=by have:=c8.size;omega
 have gf:M<w2.heap.size:=an.lt;have di:Kz w w2:=c8.trans bm (fun _ _ h=>h);have HC:Hid (∀w0,aD (fun k=>k=M) w2 w0→aM w0 X 0 [.int .i64 c.pos,.string c.name,.string c.QC,.string c.to,.bool c.shared,.string c.over,.int .i64 c.how,.int .u64 c.QJ]):=fun w0 hk=>(c3.keep bm ex (fun h=>h)).keep hk (by have:=bm.size;omega) (fun e=>d9 e.symm)
 have a0:=h.new di;replace h0:=ad.Q7 h0 rfl;replace h3:=ad.Q7 h3 rfl;replace bs:=ad.size.trans bs;replace bd:=ad.defers.trans bd;have d2:=hh di;have ff:B≤M:=χ
 have f7:B≤w2.heap.size:=χ
 have f6:X<w2.heap.size:=by have:=bm.size;omega
 have fv:pb≠M:=χ
 clear ad dt hM fr c8 bm di h c3 cd ex d9;obtain⟨A,cc,hu,en,b6,hl⟩:=a0.QR.Q4;unfold top at b6;have hq:w2.cell? ⟨pb,5,none⟩=some v.Q4:=a0.cell rfl;rw[hu]at hq;clear hu;refine wp_seq (wp_seq (Code.wp_only (R:=fun a3 w3=>aE (fun i=>(rg 13 19 i)) a2 a3∧At a3 17 (.slice A P.Q4.length cc)∧At a3 18 (.int .i64 P.Q4.length)∧At a3 19 (.int .i64 0)∧w3=w2) ?_ ?_))
 ·clear hl an HC D
  obtain⟨T,d⟩:=a2;refine rl ?_
  iterate 7 with_reducible refine st ?_
  with_reducible refine ln ?_
  refine⟨rfl,ag,aq,aq,aq,rfl⟩
 rintro a3 w3 ⟨af,b1,b0,bz,rfl⟩;have i0:=af.Q7 h0 rfl;have i3:=af.Q7 h3 rfl;have i5:=af.Q7 h5 rfl;have cu:=af.size.trans bs;have cp:=af.defers.trans bd;clear hq;refine bU P.Q4.length (fun i=>i==4||i==7||i==9||(rg 19 57 i)) (fun i=>i==4||i==7||i==9||(rg 21 56 i)) (fun k _ w'=>∃(n:Nat) (cnt:ByteArray→Nat) (p:ByteArray→Bool),n≤k*2097152∧cV w' M n (.int .i64 0) (fun s =>.int .i64 (cnt s)) p∧(∀s,cnt s≤n∧(0<cnt s↔sR (P.Q4.take k) c s))∧(∀x∈P.Q4.take k,∀m∈x.QA,mQ c x.name m=true)∧aD (fun k=>k=M) w3 w') χ bz b0 ψ rfl
  ζ χ ψ (fun k a1 a2 w I hI=>hI) ⟨0,fun _=>0,fun _=>false,χ,an,fun s=>⟨Nat.le_refl _,by simp[sR]⟩,ξ,aD.refl _ _⟩ ?_ ?_
 ·rintro k a4 wr bo I e2 ⟨n,cnt,p,hn,hE,Z,l,hk⟩
  obtain⟨bl,off,rfl,cy,bc⟩:=hl χ;obtain⟨x,hx⟩:=ge bo;obtain⟨u1,u2,Q,bp,f0,cw⟩:=(dC B) _ _ _ _ _ (hk.below (B:=B) χ (fun _ hi e=>χ)) cy (bc k x hx);have cx:=hh bp;obtain⟨A_mapsx,g,rfl,fs,dk,_⟩:=bp;obtain⟨A_rulesx,C,rfl,_,_,_⟩:=f0;unfold top at dk;have q0:=Q.c0;have q1:=Q 1 _ rfl;have q2:=Q 2 _ rfl;have q3:=Q 3 _ rfl;have q4:=Q 4 _ rfl;have q5:=Q 5 _ rfl;have f4:=I.Q7 i0 rfl;have cj:=I.Q7 i3 rfl;have f5:=I.Q7 i5 rfl;have cv:=I.Q7 b1 rfl;have bw:=I.size.trans cu;have be:=I.defers.trans cp;have ew:=hk.size;have ed:bl<wr.heap.size:=χ
  have eo:k≤cc:=χ
  have HX:=hh hx;have HK:=hh hk;have HA:=hh I;have HE:=hh hE;have b2:=hh Z;have HG:=hh l;have gr:n≤4398046511104:=χ
  clear hx hk Q I bc hE Z l hl an;refine so (fun a5 w5=>aE (fun i=>i==21||i==22||i==7) a4 a5∧At a5 7 (.pointer (some ⟨wr.heap.size,0,none⟩))∧w5=wr.alloc (Obj.cells #[.int .i64 x.pos,.string x.name,.int .u64 x.QN,.bool x.stopped,.slice A_mapsx x.QA.length g,.slice A_rulesx x.QO.length C] 45)) ?_ ?_
  ·clear HC D
   obtain⟨T,d⟩:=a4;refine rl ?_
   iterate 4 with_reducible refine st ?_
   with_reducible refine ln ?_
   refine⟨rfl,ag,aq,rfl⟩
  rintro a5 wo ⟨q,e0,H⟩;obtain⟨z,hz⟩:∃z,z=wr.heap.size:=⟨_,rfl⟩;rw[←hz]at e0;have cb:aM wo z 0 [.int .i64 x.pos,.string x.name,.int .u64 x.QN,.bool x.stopped,.slice A_mapsx x.QA.length g,.slice A_rulesx x.QO.length C]:=by rw[H,hz];exact ao _ _ _
  have u:Kz wr wo:=by rw[H];exact(aD.refl _ _).alloc _
  have f2:z≠M:=by have:=HE.out.lt;omega
  have ey:z<wo.heap.size:=by rw[H,hz];simp
  have b5:aD (fun k=>k=M) w3 wo:=HK.out.trans u (fun _ _ h=>h.elim);have es:=b5.size;have eu:=u.size;have V:=q.size.trans bw;have U:=q.defers.trans be;refine wO (cnt0:=0) (n0:=0) ff χ a5 V (hh fun w0 c7=>HC.out w0 (b5.trans c7 (fun _ _ e=>e))) (q.Q7 cj rfl) (q.Q7 f5 rfl) (hh fun w0 c7=>cb.keep c7 ey f2) e0 (by have:=cw.2.2;unfold aW at this;unfold maxLen;omega) (cx.out.below (aI _ _ _) (u.below (B:=B) χ (fun _ _ e=>e))) χ (HE.out.keep u (fun e=>e)) b2.out _ (fun a6 w6 n6 d4 p6 N go fi cm fl c9=>?_) (fun a6 w6 h4 fy fk E c9=>?_)
  ·refine⟨(q.m).t N,n6,d4,p6,χ,fi,fun s=>⟨(cm s).1,?_⟩,?_,b5.trans c9 (fun _ _ e=>e)⟩
   ·rw[(cm s).2,aO HX.out]
    simp only[sR,List.mem_append,List.mem_singleton];constructor
    ·rintro(⟨y,J,h1,h2⟩|⟨rfl,h2⟩)
     ·exact⟨y,.inl J,h1,h2⟩
     ·exact⟨x,.inr rfl,rfl,h2⟩
    ·rintro⟨y,J|rfl,h1,h2⟩
     ·exact .inl ⟨y,J,h1,h2⟩
     ·exact .inr ⟨h1.symm,h2⟩
   ·rw[aO HX.out]
    intro y J
    rcases List.mem_append.1 J with J|J
    ·exact HG.out y J
    ·have e:y=x:=by simpa using J
     subst e;exact fl
  ·repeat (first|with_reducible apply bY|with_reducible apply ba)
   refine bk (t:=4) rfl h4 (by rw[fy];decide) (fk.trans U) ⟨?_,d2.out.trans (b5.trans c9 (fun _ _ e=>e)) (fun i hi e=>χ)⟩;obtain⟨m,hm,hb⟩:=E;have e:gG P c=false:=by
    rw[lK,Bool.eq_false_iff];intro hh;simp only[Bool.and_eq_true,List.all_eq_true]at hh;have:=hh.1.1.1 x (List.mem_of_getElem? HX.out) m hm;rw[hb]at this
    cases this
   rw[e]
 ·rintro a4 w4 Y ⟨n,cnt,p,hn,hE,Z,l,hk⟩
  rw[List.take_length]at Z l;have j0:=Y.Q7 i0 rfl;have j3:=Y.Q7 i3 rfl;have j5:=Y.Q7 i5 rfl;have bw:=Y.size.trans cu;have be:=Y.defers.trans cp;have ew:=hk.size;have d8:Kz w w4:=d2.out.trans hk (fun i hi e=>χ);have HE:=hh hE;have b2:=hh Z;have HG:=hh l;have HK:=hh hk;have d1:=hh d8;have xc:=(HC.out w4 hk) 5 _ rfl;have x2:=(HC.out w4 hk) 2 _ rfl;have x3:=(HC.out w4 hk) 3 _ rfl;clear hE Z l Y b1 b0 bz i0 i3 i5 hl an en b6 A cc;with_reducible apply bJ
  obtain⟨A,cc,hu,en,b6,hl⟩:=a0.QR.Q5;unfold top at b6;have hq:w4.cell? ⟨pb,3,none⟩=some v.Q5:=(hk.cell (p:=⟨pb,3,none⟩) (by have:=a0.lt;omega) fv).trans (a0.cell rfl);rw[hu]at hq;clear hu hk d8;refine wp_seq (wp_seq (Code.wp_only (R:=fun a5 w5=>aE (fun i=>(rg 58 64 i)) a4 a5∧At a5 62 (.slice A P.Q5.length cc)∧At a5 63 (.int .i64 P.Q5.length)∧At a5 64 (.int .i64 0)∧w5=w4) ?_ ?_))
  ·clear hl HC D
   obtain⟨T,d⟩:=a4;refine rl ?_
   iterate 7 with_reducible refine st ?_
   with_reducible refine ln ?_
   refine⟨rfl,ag,aq,aq,aq,rfl⟩
  rintro a5 w5 ⟨q,b1,b0,bz,rfl⟩;have l0:=q.Q7 j0 rfl;have l3:=q.Q7 j3 rfl;have l5:=q.Q7 j5 rfl;have V:=q.size.trans bw;have U:=q.defers.trans be;clear hq;refine bU P.Q5.length (fun i=>i==4||i==11||(rg 64 72 i)) (fun i=>i==4||i==11||(rg 66 71 i)) (fun k _ w'=>(∀x∈P.Q5.take k,(x.QA.any fun m=>decide (m.of=c.over))=false)∧Kz w5 w') χ bz b0 ψ rfl
   ζ χ ψ (fun k a1 a2 w I hI=>hI) ⟨ξ,aD.refl _ _⟩ ?_ ?_
  ·rintro k a6 wr bo I e2 ⟨ac,hk⟩
   obtain⟨bl,off,rfl,cy,bc⟩:=hl χ;obtain⟨x,hx⟩:=ge bo;obtain⟨u1,Q,bp,cw⟩:=(dz B) _ _ _ _ _ ((HK.out.trans hk (fun _ _ h=>h.elim)).below (B:=B) χ (fun _ hi e=>χ)) cy (bc k x hx);have cx:=hh bp;obtain⟨A_mapsx,g,rfl,fs,dk,_⟩:=bp;unfold top at dk;have q0:=Q.c0;have q1:=Q 1 _ rfl;have q2:=Q 2 _ rfl;have q3:=Q 3 _ rfl;have q4:=Q 4 _ rfl;have f4:=I.Q7 l0 rfl;have cj:=I.Q7 l3 rfl;have cv:=I.Q7 b1 rfl;have bx:=I.size.trans V;have bg:=I.defers.trans U;have eu:=hk.size;have ed:bl<wr.heap.size:=χ
   have eo:k≤cc:=χ
   have f3:X<wr.heap.size:=χ
   have XC:=hh ((hk.cell (p:=⟨X,5,none⟩) (by show X<_;omega) (fun h=>h)).trans xc);have HX:=hh hx;have e9:=hh hk;have fc:=hh ac;clear hx hk Q bc ac hl xc x2 x3;refine so (fun a7 w7=>aE (fun i=>i==66||i==67||i==11) a6 a7∧At a7 11 (.pointer (some ⟨wr.heap.size,0,none⟩))∧w7=wr.alloc (Obj.cells #[.int .i64 x.pos,.string x.name,.int .u64 x.Q7,.int .u64 x.size,.slice A_mapsx x.QA.length g] 65)) ?_ ?_
   ·clear HC D
    obtain⟨T,d⟩:=a6;refine rl ?_
    iterate 4 with_reducible refine st ?_
    with_reducible refine ln ?_
    refine⟨rfl,ag,aq,rfl⟩
   rintro a7 wo ⟨al,ez,H⟩;obtain⟨z,hz⟩:∃z,z=wr.heap.size:=⟨_,rfl⟩;rw[←hz]at ez;have cb:aM wo z 0 [.int .i64 x.pos,.string x.name,.int .u64 x.Q7,.int .u64 x.size,.slice A_mapsx x.QA.length g]:=by rw[H,hz];exact ao _ _ _
   have u:Kz wr wo:=by rw[H];exact(aD.refl _ _).alloc _
   have es:=u.size;have q4:=cb 4 _ rfl;have ey:z<wo.heap.size:=by rw[H,hz];simp
   have eq:=al.size.trans bx;have ee:=al.defers.trans bg;have gu:=al.Q7 cj rfl;have bb:=hh (pV (cx.out.below (aI _ _ _) (u.below (B:=B) χ (fun _ _ e=>e))) χ c X χ ((u.cell (p:=⟨X,5,none⟩) f3 (fun h=>h)).trans XC.out));have e8:=hh u;clear u H cb q0 q1 q2 q3 cv e2 cj hz;obtain⟨d3,E⟩:∃b,b=(x.QA.any fun m=>decide (m.of=c.over)):=⟨_,rfl⟩;rw[←E]at bb;have HB:=hh E;clear E;refine so (fun a8 w8=>aE (fun i=>(rg 68 71 i)) a7 a8∧At a8 71 (.bool d3)∧Kz wo w8) ?_ ?_
   ·clear HC D al
    obtain⟨T,d⟩:=a7;refine rl ?_
    iterate 3 with_reducible refine st ?_
    with_reducible refine Lz (fun K hK=>?_)
    go_simp;refine bb.out.mono ?_;rintro e w8 ⟨rfl,dc⟩;with_reducible refine hK _ _ (ln ?_)
    refine⟨rfl,ag,aq,dc⟩
   rintro a8 w8 ⟨b4,e1,dc⟩;have er:=b4.size.trans eq;have eg:=b4.defers.trans ee;have d7:=e1.eval χ;have cs:Kz w5 w8:=(e9.out.trans e8.out (fun _ _ h=>h)).trans dc (fun _ _ h=>h)
   cases d3
   ·refine wp_cond_false d7 (wp_skip ?_)
    refine⟨(al.m).t b4,fun y J=>?_,cs⟩;rw[aO HX.out]at J
    rcases List.mem_append.1 J with J|J
    ·exact fc.out y J
    ·have e:y=x:=by simpa using J
     subst e;exact HB.out.symm
   ·refine wp_cond_true d7 ?_
    refine so (fun a9 w9=>At a9 4 (.bool false)∧a9.tmps.size=85∧a9.defers=[]∧w9=w8) ?_ ?_
    ·clear b4
     obtain⟨T,d⟩:=a8;refine rl ?_;with_reducible refine st ?_;refine ln ?_
     refine⟨rfl,?_,by simpa using er,eg,rfl⟩;exact aq
    rintro a9 w9 ⟨h4,ds,c6,rfl⟩;refine wp_ret ?_
    repeat (first|with_reducible apply bY|with_reducible apply ba)
    refine bk (t:=4) rfl h4 (by rw[ds];decide) c6 ⟨?_,d1.out.trans cs (fun _ _ h=>h)⟩;have e:gG P c=false:=by
     rw[lK,Bool.eq_false_iff];intro hh;simp only[Bool.and_eq_true,List.all_eq_true]at hh;have:=hh.1.1.2 x (List.mem_of_getElem? HX.out);rw[←HB.out]at this
     cases this
    rw[e]
  ·rintro a6 w6 N ⟨ac,hk⟩
   rw[List.take_length]at ac;have k3:=N.Q7 l3 rfl;have k5:=N.Q7 l5 rfl;have bx:=N.size.trans V;have bg:=N.defers.trans U;have y2:=(hk.cell (p:=⟨X,2,none⟩) (by show X<_;omega) (fun h=>h)).trans x2;have y3:=(hk.cell (p:=⟨X,3,none⟩) (by show X<_;omega) (fun h=>h)).trans x3;have d0:=hh (HE.out.keep hk (fun h=>h));have e7:=hh hk;have fz:c.QC.size≤maxLen:=by have:=D;unfold Ck.b7.Ok aW at this;unfold maxLen;omega
   have f1:c.to.size≤maxLen:=by have:=D;unfold Ck.b7.Ok aW at this;unfold maxLen;omega
   obtain⟨cf,c4⟩:∃n,n=cnt c.QC:=⟨_,rfl⟩;obtain⟨ct,c5⟩:∃n,n=cnt c.to:=⟨_,rfl⟩;obtain⟨bf,fd⟩:∃b,decide (0<cf)=b:=⟨_,rfl⟩;obtain⟨bt,fe⟩:∃b,decide (0<ct)=b:=⟨_,rfl⟩;have ea:bf=(P.Q4.any fun x=>decide (x.name=c.QC)&&x.QA.any fun m=>decide (m.of=c.over)):=by
    rw[←fd,Bool.eq_iff_iff,decide_eq_true_eq,←vb,←(b2.out c.QC).2,c4]
   have eb:bt=(P.Q4.any fun x=>decide (x.name=c.to)&&x.QA.any fun m=>decide (m.of=c.over)):=by
    rw[←fe,Bool.eq_iff_iff,decide_eq_true_eq,←vb,←(b2.out c.to).2,c5]
   have HT:Hid (gG P c=(bf&&bt)):=by
    have g1:(P.Q4.all fun x=>x.QA.all fun m=>mQ c x.name m)=true:=by simp only[List.all_eq_true];exact HG.out
    have g2:(P.Q5.all fun x =>!x.QA.any fun m=>decide (m.of=c.over))=true:=by simp only[List.all_eq_true];intro x hx;rw[ac x hx];rfl
    show gG P c=_;rw[lK,g1,g2,←ea,←eb];rfl
   have e5:=hh c4;have e6:=hh c5;clear ea eb c4 c5 ac hk N HC hl xc x2 x3 l0 l3 l5 b1 b0 bz j0 j3 j5 h0 h3 h5;refine so (fun a9 w9=>At a9 4 (.bool (bf&&bt))∧a9.tmps.size=85∧a9.defers=[]∧w9=w6) ?_ ?_
   ·have fm:=d0.out.run Tryz.underlying224 yH fz
    have fp:=d0.out.run Tryz.underlying224 yH f1;rw[←e5.out]at fm;rw[←e6.out]at fp;obtain⟨T,d⟩:=a6;have gs:=aU;refine rl ?_
    cases bf
    all_goals
     iterate 13 with_reducible refine st ?_
     with_reducible refine ln ?_
     refine⟨rfl,?_,by simpa using bx,bg,rfl⟩;simp only[Bool.false_and,Bool.true_and];exact aq
   rintro a9 w9 ⟨h4,ds,c6,rfl⟩;refine wp_ret ?_;refine bk (t:=4) rfl h4 (by rw[ds];decide) c6 ⟨by rw[HT.out],d1.out.trans e7.out (fun _ _ h=>h)⟩
end Go.Proofs.YthobcefghkeddaaGreatDoor
namespace Go.Proofs.YthobcefghkeddaaGreatDoor
open Go.RowKit Go.IntWalk
variable {QT:Nat→Nat} {w:World}
def iN(QT:Nat→Nat)(b:Nat):Nat:=if 127<b then 0 else QT b
theorem qP(h:oy QT w)(b:Nat)(B:b<256):
 Calls Tryz.prog 160 #[.int .u8 b] w fun e w'=>e=.returned (.int .u8 (iN QT b))∧w'=w:=by
 unfold iN
 by_cases h1:127<b
 ·have g:decide ((127:Int)<(b:Int))=true:=η
  go_enter Tryz.func160,Tryz.ntmps160
  go_wp2
  go_ret
  exact⟨by simp[h1],rfl⟩
 ·have g:decide ((127:Int)<(b:Int))=false:=η
  have x:(b:Int)<128:=χ
  have l:b<128:=χ
  have q:=h b l;have y:¬ ((127:Int)<(b:Int)):=χ
  obtain⟨v,d⟩:∃n,n=QT b:=⟨_,rfl⟩;rw[←d]at q;have j:=hh d;have u:=hh h1;clear h d h1 g
  go_enter Tryz.func160,Tryz.ntmps160
  go_wp2
  go_ret
  exact⟨by rw[←j.out];rfl,rfl⟩
def jv(QT:Nat→Nat)(b:Nat):Bool:=decide (iN QT b=3)||decide (iN QT b=4)
theorem yJ(h:oy QT w)(b:Nat)(q:b<256):
 Calls Tryz.prog 164 #[.int .u8 b] w fun e w'=>e=.returned (.bool (jv QT b))∧w'=w:=by
 have d:=qP h b q;unfold jv
 generalize iN QT b=c at d⊢
 clear h
 by_cases h3:c=3
 ·subst h3
  go_enter Tryz.func164,Tryz.ntmps164
  go_wp2_with (go_at_call 160;refine d.mono ?_;rintro e w' ⟨rfl,rfl⟩)
  go_ret
  exact⟨ξ,rfl⟩
 ·obtain⟨t,g⟩:∃t,decide (c=4)=t:=⟨_,rfl⟩
  have e3:((c:Int)==3)=false:=η
  have e4:((c:Int)==4)=t:=by rw[←g];exact eX c 4
  have j:Hid (decide (c=3)=false):=hh (decide_eq_false h3);have l:=hh g;clear h3 g
  go_enter Tryz.func164,Tryz.ntmps164
  go_wp2_with (go_at_call 160;refine d.mono ?_;rintro e w' ⟨rfl,rfl⟩)
  go_ret
  exact⟨by rw[l.out,j.out];rfl,rfl⟩
def kV(QT:Nat→Nat)(x:Nat):Bool:=decide (127<x) || !jv QT x
theorem rU(h:oy QT w)(x:Nat)(l:x≤1114111):
 Calls Tryz.prog 163 #[.int .i32 x] w fun e w'=>e=.returned (.bool (kV QT x))∧w'=w:=by
 unfold kV
 by_cases h1:127<x
 ·have g:(127:Int)<(x:Int):=χ
  have H:Hid ((decide (127<x) || !jv QT x)=true):=hh (by simp[h1]);clear h
  go_enter Tryz.func163,Tryz.ntmps163
  go_wp2
  go_ret
  exact⟨by rw[H.out];rfl,rfl⟩
 ·have g:¬ ((127:Int)<(x:Int)):=χ
  have d:=yJ h x χ;have H:Hid ((decide (127<x) || !jv QT x)=!jv QT x):=hh (by simp[h1]);have j:IntKind.u8.wrap (x:Int)=(x:Int):=u8_in _ χ;rw[H.out]
  generalize jv QT x=b at d⊢
  clear h h1
  go_enter Tryz.func163,Tryz.ntmps163
  go_wp2_with (go_at_call 164;refine d.mono ?_;rintro e w' ⟨rfl,rfl⟩)
  go_ret
  exact⟨rfl,rfl⟩
