import Derived.Test.YthobcefghkeddaaGreatDoorAsE
import Derived.Test.YthobcefghkeddaaGreatDoorFor2
set_option maxRecDepth 100000
set_option linter.all false
set_option maxHeartbeats 4000000
namespace Go.Proofs.YthobcefghkeddaaGreatDoor
open Go.RowKit Go.IntWalk Ck
theorem oX{l:List iq}{x:iq}{of:List Nm}{p:Wr}:p∈gU (l++[x]) of↔p∈gU l of∨(∃y∈l,p=(max x.pos y.pos,1))∨p∈say (has of x.name) x.pos 2:=by
 simp only[gU,List.mem_append,cg,List.flatMap_append,List.flatMap_cons,List.flatMap_nil,List.append_nil,List.mem_singleton];constructor
 ·rintro((h|h)|(h|h))
  ·exact .inl (.inl h)
  ·exact .inr (.inl h)
  ·exact .inl (.inr h)
  ·exact .inr (.inr h)
 ·rintro((h|h)|(h|h))
  ·exact .inl (.inl h)
  ·exact .inr (.inl h)
  ·exact .inl (.inr h)
  ·exact .inr (.inr h)
theorem xt{B:Nat}{w:World}{pb:Nat}{v:ae}{P:aF}{L:List Wr}(h:aG B w pb v P cN L){Bf:Nat}{bs:List Nat}{fs:List (List Nm)}{D:Nat→DataW Value}{r:Nat→ByteArray→Value}(hF:ci Bf w bs fs D r)
 (i b:Nat)(f:List Nm)(hb:bs[i]?=some b)(hf:fs[i]?=some f)(hpb:pb<Bf∧pb ∉ bs){u:Value}{xs:List iq}(hs:aM B 2 mg w u xs):
 Calls Tryz.prog 70 #[.pointer (some ⟨pb,0,none⟩),u,.map (some b)] w fun e w'=>e=.returned (.tuple #[])∧aG B w' pb v P cN (gU xs f++L)∧aD (fun k=>k=pb) w w':=by
 obtain⟨A,c,rfl,hnc,hn0,hl⟩:=hs;unfold top at hn0;have hlt:=h.lt;have hBp:=h.base
 go_enter Tryz.func70,Tryz.ntmps70
 go_wp2
 go_loopw [12] (fun i wr=>∃n:Nat,n≤xs.length∧i=.int .i64 n∧aG B wr pb v P cN (gU (xs.take n) f++L)∧aD (fun k=>k=pb) w wr) (fun i _=>xs.length-(intOf i).toNat)
 case atStart=>exact⟨0,Nat.zero_le _,rfl,by simpa[gU,cQ]using h,aD.refl _ _⟩
 case round =>
 obtain⟨n,hn,rfl,hL,hk⟩:=hrel
 by_cases hlt2:n<xs.length
 ·obtain⟨bl,off,rfl,hbl,hcs⟩:=hl χ
  obtain⟨x,hx⟩:∃x,xs[n]?=some x:=⟨_,Ez hlt2⟩;obtain⟨hc,hok⟩:=(aI B _ _) _ _ _ _ _ (hk.below (B:=B) χ (fun _ hi e=>χ)) hbl (hcs n x hx);have q0:=hc.c0;have q1:=hc 1 _ rfl;have hsz:=hk.size;have hblr:bl<wr.heap.size:=χ
  have hsm:x.name.size≤maxLen:=by have:=hok.2;unfold aV at this;unfold maxLen;omega
  have HX:=ν hx;have HL:=ν hL;have HK:=ν hk;have hnc2:n≤c:=χ
  clear hx hL hk hc hok
  go_wp2
  obtain⟨wo,hwo⟩:∃wo:World,wo=wr.alloc (Obj.cells #[.int .i64 x.pos,.string x.name] 47):=⟨_,rfl⟩;rw[←hwo];obtain⟨z,hz⟩:∃z,z=wr.heap.size:=⟨_,rfl⟩;rw[←hz];have hx0:wo.heap[z]?=some (.cells #[.int .i64 x.pos,.string x.name] 47 (0,0)):=by rw[hwo,hz];exact heap_alloc_new _ _
  have hLo:aG B wo pb v P cN (gU (xs.take n) f++L):=by rw[hwo];exact HL.out.new ((aD.refl _ _).alloc _)
  have hKo:aD (fun k=>k=pb) w wo:=by rw[hwo];exact HK.out.alloc _
  have hzp:z≠pb:=χ
  have HX0:=ν hx0;have HKo:=ν hKo;have HLo:=ν hLo;clear hwo hz hx0 hKo hLo q0 q1 HL HK
  go_loopw [21] (fun j wq=>∃k:Nat,k≤n∧j=.int .i64 k∧aG B wq pb v P cN ((xs.take k).map (fun y=>(max x.pos y.pos,1))++(gU (xs.take n) f++L))∧aD (fun i=>i=pb) wo wq) (fun j _=>n-(intOf j).toNat)
  case atStart=>exact⟨0,Nat.zero_le _,rfl,HLo.out,aD.refl _ _⟩
  case round =>
  obtain⟨k,hkn,rfl,hL2,hk2⟩:=hrel;have hx2:=(hk2.block z (aH HX0.out) hzp).trans HX0.out;have x0:wr.cell? ⟨z,0,none⟩=some (.int .i64 x.pos):=by rw[cell_of_row _ _ _ _ _ _ hx2];rfl
  have x1:wr.cell? ⟨z,1,none⟩=some (.string x.name):=by rw[cell_of_row _ _ _ _ _ _ hx2];rfl
  have hzr:z<wr.heap.size:=aH hx2
  by_cases hlt3:k<n
  ·obtain⟨y,hy⟩:∃y,xs[k]?=some y:=⟨_,Ez χ⟩
   have hkw:=HKo.out.trans hk2 (fun _ _ e=>e);have hsz2:=hkw.size;obtain⟨hc,hok⟩:=(aI B _ _) _ _ _ _ _ (hkw.below (B:=B) χ (fun _ hi e=>χ)) hbl (hcs k y hy);have y0:=hc.c0;have y1:=hc 1 _ rfl;have hbl2:bl<wr.heap.size:=χ
   have HL2:=ν hL2;have HK2:=ν hk2;have HY:=ν hy;clear hL2 hk2 hkw hc hok hy hx2
   go_wp2_with fail
   all_goals
    refine(fX _ 1 81 (HL2.out.new ((aD.refl _ _).alloc _)) rfl).mono ?_;rintro e w2 ⟨rfl,hL3,hk3⟩;have HL3:=ν hL3;have HK3:=ν hk3;clear hL3 hk3
    go_wp2
    go_roundw
    case rel =>
     refine⟨k+1,χ,by go_num,HL3.out.congr fun p=>?_,HK2.out.trans (((aD.refl _ _).alloc _).trans HK3.out (fun _ _ e=>e)) (fun _ _ e=>e)⟩;rw[aO HY.out]
     first
      | (simp[or_assoc,or_comm,or_left_comm];done)
      | (have hm:max x.pos y.pos=y.pos:=χ;simp[hm,or_assoc,or_comm,or_left_comm])
      | (have hm:max x.pos y.pos=x.pos:=χ;simp[hm,or_assoc,or_comm,or_left_comm])
    case measure=>simp[intOf];omega
  ·obtain rfl:k=n:=χ
   have HL2:=ν hL2;have HK2:=ν hk2;clear hL2 hk2 hx2;have hasq:∀w',Kz wr w'→Calls Tryz.prog 72 #[.map (some b),.string x.name] w' fun e w2=>e=.returned (.bool (has f x.name))∧w'=w2:=fun w' hk=>by
    have hk3:aD (fun i=>i=pb) w w':=(HKo.out.trans HK2.out (fun _ _ e=>e)).trans hk (fun _ _ e=>e.elim);exact nX (hF.keep hk3 (fun k e _=>by subst e;exact hpb)) i b f hb hf x.name hsm
   have HH:=ν hasq;have HC:Hid (∀w',aD (fun i=>i=pb) wr w'→w'.cell? ⟨z,0,none⟩=some (.int .i64 x.pos)∧w'.cell? ⟨z,1,none⟩=some (.string x.name)):=fun w' hk =>
    ⟨(hk.cell (p:=⟨z,0,none⟩) hzr hzp).trans x0,(hk.cell (p:=⟨z,1,none⟩) hzr hzp).trans x1⟩
   have HLd:=ν (HL2.out.new ((aD.refl _ wr).drew));clear hasq
   go_wp2_with fail
   go_region_held3 (fun w'=>w'.cell? ⟨z,0,none⟩=some (.int .i64 x.pos)∧w'.cell? ⟨z,1,none⟩=some (.string x.name))
    (first|exact HC.out _ ((aD.refl _ wr).drew)|exact HC.out _ (((aD.refl _ wr).drew).trans (by assumption) (fun _ _ e=>e)))
    (first
     | (go_at_call 72;refine(HH.out _ ((aD.refl _ wr).drew)).mono ?_;rintro e w2 ⟨rfl,rfl⟩)
     | (go_at_call 71;refine(aR _ _ 2 80 HLd.out rfl).mono ?_;rintro e w2 ⟨rfl,hL3,hk3⟩))
   have HL3:=ν hL3;have HK3:=ν hk3;clear hL3 hk3
   go_wp2
   go_roundw
   case rel =>
    refine⟨k+1,χ,by go_num,HL3.out.congr fun p=>?_,(HKo.out.trans HK2.out (fun _ _ e=>e)).trans (((aD.refl _ _).drew).trans HK3.out (fun _ _ e=>e)) (fun _ _ e=>e)⟩;rw[aO HX.out];simp only[List.mem_append,oX,List.mem_map];constructor
    ·rintro(h|⟨y,h1,rfl⟩|h|h)
     ·exact .inl (.inr (.inr h))
     ·exact .inl (.inr (.inl ⟨y,h1,rfl⟩))
     ·exact .inl (.inl h)
     ·exact .inr h
    ·rintro((h|⟨y,h1,rfl⟩|h)|h)
     ·exact .inr (.inr (.inl h))
     ·exact .inr (.inl ⟨y,h1,rfl⟩)
     ·exact .inl h
     ·exact .inr (.inr (.inr h))
   case measure=>simp[intOf];omega
 ·obtain rfl:n=xs.length:=χ
  rw[List.take_length]at hL;have HL:=ν hL;have HK:=ν hk;clear hL hk
  go_wp2
  go_end0
  exact⟨rfl,HL.out,HK.out⟩
abbrev BJ:=TypeId→Nat→Prop
def Dz(D:Nat→Prop)(w w':World):Prop:=∀b,D b→∀o,w'.cell? ⟨b,o,none⟩=w.cell? ⟨b,o,none⟩
structure GI {α:Type} (T:TypeId) (k:Nat) (N:TypeId→Prop) (RF:BJ→World→Nat→Nat→α→Prop):Prop where
 pos:0<k
 ones:∀{D:BJ} {w:World} {b o:Nat} {x:α},RF D w b o x→∀j,j<k→∃u,w.cell? ⟨b,o+j,none⟩=some u∧u.oneCell'=true
 moves:∀{D D':BJ} {w w':World} {b o b' o':Nat} {x:α},RF D w b o x→(∀j,j<k→w'.cell? ⟨b',o'+j,none⟩=w.cell? ⟨b,o+j,none⟩)→(∀T',N T'→∀b,D T' b→D' T' b)→(∀T',N T'→Dz (D T') w w')→RF D' w' b' o' x
def over:List Value→Nat→List Value→List Value
 | xs,_,[]=>xs
 | xs,o,v::t=>over (xs.set o v) (o+1) t
