import Derived.Test.YthobcefghkeddaaGreatDoorAsE
import Derived.Test.YthobcefghkeddaaGreatDoorFor2
set_option maxRecDepth 100000
set_option linter.all false
set_option maxHeartbeats 4000000
namespace Go.Proofs.YthobcefghkeddaaGreatDoor
open Go.RowKit Go.IntWalk Ck
variable {B k:Nat} {w w':World} {D:Nat→Prop} {v:Value}
theorem ot{l:List ii}{x:ii}{of:List Nm}{p:Wr}:p∈gO (l++[x]) of↔p∈gO l of∨(∃y∈l,p=(max x.pos y.pos,1))∨p∈say (has of x.name) x.pos 2:=by
 simp only[gO,List.mem_append,ci,List.flatMap_append,List.flatMap_cons,List.flatMap_nil,List.append_nil,List.mem_singleton];constructor
 ·rintro((h|h)|(h|h))
  ·exact .inl (.inl h)
  ·exact .inr (.inl h)
  ·exact .inl (.inr h)
  ·exact .inr (.inr h)
 ·rintro((h|h)|(h|h))
  ·exact .inl (.inl h)
  ·exact .inr (.inl h)
  ·exact .inl (.inr h)
  ·exact .inr (.inr h)
theorem yD{pb:Nat}{v:aY}{P:aF}{L:List Wr}(h:aG B w pb v P cQ L){Bf:Nat}{bs:List Nat}{fs:List (List Nm)}{D:Nat→DataW Value}{r:Nat→ByteArray→Value}(hF:ck Bf w bs fs D r)
 (i b:Nat)(f:List Nm)(hb:bs[i]?=some b)(hf:fs[i]?=some f)(hpb:pb<Bf∧pb ∉ bs){u:Value}{xs:List ii}(hs:aM B 2 ig w u xs):
 Calls Tryz.prog 70 #[.pointer (some ⟨pb,0,none⟩),u,.map (some b)] w fun e w'=>e=.returned (.tuple #[])∧aG B w' pb v P cQ (gO xs f++L)∧aD (fun k=>k=pb) w w':=by
 obtain⟨A,c,rfl,hnc,hn0,hl⟩:=hs;unfold top at hn0;have hlt:=h.lt;have hBp:=h.base
 go_enter Tryz.func70,Tryz.ntmps70
 go_wp2
 go_loopw [12] (fun i wr=>∃n:Nat,n≤xs.length∧i=.int .i64 n∧aG B wr pb v P cQ (gO (xs.take n) f++L)∧aD (fun k=>k=pb) w wr) (fun i _=>xs.length-(intOf i).toNat)
 case atStart=>exact⟨0,Nat.zero_le _,rfl,by simpa[gO,cU]using h,aD.refl _ _⟩
 case round =>
 obtain⟨n,hn,rfl,hL,hk⟩:=hrel
 by_cases hlt2:n<xs.length
 ·obtain⟨bl,off,rfl,hbl,hcs⟩:=hl χ
  obtain⟨x,hx⟩:∃x,xs[n]?=some x:=⟨_,Ez hlt2⟩;obtain⟨hc,hok⟩:=(aH B _ _) _ _ _ _ _ (hk.below (B:=B) χ (fun _ hi e=>χ)) hbl (hcs n x hx);have q0:=hc.c0;have q1:=hc 1 _ rfl;have hsz:=hk.size;have hblr:bl<wr.heap.size:=χ
  have hsm:x.name.size≤maxLen:=by have:=hok.2;unfold aU at this;unfold maxLen;omega
  have HX:=ν hx;have HL:=ν hL;have HK:=ν hk;have hnc2:n≤c:=χ
  clear hx hL hk hc hok
  go_wp2
  obtain⟨wo,hwo⟩:∃wo:World,wo=wr.alloc (Obj.cells #[.int .i64 x.pos,.string x.name] 47):=⟨_,rfl⟩;rw[←hwo];obtain⟨z,hz⟩:∃z,z=wr.heap.size:=⟨_,rfl⟩;rw[←hz];have hx0:wo.heap[z]?=some (.cells #[.int .i64 x.pos,.string x.name] 47 (0,0)):=by rw[hwo,hz];exact heap_alloc_new _ _
  have hLo:aG B wo pb v P cQ (gO (xs.take n) f++L):=by rw[hwo];exact HL.out.new ((aD.refl _ _).alloc _)
  have hKo:aD (fun k=>k=pb) w wo:=by rw[hwo];exact HK.out.alloc _
  have hzp:z≠pb:=χ
  have HX0:=ν hx0;have HKo:=ν hKo;have HLo:=ν hLo;clear hwo hz hx0 hKo hLo q0 q1 HL HK
  go_loopw [21] (fun j wq=>∃k:Nat,k≤n∧j=.int .i64 k∧aG B wq pb v P cQ ((xs.take k).map (fun y=>(max x.pos y.pos,1))++(gO (xs.take n) f++L))∧aD (fun i=>i=pb) wo wq) (fun j _=>n-(intOf j).toNat)
  case atStart=>exact⟨0,Nat.zero_le _,rfl,HLo.out,aD.refl _ _⟩
  case round =>
  obtain⟨k,hkn,rfl,hL2,hk2⟩:=hrel;have hx2:=(hk2.block z (aI HX0.out) hzp).trans HX0.out;have x0:wr.cell? ⟨z,0,none⟩=some (.int .i64 x.pos):=by rw[cell_of_row _ _ _ _ _ _ hx2];rfl
  have x1:wr.cell? ⟨z,1,none⟩=some (.string x.name):=by rw[cell_of_row _ _ _ _ _ _ hx2];rfl
  have hzr:z<wr.heap.size:=aI hx2
  by_cases hlt3:k<n
  ·obtain⟨y,hy⟩:∃y,xs[k]?=some y:=⟨_,Ez χ⟩
   have hkw:=HKo.out.trans hk2 (fun _ _ e=>e);have hsz2:=hkw.size;obtain⟨hc,hok⟩:=(aH B _ _) _ _ _ _ _ (hkw.below (B:=B) χ (fun _ hi e=>χ)) hbl (hcs k y hy);have y0:=hc.c0;have y1:=hc 1 _ rfl;have hbl2:bl<wr.heap.size:=χ
   have HL2:=ν hL2;have HK2:=ν hk2;have HY:=ν hy;clear hL2 hk2 hkw hc hok hy hx2
   go_wp2_with fail
   all_goals
    refine(fS _ 1 81 (HL2.out.new ((aD.refl _ _).alloc _)) rfl).mono ?_;rintro e w2 ⟨rfl,hL3,hk3⟩;have HL3:=ν hL3;have HK3:=ν hk3;clear hL3 hk3
    go_wp2
    go_roundw
    case rel =>
     refine⟨k+1,χ,by go_num,HL3.out.congr fun p=>?_,HK2.out.trans (((aD.refl _ _).alloc _).trans HK3.out (fun _ _ e=>e)) (fun _ _ e=>e)⟩;rw[aP HY.out]
     first
      | (simp[or_assoc,or_comm,or_left_comm];done)
      | (have hm:max x.pos y.pos=y.pos:=χ;simp[hm,or_assoc,or_comm,or_left_comm])
      | (have hm:max x.pos y.pos=x.pos:=χ;simp[hm,or_assoc,or_comm,or_left_comm])
    case measure=>simp[intOf];omega
  ·obtain rfl:k=n:=χ
   have HL2:=ν hL2;have HK2:=ν hk2;clear hL2 hk2 hx2;have hasq:∀w',Kz wr w'→Calls Tryz.prog 72 #[.map (some b),.string x.name] w' fun e w2=>e=.returned (.bool (has f x.name))∧w'=w2:=fun w' hk=>by
    have hk3:aD (fun i=>i=pb) w w':=(HKo.out.trans HK2.out (fun _ _ e=>e)).trans hk (fun _ _ e=>e.elim);exact nk (hF.keep hk3 (fun k e _=>by subst e;exact hpb)) i b f hb hf x.name hsm
   have HH:=ν hasq;have HC:Hid (∀w',aD (fun i=>i=pb) wr w'→w'.cell? ⟨z,0,none⟩=some (.int .i64 x.pos)∧w'.cell? ⟨z,1,none⟩=some (.string x.name)):=fun w' hk =>
    ⟨(hk.cell (p:=⟨z,0,none⟩) hzr hzp).trans x0,(hk.cell (p:=⟨z,1,none⟩) hzr hzp).trans x1⟩
   have HLd:=ν (HL2.out.new ((aD.refl _ wr).drew));clear hasq
   go_wp2_with fail
   go_region_held3 (fun w'=>w'.cell? ⟨z,0,none⟩=some (.int .i64 x.pos)∧w'.cell? ⟨z,1,none⟩=some (.string x.name))
    (first|exact HC.out _ ((aD.refl _ wr).drew)|exact HC.out _ (((aD.refl _ wr).drew).trans (by assumption) (fun _ _ e=>e)))
    (first
     | (go_at_call 72;refine(HH.out _ ((aD.refl _ wr).drew)).mono ?_;rintro e w2 ⟨rfl,rfl⟩)
     | (go_at_call 71;refine(aS _ _ 2 80 HLd.out rfl).mono ?_;rintro e w2 ⟨rfl,hL3,hk3⟩))
   have HL3:=ν hL3;have HK3:=ν hk3;clear hL3 hk3
   go_wp2
   go_roundw
   case rel =>
    refine⟨k+1,χ,by go_num,HL3.out.congr fun p=>?_,(HKo.out.trans HK2.out (fun _ _ e=>e)).trans (((aD.refl _ _).drew).trans HK3.out (fun _ _ e=>e)) (fun _ _ e=>e)⟩;rw[aP HX.out];simp only[List.mem_append,ot,List.mem_map];constructor
    ·rintro(h|⟨y,h1,rfl⟩|h|h)
     ·exact .inl (.inr (.inr h))
     ·exact .inl (.inr (.inl ⟨y,h1,rfl⟩))
     ·exact .inl (.inl h)
     ·exact .inr h
    ·rintro((h|⟨y,h1,rfl⟩|h)|h)
     ·exact .inr (.inr (.inl h))
     ·exact .inr (.inl ⟨y,h1,rfl⟩)
     ·exact .inl h
     ·exact .inr (.inr (.inr h))
   case measure=>simp[intOf];omega
 ·obtain rfl:n=xs.length:=χ
  rw[List.take_length]at hL;have HL:=ν hL;have HK:=ν hk;clear hL hk
  go_wp2
  go_end0
  exact⟨rfl,HL.out,HK.out⟩
abbrev jg:=TypeId→Nat→Prop
def E8{α:Type}(D:Nat→Prop)(k:Nat)(R:World→Nat→Nat→α→Prop)(w:World)(A:Option Addr)(xs:List α):Prop:=
 0<xs.length→∃b off,A=some ⟨b,off,none⟩∧D b∧∀i x,xs[i]?=some x→R w b (off+i*k) x
def bX{α:Type}(D:Nat→Prop)(k:Nat)(R:World→Nat→Nat→α→Prop)(w:World)(v:Value)(xs:List α):Prop:=
 ∃A c,v=.slice A xs.length c∧xs.length≤c∧xs.length≤top∧E8 D k R w A xs
theorem mM{α:Type}{D':Nat→Prop}{R R':World→Nat→Nat→α→Prop}{xs:List α}(h:bX D k R w v xs)(l:∀b,D b→D' b)
 (q:∀b o (i:Nat) (x:α),xs[i]?=some x→D b→R w b o x→R' w' b o x):bX D' k R' w' v xs:=by
 obtain⟨A,c,e,u,B,y⟩:=h;refine⟨A,c,e,u,B,fun j=>?_⟩;obtain⟨b,off,e,d,C⟩:=y j;exact⟨b,off,e,l b d,fun i x g=>q _ _ i x g d (C i x g)⟩
def uL(D:jg)(w:World)(b o:Nat)(x:Ck.bM):Prop:=
 ∃v,aK w b o [.int .i64 x.pos,.string x.name,.int .u64 x.Q7,.int .u64 x.size,v]∧bX (D 93) 5 dg w v x.QA∧fG x.pos∧x.Q7<lim∧x.size<lim∧aU x.name
def r8(D:jg)(w:World)(b o:Nat)(x:aj):Prop:=
 ∃v u,aK w b o [.int .i64 x.pos,.string x.name,.int .u64 x.QN,.bool x.stopped,v,u]∧bX (D 93) 5 dg w v x.QA∧bX (D 95) 4 mt w u x.QO∧fG x.pos∧x.QN<lim∧aU x.name
def BO(D:jg)(w:World)(b o:Nat)(x:cK):Prop:=
 ∃v,aK w b o [.int .i64 x.pos,.int .u64 x.QN,.bool x.needs,v]∧bX (D 99) 4 ly w v x.runs∧fG x.pos∧x.QN<lim
def BM(D:jg)(w:World)(b o:Nat)(x:jB):Prop:=
 ∃v,aK w b o [.int .i64 x.pos,.string x.name,.int .u64 x.QJ,v]∧bX (D 71) 4 (BO D) w v x.QL∧fG x.pos∧x.QJ<lim∧aU x.name
structure rB (D:jg) (w:World) (v:aY) (P:aF):Prop where
 QE:bX (D 91) 3 xM w v.QE P.QE
 Q5:bX (D 65) 5 (uL D) w v.Q5 P.Q5
 Q3:bX (D 53) 10 jl w v.Q3 P.Q3
 Q4:bX (D 45) 6 (r8 D) w v.Q4 P.Q4
 Q8:bX (D 97) 8 kD w v.Q8 P.Q8
 QM:bX (D 87) 6 xP w v.QM P.QM
 QB:bX (D 89) 6 nw w v.QB P.QB
 Q9:bX (D 68) 4 (BM D) w v.Q9 P.Q9
 QD:bX (D 47) 2 ig w v.QD P.QD
 QH:bX (D 47) 2 ig w v.QH P.QH
 QC:bX (D 47) 2 ig w v.QC P.QC
 QF:bX (D 101) 3 xQ w v.QF P.QF
 pos:fG P.pos
 name:aU P.name
theorem ak.in_{v:aY}{P:aF}(h:ak B w v P):rB (fun _ b=>b<B) w v P:=
 ⟨h.QE,h.Q5,h.Q3,h.Q4,h.Q8,h.QM,h.QB,h.Q9,h.QD,h.QH,h.QC,h.QF,h.pos,h.name⟩
theorem rB.below{v:aY}{P:aF}(h:rB (fun _ b=>b<B) w v P):ak B w v P:=
 ⟨h.QE,h.Q5,h.Q3,h.Q4,h.Q8,h.QM,h.QB,h.Q9,h.QD,h.QH,h.QC,h.QF,h.pos,h.name⟩
def jj(D:Nat→Prop)(w w':World):Prop:=∀b,D b→∀o,w'.cell? ⟨b,o,none⟩=w.cell? ⟨b,o,none⟩
theorem jj.refl:jj D w w:=fun _ _ _=>rfl
structure z8 {α:Type} (T:TypeId) (k:Nat) (N:TypeId→Prop) (RF:jg→World→Nat→Nat→α→Prop):Prop where
 pos:0<k
 ones:∀{D:jg} {w:World} {b o:Nat} {x:α},RF D w b o x→∀j,j<k→∃u,w.cell? ⟨b,o+j,none⟩=some u∧u.oneCell'=true
 moves:∀{D D':jg} {w w':World} {b o b' o':Nat} {x:α},RF D w b o x→(∀j,j<k→w'.cell? ⟨b',o'+j,none⟩=w.cell? ⟨b,o+j,none⟩)→(∀T',N T'→∀b,D T' b→D' T' b)→(∀T',N T'→jj (D T') w w')→RF D' w' b' o' x
theorem jw{b o:Nat}{vs:List Value}(h:aK w b o vs)(g:∀v∈vs,v.oneCell'=true)(j:Nat)(d:j<vs.length):∃u,w.cell? ⟨b,o+j,none⟩=some u∧u.oneCell'=true:=
 ⟨vs[j],h j _ (Ez d),g _ (List.getElem_mem d)⟩
theorem iX{b o d l:Nat}{vs:List Value}(h:aK w b o vs)(q:∀j,j<vs.length→w'.cell? ⟨d,l+j,none⟩=w.cell? ⟨b,o+j,none⟩):aK w' d l vs:=
 fun j v g=>(q j (ο.1 g).1).trans (h j v g)
theorem cJ{α:Type}{D':Nat→Prop}{cells:α→List Value}{Ok:α→Prop}{xs:List α}(h:bX D k (eI cells Ok) w v xs)(g:∀b,D b→D' b)(q:jj D w w'):bX D' k (eI cells Ok) w' v xs:=
 mM h g fun b o _ x _ l d=>⟨fun j u y=>(q b l _).trans (d.1 j u y),d.2⟩
theorem f8{α:Type}{R:World→Nat→Nat→α→Prop}{xs:List α}(h:bX D k R w v xs):v.oneCell'=true:=by
 obtain⟨A,c,rfl,_⟩:=h;rfl
theorem tr:z8 65 5 (fun T=>T=93) uL where
 pos:=ψ
 ones:=fun⟨v,h,d,_⟩ j x=>jw h (by intro u g;simp at g;rcases g with rfl|rfl|rfl|rfl|rfl<;>first|rfl|exact f8 d) j x
 moves:=fun⟨v,h,d,l⟩ w q y=>⟨v,iX h w,cJ d (q 93 rfl) (y 93 rfl),l⟩
theorem rL:z8 45 6 (fun T=>T=93∨T=95) r8 where
 pos:=ψ
 ones:=fun⟨v,u,h,d,g,_⟩ j B=>jw h (by intro u w;simp at w;rcases w with rfl|rfl|rfl|rfl|rfl|rfl<;>first|rfl|exact f8 d|exact f8 g) j B
 moves:=fun⟨v,u,h,d,g,x⟩ y l q=>⟨v,u,iX h y,cJ d (l 93 (.inl rfl)) (q 93 (.inl rfl)),cJ g (l 95 (.inr rfl)) (q 95 (.inr rfl)),x⟩
theorem yX:z8 71 4 (fun T=>T=99) BO where
 pos:=ψ
 ones:=fun⟨v,h,d,_⟩ j x=>jw h (by intro u g;simp at g;rcases g with rfl|rfl|rfl|rfl<;>first|rfl|exact f8 d) j x
 moves:=fun⟨v,h,d,l⟩ w q y=>⟨v,iX h w,cJ d (q 99 rfl) (y 99 rfl),l⟩
theorem yC:z8 68 4 (fun T=>T=71∨T=99) BM where
 pos:=ψ
 ones:=fun⟨v,h,g,_⟩ j D=>jw h (by intro u w;simp at w;rcases w with rfl|rfl|rfl|rfl<;>first|rfl|exact f8 g) j D
 moves:=fun⟨v,h,g,y⟩ C l q=>⟨v,iX h C,mM g (l 71 (.inl rfl)) fun b o _ x _ B E=>yX.moves E (fun j _=>q 71 (.inl rfl) b B _) (fun T d=>by subst d;exact l 99 (.inr rfl)) (fun T d=>by subst d;exact q 99 (.inr rfl)),y⟩
theorem z8.same{α:Type}{T:TypeId}{N:TypeId→Prop}{RF:jg→World→Nat→Nat→α→Prop}(K:z8 T k N RF){D0 D0':Nat→Prop}{D D':jg}{w w':World}{v:Value}{xs:List α}(h:bX D0 k (RF D) w v xs)
 (d:∀b,D0 b→D0' b)(g:jj D0 w w')(l:∀T',N T'→∀b,D T' b→D' T' b)(y:∀T',N T'→jj (D T') w w'):bX D0' k (RF D') w' v xs:=
 mM h d fun b o _ x _ q u=>K.moves u (fun j _=>g b q _) l y
theorem rB.same{D D':jg}{v:aY}{P:aF}(h:rB D w v P)(d:∀T b,D T b→D' T b)(g:∀T,jj (D T) w w'):rB D' w' v P:=
 ⟨cJ h.QE (d _) (g _),tr.same h.Q5 (d _) (g _) (fun T _=>d T) (fun T _=>g T),cJ h.Q3 (d _) (g _),rL.same h.Q4 (d _) (g _) (fun T _=>d T) (fun T _=>g T),cJ h.Q8 (d _) (g _),cJ h.QM (d _) (g _),
  cJ h.QB (d _) (g _),yC.same h.Q9 (d _) (g _) (fun T _=>d T) (fun T _=>g T),cJ h.QD (d _) (g _),cJ h.QH (d _) (g _),cJ h.QC (d _) (g _),cJ h.QF (d _) (g _),h.pos,h.name⟩
def over:List Value→Nat→List Value→List Value
 | xs,_,[]=>xs
 | xs,o,v::t=>over (xs.set o v) (o+1) t
