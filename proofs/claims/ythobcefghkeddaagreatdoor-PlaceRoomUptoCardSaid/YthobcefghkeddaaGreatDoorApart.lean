import Derived.Test.YthobcefghkeddaaGreatDoorAsE
import Derived.Deep.DeepCutAuto
set_option maxRecDepth 100000
set_option linter.all false
set_option maxHeartbeats 4000000
namespace Go.Proofs.YthobcefghkeddaaGreatDoor
open Go.RowKit Go.IntWalk Ck
variable {w:World}
def Ck.db.cells(x:db):List Value:=[.int .u64 x.Q7,.int .u64 x.size,.int .i64 x.pos]
def Ck.db.Ok(x:db):Prop:=x.Q7<lim∧x.size<lim∧gk x.pos
abbrev E5:=fI Ck.db.cells Ck.db.Ok
def f8(w:World)(pb:Nat)(u:Value)(xs:List db):Prop:=
 ∃A c,u=.slice A xs.length c∧xs.length≤c∧xs.length≤8388608∧(0<xs.length→∃g off,A=some ⟨g,off,none⟩∧g<w.heap.size∧g≠pb∧∀i x,xs[i]?=some x→E5 w g (off+i*3) x)
theorem qK(w:World)(a b:Obj):((w.alloc a).alloc b).drew.heap[w.heap.size]?=some a∧((w.alloc a).alloc b).drew.heap[w.heap.size+1]?=some b∧Kz w ((w.alloc a).alloc b).drew:=by
 refine⟨?_,?_,(((aD.refl _ _).alloc _).alloc _).drew⟩
 ·exact((((aD.refl (fun _=>False) (w.alloc a)).alloc b).drew).block w.heap.size ξ (fun h=>h)).trans (heap_alloc_new w a)
 ·have:=heap_alloc_new (w.alloc a) b
  have d:(w.alloc a).heap.size=w.heap.size+1:=ξ
  rw[d]at this;exact this
theorem qL{p:Nat}{t:TypeId}(d g h x y B:Value)(q:w.heap[p]?=some (.cells #[x,y,B] t (0,0))):
 (((w.setCell ⟨p,0,none⟩ d).setCell ⟨p,1,none⟩ g).setCell ⟨p,2,none⟩ h).heap[p]?=some (.cells #[d,g,h] t (0,0)) ∧
 aD (fun i=>i=p) w (((w.setCell ⟨p,0,none⟩ d).setCell ⟨p,1,none⟩ g).setCell ⟨p,2,none⟩ h):=by
 have j:=heap_setCell_same w p 0 _ t d q;have l:=heap_setCell_same _ p 1 _ t g j;have e3:=heap_setCell_same _ p 2 _ t h l;refine⟨e3,?_⟩;have u:aD (fun i=>i=p) w (w.setCell ⟨p,0,none⟩ d):=aD.setCell (aD.refl (fun i=>i=p) w) (p:=⟨p,0,none⟩) (fun _=>rfl) d;have v:aD (fun i=>i=p) w ((w.setCell ⟨p,0,none⟩ d).setCell ⟨p,1,none⟩ g):=aD.setCell u (p:=⟨p,1,none⟩) (fun _=>rfl) g;exact aD.setCell v (p:=⟨p,2,none⟩) (fun _=>rfl) h
theorem xO{p q:Nat}{t:TypeId}(d g j l b1 b2 H I J K L N:Value)(u:p≠q)(E:w.heap[p]?=some (.cells #[H,I,J] t (0,0)))(D:w.heap[q]?=some (.cells #[K,L,N] t (0,0))):
 ((((((w.setCell ⟨p,0,none⟩ d).setCell ⟨p,1,none⟩ g).setCell ⟨p,2,none⟩ j).setCell ⟨q,0,none⟩ l).setCell ⟨q,1,none⟩ b1).setCell ⟨q,2,none⟩ b2).drew.heap[p]?=some (.cells #[d,g,j] t (0,0)) ∧
 ((((((w.setCell ⟨p,0,none⟩ d).setCell ⟨p,1,none⟩ g).setCell ⟨p,2,none⟩ j).setCell ⟨q,0,none⟩ l).setCell ⟨q,1,none⟩ b1).setCell ⟨q,2,none⟩ b2).drew.heap[q]?=some (.cells #[l,b1,b2] t (0,0)) ∧
 aD (fun i=>i=p∨i=q) w ((((((w.setCell ⟨p,0,none⟩ d).setCell ⟨p,1,none⟩ g).setCell ⟨p,2,none⟩ j).setCell ⟨q,0,none⟩ l).setCell ⟨q,1,none⟩ b1).setCell ⟨q,2,none⟩ b2).drew:=by
 obtain⟨v,y⟩:=qL d g j _ _ _ E
 generalize ((w.setCell ⟨p,0,none⟩ d).setCell ⟨p,1,none⟩ g).setCell ⟨p,2,none⟩ j=w1 at v y⊢
 have x:=(y.block q (aH D) (fun h=>u h.symm)).trans D;obtain⟨C,B⟩:=qL l b1 b2 _ _ _ x
 generalize ((w1.setCell ⟨q,0,none⟩ l).setCell ⟨q,1,none⟩ b1).setCell ⟨q,2,none⟩ b2=w2 at C B⊢
 exact⟨(B.block p (aH v) u).trans v,C,((y.mono (fun _ _ h =>.inl h)).trans B (fun _ _ h =>.inr h)).drew⟩
theorem me{B:Nat}{pb:Nat}{v:ae}{P:aF}{W:Int→Int}{L:List Wr}(h:aG B w pb v P W L){u:Value}{xs:List db}(hp:f8 w pb u xs)(rank:Int)(hw:W rank=35):
 Calls Tryz.prog 97 #[.pointer (some ⟨pb,0,none⟩),u,.int .i64 rank] w fun e w'=>e=.returned (.tuple #[])∧aG B w' pb v P W (dZ rank xs++L)∧aD (fun k=>k=pb) w w':=by
 obtain⟨A,c,rfl,hnc,hn0,hl⟩:=hp;have hlt:=h.lt;have hBp:=h.base;have HW:=ν hw;clear hw
 go_enter Tryz.func97,Tryz.ntmps97
 go_wp2
 go_loopw [14] (fun i wr=>∃n:Nat,n≤xs.length∧i=.int .i64 n∧aG B wr pb v P W (dZ rank (xs.take n)++L)∧aD (fun k=>k=pb) w wr) (fun i _=>xs.length-(intOf i).toNat)
 case atStart=>exact⟨0,Nat.zero_le _,rfl,by simpa[dZ,cQ]using h,aD.refl _ _⟩
 case round =>
 obtain⟨n,hn,rfl,hL,hk⟩:=hrel
 by_cases hlt2:n<xs.length
 ·obtain⟨bl,off,rfl,hbl,hbp,hcs⟩:=hl χ
  obtain⟨x,hx⟩:∃x,xs[n]?=some x:=⟨_,θ hlt2⟩;obtain⟨hc,hok⟩:=hcs n x hx;have hc:=hc.keep hk hbl hbp;have q0:=hc.c0;have q1:=hc 1 _ rfl;have q2:=hc 2 _ rfl;have hsz:=hk.size;have hblr:bl<wr.heap.size:=χ
  have hnc2:n≤c:=χ
  have HX:=ν hx;have HL:=ν hL;have HK:=ν hk;have HC:=ν hcs;have HO:=ν hok;clear hx hL hk hc hok hcs
  go_wp2
  obtain⟨wo,hwo⟩:∃wo:World,wo=wr.alloc (Obj.cells #[.int .u64 x.Q7,.int .u64 x.size,.int .i64 x.pos] 172):=⟨_,rfl⟩;rw[←hwo];obtain⟨z,hz⟩:∃z,z=wr.heap.size:=⟨_,rfl⟩;rw[←hz];have hx0:wo.heap[z]?=some (.cells #[.int .u64 x.Q7,.int .u64 x.size,.int .i64 x.pos] 172 (0,0)):=by rw[hwo,hz];exact heap_alloc_new _ _
  have hLo:aG B wo pb v P W (dZ rank (xs.take n)++L):=by rw[hwo];exact HL.out.new ((aD.refl _ _).alloc _)
  have hKo:aD (fun k=>k=pb) w wo:=by rw[hwo];exact HK.out.alloc _
  have hzp:z≠pb:=χ
  have HX0:=ν hx0;have HKo:=ν hKo;have HLo:=ν hLo;clear hwo hz hx0 hKo hLo q0 q1 q2 HL HK
  go_loopw [23] (fun j wq=>∃k:Nat,k≤n∧j=.int .i64 k∧aG B wq pb v P W ((xs.take k).flatMap (fun y=>say (clear x y) (max x.pos y.pos) rank)++(dZ rank (xs.take n)++L))∧aD (fun i=>i=pb) wo wq) (fun j _=>n-(intOf j).toNat)
  case atStart=>exact⟨0,Nat.zero_le _,rfl,HLo.out,aD.refl _ _⟩
  case round =>
  obtain⟨k,hkn,rfl,hL2,hk2⟩:=hrel;have hx2:=(hk2.block z (aH HX0.out) hzp).trans HX0.out;have x0:wr.cell? ⟨z,0,none⟩=some (.int .u64 x.Q7):=by rw[cell_of_row _ _ _ _ _ _ hx2];rfl
  have x1:wr.cell? ⟨z,1,none⟩=some (.int .u64 x.size):=by rw[cell_of_row _ _ _ _ _ _ hx2];rfl
  have x2:wr.cell? ⟨z,2,none⟩=some (.int .i64 x.pos):=by rw[cell_of_row _ _ _ _ _ _ hx2];rfl
  have hzr:z<wr.heap.size:=aH hx2
  by_cases hlt3:k<n
  ·obtain⟨y,hy⟩:∃y,xs[k]?=some y:=⟨_,θ χ⟩
   have hkw:=HKo.out.trans hk2 (fun _ _ e=>e);have hsz2:=hkw.size;obtain⟨hc,hok⟩:=HC.out k y hy;have hc:=hc.keep hkw hbl hbp;have y0:=hc.c0;have y1:=hc 1 _ rfl;have y2:=hc 2 _ rfl;have hbl2:bl<wr.heap.size:=χ
   have HL2:=ν hL2;have HK2:=ν hk2;have HY:=ν hy;obtain⟨hxa,hxs,_⟩:=HO.out;obtain⟨hya,hys,_⟩:=hok;unfold lim at hxa hxs hya hys;clear hL2 hk2 hkw hc hy hx2
   go_upto_region 6 with fail
   obtain⟨wq,hwq⟩:∃wq:World,wq=wr.alloc (Obj.cells #[.int .u64 y.Q7,.int .u64 y.size,.int .i64 y.pos] 172):=⟨_,rfl⟩;rw[←hwq];obtain⟨z2,hz2⟩:∃z2,z2=wr.heap.size:=⟨_,rfl⟩;rw[←hz2];have hy0:wq.heap[z2]?=some (.cells #[.int .u64 y.Q7,.int .u64 y.size,.int .i64 y.pos] 172 (0,0)):=by rw[hwq,hz2];exact heap_alloc_new _ _
   have hkq:Kz wr wq:=by rw[hwq];exact(aD.refl _ _).alloc _
   have hx3:wq.heap[z]?=some (.cells #[.int .u64 x.Q7,.int .u64 x.size,.int .i64 x.pos] 172 (0,0)):=(hkq.block z hzr (fun h=>h)).trans ((HK2.out.block z (aH HX0.out) hzp).trans HX0.out);have xa:wq.cell? ⟨z,0,none⟩=some (.int .u64 x.Q7):=by rw[cell_of_row _ _ _ _ _ _ hx3];rfl
   have xb:wq.cell? ⟨z,1,none⟩=some (.int .u64 x.size):=by rw[cell_of_row _ _ _ _ _ _ hx3];rfl
   have xc:wq.cell? ⟨z,2,none⟩=some (.int .i64 x.pos):=by rw[cell_of_row _ _ _ _ _ _ hx3];rfl
   have ya:wq.cell? ⟨z2,0,none⟩=some (.int .u64 y.Q7):=by rw[cell_of_row _ _ _ _ _ _ hy0];rfl
   have yb:wq.cell? ⟨z2,1,none⟩=some (.int .u64 y.size):=by rw[cell_of_row _ _ _ _ _ _ hy0];rfl
   have yc:wq.cell? ⟨z2,2,none⟩=some (.int .i64 y.pos):=by rw[cell_of_row _ _ _ _ _ _ hy0];rfl
   have l1:z<wq.heap.size:=aH hx3;have l2:z2<wq.heap.size:=aH hy0;have l3:z<wq.heap.size+1:=χ
   have l4:z2<wq.heap.size+1:=χ
   have HKQ:=ν hkq;have HX3:=ν hx3;have HY3:=ν hy0;clear hwq hz2 hkq hx3 hy0 x0 x1 x2 y0 y1 y2
   go_cut [10,11] (fun lo hi wx=>∃p q:Nat,lo=.pointer (some ⟨p,0,none⟩)∧hi=.pointer (some ⟨q,0,none⟩)∧p≠q∧wx.heap[p]?=some (.cells #[.int .u64 x.Q7,.int .u64 x.size,.int .i64 x.pos] 172 (0,0))∧wx.heap[q]?=some (.cells #[.int .u64 y.Q7,.int .u64 y.size,.int .i64 y.pos] 172 (0,0))∧wq.heap.size≤p∧wq.heap.size≤q∧Kz wq wx)
   case first =>
    go_region
    all_goals(try go_wp2_with fail)
    all_goals go_meet
    ·obtain⟨t1,t2,t3⟩:=qK wq _ _
     exact⟨_,_,rfl,rfl,χ,t1,t2,χ,χ,t3⟩
    ·obtain⟨t1,t2,t3⟩:=qK wq _ _
     exact⟨_,_,rfl,rfl,χ,t2,t1,χ,χ,t3⟩
   case rest =>
   obtain⟨p,q,rfl,rfl,hpq,hpx,hqy,hp1,hq1,hkc⟩:=hcut;have hx4:=(hkc.block z l1 (fun h=>h)).trans HX3.out;have hy4:=(hkc.block z2 l2 (fun h=>h)).trans HY3.out;have xa:wc.cell? ⟨z,0,none⟩=some (.int .u64 x.Q7):=by rw[cell_of_row _ _ _ _ _ _ hx4];rfl
   have xb:wc.cell? ⟨z,1,none⟩=some (.int .u64 x.size):=by rw[cell_of_row _ _ _ _ _ _ hx4];rfl
   have xc:wc.cell? ⟨z,2,none⟩=some (.int .i64 x.pos):=by rw[cell_of_row _ _ _ _ _ _ hx4];rfl
   have ya:wc.cell? ⟨z2,0,none⟩=some (.int .u64 y.Q7):=by rw[cell_of_row _ _ _ _ _ _ hy4];rfl
   have yb:wc.cell? ⟨z2,1,none⟩=some (.int .u64 y.size):=by rw[cell_of_row _ _ _ _ _ _ hy4];rfl
   have yc:wc.cell? ⟨z2,2,none⟩=some (.int .i64 y.pos):=by rw[cell_of_row _ _ _ _ _ _ hy4];rfl
   have l5:p<wc.heap.size:=aH hpx;have l6:q<wc.heap.size:=aH hqy;have HKC:=ν hkc;have HPX:=ν hpx;have HQY:=ν hqy;have HX4:=ν hx4;have HY4:=ν hy4;clear hkc hpx hqy hx4 hy4
   go_upto_if 33 with fail
   go_cut [34] (fun u wx=>∃a b:db,(if y.Q7<x.Q7 then a=y∧b=x else a=x∧b=y)∧wx.heap[p]?=some (.cells #[.int .u64 a.Q7,.int .u64 a.size,.int .i64 a.pos] 172 (0,0))∧wx.heap[q]?=some (.cells #[.int .u64 b.Q7,.int .u64 b.size,.int .i64 b.pos] 172 (0,0))∧aD (fun i=>i=p∨i=q) wc wx)
   case first =>
    by_cases hlt4:y.Q7<x.Q7
    ·have hd:decide ((y.Q7:Int)<(x.Q7:Int))=true:=by simp[hlt4]
     have e0:wc.cell? ⟨p,0,none⟩=some (.int .u64 x.Q7):=by rw[cell_of_row _ _ _ _ _ _ HPX.out];rfl
     have ef0:wc.frozen? ⟨p,0,none⟩=false:=by simp[World.frozen?,HPX.out]
     have e1:wc.cell? ⟨p,1,none⟩=some (.int .u64 x.size):=by rw[cell_of_row _ _ _ _ _ _ HPX.out];rfl
     have ef1:wc.frozen? ⟨p,1,none⟩=false:=by simp[World.frozen?,HPX.out]
     have e2:wc.cell? ⟨p,2,none⟩=some (.int .i64 x.pos):=by rw[cell_of_row _ _ _ _ _ _ HPX.out];rfl
     have ef2:wc.frozen? ⟨p,2,none⟩=false:=by simp[World.frozen?,HPX.out]
     have d0:wc.cell? ⟨q,0,none⟩=some (.int .u64 y.Q7):=by rw[cell_of_row _ _ _ _ _ _ HQY.out];rfl
     have df0:wc.frozen? ⟨q,0,none⟩=false:=by simp[World.frozen?,HQY.out]
     have d1:wc.cell? ⟨q,1,none⟩=some (.int .u64 y.size):=by rw[cell_of_row _ _ _ _ _ _ HQY.out];rfl
     have df1:wc.frozen? ⟨q,1,none⟩=false:=by simp[World.frozen?,HQY.out]
     have d2:wc.cell? ⟨q,2,none⟩=some (.int .i64 y.pos):=by rw[cell_of_row _ _ _ _ _ _ HQY.out];rfl
     have df2:wc.frozen? ⟨q,2,none⟩=false:=by simp[World.frozen?,HQY.out]
     go_upto_region 8 with fail
     go_region
     all_goals(try go_wp2_with fail)
     all_goals go_meet
     ·obtain⟨t1,t2,t3⟩:=xO (.int .u64 y.Q7) (.int .u64 y.size) (.int .i64 y.pos) (.int .u64 x.Q7) (.int .u64 x.size) (.int .i64 x.pos) _ _ _ _ _ _ hpq HPX.out HQY.out
      exact⟨y,x,by rw[if_pos hlt4];exact⟨rfl,rfl⟩,t1,t2,t3⟩
    ·have hd:decide ((y.Q7:Int)<(x.Q7:Int))=false:=η
     go_wp2_with fail
     go_meet
     exact⟨x,y,by rw[if_neg hlt4];exact⟨rfl,rfl⟩,HPX.out,HQY.out,(aD.refl _ _)⟩
   case rest =>
   obtain⟨a,b,hab,hpa,hqb,hkd⟩:=hcut;have hcl:clear x y=(decide (b.size=0)||decide (a.size≤b.Q7-a.Q7)):=by
    unfold clear
    by_cases hlt4:y.Q7<x.Q7
    ·rw[if_pos hlt4]at hab⊢
     obtain⟨rfl,rfl⟩:=hab;rfl
    ·rw[if_neg hlt4]at hab⊢
     obtain⟨rfl,rfl⟩:=hab;rfl
   have hle:a.Q7≤b.Q7∧b.Q7<18446744073709551616∧a.size<18446744073709551616∧b.size<18446744073709551616:=by
    split at hab<;>obtain⟨rfl,rfl⟩:=hab<;>omega
   obtain⟨hle1,hle2,hle3,hle4⟩:=hle;have hw3:=HKC.out.size;have hzq:z≠p∧z≠q∧z2≠p∧z2≠q:=χ
   obtain⟨n1,n2,n3,n4⟩:=hzq;have hx5:=(hkd.block z χ (by rintro(h|h)<;>omega)).trans HX4.out;have hy5:=(hkd.block z2 χ (by rintro(h|h)<;>omega)).trans HY4.out;have r0:wc.cell? ⟨z,2,none⟩=some (.int .i64 x.pos):=by rw[cell_of_row _ _ _ _ _ _ hx5];rfl
   have r1:wc.cell? ⟨z2,2,none⟩=some (.int .i64 y.pos):=by rw[cell_of_row _ _ _ _ _ _ hy5];rfl
   have p0:wc.cell? ⟨p,0,none⟩=some (.int .u64 a.Q7):=by rw[cell_of_row _ _ _ _ _ _ hpa];rfl
   have p1:wc.cell? ⟨p,1,none⟩=some (.int .u64 a.size):=by rw[cell_of_row _ _ _ _ _ _ hpa];rfl
   have q0:wc.cell? ⟨q,0,none⟩=some (.int .u64 b.Q7):=by rw[cell_of_row _ _ _ _ _ _ hqb];rfl
   have q1:wc.cell? ⟨q,1,none⟩=some (.int .u64 b.size):=by rw[cell_of_row _ _ _ _ _ _ hqb];rfl
   have hkall:aD (fun i=>i=pb) wo wc:=HK2.out.trans ((HKQ.out.trans HKC.out (fun _ _ h=>h)).trans hkd (fun i hi h=>by have:=HKQ.out.size;omega)) (fun _ _ h=>h.elim);have HKA:=ν hkall;have HCL:=ν hcl;have HLw:=ν (HL2.out.new ((HKQ.out.trans HKC.out (fun _ _ h=>h)).trans hkd (fun i hi h=>by have:=HKQ.out.size;omega)));clear hkall hcl hab hkd hx5 hy5 hpa hqb xa xb xc ya yb yc
   by_cases hb0:b.size=0
   ·have hd0:decide ((b.size:Int)=0)=true:=by simp[hb0]
    have hd1:((b.size:Int)==0)=true:=by simp[hb0]
    have HV:=ν (show clear x y=true by rw[HCL.out];simp[hb0])
    go_wp2_with fail
    all_goals
     refine(aR _ _ rank 35 HLw.out HW.out).mono ?_;rintro e w2 ⟨rfl,hL3,hk3⟩;have HL3:=ν hL3;have HK3:=ν hk3;clear hL3 hk3
     go_wp2
     go_roundw
     case rel =>
      refine⟨k+1,χ,by go_num,HL3.out.congr fun p=>?_,HKA.out.trans HK3.out (fun _ _ e=>e)⟩;rw[aO HY.out]
      first
       | (simp[HV.out,or_assoc,or_comm,or_left_comm];done)
       | (have hm:max x.pos y.pos=y.pos:=χ;simp[hm,HV.out,or_assoc,or_comm,or_left_comm])
       | (have hm:max x.pos y.pos=x.pos:=χ;simp[hm,HV.out,or_assoc,or_comm,or_left_comm])
     case measure=>simp[intOf];omega
   ·have hd0:decide ((b.size:Int)=0)=false:=by simp[hb0]
    have hd1:((b.size:Int)==0)=false:=by simp[hb0]
    have HV:=ν (show clear x y=decide ((a.size:Int)≤(b.Q7:Int)-(a.Q7:Int)) by
     rw[HCL.out];simp only[hb0,decide_false,Bool.false_or];exact decide_eq_decide.2 χ)
    go_wp2_with fail
    all_goals
     refine(aR _ _ rank 35 HLw.out HW.out).mono ?_;rintro e w2 ⟨rfl,hL3,hk3⟩;have HL3:=ν hL3;have HK3:=ν hk3;clear hL3 hk3
     go_wp2
     go_roundw
     case rel =>
      refine⟨k+1,χ,by go_num,HL3.out.congr fun p=>?_,HKA.out.trans HK3.out (fun _ _ e=>e)⟩;rw[aO HY.out]
      first
       | (simp[HV.out,or_assoc,or_comm,or_left_comm];done)
       | (have hm:max x.pos y.pos=y.pos:=χ;simp[hm,HV.out,or_assoc,or_comm,or_left_comm])
       | (have hm:max x.pos y.pos=x.pos:=χ;simp[hm,HV.out,or_assoc,or_comm,or_left_comm])
     case measure=>simp[intOf];omega
  ·obtain rfl:k=n:=χ
   have HL2:=ν hL2;have HK2:=ν hk2;clear hL2 hk2 hx2 x0 x1 x2
   go_wp2
   go_roundw
   case rel =>
    refine⟨k+1,χ,by go_num,HL2.out.congr fun p=>?_,HKo.out.trans HK2.out (fun _ _ e=>e)⟩;rw[aO HX.out];simp only[dZ,List.mem_append,cg,List.mem_flatMap,or_assoc,or_comm,or_left_comm]
   case measure=>simp[intOf];omega
 ·obtain rfl:n=xs.length:=χ
  rw[List.take_length]at hL;have HL:=ν hL;have HK:=ν hk;clear hL hk
  go_wp2
  go_end0
  exact⟨rfl,HL.out,HK.out⟩
