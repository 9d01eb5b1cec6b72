import Derived.Test.YtpblcjipmoblnaaGreatDoorOfC
set_option maxRecDepth 100000
set_option maxHeartbeats 4000000
set_option linter.unusedVariables false
set_option linter.unusedSimpArgs false
set_option linter.unnecessarySimpa false
namespace Go.Proofs.YtpblcjipmoblnaaGreatDoor
open Go.RowKit Go.IntWalk Ck
theorem nO(a:List Sp)(x:Sp):(cY a x).length≤a.length+1:=by
 unfold cY;split
 ·simp
 ·rename_i y b
  have d:a≠[]:=by intro e;rw[e]at b;simp at b
  have:=List.length_pos_iff.2 d;split
  ·simp;try omega
  ·simp
theorem iE(l:List Sp):∀n:Nat,n≤l.length→(av (l.take n)).length≤n
 | 0,_=>by simp[av]
 | n+1,h=>by
  have a:=iE l n (by omega);rw[List.take_succ_eq_append_getElem (by omega),f9];have:=nO (av (l.take n)) l[n];omega
theorem nN{b:List Sp}{x:Sp}(h:∀s∈b,s.1<lim∧s.2<lim)(hx:x.1<lim∧x.2<lim):∀s∈cY b x,s.1<lim∧s.2<lim:=by
 unfold cY;split
 ·simpa using hx
 ·rename_i y e
  have d:=h y (List.mem_of_getLast? e);split
  ·intro s a
   rcases List.mem_append.1 a with a|a
   ·exact h s (List.dropLast_subset _ a)
   ·have:s=(y.1,max y.2 x.2):=by simpa using a
    subst this;exact⟨d.1,by show max y.2 x.2<lim;omega⟩
  ·intro s a
   rcases List.mem_append.1 a with a|a
   ·exact h s a
   ·have:s=x:=by simpa using a
    subst this;exact hx
theorem iD:∀(n:Nat) (l:List Sp),l.length=n→(∀s∈l,s.1<lim∧s.2<lim)→∀s∈av l,s.1<lim∧s.2<lim
 | 0,l,hl,_=>by
  have:l=[]:=List.length_eq_zero_iff.1 hl;subst this;simp[av]
 | n+1,l,hl,h=>by
  obtain⟨t,x,rfl⟩:∃t x,l=t++[x]:=by
   have a:l≠[]:=by intro e;rw[e]at hl;simp at hl
   exact⟨l.dropLast,l.getLast a,(List.dropLast_concat_getLast a).symm⟩
  rw[f9];exact nN (iD n t (by simpa using hl) fun s b=>h s (by simp[b])) (h x (by simp))
theorem yO(t:List Sp)(y:Sp)(v:Nat):(spC (t++[y])).set (t.length*2+1) (.int .u64 v)=spC (t++[(y.1,v)]):=by
 rw[lY,lY,←od,List.set_append_right _ _ (by omega)]
 congr 1
 rw[show(spC t).length+1-(spC t).length=1 by omega];rfl
theorem vY{w:World}{pb:Nat}{A:Option Addr}{c:Nat}{q:List Sp}(hu:bZ w pb (.slice A q.length c) q)(cw:pb<w.heap.size)(ah:∀s∈q,s.1<lim∧s.2<lim)(a:Act)(b2:a.tmps.size=80)(h3:At a 3 (.slice A q.length c))(h6:At a 6 (.slice none 0 0))(Q:Exit→Act→World→Prop)
 (hQ:∀a' w' u',aA (fun i=>i==6||i==8||i==9||(rg 26 77 i)) a a'→At a' 6 u'→w'.ownsRow w.heap.size 180 2 u' (av q).length (spC (av q))→Kz w w'→Q .normal a' w'):
 (al Tryz.f124 [1,1,1,1,1,0]).wp Tryz.prog Q a w:=by
 obtain⟨_,_,e,hc,cl,r⟩:=hu
 cases e
 conv=>arg 2;whnf
 refine so (fun K w1=>aA (fun i=>i==26||i==27||i==28) a K∧At K 26 (.slice A q.length c)∧At K 27 (.int .i64 q.length)∧At K 28 (.int .i64 0)∧w1=w) ?_ ?_
 ·clear r
  obtain⟨T,d⟩:=a;refine rl ?_
  iterate 3 with_reducible refine st ?_
  with_reducible refine ln ?_
  refine⟨rfl,ag,aq,aq,aq,rfl⟩
 rintro a0 w0 ⟨an,cd,cc,b5,rfl⟩;have bo:=an.size.trans b2;replace h6:=an.Q7 h6 rfl;obtain⟨Z,hZ⟩:∃z,z=w0.heap.size:=⟨_,rfl⟩;rw[←hZ]at hQ;have HZ:=hh hZ;have cx:pb<Z:=by omega
 have bb:=hh ah;clear hZ ah;refine ai q.length (fun i=>i==6||i==8||i==9||(rg 28 77 i)) (fun i=>i==6||i==8||i==9||(rg 30 76 i)) (fun k a' w'=>∃u,At a' 6 u∧w'.ownsRow Z 180 2 u (av (q.take k)).length (spC (av (q.take k)))∧Kz w0 w') (by omega) b5 cc (by decide) rfl
  (by intro j;simp;omega) (by omega) (by decide) (fun k K a2 w hA ⟨u,h1,h2⟩=>⟨u,hA.Q7 h1 rfl,h2⟩) ⟨_,h6,by simpa[av,spC]using World.ownsRow_nil _ _ _ _,aB.refl _ _⟩ ?_ ?_
 ·rintro k K wr b1 hA cb ⟨u,W,n,hk⟩
  obtain⟨g,rfl,hg,ct,be⟩:=r (by omega);obtain⟨x,hx⟩:=ge b1;obtain⟨c1,c2,c3,c4⟩:=be k x hx;have q0:wr.cell? ⟨g,k*2,none⟩=some (.int .u64 x.1):=(hk.cell (p:=⟨g,k*2,none⟩) hg (fun h=>h)).trans c1;have q1:wr.cell? ⟨g,k*2+1,none⟩=some (.int .u64 x.2):=(hk.cell (p:=⟨g,k*2+1,none⟩) hg (fun h=>h)).trans c2;have bx:=hA.Q7 cd rfl;have bp:=hA.size.trans bo;have cp:=hk.size;have cu:g<wr.heap.size:=by omega
  have cv:k≤c:=by omega
  have M:Hid (av (q.take (k+1))=cY (av (q.take k)) x):=by
   refine hh ?_;rw[aP hx,f9]
  have bl:=iE q k (by omega);have bc:Hid (∀s∈av (q.take k),s.1<lim∧s.2<lim):=iD _ _ rfl fun s hs=>bb.out s (List.mem_of_mem_take hs)
  obtain⟨ad,H⟩:∃l,l=av (q.take k):=⟨_,rfl⟩;rw[←H]at n M bl bc;have cs:=hh H;clear H;obtain⟨p,cap,rfl⟩:∃p cap,u=.slice p ad.length cap:=by
   rcases n.2 with⟨e1,e2⟩|⟨g,cap,b0,e1,_⟩
   ·exact⟨_,_,by rw[e1,e2]⟩
   ·exact⟨_,_,e1⟩
  have HX:=hh hx;have HO:=hh n;have HK:=hh hk;have HA:=hh hA;have bz:=hh c3;clear hx n hk hA be c1 c2 r c3 c4;refine so (fun a2 w2=>aA (fun i=>i==30||i==31||i==8) K a2∧At a2 8 (.pointer (some ⟨wr.heap.size,0,none⟩))∧w2=wr.alloc (.cells #[.int .u64 x.1,.int .u64 x.2] 180)) ?_ ?_
  ·obtain⟨T,d⟩:=K
   refine rl ?_
   iterate 4 with_reducible refine st ?_
   with_reducible refine ln ?_
   refine⟨rfl,ag,aq,rfl⟩
  rintro a2 wo ⟨S,bw,V⟩;obtain⟨z,hz⟩:∃z,z=wr.heap.size:=⟨_,rfl⟩;rw[←hz]at bw;have a7:aN wo z 0 [.int .u64 x.1,.int .u64 x.2]:=by rw[V,hz];exact aX _ _ _
  have b3:z<wo.heap.size:=by rw[V,hz];simp
  have U:Kz wr wo:=by rw[V];exact(aB.refl _ _).alloc _
  have bt:=S.size.trans bp;have b4:=S.Q7 W rfl;have N:=hh (am HO.out U (fun _ _ h=>h));have L:=hh (HK.out.trans U (fun _ _ h=>h));have cm:=U.size;have a9:Hid (aA (fun i=>i==6||i==8||i==9||(rg 30 76 i)) K a2):=S.m;clear V hz U HO HK S q0 q1 bx W cb;refine so (fun a3 w3=>aA (fun i=>i==32||i==33||i==9) a2 a3∧At a3 9 (.int .i64 (ad.length:Nat))∧w3=wo) ?_ ?_
  ·clear a7
   obtain⟨T,d⟩:=a2;refine rl ?_
   iterate 3 with_reducible refine st ?_
   with_reducible refine ln ?_
   refine⟨rfl,ag,aq,rfl⟩
  rintro a3 w3 ⟨G,X,rfl⟩;have B:=G.size.trans bt;have Y:=G.Q7 b4 rfl;have ac:=G.Q7 bw rfl;have E:Hid (aA (fun i=>i==6||i==8||i==9||(rg 30 76 i)) K a3):=a9.out.t G;have I:=a7.keep (aB.drew (aB.refl (fun _=>False) w3)) b3 (fun h=>h);have O:=hh (am N.out (aB.drew (aB.refl (fun _=>False) w3)) (fun _ _ h=>h));have bu:Z≤w3.drew.heap.size:=by have:=HZ.out;have:=L.out.size;show Z≤w3.heap.size;omega
  clear G a9;refine wp_seq (wp_seq ?_)
  cases hgl:ad.getLast? with
  | none =>
   have bj:ad=[]:=List.getLast?_eq_none_iff.1 hgl;subst bj;refine vc a3 B X _ (fun a4 b a8=>?_);have C:=b.size.trans B;refine wp_cond_false (a8.eval (by omega)) (wp_skip ?_)
   repeat with_reducible apply aY
   refine vX a4 C (b.Q7 Y rfl) (b.Q7 ac rfl) O (by simp) bu I.c0 (I 1 _ rfl) _ (fun a5 w5 u5 D k6 v a6=>?_);refine⟨(E.out.t b).t D,u5,k6,?_,(L.out.drew).trans a6 (fun i h1 h2=>by have:=HZ.out;omega)⟩;rw[show av (q.take (k+1))=[x] from M.out];exact v
  | some y =>
   obtain⟨t,ht,hd⟩:=mL hgl;subst ht;have hY:=bc.out y (by simp);have el:(t++[y]).length=t.length+1:=by simp
   rw[el]at X bl;obtain⟨g2,ci,hv,hB,bf⟩:=N.out.form (by simp)
   cases hv
   have af:t.length+1≤cap:=by
    rcases N.out.2 with⟨e1,_⟩|⟨g1,cf,b0,e1,_,_,bd,_⟩
    ·cases e1
    ·cases e1;rw[el]at bd;exact bd
   have J:=Y;rw[el]at J;obtain⟨_,s2⟩:=oe (t++[y]) t.length y (by simp);have q3:w3.cell? ⟨g2,t.length*2+1,none⟩=some (.int .u64 y.2):=(N.out.cellAt _ (by rw[el];omega)).trans s2;refine vb a3 B af (by omega) bz.out hY.2 J ac X a7.c0 q3 _ (fun a4 b a8=>?_);have C:=b.size.trans B;have R:=a8.eval (by omega)
   by_cases hxy:x.1≤y.2+1
   ·rw[decide_eq_true hxy]at R
    refine wp_cond_true R (wp_seq ?_);refine yX (w:=w3.drew) (x:=x) a4 C af (by omega) (b.Q7 J rfl) (b.Q7 ac rfl) (b.Q7 X rfl) (I 1 _ rfl) ((aB.cell (aB.drew (aB.refl (fun _=>False) w3)) bf (fun h=>h)).trans q3) (O.out.frozenAt _) _ (fun a5 D=>?_);refine wp_exit ?_
    repeat with_reducible apply eh
    simp only[dg,if_true];obtain⟨bm,cy⟩:=O.out.stored (t.length*2+1) (.int .u64 (max y.2 x.2:Nat));refine⟨(E.out.t b).t D,_,D.Q7 (b.Q7 Y rfl) rfl,?_,?_⟩
    ·have e:av (q.take (k+1))=t++[(y.1,max y.2 x.2)]:=by
      rw[M.out];unfold cY;rw[hgl];simp only[if_pos hxy,hd]
     rw[yO]at bm;rw[e,show(t++[(y.1,max y.2 x.2)]).length=(t++[y]).length by simp];exact am bm (aB.drew (aB.refl (fun _=>False) _)) (fun _ _ h=>h)
    ·refine aB.drew ((L.out.drew).setCell (fun h=>?_) _)
     have h:g2<w0.heap.size:=h;have:=HZ.out;omega
   ·rw[decide_eq_false hxy]at R
    refine wp_cond_false R (wp_skip ?_)
    repeat with_reducible apply aY
    refine vX a4 C (b.Q7 Y rfl) (b.Q7 ac rfl) O (by rw[el];omega) bu I.c0 (I 1 _ rfl) _ (fun a5 w5 u5 D k6 v a6=>?_);refine⟨(E.out.t b).t D,u5,k6,?_,(L.out.drew).trans a6 (fun i h1 h2=>by have:=HZ.out;omega)⟩;have e:av (q.take (k+1))=t++[y]++[x]:=by
     rw[M.out];unfold cY;rw[hgl];simp only[if_neg hxy]
    rw[e,show(t++[y]++[x]).length=(t++[y]).length+1 by simp];exact v
 ·rintro a' w' hA ⟨u,W,n,hk⟩
  rw[List.take_length]at n;exact hQ _ _ _ ((an.m).t hA) W n hk
end Go.Proofs.YtpblcjipmoblnaaGreatDoor
