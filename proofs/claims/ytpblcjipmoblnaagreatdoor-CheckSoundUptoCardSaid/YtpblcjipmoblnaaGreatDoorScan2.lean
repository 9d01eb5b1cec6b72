import Derived.Test.YtpblcjipmoblnaaGreatDoorTheirs3
set_option maxRecDepth 100000
set_option linter.all false
set_option maxHeartbeats 4000000
namespace Go.Proofs.YtpblcjipmoblnaaGreatDoor
open Go.RowKit Go.IntWalk Ck
variable {w w0:World} {T:TypeId} {k n0 B zq:Nat}
def cV{α:Type}(n0:Nat)(T:TypeId)(k:Nat)(RF:cH→World→Nat→Nat→α→Prop)(w:World)(v:Value)(xs:List α):Prop:=
 aN (fun b=>n0≤b∧cD w b=some T) k (RF (fun _ b=>b<n0)) w v xs∧∃cs,w.ownsRow n0 T k v xs.length cs
theorem xd{b:Nat}(h:cD w b=some T):b<w.heap.size:=by
 unfold cD at h;split at h
 ·rename_i c t f e;exact aG e
 ·cases h
theorem cV.keep{α:Type}{N:TypeId→Prop}{RF:cH→World→Nat→Nat→α→Prop}(K:fw T k N RF){n0:Nat}{w w':World}{v:Value}{xs:List α}(h:cV n0 T k RF w v xs)(hk:Kz w w')(g:n0≤w.heap.size):cV n0 T k RF w' v xs:=
 ⟨K.same h.1 (fun b d=>⟨d.1,(lP hk (xd d.2) (fun x=>x)).trans d.2⟩) (ah.of_keep hk fun b d=>⟨xd d.2,fun x=>x⟩) (fun _ _ b d=>d) (fun _ _=>ah.of_keep hk fun b d=>⟨Nat.lt_of_lt_of_le d g,fun x=>x⟩),
  let⟨cs,ho⟩:=h.2;⟨cs,aV ho hk (fun _ _ x=>x)⟩⟩
theorem dx{α:Type}{N:TypeId→Prop}{RF:cH→World→Nat→Nat→α→Prop}(K:fw T k N RF){D0:Nat→Prop}{n0:Nat}{w w':World}{v:Value}{xs:List α}{cs:List Value}(p:gX D0 k (RF (fun _ b=>b<n0)) w xs cs)(h:w'.ownsRow w.heap.size T k v xs.length cs)
 (hk:Kz w w')(j:n0≤w.heap.size)(r:xs.length≤top):cV n0 T k RF w' v xs:=
 ⟨dR K p h r (fun g q=>by obtain⟨u,y,l⟩:=aO h q;exact⟨χ,l⟩) (fun _ _ b d=>d) (fun _ _=>ah.of_keep hk fun b d=>⟨Nat.lt_of_lt_of_le d j,fun x=>x⟩),cs,rm h j⟩
structure lO (n0:Nat) (w:World) (v:aR) (P:aC):Prop where
 QG:cV n0 41 3 (fun _=>iO) w v.QG P.QG
 Q4:cV n0 45 5 dw w v.Q4 P.Q4
 Q5:cV n0 48 10 (fun _=>dH) w v.Q5 P.Q5
 Q3:cV n0 52 6 dG w v.Q3 P.Q3
 Q8:cV n0 55 8 (fun _=>cj) w v.Q8 P.Q8
 QJ:cV n0 58 6 (fun _=>iR) w v.QJ P.QJ
 QC:cV n0 65 6 (fun _=>dj) w v.QC P.QC
 Q9:cV n0 62 4 i4 w v.Q9 P.Q9
 QB:cV n0 78 2 (fun _=>cN) w v.QB P.QB
 QE:cV n0 78 2 (fun _=>cN) w v.QE P.QE
 QA:cV n0 78 2 (fun _=>cN) w v.QA P.QA
 QD:cV n0 68 3 (fun _=>iT) w v.QD P.QD
theorem lO.keep{w':World}{v:aR}{P:aC}(h:lO n0 w v P)(hk:Kz w w')(d:n0≤w.heap.size):lO n0 w' v P:=
 ⟨h.QG.keep iC hk d,h.Q4.keep bv hk d,h.Q5.keep eE hk d,h.Q3.keep bI hk d,h.Q8.keep dh hk d,h.QJ.keep iH hk d,h.QC.keep ej hk d,h.Q9.keep cE hk d,h.QB.keep cM hk d,h.QE.keep cM hk d,h.QA.keep cM hk d,h.QD.keep iK hk d⟩
theorem dy{α:Type}{N:TypeId→Prop}{RF:cH→World→Nat→Nat→α→Prop}(K:fw T k N RF){n0:Nat}{w:World}{v:Value}{xs:List α}(h:cV n0 T k RF w v xs)(g:n0≤w.heap.size):aN (Dm n0 w T) k (RF (Dm n0 w)) w v xs:=
 K.same h.1 (fun b d=>⟨xd d.2,.inr d.2⟩) ah.refl (fun _ _ b d=>⟨Nat.lt_of_lt_of_le d g,.inl d⟩) (fun _ _=>ah.refl)
theorem lO.QP{v:aR}{P:aC}(h:lO n0 w v P)(d:n0≤w.heap.size)(j:dU P.pos)(g:aX P.name):fb (Dm n0 w) w v P∧uU n0 w v P:=
 ⟨⟨dy iC h.QG d,dy bv h.Q4 d,dy eE h.Q5 d,dy bI h.Q3 d,dy dh h.Q8 d,dy iH h.QJ d,dy ej h.QC d,dy cE h.Q9 d,dy cM h.QB d,dy cM h.QE d,dy cM h.QA d,dy iK h.QD d,j,g⟩,⟨h.QG.2,h.Q4.2,h.Q5.2,h.Q3.2,h.Q8.2,h.QJ.2,h.QC.2,h.Q9.2,h.QB.2,h.QE.2,h.QA.2,h.QD.2⟩⟩
theorem Cy{v:aR}{P:aC}(h:ao B w v P):P.QG.length≤top∧P.Q4.length≤top∧P.Q5.length≤top∧P.Q3.length≤top∧P.Q8.length≤top∧P.QJ.length≤top∧P.QC.length≤top∧P.Q9.length≤top∧P.QB.length≤top∧P.QE.length≤top∧P.QA.length≤top∧P.QD.length≤top:=
 ⟨by obtain⟨_,_,_,_,h,_⟩:=h.QG;exact h,by obtain⟨_,_,_,_,h,_⟩:=h.Q4;exact h,by obtain⟨_,_,_,_,h,_⟩:=h.Q5;exact h,by obtain⟨_,_,_,_,h,_⟩:=h.Q3;exact h,by obtain⟨_,_,_,_,h,_⟩:=h.Q8;exact h,by obtain⟨_,_,_,_,h,_⟩:=h.QJ;exact h,by obtain⟨_,_,_,_,h,_⟩:=h.QC;exact h,by obtain⟨_,_,_,_,h,_⟩:=h.Q9;exact h,by obtain⟨_,_,_,_,h,_⟩:=h.QB;exact h,by obtain⟨_,_,_,_,h,_⟩:=h.QE;exact h,by obtain⟨_,_,_,_,h,_⟩:=h.QA;exact h,by obtain⟨_,_,_,_,h,_⟩:=h.QD;exact h⟩
theorem Tryz.info34C:(Tryz.prog.info? 34).map (·.size)=some 14:=δ
theorem l8{z:Nat}{t:TypeId}{old cs:Array Value}(h:w.heap[z]?=some (.cells old t (0,0))):aD (fun k=>k=z) w (w.setRow z cs):=⟨rfl,rfl,rfl,ξ,fun k _ hk=>setRow_other w z k cs hk⟩
theorem oa(v:aR)(P:aC)(h:∀u∈[v.QG,v.Q4,v.Q5,v.Q3,v.Q8,v.QJ,v.QC,v.Q9,v.QB,v.QE,v.QA,v.QD],u.oneCell'=true):(v.cells P).toArray.all (·.oneCell')=true:=by
 refine all_oneCell_toArray fun u d=>?_
 simp only[aR.cells,List.mem_cons,List.mem_nil_iff,or_false]at d
 rcases d with rfl|rfl|d
 ·rfl
 ·rfl
 ·exact h u (by simpa using d)
theorem lO.ones{v:aR}{P:aC}(h:lO n0 w v P):(v.cells P).toArray.all (·.oneCell')=true:=
 oa v P fun u d=>by
  simp only[List.mem_cons,List.mem_nil_iff,or_false]at d
  rcases d with rfl|rfl|rfl|rfl|rfl|rfl|rfl|rfl|rfl|rfl|rfl|rfl
  ·exact aY h.QG.1
  ·exact aY h.Q4.1
  ·exact aY h.Q5.1
  ·exact aY h.Q3.1
  ·exact aY h.Q8.1
  ·exact aY h.QJ.1
  ·exact aY h.QC.1
  ·exact aY h.Q9.1
  ·exact aY h.QB.1
  ·exact aY h.QE.1
  ·exact aY h.QA.1
  ·exact aY h.QD.1
def xH(n0 n1 zb:Nat)(v:aR)(P:aC)(j:Nat)(w:World)(u:Value):Prop:=match j with|6=>cV n0 41 3 (fun _=>iO) w u P.QG|9=>cV n0 45 5 dw w u P.Q4|12=>cV n0 48 10 (fun _=>dH) w u P.Q5|15=>cV n0 52 6 dG w u P.Q3|18=>cV n0 55 8 (fun _=>cj) w u P.Q8|21=>cV n0 58 6 (fun _=>iR) w u P.QJ|24=>cV n0 62 4 i4 w u P.Q9|27=>cV n0 78 2 (fun _=>cN) w u P.QB|30=>cV n0 78 2 (fun _=>cN) w u P.QE|33=>cV n0 65 6 (fun _=>dj) w u P.QC|36=>cV n0 78 2 (fun _=>cN) w u P.QA|39=>cV n0 68 3 (fun _=>iT) w u P.QD|40=>∃v',u=.agg (v'.cells P).toArray∧lO n0 w v' P|41=>∃z,u=.pointer (some ⟨z,0,none⟩)∧n1≤z∧w.heap[z]?=some (.cells #[.int .i64 0,.string { data := #[] },.slice none 0 0,.slice none 0 0,.slice none 0 0,.slice none 0 0,.slice none 0 0,.slice none 0 0,.slice none 0 0,.slice none 0 0,.slice none 0 0,.slice none 0 0,.slice none 0 0,.slice none 0 0] 34 (0,0))|_=>u=([.pointer (some ⟨zb,0,none⟩),.int .i64 P.pos,.pointer (some ⟨zb,1,none⟩),.string P.name,.pointer (some ⟨zb,2,none⟩),v.QG,undef,.pointer (some ⟨zb,3,none⟩),v.Q4,undef,.pointer (some ⟨zb,4,none⟩),v.Q5,undef,.pointer (some ⟨zb,5,none⟩),v.Q3,undef,.pointer (some ⟨zb,6,none⟩),v.Q8,undef,.pointer (some ⟨zb,7,none⟩),v.QJ,undef,.pointer (some ⟨zb,9,none⟩),v.Q9,undef,.pointer (some ⟨zb,10,none⟩),v.QB,undef,.pointer (some ⟨zb,11,none⟩),v.QE,undef,.pointer (some ⟨zb,8,none⟩),v.QC,undef,.pointer (some ⟨zb,12,none⟩),v.QA,undef,.pointer (some ⟨zb,13,none⟩),v.QD,undef,undef,undef]:List Value).getD j undef
theorem xG{q w:Nat}{v:aR}{P:aC}{l r:World}(d:n0≤l.heap.size)(g:Kz l r)(j:Nat)(u:Value)(h:xH n0 q w v P j l u):xH n0 q w v P j r u:=by
 unfold xH at h⊢;split at h
 ·exact cV.keep iC h g d
 ·exact cV.keep bv h g d
 ·exact cV.keep eE h g d
 ·exact cV.keep bI h g d
 ·exact cV.keep dh h g d
 ·exact cV.keep iH h g d
 ·exact cV.keep cE h g d
 ·exact cV.keep cM h g d
 ·exact cV.keep cM h g d
 ·exact cV.keep ej h g d
 ·exact cV.keep cM h g d
 ·exact cV.keep iK h g d
 ·obtain⟨B,e,y⟩:=h
  exact⟨B,e,y.keep g d⟩
 ·obtain⟨z,e,A,p⟩:=h
  exact⟨z,e,A,(g.block z (aG p) (fun x=>x)).trans p⟩
 ·exact h
theorem qv{R:Nat→Array Value→Prop}{v:aR}{P:aC}(hp:ao B w0 v P)(hB:B≤w0.heap.size)(hk:Kz w0 w)(b3:∀z c,R z c→w.heap[z]?=some (.cells c 34 (0,0))){W:Nat}(hz:w.heap[W]?=some (.cells (v.cells P).toArray 34 (0,0)))(a:Act)(i1:a.tmps.size=150)(h1:At a 1 (.pointer (some ⟨W,0,none⟩)))(Q:Exit→Act→World→Prop)
 (hQ:∀O w' zq v',aA (fun i=>i==3||(rg 8 48 i)) a O→At O 3 (.pointer (some ⟨zq,0,none⟩))→Cop R w0.heap.size w0 zq v' P w'→Kz w w'→Q .normal O w'):
 (bE Tryz.f10 [1,0]).wp Tryz.prog Q a w:=by
 have fk:w0.heap.size≤w.heap.size:=hk.size;have HQ:=hh hQ;have HP:=hh (hp.in_.same (D':=fun _ b=>b<w0.heap.size) (fun _ b l=>Nat.lt_of_lt_of_le l hB) (fun _=>ah.of_keep hk fun b l=>⟨χ,fun x=>x⟩));have h5:=hh hp;have HL:=hh (Cy hp);have e1:=hh hk;have HZ:=hh hz;have a6:=hh b3;clear b3;have fr:=aG hz;have HC:Hid (∀w',Kz w.drew w'→∀j u,(v.cells P)[j]?=some u→w'.cell? ⟨W,j,none⟩=some u):=hh fun w' hw j u hj=>(hw.cell (p:=⟨W,j,none⟩) fr (fun x=>x)).trans ((cell_of_row _ _ _ _ _ _ hz).trans (by simpa using hj))
 have I:=hh fk;clear hQ hp hk hz
 conv=>arg 2;whnf
 have STAB:Hid (∀w1 U,Kz w.drew w1→Kz w1 U→∀(j:Nat) (u:Value),xH w0.heap.size w.heap.size W v P j w1 u→xH w0.heap.size w.heap.size W v P j U u):=hh fun w1 U h1 h2 j u h=>xG (Nat.le_trans I.out h1.size) h2 j u h
 refine cZ 42 (xH w0.heap.size w.heap.size W v P) (fun w'=>Kz w.drew w') δ δ (aD.refl _ _) ?_ ?_
 ·intro i o hi E O w' K r l H y
  have d3:O.tmps.size=150:=l.size.trans (by first|assumption|(simp only[Array.size_setIfInBounds];assumption));have e0:=l.Q7 h1 rfl
  match i,hi,E,H,y with
  | 0,_,E,H,y =>
   obtain rfl:=oi E;obtain⟨T,d⟩:=O;go_simp;exact y (.pointer (some ⟨W,0,none⟩)) _ r (fun _ _ h=>h) rfl
  | 1,_,E,H,y =>
   obtain rfl:=oi E;obtain⟨fs,h6,e2⟩:=H 0 δ ψ 8 rfl;obtain rfl:fs=.pointer (some ⟨W,0,none⟩):=e2;have q:=HC.out w' r 0 _ rfl;obtain⟨T,d⟩:=O;go_simp;exact y (.int .i64 P.pos) _ r (fun _ _ h=>h) rfl
  | 2,_,E,H,y =>
   obtain rfl:=oi E;obtain⟨T,d⟩:=O;go_simp;exact y (.pointer (some ⟨W,1,none⟩)) _ r (fun _ _ h=>h) rfl
  | 3,_,E,H,y =>
   obtain rfl:=oi E;obtain⟨fy,h8,e6⟩:=H 2 δ ψ 10 rfl;obtain rfl:fy=.pointer (some ⟨W,1,none⟩):=e6;have q:=HC.out w' r 1 _ rfl;obtain⟨T,d⟩:=O;go_simp;exact y (.string P.name) _ r (fun _ _ h=>h) rfl
  | 4,_,E,H,y =>
   obtain rfl:=oi E;obtain⟨T,d⟩:=O;go_simp;exact y (.pointer (some ⟨W,2,none⟩)) _ r (fun _ _ h=>h) rfl
  | 5,_,E,H,y =>
   obtain rfl:=oi E;obtain⟨f0,ie,e8⟩:=H 4 δ ψ 12 rfl;obtain rfl:f0=.pointer (some ⟨W,2,none⟩):=e8;have q:=HC.out w' r 2 _ rfl;obtain⟨T,d⟩:=O;go_simp;exact y (v.QG) _ r (fun _ _ h=>h) rfl
  | 6,_,E,H,y =>
   obtain rfl:=oi E;obtain⟨f1,ih,e9⟩:=H 5 δ ψ 13 rfl;obtain rfl:f1=v.QG:=e9;have C:=((aD.refl (fun _=>False) w).drew).trans r (fun _ _ h=>h);have L:=iC.same (RF:=(fun _=>iO)) (D':=fun _ b=>b<w0.heap.size) HP.out.QG (fun b l=>l) (ah.of_keep C fun b l=>⟨Nat.lt_of_lt_of_le l I.out,fun x=>x⟩) (fun _ _ b l=>l) (fun _ _=>ah.of_keep C fun b l=>⟨Nat.lt_of_lt_of_le l I.out,fun x=>x⟩);have J:=BF (D:=fun _ b=>b<w0.heap.size) L;have S:=hh J;clear L J C;have N:=hh y;clear y;obtain⟨T,d⟩:=O;go_simp;refine S.out.mono ?_;rintro e U ⟨v2,cs,rfl,g1,g2,g3⟩;exact N.out v2 U (r.trans g3 (fun _ _ h=>h)) (fun j u h=>STAB.out w' U r g3 j u h) (dx iC g1 g2 g3 (Nat.le_trans I.out r.size) HL.out.1)
  | 7,_,E,H,y =>
   obtain rfl:=oi E;obtain⟨T,d⟩:=O;go_simp;exact y (.pointer (some ⟨W,3,none⟩)) _ r (fun _ _ h=>h) rfl
  | 8,_,E,H,y =>
   obtain rfl:=oi E;obtain⟨f2,it,fc⟩:=H 7 δ ψ 15 rfl;obtain rfl:f2=.pointer (some ⟨W,3,none⟩):=fc;have q:=HC.out w' r 3 _ rfl;obtain⟨T,d⟩:=O;go_simp;exact y (v.Q4) _ r (fun _ _ h=>h) rfl
  | 9,_,E,H,y =>
   obtain rfl:=oi E;obtain⟨f3,ix,fd⟩:=H 8 δ ψ 16 rfl;obtain rfl:f3=v.Q4:=fd;have C:=((aD.refl (fun _=>False) w).drew).trans r (fun _ _ h=>h);have L:=bv.same (RF:=dw) (D':=fun _ b=>b<w0.heap.size) HP.out.Q4 (fun b l=>l) (ah.of_keep C fun b l=>⟨Nat.lt_of_lt_of_le l I.out,fun x=>x⟩) (fun _ _ b l=>l) (fun _ _=>ah.of_keep C fun b l=>⟨Nat.lt_of_lt_of_le l I.out,fun x=>x⟩);have J:=BD (D:=fun _ b=>b<w0.heap.size) L;have S:=hh J;clear L J C;have N:=hh y;clear y;obtain⟨T,d⟩:=O;go_simp;refine S.out.mono ?_;rintro e U ⟨v2,cs,rfl,g1,g2,g3⟩;exact N.out v2 U (r.trans g3 (fun _ _ h=>h)) (fun j u h=>STAB.out w' U r g3 j u h) (dx bv g1 g2 g3 (Nat.le_trans I.out r.size) HL.out.2.1)
  | 10,_,E,H,y =>
   obtain rfl:=oi E;obtain⟨T,d⟩:=O;go_simp;exact y (.pointer (some ⟨W,4,none⟩)) _ r (fun _ _ h=>h) rfl
  | 11,_,E,H,y =>
   obtain rfl:=oi E;obtain⟨d4,f4,cv⟩:=H 10 δ ψ 18 rfl;obtain rfl:d4=.pointer (some ⟨W,4,none⟩):=cv;have q:=HC.out w' r 4 _ rfl;obtain⟨T,d⟩:=O;go_simp;exact y (v.Q5) _ r (fun _ _ h=>h) rfl
  | 12,_,E,H,y =>
   obtain rfl:=oi E;obtain⟨d5,f5,cw⟩:=H 11 δ ψ 19 rfl;obtain rfl:d5=v.Q5:=cw;have C:=((aD.refl (fun _=>False) w).drew).trans r (fun _ _ h=>h);have L:=eE.same (RF:=(fun _=>dH)) (D':=fun _ b=>b<w0.heap.size) HP.out.Q5 (fun b l=>l) (ah.of_keep C fun b l=>⟨Nat.lt_of_lt_of_le l I.out,fun x=>x⟩) (fun _ _ b l=>l) (fun _ _=>ah.of_keep C fun b l=>⟨Nat.lt_of_lt_of_le l I.out,fun x=>x⟩);have J:=BC (D:=fun _ b=>b<w0.heap.size) L;have S:=hh J;clear L J C;have N:=hh y;clear y;obtain⟨T,d⟩:=O;go_simp;refine S.out.mono ?_;rintro e U ⟨v2,cs,rfl,g1,g2,g3⟩;exact N.out v2 U (r.trans g3 (fun _ _ h=>h)) (fun j u h=>STAB.out w' U r g3 j u h) (dx eE g1 g2 g3 (Nat.le_trans I.out r.size) HL.out.2.2.1)
  | 13,_,E,H,y =>
   obtain rfl:=oi E;obtain⟨T,d⟩:=O;go_simp;exact y (.pointer (some ⟨W,5,none⟩)) _ r (fun _ _ h=>h) rfl
  | 14,_,E,H,y =>
   obtain rfl:=oi E;obtain⟨d6,f7,cx⟩:=H 13 δ ψ 21 rfl;obtain rfl:d6=.pointer (some ⟨W,5,none⟩):=cx;have q:=HC.out w' r 5 _ rfl;obtain⟨T,d⟩:=O;go_simp;exact y (v.Q3) _ r (fun _ _ h=>h) rfl
  | 15,_,E,H,y =>
   obtain rfl:=oi E;obtain⟨d7,f8,cy⟩:=H 14 δ ψ 22 rfl;obtain rfl:d7=v.Q3:=cy;have C:=((aD.refl (fun _=>False) w).drew).trans r (fun _ _ h=>h);have L:=bI.same (RF:=dG) (D':=fun _ b=>b<w0.heap.size) HP.out.Q3 (fun b l=>l) (ah.of_keep C fun b l=>⟨Nat.lt_of_lt_of_le l I.out,fun x=>x⟩) (fun _ _ b l=>l) (fun _ _=>ah.of_keep C fun b l=>⟨Nat.lt_of_lt_of_le l I.out,fun x=>x⟩);have J:=BB (D:=fun _ b=>b<w0.heap.size) L;have S:=hh J;clear L J C;have N:=hh y;clear y;obtain⟨T,d⟩:=O;go_simp;refine S.out.mono ?_;rintro e U ⟨v2,cs,rfl,g1,g2,g3⟩;exact N.out v2 U (r.trans g3 (fun _ _ h=>h)) (fun j u h=>STAB.out w' U r g3 j u h) (dx bI g1 g2 g3 (Nat.le_trans I.out r.size) HL.out.2.2.2.1)
  | 16,_,E,H,y =>
   obtain rfl:=oi E;obtain⟨T,d⟩:=O;go_simp;exact y (.pointer (some ⟨W,6,none⟩)) _ r (fun _ _ h=>h) rfl
  | 17,_,E,H,y =>
   obtain rfl:=oi E;obtain⟨d8,gf,c1⟩:=H 16 δ ψ 24 rfl;obtain rfl:d8=.pointer (some ⟨W,6,none⟩):=c1;have q:=HC.out w' r 6 _ rfl;obtain⟨T,d⟩:=O;go_simp;exact y (v.Q8) _ r (fun _ _ h=>h) rfl
  | 18,_,E,H,y =>
   obtain rfl:=oi E;obtain⟨d9,gg,c2⟩:=H 17 δ ψ 25 rfl;obtain rfl:d9=v.Q8:=c2;have C:=((aD.refl (fun _=>False) w).drew).trans r (fun _ _ h=>h);have L:=dh.same (RF:=(fun _=>cj)) (D':=fun _ b=>b<w0.heap.size) HP.out.Q8 (fun b l=>l) (ah.of_keep C fun b l=>⟨Nat.lt_of_lt_of_le l I.out,fun x=>x⟩) (fun _ _ b l=>l) (fun _ _=>ah.of_keep C fun b l=>⟨Nat.lt_of_lt_of_le l I.out,fun x=>x⟩);have J:=BA (D:=fun _ b=>b<w0.heap.size) L;have S:=hh J;clear L J C;have N:=hh y;clear y;obtain⟨T,d⟩:=O;go_simp;refine S.out.mono ?_;rintro e U ⟨v2,cs,rfl,g1,g2,g3⟩;exact N.out v2 U (r.trans g3 (fun _ _ h=>h)) (fun j u h=>STAB.out w' U r g3 j u h) (dx dh g1 g2 g3 (Nat.le_trans I.out r.size) HL.out.2.2.2.2.1)
  | 19,_,E,H,y =>
   obtain rfl:=oi E;obtain⟨T,d⟩:=O;go_simp;exact y (.pointer (some ⟨W,7,none⟩)) _ r (fun _ _ h=>h) rfl
  | 20,_,E,H,y =>
   obtain rfl:=oi E;obtain⟨ea,gn,c3⟩:=H 19 δ ψ 27 rfl;obtain rfl:ea=.pointer (some ⟨W,7,none⟩):=c3;have q:=HC.out w' r 7 _ rfl;obtain⟨T,d⟩:=O;go_simp;exact y (v.QJ) _ r (fun _ _ h=>h) rfl
  | 21,_,E,H,y =>
   obtain rfl:=oi E;obtain⟨eb,go,c4⟩:=H 20 δ ψ 28 rfl;obtain rfl:eb=v.QJ:=c4;have C:=((aD.refl (fun _=>False) w).drew).trans r (fun _ _ h=>h);have L:=iH.same (RF:=(fun _=>iR)) (D':=fun _ b=>b<w0.heap.size) HP.out.QJ (fun b l=>l) (ah.of_keep C fun b l=>⟨Nat.lt_of_lt_of_le l I.out,fun x=>x⟩) (fun _ _ b l=>l) (fun _ _=>ah.of_keep C fun b l=>⟨Nat.lt_of_lt_of_le l I.out,fun x=>x⟩);have J:=B9 (D:=fun _ b=>b<w0.heap.size) L;have S:=hh J;clear L J C;have N:=hh y;clear y;obtain⟨T,d⟩:=O;go_simp;refine S.out.mono ?_;rintro e U ⟨v2,cs,rfl,g1,g2,g3⟩;exact N.out v2 U (r.trans g3 (fun _ _ h=>h)) (fun j u h=>STAB.out w' U r g3 j u h) (dx iH g1 g2 g3 (Nat.le_trans I.out r.size) HL.out.2.2.2.2.2.1)
  | 22,_,E,H,y =>
   obtain rfl:=oi E;obtain⟨T,d⟩:=O;go_simp;exact y (.pointer (some ⟨W,9,none⟩)) _ r (fun _ _ h=>h) rfl
  | 23,_,E,H,y =>
   obtain rfl:=oi E;obtain⟨ed,gr,c5⟩:=H 22 δ ψ 30 rfl;obtain rfl:ed=.pointer (some ⟨W,9,none⟩):=c5;have q:=HC.out w' r 9 _ rfl;obtain⟨T,d⟩:=O;go_simp;exact y (v.Q9) _ r (fun _ _ h=>h) rfl
  | 24,_,E,H,y =>
   obtain rfl:=oi E;obtain⟨ee,gs,c6⟩:=H 23 δ ψ 31 rfl;obtain rfl:ee=v.Q9:=c6;have C:=((aD.refl (fun _=>False) w).drew).trans r (fun _ _ h=>h);have L:=cE.same (RF:=i4) (D':=fun _ b=>b<w0.heap.size) HP.out.Q9 (fun b l=>l) (ah.of_keep C fun b l=>⟨Nat.lt_of_lt_of_le l I.out,fun x=>x⟩) (fun _ _ b l=>l) (fun _ _=>ah.of_keep C fun b l=>⟨Nat.lt_of_lt_of_le l I.out,fun x=>x⟩);have J:=B8 (D:=fun _ b=>b<w0.heap.size) L;have S:=hh J;clear L J C;have N:=hh y;clear y;obtain⟨T,d⟩:=O;go_simp;refine S.out.mono ?_;rintro e U ⟨v2,cs,rfl,g1,g2,g3⟩;exact N.out v2 U (r.trans g3 (fun _ _ h=>h)) (fun j u h=>STAB.out w' U r g3 j u h) (dx cE g1 g2 g3 (Nat.le_trans I.out r.size) HL.out.2.2.2.2.2.2.2.1)
  | 25,_,E,H,y =>
   obtain rfl:=oi E;obtain⟨T,d⟩:=O;go_simp;exact y (.pointer (some ⟨W,10,none⟩)) _ r (fun _ _ h=>h) rfl
  | 26,_,E,H,y =>
   obtain rfl:=oi E;obtain⟨ef,gw,c7⟩:=H 25 δ ψ 33 rfl;obtain rfl:ef=.pointer (some ⟨W,10,none⟩):=c7;have q:=HC.out w' r 10 _ rfl;obtain⟨T,d⟩:=O;go_simp;exact y (v.QB) _ r (fun _ _ h=>h) rfl
  | 27,_,E,H,y =>
   obtain rfl:=oi E;obtain⟨eg,gx,c8⟩:=H 26 δ ψ 34 rfl;obtain rfl:eg=v.QB:=c8;have C:=((aD.refl (fun _=>False) w).drew).trans r (fun _ _ h=>h);have L:=cM.same (RF:=(fun _=>cN)) (D':=fun _ b=>b<w0.heap.size) HP.out.QB (fun b l=>l) (ah.of_keep C fun b l=>⟨Nat.lt_of_lt_of_le l I.out,fun x=>x⟩) (fun _ _ b l=>l) (fun _ _=>ah.of_keep C fun b l=>⟨Nat.lt_of_lt_of_le l I.out,fun x=>x⟩);have J:=qw (D:=fun _ b=>b<w0.heap.size) L;have S:=hh J;clear L J C;have N:=hh y;clear y;obtain⟨T,d⟩:=O;go_simp;refine S.out.mono ?_;rintro e U ⟨v2,cs,rfl,g1,g2,g3⟩;exact N.out v2 U (r.trans g3 (fun _ _ h=>h)) (fun j u h=>STAB.out w' U r g3 j u h) (dx cM g1 g2 g3 (Nat.le_trans I.out r.size) HL.out.2.2.2.2.2.2.2.2.1)
  | 28,_,E,H,y =>
   obtain rfl:=oi E;obtain⟨T,d⟩:=O;go_simp;exact y (.pointer (some ⟨W,11,none⟩)) _ r (fun _ _ h=>h) rfl
  | 29,_,E,H,y =>
   obtain rfl:=oi E;obtain⟨em,ha,c9⟩:=H 28 δ ψ 36 rfl;obtain rfl:em=.pointer (some ⟨W,11,none⟩):=c9;have q:=HC.out w' r 11 _ rfl;obtain⟨T,d⟩:=O;go_simp;exact y (v.QE) _ r (fun _ _ h=>h) rfl
  | 30,_,E,H,y =>
   obtain rfl:=oi E;obtain⟨en,he,di⟩:=H 29 δ ψ 37 rfl;obtain rfl:en=v.QE:=di;have C:=((aD.refl (fun _=>False) w).drew).trans r (fun _ _ h=>h);have L:=cM.same (RF:=(fun _=>cN)) (D':=fun _ b=>b<w0.heap.size) HP.out.QE (fun b l=>l) (ah.of_keep C fun b l=>⟨Nat.lt_of_lt_of_le l I.out,fun x=>x⟩) (fun _ _ b l=>l) (fun _ _=>ah.of_keep C fun b l=>⟨Nat.lt_of_lt_of_le l I.out,fun x=>x⟩);have J:=qw (D:=fun _ b=>b<w0.heap.size) L;have S:=hh J;clear L J C;have N:=hh y;clear y;obtain⟨T,d⟩:=O;go_simp;refine S.out.mono ?_;rintro e U ⟨v2,cs,rfl,g1,g2,g3⟩;exact N.out v2 U (r.trans g3 (fun _ _ h=>h)) (fun j u h=>STAB.out w' U r g3 j u h) (dx cM g1 g2 g3 (Nat.le_trans I.out r.size) HL.out.2.2.2.2.2.2.2.2.2.1)
  | 31,_,E,H,y =>
   obtain rfl:=oi E;obtain⟨T,d⟩:=O;go_simp;exact y (.pointer (some ⟨W,8,none⟩)) _ r (fun _ _ h=>h) rfl
  | 32,_,E,H,y =>
   obtain rfl:=oi E;obtain⟨eo,hl,dk⟩:=H 31 δ ψ 39 rfl;obtain rfl:eo=.pointer (some ⟨W,8,none⟩):=dk;have q:=HC.out w' r 8 _ rfl;obtain⟨T,d⟩:=O;go_simp;exact y (v.QC) _ r (fun _ _ h=>h) rfl
  | 33,_,E,H,y =>
   obtain rfl:=oi E;obtain⟨ep,hn,ds⟩:=H 32 δ ψ 40 rfl;obtain rfl:ep=v.QC:=ds;have C:=((aD.refl (fun _=>False) w).drew).trans r (fun _ _ h=>h);have L:=ej.same (RF:=(fun _=>dj)) (D':=fun _ b=>b<w0.heap.size) HP.out.QC (fun b l=>l) (ah.of_keep C fun b l=>⟨Nat.lt_of_lt_of_le l I.out,fun x=>x⟩) (fun _ _ b l=>l) (fun _ _=>ah.of_keep C fun b l=>⟨Nat.lt_of_lt_of_le l I.out,fun x=>x⟩);have J:=B7 (D:=fun _ b=>b<w0.heap.size) L;have S:=hh J;clear L J C;have N:=hh y;clear y;obtain⟨T,d⟩:=O;go_simp;refine S.out.mono ?_;rintro e U ⟨v2,cs,rfl,g1,g2,g3⟩;exact N.out v2 U (r.trans g3 (fun _ _ h=>h)) (fun j u h=>STAB.out w' U r g3 j u h) (dx ej g1 g2 g3 (Nat.le_trans I.out r.size) HL.out.2.2.2.2.2.2.1)
  | 34,_,E,H,y =>
   obtain rfl:=oi E;obtain⟨T,d⟩:=O;go_simp;exact y (.pointer (some ⟨W,12,none⟩)) _ r (fun _ _ h=>h) rfl
  | 35,_,E,H,y =>
   obtain rfl:=oi E;obtain⟨eq,hs,dt⟩:=H 34 δ ψ 42 rfl;obtain rfl:eq=.pointer (some ⟨W,12,none⟩):=dt;have q:=HC.out w' r 12 _ rfl;obtain⟨T,d⟩:=O;go_simp;exact y (v.QA) _ r (fun _ _ h=>h) rfl
  | 36,_,E,H,y =>
   obtain rfl:=oi E;obtain⟨er,ht,d0⟩:=H 35 δ ψ 43 rfl;obtain rfl:er=v.QA:=d0;have C:=((aD.refl (fun _=>False) w).drew).trans r (fun _ _ h=>h);have L:=cM.same (RF:=(fun _=>cN)) (D':=fun _ b=>b<w0.heap.size) HP.out.QA (fun b l=>l) (ah.of_keep C fun b l=>⟨Nat.lt_of_lt_of_le l I.out,fun x=>x⟩) (fun _ _ b l=>l) (fun _ _=>ah.of_keep C fun b l=>⟨Nat.lt_of_lt_of_le l I.out,fun x=>x⟩);have J:=qw (D:=fun _ b=>b<w0.heap.size) L;have S:=hh J;clear L J C;have N:=hh y;clear y;obtain⟨T,d⟩:=O;go_simp;refine S.out.mono ?_;rintro e U ⟨v2,cs,rfl,g1,g2,g3⟩;exact N.out v2 U (r.trans g3 (fun _ _ h=>h)) (fun j u h=>STAB.out w' U r g3 j u h) (dx cM g1 g2 g3 (Nat.le_trans I.out r.size) HL.out.2.2.2.2.2.2.2.2.2.2.1)
  | 37,_,E,H,y =>
   obtain rfl:=oi E;obtain⟨T,d⟩:=O;go_simp;exact y (.pointer (some ⟨W,13,none⟩)) _ r (fun _ _ h=>h) rfl
  | 38,_,E,H,y =>
   obtain rfl:=oi E;obtain⟨es,hy,d1⟩:=H 37 δ ψ 45 rfl;obtain rfl:es=.pointer (some ⟨W,13,none⟩):=d1;have q:=HC.out w' r 13 _ rfl;obtain⟨T,d⟩:=O;go_simp;exact y (v.QD) _ r (fun _ _ h=>h) rfl
  | 39,_,E,H,y =>
   obtain rfl:=oi E;obtain⟨eu,h0,d2⟩:=H 38 δ ψ 46 rfl;obtain rfl:eu=v.QD:=d2;have C:=((aD.refl (fun _=>False) w).drew).trans r (fun _ _ h=>h);have L:=iK.same (RF:=(fun _=>iT)) (D':=fun _ b=>b<w0.heap.size) HP.out.QD (fun b l=>l) (ah.of_keep C fun b l=>⟨Nat.lt_of_lt_of_le l I.out,fun x=>x⟩) (fun _ _ b l=>l) (fun _ _=>ah.of_keep C fun b l=>⟨Nat.lt_of_lt_of_le l I.out,fun x=>x⟩);have J:=B6 (D:=fun _ b=>b<w0.heap.size) L;have S:=hh J;clear L J C;have N:=hh y;clear y;obtain⟨T,d⟩:=O;go_simp;refine S.out.mono ?_;rintro e U ⟨v2,cs,rfl,g1,g2,g3⟩;exact N.out v2 U (r.trans g3 (fun _ _ h=>h)) (fun j u h=>STAB.out w' U r g3 j u h) (dx iK g1 g2 g3 (Nat.le_trans I.out r.size) HL.out.2.2.2.2.2.2.2.2.2.2.2)
  | 40,_,E,H,y =>
   obtain rfl:=oi E;obtain⟨fv,h7,e5⟩:=H 1 δ ψ 9 rfl;obtain rfl:fv=.int .i64 P.pos:=e5;obtain⟨fz,h9,e7⟩:=H 3 δ ψ 11 rfl;obtain rfl:fz=.string P.name:=e7;obtain⟨ey,ik,b0⟩:=H 6 δ ψ 14 rfl;replace b0:cV w0.heap.size 41 3 (fun _=>iO) w' ey P.QG:=b0;obtain⟨ez,i0,b1⟩:=H 9 δ ψ 17 rfl;replace b1:cV w0.heap.size 45 5 dw w' ez P.Q4:=b1;obtain⟨b4,f6,a7⟩:=H 12 δ ψ 20 rfl;replace a7:cV w0.heap.size 48 10 (fun _=>dH) w' b4 P.Q5:=a7;obtain⟨b5,f9,a8⟩:=H 15 δ ψ 23 rfl;replace a8:cV w0.heap.size 52 6 dG w' b5 P.Q3:=a8;obtain⟨cb,gl,a9⟩:=H 18 δ ψ 26 rfl;replace a9:cV w0.heap.size 55 8 (fun _=>cj) w' cb P.Q8:=a9;obtain⟨cc,gp,ba⟩:=H 21 δ ψ 29 rfl;replace ba:cV w0.heap.size 58 6 (fun _=>iR) w' cc P.QJ:=ba;obtain⟨cd,gu,bb⟩:=H 24 δ ψ 32 rfl;replace bb:cV w0.heap.size 62 4 i4 w' cd P.Q9:=bb;obtain⟨cf,gy,bc⟩:=H 27 δ ψ 35 rfl;replace bc:cV w0.heap.size 78 2 (fun _=>cN) w' cf P.QB:=bc;obtain⟨ci,hf,bd⟩:=H 30 δ ψ 38 rfl;replace bd:cV w0.heap.size 78 2 (fun _=>cN) w' ci P.QE:=bd;obtain⟨cl,hq,be⟩:=H 33 δ ψ 41 rfl;replace be:cV w0.heap.size 65 6 (fun _=>dj) w' cl P.QC:=be;obtain⟨cm,hu,bf⟩:=H 36 δ ψ 44 rfl;replace bf:cV w0.heap.size 78 2 (fun _=>cN) w' cm P.QA:=bf;obtain⟨cp,h4,bl⟩:=H 39 δ ψ 47 rfl;replace bl:cV w0.heap.size 68 3 (fun _=>iT) w' cp P.QD:=bl;obtain⟨A_rams,bz,rfl⟩:∃A c,ey=.slice A P.QG.length c:=by obtain⟨⟨A,c,e,_⟩,_⟩:=b0;exact⟨A,c,e⟩
   obtain⟨A_devices,a2,rfl⟩:∃A c,ez=.slice A P.Q4.length c:=by obtain⟨⟨A,c,e,_⟩,_⟩:=b1;exact⟨A,c,e⟩
   obtain⟨A_regions,a5,rfl⟩:∃A c,b4=.slice A P.Q5.length c:=by obtain⟨⟨A,c,e,_⟩,_⟩:=a7;exact⟨A,c,e⟩
   obtain⟨A_subjects,a1,rfl⟩:∃A c,b5=.slice A P.Q3.length c:=by obtain⟨⟨A,c,e,_⟩,_⟩:=a8;exact⟨A,c,e⟩
   obtain⟨A_channels,af,rfl⟩:∃A c,cb=.slice A P.Q8.length c:=by obtain⟨⟨A,c,e,_⟩,_⟩:=a9;exact⟨A,c,e⟩
   obtain⟨A_irqs,bx,rfl⟩:∃A c,cc=.slice A P.QJ.length c:=by obtain⟨⟨A,c,e,_⟩,_⟩:=ba;exact⟨A,c,e⟩
   obtain⟨A_queues,bm,rfl⟩:∃A c,cl=.slice A P.QC.length c:=by obtain⟨⟨A,c,e,_⟩,_⟩:=be;exact⟨A,c,e⟩
   obtain⟨A_plans,bp,rfl⟩:∃A c,cd=.slice A P.Q9.length c:=by obtain⟨⟨A,c,e,_⟩,_⟩:=bb;exact⟨A,c,e⟩
   obtain⟨A_masters,a4,rfl⟩:∃A c,cf=.slice A P.QB.length c:=by obtain⟨⟨A,c,e,_⟩,_⟩:=bc;exact⟨A,c,e⟩
   obtain⟨A_starts,bo,rfl⟩:∃A c,ci=.slice A P.QE.length c:=by obtain⟨⟨A,c,e,_⟩,_⟩:=bd;exact⟨A,c,e⟩
   obtain⟨A_monitors,a0,rfl⟩:∃A c,cm=.slice A P.QA.length c:=by obtain⟨⟨A,c,e,_⟩,_⟩:=bf;exact⟨A,c,e⟩
   obtain⟨A_forbids,a3,rfl⟩:∃A c,cp=.slice A P.QD.length c:=by obtain⟨⟨A,c,e,_⟩,_⟩:=bl;exact⟨A,c,e⟩
   have N:=hh y;clear y;obtain⟨T,d⟩:=O;go_simp;refine N.out _ _ r (fun _ _ h=>h) ⟨⟨.slice A_rams P.QG.length bz,.slice A_devices P.Q4.length a2,.slice A_regions P.Q5.length a5,.slice A_subjects P.Q3.length a1,.slice A_channels P.Q8.length af,.slice A_irqs P.QJ.length bx,.slice A_queues P.QC.length bm,.slice A_plans P.Q9.length bp,.slice A_masters P.QB.length a4,.slice A_starts P.QE.length bo,.slice A_monitors P.QA.length a0,.slice A_forbids P.QD.length a3⟩,rfl,⟨b0,b1,a7,a8,a9,ba,be,bb,bc,bd,bf,bl⟩⟩
  | 41,_,E,H,y =>
   obtain rfl:=oi E;have N:=hh y;clear y;obtain⟨T,d⟩:=O;go_simp;exact N.out _ _ (r.alloc _) (fun j u h=>STAB.out w' _ r ((aD.refl _ _).alloc _) j u h) ⟨w'.heap.size,rfl,r.size,heap_alloc_new _ _⟩
  | i+42,hi,_,_,_=>omega
 ·intro o E O w' r l H
  obtain rfl:=oi E;have d3:O.tmps.size=150:=l.size.trans (by first|assumption|(simp only[Array.size_setIfInBounds];assumption));have e0:=l.Q7 h1 rfl;obtain⟨ew,cu,bt⟩:=H 40 ψ 48 rfl;replace bt:∃v',ew=.agg (v'.cells P).toArray∧lO w0.heap.size w' v' P:=bt;obtain⟨ex,b2,bw⟩:=H 41 ψ 3 rfl;replace bw:∃z,ex=.pointer (some ⟨z,0,none⟩)∧w.heap.size≤z∧w'.heap[z]?=some (.cells #[.int .i64 0,.string { data := #[] },.slice none 0 0,.slice none 0 0,.slice none 0 0,.slice none 0 0,.slice none 0 0,.slice none 0 0,.slice none 0 0,.slice none 0 0,.slice none 0 0,.slice none 0 0,.slice none 0 0,.slice none 0 0] 34 (0,0)):=bw;obtain⟨z,rfl,hz,hc⟩:=bw;obtain⟨v',rfl,hm⟩:=bt;have h3:=b2;have fp:w.heap.size≤z:=hz;replace hz:w0.heap.size≤z:=Nat.le_trans I.out fp;refine wpList_store_row rfl 34 (.tmp 3) (.tmp 48) rfl z (v'.cells P).toArray (b2.eval χ) (cu.eval χ) 34 _ hc Tryz.info34C rfl hm.ones (ln ?_);have V:=l8 (cs:=(v'.cells P).toArray) hc;have ac:cD w' z=some 34:=by unfold cD;rw[hc]
  have ff:w0.heap.size≤w'.heap.size:=Nat.le_trans I.out r.size;obtain⟨Z,ad⟩:=hm.QP ff HP.out.pos HP.out.name;have fm:∀k,cD (w'.setRow z (v'.cells P).toArray) k=cD w' k:=fun k=>by
   by_cases e:k=z
   ·subst e;unfold cD;rw[setRow_heap w' k _ _ _ _ hc,hc]
   ·unfold cD;rw[setRow_other w' z k _ e]
  have fe:Kz w0 (w'.setRow z (v'.cells P).toArray):=((e1.out.drew).trans r (fun _ _ h=>h)).trans V (fun i hi e=>χ);have fl:∀T b,T≠34→Dm w0.heap.size w' T b→b≠z:=fun T b hT l=>l.ne hz ac hT
  have X:∀T b,Dm w0.heap.size w' T b→Dm w0.heap.size (w'.setRow z (v'.cells P).toArray) T b:=fun T b l=>⟨Nat.lt_of_lt_of_le l.1 V.size,l.2.imp id fun e=>(fm b).trans e⟩
  have Y:∀T,T≠34→ah (Dm w0.heap.size w' T) w' (w'.setRow z (v'.cells P).toArray):=fun T hT=>ah.of_keep V fun b l=>⟨l.1,fl T b hT l⟩
  refine HQ.out _ _ z v' (l.agree δ) (by simpa[Act.put]using h3) ⟨fe,rfl,setRow_heap w' z _ _ _ _ hc,hz,fun z' c' hr=>((V.block z' (Nat.lt_of_lt_of_le (aG (a6.out z' c' hr)) r.size) (fun e=>by have:=aG (a6.out z' c' hr);omega)).trans (r.block z' (aG (a6.out z' c' hr)) (fun x=>x))).trans (a6.out z' c' hr),⟨aH Z.QG (fun b l=>X _ b l) (Y _ ψ),bv.same Z.Q4 (fun b l=>X _ b l) (Y _ ψ) (fun T _ b l=>X T b l) (fun T hT=>Y T (by subst hT;decide)),aH Z.Q5 (fun b l=>X _ b l) (Y _ ψ),bI.same Z.Q3 (fun b l=>X _ b l) (Y _ ψ) (fun T _ b l=>X T b l) (fun T hT=>Y T (by rcases hT with rfl|rfl<;>decide)),aH Z.Q8 (fun b l=>X _ b l) (Y _ ψ),aH Z.QJ (fun b l=>X _ b l) (Y _ ψ),aH Z.QC (fun b l=>X _ b l) (Y _ ψ),cE.same Z.Q9 (fun b l=>X _ b l) (Y _ ψ) (fun T _ b l=>X T b l) (fun T hT=>Y T (by rcases hT with rfl|rfl<;>decide)),aH Z.QB (fun b l=>X _ b l) (Y _ ψ),aH Z.QE (fun b l=>X _ b l) (Y _ ψ),aH Z.QA (fun b l=>X _ b l) (Y _ ψ),aH Z.QD (fun b l=>X _ b l) (Y _ ψ),Z.pos,Z.name⟩,⟨let⟨cs,hcs⟩:=ad.QG;⟨cs,aV hcs V (fun g hg e=>by have:=(aO hcs hg).2.2;rw[e,ac]at this;exact absurd (Option.some.inj this) ψ)⟩,let⟨cs,hcs⟩:=ad.Q4;⟨cs,aV hcs V (fun g hg e=>by have:=(aO hcs hg).2.2;rw[e,ac]at this;exact absurd (Option.some.inj this) ψ)⟩,let⟨cs,hcs⟩:=ad.Q5;⟨cs,aV hcs V (fun g hg e=>by have:=(aO hcs hg).2.2;rw[e,ac]at this;exact absurd (Option.some.inj this) ψ)⟩,let⟨cs,hcs⟩:=ad.Q3;⟨cs,aV hcs V (fun g hg e=>by have:=(aO hcs hg).2.2;rw[e,ac]at this;exact absurd (Option.some.inj this) ψ)⟩,let⟨cs,hcs⟩:=ad.Q8;⟨cs,aV hcs V (fun g hg e=>by have:=(aO hcs hg).2.2;rw[e,ac]at this;exact absurd (Option.some.inj this) ψ)⟩,let⟨cs,hcs⟩:=ad.QJ;⟨cs,aV hcs V (fun g hg e=>by have:=(aO hcs hg).2.2;rw[e,ac]at this;exact absurd (Option.some.inj this) ψ)⟩,let⟨cs,hcs⟩:=ad.QC;⟨cs,aV hcs V (fun g hg e=>by have:=(aO hcs hg).2.2;rw[e,ac]at this;exact absurd (Option.some.inj this) ψ)⟩,let⟨cs,hcs⟩:=ad.Q9;⟨cs,aV hcs V (fun g hg e=>by have:=(aO hcs hg).2.2;rw[e,ac]at this;exact absurd (Option.some.inj this) ψ)⟩,let⟨cs,hcs⟩:=ad.QB;⟨cs,aV hcs V (fun g hg e=>by have:=(aO hcs hg).2.2;rw[e,ac]at this;exact absurd (Option.some.inj this) ψ)⟩,let⟨cs,hcs⟩:=ad.QE;⟨cs,aV hcs V (fun g hg e=>by have:=(aO hcs hg).2.2;rw[e,ac]at this;exact absurd (Option.some.inj this) ψ)⟩,let⟨cs,hcs⟩:=ad.QA;⟨cs,aV hcs V (fun g hg e=>by have:=(aO hcs hg).2.2;rw[e,ac]at this;exact absurd (Option.some.inj this) ψ)⟩,let⟨cs,hcs⟩:=ad.QD;⟨cs,aV hcs V (fun g hg e=>by have:=(aO hcs hg).2.2;rw[e,ac]at this;exact absurd (Option.some.inj this) ψ)⟩⟩⟩ ?_;exact(((aD.refl _ w).drew).trans r (fun _ _ h=>h)).trans V (fun i hi e=>χ)
theorem oX{R:Nat→Array Value→Prop}{v2:aR}{P:aC}(a2:Cop R n0 w0 zq v2 P w)(a:Act)(Y:a.tmps.size=150)(h3:At a 3 (.pointer (some ⟨zq,0,none⟩)))(Q:Exit→Act→World→Prop)
 (hQ:∀r w',aA (fun i=>i==4||(rg 49 67 i)) a r→Cop R n0 w0 zq v2 P w'→Q .normal r w'):(bE Tryz.f10 [1,1,0]).wp Tryz.prog Q a w:=by
 have d7:P.Q4.length≤2097152:=by obtain⟨_,_,_,_,h,_⟩:=a2.QP.Q4;exact h
 have HQ:=hh hQ;clear hQ
 conv=>arg 2;whnf
 refine so (fun a1 w1=>aA (fun i=>i==4) a a1∧At a1 4 (.int .i64 0)∧w1=w) ?_ ?_
 ·have a0:aA (fun i=>i==4) a a:=aA.refl _ _
  obtain⟨T,d⟩:=a;refine rl ?_;with_reducible refine st ?_
  refine ln ⟨rfl,ag,aq,rfl⟩
 rintro a1 w1 ⟨b4,N,rfl⟩;refine gY P.Q4.length (fun k r w'=>aA (fun i=>i==4||(rg 49 67 i)) a r∧At r 4 (.int .i64 (k:Nat))∧Cop R n0 w0 zq v2 P w') (fun k r w'=>aA (fun i=>i==4||(rg 49 67 i)) a r∧At r 4 (.int .i64 (k:Nat))∧Cop R n0 w0 zq v2 P w') (fun a=>match a.eval (.tmp 4)with|.int _ x=>x.toNat|_=>0) ⟨b4.m,N,a2⟩ ?_ ?_ ?_ ?_ ?_
 ·rintro k r w' ⟨C,hk,_⟩
  rw[hk.eval (by rw[C.size];omega)];show((k:Nat):Int).toNat=k;omega
 ·rintro k b wr d6 ⟨C,N,E⟩
  have Z:=C.Q7 h3 rfl;have U:=C.size.trans Y;obtain⟨A0,c0,e0,b5,d8,_⟩:=E.QP.Q4;have q:wr.cell? ⟨zq,3,none⟩=some (.slice A0 P.Q4.length c0):=by rw[cell_of_row _ _ _ _ _ _ E.cell,←e0];rfl
  have a5:(decide ((k:Int)<(P.Q4.length:Int)))=decide (k<P.Q4.length):=ξ
  have HC:=hh E;have HA:=hh C;clear E C e0;have a0:aA (fun i=>rg 49 53 i) b b:=aA.refl _ _;obtain⟨T,d⟩:=b;refine rl ?_
  iterate 5 with_reducible refine st ?_
  refine ln ?_;skip;refine⟨rfl,⟨HA.out.trans (vs:=fun i=>rg 49 53 i) (by exact ag) ζ,ar,HC.out⟩,?_⟩;refine At.eval (i:=53) ?_ (by simp;have:=U;simp at this;omega)
  first|(exact aq)|(rw[←a5];exact aq)
 ·rintro k b wr a6 ⟨C,N,E⟩
  have Z:=C.Q7 h3 rfl;have U:=C.size.trans Y;obtain⟨x,hx⟩:=ge a6;obtain⟨c6,S⟩:=E.QQ.Q4;obtain⟨gd,W,L⟩:∃g c,v2.Q4=.slice (some ⟨g,0,none⟩) P.Q4.length c:=by obtain⟨g,c,e,_⟩:=S.form χ;exact⟨g,c,e⟩
  obtain⟨d4,a4,d5⟩:=aO S (g:=gd) (by rw[L];rfl);have bb:=E.QP.Q4;rw[L]at bb;obtain⟨A,c1,e,b5,_,hl⟩:=bb;obtain⟨rfl,rfl⟩:some ⟨gd,0,none⟩=A∧W=c1:=by simpa using e
  obtain⟨b0,off,e,_,hr⟩:=hl χ;obtain⟨rfl,rfl⟩:gd=b0∧0=off:=by simpa using e
  obtain⟨mv,H,a7,_⟩:=hr k x hx;rw[Nat.zero_add]at H;have q:wr.cell? ⟨zq,3,none⟩=some (.slice (some ⟨gd,0,none⟩) P.Q4.length W):=by rw[cell_of_row _ _ _ _ _ _ E.cell,←L];rfl
  have qm:wr.cell? ⟨gd,k*5+4,none⟩=some mv:=H 4 _ rfl;have fz:wr.frozen? ⟨gd,k*5+4,none⟩=false:=by obtain⟨c7,a8⟩:=E.QQ.Q4;rw[L]at a8;exact a8.frozenAt _
  have cc:=aG E.cell;have a9:Hid (∀w',Kz wr.drew w'→w'.cell? ⟨zq,3,none⟩=some (.slice (some ⟨gd,0,none⟩) P.Q4.length W)):=hh fun w' hw=>(hw.cell (p:=⟨zq,3,none⟩) cc (fun x=>x)).trans q
  have ba:Hid (∀w',Kz wr.drew w'→w'.cell? ⟨gd,k*5+4,none⟩=some mv):=hh fun w' hw=>(hw.cell (p:=⟨gd,k*5+4,none⟩) a4 (fun x=>x)).trans qm
  have cb:Hid (∀w',Kz wr.drew w'→w'.frozen? ⟨gd,k*5+4,none⟩=false):=hh fun w' hw=>(hw.frozen (p:=⟨gd,k*5+4,none⟩) a4 (fun x=>x)).trans fz
  have HC:=hh E;have HA:=hh C;have HM:=hh a7;have HX:=hh hx;have HV:=hh L;clear E C S hl hr H a7 q qm fz hx L e;refine cZ 12 (fun jj w_ u_=>if jj=9 then aN (Dm n0 w_ 71) 5 cU w_ u_ x.QF else u_=([.pointer (some ⟨zq,3,none⟩),.slice (some ⟨gd,0,none⟩) P.Q4.length W,.int .i64 (k:Nat),.pointer (some ⟨zq,3,none⟩),.slice (some ⟨gd,0,none⟩) P.Q4.length W,.int .i64 (k:Nat),.pointer (some ⟨gd,k*5,none⟩),.pointer (some ⟨gd,k*5+4,none⟩),mv,undef,.pointer (some ⟨gd,k*5,none⟩),.pointer (some ⟨gd,k*5+4,none⟩)]:List Value).getD jj undef) (fun w'=>Kz wr.drew w') δ δ (aD.refl _ _) ?_ ?_
  ·intro i o hi l r w' K B J y v
   have bc:r.tmps.size=150:=J.size.trans (by first|assumption|(simp only[Array.size_setIfInBounds];assumption));have V:=J.Q7 N rfl;have ac:=J.Q7 Z rfl
   match i,hi,l,y,v with
   | 0,_,l,y,v =>
    obtain rfl:=oi l;obtain⟨T,d⟩:=r;go_simp;exact v (.pointer (some ⟨zq,3,none⟩)) _ B (fun _ _ h=>h) rfl
   | 1,_,l,y,v =>
    obtain rfl:=oi l;obtain⟨ci,c8,bo⟩:=y 0 δ ψ 56 rfl;obtain rfl:ci=.pointer (some ⟨zq,3,none⟩):=bo;have qq:=a9.out w' B;obtain⟨T,d⟩:=r;go_simp;exact v (.slice (some ⟨gd,0,none⟩) P.Q4.length W) _ B (fun _ _ h=>h) rfl
   | 2,_,l,y,v =>
    obtain rfl:=oi l;obtain⟨T,d⟩:=r;go_simp;exact v (.int .i64 (k:Nat)) _ B (fun _ _ h=>h) rfl
   | 3,_,l,y,v =>
    obtain rfl:=oi l;obtain⟨T,d⟩:=r;go_simp;exact v (.pointer (some ⟨zq,3,none⟩)) _ B (fun _ _ h=>h) rfl
   | 4,_,l,y,v =>
    obtain rfl:=oi l;obtain⟨cu,dk,bw⟩:=y 3 δ ψ 59 rfl;obtain rfl:cu=.pointer (some ⟨zq,3,none⟩):=bw;have qq:=a9.out w' B;obtain⟨T,d⟩:=r;go_simp;exact v (.slice (some ⟨gd,0,none⟩) P.Q4.length W) _ B (fun _ _ h=>h) rfl
   | 5,_,l,y,v =>
    obtain rfl:=oi l;obtain⟨T,d⟩:=r;go_simp;exact v (.int .i64 (k:Nat)) _ B (fun _ _ h=>h) rfl
   | 6,_,l,y,v =>
    obtain rfl:=oi l;obtain⟨cv,ds,bx⟩:=y 4 δ ψ 60 rfl;obtain rfl:cv=.slice (some ⟨gd,0,none⟩) P.Q4.length W:=bx;obtain⟨cw,dt,bz⟩:=y 5 δ ψ 61 rfl;obtain rfl:cw=.int .i64 (k:Nat):=bz;obtain⟨T,d⟩:=r;go_simp;exact v (.pointer (some ⟨gd,k*5,none⟩)) _ B (fun _ _ h=>h) rfl
   | 7,_,l,y,v =>
    obtain rfl:=oi l;obtain⟨cx,d0,b1⟩:=y 6 δ ψ 62 rfl;obtain rfl:cx=.pointer (some ⟨gd,k*5,none⟩):=b1;obtain⟨T,d⟩:=r;go_simp;exact v (.pointer (some ⟨gd,k*5+4,none⟩)) _ B (fun _ _ h=>h) rfl
   | 8,_,l,y,v =>
    obtain rfl:=oi l;obtain⟨cy,d1,b2⟩:=y 7 δ ψ 63 rfl;obtain rfl:cy=.pointer (some ⟨gd,k*5+4,none⟩):=b2;have qq:=ba.out w' B;obtain⟨T,d⟩:=r;go_simp;exact v (mv) _ B (fun _ _ h=>h) rfl
   | 9,_,l,y,v =>
    obtain rfl:=oi l;obtain⟨c2,d2,b3⟩:=y 8 δ ψ 64 rfl;obtain rfl:c2=mv:=b3;have I:=((aD.refl (fun _=>False) wr).drew).trans B (fun _ _ h=>h);have a3:=vK (D:=fun _ _=>False) (aH HM.out (D':=Dm n0 w' 71) (fun b J=>J.keep I) (dc I _));have bf:=hh a3;clear a3 I;have bm:=hh v;clear v;obtain⟨T,d⟩:=r;go_simp;refine bf.out.mono ?_;rintro e w2 ⟨cf,cs,rfl,g1,g2,g3⟩;refine bm.out cf w2 (B.trans g3 (fun _ _ h=>h)) (fun j u h=>?_) (dR o8 (D:=fun _ _=>False) (D':=fun _ _=>False) g1 g2 (by obtain⟨_,_,_,_,h,_⟩:=HM.out;exact h) (fun g hg=>by obtain⟨_,h2,h3⟩:=aO g2 hg;exact⟨h2,.inr h3⟩) (fun _ _ _ h=>h) (fun _ h=>False.elim h))
    by_cases hj9:j=9
    ·subst hj9;exact aH (show aN _ _ _ w' u _ from h) (fun b J=>J.keep g3) (dc g3 _)
    ·rw[if_neg hj9]at h⊢; exact h
   | 10,_,l,y,v =>
    obtain rfl:=oi l;obtain⟨cl,c9,bp⟩:=y 1 δ ψ 57 rfl;obtain rfl:cl=.slice (some ⟨gd,0,none⟩) P.Q4.length W:=bp;obtain⟨cp,di,bt⟩:=y 2 δ ψ 58 rfl;obtain rfl:cp=.int .i64 (k:Nat):=bt;obtain⟨T,d⟩:=r;go_simp;exact v (.pointer (some ⟨gd,k*5,none⟩)) _ B (fun _ _ h=>h) rfl
   | 11,_,l,y,v =>
    obtain rfl:=oi l;obtain⟨bd,c4,ad⟩:=y 10 δ ψ 66 rfl;obtain rfl:bd=.pointer (some ⟨gd,k*5,none⟩):=ad;obtain⟨T,d⟩:=r;go_simp;exact v (.pointer (some ⟨gd,k*5+4,none⟩)) _ B (fun _ _ h=>h) rfl
   | i+12,hi,_,_,_=>omega
  ·intro o l r w' B J y
   obtain rfl:=oi l;have bc:r.tmps.size=150:=J.size.trans (by first|assumption|(simp only[Array.size_setIfInBounds];assumption));have V:=J.Q7 N rfl;have ac:=J.Q7 Z rfl;obtain⟨c3,d3,O⟩:=y 9 ψ 65 rfl;replace O:aN (Dm n0 w' 71) 5 cU w' c3 x.QF:=O;obtain⟨be,c5,af⟩:=y 11 ψ 67 rfl;obtain rfl:be=.pointer (some ⟨gd,k*5+4,none⟩):=af;obtain⟨T,d⟩:=r;have I:=((aD.refl (fun _=>False) wr).drew).trans B (fun _ _ h=>h);have qq:=ba.out w' B;have qf:=cb.out w' B;have X:=(HC.out.step I).put_device HV.out HX.out O;have bl:=hh X;have HB:=hh J;have HE:=hh O;obtain⟨Am,cm,em,_⟩:=O;subst em;clear X J I B;with_reducible refine st (ln ?_)
   refine⟨HA.out.trans (HB.out.agree (ws:=fun i=>(rg 49 67 i)) δ) ζ,V,bl.out⟩
 ·rintro k b wr a6 ⟨C,N,E⟩
  have U:=C.size.trans Y;have e1:IntKind.i64.wrap ((k:Int)+1)=((k+1:Nat):Int):=by rw[i64_in _ χ];omega
  have HC:=hh E;have HA:=hh C;clear E C;have a0:aA (fun i=>i==4||i==54||i==55) b b:=aA.refl _ _;obtain⟨T,d⟩:=b;refine rl ?_
  iterate 3 with_reducible refine st ?_
  refine ln ⟨rfl,HA.out.trans (vs:=fun i=>i==4||i==54||i==55) (by exact ag) ζ,?_,HC.out⟩;rw[show((k+1:Nat):Int)=(k:Int)+1 by omega];exact aq
 ·rintro b wr ⟨C,_,E⟩
  exact HQ.out b wr C E
theorem mi{R:Nat→Array Value→Prop}{v2:aR}{P:aC}(c4:Cop R n0 w0 zq v2 P w)(a:Act)(bb:a.tmps.size=150)(h3:At a 3 (.pointer (some ⟨zq,0,none⟩)))(Q:Exit→Act→World→Prop)
 (hQ:∀y w',aA (fun i=>i==5||(rg 68 98 i)) a y→Cop R n0 w0 zq v2 P w'→Q .normal y w'):(bE Tryz.f10 [1,1,1,0]).wp Tryz.prog Q a w:=by
 have d9:P.Q3.length≤2097152:=by obtain⟨_,_,_,_,h,_⟩:=c4.QP.Q3;exact h
 have HQ:=hh hQ;clear hQ
 conv=>arg 2;whnf
 refine so (fun a1 w1=>aA (fun i=>i==5) a a1∧At a1 5 (.int .i64 0)∧w1=w) ?_ ?_
 ·have c3:aA (fun i=>i==5) a a:=aA.refl _ _
  obtain⟨T,d⟩:=a;refine rl ?_;with_reducible refine st ?_
  refine ln ⟨rfl,ag,aq,rfl⟩
 rintro a1 w1 ⟨d5,V,rfl⟩;refine gY P.Q3.length (fun k y w'=>aA (fun i=>i==5||(rg 68 98 i)) a y∧At y 5 (.int .i64 (k:Nat))∧Cop R n0 w0 zq v2 P w') (fun k y w'=>aA (fun i=>i==5||(rg 68 98 i)) a y∧At y 5 (.int .i64 (k:Nat))∧Cop R n0 w0 zq v2 P w') (fun a=>match a.eval (.tmp 5)with|.int _ x=>x.toNat|_=>0) ⟨d5.m,V,c4⟩ ?_ ?_ ?_ ?_ ?_
 ·rintro k y w' ⟨S,hk,_⟩
  rw[hk.eval (by rw[S.size];omega)];show((k:Nat):Int).toNat=k;omega
 ·rintro k b wr d8 ⟨S,V,J⟩
  have Z:=S.Q7 h3 rfl;have Y:=S.size.trans bb;obtain⟨A0,c0,e0,c5,ea,_⟩:=J.QP.Q3;have q:wr.cell? ⟨zq,5,none⟩=some (.slice A0 P.Q3.length c0):=by rw[cell_of_row _ _ _ _ _ _ J.cell,←e0];rfl
  have c6:(decide ((k:Int)<(P.Q3.length:Int)))=decide (k<P.Q3.length):=ξ
  have HC:=hh J;have HA:=hh S;clear J S e0;have c3:aA (fun i=>rg 68 72 i) b b:=aA.refl _ _;obtain⟨T,d⟩:=b;refine rl ?_
  iterate 5 with_reducible refine st ?_
  refine ln ?_;skip;refine⟨rfl,⟨HA.out.trans (vs:=fun i=>rg 68 72 i) (by exact ag) ζ,ar,HC.out⟩,?_⟩;refine At.eval (i:=72) ?_ (by simp;have:=Y;simp at this;omega)
  first|(exact aq)|(rw[←c6];exact aq)
 ·rintro k b wr b1 ⟨S,V,J⟩
  refine so (fun b2 w2=>aA (fun i=>i==5||(rg 68 98 i)) a b2∧At b2 5 (.int .i64 (k:Nat))∧Cop R n0 w0 zq v2 P w2) ?_ ?_
  ·skip
   have Z:=S.Q7 h3 rfl;have Y:=S.size.trans bb;obtain⟨x,hx⟩:=ge b1;obtain⟨c7,N⟩:=J.QQ.Q3;obtain⟨gd,U,I⟩:∃g c,v2.Q3=.slice (some ⟨g,0,none⟩) P.Q3.length c:=by obtain⟨g,c,e,_⟩:=N.form χ;exact⟨g,c,e⟩
   obtain⟨d6,a0,d7⟩:=aO N (g:=gd) (by rw[I];rfl);have a5:=J.QP.Q3;rw[I]at a5;obtain⟨A,c1,e,c5,_,hl⟩:=a5;obtain⟨rfl,rfl⟩:some ⟨gd,0,none⟩=A∧U=c1:=by simpa using e
   obtain⟨b0,off,e,_,hr⟩:=hl χ;obtain⟨rfl,rfl⟩:gd=b0∧0=off:=by simpa using e
   obtain⟨mv,rv,C,a9,ba,_⟩:=hr k x hx;rw[Nat.zero_add]at C;have q:wr.cell? ⟨zq,5,none⟩=some (.slice (some ⟨gd,0,none⟩) P.Q3.length U):=by rw[cell_of_row _ _ _ _ _ _ J.cell,←I];rfl
   have qm:wr.cell? ⟨gd,k*6+4,none⟩=some mv:=C 4 _ rfl;have fz:wr.frozen? ⟨gd,k*6+4,none⟩=false:=by obtain⟨c8,a2⟩:=J.QQ.Q3;rw[I]at a2;exact a2.frozenAt _
   have b4:=aG J.cell;have a3:Hid (∀w',Kz wr.drew w'→w'.cell? ⟨zq,5,none⟩=some (.slice (some ⟨gd,0,none⟩) P.Q3.length U)):=hh fun w' hw=>(hw.cell (p:=⟨zq,5,none⟩) b4 (fun x=>x)).trans q
   have a4:Hid (∀w',Kz wr.drew w'→w'.cell? ⟨gd,k*6+4,none⟩=some mv):=hh fun w' hw=>(hw.cell (p:=⟨gd,k*6+4,none⟩) a0 (fun x=>x)).trans qm
   have b3:Hid (∀w',Kz wr.drew w'→w'.frozen? ⟨gd,k*6+4,none⟩=false):=hh fun w' hw=>(hw.frozen (p:=⟨gd,k*6+4,none⟩) a0 (fun x=>x)).trans fz
   have HC:=hh J;have HA:=hh S;have HM:=hh a9;have HX:=hh hx;have HV:=hh I;clear J S N hl hr C a9 q qm fz hx I e ba;refine cZ 12 (fun jj w_ u_=>if jj=9 then aN (Dm n0 w_ 71) 5 cU w_ u_ x.QF else u_=([.pointer (some ⟨zq,5,none⟩),.slice (some ⟨gd,0,none⟩) P.Q3.length U,.int .i64 (k:Nat),.pointer (some ⟨zq,5,none⟩),.slice (some ⟨gd,0,none⟩) P.Q3.length U,.int .i64 (k:Nat),.pointer (some ⟨gd,k*6,none⟩),.pointer (some ⟨gd,k*6+4,none⟩),mv,undef,.pointer (some ⟨gd,k*6,none⟩),.pointer (some ⟨gd,k*6+4,none⟩)]:List Value).getD jj undef) (fun w'=>Kz wr.drew w') δ δ (aD.refl _ _) ?_ ?_
   ·intro i o hi l y w' K B H v r
    have a6:y.tmps.size=150:=H.size.trans (by first|assumption|(simp only[Array.size_setIfInBounds];assumption));have O:=H.Q7 V rfl;have X:=H.Q7 Z rfl
    match i,hi,l,v,r with
    | 0,_,l,v,r =>
     obtain rfl:=oi l;obtain⟨T,d⟩:=y;go_simp;exact r (.pointer (some ⟨zq,5,none⟩)) _ B (fun _ _ h=>h) rfl
    | 1,_,l,v,r =>
     obtain rfl:=oi l;obtain⟨cb,c9,bf⟩:=v 0 δ ψ 75 rfl;obtain rfl:cb=.pointer (some ⟨zq,5,none⟩):=bf;have qq:=a3.out w' B;obtain⟨T,d⟩:=y;go_simp;exact r (.slice (some ⟨gd,0,none⟩) P.Q3.length U) _ B (fun _ _ h=>h) rfl
    | 2,_,l,v,r =>
     obtain rfl:=oi l;obtain⟨T,d⟩:=y;go_simp;exact r (.int .i64 (k:Nat)) _ B (fun _ _ h=>h) rfl
    | 3,_,l,v,r =>
     obtain rfl:=oi l;obtain⟨T,d⟩:=y;go_simp;exact r (.pointer (some ⟨zq,5,none⟩)) _ B (fun _ _ h=>h) rfl
    | 4,_,l,v,r =>
     obtain rfl:=oi l;obtain⟨ci,ds,bo⟩:=v 3 δ ψ 78 rfl;obtain rfl:ci=.pointer (some ⟨zq,5,none⟩):=bo;have qq:=a3.out w' B;obtain⟨T,d⟩:=y;go_simp;exact r (.slice (some ⟨gd,0,none⟩) P.Q3.length U) _ B (fun _ _ h=>h) rfl
    | 5,_,l,v,r =>
     obtain rfl:=oi l;obtain⟨T,d⟩:=y;go_simp;exact r (.int .i64 (k:Nat)) _ B (fun _ _ h=>h) rfl
    | 6,_,l,v,r =>
     obtain rfl:=oi l;obtain⟨cl,dt,bp⟩:=v 4 δ ψ 79 rfl;obtain rfl:cl=.slice (some ⟨gd,0,none⟩) P.Q3.length U:=bp;obtain⟨cp,d0,bt⟩:=v 5 δ ψ 80 rfl;obtain rfl:cp=.int .i64 (k:Nat):=bt;obtain⟨T,d⟩:=y;go_simp;exact r (.pointer (some ⟨gd,k*6,none⟩)) _ B (fun _ _ h=>h) rfl
    | 7,_,l,v,r =>
     obtain rfl:=oi l;obtain⟨cu,d1,bw⟩:=v 6 δ ψ 81 rfl;obtain rfl:cu=.pointer (some ⟨gd,k*6,none⟩):=bw;obtain⟨T,d⟩:=y;go_simp;exact r (.pointer (some ⟨gd,k*6+4,none⟩)) _ B (fun _ _ h=>h) rfl
    | 8,_,l,v,r =>
     obtain rfl:=oi l;obtain⟨cv,d2,bx⟩:=v 7 δ ψ 82 rfl;obtain rfl:cv=.pointer (some ⟨gd,k*6+4,none⟩):=bx;have qq:=a4.out w' B;obtain⟨T,d⟩:=y;go_simp;exact r (mv) _ B (fun _ _ h=>h) rfl
    | 9,_,l,v,r =>
     obtain rfl:=oi l;obtain⟨cw,d3,bz⟩:=v 8 δ ψ 83 rfl;obtain rfl:cw=mv:=bz;have E:=((aD.refl (fun _=>False) wr).drew).trans B (fun _ _ h=>h);have af:=vK (D:=fun _ _=>False) (aH HM.out (D':=Dm n0 w' 71) (fun b H=>H.keep E) (dc E _));have bc:=hh af;clear af E;have be:=hh r;clear r;obtain⟨T,d⟩:=y;go_simp;refine bc.out.mono ?_;rintro e w2 ⟨b5,cs,rfl,g1,g2,g3⟩;refine be.out b5 w2 (B.trans g3 (fun _ _ h=>h)) (fun j u h=>?_) (dR o8 (D:=fun _ _=>False) (D':=fun _ _=>False) g1 g2 (by obtain⟨_,_,_,_,h,_⟩:=HM.out;exact h) (fun g hg=>by obtain⟨_,h2,h3⟩:=aO g2 hg;exact⟨h2,.inr h3⟩) (fun _ _ _ h=>h) (fun _ h=>False.elim h))
     by_cases hj9:j=9
     ·subst hj9;exact aH (show aN _ _ _ w' u _ from h) (fun b H=>H.keep g3) (dc g3 _)
     ·rw[if_neg hj9]at h⊢; exact h
    | 10,_,l,v,r =>
     obtain rfl:=oi l;obtain⟨cc,di,bl⟩:=v 1 δ ψ 76 rfl;obtain rfl:cc=.slice (some ⟨gd,0,none⟩) P.Q3.length U:=bl;obtain⟨cf,dk,bm⟩:=v 2 δ ψ 77 rfl;obtain rfl:cf=.int .i64 (k:Nat):=bm;obtain⟨T,d⟩:=y;go_simp;exact r (.pointer (some ⟨gd,k*6,none⟩)) _ B (fun _ _ h=>h) rfl
    | 11,_,l,v,r =>
     obtain rfl:=oi l;obtain⟨a7,cy,ac⟩:=v 10 δ ψ 85 rfl;obtain rfl:a7=.pointer (some ⟨gd,k*6,none⟩):=ac;obtain⟨T,d⟩:=y;go_simp;exact r (.pointer (some ⟨gd,k*6+4,none⟩)) _ B (fun _ _ h=>h) rfl
    | i+12,hi,_,_,_=>omega
   ·intro o l y w' B H v
    obtain rfl:=oi l;have a6:y.tmps.size=150:=H.size.trans (by first|assumption|(simp only[Array.size_setIfInBounds];assumption));have O:=H.Q7 V rfl;have X:=H.Q7 Z rfl;obtain⟨cx,d4,L⟩:=v 9 ψ 84 rfl;replace L:aN (Dm n0 w' 71) 5 cU w' cx x.QF:=L;obtain⟨a8,c2,ad⟩:=v 11 ψ 86 rfl;obtain rfl:a8=.pointer (some ⟨gd,k*6+4,none⟩):=ad;obtain⟨T,d⟩:=y;have E:=((aD.refl (fun _=>False) wr).drew).trans B (fun _ _ h=>h);have qq:=a4.out w' B;have qf:=b3.out w' B;have W:=(HC.out.step E).put_subjmaps HV.out HX.out L;have bd:=hh W;have HB:=hh H;have HE:=hh L;obtain⟨Am,cm,em,_⟩:=L;subst em;clear W H E B;with_reducible refine st (ln ?_)
    refine⟨rfl,HA.out.trans (HB.out.agree (ws:=fun i=>(rg 68 98 i)) δ) ζ,O,bd.out⟩
  rintro b wr ⟨S,V,J⟩;have Z:=S.Q7 h3 rfl;have Y:=S.size.trans bb;obtain⟨x,hx⟩:=ge b1;obtain⟨c7,N⟩:=J.QQ.Q3;obtain⟨gd,U,I⟩:∃g c,v2.Q3=.slice (some ⟨g,0,none⟩) P.Q3.length c:=by obtain⟨g,c,e,_⟩:=N.form χ;exact⟨g,c,e⟩
  obtain⟨d6,a0,d7⟩:=aO N (g:=gd) (by rw[I];rfl);have a5:=J.QP.Q3;rw[I]at a5;obtain⟨A,c1,e,c5,_,hl⟩:=a5;obtain⟨rfl,rfl⟩:some ⟨gd,0,none⟩=A∧U=c1:=by simpa using e
  obtain⟨b0,off,e,_,hr⟩:=hl χ;obtain⟨rfl,rfl⟩:gd=b0∧0=off:=by simpa using e
  obtain⟨mv,rv,C,a9,ba,_⟩:=hr k x hx;rw[Nat.zero_add]at C;have q:wr.cell? ⟨zq,5,none⟩=some (.slice (some ⟨gd,0,none⟩) P.Q3.length U):=by rw[cell_of_row _ _ _ _ _ _ J.cell,←I];rfl
  have qm:wr.cell? ⟨gd,k*6+5,none⟩=some rv:=C 5 _ rfl;have fz:wr.frozen? ⟨gd,k*6+5,none⟩=false:=by obtain⟨c8,a2⟩:=J.QQ.Q3;rw[I]at a2;exact a2.frozenAt _
  have b4:=aG J.cell;have a3:Hid (∀w',Kz wr.drew w'→w'.cell? ⟨zq,5,none⟩=some (.slice (some ⟨gd,0,none⟩) P.Q3.length U)):=hh fun w' hw=>(hw.cell (p:=⟨zq,5,none⟩) b4 (fun x=>x)).trans q
  have a4:Hid (∀w',Kz wr.drew w'→w'.cell? ⟨gd,k*6+5,none⟩=some rv):=hh fun w' hw=>(hw.cell (p:=⟨gd,k*6+5,none⟩) a0 (fun x=>x)).trans qm
  have b3:Hid (∀w',Kz wr.drew w'→w'.frozen? ⟨gd,k*6+5,none⟩=false):=hh fun w' hw=>(hw.frozen (p:=⟨gd,k*6+5,none⟩) a0 (fun x=>x)).trans fz
  have HC:=hh J;have HA:=hh S;have HM:=hh ba;have HX:=hh hx;have HV:=hh I;clear J S N hl hr C a9 q qm fz hx I e ba;refine cZ 12 (fun jj w_ u_=>if jj=9 then aN (Dm n0 w_ 85) 4 eW w_ u_ x.QN else u_=([.pointer (some ⟨zq,5,none⟩),.slice (some ⟨gd,0,none⟩) P.Q3.length U,.int .i64 (k:Nat),.pointer (some ⟨zq,5,none⟩),.slice (some ⟨gd,0,none⟩) P.Q3.length U,.int .i64 (k:Nat),.pointer (some ⟨gd,k*6,none⟩),.pointer (some ⟨gd,k*6+5,none⟩),rv,undef,.pointer (some ⟨gd,k*6,none⟩),.pointer (some ⟨gd,k*6+5,none⟩)]:List Value).getD jj undef) (fun w'=>Kz wr.drew w') δ δ (aD.refl _ _) ?_ ?_
  ·intro i o hi l y w' K B H v r
   have a6:y.tmps.size=150:=H.size.trans (by first|assumption|(simp only[Array.size_setIfInBounds];assumption));have O:=H.Q7 V rfl;have X:=H.Q7 Z rfl
   match i,hi,l,v,r with
   | 0,_,l,v,r =>
    obtain rfl:=oi l;obtain⟨T,d⟩:=y;go_simp;exact r (.pointer (some ⟨zq,5,none⟩)) _ B (fun _ _ h=>h) rfl
   | 1,_,l,v,r =>
    obtain rfl:=oi l;obtain⟨cb,c9,bf⟩:=v 0 δ ψ 87 rfl;obtain rfl:cb=.pointer (some ⟨zq,5,none⟩):=bf;have qq:=a3.out w' B;obtain⟨T,d⟩:=y;go_simp;exact r (.slice (some ⟨gd,0,none⟩) P.Q3.length U) _ B (fun _ _ h=>h) rfl
   | 2,_,l,v,r =>
    obtain rfl:=oi l;obtain⟨T,d⟩:=y;go_simp;exact r (.int .i64 (k:Nat)) _ B (fun _ _ h=>h) rfl
   | 3,_,l,v,r =>
    obtain rfl:=oi l;obtain⟨T,d⟩:=y;go_simp;exact r (.pointer (some ⟨zq,5,none⟩)) _ B (fun _ _ h=>h) rfl
   | 4,_,l,v,r =>
    obtain rfl:=oi l;obtain⟨ci,ds,bo⟩:=v 3 δ ψ 90 rfl;obtain rfl:ci=.pointer (some ⟨zq,5,none⟩):=bo;have qq:=a3.out w' B;obtain⟨T,d⟩:=y;go_simp;exact r (.slice (some ⟨gd,0,none⟩) P.Q3.length U) _ B (fun _ _ h=>h) rfl
   | 5,_,l,v,r =>
    obtain rfl:=oi l;obtain⟨T,d⟩:=y;go_simp;exact r (.int .i64 (k:Nat)) _ B (fun _ _ h=>h) rfl
   | 6,_,l,v,r =>
    obtain rfl:=oi l;obtain⟨cl,dt,bp⟩:=v 4 δ ψ 91 rfl;obtain rfl:cl=.slice (some ⟨gd,0,none⟩) P.Q3.length U:=bp;obtain⟨cp,d0,bt⟩:=v 5 δ ψ 92 rfl;obtain rfl:cp=.int .i64 (k:Nat):=bt;obtain⟨T,d⟩:=y;go_simp;exact r (.pointer (some ⟨gd,k*6,none⟩)) _ B (fun _ _ h=>h) rfl
   | 7,_,l,v,r =>
    obtain rfl:=oi l;obtain⟨cu,d1,bw⟩:=v 6 δ ψ 93 rfl;obtain rfl:cu=.pointer (some ⟨gd,k*6,none⟩):=bw;obtain⟨T,d⟩:=y;go_simp;exact r (.pointer (some ⟨gd,k*6+5,none⟩)) _ B (fun _ _ h=>h) rfl
   | 8,_,l,v,r =>
    obtain rfl:=oi l;obtain⟨cv,d2,bx⟩:=v 7 δ ψ 94 rfl;obtain rfl:cv=.pointer (some ⟨gd,k*6+5,none⟩):=bx;have qq:=a4.out w' B;obtain⟨T,d⟩:=y;go_simp;exact r (rv) _ B (fun _ _ h=>h) rfl
   | 9,_,l,v,r =>
    obtain rfl:=oi l;obtain⟨cw,d3,bz⟩:=v 8 δ ψ 95 rfl;obtain rfl:cw=rv:=bz;have E:=((aD.refl (fun _=>False) wr).drew).trans B (fun _ _ h=>h);have af:=B5 (D:=fun _ _=>False) (aH HM.out (D':=Dm n0 w' 85) (fun b H=>H.keep E) (dc E _));have bc:=hh af;clear af E;have be:=hh r;clear r;obtain⟨T,d⟩:=y;go_simp;refine bc.out.mono ?_;rintro e w2 ⟨b5,cs,rfl,g1,g2,g3⟩;refine be.out b5 w2 (B.trans g3 (fun _ _ h=>h)) (fun j u h=>?_) (dR pr (D:=fun _ _=>False) (D':=fun _ _=>False) g1 g2 (by obtain⟨_,_,_,_,h,_⟩:=HM.out;exact h) (fun g hg=>by obtain⟨_,h2,h3⟩:=aO g2 hg;exact⟨h2,.inr h3⟩) (fun _ _ _ h=>h) (fun _ h=>False.elim h))
    by_cases hj9:j=9
    ·subst hj9;exact aH (show aN _ _ _ w' u _ from h) (fun b H=>H.keep g3) (dc g3 _)
    ·rw[if_neg hj9]at h⊢; exact h
   | 10,_,l,v,r =>
    obtain rfl:=oi l;obtain⟨cc,di,bl⟩:=v 1 δ ψ 88 rfl;obtain rfl:cc=.slice (some ⟨gd,0,none⟩) P.Q3.length U:=bl;obtain⟨cf,dk,bm⟩:=v 2 δ ψ 89 rfl;obtain rfl:cf=.int .i64 (k:Nat):=bm;obtain⟨T,d⟩:=y;go_simp;exact r (.pointer (some ⟨gd,k*6,none⟩)) _ B (fun _ _ h=>h) rfl
   | 11,_,l,v,r =>
    obtain rfl:=oi l;obtain⟨a7,cy,ac⟩:=v 10 δ ψ 97 rfl;obtain rfl:a7=.pointer (some ⟨gd,k*6,none⟩):=ac;obtain⟨T,d⟩:=y;go_simp;exact r (.pointer (some ⟨gd,k*6+5,none⟩)) _ B (fun _ _ h=>h) rfl
   | i+12,hi,_,_,_=>omega
  ·intro o l y w' B H v
   obtain rfl:=oi l;have a6:y.tmps.size=150:=H.size.trans (by first|assumption|(simp only[Array.size_setIfInBounds];assumption));have O:=H.Q7 V rfl;have X:=H.Q7 Z rfl;obtain⟨cx,d4,L⟩:=v 9 ψ 96 rfl;replace L:aN (Dm n0 w' 85) 4 eW w' cx x.QN:=L;obtain⟨a8,c2,ad⟩:=v 11 ψ 98 rfl;obtain rfl:a8=.pointer (some ⟨gd,k*6+5,none⟩):=ad;obtain⟨T,d⟩:=y;have E:=((aD.refl (fun _=>False) wr).drew).trans B (fun _ _ h=>h);have qq:=a4.out w' B;have qf:=b3.out w' B;have W:=(HC.out.step E).put_subjrules HV.out HX.out L;have bd:=hh W;have HB:=hh H;have HE:=hh L;obtain⟨Am,cm,em,_⟩:=L;subst em;clear W H E B;with_reducible refine st (ln ?_)
   refine⟨HA.out.trans (HB.out.agree (ws:=fun i=>(rg 68 98 i)) δ) ζ,O,bd.out⟩
 ·rintro k b wr b1 ⟨S,V,J⟩
  have Y:=S.size.trans bb;have e1:IntKind.i64.wrap ((k:Int)+1)=((k+1:Nat):Int):=by rw[i64_in _ χ];omega
  have HC:=hh J;have HA:=hh S;clear J S;have c3:aA (fun i=>i==5||i==73||i==74) b b:=aA.refl _ _;obtain⟨T,d⟩:=b;refine rl ?_
  iterate 3 with_reducible refine st ?_
  refine ln ⟨rfl,HA.out.trans (vs:=fun i=>i==5||i==73||i==74) (by exact ag) ζ,?_,HC.out⟩;rw[show((k+1:Nat):Int)=(k:Int)+1 by omega];exact aq
 ·rintro b wr ⟨S,_,J⟩
  exact HQ.out b wr S J
theorem sW{R:Nat→Array Value→Prop}{v2:aR}{P:aC}{x:Ck.eX}{Al:Option Addr}{cl H V:Nat}(X:iS R n0 w0 zq v2 P k x (.slice Al x.QH.length cl) H V w)(a:Act)(af:a.tmps.size=150)(h3:At a 3 (.pointer (some ⟨zq,0,none⟩)))(h6:At a 6 (.int .i64 (k:Nat)))(Q:Exit→Act→World→Prop)
 (hQ:∀B w',aA (fun i=>i==7||(rg 118 148 i)) a B→Cop R n0 w0 zq v2 P w'→Q .normal B w'):(bE Tryz.f10 [1,1,1,1,0,1,0,0,1,0,0,1]).wp Tryz.prog Q a w:=by
 have fk:x.QH.length≤2097152:=by obtain⟨_,_,_,_,h,_⟩:=X.QH;exact h
 have fd:k<P.Q9.length:=(List.getElem?_eq_some_iff.1 X.hx).1;have fl:P.Q9.length≤2097152:=X.len.2;have dk:P.Q9.length≤V:=X.len.1;have HQ:=hh hQ;clear hQ
 conv=>arg 2;whnf
 refine so (fun a1 w1=>aA (fun i=>i==7) a a1∧At a1 7 (.int .i64 0)∧w1=w) ?_ ?_
 ·have be:aA (fun i=>i==7) a a:=aA.refl _ _
  obtain⟨T,d⟩:=a;refine rl ?_;with_reducible refine st ?_
  refine ln ⟨rfl,ag,aq,rfl⟩
 rintro a1 w1 ⟨c9,W,rfl⟩;refine gY x.QH.length (fun j B w'=>aA (fun i=>i==7||(rg 118 148 i)) a B∧At B 7 (.int .i64 (j:Nat))∧iS R n0 w0 zq v2 P k x (.slice Al x.QH.length cl) H V w') (fun j B w'=>aA (fun i=>i==7||(rg 118 148 i)) a B∧At B 7 (.int .i64 (j:Nat))∧iS R n0 w0 zq v2 P k x (.slice Al x.QH.length cl) H V w') (fun a=>match a.eval (.tmp 7)with|.int _ x=>x.toNat|_=>0) ⟨c9.m,W,X⟩ ?_ ?_ ?_ ?_ ?_
 ·rintro j B w' ⟨J,hk,_⟩
  rw[hk.eval (by rw[J.size];omega)];show((j:Nat):Int).toNat=j;omega
 ·rintro j b wr ff ⟨J,W,I⟩
  have Y:=J.size.trans af;have a0:=J.Q7 h3 rfl;have a2:=J.Q7 h6 rfl;have q:wr.cell? ⟨zq,9,none⟩=some (.slice (some ⟨H,0,none⟩) P.Q9.length V):=by rw[cell_of_row _ _ _ _ _ _ I.cell,←I.hv];rfl
  have ql:wr.cell? ⟨H,k*4+3,none⟩=some (.slice Al x.QH.length cl):=I.plan 3 _ rfl;have bl:(decide ((j:Int)<(x.QH.length:Int)))=decide (j<x.QH.length):=ξ
  have HC:=hh I;have HA:=hh J;clear I J;have be:aA (fun i=>rg 118 126 i) b b:=aA.refl _ _;obtain⟨T,d⟩:=b;refine rl ?_
  iterate 9 with_reducible refine st ?_
  refine ln ?_;refine⟨rfl,⟨HA.out.trans (vs:=fun i=>rg 118 126 i) (by exact ag) ζ,ar,HC.out⟩,?_⟩;refine At.eval (i:=126) ?_ (by simp;have:=Y;simp at this;omega)
  first|(exact aq)|(rw[←bl];exact aq)
 ·rintro j b wr bm ⟨J,W,I⟩
  have Y:=J.size.trans af;have a0:=J.Q7 h3 rfl;have a2:=J.Q7 h6 rfl;have q:wr.cell? ⟨zq,9,none⟩=some (.slice (some ⟨H,0,none⟩) P.Q9.length V):=by rw[cell_of_row _ _ _ _ _ _ I.cell,←I.hv];rfl
  have ql:wr.cell? ⟨H,k*4+3,none⟩=some (.slice Al x.QH.length cl):=I.plan 3 _ rfl;obtain⟨y,hy⟩:=ge bm;obtain⟨es,U⟩:=I.Qc;obtain⟨C,rfl⟩:∃C,Al=some ⟨C,0,none⟩:=by obtain⟨g,c,e,_⟩:=U.form χ;exact⟨g,by simp at e;exact e.1⟩
  obtain⟨e8,ad,e9⟩:=aO U (g:=C) rfl;have fe:x.QH.length≤cl:=by obtain⟨_,_,e,h,_⟩:=I.QH;simp at e;omega
  obtain⟨A,c1,e,_,_,hl⟩:=I.QH;obtain⟨rfl,rfl⟩:some ⟨C,0,none⟩=A∧cl=c1:=by simpa using e
  obtain⟨b0,off,e,_,hr⟩:=hl χ;obtain⟨rfl,rfl⟩:C=b0∧0=off:=by simpa using e
  obtain⟨rv,O,bw,_⟩:=hr j y hy;rw[Nat.zero_add]at O;have qm:wr.cell? ⟨C,j*4+3,none⟩=some rv:=O 3 _ rfl;have fz:wr.frozen? ⟨C,j*4+3,none⟩=false:=U.frozenAt _;have dt:=aG I.cell;obtain⟨_,di,_⟩:=I.gty;have bo:Hid (∀w',Kz wr.drew w'→w'.cell? ⟨zq,9,none⟩=some (.slice (some ⟨H,0,none⟩) P.Q9.length V)):=hh fun w' hw=>(hw.cell (p:=⟨zq,9,none⟩) dt (fun x=>x)).trans q
  have bp:Hid (∀w',Kz wr.drew w'→w'.cell? ⟨H,k*4+3,none⟩=some (.slice (some ⟨C,0,none⟩) x.QH.length cl)):=hh fun w' hw=>(hw.cell (p:=⟨H,k*4+3,none⟩) di (fun x=>x)).trans ql
  have bt:Hid (∀w',Kz wr.drew w'→w'.cell? ⟨C,j*4+3,none⟩=some rv):=hh fun w' hw=>(hw.cell (p:=⟨C,j*4+3,none⟩) ad (fun x=>x)).trans qm
  have ds:Hid (∀w',Kz wr.drew w'→w'.frozen? ⟨C,j*4+3,none⟩=false):=hh fun w' hw=>(hw.frozen (p:=⟨C,j*4+3,none⟩) ad (fun x=>x)).trans fz
  have HC:=hh I;have HA:=hh J;have HM:=hh bw;have HY:=hh hy;clear I J U hl hr O bw q ql qm fz hy e;refine cZ 20 (fun jj w_ u_=>if jj=17 then aN (Dx n0 w_ (.slice (some ⟨C,0,none⟩) x.QH.length cl) 108) 4 ec w_ u_ y.runs else u_=([.pointer (some ⟨zq,9,none⟩),.slice (some ⟨H,0,none⟩) P.Q9.length V,.int .i64 (k:Nat),.pointer (some ⟨H,k*4,none⟩),.pointer (some ⟨H,k*4+3,none⟩),.slice (some ⟨C,0,none⟩) x.QH.length cl,.int .i64 (j:Nat),.pointer (some ⟨zq,9,none⟩),.slice (some ⟨H,0,none⟩) P.Q9.length V,.int .i64 (k:Nat),.pointer (some ⟨H,k*4,none⟩),.pointer (some ⟨H,k*4+3,none⟩),.slice (some ⟨C,0,none⟩) x.QH.length cl,.int .i64 (j:Nat),.pointer (some ⟨C,j*4,none⟩),.pointer (some ⟨C,j*4+3,none⟩),rv,undef,.pointer (some ⟨C,j*4,none⟩),.pointer (some ⟨C,j*4+3,none⟩)]:List Value).getD jj undef) (fun w'=>Kz wr.drew w') δ δ (aD.refl _ _) ?_ ?_
  ·intro i o hi l B w' K E N v r
   have bx:B.tmps.size=150:=N.size.trans (by first|assumption|(simp only[Array.size_setIfInBounds];assumption));have Z:=N.Q7 W rfl;have a3:=N.Q7 a0 rfl;have a4:=N.Q7 a2 rfl
   match i,hi,l,v,r with
   | 0,_,l,v,r =>
    obtain rfl:=oi l;obtain⟨T,d⟩:=B;go_simp;exact r (.pointer (some ⟨zq,9,none⟩)) _ E (fun _ _ h=>h) rfl
   | 1,_,l,v,r =>
    obtain rfl:=oi l;obtain⟨d1,eu,cw⟩:=v 0 δ ψ 129 rfl;obtain rfl:d1=.pointer (some ⟨zq,9,none⟩):=cw;have qq:=bo.out w' E;obtain⟨T,d⟩:=B;go_simp;exact r (.slice (some ⟨H,0,none⟩) P.Q9.length V) _ E (fun _ _ h=>h) rfl
   | 2,_,l,v,r =>
    obtain rfl:=oi l;obtain⟨T,d⟩:=B;go_simp;exact r (.int .i64 (k:Nat)) _ E (fun _ _ h=>h) rfl
   | 3,_,l,v,r =>
    obtain rfl:=oi l;obtain⟨d2,ew,cx⟩:=v 1 δ ψ 130 rfl;obtain rfl:d2=.slice (some ⟨H,0,none⟩) P.Q9.length V:=cx;obtain⟨d3,ex,cy⟩:=v 2 δ ψ 131 rfl;obtain rfl:d3=.int .i64 (k:Nat):=cy;obtain⟨T,d⟩:=B;go_simp;exact r (.pointer (some ⟨H,k*4,none⟩)) _ E (fun _ _ h=>h) rfl
   | 4,_,l,v,r =>
    obtain rfl:=oi l;obtain⟨d4,ey,c2⟩:=v 3 δ ψ 132 rfl;obtain rfl:d4=.pointer (some ⟨H,k*4,none⟩):=c2;obtain⟨T,d⟩:=B;go_simp;exact r (.pointer (some ⟨H,k*4+3,none⟩)) _ E (fun _ _ h=>h) rfl
   | 5,_,l,v,r =>
    obtain rfl:=oi l;obtain⟨d5,ez,c3⟩:=v 4 δ ψ 133 rfl;obtain rfl:d5=.pointer (some ⟨H,k*4+3,none⟩):=c3;have qq:=bp.out w' E;obtain⟨T,d⟩:=B;go_simp;exact r (.slice (some ⟨C,0,none⟩) x.QH.length cl) _ E (fun _ _ h=>h) rfl
   | 6,_,l,v,r =>
    obtain rfl:=oi l;obtain⟨T,d⟩:=B;go_simp;exact r (.int .i64 (j:Nat)) _ E (fun _ _ h=>h) rfl
   | 7,_,l,v,r =>
    obtain rfl:=oi l;obtain⟨T,d⟩:=B;go_simp;exact r (.pointer (some ⟨zq,9,none⟩)) _ E (fun _ _ h=>h) rfl
   | 8,_,l,v,r =>
    obtain rfl:=oi l;obtain⟨d8,e5,c6⟩:=v 7 δ ψ 136 rfl;obtain rfl:d8=.pointer (some ⟨zq,9,none⟩):=c6;have qq:=bo.out w' E;obtain⟨T,d⟩:=B;go_simp;exact r (.slice (some ⟨H,0,none⟩) P.Q9.length V) _ E (fun _ _ h=>h) rfl
   | 9,_,l,v,r =>
    obtain rfl:=oi l;obtain⟨T,d⟩:=B;go_simp;exact r (.int .i64 (k:Nat)) _ E (fun _ _ h=>h) rfl
   | 10,_,l,v,r =>
    obtain rfl:=oi l;obtain⟨d9,e6,c7⟩:=v 8 δ ψ 137 rfl;obtain rfl:d9=.slice (some ⟨H,0,none⟩) P.Q9.length V:=c7;obtain⟨ea,e7,c8⟩:=v 9 δ ψ 138 rfl;obtain rfl:ea=.int .i64 (k:Nat):=c8;obtain⟨T,d⟩:=B;go_simp;exact r (.pointer (some ⟨H,k*4,none⟩)) _ E (fun _ _ h=>h) rfl
   | 11,_,l,v,r =>
    obtain rfl:=oi l;obtain⟨bz,eb,a5⟩:=v 10 δ ψ 139 rfl;obtain rfl:bz=.pointer (some ⟨H,k*4,none⟩):=a5;obtain⟨T,d⟩:=B;go_simp;exact r (.pointer (some ⟨H,k*4+3,none⟩)) _ E (fun _ _ h=>h) rfl
   | 12,_,l,v,r =>
    obtain rfl:=oi l;obtain⟨b1,ed,a6⟩:=v 11 δ ψ 140 rfl;obtain rfl:b1=.pointer (some ⟨H,k*4+3,none⟩):=a6;have qq:=bp.out w' E;obtain⟨T,d⟩:=B;go_simp;exact r (.slice (some ⟨C,0,none⟩) x.QH.length cl) _ E (fun _ _ h=>h) rfl
   | 13,_,l,v,r =>
    obtain rfl:=oi l;obtain⟨T,d⟩:=B;go_simp;exact r (.int .i64 (j:Nat)) _ E (fun _ _ h=>h) rfl
   | 14,_,l,v,r =>
    obtain rfl:=oi l;obtain⟨b2,ee,a7⟩:=v 12 δ ψ 141 rfl;obtain rfl:b2=.slice (some ⟨C,0,none⟩) x.QH.length cl:=a7;obtain⟨b3,ef,a8⟩:=v 13 δ ψ 142 rfl;obtain rfl:b3=.int .i64 (j:Nat):=a8;obtain⟨T,d⟩:=B;go_simp;exact r (.pointer (some ⟨C,j*4,none⟩)) _ E (fun _ _ h=>h) rfl
   | 15,_,l,v,r =>
    obtain rfl:=oi l;obtain⟨b4,eg,a9⟩:=v 14 δ ψ 143 rfl;obtain rfl:b4=.pointer (some ⟨C,j*4,none⟩):=a9;obtain⟨T,d⟩:=B;go_simp;exact r (.pointer (some ⟨C,j*4+3,none⟩)) _ E (fun _ _ h=>h) rfl
   | 16,_,l,v,r =>
    obtain rfl:=oi l;obtain⟨b5,en,ba⟩:=v 15 δ ψ 144 rfl;obtain rfl:b5=.pointer (some ⟨C,j*4+3,none⟩):=ba;have qq:=bt.out w' E;obtain⟨T,d⟩:=B;go_simp;exact r (rv) _ E (fun _ _ h=>h) rfl
   | 17,_,l,v,r =>
    obtain rfl:=oi l;obtain⟨cb,eo,bb⟩:=v 16 δ ψ 145 rfl;obtain rfl:cb=rv:=bb;have L:=((aD.refl (fun _=>False) wr).drew).trans E (fun _ _ h=>h);have bf:=B3 (D:=fun _ _=>False) (aH HM.out (D':=Dx n0 w' (.slice (some ⟨C,0,none⟩) x.QH.length cl) 108) (fun b N=>N.keep L) (gL L _));have ci:=hh bf;have fc:C<w'.heap.size:=Nat.lt_of_lt_of_le ad L.size;clear bf L;have cv:=hh r;clear r;obtain⟨T,d⟩:=B;go_simp;refine ci.out.mono ?_;rintro e w2 ⟨d0,cs,rfl,g1,g2,g3⟩;refine cv.out d0 w2 (E.trans g3 (fun _ _ h=>h)) (fun jj u h=>?_) (dR rS (D:=fun _ _=>False) (D':=fun _ _=>False) g1 g2 (by obtain⟨_,_,_,_,h,_⟩:=HM.out;exact h) (fun g hg=>by obtain⟨h1,h2,h3⟩:=aO g2 hg;exact⟨⟨h2,.inr h3⟩,fun e=>by simp[Value.ownBlock]at e;omega⟩) (fun _ _ _ h=>h) (fun _ h=>False.elim h))
    by_cases hj9:jj=17
    ·subst hj9;exact aH (show aN _ _ _ w' u _ from h) (fun b N=>N.keep g3) (gL g3 _)
    ·rw[if_neg hj9]at h⊢; exact h
   | 18,_,l,v,r =>
    obtain rfl:=oi l;obtain⟨d6,e0,c4⟩:=v 5 δ ψ 134 rfl;obtain rfl:d6=.slice (some ⟨C,0,none⟩) x.QH.length cl:=c4;obtain⟨d7,e2,c5⟩:=v 6 δ ψ 135 rfl;obtain rfl:d7=.int .i64 (j:Nat):=c5;obtain⟨T,d⟩:=B;go_simp;exact r (.pointer (some ⟨C,j*4,none⟩)) _ E (fun _ _ h=>h) rfl
   | 19,_,l,v,r =>
    obtain rfl:=oi l;obtain⟨cd,eq,bc⟩:=v 18 δ ψ 147 rfl;obtain rfl:cd=.pointer (some ⟨C,j*4,none⟩):=bc;obtain⟨T,d⟩:=B;go_simp;exact r (.pointer (some ⟨C,j*4+3,none⟩)) _ E (fun _ _ h=>h) rfl
   | i+20,hi,_,_,_=>omega
  ·intro o l B w' E N v
   obtain rfl:=oi l;have bx:B.tmps.size=150:=N.size.trans (by first|assumption|(simp only[Array.size_setIfInBounds];assumption));have Z:=N.Q7 W rfl;have a3:=N.Q7 a0 rfl;have a4:=N.Q7 a2 rfl;obtain⟨cc,ep,S⟩:=v 17 ψ 146 rfl;replace S:aN (Dx n0 w' (.slice (some ⟨C,0,none⟩) x.QH.length cl) 108) 4 ec w' cc y.runs:=S;obtain⟨cf,er,bd⟩:=v 19 ψ 148 rfl;obtain rfl:cf=.pointer (some ⟨C,j*4+3,none⟩):=bd;obtain⟨T,d⟩:=B;have L:=((aD.refl (fun _=>False) wr).drew).trans E (fun _ _ h=>h);have qq:=bt.out w' E;have qf:=ds.out w' E;have ac:=(HC.out.step L).put HY.out S;have cu:=hh ac;have HB:=hh N;obtain⟨Am,cm,em,_⟩:=S;subst em;clear ac N L E;with_reducible refine st (ln ?_)
   refine⟨HA.out.trans (HB.out.agree (ws:=fun i=>rg 118 148 i) δ) ζ,Z,cu.out⟩
 ·rintro j b wr bm ⟨J,W,I⟩
  have Y:=J.size.trans af;have e1:IntKind.i64.wrap ((j:Int)+1)=((j+1:Nat):Int):=by rw[i64_in _ χ];omega
  have HC:=hh I;have HA:=hh J;clear I J;have be:aA (fun i=>i==7||i==127||i==128) b b:=aA.refl _ _;obtain⟨T,d⟩:=b;refine rl ?_
  iterate 3 with_reducible refine st ?_
  refine ln ⟨rfl,HA.out.trans (vs:=fun i=>i==7||i==127||i==128) (by exact ag) ζ,?_,HC.out⟩;rw[show((j+1:Nat):Int)=(j:Int)+1 by omega];exact aq
 ·rintro b wr ⟨J,_,I⟩
  exact HQ.out b wr J I.exit
theorem qu{R:Nat→Array Value→Prop}{v2:aR}{P:aC}(a6:Cop R n0 w0 zq v2 P w)(a:Act)(ad:a.tmps.size=150)(h3:At a 3 (.pointer (some ⟨zq,0,none⟩)))(Q:Exit→Act→World→Prop)
 (hQ:∀r w',aA (fun i=>i==6||i==7||(rg 99 148 i)) a r→Cop R n0 w0 zq v2 P w'→Q .normal r w'):(bE Tryz.f10 [1,1,1,1,0]).wp Tryz.prog Q a w:=by
 have em:P.Q9.length≤2097152:=by obtain⟨_,_,_,_,h,_⟩:=a6.QP.Q9;exact h
 have HQ:=hh hQ;clear hQ
 conv=>arg 2;whnf
 refine so (fun a1 B=>aA (fun i=>i==6) a a1∧At a1 6 (.int .i64 0)∧B=w) ?_ ?_
 ·have a5:aA (fun i=>i==6) a a:=aA.refl _ _
  obtain⟨T,d⟩:=a;refine rl ?_;with_reducible refine st ?_
  refine ln ⟨rfl,ag,aq,rfl⟩
 rintro a1 B ⟨cw,L,rfl⟩;refine gY P.Q9.length (fun k r w'=>aA (fun i=>i==6||i==7||(rg 99 148 i)) a r∧At r 6 (.int .i64 (k:Nat))∧Cop R n0 w0 zq v2 P w') (fun k r w'=>aA (fun i=>i==6||i==7||(rg 99 148 i)) a r∧At r 6 (.int .i64 (k:Nat))∧Cop R n0 w0 zq v2 P w') (fun a=>match a.eval (.tmp 6)with|.int _ x=>x.toNat|_=>0) ⟨cw.m,L,a6⟩ ?_ ?_ ?_ ?_ ?_
 ·rintro k r w' ⟨E,hk,_⟩
  rw[hk.eval (by rw[E.size];omega)];show((k:Nat):Int).toNat=k;omega
 ·rintro k b wr eg ⟨E,L,I⟩
  have X:=E.Q7 h3 rfl;have N:=E.size.trans ad;obtain⟨A0,c0,e0,cy,en,_⟩:=I.QP.Q9;have q:wr.cell? ⟨zq,9,none⟩=some (.slice A0 P.Q9.length c0):=by rw[cell_of_row _ _ _ _ _ _ I.cell,←e0];rfl
  have a9:(decide ((k:Int)<(P.Q9.length:Int)))=decide (k<P.Q9.length):=ξ
  have HC:=hh I;have HA:=hh E;clear I E e0;have a5:aA (fun i=>rg 99 103 i) b b:=aA.refl _ _;obtain⟨T,d⟩:=b;refine rl ?_
  iterate 5 with_reducible refine st ?_
  refine ln ?_;refine⟨rfl,⟨HA.out.trans (vs:=fun i=>rg 99 103 i) (by exact ag) ζ,ar,HC.out⟩,?_⟩;refine At.eval (i:=103) ?_ (by simp;have:=N;simp at this;omega)
  first|(exact aq)|(rw[←a9];exact aq)
 ·rintro k b wr ba ⟨E,L,I⟩
  have X:=E.Q7 h3 rfl;have N:=E.size.trans ad;obtain⟨x,hx⟩:=ge ba;obtain⟨d2,H⟩:=I.QQ.Q9;obtain⟨gd,V,U⟩:∃g c,v2.Q9=.slice (some ⟨g,0,none⟩) P.Q9.length c:=by obtain⟨g,c,e,_⟩:=H.form χ;exact⟨g,c,e⟩
  obtain⟨ee,a8,ef⟩:=aO H (g:=gd) (by rw[U];rfl);have be:=I.QP.Q9;rw[U]at be;obtain⟨A,c1,e,cy,_,hl⟩:=be;obtain⟨rfl,rfl⟩:some ⟨gd,0,none⟩=A∧V=c1:=by simpa using e
  obtain⟨b0,off,e,_,hr⟩:=hl χ;obtain⟨rfl,rfl⟩:gd=b0∧0=off:=by simpa using e
  obtain⟨mv,J,bb,_⟩:=hr k x hx;rw[Nat.zero_add]at J;have q:wr.cell? ⟨zq,9,none⟩=some (.slice (some ⟨gd,0,none⟩) P.Q9.length V):=by rw[cell_of_row _ _ _ _ _ _ I.cell,←U];rfl
  have qm:wr.cell? ⟨gd,k*4+3,none⟩=some mv:=J 3 _ rfl;have fz:wr.frozen? ⟨gd,k*4+3,none⟩=false:=by rw[U]at H;exact H.frozenAt _
  have c3:=aG I.cell;have bc:Hid (∀w',Kz wr.drew w'→w'.cell? ⟨zq,9,none⟩=some (.slice (some ⟨gd,0,none⟩) P.Q9.length V)):=hh fun w' hw=>(hw.cell (p:=⟨zq,9,none⟩) c3 (fun x=>x)).trans q
  have bd:Hid (∀w',Kz wr.drew w'→w'.cell? ⟨gd,k*4+3,none⟩=some mv):=hh fun w' hw=>(hw.cell (p:=⟨gd,k*4+3,none⟩) a8 (fun x=>x)).trans qm
  have c2:Hid (∀w',Kz wr.drew w'→w'.frozen? ⟨gd,k*4+3,none⟩=false):=hh fun w' hw=>(hw.frozen (p:=⟨gd,k*4+3,none⟩) a8 (fun x=>x)).trans fz
  have HC:=hh I;have HA:=hh E;have HM:=hh bb;have HX:=hh hx;have HV:=hh U;clear I E H hl hr J bb q qm fz hx U e;refine so (fun b2 w2=>aA (fun i=>i==7||(rg 99 148 i)) b b2∧∃Al cl,iS R n0 w0 zq v2 P k x (.slice Al x.QH.length cl) gd V w2) ?_ ?_
  ·skip
   refine cZ 12 (fun jj w_ u_=>if jj=9 then∃B cs,Kz wr B∧gX (Dm n0 B 92) 4 (i6 (Dm n0 B)) B x.QH cs∧w_.ownsRow B.heap.size 92 4 u_ x.QH.length cs∧Kz B w_ else u_=([.pointer (some ⟨zq,9,none⟩),.slice (some ⟨gd,0,none⟩) P.Q9.length V,.int .i64 (k:Nat),.pointer (some ⟨zq,9,none⟩),.slice (some ⟨gd,0,none⟩) P.Q9.length V,.int .i64 (k:Nat),.pointer (some ⟨gd,k*4,none⟩),.pointer (some ⟨gd,k*4+3,none⟩),mv,undef,.pointer (some ⟨gd,k*4,none⟩),.pointer (some ⟨gd,k*4+3,none⟩)]:List Value).getD jj undef) (fun w'=>Kz wr.drew w') δ δ (aD.refl _ _) ?_ ?_
   ·intro i o hi l r w' K C S y v
    have bl:r.tmps.size=150:=S.size.trans (by first|assumption|(simp only[Array.size_setIfInBounds];assumption));have a0:=S.Q7 L rfl;have af:=S.Q7 X rfl
    match i,hi,l,y,v with
    | 0,_,l,y,v =>
     obtain rfl:=oi l;obtain⟨T,d⟩:=r;go_simp;exact v (.pointer (some ⟨zq,9,none⟩)) _ C (fun _ _ h=>h) rfl
    | 1,_,l,y,v =>
     obtain rfl:=oi l;obtain⟨c5,d3,b4⟩:=y 0 δ ψ 106 rfl;obtain rfl:c5=.pointer (some ⟨zq,9,none⟩):=b4;have qq:=bc.out w' C;obtain⟨T,d⟩:=r;go_simp;exact v (.slice (some ⟨gd,0,none⟩) P.Q9.length V) _ C (fun _ _ h=>h) rfl
    | 2,_,l,y,v =>
     obtain rfl:=oi l;obtain⟨T,d⟩:=r;go_simp;exact v (.int .i64 (k:Nat)) _ C (fun _ _ h=>h) rfl
    | 3,_,l,y,v =>
     obtain rfl:=oi l;obtain⟨T,d⟩:=r;go_simp;exact v (.pointer (some ⟨zq,9,none⟩)) _ C (fun _ _ h=>h) rfl
    | 4,_,l,y,v =>
     obtain rfl:=oi l;obtain⟨c8,d6,cc⟩:=y 3 δ ψ 109 rfl;obtain rfl:c8=.pointer (some ⟨zq,9,none⟩):=cc;have qq:=bc.out w' C;obtain⟨T,d⟩:=r;go_simp;exact v (.slice (some ⟨gd,0,none⟩) P.Q9.length V) _ C (fun _ _ h=>h) rfl
    | 5,_,l,y,v =>
     obtain rfl:=oi l;obtain⟨T,d⟩:=r;go_simp;exact v (.int .i64 (k:Nat)) _ C (fun _ _ h=>h) rfl
    | 6,_,l,y,v =>
     obtain rfl:=oi l;obtain⟨c9,d7,cf⟩:=y 4 δ ψ 110 rfl;obtain rfl:c9=.slice (some ⟨gd,0,none⟩) P.Q9.length V:=cf;obtain⟨di,d8,ci⟩:=y 5 δ ψ 111 rfl;obtain rfl:di=.int .i64 (k:Nat):=ci;obtain⟨T,d⟩:=r;go_simp;exact v (.pointer (some ⟨gd,k*4,none⟩)) _ C (fun _ _ h=>h) rfl
    | 7,_,l,y,v =>
     obtain rfl:=oi l;obtain⟨dk,d9,cp⟩:=y 6 δ ψ 112 rfl;obtain rfl:dk=.pointer (some ⟨gd,k*4,none⟩):=cp;obtain⟨T,d⟩:=r;go_simp;exact v (.pointer (some ⟨gd,k*4+3,none⟩)) _ C (fun _ _ h=>h) rfl
    | 8,_,l,y,v =>
     obtain rfl:=oi l;obtain⟨ds,ea,cu⟩:=y 7 δ ψ 113 rfl;obtain rfl:ds=.pointer (some ⟨gd,k*4+3,none⟩):=cu;have qq:=bd.out w' C;obtain⟨T,d⟩:=r;go_simp;exact v (mv) _ C (fun _ _ h=>h) rfl
    | 9,_,l,y,v =>
     obtain rfl:=oi l;obtain⟨dt,eb,cv⟩:=y 8 δ ψ 114 rfl;obtain rfl:dt=mv:=cv;have O:=((aD.refl (fun _=>False) wr).drew).trans C (fun _ _ h=>h);have a7:=B4 (D:=Dm n0 w') (fD.same HM.out (D0':=Dm n0 w' 92) (D':=Dm n0 w') (fun b S=>S.keep O) (dc O _) (fun T _ b S=>S.keep O) (fun T _=>dc O T));have bw:=hh a7;have b1:=hh O;clear a7 O;have bz:=hh v;clear v;obtain⟨T,d⟩:=r;go_simp;refine bw.out.mono ?_;rintro e w2 ⟨c4,cs,rfl,g1,g2,g3⟩;refine bz.out c4 w2 (C.trans g3 (fun _ _ h=>h)) (fun j u h=>?_) ⟨w',cs,b1.out,g1,g2,g3⟩
     by_cases hj9:j=9
     ·subst hj9
      obtain⟨B,cs,h1,h2,h3,h4⟩:∃B cs,Kz wr B∧gX (Dm n0 B 92) 4 (i6 (Dm n0 B)) B x.QH cs∧w'.ownsRow B.heap.size 92 4 u x.QH.length cs∧Kz B w':=h;exact⟨B,cs,h1,h2,aV h3 g3 (fun _ _ x=>x),h4.trans g3 (fun _ _ h=>h)⟩
     ·rw[if_neg hj9]at h⊢; exact h
    | 10,_,l,y,v =>
     obtain rfl:=oi l;obtain⟨c6,d4,b5⟩:=y 1 δ ψ 107 rfl;obtain rfl:c6=.slice (some ⟨gd,0,none⟩) P.Q9.length V:=b5;obtain⟨c7,d5,cb⟩:=y 2 δ ψ 108 rfl;obtain rfl:c7=.int .i64 (k:Nat):=cb;obtain⟨T,d⟩:=r;go_simp;exact v (.pointer (some ⟨gd,k*4,none⟩)) _ C (fun _ _ h=>h) rfl
    | 11,_,l,y,v =>
     obtain rfl:=oi l;obtain⟨bo,d0,a2⟩:=y 10 δ ψ 116 rfl;obtain rfl:bo=.pointer (some ⟨gd,k*4,none⟩):=a2;obtain⟨T,d⟩:=r;go_simp;exact v (.pointer (some ⟨gd,k*4+3,none⟩)) _ C (fun _ _ h=>h) rfl
    | i+12,hi,_,_,_=>omega
   ·intro o l r w' C S y
    obtain rfl:=oi l;have bl:r.tmps.size=150:=S.size.trans (by first|assumption|(simp only[Array.size_setIfInBounds];assumption));have a0:=S.Q7 L rfl;have af:=S.Q7 X rfl;obtain⟨bt,ed,ac⟩:=y 9 ψ 115 rfl;replace ac:∃B cs,Kz wr B∧gX (Dm n0 B 92) 4 (i6 (Dm n0 B)) B x.QH cs∧w'.ownsRow B.heap.size 92 4 bt x.QH.length cs∧Kz B w':=ac;obtain⟨bp,d1,a3⟩:=y 11 ψ 117 rfl;obtain rfl:bp=.pointer (some ⟨gd,k*4+3,none⟩):=a3;obtain⟨T,d⟩:=r;have qq:=bd.out w' C;have qf:=c2.out w' C;obtain⟨B,cs,g1,g2,g3,g4⟩:=ac;obtain⟨Am,cm,rfl⟩:∃A c,bt=.slice A x.QH.length c:=by
     rcases g3.2 with⟨e1,e2⟩|⟨g,c,_,e1,_⟩
     ·exact⟨none,0,by rw[e1,e2]⟩
     ·exact⟨_,c,e1⟩
    have Y:=(HC.out.step g1).inner HV.out HX.out g2 g3 g4;have bx:=hh Y;have HB:=hh S;clear Y S C g1 g2 g3 g4;with_reducible refine st (ln ?_)
    exact⟨rfl,HB.out.agree δ,Am,cm,bx.out⟩
  rintro b2 w2 ⟨W,Al,cl,hI⟩;have bm:=W.Q7 X rfl;have Z:=W.Q7 L rfl;have bf:=W.size.trans N;refine sW hI b2 bf bm Z _ fun b3 w3 a4 cx=>?_
  exact⟨(HA.out.t W).t a4,a4.Q7 Z rfl,cx⟩
 ·rintro k b wr ba ⟨E,L,I⟩
  have N:=E.size.trans ad;have e1:IntKind.i64.wrap ((k:Int)+1)=((k+1:Nat):Int):=by rw[i64_in _ χ];omega
  have HC:=hh I;have HA:=hh E;clear I E;have a5:aA (fun i=>i==6||i==104||i==105) b b:=aA.refl _ _;obtain⟨T,d⟩:=b;refine rl ?_
  iterate 3 with_reducible refine st ?_
  refine ln ⟨rfl,HA.out.trans (vs:=fun i=>i==6||i==104||i==105) (by exact ag) ζ,?_,HC.out⟩;rw[show((k+1:Nat):Int)=(k:Int)+1 by omega];exact aq
 ·rintro b wr ⟨E,_,I⟩
  exact HQ.out b wr E I
theorem fb.ones{D:cH}{v:aR}{P:aC}(h:fb D w v P):(v.cells P).toArray.all (·.oneCell')=true:=
 oa v P fun u d=>by
  simp only[List.mem_cons,List.mem_nil_iff,or_false]at d
  rcases d with rfl|rfl|rfl|rfl|rfl|rfl|rfl|rfl|rfl|rfl|rfl|rfl
  ·exact aY h.QG
  ·exact aY h.Q4
  ·exact aY h.Q5
  ·exact aY h.Q3
  ·exact aY h.Q8
  ·exact aY h.QJ
  ·exact aY h.QC
  ·exact aY h.Q9
  ·exact aY h.QB
  ·exact aY h.QE
  ·exact aY h.QA
  ·exact aY h.QD
theorem uJ{R0:Nat→Array Value→Prop}{v:aR}{P:aC}(hp:ao B w0 v P)(hB:B≤w0.heap.size)(a0:Kz w0 w)(af:∀z c,R0 z c→w.heap[z]?=some (.cells c 34 (0,0))):
 Calls Tryz.prog 10 #[.agg (v.cells P).toArray] w fun e w'=>∃v',e=.returned (.agg (v'.cells P).toArray)∧fb (Dm w0.heap.size w') w' v' P∧uU w0.heap.size w' v' P∧Kz w0 w'∧∀z c,R0 z c→w'.heap[z]?=some (.cells c 34 (0,0)):=by
 have bo:=a0.size;have HP:=hh hp;refine b9 Tryz.func10 Tryz.ntmps10 rfl (by show 1≤150;decide) fun a be hd h=>?_
 have h0:At a 0 (.agg #[.int .i64 P.pos,.string P.name,v.QG,v.Q4,v.Q5,v.Q3,v.Q8,v.QJ,v.QC,v.Q9,v.QB,v.QE,v.QA,v.QD]):=h 0 _ rfl;clear h hp
 conv=>arg 2;whnf
 refine so (fun K D=>aA (fun i=>i==1||i==2) a K∧At K 1 (.pointer (some ⟨w.heap.size,0,none⟩))∧At K 2 (.pointer (some ⟨w.heap.size+1,0,none⟩))∧D=(w.alloc (.cells #[.int .i64 P.pos,.string P.name,v.QG,v.Q4,v.Q5,v.Q3,v.Q8,v.QJ,v.QC,v.Q9,v.QB,v.QE,v.QA,v.QD] 34)).alloc (.cells #[.int .i64 0,.string { data := #[] },.slice none 0 0,.slice none 0 0,.slice none 0 0,.slice none 0 0,.slice none 0 0,.slice none 0 0,.slice none 0 0,.slice none 0 0,.slice none 0 0,.slice none 0 0,.slice none 0 0,.slice none 0 0] 34)) ?_ ?_
 ·have bm:aA (fun i=>i==1||i==2) a a:=aA.refl _ _
  obtain⟨T,d⟩:=a;refine rl ?_
  iterate 2 with_reducible refine st ?_
  refine ln ⟨rfl,ag,aq,aq,rfl⟩
 rintro K D ⟨E,h1,L,C⟩;replace h0:=E.Q7 h0 rfl;have Z:=E.size.trans be;have bc:=E.defers.trans hd;have a1:Kz w D:=by rw[C];exact((aD.refl _ _).alloc _).alloc _
 have hz:D.heap[w.heap.size]?=some (.cells (v.cells P).toArray 34 (0,0)):=by rw[C,heap_alloc_old _ _ ξ];exact heap_alloc_new _ _
 have hr:D.heap[w.heap.size+1]?=some (.cells #[.int .i64 0,.string { data := #[] },.slice none 0 0,.slice none 0 0,.slice none 0 0,.slice none 0 0,.slice none 0 0,.slice none 0 0,.slice none 0 0,.slice none 0 0,.slice none 0 0,.slice none 0 0,.slice none 0 0,.slice none 0 0] 34 (0,0)):=by rw[C];exact heap_alloc2_new _ _ _
 clear C h0;refine wp_seq (qv (R:=fun z c=>(z=w.heap.size+1∧c = #[.int .i64 0,.string { data := #[] },.slice none 0 0,.slice none 0 0,.slice none 0 0,.slice none 0 0,.slice none 0 0,.slice none 0 0,.slice none 0 0,.slice none 0 0,.slice none 0 0,.slice none 0 0,.slice none 0 0,.slice none 0 0])∨R0 z c) HP.out hB (a0.trans a1 fun _ _ e=>e) (fun z c h=>h.elim (fun⟨e1,e2⟩=>by subst e1;subst e2;exact hr) fun h=>(a1.block z (aG (af z c h)) fun e=>e).trans (af z c h)) hz K Z h1 _ fun a2 w2 zq O ac N a7 _=>?_);have W:=ac.size.trans Z;have ba:=ac.defers.trans bc;replace L:=ac.Q7 L rfl;refine wp_seq (oX a7 a2 W N _ fun a3 w3 Q a8=>?_);replace N:=Q.Q7 N rfl;replace L:=Q.Q7 L rfl;have X:=Q.size.trans W;refine wp_seq (mi a8 a3 X N _ fun a4 w4 S a9=>?_);replace N:=S.Q7 N rfl;replace L:=S.Q7 L rfl;have Y:=S.size.trans X;refine wp_seq (qu a9 a4 Y N _ fun a5 I U H=>?_);replace N:=U.Q7 N rfl;replace L:=U.Q7 L rfl;have bl:=U.size.trans Y;have bb:=U.defers.trans (S.defers.trans (Q.defers.trans ba));have J:=H.res _ _ (.inl ⟨rfl,rfl⟩);refine so (fun a6 w6=>aA (fun i=>i==149) a5 a6∧w6=I.setRow (w.heap.size+1) (O.cells P).toArray) ?_ ?_
 ·refine rl ?_
  refine wpList_load_row rfl 34 (.tmp 3) rfl zq (N.eval χ) 34 (O.cells P).toArray (0,0) _ H.cell Tryz.underlying34 rfl Tryz.info34C ?_;refine wpList_store_row rfl 34 (.tmp 2) (.tmp 149) rfl (w.heap.size+1) (O.cells P).toArray ((L.put_ne ψ).eval (by simp[Act.put];omega)) (At.eval At.put_self (by simp[Act.put];omega)) 34 _ J Tryz.info34C rfl H.QP.ones (ln ⟨rfl,?_,rfl⟩);exact(aA.refl _ _).put rfl _
 rintro a6 w6 ⟨ad,rfl⟩;have q:=l8 (cs:=(O.cells P).toArray) J;have x:cD I (w.heap.size+1)=some 34:=by unfold cD;rw[J]
 have bf:∀k,cD (I.setRow (w.heap.size+1) (O.cells P).toArray) k=cD I k:=fun k=>by
  by_cases e:k=w.heap.size+1
  ·subst e;unfold cD;rw[setRow_heap I _ _ _ _ _ J,J]
  ·unfold cD;rw[setRow_other I _ k _ e]
 have bd:∀T b,T≠34→Dm w0.heap.size I T b→b≠w.heap.size+1:=fun T b V j=>j.ne χ x V
 have l:∀T b,Dm w0.heap.size I T b→Dm w0.heap.size (I.setRow (w.heap.size+1) (O.cells P).toArray) T b:=fun T b j=>⟨Nat.lt_of_lt_of_le j.1 q.size,j.2.imp id fun e=>(bf b).trans e⟩
 have r:∀T,T≠34→ah (Dm w0.heap.size I T) I (I.setRow (w.heap.size+1) (O.cells P).toArray):=fun T V=>ah.of_keep q fun b j=>⟨j.1,bd T b V j⟩
 have u:=H.QP;have y:=H.QQ;refine wp_ret ?_
 repeat (first|with_reducible apply b7|with_reducible apply bH)
 refine bodyPost_ret (v := .agg (O.cells P).toArray) (results_cell_row (p:=2) (ty:=34) rfl _ _ (w.heap.size+1) 34 (O.cells P).toArray (0,0) _ (((ad.Q7 L rfl).eval (by rw[ad.size];omega))) (setRow_heap I _ _ _ _ _ J) Tryz.underlying34 rfl Tryz.info34C) (ad.defers.trans bb) ?_;refine⟨O,rfl,⟨aH u.QG (fun b j=>l _ b j) (r _ ψ),bv.same u.Q4 (fun b j=>l _ b j) (r _ ψ) (fun T _ b j=>l T b j) (fun T V=>r T (by subst V;decide)),aH u.Q5 (fun b j=>l _ b j) (r _ ψ),bI.same u.Q3 (fun b j=>l _ b j) (r _ ψ) (fun T _ b j=>l T b j) (fun T V=>r T (by rcases V with rfl|rfl<;>decide)),aH u.Q8 (fun b j=>l _ b j) (r _ ψ),aH u.QJ (fun b j=>l _ b j) (r _ ψ),aH u.QC (fun b j=>l _ b j) (r _ ψ),cE.same u.Q9 (fun b j=>l _ b j) (r _ ψ) (fun T _ b j=>l T b j) (fun T V=>r T (by rcases V with rfl|rfl<;>decide)),aH u.QB (fun b j=>l _ b j) (r _ ψ),aH u.QE (fun b j=>l _ b j) (r _ ψ),aH u.QA (fun b j=>l _ b j) (r _ ψ),aH u.QD (fun b j=>l _ b j) (r _ ψ),u.pos,u.name⟩,⟨let⟨cs,hcs⟩:=y.QG;⟨cs,aV hcs q (fun g A e=>by have:=(aO hcs A).2.2;rw[e,x]at this;exact absurd (Option.some.inj this) ψ)⟩,let⟨cs,hcs⟩:=y.Q4;⟨cs,aV hcs q (fun g A e=>by have:=(aO hcs A).2.2;rw[e,x]at this;exact absurd (Option.some.inj this) ψ)⟩,let⟨cs,hcs⟩:=y.Q5;⟨cs,aV hcs q (fun g A e=>by have:=(aO hcs A).2.2;rw[e,x]at this;exact absurd (Option.some.inj this) ψ)⟩,let⟨cs,hcs⟩:=y.Q3;⟨cs,aV hcs q (fun g A e=>by have:=(aO hcs A).2.2;rw[e,x]at this;exact absurd (Option.some.inj this) ψ)⟩,let⟨cs,hcs⟩:=y.Q8;⟨cs,aV hcs q (fun g A e=>by have:=(aO hcs A).2.2;rw[e,x]at this;exact absurd (Option.some.inj this) ψ)⟩,let⟨cs,hcs⟩:=y.QJ;⟨cs,aV hcs q (fun g A e=>by have:=(aO hcs A).2.2;rw[e,x]at this;exact absurd (Option.some.inj this) ψ)⟩,let⟨cs,hcs⟩:=y.QC;⟨cs,aV hcs q (fun g A e=>by have:=(aO hcs A).2.2;rw[e,x]at this;exact absurd (Option.some.inj this) ψ)⟩,let⟨cs,hcs⟩:=y.Q9;⟨cs,aV hcs q (fun g A e=>by have:=(aO hcs A).2.2;rw[e,x]at this;exact absurd (Option.some.inj this) ψ)⟩,let⟨cs,hcs⟩:=y.QB;⟨cs,aV hcs q (fun g A e=>by have:=(aO hcs A).2.2;rw[e,x]at this;exact absurd (Option.some.inj this) ψ)⟩,let⟨cs,hcs⟩:=y.QE;⟨cs,aV hcs q (fun g A e=>by have:=(aO hcs A).2.2;rw[e,x]at this;exact absurd (Option.some.inj this) ψ)⟩,let⟨cs,hcs⟩:=y.QA;⟨cs,aV hcs q (fun g A e=>by have:=(aO hcs A).2.2;rw[e,x]at this;exact absurd (Option.some.inj this) ψ)⟩,let⟨cs,hcs⟩:=y.QD;⟨cs,aV hcs q (fun g A e=>by have:=(aO hcs A).2.2;rw[e,x]at this;exact absurd (Option.some.inj this) ψ)⟩⟩,H.keep.trans q (fun i hi e=>χ),fun z c h=>(setRow_other I _ z _ (fun e=>by have:=aG (af z c h);omega)).trans (H.res z c (.inr h))⟩
end Go.Proofs.YtpblcjipmoblnaaGreatDoor
namespace Go.Proofs.YtpblcjipmoblnaaGreatDoor
open Go.RowKit Go.IntWalk
variable {QU:Nat→Nat} {w:World}
def iv(QU:Nat→Nat)(b:Nat):Nat:=if 127<b then 0 else QU b
theorem qN(h:oz QU w)(b:Nat)(x:b<256):
 Calls Tryz.prog 152 #[.int .u8 b] w fun e w'=>e=.returned (.int .u8 (iv QU b))∧w'=w:=by
 unfold iv
 by_cases h1:127<b
 ·have g:decide ((127:Int)<(b:Int))=true:=η
  go_enter Tryz.func152,Tryz.ntmps152
  go_wp2
  go_ret
  exact⟨by simp[h1],rfl⟩
 ·have g:decide ((127:Int)<(b:Int))=false:=η
  have u:(b:Int)<128:=χ
  have l:b<128:=χ
  have p:=h b l;have v:¬ ((127:Int)<(b:Int)):=χ
  obtain⟨r,d⟩:∃n,n=QU b:=⟨_,rfl⟩;rw[←d]at p;have j:=hh d;have q:=hh h1;clear h d h1 g
  go_enter Tryz.func152,Tryz.ntmps152
  go_wp2
  go_ret
  exact⟨by rw[←j.out];rfl,rfl⟩
def kS(QU:Nat→Nat)(b:Nat):Bool:=decide (iv QU b=3)||decide (iv QU b=4)
theorem xU(h:oz QU w)(b:Nat)(p:b<256):
 Calls Tryz.prog 156 #[.int .u8 b] w fun e w'=>e=.returned (.bool (kS QU b))∧w'=w:=by
 have d:=qN h b p;unfold kS
 generalize iv QU b=c at d⊢
 clear h
 by_cases h3:c=3
 ·subst h3
  go_enter Tryz.func156,Tryz.ntmps156
  go_wp2_with (go_at_call 152;refine d.mono ?_;rintro e w' ⟨rfl,rfl⟩)
  go_ret
  exact⟨ξ,rfl⟩
 ·obtain⟨t,g⟩:∃t,decide (c=4)=t:=⟨_,rfl⟩
  have e3:((c:Int)==3)=false:=η
  have e4:((c:Int)==4)=t:=by rw[←g];exact eQ c 4
  have j:Hid (decide (c=3)=false):=hh (decide_eq_false h3);have l:=hh g;clear h3 g
  go_enter Tryz.func156,Tryz.ntmps156
  go_wp2_with (go_at_call 152;refine d.mono ?_;rintro e w' ⟨rfl,rfl⟩)
  go_ret
  exact⟨by rw[l.out,j.out];rfl,rfl⟩
def ku(QU:Nat→Nat)(x:Nat):Bool:=decide (127<x) || !kS QU x
theorem rO(h:oz QU w)(x:Nat)(hx:x≤1114111):
 Calls Tryz.prog 155 #[.int .i32 x] w fun e w'=>e=.returned (.bool (ku QU x))∧w'=w:=by
 unfold ku
 by_cases h1:127<x
 ·have g:(127:Int)<(x:Int):=χ
  have H:Hid ((decide (127<x) || !kS QU x)=true):=hh (by simp[h1]);clear h
  go_enter Tryz.func155,Tryz.ntmps155
  go_wp2
  go_ret
  exact⟨by rw[H.out];rfl,rfl⟩
 ·have g:¬ ((127:Int)<(x:Int)):=χ
  have d:=xU h x χ;have H:Hid ((decide (127<x) || !kS QU x)=!kS QU x):=hh (by simp[h1]);have j:IntKind.u8.wrap (x:Int)=(x:Int):=u8_in _ χ;rw[H.out]
  generalize kS QU x=b at d⊢
  clear h h1
  go_enter Tryz.func155,Tryz.ntmps155
  go_wp2_with (go_at_call 156;refine d.mono ?_;rintro e w' ⟨rfl,rfl⟩)
  go_ret
  exact⟨rfl,rfl⟩
