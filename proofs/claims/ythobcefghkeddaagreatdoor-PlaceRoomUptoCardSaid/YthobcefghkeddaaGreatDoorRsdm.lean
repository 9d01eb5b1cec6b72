import Derived.Test.YthobcefghkeddaaGreatDoorRsvf
import Derived.Deep.LoopGhost
set_option maxRecDepth 100000
set_option linter.all false
set_option maxHeartbeats 4000000
namespace Go.Proofs.YthobcefghkeddaaGreatDoor
namespace Rs
open Go.RowKit
variable {P:Program} {a:Act} {w:World} {N:Nat}
theorem Aq{Q:Exit→Act→World→Prop}{id:Nat}{rest:List Code}(h:Q (.exit id) a w):wpL P Q (Code.exit id::rest) a w:=wp_exit h
theorem Dh{Q:Exit→Act→World→Prop}{id:Nat}{l rest:List Code}(d:l.isEmpty=true)(h:wpL P Q rest a w):wpL P (Exit.inBlock id (Exit.then (wpL P Q rest) Q)) l a w:=cM d h
def wlB(E0:List (Nat×Nat×IE×Nat×Nat))(m kk:Nat)(FR:Fr)(M:Mm):Bool:=mJ (lo m) M&&(vZ E0 m kk&&FR.all fun x=>x.2.sc kk)
theorem D3{ε:Type}{S:Sta}{κ:Kap}{N:Nat}{P:Program}{C:Ctx}{H:Gh}{b l:Nat}{F0:Fr}{M:Mm}{K:List Nat}{body:Code}{Q:Exit→Act→World→Prop}{h:Act}{j:World}(E0:List (Nat×Nat×IE×Nat×Nat))(d:Now S κ N P C H ⟨F0,M,l,K⟩ h j)(hE:C.EL=E0)(m:Nat)(FR:Fr)(ws:Nat→Bool)(D:ε→Sta)(μ:ε→Nat)(W:ε→World→Prop)
 (st:∀e w w',Kz w w'→W e w→W e w')(u:ε)(hI:W u j)(L:Has (S.put m (D u)) κ N FR h)(I:wlB E0 m l FR M=true)
 (round:∀e a w,Now (S.put m (D e)) κ N P { EL:=E0 } (Gh.of H.T (W e) (st e)) ⟨FR,M,l,[]⟩ a w→aE ws h a→aD H.T j w →
  wpL P (fun x q w'=>match x with
   | .normal=>∃e' κ',μ e'<μ e∧W e' w'∧cU l κ κ'∧Has (S.put m (D e')) κ' N FR q∧aE ws h q∧aD H.T j w'
   | x=>Exit.inBlock b Q x q w') (flat body) a w):(Code.block b (Code.loop body)).wp P Q h j:=by
 simp only[wlB,Bool.and_eq_true]at I;obtain⟨y,B,E⟩:=I;refine wp_block (wp_loop_ghost (fun n a w=>∃e,μ e=n∧W e w∧Has (S.put m (D e)) κ N FR a∧aE ws h a∧aD H.T j w) (μ u) ⟨u,rfl,hI,L,aE.refl _ _,aD.refl _ _⟩ ?_);rintro n a w ⟨e,rfl,hi,hh,Z,v⟩;have n1:Now (S.put m (D e)) κ N P { EL:=E0 } (Gh.of H.T (W e) (st e)) ⟨FR,M,l,[]⟩ a w:=
  ⟨hh,(d.mem.on (aQ S m _) y).keep v,mX d.ctx hE B (aQ S m _),fun g hg=>Θ (d.tb g hg) v.size,hi⟩
 refine wp_mono (aY (round e a w n1 Z v)) fun x q w' J=>?_
 cases x with
 | normal =>
  obtain⟨e',κ',O,R,U,V,X,Y⟩:=J;exact⟨μ e',O,e',rfl,R,V.back U E,X,Y⟩
 | _=>exact J
theorem Now.base{S:Sta}{κ:Kap}{C:Ctx}{H:Gh}{F:Fr}{M:Mm}{d:Nat}{E:List Nat}(h:Now S κ N P C H ⟨F,M,d,E⟩ a w)(g o:Nat)(cl:List Cl)(J:g<w.heap.size∧¬ H.T g)(hc:aL w g o (cl.map (Cl.den S fun _=>(0,0))))(ELn:List (Nat×Nat×IE×Nat×Nat))
 (Q:(St.sc ⟨F,M,d,E⟩&&(C.sc d&&(cl.all (Cl.sc 0)&&ELn.all fun x=>Nat.beq x.2.2.2.2 d)))=true)(I:∀x∈ELn,0≤x.2.2.1.den S∧x.2.2.1.den S<S.n x.2.2.2.1∧∃v D,S.a x.1=some ⟨v,D,none⟩∧(g,o)=(v,D+(x.2.2.1.den S).toNat*x.2.1)):
 ∃κ',cU d κ κ'∧κ' d=(g,o)∧Now S κ' N P { C with EL:=ELn++C.EL } H ⟨F,(d,cl)::M,d+1,E⟩ a w:=by
 simp only[Bool.and_eq_true]at Q;obtain⟨X,Y,Z,h4⟩:=Q
 let κ':Kap:=fun r=>if r=d then(g,o)else κ r
 have R:cU d κ κ':=fun r O=>if_neg χ
 have K:κ' d=(g,o):=if_pos rfl;have j:=h.upto R X Y;refine⟨κ',R,K,j.has,⟨fun r l B=>?_⟩,⟨j.ctx.fa,?_,j.ctx.ct,j.ctx.et,j.ctx.gm,j.ctx.sl⟩,h.tb,h.gh⟩
 ·rw[cL]at B
  split at B
  ·rename_i e
   subst e;obtain rfl:=ι B;rw[K];refine⟨J,fun q c L=>hc q _ ?_⟩;rw[List.getElem?_map,L];show some (Cl.den S (fun _=>(0,0)) c)=_;rw[Cl.sc_ok (k:=0) (κ:=κ') (κ':=fun _=>(0,0)) (fun r O=>absurd O χ) (υ.1 Z c (γ L))]
  ·exact j.mem.get r l B
 ·intro y u
  rcases Ω.1 u with u|u
  ·obtain⟨U,V,v,D,e3,e4⟩:=I y u
   have W:=π (υ.1 h4 y u);exact⟨U,V,v,D,e3,by rw[W,K];exact e4⟩
  ·exact j.ctx.el y u
theorem Now.setH{S:Sta}{κ:Kap}{C:Ctx}{H:Gh}{s:St}(h:Now S κ N P C H s a w)(H':Gh)(q:∀g,H'.T g↔H.T g)(e':List Nat)(d:H'.G e' w):Now S κ N P { EL:=C.EL } H' ⟨s.F,s.M,s.k,e'⟩ a w:=
 ⟨h.has,⟨fun r l j=>⟨⟨((h.mem.get r l j)).1.1,fun e=>(h.mem.get r l j).1.2 ((q _).1 e)⟩,(h.mem.get r l j).2⟩⟩,⟨ξ,h.ctx.el,ξ,ξ,(fun _ _ _ _ r l h=>by cases h),ξ⟩,fun g d=>h.tb g ((q g).1 d),d⟩
def Gh.two(T:Nat→Prop)(W0 W1:World→Prop)(s0:∀w w',Kz w w'→W0 w→W0 w')(s1:∀w w',Kz w w'→W1 w→W1 w'):Gh:=
 ⟨T,fun e=>match e with | []=>W0|_=>W1,fun e=>match e with | []=>s0|_::_=>s1⟩
end Rs
namespace Rs
open Go.RowKit
variable {w:World} {N:Nat} {P:Program} {a:Act}
theorem New.put{T:Nat→Prop}{κ':Kap}{k k':Nat}{w':World}(h:New T κ' k k' w w')(b:Nat)(cs:Array Value):New T κ' k k' w (w'.setRow b cs):=fun r q u=>by
 obtain⟨g,j,⟨xs,E,d⟩,l⟩:=h r q u;refine⟨g,j,?_,l⟩
 by_cases e:(κ' r).1=b
 ·rw[e]at d⊢
  exact⟨cs,E,setRow_heap w' b xs cs E (0,0) d⟩
 ·exact⟨xs,E,(setRow_other w' b _ cs e).trans d⟩
theorem kR{cs:Array Value}{i j:Nat}{vs:List Value}(h:i+vs.length≤cs.size):(bk cs i vs)[j]?=if j<i then cs[j]? else if j<i+vs.length then vs[j-i]? else cs[j]?:=by
 unfold bk;rw[List.getElem?_toArray,List.append_assoc]
 by_cases h1:j<i
 ·rw[if_pos h1,List.getElem?_append_left η,List.getElem?_take_of_lt h1,Array.getElem?_toList]
 ·rw[if_neg h1,List.getElem?_append_right η]
  have d:(List.take i cs.toList).length=i:=η
  rw[d]
  by_cases h2:j<i+vs.length
  ·rw[if_pos h2,List.getElem?_append_left χ]
  ·rw[if_neg h2,List.getElem?_append_right χ,List.getElem?_drop,Array.getElem?_toList]
   congr 1
   omega
def sBl(P:Program)(C:Ctx)(CL:Kn)(N:Nat)(ops l0:List Oper)(s:St)(i r:Nat)(qs:List Nat)(ws:Nat→Bool)(F':Fr)(M':Mm)(k':Nat)(e':List Nat):Bool:=
 match stX P C CL N ops l0.length (l0.take i) s,l0[i]? with
 | some s1,some ⟨none,.store E x y,_,_,_,none⟩ =>
  match ev s1.F x,ev s1.F y with
  | some (.one (.p r' o)),some v =>
   match gi v,gm s1.M r' with
   | some l,some cl=>Nat.beq r' r&&(Nat.beq (P.cellsOf E) l.length&&(Nat.ble 1 l.length&&(Nat.ble (o+l.length) cl.length&&(Nat.ble (r+1) s1.k&&(pK CL s.k&&((s1.M.all fun x=>Nat.beq x.1 r||(Nat.ble s.k x.1&&Nat.ble (x.1+1) s1.k||qs.any (Nat.beq x.1)))&&(qs.all (fun q=>Nat.ble (q+1) s.k)&&(((s1.F.take (s1.F.length-s.F.length)).all fun z=>ws z.1) &&
    gH ((stX P { EL:=C.EL,FA:=C.FA } CL N ops l0.length (l0.drop (i+1)) ⟨s1.F,(r,cl.take o++(l++cl.drop (o+l.length)))::s1.M,s1.k,s1.e⟩).map fun s=>(.n,s)) ⟨s1.F,(r,cl.take o++(l++cl.drop (o+l.length)))::s1.M,s1.k,s1.e⟩ .n ws F' M' k' e'))))))))
   | _,_=>false
  | _,_=>false
 | _,_=>false
def sB(P:Program)(C:Ctx)(CL:Kn)(N:Nat)(ops:List Oper):=sBl P C CL N ops ops
def Bh(P:Program)(C:Ctx)(CL:Kn)(N:Nat)(ops l0:List Oper)(s:St)(i:Nat):Nat:=
 match stX P C CL N ops l0.length (l0.take i) s,l0[i]? with
 | some s1,some ⟨none,.store _ x y,_,_,_,none⟩ =>
  match ev s1.F x,ev s1.F y with
  | some (.one (.p _ o)),some v =>
   match gi v with
   | some l=>o+l.length
   | _=>0
  | _,_=>0
 | _,_=>0
def sBL(P:Program)(C:Ctx)(CL:Kn)(N:Nat)(ops:List Oper):=Bh P C CL N ops ops
theorem DT{S:Sta}{C:Ctx}{H:Gh}{CL:Kn}{ops L m0:List Oper}{Q:Exit→Act→World→Prop}{s:St}{κ:Kap}(i r:Nat)(qs:List Nat)(ws:Nat→Bool)(F':Fr)(M':Mm)(k':Nat)(e':List Nat)
 (U:sBl P C CL N ops L s i r qs ws F' M' k' e'=true)(hn:Now S κ N P C H s a w)(ac:∀o∈L,o∈ops)(hL:gQ S κ P ops CL)(R:r<s.k→∃cs E0,w.heap[(κ r).1]?=some (.cells cs E0 (0,0)))(hq:∀q∈qs,(κ q).1<w.heap.size∧(r<s.k→(κ q).1≠(κ r).1))
 (hH:∀b e w w',¬ H.T b→aD (fun g=>g=b) w w'→H.G e w→H.G e w')
 (hQ:∀κ' a' w',Now S κ' N P { EL:=C.EL,FA:=C.FA } H ⟨F',M',k',e'⟩ a' w'→cU s.k κ κ'→aD (fun g=>H.T g∨g=(κ' r).1) w w'→aE ws a a'→New H.T κ' s.k k' w w'→(∃cs E0,w'.heap[(κ' r).1]?=some (.cells cs E0 (0,0))) →
  (r<s.k→∀j,j<(κ r).2∨(κ r).2+Bh P C CL N ops L s i≤j→w'.cell? ⟨(κ r).1,j,none⟩=w.cell? ⟨(κ r).1,j,none⟩)→wpList P ops.toArray Q m0 a' w'):wpList P ops.toArray Q (L++m0) a w:=by
 unfold sBl at U;split at U
 ·rename_i s1 E x y t1 t2 t3 a3 a4
  split at U
  ·rename_i r' o v hx hy
   split at U
   ·rename_i l cl hl be
    simp only[Bool.and_eq_true]at U;obtain⟨q1,q2,q3,q4,q5,q6,q7,q8,q9,Z⟩:=U;have q1:=π q1;have q2:=π q2;have q3:=ω q3;have q4:=ω q4;have q5:=ω q5;subst q1;obtain⟨bf,bm⟩:=ο.1 a4;have W:L++m0=L.take i++(L[i]::(L.drop (i+1)++m0)):=by
     rw[←List.cons_append,←List.drop_eq_getElem_cons bf,←List.append_assoc,List.take_append_drop]
    have a5:wpList P ops.toArray Q (L.take i++(L[i]::(L.drop (i+1)++m0))) a w:=by
     refine jN a3 hn hL q6 (fun o ho=>ac o (List.mem_of_mem_take ho)) fun B a1 w1 X D=>?_
     rw[bm];refine bF rfl fun K hK=>?_
     obtain⟨⟨ad,I⟩,al⟩:=X.mem.get r' cl be;have a0:∃cs E0,w1.heap[(B r').1]?=some (.cells cs E0 (0,0)):=by
      rcases Ψ r' s.k with c|c
      ·obtain⟨cs,E0,h⟩:=R c
       rw[D.upto r' c]at I⊢;exact⟨cs,E0,(D.keep.block _ (fh h) I).trans h⟩
      ·exact(D.new r' c q5).2.2.1
     obtain⟨cs,E0,c1⟩:=a0;have af:∀j c,cl[j]?=some c→cs[(B r').2+j]?=some (c.den S B):=fun j c J=>by
      have:=al j c J
      simpa[World.cell?,c1]using this
     have bw:(B r').2+cl.length≤cs.size:=by
      have:cl[cl.length-1]?=some cl[cl.length-1]:=Ez χ;have:=(ϱ.1 (af _ _ this)).1;omega
     obtain⟨d1,d2⟩:=iE hl S B;have ex:a1.eval x=.pointer (some ⟨(B r').1,(B r').2+o,none⟩):=X.has.ev hx;have u:(l.map (Cl.den S B)).length=l.length:=List.length_map _;have:=cY (P:=P) (o:=⟨none,.store E x y,t1,t2,t3,none⟩) (a:=a1) (w:=w1) rfl ex (by rw[X.has.ev hy];exact d1) d2 (by rw[u];exact q2) (by rw[u];omega) c1 (by rw[u];omega);unfold Oper.wp;rw[this];have V:aD (fun g=>g=(B r').1) w1 (w1.setRow (B r').1 (bk cs ((B r').2+o) (l.map (Cl.den S B)))):=ch _ _ _ rfl;have bl:∀q m,gm s1.M q=some m→q≠r'→(B q).1≠(B r').1:=fun q m hm a8=>by
      have O:=υ.1 q7 _ (gI hm);simp only[Bool.or_eq_true,Bool.and_eq_true]at O
      rcases O with O|⟨O,h2⟩|O
      ·exact absurd (π O) a8
      ·have O:=ω O
       have h2:=ω h2
       rcases Ψ r' s.k with c|c
       ·obtain⟨xs,F0,h⟩:=R c
        have h3:=fh h;have h4:=(D.new q O h2).1.1;rw[D.upto r' c];omega
       ·obtain⟨_,_,_,o1⟩:=D.new q O h2
        obtain⟨_,_,_,o2⟩:=D.new r' c q5
        rcases Nat.lt_trichotomy q r' with d|d|d
        ·have:=o2 q O d;omega
        ·exact absurd d a8
        ·have:=o1 r' c d;omega
      ·obtain⟨q0,a6,an⟩:=List.any_eq_true.1 O
       have an:=π an;subst an;obtain⟨h3,h4⟩:=hq q a6;have h5:=ω (υ.1 q8 q a6);rw[D.upto q h5]
       rcases Ψ r' s.k with c|c
       ·rw[D.upto r' c];exact h4 c
       ·have:=(D.new r' c q5).1.1
        omega
     have n2:Now S B N P { EL:=C.EL,FA:=C.FA } H ⟨s1.F,(r',cl.take o++(l++cl.drop (o+l.length)))::s1.M,s1.k,s1.e⟩ a1 (w1.setRow (B r').1 (bk cs ((B r').2+o) (l.map (Cl.den S B)))):=by
      refine⟨X.has,⟨fun q m hm=>?_⟩,⟨X.ctx.fa,X.ctx.el,ξ,ξ,(fun _ _ _ _ r l h=>by cases h),ξ⟩,fun g hg=>by rw[setRow_size];exact X.tb g hg,hH _ _ _ _ I V X.gh⟩;rw[cL]at hm;split at hm
      ·rename_i e
       subst e;obtain rfl:=ι hm;refine⟨⟨by rw[setRow_size];exact ad,I⟩,fun j c J=>?_⟩;refine ji (setRow_heap w1 _ _ _ E0 (0,0) c1) ?_;rw[kR (by rw[u];omega),u]
       by_cases c3:j<o
       ·rw[if_pos χ]
        rw[List.getElem?_append_left η,List.getElem?_take_of_lt c3]at J;exact af j c J
       ·rw[if_neg χ]
        have ht:(cl.take o).length=o:=η
        rw[List.getElem?_append_right χ,ht]at J
        by_cases c4:j<o+l.length
        ·rw[if_pos χ]
         rw[List.getElem?_append_left χ]at J;rw[show(B r').2+j-((B r').2+o)=j-o by omega,List.getElem?_map,J];rfl
        ·rw[if_neg χ]
         rw[List.getElem?_append_right χ,List.getElem?_drop,show o+l.length+(j-o-l.length)=j by omega]at J;exact af j c J
      ·rename_i e
       obtain⟨⟨m1,m2⟩,m3⟩:=X.mem.get q m hm;refine⟨⟨by rw[setRow_size];exact m1,m2⟩,fun j c J=>?_⟩;have h7:=bl q m hm fun h=>e h.symm
       exact(V.cell (p:=⟨_,_,none⟩) m1 h7).trans (m3 j c J)
     refine hK _ _ ?_
     cases e:stX P { EL:=C.EL,FA:=C.FA } CL N ops L.length (L.drop (i+1)) ⟨s1.F,(r',cl.take o++(l++cl.drop (o+l.length)))::s1.M,s1.k,s1.e⟩with
     | none=>rw[e]at Z;cases Z
     | some s2 =>
      rw[e]at Z;have bc:=hL.upto q6 D.upto;have bb:=mZ D.le q6;exact jN (m:=m0) (Q:=Q) e n2 bc bb (fun o ho=>ac o (List.mem_of_mem_drop ho)) fun κ2 a2 w3 n3 g2=>(by
       obtain⟨_,_,n5,Y⟩:=fO Z n3 g2;obtain⟨lw,ew,bg⟩:=D.agree;have bd:aE ws a a1:=bg.mono fun t ht=>by
        rw[ew]at q9;have:(lw++s.F).length-s.F.length=lw.length:=ξ
        rw[this,List.take_left]at q9;obtain⟨z,hz,bt⟩:=List.any_eq_true.1 ht;rw[←π bt];exact υ.1 q9 z hz
       have a9:κ2 r'=B r':=Y.upto r' q5;have bo:cU s.k κ κ2:=fun q a7=>(Y.upto q (Θ a7 D.le)).trans (D.upto q a7)
       refine hQ κ2 a2 w3 n5 bo ?_ (bd.trans Y.agree fun _ h=>h) ((D.new.put _ _).trans Y.new Y.upto Y.keep (Δ D.keep.size V.size)) (by rw[a9];exact⟨_,_,(Y.keep.block _ (by rw[setRow_size];exact ad) I).trans (setRow_heap w1 _ _ _ E0 (0,0) c1)⟩) (fun c j J=>?_)
       ·rw[a9]
        exact((D.keep.mono fun _ _ h =>.inl h).trans (V.mono fun _ _ h =>.inr h) fun _ _ h=>h).trans (Y.keep.mono fun _ _ h =>.inl h) fun _ _ h=>h
       ·have hu:=D.upto r' c
        rw[←hu]at J⊢;have bs:=(Y.keep.block _ (by rw[setRow_size];exact ad) I).trans (setRow_heap w1 _ _ _ E0 (0,0) c1);have bp:w.heap[(B r').1]?=some (.cells cs E0 (0,0)):=by
         obtain⟨xs,F0,h⟩:=R c;rw[←hu]at h;exact(D.keep.block _ (fh h) I).symm.trans c1
        have hL:Bh P C CL N ops L s i=o+l.length:=by
         unfold Bh;simp only[a3,a4,hx,hy,hl]
        rw[hL]at J;rw[cell_of_row _ _ _ _ _ _ bs,cell_of_row _ _ _ _ _ _ bp,kR (by rw[u];omega),u];split
        ·rfl
        ·rw[if_neg χ])
    rw[W];exact a5
   ·cases U
  ·cases U
 ·cases U
theorem ED{S:Sta}{C:Ctx}{H:Gh}{CL:Kn}{id:Nat}{ops:Array Oper}{rest:List Code}{Q:Exit→Act→World→Prop}{s:St}{κ:Kap}(i r:Nat)(v:List Nat)(ws:Nat→Bool)(F':Fr)(M':Mm)(k':Nat)(e':List Nat)
 (B:sB P C CL N ops.toList s i r v ws F' M' k' e'=true)(J:Now S κ N P C H s a w)(E:gQ S κ P ops.toList CL)(l:r<s.k→∃cs E0,w.heap[(κ r).1]?=some (.cells cs E0 (0,0)))(K:∀q∈v,(κ q).1<w.heap.size∧(r<s.k→(κ q).1≠(κ r).1))
 (D:∀b e w w',¬ H.T b→aD (fun g=>g=b) w w'→H.G e w→H.G e w')
 (I:∀κ' d w',Now S κ' N P { EL:=C.EL,FA:=C.FA } H ⟨F',M',k',e'⟩ d w'→cU s.k κ κ'→aD (fun g=>H.T g∨g=(κ' r).1) w w'→aE ws a d→New H.T κ' s.k k' w w'→(∃cs E0,w'.heap[(κ' r).1]?=some (.cells cs E0 (0,0))) →
  (r<s.k→∀j,j<(κ r).2∨(κ r).2+sBL P C CL N ops.toList s i≤j→w'.cell? ⟨(κ r).1,j,none⟩=w.cell? ⟨(κ r).1,j,none⟩)→wpL P Q rest d w'):wpL P Q (Code.region id ops false::rest) a w:=by
 show(Code.region id ops false).wp P (Exit.then (wpL P Q rest) Q) a w;refine wp_region_list ?_;have:=DT (ops:=ops.toList) (m0:=[]) (Q:=Exit.then (wpL P Q rest) Q) i r v ws F' M' k' e' B J (fun _ h=>h) E l K D fun κ' d w' n u k g z y x=>ln (I κ' d w' n u k g z y x)
 simpa using this
theorem lr{S:Sta}{C:Ctx}{H:Gh}{CL:Kn}{id:Nat}{ops:Array Oper}{rest:List Code}{Q:Exit→Act→World→Prop}{s:St}{κ:Kap}(i r:Nat)(j:List Nat)(ws:Nat→Bool)(F':Fr)(M':Mm)(k':Nat)(e':List Nat)
 (l:sB P C CL N ops.toList s i r j ws F' M' k' e'=true)(D:Now S κ N P C H s a w)(x:gQ S κ P ops.toList CL)(h:r<s.k→∃cs E0,w.heap[(κ r).1]?=some (.cells cs E0 (0,0)))(E:∀q∈j,(κ q).1<w.heap.size∧(r<s.k→(κ q).1≠(κ r).1))
 (v:∀b e w w',¬ H.T b→aD (fun g=>g=b) w w'→H.G e w→H.G e w')
 (B:∀κ' d w',Now S κ' N P { EL:=C.EL,FA:=C.FA } H ⟨F',M',k',e'⟩ d w'→cU s.k κ κ'→aD (fun g=>H.T g∨g=(κ' r).1) w w'→aE ws a d→New H.T κ' s.k k' w w'→(∃cs E0,w'.heap[(κ' r).1]?=some (.cells cs E0 (0,0)))→wpL P Q rest d w'):wpL P Q (Code.region id ops false::rest) a w:=
 ED i r j ws F' M' k' e' l D x h E v fun κ' d w' n u k g z y _=>B κ' d w' n u k g z y
def xBl(P:Program)(C:Ctx)(CL:Kn)(N:Nat)(ops l0:List Oper)(s:St)(ws:Nat→Bool)(F':Fr)(M':Mm)(k':Nat)(e':List Nat):Bool:=
 pK CL s.k&&gH ((stX P C CL N ops l0.length l0 s).map fun s=>(.n,s)) s .n ws F' M' k' e'
theorem AU{S:Sta}{N:Nat}{P:Program}{C:Ctx}{H:Gh}{CL:Kn}{ops h m0:List Oper}{Q:Exit→Act→World→Prop}{s:St}{κ:Kap}{a:Act}{w:World}(ws:Nat→Bool)(F':Fr)(M':Mm)(k':Nat)(e':List Nat)
 (l:xBl P C CL N ops h s ws F' M' k' e'=true)(y:Now S κ N P C H s a w)(g:∀o∈h,o∈ops)(v:gQ S κ P ops CL)(x:∀κ' d w',Now S κ' N P C H ⟨F',M',k',e'⟩ d w'→kj H.T κ κ' s.k k' ws a d w w'→wpList P ops.toArray Q m0 d w'):wpList P ops.toArray Q (h++m0) a w:=by
 unfold xBl at l;rw[Bool.and_eq_true]at l;obtain⟨u,j⟩:=l
 cases e:stX P C CL N ops h.length h s with
 | none=>rw[e]at j;cases j
 | some s1 =>
  rw[e]at j;refine jN e y v u g fun κ' d w' B q=>?_
  obtain⟨_,_,D,E⟩:=fO j B q;exact x κ' d w' D E
end Rs
namespace Rs
open Go.RowKit
def wT(l:List Oper)(c:Nat)(af:Array Edge)(x:Operand):Bool:=(List.range c).all fun j=>match x with
 | .tmp t =>!(aN l j==some t)||af.any fun e=>Region.binds .any e&&e.on==j
 | _=>true
theorem Co{l:List Oper}{c:Nat}{d:Array Edge}{x:Operand}(h:wT l c d x=true){j t:Nat}(q:j<c)(u:x=.tmp t)(g:aN l j=some t):(d.any fun e=>Region.binds .any e&&e.on==j)=true:=by
 subst u;have:=υ.1 h j (List.mem_range.2 q)
 simpa[g]using this
def b2B(P:Program)(C:Ctx)(N:Nat)(l:List Oper)(s:St)(c d1 d2:Nat)(l1 l2:List Cl)(F1:Fr)(M':Mm):Bool:=
 iz l (c+4)&&(tP (l.take c) c&&((((l.drop c).all fun o=>o.guard.isNone&&match o.dst with|some d=>(gt s.F d).isNone|none=>true)) &&
  (match l.drop c,drL P C N (l.take c) (l.take c) s with
  | [⟨some e1,.alloc E1,_,_,_,_⟩,⟨some e2,.alloc E2,_,_,_,_⟩,⟨none,.store E3 (.tmp e3) x1,_,_,a3,_⟩,⟨none,.store E4 (.tmp e4) x2,_,_,a4,_⟩],some s1 =>
   Nat.beq e1 d1&&(Nat.beq e2 d2&&(Nat.beq E1 E3&&(Nat.beq E2 E4&&(Nat.beq e3 d1&&(Nat.beq e4 d2&&(Nat.ble (d1+1) N&&(Nat.ble (d2+1) N&&(!Nat.beq d1 d2 &&
    (((a3.any fun e=>Region.binds .any e&&e.on==c)&&((a4.any fun e=>Region.binds .any e&&e.on==c+1)&&(wT l c a3 x1&&wT l c a4 x2))) &&
    (((ev s1.F x1).bind gi).any (kE l1)&&(((ev s1.F x2).bind gi).any (kE l2)&&((match x1 with|.tmp t=>(gt s1.F t).isSome|_=>false)&&((match x2 with|.tmp t=>(gt s1.F t).isSome|_=>false) &&
    (((yz P E1).any fun z=>Nat.beq z.length l1.length)&&(((yz P E2).any fun z=>Nat.beq z.length l2.length)&&(Nat.beq (P.cellsOf E1) l1.length&&(Nat.beq (P.cellsOf E2) l2.length&&(Nat.ble 1 l1.length&&(Nat.ble 1 l2.length &&
    (gJ s1.F F1&&(qb s1.M M'&&(l1.all (Cl.sc s.k)&&(l2.all (Cl.sc s.k)&&F1.all fun x=>x.2.sc s.k)))))))))))))))))))))))
  | _,_=>false)&&(s.sc&&C.sc s.k)))
structure B2 (S:Sta) (κ:Kap) (w0:World) (c d1 d2:Nat) (l1 l2 o1 o2:List Value) (done:Nat→Bool) (a:Act) (w:World):Prop where
 keep:Kz w0 w
 c1:done (c+2)=true→done c=true
 c2:done (c+3)=true→done (c+1)=true
 box:∃z1 z2,(done c=true→a.tmps[d1]?=some (.pointer (some ⟨z1,0,none⟩))∧w0.heap.size≤z1∧Row w z1 (if done (c+2)=true then l1 else o1)) ∧
  (done (c+1)=true→a.tmps[d2]?=some (.pointer (some ⟨z2,0,none⟩))∧w0.heap.size≤z2∧Row w z2 (if done (c+3)=true then l2 else o2))∧(done c=true→done (c+1)=true→z1≠z2)
theorem Row.alloc{w:World}{b:Nat}{vs:List Value}(h:Row w b vs)(o:Obj):Row (w.alloc o) b vs:=h.keep (T:=fun _=>False) ((aD.refl _ _).alloc _) id
theorem qq{P:Program}{o:Oper}{E:TypeId}(j:o.op=.alloc E){z:Value}(l:((P.info? E).bind (·.zero))=some z)(a:Act)(w:World):(execOp a.eval o).run P w=.ok (.value (.pointer (some ⟨w.heap.size,0,none⟩))) (w.alloc (.cells z.cells E)):=by
 obtain⟨dst,op,ty,pos,q,g⟩:=o;simp only at j;subst j;obtain⟨i,hi,d⟩:=Option.bind_eq_some_iff.1 l;have h:(zeroValue E).run P w=.ok z w:=by simp[zeroValue,run_typeInfo (P:=P) _ hi,d]
 simp[execOp,Instr.alloc,h,eT]
theorem wP(w:World)(cs:Array Value)(E:TypeId):Row (w.alloc (.cells cs E)) w.heap.size cs.toList:=⟨[],E,by rw[List.append_nil];exact heap_alloc_new _ _⟩
section
variable {S:Sta} {N:Nat} {P:Program} {C:Ctx} {H:Gh} {id:Nat} {ops:Array Oper} {rest:List Code} {Q:Exit→Act→World→Prop} {s:St} {κ:Kap} {a:Act} {w:World}
theorem EI(c d1 d2:Nat)(l1 l2:List Cl)(F1:Fr)(M':Mm)(hP:P.follows .mixedOrders=true)(hB:b2B P C N ops.toList s c d1 d2 l1 l2 F1 M'=true)(hn:Now S κ N P C H s a w)
 (hQ:∀κ' I w',Now S κ' N P { EL:=C.EL,FA:=C.FA } H ⟨(d1,.one (.p s.k 0))::(d2,.one (.p (s.k+1) 0))::F1,(s.k,l1)::(s.k+1,l2)::M',s.k+2,s.e⟩ I w'→cU s.k κ κ'→Kz w w'→I.defers=a.defers →
  w.heap.size≤(κ' s.k).1∧(κ' s.k).2=0∧Row w' (κ' s.k).1 (l1.map (Cl.den S κ'))→w.heap.size≤(κ' (s.k+1)).1∧(κ' (s.k+1)).2=0∧Row w' (κ' (s.k+1)).1 (l2.map (Cl.den S κ'))→(κ' s.k).1≠(κ' (s.k+1)).1→wpL P Q rest I w'):wpL P Q (Code.region id ops true::rest) a w:=by
 obtain⟨l,hl⟩:∃l,l=ops.toList:=⟨_,rfl⟩;obtain rfl:ops=l.toArray:=by rw[hl]
 rw[←hl]at hB;clear hl;show(Code.region id l.toArray true).wp P (Exit.then (wpL P Q rest) Q) a w;simp only[b2B,Bool.and_eq_true]at hB;obtain⟨hT,cd,⟨b3,hm⟩,b4⟩:=hB;have bs:=hT;simp only[iz,Bool.and_eq_true,decide_eq_true_eq]at bs;obtain⟨⟨b0,cb⟩,cc⟩:=bs;split at hm
 ·rename_i e1 E1 d7 d8 d9 g1 e2 E2 ea eb ec g2 E3 e3 x1 dk ds a3 g3 E4 e4 x2 dt d0 a4 g4 s1 O hr
  simp only[Bool.and_eq_true]at hm;obtain⟨q1,q2,q3,q4,q5,q6,q7,q8,q9,bd,cw,cx,cy,c3,c4,c5,bl,bm,b5,b6,c6,c7,c8,c9,di⟩:=hm;have q1:=π q1;have q2:=π q2;have q3:=π q3;have q4:=π q4;have q5:=π q5;have q6:=π q6;have q7:=ω q7;have q8:=ω q8;have q9:d1≠d2:=fun e=>by subst e;simp at q9
  have bl:=π bl;have bm:=π bm;have b5:=ω b5;have b6:=ω b6;have q5:=q5.symm;have q6:=q6.symm;subst q1 q2 q3 q4 q5 q6;have get:∀(k:Nat) (o:Oper),(l.drop c)[k]?=some o→l[c+k]?=some o:=fun k o h=>by rwa[List.getElem?_drop]at h
  have o0:=get 0 _ (by rw[O];rfl);have o1:=get 1 _ (by rw[O];rfl);have o2:=get 2 _ (by rw[O];rfl);have o3:=get 3 _ (by rw[O];rfl);rw[Nat.add_zero]at o0;obtain⟨opq,be⟩:=A8 (q:=fun o=>o.guard.isNone) b3;have QX:=lg cb;have D:DrP S κ N P C l (c+4) c s s1 a:=⟨hr,χ,χ,QX,fR b0 cc,opq,hn.has⟩;have dc:aN l c=some e1:=by unfold aN;rw[o0];rfl
  have ca:aN l (c+1)=some e2:=by unfold aN;rw[o1];rfl
  obtain⟨ed,cu,af⟩:=(Option.any_eq_true _ _).1 c4;obtain⟨ee,cv,al⟩:=(Option.any_eq_true _ _).1 c5;obtain⟨z1,cm,rfl⟩:=Option.map_eq_some_iff.1 cu;obtain⟨z2,cp,rfl⟩:=Option.map_eq_some_iff.1 cv;have af:=π af;have al:=π al;rw[List.length_map]at af al;have cf:Kz w w.drew:=(aD.refl _ _).drew
  -- a a6 of the first operations,iQ all of them have run
  have a6:∀{I:Act} {w':World} {x:Operand} {lx:List Cl},fJ l (c+4) a I→((ev s1.F x).bind gi).any (kE lx)=true→(match x with|.tmp t=>(gt s1.F t).isSome|_=>false)=true→(∀j,j<c→∀d,x=.tmp d→aN l j=some d→∃v,At I d v∧Val S κ l s1 j v) →
   (I.eval x).cells=(lx.map (Cl.den S κ)).toArray∧∀u∈lx.map (Cl.den S κ),u.oneCell'=true:=fun{I w' x lx} hb h1 h2 hv=>by
   obtain⟨lv,h3,h4⟩:=(Option.any_eq_true _ _).1 h1;obtain⟨v,h5,h6⟩:=Option.bind_eq_some_iff.1 h3;obtain rfl:=gq h4;split at h2
   ·rename_i t
    have hF:Has S κ N [(t,v)] I:=D.frame (p:=fun j=>decide (j<c)&&aN l j==some t) _ hb (fun t' v' a9=>by
     rw[ba]at a9;split at a9
     ·rename_i e
      subst e;obtain rfl:=ι a9;refine⟨h5,?_⟩
      cases e:dY l t with
      | false=>exact .inl rfl
      | true =>
       obtain⟨i,hi,a0⟩:=bh.1 e
       rcases Ψ i c with h|h
       ·exact .inr ⟨i,χ,a0,by simp[h,a0]⟩
       ·rw[show gt s1.F t=some v from h5]at h2
        have:=D.none h χ a0;rw[show gt s1.F t=some v from h5]at this
        cases this
     ·cases a9) fun j X Z d W=>by
      simp only[Bool.and_eq_true,beq_iff_eq]at X;have e:=X.2.symm.trans W;obtain rfl:=ι e;exact hv j Z t rfl W
    have h7:I.eval (.tmp t)=v.den S κ:=hF.ev (x := .tmp t) (by show gt [(t,v)] t=some v;rw[ba,if_pos rfl]);rw[h7];exact iE h6 S κ
   ·cases h2
  refine iw (c+4) (fun done I w'=>B2 S κ w c e1 e2 (l1.map (Cl.den S κ)) (l2.map (Cl.den S κ)) z1.cells.toList z2.cells.toList done I w') (fun j _ v=>j<c→Val S κ l s1 j v) hP hT ⟨cf,(fun h=>by cases h),(fun h=>by cases h),0,0,(fun h=>by cases h),(fun h=>by cases h),fun h=>by cases h⟩ ?_ ?_
  ·intro i o hi ho done I w' K an R hI E ad hK
   obtain⟨k0,bb,bc,b1,b2,J,L,Y⟩:=hI;have B:∀q,q≠i→(q==i||done q)=done q:=fun q hq=>by rw[beq_false_of_ne hq,Bool.false_or]
   have a5:∀j,done j=true→j<c→∀d,aN l j=some d→∃v,At I d v∧Val S κ l s1 j v:=fun j X Z d W=>by
    obtain⟨v,h1,h2⟩:=ad j X χ d W;exact⟨v,h1,h2 Z⟩
   rcases Ψ i c with a7|a7
   ·obtain⟨p1,p2⟩:=D.first E
    refine DrC.step (D.dr E) (H:=H) (w:=w) ⟨p1,hn.mem,hn.ctx,hn.tb,hn.gh⟩ a7 ho k0 p2 (fun j X Z d W=>a5 j (R j X) Z d W) (fun j=>?_) (nY cd (γ (i:=i) (by rw[List.getElem?_take_of_lt a7];exact ho))) fun v d3 hw hv=>hK v d3 ?_ (fun _ _ _ h=>h) fun _=>hv
    ·rcases Ψ j c with h|h
     ·exact .inl (cF h).symm
     ·exact .inr h
    ·have a8:∀d,(∃q,q≥c∧q<c+4∧aN l q=some d)→(I.put o.dst v).tmps[d]?=I.tmps[d]?:=fun d ⟨q,h1,h2,h3⟩=>by
      cases W:o.dst with
      | none=>rfl
      | some d' =>
       have:d'≠d:=fun e=>by
        subst e;have:=QX i q d' hi h2 (by unfold aN;rw[ho];exact W) h3;omega
       simp only[Act.put];rw[Array.getElem?_setIfInBounds_ne this]
     refine⟨k0.trans hw fun _ _ e=>e,?_,?_,b1,b2,?_,?_,?_⟩
     ·rw[B _ χ,B _ χ];exact bb
     ·rw[B _ χ,B _ χ];exact bc
     ·rw[B _ χ,B _ χ,a8 e1 ⟨c,χ,χ,dc⟩]
      exact fun h=>⟨(J h).1,(J h).2.1,(J h).2.2.keep hw fun h=>h⟩
     ·rw[B _ χ,B _ χ,a8 e2 ⟨c+1,χ,χ,ca⟩]
      exact fun h=>⟨(L h).1,(L h).2.1,(L h).2.2.keep hw fun h=>h⟩
     ·rw[B _ χ,B _ χ];exact Y
   ·rw[if_pos (by unfold Region.wanted;rw[Option.isNone_iff_eq_none.1 (be i o a7 ho)])]
    have d4:I.tmps.size=N:=E.size.trans hn.has.size
    rcases(show c=i∨i=c+1∨i=c+2∨i=c+3 by omega)with rfl|rfl|rfl|rfl
    ·-- the first variable
     rw[o0]at ho;obtain rfl:=ι ho;unfold Oper.wp;rw[qq rfl cm I w'];have a1:done (c+2)=false:=by cases e:done (c+2)with|false=>rfl|true=>rw[bb e]at an;cases an
     refine hK _ _ ⟨k0.trans ((aD.refl _ _).alloc _) fun _ _ e=>e,?_,?_,w'.heap.size,b2,fun _=>⟨?_,k0.size,?_⟩,?_,?_⟩ (fun _ _ _ h=>h) fun h=>χ
     ·rw[B (c+2) χ,a1];exact fun h=>by cases h
     ·rw[B _ χ,B _ χ];exact bc
     ·simp only[Act.put]
      rw[Array.getElem?_setIfInBounds_self_of_lt χ]
     ·rw[B (c+2) χ,a1]
      exact wP _ _ _
     ·rw[B _ χ,B _ χ]
      intro h;obtain⟨m1,m2,m3⟩:=L h;refine⟨?_,m2,m3.alloc _⟩;simp only[Act.put];rw[Array.getElem?_setIfInBounds_ne q9];exact m1
     ·rw[B (c+1) χ]
      intro _ h;have:=(L h).2.2.lt;omega
    ·rw[o1]at ho
     obtain rfl:=ι ho;unfold Oper.wp;rw[qq rfl cp I w'];have a1:done (c+3)=false:=by cases e:done (c+3)with|false=>rfl|true=>rw[bc e]at an;cases an
     refine hK _ _ ⟨k0.trans ((aD.refl _ _).alloc _) fun _ _ e=>e,?_,?_,b1,w'.heap.size,?_,fun _=>⟨?_,k0.size,?_⟩,?_⟩ (fun _ _ _ h=>h) fun h=>χ
     ·rw[B _ χ,B _ χ];exact bb
     ·rw[B (c+3) χ,a1];exact fun h=>by cases h
     ·rw[B _ χ,B _ χ]
      intro h;obtain⟨m1,m2,m3⟩:=J h;refine⟨?_,m2,m3.alloc _⟩;simp only[Act.put];rw[Array.getElem?_setIfInBounds_ne q9.symm];exact m1
     ·simp only[Act.put]
      rw[Array.getElem?_setIfInBounds_self_of_lt χ]
     ·rw[B (c+3) χ,a1]
      exact wP _ _ _
     ·rw[B c χ]
      intro h _;have:=(J h).2.2.lt;omega
    ·rw[o2]at ho
     obtain rfl:=ι ho;have y:=R c bd.1;obtain⟨m1,m2,m3⟩:=J y;rw[if_neg (by rw[an];simp)]at m3;obtain⟨bo,bp⟩:=a6 (w':=w') E cw cy fun j X d hx W=>a5 j (R j (Co bd.2.2.1 X hx W)) X d W
     obtain⟨cs,E0,r1,r2,r3⟩:=m3.all (vs:=l1.map (Cl.den S κ)) (by rw[List.length_map,Array.length_toList,←af,Array.length_toList]);have ex:I.eval (.tmp e1)=.pointer (some ⟨b1,0,none⟩):=by
      show I.tmps.getD e1 undef=_;rw[Array.getD_eq_getD_getElem?,m1];rfl
     have a2:=cY (P:=P) (o:=⟨none,.store E1 (.tmp e1) x1,dk,ds,a3,g3⟩) (a:=I) (w:=w') rfl ex bo bp (by rw[List.length_map];exact bl) (by rw[List.length_map];omega) r1 r2;unfold Oper.wp;rw[a2];refine hK undef _ ⟨k0.trans (ch _ _ _ (T:=fun g=>g=b1) rfl) fun b hb bf=>?_,?_,?_,b1,b2,?_,?_,?_⟩ (fun _ _ _ h=>h) fun h=>χ
     ·rw[bf]at hb;omega
     ·exact fun _=>by rw[B _ χ];exact y
     ·rw[B _ χ,B _ χ];exact bc
     ·intro _
      refine⟨m1,m2,?_⟩;rw[if_pos ξ];exact r3
     ·rw[B _ χ,B _ χ]
      intro h;obtain⟨n1,n2,n3⟩:=L h;exact⟨n1,n2,n3.other fun e=>Y (y) h e.symm⟩
     ·rw[B _ χ,B _ χ];exact Y
    ·rw[o3]at ho
     obtain rfl:=ι ho;have y:=R (c+1) bd.2.1;obtain⟨m1,m2,m3⟩:=L y;rw[if_neg (by rw[an];simp)]at m3;obtain⟨bo,bp⟩:=a6 (w':=w') E cx c3 fun j X d hx W=>a5 j (R j (Co bd.2.2.2 X hx W)) X d W
     obtain⟨cs,E0,r1,r2,r3⟩:=m3.all (vs:=l2.map (Cl.den S κ)) (by rw[List.length_map,Array.length_toList,←al,Array.length_toList]);have ex:I.eval (.tmp e2)=.pointer (some ⟨b2,0,none⟩):=by
      show I.tmps.getD e2 undef=_;rw[Array.getD_eq_getD_getElem?,m1];rfl
     have a2:=cY (P:=P) (o:=⟨none,.store E2 (.tmp e2) x2,dt,d0,a4,g4⟩) (a:=I) (w:=w') rfl ex bo bp (by rw[List.length_map];exact bm) (by rw[List.length_map];omega) r1 r2;unfold Oper.wp;rw[a2];refine hK undef _ ⟨k0.trans (ch _ _ _ (T:=fun g=>g=b2) rfl) fun b hb bf=>?_,?_,?_,b1,b2,?_,?_,?_⟩ (fun _ _ _ h=>h) fun h=>χ
     ·rw[bf]at hb;omega
     ·rw[B _ χ,B _ χ];exact bb
     ·exact fun _=>by rw[B _ χ];exact y
     ·rw[B _ χ,B _ χ]
      intro h;obtain⟨n1,n2,n3⟩:=J h;exact⟨n1,n2,n3.other fun e=>Y h (y) e⟩
     ·intro _
      refine⟨m1,m2,?_⟩;rw[if_pos ξ];exact r3
     ·rw[B _ χ,B _ χ];exact Y
  ·intro done I w' y hI E ad
   obtain⟨k0,_,_,b1,b2,J,L,Y⟩:=hI;obtain⟨m1,m2,m3⟩:=J (y c χ);obtain⟨n1,n2,n3⟩:=L (y (c+1) χ);rw[if_pos (y (c+2) χ)]at m3;rw[if_pos (y (c+3) χ)]at n3;have a8:=Y (y c χ) (y (c+1) χ)
   let κ':Kap:=fun r=>if r=s.k then(b1,0)else if r=s.k+1 then(b2,0)else κ r
   have hu:cU s.k κ κ':=fun r hr=>by
    show(if r=s.k then(b1,0)else if r=s.k+1 then(b2,0)else κ r)=κ r;rw[if_neg χ,if_neg χ]
   have U:κ' s.k=(b1,0):=if_pos rfl;have V:κ' (s.k+1)=(b2,0):=by
    show(if s.k+1=s.k then(b1,0)else if s.k+1=s.k+1 then(b2,0)else κ (s.k+1))=_;rw[if_neg χ,if_pos rfl]
   have bx:l1.map (Cl.den S κ')=l1.map (Cl.den S κ):=oG hu c8;have bz:l2.map (Cl.den S κ')=l2.map (Cl.den S κ):=oG hu c9;have bt:Has S κ N F1 I:=D.frame (p:=fun j=>decide (j<c)) F1 E (fun t v ht=>by
    have h1:=wi c6 t v ht;refine⟨h1,?_⟩
    cases e:dY l t with
    | false=>exact .inl rfl
    | true =>
     obtain⟨i,hi,a0⟩:=bh.1 e
     rcases Ψ i c with h|h
     ·exact .inr ⟨i,χ,a0,by simpa using h⟩
     ·have:=D.none h χ a0
      rw[h1]at this
      cases this) fun j _ Z d W=>by
     obtain⟨v,h1,h2⟩:=ad j χ d W;exact⟨v,h1,h2 Z⟩
   have n9:=(hn.keep k0).upto hu b4.1 b4.2;obtain⟨fM,_⟩:=dy hr;have cj:fG S κ' H.T M' w':=(show fG S κ' H.T s1.M w' by rw[fM];exact n9.mem).sub c7;refine hQ κ' I w' ⟨⟨bt.size,fun t v ht=>?_⟩,⟨fun q m ac=>?_⟩,⟨n9.ctx.fa,n9.ctx.el,ξ,ξ,(fun _ _ _ _ r l h=>by cases h),ξ⟩,n9.tb,n9.gh⟩ hu k0 E.defers ⟨by rw[U];exact m2,by rw[U],by rw[U,bx];exact m3⟩ ⟨by rw[V];exact n2,by rw[V],by rw[V,bz];exact n3⟩ (by rw[U,V];exact a8)
   ·rw[ba]at ht
    split at ht
    ·rename_i e
     subst e;obtain rfl:=ι ht;rw[m1];show some (Value.pointer (some ⟨b1,0,none⟩))=some (Value.pointer (some ⟨(κ' s.k).1,(κ' s.k).2+0,none⟩));rw[U]
    ·rw[ba]at ht
     split at ht
     ·rename_i e
      subst e;obtain rfl:=ι ht;rw[n1];show some (Value.pointer (some ⟨b2,0,none⟩))=some (Value.pointer (some ⟨(κ' (s.k+1)).1,(κ' (s.k+1)).2+0,none⟩));rw[V]
     ·rw[bt.get t v ht,SV.sc_ok hu (υ.1 di _ (gG ht))]
   ·have bw:∀{b:Nat},w.heap.size≤b→¬ H.T b:=fun h hb=>by have:=hn.tb _ hb;omega
    rw[cL]at ac;split at ac
    ·rename_i e
     subst e;have bg:=Row.memF (κ:=κ') (r:=s.k) U (l:=l1) (S:=S) (by rw[bx];exact m3);rw[U];obtain rfl:=ι ac;refine⟨⟨m3.lt,bw m2⟩,fun j c X=>?_⟩;have:=bg s.k l1 (by simp[gm]) j c X
     rwa[U]at this
    ·rw[cL]at ac
     split at ac
     ·rename_i e
      subst e;have bg:=Row.memF (κ:=κ') (r:=s.k+1) V (l:=l2) (S:=S) (by rw[bz];exact n3);rw[V];obtain rfl:=ι ac;refine⟨⟨n3.lt,bw n2⟩,fun j c X=>?_⟩;have:=bg (s.k+1) l2 (by simp[gm]) j c X
      rwa[V]at this
     ·exact cj.get q m ac
 ·cases hm
end
end Rs
namespace Rs
open Go.RowKit
variable {N t:Nat} {P:Program} {a:Act}
theorem Cz{ε:Type}{S:Sta}{κ:Kap}{N:Nat}{P:Program}{C:Ctx}{H:Gh}{b v:Nat}{F0:Fr}{M:Mm}{Y:List Nat}{body:Code}{Q:Exit→Act→World→Prop}{d:Act}{q:World}(O:Now S κ N P C H ⟨F0,M,v,Y⟩ d q)(m:Nat)(FR:Fr)(ws:Nat→Bool)(D:ε→Sta)(μ:ε→Nat)(TT:Nat→Prop)(Te:ε→Nat→Prop)(W:ε→World→Prop)
 (st:∀e w w',Kz w w'→W e w→W e w')(u:∀e w,W e w→∀g,Te e g→TT g∧g<w.heap.size)(hM:∀r l,gm M r=some l→¬ TT (κ r).1)(B:ε)(hI:W B q)(Z:Has (S.put m (D B)) κ N FR d)(U:wlB [] m v FR M=true)
 (round:∀e a w,Now (S.put m (D e)) κ N P {} (Gh.of (Te e) (W e) (st e)) ⟨FR,M,v,[]⟩ a w→aE ws d a→aD TT q w →
  wpL P (fun x y w'=>match x with
   | .normal=>∃e' κ',μ e'<μ e∧W e' w'∧cU v κ κ'∧Has (S.put m (D e')) κ' N FR y∧aE ws d y∧aD TT q w'
   | x=>Exit.inBlock b Q x y w') (flat body) a w):(Code.block b (Code.loop body)).wp P Q d q:=by
 simp only[wlB,Bool.and_eq_true]at U;obtain⟨L,ac,R⟩:=U;refine wp_block (wp_loop_ghost (fun n a w=>∃e,μ e=n∧W e w∧Has (S.put m (D e)) κ N FR a∧aE ws d a∧aD TT q w) (μ B) ⟨B,rfl,hI,Z,aE.refl _ _,aD.refl _ _⟩ ?_);rintro n a w ⟨e,rfl,hi,hh,hA,K⟩;have n1:Now (S.put m (D e)) κ N P {} (Gh.of (Te e) (W e) (st e)) ⟨FR,M,v,[]⟩ a w:=by
  have hm:=O.mem.on (aQ S m (D e)) L;refine⟨hh,⟨fun r l V=>?_⟩,noC _ _ _ _ _,fun g hg=>(u e w hi g hg).2,hi⟩;obtain⟨⟨E,_⟩,J⟩:=hm.get r l V;have I:=hM r l V;exact⟨⟨Θ E K.size,fun h=>I (u e w hi _ h).1⟩,fun j c hj=>(K.cell (p:=⟨_,_,none⟩) E I).trans (J j c hj)⟩
 refine wp_mono (aY (round e a w n1 hA K)) fun x y w' X=>?_
 cases x with
 | normal =>
  obtain⟨e',κ',E,h2,J,I,h5,h6⟩:=X;exact⟨μ e',E,e',rfl,h2,I.back J R,h5,h6⟩
 | _=>exact X
theorem CY(n:Nat){P:Program}{Q:Exit→Act→World→Prop}{l:List Code}{a:Act}{w:World}(J:Act→World→Prop)(h1:wpL P (fun x a' w'=>x=.normal∧J a' w') (l.take n) a w)(h2:∀a' w',J a' w'→wpL P Q (l.drop n) a' w'):wpL P Q l a w:=by
 induction n generalizing l a w with
 | zero=>exact h2 a w (show _∧_ from h1).2
 | succ n ih =>
  cases l with
  | nil=>exact h2 a w (show _∧_ from h1).2
  | cons c l =>
   refine wp_mono (show c.wp P _ a w from h1) fun x a' w' hx=>?_
   cases x with
   | normal=>exact ih hx h2
   | _=>exact absurd hx.1 ξ
theorem Now.baseT{S:Sta}{κ:Kap}{C:Ctx}{H:Gh}{F:Fr}{M:Mm}{d:Nat}{v:List Nat}{w:World}(h:Now S κ N P C H ⟨F,M,d,v⟩ a w)(g o:Nat)(ELn:List (Nat×Nat×IE×Nat×Nat))
 (D:(St.sc ⟨F,M,d,v⟩&&(C.sc d&&ELn.all fun x=>Nat.beq x.2.2.2.2 d))=true)(B:∀x∈ELn,0≤x.2.2.1.den S∧x.2.2.1.den S<S.n x.2.2.2.1∧∃q u,S.a x.1=some ⟨q,u,none⟩∧(g,o)=(q,u+(x.2.2.1.den S).toNat*x.2.1)):
 ∃κ',cU d κ κ'∧κ' d=(g,o)∧Now S κ' N P { C with EL:=ELn++C.EL } H ⟨F,M,d+1,v⟩ a w:=by
 simp only[Bool.and_eq_true]at D;obtain⟨O,Q,R⟩:=D
 let κ':Kap:=fun r=>if r=d then(g,o)else κ r
 have E:cU d κ κ':=fun r U=>if_neg χ
 have I:κ' d=(g,o):=if_pos rfl;have j:=h.upto E O Q;refine⟨κ',E,I,j.has,j.mem,⟨j.ctx.fa,?_,j.ctx.ct,j.ctx.et,j.ctx.gm,j.ctx.sl⟩,h.tb,h.gh⟩;intro y l
 rcases Ω.1 l with l|l
 ·obtain⟨J,K,q,u,e3,e4⟩:=B y l
  have L:=π (υ.1 R y l);exact⟨J,K,q,u,e3,by rw[L,I];exact e4⟩
 ·exact j.ctx.el y l
theorem Has.now{S:Sta}{κ:Kap}{F:Fr}(h:Has S κ N F a)(k:Nat)(w:World):Now S κ N P {} H0 ⟨F,[],k,[]⟩ a w:=⟨h,⟨fun _ _ h=>by cases h⟩,noC _ _ _ _ _,fun _ h=>h.elim,trivial⟩
theorem Now.lay{S:Sta}{κ:Kap}{C:Ctx}{H:Gh}{s:St}{w:World}(h:Now S κ N P C H s a w)(m:Nat)(d:Sta)(g:(lM (lo m) s.F&&mJ (lo m) s.M)=true):Now (S.put m d) κ N P {} H s a w:=by
 rw[Bool.and_eq_true]at g;exact⟨h.has.on (aQ S m d) g.1,h.mem.on (aQ S m d) g.2,⟨ξ,ξ,ξ,ξ,(fun _ _ _ _ r l h=>by cases h),ξ⟩,h.tb,h.gh⟩
theorem sh{o:Oper}{f:FuncId}(d:o.op=.makeFunc (.func f) #[] #[.tmp t]){a:Act}{w:World}:(execOp a.eval o).run P w=.ok (.value (.func (.func f) #[] #[a.eval (.tmp t)])) w:=by
 obtain⟨dst,op,ty,pos,h,g⟩:=o;simp only at d;subst d;simp[execOp,Instr.makeFunc]
theorem gX{o:Oper}{i:Nat}(d:o.op=.extract (.tmp t) i){a:Act}{vs:Array Value}{v:Value}(h:a.eval (.tmp t)=.tuple vs)(j:vs[i]?=some v){w:World}:(execOp a.eval o).run P w=.ok (.value v) w:=by
 obtain⟨dst,op,ty,pos,l,g⟩:=o;simp only at d;subst d;simp[execOp,h,Instr.extract,j]
theorem rL{o:Oper}(d:o.op=.move (.tmp t)∨o.op=.assign (.tmp t)){a:Act}{w:World}:(execOp a.eval o).run P w=.ok (.value (a.eval (.tmp t))) w:=by
 obtain⟨dst,op,ty,pos,h,g⟩:=o;simp only at d
 rcases d with rfl|rfl<;>simp[execOp]
end Rs
namespace Rs
open Go.RowKit
def dmB(P:Program)(C:Ctx)(N:Nat)(l:List Oper)(F:Fr)(M:Mm)(c:Nat)(FF:Fr)(r:Nat)(l1:List Cl):Bool:=
 iz l l.length&&(gJ F (FF.filter fun x =>!dY l x.1)&&((FF.all fun x=>Nat.ble (x.1+1) N)&&(l.all (fun o=>o.guard.isNone)&&(Nat.ble (c+1) l.length&&(List.range l.length).all fun i=>match l[i]? with
  | some o=>bif Nat.beq i c then(match o.dst,o.op with
   | none,.store E x y=>(match ev (eN l o FF) x,ev (eN l o FF) y with
    | some (.one (.p r' o')),some v=>Nat.beq r' r&&(Nat.beq o' 0&&(Nat.beq (P.cellsOf E) l1.length&&(Nat.ble 1 l1.length&&match gi v with|some l2=>kE l2 l1|none=>false)))
    | _,_=>false)
   | _,_=>false)
   else(match o.dst,opV P C (eN l o FF) M o.op with
    | some d,some v=>gJ FF [(d,v)]
    | _,_=>false)
  | none=>false))))
theorem EH{S:Sta}{N:Nat}{P:Program}{C:Ctx}{H:Gh}{id:Nat}{ops:Array Oper}{rest:List Code}{Q:Exit→Act→World→Prop}{s:St}{κ:Kap}{a:Act}{w:World}(c:Nat)(FF:Fr)(r:Nat)(l1:List Cl){us:List Value}(hP:P.follows .mixedOrders=true)
 (hB:dmB P C N ops.toList s.F s.M c FF r l1=true)(hn:Now S κ N P C H s a w)(a6:C.GM=[])(hT:H.T (κ r).1)(h0:(κ r).2=0)(hr:Row w (κ r).1 us)(be:us.length=l1.length)
 (hQ:∀B w',Has S κ N FF B→aD (fun g=>g=(κ r).1) w w'→Row w' (κ r).1 (l1.map (Cl.den S κ))→B.defers=a.defers→wpL P Q rest B w'):wpL P Q (Code.region id ops true::rest) a w:=by
 obtain⟨l,hl⟩:∃l,l=ops.toList:=⟨_,rfl⟩;obtain rfl:ops=l.toArray:=by rw[hl]
 rw[←hl]at hB;clear hl;show(Code.region id l.toArray true).wp P (Exit.then (wpL P Q rest) Q) a w;simp only[dmB,Bool.and_eq_true]at hB;obtain⟨hB,hF,hN,a9,hc,an⟩:=hB;have hc:=ω hc;have al:=hB;simp only[iz,Bool.and_eq_true,decide_eq_true_eq]at al;obtain⟨⟨_,bm⟩,a8⟩:=al;have ad:=fR rfl a8;have old:∀{B:Act},fJ l l.length a B→∀t u,dY l t=false→gt FF t=some u→B.tmps[t]?=some (u.den S κ):=fun{B} hb t u J hu=>by
  rw[hb.get t (by
   cases e:(List.range l.length).any fun i=>aN l i==some t with
   | false=>rfl
   | true =>
    obtain⟨i,hi,V⟩:=List.any_eq_true.1 e;rw[bh.2 ⟨i,List.mem_range.1 hi,eq_of_beq V⟩]at J
    cases J)]
  exact(hn.has.sub hF).get t u (by rw[fT (p:=fun t =>!dY l t),J];exact hu)
 refine fV l.length (fun done w'=>aD (fun g=>g=(κ r).1) w w'∧(∃us,us.length=l1.length∧Row w' (κ r).1 us)∧(done c=true→Row w' (κ r).1 (l1.map (Cl.den S κ))))
  (fun j _ v=>∀d u,aN l j=some d→gt FF d=some u→v=u.den S κ) hP hB ⟨(aD.refl _ _).drew,⟨us,be,hr.keep (T:=fun _=>False) (aD.refl _ _).drew fun h=>h⟩,fun h=>by cases h⟩ ?_ ?_
 ·intro i o hi U S' B w' K bl a2 ⟨R,⟨bg,a3,a4⟩,Z⟩ q L hK
  have a0:aD H.T w w':=R.mono fun g _ e=>by rw[show g=(κ r).1 from e];exact hT
  have a7:fP S κ (s.M++C.GM) w':=by rw[a6,List.append_nil];exact(hn.mem.keep a0).f
  have hh:Has S κ N (eN l o FF) B:=⟨q.size.trans hn.has.size,fun t u J=>by
   unfold eN at J;rw[fT (p:=fun t =>!dY l t||o.after.any fun e=>Region.binds .any e&&aN l e.on==some t)]at J;split at J
   ·rename_i W
    have W:(!dY l t||o.after.any fun e=>Region.binds .any e&&aN l e.on==some t)=true:=W
    cases e:dY l t with
    | false=>exact old q t u e J
    | true =>
     rw[e,Bool.not_true,Bool.false_or]at W;obtain⟨x,hx,bf⟩:=Array.any_eq_true'.1 W;obtain⟨a5,Y⟩:=Bool.and_eq_true_iff.1 bf;have Y:=eq_of_beq Y;have O:=ad i o U x hx a5;obtain⟨v,hv,af⟩:=L x.on (a2 x.on (Array.any_eq_true'.2 ⟨x,hx,by simp[a5]⟩)) χ t Y;have O:t<B.tmps.size:=by
      rw[q.size,hn.has.size];exact ω (υ.1 hN _ (gG J))
     rw[Array.getElem?_eq_getElem O,hv O,af t u Y J]
   ·cases J⟩
  have bb:o.guard=none:=by simpa using υ.1 a9 o (γ U)
  rw[if_pos (by unfold Region.wanted;rw[bb])];have D:=υ.1 an i (List.mem_range.2 hi);rw[U]at D;simp only at D
  cases ec:Nat.beq i c with
  | true =>
   rw[ec]at D;simp only[cond_true]at D;obtain rfl:=π ec;split at D
   ·rename_i E x y V a1
    split at D
    ·rename_i r' o' v hx hy
     simp only[Bool.and_eq_true]at D;obtain⟨q1,q2,q3,q4,q5⟩:=D;obtain rfl:=π q1;obtain rfl:=π q2;have q3:=π q3;have q4:=ω q4;split at q5
     ·rename_i l2 bd
      obtain rfl:=gq q5;obtain⟨d1,d2⟩:=iE bd S κ;have X:(l2.map (Cl.den S κ)).length=l2.length:=List.length_map _;obtain⟨cs,E0,z1,z2,z3⟩:=a4.all (vs:=l2.map (Cl.den S κ)) (by rw[X];exact a3);have ex:B.eval x=.pointer (some ⟨(κ r').1,0,none⟩):=by
       have:=hh.ev hx;rw[this];show Value.pointer (some ⟨(κ r').1,(κ r').2+0,none⟩)=_;rw[h0]
      have:=cY (P:=P) (o:=o) (a:=B) (w:=w') a1 ex (by rw[hh.ev hy];exact d1) d2 (by rw[X];exact q3) (by rw[X];omega) z1 z2;unfold Oper.wp;rw[this];have hz:=hK undef _ ⟨R.trans (ch (T:=fun g=>g=(κ r').1) _ _ _ rfl) fun _ _ h=>h,⟨_,X,z3⟩,fun _=>z3⟩ (fun _ _ _ h=>h) fun d u I=>by
       unfold aN at I;rw[U]at I;have:o.dst=some d:=I;rw[V]at this
       cases this
      rw[V]at hz;clear this;obtain⟨_,_,_,_,_,_⟩:=o
      cases V
      cases a1
      exact hz
     ·cases q5
    ·cases D
   ·cases D
  | false =>
   rw[ec]at D;simp only[cond_false]at D;have bc:i≠c:=fun e=>by subst e;simp at ec
   split at D
   ·rename_i d v V hv
    unfold Oper.wp;rw[oS hv hh a7 (hn.ctx.keep a0)];refine hK _ w' ⟨R,⟨bg,a3,a4⟩,fun h=>Z ?_⟩ (fun _ _ _ h=>h) fun d' u I hu=>?_
    ·have h:(c==i||S' c)=true:=h
     rw[beq_false_of_ne fun e=>bc e.symm,Bool.false_or]at h;exact h
    ·have:d'=d:=by
      unfold aN at I;rw[U]at I;have:o.dst=some d':=I;rw[V]at this;exact(ι this).symm
     subst this;have h1:=υ.1 D _ (ρ.2 rfl);simp only[hu]at h1;rw[SV.same_ok h1]
   ·cases D
 ·intro S' B w' ac ⟨R,_,Z⟩ q L
  refine hQ B w' ⟨q.size.trans hn.has.size,fun t u J=>?_⟩ R (Z (ac c χ)) q.defers
  cases e:dY l t with
  | false=>exact old q t u e J
  | true =>
   obtain⟨j,hj,V⟩:=bh.1 e;obtain⟨v,hv,af⟩:=L j hj t V;have O:t<B.tmps.size:=by
    rw[q.size,hn.has.size];exact ω (υ.1 hN _ (gG J))
   rw[Array.getElem?_eq_getElem O,hv O,af t u V J]
