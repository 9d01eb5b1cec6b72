import Derived.Test.YtpblcjipmoblnaaGreatDoorThings2
import Derived.Test.YtpblcjipmoblnaaGreatDoorLFlat
set_option maxRecDepth 100000
set_option linter.all false
set_option maxHeartbeats 4000000
namespace Go.Proofs.YtpblcjipmoblnaaGreatDoor
open Go.RowKit Go.IntWalk Ck
variable {B c M pb:Nat} {w:World} {e:Int} {L:List Wr}
theorem qX{A:Option Addr}{xs:List Run}(h:aJ B 4 ec w (.slice A xs.length c) xs)(q:B≤w.heap.size):eV w A xs:=by
 obtain⟨_,_,e,_,_,j⟩:=h
 cases e
 intro l;obtain⟨b,off,d,u,g⟩:=j l;refine⟨b,off,d,χ,fun i r p=>?_⟩;have:=(g i r p).1;exact⟨this.c0,this 1 _ rfl,this 2 _ rfl,this 3 _ rfl⟩
theorem ue{A:Option Addr}{xs:List Run}(h:aJ B 4 ec w (.slice A xs.length c) xs):∀r∈xs,r.QT<18446744073709551616∧r.per<18446744073709551616:=by
 intro r g;obtain⟨A,c,_,_,_,j⟩:=h;obtain⟨l,off,_,_,d⟩:=j (List.length_pos_of_mem g);obtain⟨k,hk⟩:=List.getElem?_of_mem g;have:=(d k r hk).2;exact⟨this.2.1,this.2.2.1⟩
def ax(M:Nat)(y:cW):Nat×Int×Int:=((Ln.co M y.needs y.runs).1.length,(Ln.co M y.needs y.runs).2.1,(Ln.co M y.needs y.runs).2.2)
theorem uS{zp W off n k:Nat}{y:cW}{A_r:Option Addr}{a1:Nat}{R:List bB×Int×Int}(hR:R=Ln.co M y.needs y.runs)
 (qm:w.cell? ⟨zp,2,none⟩=some (.int .u64 M))(ql:w.cell? ⟨zp,3,none⟩=some (.slice (some ⟨W,off,none⟩) n c))(hk:k<n)(ba:n≤c)(bb:n≤2097152)
 (q0:w.cell? ⟨W,off+k*4,none⟩=some (.int .i64 y.pos))(q1:w.cell? ⟨W,off+k*4+1,none⟩=some (.int .u64 y.QO))(q2:w.cell? ⟨W,off+k*4+2,none⟩=some (.bool y.needs))(q3:w.cell? ⟨W,off+k*4+3,none⟩=some (.slice A_r y.runs.length a1))
 (hF:Calls Tryz.prog 66 #[.int .u64 M,.agg #[.int .i64 y.pos,.int .u64 y.QO,.bool y.needs,.slice A_r y.runs.length a1]] w.drew (cP w.drew R))(a:Act)(a7:a.tmps.size=104)(h8:At a 8 (.pointer (some ⟨zp,0,none⟩)))(a4:At a 11 (.int .i64 k))(Q:Exit→Act→World→Prop)
 (hQ:∀B w' v,aA (fun i=>i==12||i==13||i==14||(rg 82 93 i)) a B→At B 12 v→w'.ownsRow w.heap.size 256 3 v R.1.length (ab R.1)→Below w.heap.size w w'→Q .normal B w'):
 (bE Tryz.f60 [1,1,1,1,0,1,0,0,1,1,0,0,1,1,0,0,1,1,0,0,1,1,0,1,1,0,0]).wp Tryz.prog Q a w:=by
 have HF:=hh hF;have HQ:=hh hQ;clear hF hQ hR
 conv=>arg 2;whnf
 refine kL (fun L B w'=>aA (fun i=>i==12||i==13||i==14||(rg 82 93 i)) a B∧(L 0=true→At B 83 (.pointer (some ⟨zp,2,none⟩)))∧(L 1=true→At B 84 (.int .u64 M))∧(L 2=true→At B 85 (.pointer (some ⟨zp,3,none⟩)))∧(L 3=true→At B 86 (.slice (some ⟨W,off,none⟩) n c))∧(L 4=true→At B 87 (.int .i64 k))∧(L 5=true→At B 88 (.pointer (some ⟨W,off+k*4,none⟩)))∧(L 6=true→At B 89 (.agg #[.int .i64 y.pos,.int .u64 y.QO,.bool y.needs,.slice A_r y.runs.length a1]))∧(L 7=false→w'=w.drew∧L 8=false∧L 9=false∧L 10=false∧L 11=false∧L 12=false)∧(L 7=true→∃v,w'.ownsRow w.heap.size 256 3 v R.1.length (ab R.1)∧Below w.heap.size w.drew w'∧At B 90 (.tuple #[v,.int .i64 R.2.1,.int .i64 R.2.2])∧(L 8=true→At B 82 (.tuple #[v,.int .i64 R.2.1,.int .i64 R.2.2]))∧(L 9=true→At B 91 (v))∧(L 10=true→At B 92 (.int .i64 R.2.1))∧(L 11=true→At B 93 (.int .i64 R.2.2))∧(L 12=true→At B 12 (v)))) δ δ ?_ ?_ ?_
 ·exact⟨aA.refl _ _,(fun h=>by cases h),(fun h=>by cases h),(fun h=>by cases h),(fun h=>by cases h),(fun h=>by cases h),(fun h=>by cases h),(fun h=>by cases h),(fun _=>⟨rfl,rfl,rfl,rfl,rfl,rfl⟩),(fun h=>by cases h)⟩
 ·rintro L B w' i op ⟨C,c0,c1,c2,X,Y,Z,c6,u,hv⟩ j hL H K hK
  have k8:=C.Q7 h8 rfl;have bc:=C.Q7 a4 rfl;have a9:=C.size.trans a7;have hi:i<15:=by
   have:=(List.getElem?_eq_some_iff.1 j).1
   simpa using this
  rcases(by omega:i=0∨i=1∨i=2∨i=3∨i=4∨i=5∨i=6∨i=7∨i=8∨i=9∨i=10∨i=11∨i=12∨i=13∨i=14)with rfl|rfl|rfl|rfl|rfl|rfl|rfl|rfl|rfl|rfl|rfl|rfl|rfl|rfl|rfl
  ·obtain rfl:=Option.some.inj (j:some _=some op)
   clear j hi;clear H;have x:L 7=true∨w'=w.drew:=by
    cases h:L 7 with
    | true=>exact .inl rfl
    | false=>exact .inr (u h).1
   have A:Below w.heap.size w w':=by
    rcases x with h|h
    ·obtain⟨v,_,g,_⟩:=hv h;exact⟨g.os,g.tape,g.output,g.size,g.block⟩
    ·rw[h];exact⟨rfl,rfl,rfl,Nat.le_refl _,fun _ _=>rfl⟩
   clear A x;have D:=hh C;have S:=hh u;have O:=hh hv;clear C u hv;obtain⟨T,d⟩:=B;go_simp;refine hK _ _ ?_;exact⟨D.out.set rfl _,(fun _=>At.self),(fun h=>(c1 h).ne ψ),(fun h=>(c2 h).ne ψ),(fun h=>(X h).ne ψ),(fun h=>(Y h).ne ψ),(fun h=>(Z h).ne ψ),(fun h=>(c6 h).ne ψ),S.out,(fun h=>by obtain⟨v,j,g,I,E,N,q,r,l⟩:=O.out h;exact⟨v,j,g,I.ne ψ,fun h=>(E h).ne ψ,fun h=>(N h).ne ψ,fun h=>(q h).ne ψ,fun h=>(r h).ne ψ,fun h=>(l h).ne ψ⟩)⟩
  ·obtain rfl:=Option.some.inj (j:some _=some op)
   clear j hi;have d0:L 0=true:=by simpa[Region.binds]using H
   clear H;have V:=c0 d0;have x:L 7=true∨w'=w.drew:=by
    cases h:L 7 with
    | true=>exact .inl rfl
    | false=>exact .inr (u h).1
   have A:Below w.heap.size w w':=by
    rcases x with h|h
    ·obtain⟨v,_,g,_⟩:=hv h;exact⟨g.os,g.tape,g.output,g.size,g.block⟩
    ·rw[h];exact⟨rfl,rfl,rfl,Nat.le_refl _,fun _ _=>rfl⟩
   replace qm:=(A.cell (p:=⟨zp,2,none⟩) (World.block_lt_of_cell? w ⟨zp,2,none⟩ qm)).trans qm;clear A x;have D:=hh C;have S:=hh u;have O:=hh hv;clear C u hv;obtain⟨T,d⟩:=B;go_simp;refine hK _ _ ?_;exact⟨D.out.set rfl _,(fun h=>(c0 h).ne ψ),(fun _=>At.self),(fun h=>(c2 h).ne ψ),(fun h=>(X h).ne ψ),(fun h=>(Y h).ne ψ),(fun h=>(Z h).ne ψ),(fun h=>(c6 h).ne ψ),S.out,(fun h=>by obtain⟨v,j,g,I,E,N,q,r,l⟩:=O.out h;exact⟨v,j,g,I.ne ψ,fun h=>(E h).ne ψ,fun h=>(N h).ne ψ,fun h=>(q h).ne ψ,fun h=>(r h).ne ψ,fun h=>(l h).ne ψ⟩)⟩
  ·obtain rfl:=Option.some.inj (j:some _=some op)
   clear j hi;clear H;have x:L 7=true∨w'=w.drew:=by
    cases h:L 7 with
    | true=>exact .inl rfl
    | false=>exact .inr (u h).1
   have A:Below w.heap.size w w':=by
    rcases x with h|h
    ·obtain⟨v,_,g,_⟩:=hv h;exact⟨g.os,g.tape,g.output,g.size,g.block⟩
    ·rw[h];exact⟨rfl,rfl,rfl,Nat.le_refl _,fun _ _=>rfl⟩
   clear A x;have D:=hh C;have S:=hh u;have O:=hh hv;clear C u hv;obtain⟨T,d⟩:=B;go_simp;refine hK _ _ ?_;exact⟨D.out.set rfl _,(fun h=>(c0 h).ne ψ),(fun h=>(c1 h).ne ψ),(fun _=>At.self),(fun h=>(X h).ne ψ),(fun h=>(Y h).ne ψ),(fun h=>(Z h).ne ψ),(fun h=>(c6 h).ne ψ),S.out,(fun h=>by obtain⟨v,j,g,I,E,N,q,r,l⟩:=O.out h;exact⟨v,j,g,I.ne ψ,fun h=>(E h).ne ψ,fun h=>(N h).ne ψ,fun h=>(q h).ne ψ,fun h=>(r h).ne ψ,fun h=>(l h).ne ψ⟩)⟩
  ·obtain rfl:=Option.some.inj (j:some _=some op)
   clear j hi;have d2:L 2=true:=by simpa[Region.binds]using H
   clear H;have V:=c2 d2;have x:L 7=true∨w'=w.drew:=by
    cases h:L 7 with
    | true=>exact .inl rfl
    | false=>exact .inr (u h).1
   have A:Below w.heap.size w w':=by
    rcases x with h|h
    ·obtain⟨v,_,g,_⟩:=hv h;exact⟨g.os,g.tape,g.output,g.size,g.block⟩
    ·rw[h];exact⟨rfl,rfl,rfl,Nat.le_refl _,fun _ _=>rfl⟩
   replace ql:=(A.cell (p:=⟨zp,3,none⟩) (World.block_lt_of_cell? w ⟨zp,3,none⟩ ql)).trans ql;clear A x;have D:=hh C;have S:=hh u;have O:=hh hv;clear C u hv;obtain⟨T,d⟩:=B;go_simp;refine hK _ _ ?_;exact⟨D.out.set rfl _,(fun h=>(c0 h).ne ψ),(fun h=>(c1 h).ne ψ),(fun h=>(c2 h).ne ψ),(fun _=>At.self),(fun h=>(Y h).ne ψ),(fun h=>(Z h).ne ψ),(fun h=>(c6 h).ne ψ),S.out,(fun h=>by obtain⟨v,j,g,I,E,N,q,r,l⟩:=O.out h;exact⟨v,j,g,I.ne ψ,fun h=>(E h).ne ψ,fun h=>(N h).ne ψ,fun h=>(q h).ne ψ,fun h=>(r h).ne ψ,fun h=>(l h).ne ψ⟩)⟩
  ·obtain rfl:=Option.some.inj (j:some _=some op)
   clear j hi;clear H;have x:L 7=true∨w'=w.drew:=by
    cases h:L 7 with
    | true=>exact .inl rfl
    | false=>exact .inr (u h).1
   have A:Below w.heap.size w w':=by
    rcases x with h|h
    ·obtain⟨v,_,g,_⟩:=hv h;exact⟨g.os,g.tape,g.output,g.size,g.block⟩
    ·rw[h];exact⟨rfl,rfl,rfl,Nat.le_refl _,fun _ _=>rfl⟩
   clear A x;have D:=hh C;have S:=hh u;have O:=hh hv;clear C u hv;obtain⟨T,d⟩:=B;go_simp;refine hK _ _ ?_;exact⟨D.out.set rfl _,(fun h=>(c0 h).ne ψ),(fun h=>(c1 h).ne ψ),(fun h=>(c2 h).ne ψ),(fun h=>(X h).ne ψ),(fun _=>At.self),(fun h=>(Z h).ne ψ),(fun h=>(c6 h).ne ψ),S.out,(fun h=>by obtain⟨v,j,g,I,E,N,q,r,l⟩:=O.out h;exact⟨v,j,g,I.ne ψ,fun h=>(E h).ne ψ,fun h=>(N h).ne ψ,fun h=>(q h).ne ψ,fun h=>(r h).ne ψ,fun h=>(l h).ne ψ⟩)⟩
  ·obtain rfl:=Option.some.inj (j:some _=some op)
   clear j hi;have d3:L 3=true:=by have:=H;simp[Region.binds]at this;exact this.1
   have d4:L 4=true:=by have:=H;simp[Region.binds]at this;exact this.2
   clear H;have V:=X d3;have bf:=Y d4;have x:L 7=true∨w'=w.drew:=by
    cases h:L 7 with
    | true=>exact .inl rfl
    | false=>exact .inr (u h).1
   have A:Below w.heap.size w w':=by
    rcases x with h|h
    ·obtain⟨v,_,g,_⟩:=hv h;exact⟨g.os,g.tape,g.output,g.size,g.block⟩
    ·rw[h];exact⟨rfl,rfl,rfl,Nat.le_refl _,fun _ _=>rfl⟩
   clear A x;have D:=hh C;have S:=hh u;have O:=hh hv;clear C u hv;obtain⟨T,d⟩:=B;go_simp;refine hK _ _ ?_;exact⟨D.out.set rfl _,(fun h=>(c0 h).ne ψ),(fun h=>(c1 h).ne ψ),(fun h=>(c2 h).ne ψ),(fun h=>(X h).ne ψ),(fun h=>(Y h).ne ψ),(fun _=>At.self),(fun h=>(c6 h).ne ψ),S.out,(fun h=>by obtain⟨v,j,g,I,E,N,q,r,l⟩:=O.out h;exact⟨v,j,g,I.ne ψ,fun h=>(E h).ne ψ,fun h=>(N h).ne ψ,fun h=>(q h).ne ψ,fun h=>(r h).ne ψ,fun h=>(l h).ne ψ⟩)⟩
  ·obtain rfl:=Option.some.inj (j:some _=some op)
   clear j hi;have d5:L 5=true:=by simpa[Region.binds]using H
   clear H;have V:=Z d5;have x:L 7=true∨w'=w.drew:=by
    cases h:L 7 with
    | true=>exact .inl rfl
    | false=>exact .inr (u h).1
   have A:Below w.heap.size w w':=by
    rcases x with h|h
    ·obtain⟨v,_,g,_⟩:=hv h;exact⟨g.os,g.tape,g.output,g.size,g.block⟩
    ·rw[h];exact⟨rfl,rfl,rfl,Nat.le_refl _,fun _ _=>rfl⟩
   replace q0:=(A.cell (p:=⟨W,off+k*4,none⟩) (World.block_lt_of_cell? w ⟨W,off+k*4,none⟩ q0)).trans q0;replace q1:=(A.cell (p:=⟨W,off+k*4+1,none⟩) (World.block_lt_of_cell? w ⟨W,off+k*4+1,none⟩ q1)).trans q1;replace q2:=(A.cell (p:=⟨W,off+k*4+2,none⟩) (World.block_lt_of_cell? w ⟨W,off+k*4+2,none⟩ q2)).trans q2;replace q3:=(A.cell (p:=⟨W,off+k*4+3,none⟩) (World.block_lt_of_cell? w ⟨W,off+k*4+3,none⟩ q3)).trans q3;clear A x;have D:=hh C;have S:=hh u;have O:=hh hv;clear C u hv;obtain⟨T,d⟩:=B;go_simp;refine hK _ _ ?_;exact⟨D.out.set rfl _,(fun h=>(c0 h).ne ψ),(fun h=>(c1 h).ne ψ),(fun h=>(c2 h).ne ψ),(fun h=>(X h).ne ψ),(fun h=>(Y h).ne ψ),(fun h=>(Z h).ne ψ),(fun _=>At.self),S.out,(fun h=>by obtain⟨v,j,g,I,E,N,q,r,l⟩:=O.out h;exact⟨v,j,g,I.ne ψ,fun h=>(E h).ne ψ,fun h=>(N h).ne ψ,fun h=>(q h).ne ψ,fun h=>(r h).ne ψ,fun h=>(l h).ne ψ⟩)⟩
  ·obtain rfl:=Option.some.inj (j:some _=some op)
   clear j hi;have d1:L 1=true:=by have:=H;simp[Region.binds]at this;exact this.1
   have d6:L 6=true:=by have:=H;simp[Region.binds]at this;exact this.2
   clear H;obtain⟨a8,n8,n9,ac,ad,af⟩:=u hL;subst a8;have bd:=c1 d1;have be:=c6 d6;have D:=hh C;have S:=hh u;have O:=hh hv;clear C u hv;obtain⟨T,d⟩:=B;go_simp;refine HF.out.mono ?_;rintro e w2 ⟨v,rfl,a6,a5⟩;refine hK _ _ ?_;exact⟨D.out.set rfl _,(fun h=>(c0 h).ne ψ),(fun h=>(c1 h).ne ψ),(fun h=>(c2 h).ne ψ),(fun h=>(X h).ne ψ),(fun h=>(Y h).ne ψ),(fun h=>(Z h).ne ψ),(fun h=>(c6 h).ne ψ),(fun h=>by cases h),(fun _=>⟨v,a6,a5,At.self,fun h=>absurd (n8.symm.trans h) ψ,fun h=>absurd (n9.symm.trans h) ψ,fun h=>absurd (ac.symm.trans h) ψ,fun h=>absurd (ad.symm.trans h) ψ,fun h=>absurd (af.symm.trans h) ψ⟩)⟩
  ·obtain rfl:=Option.some.inj (j:some _=some op)
   clear j hi;have U:L 7=true:=by simpa[Region.binds]using H
   clear H;have U:L 7=true:=by
    cases h:L 7 with
    | true=>rfl
    | false=>simp_all
   obtain⟨v,j,g,I,E,N,q,r,l⟩:=hv U;have V:=I;have HO:=hh j;have J:=hh g;clear j g;have D:=hh C;have S:=hh u;have O:=hh hv;clear C u hv;obtain⟨T,d⟩:=B;go_simp;refine hK _ _ ?_;exact⟨D.out.set rfl _,(fun h=>(c0 h).ne ψ),(fun h=>(c1 h).ne ψ),(fun h=>(c2 h).ne ψ),(fun h=>(X h).ne ψ),(fun h=>(Y h).ne ψ),(fun h=>(Z h).ne ψ),(fun h=>(c6 h).ne ψ),(fun h=>absurd (U.symm.trans h) ψ),(fun _=>⟨v,HO.out,J.out,I.ne ψ,fun _=>At.self,fun h=>(N h).ne ψ,fun h=>(q h).ne ψ,fun h=>(r h).ne ψ,fun h=>(l h).ne ψ⟩)⟩
  ·obtain rfl:=Option.some.inj (j:some _=some op)
   clear j hi;have d8:L 8=true:=by simpa[Region.binds]using H
   clear H;have U:L 7=true:=by
    cases h:L 7 with
    | true=>rfl
    | false=>obtain⟨_,n8,n9,ac,ad,af⟩:=u h;simp_all
   obtain⟨v,j,g,I,E,N,q,r,l⟩:=hv U;have V:=E d8;have HO:=hh j;have J:=hh g;clear j g;have D:=hh C;have S:=hh u;have O:=hh hv;clear C u hv;obtain⟨T,d⟩:=B;go_simp;refine hK _ _ ?_;exact⟨D.out.set rfl _,(fun h=>(c0 h).ne ψ),(fun h=>(c1 h).ne ψ),(fun h=>(c2 h).ne ψ),(fun h=>(X h).ne ψ),(fun h=>(Y h).ne ψ),(fun h=>(Z h).ne ψ),(fun h=>(c6 h).ne ψ),(fun h=>absurd (U.symm.trans h) ψ),(fun _=>⟨v,HO.out,J.out,I.ne ψ,fun h=>(E h).ne ψ,fun _=>At.self,fun h=>(q h).ne ψ,fun h=>(r h).ne ψ,fun h=>(l h).ne ψ⟩)⟩
  ·obtain rfl:=Option.some.inj (j:some _=some op)
   clear j hi;have d8:L 8=true:=by simpa[Region.binds]using H
   clear H;have U:L 7=true:=by
    cases h:L 7 with
    | true=>rfl
    | false=>obtain⟨_,n8,n9,ac,ad,af⟩:=u h;simp_all
   obtain⟨v,j,g,I,E,N,q,r,l⟩:=hv U;have V:=E d8;have HO:=hh j;have J:=hh g;clear j g;have D:=hh C;have S:=hh u;have O:=hh hv;clear C u hv;obtain⟨T,d⟩:=B;go_simp;refine hK _ _ ?_;exact⟨D.out.set rfl _,(fun h=>(c0 h).ne ψ),(fun h=>(c1 h).ne ψ),(fun h=>(c2 h).ne ψ),(fun h=>(X h).ne ψ),(fun h=>(Y h).ne ψ),(fun h=>(Z h).ne ψ),(fun h=>(c6 h).ne ψ),(fun h=>absurd (U.symm.trans h) ψ),(fun _=>⟨v,HO.out,J.out,I.ne ψ,fun h=>(E h).ne ψ,fun h=>(N h).ne ψ,fun _=>At.self,fun h=>(r h).ne ψ,fun h=>(l h).ne ψ⟩)⟩
  ·obtain rfl:=Option.some.inj (j:some _=some op)
   clear j hi;have d8:L 8=true:=by simpa[Region.binds]using H
   clear H;have U:L 7=true:=by
    cases h:L 7 with
    | true=>rfl
    | false=>obtain⟨_,n8,n9,ac,ad,af⟩:=u h;simp_all
   obtain⟨v,j,g,I,E,N,q,r,l⟩:=hv U;have V:=E d8;have HO:=hh j;have J:=hh g;clear j g;have D:=hh C;have S:=hh u;have O:=hh hv;clear C u hv;obtain⟨T,d⟩:=B;go_simp;refine hK _ _ ?_;exact⟨D.out.set rfl _,(fun h=>(c0 h).ne ψ),(fun h=>(c1 h).ne ψ),(fun h=>(c2 h).ne ψ),(fun h=>(X h).ne ψ),(fun h=>(Y h).ne ψ),(fun h=>(Z h).ne ψ),(fun h=>(c6 h).ne ψ),(fun h=>absurd (U.symm.trans h) ψ),(fun _=>⟨v,HO.out,J.out,I.ne ψ,fun h=>(E h).ne ψ,fun h=>(N h).ne ψ,fun h=>(q h).ne ψ,fun _=>At.self,fun h=>(l h).ne ψ⟩)⟩
  ·obtain rfl:=Option.some.inj (j:some _=some op)
   clear j hi;have d9:L 9=true:=by have:=H;simp[Region.binds]at this;exact this.1
   clear H;have U:L 7=true:=by
    cases h:L 7 with
    | true=>rfl
    | false=>obtain⟨_,n8,n9,ac,ad,af⟩:=u h;simp_all
   obtain⟨v,j,g,I,E,N,q,r,l⟩:=hv U;have V:=N d9;have HO:=hh j;have J:=hh g;clear j g;have D:=hh C;have S:=hh u;have O:=hh hv;clear C u hv;obtain⟨T,d⟩:=B;go_simp;refine hK _ _ ?_;exact⟨D.out.set rfl _,(fun h=>(c0 h).ne ψ),(fun h=>(c1 h).ne ψ),(fun h=>(c2 h).ne ψ),(fun h=>(X h).ne ψ),(fun h=>(Y h).ne ψ),(fun h=>(Z h).ne ψ),(fun h=>(c6 h).ne ψ),(fun h=>absurd (U.symm.trans h) ψ),(fun _=>⟨v,HO.out,J.out,I.ne ψ,fun h=>(E h).ne ψ,fun h=>(N h).ne ψ,fun h=>(q h).ne ψ,fun h=>(r h).ne ψ,fun _=>At.self⟩)⟩
  ·obtain rfl:=Option.some.inj (j:some _=some op)
   clear j hi;have a2:L 10=true:=by have:=H;simp[Region.binds]at this;exact this.1
   clear H;have U:L 7=true:=by
    cases h:L 7 with
    | true=>rfl
    | false=>obtain⟨_,n8,n9,ac,ad,af⟩:=u h;simp_all
   obtain⟨v,j,g,I,E,N,q,r,l⟩:=hv U;have V:=q a2;have HO:=hh j;have J:=hh g;clear j g;have D:=hh C;have S:=hh u;have O:=hh hv;clear C u hv;obtain⟨T,d⟩:=B;go_simp;refine hK _ _ ?_;exact⟨D.out.set rfl _,(fun h=>(c0 h).ne ψ),(fun h=>(c1 h).ne ψ),(fun h=>(c2 h).ne ψ),(fun h=>(X h).ne ψ),(fun h=>(Y h).ne ψ),(fun h=>(Z h).ne ψ),(fun h=>(c6 h).ne ψ),(fun h=>absurd (U.symm.trans h) ψ),(fun _=>⟨v,HO.out,J.out,I.ne ψ,fun h=>(E h).ne ψ,fun h=>(N h).ne ψ,fun h=>(q h).ne ψ,fun h=>(r h).ne ψ,fun h=>(l h).ne ψ⟩)⟩
  ·obtain rfl:=Option.some.inj (j:some _=some op)
   clear j hi;have a3:L 11=true:=by have:=H;simp[Region.binds]at this;exact this.1
   clear H;have U:L 7=true:=by
    cases h:L 7 with
    | true=>rfl
    | false=>obtain⟨_,n8,n9,ac,ad,af⟩:=u h;simp_all
   obtain⟨v,j,g,I,E,N,q,r,l⟩:=hv U;have V:=r a3;have HO:=hh j;have J:=hh g;clear j g;have D:=hh C;have S:=hh u;have O:=hh hv;clear C u hv;obtain⟨T,d⟩:=B;go_simp;refine hK _ _ ?_;exact⟨D.out.set rfl _,(fun h=>(c0 h).ne ψ),(fun h=>(c1 h).ne ψ),(fun h=>(c2 h).ne ψ),(fun h=>(X h).ne ψ),(fun h=>(Y h).ne ψ),(fun h=>(Z h).ne ψ),(fun h=>(c6 h).ne ψ),(fun h=>absurd (U.symm.trans h) ψ),(fun _=>⟨v,HO.out,J.out,I.ne ψ,fun h=>(E h).ne ψ,fun h=>(N h).ne ψ,fun h=>(q h).ne ψ,fun h=>(r h).ne ψ,fun h=>(l h).ne ψ⟩)⟩
 ·rintro L B w' ⟨C,_,_,_,_,_,_,_,u,hv⟩ a0
  obtain⟨v,j,g,_,_,_,_,_,l⟩:=hv (a0 7 ψ);exact HQ.out B w' v C (l (a0 12 ψ)) j ⟨g.os,g.tape,g.output,g.size,g.block⟩
theorem tG(M:Nat)(r:Run)(d:Bool):Ln.right M r d=0∨Ln.right M r d=90∨Ln.right M r d=80∨Ln.right M r d=91:=by
 unfold Ln.right
 repeat' split
 all_goals simp
theorem lJ{M:Nat}{d:Bool}:∀{l:List Run} {i s:Nat} {a e:Int},Ln.cF M d i s l=some (a,e)→(e=90∨e=80∨e=91∨e=93)∧∃k:Nat,k<l.length∧a=(i+k:Nat)
 | [],_,_,_,_,h=>by simp[Ln.cF]at h
 | r::l,i,s,a,e,h=>by
  unfold Ln.cF at h;split at h
  ·split at h
   ·simp at h
    obtain⟨rfl,rfl⟩:=h;exact⟨ξ,0,ξ,ξ⟩
   ·obtain⟨g,k,hk,j⟩:=lJ h
    exact⟨g,k+1,η,by rw[j];congr 1;omega⟩
  ·rename_i p
   simp at h;obtain⟨rfl,rfl⟩:=h;refine⟨?_,0,ξ,ξ⟩
   rcases tG M r d with h|h|h|h
   ·exact absurd h p
   ·exact .inl h
   ·exact .inr (.inl h)
   ·exact .inr (.inr (.inl h))
theorem wi{M:Nat}{y:cW}(h:¬ (M<1∨65536<M)):(ax M y).2.2=0∨((ax M y).2.2=90∨(ax M y).2.2=80∨(ax M y).2.2=91∨(ax M y).2.2=93)∧(∃k:Nat,k<y.runs.length∧(ax M y).2.1=k)∨(ax M y).2.2=4∧(ax M y).2.1 = -1:=by
 unfold ax Ln.co;simp only[if_neg h]
 cases hq:Ln.cF M y.needs 0 0 y.runs with
 | none =>
  simp only;unfold Ln.fI;split
  ·exact .inr (.inr ⟨rfl,rfl⟩)
  ·exact .inl rfl
 | some q =>
  obtain⟨a,e⟩:=q;obtain⟨d,k,hk,g⟩:=lJ hq;exact .inr (.inl ⟨d,k,hk,by simpa using g⟩)
theorem xV(h:e=90∨e=80∨e=91∨e=93∨e=4):fP (eR e)=e:=by
 rcases h with rfl|rfl|rfl|rfl|rfl<;>rfl
def jF:List Int:=[90,80,91,93]
theorem AG{e:Int}{k:Nat}{x:Int}(hx:jF[k]?=some x)(d:e=x)(g:∀z∈jF.take k,e≠z):eR e=4+k:=by
 subst d
 match k,hx with
 | 0,hx=>obtain rfl:_=e:=Option.some.inj hx;rfl
 | 1,hx=>obtain rfl:_=e:=Option.some.inj hx;rfl
 | 2,hx=>obtain rfl:_=e:=Option.some.inj hx;rfl
 | 3,hx=>obtain rfl:_=e:=Option.some.inj hx;rfl
 | k+4,hx=>simp[jF]at hx
theorem wA(d:∀z∈jF,e≠z):eR e=8:=by
 have g:=d 90 (by simp[jF]);have h:=d 80 (by simp[jF]);have j:=d 91 (by simp[jF]);have l:=d 93 (by simp[jF]);unfold eR;rw[if_neg g,if_neg h,if_neg j,if_neg l]
theorem yn{v:aR}{P:aC}(h:aE B w pb v P fP L){M:Nat}(hM:¬ (M<1∨65536<M)){y:cW}{A_r:Option Addr}{a0:Nat}(hs:aJ B 4 ec w (.slice A_r y.runs.length a0) y.runs):
 Calls Tryz.prog 105 #[.pointer (some ⟨pb,0,none⟩),.int .u64 M,.agg #[.int .i64 y.pos,.int .u64 y.QO,.bool y.needs,.slice A_r y.runs.length a0]] w fun e w'=>e=.returned (.tuple #[])∧aE B w' pb v P fP (lH (fun M y=>(ax M y).2) M y++L)∧aD (fun k=>k=pb) w w':=by
 have go:=h.base;have ea:=h.lt;have HL:=hh h;have hv:=wi (y:=y) hM;have cd:∀w1,Kz w w1→Calls Tryz.prog 66 #[.int .u64 M,.agg #[.int .i64 y.pos,.int .u64 y.QO,.bool y.needs,.slice A_r y.runs.length a0]] w1 (cP w1 (Ln.co M y.needs y.runs)):=fun w1 hk =>
  oK M y.needs A_r a0 y.runs y.pos y.QO w1 χ (ue hs) (by obtain⟨_,_,e2,_,h2,_⟩:=hs;unfold top at h2;omega) (qX (hs.below (aF _ _ _) (hk.below (B:=B) χ (fun _ _ h=>h))) (Nat.le_trans χ hk.size))
 obtain⟨R,hR⟩:∃R,R=Ln.co M y.needs y.runs:=⟨_,rfl⟩;rw[←hR]at cd;obtain⟨ix,d6⟩:∃i:Int,i=R.2.1:=⟨_,rfl⟩;obtain⟨er,d3⟩:∃i:Int,i=R.2.2:=⟨_,rfl⟩;have hf:ax M y=(R.1.length,ix,er):=by rw[d6,d3,hR];rfl
 have HW:Hid (lH (fun M y=>(ax M y).2) M y=if er=0 then[]else[(if 0≤ix then((y.runs[ix.toNat]?).map Run.pos).getD 0 else y.pos,eR er)]):=hh (by unfold lH;simp only[hf]);rw[hf]at hv;simp only at hv;have HV:=hh hv;unfold cP at cd;rw[←d6,←d3]at cd;have es:=hh cd;obtain⟨_,_,e,gs,hn,hl⟩:=hs
 cases e
 unfold top at hn;have f4:=hh hl;clear hv cd hR d6 d3 hf hl h;refine b9 Tryz.func105 Tryz.ntmps105 rfl (by show 3≤51;decide) fun a gf hd h=>?_
 have h0:At a 0 (.pointer (some ⟨pb,0,none⟩)):=h 0 _ rfl;have W:At a 1 (.int .u64 M):=h 1 _ rfl;have h2:At a 2 (.agg #[.int .i64 y.pos,.int .u64 y.QO,.bool y.needs,.slice A_r y.runs.length a0]):=h 2 _ rfl;clear h
 conv=>arg 2;whnf
 refine so (fun ba D=>aA (fun i=>i==5) a ba∧At ba 5 (.pointer (some ⟨w.heap.size,0,none⟩))∧D=w.alloc (.cells #[.int .i64 y.pos,.int .u64 y.QO,.bool y.needs,.slice A_r y.runs.length a0] 92)) ?_ ?_
 ·have ac:aA (fun i=>i==5) a a:=aA.refl _ _
  obtain⟨T,d⟩:=a;refine rl ?_;with_reducible refine st ?_
  refine ln ⟨rfl,ag,aq,rfl⟩
 rintro ba D ⟨X,h5,bp⟩;replace h0:=X.Q7 h0 rfl;replace W:=X.Q7 W rfl;replace h2:=X.Q7 h2 rfl;have e8:=X.size.trans gf;have f8:=X.defers.trans hd;obtain⟨z,hz⟩:∃z,z=w.heap.size:=⟨_,rfl⟩;rw[←hz]at h5;have fz:D.heap[z]?=some (.cells #[.int .i64 y.pos,.int .u64 y.QO,.bool y.needs,.slice A_r y.runs.length a0] 92 (0,0)):=by rw[bp,hz];exact heap_alloc_new _ _
 have d7:Kz w D:=by rw[bp];exact(aD.refl _ _).alloc _
 have fy:=hh d7;have FZ:=hh fz;have gw:z≠pb:=χ
 have q0:D.cell? ⟨z,0,none⟩=some (.int .i64 y.pos):=cr fz rfl;have q1:D.cell? ⟨z,1,none⟩=some (.int .u64 y.QO):=cr fz rfl;have q2:D.cell? ⟨z,2,none⟩=some (.bool y.needs):=cr fz rfl;have q3:D.cell? ⟨z,3,none⟩=some (.slice A_r y.runs.length a0):=cr fz rfl;have HC:=hh (es.out D d7);clear bp hz fz h2 d7 es;refine so (fun a5 bz=>aA (fun i=>i==6||i==7||i==8||(rg 13 19 i)) ba a5∧At a5 7 (.int .i64 ix)∧At a5 8 (.int .i64 er)∧Kz D bz) ?_ ?_
 ·have ac:aA (fun i=>i==6||i==7||i==8||(rg 13 19 i)) ba ba:=aA.refl _ _
  obtain⟨T,d⟩:=ba;refine rl ?_
  iterate 2 with_reducible refine st ?_
  with_reducible refine Lz (fun K hK=>?_)
  go_simp;refine HC.out.mono ?_;rintro e w2 ⟨fv,rfl,_,di⟩;with_reducible refine hK _ _ ?_;clear hK K
  have a7:=gi di rfl;clear di
  iterate 7 with_reducible refine st ?_
  refine ln ⟨rfl,?_,?_,?_,?_⟩
  ·exact ag
  ·exact aq
  ·exact aq
  ·exact a7
 rintro a5 bz ⟨Y,J,g,a7⟩;replace h0:=Y.Q7 h0 rfl;replace W:=Y.Q7 W rfl;replace h5:=Y.Q7 h5 rfl;have ee:=Y.size.trans e8;have e5:=Y.defers.trans f8;have c3:Hid (Kz w bz):=fy.out.trans a7 (fun _ _ h=>h);replace q0:=(a7.cell (p:=⟨z,0,none⟩) (aG FZ.out) (fun h=>h)).trans q0;replace q3:=(a7.cell (p:=⟨z,3,none⟩) (aG FZ.out) (fun h=>h)).trans q3;clear a7 q1 q2 HC W;obtain⟨z0,en⟩:∃b,b=decide (er=0):=⟨_,rfl⟩;have fl:(er==0)=z0:=by rw[en];exact kB _ _
 have ey:=hh en;clear en;refine wp_seq (wp_seq (Code.wp_only (R:=fun bb cv=>aA (fun i=>i==20||i==21) a5 bb∧At bb 21 (.bool z0)∧cv=bz) ?_ ?_))
 ·have ac:aA (fun i=>i==20||i==21) a5 a5:=aA.refl _ _
  obtain⟨T,d⟩:=a5;refine rl ?_
  iterate 2 with_reducible refine st ?_
  refine ln ⟨rfl,ag,aq,rfl⟩
 rintro bb cv ⟨N,ff,rfl⟩;replace h0:=N.Q7 h0 rfl;replace h5:=N.Q7 h5 rfl;replace J:=N.Q7 J rfl;replace g:=N.Q7 g rfl;have c8:=N.size.trans ee;have b5:=N.defers.trans e5;refine wp_cond_split (ff.eval χ) (fun hg=>?_) (fun hg=>?_)
 ·have cc:er=0:=by have W:=ey.out;rw[hg]at W;exact of_decide_eq_true W.symm
  refine wp_ret ?_
  repeat (first|with_reducible apply b7|with_reducible apply bH)
  refine bodyPost_ret (results_none rfl _ _ _) b5 ⟨rfl,?_,(c3.out.mono fun _ _ h=>h.elim:aD (fun k=>k=pb) w _)⟩;rw[HW.out,if_pos cc];exact HL.out.new c3.out
 have cc:er≠0:=by have W:=ey.out;rw[hg]at W;exact of_decide_eq_false W.symm
 refine wp_skip ?_;have eg:=HW.out;rw[if_neg cc]at eg;have ex:=hh eg;clear eg HW fl hg;refine so (fun bc cw=>aA (fun i=>i==9||i==22||i==23) bb bc∧At bc 9 (.int .i64 y.pos)∧cw=cv) ?_ ?_
 ·have ac:aA (fun i=>i==9||i==22||i==23) bb bb:=aA.refl _ _
  obtain⟨T,d⟩:=bb;refine rl ?_
  iterate 3 with_reducible refine st ?_
  refine ln ⟨rfl,ag,aq,rfl⟩
 rintro bc cw ⟨O,ep,rfl⟩;replace h0:=O.Q7 h0 rfl;replace h5:=O.Q7 h5 rfl;replace J:=O.Q7 J rfl;replace g:=O.Q7 g rfl;have cf:=O.size.trans c8;have c6:=O.defers.trans b5;obtain⟨gE,d5⟩:∃b,b=decide (0≤ix):=⟨_,rfl⟩;have dt:decide ((0:Int)≤ix)=gE:=d5.symm;have d0:=hh d5;clear d5;refine wp_seq (wp_seq (Code.wp_only (R:=fun a6 cx=>aA (fun i=>i==24||i==25) bc a6∧At a6 25 (.bool gE)∧cx=cw) ?_ ?_))
 ·have ac:aA (fun i=>i==24||i==25) bc bc:=aA.refl _ _
  obtain⟨T,d⟩:=bc;refine rl ?_
  iterate 2 with_reducible refine st ?_
  refine ln ⟨rfl,ag,aq,rfl⟩
 rintro a6 cx ⟨E,ds,rfl⟩;replace h0:=E.Q7 h0 rfl;replace h5:=E.Q7 h5 rfl;replace J:=E.Q7 J rfl;replace g:=E.Q7 g rfl;replace ep:=E.Q7 ep rfl;have b2:=E.size.trans cf;have cb:=E.defers.trans c6;obtain⟨pl,eb⟩:∃p:Int,p=(if 0≤ix then((y.runs[ix.toNat]?).map Run.pos).getD 0 else y.pos):=⟨_,rfl⟩;rw[←eb]at ex;have c4:=hh eb;clear eb;refine Code.wp_only (R:=fun bd cy=>aA (fun i=>i==9||(rg 26 31 i)) a6 bd∧At bd 9 (.int .i64 pl)∧cy=cx) ?_ ?_
 ·refine wp_cond_split (ds.eval χ) (fun hg=>?_) (fun hg=>?_)
  ·have em:0≤ix:=by have W:=d0.out;rw[hg]at W;exact of_decide_eq_true W.symm
   obtain⟨k,hk,d9⟩:∃k:Nat,k<y.runs.length∧ix=k:=by
    rcases HV.out with h|⟨_,h⟩|⟨_,h⟩
    ·exact absurd h cc
    ·exact h
    ·omega
   obtain⟨r,hr⟩:=ge hk;obtain⟨bl,off,rfl,f7,e0⟩:=f4.out χ;obtain⟨hc,_⟩:=(aF B _ _) _ _ _ _ _ (c3.out.below (B:=B) χ (fun _ _ h=>h)) f7 (e0 k r hr);have r0:=hc.c0;have dk:pl=r.pos:=by rw[c4.out,if_pos em,d9];simp[hr]
   have gp:k≤a0:=χ
   have gn:At a6 7 (.int .i64 k):=by rw[←d9];exact J
   have ac:aA (fun i=>i==9||(rg 26 31 i)) a6 a6:=aA.refl _ _;have f3:=hh dk;clear hg e0 hc hr dk d9 c4 d0 dt J ds;obtain⟨T,d⟩:=a6;refine rl ?_
   iterate 7 with_reducible refine st ?_
   refine ln ⟨rfl,?_,?_,rfl⟩
   ·exact ag
   ·rw[f3.out];exact At.self
  ·have em:¬ 0≤ix:=by have W:=d0.out;rw[hg]at W;exact of_decide_eq_false W.symm
   refine wp_skip ⟨rfl,aA.refl _ _,?_,rfl⟩;rw[c4.out,if_neg em];exact ep
 rintro bd cy ⟨Q,ad,rfl⟩;replace h0:=Q.Q7 h0 rfl;replace h5:=Q.Q7 h5 rfl;replace J:=Q.Q7 J rfl;replace g:=Q.Q7 g rfl;have bo:=Q.size.trans b2;have b1:=Q.defers.trans cb;refine so (fun be a9=>aA (fun i=>i==10) bd be∧At be 10 (.int .i64 (4:Nat))∧a9=cy) ?_ ?_
 ·have ac:aA (fun i=>i==10) bd bd:=aA.refl _ _
  obtain⟨T,d⟩:=bd;refine rl ?_;with_reducible refine st ?_
  refine ln ⟨rfl,?_,?_,rfl⟩
  ·exact ag
  ·exact At.self
 rintro be a9 ⟨H,ci,rfl⟩;replace h0:=H.Q7 h0 rfl;replace h5:=H.Q7 h5 rfl;replace J:=H.Q7 J rfl;replace g:=H.Q7 g rfl;replace ad:=H.Q7 ad rfl;have a8:=H.size.trans bo;have bm:=H.defers.trans b1;clear dt c4;refine wp_seq (wp_seq (Code.wp_only (R:=fun b0 af=>aA (fun i=>(rg 32 34 i)) be b0∧At b0 32 (.slice (some ⟨a9.heap.size,0,none⟩) 4 4)∧At b0 33 (.int .i64 (4:Nat))∧At b0 34 (.int .i64 0)∧af=a9.alloc (.cells #[.int .i64 90,.int .i64 80,.int .i64 91,.int .i64 93] 72)) ?_ ?_))
 ·have ac:aA (fun i=>(rg 32 34 i)) be be:=aA.refl _ _
  obtain⟨T,d⟩:=be;refine rl ?_
  iterate 3 with_reducible refine st ?_
  refine ln ⟨rfl,?_,?_,?_,?_,rfl⟩
  ·exact ag
  ·exact aq
  ·exact At.ne At.self ψ
  ·exact aq
 rintro b0 af ⟨u,fk,gl,gg,bt⟩;replace h0:=u.Q7 h0 rfl;replace h5:=u.Q7 h5 rfl;replace J:=u.Q7 J rfl;replace g:=u.Q7 g rfl;replace ad:=u.Q7 ad rfl;replace ci:=u.Q7 ci rfl;have I:=u.size.trans a8;have S:=u.defers.trans bm;obtain⟨ze,eo⟩:∃z,z=a9.heap.size:=⟨_,rfl⟩;rw[←eo]at fk;have fe:af.heap[ze]?=some (.cells #[.int .i64 90,.int .i64 80,.int .i64 91,.int .i64 93] 72 (0,0)):=by rw[bt,eo];exact heap_alloc_new _ _
 have f0:Hid (Kz w af):=hh (c3.out.trans (by rw[bt];exact(aD.refl _ _).alloc _) (fun _ _ h=>h));have FE:=hh fe;clear bt eo fe q0 q3;refine Code.wp_only (R:=fun c5 c1=>aA (fun i=>i==10||i==12||(rg 34 45 i)) b0 c5∧At c5 10 (.int .i64 (eR er))∧Kz af c1) ?_ ?_
 ·refine bj 4 (fun i=>i==10||i==12||(rg 34 45 i)) (fun i=>i==10||i==12||(rg 36 44 i)) (fun k a' w'=>At a' 10 (.int .i64 (4+k:Nat))∧(∀z∈jF.take k,er≠z)∧Kz af w') χ gg gl ψ rfl
   ζ χ ψ (fun k a1 a2 w hA ⟨hI,hk⟩=>⟨hA.Q7 hI rfl,hk⟩) ⟨by simpa using ci,ξ,aD.refl _ _⟩ ?_ ?_
  ·rintro n b wr ea hA eq ⟨A,c7,hk⟩
   obtain⟨x,hx⟩:∃x,jF[n]?=some x:=⟨_,Ez (show n<jF.length from ea)⟩;have fr:=(hk.block ze (aG FE.out) (fun h=>h)).trans FE.out;have q0:wr.cell? ⟨ze,n,none⟩=some (.int .i64 x):=by
    rw[cell_of_row _ _ _ _ _ _ fr]
    match n,ea,hx with
    | 0,_,hx=>obtain rfl:_=x:=Option.some.inj hx;rfl
    | 1,_,hx=>obtain rfl:_=x:=Option.some.inj hx;rfl
    | 2,_,hx=>obtain rfl:_=x:=Option.some.inj hx;rfl
    | 3,_,hx=>obtain rfl:_=x:=Option.some.inj hx;rfl
   have cp:=hA.Q7 fk rfl;replace g:=hA.Q7 g rfl;have e9:=hA.size.trans I;have f9:=hA.defers.trans S;have gu:=aG fr;have gr:(n:Int)<4:=χ
   have HX:=hh hx;have eu:=hh c7;have HK:=hh hk;have HA:=hh hA;clear hx c7 hk fr hA;refine so (fun U a4=>aA (fun i=>i==12||i==36||i==37) b U∧At U 12 (.int .i64 x)∧a4=wr) ?_ ?_
   ·have ac:aA (fun i=>i==12||i==36||i==37) b b:=aA.refl _ _
    obtain⟨T,d⟩:=b;refine rl ?_
    iterate 3 with_reducible refine st ?_
    refine ln ⟨rfl,ag,aq,rfl⟩
   rintro U a4 ⟨l,bx,rfl⟩;replace A:=l.Q7 A rfl;replace g:=l.Q7 g rfl;replace cp:=l.Q7 cp rfl;replace eq:=l.Q7 eq rfl;have ef:=l.size.trans e9;have e6:=l.defers.trans f9;obtain⟨sm,ed⟩:∃b,b=(er==x):=⟨_,rfl⟩;have bf:=yu er x a4;rw[←ed]at bf;have HC:=hh bf;have ew:=hh ed;clear ed bf cp eq q0;refine wp_seq (wp_seq (Code.wp_only (R:=fun V bw=>aA (fun i=>(rg 38 42 i)) U V∧At V 42 (.bool sm)∧bw=a4) ?_ ?_))
   ·have ac:aA (fun i=>(rg 38 42 i)) U U:=aA.refl _ _
    obtain⟨T,d⟩:=U;refine rl ?_
    iterate 4 with_reducible refine st ?_
    with_reducible refine Lz (fun K hK=>?_)
    go_simp;refine HC.out.mono ?_;rintro e w2 ⟨rfl,rfl⟩;with_reducible refine hK _ _ ?_;clear hK K
    refine ln ⟨rfl,ag,aq,rfl⟩
   rintro V bw ⟨q,cm,rfl⟩;replace A:=q.Q7 A rfl;replace g:=q.Q7 g rfl;replace bx:=q.Q7 bx rfl;have c9:=q.size.trans ef;have d2:=q.defers.trans e6;refine wp_cond_split (cm.eval χ) (fun hg=>?_) (fun hg=>?_)
   ·have d4:er=x:=by have W:=ew.out;rw[hg]at W;exact eq_of_beq W.symm
    refine wp_exit ?_
    repeat with_reducible apply g9
    simp only[cC];rw[if_neg ψ];simp only[if_true];refine⟨rfl,(aA.trans HA.out (aA.trans (aA.trans (aA.refl (fun i=>i==10||i==12||(rg 36 44 i)) b) l ζ) q ζ) ζ),?_,HK.out⟩;rw[AG HX.out d4 eu.out];exact A
   ·have d4:er≠x:=by have W:=ew.out;rw[hg]at W;exact fun e=>by subst e;simp at W
    refine wp_skip ?_;have e1:IntKind.i64.wrap (((4+n:Nat):Int)+1)=((4+(n+1):Nat):Int):=by rw[i64_in _ χ];omega
    obtain⟨cu,d1⟩:∃c:Nat,c=4+n:=⟨_,rfl⟩;obtain⟨ez,b4⟩:∃c:Nat,c=4+(n+1):=⟨_,rfl⟩;rw[←d1,←b4]at e1;rw[←d1]at A;have fs:=hh b4;have fp:Hid ((cu:Int)+1=(ez:Int)):=hh χ;clear d1 b4 HC hg;refine Code.wp_only (R:=fun b3 cs=>aA (fun i=>i==10||i==43||i==44) V b3∧At b3 10 (.int .i64 ez)∧cs=bw) ?_ ?_
    ·have ac:aA (fun i=>i==10||i==43||i==44) V V:=aA.refl _ _
     obtain⟨T,d⟩:=V;refine rl ?_
     iterate 3 with_reducible refine st ?_
     refine ln ⟨rfl,?_,?_,rfl⟩
     ·exact ag
     ·first|exact At.self|(rw[←fp.out];exact At.self)
    rintro b3 cs ⟨C,cl,rfl⟩;replace g:=C.Q7 g rfl;replace bx:=C.Q7 bx rfl;replace cm:=C.Q7 cm rfl;have fc:=C.size.trans c9;have fm:=C.defers.trans d2;refine⟨(aA.trans (aA.trans (aA.trans (aA.refl (fun i=>i==10||i==12||(rg 36 44 i)) _) l ζ) q ζ) C ζ),by rw[←fs.out];exact cl,fun z hz=>?_,HK.out⟩;rw[aP HX.out]at hz
    rcases List.mem_append.1 hz with h|h
    ·exact eu.out z h
    ·obtain rfl:z=x:=by simpa using h
     exact d4
  ·rintro b wr hA ⟨A,c7,hk⟩
   refine⟨rfl,hA,?_,hk⟩;rw[wA (by simpa[jF]using c7)];exact A
 rintro c5 c1 ⟨Z,cl,e7⟩;replace h0:=Z.Q7 h0 rfl;replace g:=Z.Q7 g rfl;replace ad:=Z.Q7 ad rfl;have c2:=Z.size.trans I;have a3:=Z.defers.trans S;have d8:Kz w c1:=f0.out.trans e7 (fun _ _ h=>h);have f2:=hh (HL.out.new d8);have f1:=hh d8;have fd:fP (eR er)=er:=xV (by rcases HV.out with h|⟨h,_⟩|⟨h,_⟩;exact absurd h cc;rcases h with h|h|h|h<;>simp[h];exact .inr (.inr (.inr (.inr h))));have f5:=hh fd;clear e7 d8 fd;obtain⟨T,d⟩:=c5;refine rl ?_
 iterate 4 with_reducible refine st ?_
 with_reducible refine Lz (fun K hK=>?_)
 go_simp;refine(ce pl (eR er) er f2.out f5.out).mono ?_;rintro e w2 ⟨rfl,f6,a7⟩;with_reducible refine hK _ _ (ln ?_)
 refine ek rfl a3 ⟨rfl,?_,(f1.out.mono fun _ _ h=>h.elim:aD (fun k=>k=pb) w _).trans a7 (fun _ _ h=>h)⟩;rw[ex.out];exact f6
def kq(w:World)(b:Nat)(P:aC):Prop:=∃n p,dC w b n (.int .u64 0) (fun s =>.int .u64 (kR P s:Nat)) p
theorem BY(w:World):(zeroValue 39).run Tryz.prog w=.ok (.int .u64 0) w:=δ
theorem kq.keep{S:Nat→Prop}{w':World}{b:Nat}{P:aC}(h:kq w b P)(hk:aD S w w')(d:¬ S b):kq w' b P:=by
 obtain⟨n,p,h⟩:=h;exact⟨n,p,h.keep hk d⟩
def kY(P:aC)(y:cW)(r:Run):List Wr:=say (decide (r.QK=ByteArray.empty)||decide (kR P r.QK=y.QO)) r.pos 3
def lK:Nat→cW→Int×Int:=fun M y=>(ax M y).2
def jy(P:aC)(M:Nat)(y:cW):List Wr:=jb P y++lH lK M y
theorem tN{v:aR}{P:aC}(h:aE B w pb v P fP L){mc mb:Nat}(bz:w.heap[mc]?=some (.cells #[.map (some mb)] 184 (0,0)))(bt:kq w mb P)(b0:mc≠pb∧mb≠pb){y:cW}{A_r:Option Addr}{U:Nat}(hs:aJ B 4 ec w (.slice A_r y.runs.length U) y.runs)(c2:y.QO<lim)
 {zy:Nat}(a7:w.heap[zy]?=some (.cells #[.int .i64 y.pos,.int .u64 y.QO,.bool y.needs,.slice A_r y.runs.length U] 92 (0,0)))(cv:zy≠pb)(a:Act)(cu:a.tmps.size=130)(h0:At a 0 (.pointer (some ⟨pb,0,none⟩)))(h2:At a 2 (.pointer (some ⟨mc,0,none⟩)))(h8:At a 8 (.pointer (some ⟨zy,0,none⟩)))(Q:Exit→Act→World→Prop)
 (hQ:∀a' w',aA (fun i=>i==10||(rg 99 122 i)) a a'→aE B w' pb v P fP (y.runs.flatMap (kY P y)++L)→aD (fun k=>k=pb) w w'→Q .normal a' w'):
 (bE Tryz.f55 [1,1,1,1,1,0,0,1,1,0,0,1,1,1,0,0,1,1,0,0,1,1,0]).wp Tryz.prog Q a w:=by
 have hd:a.defers=a.defers:=rfl;have c8:=h.lt;have c6:=h.base;have bb:=hh bz;have b5:=hh bt;have HL:=hh h;have bm:=hh a7;obtain⟨_,_,e,c9,hn,hl⟩:=hs
 cases e
 unfold top at hn;have cd:=hh hl;have HQ:=hh hQ;have q3:w.cell? ⟨zy,3,none⟩=some (.slice A_r y.runs.length U):=cr a7 rfl;clear h bz bt hl a7 hQ
 conv=>arg 2;whnf
 refine so (fun S X=>aA (fun i=>(rg 99 102 i)) a S∧At S 100 (.slice A_r y.runs.length U)∧At S 101 (.int .i64 y.runs.length)∧At S 102 (.int .i64 0)∧X=w) ?_ ?_
 ·have af:aA (fun i=>(rg 99 102 i)) a a:=aA.refl _ _
  obtain⟨T,d⟩:=a;refine rl ?_
  iterate 4 with_reducible refine st ?_
  refine ln ⟨rfl,ag,aq,aq,aq,rfl⟩
 rintro S X ⟨u,cy,cx,cw,rfl⟩;replace h0:=u.Q7 h0 rfl;replace h2:=u.Q7 h2 rfl;replace h8:=u.Q7 h8 rfl;have b1:=u.size.trans cu;have ci:=u.defers.trans hd;refine bj y.runs.length (fun i=>i==10||(rg 102 122 i)) (fun i=>i==10||(rg 104 121 i)) (fun k _ w'=>aE B w' pb v P fP ((y.runs.take k).flatMap (kY P y)++L)∧aD (fun k=>k=pb) X w') χ cw cx ψ rfl
  ζ χ ψ (fun k a1 a2 w hA hI=>hI) ⟨by simpa using HL.out,aD.refl _ _⟩ ?_ ?_
 ·rintro n b wr bx hA a8 ⟨hL,hk⟩
  obtain⟨bl,off,rfl,cf,bw⟩:=cd.out χ;obtain⟨x,hx⟩:=ge bx;obtain⟨hc,b3⟩:=(aF B _ _) _ _ _ _ _ (hk.below (B:=B) χ (fun _ hi e=>χ)) cf (bw n x hx);have q0:=hc.c0;have q1:=hc 1 _ rfl;have q2:=hc 2 _ rfl;have q3:=hc 3 _ rfl;have J:=hA.Q7 h0 rfl;have N:=hA.Q7 h2 rfl;have O:=hA.Q7 h8 rfl;have W:=hA.Q7 cy rfl;have b2:=hA.size.trans b1;have cl:=hA.defers.trans ci;have c3:=hk.size;have c1:bl<wr.heap.size:=χ
  have c7:n≤U:=χ
  have HX:=hh hx;have cc:=hh hL;have HK:=hh hk;have bd:=hh ((hk.block mc (aG bb.out) (by exact b0.1)).trans bb.out);have cb:=hh (b5.out.keep hk (by exact b0.2));have bf:=hh ((hk.block zy (aG bm.out) cv).trans bm.out);have di:=hL.lt;clear hx bw hc hA hk hL;refine so (fun A l=>aA (fun i=>i==10||i==104||i==105) b A∧At A 10 (.pointer (some ⟨wr.heap.size,0,none⟩))∧l=wr.alloc (.cells #[.int .i64 x.pos,.string x.QK,.int .u64 x.QT,.int .u64 x.per] 108)) ?_ ?_
  ·have af:aA (fun i=>i==10||i==104||i==105) b b:=aA.refl _ _
   obtain⟨T,d⟩:=b;refine rl ?_
   iterate 4 with_reducible refine st ?_
   refine ln ⟨rfl,ag,aq,rfl⟩
  rintro A l ⟨g,C,H⟩;replace J:=g.Q7 J rfl;replace N:=g.Q7 N rfl;replace O:=g.Q7 O rfl;replace W:=g.Q7 W rfl;replace a8:=g.Q7 a8 rfl;have V:=g.size.trans b2;have ad:=g.defers.trans cl;obtain⟨zr,a6⟩:∃z,z=wr.heap.size:=⟨_,rfl⟩;rw[←a6]at C;have fr:l.heap[zr]?=some (.cells #[.int .i64 x.pos,.string x.QK,.int .u64 x.QT,.int .u64 x.per] 108 (0,0)):=by rw[H,a6];exact heap_alloc_new _ _
  have I:Kz wr l:=by rw[H];exact(aD.refl _ _).alloc _
  have p0:l.cell? ⟨zr,0,none⟩=some (.int .i64 x.pos):=cr fr rfl;have p1:l.cell? ⟨zr,1,none⟩=some (.string x.QK):=cr fr rfl;have pm:l.cell? ⟨mc,0,none⟩=some (.map (some mb)):=cell_of_one ((I.block mc (aG bd.out) (fun h=>h)).trans bd.out);have py:l.cell? ⟨zy,1,none⟩=some (.int .u64 y.QO):=cr ((I.block zy (aG bf.out) (fun h=>h)).trans bf.out) rfl;have cm:(Instr.lookup 184 (.map (some mb)) (.string x.QK) false).run Tryz.prog l=.ok (.int .u64 (kR P x.QK:Nat)) l:=by
   obtain⟨nn,pp,cs⟩:=cb.out.keep I (fun h=>h);exact cs.run Tryz.underlying184 BY (Nat.le_trans b3.2.2.2 (by unfold maxLen;omega))
  have ba:=hh (cc.out.new I);have a9:=hh (HK.out.trans I (fun _ _ h=>h.elim));clear H a6 fr I q0 q1 q2 q3 W a8;obtain⟨cp,a4⟩:∃n:Nat,n=kR P x.QK:=⟨_,rfl⟩;rw[←a4]at cm;obtain⟨be,a3⟩:∃b,b=decide (x.QK=ByteArray.empty):=⟨_,rfl⟩;have b4:(x.QK.toList==ByteArray.toList { data := #[] })=be:=by rw[a3];exact aw _ _
  have c5:(x.QK.toList==[])=be:=by rw[←b4,gH]
  obtain⟨bc,a0⟩:∃b,b=decide (cp=y.QO):=⟨_,rfl⟩;have c4:((cp:Int)==(y.QO:Int))=bc:=by rw[a0];exact eQ _ _
  have HS:Hid (kY P y x=say (be||bc) x.pos 3):=by rw[a3,a0,a4];rfl
  clear a3 a0 a4;have dk:=al
  cases be
  ·skip
   refine Code.wp_only (R:=fun bo Y=>aA (fun i=>(rg 106 121 i)) A bo∧aE B Y pb v P fP (say (false||bc) x.pos 3++((y.runs.take n).flatMap (kY P y)++L))∧aD (fun k=>k=pb) l Y) ?_ ?_
   ·have af:aA (fun i=>(rg 106 121 i)) A A:=aA.refl _ _
    obtain⟨T,d⟩:=A;refine rl ?_
    iterate 15 with_reducible refine st ?_
    with_reducible refine Lz (fun K hK=>?_)
    go_simp;refine(ae bc x.pos 3 100 ba.out rfl).mono ?_;rintro e w2 ⟨rfl,D,E⟩;with_reducible refine hK _ _ ?_;clear hK K
    refine ln ⟨rfl,?_,?_,?_⟩
    ·exact ag
    ·simpa using D
    ·exact E
   rintro bo Y ⟨q,D,E⟩;replace J:=q.Q7 J rfl;replace N:=q.Q7 N rfl;replace O:=q.Q7 O rfl;replace C:=q.Q7 C rfl;have ac:=q.size.trans V;have a5:=q.defers.trans ad;refine⟨(aA.trans (aA.trans (aA.refl (fun i=>i==10||(rg 104 121 i)) _) g ζ) q ζ),D.congr fun p=>?_,a9.out.trans E (fun _ _ h=>h)⟩;rw[aP HX.out,List.flatMap_append,List.flatMap_cons,List.flatMap_nil,List.append_nil,HS.out];simp only[List.mem_append,Bool.false_or,Bool.true_or]
   try simp only[or_assoc,or_comm,or_left_comm]
  ·skip
   refine Code.wp_only (R:=fun bp Z=>aA (fun i=>(rg 106 121 i)) A bp∧aE B Z pb v P fP (say (true) x.pos 3++((y.runs.take n).flatMap (kY P y)++L))∧aD (fun k=>k=pb) l Z) ?_ ?_
   ·have af:aA (fun i=>(rg 106 121 i)) A A:=aA.refl _ _
    obtain⟨T,d⟩:=A;refine rl ?_
    iterate 15 with_reducible refine st ?_
    with_reducible refine Lz (fun K hK=>?_)
    go_simp;refine(ae true x.pos 3 100 ba.out rfl).mono ?_;rintro e w2 ⟨rfl,D,E⟩;with_reducible refine hK _ _ ?_;clear hK K
    refine ln ⟨rfl,?_,?_,?_⟩
    ·exact ag
    ·simpa using D
    ·exact E
   rintro bp Z ⟨r,D,E⟩;replace J:=r.Q7 J rfl;replace N:=r.Q7 N rfl;replace O:=r.Q7 O rfl;replace C:=r.Q7 C rfl;have ac:=r.size.trans V;have a5:=r.defers.trans ad;refine⟨(aA.trans (aA.trans (aA.refl (fun i=>i==10||(rg 104 121 i)) _) g ζ) r ζ),D.congr fun p=>?_,a9.out.trans E (fun _ _ h=>h)⟩;rw[aP HX.out,List.flatMap_append,List.flatMap_cons,List.flatMap_nil,List.append_nil,HS.out];simp only[List.mem_append,Bool.false_or,Bool.true_or]
   try simp only[or_assoc,or_comm,or_left_comm]
 ·rintro b wr hA ⟨hL,hk⟩
  rw[List.take_length]at hL;exact HQ.out _ _ (aA.trans (u.m) hA ζ) hL hk
theorem rh{v:aR}{P:aC}(h:aE B w pb v P fP L){mc mb:Nat}(cd:w.heap[mc]?=some (.cells #[.map (some mb)] 184 (0,0)))(b2:kq w mb P)(Z:mc≠pb∧mb≠pb){x:eX}(hM:¬ (x.QM<1∨65536<x.QM)){A_l:Option Addr}{X:Nat}(hs:aJ B 4 (i7 B) w (.slice A_l x.QH.length X) x.QH)
 {zx:Nat}(bb:w.heap[zx]?=some (.cells #[.int .i64 x.pos,.string x.name,.int .u64 x.QM,.slice A_l x.QH.length X] 62 (0,0)))(cm:zx≠pb)(a:Act)(dk:a.tmps.size=130)(h0:At a 0 (.pointer (some ⟨pb,0,none⟩)))(h2:At a 2 (.pointer (some ⟨mc,0,none⟩)))(h6:At a 6 (.pointer (some ⟨zx,0,none⟩)))(Q:Exit→Act→World→Prop)
 (hQ:∀a' w',aA (fun i=>i==8||i==10||(rg 85 128 i)) a a'→aE B w' pb v P fP (x.QH.flatMap (jy P x.QM)++L)→aD (fun k=>k=pb) w w'→Q .normal a' w'):
 (bE Tryz.f55 [1,1,1,1,1,0,0,1,1,0,0,1,1]).wp Tryz.prog Q a w:=by
 have hd:a.defers=a.defers:=rfl;have d9:=h.lt;have d7:=h.base;have bm:=hh cd;have cv:=hh b2;have HL:=hh h;have bx:=hh bb;obtain⟨_,_,e,ea,hn,hl⟩:=hs
 cases e
 unfold top at hn;have c3:=hh hl;have HQ:=hh hQ;have q3:w.cell? ⟨zx,3,none⟩=some (.slice A_l x.QH.length X):=cr bb rfl;clear h cd b2 hl bb hQ
 conv=>arg 2;whnf
 refine so (fun W a0=>aA (fun i=>(rg 85 88 i)) a W∧At W 86 (.slice A_l x.QH.length X)∧At W 87 (.int .i64 x.QH.length)∧At W 88 (.int .i64 0)∧a0=w) ?_ ?_
 ·have a6:aA (fun i=>(rg 85 88 i)) a a:=aA.refl _ _
  obtain⟨T,d⟩:=a;refine rl ?_
  iterate 4 with_reducible refine st ?_
  refine ln ⟨rfl,ag,aq,aq,aq,rfl⟩
 rintro W a0 ⟨q,d3,d2,d1,rfl⟩;replace h0:=q.Q7 h0 rfl;replace h2:=q.Q7 h2 rfl;replace h6:=q.Q7 h6 rfl;have cf:=q.size.trans dk;have c7:=q.defers.trans hd;refine bj x.QH.length (fun i=>i==8||i==10||(rg 88 128 i)) (fun i=>i==8||i==10||(rg 90 127 i)) (fun k _ w'=>aE B w' pb v P fP ((x.QH.take k).flatMap (jy P x.QM)++L)∧aD (fun k=>k=pb) a0 w') χ d1 d2 ψ rfl
  ζ χ ψ (fun k a1 a2 w hA hI=>hI) ⟨by simpa using HL.out,aD.refl _ _⟩ ?_ ?_
 ·rintro n b wr cc hA bd ⟨hL,hk⟩
  obtain⟨bl,off,rfl,c6,b5⟩:=c3.out χ;obtain⟨y,hx⟩:=ge cc;have b1:=hk.below (B:=B) χ (fun _ hi e=>χ);obtain⟨rv,hc,C,_,b3⟩:=(cK B) _ _ _ _ _ b1 c6 (b5 n y hx);obtain⟨A_r,Y,rfl,C⟩:=C;have c4:Hid (aJ B 4 ec wr (.slice A_r y.runs.length Y) y.runs):=hh ⟨A_r,Y,rfl,C⟩;have q0:=hc.c0;have q1:=hc 1 _ rfl;have q2:=hc 2 _ rfl;have q3:=hc 3 _ rfl;have D:=hA.Q7 h0 rfl;have ad:=hA.Q7 h2 rfl;have I:=hA.Q7 h6 rfl;have af:=hA.Q7 d3 rfl;have ci:=hA.size.trans cf;have c8:=hA.defers.trans c7;have d6:=hk.size;have d4:bl<wr.heap.size:=χ
  have d8:n≤X:=χ
  have HX:=hh hx;have c1:=hh hL;have HK:=hh hk;have bo:=hh ((hk.block mc (aG bm.out) (by exact Z.1)).trans bm.out);have cw:=hh (cv.out.keep hk (by exact Z.2));have bw:=hh ((hk.block zx (aG bx.out) cm).trans bx.out);have eb:=hL.lt;clear hx b5 hc hA hk hL C b1;refine so (fun N u=>aA (fun i=>i==8||i==90||i==91) b N∧At N 8 (.pointer (some ⟨wr.heap.size,0,none⟩))∧u=wr.alloc (.cells #[.int .i64 y.pos,.int .u64 y.QO,.bool y.needs,.slice A_r y.runs.length Y] 92)) ?_ ?_
  ·have a6:aA (fun i=>i==8||i==90||i==91) b b:=aA.refl _ _
   obtain⟨T,d⟩:=b;refine rl ?_
   iterate 4 with_reducible refine st ?_
   refine ln ⟨rfl,ag,aq,rfl⟩
  rintro N u ⟨g,J,O⟩;replace D:=g.Q7 D rfl;replace ad:=g.Q7 ad rfl;replace I:=g.Q7 I rfl;replace af:=g.Q7 af rfl;replace bd:=g.Q7 bd rfl;have ba:=g.size.trans ci;have cb:=g.defers.trans c8;obtain⟨zy,bc⟩:∃z,z=wr.heap.size:=⟨_,rfl⟩;rw[←bc]at J;have fy:u.heap[zy]?=some (.cells #[.int .i64 y.pos,.int .u64 y.QO,.bool y.needs,.slice A_r y.runs.length Y] 92 (0,0)):=by rw[O,bc];exact heap_alloc_new _ _
  have H:Kz wr u:=by rw[O];exact(aD.refl _ _).alloc _
  have p0:u.cell? ⟨zy,0,none⟩=some (.int .i64 y.pos):=cr fy rfl;have p1:u.cell? ⟨zy,1,none⟩=some (.int .u64 y.QO):=cr fy rfl;have ac:zy≠pb:=χ
  have FY:=hh fy;have bf:=hh ((H.block mc (aG bo.out) (fun h=>h)).trans bo.out);have cu:=hh (cw.out.keep H (fun h=>h));have bt:=hh ((H.block zx (aG bw.out) (fun h=>h)).trans bw.out);have bp:=hh (c4.out.below (aF _ _ _) (H.below (B:=B) χ (fun _ _ h=>h)));have cy:=hh (c1.out.new H);have cx:=hh (HK.out.trans H (fun _ _ h=>h.elim));have ds:=H.size;clear O bc fy H q0 q1 q2 q3 af bd;obtain⟨b4,a7⟩:∃b,b=decide (y.QO<4):=⟨_,rfl⟩;have cp:decide ((y.QO:Int)<4)=b4:=by rw[a7];exact decide_eq_decide.2 χ
  have cs:=hh a7;clear a7;refine so (fun a5 a3=>aA (fun i=>(rg 92 98 i)) N a5∧aE B a3 pb v P fP (say b4 y.pos 3++((x.QH.take n).flatMap (jy P x.QM)++L))∧aD (fun k=>k=pb) u a3) ?_ ?_
  ·have a6:aA (fun i=>(rg 92 98 i)) N N:=aA.refl _ _
   obtain⟨T,d⟩:=N;refine rl ?_
   iterate 6 with_reducible refine st ?_
   with_reducible refine Lz (fun K hK=>?_)
   go_simp;refine(ae b4 y.pos 3 100 cy.out rfl).mono ?_;rintro e w2 ⟨rfl,V,A⟩;with_reducible refine hK _ _ ?_;clear hK K
   refine ln ⟨rfl,?_,?_,?_⟩
   ·exact ag
   ·exact V
   ·exact A
  rintro a5 a3 ⟨l,V,A⟩;replace D:=l.Q7 D rfl;replace ad:=l.Q7 ad rfl;replace I:=l.Q7 I rfl;replace J:=l.Q7 J rfl;have S:=l.size.trans ba;have a8:=l.defers.trans cb;have FY2:=(A.block zy (aG FY.out) ac).trans FY.out;refine wp_seq (tN V ((A.block mc (aG bf.out) Z.1).trans bf.out) (cu.out.keep A Z.2) Z (bp.out.below (aF _ _ _) (A.below (B:=B) χ (fun _ hi e=>χ))) b3 FY2 ac a5 S D ad J _ ?_);intro c wc U b0 a9;have cl:=U.size.trans S;have c9:=U.defers.trans a8;replace D:=U.Q7 D rfl;replace I:=U.Q7 I rfl;replace J:=U.Q7 J rfl;have FY3:=(a9.block zy (aG FY2) ac).trans FY2;have E:aD (fun k=>k=pb) u wc:=A.trans a9 (fun _ _ h=>h);have FX3:=(E.block zx (aG bt.out) cm).trans bt.out;have px:wc.cell? ⟨zx,2,none⟩=some (.int .u64 x.QM):=cr FX3 rfl;have s0:wc.cell? ⟨zy,0,none⟩=some (.int .i64 y.pos):=cr FY3 rfl;have s1:wc.cell? ⟨zy,1,none⟩=some (.int .u64 y.QO):=cr FY3 rfl;have s2:wc.cell? ⟨zy,2,none⟩=some (.bool y.needs):=cr FY3 rfl;have s3:wc.cell? ⟨zy,3,none⟩=some (.slice A_r y.runs.length Y):=cr FY3 rfl;have c2:=hh (yn b0 hM (bp.out.below (aF _ _ _) (E.below (B:=B) χ (fun _ hi e=>χ))));have be:=hh E;have dt:=E.size;clear FY2 FY3 FX3 A a9 E V b0 p0 p1 cp;refine Code.wp_only (R:=fun bz a4=>aA (fun i=>(rg 123 127 i)) c bz∧aE B a4 pb v P fP (lH lK x.QM y++(y.runs.flatMap (kY P y)++(say b4 y.pos 3++((x.QH.take n).flatMap (jy P x.QM)++L))))∧aD (fun k=>k=pb) wc a4) ?_ ?_
  ·have a6:aA (fun i=>(rg 123 127 i)) c c:=aA.refl _ _
   obtain⟨T,d⟩:=c;refine rl ?_
   iterate 4 with_reducible refine st ?_
   with_reducible refine Lz (fun K hK=>?_)
   go_simp;refine c2.out.mono ?_;rintro e w2 ⟨rfl,V,A⟩;with_reducible refine hK _ _ ?_;clear hK K
   refine ln ⟨rfl,?_,?_,?_⟩
   ·exact ag
   ·exact V
   ·exact A
  rintro bz a4 ⟨r,c5,di⟩;replace D:=r.Q7 D rfl;replace I:=r.Q7 I rfl;replace J:=r.Q7 J rfl;have d0:=r.size.trans cl;have d5:=r.defers.trans c9;have HS:jy P x.QM y=(say b4 y.pos 3++y.runs.flatMap (kY P y))++lH lK x.QM y:=by rw[cs.out];rfl
  refine⟨(aA.trans (aA.trans (aA.trans (aA.trans (aA.refl (fun i=>i==8||i==10||(rg 90 127 i)) _) g ζ) l ζ) U ζ) r ζ),c5.congr fun p=>?_,(cx.out.trans be.out (fun _ _ h=>h)).trans di (fun _ _ h=>h)⟩;rw[aP HX.out,List.flatMap_append,List.flatMap_cons,List.flatMap_nil,List.append_nil,HS];simp only[List.mem_append]
  try simp only[or_assoc,or_comm,or_left_comm]
 ·rintro b wr hA ⟨hL,hk⟩
  rw[List.take_length]at hL;exact HQ.out _ _ (aA.trans (q.m) hA ζ) hL hk
theorem rf{v:aR}{P:aC}(h:aE B w pb v P fP L){mc mb:Nat}(bx:w.heap[mc]?=some (.cells #[.map (some mb)] 184 (0,0)))(bo:kq w mb P)(a7:mc≠pb∧mb≠pb)(a:Act)(c4:a.tmps.size=130)(h0:At a 0 (.pointer (some ⟨pb,0,none⟩)))(h2:At a 2 (.pointer (some ⟨mc,0,none⟩)))(Q:Exit→Act→World→Prop)
 (hQ:∀a' w',aA (fun i=>i==6||i==8||i==10||(rg 63 129 i)) a a'→aE B w' pb v P fP (P.Q9.flatMap (kN lK P)++L)→aD (fun k=>k=pb) w w'→Q .normal a' w'):
 (bE Tryz.f55 [1,1,1,1]).wp Tryz.prog Q a w:=by
 have hd:a.defers=a.defers:=rfl;have dt:=h.lt;have dk:=h.base;have bd:=hh bx;have ci:=hh bo;have HL:=hh h;obtain⟨A_p,af,b2,d0,hn,hl⟩:=h.QP.Q9;unfold top at hn;have cv:=hh hl;have HQ:=hh hQ;have q9:w.cell? ⟨pb,9,none⟩=some (.slice A_p P.Q9.length af):=by rw[←b2];exact h.cell rfl
 clear h bx bo hl hQ b2
 conv=>arg 2;whnf
 refine so (fun S W=>aA (fun i=>(rg 63 69 i)) a S∧At S 67 (.slice A_p P.Q9.length af)∧At S 68 (.int .i64 P.Q9.length)∧At S 69 (.int .i64 0)∧W=w) ?_ ?_
 ·have a0:aA (fun i=>(rg 63 69 i)) a a:=aA.refl _ _
  obtain⟨T,d⟩:=a;refine rl ?_
  iterate 7 with_reducible refine st ?_
  refine ln ⟨rfl,ag,aq,aq,aq,rfl⟩
 rintro S W ⟨u,c7,c6,c5,rfl⟩;replace h0:=u.Q7 h0 rfl;replace h2:=u.Q7 h2 rfl;have bz:=u.size.trans c4;have c1:=u.defers.trans hd;refine bj P.Q9.length (fun i=>i==6||i==8||i==10||(rg 69 129 i)) (fun i=>i==6||i==8||i==10||(rg 71 128 i)) (fun k _ w'=>aE B w' pb v P fP ((P.Q9.take k).flatMap (kN lK P)++L)∧aD (fun k=>k=pb) W w') χ c5 c6 ψ rfl
  ζ χ ψ (fun k a1 a2 w hA hI=>hI) ⟨by simpa using HL.out,aD.refl _ _⟩ ?_ ?_
 ·rintro n b wr bw hA ba ⟨hL,hk⟩
  obtain⟨bl,off,rfl,cy,bp⟩:=cv.out χ;obtain⟨x,hx⟩:=ge bw;have bm:=hk.below (B:=B) χ (fun _ hi e=>χ);obtain⟨lv,hc,r,_,c9,_⟩:=(dK B) _ _ _ _ _ bm cy (bp n x hx);obtain⟨A_l,Z,rfl,r⟩:=r;have cs:Hid (aJ B 4 (i7 B) wr (.slice A_l x.QH.length Z) x.QH):=hh ⟨A_l,Z,rfl,r⟩;have q0:=hc.c0;have q1:=hc 1 _ rfl;have q2:=hc 2 _ rfl;have q3:=hc 3 _ rfl;have E:=hA.Q7 h0 rfl;have H:=hA.Q7 h2 rfl;have V:=hA.Q7 c7 rfl;have b0:=hA.size.trans bz;have c2:=hA.defers.trans c1;have di:=hk.size;have c8:bl<wr.heap.size:=χ
  have ds:n≤af:=χ
  have HX:=hh hx;have cp:=hh hL;have HK:=hh hk;have be:=hh ((hk.block mc (aG bd.out) (by exact a7.1)).trans bd.out);have cl:=hh (ci.out.keep hk (by exact a7.2));have d1:=hL.lt;clear hx bp hc hA hk hL r bm q9;refine so (fun C y=>aA (fun i=>i==6||i==71||i==72) b C∧At C 6 (.pointer (some ⟨wr.heap.size,0,none⟩))∧y=wr.alloc (.cells #[.int .i64 x.pos,.string x.name,.int .u64 x.QM,.slice A_l x.QH.length Z] 62)) ?_ ?_
  ·have a0:aA (fun i=>i==6||i==71||i==72) b b:=aA.refl _ _
   obtain⟨T,d⟩:=b;refine rl ?_
   iterate 4 with_reducible refine st ?_
   refine ln ⟨rfl,ag,aq,rfl⟩
  rintro C y ⟨g,O,D⟩;replace E:=g.Q7 E rfl;replace H:=g.Q7 H rfl;replace V:=g.Q7 V rfl;replace ba:=g.Q7 ba rfl;have a8:=g.size.trans b0;have bt:=g.defers.trans c2;obtain⟨zx,a9⟩:∃z,z=wr.heap.size:=⟨_,rfl⟩;rw[←a9]at O;have fx:y.heap[zx]?=some (.cells #[.int .i64 x.pos,.string x.name,.int .u64 x.QM,.slice A_l x.QH.length Z] 62 (0,0)):=by rw[D,a9];exact heap_alloc_new _ _
  have N:Kz wr y:=by rw[D];exact(aD.refl _ _).alloc _
  have p0:y.cell? ⟨zx,0,none⟩=some (.int .i64 x.pos):=cr fx rfl;have p2:y.cell? ⟨zx,2,none⟩=some (.int .u64 x.QM):=cr fx rfl;have b3:zx≠pb:=χ
  have FX:=hh fx;have cu:=hh ((N.block mc (aG be.out) (fun h=>h)).trans be.out);have cf:=hh (cl.out.keep N (fun h=>h));have cm:=hh (cs.out.below (cK _) (N.below (B:=B) χ (fun _ _ h=>h)));have bc:=hh (cp.out.new N);have bb:=hh (HK.out.trans N (fun _ _ h=>h.elim));clear D a9 fx N q0 q1 q2 q3 V ba;obtain⟨lo,U⟩:∃b,b=decide (x.QM<1):=⟨_,rfl⟩;have b5:decide ((x.QM:Int)<1)=lo:=by rw[U];exact decide_eq_decide.2 χ
  obtain⟨hi,a5⟩:∃b,b=decide (65536<x.QM):=⟨_,rfl⟩;have b4:decide ((65536:Int)<(x.QM:Int))=hi:=by rw[a5];exact decide_eq_decide.2 χ
  have cb:decide (x.QM=0)=lo:=by rw[U];exact decide_eq_decide.2 χ
  have cc:decide ((x.QM:Int)=0)=lo:=by rw[U];exact decide_eq_decide.2 χ
  have ac:Hid ((lo||hi)=decide (x.QM<1∨65536<x.QM)):=hh (by rw[U,a5,Bool.decide_or]);clear U a5;have d2:=al;refine wp_seq (wp_seq (Code.wp_only (R:=fun A X=>aA (fun i=>(rg 73 80 i)) C A∧At A 80 (.bool (lo||hi))∧X=y) ?_ ?_))
  ·have a0:aA (fun i=>(rg 73 80 i)) C C:=aA.refl _ _
   obtain⟨T,d⟩:=C;refine rl ?_
   iterate 4 with_reducible refine st ?_
   cases lo
   ·skip
    iterate 4 with_reducible refine st ?_
    refine ln ⟨rfl,?_,?_,rfl⟩
    ·exact ag
    ·simp only[Bool.false_or,Bool.true_or];exact At.self
   ·skip
    iterate 4 with_reducible refine st ?_
    refine ln ⟨rfl,?_,?_,rfl⟩
    ·exact ag
    ·simp only[Bool.false_or,Bool.true_or];exact At.self
  rintro A X ⟨l,ad,rfl⟩;replace E:=l.Q7 E rfl;replace H:=l.Q7 H rfl;replace O:=l.Q7 O rfl;have J:=l.size.trans a8;have a4:=l.defers.trans bt;refine wp_cond_split (ad.eval χ) (fun hg=>?_) (fun hg=>?_)
  ·have I:x.QM<1∨65536<x.QM:=by have h1:=ac.out;rw[hg]at h1;exact of_decide_eq_true h1.symm
   clear hg b5 b4 cb cc ad;refine so (fun bf Y=>aA (fun i=>(rg 81 84 i)) A bf∧aE B Y pb v P fP ((x.pos,2)::((P.Q9.take n).flatMap (kN lK P)++L))∧aD (fun k=>k=pb) X Y) ?_ ?_
   ·have a0:aA (fun i=>(rg 81 84 i)) A A:=aA.refl _ _
    obtain⟨T,d⟩:=A;refine rl ?_
    iterate 3 with_reducible refine st ?_
    with_reducible refine Lz (fun K hK=>?_)
    go_simp;refine(ce x.pos 2 92 bc.out rfl).mono ?_;rintro e w2 ⟨rfl,a3,a6⟩;with_reducible refine hK _ _ ?_;clear hK K
    refine ln ⟨rfl,?_,?_,?_⟩
    ·exact ag
    ·exact a3
    ·exact a6
   rintro bf Y ⟨q,a3,a6⟩;replace E:=q.Q7 E rfl;replace H:=q.Q7 H rfl;replace O:=q.Q7 O rfl;have b1:=q.size.trans J;have cd:=q.defers.trans a4;refine wp_exit ?_
   repeat with_reducible apply g9
   simp only[cC,if_true];refine⟨(aA.trans (aA.trans (aA.trans (aA.refl (fun i=>i==6||i==8||i==10||(rg 71 128 i)) _) g ζ) l ζ) q ζ),a3.congr fun p=>?_,bb.out.trans a6 (fun _ _ h=>h)⟩;rw[aP HX.out,List.flatMap_append,List.flatMap_cons,List.flatMap_nil,List.append_nil,show kN lK P x=[(x.pos,2)] from by unfold kN;rw[if_pos I]];simp only[List.mem_append,List.mem_cons,List.mem_nil_iff,or_false]
   try simp only[or_assoc,or_comm,or_left_comm]
  ·have I:¬ (x.QM<1∨65536<x.QM):=by have h1:=ac.out;rw[hg]at h1;exact of_decide_eq_false h1.symm
   refine wp_skip ?_;refine rh bc.out cu.out cf.out a7 I cm.out FX.out b3 A J E H O _ ?_;intro c wc cw cx c3;refine⟨(aA.trans (aA.trans (aA.trans (aA.refl (fun i=>i==6||i==8||i==10||(rg 71 128 i)) _) g ζ) l ζ) cw ζ),cx.congr fun p=>?_,bb.out.trans c3 (fun _ _ h=>h)⟩;rw[aP HX.out,List.flatMap_append,List.flatMap_cons,List.flatMap_nil,List.append_nil,show kN lK P x=x.QH.flatMap (jy P x.QM) from by unfold kN;rw[if_neg I];rfl];simp only[List.mem_append]
   try simp only[or_assoc,or_comm,or_left_comm]
 ·rintro b wr hA ⟨hL,hk⟩
  rw[List.take_length]at hL;exact HQ.out _ _ (aA.trans (u.m) hA ζ) hL hk
end Go.Proofs.YtpblcjipmoblnaaGreatDoor
namespace Go.Proofs.YtpblcjipmoblnaaGreatDoor
open Go.RowKit Go.IntWalk Go.Shelf Ck
variable {w:World} {B:Nat}
attribute [local go_sem] Oper.semAt_some
def B0(P:aC)(l:List (Fin P.Q3.length)):ByteArray→Value:=qE (fun i=>P.Q3[i].name) (fun i =>.int .u64 (P.Q3[i].QO:Nat)) (fun _ =>.int .u64 0) l
theorem zO(P:aC)(s:ByteArray):B0 P (List.finRange _) s=.int .u64 (kR P s:Nat):=by
 unfold B0 kR;rw[im,je P.Q3]
 cases(List.finRange P.Q3.length).find? fun i=>decide (P.Q3[i].name=s)<;>rfl
theorem uM{P:Program}{f:FuncId}{fn:Func}{N:Nat}{args:Array Value}{R:Ending→World→Prop}(l:P.funcs[f]?=some fn)(g:fn.ntmps=N)(j:fn.body.isSome=true)(q:args.size≤N)
 (h:∀a:Act,a.tmps.size=N→a.defers=[]→(∀i v,args[i]?=some v→At a i v)→(bE fn []).wp P (bodyPostM Fence.wide 9 P fn R) a w):Calls P f args w R:=by
 obtain⟨c,d⟩:=Option.isSome_iff_exists.1 j;have e:bE fn []=c:=by unfold bE;rw[d];rfl
 rw[e]at h;refine(callsIn_wide (n:=9)).1 (callsIn_of_wp_marks l d trivial (wpIn_wide.2 (h _ ?_ rfl fun i v hv=>?_)))
 ·simp[g];omega
 ·intro r
  have p:i<args.size:=(Array.getElem?_eq_some_iff.1 hv).1;show(args++Array.replicate (fn.ntmps-args.size) undef)[i]=v;rw[Array.getElem_append_left p];exact(Array.getElem?_eq_some_iff.1 hv).2
theorem yK{β:Type}{N k:Nat}{cs:Array Value}{t:TypeId}{z:Nat×Nat}:OwnFrom N (fun(_:β) W=>W.heap[k]?=some (.cells cs t z)):=Own.from (gN k cs t z) N
theorem zk(T:Array Value)(p q:Nat)(u v:Value):(#[p,q].zip #[u,v]).foldl (fun(t:Array Value) (x:Nat×Value)=>match x with|(p,v)=>t.setIfInBounds p v) T=(T.setIfInBounds p u).setIfInBounds q v:=by
 simp[List.zip_toArray]
theorem tP{v:aR}{P:aC}(hp:ao B w v P)(U:B≤w.heap.size){A_s:Option Addr}{R:Nat}(q:v.Q3=.slice A_s P.Q3.length R){y mc bx:Nat}(hm:w.heap[y]?=some (.map #[] 0))(X:w.heap[mc]?=some (.cells #[.map (some y)] 184 (0,0)))(V:w.heap[bx]?=some (.cells #[.slice A_s P.Q3.length R] 26 (0,0)))
 (bc:B≤y)(a:Act)(Z:a.tmps.size=130)(h2:At a 2 (.pointer (some ⟨mc,0,none⟩)))(a3:At a 55 (.func (.func 129) #[] #[.pointer (some ⟨bx,0,none⟩)]))(Q:Exit→Act→World→Prop)
 (hQ:∀D W,w.heap.size≤D→kq W y P→W.heap[mc]?=some (.cells #[.map (some y)] 184 (0,0))→aD (fun k=>k=y) w W→W.heap[D]?=some (.deferred (some []))→Q .normal { a with defers:={ target := .collected D,args := #[] }::a.defers } W):
 (bE Tryz.f55 [1,1,1,0,1]).wp Tryz.prog Q a w:=by
 have E:=hp.Q3;rw[q]at E;obtain⟨_,_,e,a7,hn,hl⟩:=E
 cases e
 unfold top at hn;have HQ:=hh hQ;have a9:=aG X;have ad:=aG hm;have a5:=aG V;have a8:mc≠y:=by rintro rfl;rw[X]at hm;cases hm
 have a6:bx≠y:=by rintro rfl;rw[V]at hm;cases hm
 clear hQ
 conv=>arg 2;whnf
 refine wp_block ((wpIn_wide (n:=9)).1 ?_);obtain⟨p,Y,H⟩:=lk (σ:=(Option Addr×Nat)×(Option Addr×Nat)) (fun(x:aj) s=>[.int .i64 x.pos,.string x.name,.int .u64 x.QO,.bool x.stopped,.slice s.1.1 x.QF.length s.1.2,.slice s.2.1 x.QN.length s.2.2]) (fun x _=>aX x.name) (fun b o x hx=>by
  obtain⟨u,u2,hc,⟨Am,cm,rfl,_⟩,⟨Ar,cR,rfl,_⟩,_,_,E⟩:=hx;exact⟨((Am,cm),(Ar,cR)),hc,E⟩) hl
 obtain⟨vs,q⟩:∃vs:Nat→Nat→Value,vs=fun j c=>if h:j<P.Q3.length then([.int .i64 P.Q3[j].pos,.string P.Q3[j].name,.int .u64 P.Q3[j].QO,.bool P.Q3[j].stopped,.slice (p j).1.1 P.Q3[j].QF.length (p j).1.2,.slice (p j).2.1 P.Q3[j].QN.length (p j).2.2]:List Value).getD c undef else undef:=⟨_,rfl⟩
 have hA:0<P.Q3.length→∃b off,A_s=some ⟨b,off,none⟩∧b<w.heap.size∧b≠y∧∀j c,j<P.Q3.length→c<6→w.cell? ⟨b,off+j*6+c,none⟩=some (vs j c):=fun af=>by
  obtain⟨b,off,h1,h2,C⟩:=Y af;refine⟨b,off,h1,χ,χ,fun j c hj hc=>?_⟩;rw[q];simp only[dif_pos hj];refine(C j hj) c _ ?_
  match c,hc with
  | 0,_=>rfl
  | 1,_=>rfl
  | 2,_=>rfl
  | 3,_=>rfl
  | 4,_=>rfl
  | 5,_=>rfl
 have N:=pV Fence.wide 8 trivial rfl ψ bx y w.heap.size P.Q3.length R A_s vs χ a7 ⟨a5,a6⟩ w (Nat.le_refl _) (cell_of_one V) hA;rw[show(fun x:Fin P.Q3.length=>(#[.int .i64 (x.val:Int),.agg #[vs x.val 0,vs x.val 1,vs x.val 2,vs x.val 3,vs x.val 4,vs x.val 5]]:Array Value))=fun x =>#[.int .i64 (x.val:Int),.agg #[.int .i64 P.Q3[x.val].pos,.string P.Q3[x.val].name,.int .u64 P.Q3[x.val].QO,.bool P.Q3[x.val].stopped,.slice (p x.val).1.1 P.Q3[x.val].QF.length (p x.val).1.2,.slice (p x.val).2.1 P.Q3[x.val].QN.length (p x.val).2.2]] from by
  funext x
  rw[q];simp only[dif_pos x.isLt];rfl]at N
 have a2:a.eval (.tmp 55)=.func (.func 129) #[] #[.pointer (some ⟨bx,0,none⟩)]:=a3.eval (by rw[Z];decide);refine wpIn_rangeFunc_ownH (F:=Fence.wide) (n:=9) rfl ψ (gf:=129) (lb := #[.pointer (some ⟨bx,0,none⟩)]) a2 trivial (enters_of Tryz.func129 δ rfl)
  N qG (yp (Nat.le_refl _)) (Below.refl _ _) (fun _=>rfl)
  (fun g W=>(dC W y g.length (.int .u64 0) (B0 P g.reverse) (qD (fun i=>P.Q3[i].name) (fun _=>false) g.reverse)∧W.heap[mc]?=some (.cells #[.map (some y)] 184 (0,0)))∧(aD (fun k=>k=y) w W))
  (fun _ _ _=>False)
  (OwnFrom.and (OwnFrom.and (fun s A B row E hg hr=>dC.own E hg (fun r e=>(hr r e).1) ad) yK) (fun s A B row E hg hr=>E.trans (aD.of_grown hg (S:=fun k=>w.heap.size≤k) (fun k e=>(hr k e).1)) (fun i hi h=>χ)))
  (fun _ _ _ _ _ E _ _=>E)
  ⟨⟨dC.new _ _ _ hm,X⟩,aD.refl _ _⟩
  (fun x (a':Act) (W:World)=>∃Bx:Nat,W.heap[Bx]?=some (Obj.cells #[.int .i64 P.Q3[x.val].pos,.string P.Q3[x.val].name,.int .u64 P.Q3[x.val].QO,.bool P.Q3[x.val].stopped,.slice (p x.val).1.1 P.Q3[x.val].QF.length (p x.val).1.2,.slice (p x.val).2.1 P.Q3[x.val].QN.length (p x.val).2.2] 52 (0,0))∧a'.tmps.size=130∧At a' 2 (.pointer (some ⟨mc,0,none⟩))∧At a' 4 (.pointer (some ⟨Bx,0,none⟩)))
  (fun x a' s A B row E hg hr=>by
   obtain⟨Bx,h2,C⟩:=E;exact⟨Bx,oH h2 hg (fun r e=>(hr r e).2),C⟩)
  ?assign ?body ?done ?stop
 case assign =>
  rintro l g x W K ⟨⟨O,C⟩,U⟩ J;have ac:=aG C;have HK:=hh J;clear N hA H Y q hl J hp;obtain⟨T,d⟩:=a;have ba:((T.setIfInBounds 56 (.int .i64 (x.val:Int))).setIfInBounds 57 (.agg #[.int .i64 P.Q3[x.val].pos,.string P.Q3[x.val].name,.int .u64 P.Q3[x.val].QO,.bool P.Q3[x.val].stopped,.slice (p x.val).1.1 P.Q3[x.val].QF.length (p x.val).1.2,.slice (p x.val).2.1 P.Q3[x.val].QN.length (p x.val).2.2])).size=130:=by simpa using Z
  refine wpIn_region_lit ?_;rw[zk]
  dsimp only
  iterate 2
   with_reducible refine wpListIn_step (fun K J=>?_)
   go_simp;with_reducible refine J _ _ ?_;clear J K
  refine wpListIn_nil ?_;refine HK.out _ _ ((KeepsOthers.alloc _ _).from _) ((aD.refl _ _).alloc _) ⟨⟨O.keep (((aD.refl (fun _=>False) _).alloc _)) (fun h=>h),(Below.heap_alloc _ _ _ ac).trans C⟩,U.alloc _⟩ ⟨W.heap.size,heap_alloc_new _ _,?_,?_,?_⟩
  ·simpa using Z
  ·(repeat (first|with_reducible exact At.self|with_reducible apply At.ne));all_goals first|decide|with_reducible exact h2
  ·exact aq
 case body =>
  rintro l g x a' W hl _ ⟨⟨O,C⟩,U⟩ ⟨Bx,hX,I,k2,k4⟩ bb;have q1:W.cell? ⟨Bx,1,none⟩=some (.string P.Q3[x.val].name):=cr hX rfl;have q2:W.cell? ⟨Bx,2,none⟩=some (.int .u64 P.Q3[x.val].QO):=cr hX rfl;have qm:=cell_of_one C;have a0:=H x.val x.isLt;have HS:=hh O;have H3:=hh C;have HB:=hh U;have a1:Hid (aX P.Q3[x.val].name):=hh a0;clear O C U hX N hA H Y q a0 hp;obtain⟨T,d⟩:=a';refine wpIn_block (wpIn_region_lit ?_)
  iterate 5
   with_reducible refine wpListIn_step (fun K J=>?_)
   go_simp;with_reducible refine J _ _ ?_;clear J K
  refine dC.updateIn rfl HS.out (by unfold maxLen;omega) rfl rfl Tryz.underlying184 (At.eval (by exact aq) (by have:=I;simp at this⊢; omega)) (At.eval (by exact aq) (by have:=I;simp at this⊢; omega)) (Nat.le_trans a1.out (by unfold maxLen;omega)) (At.eval (by exact aq) (by have:=I;simp at this⊢; omega)) ?_;intro w2 a4 L;refine wpListIn_nil ?_;have e1:(g++[x]).reverse=x::g.reverse:=ξ
  have e2:(g++[x]).length=g.length+1:=ξ
  refine⟨io L ad,L.mono fun _ _ h =>.inl h,⟨?_,(L.block _ (aG H3.out) a8).trans H3.out⟩,HB.out.trans L (fun _ _ h=>h)⟩;rw[e1,e2];exact a4
 case done =>
  rintro D ys W hD rfl ⟨⟨O,C⟩,U⟩ J;rw[ko]at O;have f1:B0 P (List.finRange _)=fun s =>.int .u64 (kR P s:Nat):=funext fun s=>zO P s
  rw[f1]at O;exact HQ.out D W hD ⟨_,_,O⟩ C U J
 case stop =>
  rintro D c g W _ _ h _;exact h.elim
theorem qA{w':World}{pb:Nat}{v:aR}{P:aC}{W:Int→Int}{L:List Wr}(h:aE B w pb v P W L){m:Nat}(hk:aD (fun k=>k=m) w w')(l:m<w.heap.size→B≤m∧cD w m=none):aE B w' pb v P W L:=
 h.keep hk fun k p j=>by
  subst p;obtain⟨g,d⟩:=l j;exact⟨g,by rw[d];simp,by rw[d];simp⟩
theorem wF{pb:Nat}{v:aR}{P:aC}(h:aE B w pb v P fP []):Calls Tryz.prog 55 #[.pointer (some ⟨pb,0,none⟩)] w fun e w'=>e=.returned (.tuple #[])∧aE B w' pb v P fP (jS lK P)∧aD (fun k=>k=pb) w w':=by
 have es:=h.base;have ex:=h.lt;obtain⟨A_t,ds,c2,_,ef,_⟩:=h.QP.QE;obtain⟨A_p,b4,c1,eu,ed,cw⟩:=h.QP.Q9;obtain⟨A_m,dk,cy,_,eb,_⟩:=h.QP.QB;obtain⟨A_s,V,em,ew,ee,d8⟩:=h.QP.Q3;unfold top at ef ed eb ee;have eo:w.cell? ⟨pb,11,none⟩=some (.slice A_t P.QE.length ds):=by rw[←c2];exact h.cell rfl
 have q0:w.cell? ⟨pb,0,none⟩=some (.int .i64 P.pos):=h.cell rfl;have c7:=hh (h.new ((aD.refl _ w).drew));have b3:=hh cw;have bf:=hh em;clear h cw d8 c2;refine uM Tryz.func55 Tryz.ntmps55 rfl (by show 1≤130;decide) fun a eg hd hh=>?_
 have X:At a 0 (.pointer (some ⟨pb,0,none⟩)):=hh 0 _ rfl;clear hh
 conv=>arg 2;whnf
 obtain⟨bs,hbs⟩:∃b,b=decide (0<P.QE.length):=⟨_,rfl⟩;have c3:decide ((0:Int)<(P.QE.length:Int))=bs:=by rw[hbs];exact decide_eq_decide.2 χ
 have c4:decide (0<P.QE.length)=bs:=hbs.symm;have c6:=hh hbs;clear hbs;refine so (fun Q r=>aA (fun i=>(rg 11 24 i)) a Q∧aE B r pb v P fP (say bs P.pos 0)∧aD (fun k=>k=pb) w r) ?_ ?_
 ·have a0:aA (fun i=>(rg 11 24 i)) a a:=aA.refl _ _
  obtain⟨T,d⟩:=a;refine wp_region_still_tail 13 δ δ ?_;simp only[List.take_succ_cons,List.take_zero,List.drop_succ_cons,List.drop_zero]
  iterate 13 with_reducible refine sl ?_
  with_reducible refine wpStill_nil ?_;refine Lz (fun K hK=>?_)
  go_simp;refine(ae bs P.pos 0 107 c7.out rfl).mono ?_;rintro e w2 ⟨rfl,bo,bw⟩;with_reducible refine hK _ _ (ln ?_)
  refine⟨rfl,ag,by simpa using bo,((aD.refl _ _).drew).trans bw (fun _ _ e=>e)⟩
 rintro Q r ⟨I,q,ac⟩;replace X:=I.Q7 X rfl;have cx:=I.size.trans eg;have d5:=I.defers.trans hd;have p9:r.cell? ⟨pb,9,none⟩=some (.slice A_p P.Q9.length b4):=by rw[←c1];exact q.cell rfl
 have en:r.cell? ⟨pb,10,none⟩=some (.slice A_m P.QB.length dk):=by rw[←cy];exact q.cell rfl
 have p5:r.cell? ⟨pb,5,none⟩=some (.slice A_s P.Q3.length V):=by rw[←bf.out];exact q.cell rfl
 clear c1 cy c3 c4 q0 eo;obtain⟨bp,a3⟩:∃b,b=decide (1<P.Q9.length):=⟨_,rfl⟩;have bb:decide ((1:Int)<(P.Q9.length:Int))=bp:=by rw[a3];exact decide_eq_decide.2 χ
 have bc:decide (1<P.Q9.length)=bp:=a3.symm;have b0:=hh a3;clear a3;have b2:=hh q;have b1:=hh ac;clear q ac;refine wp_seq (wp_seq (Code.wp_only (R:=fun E O=>aA (fun i=>(rg 25 31 i)) Q E∧At E 31 (.bool bp)∧O=r) ?_ ?_))
 ·have a0:aA (fun i=>(rg 25 31 i)) Q Q:=aA.refl _ _
  obtain⟨T,d⟩:=Q;refine rl ?_
  iterate 7 with_reducible refine st ?_
  refine ln ⟨rfl,ag,aq,rfl⟩
 rintro E O ⟨J,ba,rfl⟩;replace X:=J.Q7 X rfl;have bz:=J.size.trans cx;have ci:=J.defers.trans d5;refine Code.wp_only (R:=fun S g=>aA (fun i=>(rg 32 48 i)) E S∧aE B g pb v P fP (say bs P.pos 0++(match P.Q9[1]? with|some x=>say (decide (0<P.QB.length)) x.pos 1|none=>[]))∧aD (fun k=>k=pb) O g) ?_ ?_
 ·refine wp_cond_split (ba.eval χ) (fun hg=>?_) (fun hg=>?_)
  ·have a8:1<P.Q9.length:=by have h1:=b0.out;rw[hg]at h1;exact of_decide_eq_true h1.symm
   obtain⟨x,hx⟩:=ge a8;obtain⟨bl,off,rfl,d3,a6⟩:=b3.out χ;obtain⟨lv,hc,_⟩:=(dK B) _ _ _ _ _ (b1.out.below (B:=B) χ (fun _ hi e=>χ)) d3 (a6 1 x hx);have r0:=hc.c0;rw[Nat.one_mul]at r0;obtain⟨bm,a2⟩:∃b,b=decide (0<P.QB.length):=⟨_,rfl⟩;have eq:decide ((0:Int)<(P.QB.length:Int))=bm:=by rw[a2];exact decide_eq_decide.2 χ
   have er:decide (0<P.QB.length)=bm:=a2.symm;have HX:=hh hx;have c5:=hh a2;have ey:1≤b4:=χ
   have ez:(1:Int)<(P.Q9.length:Int):=χ
   have c9:=hh (b2.out.new ((aD.refl _ O).drew));clear a2 hx hc a6 hg bb bc ba;have a0:aA (fun i=>(rg 32 48 i)) E E:=aA.refl _ _;obtain⟨T,d⟩:=E;refine wp_region_still_tail 16 δ δ ?_;simp only[List.take_succ_cons,List.take_zero,List.drop_succ_cons,List.drop_zero]
   iterate 16 with_reducible refine sl ?_
   with_reducible refine wpStill_nil ?_;refine Lz (fun K hK=>?_)
   go_simp;refine(ae bm x.pos 1 106 c9.out rfl).mono ?_;rintro e w2 ⟨rfl,bo,bw⟩;with_reducible refine hK _ _ (ln ?_)
   refine⟨rfl,?_,bo.congr fun p=>?_,((aD.refl _ _).drew).trans bw (fun _ _ e=>e)⟩
   ·exact ag
   ·rw[HX.out,c5.out]
    simp only[List.mem_append]
    try simp only[or_comm]
  ·have a8:¬ 1<P.Q9.length:=by have h1:=b0.out;rw[hg]at h1;exact of_decide_eq_false h1.symm
   refine wp_skip ⟨rfl,aA.refl _ _,?_,aD.refl _ _⟩;rw[List.getElem?_eq_none χ]
   simpa using b2.out
 rintro S g ⟨L,a1,cm⟩;replace X:=L.Q7 X rfl;have a5:=L.size.trans bz;have bt:=L.defers.trans ci;have p5:g.cell? ⟨pb,5,none⟩=some (.slice A_s P.Q3.length V):=by rw[←bf.out];exact a1.cell rfl
 have c8:=hh a1;have bd:Hid (aD (fun k=>k=pb) w g):=b1.out.trans cm (fun _ _ h=>h);have a9:=a1.lt;clear a1 cm p9 en bb bc b3;have ea:=@run_makeMap Tryz.prog;refine so (fun H j=>aA (fun i=>i==2||i==49) S H∧At H 2 (.pointer (some ⟨g.heap.size+1,0,none⟩))∧j=(g.alloc (.map #[] 0)).alloc (.cells #[.map (some g.heap.size)] 184)) ?_ ?_
 ·have a0:aA (fun i=>i==2||i==49) S S:=aA.refl _ _
  obtain⟨T,d⟩:=S;refine rl ?_
  iterate 3 with_reducible refine st ?_
  refine ln ⟨rfl,ag,aq,rfl⟩
 rintro H j ⟨N,h2,l⟩;replace X:=N.Q7 X rfl;have ad:=N.size.trans a5;have a4:=N.defers.trans bt;clear ea;obtain⟨mb,U⟩:∃m,m=g.heap.size:=⟨_,rfl⟩;rw[←U]at h2 l;have s4:j.heap.size=mb+2:=by rw[l,U];simp
 have f1:j.heap[mb]?=some (.map #[] 0):=by rw[l,U,Below.heap_alloc _ _ _ ξ];exact heap_alloc_new _ _
 have f2:j.heap[mb+1]?=some (.cells #[.map (some mb)] 184 (0,0)):=by
  rw[l];have:=heap_alloc_new (g.alloc (.map #[] 0)) (.cells #[.map (some mb)] 184)
  rwa[World.size_alloc,←U]at this
 have cp:Kz g j:=by rw[l];exact((aD.refl _ _).alloc _).alloc _
 replace p5:=(cp.cell (p:=⟨pb,5,none⟩) a9 (fun h=>h)).trans p5;have be:=hh U;have di:=hh s4;clear l U s4;refine wp_seq (wp_seq (Code.wp_only (R:=fun A C=>aA (fun i=>(rg 50 55 i)) H A∧At A 55 (.func (.func 129) #[] #[.pointer (some ⟨j.heap.size,0,none⟩)])∧C=j.alloc (.cells #[.slice A_s P.Q3.length V] 26)) ?_ ?_))
 ·have a0:aA (fun i=>(rg 50 55 i)) H H:=aA.refl _ _
  obtain⟨T,d⟩:=H;refine rl ?_
  iterate 5 with_reducible refine st ?_
  with_reducible refine Lz (fun K hK=>?_)
  go_simp;refine((callsIn_wide (n:=9)).1 (oh Fence.wide 9 trivial rfl A_s P.Q3.length V _)).mono ?_;rintro e w5 ⟨rfl,rfl⟩;with_reducible refine hK _ _ ?_;clear hK K
  refine ln ⟨rfl,ag,aq,rfl⟩
 rintro A C ⟨y,b5,af⟩;replace X:=y.Q7 X rfl;replace h2:=y.Q7 h2 rfl;have u:=y.size.trans ad;have Y:=y.defers.trans a4;obtain⟨bx,cf⟩:∃m,m=j.heap.size:=⟨_,rfl⟩;rw[←cf]at b5;have f3:C.heap[bx]?=some (.cells #[.slice A_s P.Q3.length V] 26 (0,0)):=by rw[af,cf];exact heap_alloc_new _ _
 have Z:Kz j C:=by rw[af];exact(aD.refl _ _).alloc _
 have a7:Kz g C:=cp.trans Z (fun _ _ h=>h);have cd:=c8.out.new a7;have ep:pb<mb:=by rw[be.out];exact a9
 have e1:=Z.size;have e0:=di.out;refine tP cd.QP χ bf.out ((Z.block mb (aG f1) (fun h=>h)).trans f1) ((Z.block (mb+1) (aG f2) (fun h=>h)).trans f2) f3 χ A u h2 b5 _ ?_;intro D W hD d4 d9 cs hK;with_reducible apply bu
 have d2:=qA cd cs (fun _=>⟨χ,by unfold cD;rw[(Z.block mb (aG f1) (fun h=>h)).trans f1]⟩);refine rf d2 d9 d4 ⟨χ,χ⟩ { tmps:=A.tmps,defers:={ target := .collected D,args := #[] }::A.defers } u X h2 _ ?_;intro a' w' dt d1 cl;have d6:a'.defers=[{ target := .collected D,args := #[] }]:=by rw[dt.defers];show _::A.defers=_;rw[show A.defers=[] from Y]
 have d0:D≠pb:=χ
 have cb:w'.heap[D]?=some (.deferred (some [])):=(cl.block D (aG hK) d0).trans hK;have cv:aD (fun k=>k=D) w' (w'.putObj D (.deferred none)):=aD.of_grown (grownBy_putObj' w' D (.deferred none)) (fun k e=>by cases e;rfl);have cc:=qA d1 cv (fun _=>⟨χ,by unfold cD;rw[cb]⟩);have d7:aD (fun k=>k=pb) w w':=((bd.out.trans a7 (fun _ _ h=>h.elim)).trans cs (fun i hi e=>by have:=bd.out.size;have:=be.out;omega)).trans cl (fun _ _ h=>h);have cu:aD (fun k=>k=pb) w (w'.putObj D (.deferred none)):=d7.trans cv (fun i hi e=>by have:=bd.out.size;have:=be.out;omega);show LeavesInM Fence.wide 9 Tryz.prog Tryz.f55 a'.tmps _ a'.defers .returning w';rw[d6];refine⟨ξ,.inl ⟨_,_,rfl,run_takeDeferred cb,?_⟩⟩;refine⟨_,results_none rfl _ _ _,rfl,cc.congr fun p=>?_,cu⟩;unfold jS;rw[c6.out];simp only[List.mem_append]
 try simp only[or_assoc,or_comm,or_left_comm]
 exact Iff.rfl
