import Derived.Test.YtpblcjipmoblnaaGreatDoorDraw
import Derived.Test.YtpblcjipmoblnaaGreatDoorThings2
import Derived.Test.YtpblcjipmoblnaaGreatDoorLFlat
import Derived.Test.YtpblcjipmoblnaaGreatDoorIsEr
import Derived.Test.YtpblcjipmoblnaaGreatDoorSmap
set_option maxRecDepth 100000
set_option maxHeartbeats 4000000
set_option linter.unusedVariables false
set_option linter.unusedSimpArgs false
set_option linter.unnecessarySimpa false
namespace Go.Proofs.YtpblcjipmoblnaaGreatDoor
open Go.RowKit Go.IntWalk Ck
variable {B c M pb:Nat} {w:World} {e:Int} {L:List Wr}
theorem sR{A:Option Addr}{a:List Run}(h:aT B 4 ef w (.slice A a.length c) a)(p:B≤w.heap.size):eW w A a:=by
 obtain⟨_,_,e,_,_,j⟩:=h
 cases e
 intro l;obtain⟨b,off,d,q,g⟩:=j l;refine⟨b,off,d,by omega,fun i r n=>?_⟩;have:=(g i r n).1;exact⟨this.c0,this 1 _ rfl,this 2 _ rfl,this 3 _ rfl⟩
theorem sQ{A:Option Addr}{b:List Run}(h:aT B 4 ef w (.slice A b.length c) b):∀r∈b,r.QT<18446744073709551616∧r.per<18446744073709551616:=by
 intro r d;obtain⟨A,c,_,_,_,e⟩:=h;obtain⟨g,off,_,_,a⟩:=e (List.length_pos_of_mem d);obtain⟨k,hk⟩:=List.getElem?_of_mem d;have:=(a k r hk).2;exact⟨this.2.1,this.2.2.1⟩
def ay(M:Nat)(y:cK):Nat×Int×Int:=((Ln.dC M y.needs y.runs).1.length,(Ln.dC M y.needs y.runs).2.1,(Ln.dC M y.needs y.runs).2.2)
theorem sH{zp U off n k:Nat}{y:cK}{A_r:Option Addr}{an:Nat}{R:List bH×Int×Int}(hR:R=Ln.dC M y.needs y.runs)
 (qm:w.cell? ⟨zp,2,none⟩=some (.int .u64 M))(ql:w.cell? ⟨zp,3,none⟩=some (.slice (some ⟨U,off,none⟩) n c))(hk:k<n)(a8:n≤c)(a9:n≤2097152)
 (q0:w.cell? ⟨U,off+k*4,none⟩=some (.int .i64 y.pos))(q1:w.cell? ⟨U,off+k*4+1,none⟩=some (.int .u64 y.QP))(q2:w.cell? ⟨U,off+k*4+2,none⟩=some (.bool y.needs))(q3:w.cell? ⟨U,off+k*4+3,none⟩=some (.slice A_r y.runs.length an))
 (hF:Calls Tryz.prog 66 #[.int .u64 M,.agg #[.int .i64 y.pos,.int .u64 y.QP,.bool y.needs,.slice A_r y.runs.length an]] w.drew (cI w.drew R))(a:Act)(a5:a.tmps.size=104)(h8:At a 8 (.pointer (some ⟨zp,0,none⟩)))(a2:At a 11 (.int .i64 k))(Q:Exit→Act→World→Prop)
 (hQ:∀A w' v,aA (fun i=>i==12||i==13||i==14||(rg 82 93 i)) a A→At A 12 v→w'.ownsRow w.heap.size 256 3 v R.1.length (ak R.1)→Below w.heap.size w w'→Q .normal A w'):
 (al Tryz.f60 [1,1,1,1,0,1,0,0,1,1,0,0,1,1,0,0,1,1,0,0,1,1,0,1,1,0,0]).wp Tryz.prog Q a w:=by
 have HF:=hh hF;have HQ:=hh hQ;clear hF hQ hR
 conv=>arg 2;whnf
 refine jU (fun L A w'=>aA (fun i=>i==12||i==13||i==14||(rg 82 93 i)) a A∧(L 0=true→At A 83 (.pointer (some ⟨zp,2,none⟩)))∧(L 1=true→At A 84 (.int .u64 M))∧(L 2=true→At A 85 (.pointer (some ⟨zp,3,none⟩)))∧(L 3=true→At A 86 (.slice (some ⟨U,off,none⟩) n c))∧(L 4=true→At A 87 (.int .i64 k))∧(L 5=true→At A 88 (.pointer (some ⟨U,off+k*4,none⟩)))∧(L 6=true→At A 89 (.agg #[.int .i64 y.pos,.int .u64 y.QP,.bool y.needs,.slice A_r y.runs.length an]))∧(L 7=false→w'=w.drew∧L 8=false∧L 9=false∧L 10=false∧L 11=false∧L 12=false)∧(L 7=true→∃v,w'.ownsRow w.heap.size 256 3 v R.1.length (ak R.1)∧Below w.heap.size w.drew w'∧At A 90 (.tuple #[v,.int .i64 R.2.1,.int .i64 R.2.2])∧(L 8=true→At A 82 (.tuple #[v,.int .i64 R.2.1,.int .i64 R.2.2]))∧(L 9=true→At A 91 (v))∧(L 10=true→At A 92 (.int .i64 R.2.1))∧(L 11=true→At A 93 (.int .i64 R.2.2))∧(L 12=true→At A 12 (v)))) (by kernel_rfl) (by kernel_rfl) ?_ ?_ ?_
 ·exact⟨aA.refl _ _,(fun h=>by cases h),(fun h=>by cases h),(fun h=>by cases h),(fun h=>by cases h),(fun h=>by cases h),(fun h=>by cases h),(fun h=>by cases h),(fun _=>⟨rfl,rfl,rfl,rfl,rfl,rfl⟩),(fun h=>by cases h)⟩
 ·rintro L A w' i op ⟨B,c0,c1,c2,V,W,X,Y,r,hv⟩ g hL E K Z
  have k8:=B.Q7 h8 rfl;have bb:=B.Q7 a2 rfl;have a7:=B.size.trans a5;have hi:i<15:=by
   have:=(List.getElem?_eq_some_iff.1 g).1
   simpa using this
  rcases(by omega:i=0∨i=1∨i=2∨i=3∨i=4∨i=5∨i=6∨i=7∨i=8∨i=9∨i=10∨i=11∨i=12∨i=13∨i=14)with rfl|rfl|rfl|rfl|rfl|rfl|rfl|rfl|rfl|rfl|rfl|rfl|rfl|rfl|rfl
  ·obtain rfl:=Option.some.inj (g:some _=some op)
   clear g hi;clear E;have u:L 7=true∨w'=w.drew:=by
    cases h:L 7 with
    | true=>exact .inl rfl
    | false=>exact .inr (r h).1
   have x:Below w.heap.size w w':=by
    rcases u with h|h
    ·obtain⟨v,_,b,_⟩:=hv h;exact⟨b.os,b.tape,b.output,b.size,b.block⟩
    ·rw[h];exact⟨rfl,rfl,rfl,Nat.le_refl _,fun _ _=>rfl⟩
   clear x u;have C:=hh B;have N:=hh r;have J:=hh hv;clear B r hv;obtain⟨T,d⟩:=A;go_simp;refine Z _ _ ?_;exact⟨C.out.set rfl _,(fun _=>At.self),(fun h=>(c1 h).ne (by decide)),(fun h=>(c2 h).ne (by decide)),(fun h=>(V h).ne (by decide)),(fun h=>(W h).ne (by decide)),(fun h=>(X h).ne (by decide)),(fun h=>(Y h).ne (by decide)),N.out,(fun h=>by obtain⟨v,g,b,G,D,I,l,q,j⟩:=J.out h;exact⟨v,g,b,G.ne (by decide),fun h=>(D h).ne (by decide),fun h=>(I h).ne (by decide),fun h=>(l h).ne (by decide),fun h=>(q h).ne (by decide),fun h=>(j h).ne (by decide)⟩)⟩
  ·obtain rfl:=Option.some.inj (g:some _=some op)
   clear g hi;have d0:L 0=true:=by simpa[Region.binds]using E
   clear E;have S:=c0 d0;have u:L 7=true∨w'=w.drew:=by
    cases h:L 7 with
    | true=>exact .inl rfl
    | false=>exact .inr (r h).1
   have x:Below w.heap.size w w':=by
    rcases u with h|h
    ·obtain⟨v,_,b,_⟩:=hv h;exact⟨b.os,b.tape,b.output,b.size,b.block⟩
    ·rw[h];exact⟨rfl,rfl,rfl,Nat.le_refl _,fun _ _=>rfl⟩
   replace qm:=(x.cell (p:=⟨zp,2,none⟩) (World.block_lt_of_cell? w ⟨zp,2,none⟩ qm)).trans qm;clear x u;have C:=hh B;have N:=hh r;have J:=hh hv;clear B r hv;obtain⟨T,d⟩:=A;go_simp;refine Z _ _ ?_;exact⟨C.out.set rfl _,(fun h=>(c0 h).ne (by decide)),(fun _=>At.self),(fun h=>(c2 h).ne (by decide)),(fun h=>(V h).ne (by decide)),(fun h=>(W h).ne (by decide)),(fun h=>(X h).ne (by decide)),(fun h=>(Y h).ne (by decide)),N.out,(fun h=>by obtain⟨v,g,b,G,D,I,l,q,j⟩:=J.out h;exact⟨v,g,b,G.ne (by decide),fun h=>(D h).ne (by decide),fun h=>(I h).ne (by decide),fun h=>(l h).ne (by decide),fun h=>(q h).ne (by decide),fun h=>(j h).ne (by decide)⟩)⟩
  ·obtain rfl:=Option.some.inj (g:some _=some op)
   clear g hi;clear E;have u:L 7=true∨w'=w.drew:=by
    cases h:L 7 with
    | true=>exact .inl rfl
    | false=>exact .inr (r h).1
   have x:Below w.heap.size w w':=by
    rcases u with h|h
    ·obtain⟨v,_,b,_⟩:=hv h;exact⟨b.os,b.tape,b.output,b.size,b.block⟩
    ·rw[h];exact⟨rfl,rfl,rfl,Nat.le_refl _,fun _ _=>rfl⟩
   clear x u;have C:=hh B;have N:=hh r;have J:=hh hv;clear B r hv;obtain⟨T,d⟩:=A;go_simp;refine Z _ _ ?_;exact⟨C.out.set rfl _,(fun h=>(c0 h).ne (by decide)),(fun h=>(c1 h).ne (by decide)),(fun _=>At.self),(fun h=>(V h).ne (by decide)),(fun h=>(W h).ne (by decide)),(fun h=>(X h).ne (by decide)),(fun h=>(Y h).ne (by decide)),N.out,(fun h=>by obtain⟨v,g,b,G,D,I,l,q,j⟩:=J.out h;exact⟨v,g,b,G.ne (by decide),fun h=>(D h).ne (by decide),fun h=>(I h).ne (by decide),fun h=>(l h).ne (by decide),fun h=>(q h).ne (by decide),fun h=>(j h).ne (by decide)⟩)⟩
  ·obtain rfl:=Option.some.inj (g:some _=some op)
   clear g hi;have d2:L 2=true:=by simpa[Region.binds]using E
   clear E;have S:=c2 d2;have u:L 7=true∨w'=w.drew:=by
    cases h:L 7 with
    | true=>exact .inl rfl
    | false=>exact .inr (r h).1
   have x:Below w.heap.size w w':=by
    rcases u with h|h
    ·obtain⟨v,_,b,_⟩:=hv h;exact⟨b.os,b.tape,b.output,b.size,b.block⟩
    ·rw[h];exact⟨rfl,rfl,rfl,Nat.le_refl _,fun _ _=>rfl⟩
   replace ql:=(x.cell (p:=⟨zp,3,none⟩) (World.block_lt_of_cell? w ⟨zp,3,none⟩ ql)).trans ql;clear x u;have C:=hh B;have N:=hh r;have J:=hh hv;clear B r hv;obtain⟨T,d⟩:=A;go_simp;refine Z _ _ ?_;exact⟨C.out.set rfl _,(fun h=>(c0 h).ne (by decide)),(fun h=>(c1 h).ne (by decide)),(fun h=>(c2 h).ne (by decide)),(fun _=>At.self),(fun h=>(W h).ne (by decide)),(fun h=>(X h).ne (by decide)),(fun h=>(Y h).ne (by decide)),N.out,(fun h=>by obtain⟨v,g,b,G,D,I,l,q,j⟩:=J.out h;exact⟨v,g,b,G.ne (by decide),fun h=>(D h).ne (by decide),fun h=>(I h).ne (by decide),fun h=>(l h).ne (by decide),fun h=>(q h).ne (by decide),fun h=>(j h).ne (by decide)⟩)⟩
  ·obtain rfl:=Option.some.inj (g:some _=some op)
   clear g hi;clear E;have u:L 7=true∨w'=w.drew:=by
    cases h:L 7 with
    | true=>exact .inl rfl
    | false=>exact .inr (r h).1
   have x:Below w.heap.size w w':=by
    rcases u with h|h
    ·obtain⟨v,_,b,_⟩:=hv h;exact⟨b.os,b.tape,b.output,b.size,b.block⟩
    ·rw[h];exact⟨rfl,rfl,rfl,Nat.le_refl _,fun _ _=>rfl⟩
   clear x u;have C:=hh B;have N:=hh r;have J:=hh hv;clear B r hv;obtain⟨T,d⟩:=A;go_simp;refine Z _ _ ?_;exact⟨C.out.set rfl _,(fun h=>(c0 h).ne (by decide)),(fun h=>(c1 h).ne (by decide)),(fun h=>(c2 h).ne (by decide)),(fun h=>(V h).ne (by decide)),(fun _=>At.self),(fun h=>(X h).ne (by decide)),(fun h=>(Y h).ne (by decide)),N.out,(fun h=>by obtain⟨v,g,b,G,D,I,l,q,j⟩:=J.out h;exact⟨v,g,b,G.ne (by decide),fun h=>(D h).ne (by decide),fun h=>(I h).ne (by decide),fun h=>(l h).ne (by decide),fun h=>(q h).ne (by decide),fun h=>(j h).ne (by decide)⟩)⟩
  ·obtain rfl:=Option.some.inj (g:some _=some op)
   clear g hi;have d3:L 3=true:=by have:=E;simp[Region.binds]at this;exact this.1
   have d4:L 4=true:=by have:=E;simp[Region.binds]at this;exact this.2
   clear E;have S:=V d3;have be:=W d4;have u:L 7=true∨w'=w.drew:=by
    cases h:L 7 with
    | true=>exact .inl rfl
    | false=>exact .inr (r h).1
   have x:Below w.heap.size w w':=by
    rcases u with h|h
    ·obtain⟨v,_,b,_⟩:=hv h;exact⟨b.os,b.tape,b.output,b.size,b.block⟩
    ·rw[h];exact⟨rfl,rfl,rfl,Nat.le_refl _,fun _ _=>rfl⟩
   clear x u;have C:=hh B;have N:=hh r;have J:=hh hv;clear B r hv;obtain⟨T,d⟩:=A;go_simp;refine Z _ _ ?_;exact⟨C.out.set rfl _,(fun h=>(c0 h).ne (by decide)),(fun h=>(c1 h).ne (by decide)),(fun h=>(c2 h).ne (by decide)),(fun h=>(V h).ne (by decide)),(fun h=>(W h).ne (by decide)),(fun _=>At.self),(fun h=>(Y h).ne (by decide)),N.out,(fun h=>by obtain⟨v,g,b,G,D,I,l,q,j⟩:=J.out h;exact⟨v,g,b,G.ne (by decide),fun h=>(D h).ne (by decide),fun h=>(I h).ne (by decide),fun h=>(l h).ne (by decide),fun h=>(q h).ne (by decide),fun h=>(j h).ne (by decide)⟩)⟩
  ·obtain rfl:=Option.some.inj (g:some _=some op)
   clear g hi;have d5:L 5=true:=by simpa[Region.binds]using E
   clear E;have S:=X d5;have u:L 7=true∨w'=w.drew:=by
    cases h:L 7 with
    | true=>exact .inl rfl
    | false=>exact .inr (r h).1
   have x:Below w.heap.size w w':=by
    rcases u with h|h
    ·obtain⟨v,_,b,_⟩:=hv h;exact⟨b.os,b.tape,b.output,b.size,b.block⟩
    ·rw[h];exact⟨rfl,rfl,rfl,Nat.le_refl _,fun _ _=>rfl⟩
   replace q0:=(x.cell (p:=⟨U,off+k*4,none⟩) (World.block_lt_of_cell? w ⟨U,off+k*4,none⟩ q0)).trans q0;replace q1:=(x.cell (p:=⟨U,off+k*4+1,none⟩) (World.block_lt_of_cell? w ⟨U,off+k*4+1,none⟩ q1)).trans q1;replace q2:=(x.cell (p:=⟨U,off+k*4+2,none⟩) (World.block_lt_of_cell? w ⟨U,off+k*4+2,none⟩ q2)).trans q2;replace q3:=(x.cell (p:=⟨U,off+k*4+3,none⟩) (World.block_lt_of_cell? w ⟨U,off+k*4+3,none⟩ q3)).trans q3;clear x u;have C:=hh B;have N:=hh r;have J:=hh hv;clear B r hv;obtain⟨T,d⟩:=A;go_simp;refine Z _ _ ?_;exact⟨C.out.set rfl _,(fun h=>(c0 h).ne (by decide)),(fun h=>(c1 h).ne (by decide)),(fun h=>(c2 h).ne (by decide)),(fun h=>(V h).ne (by decide)),(fun h=>(W h).ne (by decide)),(fun h=>(X h).ne (by decide)),(fun _=>At.self),N.out,(fun h=>by obtain⟨v,g,b,G,D,I,l,q,j⟩:=J.out h;exact⟨v,g,b,G.ne (by decide),fun h=>(D h).ne (by decide),fun h=>(I h).ne (by decide),fun h=>(l h).ne (by decide),fun h=>(q h).ne (by decide),fun h=>(j h).ne (by decide)⟩)⟩
  ·obtain rfl:=Option.some.inj (g:some _=some op)
   clear g hi;have d1:L 1=true:=by have:=E;simp[Region.binds]at this;exact this.1
   have d6:L 6=true:=by have:=E;simp[Region.binds]at this;exact this.2
   clear E;obtain⟨a6,n8,n9,ac,ad,af⟩:=r hL;subst a6;have bc:=c1 d1;have bd:=Y d6;have C:=hh B;have N:=hh r;have J:=hh hv;clear B r hv;obtain⟨T,d⟩:=A;go_simp;refine HF.out.mono ?_;rintro e w2 ⟨v,rfl,a4,a3⟩;refine Z _ _ ?_;exact⟨C.out.set rfl _,(fun h=>(c0 h).ne (by decide)),(fun h=>(c1 h).ne (by decide)),(fun h=>(c2 h).ne (by decide)),(fun h=>(V h).ne (by decide)),(fun h=>(W h).ne (by decide)),(fun h=>(X h).ne (by decide)),(fun h=>(Y h).ne (by decide)),(fun h=>by cases h),(fun _=>⟨v,a4,a3,At.self,fun h=>absurd (n8.symm.trans h) (by decide),fun h=>absurd (n9.symm.trans h) (by decide),fun h=>absurd (ac.symm.trans h) (by decide),fun h=>absurd (ad.symm.trans h) (by decide),fun h=>absurd (af.symm.trans h) (by decide)⟩)⟩
  ·obtain rfl:=Option.some.inj (g:some _=some op)
   clear g hi;have O:L 7=true:=by simpa[Region.binds]using E
   clear E;have O:L 7=true:=by
    cases h:L 7 with
    | true=>rfl
    | false=>simp_all
   obtain⟨v,g,b,G,D,I,l,q,j⟩:=hv O;have S:=G;have HO:=hh g;have H:=hh b;clear g b;have C:=hh B;have N:=hh r;have J:=hh hv;clear B r hv;obtain⟨T,d⟩:=A;go_simp;refine Z _ _ ?_;exact⟨C.out.set rfl _,(fun h=>(c0 h).ne (by decide)),(fun h=>(c1 h).ne (by decide)),(fun h=>(c2 h).ne (by decide)),(fun h=>(V h).ne (by decide)),(fun h=>(W h).ne (by decide)),(fun h=>(X h).ne (by decide)),(fun h=>(Y h).ne (by decide)),(fun h=>absurd (O.symm.trans h) (by decide)),(fun _=>⟨v,HO.out,H.out,G.ne (by decide),fun _=>At.self,fun h=>(I h).ne (by decide),fun h=>(l h).ne (by decide),fun h=>(q h).ne (by decide),fun h=>(j h).ne (by decide)⟩)⟩
  ·obtain rfl:=Option.some.inj (g:some _=some op)
   clear g hi;have d8:L 8=true:=by simpa[Region.binds]using E
   clear E;have O:L 7=true:=by
    cases h:L 7 with
    | true=>rfl
    | false=>obtain⟨_,n8,n9,ac,ad,af⟩:=r h;simp_all
   obtain⟨v,g,b,G,D,I,l,q,j⟩:=hv O;have S:=D d8;have HO:=hh g;have H:=hh b;clear g b;have C:=hh B;have N:=hh r;have J:=hh hv;clear B r hv;obtain⟨T,d⟩:=A;go_simp;refine Z _ _ ?_;exact⟨C.out.set rfl _,(fun h=>(c0 h).ne (by decide)),(fun h=>(c1 h).ne (by decide)),(fun h=>(c2 h).ne (by decide)),(fun h=>(V h).ne (by decide)),(fun h=>(W h).ne (by decide)),(fun h=>(X h).ne (by decide)),(fun h=>(Y h).ne (by decide)),(fun h=>absurd (O.symm.trans h) (by decide)),(fun _=>⟨v,HO.out,H.out,G.ne (by decide),fun h=>(D h).ne (by decide),fun _=>At.self,fun h=>(l h).ne (by decide),fun h=>(q h).ne (by decide),fun h=>(j h).ne (by decide)⟩)⟩
  ·obtain rfl:=Option.some.inj (g:some _=some op)
   clear g hi;have d8:L 8=true:=by simpa[Region.binds]using E
   clear E;have O:L 7=true:=by
    cases h:L 7 with
    | true=>rfl
    | false=>obtain⟨_,n8,n9,ac,ad,af⟩:=r h;simp_all
   obtain⟨v,g,b,G,D,I,l,q,j⟩:=hv O;have S:=D d8;have HO:=hh g;have H:=hh b;clear g b;have C:=hh B;have N:=hh r;have J:=hh hv;clear B r hv;obtain⟨T,d⟩:=A;go_simp;refine Z _ _ ?_;exact⟨C.out.set rfl _,(fun h=>(c0 h).ne (by decide)),(fun h=>(c1 h).ne (by decide)),(fun h=>(c2 h).ne (by decide)),(fun h=>(V h).ne (by decide)),(fun h=>(W h).ne (by decide)),(fun h=>(X h).ne (by decide)),(fun h=>(Y h).ne (by decide)),(fun h=>absurd (O.symm.trans h) (by decide)),(fun _=>⟨v,HO.out,H.out,G.ne (by decide),fun h=>(D h).ne (by decide),fun h=>(I h).ne (by decide),fun _=>At.self,fun h=>(q h).ne (by decide),fun h=>(j h).ne (by decide)⟩)⟩
  ·obtain rfl:=Option.some.inj (g:some _=some op)
   clear g hi;have d8:L 8=true:=by simpa[Region.binds]using E
   clear E;have O:L 7=true:=by
    cases h:L 7 with
    | true=>rfl
    | false=>obtain⟨_,n8,n9,ac,ad,af⟩:=r h;simp_all
   obtain⟨v,g,b,G,D,I,l,q,j⟩:=hv O;have S:=D d8;have HO:=hh g;have H:=hh b;clear g b;have C:=hh B;have N:=hh r;have J:=hh hv;clear B r hv;obtain⟨T,d⟩:=A;go_simp;refine Z _ _ ?_;exact⟨C.out.set rfl _,(fun h=>(c0 h).ne (by decide)),(fun h=>(c1 h).ne (by decide)),(fun h=>(c2 h).ne (by decide)),(fun h=>(V h).ne (by decide)),(fun h=>(W h).ne (by decide)),(fun h=>(X h).ne (by decide)),(fun h=>(Y h).ne (by decide)),(fun h=>absurd (O.symm.trans h) (by decide)),(fun _=>⟨v,HO.out,H.out,G.ne (by decide),fun h=>(D h).ne (by decide),fun h=>(I h).ne (by decide),fun h=>(l h).ne (by decide),fun _=>At.self,fun h=>(j h).ne (by decide)⟩)⟩
  ·obtain rfl:=Option.some.inj (g:some _=some op)
   clear g hi;have d9:L 9=true:=by have:=E;simp[Region.binds]at this;exact this.1
   clear E;have O:L 7=true:=by
    cases h:L 7 with
    | true=>rfl
    | false=>obtain⟨_,n8,n9,ac,ad,af⟩:=r h;simp_all
   obtain⟨v,g,b,G,D,I,l,q,j⟩:=hv O;have S:=I d9;have HO:=hh g;have H:=hh b;clear g b;have C:=hh B;have N:=hh r;have J:=hh hv;clear B r hv;obtain⟨T,d⟩:=A;go_simp;refine Z _ _ ?_;exact⟨C.out.set rfl _,(fun h=>(c0 h).ne (by decide)),(fun h=>(c1 h).ne (by decide)),(fun h=>(c2 h).ne (by decide)),(fun h=>(V h).ne (by decide)),(fun h=>(W h).ne (by decide)),(fun h=>(X h).ne (by decide)),(fun h=>(Y h).ne (by decide)),(fun h=>absurd (O.symm.trans h) (by decide)),(fun _=>⟨v,HO.out,H.out,G.ne (by decide),fun h=>(D h).ne (by decide),fun h=>(I h).ne (by decide),fun h=>(l h).ne (by decide),fun h=>(q h).ne (by decide),fun _=>At.self⟩)⟩
  ·obtain rfl:=Option.some.inj (g:some _=some op)
   clear g hi;have a0:L 10=true:=by have:=E;simp[Region.binds]at this;exact this.1
   clear E;have O:L 7=true:=by
    cases h:L 7 with
    | true=>rfl
    | false=>obtain⟨_,n8,n9,ac,ad,af⟩:=r h;simp_all
   obtain⟨v,g,b,G,D,I,l,q,j⟩:=hv O;have S:=l a0;have HO:=hh g;have H:=hh b;clear g b;have C:=hh B;have N:=hh r;have J:=hh hv;clear B r hv;obtain⟨T,d⟩:=A;go_simp;refine Z _ _ ?_;exact⟨C.out.set rfl _,(fun h=>(c0 h).ne (by decide)),(fun h=>(c1 h).ne (by decide)),(fun h=>(c2 h).ne (by decide)),(fun h=>(V h).ne (by decide)),(fun h=>(W h).ne (by decide)),(fun h=>(X h).ne (by decide)),(fun h=>(Y h).ne (by decide)),(fun h=>absurd (O.symm.trans h) (by decide)),(fun _=>⟨v,HO.out,H.out,G.ne (by decide),fun h=>(D h).ne (by decide),fun h=>(I h).ne (by decide),fun h=>(l h).ne (by decide),fun h=>(q h).ne (by decide),fun h=>(j h).ne (by decide)⟩)⟩
  ·obtain rfl:=Option.some.inj (g:some _=some op)
   clear g hi;have a1:L 11=true:=by have:=E;simp[Region.binds]at this;exact this.1
   clear E;have O:L 7=true:=by
    cases h:L 7 with
    | true=>rfl
    | false=>obtain⟨_,n8,n9,ac,ad,af⟩:=r h;simp_all
   obtain⟨v,g,b,G,D,I,l,q,j⟩:=hv O;have S:=q a1;have HO:=hh g;have H:=hh b;clear g b;have C:=hh B;have N:=hh r;have J:=hh hv;clear B r hv;obtain⟨T,d⟩:=A;go_simp;refine Z _ _ ?_;exact⟨C.out.set rfl _,(fun h=>(c0 h).ne (by decide)),(fun h=>(c1 h).ne (by decide)),(fun h=>(c2 h).ne (by decide)),(fun h=>(V h).ne (by decide)),(fun h=>(W h).ne (by decide)),(fun h=>(X h).ne (by decide)),(fun h=>(Y h).ne (by decide)),(fun h=>absurd (O.symm.trans h) (by decide)),(fun _=>⟨v,HO.out,H.out,G.ne (by decide),fun h=>(D h).ne (by decide),fun h=>(I h).ne (by decide),fun h=>(l h).ne (by decide),fun h=>(q h).ne (by decide),fun h=>(j h).ne (by decide)⟩)⟩
 ·rintro L A w' ⟨B,_,_,_,_,_,_,_,r,hv⟩ ah
  obtain⟨v,g,b,_,_,_,_,_,j⟩:=hv (ah 7 (by decide));exact HQ.out A w' v B (j (ah 12 (by decide))) g ⟨b.os,b.tape,b.output,b.size,b.block⟩
theorem rJ(M:Nat)(r:Run)(a:Bool):Ln.right M r a=0∨Ln.right M r a=90∨Ln.right M r a=80∨Ln.right M r a=91:=by
 unfold Ln.right
 repeat' split
 all_goals simp
theorem kD{M:Nat}{b:Bool}:∀{l:List Run} {i s:Nat} {a e:Int},Ln.cC M b i s l=some (a,e)→(e=90∨e=80∨e=91∨e=93)∧∃k:Nat,k<l.length∧a=(i+k:Nat)
 | [],_,_,_,_,h=>by simp[Ln.cC]at h
 | r::l,i,s,a,e,h=>by
  unfold Ln.cC at h;split at h
  ·split at h
   ·simp at h
    obtain⟨rfl,rfl⟩:=h;exact⟨by simp,0,by simp,by simp⟩
   ·obtain⟨d,k,hk,g⟩:=kD h
    exact⟨d,k+1,by simp;omega,by rw[g];congr 1;omega⟩
  ·rename_i j
   simp at h;obtain⟨rfl,rfl⟩:=h;refine⟨?_,0,by simp,by simp⟩
   rcases rJ M r b with h|h|h|h
   ·exact absurd h j
   ·exact .inl h
   ·exact .inr (.inl h)
   ·exact .inr (.inr (.inl h))
theorem uG{M:Nat}{y:cK}(h:¬ (M<1∨65536<M)):(ay M y).2.2=0∨((ay M y).2.2=90∨(ay M y).2.2=80∨(ay M y).2.2=91∨(ay M y).2.2=93)∧(∃k:Nat,k<y.runs.length∧(ay M y).2.1=k)∨(ay M y).2.2=4∧(ay M y).2.1 = -1:=by
 unfold ay Ln.dC;simp only[if_neg h]
 cases hq:Ln.cC M y.needs 0 0 y.runs with
 | none =>
  simp only;unfold Ln.ew;split
  ·exact .inr (.inr ⟨rfl,rfl⟩)
  ·exact .inl rfl
 | some q =>
  obtain⟨a,e⟩:=q;obtain⟨b,k,hk,d⟩:=kD hq;exact .inr (.inl ⟨b,k,hk,by simpa using d⟩)
theorem ud(h:e=90∨e=80∨e=91∨e=93∨e=4):fC (eS e)=e:=by
 rcases h with rfl|rfl|rfl|rfl|rfl<;>rfl
def iZ:List Int:=[90,80,91,93]
theorem xD{e:Int}{k:Nat}{x:Int}(hx:iZ[k]?=some x)(a:e=x)(b:∀z∈iZ.take k,e≠z):eS e=4+k:=by
 subst a
 match k,hx with
 | 0,hx=>obtain rfl:_=e:=Option.some.inj hx;rfl
 | 1,hx=>obtain rfl:_=e:=Option.some.inj hx;rfl
 | 2,hx=>obtain rfl:_=e:=Option.some.inj hx;rfl
 | 3,hx=>obtain rfl:_=e:=Option.some.inj hx;rfl
 | k+4,hx=>simp[iZ]at hx
theorem tS(a:∀z∈iZ,e≠z):eS e=8:=by
 have b:=a 90 (by simp[iZ]);have d:=a 80 (by simp[iZ]);have g:=a 91 (by simp[iZ]);have h:=a 93 (by simp[iZ]);unfold eS;rw[if_neg b,if_neg d,if_neg g,if_neg h]
theorem vx{v:aV}{P:aC}(h:aF B w pb v P fC L){M:Nat}(hM:¬ (M<1∨65536<M)){y:cK}{A_r:Option Addr}{af:Nat}(hs:aT B 4 ef w (.slice A_r y.runs.length af) y.runs):
 Calls Tryz.prog 105 #[.pointer (some ⟨pb,0,none⟩),.int .u64 M,.agg #[.int .i64 y.pos,.int .u64 y.QP,.bool y.needs,.slice A_r y.runs.length af]] w fun e w'=>e=.returned (.tuple #[])∧aF B w' pb v P fC (jW (fun M y=>(ay M y).2) M y++L)∧aB (fun k=>k=pb) w w':=by
 have gr:=h.base;have d5:=h.lt;have HL:=hh h;have hv:=uG (y:=y) hM;have b4:∀w1,Kz w w1→Calls Tryz.prog 66 #[.int .u64 M,.agg #[.int .i64 y.pos,.int .u64 y.QP,.bool y.needs,.slice A_r y.runs.length af]] w1 (cI w1 (Ln.dC M y.needs y.runs)):=fun w1 hk =>
  qb M y.needs A_r af y.runs y.pos y.QP w1 (by omega) (sQ hs) (by obtain⟨_,_,e2,_,h2,_⟩:=hs;unfold top at h2;omega) (sR (hs.below (aK _ _ _) (hk.below (B:=B) (by omega) (fun _ _ h=>h))) (Nat.le_trans (by omega) hk.size))
 obtain⟨R,hR⟩:∃R,R=Ln.dC M y.needs y.runs:=⟨_,rfl⟩;rw[←hR]at b4;obtain⟨ix,d1⟩:∃i:Int,i=R.2.1:=⟨_,rfl⟩;obtain⟨er,dl⟩:∃i:Int,i=R.2.2:=⟨_,rfl⟩;have hf:ay M y=(R.1.length,ix,er):=by rw[d1,dl,hR];rfl
 have HW:Hid (jW (fun M y=>(ay M y).2) M y=if er=0 then[]else[(if 0≤ix then((y.runs[ix.toNat]?).map Run.pos).getD 0 else y.pos,eS er)]):=hh (by unfold jW;simp only[hf]);rw[hf]at hv;simp only at hv;have HV:=hh hv;unfold cI at b4;rw[←d1,←dl]at b4;have es:=hh b4;obtain⟨_,_,e,gw,hn,hl⟩:=hs
 cases e
 unfold top at hn;have f7:=hh hl;clear hv b4 hR d1 dl hf hl h;refine az Tryz.func105 Tryz.ntmps105 rfl (by show 3≤51;decide) fun a gl hd h=>?_
 have h0:At a 0 (.pointer (some ⟨pb,0,none⟩)):=h 0 _ rfl;have V:At a 1 (.int .u64 M):=h 1 _ rfl;have h2:At a 2 (.agg #[.int .i64 y.pos,.int .u64 y.QP,.bool y.needs,.slice A_r y.runs.length af]):=h 2 _ rfl;clear h
 conv=>arg 2;whnf
 refine so (fun a7 D=>aA (fun i=>i==5) a a7∧At a7 5 (.pointer (some ⟨w.heap.size,0,none⟩))∧D=w.alloc (.cells #[.int .i64 y.pos,.int .u64 y.QP,.bool y.needs,.slice A_r y.runs.length af] 92)) ?_ ?_
 ·have Z:aA (fun i=>i==5) a a:=aA.refl _ _
  obtain⟨T,d⟩:=a;refine rl ?_;with_reducible refine st ?_
  refine ln ⟨rfl,ag,aq,rfl⟩
 rintro a7 D ⟨W,h5,bj⟩;replace h0:=W.Q7 h0 rfl;replace V:=W.Q7 V rfl;replace h2:=W.Q7 h2 rfl;have fj:=W.size.trans gl;have gf:=W.defers.trans hd;obtain⟨z,hz⟩:∃z,z=w.heap.size:=⟨_,rfl⟩;rw[←hz]at h5;have fz:D.heap[z]?=some (.cells #[.int .i64 y.pos,.int .u64 y.QP,.bool y.needs,.slice A_r y.runs.length af] 92 (0,0)):=by rw[bj,hz];exact heap_alloc_new _ _
 have d2:Kz w D:=by rw[bj];exact(aB.refl _ _).alloc _
 have f2:=hh d2;have FZ:=hh fz;have gy:z≠pb:=by omega
 have q0:D.cell? ⟨z,0,none⟩=some (.int .i64 y.pos):=cr fz rfl;have q1:D.cell? ⟨z,1,none⟩=some (.int .u64 y.QP):=cr fz rfl;have q2:D.cell? ⟨z,2,none⟩=some (.bool y.needs):=cr fz rfl;have q3:D.cell? ⟨z,3,none⟩=some (.slice A_r y.runs.length af):=cr fz rfl;have HC:=hh (es.out D d2);clear bj hz fz h2 d2 es;refine so (fun a0 bt=>aA (fun i=>i==6||i==7||i==8||(rg 13 19 i)) a7 a0∧At a0 7 (.int .i64 ix)∧At a0 8 (.int .i64 er)∧Kz D bt) ?_ ?_
 ·have Z:aA (fun i=>i==6||i==7||i==8||(rg 13 19 i)) a7 a7:=aA.refl _ _
  obtain⟨T,d⟩:=a7;refine rl ?_
  iterate 2 with_reducible refine st ?_
  with_reducible refine Lz (fun K hK=>?_)
  go_simp;refine HC.out.mono ?_;rintro e w2 ⟨fv,rfl,_,c5⟩;with_reducible refine hK _ _ ?_;clear hK K
  have a4:=gH c5 rfl;clear c5
  iterate 7 with_reducible refine st ?_
  refine ln ⟨rfl,?_,?_,?_,?_⟩
  ·exact ag
  ·exact aq
  ·exact aq
  ·exact a4
 rintro a0 bt ⟨X,I,g,a4⟩;replace h0:=X.Q7 h0 rfl;replace V:=X.Q7 V rfl;replace h5:=X.Q7 h5 rfl;have d8:=X.size.trans fj;have fc:=X.defers.trans gf;have cw:Hid (Kz w bt):=f2.out.trans a4 (fun _ _ h=>h);replace q0:=(a4.cell (p:=⟨z,0,none⟩) (aG FZ.out) (fun h=>h)).trans q0;replace q3:=(a4.cell (p:=⟨z,3,none⟩) (aG FZ.out) (fun h=>h)).trans q3;clear a4 q1 q2 HC V;obtain⟨z0,el⟩:∃b,b=decide (er=0):=⟨_,rfl⟩;have fx:(er==0)=z0:=by rw[el];exact eG _ _
 have e6:=hh el;clear el;refine wp_seq (wp_seq (Code.wp_only (R:=fun a8 cl=>aA (fun i=>i==20||i==21) a0 a8∧At a8 21 (.bool z0)∧cl=bt) ?_ ?_))
 ·have Z:aA (fun i=>i==20||i==21) a0 a0:=aA.refl _ _
  obtain⟨T,d⟩:=a0;refine rl ?_
  iterate 2 with_reducible refine st ?_
  refine ln ⟨rfl,ag,aq,rfl⟩
 rintro a8 cl ⟨J,fs,rfl⟩;replace h0:=J.Q7 h0 rfl;replace h5:=J.Q7 h5 rfl;replace I:=J.Q7 I rfl;replace g:=J.Q7 g rfl;have c3:=J.size.trans d8;have b1:=J.defers.trans fc;refine wp_cond_split (fs.eval (by omega)) (fun hg=>?_) (fun hg=>?_)
 ·have b3:er=0:=by have V:=e6.out;rw[hg]at V;exact of_decide_eq_true V.symm
  refine wp_ret ?_
  repeat (first|with_reducible apply b8|with_reducible apply bG)
  refine bodyPost_ret (results_none rfl _ _ _) b1 ⟨rfl,?_,(cw.out.mono fun _ _ h=>h.elim:aB (fun k=>k=pb) w _)⟩;rw[HW.out,if_pos b3];exact HL.out.new cw.out
 have b3:er≠0:=by have V:=e6.out;rw[hg]at V;exact of_decide_eq_false V.symm
 refine wp_skip ?_;have eb:=HW.out;rw[if_neg b3]at eb;have e5:=hh eb;clear eb HW fx hg;refine so (fun a9 cm=>aA (fun i=>i==9||i==22||i==23) a8 a9∧At a9 9 (.int .i64 y.pos)∧cm=cl) ?_ ?_
 ·have Z:aA (fun i=>i==9||i==22||i==23) a8 a8:=aA.refl _ _
  obtain⟨T,d⟩:=a8;refine rl ?_
  iterate 3 with_reducible refine st ?_
  refine ln ⟨rfl,ag,aq,rfl⟩
 rintro a9 cm ⟨N,en,rfl⟩;replace h0:=N.Q7 h0 rfl;replace h5:=N.Q7 h5 rfl;replace I:=N.Q7 I rfl;replace g:=N.Q7 g rfl;have b5:=N.size.trans c3;have c1:=N.defers.trans b1;obtain⟨e8,d0⟩:∃b,b=decide (0≤ix):=⟨_,rfl⟩;have c8:decide ((0:Int)≤ix)=e8:=d0.symm;have c9:=hh d0;clear d0;refine wp_seq (wp_seq (Code.wp_only (R:=fun a3 cp=>aA (fun i=>i==24||i==25) a9 a3∧At a3 25 (.bool e8)∧cp=cm) ?_ ?_))
 ·have Z:aA (fun i=>i==24||i==25) a9 a9:=aA.refl _ _
  obtain⟨T,d⟩:=a9;refine rl ?_
  iterate 2 with_reducible refine st ?_
  refine ln ⟨rfl,ag,aq,rfl⟩
 rintro a3 cp ⟨E,c7,rfl⟩;replace h0:=E.Q7 h0 rfl;replace h5:=E.Q7 h5 rfl;replace I:=E.Q7 I rfl;replace g:=E.Q7 g rfl;replace en:=E.Q7 en rfl;have bx:=E.size.trans b5;have b2:=E.defers.trans c1;obtain⟨pl,d6⟩:∃p:Int,p=(if 0≤ix then((y.runs[ix.toNat]?).map Run.pos).getD 0 else y.pos):=⟨_,rfl⟩;rw[←d6]at e5;have cx:=hh d6;clear d6;refine Code.wp_only (R:=fun bb cs=>aA (fun i=>i==9||(rg 26 31 i)) a3 bb∧At bb 9 (.int .i64 pl)∧cs=cp) ?_ ?_
 ·refine wp_cond_split (c7.eval (by omega)) (fun hg=>?_) (fun hg=>?_)
  ·have eg:0≤ix:=by have V:=c9.out;rw[hg]at V;exact of_decide_eq_true V.symm
   obtain⟨k,hk,d4⟩:∃k:Nat,k<y.runs.length∧ix=k:=by
    rcases HV.out with h|⟨_,h⟩|⟨_,h⟩
    ·exact absurd h b3
    ·exact h
    ·omega
   obtain⟨r,hr⟩:=ge hk;obtain⟨bl,off,rfl,gd,e9⟩:=f7.out (by omega);obtain⟨hc,_⟩:=(aK B _ _) _ _ _ _ _ (cw.out.below (B:=B) (by omega) (fun _ _ h=>h)) gd (e9 k r hr);have r0:=hc.c0;have c6:pl=r.pos:=by rw[cx.out,if_pos eg,d4];simp[hr]
   have gs:k≤af:=by omega
   have gp:At a3 7 (.int .i64 k):=by rw[←d4];exact I
   have Z:aA (fun i=>i==9||(rg 26 31 i)) a3 a3:=aA.refl _ _;have f6:=hh c6;clear hg e9 hc hr c6 d4 cx c9 c8 I c7;obtain⟨T,d⟩:=a3;refine rl ?_
   iterate 7 with_reducible refine st ?_
   refine ln ⟨rfl,?_,?_,rfl⟩
   ·exact ag
   ·rw[f6.out];exact At.self
  ·have eg:¬ 0≤ix:=by have V:=c9.out;rw[hg]at V;exact of_decide_eq_false V.symm
   refine wp_skip ⟨rfl,aA.refl _ _,?_,rfl⟩;rw[cx.out,if_neg eg];exact en
 rintro bb cs ⟨O,ac,rfl⟩;replace h0:=O.Q7 h0 rfl;replace h5:=O.Q7 h5 rfl;replace I:=O.Q7 I rfl;replace g:=O.Q7 g rfl;have bf:=O.size.trans bx;have bw:=O.defers.trans b2;refine so (fun bc a6=>aA (fun i=>i==10) bb bc∧At bc 10 (.int .i64 (4:Nat))∧a6=cs) ?_ ?_
 ·have Z:aA (fun i=>i==10) bb bb:=aA.refl _ _
  obtain⟨T,d⟩:=bb;refine rl ?_;with_reducible refine st ?_
  refine ln ⟨rfl,?_,?_,rfl⟩
  ·exact ag
  ·exact At.self
 rintro bc a6 ⟨G,cb,rfl⟩;replace h0:=G.Q7 h0 rfl;replace h5:=G.Q7 h5 rfl;replace I:=G.Q7 I rfl;replace g:=G.Q7 g rfl;replace ac:=G.Q7 ac rfl;have a5:=G.size.trans bf;have be:=G.defers.trans bw;clear c8 cx;refine wp_seq (wp_seq (Code.wp_only (R:=fun bu ad=>aA (fun i=>(rg 32 34 i)) bc bu∧At bu 32 (.slice (some ⟨a6.heap.size,0,none⟩) 4 4)∧At bu 33 (.int .i64 (4:Nat))∧At bu 34 (.int .i64 0)∧ad=a6.alloc (.cells #[.int .i64 90,.int .i64 80,.int .i64 91,.int .i64 93] 72)) ?_ ?_))
 ·have Z:aA (fun i=>(rg 32 34 i)) bc bc:=aA.refl _ _
  obtain⟨T,d⟩:=bc;refine rl ?_
  iterate 3 with_reducible refine st ?_
  refine ln ⟨rfl,?_,?_,?_,?_,rfl⟩
  ·exact ag
  ·exact aq
  ·exact At.ne At.self (by decide)
  ·exact aq
 rintro bu ad ⟨u,ft,go,gn,bm⟩;replace h0:=u.Q7 h0 rfl;replace h5:=u.Q7 h5 rfl;replace I:=u.Q7 I rfl;replace g:=u.Q7 g rfl;replace ac:=u.Q7 ac rfl;replace cb:=u.Q7 cb rfl;have H:=u.size.trans a5;have Q:=u.defers.trans be;obtain⟨ze,em⟩:∃z,z=a6.heap.size:=⟨_,rfl⟩;rw[←em]at ft;have fe:ad.heap[ze]?=some (.cells #[.int .i64 90,.int .i64 80,.int .i64 91,.int .i64 93] 72 (0,0)):=by rw[bm,em];exact heap_alloc_new _ _
 have f3:Hid (Kz w ad):=hh (cw.out.trans (by rw[bm];exact(aB.refl _ _).alloc _) (fun _ _ h=>h));have FE:=hh fe;clear bm em fe q0 q3;refine Code.wp_only (R:=fun cy ct=>aA (fun i=>i==10||i==12||(rg 34 45 i)) bu cy∧At cy 10 (.int .i64 (eS er))∧Kz ad ct) ?_ ?_
 ·refine ai 4 (fun i=>i==10||i==12||(rg 34 45 i)) (fun i=>i==10||i==12||(rg 36 44 i)) (fun k a' w'=>At a' 10 (.int .i64 (4+k:Nat))∧(∀z∈iZ.take k,er≠z)∧Kz ad w') (by omega) gn go (by decide) rfl
   (by intro j;simp;omega) (by omega) (by decide) (fun k a1 a2 w hA ⟨hI,hk⟩=>⟨hA.Q7 hI rfl,hk⟩) ⟨by simpa using cb,by simp,aB.refl _ _⟩ ?_ ?_
  ·rintro n b wr d5 hA eo ⟨A,c2,hk⟩
   obtain⟨x,hx⟩:∃x,iZ[n]?=some x:=⟨_,Ez (show n<iZ.length from d5)⟩;have fr:=(hk.block ze (aG FE.out) (fun h=>h)).trans FE.out;have q0:wr.cell? ⟨ze,n,none⟩=some (.int .i64 x):=by
    rw[cell_of_row _ _ _ _ _ _ fr]
    match n,d5,hx with
    | 0,_,hx=>obtain rfl:_=x:=Option.some.inj hx;rfl
    | 1,_,hx=>obtain rfl:_=x:=Option.some.inj hx;rfl
    | 2,_,hx=>obtain rfl:_=x:=Option.some.inj hx;rfl
    | 3,_,hx=>obtain rfl:_=x:=Option.some.inj hx;rfl
   have cf:=hA.Q7 ft rfl;replace g:=hA.Q7 g rfl;have fl:=hA.size.trans H;have gg:=hA.defers.trans Q;have gx:=aG fr;have gt:(n:Int)<4:=by omega
   have HX:=hh hx;have ev:=hh c2;have HK:=hh hk;have HA:=hh hA;clear hx c2 hk fr hA;refine so (fun S an=>aA (fun i=>i==12||i==36||i==37) b S∧At S 12 (.int .i64 x)∧an=wr) ?_ ?_
   ·have Z:aA (fun i=>i==12||i==36||i==37) b b:=aA.refl _ _
    obtain⟨T,d⟩:=b;refine rl ?_
    iterate 3 with_reducible refine st ?_
    refine ln ⟨rfl,ag,aq,rfl⟩
   rintro S an ⟨l,bp,rfl⟩;replace A:=l.Q7 A rfl;replace g:=l.Q7 g rfl;replace cf:=l.Q7 cf rfl;replace eo:=l.Q7 eo rfl;have d9:=l.size.trans fl;have ff:=l.defers.trans gg;obtain⟨sm,d7⟩:∃b,b=(er==x):=⟨_,rfl⟩;have bd:=wC er x an;rw[←d7]at bd;have HC:=hh bd;have e0:=hh d7;clear d7 bd cf eo q0;refine wp_seq (wp_seq (Code.wp_only (R:=fun U bo=>aA (fun i=>(rg 38 42 i)) S U∧At U 42 (.bool sm)∧bo=an) ?_ ?_))
   ·have Z:aA (fun i=>(rg 38 42 i)) S S:=aA.refl _ _
    obtain⟨T,d⟩:=S;refine rl ?_
    iterate 4 with_reducible refine st ?_
    with_reducible refine Lz (fun K hK=>?_)
    go_simp;refine HC.out.mono ?_;rintro e w2 ⟨rfl,rfl⟩;with_reducible refine hK _ _ ?_;clear hK K
    refine ln ⟨rfl,ag,aq,rfl⟩
   rintro U bo ⟨q,cd,rfl⟩;replace A:=q.Q7 A rfl;replace g:=q.Q7 g rfl;replace bp:=q.Q7 bp rfl;have c4:=q.size.trans d9;have dk:=q.defers.trans ff;refine wp_cond_split (cd.eval (by omega)) (fun hg=>?_) (fun hg=>?_)
   ·have ds:er=x:=by have V:=e0.out;rw[hg]at V;exact eq_of_beq V.symm
    refine wp_exit ?_
    repeat with_reducible apply eh
    simp only[dg];rw[if_neg (by decide)];simp only[if_true];refine⟨rfl,(aA.trans HA.out (aA.trans (aA.trans (aA.refl (fun i=>i==10||i==12||(rg 36 44 i)) b) l (by intro j;simp;omega)) q (by intro j;simp;omega)) (by intro j;simp;omega)),?_,HK.out⟩;rw[xD HX.out ds ev.out];exact A
   ·have ds:er≠x:=by have V:=e0.out;rw[hg]at V;exact fun e=>by subst e;simp at V
    refine wp_skip ?_;have e1:IntKind.i64.wrap (((4+n:Nat):Int)+1)=((4+(n+1):Nat):Int):=by rw[i64_in _ (by omega)];omega
    obtain⟨cu,di⟩:∃c:Nat,c=4+n:=⟨_,rfl⟩;obtain⟨e7,b0⟩:∃c:Nat,c=4+(n+1):=⟨_,rfl⟩;rw[←di,←b0]at e1;rw[←di]at A;have f1:=hh b0;have f0:Hid ((cu:Int)+1=(e7:Int)):=hh (by omega);clear di b0 HC hg;refine Code.wp_only (R:=fun bz ci=>aA (fun i=>i==10||i==43||i==44) U bz∧At bz 10 (.int .i64 e7)∧ci=bo) ?_ ?_
    ·have Z:aA (fun i=>i==10||i==43||i==44) U U:=aA.refl _ _
     obtain⟨T,d⟩:=U;refine rl ?_
     iterate 3 with_reducible refine st ?_
     refine ln ⟨rfl,?_,?_,rfl⟩
     ·exact ag
     ·first|exact At.self|(rw[←f0.out];exact At.self)
    rintro bz ci ⟨C,cc,rfl⟩;replace g:=C.Q7 g rfl;replace bp:=C.Q7 bp rfl;replace cd:=C.Q7 cd rfl;have fm:=C.size.trans c4;have fy:=C.defers.trans dk;refine⟨(aA.trans (aA.trans (aA.trans (aA.refl (fun i=>i==10||i==12||(rg 36 44 i)) _) l (by intro j;simp;omega)) q (by intro j;simp;omega)) C (by intro j;simp;omega)),by rw[←f1.out];exact cc,fun z hz=>?_,HK.out⟩;rw[aP HX.out]at hz
    rcases List.mem_append.1 hz with h|h
    ·exact ev.out z h
    ·obtain rfl:z=x:=by simpa using h
     exact ds
  ·rintro b wr hA ⟨A,c2,hk⟩
   refine⟨rfl,hA,?_,hk⟩;rw[tS (by simpa[iZ]using c2)];exact A
 rintro cy ct ⟨Y,cc,fi⟩;replace h0:=Y.Q7 h0 rfl;replace g:=Y.Q7 g rfl;replace ac:=Y.Q7 ac rfl;have cv:=Y.size.trans H;have ah:=Y.defers.trans Q;have d3:Kz w ct:=f3.out.trans fi (fun _ _ h=>h);have f5:=hh (HL.out.new d3);have f4:=hh d3;have fp:fC (eS er)=er:=ud (by rcases HV.out with h|⟨h,_⟩|⟨h,_⟩;exact absurd h b3;rcases h with h|h|h|h<;>simp[h];exact .inr (.inr (.inr (.inr h))));have f8:=hh fp;clear fi d3 fp;obtain⟨T,d⟩:=cy;refine rl ?_
 iterate 4 with_reducible refine st ?_
 with_reducible refine Lz (fun K hK=>?_)
 go_simp;refine(cW pl (eS er) er f5.out f8.out).mono ?_;rintro e w2 ⟨rfl,gb,a4⟩;with_reducible refine hK _ _ (ln ?_)
 refine ej rfl ah ⟨rfl,?_,(f4.out.mono fun _ _ h=>h.elim:aB (fun k=>k=pb) w _).trans a4 (fun _ _ h=>h)⟩;rw[e5.out];exact gb
def jm(w:World)(b:Nat)(P:aC):Prop:=∃n p,dA w b n (.int .u64 0) (fun s =>.int .u64 (g9 P s:Nat)) p
theorem yK(w:World):(zeroValue 39).run Tryz.prog w=.ok (.int .u64 0) w:=by kernel_rfl
theorem jm.keep{S:Nat→Prop}{w':World}{b:Nat}{P:aC}(h:jm w b P)(hk:aB S w w')(a:¬ S b):jm w' b P:=by
 obtain⟨n,p,h⟩:=h;exact⟨n,p,h.keep hk a⟩
def jc(P:aC)(y:cK)(r:Run):List Wr:=say (decide (r.QM=ByteArray.empty)||decide (g9 P r.QM=y.QP)) r.pos 3
def kE:Nat→cK→Int×Int:=fun M y=>(ay M y).2
def jM(P:aC)(M:Nat)(y:cK):List Wr:=gX P y++jW kE M y
theorem rP{v:aV}{P:aC}(h:aF B w pb v P fC L){mc mb:Nat}(bt:w.heap[mc]?=some (.cells #[.map (some mb)] 184 (0,0)))(bm:jm w mb P)(bu:mc≠pb∧mb≠pb){y:cK}{A_r:Option Addr}{O:Nat}(hs:aT B 4 ef w (.slice A_r y.runs.length O) y.runs)(cv:y.QP<lim)
 {zy:Nat}(a4:w.heap[zy]?=some (.cells #[.int .i64 y.pos,.int .u64 y.QP,.bool y.needs,.slice A_r y.runs.length O] 92 (0,0)))(cl:zy≠pb)(a:Act)(ci:a.tmps.size=130)(h0:At a 0 (.pointer (some ⟨pb,0,none⟩)))(h2:At a 2 (.pointer (some ⟨mc,0,none⟩)))(h8:At a 8 (.pointer (some ⟨zy,0,none⟩)))(Q:Exit→Act→World→Prop)
 (hQ:∀a' w',aA (fun i=>i==10||(rg 99 122 i)) a a'→aF B w' pb v P fC (y.runs.flatMap (jc P y)++L)→aB (fun k=>k=pb) w w'→Q .normal a' w'):
 (al Tryz.f55 [1,1,1,1,1,0,0,1,1,0,0,1,1,1,0,0,1,1,0,0,1,1,0]).wp Tryz.prog Q a w:=by
 have hd:a.defers=a.defers:=rfl;have c3:=h.lt;have c1:=h.base;have a8:=hh bt;have b1:=hh bm;have HL:=hh h;have bd:=hh a4;obtain⟨_,_,e,c4,hn,hl⟩:=hs
 cases e
 unfold top at hn;have b4:=hh hl;have HQ:=hh hQ;have q3:w.cell? ⟨zy,3,none⟩=some (.slice A_r y.runs.length O):=cr a4 rfl;clear h bt bm hl a4 hQ
 conv=>arg 2;whnf
 refine so (fun N V=>aA (fun i=>(rg 99 102 i)) a N∧At N 100 (.slice A_r y.runs.length O)∧At N 101 (.int .i64 y.runs.length)∧At N 102 (.int .i64 0)∧V=w) ?_ ?_
 ·have ad:aA (fun i=>(rg 99 102 i)) a a:=aA.refl _ _
  obtain⟨T,d⟩:=a;refine rl ?_
  iterate 4 with_reducible refine st ?_
  refine ln ⟨rfl,ag,aq,aq,aq,rfl⟩
 rintro N V ⟨u,ct,cs,cm,rfl⟩;replace h0:=u.Q7 h0 rfl;replace h2:=u.Q7 h2 rfl;replace h8:=u.Q7 h8 rfl;have bw:=u.size.trans ci;have cb:=u.defers.trans hd;refine ai y.runs.length (fun i=>i==10||(rg 102 122 i)) (fun i=>i==10||(rg 104 121 i)) (fun k _ w'=>aF B w' pb v P fC ((y.runs.take k).flatMap (jc P y)++L)∧aB (fun k=>k=pb) V w') (by omega) cm cs (by decide) rfl
  (by intro j;simp;omega) (by omega) (by decide) (fun k a1 a2 w Y hI=>hI) ⟨by simpa using HL.out,aB.refl _ _⟩ ?_ ?_
 ·rintro n b wr bp Y a5 ⟨hL,hk⟩
  obtain⟨bl,off,rfl,b5,bo⟩:=b4.out (by omega);obtain⟨x,hx⟩:=ge bp;obtain⟨hc,bz⟩:=(aK B _ _) _ _ _ _ _ (hk.below (B:=B) (by omega) (fun _ hi e=>by omega)) b5 (bo n x hx);have q0:=hc.c0;have q1:=hc 1 _ rfl;have q2:=hc 2 _ rfl;have q3:=hc 3 _ rfl;have I:=Y.Q7 h0 rfl;have J:=Y.Q7 h2 rfl;have M:=Y.Q7 h8 rfl;have U:=Y.Q7 ct rfl;have bx:=Y.size.trans bw;have cc:=Y.defers.trans cb;have cw:=hk.size;have cu:bl<wr.heap.size:=by omega
  have c2:n≤O:=by omega
  have HX:=hh hx;have b3:=hh hL;have HK:=hh hk;have a9:=hh ((hk.block mc (aG a8.out) (by exact bu.1)).trans a8.out);have b2:=hh (b1.out.keep hk (by exact bu.2));have bb:=hh ((hk.block zy (aG bd.out) cl).trans bd.out);have c5:=hL.lt;clear hx bo hc Y hk hL;refine so (fun A l=>aA (fun i=>i==10||i==104||i==105) b A∧At A 10 (.pointer (some ⟨wr.heap.size,0,none⟩))∧l=wr.alloc (.cells #[.int .i64 x.pos,.string x.QM,.int .u64 x.QT,.int .u64 x.per] 108)) ?_ ?_
  ·have ad:aA (fun i=>i==10||i==104||i==105) b b:=aA.refl _ _
   obtain⟨T,d⟩:=b;refine rl ?_
   iterate 4 with_reducible refine st ?_
   refine ln ⟨rfl,ag,aq,rfl⟩
  rintro A l ⟨g,C,G⟩;replace I:=g.Q7 I rfl;replace J:=g.Q7 J rfl;replace M:=g.Q7 M rfl;replace U:=g.Q7 U rfl;replace a5:=g.Q7 a5 rfl;have S:=g.size.trans bx;have ac:=g.defers.trans cc;obtain⟨zr,a3⟩:∃z,z=wr.heap.size:=⟨_,rfl⟩;rw[←a3]at C;have fr:l.heap[zr]?=some (.cells #[.int .i64 x.pos,.string x.QM,.int .u64 x.QT,.int .u64 x.per] 108 (0,0)):=by rw[G,a3];exact heap_alloc_new _ _
  have H:Kz wr l:=by rw[G];exact(aB.refl _ _).alloc _
  have p0:l.cell? ⟨zr,0,none⟩=some (.int .i64 x.pos):=cr fr rfl;have p1:l.cell? ⟨zr,1,none⟩=some (.string x.QM):=cr fr rfl;have pm:l.cell? ⟨mc,0,none⟩=some (.map (some mb)):=cell_of_one ((H.block mc (aG a9.out) (fun h=>h)).trans a9.out);have py:l.cell? ⟨zy,1,none⟩=some (.int .u64 y.QP):=cr ((H.block zy (aG bb.out) (fun h=>h)).trans bb.out) rfl;have cd:(Instr.lookup 184 (.map (some mb)) (.string x.QM) false).run Tryz.prog l=.ok (.int .u64 (g9 P x.QM:Nat)) l:=by
   obtain⟨nn,pp,cf⟩:=b2.out.keep H (fun h=>h);exact cf.run Tryz.underlying184 yK (Nat.le_trans bz.2.2.2 (by unfold maxLen;omega))
  have a7:=hh (b3.out.new H);have a6:=hh (HK.out.trans H (fun _ _ h=>h.elim));clear G a3 fr H q0 q1 q2 q3 U a5;obtain⟨cp,an⟩:∃n:Nat,n=g9 P x.QM:=⟨_,rfl⟩;rw[←an]at cd;obtain⟨be,ah⟩:∃b,b=decide (x.QM=ByteArray.empty):=⟨_,rfl⟩;have b0:(x.QM.toList==ByteArray.toList { data := #[] })=be:=by rw[ah];exact bv _ _
  have cy:(x.QM.toList==[])=be:=by rw[←b0,dX]
  obtain⟨bc,af⟩:∃b,b=decide (cp=y.QP):=⟨_,rfl⟩;have cx:((cp:Int)==(y.QP:Int))=bc:=by rw[af];exact dK _ _
  have HS:Hid (jc P y x=say (be||bc) x.pos 3):=by rw[ah,af,an];rfl
  clear ah af an;have c6:=aJ
  cases be
  ·skip
   refine Code.wp_only (R:=fun bf W=>aA (fun i=>(rg 106 121 i)) A bf∧aF B W pb v P fC (say (false||bc) x.pos 3++((y.runs.take n).flatMap (jc P y)++L))∧aB (fun k=>k=pb) l W) ?_ ?_
   ·have ad:aA (fun i=>(rg 106 121 i)) A A:=aA.refl _ _
    obtain⟨T,d⟩:=A;refine rl ?_
    iterate 15 with_reducible refine st ?_
    with_reducible refine Lz (fun K hK=>?_)
    go_simp;refine(aO bc x.pos 3 100 a7.out rfl).mono ?_;rintro e w2 ⟨rfl,D,E⟩;with_reducible refine hK _ _ ?_;clear hK K
    refine ln ⟨rfl,?_,?_,?_⟩
    ·exact ag
    ·simpa using D
    ·exact E
   rintro bf W ⟨q,D,E⟩;replace I:=q.Q7 I rfl;replace J:=q.Q7 J rfl;replace M:=q.Q7 M rfl;replace C:=q.Q7 C rfl;have Z:=q.size.trans S;have a0:=q.defers.trans ac;refine⟨(aA.trans (aA.trans (aA.refl (fun i=>i==10||(rg 104 121 i)) _) g (by intro j;simp;omega)) q (by intro j;simp;omega)),D.congr fun p=>?_,a6.out.trans E (fun _ _ h=>h)⟩;rw[aP HX.out,List.flatMap_append,List.flatMap_cons,List.flatMap_nil,List.append_nil,HS.out];simp only[List.mem_append,Bool.false_or,Bool.true_or]
   try simp only[or_assoc,or_comm,or_left_comm]
  ·skip
   refine Code.wp_only (R:=fun bj X=>aA (fun i=>(rg 106 121 i)) A bj∧aF B X pb v P fC (say (true) x.pos 3++((y.runs.take n).flatMap (jc P y)++L))∧aB (fun k=>k=pb) l X) ?_ ?_
   ·have ad:aA (fun i=>(rg 106 121 i)) A A:=aA.refl _ _
    obtain⟨T,d⟩:=A;refine rl ?_
    iterate 15 with_reducible refine st ?_
    with_reducible refine Lz (fun K hK=>?_)
    go_simp;refine(aO true x.pos 3 100 a7.out rfl).mono ?_;rintro e w2 ⟨rfl,D,E⟩;with_reducible refine hK _ _ ?_;clear hK K
    refine ln ⟨rfl,?_,?_,?_⟩
    ·exact ag
    ·simpa using D
    ·exact E
   rintro bj X ⟨r,D,E⟩;replace I:=r.Q7 I rfl;replace J:=r.Q7 J rfl;replace M:=r.Q7 M rfl;replace C:=r.Q7 C rfl;have Z:=r.size.trans S;have a0:=r.defers.trans ac;refine⟨(aA.trans (aA.trans (aA.refl (fun i=>i==10||(rg 104 121 i)) _) g (by intro j;simp;omega)) r (by intro j;simp;omega)),D.congr fun p=>?_,a6.out.trans E (fun _ _ h=>h)⟩;rw[aP HX.out,List.flatMap_append,List.flatMap_cons,List.flatMap_nil,List.append_nil,HS.out];simp only[List.mem_append,Bool.false_or,Bool.true_or]
   try simp only[or_assoc,or_comm,or_left_comm]
 ·rintro b wr Y ⟨hL,hk⟩
  rw[List.take_length]at hL;exact HQ.out _ _ (aA.trans (u.m) Y (by intro j;simp;omega)) hL hk
theorem pv{v:aV}{P:aC}(h:aF B w pb v P fC L){mc mb:Nat}(b2:w.heap[mc]?=some (.cells #[.map (some mb)] 184 (0,0)))(bw:jm w mb P)(X:mc≠pb∧mb≠pb){x:eZ}(hM:¬ (x.QN<1∨65536<x.QN)){A_l:Option Addr}{V:Nat}(hs:aT B 4 (iS B) w (.slice A_l x.QJ.length V) x.QJ)
 {zx:Nat}(a7:w.heap[zx]?=some (.cells #[.int .i64 x.pos,.string x.name,.int .u64 x.QN,.slice A_l x.QJ.length V] 62 (0,0)))(cc:zx≠pb)(a:Act)(c5:a.tmps.size=130)(h0:At a 0 (.pointer (some ⟨pb,0,none⟩)))(h2:At a 2 (.pointer (some ⟨mc,0,none⟩)))(h6:At a 6 (.pointer (some ⟨zx,0,none⟩)))(Q:Exit→Act→World→Prop)
 (hQ:∀a' w',aA (fun i=>i==8||i==10||(rg 85 128 i)) a a'→aF B w' pb v P fC (x.QJ.flatMap (jM P x.QN)++L)→aB (fun k=>k=pb) w w'→Q .normal a' w'):
 (al Tryz.f55 [1,1,1,1,1,0,0,1,1,0,0,1,1]).wp Tryz.prog Q a w:=by
 have hd:a.defers=a.defers:=rfl;have d3:=h.lt;have d1:=h.base;have bd:=hh b2;have cl:=hh bw;have HL:=hh h;have bo:=hh a7;obtain⟨_,_,e,d4,hn,hl⟩:=hs
 cases e
 unfold top at hn;have cv:=hh hl;have HQ:=hh hQ;have q3:w.cell? ⟨zx,3,none⟩=some (.slice A_l x.QJ.length V):=cr a7 rfl;clear h b2 bw hl a7 hQ
 conv=>arg 2;whnf
 refine so (fun U ad=>aA (fun i=>(rg 85 88 i)) a U∧At U 86 (.slice A_l x.QJ.length V)∧At U 87 (.int .i64 x.QJ.length)∧At U 88 (.int .i64 0)∧ad=w) ?_ ?_
 ·have a0:aA (fun i=>(rg 85 88 i)) a a:=aA.refl _ _
  obtain⟨T,d⟩:=a;refine rl ?_
  iterate 4 with_reducible refine st ?_
  refine ln ⟨rfl,ag,aq,aq,aq,rfl⟩
 rintro U ad ⟨q,dk,di,c9,rfl⟩;replace h0:=q.Q7 h0 rfl;replace h2:=q.Q7 h2 rfl;replace h6:=q.Q7 h6 rfl;have b3:=q.size.trans c5;have c1:=q.defers.trans hd;refine ai x.QJ.length (fun i=>i==8||i==10||(rg 88 128 i)) (fun i=>i==8||i==10||(rg 90 127 i)) (fun k _ w'=>aF B w' pb v P fC ((x.QJ.take k).flatMap (jM P x.QN)++L)∧aB (fun k=>k=pb) ad w') (by omega) c9 di (by decide) rfl
  (by intro j;simp;omega) (by omega) (by decide) (fun k a1 a2 w hA hI=>hI) ⟨by simpa using HL.out,aB.refl _ _⟩ ?_ ?_
 ·rintro n b wr b1 hA a9 ⟨hL,hk⟩
  obtain⟨bl,off,rfl,cy,bz⟩:=cv.out (by omega);obtain⟨y,hx⟩:=ge b1;have bu:=hk.below (B:=B) (by omega) (fun _ hi e=>by omega);obtain⟨rv,hc,C,_,bx⟩:=(ca B) _ _ _ _ _ bu cy (bz n y hx);obtain⟨A_r,W,rfl,C⟩:=C;have cw:Hid (aT B 4 ef wr (.slice A_r y.runs.length W) y.runs):=hh ⟨A_r,W,rfl,C⟩;have q0:=hc.c0;have q1:=hc 1 _ rfl;have q2:=hc 2 _ rfl;have q3:=hc 3 _ rfl;have D:=hA.Q7 h0 rfl;have Z:=hA.Q7 h2 rfl;have H:=hA.Q7 h6 rfl;have ac:=hA.Q7 dk rfl;have b5:=hA.size.trans b3;have c2:=hA.defers.trans c1;have d0:=hk.size;have dl:bl<wr.heap.size:=by omega
  have d2:n≤V:=by omega
  have HX:=hh hx;have ct:=hh hL;have HK:=hh hk;have be:=hh ((hk.block mc (aG bd.out) (by exact X.1)).trans bd.out);have cm:=hh (cl.out.keep hk (by exact X.2));have bm:=hh ((hk.block zx (aG bo.out) cc).trans bo.out);have d5:=hL.lt;clear hx bz hc hA hk hL C bu;refine so (fun J u=>aA (fun i=>i==8||i==90||i==91) b J∧At J 8 (.pointer (some ⟨wr.heap.size,0,none⟩))∧u=wr.alloc (.cells #[.int .i64 y.pos,.int .u64 y.QP,.bool y.needs,.slice A_r y.runs.length W] 92)) ?_ ?_
  ·have a0:aA (fun i=>i==8||i==90||i==91) b b:=aA.refl _ _
   obtain⟨T,d⟩:=b;refine rl ?_
   iterate 4 with_reducible refine st ?_
   refine ln ⟨rfl,ag,aq,rfl⟩
  rintro J u ⟨g,I,M⟩;replace D:=g.Q7 D rfl;replace Z:=g.Q7 Z rfl;replace H:=g.Q7 H rfl;replace ac:=g.Q7 ac rfl;replace a9:=g.Q7 a9 rfl;have a6:=g.size.trans b5;have b0:=g.defers.trans c2;obtain⟨zy,a8⟩:∃z,z=wr.heap.size:=⟨_,rfl⟩;rw[←a8]at I;have fy:u.heap[zy]?=some (.cells #[.int .i64 y.pos,.int .u64 y.QP,.bool y.needs,.slice A_r y.runs.length W] 92 (0,0)):=by rw[M,a8];exact heap_alloc_new _ _
  have G:Kz wr u:=by rw[M];exact(aB.refl _ _).alloc _
  have p0:u.cell? ⟨zy,0,none⟩=some (.int .i64 y.pos):=cr fy rfl;have p1:u.cell? ⟨zy,1,none⟩=some (.int .u64 y.QP):=cr fy rfl;have Y:zy≠pb:=by omega
  have FY:=hh fy;have bc:=hh ((G.block mc (aG be.out) (fun h=>h)).trans be.out);have ci:=hh (cm.out.keep G (fun h=>h));have bj:=hh ((G.block zx (aG bm.out) (fun h=>h)).trans bm.out);have bf:=hh (cw.out.below (aK _ _ _) (G.below (B:=B) (by omega) (fun _ _ h=>h)));have cs:=hh (ct.out.new G);have cp:=hh (HK.out.trans G (fun _ _ h=>h.elim));have c6:=G.size;clear M a8 fy G q0 q1 q2 q3 ac a9;obtain⟨b4,a3⟩:∃b,b=decide (y.QP<4):=⟨_,rfl⟩;have cd:decide ((y.QP:Int)<4)=b4:=by rw[a3];exact decide_eq_decide.2 (by omega)
  have cf:=hh a3;clear a3;refine so (fun an af=>aA (fun i=>(rg 92 98 i)) J an∧aF B af pb v P fC (say b4 y.pos 3++((x.QJ.take n).flatMap (jM P x.QN)++L))∧aB (fun k=>k=pb) u af) ?_ ?_
  ·have a0:aA (fun i=>(rg 92 98 i)) J J:=aA.refl _ _
   obtain⟨T,d⟩:=J;refine rl ?_
   iterate 6 with_reducible refine st ?_
   with_reducible refine Lz (fun K hK=>?_)
   go_simp;refine(aO b4 y.pos 3 100 cs.out rfl).mono ?_;rintro e w2 ⟨rfl,S,A⟩;with_reducible refine hK _ _ ?_;clear hK K
   refine ln ⟨rfl,?_,?_,?_⟩
   ·exact ag
   ·exact S
   ·exact A
  rintro an af ⟨l,S,A⟩;replace D:=l.Q7 D rfl;replace Z:=l.Q7 Z rfl;replace H:=l.Q7 H rfl;replace I:=l.Q7 I rfl;have N:=l.size.trans a6;have a4:=l.defers.trans b0;have FY2:=(A.block zy (aG FY.out) Y).trans FY.out;refine wp_seq (rP S ((A.block mc (aG bc.out) X.1).trans bc.out) (ci.out.keep A X.2) X (bf.out.below (aK _ _ _) (A.below (B:=B) (by omega) (fun _ hi e=>by omega))) bx FY2 Y an N D Z I _ ?_);intro c wc O bt a5;have cb:=O.size.trans N;have c3:=O.defers.trans a4;replace D:=O.Q7 D rfl;replace H:=O.Q7 H rfl;replace I:=O.Q7 I rfl;have FY3:=(a5.block zy (aG FY2) Y).trans FY2;have E:aB (fun k=>k=pb) u wc:=A.trans a5 (fun _ _ h=>h);have FX3:=(E.block zx (aG bj.out) cc).trans bj.out;have px:wc.cell? ⟨zx,2,none⟩=some (.int .u64 x.QN):=cr FX3 rfl;have s0:wc.cell? ⟨zy,0,none⟩=some (.int .i64 y.pos):=cr FY3 rfl;have s1:wc.cell? ⟨zy,1,none⟩=some (.int .u64 y.QP):=cr FY3 rfl;have s2:wc.cell? ⟨zy,2,none⟩=some (.bool y.needs):=cr FY3 rfl;have s3:wc.cell? ⟨zy,3,none⟩=some (.slice A_r y.runs.length W):=cr FY3 rfl;have cu:=hh (vx bt hM (bf.out.below (aK _ _ _) (E.below (B:=B) (by omega) (fun _ hi e=>by omega))));have bb:=hh E;have c7:=E.size;clear FY2 FY3 FX3 A a5 E S bt p0 p1 cd;refine Code.wp_only (R:=fun bp ah=>aA (fun i=>(rg 123 127 i)) c bp∧aF B ah pb v P fC (jW kE x.QN y++(y.runs.flatMap (jc P y)++(say b4 y.pos 3++((x.QJ.take n).flatMap (jM P x.QN)++L))))∧aB (fun k=>k=pb) wc ah) ?_ ?_
  ·have a0:aA (fun i=>(rg 123 127 i)) c c:=aA.refl _ _
   obtain⟨T,d⟩:=c;refine rl ?_
   iterate 4 with_reducible refine st ?_
   with_reducible refine Lz (fun K hK=>?_)
   go_simp;refine cu.out.mono ?_;rintro e w2 ⟨rfl,S,A⟩;with_reducible refine hK _ _ ?_;clear hK K
   refine ln ⟨rfl,?_,?_,?_⟩
   ·exact ag
   ·exact S
   ·exact A
  rintro bp ah ⟨r,cx,c4⟩;replace D:=r.Q7 D rfl;replace H:=r.Q7 H rfl;replace I:=r.Q7 I rfl;have c8:=r.size.trans cb;have ds:=r.defers.trans c3;have HS:jM P x.QN y=(say b4 y.pos 3++y.runs.flatMap (jc P y))++jW kE x.QN y:=by rw[cf.out];rfl
  refine⟨(aA.trans (aA.trans (aA.trans (aA.trans (aA.refl (fun i=>i==8||i==10||(rg 90 127 i)) _) g (by intro j;simp;omega)) l (by intro j;simp;omega)) O (by intro j;simp;omega)) r (by intro j;simp;omega)),cx.congr fun p=>?_,(cp.out.trans bb.out (fun _ _ h=>h)).trans c4 (fun _ _ h=>h)⟩;rw[aP HX.out,List.flatMap_append,List.flatMap_cons,List.flatMap_nil,List.append_nil,HS];simp only[List.mem_append]
  try simp only[or_assoc,or_comm,or_left_comm]
 ·rintro b wr hA ⟨hL,hk⟩
  rw[List.take_length]at hL;exact HQ.out _ _ (aA.trans (q.m) hA (by intro j;simp;omega)) hL hk
theorem pu{v:aV}{P:aC}(h:aF B w pb v P fC L){mc mb:Nat}(bp:w.heap[mc]?=some (.cells #[.map (some mb)] 184 (0,0)))(bf:jm w mb P)(a4:mc≠pb∧mb≠pb)(a:Act)(cx:a.tmps.size=130)(h0:At a 0 (.pointer (some ⟨pb,0,none⟩)))(h2:At a 2 (.pointer (some ⟨mc,0,none⟩)))(Q:Exit→Act→World→Prop)
 (hQ:∀a' w',aA (fun i=>i==6||i==8||i==10||(rg 63 129 i)) a a'→aF B w' pb v P fC (P.Q9.flatMap (im kE P)++L)→aB (fun k=>k=pb) w w'→Q .normal a' w'):
 (al Tryz.f55 [1,1,1,1]).wp Tryz.prog Q a w:=by
 have hd:a.defers=a.defers:=rfl;have c8:=h.lt;have c6:=h.base;have bb:=hh bp;have cb:=hh bf;have HL:=hh h;obtain⟨A_p,ad,bx,c9,hn,hl⟩:=h.QL.Q9;unfold top at hn;have cm:=hh hl;have HQ:=hh hQ;have q9:w.cell? ⟨pb,9,none⟩=some (.slice A_p P.Q9.length ad):=by rw[←bx];exact h.cell rfl
 clear h bp bf hl hQ bx
 conv=>arg 2;whnf
 refine so (fun N U=>aA (fun i=>(rg 63 69 i)) a N∧At N 67 (.slice A_p P.Q9.length ad)∧At N 68 (.int .i64 P.Q9.length)∧At N 69 (.int .i64 0)∧U=w) ?_ ?_
 ·have af:aA (fun i=>(rg 63 69 i)) a a:=aA.refl _ _
  obtain⟨T,d⟩:=a;refine rl ?_
  iterate 7 with_reducible refine st ?_
  refine ln ⟨rfl,ag,aq,aq,aq,rfl⟩
 rintro N U ⟨u,c2,c1,cy,rfl⟩;replace h0:=u.Q7 h0 rfl;replace h2:=u.Q7 h2 rfl;have bt:=u.size.trans cx;have cu:=u.defers.trans hd;refine ai P.Q9.length (fun i=>i==6||i==8||i==10||(rg 69 129 i)) (fun i=>i==6||i==8||i==10||(rg 71 128 i)) (fun k _ w'=>aF B w' pb v P fC ((P.Q9.take k).flatMap (im kE P)++L)∧aB (fun k=>k=pb) U w') (by omega) cy c1 (by decide) rfl
  (by intro j;simp;omega) (by omega) (by decide) (fun k a1 a2 w Y hI=>hI) ⟨by simpa using HL.out,aB.refl _ _⟩ ?_ ?_
 ·rintro n b wr bo Y a7 ⟨hL,hk⟩
  obtain⟨bl,off,rfl,ct,bj⟩:=cm.out (by omega);obtain⟨x,hx⟩:=ge bo;have be:=hk.below (B:=B) (by omega) (fun _ hi e=>by omega);obtain⟨lv,hc,r,_,c4,_⟩:=(ek B) _ _ _ _ _ be ct (bj n x hx);obtain⟨A_l,X,rfl,r⟩:=r;have ci:Hid (aT B 4 (iS B) wr (.slice A_l x.QJ.length X) x.QJ):=hh ⟨A_l,X,rfl,r⟩;have q0:=hc.c0;have q1:=hc 1 _ rfl;have q2:=hc 2 _ rfl;have q3:=hc 3 _ rfl;have E:=Y.Q7 h0 rfl;have G:=Y.Q7 h2 rfl;have S:=Y.Q7 c2 rfl;have bu:=Y.size.trans bt;have cv:=Y.defers.trans cu;have c5:=hk.size;have c3:bl<wr.heap.size:=by omega
  have c7:n≤ad:=by omega
  have HX:=hh hx;have cf:=hh hL;have HK:=hh hk;have bc:=hh ((hk.block mc (aG bb.out) (by exact a4.1)).trans bb.out);have cc:=hh (cb.out.keep hk (by exact a4.2));have di:=hL.lt;clear hx bj hc Y hk hL r be q9;refine so (fun C y=>aA (fun i=>i==6||i==71||i==72) b C∧At C 6 (.pointer (some ⟨wr.heap.size,0,none⟩))∧y=wr.alloc (.cells #[.int .i64 x.pos,.string x.name,.int .u64 x.QN,.slice A_l x.QJ.length X] 62)) ?_ ?_
  ·have af:aA (fun i=>i==6||i==71||i==72) b b:=aA.refl _ _
   obtain⟨T,d⟩:=b;refine rl ?_
   iterate 4 with_reducible refine st ?_
   refine ln ⟨rfl,ag,aq,rfl⟩
  rintro C y ⟨g,M,D⟩;replace E:=g.Q7 E rfl;replace G:=g.Q7 G rfl;replace S:=g.Q7 S rfl;replace a7:=g.Q7 a7 rfl;have a5:=g.size.trans bu;have bm:=g.defers.trans cv;obtain⟨zx,a6⟩:∃z,z=wr.heap.size:=⟨_,rfl⟩;rw[←a6]at M;have fx:y.heap[zx]?=some (.cells #[.int .i64 x.pos,.string x.name,.int .u64 x.QN,.slice A_l x.QJ.length X] 62 (0,0)):=by rw[D,a6];exact heap_alloc_new _ _
  have J:Kz wr y:=by rw[D];exact(aB.refl _ _).alloc _
  have p0:y.cell? ⟨zx,0,none⟩=some (.int .i64 x.pos):=cr fx rfl;have p2:y.cell? ⟨zx,2,none⟩=some (.int .u64 x.QN):=cr fx rfl;have bz:zx≠pb:=by omega
  have FX:=hh fx;have cl:=hh ((J.block mc (aG bc.out) (fun h=>h)).trans bc.out);have b5:=hh (cc.out.keep J (fun h=>h));have cd:=hh (ci.out.below (ca _) (J.below (B:=B) (by omega) (fun _ _ h=>h)));have a9:=hh (cf.out.new J);have a8:=hh (HK.out.trans J (fun _ _ h=>h.elim));clear D a6 fx J q0 q1 q2 q3 S a7;obtain⟨lo,O⟩:∃b,b=decide (x.QN<1):=⟨_,rfl⟩;have b1:decide ((x.QN:Int)<1)=lo:=by rw[O];exact decide_eq_decide.2 (by omega)
  obtain⟨hi,a0⟩:∃b,b=decide (65536<x.QN):=⟨_,rfl⟩;have b0:decide ((65536:Int)<(x.QN:Int))=hi:=by rw[a0];exact decide_eq_decide.2 (by omega)
  have b2:decide (x.QN=0)=lo:=by rw[O];exact decide_eq_decide.2 (by omega)
  have b3:decide ((x.QN:Int)=0)=lo:=by rw[O];exact decide_eq_decide.2 (by omega)
  have Z:Hid ((lo||hi)=decide (x.QN<1∨65536<x.QN)):=hh (by rw[O,a0,Bool.decide_or]);clear O a0;have dk:=aJ;refine wp_seq (wp_seq (Code.wp_only (R:=fun A V=>aA (fun i=>(rg 73 80 i)) C A∧At A 80 (.bool (lo||hi))∧V=y) ?_ ?_))
  ·have af:aA (fun i=>(rg 73 80 i)) C C:=aA.refl _ _
   obtain⟨T,d⟩:=C;refine rl ?_
   iterate 4 with_reducible refine st ?_
   cases lo
   ·skip
    iterate 4 with_reducible refine st ?_
    refine ln ⟨rfl,?_,?_,rfl⟩
    ·exact ag
    ·simp only[Bool.false_or,Bool.true_or];exact At.self
   ·skip
    iterate 4 with_reducible refine st ?_
    refine ln ⟨rfl,?_,?_,rfl⟩
    ·exact ag
    ·simp only[Bool.false_or,Bool.true_or];exact At.self
  rintro A V ⟨l,ac,rfl⟩;replace E:=l.Q7 E rfl;replace G:=l.Q7 G rfl;replace M:=l.Q7 M rfl;have I:=l.size.trans a5;have an:=l.defers.trans bm;refine wp_cond_split (ac.eval (by omega)) (fun hg=>?_) (fun hg=>?_)
  ·have H:x.QN<1∨65536<x.QN:=by have h1:=Z.out;rw[hg]at h1;exact of_decide_eq_true h1.symm
   clear hg b1 b0 b2 b3 ac;refine so (fun bd W=>aA (fun i=>(rg 81 84 i)) A bd∧aF B W pb v P fC ((x.pos,2)::((P.Q9.take n).flatMap (im kE P)++L))∧aB (fun k=>k=pb) V W) ?_ ?_
   ·have af:aA (fun i=>(rg 81 84 i)) A A:=aA.refl _ _
    obtain⟨T,d⟩:=A;refine rl ?_
    iterate 3 with_reducible refine st ?_
    with_reducible refine Lz (fun K hK=>?_)
    go_simp;refine(cW x.pos 2 92 a9.out rfl).mono ?_;rintro e w2 ⟨rfl,ah,a3⟩;with_reducible refine hK _ _ ?_;clear hK K
    refine ln ⟨rfl,?_,?_,?_⟩
    ·exact ag
    ·exact ah
    ·exact a3
   rintro bd W ⟨q,ah,a3⟩;replace E:=q.Q7 E rfl;replace G:=q.Q7 G rfl;replace M:=q.Q7 M rfl;have bw:=q.size.trans I;have b4:=q.defers.trans an;refine wp_exit ?_
   repeat with_reducible apply eh
   simp only[dg,if_true];refine⟨(aA.trans (aA.trans (aA.trans (aA.refl (fun i=>i==6||i==8||i==10||(rg 71 128 i)) _) g (by intro j;simp;omega)) l (by intro j;simp;omega)) q (by intro j;simp;omega)),ah.congr fun p=>?_,a8.out.trans a3 (fun _ _ h=>h)⟩;rw[aP HX.out,List.flatMap_append,List.flatMap_cons,List.flatMap_nil,List.append_nil,show im kE P x=[(x.pos,2)] from by unfold im;rw[if_pos H]];simp only[List.mem_append,List.mem_cons,List.mem_nil_iff,or_false]
   try simp only[or_assoc,or_comm,or_left_comm]
  ·have H:¬ (x.QN<1∨65536<x.QN):=by have h1:=Z.out;rw[hg]at h1;exact of_decide_eq_false h1.symm
   refine wp_skip ?_;refine pv a9.out cl.out b5.out a4 H cd.out FX.out bz A I E G M _ ?_;intro c wc cp cs cw;refine⟨(aA.trans (aA.trans (aA.trans (aA.refl (fun i=>i==6||i==8||i==10||(rg 71 128 i)) _) g (by intro j;simp;omega)) l (by intro j;simp;omega)) cp (by intro j;simp;omega)),cs.congr fun p=>?_,a8.out.trans cw (fun _ _ h=>h)⟩;rw[aP HX.out,List.flatMap_append,List.flatMap_cons,List.flatMap_nil,List.append_nil,show im kE P x=x.QJ.flatMap (jM P x.QN) from by unfold im;rw[if_neg H];rfl];simp only[List.mem_append]
   try simp only[or_assoc,or_comm,or_left_comm]
 ·rintro b wr Y ⟨hL,hk⟩
  rw[List.take_length]at hL;exact HQ.out _ _ (aA.trans (u.m) Y (by intro j;simp;omega)) hL hk
end Go.Proofs.YtpblcjipmoblnaaGreatDoor
namespace Go.Proofs.YtpblcjipmoblnaaGreatDoor
open Go.RowKit Go.IntWalk Go.Shelf Ck
variable {w:World} {B:Nat}
attribute [local go_sem] Oper.semAt_some
def xk(P:aC)(l:List (Fin P.Q3.length)):ByteArray→Value:=oK (fun i=>P.Q3[i].name) (fun i =>.int .u64 (P.Q3[i].QP:Nat)) (fun _ =>.int .u64 0) l
theorem wN(P:aC)(s:ByteArray):xk P (List.finRange _) s=.int .u64 (g9 P s:Nat):=by
 unfold xk g9;rw[iG,jA P.Q3]
 cases(List.finRange P.Q3.length).find? fun i=>decide (P.Q3[i].name=s)<;>rfl
theorem sC{P:Program}{f:FuncId}{fn:Func}{N:Nat}{args:Array Value}{R:Ending→World→Prop}(j:P.funcs[f]?=some fn)(d:fn.ntmps=N)(g:fn.body.isSome=true)(p:args.size≤N)
 (h:∀a:Act,a.tmps.size=N→a.defers=[]→(∀i v,args[i]?=some v→At a i v)→(al fn []).wp P (bodyPostM Fence.wide 9 P fn R) a w):Calls P f args w R:=by
 obtain⟨c,b⟩:=Option.isSome_iff_exists.1 g;have e:al fn []=c:=by unfold al;rw[b];rfl
 rw[e]at h;refine(callsIn_wide (n:=9)).1 (callsIn_of_wp_marks j b trivial (wpIn_wide.2 (h _ ?_ rfl fun i v hv=>?_)))
 ·simp[d];omega
 ·intro q
  have l:i<args.size:=(Array.getElem?_eq_some_iff.1 hv).1;show(args++Array.replicate (fn.ntmps-args.size) undef)[i]=v;rw[Array.getElem_append_left l];exact(Array.getElem?_eq_some_iff.1 hv).2
theorem vV{β:Type}{N k:Nat}{cs:Array Value}{t:TypeId}{z:Nat×Nat}:OwnFrom N (fun(_:β) W=>W.heap[k]?=some (.cells cs t z)):=Own.from (g0 k cs t z) N
theorem wX(T:Array Value)(p q:Nat)(u v:Value):(#[p,q].zip #[u,v]).foldl (fun(t:Array Value) (x:Nat×Value)=>match x with|(p,v)=>t.setIfInBounds p v) T=(T.setIfInBounds p u).setIfInBounds q v:=by
 simp[List.zip_toArray]
theorem rQ{v:aV}{P:aC}(hp:cX B w v P)(N:B≤w.heap.size){A_s:Option Addr}{M:Nat}(q:v.Q3=.slice A_s P.Q3.length M){mb mc Y:Nat}(Z:w.heap[mb]?=some (.map #[] 0))(R:w.heap[mc]?=some (.cells #[.map (some mb)] 184 (0,0)))(O:w.heap[Y]?=some (.cells #[.slice A_s P.Q3.length M] 26 (0,0)))
 (bb:B≤mb)(a:Act)(V:a.tmps.size=130)(h2:At a 2 (.pointer (some ⟨mc,0,none⟩)))(a1:At a 55 (.func (.func 129) #[] #[.pointer (some ⟨Y,0,none⟩)]))(Q:Exit→Act→World→Prop)
 (hQ:∀D W,w.heap.size≤D→jm W mb P→W.heap[mc]?=some (.cells #[.map (some mb)] 184 (0,0))→aB (fun k=>k=mb) w W→W.heap[D]?=some (.deferred (some []))→Q .normal { a with defers:={ target := .collected D,args := #[] }::a.defers } W):
 (al Tryz.f55 [1,1,1,0,1]).wp Tryz.prog Q a w:=by
 have C:=hp.Q3;rw[q]at C;obtain⟨_,_,e,a5,hn,hl⟩:=C
 cases e
 unfold top at hn;have HQ:=hh hQ;have a7:=aG R;have ad:=aG Z;have a3:=aG O;have a6:mc≠mb:=by rintro rfl;rw[R]at Z;cases Z
 have a4:Y≠mb:=by rintro rfl;rw[O]at Z;cases Z
 clear hQ
 conv=>arg 2;whnf
 refine wp_block ((wpIn_wide (n:=9)).1 ?_);obtain⟨p,U,E⟩:=kZ (σ:=(Option Addr×Nat)×(Option Addr×Nat)) (fun(x:aS) s=>[.int .i64 x.pos,.string x.name,.int .u64 x.QP,.bool x.stopped,.slice s.1.1 x.maps.length s.1.2,.slice s.2.1 x.QR.length s.2.2]) (fun x _=>ae x.name) (fun b o x hx=>by
  obtain⟨u,u2,hc,⟨Am,cm,rfl,_⟩,⟨Ar,cr,rfl,_⟩,_,_,C⟩:=hx;exact⟨((Am,cm),(Ar,cr)),hc,C⟩) hl
 obtain⟨vs,q⟩:∃vs:Nat→Nat→Value,vs=fun j c=>if h:j<P.Q3.length then([.int .i64 P.Q3[j].pos,.string P.Q3[j].name,.int .u64 P.Q3[j].QP,.bool P.Q3[j].stopped,.slice (p j).1.1 P.Q3[j].maps.length (p j).1.2,.slice (p j).2.1 P.Q3[j].QR.length (p j).2.2]:List Value).getD c undef else undef:=⟨_,rfl⟩
 have hA:0<P.Q3.length→∃b off,A_s=some ⟨b,off,none⟩∧b<w.heap.size∧b≠mb∧∀j c,j<P.Q3.length→c<6→w.cell? ⟨b,off+j*6+c,none⟩=some (vs j c):=fun af=>by
  obtain⟨b,off,h1,h2,y⟩:=U af;refine⟨b,off,h1,by omega,by omega,fun j c hj hc=>?_⟩;rw[q];simp only[dif_pos hj];refine(y j hj) c _ ?_
  match c,hc with
  | 0,_=>rfl
  | 1,_=>rfl
  | 2,_=>rfl
  | 3,_=>rfl
  | 4,_=>rfl
  | 5,_=>rfl
 have J:=nc Fence.wide 8 trivial rfl (by decide) Y mb w.heap.size P.Q3.length M A_s vs (by omega) a5 ⟨a3,a4⟩ w (Nat.le_refl _) (cell_of_one O) hA;rw[show(fun x:Fin P.Q3.length=>(#[.int .i64 (x.val:Int),.agg #[vs x.val 0,vs x.val 1,vs x.val 2,vs x.val 3,vs x.val 4,vs x.val 5]]:Array Value))=fun x =>#[.int .i64 (x.val:Int),.agg #[.int .i64 P.Q3[x.val].pos,.string P.Q3[x.val].name,.int .u64 P.Q3[x.val].QP,.bool P.Q3[x.val].stopped,.slice (p x.val).1.1 P.Q3[x.val].maps.length (p x.val).1.2,.slice (p x.val).2.1 P.Q3[x.val].QR.length (p x.val).2.2]] from by
  funext x
  rw[q];simp only[dif_pos x.isLt];rfl]at J
 have a0:a.eval (.tmp 55)=.func (.func 129) #[] #[.pointer (some ⟨Y,0,none⟩)]:=a1.eval (by rw[V];decide);refine wpIn_rangeFunc_ownH (F:=Fence.wide) (n:=9) rfl (by decide) (gf:=129) (lb := #[.pointer (some ⟨Y,0,none⟩)]) a0 trivial (enters_of Tryz.func129 (by kernel_rfl) rfl)
  J oL (vz (Nat.le_refl _)) (Below.refl _ _) (fun _=>rfl)
  (fun g W=>(dA W mb g.length (.int .u64 0) (xk P g.reverse) (oJ (fun i=>P.Q3[i].name) (fun _=>false) g.reverse)∧W.heap[mc]?=some (.cells #[.map (some mb)] 184 (0,0)))∧(aB (fun k=>k=mb) w W))
  (fun _ _ _=>False)
  (OwnFrom.and (OwnFrom.and (fun s A B row C hg hr=>dA.own C hg (fun r e=>(hr r e).1) ad) vV) (fun s A B row C hg hr=>C.trans (aB.of_grown hg (S:=fun k=>w.heap.size≤k) (fun k e=>(hr k e).1)) (fun i hi h=>by omega)))
  (fun _ _ _ _ _ C _ _=>C)
  ⟨⟨dA.new _ _ _ Z,R⟩,aB.refl _ _⟩
  (fun x (X:Act) (W:World)=>∃Bx:Nat,W.heap[Bx]?=some (Obj.cells #[.int .i64 P.Q3[x.val].pos,.string P.Q3[x.val].name,.int .u64 P.Q3[x.val].QP,.bool P.Q3[x.val].stopped,.slice (p x.val).1.1 P.Q3[x.val].maps.length (p x.val).1.2,.slice (p x.val).2.1 P.Q3[x.val].QR.length (p x.val).2.2] 52 (0,0))∧X.tmps.size=130∧At X 2 (.pointer (some ⟨mc,0,none⟩))∧At X 4 (.pointer (some ⟨Bx,0,none⟩)))
  (fun x X s A B row C hg hr=>by
   obtain⟨Bx,h2,y⟩:=C;exact⟨Bx,mQ h2 hg (fun r e=>(hr r e).2),y⟩)
  ?assign ?body ?done ?stop
 case assign =>
  rintro l g x W K ⟨⟨L,y⟩,N⟩ H;have ac:=aG y;have HK:=hh H;clear J hA E U q hl H hp;obtain⟨T,d⟩:=a;have a8:((T.setIfInBounds 56 (.int .i64 (x.val:Int))).setIfInBounds 57 (.agg #[.int .i64 P.Q3[x.val].pos,.string P.Q3[x.val].name,.int .u64 P.Q3[x.val].QP,.bool P.Q3[x.val].stopped,.slice (p x.val).1.1 P.Q3[x.val].maps.length (p x.val).1.2,.slice (p x.val).2.1 P.Q3[x.val].QR.length (p x.val).2.2])).size=130:=by simpa using V
  refine wpIn_region_lit ?_;rw[wX]
  dsimp only
  iterate 2
   with_reducible refine wpListIn_step (fun K H=>?_)
   go_simp;with_reducible refine H _ _ ?_;clear H K
  refine wpListIn_nil ?_;refine HK.out _ _ ((KeepsOthers.alloc _ _).from _) ((aB.refl _ _).alloc _) ⟨⟨L.keep (((aB.refl (fun _=>False) _).alloc _)) (fun h=>h),(Below.heap_alloc _ _ _ ac).trans y⟩,N.alloc _⟩ ⟨W.heap.size,heap_alloc_new _ _,?_,?_,?_⟩
  ·simpa using V
  ·(repeat (first|with_reducible exact At.self|with_reducible apply At.ne));all_goals first|decide|with_reducible exact h2
  ·exact aq
 case body =>
  rintro l g x X W hl _ ⟨⟨L,y⟩,N⟩ ⟨Bx,hX,G,k2,k4⟩ a9;have q1:W.cell? ⟨Bx,1,none⟩=some (.string P.Q3[x.val].name):=cr hX rfl;have q2:W.cell? ⟨Bx,2,none⟩=some (.int .u64 P.Q3[x.val].QP):=cr hX rfl;have qm:=cell_of_one y;have ah:=E x.val x.isLt;have HS:=hh L;have H3:=hh y;have HB:=hh N;have an:Hid (ae P.Q3[x.val].name):=hh ah;clear L y N hX J hA E U q ah hp;obtain⟨T,d⟩:=X;refine wpIn_block (wpIn_region_lit ?_)
  iterate 5
   with_reducible refine wpListIn_step (fun K H=>?_)
   go_simp;with_reducible refine H _ _ ?_;clear H K
  refine dA.updateIn rfl HS.out (by unfold maxLen;omega) rfl rfl Tryz.underlying184 (At.eval (by exact aq) (by have:=G;simp at this⊢; omega)) (At.eval (by exact aq) (by have:=G;simp at this⊢; omega)) (Nat.le_trans an.out (by unfold maxLen;omega)) (At.eval (by exact aq) (by have:=G;simp at this⊢; omega)) ?_;intro w2 a2 I;refine wpListIn_nil ?_;have e1:(g++[x]).reverse=x::g.reverse:=by simp
  have e2:(g++[x]).length=g.length+1:=by simp
  refine⟨iH I ad,I.mono fun _ _ h =>.inl h,⟨?_,(I.block _ (aG H3.out) a6).trans H3.out⟩,HB.out.trans I (fun _ _ h=>h)⟩;rw[e1,e2];exact a2
 case done =>
  rintro D ys W hD rfl ⟨⟨L,y⟩,N⟩ H;rw[jl]at L;have f1:xk P (List.finRange _)=fun s =>.int .u64 (g9 P s:Nat):=funext fun s=>wN P s
  rw[f1]at L;exact HQ.out D W hD ⟨_,_,L⟩ y N H
 case stop =>
  rintro D c g W _ _ h _;exact h.elim
theorem oH{w':World}{pb:Nat}{v:aV}{P:aC}{W:Int→Int}{L:List Wr}(h:aF B w pb v P W L){m:Nat}(hk:aB (fun k=>k=m) w w')(e:m<w.heap.size→B≤m∧bk w m=none):aF B w' pb v P W L:=
 h.keep hk fun k g d=>by
  subst g;obtain⟨b,a⟩:=e d;exact⟨b,by rw[a];simp,by rw[a];simp⟩
theorem tX{pb:Nat}{v:aV}{P:aC}(h:aF B w pb v P fC []):Calls Tryz.prog 55 #[.pointer (some ⟨pb,0,none⟩)] w fun e w'=>e=.returned (.tuple #[])∧aF B w' pb v P fC (gK kE P)∧aB (fun k=>k=pb) w w':=by
 have er:=h.base;have e0:=h.lt;obtain⟨A_t,c6,cu,_,d8,_⟩:=h.QL.QE;obtain⟨A_p,bz,ct,es,d6,cm⟩:=h.QL.Q9;obtain⟨A_m,c5,cs,_,d5,_⟩:=h.QL.QD;obtain⟨A_s,S,eb,ev,d7,d2⟩:=h.QL.Q3;unfold top at d8 d6 d5 d7;have el:w.cell? ⟨pb,11,none⟩=some (.slice A_t P.QE.length c6):=by rw[←cu];exact h.cell rfl
 have q0:w.cell? ⟨pb,0,none⟩=some (.int .i64 P.pos):=h.cell rfl;have c1:=hh (h.new ((aB.refl _ w).drew));have bw:=hh cm;have bc:=hh eb;clear h cm d2 cu;refine sC Tryz.func55 Tryz.ntmps55 rfl (by show 1≤130;decide) fun a d9 hd hh=>?_
 have U:At a 0 (.pointer (some ⟨pb,0,none⟩)):=hh 0 _ rfl;clear hh
 conv=>arg 2;whnf
 obtain⟨bs,hbs⟩:∃b,b=decide (0<P.QE.length):=⟨_,rfl⟩;have cv:decide ((0:Int)<(P.QE.length:Int))=bs:=by rw[hbs];exact decide_eq_decide.2 (by omega)
 have cw:decide (0<P.QE.length)=bs:=hbs.symm;have cy:=hh hbs;clear hbs;refine so (fun N r=>aA (fun i=>(rg 11 24 i)) a N∧aF B r pb v P fC (say bs P.pos 0)∧aB (fun k=>k=pb) w r) ?_ ?_
 ·have ad:aA (fun i=>(rg 11 24 i)) a a:=aA.refl _ _
  obtain⟨T,d⟩:=a;refine wp_region_still_tail 13 (by kernel_rfl) (by kernel_rfl) ?_;simp only[List.take_succ_cons,List.take_zero,List.drop_succ_cons,List.drop_zero]
  iterate 13 with_reducible refine sl ?_
  with_reducible refine wpStill_nil ?_;refine Lz (fun K hK=>?_)
  go_simp;refine(aO bs P.pos 0 107 c1.out rfl).mono ?_;rintro e w2 ⟨rfl,bd,bf⟩;with_reducible refine hK _ _ (ln ?_)
  refine⟨rfl,ag,by simpa using bd,((aB.refl _ _).drew).trans bf (fun _ _ e=>e)⟩
 rintro N r ⟨H,q,Y⟩;replace U:=H.Q7 U rfl;have cp:=H.size.trans d9;have ds:=H.defers.trans hd;have p9:r.cell? ⟨pb,9,none⟩=some (.slice A_p P.Q9.length bz):=by rw[←ct];exact q.cell rfl
 have eg:r.cell? ⟨pb,10,none⟩=some (.slice A_m P.QD.length c5):=by rw[←cs];exact q.cell rfl
 have p5:r.cell? ⟨pb,5,none⟩=some (.slice A_s P.Q3.length S):=by rw[←bc.out];exact q.cell rfl
 clear ct cs cv cw q0 el;obtain⟨bp,an⟩:∃b,b=decide (1<P.Q9.length):=⟨_,rfl⟩;have a7:decide ((1:Int)<(P.Q9.length:Int))=bp:=by rw[an];exact decide_eq_decide.2 (by omega)
 have a8:decide (1<P.Q9.length)=bp:=an.symm;have bo:=hh an;clear an;have bu:=hh q;have bt:=hh Y;clear q Y;refine wp_seq (wp_seq (Code.wp_only (R:=fun E M=>aA (fun i=>(rg 25 31 i)) N E∧At E 31 (.bool bp)∧M=r) ?_ ?_))
 ·have ad:aA (fun i=>(rg 25 31 i)) N N:=aA.refl _ _
  obtain⟨T,d⟩:=N;refine rl ?_
  iterate 7 with_reducible refine st ?_
  refine ln ⟨rfl,ag,aq,rfl⟩
 rintro E M ⟨I,a6,rfl⟩;replace U:=I.Q7 U rfl;have bj:=I.size.trans cp;have b5:=I.defers.trans ds;refine Code.wp_only (R:=fun O g=>aA (fun i=>(rg 32 48 i)) E O∧aF B g pb v P fC (say bs P.pos 0++(match P.Q9[1]? with|some x=>say (decide (0<P.QD.length)) x.pos 1|none=>[]))∧aB (fun k=>k=pb) M g) ?_ ?_
 ·refine wp_cond_split (a6.eval (by omega)) (fun hg=>?_) (fun hg=>?_)
  ·have a4:1<P.Q9.length:=by have h1:=bo.out;rw[hg]at h1;exact of_decide_eq_true h1.symm
   obtain⟨x,hx⟩:=ge a4;obtain⟨bl,off,rfl,dk,a2⟩:=bw.out (by omega);obtain⟨lv,hc,_⟩:=(ek B) _ _ _ _ _ (bt.out.below (B:=B) (by omega) (fun _ hi e=>by omega)) dk (a2 1 x hx);have r0:=hc.c0;rw[Nat.one_mul]at r0;obtain⟨bm,ah⟩:∃b,b=decide (0<P.QD.length):=⟨_,rfl⟩;have en:decide ((0:Int)<(P.QD.length:Int))=bm:=by rw[ah];exact decide_eq_decide.2 (by omega)
   have eo:decide (0<P.QD.length)=bm:=ah.symm;have HX:=hh hx;have cx:=hh ah;have e1:1≤bz:=by omega
   have e2:(1:Int)<(P.Q9.length:Int):=by omega
   have c3:=hh (bu.out.new ((aB.refl _ M).drew));clear ah hx hc a2 hg a7 a8 a6;have ad:aA (fun i=>(rg 32 48 i)) E E:=aA.refl _ _;obtain⟨T,d⟩:=E;refine wp_region_still_tail 16 (by kernel_rfl) (by kernel_rfl) ?_;simp only[List.take_succ_cons,List.take_zero,List.drop_succ_cons,List.drop_zero]
   iterate 16 with_reducible refine sl ?_
   with_reducible refine wpStill_nil ?_;refine Lz (fun K hK=>?_)
   go_simp;refine(aO bm x.pos 1 106 c3.out rfl).mono ?_;rintro e w2 ⟨rfl,bd,bf⟩;with_reducible refine hK _ _ (ln ?_)
   refine⟨rfl,?_,bd.congr fun p=>?_,((aB.refl _ _).drew).trans bf (fun _ _ e=>e)⟩
   ·exact ag
   ·rw[HX.out,cx.out]
    simp only[List.mem_append]
    try simp only[or_comm]
  ·have a4:¬ 1<P.Q9.length:=by have h1:=bo.out;rw[hg]at h1;exact of_decide_eq_false h1.symm
   refine wp_skip ⟨rfl,aA.refl _ _,?_,aB.refl _ _⟩;rw[List.getElem?_eq_none (by omega)]
   simpa using bu.out
 rintro O g ⟨J,af,cc⟩;replace U:=J.Q7 U rfl;have a1:=J.size.trans bj;have be:=J.defers.trans b5;have p5:g.cell? ⟨pb,5,none⟩=some (.slice A_s P.Q3.length S):=by rw[←bc.out];exact af.cell rfl
 have c2:=hh af;have a9:Hid (aB (fun k=>k=pb) w g):=bt.out.trans cc (fun _ _ h=>h);have a5:=af.lt;clear af cc p9 eg a7 a8 bw;have d4:=@run_makeMap Tryz.prog;refine so (fun G j=>aA (fun i=>i==2||i==49) O G∧At G 2 (.pointer (some ⟨g.heap.size+1,0,none⟩))∧j=(g.alloc (.map #[] 0)).alloc (.cells #[.map (some g.heap.size)] 184)) ?_ ?_
 ·have ad:aA (fun i=>i==2||i==49) O O:=aA.refl _ _
  obtain⟨T,d⟩:=O;refine rl ?_
  iterate 3 with_reducible refine st ?_
  refine ln ⟨rfl,ag,aq,rfl⟩
 rintro G j ⟨L,h2,l⟩;replace U:=L.Q7 U rfl;have Z:=L.size.trans a1;have a0:=L.defers.trans be;clear d4;obtain⟨mb,Q⟩:∃m,m=g.heap.size:=⟨_,rfl⟩;rw[←Q]at h2 l;have s4:j.heap.size=mb+2:=by rw[l,Q];simp
 have f1:j.heap[mb]?=some (.map #[] 0):=by rw[l,Q,Below.heap_alloc _ _ _ (by simp)];exact heap_alloc_new _ _
 have f2:j.heap[mb+1]?=some (.cells #[.map (some mb)] 184 (0,0)):=by
  rw[l];have:=heap_alloc_new (g.alloc (.map #[] 0)) (.cells #[.map (some mb)] 184)
  rwa[World.size_alloc,←Q]at this
 have cd:Kz g j:=by rw[l];exact((aB.refl _ _).alloc _).alloc _
 replace p5:=(cd.cell (p:=⟨pb,5,none⟩) a5 (fun h=>h)).trans p5;have bb:=hh Q;have c4:=hh s4;clear l Q s4;refine wp_seq (wp_seq (Code.wp_only (R:=fun A C=>aA (fun i=>(rg 50 55 i)) G A∧At A 55 (.func (.func 129) #[] #[.pointer (some ⟨j.heap.size,0,none⟩)])∧C=j.alloc (.cells #[.slice A_s P.Q3.length S] 26)) ?_ ?_))
 ·have ad:aA (fun i=>(rg 50 55 i)) G G:=aA.refl _ _
  obtain⟨T,d⟩:=G;refine rl ?_
  iterate 5 with_reducible refine st ?_
  with_reducible refine Lz (fun K hK=>?_)
  go_simp;refine((callsIn_wide (n:=9)).1 (ml Fence.wide 9 trivial rfl A_s P.Q3.length S _)).mono ?_;rintro e w5 ⟨rfl,rfl⟩;with_reducible refine hK _ _ ?_;clear hK K
  refine ln ⟨rfl,ag,aq,rfl⟩
 rintro A C ⟨y,b0,ac⟩;replace U:=y.Q7 U rfl;replace h2:=y.Q7 h2 rfl;have u:=y.size.trans Z;have V:=y.defers.trans a0;obtain⟨bx,b4⟩:∃m,m=j.heap.size:=⟨_,rfl⟩;rw[←b4]at b0;have f3:C.heap[bx]?=some (.cells #[.slice A_s P.Q3.length S] 26 (0,0)):=by rw[ac,b4];exact heap_alloc_new _ _
 have X:Kz j C:=by rw[ac];exact(aB.refl _ _).alloc _
 have a3:Kz g C:=cd.trans X (fun _ _ h=>h);have b3:=c2.out.new a3;have em:pb<mb:=by rw[bb.out];exact a5
 have e6:=X.size;have e5:=c4.out;refine rQ b3.QL (by omega) bc.out ((X.block mb (aG f1) (fun h=>h)).trans f1) ((X.block (mb+1) (aG f2) (fun h=>h)).trans f2) f3 (by omega) A u h2 b0 _ ?_;intro D W hD dl d3 cf hK;with_reducible apply aY
 have di:=oH b3 cf (fun _=>⟨by omega,by unfold bk;rw[(X.block mb (aG f1) (fun h=>h)).trans f1]⟩);refine pu di d3 dl ⟨by omega,by omega⟩ { tmps:=A.tmps,defers:={ target := .collected D,args := #[] }::A.defers } u U h2 _ ?_;intro a' w' c7 c9 cb;have d0:a'.defers=[{ target := .collected D,args := #[] }]:=by rw[c7.defers];show _::A.defers=_;rw[show A.defers=[] from V]
 have c8:D≠pb:=by omega
 have b1:w'.heap[D]?=some (.deferred (some [])):=(cb.block D (aG hK) c8).trans hK;have cl:aB (fun k=>k=D) w' (w'.putObj D (.deferred none)):=aB.of_grown (grownBy_putObj' w' D (.deferred none)) (fun k e=>by cases e;rfl);have b2:=oH c9 cl (fun _=>⟨by omega,by unfold bk;rw[b1]⟩);have d1:aB (fun k=>k=pb) w w':=((a9.out.trans a3 (fun _ _ h=>h.elim)).trans cf (fun i hi e=>by have:=a9.out.size;have:=bb.out;omega)).trans cb (fun _ _ h=>h);have ci:aB (fun k=>k=pb) w (w'.putObj D (.deferred none)):=d1.trans cl (fun i hi e=>by have:=a9.out.size;have:=bb.out;omega);show LeavesInM Fence.wide 9 Tryz.prog Tryz.f55 a'.tmps _ a'.defers .returning w';rw[d0];refine⟨by simp,.inl ⟨_,_,rfl,run_takeDeferred b1,?_⟩⟩;refine⟨_,results_none rfl _ _ _,rfl,b2.congr fun p=>?_,ci⟩;unfold gK;rw[cy.out];simp only[List.mem_append]
 try simp only[or_assoc,or_comm,or_left_comm]
 exact Iff.rfl
end Go.Proofs.YtpblcjipmoblnaaGreatDoor
