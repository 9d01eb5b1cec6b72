import Derived.Test.YtpblcjipmoblnaaGreatDoorOpenG
import Derived.Test.YtpblcjipmoblnaaGreatDoorRows
set_option maxRecDepth 100000
set_option linter.all false
set_option maxHeartbeats 4000000
namespace Go.Proofs.YtpblcjipmoblnaaGreatDoor
open Go.ChangeShapes Go.WideShapes Go.ChangeAt Go.RowKit Go.Deep
namespace bulks
theorem part_le{H:Type}{d:DataW H}{l:List (DataW H)}(h:d∈l):Rows.uptoBulk d≤Rows.uptoBulkAll l:=by
 induction l with
 | nil=>cases h
 | cons x r ih =>
  simp only[Rows.uptoBulkAll]
  rcases List.mem_cons.1 h with e|e
  ·subst e;omega
  ·have:=ih e;omega
theorem Bp{H:Type}(d:DataW H):1≤Rows.uptoBulk d:=by
 cases d with
 | lit l=>cases l<;>simp[Rows.uptoBulk]
 | nil=>simp[Rows.uptoBulk]
 | ptr d=>simp[Rows.uptoBulk]
 | slice elems spare=>simp[Rows.uptoBulk]
 | agg parts=>simp[Rows.uptoBulk]
 | iface t d=>simp[Rows.uptoBulk]
 | map entries=>simp[Rows.uptoBulk]
 | held h=>simp[Rows.uptoBulk]
theorem length_le{H:Type}(l:List (DataW H)):l.length≤Rows.uptoBulkAll l:=by
 induction l with
 | nil=>simp[Rows.uptoBulkAll]
 | cons x r ih=>have:=Bp x;simp only[Rows.uptoBulkAll,List.length_cons];omega
theorem slice_elems{H:Type}(d spare:List (DataW H)):Rows.uptoBulkAll d+1≤Rows.uptoBulk (.slice d spare):=by
 simp only[Rows.uptoBulk];omega
theorem agg_parts{H:Type}(parts:List (DataW H)):Rows.uptoBulkAll parts≤Rows.uptoBulk (.agg parts):=by
 simp only[Rows.uptoBulk];omega
theorem short{H:Type}{s:ByteArray}{p:List MemPlace}{y:DataW H×List MemPlace}(h:y=(.lit (.string s.data.toList),p))(d:Rows.uptoBulk y.1≤1048576):aX s:=by
 subst h;simp only[Rows.uptoBulk]at d;have e:s.data.toList.length=s.size:=Array.length_toList;unfold aX;omega
end bulks
def kI(w:World)(b o i:Nat)(vs:List Value):Prop:=∀j v,vs[j]?=some v→w.cell? ⟨b,o+(i+j),none⟩=some v
theorem cY{w:World}{b o i:Nat}:kI w b o i []:=fun j v h=>by simp at h
theorem aI{w:World}{b o i:Nat}{v:Value}{vs:List Value}(h:w.cell? ⟨b,o+i,none⟩=some v)(t:kI w b o (i+1) vs):kI w b o i (v::vs):=fun j u d=>by
 cases j with
 | zero=>simp at d;subst d;exact h
 | succ j=>have:=t j u (by simpa using d);rw[show i+1+j=i+(j+1) by omega]at this;exact this
theorem dB{w:World}{b o:Nat}{vs:List Value}(h:kI w b o 0 vs):aL w b o vs:=fun j v d=>by have:=h j v d;rw[Nat.zero_add]at this;exact this
section
variable {H:Type} {enc:TypeId×Value→H} {P:Program} {w:World} {base:Nat} {spare:Nat→Bool} {held:Bool}
theorem pz{e:TypeId}{g:Array Field}{n k:Nat}{cs:List Value}{x:DataW H×List MemPlace}(C:P.underlying e=some (.struct g))
 (l:oneCellFields P g=true)(hk:k=g.size)(B:cs.length=k)(h:DataW.trod enc P w base spare held n e cs=some x):
 ∃u,∀(j:Nat) (f:Field),g[j]?=some f→∃(v:Value) (y:DataW H×List MemPlace),cs[j]?=some v∧Rows.uptoBulk y.1≤Rows.uptoBulk x.1∧DataW.trod enc P w base spare held u f.type [v]=some y:=by
 subst hk;obtain⟨ys,u,I,K,A,L,D⟩:=DataW.trod_struct C h;refine⟨u,fun j f q=>?_⟩;obtain⟨J,hk⟩:=hone_of l j f q;have E:j<g.size:=(Array.getElem?_eq_some_iff.1 q).1;have hv:cs[j]?=some (cs[j]' χ):=List.getElem?_eq_getElem χ;have p:=D j f q;rw[J,hk]at p;have d:(cs.drop j).take 1=[cs[j]' χ]:=by
  rw[List.drop_eq_getElem_cons χ];rfl
 rw[d]at p;have r:ys[j]?=some (ys[j]' χ):=List.getElem?_eq_getElem χ;refine⟨_,_,hv,?_,p.trans r⟩;rw[K];exact Nat.le_trans (bulks.part_le (List.mem_map.2 ⟨_,List.getElem_mem _,rfl⟩)) (bulks.agg_parts _)
theorem bL{e:TypeId}{g:Array Field}{n k b o:Nat}{cs:List Value}{x:DataW H×List MemPlace}(E:P.underlying e=some (.struct g))
 (l:oneCellFields P g=true)(hk:k=g.size)(D:w.cells? base ⟨b,o,none⟩ k=some cs)(h:DataW.trod enc P w base spare held n e cs=some x):
 ∃r,∀(j:Nat) (f:Field),g[j]?=some f→∃(v:Value) (y:DataW H×List MemPlace),w.cell? ⟨b,o+j,none⟩=some v∧Rows.uptoBulk y.1≤Rows.uptoBulk x.1∧DataW.trod enc P w base spare held r f.type [v]=some y:=by
 obtain⟨_,q,p⟩:=World.cells?_some D;obtain⟨r,I⟩:=pz E l hk q h;refine⟨r,fun j f u=>?_⟩;obtain⟨v,y,A,B,C⟩:=I j f u;have J:j<g.size:=(Array.getElem?_eq_some_iff.1 u).1;have d:=p j χ;rw[oo]at d;exact⟨v,y,d.trans A,B,C⟩
theorem bV{α:Type}{R:World→Nat→Nat→α→Prop}{t e:TypeId}{k q:Nat}{v:Value}{y:DataW H×List MemPlace}(ht:P.underlying t=some (.slice e))(O:P.cellsOf e=k)(I:0<k)(J:∀b,spare b=true)
 (C:∀(b o m:Nat) (cs:List Value) (z:DataW H×List MemPlace),Rows.uptoBulk z.1≤1048576→w.cells? base ⟨b,o,none⟩ k=some cs→DataW.trod enc P w base spare held m e cs=some z→∃s:α,R w b o s)
 (S:Rows.uptoBulk y.1≤1048576)(h:DataW.trod enc P w base spare held q t [v]=some y):∃xs:List α,aJ w.heap.size k R w v xs:=by
 rcases open_slice ht h with⟨g,hx⟩|⟨a,len,p,m,n1,D,Pl,g,ac,hl,hm,A,hx,W⟩
 ·simp at g
  subst g;exact⟨[],none,0,rfl,Nat.le_refl _,ξ,fun h=>by simp at h⟩
 ·simp at g
  subst g;rw[J]at A;simp only[if_true]at A;have hB:Rows.uptoBulkAll ((List.range len).map D)+1≤1048576:=Nat.le_trans (bulks.slice_elems _ _) (by rw[hx]at S;exact S);have X:len≤1048576:=by have:=bulks.length_le ((List.range len).map D);simp at this;omega
  rcases Nat.eq_zero_or_pos len with N|N
  ·subst N
   exact⟨[],_,p,rfl,hl,ξ,fun h=>by simp at h⟩
  ·obtain⟨Z,x,_⟩:=W 0 χ
   rw[O]at x;obtain⟨_,V,u⟩:=World.cells?_some x;have j:=u 0 I;rw[List.getElem?_eq_getElem χ]at j;simp only[Nat.zero_mul]at j;rw[Go.Deep.add_add]at j;obtain⟨b,off,rfl,B,r⟩:=vj j;obtain⟨xs,L,hq⟩:=Aa (Q:=fun i (s:α)=>R w b (off+i*k) s) len (fun i E=>by
    obtain⟨Y,U,K⟩:=W i χ;rw[O,r]at U;refine C _ _ _ _ _ ?_ U K;have:=bulks.part_le (d:=D i) (l:=(List.range len).map D) (List.mem_map.2 ⟨i,List.mem_range.2 E,rfl⟩);show Rows.uptoBulk (D i)≤_;omega)
   exact⟨xs,some ⟨b,off,none⟩,p,by rw[L],χ,by unfold top;omega,fun _=>⟨b,off,rfl,B,hq⟩⟩
end
section
variable {H:Type} {enc:TypeId×Value→H} {W:World} {base:Nat}
theorem yD{b o m:Nat}{cs:List Value}{x:DataW H×List MemPlace}(E:Rows.uptoBulk x.1≤1048576)(y:W.cells? base ⟨b,o,none⟩ 3=some cs)
 (h:DataW.trod enc Tryz.prog W base (fun _=>true) true m 41 cs=some x):∃s:Ck.Ram,iO W b o s:=by
 obtain⟨I,d⟩:=bL Tryz.underlying41 δ δ y h;obtain⟨v0,S,c0,u0,A⟩:=d 0 _ rfl;obtain⟨n0,u,O,D⟩:=DataW.trod_int Tryz.underlying3 A;obtain rfl:=List.head_eq_of_cons_eq u;obtain⟨L,U,c1,J,B⟩:=d 1 _ rfl;obtain⟨l,v,Q,q⟩:=DataW.trod_int Tryz.underlying39 B;obtain rfl:=List.head_eq_of_cons_eq v;obtain⟨g,rfl⟩:∃m:Nat,l=(m:Int):=⟨l.toNat,by have:=(aW q).1;omega⟩;obtain⟨N,V,c2,K,C⟩:=d 2 _ rfl;obtain⟨p,w,R,r⟩:=DataW.trod_int Tryz.underlying39 C;obtain rfl:=List.head_eq_of_cons_eq w;obtain⟨j,rfl⟩:∃m:Nat,p=(m:Int):=⟨p.toNat,by have:=(aW r).1;omega⟩;exact⟨⟨n0,g,j⟩,dB (aI c0 (aI c1 (aI c2 cY))),bF D,(show g<lim by have:=(aW q).2;unfold lim;omega),(show j<lim by have:=(aW r).2;unfold lim;omega)⟩
theorem sA{b o m:Nat}{cs:List Value}{x:DataW H×List MemPlace}(w:Rows.uptoBulk x.1≤1048576)(y:W.cells? base ⟨b,o,none⟩ 5=some cs)
 (h:DataW.trod enc Tryz.prog W base (fun _=>true) true m 71 cs=some x):∃s:Ck.Map,cU W b o s:=by
 obtain⟨Q,d⟩:=bL Tryz.underlying71 δ δ y h;obtain⟨v0,y0,c0,u0,D⟩:=d 0 _ rfl;obtain⟨n0,r,x0,N⟩:=DataW.trod_int Tryz.underlying3 D;obtain rfl:=List.head_eq_of_cons_eq r;obtain⟨V,y1,c1,L,E⟩:=d 1 _ rfl;obtain⟨A,u,O,w1⟩:=DataW.trod_string Tryz.underlying9 E;obtain rfl:=List.head_eq_of_cons_eq u;obtain⟨X,y2,c2,R,I⟩:=d 2 _ rfl;obtain⟨j,v,x2,l⟩:=DataW.trod_int Tryz.underlying39 I;obtain rfl:=List.head_eq_of_cons_eq v;obtain⟨g,rfl⟩:∃m:Nat,j=(m:Int):=⟨j.toNat,by have:=(aW l).1;omega⟩;obtain⟨Y,y3,p,S,J⟩:=d 3 _ rfl;obtain⟨B,e3,x3⟩:=DataW.trod_bool Tryz.underlying4 J;obtain rfl:=List.head_eq_of_cons_eq e3;obtain⟨Z,y4,q,U,K⟩:=d 4 _ rfl;obtain⟨C,e4,x4⟩:=DataW.trod_bool Tryz.underlying4 K;obtain rfl:=List.head_eq_of_cons_eq e4;exact⟨⟨n0,A,g,B,C⟩,dB (aI c0 (aI c1 (aI c2 (aI p (aI q cY))))),bF N,(show g<lim by have:=(aW l).2;unfold lim;omega),bulks.short O (Nat.le_trans L w)⟩
theorem rZ{b o m:Nat}{cs:List Value}{x:DataW H×List MemPlace}(g:Rows.uptoBulk x.1≤1048576)(V:W.cells? base ⟨b,o,none⟩ 10=some cs)
 (h:DataW.trod enc Tryz.prog W base (fun _=>true) true m 48 cs=some x):∃s:Ck.Region,dH W b o s:=by
 obtain⟨n',d⟩:=bL Tryz.underlying48 δ δ V h;obtain⟨v0,y0,c0,u0,t0⟩:=d 0 _ rfl;obtain⟨n0,K,x0,w0⟩:=DataW.trod_int Tryz.underlying3 t0;obtain rfl:=List.head_eq_of_cons_eq K;obtain⟨v1,y1,c1,u1,t1⟩:=d 1 _ rfl;obtain⟨X,L,x1,w1⟩:=DataW.trod_string Tryz.underlying9 t1;obtain rfl:=List.head_eq_of_cons_eq L;obtain⟨v2,y2,c2,u2,t2⟩:=d 2 _ rfl;obtain⟨q,N,x2,v⟩:=DataW.trod_int Tryz.underlying39 t2;obtain rfl:=List.head_eq_of_cons_eq N;obtain⟨j,rfl⟩:∃m:Nat,q=(m:Int):=⟨q.toNat,by have:=(aW v).1;omega⟩;obtain⟨v3,y3,A,u3,t3⟩:=d 3 _ rfl;obtain⟨Y,e3,x3⟩:=DataW.trod_bool Tryz.underlying4 t3;obtain rfl:=List.head_eq_of_cons_eq e3;obtain⟨v4,y4,B,u4,t4⟩:=d 4 _ rfl;obtain⟨r,e4,x4,w⟩:=DataW.trod_int Tryz.underlying39 t4;obtain rfl:=List.head_eq_of_cons_eq e4;obtain⟨l,rfl⟩:∃m:Nat,r=(m:Int):=⟨r.toNat,by have:=(aW w).1;omega⟩;obtain⟨v5,y5,C,u5,t5⟩:=d 5 _ rfl;obtain⟨Z,O,x5⟩:=DataW.trod_bool Tryz.underlying4 t5;obtain rfl:=List.head_eq_of_cons_eq O;obtain⟨v6,y6,D,u6,t6⟩:=d 6 _ rfl;obtain⟨n6,Q,x6⟩:=DataW.trod_bool Tryz.underlying4 t6;obtain rfl:=List.head_eq_of_cons_eq Q;obtain⟨v7,y7,E,u7,t7⟩:=d 7 _ rfl;obtain⟨u,R,x7,y⟩:=DataW.trod_int Tryz.underlying39 t7;obtain rfl:=List.head_eq_of_cons_eq R;obtain⟨p,rfl⟩:∃m:Nat,u=(m:Int):=⟨u.toNat,by have:=(aW y).1;omega⟩;obtain⟨v8,y8,I,u8,t8⟩:=d 8 _ rfl;obtain⟨n8,S,x8⟩:=DataW.trod_bool Tryz.underlying4 t8;obtain rfl:=List.head_eq_of_cons_eq S;obtain⟨v9,y9,J,u9,t9⟩:=d 9 _ rfl;obtain⟨n9,U,x9,w9⟩:=DataW.trod_string Tryz.underlying9 t9;obtain rfl:=List.head_eq_of_cons_eq U;exact⟨⟨n0,X,j,Y,l,Z,n6,p,n8,n9⟩,dB (aI c0 (aI c1 (aI c2 (aI A (aI B (aI C (aI D (aI E (aI I (aI J cY)))))))))),bF w0,(show j<lim by have:=(aW v).2;unfold lim;omega),(show l<lim by have:=(aW w).2;unfold lim;omega),(show p<lim by have:=(aW y).2;unfold lim;omega),bulks.short x1 (Nat.le_trans u1 g),bulks.short x9 (Nat.le_trans u9 g)⟩
theorem vr{b o m:Nat}{cs:List Value}{x:DataW H×List MemPlace}(v:Rows.uptoBulk x.1≤1048576)(w:W.cells? base ⟨b,o,none⟩ 4=some cs)
 (h:DataW.trod enc Tryz.prog W base (fun _=>true) true m 85 cs=some x):∃s:Ck.jq,eW W b o s:=by
 obtain⟨N,d⟩:=bL Tryz.underlying85 δ δ w h;obtain⟨v0,y0,c0,u0,B⟩:=d 0 _ rfl;obtain⟨n0,q,X,J⟩:=DataW.trod_int Tryz.underlying3 B;obtain rfl:=List.head_eq_of_cons_eq q;obtain⟨R,y1,c1,O,C⟩:=d 1 _ rfl;obtain⟨y,r,Y,K⟩:=DataW.trod_int Tryz.underlying3 C;obtain rfl:=List.head_eq_of_cons_eq r;obtain⟨S,y2,c2,I,D⟩:=d 2 _ rfl;obtain⟨A,u,L,V⟩:=DataW.trod_string Tryz.underlying9 D;obtain rfl:=List.head_eq_of_cons_eq u;obtain⟨U,y3,p,Q,E⟩:=d 3 _ rfl;obtain⟨j,e3,Z,l⟩:=DataW.trod_int Tryz.underlying39 E;obtain rfl:=List.head_eq_of_cons_eq e3;obtain⟨g,rfl⟩:∃m:Nat,j=(m:Int):=⟨j.toNat,by have:=(aW l).1;omega⟩;exact⟨⟨n0,y,A,g⟩,dB (aI c0 (aI c1 (aI c2 (aI p cY)))),bF J,bF K,(show g<lim by have:=(aW l).2;unfold lim;omega),bulks.short L (Nat.le_trans I v)⟩
theorem qx{b o m:Nat}{cs:List Value}{x:DataW H×List MemPlace}(g:Rows.uptoBulk x.1≤1048576)(I:W.cells? base ⟨b,o,none⟩ 8=some cs)
 (h:DataW.trod enc Tryz.prog W base (fun _=>true) true m 55 cs=some x):∃s:Ck.au,cj W b o s:=by
 obtain⟨n',d⟩:=bL Tryz.underlying55 δ δ I h;obtain⟨v0,y0,c0,u0,R⟩:=d 0 _ rfl;obtain⟨n0,y,x0,w0⟩:=DataW.trod_int Tryz.underlying3 R;obtain rfl:=List.head_eq_of_cons_eq y;obtain⟨v1,y1,c1,u1,S⟩:=d 1 _ rfl;obtain⟨J,A,x1,w1⟩:=DataW.trod_string Tryz.underlying9 S;obtain rfl:=List.head_eq_of_cons_eq A;obtain⟨v2,y2,c2,u2,U⟩:=d 2 _ rfl;obtain⟨K,B,x2,w2⟩:=DataW.trod_string Tryz.underlying9 U;obtain rfl:=List.head_eq_of_cons_eq B;obtain⟨v3,y3,q,u3,V⟩:=d 3 _ rfl;obtain⟨L,e3,x3,w3⟩:=DataW.trod_string Tryz.underlying9 V;obtain rfl:=List.head_eq_of_cons_eq e3;obtain⟨v4,y4,r,u4,X⟩:=d 4 _ rfl;obtain⟨N,e4,x4⟩:=DataW.trod_bool Tryz.underlying4 X;obtain rfl:=List.head_eq_of_cons_eq e4;obtain⟨v5,y5,u,u5,Y⟩:=d 5 _ rfl;obtain⟨O,C,x5,w5⟩:=DataW.trod_string Tryz.underlying9 Y;obtain rfl:=List.head_eq_of_cons_eq C;obtain⟨v6,y6,v,u6,Z⟩:=d 6 _ rfl;obtain⟨Q,D,x6,w6⟩:=DataW.trod_int Tryz.underlying3 Z;obtain rfl:=List.head_eq_of_cons_eq D;obtain⟨v7,y7,w,u7,t7⟩:=d 7 _ rfl;obtain⟨l,E,x7,p⟩:=DataW.trod_int Tryz.underlying39 t7;obtain rfl:=List.head_eq_of_cons_eq E;obtain⟨j,rfl⟩:∃m:Nat,l=(m:Int):=⟨l.toNat,by have:=(aW p).1;omega⟩;exact⟨⟨n0,J,K,L,N,O,Q,j⟩,dB (aI c0 (aI c1 (aI c2 (aI q (aI r (aI u (aI v (aI w cY)))))))),bF w0,bF w6,(show j<lim by have:=(aW p).2;unfold lim;omega),bulks.short x1 (Nat.le_trans u1 g),bulks.short x2 (Nat.le_trans u2 g),bulks.short x3 (Nat.le_trans u3 g),bulks.short x5 (Nat.le_trans u5 g)⟩
theorem yv{b o m:Nat}{cs:List Value}{x:DataW H×List MemPlace}(g:Rows.uptoBulk x.1≤1048576)(B:W.cells? base ⟨b,o,none⟩ 6=some cs)
 (h:DataW.trod enc Tryz.prog W base (fun _=>true) true m 58 cs=some x):∃s:Ck.Irq,iR W b o s:=by
 obtain⟨n',d⟩:=bL Tryz.underlying58 δ δ B h;obtain⟨v0,y0,c0,u0,J⟩:=d 0 _ rfl;obtain⟨n0,v,x0,V⟩:=DataW.trod_int Tryz.underlying3 J;obtain rfl:=List.head_eq_of_cons_eq v;obtain⟨v1,y1,c1,R,K⟩:=d 1 _ rfl;obtain⟨C,w,X,w1⟩:=DataW.trod_string Tryz.underlying9 K;obtain rfl:=List.head_eq_of_cons_eq w;obtain⟨v2,y2,c2,S,L⟩:=d 2 _ rfl;obtain⟨D,y,Y,w2⟩:=DataW.trod_string Tryz.underlying9 L;obtain rfl:=List.head_eq_of_cons_eq y;obtain⟨v3,y3,q,U,N⟩:=d 3 _ rfl;obtain⟨E,e3,Z,w3⟩:=DataW.trod_string Tryz.underlying9 N;obtain rfl:=List.head_eq_of_cons_eq e3;obtain⟨v4,y4,r,u4,O⟩:=d 4 _ rfl;obtain⟨l,e4,x4,p⟩:=DataW.trod_int Tryz.underlying39 O;obtain rfl:=List.head_eq_of_cons_eq e4;obtain⟨j,rfl⟩:∃m:Nat,l=(m:Int):=⟨l.toNat,by have:=(aW p).1;omega⟩;obtain⟨v5,y5,u,u5,Q⟩:=d 5 _ rfl;obtain⟨I,A,x5⟩:=DataW.trod_bool Tryz.underlying4 Q;obtain rfl:=List.head_eq_of_cons_eq A;exact⟨⟨n0,C,D,E,j,I⟩,dB (aI c0 (aI c1 (aI c2 (aI q (aI r (aI u cY)))))),bF V,(show j<lim by have:=(aW p).2;unfold lim;omega),bulks.short X (Nat.le_trans R g),bulks.short Y (Nat.le_trans S g),bulks.short Z (Nat.le_trans U g)⟩
theorem tJ{b o m:Nat}{cs:List Value}{x:DataW H×List MemPlace}(g:Rows.uptoBulk x.1≤1048576)(B:W.cells? base ⟨b,o,none⟩ 6=some cs)
 (h:DataW.trod enc Tryz.prog W base (fun _=>true) true m 65 cs=some x):∃s:Ck.eH,dj W b o s:=by
 obtain⟨n',d⟩:=bL Tryz.underlying65 δ δ B h;obtain⟨v0,y0,c0,u0,J⟩:=d 0 _ rfl;obtain⟨n0,v,x0,V⟩:=DataW.trod_int Tryz.underlying3 J;obtain rfl:=List.head_eq_of_cons_eq v;obtain⟨v1,y1,c1,R,K⟩:=d 1 _ rfl;obtain⟨C,w,Y,w1⟩:=DataW.trod_string Tryz.underlying9 K;obtain rfl:=List.head_eq_of_cons_eq w;obtain⟨v2,y2,c2,S,L⟩:=d 2 _ rfl;obtain⟨D,y,Z,w2⟩:=DataW.trod_string Tryz.underlying9 L;obtain rfl:=List.head_eq_of_cons_eq y;obtain⟨v3,y3,q,U,N⟩:=d 3 _ rfl;obtain⟨E,e3,x3,w3⟩:=DataW.trod_string Tryz.underlying9 N;obtain rfl:=List.head_eq_of_cons_eq e3;obtain⟨v4,y4,r,u4,O⟩:=d 4 _ rfl;obtain⟨I,e4,x4,X⟩:=DataW.trod_int Tryz.underlying3 O;obtain rfl:=List.head_eq_of_cons_eq e4;obtain⟨v5,y5,u,u5,Q⟩:=d 5 _ rfl;obtain⟨l,A,x5,p⟩:=DataW.trod_int Tryz.underlying39 Q;obtain rfl:=List.head_eq_of_cons_eq A;obtain⟨j,rfl⟩:∃m:Nat,l=(m:Int):=⟨l.toNat,by have:=(aW p).1;omega⟩;exact⟨⟨n0,C,D,E,I,j⟩,dB (aI c0 (aI c1 (aI c2 (aI q (aI r (aI u cY)))))),bF V,bF X,(show j<lim by have:=(aW p).2;unfold lim;omega),bulks.short Y (Nat.le_trans R g),bulks.short Z (Nat.le_trans S g),bulks.short x3 (Nat.le_trans U g)⟩
theorem xr{b o m:Nat}{cs:List Value}{x:DataW H×List MemPlace}(A:Rows.uptoBulk x.1≤1048576)(B:W.cells? base ⟨b,o,none⟩ 4=some cs)
 (h:DataW.trod enc Tryz.prog W base (fun _=>true) true m 108 cs=some x):∃s:Run,ec W b o s:=by
 obtain⟨O,d⟩:=bL Tryz.underlying108 δ δ B h;obtain⟨v0,y0,c0,u0,D⟩:=d 0 _ rfl;obtain⟨n0,v,Y,L⟩:=DataW.trod_int Tryz.underlying3 D;obtain rfl:=List.head_eq_of_cons_eq v;obtain⟨S,y1,c1,K,E⟩:=d 1 _ rfl;obtain⟨C,w,N,X⟩:=DataW.trod_string Tryz.underlying9 E;obtain rfl:=List.head_eq_of_cons_eq w;obtain⟨U,y2,c2,Q,I⟩:=d 2 _ rfl;obtain⟨l,y,Z,q⟩:=DataW.trod_int Tryz.underlying39 I;obtain rfl:=List.head_eq_of_cons_eq y;obtain⟨g,rfl⟩:∃m:Nat,l=(m:Int):=⟨l.toNat,by have:=(aW q).1;omega⟩;obtain⟨V,y3,u,R,J⟩:=d 3 _ rfl;obtain⟨p,e3,x3,r⟩:=DataW.trod_int Tryz.underlying39 J;obtain rfl:=List.head_eq_of_cons_eq e3;obtain⟨j,rfl⟩:∃m:Nat,p=(m:Int):=⟨p.toNat,by have:=(aW r).1;omega⟩;exact⟨⟨n0,C,g,j⟩,dB (aI c0 (aI c1 (aI c2 (aI u cY)))),bF L,(show g<lim by have:=(aW q).2;unfold lim;omega),(show j<lim by have:=(aW r).2;unfold lim;omega),bulks.short N (Nat.le_trans K A)⟩
theorem lc{b o m:Nat}{cs:List Value}{x:DataW H×List MemPlace}(l:Rows.uptoBulk x.1≤1048576)(p:W.cells? base ⟨b,o,none⟩ 2=some cs)
 (h:DataW.trod enc Tryz.prog W base (fun _=>true) true m 78 cs=some x):∃s:Ck.fY,cN W b o s:=by
 obtain⟨A,d⟩:=bL Tryz.underlying78 δ δ p h;obtain⟨v0,E,c0,u0,r⟩:=d 0 _ rfl;obtain⟨n0,g,D,w⟩:=DataW.trod_int Tryz.underlying3 r;obtain rfl:=List.head_eq_of_cons_eq g;obtain⟨B,I,c1,v,u⟩:=d 1 _ rfl;obtain⟨q,j,y,C⟩:=DataW.trod_string Tryz.underlying9 u;obtain rfl:=List.head_eq_of_cons_eq j;exact⟨⟨n0,q⟩,dB (aI c0 (aI c1 cY)),bF w,bulks.short y (Nat.le_trans v l)⟩
theorem zR{b o m:Nat}{cs:List Value}{x:DataW H×List MemPlace}(g:Rows.uptoBulk x.1≤1048576)(q:W.cells? base ⟨b,o,none⟩ 3=some cs)
 (h:DataW.trod enc Tryz.prog W base (fun _=>true) true m 68 cs=some x):∃s:Ck.Ban,iT W b o s:=by
 obtain⟨I,d⟩:=bL Tryz.underlying68 δ δ q h;obtain⟨v0,Q,c0,u0,v⟩:=d 0 _ rfl;obtain⟨n0,j,O,C⟩:=DataW.trod_int Tryz.underlying3 v;obtain rfl:=List.head_eq_of_cons_eq j;obtain⟨J,R,c1,A,w⟩:=d 1 _ rfl;obtain⟨r,l,D,L⟩:=DataW.trod_string Tryz.underlying9 w;obtain rfl:=List.head_eq_of_cons_eq l;obtain⟨K,S,c2,B,y⟩:=d 2 _ rfl;obtain⟨u,p,E,N⟩:=DataW.trod_string Tryz.underlying9 y;obtain rfl:=List.head_eq_of_cons_eq p;exact⟨⟨n0,r,u⟩,dB (aI c0 (aI c1 (aI c2 cY))),bF C,bulks.short D (Nat.le_trans A g),bulks.short E (Nat.le_trans B g)⟩
theorem sT{b o m:Nat}{cs:List Value}{x:DataW H×List MemPlace}(l:Rows.uptoBulk x.1≤1048576)(E:W.cells? base ⟨b,o,none⟩ 5=some cs)
 (h:DataW.trod enc Tryz.prog W base (fun _=>true) true m 45 cs=some x):∃s:Ck.bA,js W.heap.size W b o s:=by
 obtain⟨Y,d⟩:=bL Tryz.underlying45 δ δ E h;obtain⟨v0,y0,c0,u0,J⟩:=d 0 _ rfl;obtain⟨n0,B,x0,V⟩:=DataW.trod_int Tryz.underlying3 J;obtain rfl:=List.head_eq_of_cons_eq B;obtain⟨v1,y1,c1,Q,K⟩:=d 1 _ rfl;obtain⟨I,C,X,w1⟩:=DataW.trod_string Tryz.underlying9 K;obtain rfl:=List.head_eq_of_cons_eq C;obtain⟨v2,y2,c2,Z,L⟩:=d 2 _ rfl;obtain⟨r,D,x2,v⟩:=DataW.trod_int Tryz.underlying39 L;obtain rfl:=List.head_eq_of_cons_eq D;obtain⟨p,rfl⟩:∃m:Nat,r=(m:Int):=⟨r.toNat,by have:=(aW v).1;omega⟩;obtain⟨v3,y3,y,u3,N⟩:=d 3 _ rfl;obtain⟨u,e3,x3,w⟩:=DataW.trod_int Tryz.underlying39 N;obtain rfl:=List.head_eq_of_cons_eq e3;obtain⟨q,rfl⟩:∃m:Nat,u=(m:Int):=⟨u.toNat,by have:=(aW w).1;omega⟩;obtain⟨U,y4,A,S,O⟩:=d 4 _ rfl;obtain⟨j,g⟩:=bV (R:=cU) (k:=5) Tryz.underlying43 δ ψ (fun _=>rfl) (fun _ _ _ _ _=>sA) (Nat.le_trans S l) O;exact⟨⟨n0,I,p,q,j⟩,U,dB (aI c0 (aI c1 (aI c2 (aI y (aI A cY))))),g,bF V,(show p<lim by have:=(aW v).2;unfold lim;omega),(show q<lim by have:=(aW w).2;unfold lim;omega),bulks.short X (Nat.le_trans Q l)⟩
theorem qS{b o m:Nat}{cs:List Value}{x:DataW H×List MemPlace}(g:Rows.uptoBulk x.1≤1048576)(E:W.cells? base ⟨b,o,none⟩ 6=some cs)
 (h:DataW.trod enc Tryz.prog W base (fun _=>true) true m 52 cs=some x):∃s:Ck.aj,iM W.heap.size W b o s:=by
 obtain⟨n',d⟩:=bL Tryz.underlying52 δ δ E h;obtain⟨v0,y0,c0,u0,K⟩:=d 0 _ rfl;obtain⟨n0,B,x0,w0⟩:=DataW.trod_int Tryz.underlying3 K;obtain rfl:=List.head_eq_of_cons_eq B;obtain⟨v1,y1,c1,U,L⟩:=d 1 _ rfl;obtain⟨I,C,x1,w1⟩:=DataW.trod_string Tryz.underlying9 L;obtain rfl:=List.head_eq_of_cons_eq C;obtain⟨v2,y2,c2,u2,N⟩:=d 2 _ rfl;obtain⟨u,D,x2,v⟩:=DataW.trod_int Tryz.underlying39 N;obtain rfl:=List.head_eq_of_cons_eq D;obtain⟨r,rfl⟩:∃m:Nat,u=(m:Int):=⟨u.toNat,by have:=(aW v).1;omega⟩;obtain⟨v3,y3,w,u3,O⟩:=d 3 _ rfl;obtain⟨J,e3,x3⟩:=DataW.trod_bool Tryz.underlying4 O;obtain rfl:=List.head_eq_of_cons_eq e3;obtain⟨Y,y4,y,V,Q⟩:=d 4 _ rfl;obtain⟨p,j⟩:=bV (R:=cU) (k:=5) Tryz.underlying43 δ ψ (fun _=>rfl) (fun _ _ _ _ _=>sA) (Nat.le_trans V g) Q;obtain⟨Z,y5,A,X,S⟩:=d 5 _ rfl;obtain⟨q,l⟩:=bV (R:=eW) (k:=4) Tryz.underlying50 δ ψ (fun _=>rfl) (fun _ _ _ _ _=>vr) (Nat.le_trans X g) S;exact⟨⟨n0,I,r,J,p,q⟩,Y,Z,dB (aI c0 (aI c1 (aI c2 (aI w (aI y (aI A cY)))))),j,l,bF w0,(show r<lim by have:=(aW v).2;unfold lim;omega),bulks.short x1 (Nat.le_trans U g)⟩
theorem wU{b o m:Nat}{cs:List Value}{x:DataW H×List MemPlace}(y:Rows.uptoBulk x.1≤1048576)(A:W.cells? base ⟨b,o,none⟩ 4=some cs)
 (h:DataW.trod enc Tryz.prog W base (fun _=>true) true m 92 cs=some x):∃s:Ck.cW,i7 W.heap.size W b o s:=by
 obtain⟨N,d⟩:=bL Tryz.underlying92 δ δ A h;obtain⟨v0,Z,c0,u0,C⟩:=d 0 _ rfl;obtain⟨n0,u,V,L⟩:=DataW.trod_int Tryz.underlying3 C;obtain rfl:=List.head_eq_of_cons_eq u;obtain⟨S,y1,c1,O,D⟩:=d 1 _ rfl;obtain⟨p,v,X,q⟩:=DataW.trod_int Tryz.underlying39 D;obtain rfl:=List.head_eq_of_cons_eq v;obtain⟨l,rfl⟩:∃m:Nat,p=(m:Int):=⟨p.toNat,by have:=(aW q).1;omega⟩;obtain⟨U,y2,c2,Q,E⟩:=d 2 _ rfl;obtain⟨B,w,Y⟩:=DataW.trod_bool Tryz.underlying4 E;obtain rfl:=List.head_eq_of_cons_eq w;obtain⟨K,y3,r,J,I⟩:=d 3 _ rfl;obtain⟨j,g⟩:=bV (R:=ec) (k:=4) Tryz.underlying90 δ ψ (fun _=>rfl) (fun _ _ _ _ _=>xr) (Nat.le_trans J y) I;exact⟨⟨n0,l,B,j⟩,K,dB (aI c0 (aI c1 (aI c2 (aI r cY)))),g,bF L,(show l<lim by have:=(aW q).2;unfold lim;omega)⟩
theorem wG{b o m:Nat}{cs:List Value}{x:DataW H×List MemPlace}(l:Rows.uptoBulk x.1≤1048576)(A:W.cells? base ⟨b,o,none⟩ 4=some cs)
 (h:DataW.trod enc Tryz.prog W base (fun _=>true) true m 62 cs=some x):∃s:Ck.eX,ou W.heap.size W b o s:=by
 obtain⟨Q,d⟩:=bL Tryz.underlying62 δ δ A h;obtain⟨v0,y0,c0,u0,C⟩:=d 0 _ rfl;obtain⟨n0,v,Y,N⟩:=DataW.trod_int Tryz.underlying3 C;obtain rfl:=List.head_eq_of_cons_eq v;obtain⟨U,y1,c1,J,D⟩:=d 1 _ rfl;obtain⟨B,w,O,X⟩:=DataW.trod_string Tryz.underlying9 D;obtain rfl:=List.head_eq_of_cons_eq w;obtain⟨V,y2,c2,S,E⟩:=d 2 _ rfl;obtain⟨q,y,Z,r⟩:=DataW.trod_int Tryz.underlying39 E;obtain rfl:=List.head_eq_of_cons_eq y;obtain⟨p,rfl⟩:∃m:Nat,q=(m:Int):=⟨q.toNat,by have:=(aW r).1;omega⟩;obtain⟨L,y3,u,K,I⟩:=d 3 _ rfl;obtain⟨j,g⟩:=bV (R:=i7 W.heap.size) (k:=4) Tryz.underlying60 δ ψ (fun _=>rfl) (fun _ _ _ _ _=>wU) (Nat.le_trans K l) I;exact⟨⟨n0,B,p,j⟩,L,dB (aI c0 (aI c1 (aI c2 (aI u cY)))),g,bF N,(show p<lim by have:=(aW r).2;unfold lim;omega),bulks.short O (Nat.le_trans J l)⟩
theorem C2{α:Type}{p q r u v w x y A B d g h j:α}:∀{l:List α},l.length=14→l[0]?=some p→l[1]?=some q→l[2]?=some r→l[3]?=some u→l[4]?=some v→l[5]?=some w→l[6]?=some x→l[7]?=some y→l[8]?=some A→l[9]?=some B→l[10]?=some d→l[11]?=some g→l[12]?=some h→l[13]?=some j →
 l=[p,q,r,u,v,w,x,y,A,B,d,g,h,j]
 | [_,_,_,_,_,_,_,_,_,_,_,_,_,_],_,h0,h1,h2,h3,h4,h5,h6,h7,h8,h9,h10,h11,h12,h13=>by
  simp at h0 h1 h2 h3 h4 h5 h6 h7 h8 h9 h10 h11 h12 h13;subst h0 h1 h2 h3 h4 h5 h6 h7 h8 h9 h10 h11 h12 h13;rfl
theorem rd{r:Reach}{b0:Nat}{v:Value}{d:DataW H}{ps:List MemPlace}(y:Value.okWide Tryz.prog W r b0 34 v)(p:DataW.Trod enc Tryz.prog W base (fun _=>true) true 34 v d ps)(h:Rows.uptoBulk d≤1048576):
 ∃(V:aR) (P:Ck.aC),v=.agg (V.cells P).toArray∧ao W.heap.size W V P:=by
 obtain⟨cs,rfl,L⟩:=okWide_struct Tryz.underlying34 y;obtain⟨j,p⟩:=p;have l:cs.toList.length=14:=by
  have e:Tryz.prog.cellsOf 34=14:=δ
  simp[L,e]
 have p:DataW.trod enc Tryz.prog W base (fun _=>true) true j 34 cs.toList=some (d,ps):=p;obtain⟨n',g⟩:=pz (k:=14) Tryz.underlying34 δ δ l p;obtain⟨v0,y0,c0,u0,t0⟩:=g 0 _ rfl;obtain⟨n0,e0,x0,w0⟩:=DataW.trod_int Tryz.underlying3 t0;obtain rfl:=List.head_eq_of_cons_eq e0;obtain⟨v1,y1,c1,u1,t1⟩:=g 1 _ rfl;obtain⟨n1,e1,x1,w1⟩:=DataW.trod_string Tryz.underlying9 t1;obtain rfl:=List.head_eq_of_cons_eq e1;obtain⟨v2,y2,c2,u2,t2⟩:=g 2 _ rfl;obtain⟨a9,N⟩:=bV (R:=iO) (k:=3) Tryz.underlying23 δ ψ (fun _=>rfl) (fun _ _ _ _ _=>yD) (Nat.le_trans u2 h) t2;obtain⟨v3,y3,c3,u3,t3⟩:=g 3 _ rfl;obtain⟨ba,O⟩:=bV (R:=js W.heap.size) (k:=5) Tryz.underlying24 δ ψ (fun _=>rfl) (fun _ _ _ _ _=>sT) (Nat.le_trans u3 h) t3;obtain⟨v4,y4,c4,u4,t4⟩:=g 4 _ rfl;obtain⟨bb,Q⟩:=bV (R:=dH) (k:=10) Tryz.underlying25 δ ψ (fun _=>rfl) (fun _ _ _ _ _=>rZ) (Nat.le_trans u4 h) t4;obtain⟨v5,y5,c5,u5,t5⟩:=g 5 _ rfl;obtain⟨bc,S⟩:=bV (R:=iM W.heap.size) (k:=6) Tryz.underlying26 δ ψ (fun _=>rfl) (fun _ _ _ _ _=>qS) (Nat.le_trans u5 h) t5;obtain⟨v6,y6,c6,u6,t6⟩:=g 6 _ rfl;obtain⟨bd,U⟩:=bV (R:=cj) (k:=8) Tryz.underlying27 δ ψ (fun _=>rfl) (fun _ _ _ _ _=>qx) (Nat.le_trans u6 h) t6;obtain⟨v7,y7,c7,u7,t7⟩:=g 7 _ rfl;obtain⟨be,X⟩:=bV (R:=iR) (k:=6) Tryz.underlying28 δ ψ (fun _=>rfl) (fun _ _ _ _ _=>yv) (Nat.le_trans u7 h) t7;obtain⟨v8,y8,c8,u8,t8⟩:=g 8 _ rfl;obtain⟨bf,Y⟩:=bV (R:=dj) (k:=6) Tryz.underlying29 δ ψ (fun _=>rfl) (fun _ _ _ _ _=>tJ) (Nat.le_trans u8 h) t8;obtain⟨v9,y9,c9,u9,t9⟩:=g 9 _ rfl;obtain⟨bl,Z⟩:=bV (R:=ou W.heap.size) (k:=4) Tryz.underlying30 δ ψ (fun _=>rfl) (fun _ _ _ _ _=>wG) (Nat.le_trans u9 h) t9;obtain⟨a5,bm,E,a1,ac⟩:=g 10 _ rfl;obtain⟨A,q⟩:=bV (R:=cN) (k:=2) Tryz.underlying31 δ ψ (fun _=>rfl) (fun _ _ _ _ _=>lc) (Nat.le_trans a1 h) ac;obtain⟨a6,bo,I,a2,ad⟩:=g 11 _ rfl;obtain⟨B,u⟩:=bV (R:=cN) (k:=2) Tryz.underlying31 δ ψ (fun _=>rfl) (fun _ _ _ _ _=>lc) (Nat.le_trans a2 h) ad;obtain⟨a7,bp,J,a3,af⟩:=g 12 _ rfl;obtain⟨C,w⟩:=bV (R:=cN) (k:=2) Tryz.underlying31 δ ψ (fun _=>rfl) (fun _ _ _ _ _=>lc) (Nat.le_trans a3 h) af;obtain⟨a8,bt,K,a4,a0⟩:=g 13 _ rfl;obtain⟨D,x⟩:=bV (R:=iT) (k:=3) Tryz.underlying32 δ ψ (fun _=>rfl) (fun _ _ _ _ _=>zR) (Nat.le_trans a4 h) a0;refine⟨⟨v2,v3,v4,v5,v6,v7,v8,v9,a5,a6,a7,a8⟩,⟨n0,n1,a9,ba,bb,bc,bd,be,bf,bl,A,B,C,D⟩,?_,⟨N,O,Q,S,U,X,Y,Z,q,u,w,x,bF w0,bulks.short x1 (Nat.le_trans u1 h)⟩⟩;have e:=C2 l c0 c1 c2 c3 c4 c5 c6 c7 c8 c9 E I J K;exact congrArg Value.agg (Array.ext' e)
end
