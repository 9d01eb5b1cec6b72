import Derived.Test.YtpblcjipmoblnaaGreatDoorOpenG
import Derived.Test.YtpblcjipmoblnaaGreatDoorRows
import Derived.Test.YtpblcjipmoblnaaGreatDoorProg
set_option maxRecDepth 100000
set_option maxHeartbeats 4000000
set_option linter.unusedVariables false
set_option linter.unusedSimpArgs false
set_option linter.unnecessarySimpa false
namespace Go.Proofs.YtpblcjipmoblnaaGreatDoor
open Go.ChangeShapes Go.WideShapes Go.ChangeAt Go.RowKit Go.Deep
namespace bulks
theorem part_le{H:Type}{d:DataW H}{l:List (DataW H)}(h:d∈l):Rows.uptoBulk d≤Rows.uptoBulkAll l:=by
 induction l with
 | nil=>cases h
 | cons x r ih =>
  simp only[Rows.uptoBulkAll]
  rcases List.mem_cons.1 h with e|e
  ·subst e;omega
  ·have:=ih e;omega
theorem yW{H:Type}(d:DataW H):1≤Rows.uptoBulk d:=by
 cases d with
 | lit l=>cases l<;>simp[Rows.uptoBulk]
 | nil=>simp[Rows.uptoBulk]
 | ptr d=>simp[Rows.uptoBulk]
 | slice elems spare=>simp[Rows.uptoBulk]
 | agg parts=>simp[Rows.uptoBulk]
 | iface t d=>simp[Rows.uptoBulk]
 | map entries=>simp[Rows.uptoBulk]
 | held h=>simp[Rows.uptoBulk]
theorem length_le{H:Type}(l:List (DataW H)):l.length≤Rows.uptoBulkAll l:=by
 induction l with
 | nil=>simp[Rows.uptoBulkAll]
 | cons x r ih=>have:=yW x;simp only[Rows.uptoBulkAll,List.length_cons];omega
theorem slice_elems{H:Type}(a spare:List (DataW H)):Rows.uptoBulkAll a+1≤Rows.uptoBulk (.slice a spare):=by
 simp only[Rows.uptoBulk];omega
theorem agg_parts{H:Type}(parts:List (DataW H)):Rows.uptoBulkAll parts≤Rows.uptoBulk (.agg parts):=by
 simp only[Rows.uptoBulk];omega
theorem short{H:Type}{s:ByteArray}{p:List MemPlace}{y:DataW H×List MemPlace}(h:y=(.lit (.string s.data.toList),p))(a:Rows.uptoBulk y.1≤1048576):ae s:=by
 subst h;simp only[Rows.uptoBulk]at a;have e:s.data.toList.length=s.size:=Array.length_toList;unfold ae;omega
end bulks
def jQ(w:World)(b o i:Nat)(vs:List Value):Prop:=∀j v,vs[j]?=some v→w.cell? ⟨b,o+(i+j),none⟩=some v
theorem cR{w:World}{b o i:Nat}:jQ w b o i []:=fun j v h=>by simp at h
theorem aI{w:World}{b o i:Nat}{v:Value}{vs:List Value}(h:w.cell? ⟨b,o+i,none⟩=some v)(t:jQ w b o (i+1) vs):jQ w b o i (v::vs):=fun j u a=>by
 cases j with
 | zero=>simp at a;subst a;exact h
 | succ j=>have:=t j u (by simpa using a);rw[show i+1+j=i+(j+1) by omega]at this;exact this
theorem ck{w:World}{b o:Nat}{vs:List Value}(h:jQ w b o 0 vs):aN w b o vs:=fun j v a=>by have:=h j v a;rw[Nat.zero_add]at this;exact this
section
variable {H:Type} {enc:TypeId×Value→H} {P:Program} {w:World} {base:Nat} {spare:Nat→Bool} {held:Bool}
theorem oG{e:TypeId}{b:Array Field}{n k:Nat}{cs:List Value}{x:DataW H×List MemPlace}(A:P.underlying e=some (.struct b))
 (d:oneCellFields P b=true)(hk:k=b.size)(u:cs.length=k)(h:DataW.trod enc P w base spare held n e cs=some x):
 ∃p,∀(j:Nat) (f:Field),b[j]?=some f→∃(v:Value) (y:DataW H×List MemPlace),cs[j]?=some v∧Rows.uptoBulk y.1≤Rows.uptoBulk x.1∧DataW.trod enc P w base spare held p f.type [v]=some y:=by
 subst hk;obtain⟨r,p,D,G,q,I,B⟩:=DataW.trod_struct A h;refine⟨p,fun j f i=>?_⟩;obtain⟨E,hk⟩:=hone_of d j f i;have C:j<b.size:=(Array.getElem?_eq_some_iff.1 i).1;have hv:cs[j]?=some (cs[j]'(by omega)):=List.getElem?_eq_getElem (by omega);have g:=B j f i;rw[E,hk]at g;have a:(cs.drop j).take 1=[cs[j]'(by omega)]:=by
  rw[List.drop_eq_getElem_cons (by omega)];rfl
 rw[a]at g;have l:r[j]?=some (r[j]'(by omega)):=List.getElem?_eq_getElem (by omega);refine⟨_,_,hv,?_,g.trans l⟩;rw[G];exact Nat.le_trans (bulks.part_le (List.mem_map.2 ⟨_,List.getElem_mem _,rfl⟩)) (bulks.agg_parts _)
theorem bQ{e:TypeId}{d:Array Field}{n k b o:Nat}{cs:List Value}{x:DataW H×List MemPlace}(C:P.underlying e=some (.struct d))
 (g:oneCellFields P d=true)(hk:k=d.size)(B:w.cells? base ⟨b,o,none⟩ k=some cs)(h:DataW.trod enc P w base spare held n e cs=some x):
 ∃p,∀(j:Nat) (f:Field),d[j]?=some f→∃(v:Value) (y:DataW H×List MemPlace),w.cell? ⟨b,o+j,none⟩=some v∧Rows.uptoBulk y.1≤Rows.uptoBulk x.1∧DataW.trod enc P w base spare held p f.type [v]=some y:=by
 obtain⟨_,l,i⟩:=World.cells?_some B;obtain⟨p,D⟩:=oG C g hk l h;refine⟨p,fun j f q=>?_⟩;obtain⟨v,y,r,u,A⟩:=D j f q;have E:j<d.size:=(Array.getElem?_eq_some_iff.1 q).1;have a:=i j (by omega);rw[mn]at a;exact⟨v,y,a.trans r,u,A⟩
theorem bO{α:Type}{R:World→Nat→Nat→α→Prop}{t e:TypeId}{k n:Nat}{v:Value}{y:DataW H×List MemPlace}(Z:P.underlying t=some (.slice e))(L:P.cellsOf e=k)(C:0<k)(E:∀b,spare b=true)
 (A:∀(b o m:Nat) (cs:List Value) (z:DataW H×List MemPlace),Rows.uptoBulk z.1≤1048576→w.cells? base ⟨b,o,none⟩ k=some cs→DataW.trod enc P w base spare held m e cs=some z→∃s:α,R w b o s)
 (M:Rows.uptoBulk y.1≤1048576)(h:DataW.trod enc P w base spare held n t [v]=some y):∃J:List α,aT w.heap.size k R w v J:=by
 rcases open_slice Z h with⟨g,hx⟩|⟨a,len,cap,m,n1,D,Pl,g,W,X,hm,u,hx,S⟩
 ·simp at g
  subst g;exact⟨[],none,0,rfl,Nat.le_refl _,by simp,fun h=>by simp at h⟩
 ·simp at g
  subst g;rw[E]at u;simp only[if_true]at u;have hB:Rows.uptoBulkAll ((List.range len).map D)+1≤1048576:=Nat.le_trans (bulks.slice_elems _ _) (by rw[hx]at M;exact M);have T:len≤1048576:=by have:=bulks.length_le ((List.range len).map D);simp at this;omega
  rcases Nat.eq_zero_or_pos len with K|K
  ·subst K
   exact⟨[],_,cap,rfl,X,by simp,fun h=>by simp at h⟩
  ·obtain⟨V,r,_⟩:=S 0 (by omega)
   rw[L]at r;obtain⟨_,O,q⟩:=World.cells?_some r;have j:=q 0 C;rw[List.getElem?_eq_getElem (by omega)]at j;simp only[Nat.zero_mul]at j;rw[Go.Deep.add_add]at j;obtain⟨b,off,rfl,x,p⟩:=tJ j;obtain⟨J,I,Y⟩:=xW (Q:=fun i (s:α)=>R w b (off+i*k) s) len (fun i B=>by
    obtain⟨U,N,G⟩:=S i (by omega);rw[L,p]at N;refine A _ _ _ _ _ ?_ N G;have:=bulks.part_le (d:=D i) (l:=(List.range len).map D) (List.mem_map.2 ⟨i,List.mem_range.2 B,rfl⟩);show Rows.uptoBulk (D i)≤_;omega)
   exact⟨J,some ⟨b,off,none⟩,cap,by rw[I],by omega,by unfold top;omega,fun _=>⟨b,off,rfl,x,Y⟩⟩
end
section
variable {H:Type} {enc:TypeId×Value→H} {W:World} {base:Nat}
theorem vP{b o m:Nat}{cs:List Value}{x:DataW H×List MemPlace}(A:Rows.uptoBulk x.1≤1048576)(r:W.cells? base ⟨b,o,none⟩ 3=some cs)
 (h:DataW.trod enc Tryz.prog W base (fun _=>true) true m 41 cs=some x):∃s:Ck.Ram,fP W b o s:=by
 obtain⟨B,a⟩:=bQ Tryz.underlying41 (by kernel_rfl) (by kernel_rfl) r h;obtain⟨v0,M,c0,C,u⟩:=a 0 _ rfl;obtain⟨n0,n,J,y⟩:=DataW.trod_int Tryz.underlying3 u;obtain rfl:=List.head_eq_of_cons_eq n;obtain⟨G,N,c1,D,v⟩:=a 1 _ rfl;obtain⟨g,p,K,j⟩:=DataW.trod_int Tryz.underlying39 v;obtain rfl:=List.head_eq_of_cons_eq p;obtain⟨d,rfl⟩:∃m:Nat,g=(m:Int):=⟨g.toNat,by have:=(aa j).1;omega⟩;obtain⟨I,O,c2,E,w⟩:=a 2 _ rfl;obtain⟨i,q,L,l⟩:=DataW.trod_int Tryz.underlying39 w;obtain rfl:=List.head_eq_of_cons_eq q;obtain⟨e,rfl⟩:∃m:Nat,i=(m:Int):=⟨i.toNat,by have:=(aa l).1;omega⟩;exact⟨⟨n0,d,e⟩,ck (aI c0 (aI c1 (aI c2 cR))),bL y,(show d<lim by have:=(aa j).2;unfold lim;omega),(show e<lim by have:=(aa l).2;unfold lim;omega)⟩
theorem qO{b o m:Nat}{cs:List Value}{x:DataW H×List MemPlace}(q:Rows.uptoBulk x.1≤1048576)(r:W.cells? base ⟨b,o,none⟩ 5=some cs)
 (h:DataW.trod enc Tryz.prog W base (fun _=>true) true m 71 cs=some x):∃s:Ck.Map,cD W b o s:=by
 obtain⟨J,a⟩:=bQ Tryz.underlying71 (by kernel_rfl) (by kernel_rfl) r h;obtain⟨v0,Z,c0,K,y⟩:=a 0 _ rfl;obtain⟨n0,l,U,G⟩:=DataW.trod_int Tryz.underlying3 y;obtain rfl:=List.head_eq_of_cons_eq l;obtain⟨O,y1,c1,E,A⟩:=a 1 _ rfl;obtain⟨u,n,I,T⟩:=DataW.trod_string Tryz.underlying9 A;obtain rfl:=List.head_eq_of_cons_eq n;obtain⟨Q,y2,c2,L,B⟩:=a 2 _ rfl;obtain⟨e,p,V,g⟩:=DataW.trod_int Tryz.underlying39 B;obtain rfl:=List.head_eq_of_cons_eq p;obtain⟨d,rfl⟩:∃m:Nat,e=(m:Int):=⟨e.toNat,by have:=(aa g).1;omega⟩;obtain⟨R,y3,i,M,C⟩:=a 3 _ rfl;obtain⟨v,e3,X⟩:=DataW.trod_bool Tryz.underlying4 C;obtain rfl:=List.head_eq_of_cons_eq e3;obtain⟨S,y4,j,N,D⟩:=a 4 _ rfl;obtain⟨w,e4,Y⟩:=DataW.trod_bool Tryz.underlying4 D;obtain rfl:=List.head_eq_of_cons_eq e4;exact⟨⟨n0,u,d,v,w⟩,ck (aI c0 (aI c1 (aI c2 (aI i (aI j cR))))),bL G,(show d<lim by have:=(aa g).2;unfold lim;omega),bulks.short I (Nat.le_trans E q)⟩
theorem po{b o m:Nat}{cs:List Value}{x:DataW H×List MemPlace}(d:Rows.uptoBulk x.1≤1048576)(N:W.cells? base ⟨b,o,none⟩ 10=some cs)
 (h:DataW.trod enc Tryz.prog W base (fun _=>true) true m 48 cs=some x):∃s:Ck.Region,cO W b o s:=by
 obtain⟨n',a⟩:=bQ Tryz.underlying48 (by kernel_rfl) (by kernel_rfl) N h;obtain⟨v0,y0,c0,u0,V⟩:=a 0 _ rfl;obtain⟨n0,D,x0,w0⟩:=DataW.trod_int Tryz.underlying3 V;obtain rfl:=List.head_eq_of_cons_eq D;obtain⟨v1,y1,c1,u1,X⟩:=a 1 _ rfl;obtain⟨O,E,x1,w1⟩:=DataW.trod_string Tryz.underlying9 X;obtain rfl:=List.head_eq_of_cons_eq E;obtain⟨v2,y2,c2,u2,Y⟩:=a 2 _ rfl;obtain⟨j,G,x2,p⟩:=DataW.trod_int Tryz.underlying39 Y;obtain rfl:=List.head_eq_of_cons_eq G;obtain⟨e,rfl⟩:∃m:Nat,j=(m:Int):=⟨j.toNat,by have:=(aa p).1;omega⟩;obtain⟨v3,y3,u,u3,Z⟩:=a 3 _ rfl;obtain⟨Q,e3,x3⟩:=DataW.trod_bool Tryz.underlying4 Z;obtain rfl:=List.head_eq_of_cons_eq e3;obtain⟨v4,y4,v,u4,t4⟩:=a 4 _ rfl;obtain⟨l,e4,x4,q⟩:=DataW.trod_int Tryz.underlying39 t4;obtain rfl:=List.head_eq_of_cons_eq e4;obtain⟨g,rfl⟩:∃m:Nat,l=(m:Int):=⟨l.toNat,by have:=(aa q).1;omega⟩;obtain⟨v5,y5,w,u5,t5⟩:=a 5 _ rfl;obtain⟨R,I,x5⟩:=DataW.trod_bool Tryz.underlying4 t5;obtain rfl:=List.head_eq_of_cons_eq I;obtain⟨v6,y6,y,u6,t6⟩:=a 6 _ rfl;obtain⟨S,J,x6⟩:=DataW.trod_bool Tryz.underlying4 t6;obtain rfl:=List.head_eq_of_cons_eq J;obtain⟨v7,y7,A,u7,t7⟩:=a 7 _ rfl;obtain⟨n,K,x7,r⟩:=DataW.trod_int Tryz.underlying39 t7;obtain rfl:=List.head_eq_of_cons_eq K;obtain⟨i,rfl⟩:∃m:Nat,n=(m:Int):=⟨n.toNat,by have:=(aa r).1;omega⟩;obtain⟨v8,y8,B,u8,t8⟩:=a 8 _ rfl;obtain⟨T,L,x8⟩:=DataW.trod_bool Tryz.underlying4 t8;obtain rfl:=List.head_eq_of_cons_eq L;obtain⟨v9,y9,C,u9,t9⟩:=a 9 _ rfl;obtain⟨U,M,x9,w9⟩:=DataW.trod_string Tryz.underlying9 t9;obtain rfl:=List.head_eq_of_cons_eq M;exact⟨⟨n0,O,e,Q,g,R,S,i,T,U⟩,ck (aI c0 (aI c1 (aI c2 (aI u (aI v (aI w (aI y (aI A (aI B (aI C cR)))))))))),bL w0,(show e<lim by have:=(aa p).2;unfold lim;omega),(show g<lim by have:=(aa q).2;unfold lim;omega),(show i<lim by have:=(aa r).2;unfold lim;omega),bulks.short x1 (Nat.le_trans u1 d),bulks.short x9 (Nat.le_trans u9 d)⟩
theorem tN{b o m:Nat}{cs:List Value}{x:DataW H×List MemPlace}(p:Rows.uptoBulk x.1≤1048576)(q:W.cells? base ⟨b,o,none⟩ 4=some cs)
 (h:DataW.trod enc Tryz.prog W base (fun _=>true) true m 85 cs=some x):∃s:Ck.gi,eX W b o s:=by
 obtain⟨G,a⟩:=bQ Tryz.underlying85 (by kernel_rfl) (by kernel_rfl) q h;obtain⟨v0,T,c0,I,v⟩:=a 0 _ rfl;obtain⟨n0,j,Q,C⟩:=DataW.trod_int Tryz.underlying3 v;obtain rfl:=List.head_eq_of_cons_eq j;obtain⟨L,U,c1,J,w⟩:=a 1 _ rfl;obtain⟨r,l,R,D⟩:=DataW.trod_int Tryz.underlying3 w;obtain rfl:=List.head_eq_of_cons_eq l;obtain⟨M,V,c2,B,y⟩:=a 2 _ rfl;obtain⟨u,n,E,O⟩:=DataW.trod_string Tryz.underlying9 y;obtain rfl:=List.head_eq_of_cons_eq n;obtain⟨N,X,i,K,A⟩:=a 3 _ rfl;obtain⟨e,e3,S,g⟩:=DataW.trod_int Tryz.underlying39 A;obtain rfl:=List.head_eq_of_cons_eq e3;obtain⟨d,rfl⟩:∃m:Nat,e=(m:Int):=⟨e.toNat,by have:=(aa g).1;omega⟩;exact⟨⟨n0,r,u,d⟩,ck (aI c0 (aI c1 (aI c2 (aI i cR)))),bL C,bL D,(show d<lim by have:=(aa g).2;unfold lim;omega),bulks.short E (Nat.le_trans B p)⟩
theorem pH{b o m:Nat}{cs:List Value}{x:DataW H×List MemPlace}(d:Rows.uptoBulk x.1≤1048576)(B:W.cells? base ⟨b,o,none⟩ 8=some cs)
 (h:DataW.trod enc Tryz.prog W base (fun _=>true) true m 55 cs=some x):∃s:Ck.b7,cB W b o s:=by
 obtain⟨n',a⟩:=bQ Tryz.underlying55 (by kernel_rfl) (by kernel_rfl) B h;obtain⟨v0,y0,c0,u0,K⟩:=a 0 _ rfl;obtain⟨n0,r,x0,Y⟩:=DataW.trod_int Tryz.underlying3 K;obtain rfl:=List.head_eq_of_cons_eq r;obtain⟨v1,y1,c1,T,L⟩:=a 1 _ rfl;obtain⟨C,u,x1,w1⟩:=DataW.trod_string Tryz.underlying9 L;obtain rfl:=List.head_eq_of_cons_eq u;obtain⟨v2,y2,c2,U,M⟩:=a 2 _ rfl;obtain⟨D,v,x2,w2⟩:=DataW.trod_string Tryz.underlying9 M;obtain rfl:=List.head_eq_of_cons_eq v;obtain⟨v3,y3,j,V,N⟩:=a 3 _ rfl;obtain⟨E,e3,x3,w3⟩:=DataW.trod_string Tryz.underlying9 N;obtain rfl:=List.head_eq_of_cons_eq e3;obtain⟨v4,y4,l,u4,O⟩:=a 4 _ rfl;obtain⟨G,e4,x4⟩:=DataW.trod_bool Tryz.underlying4 O;obtain rfl:=List.head_eq_of_cons_eq e4;obtain⟨v5,y5,n,X,Q⟩:=a 5 _ rfl;obtain⟨I,w,x5,w5⟩:=DataW.trod_string Tryz.underlying9 Q;obtain rfl:=List.head_eq_of_cons_eq w;obtain⟨v6,y6,p,u6,R⟩:=a 6 _ rfl;obtain⟨J,y,x6,Z⟩:=DataW.trod_int Tryz.underlying3 R;obtain rfl:=List.head_eq_of_cons_eq y;obtain⟨v7,y7,q,u7,S⟩:=a 7 _ rfl;obtain⟨g,A,x7,i⟩:=DataW.trod_int Tryz.underlying39 S;obtain rfl:=List.head_eq_of_cons_eq A;obtain⟨e,rfl⟩:∃m:Nat,g=(m:Int):=⟨g.toNat,by have:=(aa i).1;omega⟩;exact⟨⟨n0,C,D,E,G,I,J,e⟩,ck (aI c0 (aI c1 (aI c2 (aI j (aI l (aI n (aI p (aI q cR)))))))),bL Y,bL Z,(show e<lim by have:=(aa i).2;unfold lim;omega),bulks.short x1 (Nat.le_trans T d),bulks.short x2 (Nat.le_trans U d),bulks.short x3 (Nat.le_trans V d),bulks.short x5 (Nat.le_trans X d)⟩
theorem wD{b o m:Nat}{cs:List Value}{x:DataW H×List MemPlace}(d:Rows.uptoBulk x.1≤1048576)(v:W.cells? base ⟨b,o,none⟩ 6=some cs)
 (h:DataW.trod enc Tryz.prog W base (fun _=>true) true m 58 cs=some x):∃s:Ck.Irq,fR W b o s:=by
 obtain⟨S,a⟩:=bQ Tryz.underlying58 (by kernel_rfl) (by kernel_rfl) v h;obtain⟨v0,y0,c0,T,C⟩:=a 0 _ rfl;obtain⟨n0,p,x0,N⟩:=DataW.trod_int Tryz.underlying3 C;obtain rfl:=List.head_eq_of_cons_eq p;obtain⟨X,y1,c1,K,D⟩:=a 1 _ rfl;obtain⟨w,q,O,w1⟩:=DataW.trod_string Tryz.underlying9 D;obtain rfl:=List.head_eq_of_cons_eq q;obtain⟨Y,y2,c2,L,E⟩:=a 2 _ rfl;obtain⟨y,r,Q,w2⟩:=DataW.trod_string Tryz.underlying9 E;obtain rfl:=List.head_eq_of_cons_eq r;obtain⟨Z,y3,j,M,G⟩:=a 3 _ rfl;obtain⟨A,e3,R,w3⟩:=DataW.trod_string Tryz.underlying9 G;obtain rfl:=List.head_eq_of_cons_eq e3;obtain⟨v4,y4,l,U,I⟩:=a 4 _ rfl;obtain⟨g,e4,x4,i⟩:=DataW.trod_int Tryz.underlying39 I;obtain rfl:=List.head_eq_of_cons_eq e4;obtain⟨e,rfl⟩:∃m:Nat,g=(m:Int):=⟨g.toNat,by have:=(aa i).1;omega⟩;obtain⟨v5,y5,n,V,J⟩:=a 5 _ rfl;obtain⟨B,u,x5⟩:=DataW.trod_bool Tryz.underlying4 J;obtain rfl:=List.head_eq_of_cons_eq u;exact⟨⟨n0,w,y,A,e,B⟩,ck (aI c0 (aI c1 (aI c2 (aI j (aI l (aI n cR)))))),bL N,(show e<lim by have:=(aa i).2;unfold lim;omega),bulks.short O (Nat.le_trans K d),bulks.short Q (Nat.le_trans L d),bulks.short R (Nat.le_trans M d)⟩
theorem rM{b o m:Nat}{cs:List Value}{x:DataW H×List MemPlace}(d:Rows.uptoBulk x.1≤1048576)(v:W.cells? base ⟨b,o,none⟩ 6=some cs)
 (h:DataW.trod enc Tryz.prog W base (fun _=>true) true m 65 cs=some x):∃s:Ck.dt,co W b o s:=by
 obtain⟨T,a⟩:=bQ Tryz.underlying65 (by kernel_rfl) (by kernel_rfl) v h;obtain⟨v0,y0,c0,U,C⟩:=a 0 _ rfl;obtain⟨n0,p,x0,N⟩:=DataW.trod_int Tryz.underlying3 C;obtain rfl:=List.head_eq_of_cons_eq p;obtain⟨Y,y1,c1,K,D⟩:=a 1 _ rfl;obtain⟨w,q,Q,w1⟩:=DataW.trod_string Tryz.underlying9 D;obtain rfl:=List.head_eq_of_cons_eq q;obtain⟨Z,y2,c2,L,E⟩:=a 2 _ rfl;obtain⟨y,r,R,w2⟩:=DataW.trod_string Tryz.underlying9 E;obtain rfl:=List.head_eq_of_cons_eq r;obtain⟨v3,y3,j,M,G⟩:=a 3 _ rfl;obtain⟨A,e3,S,w3⟩:=DataW.trod_string Tryz.underlying9 G;obtain rfl:=List.head_eq_of_cons_eq e3;obtain⟨v4,y4,l,V,I⟩:=a 4 _ rfl;obtain⟨B,e4,x4,O⟩:=DataW.trod_int Tryz.underlying3 I;obtain rfl:=List.head_eq_of_cons_eq e4;obtain⟨v5,y5,n,X,J⟩:=a 5 _ rfl;obtain⟨g,u,x5,i⟩:=DataW.trod_int Tryz.underlying39 J;obtain rfl:=List.head_eq_of_cons_eq u;obtain⟨e,rfl⟩:∃m:Nat,g=(m:Int):=⟨g.toNat,by have:=(aa i).1;omega⟩;exact⟨⟨n0,w,y,A,B,e⟩,ck (aI c0 (aI c1 (aI c2 (aI j (aI l (aI n cR)))))),bL N,bL O,(show e<lim by have:=(aa i).2;unfold lim;omega),bulks.short Q (Nat.le_trans K d),bulks.short R (Nat.le_trans L d),bulks.short S (Nat.le_trans M d)⟩
theorem vG{b o m:Nat}{cs:List Value}{x:DataW H×List MemPlace}(u:Rows.uptoBulk x.1≤1048576)(v:W.cells? base ⟨b,o,none⟩ 4=some cs)
 (h:DataW.trod enc Tryz.prog W base (fun _=>true) true m 108 cs=some x):∃s:Run,ef W b o s:=by
 obtain⟨I,a⟩:=bQ Tryz.underlying108 (by kernel_rfl) (by kernel_rfl) v h;obtain⟨v0,U,c0,J,y⟩:=a 0 _ rfl;obtain⟨n0,p,R,E⟩:=DataW.trod_int Tryz.underlying3 y;obtain rfl:=List.head_eq_of_cons_eq p;obtain⟨M,V,c1,D,A⟩:=a 1 _ rfl;obtain⟨w,q,G,Q⟩:=DataW.trod_string Tryz.underlying9 A;obtain rfl:=List.head_eq_of_cons_eq q;obtain⟨N,X,c2,K,B⟩:=a 2 _ rfl;obtain⟨g,r,S,j⟩:=DataW.trod_int Tryz.underlying39 B;obtain rfl:=List.head_eq_of_cons_eq r;obtain⟨d,rfl⟩:∃m:Nat,g=(m:Int):=⟨g.toNat,by have:=(aa j).1;omega⟩;obtain⟨O,Y,n,L,C⟩:=a 3 _ rfl;obtain⟨i,e3,T,l⟩:=DataW.trod_int Tryz.underlying39 C;obtain rfl:=List.head_eq_of_cons_eq e3;obtain⟨e,rfl⟩:∃m:Nat,i=(m:Int):=⟨i.toNat,by have:=(aa l).1;omega⟩;exact⟨⟨n0,w,d,e⟩,ck (aI c0 (aI c1 (aI c2 (aI n cR)))),bL E,(show d<lim by have:=(aa j).2;unfold lim;omega),(show e<lim by have:=(aa l).2;unfold lim;omega),bulks.short G (Nat.le_trans D u)⟩
theorem kU{b o m:Nat}{cs:List Value}{x:DataW H×List MemPlace}(g:Rows.uptoBulk x.1≤1048576)(i:W.cells? base ⟨b,o,none⟩ 2=some cs)
 (h:DataW.trod enc Tryz.prog W base (fun _=>true) true m 78 cs=some x):∃s:Ck.gk,cJ W b o s:=by
 obtain⟨u,a⟩:=bQ Tryz.underlying78 (by kernel_rfl) (by kernel_rfl) i h;obtain⟨v0,B,c0,v,l⟩:=a 0 _ rfl;obtain⟨n0,d,A,q⟩:=DataW.trod_int Tryz.underlying3 l;obtain rfl:=List.head_eq_of_cons_eq d;obtain⟨w,C,c1,p,n⟩:=a 1 _ rfl;obtain⟨j,e,r,y⟩:=DataW.trod_string Tryz.underlying9 n;obtain rfl:=List.head_eq_of_cons_eq e;exact⟨⟨n0,j⟩,ck (aI c0 (aI c1 cR)),bL q,bulks.short r (Nat.le_trans p g)⟩
theorem wO{b o m:Nat}{cs:List Value}{x:DataW H×List MemPlace}(d:Rows.uptoBulk x.1≤1048576)(j:W.cells? base ⟨b,o,none⟩ 3=some cs)
 (h:DataW.trod enc Tryz.prog W base (fun _=>true) true m 68 cs=some x):∃s:Ck.Ban,fS W b o s:=by
 obtain⟨B,a⟩:=bQ Tryz.underlying68 (by kernel_rfl) (by kernel_rfl) j h;obtain⟨v0,K,c0,C,p⟩:=a 0 _ rfl;obtain⟨n0,e,J,w⟩:=DataW.trod_int Tryz.underlying3 p;obtain rfl:=List.head_eq_of_cons_eq e;obtain⟨D,L,c1,u,q⟩:=a 1 _ rfl;obtain⟨l,g,y,G⟩:=DataW.trod_string Tryz.underlying9 q;obtain rfl:=List.head_eq_of_cons_eq g;obtain⟨E,M,c2,v,r⟩:=a 2 _ rfl;obtain⟨n,i,A,I⟩:=DataW.trod_string Tryz.underlying9 r;obtain rfl:=List.head_eq_of_cons_eq i;exact⟨⟨n0,l,n⟩,ck (aI c0 (aI c1 (aI c2 cR))),bL w,bulks.short y (Nat.le_trans u d),bulks.short A (Nat.le_trans v d)⟩
theorem qg{b o m:Nat}{cs:List Value}{x:DataW H×List MemPlace}(g:Rows.uptoBulk x.1≤1048576)(A:W.cells? base ⟨b,o,none⟩ 5=some cs)
 (h:DataW.trod enc Tryz.prog W base (fun _=>true) true m 45 cs=some x):∃s:Ck.bE,jI W.heap.size W b o s:=by
 obtain⟨O,a⟩:=bQ Tryz.underlying45 (by kernel_rfl) (by kernel_rfl) A h;obtain⟨v0,y0,c0,Q,C⟩:=a 0 _ rfl;obtain⟨n0,v,Z,M⟩:=DataW.trod_int Tryz.underlying3 C;obtain rfl:=List.head_eq_of_cons_eq v;obtain⟨U,y1,c1,J,D⟩:=a 1 _ rfl;obtain⟨B,w,N,Y⟩:=DataW.trod_string Tryz.underlying9 D;obtain rfl:=List.head_eq_of_cons_eq w;obtain⟨V,y2,c2,S,E⟩:=a 2 _ rfl;obtain⟨l,y,x2,p⟩:=DataW.trod_int Tryz.underlying39 E;obtain rfl:=List.head_eq_of_cons_eq y;obtain⟨i,rfl⟩:∃m:Nat,l=(m:Int):=⟨l.toNat,by have:=(aa p).1;omega⟩;obtain⟨X,y3,r,T,G⟩:=a 3 _ rfl;obtain⟨n,e3,x3,q⟩:=DataW.trod_int Tryz.underlying39 G;obtain rfl:=List.head_eq_of_cons_eq e3;obtain⟨j,rfl⟩:∃m:Nat,n=(m:Int):=⟨n.toNat,by have:=(aa q).1;omega⟩;obtain⟨L,y4,u,K,I⟩:=a 4 _ rfl;obtain⟨e,d⟩:=bO (R:=cD) (k:=5) Tryz.underlying43 (by kernel_rfl) (by decide) (fun _=>rfl) (fun _ _ _ _ _=>qO) (Nat.le_trans K g) I;exact⟨⟨n0,B,i,j,e⟩,L,ck (aI c0 (aI c1 (aI c2 (aI r (aI u cR))))),d,bL M,(show i<lim by have:=(aa p).2;unfold lim;omega),(show j<lim by have:=(aa q).2;unfold lim;omega),bulks.short N (Nat.le_trans J g)⟩
theorem oa{b o m:Nat}{cs:List Value}{x:DataW H×List MemPlace}(d:Rows.uptoBulk x.1≤1048576)(A:W.cells? base ⟨b,o,none⟩ 6=some cs)
 (h:DataW.trod enc Tryz.prog W base (fun _=>true) true m 52 cs=some x):∃s:Ck.aS,gc W.heap.size W b o s:=by
 obtain⟨U,a⟩:=bQ Tryz.underlying52 (by kernel_rfl) (by kernel_rfl) A h;obtain⟨v0,y0,c0,V,D⟩:=a 0 _ rfl;obtain⟨n0,v,x0,S⟩:=DataW.trod_int Tryz.underlying3 D;obtain rfl:=List.head_eq_of_cons_eq v;obtain⟨Z,y1,c1,L,E⟩:=a 1 _ rfl;obtain⟨B,w,T,w1⟩:=DataW.trod_string Tryz.underlying9 E;obtain rfl:=List.head_eq_of_cons_eq w;obtain⟨v2,y2,c2,X,G⟩:=a 2 _ rfl;obtain⟨n,y,x2,p⟩:=DataW.trod_int Tryz.underlying39 G;obtain rfl:=List.head_eq_of_cons_eq y;obtain⟨l,rfl⟩:∃m:Nat,n=(m:Int):=⟨n.toNat,by have:=(aa p).1;omega⟩;obtain⟨v3,y3,q,Y,I⟩:=a 3 _ rfl;obtain⟨C,e3,x3⟩:=DataW.trod_bool Tryz.underlying4 I;obtain rfl:=List.head_eq_of_cons_eq e3;obtain⟨O,y4,r,M,J⟩:=a 4 _ rfl;obtain⟨i,e⟩:=bO (R:=cD) (k:=5) Tryz.underlying43 (by kernel_rfl) (by decide) (fun _=>rfl) (fun _ _ _ _ _=>qO) (Nat.le_trans M d) J;obtain⟨Q,y5,u,N,K⟩:=a 5 _ rfl;obtain⟨j,g⟩:=bO (R:=eX) (k:=4) Tryz.underlying50 (by kernel_rfl) (by decide) (fun _=>rfl) (fun _ _ _ _ _=>tN) (Nat.le_trans N d) K;exact⟨⟨n0,B,l,C,i,j⟩,O,Q,ck (aI c0 (aI c1 (aI c2 (aI q (aI r (aI u cR)))))),e,g,bL S,(show l<lim by have:=(aa p).2;unfold lim;omega),bulks.short T (Nat.le_trans L d)⟩
theorem tw{b o m:Nat}{cs:List Value}{x:DataW H×List MemPlace}(r:Rows.uptoBulk x.1≤1048576)(u:W.cells? base ⟨b,o,none⟩ 4=some cs)
 (h:DataW.trod enc Tryz.prog W base (fun _=>true) true m 92 cs=some x):∃s:Ck.cK,iS W.heap.size W b o s:=by
 obtain⟨G,a⟩:=bQ Tryz.underlying92 (by kernel_rfl) (by kernel_rfl) u h;obtain⟨v0,S,c0,I,w⟩:=a 0 _ rfl;obtain⟨n0,n,N,E⟩:=DataW.trod_int Tryz.underlying3 w;obtain rfl:=List.head_eq_of_cons_eq n;obtain⟨L,T,c1,J,y⟩:=a 1 _ rfl;obtain⟨i,p,O,j⟩:=DataW.trod_int Tryz.underlying39 y;obtain rfl:=List.head_eq_of_cons_eq p;obtain⟨g,rfl⟩:∃m:Nat,i=(m:Int):=⟨i.toNat,by have:=(aa j).1;omega⟩;obtain⟨M,U,c2,K,A⟩:=a 2 _ rfl;obtain⟨v,q,Q⟩:=DataW.trod_bool Tryz.underlying4 A;obtain rfl:=List.head_eq_of_cons_eq q;obtain⟨D,V,l,C,B⟩:=a 3 _ rfl;obtain⟨e,d⟩:=bO (R:=ef) (k:=4) Tryz.underlying90 (by kernel_rfl) (by decide) (fun _=>rfl) (fun _ _ _ _ _=>vG) (Nat.le_trans C r) B;exact⟨⟨n0,g,v,e⟩,D,ck (aI c0 (aI c1 (aI c2 (aI l cR)))),d,bL E,(show g<lim by have:=(aa j).2;unfold lim;omega)⟩
theorem tY{b o m:Nat}{cs:List Value}{x:DataW H×List MemPlace}(g:Rows.uptoBulk x.1≤1048576)(u:W.cells? base ⟨b,o,none⟩ 4=some cs)
 (h:DataW.trod enc Tryz.prog W base (fun _=>true) true m 62 cs=some x):∃s:Ck.eZ,mq W.heap.size W b o s:=by
 obtain⟨J,a⟩:=bQ Tryz.underlying62 (by kernel_rfl) (by kernel_rfl) u h;obtain⟨v0,T,c0,K,w⟩:=a 0 _ rfl;obtain⟨n0,p,Q,G⟩:=DataW.trod_int Tryz.underlying3 w;obtain rfl:=List.head_eq_of_cons_eq p;obtain⟨M,U,c1,C,y⟩:=a 1 _ rfl;obtain⟨v,q,I,O⟩:=DataW.trod_string Tryz.underlying9 y;obtain rfl:=List.head_eq_of_cons_eq q;obtain⟨N,V,c2,L,A⟩:=a 2 _ rfl;obtain⟨j,r,S,l⟩:=DataW.trod_int Tryz.underlying39 A;obtain rfl:=List.head_eq_of_cons_eq r;obtain⟨i,rfl⟩:∃m:Nat,j=(m:Int):=⟨j.toNat,by have:=(aa l).1;omega⟩;obtain⟨E,X,n,D,B⟩:=a 3 _ rfl;obtain⟨e,d⟩:=bO (R:=iS W.heap.size) (k:=4) Tryz.underlying60 (by kernel_rfl) (by decide) (fun _=>rfl) (fun _ _ _ _ _=>tw) (Nat.le_trans D g) B;exact⟨⟨n0,v,i,e⟩,E,ck (aI c0 (aI c1 (aI c2 (aI n cR)))),d,bL G,(show i<lim by have:=(aa l).2;unfold lim;omega),bulks.short I (Nat.le_trans C g)⟩
theorem yg{α:Type}{g h i j n p q r u v a b d e:α}:∀{l:List α},l.length=14→l[0]?=some g→l[1]?=some h→l[2]?=some i→l[3]?=some j→l[4]?=some n→l[5]?=some p→l[6]?=some q→l[7]?=some r→l[8]?=some u→l[9]?=some v→l[10]?=some a→l[11]?=some b→l[12]?=some d→l[13]?=some e →
 l=[g,h,i,j,n,p,q,r,u,v,a,b,d,e]
 | [_,_,_,_,_,_,_,_,_,_,_,_,_,_],_,h0,h1,h2,h3,h4,h5,h6,h7,h8,h9,h10,h11,h12,h13=>by
  simp at h0 h1 h2 h3 h4 h5 h6 h7 h8 h9 h10 h11 h12 h13;subst h0 h1 h2 h3 h4 h5 h6 h7 h8 h9 h10 h11 h12 h13;rfl
theorem pt{r:Reach}{b0:Nat}{v:Value}{d:DataW H}{ps:List MemPlace}(q:Value.okWide Tryz.prog W r b0 34 v)(i:DataW.Trod enc Tryz.prog W base (fun _=>true) true 34 v d ps)(b:Rows.uptoBulk d≤1048576):
 ∃(V:aV) (P:Ck.aC),v=.agg (V.cells P).toArray∧cX W.heap.size W V P:=by
 obtain⟨cs,rfl,E⟩:=okWide_struct Tryz.underlying34 q;obtain⟨g,i⟩:=i;have h:cs.toList.length=14:=by
  have e:Tryz.prog.cellsOf 34=14:=by kernel_rfl
  simp[E,e]
 have i:DataW.trod enc Tryz.prog W base (fun _=>true) true g 34 cs.toList=some (d,ps):=i;obtain⟨n',a⟩:=oG (k:=14) Tryz.underlying34 (by kernel_rfl) (by kernel_rfl) h i;obtain⟨v0,y0,c0,u0,t0⟩:=a 0 _ rfl;obtain⟨n0,e0,x0,w0⟩:=DataW.trod_int Tryz.underlying3 t0;obtain rfl:=List.head_eq_of_cons_eq e0;obtain⟨v1,y1,c1,u1,t1⟩:=a 1 _ rfl;obtain⟨n1,e1,x1,w1⟩:=DataW.trod_string Tryz.underlying9 t1;obtain rfl:=List.head_eq_of_cons_eq e1;obtain⟨v2,y2,c2,u2,t2⟩:=a 2 _ rfl;obtain⟨a0,G⟩:=bO (R:=fP) (k:=3) Tryz.underlying23 (by kernel_rfl) (by decide) (fun _=>rfl) (fun _ _ _ _ _=>vP) (Nat.le_trans u2 b) t2;obtain⟨v3,y3,c3,u3,t3⟩:=a 3 _ rfl;obtain⟨a1,I⟩:=bO (R:=jI W.heap.size) (k:=5) Tryz.underlying24 (by kernel_rfl) (by decide) (fun _=>rfl) (fun _ _ _ _ _=>qg) (Nat.le_trans u3 b) t3;obtain⟨v4,y4,c4,u4,t4⟩:=a 4 _ rfl;obtain⟨a2,J⟩:=bO (R:=cO) (k:=10) Tryz.underlying25 (by kernel_rfl) (by decide) (fun _=>rfl) (fun _ _ _ _ _=>po) (Nat.le_trans u4 b) t4;obtain⟨v5,y5,c5,u5,t5⟩:=a 5 _ rfl;obtain⟨a3,K⟩:=bO (R:=gc W.heap.size) (k:=6) Tryz.underlying26 (by kernel_rfl) (by decide) (fun _=>rfl) (fun _ _ _ _ _=>oa) (Nat.le_trans u5 b) t5;obtain⟨v6,y6,c6,u6,t6⟩:=a 6 _ rfl;obtain⟨a4,L⟩:=bO (R:=cB) (k:=8) Tryz.underlying27 (by kernel_rfl) (by decide) (fun _=>rfl) (fun _ _ _ _ _=>pH) (Nat.le_trans u6 b) t6;obtain⟨v7,y7,c7,u7,t7⟩:=a 7 _ rfl;obtain⟨a5,M⟩:=bO (R:=fR) (k:=6) Tryz.underlying28 (by kernel_rfl) (by decide) (fun _=>rfl) (fun _ _ _ _ _=>wD) (Nat.le_trans u7 b) t7;obtain⟨v8,y8,c8,u8,t8⟩:=a 8 _ rfl;obtain⟨a6,N⟩:=bO (R:=co) (k:=6) Tryz.underlying29 (by kernel_rfl) (by decide) (fun _=>rfl) (fun _ _ _ _ _=>rM) (Nat.le_trans u8 b) t8;obtain⟨v9,y9,c9,u9,t9⟩:=a 9 _ rfl;obtain⟨a7,O⟩:=bO (R:=mq W.heap.size) (k:=4) Tryz.underlying30 (by kernel_rfl) (by decide) (fun _=>rfl) (fun _ _ _ _ _=>tY) (Nat.le_trans u9 b) t9;obtain⟨ad,a8,A,X,Q⟩:=a 10 _ rfl;obtain⟨u,j⟩:=bO (R:=cJ) (k:=2) Tryz.underlying31 (by kernel_rfl) (by decide) (fun _=>rfl) (fun _ _ _ _ _=>kU) (Nat.le_trans X b) Q;obtain⟨af,a9,B,Y,S⟩:=a 11 _ rfl;obtain⟨w,l⟩:=bO (R:=cJ) (k:=2) Tryz.underlying31 (by kernel_rfl) (by decide) (fun _=>rfl) (fun _ _ _ _ _=>kU) (Nat.le_trans Y b) S;obtain⟨ah,bb,C,Z,T⟩:=a 12 _ rfl;obtain⟨x,n⟩:=bO (R:=cJ) (k:=2) Tryz.underlying31 (by kernel_rfl) (by decide) (fun _=>rfl) (fun _ _ _ _ _=>kU) (Nat.le_trans Z b) T;obtain⟨an,bc,D,ac,U⟩:=a 13 _ rfl;obtain⟨y,p⟩:=bO (R:=fS) (k:=3) Tryz.underlying32 (by kernel_rfl) (by decide) (fun _=>rfl) (fun _ _ _ _ _=>wO) (Nat.le_trans ac b) U;refine⟨⟨v2,v3,v4,v5,v6,v7,v8,v9,ad,af,ah,an⟩,⟨n0,n1,a0,a1,a2,a3,a4,a5,a6,a7,u,w,x,y⟩,?_,⟨G,I,J,K,L,M,N,O,j,l,n,p,bL w0,bulks.short x1 (Nat.le_trans u1 b)⟩⟩;have e:=yg h c0 c1 c2 c3 c4 c5 c6 c7 c8 c9 A B C D;exact congrArg Value.agg (Array.ext' e)
end
end Go.Proofs.YtpblcjipmoblnaaGreatDoor
