import Derived.Test.YthobcefghkeddaaGreatDoorRsp
import Derived.Test.YthobcefghkeddaaGreatDoorClone
set_option maxRecDepth 100000
set_option linter.all false
set_option maxHeartbeats 4000000
namespace Go.Proofs.YthobcefghkeddaaGreatDoor
namespace Rs
open Go.RowKit Ck
variable {w:World} {B pb N kk:Nat} {y:Int→Int} {L:List Wr} {a:Act} {es:List Nat}
theorem hPt:Tryz.prog.follows .mixedOrders=true:=δ
theorem K3{T:Nat→Prop}{d g:World}(h:aD T w d)(k:aD T d g):aD T w g:=h.trans k fun _ _ e=>e
def gG(l:List (List Wr)):List Nat→List Wr
 | []=>[]
 | i::e=>l.getD i []++gG l e
def kC(B pb:Nat)(v:aY)(P:aF)(y:Int→Int)(l:List (List Wr))(L:List Wr):Gh:=⟨fun k=>k=pb,fun e w=>aG B w pb v P y (gG l e++L),fun _ _ _ hk h=>h.new hk⟩
theorem Df{α:Type}{k:Nat}{R:World→Nat→Nat→α→Prop}{v:Value}{xs:List α}(h:aL B k R w v xs){i:Nat}{x:α}(d:xs[i]?=some x):∃g o,vA v=some ⟨g,o,none⟩∧g<B∧R w g (o+i*k) x:=by
 obtain⟨A,c,rfl,_,_,q⟩:=h;obtain⟨g,o,e,l,j⟩:=q (by have:=(List.getElem?_eq_some_iff.1 d).1;omega);exact⟨g,o,e,l,j i x d⟩
theorem AQ{v:aY}{P:aF}(h:aG B w pb v P y L){S:Sta}{κ:Kap}{r:Nat}(u:κ r=(pb,0))(g:av.map (Cl.den S κ)=v.cells P):gI S κ [(r,av)] w:=by
 intro r' l d j c q;rw[cL]at d;split at d
 ·rename_i e
  subst e;obtain rfl:=Option.some.inj d;rw[u];simp only[Nat.zero_add];refine h.cell ?_;rw[←g,List.getElem?_map,q];rfl
 ·cases d
theorem Bu{v:aY}{P:aF}(h:ax B w v P){S:Sta}(d:Agr (lo 24) (cU v P) S)(κ:Kap):av.map (Cl.den S κ)=v.cells P:=by
 rw[ui d δ,lk h]
def mL:List Cl:=(List.range 8).map fun j =>.v (24+j)
abbrev Mu:=Option Bool×IE×Int×Int
def muE(l:List Mu):List (FuncId×List SV×SV):=l.map fun x=>match x.1 with
 | some b=>(71,[.one (.p 0 0),.one (.b (.c b)),.one (.i .i64 x.2.1),.one (.i .i64 (.c x.2.2.1)),.one (.i .i64 (.c x.2.2.2))],.tu [])
 | none=>(73,[.one (.p 0 0),.one (.i .i64 x.2.1),.one (.i .i64 (.c x.2.2.1)),.one (.i .i64 (.c x.2.2.2))],.tu [])
def muS(S:Sta)(l:List Mu):List (List Wr):=l.map fun x=>match x.1 with
 | some b=>say b (x.2.1.den S) x.2.2.1
 | none=>[(x.2.1.den S,x.2.2.1)]
theorem EZ{B pb:Nat}{v:aY}{P:aF}{y:Int→Int}{L:List Wr}{S:Sta}{κ:Kap}{l:List Mu}{I:List (List Wr)}(K:κ 0=(pb,0))(Q:∀x∈l,y x.2.2.1=x.2.2.2)(O:muS S l=I)(w:World):
 ∀i x,(muE l)[i]?=some x→∀e w',aD (fun k=>k=pb) w w'→aG B w' pb v P y (gG I e++L)→Calls Tryz.prog x.1 (x.2.1.map (SV.den S κ)).toArray w' fun e' d=>e'=.returned (x.2.2.den S κ)∧aD (fun k=>k=pb) w' d∧aG B d pb v P y (gG I (i::e)++L):=by
 subst O;intro i x g e w' _ J;rw[muE,List.getElem?_map]at g
 cases hq:l[i]? with
 | none=>rw[hq]at g;cases g
 | some q =>
  rw[hq]at g;obtain rfl:=Option.some.inj g;have H:=Q q (List.mem_of_getElem? hq);obtain⟨R,h,j,N⟩:=q;simp only at H
  cases R with
  | some b =>
   have:=aT b (h.den S) j N J H;simp only[List.map_cons,List.map_nil,SV.den,Cl.den_p,Cl.den_b,Cl.den_i,BE.den,IE.den,K];refine this.mono fun e' d ⟨u,C,D⟩=>⟨u,D,?_⟩
   have E:(muS S l).getD i []=say b (h.den S) j:=by simp[muS,hq]
   rw[gG,E,List.append_assoc];exact C
  | none =>
   have:=cI (h.den S) j N J H;simp only[List.map_cons,List.map_nil,SV.den,Cl.den_p,Cl.den_i,IE.den,K];refine this.mono fun e' d ⟨u,C,D⟩=>⟨u,D,?_⟩
   have E:(muS S l).getD i []=[(h.den S,j)]:=by simp[muS,hq]
   rw[gG,E,List.append_assoc];exact C
def haE(l:List (Nat×SS×BE)):List (FuncId×List SV×SV):=l.map fun x=>(72,[.one (.v (24+x.1)),.one (.s x.2.1)],.one (.b x.2.2))
theorem Em{z0:Nat}{P:aF}{D:Nat→DataW Value}{r:Nat→ByteArray→Value}(H:cz (z0+10) w (bG z0) (dC P) D r)(K:pb<z0){S:Sta}{κ:Kap}(I:∀j,j<8→S.o (24+j)=.map (some (z0+j+1))){l:List (Nat×SS×BE)}
 (J:∀x∈l,x.1<8∧x.2.2.den S=has ((dC P).getD x.1 []) (x.2.1.den S)∧aW (x.2.1.den S)):
 ∀x∈haE l,∀w',aD (fun k=>k=pb) w w'→Calls Tryz.prog x.1 (x.2.1.map (SV.den S κ)).toArray w' fun e g=>e=.returned (x.2.2.den S κ)∧Kz w' g:=by
 intro x N w' hk;obtain⟨q,L,rfl⟩:=List.mem_map.1 N;obtain⟨d,v,u⟩:=J q L;have h:=H.keep hk (fun k e _=>by subst e;exact⟨χ,by simp[bG];omega⟩);obtain⟨j,s,b⟩:=q;have y:(bG z0)[j]?=some (z0+j+1):=by
  simp only at d
  match j,d with
  | 0,_|1,_|2,_|3,_|4,_|5,_|6,_|7,_=>rfl
 have B:(dC P)[j]?=some ((dC P).getD j []):=by
  simp only at d
  match j,d with
  | 0,_|1,_|2,_|3,_|4,_|5,_|6,_|7,_=>rfl
 have:=nT h j _ _ y B (s.den S) (by simp only at u;unfold aW at u;unfold maxLen;omega);simp only[List.map_cons,List.map_nil,SV.den,Cl.den_s,Cl.den_b];rw[show Cl.den S κ (.v (24+j))=.map (some (z0+j+1)) from I j d,v];exact this.mono fun e g ⟨C,E⟩=>⟨C,E▸aD.refl _ _⟩
theorem AR{v:aY}{P:aF}{S:Sta}{κ:Kap}{EL:List (Nat×Nat×IE×Nat×Nat)}{H:Gh}{F:Fr}{M:Mm}
 (n:Now S κ N Tryz.prog { EL:=EL } H ⟨F,M,kk,es⟩ a w)(C:H.T=fun k=>k=pb)(E:aG B w pb v P y L)(J:κ 0=(pb,0))(D:Agr (lo 24) (cU v P) S)(u:List (List Wr))(FA:List (BE×Bool))(l:∀x∈FA,x.1.den S=x.2)(SL:List (Nat×Nat×Nat×IE×Nat))(q:∀x∈SL,(S.n x.2.2.2.2:Int)=x.2.2.2.1.den S∧S.n x.2.2.2.2≤S.n x.2.2.1)
 (ET:List (FuncId×List SV×SV))(j:∀i x,ET[i]?=some x→∀e w',aD (fun k=>k=pb) w w'→aG B w' pb v P y (gG u e++L)→Calls Tryz.prog x.1 (x.2.1.map (SV.den S κ)).toArray w' fun e' d=>e'=.returned (x.2.2.den S κ)∧aD (fun k=>k=pb) w' d∧aG B d pb v P y (gG u (i::e)++L))
 (CT:List (FuncId×List SV×SV))(h:∀x∈CT,∀L' w',aD (fun k=>k=pb) w w'→aG B w' pb v P y L'→Calls Tryz.prog x.1 (x.2.1.map (SV.den S κ)).toArray w' fun e d=>e=.returned (x.2.2.den S κ)∧Kz w' d):
 Now S κ N Tryz.prog { EL:=EL,FA:=FA,CT:=CT,ET:=ET,GM:=[(0,av)],SL:=SL } (kC B pb v P y u L) ⟨F,M,kk,[]⟩ a w:=by
 obtain⟨T,G,st⟩:=H;simp only at C;subst C;exact⟨n.has,n.mem,⟨l,n.ctx.el,fun x I e w' hk g=>h x I _ w' hk g,j,(fun e w' _ g=>AQ g J (Bu (aG.QT g) D κ)),q⟩,n.tb,E⟩
theorem lC{v:aY}{P:aF}{S:Sta}{κ:Kap}{EL:List (Nat×Nat×IE×Nat×Nat)}{H:Gh}{F:Fr}{M:Mm}
 (n:Now S κ N Tryz.prog { EL:=EL } H ⟨F,M,kk,es⟩ a w)(u:H.T=fun k=>k=pb)(D:aG B w pb v P y L)(I:κ 0=(pb,0))(C:Agr (lo 24) (cU v P) S)(g:List (List Wr))(FA:List (BE×Bool))(l:∀x∈FA,x.1.den S=x.2)(SL:List (Nat×Nat×Nat×IE×Nat))(q:∀x∈SL,(S.n x.2.2.2.2:Int)=x.2.2.2.1.den S∧S.n x.2.2.2.2≤S.n x.2.2.1)
 (ET:List (FuncId×List SV×SV))(j:∀i x,ET[i]?=some x→∀e w',aD (fun k=>k=pb) w w'→aG B w' pb v P y (gG g e++L)→Calls Tryz.prog x.1 (x.2.1.map (SV.den S κ)).toArray w' fun e' d=>e'=.returned (x.2.2.den S κ)∧aD (fun k=>k=pb) w' d∧aG B d pb v P y (gG g (i::e)++L))
 (CT:List (FuncId×List SV×SV))(h:∀x∈CT,∀w',aD (fun k=>k=pb) w w'→Calls Tryz.prog x.1 (x.2.1.map (SV.den S κ)).toArray w' fun e d=>e=.returned (x.2.2.den S κ)∧Kz w' d):
 Now S κ N Tryz.prog { EL:=EL,FA:=FA,CT:=CT,ET:=ET,GM:=[(0,av)],SL:=SL } (kC B pb v P y g L) ⟨F,M,kk,[]⟩ a w:=
 AR n u D I C g FA l SL q ET j CT fun x E _ w' hk _=>h x E w' hk
theorem qY{α:Type}{S:Sta}{κ:Kap}{C:Ctx}{H:Gh}{b b2 t:Nat}{F0:Fr}{M:Mm}{R1 R2 body:Code}{Q:Exit→Act→World→Prop}{U:Act}{D:World}{v:aY}{P:aF}
 (af:Now S κ N Tryz.prog C H ⟨F0,M,kk,es⟩ U D)(hT:H.T=fun k=>k=pb)(hL:aG B D pb v P y L){z:Nat}{R:World→Nat→Nat→α→Prop}{u:Value}{xs:List α}(Y:aL B z R D u xs)(al:kD B R)(f:List α→List Wr)(m q ja V:Nat)(FR:Fr)(ws:Nat→Bool)
 (hB:CP Tryz.prog N R1 R2 FR M kk q t m (.ln V) ws=true)(hn:S.n V=xs.length)(h0:Has (S.put m (Sta.cnt {} 0)) κ N (fx m q FR) U)(hu:vA u=S.a ja)(Φ:World→α→Sta→Prop)(cl:List Cl)(ad:f []=[])
 (hR:∀w g o x,R w g o x→∃d,Φ w x d∧∀k:Nat,aM w g o (cl.map (Cl.den (S.put m ((Sta.put {} 8 d).cnt k)) fun _=>(0,0))))(hs:(lI (lo (m+8)) (fx m q FR)&&(mC (lo (m+8)) M&&((lo m V&&lo m ja)&&(St.sc ⟨fx m q FR,M,kk,[]⟩&&cl.all (Cl.sc 0)))))=true)
 (hb:∀(k:Nat) x d κ' a w L1,xs[k]?=some x→Φ w x d→ce kk κ κ'→aG B w pb v P y L1→Now (S.put m ((Sta.put {} 8 d).cnt k)) κ' N Tryz.prog { EL:=[(ja,z,.x m,V,kk)] } ⟨fun k=>k=pb,fun _ w=>aG B w pb v P y L1,fun _ _ _ hk h=>h.new hk⟩ ⟨fx m q FR,(kk,cl)::M,kk+1,[]⟩ a w→aE ws U a→aD (fun k=>k=pb) D w →
  body.wp Tryz.prog (bq b b2 (fun E w'=>∃O L2,ce kk κ O∧Has (S.put m ((Sta.put {} 8 d).cnt k)) O N (fx m q FR) E∧aE ws a E∧aD (fun k=>k=pb) w w'∧aG B w' pb v P y (L2++L1)∧∀p,p∈f (xs.take (k+1))↔p∈L2∨p∈f (xs.take k)) Q) a w)
 (hq:∀a w,aG B w pb v P y (f xs++L)→Now (S.put m (Sta.cnt {} xs.length)) κ N Tryz.prog {} ⟨fun k=>k=pb,fun _ w=>aG B w pb v P y (f xs++L),fun _ _ _ hk h=>h.new hk⟩ ⟨fx m q FR,M,kk,[]⟩ a w→aE ws U a→aD (fun k=>k=pb) D w→Q .normal a w):
 (Code.block b (Code.loop (Code.seq R1 (Code.seq (Code.cond (.tmp t) .skip (.exit b)) (Code.seq (Code.block b2 body) R2))))).wp Tryz.prog Q U D:=by
 obtain⟨HT,HG,a1⟩:=H;simp only at hT;subst hT;have X:xs.length≤top:=by obtain⟨_,_,_,_,h,_⟩:=Y;exact h
 have aa:B≤D.heap.size:=by have:=hL.base;have:=hL.lt;omega
 refine pn af xs.length m q V FR ws (fun _:Unit=>{}) (fun k _ w=>aG B w pb v P y (f (xs.take k)++L)) (fun _ _ _ _ hk h=>h.new hk) () hPt hB hn (by unfold top at X;omega) (by simpa[ad]using hL) h0 ?_ ?_
 ·intro k _ a w hk J Z W
  obtain⟨x,hx⟩:=ge hk;have I:aG B w pb v P y (f (xs.take k)++L):=J.gh;obtain⟨g,o,h1,h2,h3⟩:=Df Y hx;have a2:=I.base;have X:=I.lt;have ac:aD (fun k=>k=pb) D w:=W;obtain⟨d,hd,h4⟩:=hR _ _ _ _ (al _ _ _ _ _ (ac.below (B:=B) aa (fun i hi e=>by subst e;omega)) h2 h3);obtain⟨κ',an,K⟩:=J.elem2 (ja:=ja) (j:=V) (x:=d) (cl:=cl) (hu▸h1) ⟨χ,by show ¬ g=pb;omega⟩ (by rw[hn];exact hk) (h4 k) rfl hs;refine wp_mono (hb k x d κ' a w _ hx hd an I ⟨K.has,K.mem,⟨K.ctx.fa,K.ctx.el,K.ctx.ct,ξ,(fun _ _ _ _ r l h=>by cases h),ξ⟩,K.tb,K.gh⟩ Z W) fun e E w' hh=>?_
  have fin:∀{E w'},(∃O L2,ce kk κ O∧Has (S.put m ((Sta.put {} 8 d).cnt k)) O N (fx m q FR) E∧aE ws a E∧aD (fun k=>k=pb) w w'∧aG B w' pb v P y (L2++(f (xs.take k)++L))∧∀p,p∈f (xs.take (k+1))↔p∈L2∨p∈f (xs.take k))→pL S κ N m kk (fx m q FR) ws (fun _:Unit=>{}) (fun k=>k=pb) (fun k _ w=>aG B w pb v P y (f (xs.take k)++L)) k U D E w':=by
   rintro E w' ⟨O,L2,q1,q2,q3,q4,q5,q6⟩;simp only[Bool.and_eq_true]at hs;refine⟨(),O,q5.congr fun p=>?_,q1,q2.on (rX S m {} d k).symm hs.1,Z.trans q3 (fun _ h=>h),K3 W q4⟩;simp only[List.mem_append,q6,or_assoc]
  cases e with
  | normal=>exact fin hh
  | exit id =>
   simp only[bq]at hh⊢;split
   ·rename_i e;rw[if_pos e]at hh;exact fin hh
   ·rename_i e;rw[if_neg e]at hh;exact hh
  | _=>exact hh
 ·intro _ a w J Z W
  have I:aG B w pb v P y (f (xs.take xs.length)++L):=J.gh;rw[List.take_length]at I;exact hq a w I ⟨J.has,J.mem,noC _ _ _ _ _,J.tb,I⟩ Z W
theorem yd{α β:Type}{f:α→List β}{xs:List α}{k:Nat}{x:α}(d:xs[k]?=some x)(p:β):p∈(xs.take (k+1)).flatMap f↔p∈f x∨p∈(xs.take k).flatMap f:=by
 rw[aP d];simp[or_comm]
def cS(ti j:Nat)(base:Fr):Fr:=(ti-1,.one (.i .i64 (.ln j)))::(ti-2,.one (.sl j j (12+j)))::base
noncomputable def EJ(N:Nat)(r R1 R2:Code)(F:Fr)(M:Mm)(kk ti t j:Nat)(base:Fr)(cl:List Cl):Bool:=
 gU (i6 Tryz.prog { GM:=[(0,av)] } N [r] ⟨F,M,kk,[]⟩) ⟨F,M,kk,[]⟩ .n (fun _=>true) ((ti,.one (.i .i64 (.c 0)))::cS ti j base) M kk [] &&
 (CP Tryz.prog N R1 R2 (cS ti j base) M kk ti t 32 (.ln j) (fun _=>true)&&(lI (lo 32) (cS ti j base)&&((gt (cS ti j base) ti).isNone&&(gz (fx 32 ti (cS ti j base)) base&&((lI (lo 32) base&&mC (lo 32) M) &&
 (lI (lo 40) (fx 32 ti (cS ti j base))&&(mC (lo 40) M&&((lo 32 j&&lo 32 j)&&(St.sc ⟨fx 32 ti (cS ti j base),M,kk,[]⟩&&cl.all (Cl.sc 0))))))))))
theorem lW{α:Type}{S:Sta}{κ:Kap}{b b2 t:Nat}{F:Fr}{M:Mm}{r R1 R2 body:Code}{l:List Code}{Q:Exit→Act→World→Prop}{v:aY}{P:aF}
 (n:Now S κ N Tryz.prog { GM:=[(0,av)] } (kC B pb v P y [] L) ⟨F,M,kk,[]⟩ a w)(hκ:κ 0=(pb,0))(Z:0<kk)(hS:Agr (lo 24) (cU v P) S){z:Nat}{R:World→Nat→Nat→α→Prop}{u:Value}{xs:List α}(ad:∀w,ax B w v P→aL B z R w u xs)(ac:kD B R)(f:List α→List Wr)(C j:Nat)(base:Fr)(cl:List Cl)
 (hB:EJ N r R1 R2 F M kk C t j base cl=true)(hn:S.n j=xs.length)(hu:vA u=S.a j)(aa:f []=[])(Φ:World→α→Sta→Prop)
 (hR:∀w g o x,R w g o x→∃d,Φ w x d∧∀k:Nat,aM w g o (cl.map (Cl.den (S.put 32 ((Sta.put {} 8 d).cnt k)) fun _=>(0,0))))
 (hb:∀(k:Nat) x d κ' E w' L1,xs[k]?=some x→Φ w' x d→κ' 0=(pb,0)→Agr (lo 24) (cU v P) (S.put 32 ((Sta.put {} 8 d).cnt k))→aD (fun k=>k=pb) w w'→aG B w' pb v P y L1→Now (S.put 32 ((Sta.put {} 8 d).cnt k)) κ' N Tryz.prog { EL:=[(j,z,.x 32,j,kk)] } ⟨fun k=>k=pb,fun _ w=>aG B w pb v P y L1,fun _ _ _ hk h=>h.new hk⟩ ⟨fx 32 C (cS C j base),(kk,cl)::M,kk+1,[]⟩ E w' →
  body.wp Tryz.prog (bq b b2 (fun I X=>∃D L2,ce kk κ' D∧Has (S.put 32 ((Sta.put {} 8 d).cnt k)) D N (fx 32 C (cS C j base)) I∧I.defers=E.defers∧I.tmps.size=E.tmps.size∧aD (fun k=>k=pb) w' X∧aG B X pb v P y (L2++L1)∧∀p,p∈f (xs.take (k+1))↔p∈L2∨p∈f (xs.take k)) (Exit.then (wpL Tryz.prog Q l) Q)) E w')
 (H:∀κ' E w',κ' 0=(pb,0)→Now S κ' N Tryz.prog { GM:=[(0,av)] } (kC B pb v P y [] (f xs++L)) ⟨base,M,kk,[]⟩ E w'→E.defers=a.defers→aD (fun k=>k=pb) w w'→wpL Tryz.prog Q l E w'):
 wpL Tryz.prog Q (r::Code.block b (Code.loop (Code.seq R1 (Code.seq (Code.cond (.tmp t) .skip (.exit b)) (Code.seq (Code.block b2 body) R2))))::l) a w:=by
 simp only[EJ,Bool.and_eq_true]at hB;obtain⟨g1,g2,g3,g4,g5,g6,g7⟩:=hB;refine bQ 1 (fun _=>true) _ M kk [] hPt g1 n fun κ1 a1 w1 W O=>bO (qY W rfl W.gh (ad w1 (aG.QT W.gh)) ac f 32 C j j (cS C j base) (fun _=>true) g2 hn ?_ hu Φ cl aa hR (by simp only[Bool.and_eq_true];exact g7) ?_ ?_)
 ·have h1:=(W.has.tail g4).on (aS S 32 (Sta.cnt {} 0)) g3
  refine⟨h1.size,fun q x H=>?_⟩;rw[fx,bk]at H;split at H
  ·rename_i e
   subst e;obtain rfl:=Option.some.inj H;rw[W.has.get _ _ (by rw[bk,if_pos rfl])];rfl
  ·exact h1.get q x H
 ·intro k x d κ' K Y L1 hx hd V hl n2 hA hK
  refine wp_mono (hb k x d κ' K Y L1 hx hd ((V 0 Z).trans ((O.upto 0 Z).trans hκ)) (hS.trans ((aS S 32 _).mono fun q H=>Nat.ble_eq_true_of_le (Nat.le_trans (Nat.le_of_ble_eq_true H) ψ))) (K3 O.keep hK) hl n2) fun e J U hh=>?_
  have fin:∀{J U},(∃D L2,ce kk κ' D∧Has (S.put 32 ((Sta.put {} 8 d).cnt k)) D N (fx 32 C (cS C j base)) J∧J.defers=K.defers∧J.tmps.size=K.tmps.size∧aD (fun k=>k=pb) Y U∧aG B U pb v P y (L2++L1)∧∀p,p∈f (xs.take (k+1))↔p∈L2∨p∈f (xs.take k)) →
   ∃D L2,ce kk κ1 D∧Has (S.put 32 ((Sta.put {} 8 d).cnt k)) D N (fx 32 C (cS C j base)) J∧aE (fun _=>true) K J∧aD (fun k=>k=pb) Y U∧aG B U pb v P y (L2++L1)∧∀p,p∈f (xs.take (k+1))↔p∈L2∨p∈f (xs.take k):=by
   rintro J U ⟨D,L2,q1,q2,q3,q4,q5,q6,q7⟩;exact⟨D,L2,fun r hr=>(q1 r hr).trans (V r hr),q2,⟨q4,q3,fun i hi=>by cases hi⟩,q5,q6,q7⟩
  cases e with
  | normal=>exact fin hh
  | exit id =>
   simp only[bq]at hh⊢;split
   ·rename_i e;rw[if_pos e]at hh;exact fin hh
   ·rename_i e;rw[if_neg e]at hh;exact hh
  | _=>exact hh
 ·intro K Y hl n2 hA hK
  have n3:=n2.down base (by simp only[Bool.and_eq_true];exact⟨g5,g6.1,g6.2⟩);exact H κ1 K Y ((O.upto 0 Z).trans hκ) (lC (EL:=[]) n3 rfl hl ((O.upto 0 Z).trans hκ) hS [] [] ξ [] ξ [] ξ [] ξ) (hA.defers.trans O.agree.defers) (K3 O.keep hK)
end Rs
namespace Rs
open Go.RowKit Ck
theorem dm{α:Type}{B k:Nat}{R:World→Nat→Nat→α→Prop}{w w':World}{v:Value}{xs:List α}(h:aL B k R w v xs)(u:kD B R)(y:B≤w.heap.size)(hk:Kz w w'){i:Nat}{x:α}(d:xs[i]?=some x):
 ∃g o,vA v=some ⟨g,o,none⟩∧g<w'.heap.size∧R w' g (o+i*k) x:=by
 obtain⟨A,c,rfl,_,_,q⟩:=h;obtain⟨g,o,e,l,j⟩:=q (by have:=(List.getElem?_eq_some_iff.1 d).1;omega);exact⟨g,o,e,by have:=hk.size;omega,u _ _ _ _ _ (hk.below (B:=B) χ (fun _ _ e=>e)) l (j i x d)⟩
theorem xS{B:Nat}{w:World}{x:aZ}{v u:Value}(g:aL B 5 dO w v x.QA)(h:aL B 4 kY w u x.QO)(S d:Sta)(k:Int):
 (pU 40).map (Cl.den (S.put 32 ((d.put 8 (Bh x v u)).cnt k)) fun _=>(0,0))=[.int .i64 x.pos,.string x.name,.int .u64 x.QN,.bool x.stopped,v,u]:=by
 show([.int .i64 x.pos,.string x.name,.int .u64 x.QN,.bool x.stopped,.slice (vA v) x.QA.length (vC v),.slice (vA u) x.QO.length (vC u)]:List Value)=_;rw[au g,au h]
variable {B:Nat} {w:World}
theorem yk{x:Ck.bB}{v:Value}(g:aL B 5 dO w v x.QA)(S d:Sta)(k:Int):
 (B8 40).map (Cl.den (S.put 32 ((d.put 8 (Dz x v)).cnt k)) fun _=>(0,0))=[.int .i64 x.pos,.string x.name,.int .u64 x.Q7,.int .u64 x.size,v]:=by
 show([.int .i64 x.pos,.string x.name,.int .u64 x.Q7,.int .u64 x.size,.slice (vA v) x.QA.length (vC v)]:List Value)=_;rw[au g]
theorem ax.kept{w':World}{v:aY}{P:aF}(h:ax B w v P)(d:B≤w.heap.size)(hk:Kz w w'):ax B w' v P:=h.below (hk.below (B:=B) χ fun _ _ e=>e)
theorem cX{v:aY}{P:aF}{S:Sta}(h:ax B w v P)(d:Agr (lo 24) (cU v P) S)(κ:Kap):SV.den S κ (.ag av)=.agg (v.cells P).toArray:=by
 rw[SV.on_ok d (v := .ag av) δ,SV.den,lk h]
end Rs
namespace Rs
open Go.RowKit Ck
theorem hO{S:Sta}:∀y∈([]:List (BE×Bool)),y.1.den S=y.2:=fun _ h=>by cases h
theorem fac{S:Sta}{x:BE×Bool}{l:List (BE×Bool)}(h:x.1.den S=x.2)(k:∀y∈l,y.1.den S=y.2):∀y∈x::l,y.1.den S=y.2:=by
 intro y d
 rcases List.mem_cons.1 d with rfl|d
 ·exact h
 ·exact k y d
variable {B pb N:Nat} {w:World} {y:Int→Int} {L:List Wr}
def yr:Nat→(List Bool→Bool)→Bool
 | 0,f=>f []
 | n+1,f=>yr n (fun l=>f (true::l))&&yr n fun l=>f (false::l)
theorem nY:∀{n:Nat} {f:List Bool→Bool} {l:List Bool},yr n f=true→l.length=n→f l=true
 | 0,f,l,h,hl=>by obtain rfl:=List.eq_nil_of_length_eq_zero hl;exact h
 | n+1,f,[],h,hl=>by simp at hl
 | n+1,f,b::l,h,hl=>by
  simp only[yr,Bool.and_eq_true]at h
  cases b with
  | true=>exact nY (f:=fun l=>f (true::l)) h.1 (by simpa using hl)
  | false=>exact nY (f:=fun l=>f (false::l)) h.2 (by simpa using hl)
def haZ(hs:List (Nat×SS))(h:List Bool):List (Nat×SS×BE):=List.zipWith (fun q b=>(q.1,q.2,.c b)) hs h
def rK(P:aF)(S:Sta)(hs:List (Nat×SS)):List Bool:=hs.map fun q=>has ((dC P).getD q.1 []) (q.2.den S)
structure z7 (B:Nat) (pb z0:Nat) (P:aF) (S:Sta) (w:World):Prop where
 Q7:∃D r,cz (z0+10) w (bG z0) (dC P) D r
 lt:pb<z0
 o:∀j,j<8→S.o (24+j)=.map (some (z0+j+1))
theorem z7.keep{z0:Nat}{P:aF}{S S':Sta}{w':World}(h:z7 B pb z0 P S w)(hk:aD (fun k=>k=pb) w w')(d:Agr (lo 32) S S'):z7 B pb z0 P S' w':=
 ⟨let⟨D,r,hF⟩:=h.Q7;⟨D,r,hF.keep hk fun k e _=>by subst e;exact⟨by have:=h.lt;omega,by have:=h.lt;simp[bG];omega⟩⟩,h.lt,fun j g=>by rw[d.o _ (Nat.ble_eq_true_of_le χ)];exact h.o j g⟩
theorem m0{α:Type}{p:α→Prop}:∀y∈([]:List α),p y:=fun _ h=>by cases h
theorem mc{α:Type}{p:α→Prop}{x:α}{l:List α}(h:p x)(k:∀y∈l,p y):∀y∈x::l,p y:=by
 intro y d
 rcases List.mem_cons.1 d with rfl|d
 ·exact h
 ·exact k y d
theorem ft{α:Type}{f:α→List Wr}{xs:List α}{k:Nat}{x:α}(d:xs[k]?=some x){T:List Wr}(e:∀p,p∈f x↔p∈T)(p:Wr):p∈(xs.take (k+1)).flatMap f↔p∈T∨p∈(xs.take k).flatMap f:=by
 rw[yd d,e]
theorem dg{z0 kk cnt k':Nat}{v:aY}{P:aF}{S:Sta}{κ:Kap}{E:List (Nat×Nat×IE×Nat×Nat)}{H:Gh}{F F':Fr}{M M':Mm}{a:Act}{es e':List Nat}{l:List Code}{Q:Exit→Act→World→Prop}
 (n:Now S κ N Tryz.prog { EL:=E } H ⟨F,M,kk,es⟩ a w)(Z:H.T=fun k=>k=pb)(hl:aG B w pb v P y L)(R:κ 0=(pb,0))(Y:Agr (lo 24) (cU v P) S)(ts:List BE)(d:List (Nat×SS))(I:d.isEmpty=true∨z7 B pb z0 P S w)(j:List Bool→List Bool→List Mu)(CX:List (FuncId×List SV×SV))
 (W:(yr ts.length fun t=>yr d.length fun h=>gU (i6 Tryz.prog { EL:=E,FA:=ts.zip t,CT:=haE (haZ d h)++CX,ET:=muE (j t h),GM:=[(0,av)] } N (l.take cnt) ⟨F,M,kk,[]⟩) ⟨F,M,kk,[]⟩ .n (fun _=>true) F' M' k' e')=true)
 (hh:∀q∈d,q.1<8∧aW (q.2.den S))(hy:∀x∈j (ts.map (BE.den S)) (rK P S d),y x.2.2.1=x.2.2.2)(J:∀x∈CX,∀w',aD (fun k=>k=pb) w w'→Calls Tryz.prog x.1 (x.2.1.map (SV.den S κ)).toArray w' fun e O=>e=.returned (x.2.2.den S κ)∧Kz w' O)
 (X:∀κ' C w',aG B w' pb v P y (gG (muS S (j (ts.map (BE.den S)) (rK P S d))) e'++L)→Now S κ' N Tryz.prog { EL:=E } ⟨fun k=>k=pb,fun _ w=>aG B w pb v P y (gG (muS S (j (ts.map (BE.den S)) (rK P S d))) e'++L),fun _ _ _ hk h=>h.new hk⟩ ⟨F',M',k',[]⟩ C w'→kZ (fun k=>k=pb) κ κ' kk k' (fun _=>true) a C w w'→wpL Tryz.prog Q (l.drop cnt) C w'):wpL Tryz.prog Q l a w:=by
 have hg:=nY (nY W (l:=ts.map (BE.den S)) ξ) (l:=rK P S d) (by simp[rK]);have n3:=lC n Z hl R Y (muS S (j (ts.map (BE.den S)) (rK P S d))) (ts.zip (ts.map (BE.den S))) (fun x g=>by
  obtain⟨i,hi⟩:=List.getElem?_of_mem g;rw[List.getElem?_zip_eq_some,List.getElem?_map]at hi;rw[hi.1]at hi;exact Option.some.inj hi.2) [] ξ (muE (j (ts.map (BE.den S)) (rK P S d))) (EZ R hy rfl w)
  (haE (haZ d (rK P S d))++CX) (fun x g=>by
   rcases List.mem_append.1 g with g|g
   ·have I:=I.resolve_left fun e=>by
     cases d with
     | nil=>simp[haZ,haE]at g
     | cons y l=>simp at e
    obtain⟨D,r,K⟩:=I.Q7;refine Em K I.lt I.o (fun q hq=>?_) x g;obtain⟨i,hi⟩:=List.getElem?_of_mem hq;simp only[haZ,rK,List.getElem?_zipWith,List.getElem?_map]at hi
    cases e:d[i]? with
    | none=>rw[e]at hi;simp at hi
    | some q0 =>
     rw[e]at hi;obtain rfl:=Option.some.inj hi;obtain⟨U,V⟩:=hh q0 (List.mem_of_getElem? e);exact⟨U,rfl,V⟩
   ·exact J x g)
 refine bQ cnt (fun _=>true) F' M' k' e' hPt hg n3 fun κ' C w' u p=>?_
 exact X κ' C w' u.gh ⟨u.has,u.mem,⟨ξ,u.ctx.el,ξ,ξ,(fun _ _ _ _ r l h=>by cases h),ξ⟩,u.tb,u.gh⟩ p
theorem uj{B pb:Nat}{v:aY}{P:aF}{y:Int→Int}{L L2:List Wr}{S:Sta}{κ:Kap}{w:World}{f:FuncId}{g:List SV}{args:Array Value}(l:(g.map (SV.den S κ)).toArray=args)
 (q:∀L' w',aD (fun k=>k=pb) w w'→aG B w' pb v P y L'→Calls Tryz.prog f args w' fun e d=>e=.returned (.tuple #[])∧aG B d pb v P y (L2++L')∧aD (fun k=>k=pb) w' d):
 ∀i x,([(f,g,SV.tu [])]:List (FuncId×List SV×SV))[i]?=some x→∀e w',aD (fun k=>k=pb) w w'→aG B w' pb v P y (gG [L2] e++L)→Calls Tryz.prog x.1 (x.2.1.map (SV.den S κ)).toArray w' fun e' d=>e'=.returned (x.2.2.den S κ)∧aD (fun k=>k=pb) w' d∧aG B d pb v P y (gG [L2] (i::e)++L):=by
 intro i x h e w' hk j
 cases i with
 | succ i=>simp at h
 | zero =>
  obtain rfl:=Option.some.inj h;show Calls Tryz.prog f (g.map (SV.den S κ)).toArray w' _;rw[l];refine(q _ w' hk j).mono fun e' d ⟨u,C,D⟩=>⟨u,D,?_⟩
  rw[gG,List.append_assoc];exact C
theorem wS{kk cnt k':Nat}{v:aY}{P:aF}{L2:List Wr}{S:Sta}{κ:Kap}{E:List (Nat×Nat×IE×Nat×Nat)}{H:Gh}{F:Fr}{M:Mm}{a:Act}{es:List Nat}{l:List Code}{Q:Exit→Act→World→Prop}
 (n:Now S κ N Tryz.prog { EL:=E,GM:=[(0,av)] } H ⟨F,M,kk,es⟩ a w)(O:H.T=fun k=>k=pb)(V:aG B w pb v P y L)(D:κ 0=(pb,0))(C:Agr (lo 24) (cU v P) S)(F':Fr)(M':Mm)(f:FuncId)(d:List SV)(args:Array Value)
 (J:gU (i6 Tryz.prog { EL:=E,ET:=[(f,d,.tu [])],GM:=[(0,av)] } N (l.take cnt) ⟨F,M,kk,[]⟩) ⟨F,M,kk,[]⟩ .n (fun _=>true) F' M' k' [0]=true)(R:(d.map (SV.den S κ)).toArray=args)
 (U:∀L' w',aD (fun k=>k=pb) w w'→aG B w' pb v P y L'→Calls Tryz.prog f args w' fun e u=>e=.returned (.tuple #[])∧aG B u pb v P y (L2++L')∧aD (fun k=>k=pb) w' u)
 (K:∀κ' j w',aG B w' pb v P y (L2++L)→Now S κ' N Tryz.prog { EL:=E,GM:=[(0,av)] } (kC B pb v P y [] (L2++L)) ⟨F',M',k',[]⟩ j w'→kZ (fun k=>k=pb) κ κ' kk k' (fun _=>true) a j w w'→κ' 0=(pb,0)→wpL Tryz.prog Q (l.drop cnt) j w')(I:0<kk):wpL Tryz.prog Q l a w:=by
 have n0:Now S κ N Tryz.prog { EL:=E } H ⟨F,M,kk,es⟩ a w:=⟨n.has,n.mem,⟨ξ,n.ctx.el,ξ,ξ,(fun _ _ _ _ r l h=>by cases h),ξ⟩,n.tb,n.gh⟩;have W:=lC n0 O V D C [L2] [] ξ [] ξ [(f,d,.tu [])] (uj R U) [] ξ;refine bQ cnt (fun _=>true) F' M' k' [0] hPt J W fun κ' j w' g p=>?_
 have q:aG B w' pb v P y (L2++L):=by have h:aG B w' pb v P y (gG [L2] [0]++L):=g.gh;simpa[gG]using h
 have x:=(p.upto 0 I).trans D;exact K κ' j w' q (lC ⟨g.has,g.mem,⟨ξ,g.ctx.el,ξ,ξ,(fun _ _ _ _ r l h=>by cases h),ξ⟩,g.tb,g.gh⟩ rfl q x C [] [] ξ [] ξ [] ξ [] ξ) p x
theorem nb0(n:Nat):((n:Int)==0)=decide (n=0):=by rw[Bool.eq_iff_iff];simp
theorem ib(a b:Int):(a==b)=decide (a=b):=by rw[Bool.eq_iff_iff];simp
theorem ibn(a b:Int):(a !=b)=!decide (a=b):=by rw[bne,ib]
theorem C9{A B C D:List Wr}(d:A=C)(g:B=D)(p:Wr):p∈A++B↔p∈(D++[])++(C++[]):=by
 subst d g;simp[or_comm]
def bW:Fr:=[(0,.one (.p 0 0))]
theorem Dl{v:aY}{P:aF}{f:FuncId}{fn:Func}{R:Ending→World→Prop}(d:aG B w pb v P y [])(C:Tryz.prog.funcs[f]?=some fn)(q:fn.ntmps=N)(u:fn.body.isSome=true)(j:1≤N)
 (h:∀a,a.defers=[]→Now (cU v P) (fun _=>(pb,0)) N Tryz.prog { GM:=[(0,av)] } (kC B pb v P y [] []) ⟨bW,[],1,[]⟩ a w→wpL Tryz.prog (bodyPost Tryz.prog fn R) (b8 (b9 fn [])) a w):Calls Tryz.prog f #[.pointer (some ⟨pb,0,none⟩)] w R:=by
 refine fnE (cU v P) (fun _=>(pb,0)) [.one (.p 0 0)] C q u rfl j (kC B pb v P y [] []) (fun g D=>by obtain rfl:g=pb:=D;exact d.lt) d fun a x n=>h a x ?_
 have H:Now (cU v P) (fun _=>(pb,0)) N Tryz.prog {} (kC B pb v P y [] []) ⟨bW,[],1,[]⟩ a w:=⟨n.has,⟨fun r l E=>by cases E⟩,Rs.noC _ _ _ _ _,n.tb,n.gh⟩;exact lC (EL:=[]) H rfl d rfl (Agr.refl _ _) [] [] ξ [] ξ [] ξ [] ξ
end Rs
open Go.RowKit Go.IntWalk Ck Rs
theorem Eg(n m:Nat):decide ((n:Int)<m)=decide (n<m):=by rw[decide_eq_decide];omega
theorem G6{A B C X Y T:List Wr}(d:A=X)(g:B=Y)(h:∀p,p∈T↔p∈C)(p:Wr):p∈A++B++C↔p∈T++((Y++[])++(X++[])):=by
 subst d g;simp only[List.mem_append,List.append_nil,h,or_comm,or_left_comm]
theorem BZ{B:Nat}{w:World}{pb:Nat}{v:aY}{P:aF}(h:aG B w pb v P pS []):
 Calls Tryz.prog 30 #[.pointer (some ⟨pb,0,none⟩)] w fun e w'=>e=.returned (.tuple #[])∧aG B w' pb v P pS (tv P)∧aD (fun k=>k=pb) w w':=by
 have bo:=h.base;refine Dl h Tryz.func30 Tryz.ntmps30 rfl ψ fun a H n0=>?_
 have hS:Agr (lo 24) (cU v P) (cU v P):=Agr.refl _ _;have a0:∀{d:Sta},Agr (lo 24) (cU v P) ((cU v P).put 32 d):=fun{d}=>(aS _ 32 d).mono fun j hj=>Nat.ble_eq_true_of_le (Nat.le_trans (Nat.le_of_ble_eq_true hj) ψ)
 have ad:∀{d e:Sta},Agr (lo 24) (cU v P) (((cU v P).put 32 d).put 64 e):=fun{d e}=>a0.trans ((aS _ 64 _).mono fun j hj=>Nat.ble_eq_true_of_le (Nat.le_trans (Nat.le_of_ble_eq_true hj) ψ))
 refine lW n0 rfl ψ hS (fun w h=>h.Q4) (dH B) (fun l=>l.flatMap iJ) 20 3 bW (pU 40) δ rfl rfl rfl (fun w x d=>∃u r,aL B 4 kY w r x.QO∧d=Bh x u r) (fun w g o x ⟨u,r,h1,h2,h3,_⟩=>⟨_,⟨u,r,h3,rfl⟩,fun k=>by
  show aM w g o [.int .i64 x.pos,.string x.name,.int .u64 x.QN,.bool x.stopped,.slice (vA u) x.QA.length (vC u),.slice (vA r) x.QO.length (vC r)];rw[au h2,au h3];exact h1⟩) (fun k x d κ' a' w' L1 D H q C hK L n=>?_) fun κ1 a1 w1 bm n1 bc a7=>?_
 ·obtain⟨u,r,W,rfl⟩:=H
  refine am (dg (z0:=0) (cnt:=2) (k':=3) (F':=(3,.one (.p 2 0))::fx 32 20 (cS 20 3 bW)) (M':=[(2,pU 40)]) (e':=[0]) n rfl L q C [.cmp .lss (.x 41) (.c 4)] [] (.inl rfl) (fun t h=>[(some (t.getD 0 false),.x 40,0,100)]) [] δ m0 (mc rfl m0) m0 fun κ2 a2 w2 I V E=>?_);have aa:κ2 0=(pb,0):=(E.upto 0 (by show 0<2;decide)).trans q;refine bQ 1 (fun _=>true) ((34,.one (.i .i64 (.c 0)))::(33,.one (.i .i64 (.ln 41)))::(32,.one (.sl 41 41 43))::(3,.one (.p 2 0))::fx 32 20 (cS 20 3 bW)) [(2,pU 40)] 3 [] hPt δ V fun κ3 a3 w3 n3 K=>?_
  have Q:aG B w3 pb v P pS _:=n3.gh;have ac:κ3 0=(pb,0):=(K.upto 0 ψ).trans aa;refine bO (qY n3 rfl Q (W.below (aJ _ _ _) ((K3 E.keep K.keep).below (B:=B) (by have:=L.lt;omega) fun i hi e=>by have e:i=pb:=e;omega)) (aJ _ _ _) (fun l=>l.flatMap (kd x)) 64 34 41 41 ((33,.one (.i .i64 (.ln 41)))::(32,.one (.sl 41 41 43))::(3,.one (.p 2 0))::fx 32 20 (cS 20 3 bW)) (fun _=>true) δ rfl (n3.has.re ⟨rfl,rfl,rfl,rfl,rfl,rfl,rfl,rfl,trivial⟩) rfl (fun _ x d=>x.Ok∧d=rlS x 0) (rlC 72) rfl
   (fun w g o x D=>⟨_,⟨D.2,rfl⟩,fun k=>D.1⟩) δ (fun j m d κ4 a4 w4 L4 hm H an J n4 Y O=>?_) fun a4 w4 J n4 Y O=>?_)
  ·obtain⟨ok,rfl⟩:=H
   have R:=(an 0 ψ).trans ac;refine am (dg (z0:=0) (cnt:=2) (k':=5) (F':=(5,.one (.p 4 0))::fx 64 34 ((33,.one (.i .i64 (.ln 41)))::(32,.one (.sl 41 41 43))::(3,.one (.p 2 0))::fx 32 20 (cS 20 3 bW))) (M':=[(4,rlC 72),(2,pU 40)]) (e':=[0]) n4 rfl J R ad [.cmp .neq (.x 73) (.c 1),.cmp .lss (.x 74) (.c 64)] [] (.inl rfl) (fun t h=>[(some (t.getD 0 false||t.getD 1 false),.x 72,1,101)]) [] δ m0 (mc rfl m0) m0 fun κ5 a5 w5 Z n5 N=>?_);exact dg (z0:=0) (cnt:=1) (k':=5) (F':=fx 64 34 ((33,.one (.i .i64 (.ln 41)))::(32,.one (.sl 41 41 43))::(3,.one (.p 2 0))::fx 32 20 (cS 20 3 bW))) (M':=[]) (e':=[0]) n5 rfl Z ((N.upto 0 χ).trans R) ad [.cmp .neq (.x 73) (.c 1),.seq (.x 72) (.x 40)] [] (.inl rfl) (fun t h=>[(some (t.getD 0 false || !t.getD 1 false),.x 72,3,102)]) [] δ m0 (mc rfl m0) m0 fun κ6 a6 w6 al n6 X=>ch rfl
    ⟨κ6,_,fun r W=>(X.upto r χ).trans ((N.upto r χ).trans (an r W)),n6.has,N.agree.trans X.agree (fun _ h=>h),K3 N.keep X.keep,by rw[←List.append_assoc]at al;exact al,ft hm fun p=>C9 (by
     show say _ _ _=say ((m.how !=1)||decide ((m.QK:Int)<64)) m.pos 1;rw[ibn,show decide ((m.QK:Int)<64)=decide (m.QK<64) from by rw[decide_eq_decide];omega]) (by
     show say _ _ _=say ((m.how !=1) || !(m.to.toList==x.name.toList)) m.pos 3;rw[ibn,ba]) p⟩
  ·exact ch rfl ⟨κ3,x.QO.flatMap (kd x)++say (decide (x.QN<4)) x.pos 0,fun r W=>(K.upto r (by show r<3;omega)).trans (E.upto r (by show r<2;omega)),n4.has.re ⟨rfl,rfl,rfl,rfl,trivial⟩,((E.agree.trans K.agree fun _ h=>h).trans Y fun _ h=>h).defers,((E.agree.trans K.agree fun _ h=>h).trans Y fun _ h=>h).size,K3 (K3 E.keep K.keep) O,by
    have h4:aG B w4 pb v P pS (x.QO.flatMap (kd x)++((say (decide ((x.QN:Int)<4)) x.pos 0++[])++L1)):=J;rw[List.append_nil,show decide ((x.QN:Int)<4)=decide (x.QN<4) from by rw[decide_eq_decide];omega]at h4;rw[List.append_assoc];exact h4,ft D fun p=>by simp[iJ,or_comm]⟩
 refine lW n1 bm ψ hS (fun w h=>h.QL) (aJ _ _ _) (fun l=>l.flatMap fun x=>say (decide (x.QK<64)) x.pos 1) 72 5 bW (irC 40) δ rfl rfl rfl (fun _ x d=>x.Ok∧d=irS x 0) (fun w g o x D=>⟨_,⟨D.2,rfl⟩,fun k=>D.1⟩) (fun k x d κ' a' w' L1 D H q C hK L n=>?_) fun κ2 a2 w2 aa V bd a8=>?_
 ·obtain⟨ok,rfl⟩:=H
  exact am (dg (z0:=0) (cnt:=2) (k':=3) (F':=fx 32 72 (cS 72 5 bW)) (M':=[]) (e':=[0]) n rfl L q C [.cmp .lss (.x 41) (.c 64)] [] (.inl rfl) (fun t h=>[(some (t.getD 0 false),.x 40,1,101)]) [] δ m0 (mc rfl m0) m0 fun κ2 a2 w2 I V E=>ch rfl
   ⟨κ2,_,fun r W=>E.upto r (by show r<2;omega),V.has,E.agree.defers,E.agree.size,E.keep,I,ft D fun p=>by
    show _↔p∈say (decide ((x.QK:Int)<(64:Nat))) x.pos 1++[];rw[Eg,List.append_nil]⟩)
 refine lW V aa ψ hS (fun w h=>h.Q8) (aJ _ _ _) (fun l=>l.flatMap (kG P)) 90 4 bW (chC 40) δ rfl rfl rfl (fun _ x d=>x.Ok∧d=chZ x 0 0) (fun w g o x D=>⟨_,⟨D.2,rfl⟩,fun k=>D.1⟩) (fun k x d κ' a' w' L1 D H q C hK L n=>?_) fun κ3 a3 w3 ac n3 be a9=>?_
 ·obtain⟨ok,rfl⟩:=H
  refine am (dg (z0:=0) (cnt:=2) (k':=3) (F':=(9,.one (.p 2 0))::fx 32 90 (cS 90 4 bW)) (M':=[(2,chC 40)]) (e':=[0]) n rfl L q C [.cmp .neq (.x 41) (.c 1),.cmp .lss (.x 42) (.c 64)] [] (.inl rfl) (fun t h=>[(some (t.getD 0 false||t.getD 1 false),.x 40,1,101)]) [] δ m0 (mc rfl m0) m0 fun κ4 a4 w4 J n4 p4=>?_);refine dg (z0:=0) (cnt:=1) (k':=3) (F':=(9,.one (.p 2 0))::fx 32 90 (cS 90 4 bW)) (M':=[(2,chC 40)]) (e':=[0]) n4 rfl J ((p4.upto 0 (by show 0<2;decide)).trans q) C [.seq (.x 41) (.x 42)] [] (.inl rfl) (fun t h=>[(some (!t.getD 0 false),.x 40,3,102)]) [] δ m0 (mc rfl m0) m0 fun κ5 a5 w5 Z n5 N=>?_
  have U:κ5 0=(pb,0):=(N.upto 0 ψ).trans ((p4.upto 0 (by show 0<2;decide)).trans q);obtain⟨bs,es⟩:∃b,x.shared=b:=⟨_,rfl⟩;obtain⟨bt,et⟩:∃b,gR P x=b:=⟨_,rfl⟩;have n6:=AR n5 rfl Z U C [say (!bs||bt) x.pos 4] [(.x 40,bs)] (mc es m0) [] ξ [(71,[.one (.p 0 0),.one (.b (.c (!bs||bt))),.one (.i .i64 (.x 40)),.one (.i .i64 (.c 4)),.one (.i .i64 (.c 103))],.tu [])]
   (uj (args := #[.pointer (some ⟨pb,0,none⟩),.bool (!bs||bt),.int .i64 x.pos,.int .i64 4,.int .i64 103]) (by simp only[List.map_cons,List.map_nil,SV.den,Cl.den_p,U];rfl) fun L' w' hk hL=>aT (!bs||bt) x.pos 4 103 hL rfl)
   [(100,[.one (.p 0 0),.ag (chC 40)],.one (.b (.c bt)))] fun y hy L' w' hk hL=>by
    obtain rfl:=List.mem_singleton.1 hy;have h1:=uH hL ok;rw[et]at h1;have ea:([SV.one (.p 0 0),.ag (chC 40)].map (SV.den ((cU v P).put 32 ((Sta.put {} 8 (chZ x 0 0)).cnt k)) κ5)).toArray = #[.pointer (some ⟨pb,0,none⟩),.agg x.cells.toArray]:=by simp only[List.map_cons,List.map_nil,SV.den,Cl.den_p,U];rfl
    show Calls Tryz.prog 100 ([SV.one (.p 0 0),.ag (chC 40)].map _).toArray w' _;rw[ea];exact h1
  have q1:say (!decide (x.how=1)||decide (x.QK<64)) x.pos 1=say ((x.how !=1)||decide ((x.QK:Int)<(64:Nat))) x.pos 1:=by rw[ibn,Eg]
  have q2:say (!decide (x.QE=x.to)) x.pos 3=say (!(x.QE.toList==x.to.toList)) x.pos 3:=by rw[ba]
  cases bs<;>cases bt<;>exact bQ 1 (fun _=>true) (fx 32 90 (cS 90 4 bW)) [] 3 [0] hPt δ n6 fun κ6 a6 w6 n7 X=>ch rfl ⟨κ6,_,fun r W=>(X.upto r (by show r<3;omega)).trans ((N.upto r (by show r<3;omega)).trans (p4.upto r (by show r<2;omega))),n7.has,((p4.agree.trans N.agree fun _ h=>h).trans X.agree fun _ h=>h).defers,((p4.agree.trans N.agree fun _ h=>h).trans X.agree fun _ h=>h).size,K3 (K3 p4.keep N.keep) X.keep,
   by have h7:aG B w6 pb v P pS (_++(_++(_++L1))):=n7.gh;rw[List.append_assoc,List.append_assoc];exact h7,ft D (G6 (T:=gG [say (_||_) x.pos 4] [0]) q1 q2 fun p=>by simp[gG,say,es,et])⟩
 refine lW n3 ac ψ hS (fun w h=>h.QG) (aJ _ _ _) (fun l=>l.flatMap fun x=>say (!decide (x.QE=x.to)) x.pos 3) 134 11 bW (baC 40) δ rfl rfl rfl (fun _ x d=>x.Ok∧d=baS x 0) (fun w g o x D=>⟨_,⟨D.2,rfl⟩,fun k=>D.1⟩) (fun k x d κ' a' w' L1 D H q C hK L n=>?_) fun κ4 a4 w4 R n4 bf O=>?_
 ·obtain⟨ok,rfl⟩:=H
  exact am (dg (z0:=0) (cnt:=2) (k':=3) (F':=fx 32 134 (cS 134 11 bW)) (M':=[]) (e':=[0]) n rfl L q C [.seq (.x 40) (.x 41)] [] (.inl rfl) (fun t h=>[(some (!t.getD 0 false),.x 40,3,102)]) [] δ m0 (mc rfl m0) m0 fun κ2 a2 w2 I V E=>ch rfl
   ⟨κ2,_,fun r W=>E.upto r (by show r<2;omega),V.has,E.agree.defers,E.agree.size,E.keep,I,ft D fun p=>by
    show _↔p∈say (!(x.QE.toList==x.to.toList)) x.pos 3++[];rw[ba,List.append_nil]⟩)
 refine lW n4 R ψ hS (fun w h=>h.QB) (aJ _ _ _) (fun l=>l.flatMap nc) 154 6 bW (quC 40) δ rfl rfl rfl (fun _ x d=>x.Ok∧d=quS x 0 0) (fun w g o x D=>⟨_,⟨D.2,rfl⟩,fun k=>D.1⟩) (fun k x d κ' a' w' L1 D H q C hK L n=>?_) fun κ5 a5 w5 U n5 bl bb=>?_
 ·obtain⟨ok,rfl⟩:=H
  refine am (dg (z0:=0) (cnt:=2) (k':=3) (F':=(13,.one (.p 2 0))::fx 32 154 (cS 154 6 bW)) (M':=[(2,quC 40)]) (e':=[0]) n rfl L q C [.cmp .eql (.x 41) (.c 3),.cmp .geq (.x 42) (.c 1),.cmp .leq (.x 42) (.c 64)] [] (.inl rfl) (fun t h=>[(some (t.getD 0 false||t.getD 1 false&&t.getD 2 false),.x 40,2,113)]) [] δ m0 (mc rfl m0) m0 fun κ2 a2 w2 I V E=>?_);exact dg (z0:=0) (cnt:=1) (k':=3) (F':=fx 32 154 (cS 154 6 bW)) (M':=[]) (e':=[0]) V rfl I ((E.upto 0 (by show 0<2;decide)).trans q) C [.seq (.x 41) (.x 42)] [] (.inl rfl) (fun t h=>[(some (!t.getD 0 false),.x 40,3,102)]) [] δ m0 (mc rfl m0) m0 fun κ3 a3 w3 Q n3 K=>ch rfl
   ⟨κ3,_,fun r W=>(K.upto r χ).trans (E.upto r (by show r<2;omega)),n3.has,K.agree.defers.trans E.agree.defers,K.agree.size.trans E.agree.size,K3 E.keep K.keep,by rw[←List.append_assoc]at Q;exact Q,ft D fun p=>C9 (by
    show say _ _ _=say ((x.how==3)||decide ((x.depth:Int)≥1)&&decide ((x.depth:Int)≤64)) x.pos 2;rw[ib,show decide ((x.depth:Int)≥1)=decide (1≤x.depth) from by rw[decide_eq_decide];omega,show decide ((x.depth:Int)≤64)=decide (x.depth≤64) from by rw[decide_eq_decide];omega]) (by
    show say _ _ _=say (!(x.QE.toList==x.to.toList)) x.pos 3;rw[ba]) p⟩
 have af:aG B w5 pb v P pS _:=n5.gh;refine ch rfl (ec rfl (bl.trans (bf.trans (be.trans (bd.trans (bc.trans H))))) ⟨rfl,af.congr fun p=>?_,K3 (K3 (K3 (K3 a7 a8) a9) O) bb⟩);rw[show gG [] []=[] from rfl,List.nil_append];simp only[tv,List.append_nil,List.mem_append,or_assoc,or_comm,or_left_comm]
