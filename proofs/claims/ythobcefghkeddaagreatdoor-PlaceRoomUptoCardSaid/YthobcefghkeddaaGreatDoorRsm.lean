import Derived.Test.YthobcefghkeddaaGreatDoorRsp
import Derived.Test.YthobcefghkeddaaGreatDoorAsE
set_option maxRecDepth 100000
set_option linter.all false
set_option maxHeartbeats 4000000
namespace Go.Proofs.YthobcefghkeddaaGreatDoor
namespace Rs
open Go.RowKit Ck
variable {w:World} {B pb N kk:Nat} {y:Int→Int} {L:List Wr} {a:Act} {es:List Nat}
theorem hPt:Tryz.prog.follows .mixedOrders=true:=δ
theorem K3{T:Nat→Prop}{d g:World}(h:aD T w d)(k:aD T d g):aD T w g:=h.trans k fun _ _ e=>e
def gP(l:List (List Wr)):List Nat→List Wr
 | []=>[]
 | i::e=>l.getD i []++gP l e
def kI(B pb:Nat)(v:ae)(P:aF)(y:Int→Int)(l:List (List Wr))(L:List Wr):Gh:=⟨fun k=>k=pb,fun e w=>aG B w pb v P y (gP l e++L),fun _ _ _ hk h=>h.new hk⟩
theorem DS{α:Type}{k:Nat}{R:World→Nat→Nat→α→Prop}{v:Value}{xs:List α}(h:aM B k R w v xs){i:Nat}{x:α}(d:xs[i]?=some x):∃g o,vA v=some ⟨g,o,none⟩∧g<B∧R w g (o+i*k) x:=by
 obtain⟨A,c,rfl,_,_,q⟩:=h;obtain⟨g,o,e,l,j⟩:=q (by have:=(ο.1 d).1;omega);exact⟨g,o,e,l,j i x d⟩
theorem AQ{v:ae}{P:aF}(h:aG B w pb v P y L){S:Sta}{κ:Kap}{r:Nat}(u:κ r=(pb,0))(g:ah.map (Cl.den S κ)=v.cells P):fP S κ [(r,ah)] w:=by
 intro r' l d j c q;rw[cL]at d;split at d
 ·rename_i e
  subst e;obtain rfl:=ι d;rw[u];simp only[Nat.zero_add];refine h.cell ?_;rw[←g,List.getElem?_map,q];rfl
 ·cases d
theorem Br{v:ae}{P:aF}(h:bD B w v P){S:Sta}(d:Agr (lo 24) (cE v P) S)(κ:Kap):ah.map (Cl.den S κ)=v.cells P:=by
 rw[ul d δ,lz h]
def mQ:List Cl:=(List.range 8).map fun j =>.v (24+j)
abbrev Mu:=Option Bool×IE×Int×Int
def muE(l:List Mu):List (FuncId×List SV×SV):=l.map fun x=>match x.1 with
 | some b=>(71,[.one (.p 0 0),.one (.b (.c b)),.one (.i .i64 x.2.1),.one (.i .i64 (.c x.2.2.1)),.one (.i .i64 (.c x.2.2.2))],.tu [])
 | none=>(73,[.one (.p 0 0),.one (.i .i64 x.2.1),.one (.i .i64 (.c x.2.2.1)),.one (.i .i64 (.c x.2.2.2))],.tu [])
def muS(S:Sta)(l:List Mu):List (List Wr):=l.map fun x=>match x.1 with
 | some b=>say b (x.2.1.den S) x.2.2.1
 | none=>[(x.2.1.den S,x.2.2.1)]
theorem EO{B pb:Nat}{v:ae}{P:aF}{y:Int→Int}{L:List Wr}{S:Sta}{κ:Kap}{l:List Mu}{I:List (List Wr)}(K:κ 0=(pb,0))(Q:∀x∈l,y x.2.2.1=x.2.2.2)(O:muS S l=I)(w:World):
 ∀i x,(muE l)[i]?=some x→∀e w',aD (fun k=>k=pb) w w'→aG B w' pb v P y (gP I e++L)→Calls Tryz.prog x.1 (x.2.1.map (SV.den S κ)).toArray w' fun e' d=>e'=.returned (x.2.2.den S κ)∧aD (fun k=>k=pb) w' d∧aG B d pb v P y (gP I (i::e)++L):=by
 subst O;intro i x g e w' _ J;rw[muE,List.getElem?_map]at g
 cases hq:l[i]? with
 | none=>rw[hq]at g;cases g
 | some q =>
  rw[hq]at g;obtain rfl:=ι g;have H:=Q q (γ hq);obtain⟨R,h,j,N⟩:=q;simp only at H
  cases R with
  | some b =>
   have:=aR b (h.den S) j N J H;simp only[List.map_cons,List.map_nil,SV.den,Cl.den_p,Cl.den_b,Cl.den_i,BE.den,IE.den,K];refine this.mono fun e' d ⟨u,C,D⟩=>⟨u,D,?_⟩
   have E:(muS S l).getD i []=say b (h.den S) j:=by simp[muS,hq]
   rw[gP,E,List.append_assoc];exact C
  | none =>
   have:=fX (h.den S) j N J H;simp only[List.map_cons,List.map_nil,SV.den,Cl.den_p,Cl.den_i,IE.den,K];refine this.mono fun e' d ⟨u,C,D⟩=>⟨u,D,?_⟩
   have E:(muS S l).getD i []=[(h.den S,j)]:=by simp[muS,hq]
   rw[gP,E,List.append_assoc];exact C
def haE(l:List (Nat×SS×BE)):List (FuncId×List SV×SV):=l.map fun x=>(72,[.one (.v (24+x.1)),.one (.s x.2.1)],.one (.b x.2.2))
theorem Ee{z0:Nat}{P:aF}{D:Nat→DataW Value}{r:Nat→ByteArray→Value}(H:ci (z0+10) w (bB z0) (d6 P) D r)(K:pb<z0){S:Sta}{κ:Kap}(I:∀j,j<8→S.o (24+j)=.map (some (z0+j+1))){l:List (Nat×SS×BE)}
 (J:∀x∈l,x.1<8∧x.2.2.den S=has ((d6 P).getD x.1 []) (x.2.1.den S)∧aV (x.2.1.den S)):
 ∀x∈haE l,∀w',aD (fun k=>k=pb) w w'→Calls Tryz.prog x.1 (x.2.1.map (SV.den S κ)).toArray w' fun e g=>e=.returned (x.2.2.den S κ)∧Kz w' g:=by
 intro x N w' hk;obtain⟨q,L,rfl⟩:=List.mem_map.1 N;obtain⟨d,v,u⟩:=J q L;have h:=H.keep hk (fun k e _=>by subst e;exact⟨χ,by simp[bB];omega⟩);obtain⟨j,s,b⟩:=q;have y:(bB z0)[j]?=some (z0+j+1):=by
  simp only at d
  match j,d with
  | 0,_|1,_|2,_|3,_|4,_|5,_|6,_|7,_=>rfl
 have B:(d6 P)[j]?=some ((d6 P).getD j []):=by
  simp only at d
  match j,d with
  | 0,_|1,_|2,_|3,_|4,_|5,_|6,_|7,_=>rfl
 have:=nX h j _ _ y B (s.den S) (by simp only at u;unfold aV at u;unfold maxLen;omega);simp only[List.map_cons,List.map_nil,SV.den,Cl.den_s,Cl.den_b];rw[show Cl.den S κ (.v (24+j))=.map (some (z0+j+1)) from I j d,v];exact this.mono fun e g ⟨C,E⟩=>⟨C,E▸aD.refl _ _⟩
theorem AR{v:ae}{P:aF}{S:Sta}{κ:Kap}{EL:List (Nat×Nat×IE×Nat×Nat)}{H:Gh}{F:Fr}{M:Mm}
 (n:Now S κ N Tryz.prog { EL:=EL } H ⟨F,M,kk,es⟩ a w)(C:H.T=fun k=>k=pb)(E:aG B w pb v P y L)(J:κ 0=(pb,0))(D:Agr (lo 24) (cE v P) S)(u:List (List Wr))(FA:List (BE×Bool))(l:∀x∈FA,x.1.den S=x.2)(SL:List (Nat×Nat×Nat×IE×Nat))(q:∀x∈SL,(S.n x.2.2.2.2:Int)=x.2.2.2.1.den S∧S.n x.2.2.2.2≤S.n x.2.2.1)
 (ET:List (FuncId×List SV×SV))(j:∀i x,ET[i]?=some x→∀e w',aD (fun k=>k=pb) w w'→aG B w' pb v P y (gP u e++L)→Calls Tryz.prog x.1 (x.2.1.map (SV.den S κ)).toArray w' fun e' d=>e'=.returned (x.2.2.den S κ)∧aD (fun k=>k=pb) w' d∧aG B d pb v P y (gP u (i::e)++L))
 (CT:List (FuncId×List SV×SV))(h:∀x∈CT,∀L' w',aD (fun k=>k=pb) w w'→aG B w' pb v P y L'→Calls Tryz.prog x.1 (x.2.1.map (SV.den S κ)).toArray w' fun e d=>e=.returned (x.2.2.den S κ)∧Kz w' d):
 Now S κ N Tryz.prog { EL:=EL,FA:=FA,CT:=CT,ET:=ET,GM:=[(0,ah)],SL:=SL } (kI B pb v P y u L) ⟨F,M,kk,[]⟩ a w:=by
 obtain⟨T,G,st⟩:=H;simp only at C;subst C;exact⟨n.has,n.mem,⟨l,n.ctx.el,fun x I e w' hk g=>h x I _ w' hk g,j,(fun e w' _ g=>AQ g J (Br (aG.QU g) D κ)),q⟩,n.tb,E⟩
theorem lG{v:ae}{P:aF}{S:Sta}{κ:Kap}{EL:List (Nat×Nat×IE×Nat×Nat)}{H:Gh}{F:Fr}{M:Mm}
 (n:Now S κ N Tryz.prog { EL:=EL } H ⟨F,M,kk,es⟩ a w)(u:H.T=fun k=>k=pb)(D:aG B w pb v P y L)(I:κ 0=(pb,0))(C:Agr (lo 24) (cE v P) S)(g:List (List Wr))(FA:List (BE×Bool))(l:∀x∈FA,x.1.den S=x.2)(SL:List (Nat×Nat×Nat×IE×Nat))(q:∀x∈SL,(S.n x.2.2.2.2:Int)=x.2.2.2.1.den S∧S.n x.2.2.2.2≤S.n x.2.2.1)
 (ET:List (FuncId×List SV×SV))(j:∀i x,ET[i]?=some x→∀e w',aD (fun k=>k=pb) w w'→aG B w' pb v P y (gP g e++L)→Calls Tryz.prog x.1 (x.2.1.map (SV.den S κ)).toArray w' fun e' d=>e'=.returned (x.2.2.den S κ)∧aD (fun k=>k=pb) w' d∧aG B d pb v P y (gP g (i::e)++L))
 (CT:List (FuncId×List SV×SV))(h:∀x∈CT,∀w',aD (fun k=>k=pb) w w'→Calls Tryz.prog x.1 (x.2.1.map (SV.den S κ)).toArray w' fun e d=>e=.returned (x.2.2.den S κ)∧Kz w' d):
 Now S κ N Tryz.prog { EL:=EL,FA:=FA,CT:=CT,ET:=ET,GM:=[(0,ah)],SL:=SL } (kI B pb v P y g L) ⟨F,M,kk,[]⟩ a w:=
 AR n u D I C g FA l SL q ET j CT fun x E _ w' hk _=>h x E w' hk
theorem qd{α:Type}{S:Sta}{κ:Kap}{C:Ctx}{H:Gh}{b b2 t:Nat}{F0:Fr}{M:Mm}{R1 R2 body:Code}{Q:Exit→Act→World→Prop}{U:Act}{D:World}{v:ae}{P:aF}
 (al:Now S κ N Tryz.prog C H ⟨F0,M,kk,es⟩ U D)(hT:H.T=fun k=>k=pb)(hL:aG B D pb v P y L){z:Nat}{R:World→Nat→Nat→α→Prop}{u:Value}{xs:List α}(Y:aM B z R D u xs)(an:kJ B R)(f:List α→List Wr)(m q ja V:Nat)(FR:Fr)(ws:Nat→Bool)
 (hB:CJ Tryz.prog N R1 R2 FR M kk q t m (.ln V) ws=true)(hn:S.n V=xs.length)(h0:Has (S.put m (Sta.cnt {} 0)) κ N (fx m q FR) U)(hu:vA u=S.a ja)(Φ:World→α→Sta→Prop)(cl:List Cl)(af:f []=[])
 (hR:∀w g o x,R w g o x→∃d,Φ w x d∧∀k:Nat,aL w g o (cl.map (Cl.den (S.put m ((Sta.put {} 8 d).cnt k)) fun _=>(0,0))))(hs:(lM (lo (m+8)) (fx m q FR)&&(mJ (lo (m+8)) M&&((lo m V&&lo m ja)&&(St.sc ⟨fx m q FR,M,kk,[]⟩&&cl.all (Cl.sc 0)))))=true)
 (hb:∀(k:Nat) x d κ' a w L1,xs[k]?=some x→Φ w x d→cU kk κ κ'→aG B w pb v P y L1→Now (S.put m ((Sta.put {} 8 d).cnt k)) κ' N Tryz.prog { EL:=[(ja,z,.x m,V,kk)] } ⟨fun k=>k=pb,fun _ w=>aG B w pb v P y L1,fun _ _ _ hk h=>h.new hk⟩ ⟨fx m q FR,(kk,cl)::M,kk+1,[]⟩ a w→aE ws U a→aD (fun k=>k=pb) D w →
  body.wp Tryz.prog (bi b b2 (fun E w'=>∃O L2,cU kk κ O∧Has (S.put m ((Sta.put {} 8 d).cnt k)) O N (fx m q FR) E∧aE ws a E∧aD (fun k=>k=pb) w w'∧aG B w' pb v P y (L2++L1)∧∀p,p∈f (xs.take (k+1))↔p∈L2∨p∈f (xs.take k)) Q) a w)
 (hq:∀a w,aG B w pb v P y (f xs++L)→Now (S.put m (Sta.cnt {} xs.length)) κ N Tryz.prog {} ⟨fun k=>k=pb,fun _ w=>aG B w pb v P y (f xs++L),fun _ _ _ hk h=>h.new hk⟩ ⟨fx m q FR,M,kk,[]⟩ a w→aE ws U a→aD (fun k=>k=pb) D w→Q .normal a w):
 (Code.block b (Code.loop (Code.seq R1 (Code.seq (Code.cond (.tmp t) .skip (.exit b)) (Code.seq (Code.block b2 body) R2))))).wp Tryz.prog Q U D:=by
 obtain⟨HT,HG,a2⟩:=H;simp only at hT;subst hT;have X:xs.length≤top:=by obtain⟨_,_,_,_,h,_⟩:=Y;exact h
 have ac:B≤D.heap.size:=by have:=hL.base;have:=hL.lt;omega
 refine ow al xs.length m q V FR ws (fun _:Unit=>{}) (fun k _ w=>aG B w pb v P y (f (xs.take k)++L)) (fun _ _ _ _ hk h=>h.new hk) () hPt hB hn (by unfold top at X;omega) (by simpa[af]using hL) h0 ?_ ?_
 ·intro k _ a w hk J Z W
  obtain⟨x,hx⟩:=ge hk;have I:aG B w pb v P y (f (xs.take k)++L):=J.gh;obtain⟨g,o,h1,h2,h3⟩:=DS Y hx;have a3:=I.base;have X:=I.lt;have ad:aD (fun k=>k=pb) D w:=W;obtain⟨d,hd,h4⟩:=hR _ _ _ _ (an _ _ _ _ _ (ad.below (B:=B) ac (fun i hi e=>by subst e;omega)) h2 h3);obtain⟨κ',a1,K⟩:=J.elem2 (ja:=ja) (j:=V) (x:=d) (cl:=cl) (hu▸h1) ⟨χ,by show ¬ g=pb;omega⟩ (by rw[hn];exact hk) (h4 k) rfl hs;refine wp_mono (hb k x d κ' a w _ hx hd a1 I ⟨K.has,K.mem,⟨K.ctx.fa,K.ctx.el,K.ctx.ct,ξ,(fun _ _ _ _ r l h=>by cases h),ξ⟩,K.tb,K.gh⟩ Z W) fun e E w' hh=>?_
  have fin:∀{E w'},(∃O L2,cU kk κ O∧Has (S.put m ((Sta.put {} 8 d).cnt k)) O N (fx m q FR) E∧aE ws a E∧aD (fun k=>k=pb) w w'∧aG B w' pb v P y (L2++(f (xs.take k)++L))∧∀p,p∈f (xs.take (k+1))↔p∈L2∨p∈f (xs.take k))→qt S κ N m kk (fx m q FR) ws (fun _:Unit=>{}) (fun k=>k=pb) (fun k _ w=>aG B w pb v P y (f (xs.take k)++L)) k U D E w':=by
   rintro E w' ⟨O,L2,q1,q2,q3,q4,q5,q6⟩;simp only[Bool.and_eq_true]at hs;refine⟨(),O,q5.congr fun p=>?_,q1,q2.on (ri S m {} d k).symm hs.1,Z.trans q3 (fun _ h=>h),K3 W q4⟩;simp only[List.mem_append,q6,or_assoc]
  cases e with
  | normal=>exact fin hh
  | exit id =>
   simp only[bi]at hh⊢;split
   ·rename_i e;rw[if_pos e]at hh;exact fin hh
   ·rename_i e;rw[if_neg e]at hh;exact hh
  | _=>exact hh
 ·intro _ a w J Z W
  have I:aG B w pb v P y (f (xs.take xs.length)++L):=J.gh;rw[List.take_length]at I;exact hq a w I ⟨J.has,J.mem,noC _ _ _ _ _,J.tb,I⟩ Z W
theorem yV{α β:Type}{f:α→List β}{xs:List α}{k:Nat}{x:α}(d:xs[k]?=some x)(p:β):p∈(xs.take (k+1)).flatMap f↔p∈f x∨p∈(xs.take k).flatMap f:=by
 rw[aO d];simp[or_comm]
def cJ(ti j:Nat)(base:Fr):Fr:=(ti-1,.one (.i .i64 (.ln j)))::(ti-2,.one (.sl j j (12+j)))::base
noncomputable def E8(N:Nat)(r R1 R2:Code)(F:Fr)(M:Mm)(kk ti t j:Nat)(base:Fr)(cl:List Cl):Bool:=
 gH (gK Tryz.prog { GM:=[(0,ah)] } N [r] ⟨F,M,kk,[]⟩) ⟨F,M,kk,[]⟩ .n τ ((ti,.one (.i .i64 (.c 0)))::cJ ti j base) M kk [] &&
 (CJ Tryz.prog N R1 R2 (cJ ti j base) M kk ti t 32 (.ln j) τ&&(lM (lo 32) (cJ ti j base)&&((gt (cJ ti j base) ti).isNone&&(gJ (fx 32 ti (cJ ti j base)) base&&((lM (lo 32) base&&mJ (lo 32) M) &&
 (lM (lo 40) (fx 32 ti (cJ ti j base))&&(mJ (lo 40) M&&((lo 32 j&&lo 32 j)&&(St.sc ⟨fx 32 ti (cJ ti j base),M,kk,[]⟩&&cl.all (Cl.sc 0))))))))))
theorem ld{α:Type}{S:Sta}{κ:Kap}{b b2 t:Nat}{F:Fr}{M:Mm}{r R1 R2 body:Code}{l:List Code}{Q:Exit→Act→World→Prop}{v:ae}{P:aF}
 (n:Now S κ N Tryz.prog { GM:=[(0,ah)] } (kI B pb v P y [] L) ⟨F,M,kk,[]⟩ a w)(hκ:κ 0=(pb,0))(Z:0<kk)(hS:Agr (lo 24) (cE v P) S){z:Nat}{R:World→Nat→Nat→α→Prop}{u:Value}{xs:List α}(af:∀w,bD B w v P→aM B z R w u xs)(ad:kJ B R)(f:List α→List Wr)(C j:Nat)(base:Fr)(cl:List Cl)
 (hB:E8 N r R1 R2 F M kk C t j base cl=true)(hn:S.n j=xs.length)(hu:vA u=S.a j)(ac:f []=[])(Φ:World→α→Sta→Prop)
 (hR:∀w g o x,R w g o x→∃d,Φ w x d∧∀k:Nat,aL w g o (cl.map (Cl.den (S.put 32 ((Sta.put {} 8 d).cnt k)) fun _=>(0,0))))
 (hb:∀(k:Nat) x d κ' E w' L1,xs[k]?=some x→Φ w' x d→κ' 0=(pb,0)→Agr (lo 24) (cE v P) (S.put 32 ((Sta.put {} 8 d).cnt k))→aD (fun k=>k=pb) w w'→aG B w' pb v P y L1→Now (S.put 32 ((Sta.put {} 8 d).cnt k)) κ' N Tryz.prog { EL:=[(j,z,.x 32,j,kk)] } ⟨fun k=>k=pb,fun _ w=>aG B w pb v P y L1,fun _ _ _ hk h=>h.new hk⟩ ⟨fx 32 C (cJ C j base),(kk,cl)::M,kk+1,[]⟩ E w' →
  body.wp Tryz.prog (bi b b2 (fun I X=>∃D L2,cU kk κ' D∧Has (S.put 32 ((Sta.put {} 8 d).cnt k)) D N (fx 32 C (cJ C j base)) I∧I.defers=E.defers∧I.tmps.size=E.tmps.size∧aD (fun k=>k=pb) w' X∧aG B X pb v P y (L2++L1)∧∀p,p∈f (xs.take (k+1))↔p∈L2∨p∈f (xs.take k)) (Exit.then (wpL Tryz.prog Q l) Q)) E w')
 (H:∀κ' E w',κ' 0=(pb,0)→Now S κ' N Tryz.prog { GM:=[(0,ah)] } (kI B pb v P y [] (f xs++L)) ⟨base,M,kk,[]⟩ E w'→E.defers=a.defers→aD (fun k=>k=pb) w w'→wpL Tryz.prog Q l E w'):
 wpL Tryz.prog Q (r::Code.block b (Code.loop (Code.seq R1 (Code.seq (Code.cond (.tmp t) .skip (.exit b)) (Code.seq (Code.block b2 body) R2))))::l) a w:=by
 simp only[E8,Bool.and_eq_true]at hB;obtain⟨g1,g2,g3,g4,g5,g6,g7⟩:=hB;refine b7 1 τ _ M kk [] hPt g1 n fun κ1 a1 w1 W O=>az (qd W rfl W.gh (af w1 (aG.QU W.gh)) ad f 32 C j j (cJ C j base) τ g2 hn ?_ hu Φ cl ac hR (by simp only[Bool.and_eq_true];exact g7) ?_ ?_)
 ·have h1:=(W.has.tail g4).on (aQ S 32 (Sta.cnt {} 0)) g3
  refine⟨h1.size,fun q x H=>?_⟩;rw[fx,ba]at H;split at H
  ·rename_i e
   subst e;obtain rfl:=ι H;rw[W.has.get _ _ (by rw[ba,if_pos rfl])];rfl
  ·exact h1.get q x H
 ·intro k x d κ' K Y L1 hx hd V hl n2 hA hK
  refine wp_mono (hb k x d κ' K Y L1 hx hd ((V 0 Z).trans ((O.upto 0 Z).trans hκ)) (hS.trans ((aQ S 32 _).mono fun q H=>Nat.ble_eq_true_of_le (Δ (ω H) ψ))) (K3 O.keep hK) hl n2) fun e J U hh=>?_
  have fin:∀{J U},(∃D L2,cU kk κ' D∧Has (S.put 32 ((Sta.put {} 8 d).cnt k)) D N (fx 32 C (cJ C j base)) J∧J.defers=K.defers∧J.tmps.size=K.tmps.size∧aD (fun k=>k=pb) Y U∧aG B U pb v P y (L2++L1)∧∀p,p∈f (xs.take (k+1))↔p∈L2∨p∈f (xs.take k)) →
   ∃D L2,cU kk κ1 D∧Has (S.put 32 ((Sta.put {} 8 d).cnt k)) D N (fx 32 C (cJ C j base)) J∧aE τ K J∧aD (fun k=>k=pb) Y U∧aG B U pb v P y (L2++L1)∧∀p,p∈f (xs.take (k+1))↔p∈L2∨p∈f (xs.take k):=by
   rintro J U ⟨D,L2,q1,q2,q3,q4,q5,q6,q7⟩;exact⟨D,L2,fun r hr=>(q1 r hr).trans (V r hr),q2,⟨q4,q3,fun i hi=>by cases hi⟩,q5,q6,q7⟩
  cases e with
  | normal=>exact fin hh
  | exit id =>
   simp only[bi]at hh⊢;split
   ·rename_i e;rw[if_pos e]at hh;exact fin hh
   ·rename_i e;rw[if_neg e]at hh;exact hh
  | _=>exact hh
 ·intro K Y hl n2 hA hK
  have n3:=n2.down base (by simp only[Bool.and_eq_true];exact⟨g5,g6.1,g6.2⟩);exact H κ1 K Y ((O.upto 0 Z).trans hκ) (lG (EL:=[]) n3 rfl hl ((O.upto 0 Z).trans hκ) hS [] [] ξ [] ξ [] ξ [] ξ) (hA.defers.trans O.agree.defers) (K3 O.keep hK)
end Rs
namespace Rs
open Go.RowKit Ck
theorem cW{α:Type}{B k:Nat}{R:World→Nat→Nat→α→Prop}{w w':World}{v:Value}{xs:List α}(h:aM B k R w v xs)(u:kJ B R)(y:B≤w.heap.size)(hk:Kz w w'){i:Nat}{x:α}(d:xs[i]?=some x):
 ∃g o,vA v=some ⟨g,o,none⟩∧g<w'.heap.size∧R w' g (o+i*k) x:=by
 obtain⟨A,c,rfl,_,_,q⟩:=h;obtain⟨g,o,e,l,j⟩:=q (by have:=(ο.1 d).1;omega);exact⟨g,o,e,by have:=hk.size;omega,u _ _ _ _ _ (hk.below (B:=B) χ (fun _ _ e=>e)) l (j i x d)⟩
theorem xX{B:Nat}{w:World}{x:ak}{v u:Value}(g:aM B 5 eK w v x.QA)(h:aM B 4 pW w u x.QO)(S d:Sta)(k:Int):
 (ny 40).map (Cl.den (S.put 32 ((d.put 8 (zM x v u)).cnt k)) fun _=>(0,0))=[.int .i64 x.pos,.string x.name,.int .u64 x.QN,.bool x.stopped,v,u]:=by
 show([.int .i64 x.pos,.string x.name,.int .u64 x.QN,.bool x.stopped,.slice (vA v) x.QA.length (vC v),.slice (vA u) x.QO.length (vC u)]:List Value)=_;rw[ao g,ao h]
variable {B:Nat} {w:World}
theorem yg{x:Ck.bR}{v:Value}(g:aM B 5 eK w v x.QA)(S d:Sta)(k:Int):
 (yi 40).map (Cl.den (S.put 32 ((d.put 8 (CU x v)).cnt k)) fun _=>(0,0))=[.int .i64 x.pos,.string x.name,.int .u64 x.Q7,.int .u64 x.size,v]:=by
 show([.int .i64 x.pos,.string x.name,.int .u64 x.Q7,.int .u64 x.size,.slice (vA v) x.QA.length (vC v)]:List Value)=_;rw[ao g]
theorem bD.kept{w':World}{v:ae}{P:aF}(h:bD B w v P)(d:B≤w.heap.size)(hk:Kz w w'):bD B w' v P:=h.below (hk.below (B:=B) χ fun _ _ e=>e)
theorem bT{v:ae}{P:aF}{S:Sta}(h:bD B w v P)(d:Agr (lo 24) (cE v P) S)(κ:Kap):SV.den S κ (.ag ah)=.agg (v.cells P).toArray:=by
 rw[SV.on_ok d (v := .ag ah) δ,SV.den,lz h]
end Rs
namespace Rs
open Go.RowKit Ck
theorem dg{S:Sta}:∀y∈([]:List (BE×Bool)),y.1.den S=y.2:=fun _ h=>by cases h
theorem fac{S:Sta}{x:BE×Bool}{l:List (BE×Bool)}(h:x.1.den S=x.2)(k:∀y∈l,y.1.den S=y.2):∀y∈x::l,y.1.den S=y.2:=by
 intro y d
 rcases Ξ.1 d with rfl|d
 ·exact h
 ·exact k y d
variable {B pb N:Nat} {w:World} {y:Int→Int} {L:List Wr}
def yo:Nat→(List Bool→Bool)→Bool
 | 0,f=>f []
 | n+1,f=>yo n (fun l=>f (true::l))&&yo n fun l=>f (false::l)
theorem ng:∀{n:Nat} {f:List Bool→Bool} {l:List Bool},yo n f=true→l.length=n→f l=true
 | 0,f,l,h,hl=>by obtain rfl:=List.eq_nil_of_length_eq_zero hl;exact h
 | n+1,f,[],h,hl=>by simp at hl
 | n+1,f,b::l,h,hl=>by
  simp only[yo,Bool.and_eq_true]at h
  cases b with
  | true=>exact ng (f:=fun l=>f (true::l)) h.1 (by simpa using hl)
  | false=>exact ng (f:=fun l=>f (false::l)) h.2 (by simpa using hl)
def haZ(hs:List (Nat×SS))(h:List Bool):List (Nat×SS×BE):=List.zipWith (fun q b=>(q.1,q.2,.c b)) hs h
def rQ(P:aF)(S:Sta)(hs:List (Nat×SS)):List Bool:=hs.map fun q=>has ((d6 P).getD q.1 []) (q.2.den S)
structure yy (B:Nat) (pb z0:Nat) (P:aF) (S:Sta) (w:World):Prop where
 Q7:∃D r,ci (z0+10) w (bB z0) (d6 P) D r
 lt:pb<z0
 o:∀j,j<8→S.o (24+j)=.map (some (z0+j+1))
theorem yy.keep{z0:Nat}{P:aF}{S S':Sta}{w':World}(h:yy B pb z0 P S w)(hk:aD (fun k=>k=pb) w w')(d:Agr (lo 32) S S'):yy B pb z0 P S' w':=
 ⟨let⟨D,r,hF⟩:=h.Q7;⟨D,r,hF.keep hk fun k e _=>by subst e;exact⟨by have:=h.lt;omega,by have:=h.lt;simp[bB];omega⟩⟩,h.lt,fun j g=>by rw[d.o _ (Nat.ble_eq_true_of_le χ)];exact h.o j g⟩
theorem m0{α:Type}{p:α→Prop}:∀y∈([]:List α),p y:=fun _ h=>by cases h
theorem mc{α:Type}{p:α→Prop}{x:α}{l:List α}(h:p x)(k:∀y∈l,p y):∀y∈x::l,p y:=by
 intro y d
 rcases Ξ.1 d with rfl|d
 ·exact h
 ·exact k y d
theorem ft{α:Type}{f:α→List Wr}{xs:List α}{k:Nat}{x:α}(d:xs[k]?=some x){T:List Wr}(e:∀p,p∈f x↔p∈T)(p:Wr):p∈(xs.take (k+1)).flatMap f↔p∈T∨p∈(xs.take k).flatMap f:=by
 rw[yV d,e]
theorem de{z0 kk cnt k':Nat}{v:ae}{P:aF}{S:Sta}{κ:Kap}{E:List (Nat×Nat×IE×Nat×Nat)}{H:Gh}{F F':Fr}{M M':Mm}{a:Act}{es e':List Nat}{l:List Code}{Q:Exit→Act→World→Prop}
 (n:Now S κ N Tryz.prog { EL:=E } H ⟨F,M,kk,es⟩ a w)(Z:H.T=fun k=>k=pb)(hl:aG B w pb v P y L)(R:κ 0=(pb,0))(Y:Agr (lo 24) (cE v P) S)(ts:List BE)(d:List (Nat×SS))(I:d.isEmpty=true∨yy B pb z0 P S w)(j:List Bool→List Bool→List Mu)(CX:List (FuncId×List SV×SV))
 (W:(yo ts.length fun t=>yo d.length fun h=>gH (gK Tryz.prog { EL:=E,FA:=ts.zip t,CT:=haE (haZ d h)++CX,ET:=muE (j t h),GM:=[(0,ah)] } N (l.take cnt) ⟨F,M,kk,[]⟩) ⟨F,M,kk,[]⟩ .n τ F' M' k' e')=true)
 (hh:∀q∈d,q.1<8∧aV (q.2.den S))(hy:∀x∈j (ts.map (BE.den S)) (rQ P S d),y x.2.2.1=x.2.2.2)(J:∀x∈CX,∀w',aD (fun k=>k=pb) w w'→Calls Tryz.prog x.1 (x.2.1.map (SV.den S κ)).toArray w' fun e O=>e=.returned (x.2.2.den S κ)∧Kz w' O)
 (X:∀κ' C w',aG B w' pb v P y (gP (muS S (j (ts.map (BE.den S)) (rQ P S d))) e'++L)→Now S κ' N Tryz.prog { EL:=E } ⟨fun k=>k=pb,fun _ w=>aG B w pb v P y (gP (muS S (j (ts.map (BE.den S)) (rQ P S d))) e'++L),fun _ _ _ hk h=>h.new hk⟩ ⟨F',M',k',[]⟩ C w'→kj (fun k=>k=pb) κ κ' kk k' τ a C w w'→wpL Tryz.prog Q (l.drop cnt) C w'):wpL Tryz.prog Q l a w:=by
 have hg:=ng (ng W (l:=ts.map (BE.den S)) ξ) (l:=rQ P S d) (by simp[rQ]);have n3:=lG n Z hl R Y (muS S (j (ts.map (BE.den S)) (rQ P S d))) (ts.zip (ts.map (BE.den S))) (fun x g=>by
  obtain⟨i,hi⟩:=List.getElem?_of_mem g;rw[List.getElem?_zip_eq_some,List.getElem?_map]at hi;rw[hi.1]at hi;exact ι hi.2) [] ξ (muE (j (ts.map (BE.den S)) (rQ P S d))) (EO R hy rfl w)
  (haE (haZ d (rQ P S d))++CX) (fun x g=>by
   rcases Ω.1 g with g|g
   ·have I:=I.resolve_left fun e=>by
     cases d with
     | nil=>simp[haZ,haE]at g
     | cons y l=>simp at e
    obtain⟨D,r,K⟩:=I.Q7;refine Ee K I.lt I.o (fun q hq=>?_) x g;obtain⟨i,hi⟩:=List.getElem?_of_mem hq;simp only[haZ,rQ,List.getElem?_zipWith,List.getElem?_map]at hi
    cases e:d[i]? with
    | none=>rw[e]at hi;simp at hi
    | some q0 =>
     rw[e]at hi;obtain rfl:=ι hi;obtain⟨U,V⟩:=hh q0 (γ e);exact⟨U,rfl,V⟩
   ·exact J x g)
 refine b7 cnt τ F' M' k' e' hPt hg n3 fun κ' C w' u p=>?_
 exact X κ' C w' u.gh ⟨u.has,u.mem,⟨ξ,u.ctx.el,ξ,ξ,(fun _ _ _ _ r l h=>by cases h),ξ⟩,u.tb,u.gh⟩ p
theorem uo{B pb:Nat}{v:ae}{P:aF}{y:Int→Int}{L L2:List Wr}{S:Sta}{κ:Kap}{w:World}{f:FuncId}{g:List SV}{args:Array Value}(l:(g.map (SV.den S κ)).toArray=args)
 (q:∀L' w',aD (fun k=>k=pb) w w'→aG B w' pb v P y L'→Calls Tryz.prog f args w' fun e d=>e=.returned (.tuple #[])∧aG B d pb v P y (L2++L')∧aD (fun k=>k=pb) w' d):
 ∀i x,([(f,g,SV.tu [])]:List (FuncId×List SV×SV))[i]?=some x→∀e w',aD (fun k=>k=pb) w w'→aG B w' pb v P y (gP [L2] e++L)→Calls Tryz.prog x.1 (x.2.1.map (SV.den S κ)).toArray w' fun e' d=>e'=.returned (x.2.2.den S κ)∧aD (fun k=>k=pb) w' d∧aG B d pb v P y (gP [L2] (i::e)++L):=by
 intro i x h e w' hk j
 cases i with
 | succ i=>simp at h
 | zero =>
  obtain rfl:=ι h;show Calls Tryz.prog f (g.map (SV.den S κ)).toArray w' _;rw[l];refine(q _ w' hk j).mono fun e' d ⟨u,C,D⟩=>⟨u,D,?_⟩
  rw[gP,List.append_assoc];exact C
theorem wY{kk cnt k':Nat}{v:ae}{P:aF}{L2:List Wr}{S:Sta}{κ:Kap}{E:List (Nat×Nat×IE×Nat×Nat)}{H:Gh}{F:Fr}{M:Mm}{a:Act}{es:List Nat}{l:List Code}{Q:Exit→Act→World→Prop}
 (n:Now S κ N Tryz.prog { EL:=E,GM:=[(0,ah)] } H ⟨F,M,kk,es⟩ a w)(O:H.T=fun k=>k=pb)(V:aG B w pb v P y L)(D:κ 0=(pb,0))(C:Agr (lo 24) (cE v P) S)(F':Fr)(M':Mm)(f:FuncId)(d:List SV)(args:Array Value)
 (J:gH (gK Tryz.prog { EL:=E,ET:=[(f,d,.tu [])],GM:=[(0,ah)] } N (l.take cnt) ⟨F,M,kk,[]⟩) ⟨F,M,kk,[]⟩ .n τ F' M' k' [0]=true)(R:(d.map (SV.den S κ)).toArray=args)
 (U:∀L' w',aD (fun k=>k=pb) w w'→aG B w' pb v P y L'→Calls Tryz.prog f args w' fun e u=>e=.returned (.tuple #[])∧aG B u pb v P y (L2++L')∧aD (fun k=>k=pb) w' u)
 (K:∀κ' j w',aG B w' pb v P y (L2++L)→Now S κ' N Tryz.prog { EL:=E,GM:=[(0,ah)] } (kI B pb v P y [] (L2++L)) ⟨F',M',k',[]⟩ j w'→kj (fun k=>k=pb) κ κ' kk k' τ a j w w'→κ' 0=(pb,0)→wpL Tryz.prog Q (l.drop cnt) j w')(I:0<kk):wpL Tryz.prog Q l a w:=by
 have n0:Now S κ N Tryz.prog { EL:=E } H ⟨F,M,kk,es⟩ a w:=⟨n.has,n.mem,⟨ξ,n.ctx.el,ξ,ξ,(fun _ _ _ _ r l h=>by cases h),ξ⟩,n.tb,n.gh⟩;have W:=lG n0 O V D C [L2] [] ξ [] ξ [(f,d,.tu [])] (uo R U) [] ξ;refine b7 cnt τ F' M' k' [0] hPt J W fun κ' j w' g p=>?_
 have q:aG B w' pb v P y (L2++L):=by have h:aG B w' pb v P y (gP [L2] [0]++L):=g.gh;simpa[gP]using h
 have x:=(p.upto 0 I).trans D;exact K κ' j w' q (lG ⟨g.has,g.mem,⟨ξ,g.ctx.el,ξ,ξ,(fun _ _ _ _ r l h=>by cases h),ξ⟩,g.tb,g.gh⟩ rfl q x C [] [] ξ [] ξ [] ξ [] ξ) p x
theorem nb0(n:Nat):((n:Int)==0)=decide (n=0):=by rw[Bool.eq_iff_iff];simp
theorem ib(a b:Int):(a==b)=decide (a=b):=by rw[Bool.eq_iff_iff];simp
theorem ibn(a b:Int):(a !=b)=!decide (a=b):=by rw[bne,ib]
theorem C3{A B C D:List Wr}(d:A=C)(g:B=D)(p:Wr):p∈A++B↔p∈(D++[])++(C++[]):=by
 subst d g;simp[or_comm]
def bW:Fr:=[(0,.one (.p 0 0))]
theorem DY{v:ae}{P:aF}{f:FuncId}{fn:Func}{R:Ending→World→Prop}(d:aG B w pb v P y [])(C:Tryz.prog.funcs[f]?=some fn)(q:fn.ntmps=N)(u:fn.body.isSome=true)(j:1≤N)
 (h:∀a,a.defers=[]→Now (cE v P) (fun _=>(pb,0)) N Tryz.prog { GM:=[(0,ah)] } (kI B pb v P y [] []) ⟨bW,[],1,[]⟩ a w→wpL Tryz.prog (bodyPost Tryz.prog fn R) (flat (ax fn [])) a w):Calls Tryz.prog f #[.pointer (some ⟨pb,0,none⟩)] w R:=by
 refine fnE (cE v P) (fun _=>(pb,0)) [.one (.p 0 0)] C q u rfl j (kI B pb v P y [] []) (fun g D=>by obtain rfl:g=pb:=D;exact d.lt) d fun a x n=>h a x ?_
 have H:Now (cE v P) (fun _=>(pb,0)) N Tryz.prog {} (kI B pb v P y [] []) ⟨bW,[],1,[]⟩ a w:=⟨n.has,⟨fun r l E=>by cases E⟩,Rs.noC _ _ _ _ _,n.tb,n.gh⟩;exact lG (EL:=[]) H rfl d rfl (Agr.refl _ _) [] [] ξ [] ξ [] ξ [] ξ
