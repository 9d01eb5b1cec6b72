import Derived.Test.YthobcefghkeddaaGreatDoorRsp
import Derived.Great.BuildSlice
set_option maxRecDepth 100000
set_option linter.all false
set_option maxHeartbeats 4000000
namespace Go.Proofs.YthobcefghkeddaaGreatDoor
namespace Rs
open Go.RowKit
theorem CO(l:List Value):∀(k:Nat) (cs:Array Value),k+l.length≤cs.size→(l.zipIdx k).foldl (fun(cs:Array Value) (x:Value×Nat)=>cs.setIfInBounds x.2 x.1) cs=(cs.toList.take k++l++cs.toList.drop (k+l.length)).toArray:=by
 induction l with
 | nil=>intro k cs h;simp
 | cons x l ih =>
  intro k cs h;simp only[List.length_cons]at h;rw[List.zipIdx_cons,List.foldl_cons,ih (k+1) _ η]
  apply Array.ext'
  simp only[List.length_cons,Array.toList_setIfInBounds];have hk:k<cs.toList.length:=η
  rw[List.take_succ_eq_append_getElem (by simpa using hk),List.take_set_of_le χ,List.getElem_set_self,List.drop_set_of_lt χ];simp[Nat.add_assoc,Nat.add_comm 1]
theorem lP(n:Nat)(z:Array Value)(v:Value)(h:v.cells.size=n)(d:z.size=n):Instr.fill (fun i=>some (i*n,n)) z [(0,v)]=some v.cells:=by
 have g:¬ ((v.cells.size≠n||0*n+v.cells.size>z.size)=true):=by simp[h,d]
 simp only[Instr.fill];rw[if_neg g]
 congr 1
 have:=CO v.cells.toList 0 z η;simp only[Nat.zero_mul,Nat.zero_add];rw[←Array.foldl_toList,Array.toList_zipIdx];rw[show(fun(cs:Array Value) (x:Value×Nat)=>cs.setIfInBounds x.2 x.1)=fun cs x=>match x with|(c,j)=>cs.setIfInBounds j c from rfl]at this;rw[this]
 apply Array.ext'
 simp[h,d]
structure yv (P:Program) (t e:TypeId) (size bytes:Nat):Prop where
 un:P.underlying t=some (.slice e)
 inf:((P.info? e).bind fun i=>i.zero.map fun z=>(i.size,i.bytes,z.cells.size))=some (size,bytes,size)
 pos:0<size
 small:size≤16777216
theorem yv.info{P:Program}{t e:TypeId}{size bytes:Nat}(h:yv P t e size bytes):∃i z,P.info? e=some i∧i.zero=some z∧i.size=size∧i.bytes=bytes∧z.cells.size=size:=by
 obtain⟨i,hi,g⟩:=Option.bind_eq_some_iff.1 h.inf;obtain⟨z,j,d⟩:=Option.map_eq_some_iff.1 g;simp only[Prod.mk.injEq]at d;exact⟨i,z,hi,j,d.1,d.2.1,d.2.2⟩
def aB(P:Program)(E0:List (Nat×Nat×IE×Nat×Nat))(N:Nat)(ops:List Oper)(F:Fr)(M:Mm)(k i:Nat)(t:TypeId)(j:Nat)(xv:SV)(m d3:Nat)(ws:Nat→Bool)(F':Fr):Bool:=
 match stL P { EL:=E0 } N ops (ops.take i) ⟨F,M,k,[]⟩,ops.drop i with
 | some s1,[⟨some d1,.buildSlice t1 1 ps,_,_,_,none⟩,⟨some d2,.call ⟨.builtin .append,xs,ts⟩,_,_,_,none⟩,⟨some d,.assign (.tmp y),_,_,_,none⟩] =>
  match ps.toList,xs.toList,ts.toList with
  | [(0,x)],[.tmp s,.tmp y1],[t2,t3] =>
   Nat.beq t1 t&&(Nat.beq t2 t&&(Nat.beq t3 t&&(Nat.beq y1 d1&&(Nat.beq y d2&&(Nat.beq d d3&&(!Nat.beq s d1&&((match ev s1.F x with|some v=>SV.same v xv|none=>false)&&((match gt s1.F s with|some v=>SV.same v (.one (.v j))|none=>false) &&
    (Nat.ble (d1+1) N&&(Nat.ble (d2+1) N&&(Nat.ble (d3+1) N&&(gJ s1.F F'&&(lM (lo m) F'&&(F'.all (fun z =>!Nat.beq z.1 d1&&(!Nat.beq z.1 d2 && !Nat.beq z.1 d3))&&(((s1.F.take (s1.F.length-F.length)).all fun z=>ws z.1)&&(ws d1&&(ws d2&&(ws d3&&(xv.sc k&&F'.all fun x=>x.2.sc k)))))))))))))))))))
  | _,_,_=>false
 | _,_=>false
theorem Er{S:Sta}{N:Nat}{P:Program}{E0:List (Nat×Nat×IE×Nat×Nat)}{H:Gh}{id:Nat}{ops:Array Oper}{rest:List Code}{Q:Exit→Act→World→Prop}{F:Fr}{M:Mm}{k:Nat}{κ:Kap}{a:Act}{w:World}{z n size bytes:Nat}{e:TypeId}{v:Value}{xs ys:List Value}
 (i:Nat)(t:TypeId)(j:Nat)(xv:SV)(m d3:Nat)(ws:Nat→Bool)(F':Fr)(I:aB P E0 N ops.toList F M k i t j xv m d3 ws F'=true)(hn:Now S κ N P { EL:=E0 } H ⟨F,M,k,[]⟩ a w)
 (V:yv P t e size bytes)(hv:S.o j=v)(Z:w.ownsRow z e size v n xs)(hz:z≤w.heap.size)(hy:(xv.den S κ).cells=ys.toArray)(bf:ys.length=size)(bd:∀u∈ys,u.oneCell'=true)(af:n+1≤maxLen)(an:(n+1)*bytes≤140737488355328)
 (hQ:∀v' a' w',w'.ownsRow z e size v' (n+1) (xs++ys)→aD (fun g=>v.ownBlock=some g) w w'→(∀g,v'.ownBlock=some g→v.ownBlock=some g∨w.heap.size≤g)→Has (S.put m { o:=fun _=>v' }) κ N ((d3,.one (.v m))::F') a'→aE ws a a'→wpL P Q rest a' w'):wpL P Q (Code.region id ops false::rest) a w:=by
 unfold aB at I;split at I
 ·rename_i s1 d1 t1 ps _ _ _ d2 b2 ts _ _ _ d y _ _ _ e1 e2
  split at I
  ·rename_i x s D t2 t3 p1 p2 p3
   simp only[Bool.and_eq_true]at I;obtain⟨q1,q2,q3,q4,q5,q6,q7,q8,q9,bl,bm,bo,bp,bs,bt,U,bw,bx,bz,b0,b1⟩:=I;have q1:=π q1;have q2:=π q2;have q3:=π q3;have q4:=π q4;have q5:=π q5;have q6:=π q6;subst q1 q2 q3 q4 q5 q6;obtain rfl:ps = #[(0,x)]:=Array.ext' p1;obtain rfl:b2 = #[.tmp s,.tmp D]:=Array.ext' p2;obtain rfl:ts = #[t3,t3]:=Array.ext' p3;show(Code.region id ops false).wp P (Exit.then (wpL P Q rest) Q) a w;refine wp_region_list ?_;obtain⟨it,zt,hi,ac,B,a7,a8⟩:=V.info;have E:=List.take_append_drop i ops.toList;rw[e2]at E;have a6:Now S κ N P { EL:=E0 } ⟨fun _=>False,fun _ _=>True,fun _ _ _ _ _=>trivial⟩ ⟨F,M,k,[]⟩ a w:=
    ⟨hn.has,⟨fun r l h=>⟨⟨(hn.mem.get r l h).1.1,fun h=>h⟩,(hn.mem.get r l h).2⟩⟩,⟨ξ,hn.ctx.el,ξ,ξ,(fun _ _ _ _ r l h=>by cases h),ξ⟩,fun _ h=>h.elim,trivial⟩
   have step:wpList P ops.toList.toArray (Exit.then (wpL P Q rest) Q) ops.toList a w:=by
    conv=>arg 4;rw[←E]
    refine dj e1 a6 fun κ1 q X W C=>?_
    have J:Kz w X:=C.keep;split at q8
    ·rename_i vx bc
     split at q9
     ·rename_i vs bb
      have q8:=SV.same_ok q8;have q9:=SV.same_ok q9;subst q8 q9;have ex:q.eval x=vx.den S κ:=by rw[W.has.ev bc,SV.sc_ok C.upto b0]
      have es:q.tmps[s]?=some v:=by rw[W.has.get _ _ bb,←hv];rfl
      have O:=Z.kept (J.grown none) (by cases v.ownBlock<;>simp);have a0:D<q.tmps.size:=by rw[W.has.size];exact ω bl
      have b3:w.heap.size≤X.heap.size:=J.size;have a9:s≠D:=fun h=>by subst h;simp at q7
      refine wpList_buildSlice rfl t3 e 1 _ rfl ys.toArray it zt V.un hi ac (by rw[B];have:=V.small;omega) (by rw[B];have:=V.pos;omega) ?_ ?_
      ·simp only[List.map_toArray,List.map_cons,List.map_nil]
       rw[B,ex,lP size _ _ (by rw[hy];simpa using bf) ξ,hy]
      have L:Kz X (X.alloc (.cells ys.toArray e)):=(aD.refl _ _).alloc _;refine wpList_append_lies _ rfl (.tmp s) (.tmp D) t3 rfl z e it zt size bytes V.un hi ac B a7 a8 V.pos v n xs ?_ (O.alloc _) ⟨X.heap.size,0,none⟩ 1 1 ys ?_ χ (fun j u hu=>?_) bd χ af an (by have:=L.size;omega) _ rfl ?_
      ·show(q.tmps.setIfInBounds D _).getD s undef=v
       rw[Array.getD_eq_getD_getElem?,Array.getElem?_setIfInBounds_ne (fun h=>a9 h.symm),es];rfl
      ·show(q.tmps.setIfInBounds D _).getD D undef=_
       rw[Array.getD_eq_getD_getElem?,Array.getElem?_setIfInBounds_self_of_lt a0];rfl
      ·rw[gM,World.cell?_alloc_at _ _ _ _ rfl]
       simp[hu]
      intro g ad w4 h1 h2 Y h4;refine wpList_plain rfl fun K hK=>?_
      unfold Oper.wp execOp;simp only[Sem.run_pure];refine hK _ _ (ln ?_);obtain⟨lw,ew,a5⟩:=C.agree;have al:aE ws a q:=a5.mono fun t R=>by
       rw[ew]at U;have:(lw++F).length-F.length=lw.length:=ξ
       rw[this,List.take_left]at U;obtain⟨z,hz,bg⟩:=List.any_eq_true.1 R;rw[←π bg];exact υ.1 U z hz
      have a2:y<q.tmps.size:=by rw[W.has.size];exact ω bm
      have a3:d<q.tmps.size:=by rw[W.has.size];exact ω bo
      refine hQ _ _ w4 h1 ?_ (fun g' a4=>?_) ?_ (((al.put bw _).put bx _).put bz _)
      ·exact(J.trans L fun _ _ e=>e).mono (fun _ _ e=>e.elim) |>.trans (aD.of_grown h2 fun k e=>e) fun _ _ e=>e
      ·obtain rfl:g=g':=by simpa[Value.ownBlock]using a4
       rcases Y with Y|Y
       ·exact .inl Y
       ·exact .inr (by rw[Y];have:=L.size;omega)
      ·have hF:=((W.has.sub bp).back C.upto b1).on (aQ S m { o:=fun _=>(Value.slice (some ⟨g,0,none⟩) (n+1) ad) }) bs
       have be:y<(q.tmps.setIfInBounds D (Value.slice (some ⟨X.heap.size,0,none⟩) 1 1)).size:=by simpa using a2
       refine⟨by simpa[Act.put]using hF.size,fun t u R=>?_⟩;rw[ba]at R;simp only[Act.put];split at R
       ·rename_i ed
        subst ed;obtain rfl:=ι R;rw[Array.getElem?_setIfInBounds_self_of_lt (by simpa using a3)];show some (((q.tmps.setIfInBounds D _).setIfInBounds y _).getD y undef)=some ((S.put m _).o m);rw[Array.getD_eq_getD_getElem?,Array.getElem?_setIfInBounds_self_of_lt be];have:Nat.ble m m=true:=Nat.ble_eq_true_of_le (Γ m);simp[Sta.put,this]
       ·rename_i ed
        have h5:=υ.1 bt _ (gG R);simp only[Bool.and_eq_true,Bool.not_eq_true']at h5;have n5:∀{p:Nat},Nat.beq t p=false→¬ p=t:=fun h e=>by subst e;simp at h
        rw[Array.getElem?_setIfInBounds_ne (n5 h5.2.2),Array.getElem?_setIfInBounds_ne (n5 h5.2.1),Array.getElem?_setIfInBounds_ne (n5 h5.1)];exact hF.get t u R
     ·cases q9
    ·cases q8
   simpa using step
  ·cases I
 ·cases I
variable {P:Program} {ops:List Oper} {k N k':Nat} {a:Act} {w:World}
structure Kn where
 CL:List (Nat×FuncId×List SV):=[]
 KO:List (Nat×List (Nat×SV)×SV):=[]
structure gQ (S:Sta) (κ:Kap) (P:Program) (ops:List Oper) (K:Kn):Prop where
 cl:∀x∈K.CL,S.o x.1=.func (.func x.2.1) #[] (x.2.2.map (SV.den S κ)).toArray
 ko:∀x∈K.KO,∀o∈ops,o.dst=some x.1→∀(a:Act) (w:World),(∀y∈x.2.1,a.eval (.tmp y.1)=y.2.den S κ)→(execOp a.eval o).run P w=.ok (.value (x.2.2.den S κ)) w
def pK(K:Kn)(k:Nat):Bool:=(K.CL.all fun x=>x.2.2.all (SV.sc k))&&K.KO.all fun x=>x.2.1.all (fun y=>y.2.sc k)&&x.2.2.sc k
theorem gQ.upto{S:Sta}{κ κ':Kap}{K:Kn}(h:gQ S κ P ops K)(hk:pK K k=true)(j:cU k κ κ'):gQ S κ' P ops K:=by
 unfold pK at hk;rw[Bool.and_eq_true]at hk;refine⟨fun x d=>?_,fun x d o B u a w q=>?_⟩
 ·rw[h.cl x d]
  have:x.2.2.map (SV.den S κ')=x.2.2.map (SV.den S κ):=List.map_congr_left fun v C=>SV.sc_ok j (υ.1 (υ.1 hk.1 x d) v C)
  rw[this]
 ·have g:=υ.1 hk.2 x d
  rw[Bool.and_eq_true]at g;rw[SV.sc_ok j g.2];exact h.ko x d o B u a w fun y l=>by rw[q y l,SV.sc_ok j (υ.1 g.1 y l)]
def koV(K:Kn)(F:Fr)(o:Oper):Option SV:=
 match o.dst with
 | some d=>match K.KO.find? fun x=>Nat.beq x.1 d with
  | some (_,args,v)=>bif args.all (fun y=>match gt F y.1 with|some u=>SV.same u y.2|none=>false)then some v else none
  | none=>none
 | none=>none
theorem DV{S:Sta}{κ:Kap}{F:Fr}{K:Kn}{o:Oper}{v:SV}(h:koV K F o=some v)(C:gQ S κ P ops K)(H:o∈ops)(B:Has S κ N F a)(w:World):(execOp a.eval o).run P w=.ok (.value (v.den S κ)) w:=by
 unfold koV at h;split at h
 ·rename_i d D
  split at h
  ·rename_i q args L l
   have E:=List.mem_of_find?_eq_some l;have g:=List.find?_some l;simp only at g;have g:=π g;subst g
   cases e:args.all (fun y=>match gt F y.1 with|some u=>SV.same u y.2|none=>false)with
   | false=>rw[e]at h;cases h
   | true =>
    rw[e]at h;obtain rfl:=ι h;refine C.ko _ E o H D a w fun y J=>?_
    have j:=υ.1 e y J;split at j
    ·rename_i u I
     rw[←SV.same_ok j];exact B.ev (x := .tmp y.1) I
    ·cases j
  ·cases h
 ·cases h
theorem rU{dst:Option Tmp}{t:Nat}{f:FuncId}{d:Array Value}{xs:Array Operand}{j:Array TypeId}{ty:TypeId}{pos:String}{after:Array Edge}{g:Option (Nat×Bool)}(h:a.eval (.tmp t)=.func (.func f) #[] d):
 execOp a.eval { dst,op := .call { callee := .value (.tmp t),args:=xs,argTypes:=j },type:=ty,pos,after,guard:=g }=callFunc f (#[]++xs.map a.eval++d):=by
 simp only[execOp,resolve,h];rfl
def cfV(P:Program)(C:Ctx)(CL:Kn)(F:Fr):Op→Option (Nat×SV)
 | .call ⟨.value (.tmp t),xs,_⟩ =>
  match gt F t,evs F xs.toList with
  | some (.one (.v j)),some as =>
   match CL.CL.find? fun x=>Nat.beq x.1 j with
   | some (_,f,caps)=>bif ga P f then idx f ((as++caps).map (nrm C.FA)) 0 C.ET else none
   | none=>none
  | _,_=>none
 | _=>none
theorem Dp{S:Sta}{κ:Kap}{F:Fr}{C:Ctx}{H:Gh}{CL:Kn}{o:Oper}{i:Nat}{v:SV}{e:List Nat}(h:cfV P C CL F o.op=some (i,v))(X:gQ S κ P ops CL)(D:Has S κ N F a)(B:iJ S κ P C H w)(V:H.G e w){K:Act→World→Prop}{Q:Exit→Act→World→Prop}
 (W:∀w',aD H.T w w'→H.G (i::e) w'→K (a.put o.dst (v.den S κ)) w'):o.wp P a w K Q:=by
 obtain⟨dst,op,ty,pos,af,g⟩:=o;unfold cfV at h;split at h
 ·rename_i t xs ts l
  simp only at l;subst l;split at h
  ·rename_i j as Z has
   split at h
   ·rename_i q f d I
    have E:=X.cl _ (List.mem_of_find?_eq_some I);have u:=List.find?_some I;simp only at E u;have u:=π u;subst u
    cases hb:ga P f with
    | false=>rw[hb]at h;cases h
    | true =>
     rw[hb]at h;obtain⟨_,hx⟩:=rO h;have Y:=B.et i _ (by simpa using hx) e w (aD.refl _ _) V;have ht:a.eval (.tmp t)=.func (.func f) #[] (d.map (SV.den S κ)).toArray:=by
      rw[←E];exact D.ev (x := .tmp t) Z
     have J:(#[]++xs.map a.eval++(d.map (SV.den S κ)).toArray:Array Value)=(((as++d).map (nrm C.FA)).map (SV.den S κ)).toArray:=by
      apply Array.ext'
      have:=ii D has;have U:SV.den S κ ∘ nrm C.FA=SV.den S κ:=funext fun v=>uu B.fa v
      simp[this,U]
     unfold Oper.wp;rw[rU ht,cC hb,J,List.map_append (f:=nrm C.FA)];refine Y.mono fun e' y ⟨L,O,R⟩=>?_
     subst L;exact W y O R
   ·cases h
  ·cases h
 ·cases h
def yz(P:Program)(E:TypeId):Option (List Cl):=((P.info? E).bind (·.zero)).map fun z=>z.cells.toList.map B7
def stX(P:Program)(C:Ctx)(CL:Kn)(N:Nat)(ops:List Oper):Nat→List Oper→St→Option St
 | _,[],s=>some s
 | 0,_,_=>none
 | n+1,o::r,s =>
  match koV CL s.F o,o.guard with
  | some v,none=>match wr N s o.dst v with
   | some s'=>stX P C CL N ops n r s'
   | none=>none
  | _,_ =>
  match o.op,o.guard with
  | .alloc E,none =>
   match stL P C N ops (o::r.take 1) s with
   | some s'=>stX P C CL N ops n (r.drop 1) s'
   | none =>
    match stL P C N ops (o::r.take 2) s with
    | some s'=>stX P C CL N ops n (r.drop 2) s'
    | none =>
     match yz P E with
     | some l=>bif s.sc&&C.sc s.k&&l.all (Cl.sc s.k)then(match wr N { s with M:=(s.k,l)::s.M,k:=s.k+1 } o.dst (.one (.p s.k 0))with
      | some s'=>stX P C CL N ops n r s'
      | none=>none)else none
     | none=>none
  | op,g =>
   match cfV P C CL s.F op,g with
   | some (i,v),none=>match wr N { s with e:=i::s.e } o.dst v with
    | some s'=>stX P C CL N ops n r s'
    | none=>none
   | _,_=>match st1 P C N ops s o with
    | some s'=>stX P C CL N ops n r s'
    | none=>none
theorem Cl.sc_mono(hk:k≤k'){c:Cl}(h:c.sc k=true):c.sc k'=true:=by
 cases c<;>first
  | rfl
  | exact Nat.ble_eq_true_of_le (Δ (ω h) hk)
theorem SV.sc_mono{k k':Nat}(hk:k≤k'){v:SV}(h:v.sc k=true):v.sc k'=true:=by
 cases v with
 | one c=>exact Cl.sc_mono hk h
 | ag l=>exact υ.2 fun c d=>Cl.sc_mono hk (υ.1 h c d)
 | tu l=>exact υ.2 fun c d=>Cl.sc_mono hk (υ.1 h c d)
theorem mZ(hk:k≤k'){K:Kn}(h:pK K k=true):pK K k'=true:=by
 unfold pK at *;rw[Bool.and_eq_true]at *;refine⟨υ.2 fun x d=>υ.2 fun v j=>SV.sc_mono hk (υ.1 (υ.1 h.1 x d) v j),υ.2 fun x d=>?_⟩;have g:=υ.1 h.2 x d;rw[Bool.and_eq_true]at *;exact⟨υ.2 fun y l=>SV.sc_mono hk (υ.1 g.1 y l),SV.sc_mono hk g.2⟩
theorem bF{ops:Array Oper}{Q:Exit→Act→World→Prop}{o:Oper}{r:List Oper}(g:o.guard=none)(h:∀K:Act→World→Prop,(∀a' w',wpList P ops Q r a' w'→K a' w')→o.wp P a w K Q):wpList P ops Q (o::r) a w:=
 wpList_plain g fun K d=>h K d
theorem jN{S:Sta}{N:Nat}{P:Program}{C:Ctx}{H:Gh}{CL:Kn}{ops m:List Oper}{Q:Exit→Act→World→Prop}:∀{n:Nat} {l:List Oper} {s s':St} {κ:Kap} {a:Act} {w:World},stX P C CL N ops n l s=some s'→Now S κ N P C H s a w→gQ S κ P ops CL→pK CL s.k=true→(∀o∈l,o∈ops) →
 (∀κ' a' w',Now S κ' N P C H s' a' w'→dh H.T κ κ' s s' a a' w w'→wpList P ops.toArray Q m a' w')→wpList P ops.toArray Q (l++m) a w
 | n,[],s,s',κ,a,w,h,hn,hL,hsc,_,hQ=>by
  simp only[stX,Option.some.injEq]at h;subst h;exact hQ _ _ _ hn (dh.refl _ _ _ _)
 | 0,o::r,s,s',κ,a,w,h,hn,hL,hsc,_,hQ=>by simp[stX]at h
 | n+1,o::r,s,s',κ,a,w,h,hn,hL,hsc,hsub,hQ=>by
  have next:∀{r':List Oper} {s1:St} {J:Kap} {x:Act} {y:World},stX P C CL N ops n r' s1=some s'→Now S J N P C H s1 x y→dh H.T κ J s s1 a x w y→(∀o∈r',o∈r)→wpList P ops.toArray Q (r'++m) x y:=fun q j d hr =>
   jN q j (hL.upto hsc d.upto) (mZ d.le hsc) (fun o D=>hsub o (List.mem_cons_of_mem _ (hr o D))) fun κ' a' w' n2 X=>hQ κ' a' w' n2 (d.trans X)
  have all:∀o∈r,o∈r:=fun _ h=>h
  unfold stX at h;split at h
  ·rename_i v O B
   split at h
   ·rename_i s1 q
    refine bF B fun K u=>?_
    obtain⟨j,d⟩:=mj q hn;unfold Oper.wp;rw[DV O hL (hsub o List.mem_cons_self) hn.has w];exact u _ _ (next h j d all)
   ·cases h
  split at h
  ·rename_i E I B
   split at h
   ·rename_i s1 q
    rw[show o::r++m=(o::r.take 1)++(r.drop 1++m) by rw[List.cons_append,List.cons_append,←List.append_assoc,List.take_append_drop]];exact dj q hn fun J x y j d=>next h j d fun o D=>List.mem_of_mem_drop D
   ·split at h
    ·rename_i s1 q
     rw[show o::r++m=(o::r.take 2)++(r.drop 2++m) by rw[List.cons_append,List.cons_append,←List.append_assoc,List.take_append_drop]];exact dj q hn fun J x y j d=>next h j d fun o D=>List.mem_of_mem_drop D
    ·split at h
     ·rename_i l hl
      cases e:s.sc&&C.sc s.k&&l.all (Cl.sc s.k)with
      | false=>rw[e]at h;cases h
      | true =>
       rw[e]at h;simp only[cond_true]at h;split at h
       ·rename_i s1 q
        obtain⟨z,hz,rfl⟩:=Option.map_eq_some_iff.1 hl;obtain⟨i,hi,L⟩:=Option.bind_eq_some_iff.1 hz;have R:(zeroValue E).run P w=.ok z w:=by simp[zeroValue,run_typeInfo (P:=P) _ hi,L]
        obtain⟨κ',hu,W,U,hk⟩:=ux hn E e;rw[tr]at U hk;refine bF B fun K u=>?_
        unfold Oper.wp;have Y:(execOp a.eval o).run P w=.ok (.value (.pointer (some ⟨w.heap.size,0,none⟩))) (w.alloc (.cells z.cells E)):=by
         obtain⟨dst,op,ty,pos,af,g⟩:=o;simp only at I;subst I;simp[execOp,Instr.alloc,R,eT]
        rw[Y];obtain⟨j,d⟩:=mj q U;have e4:SV.den S κ' (.one (.p s.k 0))=.pointer (some ⟨w.heap.size,0,none⟩):=by simp[SV.den,Cl.den_p,W]
        rw[e4]at j d;exact u _ _ (next h j (dh.trans (s':={ s with M:=(s.k,z.cells.toList.map B7)::s.M,k:=s.k+1 }) ⟨hu,ξ,K_T hk,⟨[],rfl,aE.refl _ _⟩,New.one W hn.tb⟩ d) all)
       ·cases h
     ·cases h
  ·split at h
   ·rename_i i v O B
    split at h
    ·rename_i s1 q
     refine bF B fun K u=>?_
     refine Dp O hL hn.has hn.ctx hn.gh fun w' V Z=>?_
     obtain⟨j,d⟩:=mj q (hn.wrote V Z);exact u _ _ (next h j (dh.trans (s':={ s with e:=i::s.e }) ⟨fun _ _=>rfl,Γ _,V,⟨[],rfl,aE.refl _ _⟩,jU⟩ d) all)
    ·cases h
   ·split at h
    ·rename_i s1 q
     exact Lz fun K u=>uU q hn fun J x y j d=>u _ _ (next h j d all)
    ·cases h
def xB(P:Program)(C:Ctx)(CL:Kn)(N:Nat)(l:List Oper)(s:St)(ws:Nat→Bool)(F':Fr)(M':Mm)(k':Nat)(e':List Nat):Bool:=
 pK CL s.k&&gH ((stX P C CL N l l.length l s).map fun s=>(.n,s)) s .n ws F' M' k' e'
theorem fb{S:Sta}{N:Nat}{P:Program}{C:Ctx}{H:Gh}{CL:Kn}{id:Nat}{ops:Array Oper}{rest:List Code}{Q:Exit→Act→World→Prop}{s:St}{κ:Kap}{a:Act}{w:World}(ws:Nat→Bool)(F':Fr)(M':Mm)(k':Nat)(e':List Nat)
 (g:xB P C CL N ops.toList s ws F' M' k' e'=true)(v:Now S κ N P C H s a w)(q:gQ S κ P ops.toList CL)(u:∀κ' a' w',Now S κ' N P C H ⟨F',M',k',e'⟩ a' w'→kj H.T κ κ' s.k k' ws a a' w w'→wpL P Q rest a' w'):wpL P Q (Code.region id ops false::rest) a w:=by
 unfold xB at g;rw[Bool.and_eq_true]at g;obtain⟨l,d⟩:=g;show(Code.region id ops false).wp P (Exit.then (wpL P Q rest) Q) a w;refine wp_region_list ?_
 cases e:stX P C CL N ops.toList ops.toList.length ops.toList s with
 | none=>rw[e]at d;cases d
 | some s1 =>
  rw[e]at d;have:=jN (m:=[]) (Q:=Exit.then (wpL P Q rest) Q) e v q l (fun _ h=>h) fun κ' a' w' x j=>ln (by
   obtain⟨_,_,y,B⟩:=fO d x j;exact u κ' a' w' y B)
  simpa using this
theorem dV{S:Sta}{κ:Kap}:gQ S κ P ops {}:=⟨(fun _ h=>by cases h),fun _ h=>by cases h⟩
end Rs
namespace Rs
open Go.RowKit
def bk(cs:Array Value)(i:Nat)(vs:List Value):Array Value:=(cs.toList.take i++vs++cs.toList.drop (i+vs.length)).toArray
theorem ch(w:World)(b:Nat)(cs:Array Value){T:Nat→Prop}(h:T b):aD T w (w.setRow b cs):=
 ⟨rfl,rfl,rfl,ξ,fun k _ hk=>setRow_other w b k cs fun e=>hk (e▸h)⟩
theorem cY{P:Program}{o:Oper}{E:TypeId}{x y:Operand}(d:o.op=.store E x y){a:Act}{w:World}{b off:Nat}{cs:Array Value}{E0:TypeId}{vs:List Value}
 (H:a.eval x=.pointer (some ⟨b,off,none⟩))(I:(a.eval y).cells=vs.toArray)(q:∀u∈vs,u.oneCell'=true)(j:P.cellsOf E=vs.length)(l:0<vs.length)(h:w.heap[b]?=some (.cells cs E0 (0,0)))(C:off+vs.length≤cs.size):
 (execOp a.eval o).run P w=.ok .skip (w.setRow b (bk cs off vs)):=by
 obtain⟨dst,op,ty,pos,J,g⟩:=o;simp only at d;subst d;obtain⟨i,hi⟩:=df (P:=P) (t:=E) χ;have v:=run_storeCells_at (P:=P) b off E0 vs 0 cs w h χ q;have D:(sizeOf E).run P w=.ok vs.length w:=by rw[run_sizeOf _ hi,j]
 simp only[execOp,H,Instr.storeAt,Instr.sureAddr,Sem.run_bind,Sem.run_pure,Result.andThen_ok];have B:(storeVar E ⟨b,off,none⟩ (a.eval y)).run P w=.ok () (w.setRow b (bk cs off vs)):=by
  simp only[storeVar,Sem.run_bind,D,Result.andThen_ok,I];simp only[List.size_toArray,ne_eq,not_true_eq_false,if_false]
  simpa[bk]using v
 rw[B];rfl
section
variable {S:Sta} {N:Nat} {P:Program} {C:Ctx} {H:Gh} {CL:Kn} {id:Nat} {ops:Array Oper} {rest:List Code} {Q:Exit→Act→World→Prop} {s:St} {κ:Kap} {a:Act} {w:World}
def tB(P:Program)(C:Ctx)(CL:Kn)(N:Nat)(ops:List Oper)(s:St)(i r o:Nat)(l:List Cl)(e1:List Nat)(ws:Nat→Bool)(F':Fr)(M':Mm)(k':Nat)(e':List Nat):Bool:=
 match stX P C CL N ops ops.length (ops.take i) s,ops[i]? with
 | some s1,some ⟨none,.store E x y,_,_,_,none⟩ =>
  match ev s1.F x,ev s1.F y with
  | some (.one (.p r' o')),some v =>
   match gi v with
   | some l'=>Nat.beq r' r&&(Nat.beq o' o&&(kE l' l&&(Nat.beq (P.cellsOf E) l.length&&(Nat.ble 1 l.length&&(l.all (Cl.sc s.k)&&(eqL s1.e e1&&(Nat.ble (r+1) s.k&&(pK CL s.k&&(((s1.F.take (s1.F.length-s.F.length)).all fun z=>ws z.1) &&
    gH ((stX P C CL N ops ops.length (ops.drop (i+1)) ⟨s1.F,s1.M,s1.k,99::e1⟩).map fun s=>(.n,s)) ⟨s1.F,s1.M,s1.k,99::e1⟩ .n ws F' M' k' e')))))))))
   | none=>false
  | _,_=>false
 | _,_=>false
theorem DB(i r o:Nat)(l:List Cl)(L:List Nat)(ws:Nat→Bool)(F':Fr)(M':Mm)(k':Nat)(e':List Nat)(j:tB P C CL N ops.toList s i r o l L ws F' M' k' e'=true)(hn:Now S κ N P C H s a w)(hL:gQ S κ P ops.toList CL)(hT:H.T (κ r).1)
 (an:∀g,aD H.T w g→H.G L g→∃cs E0,g.heap[(κ r).1]?=some (.cells cs E0 (0,0))∧(κ r).2+o+l.length≤cs.size∧H.G (99::L) (g.setRow (κ r).1 (bk cs ((κ r).2+o) (l.map (Cl.den S κ)))))
 (hQ:∀κ' a' w',Now S κ' N P C H ⟨F',M',k',e'⟩ a' w'→kj H.T κ κ' s.k k' ws a a' w w'→wpL P Q rest a' w'):wpL P Q (Code.region id ops false::rest) a w:=by
 unfold tB at j;split at j
 ·rename_i s1 E x y t1 t2 t3 V W
  split at j
  ·rename_i r' o' v hx hy
   split at j
   ·rename_i l' hl
    simp only[Bool.and_eq_true]at j;obtain⟨q1,q2,q3,q4,q5,q6,q7,q8,q9,I,B⟩:=j;have q1:=π q1;have q2:=π q2;have q3:=gq q3;have q4:=π q4;have q5:=ω q5;have q7:=mT q7;have q8:=ω q8;subst q1 q2 q3;show(Code.region id ops false).wp P (Exit.then (wpL P Q rest) Q) a w;refine wp_region_list ?_;obtain⟨ac,al⟩:=ο.1 W;have u:ops.toList=ops.toList.take i++(ops.toList[i]::ops.toList.drop (i+1)):=by
     rw[←List.drop_eq_getElem_cons ac,List.take_append_drop]
    have D:wpList P ops.toList.toArray (Exit.then (wpL P Q rest) Q) (ops.toList.take i++(ops.toList[i]::ops.toList.drop (i+1))) a w:=by
     refine jN V hn hL q9 (fun o ho=>List.mem_of_mem_take ho) fun κ1 U g R d=>?_
     rw[al];refine bF rfl fun K hK=>?_
     have hκ:κ1 r'=κ r':=d.upto r' q8;have X:H.G L g:=by rw[←q7];exact R.gh
     obtain⟨cs,E0,c1,c2,c3⟩:=an g d.keep X;obtain⟨d1,d2⟩:=iE hl S κ1;have ad:l'.map (Cl.den S κ1)=l'.map (Cl.den S κ):=oG d.upto q6;rw[ad]at d1 d2;have ex:U.eval x=.pointer (some ⟨(κ r').1,(κ r').2+o',none⟩):=by rw[R.has.ev hx,←hκ];rfl
     have:=cY (P:=P) (o:=⟨none,.store E x y,t1,t2,t3,none⟩) (a:=U) (w:=g) rfl ex (by rw[R.has.ev hy];exact d1) d2 (by rw[List.length_map];exact q4) (by rw[List.length_map];omega) c1 (by rw[List.length_map];omega);unfold Oper.wp;rw[this];have q:aD H.T g (g.setRow (κ r').1 (bk cs ((κ r').2+o') (l'.map (Cl.den S κ)))):=ch _ _ _ hT;have n2:=R.wrote q c3;refine hK _ _ ?_
     cases e:stX P C CL N ops.toList ops.toList.length (ops.toList.drop (i+1)) ⟨s1.F,s1.M,s1.k,99::L⟩with
     | none=>rw[e]at B;cases B
     | some s2 =>
      rw[e]at B;have Y:=hL.upto q9 d.upto;have O:=mZ d.le q9;have:=jN (m:=[]) (Q:=Exit.then (wpL P Q rest) Q) e n2 Y O (fun o ho=>List.mem_of_mem_drop ho) fun κ2 a2 w3 n3 g2=>ln (by
       obtain⟨_,_,n5,J⟩:=fO B n3 g2;obtain⟨lw,ew,af⟩:=d.agree;have Z:aE ws a U:=af.mono fun t ht=>by
        rw[ew]at I;have:(lw++s.F).length-s.F.length=lw.length:=ξ
        rw[this,List.take_left]at I;obtain⟨z,hz,a0⟩:=List.any_eq_true.1 ht;rw[←π a0];exact υ.1 I z hz
       exact hQ κ2 a2 w3 n5 ⟨fun r hr=>(J.upto r (Θ hr d.le)).trans (d.upto r hr),(d.keep.trans q fun _ _ e=>e).trans J.keep fun _ _ e=>e,Z.trans J.agree fun _ h=>h,
        (d.new.trans jU (fun _ _=>rfl) q d.keep.size).trans J.new J.upto J.keep (Δ d.keep.size q.size)⟩)
      rw[List.append_nil]at this;exact this
    rw[←u]at D
    simpa using D
   ·cases j
  ·cases j
 ·cases j
def oB(P:Program)(C:Ctx)(CL:Kn)(N:Nat)(ops:List Oper)(s:St)(i r o:Nat)(n:Nat)(f:FuncId)(as:List SV)(e1:List Nat)(ws:Nat→Bool)(F':Fr)(M':Mm)(k':Nat):Bool:=
 match stX P C CL N ops ops.length (ops.take i) s,ops.drop i with
 | some s1,[⟨some d1,.call ⟨.value (.func g),xs,_⟩,_,_,_,none⟩,⟨none,.store E x (.tmp y),_,_,_,none⟩] =>
  match ev s1.F x,evs s1.F xs.toList with
  | some (.one (.p r' o')),some as'=>Nat.beq r' r&&(Nat.beq o' o&&(Nat.beq g f&&(kF as' as&&(ga P f&&(Nat.beq y d1&&(Nat.ble (d1+1) N&&((match x with|.tmp t =>!Nat.beq t d1|_=>false)&&(Nat.beq (P.cellsOf E) n&&(Nat.ble 1 n&&(as.all (SV.sc s.k)&&(eqL s1.e e1&&(Nat.ble (r+1) s.k&&(pK CL s.k&&(((s1.F.take (s1.F.length-s.F.length)).all fun z=>ws z.1)&&(ws d1 &&
   (gJ s1.F F'&&((gt F' d1).isNone&&(qb s1.M M'&&Nat.beq s1.k k'))))))))))))))))))
  | _,_=>false
 | _,_=>false
theorem EE(i r o n:Nat)(f:FuncId)(as:List SV)(X:List Nat)(ws:Nat→Bool)(F':Fr)(M':Mm)(k':Nat)(B:oB P C CL N ops.toList s i r o n f as X ws F' M' k'=true)(hn:Now S κ N P C H s a w)(hL:gQ S κ P ops.toList CL)(hT:H.T (κ r).1)
 (hf:∀l,aD H.T w l→H.G X l→Calls P f (as.map (SV.den S κ)).toArray l fun e R=>∃vs:List Value,e=.returned (.agg vs.toArray)∧vs.length=n∧(∀u∈vs,u.oneCell'=true)∧Kz l R ∧
  ∃cs E0,R.heap[(κ r).1]?=some (.cells cs E0 (0,0))∧(κ r).2+o+n≤cs.size∧H.G (99::X) (R.setRow (κ r).1 (bk cs ((κ r).2+o) vs)))
 (hQ:∀κ' a' w',Now S κ' N P C H ⟨F',M',k',99::X⟩ a' w'→kj H.T κ κ' s.k k' ws a a' w w'→wpL P Q rest a' w'):wpL P Q (Code.region id ops false::rest) a w:=by
 unfold oB at B;split at B
 ·rename_i s1 d1 g xs _ _ _ _ E x y t1 t2 t3 al an
  split at B
  ·rename_i r' o' q hx has
   simp only[Bool.and_eq_true]at B;obtain⟨q1,q2,q3,q4,q5,q6,q7,q8,q9,ad,a9,I,J,bb,L,bc,bd,af,be,O⟩:=B;have q1:=π q1;have q2:=π q2;have q3:=π q3;have q4:=fg q4;have q6:=π q6;have q7:=ω q7;have q9:=π q9;have ad:=ω ad;have I:=mT I;have J:=ω J;have O:=π O;subst q1 q2 q3 q4 q6 O;show(Code.region id ops false).wp P (Exit.then (wpL P Q rest) Q) a w;refine wp_region_list ?_;have j:=List.take_append_drop i ops.toList;rw[an]at j;have Y:wpList P ops.toList.toArray (Exit.then (wpL P Q rest) Q) ops.toList a w:=by
    conv=>arg 4;rw[←j]
    refine jN al hn hL bb (fun o ho=>List.mem_of_mem_take ho) fun κ1 d l W h=>?_
    refine bF rfl fun K hK=>?_
    have hκ:κ1 r'=κ r':=h.upto r' J;have a0:H.G X l:=by rw[←I];exact W.gh
    have v:(#[]++xs.map d.eval ++ #[]:Array Value)=(q.map (SV.den S κ)).toArray:=by
     apply Array.ext'
     have U:=ii W.has has;have h2:q.map (SV.den S κ1)=q.map (SV.den S κ):=List.map_congr_left fun x hx=>SV.sc_ok h.upto (υ.1 a9 x hx)
     simp[U,h2]
    unfold Oper.wp;rw[execOp_call_go,cC q5,v];refine(hf l h.keep a0).mono fun e R ⟨vs,he,D,a5,hk,cs,E0,c1,c2,c3⟩=>?_
    subst he;refine hK _ _ (bF rfl fun K2 a2=>?_);have a7:(d.put (some y) (.agg vs.toArray)).eval (.tmp y)=.agg vs.toArray:=At.eval At.put_self (by simp[Act.put,W.has.size];omega);have a6:(d.put (some y) (.agg vs.toArray)).eval x=.pointer (some ⟨(κ r').1,(κ r').2+o',none⟩):=by
     have U:d.eval x=.pointer (some ⟨(κ r').1,(κ r').2+o',none⟩):=by rw[W.has.ev hx,←hκ];rfl
     rw[←U];split at q8
     ·rename_i t
      have V:y≠t:=fun e=>by subst e;simp at q8
      show(d.tmps.setIfInBounds y _).getD t undef=d.tmps.getD t undef;rw[Array.getD_eq_getD_getElem?,Array.getD_eq_getD_getElem?,Array.getElem?_setIfInBounds_ne V]
     ·cases q8
    have:=cY (P:=P) (o:=⟨none,.store E x (.tmp y),t1,t2,t3,none⟩) rfl a6 (by rw[a7];rfl) a5 (by rw[D];exact q9) (by rw[D];omega) c1 (by rw[D];omega);unfold Oper.wp;rw[this];have Z:aD H.T R (R.setRow (κ r').1 (bk cs ((κ r').2+o') vs)):=ch _ _ _ hT;refine a2 _ _ (ln ?_);have n2:=(W.keep hk).wrote Z c3;obtain⟨lw,ew,a4⟩:=h.agree;have a3:aE ws a d:=a4.mono fun t V=>by
     rw[ew]at L;have:(lw++s.F).length-s.F.length=lw.length:=ξ
     rw[this,List.take_left]at L;obtain⟨z,hz,a8⟩:=List.any_eq_true.1 V;rw[←π a8];exact υ.1 L z hz
    have hF:Has S κ1 N F' (d.put (some y) (.agg vs.toArray)):=by
     have U:=W.has.sub bd;refine⟨by simpa[Act.put]using U.size,fun t u V=>?_⟩;have:y≠t:=fun e=>by subst e;rw[V]at af;cases af
     show(d.tmps.setIfInBounds y _)[t]?=_;rw[Array.getElem?_setIfInBounds_ne this];exact U.get t u V
    have ac:aD H.T l (R.setRow (κ r').1 (bk cs ((κ r').2+o') vs)):=(K_T hk).trans Z fun _ _ e=>e
    exact hQ κ1 _ _ ⟨hF,n2.mem.sub be,n2.ctx,n2.tb,n2.gh⟩ ⟨h.upto,h.keep.trans ac fun _ _ e=>e,a3.put bc _,h.new.trans jU (fun _ _=>rfl) ac h.keep.size⟩
   simpa using Y
  ·cases B
 ·cases B
end
theorem Now.mute{S:Sta}{κ:Kap}{N:Nat}{P:Program}{C:Ctx}{H:Gh}{s:St}{a:Act}{w:World}(h:Now S κ N P C H s a w)(H':Gh)(M':Mm)(e':List Nat)(q:qb s.M M'=true)(u:∀r l,gm M' r=some l→¬ H'.T (κ r).1)(j:∀g,H'.T g→g<w.heap.size)(v:H'.G e' w):
 Now S κ N P { EL:=C.EL } H' ⟨s.F,M',s.k,e'⟩ a w:=
 ⟨h.has,⟨fun r l d=>⟨⟨((h.mem.sub q).get r l d).1.1,u r l d⟩,((h.mem.sub q).get r l d).2⟩⟩,⟨ξ,h.ctx.el,ξ,ξ,(fun _ _ _ _ r l h=>by cases h),ξ⟩,j,v⟩
def vH(l:List Oper)(c:Nat)(a a':Act):Act:={ a' with tmps:=Array.ofFn (n:=a'.tmps.size) fun t=>if dY (l.take c) t then a.tmps.getD t undef else a'.tmps[t] }
theorem sk{l:List Oper}{c:Nat}{a a':Act}(d:a'.tmps.size=a.tmps.size)(t:Nat):(vH l c a a').tmps[t]?=if dY (l.take c) t then a.tmps[t]? else a'.tmps[t]?:=by
 unfold vH;simp only[Array.getElem?_ofFn]
 by_cases h:t<a'.tmps.size
 ·rw[dif_pos h]
  split
  ·rw[Array.getD_eq_getD_getElem?,Array.getElem?_eq_getElem χ];rfl
  ·rw[Array.getElem?_eq_getElem h];rfl
 ·rw[dif_neg h]
  split<;>rw[Array.getElem?_eq_none χ]
structure DrP (S:Sta) (κ:Kap) (N:Nat) (P:Program) (C:Ctx) (l:List Oper) (n c:Nat) (s s1:St) (a:Act):Prop where
 run:drL P C N (l.take c) (l.take c) s=some s1
 cn:c≤n
 nl:n≤l.length
 QX:∀i j d,i<n→j<n→aN l i=some d→aN l j=some d→i=j
 edge:∀i o,l[i]?=some o→∀e∈o.after,Region.binds .any e=true→e.on<i
 opq:∀j d,c≤j→j<l.length→aN l j=some d→gt s.F d=none
 has:Has S κ N s.F a
section
variable {S:Sta} {N:Nat} {P:Program} {C:Ctx} {H:Gh} {l:List Oper} {n c:Nat} {s s1:St} {κ:Kap} {a a':Act} {w:World}
theorem A8{q:Oper→Bool}(g:((l.drop c).all fun o=>q o&&match o.dst with|some d=>(gt s.F d).isNone|none=>true)=true):(∀j d,c≤j→j<l.length→aN l j=some d→gt s.F d=none)∧∀j o,c≤j→l[j]?=some o→q o=true:=by
 have mem:∀j o,c≤j→l[j]?=some o→o∈l.drop c:=fun j o v h=>by
  refine γ (i:=j-c) ?_;rw[List.getElem?_drop,show c+(j-c)=j by omega];exact h
 refine⟨fun j d v h w=>?_,fun j o v h=>?_⟩
 ·have x:l[j]?=some l[j]:=Ez h
  have u:=υ.1 g _ (mem j _ v x);simp only[Bool.and_eq_true]at u;unfold aN at w;rw[x]at w;have B:l[j].dst=some d:=w;have y:=u.2;rw[B]at y
  simpa using y
 ·have u:=υ.1 g _ (mem j o v h)
  simp only[Bool.and_eq_true]at u;exact u.1
theorem DrP.first(h:DrP S κ N P C l n c s s1 a)(u:fJ l n a a'):Has S κ N s.F (vH l c a a')∧fJ l c (vH l c a a') a':=by
 have g:=u.size;refine⟨⟨?_,fun t v j=>?_⟩,⟨?_,rfl,fun t j=>?_⟩⟩
 ·simp[vH,g,h.has.size]
 ·rw[sk g]
  split
  ·exact h.has.get t v j
  ·rename_i w
   rw[u.get t]
   ·exact h.has.get t v j
   ·cases e:(List.range n).any fun i=>aN l i==some t with
    | false=>rfl
    | true =>
     obtain⟨i,hi,d⟩:=List.any_eq_true.1 e;have hi:=List.mem_range.1 hi;have d:aN l i=some t:=eq_of_beq d;have:=h.nl
     rcases Ψ i c with q|q
     ·exact absurd ((bh (l:=l.take c) (t:=t)).2 ⟨i,by rw[List.length_take];omega,by rw[cF q];exact d⟩) w
     ·rw[h.opq i t q χ d]at j;cases j
 ·simp[vH]
 ·rw[sk g,if_neg]
  intro q;obtain⟨i,hi,d⟩:=bh.1 q;rw[List.length_take]at hi;rw[cF χ]at d;have:((List.range c).any fun i=>aN l i==some t)=true:=List.any_eq_true.2 ⟨i,List.mem_range.2 χ,by rw[d];simp⟩;rw[this]at j
  cases j
theorem DrP.dr(h:DrP S κ N P C l n c s s1 a)(g:fJ l n a a'):DrC S κ N P C l c s s1 (vH l c a a'):=⟨h.run,by have:=h.cn;have:=h.nl;omega,fun i j d hi q=>h.QX i j d (by have:=h.cn;omega) (by have:=h.cn;omega),h.edge,(h.first g).1⟩
theorem DrP.none(h:DrP S κ N P C l n c s s1 a){j d:Nat}(w:c≤j)(x:j<n)(u:aN l j=some d):gt s1.F d=none:=by
 obtain⟨_,_,v,_⟩:=dy h.run;have q:dY (l.take c) d=false:=by
  cases e:dY (l.take c) d with
  | false=>rfl
  | true =>
   obtain⟨i,hi,g⟩:=bh.1 e;rw[List.length_take]at hi;rw[cF χ]at g;have:=h.cn;have:=h.QX i j d χ x g u;omega
 rw[v d q];exact h.opq j d w (by have:=h.nl;omega) u
theorem DrP.frame(h:DrP S κ N P C l n c s s1 a){p:Nat→Bool}(F:Fr)(E:fJ l n a a')(R:∀t v,gt F t=some v→gt s1.F t=some v∧(dY l t=false∨∃j,j<n∧aN l j=some t∧p j=true))(Y:∀j,p j=true→j<c→∀d,aN l j=some d→∃v,At a' d v∧Val S κ l s1 j v):Has S κ N F a':=by
 obtain⟨_,_,O,_⟩:=dy h.run;have U:=h.cn;have W:=h.nl;refine⟨E.size.trans h.has.size,fun t v X=>?_⟩;obtain⟨w,u⟩:=R t v X
 rcases u with u|⟨j,V,q,H⟩
 ·have I:dY (l.take c) t=false:=by
   cases e:dY (l.take c) t with
   | false=>rfl
   | true =>
    obtain⟨i,hi,g⟩:=bh.1 e;rw[List.length_take]at hi;rw[cF χ]at g;rw[bh.2 ⟨i,χ,g⟩]at u
    cases u
  rw[O t I]at w;rw[E.get t]
  ·exact h.has.get t v w
  ·cases e:(List.range n).any fun i=>aN l i==some t with
   | false=>rfl
   | true =>
    obtain⟨i,hi,g⟩:=List.any_eq_true.1 e;have hi:=List.mem_range.1 hi;rw[bh.2 ⟨i,χ,eq_of_beq g⟩]at u
    cases u
 ·rcases Ψ j c with D|D
  ·obtain⟨x,Z,B⟩:=Y j H D t q
   obtain⟨J,sv,K,L,Q⟩:=B;have:J=t:=by rw[q]at K;exact(ι K).symm
   subst this;rw[w]at L;obtain rfl:=ι L;have y:J<a'.tmps.size:=by
    rw[E.size,h.has.size];exact(h.dr E).lt D q
   rw[Array.getElem?_eq_getElem y,Z y,Q]
  ·rw[h.none D V q]at w
   cases w
theorem wi{F F1:Fr}(h:gJ F F1=true):∀t v,gt F1 t=some v→gt F t=some v:=fun t v g=>by
 have:=υ.1 h _ (gG g);simp only at this;split at this
 ·rename_i j d
  rw[d,←SV.same_ok this]
 ·cases this
end
def gdT(FA:List (BE×Bool))(ops:List Oper)(F:Fr)(g:Option (Nat×Bool)):Bool:=match gd FA ops F g with|some b=>b|none=>false
theorem DZ{FA:List (BE×Bool)}{ops:List Oper}{F:Fr}{g:Option (Nat×Bool)}(h:gdT FA ops F g=true):gd FA ops F g=some true:=by
 unfold gdT at h;split at h
 ·rename_i b e;rw[e,h]
 ·cases h
def dvB(P:Program)(C:Ctx)(N:Nat)(l:List Oper)(s:St)(c n:Nat)(F1:Fr):Bool:=
 lS l n&&(tP (l.take c) c&&(Nat.ble c n&&(((l.drop c).all fun o=>gdT C.FA l (eN l o F1) o.guard&&match o.dst with|some d=>(gt s.F d).isNone|none=>true) &&
  match drL P C N (l.take c) (l.take c) s with
  | some s1=>gJ s1.F F1
  | none=>false)))
section
variable {S:Sta} {N:Nat} {P:Program} {C:Ctx} {H:Gh} {id:Nat} {l:List Oper} {Q:Exit→Act→World→Prop} {s:St} {κ:Kap} {a:Act} {w:World}
theorem wv(c n:Nat)(F1:Fr)(V:Nat→World→Value→Prop)(hP:P.follows .mixedOrders=true)(hB:dvB P C N l s c n F1=true)(hn:Now S κ N P C H s a w)(a9:∀j w' y v,Kz w' y→V j w' v→V j y v)
 (a8:∀i o,c≤i→i<n→l[i]?=some o→∀a' w' K,Kz w w'→Has S κ N (eN l o F1) a'→(∀j d,c≤j→j<n→(o.after.any fun e=>Region.binds .any e&&e.on==j)=true→aN l j=some d→∃v,At a' d v∧V j w' v) →
  (∀v y,Kz w' y→V i y v→K (a'.put o.dst v) y)→o.wp P a' w' K Q)
 (an:∀o,l[n]?=some o→∀a' w',Kz w w'→fJ l n a a'→Has S κ N F1 a'→(∀j d,c≤j→j<n→aN l j=some d→∃v,At a' d v∧V j w' v)→wpList P l.toArray Q [o] a' w'):
 (Code.region id l.toArray true).wp P Q a w:=by
 simp only[dvB,Bool.and_eq_true]at hB;obtain⟨L,a7,Y,a3,Z⟩:=hB;have Y:=ω Y;have ad:=L;simp only[lS,Bool.and_eq_true,decide_eq_true_eq]at ad;obtain⟨⟨⟨⟨a2,_⟩,_⟩,a5⟩,a6⟩:=ad;split at Z
 ·rename_i s1 hr
  have QX:∀i j d,i<n→j<n→aN l i=some d→aN l j=some d→i=j:=fun i j d hi hj J B=>by
   have h3:=υ.1 a5 i (List.mem_range.2 hi);simp only[Bool.and_eq_true]at h3;have E:=υ.1 h3.2 j (List.mem_range.2 hj);simp only[Bool.or_eq_true,beq_iff_eq,bne_iff_ne]at E
   rcases E with E|E
   ·exact E
   ·exact absurd (J.trans B.symm) E
  obtain⟨opq,X⟩:=A8 a3;have D:DrP S κ N P C l n c s s1 a:=⟨hr,Y,χ,QX,fR a2 a6,opq,hn.has⟩;have a1:Kz w w.drew:=(aD.refl _ _).drew;have O:=wi Z;refine iy n (fun j w' v=>if j<c then Val S κ l s1 j v else V j w' v) (fun w'=>Kz w.drew w') hP L (aD.refl _ _) ?_ ?_
  ·intro i o hi ho a' w' K hI g x hK
   have a0:Kz w w':=a1.trans hI fun _ _ e=>e
   have W:∀{y:World},Kz w' y→∀j u,(if j<c then Val S κ l s1 j u else V j w' u)→if j<c then Val S κ l s1 j u else V j y u:=fun hw j u h=>by
    split
    ·rwa[if_pos (by assumption)]at h
    ·rw[if_neg (by assumption)]at h;exact a9 _ _ _ _ hw h
   rcases Ψ i c with I|I
   ·obtain⟨q1,q2⟩:=D.first g
    refine DrC.step (D.dr g) (H:=H) (w:=w) ⟨q1,hn.mem,hn.ctx,hn.tb,hn.gh⟩ I ho a0 q2 (fun j hj ac d R=>?_) (fun j=>?_) (nY a7 (γ (i:=i) (by rw[List.getElem?_take_of_lt I];exact ho))) fun v y hw hv=>hK v y (hI.trans hw fun _ _ e=>e) (W hw) (by rw[if_pos I];exact hv)
    ·obtain⟨v,J,B⟩:=x j hj χ d R
     rw[if_pos ac]at B;exact⟨v,J,B⟩
    ·rcases Ψ j c with h|h
     ·exact .inl (cF h).symm
     ·exact .inr h
   ·have hg:=X i o I ho
    have af:Has S κ N (eN l o F1) a':=by
     refine D.frame (p:=fun j=>o.after.any fun e=>Region.binds .any e&&e.on==j) _ g (fun t v U=>?_) fun j hj ac d R=>?_
     ·unfold eN at U
      rw[fT (p:=fun t =>!dY l t||o.after.any fun e=>Region.binds .any e&&aN l e.on==some t)]at U;split at U
      ·rename_i hp
       refine⟨O t v U,?_⟩;simp only[Bool.or_eq_true,Bool.not_eq_true']at hp
       rcases hp with hp|hp
       ·exact .inl hp
       ·obtain⟨e,he,E⟩:=Array.any_eq_true'.1 hp
        simp only[Bool.and_eq_true,beq_iff_eq]at E;exact .inr ⟨e.on,by have:=D.edge i o ho e he E.1;omega,E.2,Array.any_eq_true'.2 ⟨e,he,by simp[E.1]⟩⟩
      ·cases U
     ·obtain⟨v,J,B⟩:=x j hj χ d R
      rw[if_pos ac]at B;exact⟨v,J,B⟩
    rw[if_pos (lK af hn.ctx.fa (DZ hg))];refine a8 i o I hi ho a' w' K a0 af (fun j d J B h3 E=>?_) fun v y hw hv=>hK v y (hI.trans hw fun _ _ e=>e) (W hw) (by rw[if_neg χ];exact hv)
    ·obtain⟨v,h5,h6⟩:=x j h3 B d E
     rw[if_neg χ]at h6;exact⟨v,h5,h6⟩
  ·intro o ho a' w' hI g x
   refine an o ho a' w' (a1.trans hI fun _ _ e=>e) g (D.frame (p:=fun j=>decide (j<n)) F1 g (fun t v U=>⟨O t v U,?_⟩) fun j _ hj d R=>?_) fun j d J B h3=>?_
   ·cases e:dY l t with
    | false=>exact .inl rfl
    | true =>
     obtain⟨i,hi,al⟩:=bh.1 e
     rcases Ψ i n with h|h
     ·exact .inr ⟨i,h,al,by simpa using h⟩
     ·obtain⟨_,_,fF,_⟩:=dy hr
      have J:=O t v U;have B:=opq i t χ χ al
      by_cases R:dY (l.take c) t=true
      ·obtain⟨q,hq,a4⟩:=bh.1 R
       rw[List.length_take]at hq;rw[cF χ]at a4;exact .inr ⟨q,χ,a4,η⟩
      ·rw[fF t (by simpa using R),B]at J;cases J
   ·obtain⟨v,J,B⟩:=x j χ d R
    rw[if_pos hj]at B;exact⟨v,J,B⟩
   ·obtain⟨v,h5,h6⟩:=x j B d h3
    rw[if_neg χ]at h6;exact⟨v,h5,h6⟩
 ·cases Z
end
section
variable {S:Sta} {N:Nat} {P:Program} {C:Ctx} {H:Gh} {s:St} {κ:Kap} {a:Act} {w:World} {Q:Exit→Act→World→Prop} {rest:List Code} {F:Fr}
theorem cG{c:Operand}{x y:Code}(v:Bool){e:BE}(l:Now S κ N P C H s a w)(j:ev s.F c=some (.one (.b e)))(g:e.den S=v)(h:wpL P Q (flat (bif v then x else y)++rest) a w):wpL P Q (Code.cond c x y::rest) a w:=by
 show(Code.cond c x y).wp P (Exit.then (wpL P Q rest) Q) a w;have d:=l.has.ev j
 cases v with
 | true=>exact wp_cond_true (by rw[d];simp only[SV.den,Cl.den_b,g]) (qw h)
 | false=>exact wp_cond_false (by rw[d];simp only[SV.den,Cl.den_b,g]) (qw h)
theorem fZ(h:wpL P Q rest a w):wpL P Q (flat Code.skip++rest) a w:=wp_skip h
theorem kB(h:Q .ret a w):wpL P Q (Code.ret::rest) a w:=wp_ret h
theorem vl{id:Nat}{b:Code}(h:wpL P (Exit.inBlock id (Exit.then (wpL P Q rest) Q)) (flat b) a w):wpL P Q (Code.block id b::rest) a w:=wp_block (aY h)
theorem ji{w:World}{b j:Nat}{cs:Array Value}{t:TypeId}{f:Nat×Nat}{v:Value}(h:w.heap[b]?=some (.cells cs t f))(e:cs[j]?=some v):w.cell? ⟨b,j,none⟩=some v:=by
 simp[World.cell?,h,e]
def Row(w:World)(b:Nat)(vs:List Value):Prop:=∃tl E,w.heap[b]?=some (.cells (vs++tl).toArray E (0,0))
theorem Row.lt{vs:List Value}{b:Nat}(h:Row w b vs):b<w.heap.size:=by obtain⟨_,_,h⟩:=h;exact fh h
theorem Row.keep{w':World}{T:Nat→Prop}{b:Nat}{vs:List Value}(h:Row w b vs)(hk:aD T w w')(d:¬ T b):Row w' b vs:=by
 obtain⟨g,E,h⟩:=h;exact⟨g,E,(hk.block b (fh h) d).trans h⟩
theorem Row.cell{b:Nat}{vs:List Value}(h:Row w b vs){j:Nat}{v:Value}(d:vs[j]?=some v):w.cell? ⟨b,j,none⟩=some v:=by
 obtain⟨g,E,h⟩:=h;refine ji h ?_;rw[List.getElem?_toArray,List.getElem?_append_left (ο.1 d).1];exact d
theorem Row.memF{b r:Nat}{l:List Cl}(u:κ r=(b,0))(h:Row w b (l.map (Cl.den S κ))):fP S κ [(r,l)] w:=fun q m d j c g=>by
 rw[cL]at d;split at d
 ·rename_i e
  subst e;obtain rfl:=ι d;rw[u];simp only[Nat.zero_add];exact h.cell (by rw[List.getElem?_map,g];rfl)
 ·cases d
theorem Row.put{b:Nat}{us vs:List Value}{i:Nat}(h:Row w b us)(d:i+vs.length≤us.length):∃cs E0,w.heap[b]?=some (.cells cs E0 (0,0))∧i+vs.length≤cs.size∧Row (w.setRow b (bk cs i vs)) b (us.take i++vs++us.drop (i+vs.length)):=by
 obtain⟨g,E,h⟩:=h;refine⟨_,E,h,η,g,E,?_⟩;rw[setRow_heap w b _ _ E (0,0) h];unfold bk;simp only[List.take_append_of_le_length (show i≤us.length by omega),List.drop_append_of_le_length d,List.append_assoc]
theorem Row.all{b:Nat}{us vs:List Value}(h:Row w b us)(d:us.length=vs.length):∃cs E0,w.heap[b]?=some (.cells cs E0 (0,0))∧0+vs.length≤cs.size∧Row (w.setRow b (bk cs 0 vs)) b vs:=by
 have:=h.put (vs:=vs) (i:=0) χ
 rwa[List.take_zero,List.drop_eq_nil_of_le χ,List.append_nil,List.nil_append]at this
theorem Row.other{b d:Nat}{us:List Value}{cs:Array Value}(h:Row w b us)(g:b≠d):Row (w.setRow d cs) b us:=by
 obtain⟨j,E,h⟩:=h;exact⟨j,E,(setRow_other w d b cs g).trans h⟩
theorem fG.row{T':Nat→Prop}{r:Nat}{M:Mm}{l:List Cl}(x:fG S κ T' M w)(y:gm M r=some l)(v:(κ r).2=0)(d:∃cs E,w.heap[(κ r).1]?=some (.cells cs E (0,0))):Row w (κ r).1 (l.map (Cl.den S κ)):=by
 obtain⟨cs,E,g⟩:=d;refine⟨cs.toList.drop l.length,E,?_⟩;have q:∀(j:Nat) (u:j<l.length),cs[j]?=some (l[j].den S κ):=fun j u=>by
  have h:=(x.get r l y).2 j l[j] (Ez u);rw[v,Nat.zero_add]at h
  simpa[World.cell?,g]using h
 have B:l.length≤cs.size:=by
  rcases ϑ l.length with z|z
  ·omega
  ·have:=q (l.length-1) χ
   have:=(ϱ.1 this).1;omega
 have C:l.map (Cl.den S κ)=cs.toList.take l.length:=by
  refine List.ext_getElem? fun j=>?_
  rcases Ψ j l.length with c|c
  ·rw[List.getElem?_map,Ez c,List.getElem?_take_of_lt c,Array.getElem?_toList,q j c]
   rfl
  ·rw[List.getElem?_eq_none η,List.getElem?_eq_none η]
 rw[g,C,List.take_append_drop]
theorem New.row{T T':Nat→Prop}{k k' r:Nat}{g:World}(h:New T κ k k' g w){M:Mm}{l:List Cl}(x:fG S κ T' M w)(y:gm M r=some l)(j:k≤r)(q:r<k'):Row w (κ r).1 (l.map (Cl.den S κ))∧(κ r).2=0∧g.heap.size≤(κ r).1:=by
 obtain⟨⟨v,_⟩,d,u,_⟩:=h r j q;exact⟨x.row y d u,d,v⟩
theorem Now.row{C:Ctx}{H:Gh}{F:Fr}{M:Mm}{k:Nat}{u:List Nat}(h:Now S κ N P C H ⟨F,M,k,u⟩ a w)(r:Nat)(l:List Cl)(B:(κ r).2=0)(g:Row w (κ r).1 (l.map (Cl.den S κ))):Now S κ N P { EL:=C.EL } H0 ⟨F,(r,l)::M,k,[]⟩ a w:=by
 refine⟨h.has,⟨fun q m d=>?_⟩,⟨ξ,h.ctx.el,ξ,ξ,(fun _ _ _ _ r l h=>by cases h),ξ⟩,fun _ h=>h.elim,trivial⟩;rw[cL]at d;split at d
 ·rename_i e
  subst e;obtain rfl:=ι d;refine⟨⟨g.lt,id⟩,fun j c y=>?_⟩;rw[B,Nat.zero_add];exact g.cell (by rw[List.getElem?_map,y];rfl)
 ·obtain⟨v,x⟩:=h.mem.get q m d
  exact⟨⟨v.1,id⟩,x⟩
theorem Row.some{b:Nat}{vs:List Value}(h:Row w b vs):∃cs E0,w.heap[b]?=some (.cells cs E0 (0,0)):=by obtain⟨d,E,h⟩:=h;exact⟨_,_,h⟩
end
def gB(b n:Nat)(f:List Nat→Option (List Value)):Gh where
 T g:=g=b
 G e w:=∃us:List Value,us.length=n∧Row w b us∧∀vs,f e=some vs→us=vs
 st _ _ _ hk:=fun⟨us,h1,h2,h3⟩=>⟨us,h1,h2.keep hk id,h3⟩
section
variable {S:Sta} {κ:Kap} {N:Nat} {F:Fr} {P:Program} {fn:Func} {R:Ending→World→Prop} {a:Act} {w:World} {M:Mm}
theorem DC{E:TypeId}{r:Nat}{v:SV}(h:ldV P M E (.one (.p r 0))=some v)(d:fP S κ M w):(loadVar E ⟨(κ r).1,(κ r).2,none⟩).run P w=.ok (v.den S κ) w:=by
 have:=AW h d
 simpa[Instr.loadAt,Instr.sureAddr,SV.den,Cl.den_p]using this
theorem BH{t r:Nat}(d:Has S κ N F a)(g:gt F t=some (.one (.p r 0))):(asAddr (a.tmps[t]?.getD undef)).run P w=.ok ⟨(κ r).1,(κ r).2,none⟩ w:=by
 rw[d.get _ _ g];rfl
theorem oK{t r:Nat}{E:TypeId}{v:SV}(l:fn.results = #[.cell t E])(d:Has S κ N F a)(q:gt F t=some (.one (.p r 0)))(u:ldV P M E (.one (.p r 0))=some v)(g:fP S κ M w)(j:a.defers=[])(h:R (.returned (v.den S κ)) w):bodyPost P fn R .ret a w:=
 bodyPost_ret (v:=v.den S κ) (by simp[results,l,BH (P:=P) (w:=w) d q,DC u g]) j h
theorem EK{t r t2:Nat}{E:TypeId}{v v2:SV}(q:fn.results = #[.cell t E,.tmp t2])(d:Has S κ N F a)(u:gt F t=some (.one (.p r 0)))(x:ldV P M E (.one (.p r 0))=some v)(g:gt F t2=some v2)(h:fP S κ M w)(l:a.defers=[])(j:R (.returned (.tuple #[v.den S κ,v2.den S κ])) w):bodyPost P fn R .ret a w:=
 bodyPost_ret (v := .tuple #[v.den S κ,v2.den S κ]) (by simp[results,q,BH (P:=P) (w:=w) d u,DC x h,d.get _ _ g]) l j
theorem rG{t r t2 h:Nat}{E:TypeId}{v v2 g:SV}(y:fn.results = #[.cell t E,.tmp t2,.tmp h])(d:Has S κ N F a)(B:gt F t=some (.one (.p r 0)))(C:ldV P M E (.one (.p r 0))=some v)(j:gt F t2=some v2)(l:gt F h=some g)(q:fP S κ M w)(x:a.defers=[])(u:R (.returned (.tuple #[v.den S κ,v2.den S κ,g.den S κ])) w):bodyPost P fn R .ret a w:=
 bodyPost_ret (v := .tuple #[v.den S κ,v2.den S κ,g.den S κ]) (by simp[results,y,BH (P:=P) (w:=w) d B,DC C q,d.get _ _ j,d.get _ _ l]) x u
end
theorem Cb{S:Sta}{κ:Kap}{N:Nat}{F:Fr}{C:Ctx}{T:Nat→Prop}{G:World→Prop}{P:Program}{CL:Kn}{ops:List Oper}{a:Act}{w:World}{o:Oper}{i:Nat}{v:SV}(h:cfV P C CL F o.op=some (i,v))(W:gQ S κ P ops CL)(E:Has S κ N F a)(D:∀x∈C.FA,x.1.den S=x.2)(B:∀x,C.ET[i]?=some x→Calls P x.1 (x.2.1.map (SV.den S κ)).toArray w fun e' l=>e'=.returned (x.2.2.den S κ)∧aD T w l∧G l){K:Act→World→Prop}{Q:Exit→Act→World→Prop}
 (V:∀w',aD T w w'→G w'→K (a.put o.dst (v.den S κ)) w'):o.wp P a w K Q:=by
 obtain⟨dst,op,ty,pos,af,g⟩:=o;unfold cfV at h;split at h
 ·rename_i t xs ts u
  simp only at u;subst u;split at h
  ·rename_i j as Y has
   split at h
   ·rename_i q f d I
    have H:=W.cl _ (List.mem_of_find?_eq_some I);have y:=List.find?_some I;simp only at H y;have y:=π y;subst y
    cases hb:ga P f with
    | false=>rw[hb]at h;cases h
    | true =>
     rw[hb]at h;obtain⟨_,hx⟩:=rO h;have X:=B _ (by simpa using hx);have Z:a.eval (.tmp t)=.func (.func f) #[] (d.map (SV.den S κ)).toArray:=by
      rw[←H];exact E.ev (x := .tmp t) Y
     have J:(#[]++xs.map a.eval++(d.map (SV.den S κ)).toArray:Array Value)=(((as++d).map (nrm C.FA)).map (SV.den S κ)).toArray:=by
      apply Array.ext'
      have:=ii E has;have U:SV.den S κ ∘ nrm C.FA=SV.den S κ:=funext fun v=>uu D v
      simp[this,U]
     unfold Oper.wp;rw[rU Z,cC hb,J,List.map_append (f:=nrm C.FA)];refine X.mono fun e' l ⟨L,O,R⟩=>?_
     subst L;exact V l O R
   ·cases h
  ·cases h
 ·cases h
def Dk(P:Program)(C:Ctx)(CL:Kn)(l:List Oper)(dc ie:Nat)(s:St)(o:Oper):Option SV:=
 bif o.dst==some dc then(match o.guard,cfV P C CL (eN l o s.F) o.op with
  | none,some (i,v)=>bif Nat.beq i ie then some v else none
  | _,_=>none)
 else dr1 P { C with ET:=[] } l s o
def Ej(P:Program)(C:Ctx)(CL:Kn)(N:Nat)(l:List Oper)(s:St)(dc ie:Nat)(ws:Nat→Bool)(F':Fr)(M':Mm)(k':Nat):Bool:=
 iz l l.length&&(tP l l.length&&(dY l dc&&match drG N (Dk P C CL l dc ie) l s with
  | some s1=>gH (some (.n,s1)) s .n ws F' M' k' s.e
  | none=>false))
theorem EF{S:Sta}{N:Nat}{P:Program}{C:Ctx}{H:Gh}{CL:Kn}{id:Nat}{ops:Array Oper}{rest:List Code}{Q:Exit→Act→World→Prop}{s:St}{κ:Kap}{a:Act}{w:World}(dc W:Nat)(ws:Nat→Bool)(F':Fr)(M':Mm)(k':Nat)
 (hP:P.follows .mixedOrders=true)(hB:Ej P C CL N ops.toList s dc W ws F' M' k'=true)(R:Now S κ N P { C with ET:=[] } H s a w)(hL:gQ S κ P ops.toList CL)
 (bf:∀x,C.ET[W]?=some x→∀w',Kz w w'→H.G s.e w'→Calls P x.1 (x.2.1.map (SV.den S κ)).toArray w' fun e' u=>e'=.returned (x.2.2.den S κ)∧aD H.T w' u∧H.G (W::s.e) u)
 (hQ:∀a' w',Now S κ N P { C with ET:=[] } H ⟨F',M',k',W::s.e⟩ a' w'→kj H.T κ κ s.k k' ws a a' w w'→wpL P Q rest a' w'):wpL P Q (Code.region id ops true::rest) a w:=by
 obtain⟨l,hl⟩:∃l,l=ops.toList:=⟨_,rfl⟩;obtain rfl:ops=l.toArray:=by rw[hl]
 rw[←hl]at hB;clear hl;show(Code.region id l.toArray true).wp P (Exit.then (wpL P Q rest) Q) a w;simp only[Ej,Bool.and_eq_true]at hB;obtain⟨hT,hg,bc,U⟩:=hB;have al:=hT;simp only[iz,Bool.and_eq_true,decide_eq_true_eq]at al;obtain⟨⟨_,bd⟩,be⟩:=al;split at U
 ·rename_i s1 hr
  have QX:=lg bd;have D:Dr S κ N (Dk P C CL l dc W) l l.length s s1 a:=⟨by rw[List.take_length];exact hr,Γ _,QX,fR rfl be,R.has⟩;obtain⟨c,a3,X⟩:=bh.1 bc;have L:Kz w w.drew:=(aD.refl _ _).drew;refine fV l.length (fun done w'=>if done c then aD H.T w.drew w'∧H.G (W::s.e) w' else Kz w.drew w') (fun j _ v=>Val S κ l s1 j v) hP hT (aD.refl _ _) ?_ ?_
  ·intro i o hi a6 S' a' w' K bb a7 y B E hK
   have ac:aD H.T w w':=by
    by_cases h:S' c=true
    ·rw[if_pos h]at y;exact(K_T L).trans y.1 fun _ _ e=>e
    ·rw[if_neg h]at y;exact(K_T L).trans (K_T y) fun _ _ e=>e
   have a8:∃e,H.G e w':=by
    by_cases h:S' c=true
    ·rw[if_pos h]at y;exact⟨_,y.2⟩
    ·rw[if_neg h]at y;exact⟨_,H.st _ _ _ (L.trans y fun _ _ e=>e) R.gh⟩
   obtain⟨e0,a1⟩:=a8;obtain⟨sm,d,v,hM,Y,g,hh,I⟩:=D.op hi a6 B fun j hj bo d Y=>E j (a7 j hj) bo d Y
   rw[List.take_length]at hh;have a9:fP S κ (sm.M++C.GM) w':=by rw[hM];exact(R.mem.keep ac).f.app (R.ctx.gm _ _ ac a1)
   have a0:=R.ctx.keep ac;have a4:aN l i=some d:=by unfold aN;rw[a6];exact Y
   -- an operation that leaves the old memory
   have af:∀{u:World},i≠c→Kz w' u→if(i==c||S' c)=true then aD H.T w.drew u∧H.G (W::s.e) u else Kz w.drew u:=fun{u} J V=>by
    have:(c==i)=false:=by simpa using fun e=>J e.symm
    by_cases h:S' c=true
    ·rw[if_pos h]at y
     rw[if_pos (by simp[h])];exact⟨y.1.trans (K_T V) fun _ _ e=>e,H.st _ _ _ V y.2⟩
    ·rw[if_neg h]at y
     rw[if_neg (by simp[h];exact J)];exact y.trans V fun _ _ e=>e
   have bs:(c==i)=(i==c):=by
    by_cases e:c=i
    ·rw[e]
    ·rw[beq_false_of_ne e,beq_false_of_ne fun h=>e h.symm]
   unfold Dk at g
   cases hdx:o.dst==some dc with
   | true =>
    rw[hdx]at g;simp only[cond_true]at g;have J:i=c:=QX i c dc hi a3 (by rw[a4,←Y,eq_of_beq hdx]) X;split at g
    ·rename_i q v' bm bg
     cases e:Nat.beq q W with
     | false=>rw[e]at g;cases g
     | true =>
      rw[e]at g;obtain rfl:=ι g;have hq:=π e;subst hq J;rw[bb]at y;have y:Kz w.drew w':=y;rw[if_pos (by unfold Region.wanted;rw[bm])];refine Cb bg hL hh R.ctx.fa (fun x hx=>bf x hx w' (L.trans y fun _ _ e=>e) (H.st _ _ _ (L.trans y fun _ _ e=>e) R.gh)) fun u V hG=>hK _ u ?_ (fun _ _ _ h=>h) I
      rw[if_pos ξ];exact⟨(K_T y).trans V fun _ _ e=>e,hG⟩
    ·cases g
   | false =>
    rw[hdx]at g;simp only[cond_false]at g;have J:i≠c:=fun e=>by
     subst e;rw[a4]at X;rw[Y,X]at hdx;simp at hdx
    have hy:∀u v',Kz w' u→Val S κ l s1 i v'→K (a'.put o.dst v') u:=fun u v' V ad=>hK v' u (by have:=af J V;rw[←bs]at this;exact this) (fun _ _ _ h=>h) ad
    unfold dr1 at g;split at g
    ·rename_i Z
     rw[if_pos (lK hh R.ctx.fa Z)];split at g
     ·rename_i v' ad
      obtain rfl:=ι g;unfold Oper.wp;rw[oS ad hh a9 a0];exact hy _ _ (aD.refl _ _) I
     ·exact ve g hh a0 a1 fun u V=>hy _ _ V I
    ·rename_i Z
     rw[if_neg (by rw[lK hh R.ctx.fa Z];simp)];obtain rfl:=ι g;exact hy _ _ (aD.refl _ _) I
    ·cases g
  ·intro S' a' w' a2 y B E
   rw[if_pos (a2 c a3)]at y;obtain⟨f1,f2,f3,f4,m,f5,f6⟩:=D.fin B fun j hj d Y=>E j hj d Y
   have a5:aD H.T w w':=(K_T L).trans y.1 fun _ _ e=>e
   have n1:Now S κ N P { C with ET:=[] } H s1 a' w'→dh H.T κ κ s s1 a a' w w'→_:=fun bp bl=>fO U bp bl
   have n2:=R.wrote a5 y.2;have O:=U;simp only[gH,Bool.and_eq_true]at O;obtain⟨h1,h2,h3,h4,h6,h5⟩:=O;have h4:=π h4;refine hQ a' w' ⟨f1.sub h2,?_,n2.ctx,n2.tb,y.2⟩ ⟨fun _ _=>rfl,a5,f6.mono fun t ht=>?_,by rw[←h4,f3];exact jU⟩
   ·have:=n2.mem
    rw[←f2]at this;exact this.sub h3
   ·rw[f5]at h5
    have:(m++s.F).length-s.F.length=m.length:=ξ
    rw[this,List.take_left]at h5;obtain⟨z,hz,bt⟩:=List.any_eq_true.1 ht;rw[←π bt];exact υ.1 h5 z hz
 ·cases U
theorem y8{S:Nat→Prop}{w w':World}{B:Nat}{e:TypeId}{size:Nat}{v:Value}{n:Nat}{xs:List Value}(h:w.ownsRow B e size v n xs)(hk:aD S w w')(x:∀k,v.ownBlock=some k→¬ S k):w'.ownsRow B e size v n xs:=by
 refine⟨h.1,?_⟩
 rcases h.2 with l|⟨g,d,j,rfl,u,hh,q⟩
 ·exact .inl l
 ·exact .inr ⟨g,d,j,rfl,u,by rw[hk.block g (ϱ.1 hh).1 (x g rfl)];exact hh,q⟩
def aB2(P:Program)(N:Nat)(ops:List Oper)(F:Fr)(M:Mm)(k i:Nat)(t:TypeId)(j:Nat)(xv:SV)(m r:Nat)(F':Fr):Bool:=
 match stL P {} N ops (ops.take i) ⟨F,M,k,[]⟩,ops.drop i with
 | some s1,[⟨some d1,.buildSlice t1 1 ps,_,_,_,none⟩,⟨some d2,.call ⟨.builtin .append,xs,ts⟩,_,_,_,none⟩,⟨some d3,.fieldAddr E (.tmp tz) fi,_,_,_,none⟩,⟨none,.store E4 (.tmp d4) (.tmp y),_,_,_,none⟩] =>
  match ps.toList,xs.toList,ts.toList with
  | [(0,x)],[.tmp s,.tmp y1],[t2,t3] =>
   Nat.beq t1 t&&(Nat.beq t2 t&&(Nat.beq t3 t&&(Nat.beq y1 d1&&(Nat.beq y d2&&(Nat.beq d4 d3&&(!Nat.beq s d1&&((match ev s1.F x with|some v=>SV.same v xv|none=>false)&&((match gt s1.F s with|some v=>SV.same v (.one (.v j))|none=>false) &&
    ((match gt s1.F tz with|some v=>SV.same v (.one (.p r 0))|none=>false)&&(!Nat.beq tz d1&&(!Nat.beq tz d2&&(!Nat.beq d2 d3&&((match opV P {} [(tz,.one (.p r 0))] [] (.fieldAddr E (.tmp tz) fi)with|some v=>SV.same v (.one (.p r 0))|none=>false)&&(Nat.beq (P.cellsOf E4) 1&&(Nat.ble (r+1) k &&
    (Nat.ble (d1+1) N&&(Nat.ble (d2+1) N&&(Nat.ble (d3+1) N&&(gJ s1.F F'&&(lM (lo m) F'&&(F'.all (fun z =>!Nat.beq z.1 d1&&(!Nat.beq z.1 d2 && !Nat.beq z.1 d3))&&(xv.sc k&&F'.all fun x=>x.2.sc k))))))))))))))))))))))
  | _,_,_=>false
 | _,_=>false
theorem EJ{S:Sta}{N:Nat}{P:Program}{H:Gh}{id:Nat}{ops:Array Oper}{rest:List Code}{Q:Exit→Act→World→Prop}{F:Fr}{M:Mm}{k:Nat}{κ:Kap}{a:Act}{w:World}{z n size bytes:Nat}{e:TypeId}{v u:Value}{us:List Value}{xs ys:List Value}{zb:Nat}
 (i:Nat)(t:TypeId)(j:Nat)(xv:SV)(m r:Nat)(F':Fr)(hB:aB2 P N ops.toList F M k i t j xv m r F'=true)(hn:Now S κ N P {} H ⟨F,M,k,[]⟩ a w)
 (hT:yv P t e size bytes)(hv:S.o j=v)(a8:w.ownsRow z e size v n xs)(hz:z≤w.heap.size)(hy:(xv.den S κ).cells=ys.toArray)(b5:ys.length=size)(b3:∀u∈ys,u.oneCell'=true)(bd:n+1≤maxLen)(bg:(n+1)*bytes≤140737488355328)
 (hκ:κ r=(zb,0))(ad:Row w zb (u::us))(a9:v.ownBlock≠some zb)
 (hQ:∀d a' w',w'.ownsRow z e size d (n+1) (xs++ys)→Row w' zb (d::us)→aD (fun g=>v.ownBlock=some g∨g=zb) w w'→(∀g,d.ownBlock=some g→v.ownBlock=some g∨w.heap.size≤g)→Has (S.put m { o:=fun _=>d }) κ N F' a'→a'.defers=a.defers→wpL P Q rest a' w'):wpL P Q (Code.region id ops false::rest) a w:=by
 unfold aB2 at hB;split at hB
 ·rename_i s1 d1 t1 ps _ _ _ d2 c8 ts _ _ _ d3 E tz fi c7 cf bc E4 Z y dk di c9 e1 e2
  split at hB
  ·rename_i x s y1 t2 t3 p1 p2 p3
   simp only[Bool.and_eq_true]at hB;obtain⟨q1,q2,q3,q4,q5,q6,q7,q8,q9,L,cj,cm,cp,O,a3,a4,cu,cv,cw,cx,cy,c4,c5,c6⟩:=hB;have q1:=π q1;have q2:=π q2;have q3:=π q3;have q4:=π q4;have q5:=π q5;have q6:=π q6;have a3:=π a3;have a4:=ω a4;subst q1 q2 q3 q4 q5 q6;obtain rfl:ps = #[(0,x)]:=Array.ext' p1;obtain rfl:c8 = #[.tmp s,.tmp y1]:=Array.ext' p2;obtain rfl:ts = #[t3,t3]:=Array.ext' p3;have nb:∀{p q:Nat},(!Nat.beq p q)=true→p≠q:=fun h e=>by subst e;simp at h
   have n7:=nb q7;have cb:=nb cj;have cc:=nb cm;have cd:=nb cp;show(Code.region id ops false).wp P (Exit.then (wpL P Q rest) Q) a w;refine wp_region_list ?_;obtain⟨it,zt,hi,bb,X,bw,bx⟩:=hT.info;have ac:=List.take_append_drop i ops.toList;rw[e2]at ac;have bt:Now S κ N P {} ⟨fun _=>False,fun _ _=>True,fun _ _ _ _ _=>trivial⟩ ⟨F,M,k,[]⟩ a w:=
    ⟨hn.has,⟨fun r l h=>⟨⟨(hn.mem.get r l h).1.1,fun h=>h⟩,(hn.mem.get r l h).2⟩⟩,⟨ξ,ξ,ξ,ξ,(fun _ _ _ _ r l h=>by cases h),ξ⟩,fun _ h=>h.elim,trivial⟩
   have step:wpList P ops.toList.toArray (Exit.then (wpL P Q rest) Q) ops.toList a w:=by
    conv=>arg 4;rw[←ac]
    refine dj e1 bt fun κ1 U w1 Y R=>?_
    have al:Kz w w1:=R.keep;split at q8
    ·rename_i vx b1
     split at q9
     ·rename_i vs b0
      split at L
      ·rename_i vz b2
       have q8:=SV.same_ok q8;have q9:=SV.same_ok q9;have L:=SV.same_ok L;subst q8 q9 L;have ca:κ1 r=(zb,0):=(R.upto r a4).trans hκ;have ex:U.eval x=vx.den S κ:=by rw[Y.has.ev b1,SV.sc_ok R.upto c5]
       have es:U.tmps[s]?=some v:=by rw[Y.has.get _ _ b0,←hv];rfl
       have ez:U.tmps[tz]?=some (.pointer (some ⟨zb,0,none⟩)):=by
        rw[Y.has.get _ _ b2];show some (Value.pointer (some ⟨(κ1 r).1,(κ1 r).2+0,none⟩))=_;rw[ca]
       have an:=a8.kept (al.grown none) (by cases v.ownBlock<;>simp);have bl:y1<U.tmps.size:=by rw[Y.has.size];exact ω cu
       have dc:w.heap.size≤w1.heap.size:=al.size;refine wpList_buildSlice rfl t3 e 1 _ rfl ys.toArray it zt hT.un hi bb (by rw[X];have:=hT.small;omega) (by rw[X];have:=hT.pos;omega) ?_ ?_
       ·simp only[List.map_toArray,List.map_cons,List.map_nil]
        rw[X,ex,lP size _ _ (by rw[hy];simpa using b5) ξ,hy]
       have W:Kz w1 (w1.alloc (.cells ys.toArray e)):=(aD.refl _ _).alloc _;refine wpList_append_lies _ rfl (.tmp s) (.tmp y1) t3 rfl z e it zt size bytes hT.un hi bb X bw bx hT.pos v n xs ?_ (an.alloc _) ⟨w1.heap.size,0,none⟩ 1 1 ys ?_ χ (fun j u hu=>?_) b3 χ bd bg (by have:=W.size;omega) _ rfl ?_
       ·show(U.tmps.setIfInBounds y1 _).getD s undef=v
        rw[Array.getD_eq_getD_getElem?,Array.getElem?_setIfInBounds_ne (fun h=>n7 h.symm),es];rfl
       ·show(U.tmps.setIfInBounds y1 _).getD y1 undef=_
        rw[Array.getD_eq_getD_getElem?,Array.getElem?_setIfInBounds_self_of_lt bl];rfl
       ·rw[gM,World.cell?_alloc_at _ _ _ _ rfl]
        simp[hu]
       intro g af w4 h1 h2 V h4;have bm:y<U.tmps.size:=by rw[Y.has.size];exact ω cv
       have bo:Z<U.tmps.size:=by rw[Y.has.size];exact ω cw
       have a6:aD (fun g=>v.ownBlock=some g) w w4:=(al.trans W fun _ _ e=>e).mono (fun _ _ e=>e.elim) |>.trans (aD.of_grown h2 fun k e=>e) fun _ _ e=>e
       have a0:Row w4 zb (u::us):=ad.keep a6 a9;obtain⟨d,D⟩:∃d,d=Value.slice (some ⟨g,0,none⟩) (n+1) af:=⟨_,rfl⟩;have bp:g≠zb:=fun e=>by
        rcases V with V|V
        ·exact a9 (by rw[←e];exact V)
        ·have:=ad.lt
         have:=W.size;omega
       obtain⟨I,B⟩:∃I:Act,I=(U.put (some y1) (.slice (some ⟨w1.heap.size,0,none⟩) 1 1)).put (some y) (.slice (some ⟨g,0,none⟩) (n+1) af):=⟨_,rfl⟩;have J:I.tmps.size=N:=by rw[B];simpa[Act.put]using Y.has.size
       have b6:I.tmps[tz]?=some (.pointer (some ⟨zb,0,none⟩)):=by
        rw[B];simp only[Act.put];rw[Array.getElem?_setIfInBounds_ne (fun h=>cc h.symm),Array.getElem?_setIfInBounds_ne (fun h=>cb h.symm)];exact ez
       have b4:I.tmps[y]?=some d:=by
        rw[B,D];simp only[Act.put];rw[Array.getElem?_setIfInBounds_self_of_lt (by simpa using bm)]
       have be:Has S κ N [(tz,.one (.p r 0))] I:=⟨J,fun t u ht=>by
        rw[ba]at ht;split at ht
        ·rename_i ee
         subst ee;obtain rfl:=ι ht;rw[b6];show _=some (Value.pointer (some ⟨(κ r).1,(κ r).2+0,none⟩));rw[hκ]
        ·cases ht⟩
       rw[show((U.put (some y1) (.slice (some ⟨w1.heap.size,0,none⟩) 1 1)).put (some y) (.slice (some ⟨g,0,none⟩) (n+1) af))=I from B.symm];split at O
       ·rename_i vf bz
        have O:=SV.same_ok O;subst O;refine bF rfl fun K hK=>?_
        unfold Oper.wp;rw[oS (P:=P) (S:=S) (κ:=κ) (C:={}) (H:=H0) (M:=[]) (w:=w4) (o:={ dst:=some Z,op := .fieldAddr E (.tmp tz) fi,type:=c7,pos:=cf,after:=bc,guard:=none }) bz be (fun _ _ h=>by cases h) ⟨ξ,ξ,ξ,ξ,(fun _ _ _ _ r l h=>by cases h),ξ⟩];have e0:SV.den S κ (.one (.p r 0))=.pointer (some ⟨zb,0,none⟩):=by
         show Value.pointer (some ⟨(κ r).1,(κ r).2+0,none⟩)=_;rw[hκ]
        rw[e0];refine hK _ _ (bF rfl fun K2 bf=>?_);have ed:(I.put (some Z) (.pointer (some ⟨zb,0,none⟩))).eval (.tmp Z)=.pointer (some ⟨zb,0,none⟩):=At.eval At.put_self (by simp[Act.put,J];rw[←Y.has.size];exact bo);have ey:(I.put (some Z) (.pointer (some ⟨zb,0,none⟩))).eval (.tmp y)=d:=by
         show(I.tmps.setIfInBounds Z _).getD y undef=d;rw[Array.getD_eq_getD_getElem?,Array.getElem?_setIfInBounds_ne (fun h=>cd h.symm),b4];rfl
        obtain⟨cs,E0,c1,c2,c3⟩:=a0.put (vs:=[d]) (i:=0) ξ;unfold Oper.wp;rw[cY (P:=P) (vs:=[d]) (b:=zb) (off:=0) (cs:=cs) (E0:=E0) (x := .tmp Z) (y := .tmp y) rfl ed (by rw[ey,D];rfl) (fun x hx=>by obtain rfl:=ρ.1 hx;rw[D];rfl) a3 Nat.one_pos c1 (by simpa using c2)];have a7:aD (fun g=>g=zb) w4 (w4.setRow zb (bk cs 0 [d])):=ch _ _ _ rfl;refine bf _ _ (ln ?_);refine hQ d _ _ ?_ ?_ ?_ ?_ ?_ ?_
        ·rw[D]
         exact y8 h1 (by rw[←D];exact a7) fun k hk e=>bp ((show g=k from by simpa[Value.ownBlock]using hk).trans e)
        ·simpa using c3
        ·exact(a6.mono fun _ _ h =>.inl h).trans (a7.mono fun _ _ h =>.inr h) fun _ _ h=>h
        ·intro g' a5
         rw[D]at a5;obtain rfl:g=g':=by simpa[Value.ownBlock]using a5
         rcases V with V|V
         ·exact .inl V
         ·exact .inr (by rw[V];have:=W.size;omega)
        ·have hF:=((Y.has.sub cx).back R.upto c6).on (aQ S m { o:=fun _=>d }) cy
         refine⟨by simpa[Act.put]using J,fun t u ht=>?_⟩;have h5:=υ.1 c4 _ (gG ht);simp only[Bool.and_eq_true]at h5;show((I.put (some Z) _).tmps)[t]?=_;simp only[Act.put];rw[Array.getElem?_setIfInBounds_ne (fun h=>nb h5.2.2 h.symm),B];simp only[Act.put];rw[Array.getElem?_setIfInBounds_ne (fun h=>nb h5.2.1 h.symm),Array.getElem?_setIfInBounds_ne (fun h=>nb h5.1 h.symm)];exact hF.get t u ht
        ·rw[B]
         obtain⟨lw,ew,bs⟩:=R.agree;exact bs.defers
       ·cases O
      ·cases L
     ·cases q9
    ·cases q8
   simpa using step
  ·cases hB
 ·cases hB
def vBF(P:Program)(E0:List (Nat×Nat×IE×Nat×Nat))(N rb:Nat)(ops:List Oper)(F:Fr)(M:Mm)(k i jf:Nat)(f:FuncId)(as caps:List SV)(rv:SV)(m:Nat)(ws:Nat→Bool)(F':Fr)(M':Mm)(k':Nat):Bool:=
 match stL P { EL:=E0 } N ops (ops.take i) ⟨F,M,k,[]⟩,ops[i]? with
 | some s1,some o =>
  match gd [] ops s1.F o.guard,o.op,o.dst with
  | some true,.call ⟨.value (.tmp tf),xs,_⟩,some dt =>
   ((match gt s1.F tf with|some v=>SV.same v (.one (.v jf))|none=>false)&&((gm s1.M rb).isNone&&s1.M.all fun x=>Nat.ble (x.1+1) s1.k))&&((match evs s1.F xs.toList with|some l=>kF l as|none=>false)&&(ga P f&&(Nat.ble (dt+1) N&&(lM (lo m) s1.F&&(mJ (lo m) s1.M&&(vZ E0 m k&&(eqL s1.e []&&((as++caps).all (SV.sc k)&&(rv.sc k&&(((s1.F.take (s1.F.length-F.length)).all fun z=>ws z.1)&&(ws dt &&
    gH ((stL P { EL:=E0 } N ops (ops.drop (i+1)) ⟨(dt,rv)::s1.F,s1.M,s1.k,[]⟩).map fun s=>(.n,s)) ⟨(dt,rv)::s1.F,s1.M,s1.k,[]⟩ .n ws F' M' k' [])))))))))))
  | _,_,_=>false
 | _,_=>false
theorem EC{S:Sta}{N:Nat}{P:Program}{E0:List (Nat×Nat×IE×Nat×Nat)}{T2:Nat→Prop}{id:Nat}{ops:Array Oper}{rest:List Code}{Q:Exit→Act→World→Prop}{F:Fr}{M:Mm}{k:Nat}{κ:Kap}{a:Act}{w:World}
 (i jf rb:Nat)(f:FuncId)(as q:List SV)(D:SV)(m:Nat)(Φ:Sta→World→Prop)(ws:Nat→Bool)(F':Fr)(M':Mm)(k':Nat)(H:vBF P E0 N rb ops.toList F M k i jf f as q D m ws F' M' k'=true)(hn:Now S κ N P { EL:=E0 } H0 ⟨F,M,k,[]⟩ a w)
 (ad:∀r,r<k→r=rb∨¬ T2 (κ r).1)(al:∀g,T2 g→g<w.heap.size)(a0:S.o jf=.func (.func f) #[] (q.map (SV.den S κ)).toArray)
 (hf:∀w',Kz w w'→Calls P f ((as++q).map (SV.den S κ)).toArray w' fun e ac=>∃d,Φ d ac∧e=.returned (D.den (S.put m d) κ)∧aD T2 w' ac)
 (hQ:∀κ' a' w' d w1,Φ d w1→Kz w1 w'→Now (S.put m d) κ' N P { EL:=E0 } H0 ⟨F',M',k',[]⟩ a' w'→cU k κ κ'→aD T2 w w'→aE ws a a'→wpL P Q rest a' w'):wpL P Q (Code.region id ops false::rest) a w:=by
 unfold vBF at H;split at H
 ·rename_i s1 o e1 e2
  split at H
  ·rename_i tf xs ts dt hg V C
   simp only[Bool.and_eq_true]at H;obtain⟨X,Z,q3,q4,q5,q6,q7,q8,q9,a7,J,a8,y⟩:=H;have q8:=mT q8;show(Code.region id ops false).wp P (Exit.then (wpL P Q rest) Q) a w;refine wp_region_list ?_;have v:ops.toList=ops.toList.take i++(o::ops.toList.drop (i+1)):=by
    have hi:=(ο.1 e2);obtain⟨hi,hv⟩:=hi;rw[←hv,←List.drop_eq_getElem_cons hi,List.take_append_drop]
   have B:wpList P ops.toList.toArray (Exit.then (wpL P Q rest) Q) (ops.toList.take i++(o::ops.toList.drop (i+1))) a w:=by
    refine dj e1 hn fun R L w1 I u=>?_
    refine Lz fun K hK=>?_
    have hw:=lK I.has I.ctx.fa hg;rw[if_pos hw];obtain⟨dst,op,ty,pos,af,gu⟩:=o;simp only at V C;subst V C;split at Z
    ·rename_i l U
     have Z:=fg Z;subst Z;obtain⟨X,Y,a9⟩:=X;have q9:=(List.all_append▸q9:(l.all (SV.sc k)&&q.all (SV.sc k))=true);rw[Bool.and_eq_true]at q9;have ht:L.eval (.tmp tf)=.func (.func f) #[] (q.map (SV.den S κ)).toArray:=by
      split at X
      ·rename_i vt a5
       rw[I.has.ev (x := .tmp tf) a5,SV.same_ok X];exact a0
      ·cases X
     have E:(#[]++xs.map L.eval++(q.map (SV.den S κ)).toArray:Array Value)=((l++q).map (SV.den S κ)).toArray:=by
      apply Array.ext'
      have h1:=ii I.has U;have h2:l.map (SV.den S R)=l.map (SV.den S κ):=List.map_congr_left fun x hx=>SV.sc_ok u.upto (υ.1 q9.1 x hx)
      simp[h1,h2]
     unfold Oper.wp;rw[rU ht,cC q3,E];refine(hf w1 u.keep).mono fun e w2 ⟨d,hd,he,hk⟩=>?_
     subst he;have W:Now S R N P { EL:=E0 } H0 s1 L w2:=by
      refine⟨I.has,⟨fun r l U=>?_⟩,⟨ξ,I.ctx.el,ξ,ξ,(fun _ _ _ _ r l h=>by cases h),ξ⟩,fun _ h=>h.elim,trivial⟩;obtain⟨⟨h1,_⟩,h3⟩:=I.mem.get r l U;have a4:¬ T2 (R r).1:=by
       rcases Ψ r k with c|c
       ·rw[u.upto r c]
        rcases ad r c with e|e
        ·subst e;rw[U]at Y;cases Y
        ·exact e
       ·have O:=ω (υ.1 a9 _ (gI U))
        have h9:=(u.new r c O).1.1;intro h8;have:=al _ h8;omega
      exact⟨⟨Θ h1 hk.size,fun h=>h⟩,fun j c hj=>(hk.cell (p:=⟨_,_,none⟩) h1 a4).trans (h3 j c hj)⟩
     have hA:=aQ S m d;have O:D.den (S.put m d) κ=D.den (S.put m d) R:=(SV.sc_ok u.upto a7).symm;show K (L.put (some dt) (D.den (S.put m d) κ)) w2;rw[O];have n3:Now (S.put m d) R N P { EL:=E0 } H0 ⟨(dt,D)::s1.F,s1.M,s1.k,[]⟩ (L.put (some dt) (D.den (S.put m d) R)) w2:=
      ⟨(W.has.on hA q5).put (ω q4),W.mem.on hA q6,mX W.ctx rfl q7 hA,W.tb,by have:=W.gh;rw[q8]at this;exact this⟩
     refine hK _ _ ?_
     cases e3:stL P { EL:=E0 } N ops.toList (ops.toList.drop (i+1)) ⟨(dt,D)::s1.F,s1.M,s1.k,[]⟩with
     | none=>rw[e3]at y;cases y
     | some s2 =>
      rw[e3]at y;refine uT e3 n3 fun κ2 a2 w3 n4 w4=>?_
      obtain⟨_,_,n5,p5⟩:=fO y n4 w4;obtain⟨lw,ew,a3⟩:=u.agree;refine hQ κ2 a2 w3 d w2 hd w4.keep n5 (fun r O=>(p5.upto r (Θ O u.le)).trans (u.upto r O)) (((u.keep.mono fun _ _ h=>h.elim).trans hk fun _ _ e=>e).trans (p5.keep.mono fun _ _ h=>h.elim) fun _ _ e=>e) ?_;have an:aE ws a L:=a3.mono fun t ht=>by
       rw[ew]at J;have:(lw++F).length-F.length=lw.length:=ξ
       rw[this,List.take_left]at J;obtain⟨z,hz,a6⟩:=List.any_eq_true.1 ht;rw[←π a6];exact υ.1 J z hz
      exact(an.put a8 _).trans p5.agree fun _ h=>h
    ·cases Z
   rw[←v]at B
   simpa using B
  ·cases H
 ·cases H
