import Derived.Test.YthobcefghkeddaaGreatDoorRsp
import Derived.Great.BuildSlice
set_option maxRecDepth 100000
set_option linter.all false
set_option maxHeartbeats 4000000
namespace Go.Proofs.YthobcefghkeddaaGreatDoor
namespace Rs
open Go.RowKit
theorem CU(l:List Value):∀(k:Nat) (cs:Array Value),k+l.length≤cs.size→(l.zipIdx k).foldl (fun(cs:Array Value) (x:Value×Nat)=>cs.setIfInBounds x.2 x.1) cs=(cs.toList.take k++l++cs.toList.drop (k+l.length)).toArray:=by
 induction l with
 | nil=>intro k cs h;simp
 | cons x l ih =>
  intro k cs h;simp only[List.length_cons]at h;rw[List.zipIdx_cons,List.foldl_cons,ih (k+1) _ η]
  apply Array.ext'
  simp only[List.length_cons,Array.toList_setIfInBounds];have hk:k<cs.toList.length:=η
  rw[List.take_succ_eq_append_getElem (by simpa using hk),List.take_set_of_le χ,List.getElem_set_self,List.drop_set_of_lt χ];simp[Nat.add_assoc,Nat.add_comm 1]
theorem lL(n:Nat)(z:Array Value)(v:Value)(h:v.cells.size=n)(d:z.size=n):Instr.fill (fun i=>some (i*n,n)) z [(0,v)]=some v.cells:=by
 have g:¬ ((v.cells.size≠n||0*n+v.cells.size>z.size)=true):=by simp[h,d]
 simp only[Instr.fill];rw[if_neg g]
 congr 1
 have:=CU v.cells.toList 0 z η;simp only[Nat.zero_mul,Nat.zero_add];rw[←Array.foldl_toList,Array.toList_zipIdx];rw[show(fun(cs:Array Value) (x:Value×Nat)=>cs.setIfInBounds x.2 x.1)=fun cs x=>match x with|(c,j)=>cs.setIfInBounds j c from rfl]at this;rw[this]
 apply Array.ext'
 simp[h,d]
structure yy (P:Program) (t e:TypeId) (size bytes:Nat):Prop where
 un:P.underlying t=some (.slice e)
 inf:((P.info? e).bind fun i=>i.zero.map fun z=>(i.size,i.bytes,z.cells.size))=some (size,bytes,size)
 pos:0<size
 small:size≤16777216
theorem yy.info{P:Program}{t e:TypeId}{size bytes:Nat}(h:yy P t e size bytes):∃i z,P.info? e=some i∧i.zero=some z∧i.size=size∧i.bytes=bytes∧z.cells.size=size:=by
 obtain⟨i,hi,g⟩:=Option.bind_eq_some_iff.1 h.inf;obtain⟨z,j,d⟩:=Option.map_eq_some_iff.1 g;simp only[Prod.mk.injEq]at d;exact⟨i,z,hi,j,d.1,d.2.1,d.2.2⟩
def aB(P:Program)(E0:List (Nat×Nat×IE×Nat×Nat))(N:Nat)(ops:List Oper)(F:Fr)(M:Mm)(k i:Nat)(t:TypeId)(j:Nat)(xv:SV)(m d3:Nat)(ws:Nat→Bool)(F':Fr):Bool:=
 match stL P { EL:=E0 } N ops (ops.take i) ⟨F,M,k,[]⟩,ops.drop i with
 | some s1,[⟨some d1,.buildSlice t1 1 ps,_,_,_,none⟩,⟨some d2,.call ⟨.builtin .append,xs,ts⟩,_,_,_,none⟩,⟨some d,.assign (.tmp y),_,_,_,none⟩] =>
  match ps.toList,xs.toList,ts.toList with
  | [(0,x)],[.tmp s,.tmp y1],[t2,t3] =>
   Nat.beq t1 t&&(Nat.beq t2 t&&(Nat.beq t3 t&&(Nat.beq y1 d1&&(Nat.beq y d2&&(Nat.beq d d3&&(!Nat.beq s d1&&((match ev s1.F x with|some v=>SV.same v xv|none=>false)&&((match gt s1.F s with|some v=>SV.same v (.one (.v j))|none=>false) &&
    (Nat.ble (d1+1) N&&(Nat.ble (d2+1) N&&(Nat.ble (d3+1) N&&(gz s1.F F'&&(lI (lo m) F'&&(F'.all (fun z =>!Nat.beq z.1 d1&&(!Nat.beq z.1 d2 && !Nat.beq z.1 d3))&&(((s1.F.take (s1.F.length-F.length)).all fun z=>ws z.1)&&(ws d1&&(ws d2&&(ws d3&&(xv.sc k&&F'.all fun x=>x.2.sc k)))))))))))))))))))
  | _,_,_=>false
 | _,_=>false
theorem G4{S:Sta}{N:Nat}{P:Program}{E0:List (Nat×Nat×IE×Nat×Nat)}{H:Gh}{id:Nat}{ops:Array Oper}{rest:List Code}{Q:Exit→Act→World→Prop}{F:Fr}{M:Mm}{k:Nat}{κ:Kap}{a:Act}{w:World}{z n size bytes:Nat}{e:TypeId}{v:Value}{xs ys:List Value}
 (i:Nat)(t:TypeId)(j:Nat)(xv:SV)(m d3:Nat)(ws:Nat→Bool)(F':Fr)(I:aB P E0 N ops.toList F M k i t j xv m d3 ws F'=true)(hn:Now S κ N P { EL:=E0 } H ⟨F,M,k,[]⟩ a w)
 (V:yy P t e size bytes)(hv:S.o j=v)(Z:w.ownsRow z e size v n xs)(hz:z≤w.heap.size)(hy:(xv.den S κ).cells=ys.toArray)(be:ys.length=size)(bc:∀u∈ys,u.oneCell'=true)(ad:n+1≤maxLen)(al:(n+1)*bytes≤140737488355328)
 (hQ:∀v' a' w',w'.ownsRow z e size v' (n+1) (xs++ys)→aD (fun g=>v.ownBlock=some g) w w'→(∀g,v'.ownBlock=some g→v.ownBlock=some g∨w.heap.size≤g)→Has (S.put m { o:=fun _=>v' }) κ N ((d3,.one (.v m))::F') a'→aE ws a a'→wpL P Q rest a' w'):wpL P Q (Code.region id ops false::rest) a w:=by
 unfold aB at I;split at I
 ·rename_i s1 d1 t1 ps _ _ _ d2 b2 ts _ _ _ d y _ _ _ e1 e2
  split at I
  ·rename_i x s D t2 t3 p1 p2 p3
   simp only[Bool.and_eq_true]at I;obtain⟨q1,q2,q3,q4,q5,q6,q7,q8,q9,bl,bm,bo,bp,bs,bt,U,bw,bx,bz,b0,b1⟩:=I;have q1:=Nat.eq_of_beq_eq_true q1;have q2:=Nat.eq_of_beq_eq_true q2;have q3:=Nat.eq_of_beq_eq_true q3;have q4:=Nat.eq_of_beq_eq_true q4;have q5:=Nat.eq_of_beq_eq_true q5;have q6:=Nat.eq_of_beq_eq_true q6;subst q1 q2 q3 q4 q5 q6;obtain rfl:ps = #[(0,x)]:=Array.ext' p1;obtain rfl:b2 = #[.tmp s,.tmp D]:=Array.ext' p2;obtain rfl:ts = #[t3,t3]:=Array.ext' p3;show(Code.region id ops false).wp P (Exit.then (wpL P Q rest) Q) a w;refine wp_region_list ?_;obtain⟨it,zt,hi,aa,B,a6,a7⟩:=V.info;have E:=List.take_append_drop i ops.toList;rw[e2]at E;have a5:Now S κ N P { EL:=E0 } ⟨fun _=>False,fun _ _=>True,fun _ _ _ _ _=>trivial⟩ ⟨F,M,k,[]⟩ a w:=
    ⟨hn.has,⟨fun r l h=>⟨⟨(hn.mem.get r l h).1.1,fun h=>h⟩,(hn.mem.get r l h).2⟩⟩,⟨ξ,hn.ctx.el,ξ,ξ,(fun _ _ _ _ r l h=>by cases h),ξ⟩,fun _ h=>h.elim,trivial⟩
   have step:wpList P ops.toList.toArray (Exit.then (wpL P Q rest) Q) ops.toList a w:=by
    conv=>arg 4;rw[←E]
    refine eJ e1 a5 fun κ1 q X W C=>?_
    have J:Kz w X:=C.keep;split at q8
    ·rename_i vx bb
     split at q9
     ·rename_i vs a9
      have q8:=SV.same_ok q8;have q9:=SV.same_ok q9;subst q8 q9;have ex:q.eval x=vx.den S κ:=by rw[W.has.ev bb,SV.sc_ok C.upto b0]
      have es:q.tmps[s]?=some v:=by rw[W.has.get _ _ a9,←hv];rfl
      have O:=Z.kept (J.grown none) (by cases v.ownBlock<;>simp);have an:D<q.tmps.size:=by rw[W.has.size];exact Nat.le_of_ble_eq_true bl
      have b3:w.heap.size≤X.heap.size:=J.size;have a8:s≠D:=fun h=>by subst h;simp at q7
      refine wpList_buildSlice rfl t3 e 1 _ rfl ys.toArray it zt V.un hi aa (by rw[B];have:=V.small;omega) (by rw[B];have:=V.pos;omega) ?_ ?_
      ·simp only[List.map_toArray,List.map_cons,List.map_nil]
       rw[B,ex,lL size _ _ (by rw[hy];simpa using be) ξ,hy]
      have L:Kz X (X.alloc (.cells ys.toArray e)):=(aD.refl _ _).alloc _;refine wpList_append_lies _ rfl (.tmp s) (.tmp D) t3 rfl z e it zt size bytes V.un hi aa B a6 a7 V.pos v n xs ?_ (O.alloc _) ⟨X.heap.size,0,none⟩ 1 1 ys ?_ χ (fun j u hu=>?_) bc χ ad al (by have:=L.size;omega) _ rfl ?_
      ·show(q.tmps.setIfInBounds D _).getD s undef=v
       rw[Array.getD_eq_getD_getElem?,Array.getElem?_setIfInBounds_ne (fun h=>a8 h.symm),es];rfl
      ·show(q.tmps.setIfInBounds D _).getD D undef=_
       rw[Array.getD_eq_getD_getElem?,Array.getElem?_setIfInBounds_self_of_lt an];rfl
      ·rw[g0,World.cell?_alloc_at _ _ _ _ rfl]
       simp[hu]
      intro g ac w4 h1 h2 Y h4;refine wpList_plain rfl fun K hK=>?_
      unfold Oper.wp execOp;simp only[Sem.run_pure];refine hK _ _ (ln ?_);obtain⟨lw,ew,a4⟩:=C.agree;have af:aE ws a q:=a4.mono fun t R=>by
       rw[ew]at U;have:(lw++F).length-F.length=lw.length:=ξ
       rw[this,List.take_left]at U;obtain⟨z,hz,bf⟩:=List.any_eq_true.1 R;rw[←Nat.eq_of_beq_eq_true bf];exact List.all_eq_true.1 U z hz
      have a0:y<q.tmps.size:=by rw[W.has.size];exact Nat.le_of_ble_eq_true bm
      have a2:d<q.tmps.size:=by rw[W.has.size];exact Nat.le_of_ble_eq_true bo
      refine hQ _ _ w4 h1 ?_ (fun g' a3=>?_) ?_ (((af.put bw _).put bx _).put bz _)
      ·exact(J.trans L fun _ _ e=>e).mono (fun _ _ e=>e.elim) |>.trans (aD.of_grown h2 fun k e=>e) fun _ _ e=>e
      ·obtain rfl:g=g':=by simpa[Value.ownBlock]using a3
       rcases Y with Y|Y
       ·exact .inl Y
       ·exact .inr (by rw[Y];have:=L.size;omega)
      ·have hF:=((W.has.sub bp).back C.upto b1).on (aS S m { o:=fun _=>(Value.slice (some ⟨g,0,none⟩) (n+1) ac) }) bs
       have bd:y<(q.tmps.setIfInBounds D (Value.slice (some ⟨X.heap.size,0,none⟩) 1 1)).size:=by simpa using a0
       refine⟨by simpa[Act.put]using hF.size,fun t u R=>?_⟩;rw[bk]at R;simp only[Act.put];split at R
       ·rename_i ed
        subst ed;obtain rfl:=Option.some.inj R;rw[Array.getElem?_setIfInBounds_self_of_lt (by simpa using a2)];show some (((q.tmps.setIfInBounds D _).setIfInBounds y _).getD y undef)=some ((S.put m _).o m);rw[Array.getD_eq_getD_getElem?,Array.getElem?_setIfInBounds_self_of_lt bd];have:Nat.ble m m=true:=Nat.ble_eq_true_of_le (Nat.le_refl m);simp[Sta.put,this]
       ·rename_i ed
        have h5:=List.all_eq_true.1 bt _ (iY R);simp only[Bool.and_eq_true,Bool.not_eq_true']at h5;have n5:∀{p:Nat},Nat.beq t p=false→¬ p=t:=fun h e=>by subst e;simp at h
        rw[Array.getElem?_setIfInBounds_ne (n5 h5.2.2),Array.getElem?_setIfInBounds_ne (n5 h5.2.1),Array.getElem?_setIfInBounds_ne (n5 h5.1)];exact hF.get t u R
     ·cases q9
    ·cases q8
   simpa using step
  ·cases I
 ·cases I
variable {P:Program} {ops:List Oper} {k N k':Nat} {a:Act} {w:World}
structure Kn where
 CL:List (Nat×FuncId×List SV):=[]
 KO:List (Nat×List (Nat×SV)×SV):=[]
structure gJ (S:Sta) (κ:Kap) (P:Program) (ops:List Oper) (K:Kn):Prop where
 cl:∀x∈K.CL,S.o x.1=.func (.func x.2.1) #[] (x.2.2.map (SV.den S κ)).toArray
 ko:∀x∈K.KO,∀o∈ops,o.dst=some x.1→∀(a:Act) (w:World),(∀y∈x.2.1,a.eval (.tmp y.1)=y.2.den S κ)→(execOp a.eval o).run P w=.ok (.value (x.2.2.den S κ)) w
def ow(K:Kn)(k:Nat):Bool:=(K.CL.all fun x=>x.2.2.all (SV.sc k))&&K.KO.all fun x=>x.2.1.all (fun y=>y.2.sc k)&&x.2.2.sc k
theorem gJ.upto{S:Sta}{κ κ':Kap}{K:Kn}(h:gJ S κ P ops K)(hk:ow K k=true)(j:ce k κ κ'):gJ S κ' P ops K:=by
 unfold ow at hk;rw[Bool.and_eq_true]at hk;refine⟨fun x d=>?_,fun x d o B u a w q=>?_⟩
 ·rw[h.cl x d]
  have:x.2.2.map (SV.den S κ')=x.2.2.map (SV.den S κ):=List.map_congr_left fun v C=>SV.sc_ok j (List.all_eq_true.1 (List.all_eq_true.1 hk.1 x d) v C)
  rw[this]
 ·have g:=List.all_eq_true.1 hk.2 x d
  rw[Bool.and_eq_true]at g;rw[SV.sc_ok j g.2];exact h.ko x d o B u a w fun y l=>by rw[q y l,SV.sc_ok j (List.all_eq_true.1 g.1 y l)]
def koV(K:Kn)(F:Fr)(o:Oper):Option SV:=
 match o.dst with
 | some d=>match K.KO.find? fun x=>Nat.beq x.1 d with
  | some (_,args,v)=>bif args.all (fun y=>match gt F y.1 with|some u=>SV.same u y.2|none=>false)then some v else none
  | none=>none
 | none=>none
theorem Di{S:Sta}{κ:Kap}{F:Fr}{K:Kn}{o:Oper}{v:SV}(h:koV K F o=some v)(C:gJ S κ P ops K)(H:o∈ops)(B:Has S κ N F a)(w:World):(execOp a.eval o).run P w=.ok (.value (v.den S κ)) w:=by
 unfold koV at h;split at h
 ·rename_i d D
  split at h
  ·rename_i q args L l
   have E:=List.mem_of_find?_eq_some l;have g:=List.find?_some l;simp only at g;have g:=Nat.eq_of_beq_eq_true g;subst g
   cases e:args.all (fun y=>match gt F y.1 with|some u=>SV.same u y.2|none=>false)with
   | false=>rw[e]at h;cases h
   | true =>
    rw[e]at h;obtain rfl:=Option.some.inj h;refine C.ko _ E o H D a w fun y J=>?_
    have j:=List.all_eq_true.1 e y J;split at j
    ·rename_i u I
     rw[←SV.same_ok j];exact B.ev (x := .tmp y.1) I
    ·cases j
  ·cases h
 ·cases h
theorem rN{dst:Option Tmp}{t:Nat}{f:FuncId}{d:Array Value}{xs:Array Operand}{j:Array TypeId}{ty:TypeId}{pos:String}{after:Array Edge}{g:Option (Nat×Bool)}(h:a.eval (.tmp t)=.func (.func f) #[] d):
 execOp a.eval { dst,op := .call { callee := .value (.tmp t),args:=xs,argTypes:=j },type:=ty,pos,after,guard:=g }=callFunc f (#[]++xs.map a.eval++d):=by
 simp only[execOp,resolve,h];rfl
def cfV(P:Program)(C:Ctx)(CL:Kn)(F:Fr):Op→Option (Nat×SV)
 | .call ⟨.value (.tmp t),xs,_⟩ =>
  match gt F t,evs F xs.toList with
  | some (.one (.v j)),some as =>
   match CL.CL.find? fun x=>Nat.beq x.1 j with
   | some (_,f,caps)=>bif iA P f then idx f ((as++caps).map (nrm C.FA)) 0 C.ET else none
   | none=>none
  | _,_=>none
 | _=>none
theorem E7{S:Sta}{κ:Kap}{F:Fr}{C:Ctx}{H:Gh}{CL:Kn}{o:Oper}{i:Nat}{v:SV}{e:List Nat}(h:cfV P C CL F o.op=some (i,v))(X:gJ S κ P ops CL)(D:Has S κ N F a)(B:iG S κ P C H w)(V:H.G e w){K:Act→World→Prop}{Q:Exit→Act→World→Prop}
 (W:∀w',aD H.T w w'→H.G (i::e) w'→K (a.put o.dst (v.den S κ)) w'):o.wp P a w K Q:=by
 obtain⟨dst,op,ty,pos,af,g⟩:=o;unfold cfV at h;split at h
 ·rename_i t xs ts l
  simp only at l;subst l;split at h
  ·rename_i j as Z has
   split at h
   ·rename_i q f d I
    have E:=X.cl _ (List.mem_of_find?_eq_some I);have u:=List.find?_some I;simp only at E u;have u:=Nat.eq_of_beq_eq_true u;subst u
    cases hb:iA P f with
    | false=>rw[hb]at h;cases h
    | true =>
     rw[hb]at h;obtain⟨_,hx⟩:=rJ h;have Y:=B.et i _ (by simpa using hx) e w (aD.refl _ _) V;have ht:a.eval (.tmp t)=.func (.func f) #[] (d.map (SV.den S κ)).toArray:=by
      rw[←E];exact D.ev (x := .tmp t) Z
     have J:(#[]++xs.map a.eval++(d.map (SV.den S κ)).toArray:Array Value)=(((as++d).map (nrm C.FA)).map (SV.den S κ)).toArray:=by
      apply Array.ext'
      have:=jZ D has;have U:SV.den S κ ∘ nrm C.FA=SV.den S κ:=funext fun v=>uo B.fa v
      simp[this,U]
     unfold Oper.wp;rw[rN ht,cQ hb,J,List.map_append (f:=nrm C.FA)];refine Y.mono fun e' y ⟨L,O,R⟩=>?_
     subst L;exact W y O R
   ·cases h
  ·cases h
 ·cases h
def z8(P:Program)(E:TypeId):Option (List Cl):=((P.info? E).bind (·.zero)).map fun z=>z.cells.toList.map BC
def stX(P:Program)(C:Ctx)(CL:Kn)(N:Nat)(ops:List Oper):Nat→List Oper→St→Option St
 | _,[],s=>some s
 | 0,_,_=>none
 | n+1,o::r,s =>
  match koV CL s.F o,o.guard with
  | some v,none=>match wr N s o.dst v with
   | some s'=>stX P C CL N ops n r s'
   | none=>none
  | _,_ =>
  match o.op,o.guard with
  | .alloc E,none =>
   match stL P C N ops (o::r.take 1) s with
   | some s'=>stX P C CL N ops n (r.drop 1) s'
   | none =>
    match stL P C N ops (o::r.take 2) s with
    | some s'=>stX P C CL N ops n (r.drop 2) s'
    | none =>
     match z8 P E with
     | some l=>bif s.sc&&C.sc s.k&&l.all (Cl.sc s.k)then(match wr N { s with M:=(s.k,l)::s.M,k:=s.k+1 } o.dst (.one (.p s.k 0))with
      | some s'=>stX P C CL N ops n r s'
      | none=>none)else none
     | none=>none
  | op,g =>
   match cfV P C CL s.F op,g with
   | some (i,v),none=>match wr N { s with e:=i::s.e } o.dst v with
    | some s'=>stX P C CL N ops n r s'
    | none=>none
   | _,_=>match st1 P C N ops s o with
    | some s'=>stX P C CL N ops n r s'
    | none=>none
theorem Cl.sc_mono(hk:k≤k'){c:Cl}(h:c.sc k=true):c.sc k'=true:=by
 cases c<;>first
  | rfl
  | exact Nat.ble_eq_true_of_le (Nat.le_trans (Nat.le_of_ble_eq_true h) hk)
theorem SV.sc_mono{k k':Nat}(hk:k≤k'){v:SV}(h:v.sc k=true):v.sc k'=true:=by
 cases v with
 | one c=>exact Cl.sc_mono hk h
 | ag l=>exact List.all_eq_true.2 fun c d=>Cl.sc_mono hk (List.all_eq_true.1 h c d)
 | tu l=>exact List.all_eq_true.2 fun c d=>Cl.sc_mono hk (List.all_eq_true.1 h c d)
theorem mT(hk:k≤k'){K:Kn}(h:ow K k=true):ow K k'=true:=by
 unfold ow at *;rw[Bool.and_eq_true]at *;refine⟨List.all_eq_true.2 fun x d=>List.all_eq_true.2 fun v j=>SV.sc_mono hk (List.all_eq_true.1 (List.all_eq_true.1 h.1 x d) v j),List.all_eq_true.2 fun x d=>?_⟩;have g:=List.all_eq_true.1 h.2 x d;rw[Bool.and_eq_true]at *;exact⟨List.all_eq_true.2 fun y l=>SV.sc_mono hk (List.all_eq_true.1 g.1 y l),SV.sc_mono hk g.2⟩
theorem bR{ops:Array Oper}{Q:Exit→Act→World→Prop}{o:Oper}{r:List Oper}(g:o.guard=none)(h:∀K:Act→World→Prop,(∀a' w',wpList P ops Q r a' w'→K a' w')→o.wp P a w K Q):wpList P ops Q (o::r) a w:=
 wpList_plain g fun K d=>h K d
theorem jI{S:Sta}{N:Nat}{P:Program}{C:Ctx}{H:Gh}{CL:Kn}{ops m:List Oper}{Q:Exit→Act→World→Prop}:∀{n:Nat} {l:List Oper} {s s':St} {κ:Kap} {a:Act} {w:World},stX P C CL N ops n l s=some s'→Now S κ N P C H s a w→gJ S κ P ops CL→ow CL s.k=true→(∀o∈l,o∈ops) →
 (∀κ' a' w',Now S κ' N P C H s' a' w'→dj H.T κ κ' s s' a a' w w'→wpList P ops.toArray Q m a' w')→wpList P ops.toArray Q (l++m) a w
 | n,[],s,s',κ,a,w,h,hn,hL,hsc,_,hQ=>by
  simp only[stX,Option.some.injEq]at h;subst h;exact hQ _ _ _ hn (dj.refl _ _ _ _)
 | 0,o::r,s,s',κ,a,w,h,hn,hL,hsc,_,hQ=>by simp[stX]at h
 | n+1,o::r,s,s',κ,a,w,h,hn,hL,hsc,hsub,hQ=>by
  have next:∀{r':List Oper} {s1:St} {I:Kap} {u:Act} {x:World},stX P C CL N ops n r' s1=some s'→Now S I N P C H s1 u x→dj H.T κ I s s1 a u w x→(∀o∈r',o∈r)→wpList P ops.toArray Q (r'++m) u x:=fun j d g1 Z =>
   jI j d (hL.upto hsc g1.upto) (mT g1.le hsc) (fun o B=>hsub o (List.mem_cons_of_mem _ (Z o B))) fun κ' a' w' n2 g2=>hQ κ' a' w' n2 (g1.trans g2)
  have all:∀o∈r,o∈r:=fun _ h=>h
  unfold stX at h;split at h
  ·rename_i v L y
   split at h
   ·rename_i s1 j
    refine bR y fun K q=>?_
    obtain⟨d,g1⟩:=md j hn;unfold Oper.wp;rw[Di L hL (hsub o List.mem_cons_self) hn.has w];exact q _ _ (next h d g1 all)
   ·cases h
  split at h
  ·rename_i E D y
   split at h
   ·rename_i s1 j
    rw[show o::r++m=(o::r.take 1)++(r.drop 1++m) by rw[List.cons_append,List.cons_append,←List.append_assoc,List.take_append_drop]];exact eJ j hn fun I u x d g1=>next h d g1 fun o B=>List.mem_of_mem_drop B
   ·split at h
    ·rename_i s1 j
     rw[show o::r++m=(o::r.take 2)++(r.drop 2++m) by rw[List.cons_append,List.cons_append,←List.append_assoc,List.take_append_drop]];exact eJ j hn fun I u x d g1=>next h d g1 fun o B=>List.mem_of_mem_drop B
    ·split at h
     ·rename_i l Y
      cases e:s.sc&&C.sc s.k&&l.all (Cl.sc s.k)with
      | false=>rw[e]at h;cases h
      | true =>
       rw[e]at h;simp only[cond_true]at h;split at h
       ·rename_i s1 j
        obtain⟨z,hz,rfl⟩:=Option.map_eq_some_iff.1 Y;obtain⟨i,hi,J⟩:=Option.bind_eq_some_iff.1 hz;have O:(zeroValue E).run P w=.ok z w:=by simp[zeroValue,run_typeInfo (P:=P) _ hi,J]
        obtain⟨κ',hu,V,R,hk⟩:=ut hn E e;rw[tV]at R hk;refine bR y fun K q=>?_
        unfold Oper.wp;have W:(execOp a.eval o).run P w=.ok (.value (.pointer (some ⟨w.heap.size,0,none⟩))) (w.alloc (.cells z.cells E)):=by
         obtain⟨dst,op,ty,pos,af,g⟩:=o;simp only at D;subst D;simp[execOp,Instr.alloc,O,ei]
        rw[W];obtain⟨d,g1⟩:=md j R;have e4:SV.den S κ' (.one (.p s.k 0))=.pointer (some ⟨w.heap.size,0,none⟩):=by simp[SV.den,Cl.den_p,V]
        rw[e4]at d g1;exact q _ _ (next h d (dj.trans (s':={ s with M:=(s.k,z.cells.toList.map BC)::s.M,k:=s.k+1 }) ⟨hu,ξ,K_T hk,⟨[],rfl,aE.refl _ _⟩,New.one V hn.tb⟩ g1) all)
       ·cases h
     ·cases h
  ·split at h
   ·rename_i i v L y
    split at h
    ·rename_i s1 j
     refine bR y fun K q=>?_
     refine E7 L hL hn.has hn.ctx hn.gh fun w' U X=>?_
     obtain⟨d,g1⟩:=md j (hn.wrote U X);exact q _ _ (next h d (dj.trans (s':={ s with e:=i::s.e }) ⟨fun _ _=>rfl,Nat.le_refl _,U,⟨[],rfl,aE.refl _ _⟩,jR⟩ g1) all)
    ·cases h
   ·split at h
    ·rename_i s1 j
     exact Lz fun K q=>uN j hn fun I u x d g1=>q _ _ (next h d g1 all)
    ·cases h
def xB(P:Program)(C:Ctx)(CL:Kn)(N:Nat)(l:List Oper)(s:St)(ws:Nat→Bool)(F':Fr)(M':Mm)(k':Nat)(e':List Nat):Bool:=
 ow CL s.k&&gU ((stX P C CL N l l.length l s).map fun s=>(.n,s)) s .n ws F' M' k' e'
theorem jK{S:Sta}{N:Nat}{P:Program}{C:Ctx}{H:Gh}{CL:Kn}{id:Nat}{ops:Array Oper}{rest:List Code}{Q:Exit→Act→World→Prop}{s:St}{κ:Kap}{a:Act}{w:World}(ws:Nat→Bool)(F':Fr)(M':Mm)(k':Nat)(e':List Nat)
 (g:xB P C CL N ops.toList s ws F' M' k' e'=true)(u:Now S κ N P C H s a w)(l:gJ S κ P ops.toList CL)(q:∀κ' a' w',Now S κ' N P C H ⟨F',M',k',e'⟩ a' w'→kZ H.T κ κ' s.k k' ws a a' w w'→wpL P Q rest a' w'):wpL P Q (Code.region id ops false::rest) a w:=by
 unfold xB at g;rw[Bool.and_eq_true]at g;obtain⟨j,d⟩:=g;show(Code.region id ops false).wp P (Exit.then (wpL P Q rest) Q) a w;refine wp_region_list ?_
 cases e:stX P C CL N ops.toList ops.toList.length ops.toList s with
 | none=>rw[e]at d;cases d
 | some s1 =>
  rw[e]at d;have:=jI (m:=[]) (Q:=Exit.then (wpL P Q rest) Q) e u l j (fun _ h=>h) fun κ' a' w' v g1=>ln (by
   obtain⟨_,_,x,y⟩:=fT d v g1;exact q κ' a' w' x y)
  simpa using this
theorem eU{S:Sta}{κ:Kap}:gJ S κ P ops {}:=⟨(fun _ h=>by cases h),fun _ h=>by cases h⟩
end Rs
namespace Rs
open Go.RowKit
def bn(cs:Array Value)(i:Nat)(vs:List Value):Array Value:=(cs.toList.take i++vs++cs.toList.drop (i+vs.length)).toArray
theorem dG(w:World)(b:Nat)(cs:Array Value){T:Nat→Prop}(h:T b):aD T w (w.setRow b cs):=
 ⟨rfl,rfl,rfl,ξ,fun k _ hk=>setRow_other w b k cs fun e=>hk (e▸h)⟩
theorem dI{P:Program}{o:Oper}{E:TypeId}{x y:Operand}(d:o.op=.store E x y){a:Act}{w:World}{b off:Nat}{cs:Array Value}{E0:TypeId}{vs:List Value}
 (H:a.eval x=.pointer (some ⟨b,off,none⟩))(I:(a.eval y).cells=vs.toArray)(q:∀u∈vs,u.oneCell'=true)(j:P.cellsOf E=vs.length)(l:0<vs.length)(h:w.heap[b]?=some (.cells cs E0 (0,0)))(C:off+vs.length≤cs.size):
 (execOp a.eval o).run P w=.ok .skip (w.setRow b (bn cs off vs)):=by
 obtain⟨dst,op,ty,pos,J,g⟩:=o;simp only at d;subst d;obtain⟨i,hi⟩:=dh (P:=P) (t:=E) χ;have v:=run_storeCells_at (P:=P) b off E0 vs 0 cs w h χ q;have D:(sizeOf E).run P w=.ok vs.length w:=by rw[run_sizeOf _ hi,j]
 simp only[execOp,H,Instr.storeAt,Instr.sureAddr,Sem.run_bind,Sem.run_pure,Result.andThen_ok];have B:(storeVar E ⟨b,off,none⟩ (a.eval y)).run P w=.ok () (w.setRow b (bn cs off vs)):=by
  simp only[storeVar,Sem.run_bind,D,Result.andThen_ok,I];simp only[List.size_toArray,ne_eq,not_true_eq_false,if_false]
  simpa[bn]using v
 rw[B];rfl
section
variable {S:Sta} {N:Nat} {P:Program} {C:Ctx} {H:Gh} {CL:Kn} {id:Nat} {ops:Array Oper} {rest:List Code} {Q:Exit→Act→World→Prop} {s:St} {κ:Kap} {a:Act} {w:World}
def tB(P:Program)(C:Ctx)(CL:Kn)(N:Nat)(ops:List Oper)(s:St)(i r o:Nat)(l:List Cl)(e1:List Nat)(ws:Nat→Bool)(F':Fr)(M':Mm)(k':Nat)(e':List Nat):Bool:=
 match stX P C CL N ops ops.length (ops.take i) s,ops[i]? with
 | some s1,some ⟨none,.store E x y,_,_,_,none⟩ =>
  match ev s1.F x,ev s1.F y with
  | some (.one (.p r' o')),some v =>
   match gW v with
   | some l'=>Nat.beq r' r&&(Nat.beq o' o&&(kh l' l&&(Nat.beq (P.cellsOf E) l.length&&(Nat.ble 1 l.length&&(l.all (Cl.sc s.k)&&(eqL s1.e e1&&(Nat.ble (r+1) s.k&&(ow CL s.k&&(((s1.F.take (s1.F.length-s.F.length)).all fun z=>ws z.1) &&
    gU ((stX P C CL N ops ops.length (ops.drop (i+1)) ⟨s1.F,s1.M,s1.k,99::e1⟩).map fun s=>(.n,s)) ⟨s1.F,s1.M,s1.k,99::e1⟩ .n ws F' M' k' e')))))))))
   | none=>false
  | _,_=>false
 | _,_=>false
theorem DM(i r o:Nat)(l:List Cl)(J:List Nat)(ws:Nat→Bool)(F':Fr)(M':Mm)(k':Nat)(e':List Nat)(g:tB P C CL N ops.toList s i r o l J ws F' M' k' e'=true)(hn:Now S κ N P C H s a w)(hL:gJ S κ P ops.toList CL)(hT:H.T (κ r).1)
 (af:∀d,aD H.T w d→H.G J d→∃cs E0,d.heap[(κ r).1]?=some (.cells cs E0 (0,0))∧(κ r).2+o+l.length≤cs.size∧H.G (99::J) (d.setRow (κ r).1 (bn cs ((κ r).2+o) (l.map (Cl.den S κ)))))
 (hQ:∀κ' a' w',Now S κ' N P C H ⟨F',M',k',e'⟩ a' w'→kZ H.T κ κ' s.k k' ws a a' w w'→wpL P Q rest a' w'):wpL P Q (Code.region id ops false::rest) a w:=by
 unfold tB at g;split at g
 ·rename_i s1 E x y t1 t2 t3 U V
  split at g
  ·rename_i r' o' v hx hy
   split at g
   ·rename_i l' hl
    simp only[Bool.and_eq_true]at g;obtain⟨q1,q2,q3,q4,q5,q6,q7,q8,q9,D,u⟩:=g;have q1:=Nat.eq_of_beq_eq_true q1;have q2:=Nat.eq_of_beq_eq_true q2;have q3:=jL q3;have q4:=Nat.eq_of_beq_eq_true q4;have q5:=Nat.le_of_ble_eq_true q5;have q7:=mN q7;have q8:=Nat.le_of_ble_eq_true q8;subst q1 q2 q3;show(Code.region id ops false).wp P (Exit.then (wpL P Q rest) Q) a w;refine wp_region_list ?_;obtain⟨Z,ad⟩:=List.getElem?_eq_some_iff.1 V;have q:ops.toList=ops.toList.take i++(ops.toList[i]::ops.toList.drop (i+1)):=by
     rw[←List.drop_eq_getElem_cons Z,List.take_append_drop]
    have B:wpList P ops.toList.toArray (Exit.then (wpL P Q rest) Q) (ops.toList.take i++(ops.toList[i]::ops.toList.drop (i+1))) a w:=by
     refine jI U hn hL q9 (fun o ho=>List.mem_of_mem_take ho) fun κ1 R d O g1=>?_
     rw[ad];refine bR rfl fun K hK=>?_
     have hκ:κ1 r'=κ r':=g1.upto r' q8;have W:H.G J d:=by rw[←q7];exact O.gh
     obtain⟨cs,E0,c1,c2,c3⟩:=af d g1.keep W;obtain⟨d1,d2⟩:=i8 hl S κ1;have aa:l'.map (Cl.den S κ1)=l'.map (Cl.den S κ):=nw g1.upto q6;rw[aa]at d1 d2;have ex:R.eval x=.pointer (some ⟨(κ r').1,(κ r').2+o',none⟩):=by rw[O.has.ev hx,←hκ];rfl
     have:=dI (P:=P) (o:=⟨none,.store E x y,t1,t2,t3,none⟩) (a:=R) (w:=d) rfl ex (by rw[O.has.ev hy];exact d1) d2 (by rw[List.length_map];exact q4) (by rw[List.length_map];omega) c1 (by rw[List.length_map];omega);unfold Oper.wp;rw[this];have j:aD H.T d (d.setRow (κ r').1 (bn cs ((κ r').2+o') (l'.map (Cl.den S κ)))):=dG _ _ _ hT;have n2:=O.wrote j c3;refine hK _ _ ?_
     cases e:stX P C CL N ops.toList ops.toList.length (ops.toList.drop (i+1)) ⟨s1.F,s1.M,s1.k,99::J⟩with
     | none=>rw[e]at u;cases u
     | some s2 =>
      rw[e]at u;have X:=hL.upto q9 g1.upto;have L:=mT g1.le q9;have:=jI (m:=[]) (Q:=Exit.then (wpL P Q rest) Q) e n2 X L (fun o ho=>List.mem_of_mem_drop ho) fun κ2 a2 w3 n3 g2=>ln (by
       obtain⟨_,_,n5,I⟩:=fT u n3 g2;obtain⟨lw,ew,ac⟩:=g1.agree;have Y:aE ws a R:=ac.mono fun t ht=>by
        rw[ew]at D;have:(lw++s.F).length-s.F.length=lw.length:=ξ
        rw[this,List.take_left]at D;obtain⟨z,hz,al⟩:=List.any_eq_true.1 ht;rw[←Nat.eq_of_beq_eq_true al];exact List.all_eq_true.1 D z hz
       exact hQ κ2 a2 w3 n5 ⟨fun r hr=>(I.upto r (Nat.lt_of_lt_of_le hr g1.le)).trans (g1.upto r hr),(g1.keep.trans j fun _ _ e=>e).trans I.keep fun _ _ e=>e,Y.trans I.agree fun _ h=>h,
        (g1.new.trans jR (fun _ _=>rfl) j g1.keep.size).trans I.new I.upto I.keep (Nat.le_trans g1.keep.size j.size)⟩)
      rw[List.append_nil]at this;exact this
    rw[←q]at B
    simpa using B
   ·cases g
  ·cases g
 ·cases g
def oB(P:Program)(C:Ctx)(CL:Kn)(N:Nat)(ops:List Oper)(s:St)(i r o:Nat)(n:Nat)(f:FuncId)(as:List SV)(e1:List Nat)(ws:Nat→Bool)(F':Fr)(M':Mm)(k':Nat):Bool:=
 match stX P C CL N ops ops.length (ops.take i) s,ops.drop i with
 | some s1,[⟨some d1,.call ⟨.value (.func g),xs,_⟩,_,_,_,none⟩,⟨none,.store E x (.tmp y),_,_,_,none⟩] =>
  match ev s1.F x,evs s1.F xs.toList with
  | some (.one (.p r' o')),some as'=>Nat.beq r' r&&(Nat.beq o' o&&(Nat.beq g f&&(ki as' as&&(iA P f&&(Nat.beq y d1&&(Nat.ble (d1+1) N&&((match x with|.tmp t =>!Nat.beq t d1|_=>false)&&(Nat.beq (P.cellsOf E) n&&(Nat.ble 1 n&&(as.all (SV.sc s.k)&&(eqL s1.e e1&&(Nat.ble (r+1) s.k&&(ow CL s.k&&(((s1.F.take (s1.F.length-s.F.length)).all fun z=>ws z.1)&&(ws d1 &&
   (gz s1.F F'&&((gt F' d1).isNone&&(oM s1.M M'&&Nat.beq s1.k k'))))))))))))))))))
  | _,_=>false
 | _,_=>false
theorem EP(i r o n:Nat)(f:FuncId)(as:List SV)(W:List Nat)(ws:Nat→Bool)(F':Fr)(M':Mm)(k':Nat)(v:oB P C CL N ops.toList s i r o n f as W ws F' M' k'=true)(hn:Now S κ N P C H s a w)(hL:gJ S κ P ops.toList CL)(hT:H.T (κ r).1)
 (hf:∀j,aD H.T w j→H.G W j→Calls P f (as.map (SV.den S κ)).toArray j fun e O=>∃vs:List Value,e=.returned (.agg vs.toArray)∧vs.length=n∧(∀u∈vs,u.oneCell'=true)∧Kz j O ∧
  ∃cs E0,O.heap[(κ r).1]?=some (.cells cs E0 (0,0))∧(κ r).2+o+n≤cs.size∧H.G (99::W) (O.setRow (κ r).1 (bn cs ((κ r).2+o) vs)))
 (hQ:∀κ' a' w',Now S κ' N P C H ⟨F',M',k',99::W⟩ a' w'→kZ H.T κ κ' s.k k' ws a a' w w'→wpL P Q rest a' w'):wpL P Q (Code.region id ops false::rest) a w:=by
 unfold oB at v;split at v
 ·rename_i s1 d1 g xs _ _ _ _ E x y t1 t2 t3 ad af
  split at v
  ·rename_i r' o' l hx has
   simp only[Bool.and_eq_true]at v;obtain⟨q1,q2,q3,q4,q5,q6,q7,q8,q9,aa,a7,D,I,a8,J,a9,bb,ac,bc,L⟩:=v;have q1:=Nat.eq_of_beq_eq_true q1;have q2:=Nat.eq_of_beq_eq_true q2;have q3:=Nat.eq_of_beq_eq_true q3;have q4:=gb q4;have q6:=Nat.eq_of_beq_eq_true q6;have q7:=Nat.le_of_ble_eq_true q7;have q9:=Nat.eq_of_beq_eq_true q9;have aa:=Nat.le_of_ble_eq_true aa;have D:=mN D;have I:=Nat.le_of_ble_eq_true I;have L:=Nat.eq_of_beq_eq_true L;subst q1 q2 q3 q4 q6 L;show(Code.region id ops false).wp P (Exit.then (wpL P Q rest) Q) a w;refine wp_region_list ?_;have h:=List.take_append_drop i ops.toList;rw[af]at h;have X:wpList P ops.toList.toArray (Exit.then (wpL P Q rest) Q) ops.toList a w:=by
    conv=>arg 4;rw[←h]
    refine jI ad hn hL a8 (fun o ho=>List.mem_of_mem_take ho) fun κ1 d j V g1=>?_
    refine bR rfl fun K hK=>?_
    have hκ:κ1 r'=κ r':=g1.upto r' I;have al:H.G W j:=by rw[←D];exact V.gh
    have q:(#[]++xs.map d.eval ++ #[]:Array Value)=(l.map (SV.den S κ)).toArray:=by
     apply Array.ext'
     have R:=jZ V.has has;have h2:l.map (SV.den S κ1)=l.map (SV.den S κ):=List.map_congr_left fun x hx=>SV.sc_ok g1.upto (List.all_eq_true.1 a7 x hx)
     simp[R,h2]
    unfold Oper.wp;rw[execOp_call_go,cQ q5,q];refine(hf j g1.keep al).mono fun e O ⟨vs,he,B,a3,hk,cs,E0,c1,c2,c3⟩=>?_
    subst he;refine hK _ _ (bR rfl fun K2 an=>?_);have a5:(d.put (some y) (.agg vs.toArray)).eval (.tmp y)=.agg vs.toArray:=At.eval At.put_self (by simp[Act.put,V.has.size];omega);have a4:(d.put (some y) (.agg vs.toArray)).eval x=.pointer (some ⟨(κ r').1,(κ r').2+o',none⟩):=by
     have R:d.eval x=.pointer (some ⟨(κ r').1,(κ r').2+o',none⟩):=by rw[V.has.ev hx,←hκ];rfl
     rw[←R];split at q8
     ·rename_i t
      have U:y≠t:=fun e=>by subst e;simp at q8
      show(d.tmps.setIfInBounds y _).getD t undef=d.tmps.getD t undef;rw[Array.getD_eq_getD_getElem?,Array.getD_eq_getD_getElem?,Array.getElem?_setIfInBounds_ne U]
     ·cases q8
    have:=dI (P:=P) (o:=⟨none,.store E x (.tmp y),t1,t2,t3,none⟩) rfl a4 (by rw[a5];rfl) a3 (by rw[B];exact q9) (by rw[B];omega) c1 (by rw[B];omega);unfold Oper.wp;rw[this];have Y:aD H.T O (O.setRow (κ r').1 (bn cs ((κ r').2+o') vs)):=dG _ _ _ hT;refine an _ _ (ln ?_);have n2:=(V.keep hk).wrote Y c3;obtain⟨lw,ew,a2⟩:=g1.agree;have a0:aE ws a d:=a2.mono fun t U=>by
     rw[ew]at J;have:(lw++s.F).length-s.F.length=lw.length:=ξ
     rw[this,List.take_left]at J;obtain⟨z,hz,a6⟩:=List.any_eq_true.1 U;rw[←Nat.eq_of_beq_eq_true a6];exact List.all_eq_true.1 J z hz
    have hF:Has S κ1 N F' (d.put (some y) (.agg vs.toArray)):=by
     have R:=V.has.sub bb;refine⟨by simpa[Act.put]using R.size,fun t u U=>?_⟩;have:y≠t:=fun e=>by subst e;rw[U]at ac;cases ac
     show(d.tmps.setIfInBounds y _)[t]?=_;rw[Array.getElem?_setIfInBounds_ne this];exact R.get t u U
    have Z:aD H.T j (O.setRow (κ r').1 (bn cs ((κ r').2+o') vs)):=(K_T hk).trans Y fun _ _ e=>e
    exact hQ κ1 _ _ ⟨hF,n2.mem.sub bc,n2.ctx,n2.tb,n2.gh⟩ ⟨g1.upto,g1.keep.trans Z fun _ _ e=>e,a0.put a9 _,g1.new.trans jR (fun _ _=>rfl) Z g1.keep.size⟩
   simpa using X
  ·cases v
 ·cases v
end
theorem Now.mute{S:Sta}{κ:Kap}{N:Nat}{P:Program}{C:Ctx}{H:Gh}{s:St}{a:Act}{w:World}(h:Now S κ N P C H s a w)(H':Gh)(M':Mm)(e':List Nat)(q:oM s.M M'=true)(u:∀r l,gm M' r=some l→¬ H'.T (κ r).1)(j:∀g,H'.T g→g<w.heap.size)(v:H'.G e' w):
 Now S κ N P { EL:=C.EL } H' ⟨s.F,M',s.k,e'⟩ a w:=
 ⟨h.has,⟨fun r l d=>⟨⟨((h.mem.sub q).get r l d).1.1,u r l d⟩,((h.mem.sub q).get r l d).2⟩⟩,⟨ξ,h.ctx.el,ξ,ξ,(fun _ _ _ _ r l h=>by cases h),ξ⟩,j,v⟩
def vH(l:List Oper)(c:Nat)(a a':Act):Act:={ a' with tmps:=Array.ofFn (n:=a'.tmps.size) fun t=>if fK (l.take c) t then a.tmps.getD t undef else a'.tmps[t] }
theorem sU{l:List Oper}{c:Nat}{a a':Act}(d:a'.tmps.size=a.tmps.size)(t:Nat):(vH l c a a').tmps[t]?=if fK (l.take c) t then a.tmps[t]? else a'.tmps[t]?:=by
 unfold vH;simp only[Array.getElem?_ofFn]
 by_cases h:t<a'.tmps.size
 ·rw[dif_pos h]
  split
  ·rw[Array.getD_eq_getD_getElem?,Array.getElem?_eq_getElem χ];rfl
  ·rw[Array.getElem?_eq_getElem h];rfl
 ·rw[dif_neg h]
  split<;>rw[Array.getElem?_eq_none χ]
structure DrP (S:Sta) (κ:Kap) (N:Nat) (P:Program) (C:Ctx) (l:List Oper) (n c:Nat) (s s1:St) (a:Act):Prop where
 run:drL P C N (l.take c) (l.take c) s=some s1
 cn:c≤n
 nl:n≤l.length
 QW:∀i j d,i<n→j<n→aO l i=some d→aO l j=some d→i=j
 edge:∀i o,l[i]?=some o→∀e∈o.after,Region.binds .any e=true→e.on<i
 opq:∀j d,c≤j→j<l.length→aO l j=some d→gt s.F d=none
 has:Has S κ N s.F a
section
variable {S:Sta} {N:Nat} {P:Program} {C:Ctx} {H:Gh} {l:List Oper} {n c:Nat} {s s1:St} {κ:Kap} {a a':Act} {w:World}
theorem A9(g:((l.drop c).all fun o=>o.guard.isNone&&match o.dst with|some d=>(gt s.F d).isNone|none=>true)=true):(∀j d,c≤j→j<l.length→aO l j=some d→gt s.F d=none)∧∀j o,c≤j→l[j]?=some o→o.guard=none:=by
 have mem:∀j o,c≤j→l[j]?=some o→o∈l.drop c:=fun j o u h=>by
  refine List.mem_of_getElem? (i:=j-c) ?_;rw[List.getElem?_drop,show c+(j-c)=j by omega];exact h
 refine⟨fun j d u h v=>?_,fun j o u h=>?_⟩
 ·have w:l[j]?=some l[j]:=Ez h
  have q:=List.all_eq_true.1 g _ (mem j _ u w);simp only[Bool.and_eq_true]at q;unfold aO at v;rw[w]at v;have y:l[j].dst=some d:=v;have x:=q.2;rw[y]at x
  simpa using x
 ·have q:=List.all_eq_true.1 g _ (mem j o u h)
  simp only[Bool.and_eq_true]at q
  simpa using q.1
theorem DrP.first(h:DrP S κ N P C l n c s s1 a)(u:fU l n a a'):Has S κ N s.F (vH l c a a')∧fU l c (vH l c a a') a':=by
 have g:=u.size;refine⟨⟨?_,fun t v j=>?_⟩,⟨?_,rfl,fun t j=>?_⟩⟩
 ·simp[vH,g,h.has.size]
 ·rw[sU g]
  split
  ·exact h.has.get t v j
  ·rename_i w
   rw[u.get t]
   ·exact h.has.get t v j
   ·cases e:(List.range n).any fun i=>aO l i==some t with
    | false=>rfl
    | true =>
     obtain⟨i,hi,d⟩:=List.any_eq_true.1 e;have hi:=List.mem_range.1 hi;have d:aO l i=some t:=eq_of_beq d;have:=h.nl
     rcases Nat.lt_or_ge i c with q|q
     ·exact absurd ((cC (l:=l.take c) (t:=t)).2 ⟨i,by rw[List.length_take];omega,by rw[cJ q];exact d⟩) w
     ·rw[h.opq i t q χ d]at j;cases j
 ·simp[vH]
 ·rw[sU g,if_neg]
  intro q;obtain⟨i,hi,d⟩:=cC.1 q;rw[List.length_take]at hi;rw[cJ χ]at d;have:((List.range c).any fun i=>aO l i==some t)=true:=List.any_eq_true.2 ⟨i,List.mem_range.2 χ,by rw[d];simp⟩;rw[this]at j
  cases j
theorem DrP.dr(h:DrP S κ N P C l n c s s1 a)(g:fU l n a a'):DrC S κ N P C l c s s1 (vH l c a a'):=⟨h.run,by have:=h.cn;have:=h.nl;omega,fun i j d hi q=>h.QW i j d (by have:=h.cn;omega) (by have:=h.cn;omega),h.edge,(h.first g).1⟩
theorem DrP.none(h:DrP S κ N P C l n c s s1 a){j d:Nat}(w:c≤j)(x:j<n)(u:aO l j=some d):gt s1.F d=none:=by
 obtain⟨_,_,v,_⟩:=eF h.run;have q:fK (l.take c) d=false:=by
  cases e:fK (l.take c) d with
  | false=>rfl
  | true =>
   obtain⟨i,hi,g⟩:=cC.1 e;rw[List.length_take]at hi;rw[cJ χ]at g;have:=h.cn;have:=h.QW i j d χ x g u;omega
 rw[v d q];exact h.opq j d w (by have:=h.nl;omega) u
theorem DrP.frame(h:DrP S κ N P C l n c s s1 a){p:Nat→Bool}(F:Fr)(E:fU l n a a')(R:∀t v,gt F t=some v→gt s1.F t=some v∧(fK l t=false∨∃j,j<n∧aO l j=some t∧p j=true))(Y:∀j,p j=true→j<c→∀d,aO l j=some d→∃v,At a' d v∧Val S κ l s1 j v):Has S κ N F a':=by
 obtain⟨_,_,O,_⟩:=eF h.run;have U:=h.cn;have W:=h.nl;refine⟨E.size.trans h.has.size,fun t v X=>?_⟩;obtain⟨w,u⟩:=R t v X
 rcases u with u|⟨j,V,q,H⟩
 ·have I:fK (l.take c) t=false:=by
   cases e:fK (l.take c) t with
   | false=>rfl
   | true =>
    obtain⟨i,hi,g⟩:=cC.1 e;rw[List.length_take]at hi;rw[cJ χ]at g;rw[cC.2 ⟨i,χ,g⟩]at u
    cases u
  rw[O t I]at w;rw[E.get t]
  ·exact h.has.get t v w
  ·cases e:(List.range n).any fun i=>aO l i==some t with
   | false=>rfl
   | true =>
    obtain⟨i,hi,g⟩:=List.any_eq_true.1 e;have hi:=List.mem_range.1 hi;rw[cC.2 ⟨i,χ,eq_of_beq g⟩]at u
    cases u
 ·rcases Nat.lt_or_ge j c with D|D
  ·obtain⟨x,Z,B⟩:=Y j H D t q
   obtain⟨J,sv,K,L,Q⟩:=B;have:J=t:=by rw[q]at K;exact(Option.some.inj K).symm
   subst this;rw[w]at L;obtain rfl:=Option.some.inj L;have y:J<a'.tmps.size:=by
    rw[E.size,h.has.size];exact(h.dr E).lt D q
   rw[Array.getElem?_eq_getElem y,Z y,Q]
  ·rw[h.none D V q]at w
   cases w
theorem wY{F F1:Fr}(h:gz F F1=true):∀t v,gt F1 t=some v→gt F t=some v:=fun t v g=>by
 have:=List.all_eq_true.1 h _ (iY g);simp only at this;split at this
 ·rename_i j d
  rw[d,←SV.same_ok this]
 ·cases this
end
def dvB(P:Program)(C:Ctx)(N:Nat)(l:List Oper)(s:St)(c n:Nat)(F1:Fr):Bool:=
 lO l n&&(sw (l.take c) c&&(Nat.ble c n&&(((l.drop c).all fun o=>o.guard.isNone&&match o.dst with|some d=>(gt s.F d).isNone|none=>true) &&
  match drL P C N (l.take c) (l.take c) s with
  | some s1=>gz s1.F F1
  | none=>false)))
section
variable {S:Sta} {N:Nat} {P:Program} {C:Ctx} {H:Gh} {id:Nat} {l:List Oper} {Q:Exit→Act→World→Prop} {s:St} {κ:Kap} {a:Act} {w:World}
theorem tN(c n:Nat)(F1:Fr)(V:Nat→World→Value→Prop)(hP:P.follows .mixedOrders=true)(hB:dvB P C N l s c n F1=true)(hn:Now S κ N P C H s a w)(a7:∀j w' y v,Kz w' y→V j w' v→V j y v)
 (a6:∀i o,c≤i→i<n→l[i]?=some o→∀a' w' K,Kz w w'→Has S κ N (jM l o F1) a'→(∀j d,c≤j→j<n→(o.after.any fun e=>Region.binds .any e&&e.on==j)=true→aO l j=some d→∃v,At a' d v∧V j w' v) →
  (∀v y,Kz w' y→V i y v→K (a'.put o.dst v) y)→o.wp P a' w' K Q)
 (af:∀o,l[n]?=some o→∀a' w',Kz w w'→fU l n a a'→Has S κ N F1 a'→(∀j d,c≤j→j<n→aO l j=some d→∃v,At a' d v∧V j w' v)→wpList P l.toArray Q [o] a' w'):
 (Code.region id l.toArray true).wp P Q a w:=by
 simp only[dvB,Bool.and_eq_true]at hB;obtain⟨L,a5,Y,a1,Z⟩:=hB;have Y:=Nat.le_of_ble_eq_true Y;have ac:=L;simp only[lO,Bool.and_eq_true,decide_eq_true_eq]at ac;obtain⟨⟨⟨⟨a0,_⟩,_⟩,a3⟩,a4⟩:=ac;split at Z
 ·rename_i s1 hr
  have QW:∀i j d,i<n→j<n→aO l i=some d→aO l j=some d→i=j:=fun i j d hi hj J B=>by
   have h3:=List.all_eq_true.1 a3 i (List.mem_range.2 hi);simp only[Bool.and_eq_true]at h3;have E:=List.all_eq_true.1 h3.2 j (List.mem_range.2 hj);simp only[Bool.or_eq_true,beq_iff_eq,bne_iff_ne]at E
   rcases E with E|E
   ·exact E
   ·exact absurd (J.trans B.symm) E
  obtain⟨opq,X⟩:=A9 a1;have D:DrP S κ N P C l n c s s1 a:=⟨hr,Y,χ,QW,gZ a0 a4,opq,hn.has⟩;have an:Kz w w.drew:=(aD.refl _ _).drew;have O:=wY Z;refine ir n (fun j w' v=>if j<c then Val S κ l s1 j v else V j w' v) (fun w'=>Kz w.drew w') hP L (aD.refl _ _) ?_ ?_
  ·intro i o hi ho a' w' K hI g x hK
   have al:Kz w w':=an.trans hI fun _ _ e=>e
   have W:∀{y:World},Kz w' y→∀j u,(if j<c then Val S κ l s1 j u else V j w' u)→if j<c then Val S κ l s1 j u else V j y u:=fun hw j u h=>by
    split
    ·rwa[if_pos (by assumption)]at h
    ·rw[if_neg (by assumption)]at h;exact a7 _ _ _ _ hw h
   rcases Nat.lt_or_ge i c with I|I
   ·obtain⟨q1,q2⟩:=D.first g
    refine DrC.step (D.dr g) (H:=H) (w:=w) ⟨q1,hn.mem,hn.ctx,hn.tb,hn.gh⟩ I ho al q2 (fun j hj aa d R=>?_) (fun j=>?_) (nU a5 (List.mem_of_getElem? (i:=i) (by rw[List.getElem?_take_of_lt I];exact ho))) fun v y hw hv=>hK v y (hI.trans hw fun _ _ e=>e) (W hw) (by rw[if_pos I];exact hv)
    ·obtain⟨v,J,B⟩:=x j hj χ d R
     rw[if_pos aa]at B;exact⟨v,J,B⟩
    ·rcases Nat.lt_or_ge j c with h|h
     ·exact .inl (cJ h).symm
     ·exact .inr h
   ·have hg:=X i o I ho
    rw[if_pos (by unfold Region.wanted;rw[hg])];refine a6 i o I hi ho a' w' K al (D.frame (p:=fun j=>o.after.any fun e=>Region.binds .any e&&e.on==j) _ g (fun t v U=>?_) fun j hj aa d R=>?_) (fun j d J B h3 E=>?_) fun v y hw hv=>hK v y (hI.trans hw fun _ _ e=>e) (W hw) (by rw[if_neg χ];exact hv)
    ·unfold jM at U
     rw[jr (p:=fun t =>!fK l t||o.after.any fun e=>Region.binds .any e&&aO l e.on==some t)]at U;split at U
     ·rename_i hp
      refine⟨O t v U,?_⟩;simp only[Bool.or_eq_true,Bool.not_eq_true']at hp
      rcases hp with hp|hp
      ·exact .inl hp
      ·obtain⟨e,he,E⟩:=Array.any_eq_true'.1 hp
       simp only[Bool.and_eq_true,beq_iff_eq]at E;exact .inr ⟨e.on,by have:=D.edge i o ho e he E.1;omega,E.2,Array.any_eq_true'.2 ⟨e,he,by simp[E.1]⟩⟩
     ·cases U
    ·obtain⟨v,J,B⟩:=x j hj χ d R
     rw[if_pos aa]at B;exact⟨v,J,B⟩
    ·obtain⟨v,h5,h6⟩:=x j h3 B d E
     rw[if_neg χ]at h6;exact⟨v,h5,h6⟩
  ·intro o ho a' w' hI g x
   refine af o ho a' w' (an.trans hI fun _ _ e=>e) g (D.frame (p:=fun j=>decide (j<n)) F1 g (fun t v U=>⟨O t v U,?_⟩) fun j _ hj d R=>?_) fun j d J B h3=>?_
   ·cases e:fK l t with
    | false=>exact .inl rfl
    | true =>
     obtain⟨i,hi,ad⟩:=cC.1 e
     rcases Nat.lt_or_ge i n with h|h
     ·exact .inr ⟨i,h,ad,by simpa using h⟩
     ·obtain⟨_,_,fF,_⟩:=eF hr
      have J:=O t v U;have B:=opq i t χ χ ad
      by_cases R:fK (l.take c) t=true
      ·obtain⟨q,hq,a2⟩:=cC.1 R
       rw[List.length_take]at hq;rw[cJ χ]at a2;exact .inr ⟨q,χ,a2,η⟩
      ·rw[fF t (by simpa using R),B]at J;cases J
   ·obtain⟨v,J,B⟩:=x j χ d R
    rw[if_pos hj]at B;exact⟨v,J,B⟩
   ·obtain⟨v,h5,h6⟩:=x j B d h3
    rw[if_neg χ]at h6;exact⟨v,h5,h6⟩
 ·cases Z
end
section
variable {S:Sta} {N:Nat} {P:Program} {C:Ctx} {H:Gh} {s:St} {κ:Kap} {a:Act} {w:World} {Q:Exit→Act→World→Prop} {rest:List Code} {F:Fr}
theorem cD{c:Operand}{x y:Code}(v:Bool){e:BE}(l:Now S κ N P C H s a w)(j:ev s.F c=some (.one (.b e)))(g:e.den S=v)(h:wpL P Q (b8 (bif v then x else y)++rest) a w):wpL P Q (Code.cond c x y::rest) a w:=by
 show(Code.cond c x y).wp P (Exit.then (wpL P Q rest) Q) a w;have d:=l.has.ev j
 cases v with
 | true=>exact wp_cond_true (by rw[d];simp only[SV.den,Cl.den_b,g]) (qp h)
 | false=>exact wp_cond_false (by rw[d];simp only[SV.den,Cl.den_b,g]) (qp h)
theorem fQ(h:wpL P Q rest a w):wpL P Q (b8 Code.skip++rest) a w:=wp_skip h
theorem km(h:Q .ret a w):wpL P Q (Code.ret::rest) a w:=wp_ret h
theorem vi{id:Nat}{b:Code}(h:wpL P (Exit.inBlock id (Exit.then (wpL P Q rest) Q)) (b8 b) a w):wpL P Q (Code.block id b::rest) a w:=wp_block (am h)
theorem i9{w:World}{b j:Nat}{cs:Array Value}{t:TypeId}{f:Nat×Nat}{v:Value}(h:w.heap[b]?=some (.cells cs t f))(e:cs[j]?=some v):w.cell? ⟨b,j,none⟩=some v:=by
 simp[World.cell?,h,e]
def Row(w:World)(b:Nat)(vs:List Value):Prop:=∃tl E,w.heap[b]?=some (.cells (vs++tl).toArray E (0,0))
theorem Row.lt{vs:List Value}{b:Nat}(h:Row w b vs):b<w.heap.size:=by obtain⟨_,_,h⟩:=h;exact eZ h
theorem Row.keep{w':World}{T:Nat→Prop}{b:Nat}{vs:List Value}(h:Row w b vs)(hk:aD T w w')(d:¬ T b):Row w' b vs:=by
 obtain⟨g,E,h⟩:=h;exact⟨g,E,(hk.block b (eZ h) d).trans h⟩
theorem Row.cell{b:Nat}{vs:List Value}(h:Row w b vs){j:Nat}{v:Value}(d:vs[j]?=some v):w.cell? ⟨b,j,none⟩=some v:=by
 obtain⟨g,E,h⟩:=h;refine i9 h ?_;rw[List.getElem?_toArray,List.getElem?_append_left (List.getElem?_eq_some_iff.1 d).1];exact d
theorem Row.memF{b r:Nat}{l:List Cl}(u:κ r=(b,0))(h:Row w b (l.map (Cl.den S κ))):gI S κ [(r,l)] w:=fun q m d j c g=>by
 rw[cL]at d;split at d
 ·rename_i e
  subst e;obtain rfl:=Option.some.inj d;rw[u];simp only[Nat.zero_add];exact h.cell (by rw[List.getElem?_map,g];rfl)
 ·cases d
theorem Row.put{b:Nat}{us vs:List Value}{i:Nat}(h:Row w b us)(d:i+vs.length≤us.length):∃cs E0,w.heap[b]?=some (.cells cs E0 (0,0))∧i+vs.length≤cs.size∧Row (w.setRow b (bn cs i vs)) b (us.take i++vs++us.drop (i+vs.length)):=by
 obtain⟨g,E,h⟩:=h;refine⟨_,E,h,η,g,E,?_⟩;rw[setRow_heap w b _ _ E (0,0) h];unfold bn;simp only[List.take_append_of_le_length (show i≤us.length by omega),List.drop_append_of_le_length d,List.append_assoc]
theorem Row.all{b:Nat}{us vs:List Value}(h:Row w b us)(d:us.length=vs.length):∃cs E0,w.heap[b]?=some (.cells cs E0 (0,0))∧0+vs.length≤cs.size∧Row (w.setRow b (bn cs 0 vs)) b vs:=by
 have:=h.put (vs:=vs) (i:=0) χ
 rwa[List.take_zero,List.drop_eq_nil_of_le χ,List.append_nil,List.nil_append]at this
theorem Row.other{b d:Nat}{us:List Value}{cs:Array Value}(h:Row w b us)(g:b≠d):Row (w.setRow d cs) b us:=by
 obtain⟨j,E,h⟩:=h;exact⟨j,E,(setRow_other w d b cs g).trans h⟩
theorem eX.row{T':Nat→Prop}{r:Nat}{M:Mm}{l:List Cl}(x:eX S κ T' M w)(y:gm M r=some l)(v:(κ r).2=0)(d:∃cs E,w.heap[(κ r).1]?=some (.cells cs E (0,0))):Row w (κ r).1 (l.map (Cl.den S κ)):=by
 obtain⟨cs,E,g⟩:=d;refine⟨cs.toList.drop l.length,E,?_⟩;have q:∀(j:Nat) (u:j<l.length),cs[j]?=some (l[j].den S κ):=fun j u=>by
  have h:=(x.get r l y).2 j l[j] (Ez u);rw[v,Nat.zero_add]at h
  simpa[World.cell?,g]using h
 have B:l.length≤cs.size:=by
  rcases Nat.eq_zero_or_pos l.length with z|z
  ·omega
  ·have:=q (l.length-1) χ
   have:=(Array.getElem?_eq_some_iff.1 this).1;omega
 have C:l.map (Cl.den S κ)=cs.toList.take l.length:=by
  refine List.ext_getElem? fun j=>?_
  rcases Nat.lt_or_ge j l.length with c|c
  ·rw[List.getElem?_map,Ez c,List.getElem?_take_of_lt c,Array.getElem?_toList,q j c]
   rfl
  ·rw[List.getElem?_eq_none η,List.getElem?_eq_none η]
 rw[g,C,List.take_append_drop]
theorem New.row{T T':Nat→Prop}{k k' r:Nat}{g:World}(h:New T κ k k' g w){M:Mm}{l:List Cl}(x:eX S κ T' M w)(y:gm M r=some l)(j:k≤r)(q:r<k'):Row w (κ r).1 (l.map (Cl.den S κ))∧(κ r).2=0∧g.heap.size≤(κ r).1:=by
 obtain⟨⟨v,_⟩,d,u,_⟩:=h r j q;exact⟨x.row y d u,d,v⟩
theorem Now.row{C:Ctx}{H:Gh}{F:Fr}{M:Mm}{k:Nat}{u:List Nat}(h:Now S κ N P C H ⟨F,M,k,u⟩ a w)(r:Nat)(l:List Cl)(B:(κ r).2=0)(g:Row w (κ r).1 (l.map (Cl.den S κ))):Now S κ N P { EL:=C.EL } H0 ⟨F,(r,l)::M,k,[]⟩ a w:=by
 refine⟨h.has,⟨fun q m d=>?_⟩,⟨ξ,h.ctx.el,ξ,ξ,(fun _ _ _ _ r l h=>by cases h),ξ⟩,fun _ h=>h.elim,trivial⟩;rw[cL]at d;split at d
 ·rename_i e
  subst e;obtain rfl:=Option.some.inj d;refine⟨⟨g.lt,id⟩,fun j c y=>?_⟩;rw[B,Nat.zero_add];exact g.cell (by rw[List.getElem?_map,y];rfl)
 ·obtain⟨v,x⟩:=h.mem.get q m d
  exact⟨⟨v.1,id⟩,x⟩
theorem Row.some{b:Nat}{vs:List Value}(h:Row w b vs):∃cs E0,w.heap[b]?=some (.cells cs E0 (0,0)):=by obtain⟨d,E,h⟩:=h;exact⟨_,_,h⟩
end
def gB(b n:Nat)(f:List Nat→Option (List Value)):Gh where
 T g:=g=b
 G e w:=∃us:List Value,us.length=n∧Row w b us∧∀vs,f e=some vs→us=vs
 st _ _ _ hk:=fun⟨us,h1,h2,h3⟩=>⟨us,h1,h2.keep hk id,h3⟩
section
variable {S:Sta} {κ:Kap} {N:Nat} {F:Fr} {P:Program} {fn:Func} {R:Ending→World→Prop} {a:Act} {w:World} {M:Mm}
theorem EV{E:TypeId}{r:Nat}{v:SV}(h:ldV P M E (.one (.p r 0))=some v)(d:gI S κ M w):(loadVar E ⟨(κ r).1,(κ r).2,none⟩).run P w=.ok (v.den S κ) w:=by
 have:=AW h d
 simpa[Instr.loadAt,Instr.sureAddr,SV.den,Cl.den_p]using this
theorem D3{t r:Nat}(d:Has S κ N F a)(g:gt F t=some (.one (.p r 0))):(asAddr (a.tmps[t]?.getD undef)).run P w=.ok ⟨(κ r).1,(κ r).2,none⟩ w:=by
 rw[d.get _ _ g];rfl
theorem pX{t r:Nat}{E:TypeId}{v:SV}(l:fn.results = #[.cell t E])(d:Has S κ N F a)(q:gt F t=some (.one (.p r 0)))(u:ldV P M E (.one (.p r 0))=some v)(g:gI S κ M w)(j:a.defers=[])(h:R (.returned (v.den S κ)) w):bodyPost P fn R .ret a w:=
 bodyPost_ret (v:=v.den S κ) (by simp[results,l,D3 (P:=P) (w:=w) d q,EV u g]) j h
theorem r7{t r h j:Nat}{E:TypeId}{v v2 g:SV}(B:fn.results = #[.cell t E,.tmp h,.tmp j])(d:Has S κ N F a)(C:gt F t=some (.one (.p r 0)))(D:ldV P M E (.one (.p r 0))=some v)(l:gt F h=some v2)(q:gt F j=some g)(u:gI S κ M w)(y:a.defers=[])(x:R (.returned (.tuple #[v.den S κ,v2.den S κ,g.den S κ])) w):bodyPost P fn R .ret a w:=
 bodyPost_ret (v := .tuple #[v.den S κ,v2.den S κ,g.den S κ]) (by simp[results,B,D3 (P:=P) (w:=w) d C,EV D u,d.get _ _ l,d.get _ _ q]) y x
end
theorem Cg{S:Sta}{κ:Kap}{N:Nat}{F:Fr}{C:Ctx}{T:Nat→Prop}{G:World→Prop}{P:Program}{CL:Kn}{ops:List Oper}{a:Act}{w:World}{o:Oper}{i:Nat}{v:SV}(h:cfV P C CL F o.op=some (i,v))(W:gJ S κ P ops CL)(E:Has S κ N F a)(D:∀x∈C.FA,x.1.den S=x.2)(B:∀x,C.ET[i]?=some x→Calls P x.1 (x.2.1.map (SV.den S κ)).toArray w fun e' l=>e'=.returned (x.2.2.den S κ)∧aD T w l∧G l){K:Act→World→Prop}{Q:Exit→Act→World→Prop}
 (V:∀w',aD T w w'→G w'→K (a.put o.dst (v.den S κ)) w'):o.wp P a w K Q:=by
 obtain⟨dst,op,ty,pos,af,g⟩:=o;unfold cfV at h;split at h
 ·rename_i t xs ts u
  simp only at u;subst u;split at h
  ·rename_i j as Y has
   split at h
   ·rename_i q f d I
    have H:=W.cl _ (List.mem_of_find?_eq_some I);have y:=List.find?_some I;simp only at H y;have y:=Nat.eq_of_beq_eq_true y;subst y
    cases hb:iA P f with
    | false=>rw[hb]at h;cases h
    | true =>
     rw[hb]at h;obtain⟨_,hx⟩:=rJ h;have X:=B _ (by simpa using hx);have Z:a.eval (.tmp t)=.func (.func f) #[] (d.map (SV.den S κ)).toArray:=by
      rw[←H];exact E.ev (x := .tmp t) Y
     have J:(#[]++xs.map a.eval++(d.map (SV.den S κ)).toArray:Array Value)=(((as++d).map (nrm C.FA)).map (SV.den S κ)).toArray:=by
      apply Array.ext'
      have:=jZ E has;have U:SV.den S κ ∘ nrm C.FA=SV.den S κ:=funext fun v=>uo D v
      simp[this,U]
     unfold Oper.wp;rw[rN Z,cQ hb,J,List.map_append (f:=nrm C.FA)];refine X.mono fun e' l ⟨L,O,R⟩=>?_
     subst L;exact V l O R
   ·cases h
  ·cases h
 ·cases h
def Dw(P:Program)(C:Ctx)(CL:Kn)(l:List Oper)(dc ie:Nat)(s:St)(o:Oper):Option SV:=
 bif o.dst==some dc then(match o.guard,cfV P C CL (jM l o s.F) o.op with
  | none,some (i,v)=>bif Nat.beq i ie then some v else none
  | _,_=>none)
 else dr1 P { C with ET:=[] } l s o
def Et(P:Program)(C:Ctx)(CL:Kn)(N:Nat)(l:List Oper)(s:St)(dc ie:Nat)(ws:Nat→Bool)(F':Fr)(M':Mm)(k':Nat):Bool:=
 jy l l.length&&(sw l l.length&&(fK l dc&&match drG N (Dw P C CL l dc ie) l s with
  | some s1=>gU (some (.n,s1)) s .n ws F' M' k' s.e
  | none=>false))
theorem EQ{S:Sta}{N:Nat}{P:Program}{C:Ctx}{H:Gh}{CL:Kn}{id:Nat}{ops:Array Oper}{rest:List Code}{Q:Exit→Act→World→Prop}{s:St}{κ:Kap}{a:Act}{w:World}(dc W:Nat)(ws:Nat→Bool)(F':Fr)(M':Mm)(k':Nat)
 (hP:P.follows .mixedOrders=true)(hB:Et P C CL N ops.toList s dc W ws F' M' k'=true)(R:Now S κ N P { C with ET:=[] } H s a w)(hL:gJ S κ P ops.toList CL)
 (be:∀x,C.ET[W]?=some x→∀w',Kz w w'→H.G s.e w'→Calls P x.1 (x.2.1.map (SV.den S κ)).toArray w' fun e' u=>e'=.returned (x.2.2.den S κ)∧aD H.T w' u∧H.G (W::s.e) u)
 (hQ:∀a' w',Now S κ N P { C with ET:=[] } H ⟨F',M',k',W::s.e⟩ a' w'→kZ H.T κ κ s.k k' ws a a' w w'→wpL P Q rest a' w'):wpL P Q (Code.region id ops true::rest) a w:=by
 obtain⟨l,hl⟩:∃l,l=ops.toList:=⟨_,rfl⟩;obtain rfl:ops=l.toArray:=by rw[hl]
 rw[←hl]at hB;clear hl;show(Code.region id l.toArray true).wp P (Exit.then (wpL P Q rest) Q) a w;simp only[Et,Bool.and_eq_true]at hB;obtain⟨hT,hg,bb,U⟩:=hB;have af:=hT;simp only[jy,Bool.and_eq_true,decide_eq_true_eq]at af;obtain⟨⟨_,bc⟩,bd⟩:=af;split at U
 ·rename_i s1 hr
  have QW:=lY bc;have D:Dr S κ N (Dw P C CL l dc W) l l.length s s1 a:=⟨by rw[List.take_length];exact hr,Nat.le_refl _,QW,gZ rfl bd,R.has⟩;obtain⟨c,a2,X⟩:=cC.1 bb;have L:Kz w w.drew:=(aD.refl _ _).drew;refine jA l.length (fun done w'=>if done c then aD H.T w.drew w'∧H.G (W::s.e) w' else Kz w.drew w') (fun j _ v=>Val S κ l s1 j v) hP hT (aD.refl _ _) ?_ ?_
  ·intro i o hi a5 S' a' w' K a9 a6 y B E hK
   have aa:aD H.T w w':=by
    by_cases h:S' c=true
    ·rw[if_pos h]at y;exact(K_T L).trans y.1 fun _ _ e=>e
    ·rw[if_neg h]at y;exact(K_T L).trans (K_T y) fun _ _ e=>e
   have a7:∃e,H.G e w':=by
    by_cases h:S' c=true
    ·rw[if_pos h]at y;exact⟨_,y.2⟩
    ·rw[if_neg h]at y;exact⟨_,H.st _ _ _ (L.trans y fun _ _ e=>e) R.gh⟩
   obtain⟨e0,a0⟩:=a7;obtain⟨sm,d,v,hM,Y,g,hh,I⟩:=D.op hi a5 B fun j hj bo d Y=>E j (a6 j hj) bo d Y
   rw[List.take_length]at hh;have a8:gI S κ (sm.M++C.GM) w':=by rw[hM];exact(R.mem.keep aa).f.app (R.ctx.gm _ _ aa a0)
   have al:=R.ctx.keep aa;have a3:aO l i=some d:=by unfold aO;rw[a5];exact Y
   -- an operation that leaves the old memory
   have ad:∀{u:World},i≠c→Kz w' u→if(i==c||S' c)=true then aD H.T w.drew u∧H.G (W::s.e) u else Kz w.drew u:=fun{u} J V=>by
    have:(c==i)=false:=by simpa using fun e=>J e.symm
    by_cases h:S' c=true
    ·rw[if_pos h]at y
     rw[if_pos (by simp[h])];exact⟨y.1.trans (K_T V) fun _ _ e=>e,H.st _ _ _ V y.2⟩
    ·rw[if_neg h]at y
     rw[if_neg (by simp[h];exact J)];exact y.trans V fun _ _ e=>e
   have bs:(c==i)=(i==c):=by
    by_cases e:c=i
    ·rw[e]
    ·rw[beq_false_of_ne e,beq_false_of_ne fun h=>e h.symm]
   unfold Dw at g
   cases hdx:o.dst==some dc with
   | true =>
    rw[hdx]at g;simp only[cond_true]at g;have J:i=c:=QW i c dc hi a2 (by rw[a3,←Y,eq_of_beq hdx]) X;split at g
    ·rename_i q v' bm bf
     cases e:Nat.beq q W with
     | false=>rw[e]at g;cases g
     | true =>
      rw[e]at g;obtain rfl:=Option.some.inj g;have hq:=Nat.eq_of_beq_eq_true e;subst hq J;rw[a9]at y;have y:Kz w.drew w':=y;rw[if_pos (by unfold Region.wanted;rw[bm])];refine Cg bf hL hh R.ctx.fa (fun x hx=>be x hx w' (L.trans y fun _ _ e=>e) (H.st _ _ _ (L.trans y fun _ _ e=>e) R.gh)) fun u V hG=>hK _ u ?_ (fun _ _ _ h=>h) I
      rw[if_pos ξ];exact⟨(K_T y).trans V fun _ _ e=>e,hG⟩
    ·cases g
   | false =>
    rw[hdx]at g;simp only[cond_false]at g;have J:i≠c:=fun e=>by
     subst e;rw[a3]at X;rw[Y,X]at hdx;simp at hdx
    have hy:∀u v',Kz w' u→Val S κ l s1 i v'→K (a'.put o.dst v') u:=fun u v' V ac=>hK v' u (by have:=ad J V;rw[←bs]at this;exact this) (fun _ _ _ h=>h) ac
    unfold dr1 at g;split at g
    ·rename_i Z
     rw[if_pos (mr hh R.ctx.fa Z)];split at g
     ·rename_i v' ac
      obtain rfl:=Option.some.inj g;unfold Oper.wp;rw[rC ac hh a8 al];exact hy _ _ (aD.refl _ _) I
     ·exact vd g hh al a0 fun u V=>hy _ _ V I
    ·rename_i Z
     rw[if_neg (by rw[mr hh R.ctx.fa Z];simp)];obtain rfl:=Option.some.inj g;exact hy _ _ (aD.refl _ _) I
    ·cases g
  ·intro S' a' w' a1 y B E
   rw[if_pos (a1 c a2)]at y;obtain⟨f1,f2,f3,f4,m,f5,f6⟩:=D.fin B fun j hj d Y=>E j hj d Y
   have a4:aD H.T w w':=(K_T L).trans y.1 fun _ _ e=>e
   have n1:Now S κ N P { C with ET:=[] } H s1 a' w'→dj H.T κ κ s s1 a a' w w'→_:=fun bp bl=>fT U bp bl
   have n2:=R.wrote a4 y.2;have O:=U;simp only[gU,Bool.and_eq_true]at O;obtain⟨h1,h2,h3,h4,h6,h5⟩:=O;have h4:=Nat.eq_of_beq_eq_true h4;refine hQ a' w' ⟨f1.sub h2,?_,n2.ctx,n2.tb,y.2⟩ ⟨fun _ _=>rfl,a4,f6.mono fun t ht=>?_,by rw[←h4,f3];exact jR⟩
   ·have:=n2.mem
    rw[←f2]at this;exact this.sub h3
   ·rw[f5]at h5
    have:(m++s.F).length-s.F.length=m.length:=ξ
    rw[this,List.take_left]at h5;obtain⟨z,hz,bt⟩:=List.any_eq_true.1 ht;rw[←Nat.eq_of_beq_eq_true bt];exact List.all_eq_true.1 h5 z hz
 ·cases U
theorem yC{S:Nat→Prop}{w w':World}{B:Nat}{e:TypeId}{size:Nat}{v:Value}{n:Nat}{xs:List Value}(h:w.ownsRow B e size v n xs)(hk:aD S w w')(x:∀k,v.ownBlock=some k→¬ S k):w'.ownsRow B e size v n xs:=by
 refine⟨h.1,?_⟩
 rcases h.2 with l|⟨g,d,j,rfl,u,hh,q⟩
 ·exact .inl l
 ·exact .inr ⟨g,d,j,rfl,u,by rw[hk.block g (Array.getElem?_eq_some_iff.1 hh).1 (x g rfl)];exact hh,q⟩
def aB2(P:Program)(N:Nat)(ops:List Oper)(F:Fr)(M:Mm)(k i:Nat)(t:TypeId)(j:Nat)(xv:SV)(m r:Nat)(F':Fr):Bool:=
 match stL P {} N ops (ops.take i) ⟨F,M,k,[]⟩,ops.drop i with
 | some s1,[⟨some d1,.buildSlice t1 1 ps,_,_,_,none⟩,⟨some d2,.call ⟨.builtin .append,xs,ts⟩,_,_,_,none⟩,⟨some d3,.fieldAddr E (.tmp tz) fi,_,_,_,none⟩,⟨none,.store E4 (.tmp d4) (.tmp y),_,_,_,none⟩] =>
  match ps.toList,xs.toList,ts.toList with
  | [(0,x)],[.tmp s,.tmp y1],[t2,t3] =>
   Nat.beq t1 t&&(Nat.beq t2 t&&(Nat.beq t3 t&&(Nat.beq y1 d1&&(Nat.beq y d2&&(Nat.beq d4 d3&&(!Nat.beq s d1&&((match ev s1.F x with|some v=>SV.same v xv|none=>false)&&((match gt s1.F s with|some v=>SV.same v (.one (.v j))|none=>false) &&
    ((match gt s1.F tz with|some v=>SV.same v (.one (.p r 0))|none=>false)&&(!Nat.beq tz d1&&(!Nat.beq tz d2&&(!Nat.beq d2 d3&&((match opV P {} [(tz,.one (.p r 0))] [] (.fieldAddr E (.tmp tz) fi)with|some v=>SV.same v (.one (.p r 0))|none=>false)&&(Nat.beq (P.cellsOf E4) 1&&(Nat.ble (r+1) k &&
    (Nat.ble (d1+1) N&&(Nat.ble (d2+1) N&&(Nat.ble (d3+1) N&&(gz s1.F F'&&(lI (lo m) F'&&(F'.all (fun z =>!Nat.beq z.1 d1&&(!Nat.beq z.1 d2 && !Nat.beq z.1 d3))&&(xv.sc k&&F'.all fun x=>x.2.sc k))))))))))))))))))))))
  | _,_,_=>false
 | _,_=>false
theorem EU{S:Sta}{N:Nat}{P:Program}{H:Gh}{id:Nat}{ops:Array Oper}{rest:List Code}{Q:Exit→Act→World→Prop}{F:Fr}{M:Mm}{k:Nat}{κ:Kap}{a:Act}{w:World}{z n size bytes:Nat}{e:TypeId}{v u:Value}{us:List Value}{xs ys:List Value}{zb:Nat}
 (i:Nat)(t:TypeId)(j:Nat)(xv:SV)(m r:Nat)(F':Fr)(hB:aB2 P N ops.toList F M k i t j xv m r F'=true)(hn:Now S κ N P {} H ⟨F,M,k,[]⟩ a w)
 (hT:yy P t e size bytes)(hv:S.o j=v)(a7:w.ownsRow z e size v n xs)(hz:z≤w.heap.size)(hy:(xv.den S κ).cells=ys.toArray)(b5:ys.length=size)(b3:∀u∈ys,u.oneCell'=true)(bc:n+1≤maxLen)(bf:(n+1)*bytes≤140737488355328)
 (hκ:κ r=(zb,0))(ac:Row w zb (u::us))(a8:v.ownBlock≠some zb)
 (hQ:∀d a' w',w'.ownsRow z e size d (n+1) (xs++ys)→Row w' zb (d::us)→aD (fun g=>v.ownBlock=some g∨g=zb) w w'→(∀g,d.ownBlock=some g→v.ownBlock=some g∨w.heap.size≤g)→Has (S.put m { o:=fun _=>d }) κ N F' a'→a'.defers=a.defers→wpL P Q rest a' w'):wpL P Q (Code.region id ops false::rest) a w:=by
 unfold aB2 at hB;split at hB
 ·rename_i s1 d1 t1 ps _ _ _ d2 c9 ts _ _ _ d3 E tz fi c8 cj bb E4 Z y ds dk dc e1 e2
  split at hB
  ·rename_i x s y1 t2 t3 p1 p2 p3
   simp only[Bool.and_eq_true]at hB;obtain⟨q1,q2,q3,q4,q5,q6,q7,q8,q9,L,cm,cp,cu,O,a0,a3,cv,cw,cx,cy,c4,c5,c6,c7⟩:=hB;have q1:=Nat.eq_of_beq_eq_true q1;have q2:=Nat.eq_of_beq_eq_true q2;have q3:=Nat.eq_of_beq_eq_true q3;have q4:=Nat.eq_of_beq_eq_true q4;have q5:=Nat.eq_of_beq_eq_true q5;have q6:=Nat.eq_of_beq_eq_true q6;have a0:=Nat.eq_of_beq_eq_true a0;have a3:=Nat.le_of_ble_eq_true a3;subst q1 q2 q3 q4 q5 q6;obtain rfl:ps = #[(0,x)]:=Array.ext' p1;obtain rfl:c9 = #[.tmp s,.tmp y1]:=Array.ext' p2;obtain rfl:ts = #[t3,t3]:=Array.ext' p3;have nb:∀{p q:Nat},(!Nat.beq p q)=true→p≠q:=fun h e=>by subst e;simp at h
   have n7:=nb q7;have cc:=nb cm;have cd:=nb cp;have cf:=nb cu;show(Code.region id ops false).wp P (Exit.then (wpL P Q rest) Q) a w;refine wp_region_list ?_;obtain⟨it,zt,hi,a9,X,bw,bx⟩:=hT.info;have aa:=List.take_append_drop i ops.toList;rw[e2]at aa;have bt:Now S κ N P {} ⟨fun _=>False,fun _ _=>True,fun _ _ _ _ _=>trivial⟩ ⟨F,M,k,[]⟩ a w:=
    ⟨hn.has,⟨fun r l h=>⟨⟨(hn.mem.get r l h).1.1,fun h=>h⟩,(hn.mem.get r l h).2⟩⟩,⟨ξ,ξ,ξ,ξ,(fun _ _ _ _ r l h=>by cases h),ξ⟩,fun _ h=>h.elim,trivial⟩
   have step:wpList P ops.toList.toArray (Exit.then (wpL P Q rest) Q) ops.toList a w:=by
    conv=>arg 4;rw[←aa]
    refine eJ e1 bt fun κ1 U w1 Y R=>?_
    have af:Kz w w1:=R.keep;split at q8
    ·rename_i vx b1
     split at q9
     ·rename_i vs b0
      split at L
      ·rename_i vz b2
       have q8:=SV.same_ok q8;have q9:=SV.same_ok q9;have L:=SV.same_ok L;subst q8 q9 L;have cb:κ1 r=(zb,0):=(R.upto r a3).trans hκ;have ex:U.eval x=vx.den S κ:=by rw[Y.has.ev b1,SV.sc_ok R.upto c6]
       have es:U.tmps[s]?=some v:=by rw[Y.has.get _ _ b0,←hv];rfl
       have ez:U.tmps[tz]?=some (.pointer (some ⟨zb,0,none⟩)):=by
        rw[Y.has.get _ _ b2];show some (Value.pointer (some ⟨(κ1 r).1,(κ1 r).2+0,none⟩))=_;rw[cb]
       have al:=a7.kept (af.grown none) (by cases v.ownBlock<;>simp);have bl:y1<U.tmps.size:=by rw[Y.has.size];exact Nat.le_of_ble_eq_true cv
       have di:w.heap.size≤w1.heap.size:=af.size;refine wpList_buildSlice rfl t3 e 1 _ rfl ys.toArray it zt hT.un hi a9 (by rw[X];have:=hT.small;omega) (by rw[X];have:=hT.pos;omega) ?_ ?_
       ·simp only[List.map_toArray,List.map_cons,List.map_nil]
        rw[X,ex,lL size _ _ (by rw[hy];simpa using b5) ξ,hy]
       have W:Kz w1 (w1.alloc (.cells ys.toArray e)):=(aD.refl _ _).alloc _;refine wpList_append_lies _ rfl (.tmp s) (.tmp y1) t3 rfl z e it zt size bytes hT.un hi a9 X bw bx hT.pos v n xs ?_ (al.alloc _) ⟨w1.heap.size,0,none⟩ 1 1 ys ?_ χ (fun j u hu=>?_) b3 χ bc bf (by have:=W.size;omega) _ rfl ?_
       ·show(U.tmps.setIfInBounds y1 _).getD s undef=v
        rw[Array.getD_eq_getD_getElem?,Array.getElem?_setIfInBounds_ne (fun h=>n7 h.symm),es];rfl
       ·show(U.tmps.setIfInBounds y1 _).getD y1 undef=_
        rw[Array.getD_eq_getD_getElem?,Array.getElem?_setIfInBounds_self_of_lt bl];rfl
       ·rw[g0,World.cell?_alloc_at _ _ _ _ rfl]
        simp[hu]
       intro g ad w4 h1 h2 V h4;have bm:y<U.tmps.size:=by rw[Y.has.size];exact Nat.le_of_ble_eq_true cw
       have bo:Z<U.tmps.size:=by rw[Y.has.size];exact Nat.le_of_ble_eq_true cx
       have a5:aD (fun g=>v.ownBlock=some g) w w4:=(af.trans W fun _ _ e=>e).mono (fun _ _ e=>e.elim) |>.trans (aD.of_grown h2 fun k e=>e) fun _ _ e=>e
       have an:Row w4 zb (u::us):=ac.keep a5 a8;obtain⟨d,D⟩:∃d,d=Value.slice (some ⟨g,0,none⟩) (n+1) ad:=⟨_,rfl⟩;have bp:g≠zb:=fun e=>by
        rcases V with V|V
        ·exact a8 (by rw[←e];exact V)
        ·have:=ac.lt
         have:=W.size;omega
       obtain⟨I,B⟩:∃I:Act,I=(U.put (some y1) (.slice (some ⟨w1.heap.size,0,none⟩) 1 1)).put (some y) (.slice (some ⟨g,0,none⟩) (n+1) ad):=⟨_,rfl⟩;have J:I.tmps.size=N:=by rw[B];simpa[Act.put]using Y.has.size
       have ca:I.tmps[tz]?=some (.pointer (some ⟨zb,0,none⟩)):=by
        rw[B];simp only[Act.put];rw[Array.getElem?_setIfInBounds_ne (fun h=>cd h.symm),Array.getElem?_setIfInBounds_ne (fun h=>cc h.symm)];exact ez
       have b4:I.tmps[y]?=some d:=by
        rw[B,D];simp only[Act.put];rw[Array.getElem?_setIfInBounds_self_of_lt (by simpa using bm)]
       have bd:Has S κ N [(tz,.one (.p r 0))] I:=⟨J,fun t u ht=>by
        rw[bk]at ht;split at ht
        ·rename_i ee
         subst ee;obtain rfl:=Option.some.inj ht;rw[ca];show _=some (Value.pointer (some ⟨(κ r).1,(κ r).2+0,none⟩));rw[hκ]
        ·cases ht⟩
       rw[show((U.put (some y1) (.slice (some ⟨w1.heap.size,0,none⟩) 1 1)).put (some y) (.slice (some ⟨g,0,none⟩) (n+1) ad))=I from B.symm];split at O
       ·rename_i vf bz
        have O:=SV.same_ok O;subst O;refine bR rfl fun K hK=>?_
        unfold Oper.wp;rw[rC (P:=P) (S:=S) (κ:=κ) (C:={}) (H:=H0) (M:=[]) (w:=w4) (o:={ dst:=some Z,op := .fieldAddr E (.tmp tz) fi,type:=c8,pos:=cj,after:=bb,guard:=none }) bz bd (fun _ _ h=>by cases h) ⟨ξ,ξ,ξ,ξ,(fun _ _ _ _ r l h=>by cases h),ξ⟩];have e0:SV.den S κ (.one (.p r 0))=.pointer (some ⟨zb,0,none⟩):=by
         show Value.pointer (some ⟨(κ r).1,(κ r).2+0,none⟩)=_;rw[hκ]
        rw[e0];refine hK _ _ (bR rfl fun K2 be=>?_);have ed:(I.put (some Z) (.pointer (some ⟨zb,0,none⟩))).eval (.tmp Z)=.pointer (some ⟨zb,0,none⟩):=At.eval At.put_self (by simp[Act.put,J];rw[←Y.has.size];exact bo);have ey:(I.put (some Z) (.pointer (some ⟨zb,0,none⟩))).eval (.tmp y)=d:=by
         show(I.tmps.setIfInBounds Z _).getD y undef=d;rw[Array.getD_eq_getD_getElem?,Array.getElem?_setIfInBounds_ne (fun h=>cf h.symm),b4];rfl
        obtain⟨cs,E0,c1,c2,c3⟩:=an.put (vs:=[d]) (i:=0) ξ;unfold Oper.wp;rw[dI (P:=P) (vs:=[d]) (b:=zb) (off:=0) (cs:=cs) (E0:=E0) (x := .tmp Z) (y := .tmp y) rfl ed (by rw[ey,D];rfl) (fun x hx=>by obtain rfl:=List.mem_singleton.1 hx;rw[D];rfl) a0 Nat.one_pos c1 (by simpa using c2)];have a6:aD (fun g=>g=zb) w4 (w4.setRow zb (bn cs 0 [d])):=dG _ _ _ rfl;refine be _ _ (ln ?_);refine hQ d _ _ ?_ ?_ ?_ ?_ ?_ ?_
        ·rw[D]
         exact yC h1 (by rw[←D];exact a6) fun k hk e=>bp ((show g=k from by simpa[Value.ownBlock]using hk).trans e)
        ·simpa using c3
        ·exact(a5.mono fun _ _ h =>.inl h).trans (a6.mono fun _ _ h =>.inr h) fun _ _ h=>h
        ·intro g' a4
         rw[D]at a4;obtain rfl:g=g':=by simpa[Value.ownBlock]using a4
         rcases V with V|V
         ·exact .inl V
         ·exact .inr (by rw[V];have:=W.size;omega)
        ·have hF:=((Y.has.sub cy).back R.upto c7).on (aS S m { o:=fun _=>d }) c4
         refine⟨by simpa[Act.put]using J,fun t u ht=>?_⟩;have h5:=List.all_eq_true.1 c5 _ (iY ht);simp only[Bool.and_eq_true]at h5;show((I.put (some Z) _).tmps)[t]?=_;simp only[Act.put];rw[Array.getElem?_setIfInBounds_ne (fun h=>nb h5.2.2 h.symm),B];simp only[Act.put];rw[Array.getElem?_setIfInBounds_ne (fun h=>nb h5.2.1 h.symm),Array.getElem?_setIfInBounds_ne (fun h=>nb h5.1 h.symm)];exact hF.get t u ht
        ·rw[B]
         obtain⟨lw,ew,bs⟩:=R.agree;exact bs.defers
       ·cases O
      ·cases L
     ·cases q9
    ·cases q8
   simpa using step
  ·cases hB
 ·cases hB
def vBF(P:Program)(E0:List (Nat×Nat×IE×Nat×Nat))(N rb:Nat)(ops:List Oper)(F:Fr)(M:Mm)(k i jf:Nat)(f:FuncId)(as caps:List SV)(rv:SV)(m:Nat)(ws:Nat→Bool)(F':Fr)(M':Mm)(k':Nat):Bool:=
 match stL P { EL:=E0 } N ops (ops.take i) ⟨F,M,k,[]⟩,ops[i]? with
 | some s1,some o =>
  match gd [] ops s1.F o.guard,o.op,o.dst with
  | some true,.call ⟨.value (.tmp tf),xs,_⟩,some dt =>
   ((match gt s1.F tf with|some v=>SV.same v (.one (.v jf))|none=>false)&&((gm s1.M rb).isNone&&s1.M.all fun x=>Nat.ble (x.1+1) s1.k))&&((match evs s1.F xs.toList with|some l=>ki l as|none=>false)&&(iA P f&&(Nat.ble (dt+1) N&&(lI (lo m) s1.F&&(mC (lo m) s1.M&&(vX E0 m k&&(eqL s1.e []&&((as++caps).all (SV.sc k)&&(rv.sc k&&(((s1.F.take (s1.F.length-F.length)).all fun z=>ws z.1)&&(ws dt &&
    gU ((stL P { EL:=E0 } N ops (ops.drop (i+1)) ⟨(dt,rv)::s1.F,s1.M,s1.k,[]⟩).map fun s=>(.n,s)) ⟨(dt,rv)::s1.F,s1.M,s1.k,[]⟩ .n ws F' M' k' [])))))))))))
  | _,_,_=>false
 | _,_=>false
theorem EN{S:Sta}{N:Nat}{P:Program}{E0:List (Nat×Nat×IE×Nat×Nat)}{T2:Nat→Prop}{id:Nat}{ops:Array Oper}{rest:List Code}{Q:Exit→Act→World→Prop}{F:Fr}{M:Mm}{k:Nat}{κ:Kap}{a:Act}{w:World}
 (i jf rb:Nat)(f:FuncId)(as q:List SV)(D:SV)(m:Nat)(Φ:Sta→World→Prop)(ws:Nat→Bool)(F':Fr)(M':Mm)(k':Nat)(H:vBF P E0 N rb ops.toList F M k i jf f as q D m ws F' M' k'=true)(hn:Now S κ N P { EL:=E0 } H0 ⟨F,M,k,[]⟩ a w)
 (ac:∀r,r<k→r=rb∨¬ T2 (κ r).1)(ad:∀g,T2 g→g<w.heap.size)(an:S.o jf=.func (.func f) #[] (q.map (SV.den S κ)).toArray)
 (hf:∀w',Kz w w'→Calls P f ((as++q).map (SV.den S κ)).toArray w' fun e aa=>∃d,Φ d aa∧e=.returned (D.den (S.put m d) κ)∧aD T2 w' aa)
 (hQ:∀κ' a' w' d w1,Φ d w1→Kz w1 w'→Now (S.put m d) κ' N P { EL:=E0 } H0 ⟨F',M',k',[]⟩ a' w'→ce k κ κ'→aD T2 w w'→aE ws a a'→wpL P Q rest a' w'):wpL P Q (Code.region id ops false::rest) a w:=by
 unfold vBF at H;split at H
 ·rename_i s1 o e1 e2
  split at H
  ·rename_i tf xs ts dt hg V C
   simp only[Bool.and_eq_true]at H;obtain⟨X,Z,q3,q4,q5,q6,q7,q8,q9,a6,J,a7,y⟩:=H;have q8:=mN q8;show(Code.region id ops false).wp P (Exit.then (wpL P Q rest) Q) a w;refine wp_region_list ?_;have v:ops.toList=ops.toList.take i++(o::ops.toList.drop (i+1)):=by
    have hi:=(List.getElem?_eq_some_iff.1 e2);obtain⟨hi,hv⟩:=hi;rw[←hv,←List.drop_eq_getElem_cons hi,List.take_append_drop]
   have B:wpList P ops.toList.toArray (Exit.then (wpL P Q rest) Q) (ops.toList.take i++(o::ops.toList.drop (i+1))) a w:=by
    refine eJ e1 hn fun R L w1 I u=>?_
    refine Lz fun K hK=>?_
    have hw:=mr I.has I.ctx.fa hg;rw[if_pos hw];obtain⟨dst,op,ty,pos,af,gu⟩:=o;simp only at V C;subst V C;split at Z
    ·rename_i l U
     have Z:=gb Z;subst Z;obtain⟨X,Y,a8⟩:=X;have q9:=(List.all_append▸q9:(l.all (SV.sc k)&&q.all (SV.sc k))=true);rw[Bool.and_eq_true]at q9;have ht:L.eval (.tmp tf)=.func (.func f) #[] (q.map (SV.den S κ)).toArray:=by
      split at X
      ·rename_i vt a4
       rw[I.has.ev (x := .tmp tf) a4,SV.same_ok X];exact an
      ·cases X
     have E:(#[]++xs.map L.eval++(q.map (SV.den S κ)).toArray:Array Value)=((l++q).map (SV.den S κ)).toArray:=by
      apply Array.ext'
      have h1:=jZ I.has U;have h2:l.map (SV.den S R)=l.map (SV.den S κ):=List.map_congr_left fun x hx=>SV.sc_ok u.upto (List.all_eq_true.1 q9.1 x hx)
      simp[h1,h2]
     unfold Oper.wp;rw[rN ht,cQ q3,E];refine(hf w1 u.keep).mono fun e w2 ⟨d,hd,he,hk⟩=>?_
     subst he;have W:Now S R N P { EL:=E0 } H0 s1 L w2:=by
      refine⟨I.has,⟨fun r l U=>?_⟩,⟨ξ,I.ctx.el,ξ,ξ,(fun _ _ _ _ r l h=>by cases h),ξ⟩,fun _ h=>h.elim,trivial⟩;obtain⟨⟨h1,_⟩,h3⟩:=I.mem.get r l U;have a3:¬ T2 (R r).1:=by
       rcases Nat.lt_or_ge r k with c|c
       ·rw[u.upto r c]
        rcases ac r c with e|e
        ·subst e;rw[U]at Y;cases Y
        ·exact e
       ·have O:=Nat.le_of_ble_eq_true (List.all_eq_true.1 a8 _ (gV U))
        have h9:=(u.new r c O).1.1;intro h8;have:=ad _ h8;omega
      exact⟨⟨Nat.lt_of_lt_of_le h1 hk.size,fun h=>h⟩,fun j c hj=>(hk.cell (p:=⟨_,_,none⟩) h1 a3).trans (h3 j c hj)⟩
     have hA:=aS S m d;have O:D.den (S.put m d) κ=D.den (S.put m d) R:=(SV.sc_ok u.upto a6).symm;show K (L.put (some dt) (D.den (S.put m d) κ)) w2;rw[O];have n3:Now (S.put m d) R N P { EL:=E0 } H0 ⟨(dt,D)::s1.F,s1.M,s1.k,[]⟩ (L.put (some dt) (D.den (S.put m d) R)) w2:=
      ⟨(W.has.on hA q5).put (Nat.le_of_ble_eq_true q4),W.mem.on hA q6,mQ W.ctx rfl q7 hA,W.tb,by have:=W.gh;rw[q8]at this;exact this⟩
     refine hK _ _ ?_
     cases e3:stL P { EL:=E0 } N ops.toList (ops.toList.drop (i+1)) ⟨(dt,D)::s1.F,s1.M,s1.k,[]⟩with
     | none=>rw[e3]at y;cases y
     | some s2 =>
      rw[e3]at y;refine uM e3 n3 fun κ2 a2 w3 n4 w4=>?_
      obtain⟨_,_,n5,p5⟩:=fT y n4 w4;obtain⟨lw,ew,a0⟩:=u.agree;refine hQ κ2 a2 w3 d w2 hd w4.keep n5 (fun r O=>(p5.upto r (Nat.lt_of_lt_of_le O u.le)).trans (u.upto r O)) (((u.keep.mono fun _ _ h=>h.elim).trans hk fun _ _ e=>e).trans (p5.keep.mono fun _ _ h=>h.elim) fun _ _ e=>e) ?_;have al:aE ws a L:=a0.mono fun t ht=>by
       rw[ew]at J;have:(lw++F).length-F.length=lw.length:=ξ
       rw[this,List.take_left]at J;obtain⟨z,hz,a5⟩:=List.any_eq_true.1 ht;rw[←Nat.eq_of_beq_eq_true a5];exact List.all_eq_true.1 J z hz
      exact(al.put a7 _).trans p5.agree fun _ h=>h
    ·cases Z
   rw[←v]at B
   simpa using B
  ·cases H
 ·cases H
