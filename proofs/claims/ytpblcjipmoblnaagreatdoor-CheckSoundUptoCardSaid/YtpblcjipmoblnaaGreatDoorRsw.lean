import Derived.Test.YtpblcjipmoblnaaGreatDoorRsp
import Derived.Great.BuildSlice
set_option maxRecDepth 100000
set_option linter.all false
set_option maxHeartbeats 4000000
namespace Go.Proofs.YtpblcjipmoblnaaGreatDoor.Rs
open Go.RowKit Go.Proofs.YtpblcjipmoblnaaGreatDoor
theorem Ak(l:List Value):∀(k:Nat) (cs:Array Value),k+l.length≤cs.size→(l.zipIdx k).foldl (fun(cs:Array Value) (x:Value×Nat)=>cs.setIfInBounds x.2 x.1) cs=(cs.toList.take k++l++cs.toList.drop (k+l.length)).toArray:=by
 induction l with
 | nil=>intro k cs h;simp
 | cons x l ih =>
  intro k cs h;simp only[List.length_cons]at h;rw[List.zipIdx_cons,List.foldl_cons,ih (k+1) _ η]
  apply Array.ext'
  simp only[List.length_cons,Array.toList_setIfInBounds];have hk:k<cs.toList.length:=η
  rw[List.take_succ_eq_append_getElem (by simpa using hk),List.take_set_of_le χ,List.getElem_set_self,List.drop_set_of_lt χ];simp[Nat.add_assoc,Nat.add_comm 1]
theorem zG(n:Nat)(z:Array Value)(v:Value)(h:v.cells.size=n)(d:z.size=n):Instr.fill (fun i=>some (i*n,n)) z [(0,v)]=some v.cells:=by
 have g:¬ ((v.cells.size≠n||0*n+v.cells.size>z.size)=true):=by simp[h,d]
 simp only[Instr.fill];rw[if_neg g]
 congr 1
 have:=Ak v.cells.toList 0 z η;simp only[Nat.zero_mul,Nat.zero_add];rw[←Array.foldl_toList,Array.toList_zipIdx];rw[show(fun(cs:Array Value) (x:Value×Nat)=>cs.setIfInBounds x.2 x.1)=fun cs x=>match x with|(c,j)=>cs.setIfInBounds j c from rfl]at this;rw[this]
 apply Array.ext'
 simp[h,d]
structure BO (P:Program) (t e:TypeId) (size bytes:Nat):Prop where
 un:P.underlying t=some (.slice e)
 inf:((P.info? e).bind fun i=>i.zero.map fun z=>(i.size,i.bytes,z.cells.size))=some (size,bytes,size)
 pos:0<size
 small:size≤16777216
theorem BO.info{P:Program}{t e:TypeId}{size d:Nat}(h:BO P t e size d):∃i z,P.info? e=some i∧i.zero=some z∧i.size=size∧i.bytes=d∧z.cells.size=size:=by
 obtain⟨i,l,j⟩:=Option.bind_eq_some_iff.1 h.inf;obtain⟨z,p,g⟩:=Option.map_eq_some_iff.1 j;simp only[Prod.mk.injEq]at g;exact⟨i,z,l,p,g.1,g.2.1,g.2.2⟩
def aB(P:Program)(E0:List (Nat×Nat×IE×Nat×Nat))(N:Nat)(ops:List Oper)(F:Fr)(M:Mm)(k i:Nat)(t:TypeId)(j:Nat)(xv:SV)(m d3:Nat)(ws:Nat→Bool)(F':Fr):Bool:=
 match stL P { EL:=E0 } N ops (ops.take i) ⟨F,M,k,[]⟩,ops.drop i with
 | some s1,[⟨some d1,.buildSlice t1 1 ps,_,_,_,none⟩,⟨some d2,.call ⟨.builtin .append,xs,ts⟩,_,_,_,none⟩,⟨some d,.assign (.tmp y),_,_,_,none⟩] =>
  match ps.toList,xs.toList,ts.toList with
  | [(0,x)],[.tmp s,.tmp y1],[t2,t3] =>
   Nat.beq t1 t&&(Nat.beq t2 t&&(Nat.beq t3 t&&(Nat.beq y1 d1&&(Nat.beq y d2&&(Nat.beq d d3&&(!Nat.beq s d1&&((match ev s1.F x with|some v=>SV.same v xv|none=>false)&&((match gt s1.F s with|some v=>SV.same v (.one (.v j))|none=>false) &&
    (Nat.ble (d1+1) N&&(Nat.ble (d2+1) N&&(Nat.ble (d3+1) N&&(qH s1.F F'&&(kj (lo m) F'&&(F'.all (fun z =>!Nat.beq z.1 d1&&(!Nat.beq z.1 d2 && !Nat.beq z.1 d3))&&(((s1.F.take (s1.F.length-F.length)).all fun z=>ws z.1)&&(ws d1&&(ws d2&&(ws d3&&(xv.sc k&&F'.all fun x=>x.2.sc k)))))))))))))))))))
  | _,_,_=>false
 | _,_=>false
theorem Cu{S:Sta}{N:Nat}{P:Program}{E0:List (Nat×Nat×IE×Nat×Nat)}{H:Gh}{id:Nat}{A:Array Oper}{rest:List Code}{Q:Exit→Act→World→Prop}{F:Fr}{M:Mm}{k:Nat}{κ:Kap}{a:Act}{w:World}{z n size q:Nat}{e:TypeId}{v:Value}{xs ys:List Value}
 (i:Nat)(t:TypeId)(j:Nat)(xv:SV)(m d3:Nat)(ws:Nat→Bool)(F':Fr)(J:aB P E0 N A.toList F M k i t j xv m d3 ws F'=true)(hn:Now S κ N P { EL:=E0 } H ⟨F,M,k,[]⟩ a w)
 (W:BO P t e size q)(hv:S.o j=v)(ac:w.ownsRow z e size v n xs)(hz:z≤w.heap.size)(hy:(xv.den S κ).cells=ys.toArray)(bm:ys.length=size)(bf:∀u∈ys,u.oneCell'=true)(a0:n+1≤maxLen)(a3:(n+1)*q≤140737488355328)
 (hQ:∀v' a' w',w'.ownsRow z e size v' (n+1) (xs++ys)→aD (fun g=>v.ownBlock=some g) w w'→(∀g,v'.ownBlock=some g→v.ownBlock=some g∨w.heap.size≤g)→Has (S.put m { o:=fun _=>v' }) κ N ((d3,.one (.v m))::F') a'→aA ws a a'→wpL P Q rest a' w'):wpL P Q (Code.region id A false::rest) a w:=by
 unfold aB at J;split at J
 ·rename_i s1 d1 t1 ps _ _ _ d2 cb ts _ _ _ d y _ _ _ e1 e2
  split at J
  ·rename_i x s E t2 t3 p1 p2 p3
   simp only[Bool.and_eq_true]at J;obtain⟨q1,q2,q3,q4,q5,q6,q7,q8,q9,bp,bt,bw,bx,bz,b0,V,b1,b2,b3,b4,b5⟩:=J;have q1:=Nat.eq_of_beq_eq_true q1;have q2:=Nat.eq_of_beq_eq_true q2;have q3:=Nat.eq_of_beq_eq_true q3;have q4:=Nat.eq_of_beq_eq_true q4;have q5:=Nat.eq_of_beq_eq_true q5;have q6:=Nat.eq_of_beq_eq_true q6;subst q1 q2 q3 q4 q5 q6;obtain rfl:ps = #[(0,x)]:=Array.ext' p1;obtain rfl:cb = #[.tmp s,.tmp E]:=Array.ext' p2;obtain rfl:ts = #[t3,t3]:=Array.ext' p3;show(Code.region id A false).wp P (Exit.then (wpL P Q rest) Q) a w;refine wp_region_list ?_;obtain⟨it,zt,hi,ad,C,ba,bb⟩:=W.info;have I:=List.take_append_drop i A.toList;rw[e2]at I;have a9:Now S κ N P { EL:=E0 } ⟨fun _=>False,fun _ _=>True,fun _ _ _ _ _=>trivial⟩ ⟨F,M,k,[]⟩ a w:=
    ⟨hn.has,⟨fun r l h=>⟨⟨(hn.mem.get r l h).1.1,fun h=>h⟩,(hn.mem.get r l h).2⟩⟩,⟨ξ,hn.ctx.el,ξ,ξ,(fun _ _ _ _ r l h=>by cases h),ξ⟩,fun _ h=>h.elim,trivial⟩
   have step:wpList P A.toList.toArray (Exit.then (wpL P Q rest) Q) A.toList a w:=by
    conv=>arg 4;rw[←I]
    refine jv e1 a9 fun κ1 B Y X D=>?_
    have L:Kz w Y:=D.keep;split at q8
    ·rename_i vx be
     split at q9
     ·rename_i vs bd
      have q8:=SV.same_ok q8;have q9:=SV.same_ok q9;subst q8 q9;have ex:B.eval x=vx.den S κ:=by rw[X.has.ev be,SV.sc_ok D.upto b4]
      have es:B.tmps[s]?=some v:=by rw[X.has.get _ _ bd,←hv];rfl
      have R:=ac.kept (L.grown none) (by cases v.ownBlock<;>simp);have a4:E<B.tmps.size:=by rw[X.has.size];exact Nat.le_of_ble_eq_true bp
      have cc:w.heap.size≤Y.heap.size:=L.size;have bc:s≠E:=fun h=>by subst h;simp at q7
      refine wpList_buildSlice rfl t3 e 1 _ rfl ys.toArray it zt W.un hi ad (by rw[C];have:=W.small;omega) (by rw[C];have:=W.pos;omega) ?_ ?_
      ·simp only[List.map_toArray,List.map_cons,List.map_nil]
       rw[C,ex,zG size _ _ (by rw[hy];simpa using bm) ξ,hy]
      have O:Kz Y (Y.alloc (.cells ys.toArray e)):=(aD.refl _ _).alloc _;refine wpList_append_lies _ rfl (.tmp s) (.tmp E) t3 rfl z e it zt size q W.un hi ad C ba bb W.pos v n xs ?_ (R.alloc _) ⟨Y.heap.size,0,none⟩ 1 1 ys ?_ χ (fun j u hu=>?_) bf χ a0 a3 (by have:=O.size;omega) _ rfl ?_
      ·show(B.tmps.setIfInBounds E _).getD s undef=v
       rw[Array.getD_eq_getD_getElem?,Array.getElem?_setIfInBounds_ne (fun h=>bc h.symm),es];rfl
      ·show(B.tmps.setIfInBounds E _).getD E undef=_
       rw[Array.getD_eq_getD_getElem?,Array.getElem?_setIfInBounds_self_of_lt a4];rfl
      ·rw[jk,World.cell?_alloc_at _ _ _ _ rfl]
       simp[hu]
      intro g af w4 h1 h2 Z h4;refine wpList_plain rfl fun K hK=>?_
      unfold Oper.wp execOp;simp only[Sem.run_pure];refine hK _ _ (ln ?_);obtain⟨lw,ew,a8⟩:=D.agree;have a2:aA ws a B:=a8.mono fun t U=>by
       rw[ew]at V;have:(lw++F).length-F.length=lw.length:=ξ
       rw[this,List.take_left]at V;obtain⟨z,hz,bo⟩:=List.any_eq_true.1 U;rw[←Nat.eq_of_beq_eq_true bo];exact List.all_eq_true.1 V z hz
      have a5:y<B.tmps.size:=by rw[X.has.size];exact Nat.le_of_ble_eq_true bt
      have a6:d<B.tmps.size:=by rw[X.has.size];exact Nat.le_of_ble_eq_true bw
      refine hQ _ _ w4 h1 ?_ (fun g' a7=>?_) ?_ (((a2.put b1 _).put b2 _).put b3 _)
      ·exact(L.trans O fun _ _ e=>e).mono (fun _ _ e=>e.elim) |>.trans (aD.of_grown h2 fun k e=>e) fun _ _ e=>e
      ·obtain rfl:g=g':=by simpa[Value.ownBlock]using a7
       rcases Z with Z|Z
       ·exact .inl Z
       ·exact .inr (by rw[Z];have:=O.size;omega)
      ·have hF:=((X.has.sub bx).back D.upto b5).on (aQ S m { o:=fun _=>(Value.slice (some ⟨g,0,none⟩) (n+1) af) }) bz
       have bl:y<(B.tmps.setIfInBounds E (Value.slice (some ⟨Y.heap.size,0,none⟩) 1 1)).size:=by simpa using a5
       refine⟨by simpa[Act.put]using hF.size,fun t u U=>?_⟩;rw[bD]at U;simp only[Act.put];split at U
       ·rename_i ed
        subst ed;obtain rfl:=Option.some.inj U;rw[Array.getElem?_setIfInBounds_self_of_lt (by simpa using a6)];show some (((B.tmps.setIfInBounds E _).setIfInBounds y _).getD y undef)=some ((S.put m _).o m);rw[Array.getD_eq_getD_getElem?,Array.getElem?_setIfInBounds_self_of_lt bl];have:Nat.ble m m=true:=Nat.ble_eq_true_of_le (Nat.le_refl m);simp[Sta.put,this]
       ·rename_i ed
        have h5:=List.all_eq_true.1 b0 _ (ki U);simp only[Bool.and_eq_true,Bool.not_eq_true']at h5;have n5:∀{p:Nat},Nat.beq t p=false→¬ p=t:=fun h e=>by subst e;simp at h
        rw[Array.getElem?_setIfInBounds_ne (n5 h5.2.2),Array.getElem?_setIfInBounds_ne (n5 h5.2.1),Array.getElem?_setIfInBounds_ne (n5 h5.1)];exact hF.get t u U
     ·cases q9
    ·cases q8
   simpa using step
  ·cases J
 ·cases J
