import Derived.Test.YthobcefghkeddaaGreatDoorCards
import Derived.Test.YthobcefghkeddaaGreatDoorTie
import Derived.Test.YthobcefghkeddaaGreatDoorNam
import Derived.Test.YthobcefghkeddaaGreatDoorNWorld
import Derived.Test.YthobcefghkeddaaGreatDoorNaFacts
set_option maxRecDepth 100000
set_option linter.all false
set_option maxHeartbeats 4000000
namespace Go.Proofs.YthobcefghkeddaaGreatDoor.placeNamesFacts
open Go
theorem closed:joinedFacts P f fn s c=true:=by
 unfold joinedFacts;exact(dh (dh (dh (dh (dh (dh (dh (dh (dh (dh (dh (dh (dh (dh (dh (dh (dh (dh (dh (dh (dh (dh (dh (dh (dh (dh (dh (dh (dh (dh (dh j0 j1) j2) j3) j4) j5) j6) j7) j8) j9) j10) j11) j12) j13) j14) j15) j16) j17) j18) j19) j20) j21) j22) j23) j24) j25) j26) j27) j28) j29) j30) j31)
end Go.Proofs.YthobcefghkeddaaGreatDoor.placeNamesFacts
namespace Go.Proofs.YthobcefghkeddaaGreatDoor.names
open Go.Proofs.YthobcefghkeddaaGreatDoor.qB
open Go.ChangeShapes Go.WideShapes Go.ChangeAt Go.RowKit
theorem own:ownKnob Tryz.prog.godebug=none:=δ
theorem AH(H:Type)(enc:TypeId×Value→H)(W:World)(args:Array Value)(u B:List (DataW H))(d:List MemPlace)
 (x:DataW.Whole enc Tryz.prog Tryz.f6.params.toList Rows.placeNamesSpec.vars false W args.toList u B d)(C:laidMetH Tryz.prog Rows.placeNamesRow.laid W)(l:W.ShapedOpen Tryz.prog):
 Calls Tryz.prog 6 args W fun e W'=>∃v,e=.returned v∧Rows.placeNamesSpec.post enc Tryz.prog Tryz.f6 false true false false W args v W':=by
 have j:=x;obtain⟨p,q,g,D,rfl,J,K⟩:=x;have w:DataW.TrodAll enc Tryz.prog W 0 (fun _=>true) true Tryz.f6.params.toList args.toList u p:=g;rw[Tryz.params6]at w;obtain⟨y,rfl,rfl⟩:=trodAll_nil w;obtain rfl:args = #[]:=by cases args;simp_all
 obtain⟨rfl,rfl⟩:=trodVars_none D;clear g;simp only[List.append_nil]at j;refine(Rs.xI (uR C l) (Nat.le_refl _)).mono fun e W' ⟨I,hk⟩=>?_
 subst I;have E:Below W.heap.size W W':=hk.below (Nat.le_refl _) (fun _ _ e=>e);exact⟨_,rfl,_,_,_,[],_,[],j,trodAll_mk1 (shut_bool Tryz.underlying4 _),trodAll_mk0,rfl,E.frame _,fun h=>by cases h⟩
theorem reads(os:Os){H:Type}(enc:TypeId×Value→H):∃aV,DataW.whole enc Tryz.prog (wl os).memory Tryz.f6.params.toList Rows.placeNamesSpec.vars false (#[]:Array Value).toList 8=some ([],[],aV):=
 ⟨[],δ⟩
theorem lifted(os:Os)(d:os.Started)(H:Type)(enc:TypeId×Value→H)(F:Stop.Interp):
 ReturnsInHanded {} Tryz.checked os 6 .any ((OpenSpec.ofChange Rows.placeNamesSpec).preRow enc Tryz.prog Tryz.f6 Rows.placeNamesRow.domain false Rows.placeNamesRow.laid) (((OpenSpec.ofChange Rows.placeNamesSpec).at F).post enc Tryz.prog Tryz.f6 false true false false):=by
 obtain⟨aV,v⟩:=reads os enc;refine returnsInHanded_of_row (C:=Tryz.checked) (s:=OpenSpec.ofChange Rows.placeNamesSpec) own d δ Tryz.func6
  (witness_row_atRef (enc:=enc) (C:=Tryz.checked) false (qL os) #[] rfl (AX os) (AY os) δ
   (OpenSpec.preRow_of_cond 8 v δ (fun k hk=>by cases hk) δ (zR os))) ?_
 intro W base args j l g _ u _ _ _ q h _;exact AH H enc W args j l g u q h
theorem E6:Rows.PlaceNamesSaid:=
 OpenClaim.holds_of_cond 6 Tryz.f6 rfl rfl rfl rfl rfl rfl rfl ⟨rfl,rfl,rfl,rfl,rfl⟩ rfl rfl rfl rfl rfl δ Tryz.func6 placeNamesFacts.closed
  (of_decide_eq_true δ) (by unfold Func.isWrapper;first|(rw[if_pos (by decide +kernel)];kernel_rfl)|(rw[if_neg (by decide +kernel)];exact⟨rfl,rfl⟩))
  (fun os d H enc _ F=>by rw[OpenClaim.pre_eq_preRow];exact lifted os d H enc F)
theorem plain(f:FuncId)(fn:Func)(h:Tryz.pinned.checked.prog.funcNamed "bulkhead/bulkheadlaw11.PlaceNames" = some f)(d:Tryz.pinned.checked.prog.funcs[f]?=some fn):
 true=Tryz.pinned.checked.prog.looks []∧∀(j:Nat) t,fn.params[j]?=some t→Tryz.pinned.checked.prog.wantsStandIn t=false:=by
 obtain rfl:f=6:=Option.some.inj ((show Tryz.prog.funcNamed "bulkhead/bulkheadlaw11.PlaceNames" = some 6 by kernel_rfl).symm.trans h) |>.symm;obtain rfl:fn=Tryz.f6:=(Option.some.inj (Tryz.func6.symm.trans d)).symm;refine⟨δ,fun j t g=>?_⟩;rw[Tryz.params6]at g;simp at g
theorem placeNames_holds:Rows.PlaceNamesCardSaid:=
 Claim7.holds_tied_plain_at .later [] _ _ _ _ E6 (fun _ h=>by cases h) δ (fun _ h=>by cases h) placeNames_row_tie rfl ⟨rfl,rfl⟩ δ rfl plain δ
