/- CheckTurns holds of every policy whose bulk is at most 1048576. -/
import Derived.Test.YtpblcjipmoblnaaGreatDoorCards
import Derived.Test.YtpblcjipmoblnaaGreatDoorTie
import Derived.Test.YtpblcjipmoblnaaGreatDoorTLaw
import Derived.Test.YtpblcjipmoblnaaGreatDoorOpenP
import Derived.Test.YtpblcjipmoblnaaGreatDoorNWorld
import Derived.Test.YtpblcjipmoblnaaGreatDoorTFacts
import Derived.ProofKit
import Derived.OpenShut
import Derived.Deep.DeepHandedRow
set_option maxRecDepth 100000
set_option maxHeartbeats 4000000
set_option linter.unusedVariables false
set_option linter.unusedSimpArgs false
set_option linter.unnecessarySimpa false
namespace Go.Proofs.YtpblcjipmoblnaaGreatDoor.turns
open Go.ChangeShapes Go.WideShapes Go.ChangeAt Go.RowKit
theorem own:ownKnob Tryz.prog.godebug=none:=by kernel_rfl
theorem sZ:laidOutB Tryz.prog=true:=by kernel_rfl
theorem uB{H:Type}{enc:TypeId×Value→H}{W:World}{base:Nat}{r:Reach}{l:Nat}{v:Value}{d:DataW H}{i:List MemPlace}(e:Value.okWide Tryz.prog W r l 35 v)(x:DataW.Trod enc Tryz.prog W base (fun _=>true) true 35 v d i)(q:Rows.uptoBulk d≤1048576):
 ∃ts,dP W.heap.size W v ts:=by
 obtain⟨A,n,c,rfl⟩:=okWide_slice Tryz.underlying35 e;obtain⟨h,B⟩:=x;exact bO (R:=gu) (k:=1) (y:=(d,i)) Tryz.underlying35 (by kernel_rfl) (by decide) (fun _=>rfl) (fun b o m cs z D w g=>by
  obtain⟨n0,p,E,C⟩:=DataW.trod_int Tryz.underlying3 g;subst p;have:=cell_of_cells?_one w;refine⟨n0,fun j u a=>?_,Go.Proofs.YtpblcjipmoblnaaGreatDoor.bL C⟩
  match j,a with
  | 0,a=>cases a;simpa[Addr.add]using this
  | j+1,a=>simp[zA]at a) q (by simpa[Value.cells]using B)
theorem mf(H:Type)(enc:TypeId×Value→H)(W:World)(base:Nat)(args:Array Value)(i D:List (DataW H))(b:List MemPlace)
 (a:∀(j:Nat) t v,Tryz.f4.params[j]?=some t→args[j]?=some v→Value.okWide Tryz.prog W .any base t v)
 (G:DataW.Whole enc Tryz.prog Tryz.f4.params.toList Rows.checkTurnsSpec.vars false W args.toList i D b)(N:laidMetH Tryz.prog Rows.checkNamesRow.laid W)(A:W.ShapedOpen Tryz.prog)(hk:Rows.uptoSmall H (i++D)=true):
 Calls Tryz.prog 4 args W fun e W'=>∃v,e=.returned v∧Rows.checkTurnsSpec.post enc Tryz.prog Tryz.f4 false true false false W args v W':=by
 have r:=G;obtain⟨p,q,g,O,rfl,S,T⟩:=G;have E:DataW.TrodAll enc Tryz.prog W 0 (fun _=>true) true Tryz.f4.params.toList args.toList i p:=g;rw[Tryz.params4]at E a;obtain⟨v0,ac,J,L,Y,q0,u,rfl,rfl,l,r0⟩:=trodAll_cons E;obtain⟨I,ad,K,M,Z,q1,rfl,rfl,rfl,n,r1⟩:=trodAll_cons r0;obtain⟨rfl,rfl,rfl⟩:=trodAll_nil r1;obtain rfl:args = #[v0,I]:=by cases args;simp_all
 obtain⟨rfl,rfl⟩:=trodVars_none O;have Q:Rows.uptoBulk J+Rows.uptoBulk K≤1048576:=by simpa[Rows.uptoSmall,Rows.uptoBulkAll]using hk
 have B:∀x∈Y,x.block<W.heap.size:=by obtain⟨m,y⟩:=l;exact DataW.trod_lt m _ _ _ y
 have C:∀x∈Z,x.block<W.heap.size:=by obtain⟨m,y⟩:=n;exact DataW.trod_lt m _ _ _ y
 obtain⟨V,P,rfl,U⟩:=pt (a 0 34 v0 rfl rfl) l (by omega);obtain⟨ts,X⟩:=uB (a 1 35 I rfl rfl) n (by omega);clear g;refine(tB U X (rh N A) (Nat.le_refl _)).mono fun e W' ⟨R,w⟩=>?_
 subst R;have d:Below W.heap.size W W':=w.below0 (Nat.le_refl _);exact⟨_,rfl,_,_,_,[],_,[],r,trodAll_mk1 (shut_bool Tryz.underlying4 _),trodAll_cons_mk (Below.trod sZ (by kernel_rfl) (of_decide_eq_true (by kernel_rfl)) l d B) (trodAll_cons_mk (Below.trod sZ (by kernel_rfl) (of_decide_eq_true (by kernel_rfl)) n d C) trodAll_mk0),rfl,d.frame _,fun h=>by cases h⟩
def wR:Array Value := #[.agg #[.int .i64 0,.string { data := #[] },.slice none 0 0,.slice none 0 0,.slice none 0 0,.slice none 0 0,.slice none 0 0,.slice none 0 0,.slice none 0 0,.slice none 0 0,.slice none 0 0,.slice none 0 0,.slice none 0 0,.slice none 0 0],.slice none 0 0]
noncomputable abbrev wl (os:Os):World:=(names.ka os).forCall (fun _ _=>0) ⟨#[],wR,[]⟩
theorem mM(os:Os):laidMetH Tryz.prog Rows.checkTurnsUptoRow.laid (wl os).memory:=names.mM os
theorem reads(os:Os){H:Type}(enc:TypeId×Value→H):∃x,DataW.whole enc Tryz.prog (wl os).memory Tryz.f4.params.toList Rows.checkTurnsSpec.vars false wR.toList 8=some x∧Rows.uptoSmall H (x.1++x.2.1)=true:=
 ⟨([.agg [.lit (.int .i64 0),.lit (.string []),.nil,.nil,.nil,.nil,.nil,.nil,.nil,.nil,.nil,.nil,.nil,.nil],.nil],[],[]),by kernel_rfl,by kernel_rfl⟩
theorem lifted(os:Os)(d:os.Started)(H:Type)(enc:TypeId×Value→H)(F:Stop.Interp):
 ReturnsInHanded {} Tryz.checked os 4 .any ((Rows.OpenSpec.upto Rows.checkTurnsSpec).preRow enc Tryz.prog Tryz.f4 Rows.checkTurnsUptoRow.domain false Rows.checkTurnsUptoRow.laid) (((Rows.OpenSpec.upto Rows.checkTurnsSpec).at F).post enc Tryz.prog Tryz.f4 false true false false):=by
 obtain⟨x,hx,l⟩:=reads os enc;refine returnsInHanded_of_row (C:=Tryz.checked) (s:=Rows.OpenSpec.upto Rows.checkTurnsSpec) own d (by kernel_rfl) Tryz.func4
  (witness_row_atRef (enc:=enc) (C:=Tryz.checked) false (names.ka os) wR rfl (names.wa os) (names.wd os) (by kernel_rfl)
   (OpenSpec.preRow_of_cond 8 hx (by kernel_rfl) (fun k hk=>by cases hk;exact l) (by kernel_rfl) (mM os))) ?_
 intro W base args g h a b j n p r i e q
 first|exact mf H enc W base args g h a b j i e (q _ rfl)|exact mf H enc W base args g h a b j i e (p _ rfl)|exact mf H enc W base args g h a b j i e (n _ rfl)
theorem zE:Rows.CheckTurnsUptoSaid:=
 OpenClaim.holds_of_cond 4 Tryz.f4 rfl rfl rfl rfl rfl rfl rfl ⟨rfl,rfl,rfl,rfl,rfl⟩ rfl rfl rfl rfl rfl (by kernel_rfl) Tryz.func4 checkTurnsUptoFacts.closed
  (of_decide_eq_true (by kernel_rfl)) (by unfold Func.isWrapper;first|(rw[if_pos (by decide +kernel)];kernel_rfl)|(rw[if_neg (by decide +kernel)];exact⟨rfl,rfl⟩))
  (fun os a H enc _ F=>by rw[OpenClaim.pre_eq_preRow];exact lifted os a H enc F)
theorem plain(f:FuncId)(fn:Func)(d:Tryz.pinned.checked.prog.funcNamed "bulkhead/bulkheadlaw10.CheckTurns" = some f)(b:Tryz.pinned.checked.prog.funcs[f]?=some fn):
 true=Tryz.pinned.checked.prog.looks []∧∀(j:Nat) t,fn.params[j]?=some t→Tryz.pinned.checked.prog.wantsStandIn t=false:=by
 obtain rfl:f=4:=Option.some.inj ((show Tryz.prog.funcNamed "bulkhead/bulkheadlaw10.CheckTurns" = some 4 by kernel_rfl).symm.trans d) |>.symm;obtain rfl:fn=Tryz.f4:=(Option.some.inj (Tryz.func4.symm.trans b)).symm;refine⟨by kernel_rfl,fun j t a=>?_⟩;rw[Tryz.params4]at a
 rcases(by have:=(Array.getElem?_eq_some_iff.1 a).1;simp at this;omega:j=0∨j=1)with rfl|rfl
 ·obtain rfl:34=t:=Option.some.inj a
  kernel_rfl
 ·obtain rfl:35=t:=Option.some.inj a
  kernel_rfl
theorem checkTurns_holds:Rows.CheckTurnsUptoCardSaid:=
 Claim7.holds_tied_plain_at .later [] _ _ _ _ zE (fun _ h=>by cases h) (by kernel_rfl) (fun _ h=>by cases h) checkTurnsUpto_row_tie rfl ⟨rfl,rfl⟩ (by kernel_rfl) rfl plain (by kernel_rfl)
end Go.Proofs.YtpblcjipmoblnaaGreatDoor.turns
