import Derived.Test.YtpblcjipmoblnaaGreatDoorCards
import Derived.Test.YtpblcjipmoblnaaGreatDoorTie
import Derived.Test.YtpblcjipmoblnaaGreatDoorSoK
import Derived.Test.YtpblcjipmoblnaaGreatDoorOpenP
import Derived.Test.YtpblcjipmoblnaaGreatDoorNWorld
import Derived.Test.YtpblcjipmoblnaaGreatDoorSFacts
set_option maxRecDepth 100000
set_option linter.all false
set_option maxHeartbeats 4000000
namespace Go.Proofs.YtpblcjipmoblnaaGreatDoor.sound
open Go.ChangeShapes Go.WideShapes Go.ChangeAt Go.RowKit
theorem own:ownKnob Tryz.prog.godebug=none:=δ
theorem Ac:laidOutB Tryz.prog=true:=δ
theorem oY(H:Type)(enc:TypeId×Value→H)(W:World)(base:Nat)(args:Array Value)(u E:List (DataW H))(d:List MemPlace)
 (g:∀(j:Nat) t v,Tryz.f6.params[j]?=some t→args[j]?=some v→Value.okWide Tryz.prog W .any base t v)
 (J:DataW.Whole enc Tryz.prog Tryz.f6.params.toList Rows.checkSoundSpec.vars false W args.toList u E d)(N:laidMetH Tryz.prog Rows.checkNamesRow.laid W)(C:W.ShapedOpen Tryz.prog)(hk:Rows.uptoSmall H (u++E)=true):
 Calls Tryz.prog 6 args W fun e W'=>∃v,e=.returned v∧Rows.checkSoundSpec.post enc Tryz.prog Tryz.f6 false true false false W args v W':=by
 have y:=J;obtain⟨p,q,r,O,rfl,S,X⟩:=J;have I:DataW.TrodAll enc Tryz.prog W 0 (fun _=>true) true Tryz.f6.params.toList args.toList u p:=r;rw[Tryz.params6]at I g;obtain⟨v0,ac,K,L,Z,q0,A,rfl,rfl,w,r0⟩:=trodAll_cons I;obtain⟨rfl,rfl,rfl⟩:=trodAll_nil r0;obtain rfl:args = #[v0]:=by cases args;simp_all
 obtain⟨rfl,rfl⟩:=trodVars_none O;have Q:Rows.uptoBulk K≤1048576:=by simpa[Rows.uptoSmall,Rows.uptoBulkAll]using hk
 have D:∀x∈Z,x.block<W.heap.size:=by obtain⟨m,U⟩:=w;exact DataW.trod_lt m _ _ _ U
 obtain⟨V,P,rfl,Y⟩:=rd (g 0 34 v0 rfl rfl) w χ;clear r;refine(Rs.vk Y (tm N C) (Nat.le_refl _)).mono fun e W' ⟨R,B⟩=>?_
 subst R;have l:Below W.heap.size W W':=B.below0 (Nat.le_refl _);exact⟨_,rfl,_,_,_,[],_,[],y,trodAll_mk1 (shut_bool Tryz.underlying4 _),trodAll_cons_mk (Below.trod Ac δ (of_decide_eq_true δ) w l D) trodAll_mk0,rfl,l.frame _,fun h=>by cases h⟩
def zV:Array Value := #[.agg #[.int .i64 0,.string { data := #[] },.slice none 0 0,.slice none 0 0,.slice none 0 0,.slice none 0 0,.slice none 0 0,.slice none 0 0,.slice none 0 0,.slice none 0 0,.slice none 0 0,.slice none 0 0,.slice none 0 0,.slice none 0 0]]
noncomputable abbrev wl (os:Os):World:=(names.ll os).forCall (fun _ _=>0) ⟨#[],zV,[]⟩
theorem oE(os:Os):laidMetH Tryz.prog Rows.checkSoundUptoRow.laid (wl os).memory:=names.oE os
theorem reads(os:Os){H:Type}(enc:TypeId×Value→H):∃x,DataW.whole enc Tryz.prog (wl os).memory Tryz.f6.params.toList Rows.checkSoundSpec.vars false zV.toList 8=some x∧Rows.uptoSmall H (x.1++x.2.1)=true:=
 ⟨([.agg [.lit (.int .i64 0),.lit (.string []),.nil,.nil,.nil,.nil,.nil,.nil,.nil,.nil,.nil,.nil,.nil,.nil]],[],[]),δ,δ⟩
theorem lifted(os:Os)(h:os.Started)(H:Type)(enc:TypeId×Value→H)(F:Stop.Interp):
 ReturnsInHanded {} Tryz.checked os 6 .any ((Rows.OpenSpec.upto Rows.checkSoundSpec).preRow enc Tryz.prog Tryz.f6 Rows.checkSoundUptoRow.domain false Rows.checkSoundUptoRow.laid) (((Rows.OpenSpec.upto Rows.checkSoundSpec).at F).post enc Tryz.prog Tryz.f6 false true false false):=by
 obtain⟨x,hx,u⟩:=reads os enc;refine returnsInHanded_of_row (C:=Tryz.checked) (s:=Rows.OpenSpec.upto Rows.checkSoundSpec) own h δ Tryz.func6
  (witness_row_atRef (enc:=enc) (C:=Tryz.checked) false (names.ll os) zV rfl (names.zu os) (names.zv os) δ
   (OpenSpec.preRow_of_cond 8 hx δ (fun k hk=>by cases hk;exact u) δ (oE os))) ?_
 intro W base args l p d g r v w A q j y
 first|exact oY H enc W base args l p d g r q j (y _ rfl)|exact oY H enc W base args l p d g r q j (w _ rfl)|exact oY H enc W base args l p d g r q j (v _ rfl)
theorem Cw:Rows.CheckSoundUptoSaid:=
 OpenClaim.holds_of_cond 6 Tryz.f6 rfl rfl rfl rfl rfl rfl rfl ⟨rfl,rfl,rfl,rfl,rfl⟩ rfl rfl rfl rfl rfl δ Tryz.func6 checkSoundUptoFacts.closed
  (of_decide_eq_true δ) (by unfold Func.isWrapper;first|(rw[if_pos (by decide +kernel)];kernel_rfl)|(rw[if_neg (by decide +kernel)];exact⟨rfl,rfl⟩))
  (fun os d H enc _ F=>by rw[OpenClaim.pre_eq_preRow];exact lifted os d H enc F)
theorem plain(f:FuncId)(fn:Func)(h:Tryz.pinned.checked.prog.funcNamed "bulkhead/bulkheadlaw10.CheckSound" = some f)(d:Tryz.pinned.checked.prog.funcs[f]?=some fn):
 true=Tryz.pinned.checked.prog.looks []∧∀(j:Nat) t,fn.params[j]?=some t→Tryz.pinned.checked.prog.wantsStandIn t=false:=by
 obtain rfl:f=6:=Option.some.inj ((show Tryz.prog.funcNamed "bulkhead/bulkheadlaw10.CheckSound" = some 6 by kernel_rfl).symm.trans h) |>.symm;obtain rfl:fn=Tryz.f6:=(Option.some.inj (Tryz.func6.symm.trans d)).symm;refine⟨δ,fun j t g=>?_⟩;rw[Tryz.params6]at g;obtain rfl:j=0:=by have:=(Array.getElem?_eq_some_iff.1 g).1;simp at this;omega
 obtain rfl:34=t:=Option.some.inj g
 kernel_rfl
theorem checkSound_holds:Rows.CheckSoundUptoCardSaid:=
 Claim7.holds_tied_plain_at .later [] _ _ _ _ Cw (fun _ h=>by cases h) δ (fun _ h=>by cases h) checkSoundUpto_row_tie rfl ⟨rfl,rfl⟩ δ rfl plain δ
