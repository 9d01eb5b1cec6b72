import Derived.Test.YtpblcjipmoblnaaGreatDoorMem
import Derived.ProofKit
import Derived.SizedLaws
import Derived.Deep.Slices
import Derived.Deep.Fields
import Derived.ChangeSame
import Derived.ChangeOld
set_option maxRecDepth 100000
set_option maxHeartbeats 4000000
set_option linter.unusedVariables false
set_option linter.unusedSimpArgs false
set_option linter.unnecessarySimpa false
namespace Go.Proofs.YtpblcjipmoblnaaGreatDoor
open Go.ChangeShapes Go.WideShapes Go.ChangeAt Go.RowKit Go.Deep
theorem xW{α:Type}{Q:Nat→α→Prop}:∀(n:Nat),(∀i,i<n→∃s,Q i s)→∃xs:List α,xs.length=n∧∀i s,xs[i]?=some s→Q i s:=by
 intro n
 induction n with
 | zero=>intro _;exact⟨[],rfl,fun i s h=>by simp at h⟩
 | succ n ih =>
  intro h;obtain⟨xs,hl,hq⟩:=ih (fun i hi=>h i (by omega));obtain⟨s,hs⟩:=h n (by omega);refine⟨xs++[s],by simp[hl],fun i t ht=>?_⟩
  rcases Nat.lt_or_ge i xs.length with hi|hi
  ·rw[List.getElem?_append_left hi]at ht
   exact hq i t ht
  ·rw[List.getElem?_append_right hi]at ht
   have h0:i-xs.length=0:=by
    rcases Nat.eq_zero_or_pos (i-xs.length)with h0|h0
    ·exact h0
    ·rw[List.getElem?_eq_none (by simp;omega)]at ht;simp at ht
   rw[h0]at ht;simp at ht;subst ht;have:i=n:=by omega
   subst this;exact hs
theorem bL{n:Int}(h:(Lit.int .i64 n).wf=true): -9223372036854775808≤n∧n≤9223372036854775807:=by
 have a:IntKind.i64.min = -9223372036854775808:=rfl;have b:IntKind.i64.max=9223372036854775807:=rfl;simp only[Lit.wf,Bool.and_eq_true,decide_eq_true_eq]at h;omega
theorem aa{n:Int}(h:(Lit.int .u64 n).wf=true):0≤n∧n≤18446744073709551615:=by
 have a:IntKind.u64.min=0:=rfl;have b:IntKind.u64.max=18446744073709551615:=rfl;simp only[Lit.wf,Bool.and_eq_true,decide_eq_true_eq]at h;omega
theorem mn(b off j:Nat):(⟨b,off,none⟩:Addr).add j=⟨b,off+j,none⟩:=by unfold Addr.add;split<;>simp_all
theorem tJ{W:World}{a:Addr}{v:Value}(h:W.cell? (a.add 0)=some v):∃b off,a=⟨b,off,none⟩∧b<W.heap.size∧∀j,a.add j=⟨b,off+j,none⟩:=by
 obtain⟨b,off,d⟩:=a;have e:d=none:=by simpa[Addr.add]using World.cell?_spot h
 subst e;refine⟨b,off,rfl,?_,mn b off⟩;rw[mn]at h;exact World.block_lt_of_cell? W ⟨b,off+0,none⟩ h
section
variable {H:Type} {enc:TypeId×Value→H} {P:Program} {w:World} {base:Nat} {spare:Nat→Bool} {held:Bool}
end
end Go.Proofs.YtpblcjipmoblnaaGreatDoor
