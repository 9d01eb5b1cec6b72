import Derived.Test.YthobcefghkeddaaGreatDoorMem
import Derived.ProofKit
import Derived.Deep.Fields
set_option maxRecDepth 100000
set_option linter.all false
set_option maxHeartbeats 4000000
namespace Go.Proofs.YthobcefghkeddaaGreatDoor
open Go.ChangeShapes Go.WideShapes Go.ChangeAt Go.RowKit Go.Deep
theorem CA{α:Type}{Q:Nat→α→Prop}:∀(n:Nat),(∀i,i<n→∃s,Q i s)→∃xs:List α,xs.length=n∧∀i s,xs[i]?=some s→Q i s:=by
 intro n
 induction n with
 | zero=>intro _;exact⟨[],rfl,fun i s h=>by simp at h⟩
 | succ n ih =>
  intro h;obtain⟨xs,hl,hq⟩:=ih (fun i hi=>h i χ);obtain⟨s,hs⟩:=h n χ;refine⟨xs++[s],by simp[hl],fun i t ht=>?_⟩
  rcases Ψ i xs.length with hi|hi
  ·rw[List.getElem?_append_left hi]at ht
   exact hq i t ht
  ·rw[List.getElem?_append_right hi]at ht
   have h0:i-xs.length=0:=by
    rcases ϑ (i-xs.length)with h0|h0
    ·exact h0
    ·rw[List.getElem?_eq_none η]at ht;simp at ht
   rw[h0]at ht;simp at ht;subst ht;have:i=n:=χ
   subst this;exact hs
theorem vk{n:Int}(h:(Lit.int .i64 n).wf=true): -9223372036854775808≤n∧n≤9223372036854775807:=by
 have d:IntKind.i64.min = -9223372036854775808:=rfl;have g:IntKind.i64.max=9223372036854775807:=rfl;simp only[Lit.wf,Bool.and_eq_true,decide_eq_true_eq]at h;omega
theorem vj{n:Int}(h:(Lit.int .u64 n).wf=true):0≤n∧n≤18446744073709551615:=by
 have d:IntKind.u64.min=0:=rfl;have g:IntKind.u64.max=18446744073709551615:=rfl;simp only[Lit.wf,Bool.and_eq_true,decide_eq_true_eq]at h;omega
theorem pU(b off j:Nat):(⟨b,off,none⟩:Addr).add j=⟨b,off+j,none⟩:=by unfold Addr.add;split<;>simp_all
theorem xZ{W:World}{a:Addr}{v:Value}(h:W.cell? (a.add 0)=some v):∃b off,a=⟨b,off,none⟩∧b<W.heap.size∧∀j,a.add j=⟨b,off+j,none⟩:=by
 obtain⟨b,off,d⟩:=a;have g:d=none:=by simpa[Addr.add]using World.cell?_spot h
 subst g;refine⟨b,off,rfl,?_,pU b off⟩;rw[pU]at h;exact World.block_lt_of_cell? W ⟨b,off+0,none⟩ h
section
variable {H:Type} {enc:TypeId×Value→H} {P:Program} {w:World} {base:Nat} {spare:Nat→Bool} {held:Bool}
end
