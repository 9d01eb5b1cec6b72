import Derived.Test.YthobcefghkeddaaGreatDoorW
import Derived.LaidLaws
set_option maxRecDepth 100000
set_option linter.all false
set_option maxHeartbeats 4000000
namespace Go.Proofs.YthobcefghkeddaaGreatDoor
def ug:MemPlace→Nat
 | .cell b off=>(b*512+off)*2
 | .map b=>b*2+1
def sF:List MemPlace→Nat→Bool
 | [],_=>true
 | x::xs,m =>!m.testBit (ug x)&&sF xs (m ||| 1 <<< ug x)
theorem nt:∀(xs:List MemPlace) (m:Nat),sF xs m=true→xs.Nodup∧∀x∈xs,m.testBit (ug x)=false
 | [],m,_=>⟨List.nodup_nil,fun x h=>by cases h⟩
 | x::xs,m,h=>by
  simp only[sF,Bool.and_eq_true,Bool.not_eq_true']at h;obtain⟨j,g⟩:=nt xs _ h.2;refine⟨List.nodup_cons.2 ⟨fun l=>?_,j⟩,fun y d=>?_⟩
  ·have:=g x l
   rw[Nat.testBit_or,Nat.one_shiftLeft,Nat.testBit_two_pow_self]at this;simp at this
  ·rcases List.mem_cons.1 d with rfl|d
   ·exact h.1
   ·have:=g y d
    rw[Nat.testBit_or,Bool.or_eq_false_iff]at this;exact this.1
theorem mi{P:Program}{w:World}{l:List (String×DataW Unit)}(d:Nat)(h:(DataW.laidRun P w d (l.map (·.1))).map (·.1)=some l)
 (j:(DataW.laidRun P w d (l.map (·.1))).map (fun x=>laidRowsB P w x.2)=some true)(g:(DataW.laidRun P w d (l.map (·.1))).map (fun x=>sF x.2 0)=some true):laidMet P l w:=by
 cases hx:DataW.laidRun P w d (l.map (·.1))with
 | none=>simp[hx]at h
 | some x =>
  obtain⟨u,q⟩:=x;simp only[hx,Option.map_some,Option.some.injEq]at h j g;subst h;exact laidMet_of_run d hx (decide_eq_true (nt q 0 g).1) j
