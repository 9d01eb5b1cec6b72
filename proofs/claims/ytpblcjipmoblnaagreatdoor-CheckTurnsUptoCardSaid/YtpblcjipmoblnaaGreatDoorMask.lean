import Derived.LaidLaws
set_option maxRecDepth 100000
set_option maxHeartbeats 4000000
set_option linter.unusedVariables false
set_option linter.unusedSimpArgs false
set_option linter.unnecessarySimpa false
namespace Go.Proofs.YtpblcjipmoblnaaGreatDoor
def sA:MemPlace→Nat
 | .cell b off=>(b*512+off)*2
 | .map b=>b*2+1
def qN:List MemPlace→Nat→Bool
 | [],_=>true
 | x::xs,m =>!m.testBit (sA x)&&qN xs (m ||| 1 <<< sA x)
theorem mF:∀(a:List MemPlace) (m:Nat),qN a m=true→a.Nodup∧∀x∈a,m.testBit (sA x)=false
 | [],m,_=>⟨List.nodup_nil,fun x h=>by cases h⟩
 | x::a,m,h=>by
  simp only[qN,Bool.and_eq_true,Bool.not_eq_true']at h;obtain⟨e,d⟩:=mF a _ h.2;refine⟨List.nodup_cons.2 ⟨fun hx=>?_,e⟩,fun y b=>?_⟩
  ·have:=d x hx
   rw[Nat.testBit_or,Nat.one_shiftLeft,Nat.testBit_two_pow_self]at this;simp at this
  ·rcases List.mem_cons.1 b with rfl|b
   ·exact h.1
   ·have:=d y b
    rw[Nat.testBit_or,Bool.or_eq_false_iff]at this;exact this.1
theorem lE{P:Program}{w:World}{l:List (String×DataW Unit)}(a:Nat)(h:(DataW.laidRun P w a (l.map (·.1))).map (·.1)=some l)
 (d:(DataW.laidRun P w a (l.map (·.1))).map (fun x=>laidRowsB P w x.2)=some true)(b:(DataW.laidRun P w a (l.map (·.1))).map (fun x=>qN x.2 0)=some true):laidMet P l w:=by
 cases hx:DataW.laidRun P w a (l.map (·.1))with
 | none=>simp[hx]at h
 | some x =>
  obtain⟨g,e⟩:=x;simp only[hx,Option.map_some,Option.some.injEq]at h d b;subst h;exact laidMet_of_run a hx (decide_eq_true (mF e 0 b).1) d
end Go.Proofs.YtpblcjipmoblnaaGreatDoor
