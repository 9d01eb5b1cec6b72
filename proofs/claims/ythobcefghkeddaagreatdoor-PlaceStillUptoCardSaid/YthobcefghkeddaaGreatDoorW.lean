import Derived.KernelRfl
namespace Go.Proofs
theorem δ{p:Prop}(h:p:=by kernel_rfl):p:=h
theorem ψ{p:Prop}(h:p:=by decide):p:=h
theorem χ{p:Prop}(h:p:=by omega):p:=h
theorem ξ{p:Prop}(h:p:=by simp):p:=h
theorem ζ{p:Prop}(h:p:=by intro j;simp;omega):p:=h
theorem η{p:Prop}(h:p:=by simp;omega):p:=h
