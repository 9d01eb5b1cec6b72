import Derived.Lib.Hide
import Derived.KernelRfl
set_option linter.all false
namespace Go.Proofs
abbrev τ(_:Nat):Bool:=true
abbrev ι:=@Option.some.inj
abbrev ν:=@Lib.hid
abbrev ο:=@List.getElem?_eq_some_iff
abbrev π:=@Nat.eq_of_beq_eq_true
abbrev ρ:=@List.mem_singleton
abbrev υ:=@List.all_eq_true
abbrev ω:=@Nat.le_of_ble_eq_true
abbrev γ:=@List.mem_of_getElem?
abbrev θ:=@List.getElem?_eq_getElem
abbrev Θ:=@Nat.lt_of_lt_of_le
abbrev Γ:=@Nat.le_refl
abbrev Ψ:=@Nat.lt_or_ge
abbrev Ξ:=@List.mem_cons
abbrev Δ:=@Nat.le_trans
abbrev Ω:=@List.mem_append
abbrev ς:=@Nat.lt_of_le_of_lt
abbrev ϑ:=@Nat.eq_zero_or_pos
abbrev ϱ:=@Array.getElem?_eq_some_iff
theorem δ{p:Prop}(h:p:=by kernel_rfl):p:=h
theorem ψ{p:Prop}(h:p:=by decide):p:=h
theorem χ{p:Prop}(h:p:=by omega):p:=h
theorem ξ{p:Prop}(h:p:=by simp):p:=h
theorem ζ{p:Prop}(h:p:=by intro j;simp;omega):p:=h
theorem η{p:Prop}(h:p:=by simp;omega):p:=h
