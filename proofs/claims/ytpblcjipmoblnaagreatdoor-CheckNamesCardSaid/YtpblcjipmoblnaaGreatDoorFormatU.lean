/- FormatU -/
import Derived.Test.YtpblcjipmoblnaaGreatDoorNamesB
import Derived.Test.YtpblcjipmoblnaaGreatDoorShelfL
import Derived.Lib.AppendIntMem
set_option maxRecDepth 100000
set_option maxHeartbeats 4000000
set_option linter.unusedVariables false
set_option linter.unusedSimpArgs false
namespace Go.Proofs.YtpblcjipmoblnaaGreatDoor
open Go.RowKit Go.IntWalk Go.Sort Go.Lib Go.Proofs
theorem formatU_any (u : Nat) (hu64 : u < 18446744073709551616) (w : World) (htab : Lib.TabIs Tryz.prog w "internal/strconv.uint64pow10" .u64 Lib.pow10Tab) :
 Calls Tryz.prog 159 #[.int .u64 u, .int .i64 10] w fun e w' => e = .returned (.string ⟨(Lib.decDigits u).toArray⟩) ∧ ∃ k os, w' = grow (w.drewN k) os := by
 by_cases hs : u < 100
 · have hsm := Tryz.internal_strconv_small u hs
   have hw : IntKind.i64.wrap (u : Int) = (u : Int) := i64_in _ (by omega)
   have h1 : (u : Int) < 100 := by omega
   go_enter Tryz.func159, Tryz.ntmps159
   go_wp2_with (go_at_call 174; refine (hsm _).mono ?_; rintro e w' ⟨rfl, rfl⟩)
   go_ret
   exact ⟨rfl, 0, #[], by simp [World.drewN_zero]⟩
 · have hu1 : 1 ≤ u := by omega
   have h1 : ¬ (u : Int) < 100 := by omega
   have hnd20 : Lib.nDigits u ≤ 20 := by have := Lib.numDigits_eq u hu1 hu64; split at this <;> omega
   have hal : Tryz.prog.arrayLen 297 = 24 := by simp [Program.arrayLen, Tryz.underlying297]
   have hsl1 : ∀ W, (Instr.sliceAt 297 (.pointer (some ⟨w.heap.size, 0, none⟩)) none (some (.int .i64 (Lib.nDigits u : Int))) none).run Tryz.prog W = .ok (.slice (some ⟨w.heap.size, 0, none⟩) (Lib.nDigits u) 24) W := fun W => by
    rw [run_sliceAt_array_h W 297 ⟨w.heap.size, 0, none⟩ (by simp [Program.arrayLen, Program.elem, Tryz.underlying297]) .i64 (Lib.nDigits u : Int) (by omega) (by rw [hal]; omega)]
    go_simp
    try omega
   have hH0 := Lib.holds_zero0 w 297 (Lib.nDigits u) (by omega)
   have hfmt := Tryz.internal_strconv_formatBase10 w.heap.size 0 24 u (Array.replicate (Lib.nDigits u) 0) (w.alloc (.cells Lib.zeros24 297)) hH0 (by rw [Array.size_replicate]; exact Lib.lt_pow_nDigits u) hu64 (by rw [Array.size_replicate]; omega)
   rw [Array.size_replicate] at hfmt
   have HH0 := Lib.hid hH0
   have HND := Lib.hid (Tryz.internal_strconv_numDigits u hu1 hu64 _ (Lib.tabIs_alloc htab (.cells Lib.zeros24 297)))
   clear hH0 hal htab
   go_enter Tryz.func159, Tryz.ntmps159
   go_wp2_with (first
    | (go_at_call 175; refine HND.out.mono ?_; rintro e w' ⟨rfl, rfl⟩))
   go_at_call 176
   refine hfmt.mono ?_
   rintro e w' ⟨rfl, k, v', dk, rfl, hF⟩
   have hcv : (convert 292 9 (.slice (some ⟨w.heap.size, 0, none⟩) (Lib.nDigits u) 24)).run Tryz.prog ((putRow (fun (b : UInt8) => Value.int .u8 (b.toNat : Int)) (w.alloc (.cells Lib.zeros24 297)) w.heap.size 0 dk).drewN k) = .ok (.string ⟨(Lib.decDigits u).toArray⟩) ((putRow (fun (b : UInt8) => Value.int .u8 (b.toNat : Int)) (w.alloc (.cells Lib.zeros24 297)) w.heap.size 0 dk).drewN k) := by
    have h := run_convert_bytes_back (P := Tryz.prog) ((putRow (fun (b : UInt8) => Value.int .u8 (b.toNat : Int)) (w.alloc (.cells Lib.zeros24 297)) w.heap.size 0 dk).drewN k) 292 9 5 ⟨w.heap.size, 0, none⟩ 24 (Lib.decDigits u) Tryz.underlying292 Tryz.underlying5 Tryz.underlying9 (fun j hj => by
     rw [Lib.row_is_numeral hF j hj, Lib.add_plain, World.cell?_drewN]
     exact cell?_putRow (fun (b : UInt8) => Value.int .u8 (b.toNat : Int)) _ w.heap.size 0 _ dk HH0.out (by rw [hF.size, Array.size_replicate]) j (by rw [hF.size]; rw [Lib.decDigits_length] at hj; exact hj))
    rw [Lib.decDigits_length] at h
    exact h
   go_wp2
   go_ret
   obtain ⟨os, eo⟩ := Lib.fin_at w (.cells Lib.zeros24 297) dk k 0
   exact ⟨rfl, k, os, eo⟩
theorem formatUint_any (u : Nat) (hu64 : u < 18446744073709551616) (w : World) (htab : Lib.TabIs Tryz.prog w "internal/strconv.uint64pow10" .u64 Lib.pow10Tab) :
 Calls Tryz.prog 143 #[.int .u64 u, .int .i64 10] w fun e w' => e = .returned (.string ⟨(Lib.decDigits u).toArray⟩) ∧ ∃ k os, w' = grow (w.drewN k) os := by
 have hcon := formatU_any u hu64 w htab
 generalize (Lib.decDigits u).toArray = ds at hcon ⊢
 clear htab
 go_enter Tryz.func143, Tryz.ntmps143
 go_wp2_with (go_at_call 159; refine hcon.mono ?_; rintro e w' ⟨rfl, k, os, rfl⟩)
 go_ret
 exact ⟨rfl, k, os, rfl⟩
end Go.Proofs.YtpblcjipmoblnaaGreatDoor
