/- Back -/
import Derived.Test.YtpblcjipmoblnaaGreatDoorLH2
import Derived.Test.YtpblcjipmoblnaaGreatDoorMem
import Derived.RangeFuncNested
import Derived.RangeFuncBound
import Derived.RangeFuncCalls
import Derived.RangeFuncLeaves
import Derived.Shelf.Abstract
import Derived.Shelf.RegionOpen
import Derived.WalkKit
import Derived.OwnWalkIn
import Derived.TacticsInMore
import Derived.LoopNIn
import Derived.LoopIn
set_option maxRecDepth 100000
set_option maxHeartbeats 4000000
set_option linter.unusedVariables false
set_option linter.unusedSimpArgs false
namespace Go.Proofs.YtpblcjipmoblnaaGreatDoor
open Go.RowKit Go.Shelf
attribute [local go_sem] Oper.semAt_some
def backTo (len r : Nat) : List (Fin len) := ((List.finRange len).reverse).take r
theorem backTo_succ {len r : Nat} (h : r < len) : backTo len (r + 1) = backTo len r ++ [⟨len - 1 - r, by omega⟩] := by
 unfold backTo
 rw [List.take_succ_eq_append_getElem (by simpa using h)]
 congr 2
 rw [List.getElem_reverse]
 simp
theorem backTo_len {len r : Nat} (h : r ≤ len) : (backTo len r).length = r := by simp [backTo]; omega
def KpM (mb n₀ : Nat) (W W' : World) : Prop := Keep (fun k => k = mb ∨ n₀ ≤ k) W W'
theorem kpM_t {mb n₀ : Nat} {A B C : World} (h : KpM mb n₀ A B) (k : KpM mb n₀ B C) : KpM mb n₀ A C := h.trans k fun _ _ h => h
theorem kpM_b {mb n₀ : Nat} {w : World} (hn : n₀ ≤ w.heap.size) (W : World) (l : Nat) (o o' : Obj) (hl : w.heap.size ≤ l) (h : W.heap[l]? = some o) (h1 : o.isCells = false) (h2 : o.isWalk = false) : KpM mb n₀ W (W.putObj l o') :=
 Keep.of_below (belowK_b hn W l o o' hl h h1 h2) fun _ _ h => .inr h
theorem kpM_cell {mb n₀ : Nat} {A B : World} (h : KpM mb n₀ A B) {b o : Nat} (hlt : b < A.heap.size) (hb : b < n₀ ∧ b ≠ mb) : B.cell? ⟨b, o, none⟩ = A.cell? ⟨b, o, none⟩ := Keep.cell h (p := ⟨b, o, none⟩) hlt (by show ¬ (b = mb ∨ n₀ ≤ b); omega)
theorem cell_lt' {W : World} {b o : Nat} {v : Value} (h : W.cell? ⟨b, o, none⟩ = some v) : b < W.heap.size := World.block_lt_of_cell? W ⟨b, o, none⟩ h
theorem back134_in (F : Fence) (n : Nat) (h8 : F.fn 134) (hro : F.round = none) (hn : 1 ≤ n) (l Bs mb n₀ b off len cap : Nat) (vs : Nat → Nat → Value) (hlen : len ≤ 4194304) (hcap : len ≤ cap) (hb : b < n₀ ∧ b ≠ mb) (hB : Bs < n₀ ∧ Bs ≠ mb) (J Jx : List (Fin len) → World → Prop)
 (hY : ∀ pre (x : Fin len) W, J pre W → pre.length < len → YieldAt F (n - 1) Tryz.prog l #[.int .i64 (x.val : Int), .agg #[vs x.val 0, vs x.val 1, vs x.val 2, vs x.val 3, vs x.val 4]] W fun e W' =>
   (e = .returned (.bool true) ∧ J (pre ++ [x]) W' ∧ KpM mb n₀ W W') ∨ (e = .returned (.bool false) ∧ Jx (pre ++ [x]) W'))
 (W : World) (hBs : W.cell? ⟨Bs, 0, none⟩ = some (.slice (some ⟨b, off, none⟩) len cap)) (hc : ∀ j c, j < len → c < 5 → W.cell? ⟨b, off + j * 5 + c, none⟩ = some (vs j c)) (h0 : J [] W) :
 CallsIn F n Tryz.prog 134 #[.func (.yield l) #[] #[], .pointer (some ⟨Bs, 0, none⟩)] W fun e W' => (∃ v, e = .returned v) ∧
  ((∃ ys, ys = backTo len len ∧ J ys W') ∨ (∃ pre, (∃ k, k ≤ len ∧ pre = backTo len k) ∧ Jx pre W')) := by
 have hBl := cell_lt' hBs
 refine callsIn_of_wp Tryz.func134 rfl h8 ?_ hro
 simp only [Tryz.ntmps134, List.size_toArray, List.length_cons, List.length_nil, Nat.reduceAdd, Nat.reduceSub, Array.replicate_succ, Array.replicate_zero, List.push_toArray, List.append_toArray, List.nil_append, List.cons_append]
 have hw0 : IntKind.i64.wrap ((len : Int) - 1) = (len : Int) - 1 := IntWalk.i64_in _ (by omega)
 gi_wp2
 gi_loopw [3] (fun i wr => ∃ r m : Nat, len = m + r ∧ i = .int .i64 ((m : Int) - 1) ∧ J (backTo len r) wr ∧ KpM mb n₀ W wr)
  (fun i _ => (intOf i + 1).toNat)
 case atStart => exact ⟨0, len, rfl, rfl, by simpa [backTo] using h0, Keep.refl _ _⟩
 case round =>
  obtain ⟨r, m, hm, rfl, hJs, hnx⟩ := hrel
  have hBs' := (kpM_cell hnx hBl hB).trans hBs
  rcases m with _ | m
  · gi_wp2
    go_end0
    exact ⟨⟨_, rfl⟩, .inl ⟨_, by rw [hm]; simp, hJs⟩⟩
  · have e0 : (((m + 1 : Nat) : Int) - 1) = (m : Int) := by omega
    rw [e0]
    have hlt : m < len := by omega
    have hlt' : (m : Int) < (len : Int) := by omega
    have q0 : wr.cell? ⟨b, off + m * 5, none⟩ = some (vs m 0) := (kpM_cell hnx (cell_lt' (hc m 0 hlt (by omega))) hb).trans (hc m 0 hlt (by omega))
    have q1 : wr.cell? ⟨b, off + m * 5 + 1, none⟩ = some (vs m 1) := (kpM_cell hnx (cell_lt' (hc m 1 hlt (by omega))) hb).trans (hc m 1 hlt (by omega))
    have q2 : wr.cell? ⟨b, off + m * 5 + 2, none⟩ = some (vs m 2) := (kpM_cell hnx (cell_lt' (hc m 2 hlt (by omega))) hb).trans (hc m 2 hlt (by omega))
    have q3 : wr.cell? ⟨b, off + m * 5 + 3, none⟩ = some (vs m 3) := (kpM_cell hnx (cell_lt' (hc m 3 hlt (by omega))) hb).trans (hc m 3 hlt (by omega))
    have q4 : wr.cell? ⟨b, off + m * 5 + 4, none⟩ = some (vs m 4) := (kpM_cell hnx (cell_lt' (hc m 4 hlt (by omega))) hb).trans (hc m 4 hlt (by omega))
    have hpl : (backTo len r).length < len := by rw [backTo_len (by omega)]; omega
    obtain ⟨fn, tmps, assign, body, hy, hR⟩ := hY _ ⟨m, hlt⟩ wr hJs hpl
    dsimp only at hy
    have hw1 : IntKind.i64.wrap ((m : Int) - 1) = (m : Int) - 1 := IntWalk.i64_in _ (by omega)
    have hsn : backTo len r ++ [⟨m, hlt⟩] = backTo len (r + 1) := by
     rw [backTo_succ (by omega)]
     congr 3
     omega
    have HS := Lib.hid hsn
    have HM := Lib.hid hm
    clear hsn hm hpl
    gi_wp2
    refine hR.mono ?_
    rintro e W3 (⟨rfl, hJ3, hk3⟩ | ⟨rfl, hJx3⟩)
    · gi_wp2
      go_roundw
      case rel => exact ⟨r + 1, m, by have := HM.out; omega, rfl, by rw [← HS.out]; exact hJ3, kpM_t hnx hk3⟩
      case measure => simp [intOf]
    · gi_wp2
      refine bodyPost_ret (results_none rfl _ _ _) rfl ?_
      exact ⟨⟨_, rfl⟩, .inr ⟨_, ⟨r + 1, by have := HM.out; omega, HS.out⟩, hJx3⟩⟩
theorem back134_nil (F : Fence) (n : Nat) (h8 : F.fn 134) (hro : F.round = none) (l Bs cap : Nat) (A : Option Addr) (J : List (Fin 0) → World → Prop) (W : World) (hBs : W.cell? ⟨Bs, 0, none⟩ = some (.slice A 0 cap)) (h0 : J [] W) :
 CallsIn F n Tryz.prog 134 #[.func (.yield l) #[] #[], .pointer (some ⟨Bs, 0, none⟩)] W fun e W' => (∃ v, e = .returned v) ∧ J [] W' := by
 refine callsIn_of_wp Tryz.func134 rfl h8 ?_ hro
 simp only [Tryz.ntmps134, List.size_toArray, List.length_cons, List.length_nil, Nat.reduceAdd, Nat.reduceSub, Array.replicate_succ, Array.replicate_zero, List.push_toArray, List.append_toArray, List.nil_append, List.cons_append]
 gi_wp2
 gi_loopw [3] (fun i wr => i = .int .i64 (-1) ∧ J [] wr) (fun _ _ => 0)
 case atStart => exact ⟨rfl, h0⟩
 case round =>
  obtain ⟨rfl, hJs⟩ := hrel
  gi_wp2
  go_end0
  exact ⟨⟨_, rfl⟩, hJs⟩
theorem backward110_in (F : Fence) (n : Nat) (h5 : F.fn 110) (hro : F.round = none) (a : Option Addr) (len cap : Nat) (w : World) :
 CallsIn F n Tryz.prog 110 #[.slice a len cap] w fun e w' => e = .returned (.func (.func 134) #[] #[.pointer (some ⟨w.heap.size, 0, none⟩)]) ∧ w' = w.alloc (.cells #[.slice a len cap] 24) := by
 refine callsIn_of_wp Tryz.func110 rfl h5 ?_ hro
 simp only [Tryz.ntmps110, List.size_toArray, List.length_cons, List.length_nil, Nat.reduceAdd, Nat.reduceSub, Array.replicate_succ, Array.replicate_zero, List.push_toArray, List.append_toArray, List.nil_append, List.cons_append]
 gi_wp2
 go_ret
 exact ⟨rfl, rfl⟩
theorem back134_stops (F : Fence) (n : Nat) (h8 : F.fn 134) (hro : F.round = none) (hn : 1 ≤ n) (Bs mb n₀ len cap : Nat) (A : Option Addr) (vs : Nat → Nat → Value) (hlen : len ≤ 4194304) (hcap : len ≤ cap) (hB : Bs < n₀ ∧ Bs ≠ mb) (w : World) (hn0 : n₀ ≤ w.heap.size)
 (hBs : w.cell? ⟨Bs, 0, none⟩ = some (.slice A len cap)) (hA : 0 < len → ∃ b off, A = some ⟨b, off, none⟩ ∧ b < n₀ ∧ b ≠ mb ∧ ∀ j c, j < len → c < 5 → w.cell? ⟨b, off + j * 5 + c, none⟩ = some (vs j c)) :
 SeqStopsK F n Tryz.prog 134 #[.pointer (some ⟨Bs, 0, none⟩)] (fun x : Fin len => #[.int .i64 (x.val : Int), .agg #[vs x.val 0, vs x.val 1, vs x.val 2, vs x.val 3, vs x.val 4]]) (KpM mb n₀) (fun ys => ys = backTo len len) (fun pre => ∃ k, k ≤ len ∧ pre = backTo len k) len w := fun l J Jx W hW _ _ hY h0 => by
 have hc' := (hW.cell (p := ⟨Bs, 0, none⟩) (by show Bs < _; omega)).trans hBs
 rcases Nat.eq_zero_or_pos len with rfl | hpos
 · exact (back134_nil F n h8 hro l Bs cap A J W hc' h0).mono fun e W' ⟨he, hj⟩ => ⟨he, .inl ⟨_, rfl, hj⟩⟩
 · obtain ⟨b, off, rfl, hb, hm, hcs⟩ := hA hpos
   exact back134_in F n h8 hro hn l Bs mb n₀ b off len cap vs hlen hcap ⟨hb, hm⟩ hB J Jx hY W hc' (fun j c hj hcc => (hW.cell (p := ⟨b, off + j * 5 + c, none⟩) (by show b < _; omega)).trans (hcs j c hj hcc)) h0
theorem back135_in (F : Fence) (n : Nat) (h8 : F.fn 135) (hro : F.round = none) (hn : 1 ≤ n) (l Bs mb n₀ b off len cap : Nat) (vs : Nat → Nat → Value) (hlen : len ≤ 4194304) (hcap : len ≤ cap) (hb : b < n₀ ∧ b ≠ mb) (hB : Bs < n₀ ∧ Bs ≠ mb) (J Jx : List (Fin len) → World → Prop)
 (hY : ∀ pre (x : Fin len) W, J pre W → pre.length < len → YieldAt F (n - 1) Tryz.prog l #[.int .i64 (x.val : Int), .agg #[vs x.val 0, vs x.val 1, vs x.val 2, vs x.val 3, vs x.val 4, vs x.val 5, vs x.val 6, vs x.val 7, vs x.val 8, vs x.val 9]] W fun e W' =>
   (e = .returned (.bool true) ∧ J (pre ++ [x]) W' ∧ KpM mb n₀ W W') ∨ (e = .returned (.bool false) ∧ Jx (pre ++ [x]) W'))
 (W : World) (hBs : W.cell? ⟨Bs, 0, none⟩ = some (.slice (some ⟨b, off, none⟩) len cap)) (hc : ∀ j c, j < len → c < 10 → W.cell? ⟨b, off + j * 10 + c, none⟩ = some (vs j c)) (h0 : J [] W) :
 CallsIn F n Tryz.prog 135 #[.func (.yield l) #[] #[], .pointer (some ⟨Bs, 0, none⟩)] W fun e W' => (∃ v, e = .returned v) ∧
  ((∃ ys, ys = backTo len len ∧ J ys W') ∨ (∃ pre, (∃ k, k ≤ len ∧ pre = backTo len k) ∧ Jx pre W')) := by
 have hBl := cell_lt' hBs
 refine callsIn_of_wp Tryz.func135 rfl h8 ?_ hro
 simp only [Tryz.ntmps135, List.size_toArray, List.length_cons, List.length_nil, Nat.reduceAdd, Nat.reduceSub, Array.replicate_succ, Array.replicate_zero, List.push_toArray, List.append_toArray, List.nil_append, List.cons_append]
 have hw0 : IntKind.i64.wrap ((len : Int) - 1) = (len : Int) - 1 := IntWalk.i64_in _ (by omega)
 gi_wp2
 gi_loopw [3] (fun i wr => ∃ r m : Nat, len = m + r ∧ i = .int .i64 ((m : Int) - 1) ∧ J (backTo len r) wr ∧ KpM mb n₀ W wr)
  (fun i _ => (intOf i + 1).toNat)
 case atStart => exact ⟨0, len, rfl, rfl, by simpa [backTo] using h0, Keep.refl _ _⟩
 case round =>
  obtain ⟨r, m, hm, rfl, hJs, hnx⟩ := hrel
  have hBs' := (kpM_cell hnx hBl hB).trans hBs
  rcases m with _ | m
  · gi_wp2
    go_end0
    exact ⟨⟨_, rfl⟩, .inl ⟨_, by rw [hm]; simp, hJs⟩⟩
  · have e0 : (((m + 1 : Nat) : Int) - 1) = (m : Int) := by omega
    rw [e0]
    have hlt : m < len := by omega
    have hlt' : (m : Int) < (len : Int) := by omega
    have q0 : wr.cell? ⟨b, off + m * 10, none⟩ = some (vs m 0) := (kpM_cell hnx (cell_lt' (hc m 0 hlt (by omega))) hb).trans (hc m 0 hlt (by omega))
    have q1 : wr.cell? ⟨b, off + m * 10 + 1, none⟩ = some (vs m 1) := (kpM_cell hnx (cell_lt' (hc m 1 hlt (by omega))) hb).trans (hc m 1 hlt (by omega))
    have q2 : wr.cell? ⟨b, off + m * 10 + 2, none⟩ = some (vs m 2) := (kpM_cell hnx (cell_lt' (hc m 2 hlt (by omega))) hb).trans (hc m 2 hlt (by omega))
    have q3 : wr.cell? ⟨b, off + m * 10 + 3, none⟩ = some (vs m 3) := (kpM_cell hnx (cell_lt' (hc m 3 hlt (by omega))) hb).trans (hc m 3 hlt (by omega))
    have q4 : wr.cell? ⟨b, off + m * 10 + 4, none⟩ = some (vs m 4) := (kpM_cell hnx (cell_lt' (hc m 4 hlt (by omega))) hb).trans (hc m 4 hlt (by omega))
    have q5 : wr.cell? ⟨b, off + m * 10 + 5, none⟩ = some (vs m 5) := (kpM_cell hnx (cell_lt' (hc m 5 hlt (by omega))) hb).trans (hc m 5 hlt (by omega))
    have q6 : wr.cell? ⟨b, off + m * 10 + 6, none⟩ = some (vs m 6) := (kpM_cell hnx (cell_lt' (hc m 6 hlt (by omega))) hb).trans (hc m 6 hlt (by omega))
    have q7 : wr.cell? ⟨b, off + m * 10 + 7, none⟩ = some (vs m 7) := (kpM_cell hnx (cell_lt' (hc m 7 hlt (by omega))) hb).trans (hc m 7 hlt (by omega))
    have q8 : wr.cell? ⟨b, off + m * 10 + 8, none⟩ = some (vs m 8) := (kpM_cell hnx (cell_lt' (hc m 8 hlt (by omega))) hb).trans (hc m 8 hlt (by omega))
    have q9 : wr.cell? ⟨b, off + m * 10 + 9, none⟩ = some (vs m 9) := (kpM_cell hnx (cell_lt' (hc m 9 hlt (by omega))) hb).trans (hc m 9 hlt (by omega))
    have hpl : (backTo len r).length < len := by rw [backTo_len (by omega)]; omega
    obtain ⟨fn, tmps, assign, body, hy, hR⟩ := hY _ ⟨m, hlt⟩ wr hJs hpl
    dsimp only at hy
    have hw1 : IntKind.i64.wrap ((m : Int) - 1) = (m : Int) - 1 := IntWalk.i64_in _ (by omega)
    have hsn : backTo len r ++ [⟨m, hlt⟩] = backTo len (r + 1) := by
     rw [backTo_succ (by omega)]
     congr 3
     omega
    have HS := Lib.hid hsn
    have HM := Lib.hid hm
    clear hsn hm hpl
    gi_wp2
    refine hR.mono ?_
    rintro e W3 (⟨rfl, hJ3, hk3⟩ | ⟨rfl, hJx3⟩)
    · gi_wp2
      go_roundw
      case rel => exact ⟨r + 1, m, by have := HM.out; omega, rfl, by rw [← HS.out]; exact hJ3, kpM_t hnx hk3⟩
      case measure => simp [intOf]
    · gi_wp2
      refine bodyPost_ret (results_none rfl _ _ _) rfl ?_
      exact ⟨⟨_, rfl⟩, .inr ⟨_, ⟨r + 1, by have := HM.out; omega, HS.out⟩, hJx3⟩⟩
theorem back135_nil (F : Fence) (n : Nat) (h8 : F.fn 135) (hro : F.round = none) (l Bs cap : Nat) (A : Option Addr) (J : List (Fin 0) → World → Prop) (W : World) (hBs : W.cell? ⟨Bs, 0, none⟩ = some (.slice A 0 cap)) (h0 : J [] W) :
 CallsIn F n Tryz.prog 135 #[.func (.yield l) #[] #[], .pointer (some ⟨Bs, 0, none⟩)] W fun e W' => (∃ v, e = .returned v) ∧ J [] W' := by
 refine callsIn_of_wp Tryz.func135 rfl h8 ?_ hro
 simp only [Tryz.ntmps135, List.size_toArray, List.length_cons, List.length_nil, Nat.reduceAdd, Nat.reduceSub, Array.replicate_succ, Array.replicate_zero, List.push_toArray, List.append_toArray, List.nil_append, List.cons_append]
 gi_wp2
 gi_loopw [3] (fun i wr => i = .int .i64 (-1) ∧ J [] wr) (fun _ _ => 0)
 case atStart => exact ⟨rfl, h0⟩
 case round =>
  obtain ⟨rfl, hJs⟩ := hrel
  gi_wp2
  go_end0
  exact ⟨⟨_, rfl⟩, hJs⟩
theorem backward111_in (F : Fence) (n : Nat) (h5 : F.fn 111) (hro : F.round = none) (a : Option Addr) (len cap : Nat) (w : World) :
 CallsIn F n Tryz.prog 111 #[.slice a len cap] w fun e w' => e = .returned (.func (.func 135) #[] #[.pointer (some ⟨w.heap.size, 0, none⟩)]) ∧ w' = w.alloc (.cells #[.slice a len cap] 25) := by
 refine callsIn_of_wp Tryz.func111 rfl h5 ?_ hro
 simp only [Tryz.ntmps111, List.size_toArray, List.length_cons, List.length_nil, Nat.reduceAdd, Nat.reduceSub, Array.replicate_succ, Array.replicate_zero, List.push_toArray, List.append_toArray, List.nil_append, List.cons_append]
 gi_wp2
 go_ret
 exact ⟨rfl, rfl⟩
theorem back135_stops (F : Fence) (n : Nat) (h8 : F.fn 135) (hro : F.round = none) (hn : 1 ≤ n) (Bs mb n₀ len cap : Nat) (A : Option Addr) (vs : Nat → Nat → Value) (hlen : len ≤ 4194304) (hcap : len ≤ cap) (hB : Bs < n₀ ∧ Bs ≠ mb) (w : World) (hn0 : n₀ ≤ w.heap.size)
 (hBs : w.cell? ⟨Bs, 0, none⟩ = some (.slice A len cap)) (hA : 0 < len → ∃ b off, A = some ⟨b, off, none⟩ ∧ b < n₀ ∧ b ≠ mb ∧ ∀ j c, j < len → c < 10 → w.cell? ⟨b, off + j * 10 + c, none⟩ = some (vs j c)) :
 SeqStopsK F n Tryz.prog 135 #[.pointer (some ⟨Bs, 0, none⟩)] (fun x : Fin len => #[.int .i64 (x.val : Int), .agg #[vs x.val 0, vs x.val 1, vs x.val 2, vs x.val 3, vs x.val 4, vs x.val 5, vs x.val 6, vs x.val 7, vs x.val 8, vs x.val 9]]) (KpM mb n₀) (fun ys => ys = backTo len len) (fun pre => ∃ k, k ≤ len ∧ pre = backTo len k) len w := fun l J Jx W hW _ _ hY h0 => by
 have hc' := (hW.cell (p := ⟨Bs, 0, none⟩) (by show Bs < _; omega)).trans hBs
 rcases Nat.eq_zero_or_pos len with rfl | hpos
 · exact (back135_nil F n h8 hro l Bs cap A J W hc' h0).mono fun e W' ⟨he, hj⟩ => ⟨he, .inl ⟨_, rfl, hj⟩⟩
 · obtain ⟨b, off, rfl, hb, hm, hcs⟩ := hA hpos
   exact back135_in F n h8 hro hn l Bs mb n₀ b off len cap vs hlen hcap ⟨hb, hm⟩ hB J Jx hY W hc' (fun j c hj hcc => (hW.cell (p := ⟨b, off + j * 10 + c, none⟩) (by show b < _; omega)).trans (hcs j c hj hcc)) h0
theorem back129_in (F : Fence) (n : Nat) (h8 : F.fn 129) (hro : F.round = none) (hn : 1 ≤ n) (l Bs mb n₀ b off len cap : Nat) (vs : Nat → Nat → Value) (hlen : len ≤ 4194304) (hcap : len ≤ cap) (hb : b < n₀ ∧ b ≠ mb) (hB : Bs < n₀ ∧ Bs ≠ mb) (J Jx : List (Fin len) → World → Prop)
 (hY : ∀ pre (x : Fin len) W, J pre W → pre.length < len → YieldAt F (n - 1) Tryz.prog l #[.int .i64 (x.val : Int), .agg #[vs x.val 0, vs x.val 1, vs x.val 2, vs x.val 3, vs x.val 4, vs x.val 5]] W fun e W' =>
   (e = .returned (.bool true) ∧ J (pre ++ [x]) W' ∧ KpM mb n₀ W W') ∨ (e = .returned (.bool false) ∧ Jx (pre ++ [x]) W'))
 (W : World) (hBs : W.cell? ⟨Bs, 0, none⟩ = some (.slice (some ⟨b, off, none⟩) len cap)) (hc : ∀ j c, j < len → c < 6 → W.cell? ⟨b, off + j * 6 + c, none⟩ = some (vs j c)) (h0 : J [] W) :
 CallsIn F n Tryz.prog 129 #[.func (.yield l) #[] #[], .pointer (some ⟨Bs, 0, none⟩)] W fun e W' => (∃ v, e = .returned v) ∧
  ((∃ ys, ys = backTo len len ∧ J ys W') ∨ (∃ pre, (∃ k, k ≤ len ∧ pre = backTo len k) ∧ Jx pre W')) := by
 have hBl := cell_lt' hBs
 refine callsIn_of_wp Tryz.func129 rfl h8 ?_ hro
 simp only [Tryz.ntmps129, List.size_toArray, List.length_cons, List.length_nil, Nat.reduceAdd, Nat.reduceSub, Array.replicate_succ, Array.replicate_zero, List.push_toArray, List.append_toArray, List.nil_append, List.cons_append]
 have hw0 : IntKind.i64.wrap ((len : Int) - 1) = (len : Int) - 1 := IntWalk.i64_in _ (by omega)
 gi_wp2
 gi_loopw [3] (fun i wr => ∃ r m : Nat, len = m + r ∧ i = .int .i64 ((m : Int) - 1) ∧ J (backTo len r) wr ∧ KpM mb n₀ W wr)
  (fun i _ => (intOf i + 1).toNat)
 case atStart => exact ⟨0, len, rfl, rfl, by simpa [backTo] using h0, Keep.refl _ _⟩
 case round =>
  obtain ⟨r, m, hm, rfl, hJs, hnx⟩ := hrel
  have hBs' := (kpM_cell hnx hBl hB).trans hBs
  rcases m with _ | m
  · gi_wp2
    go_end0
    exact ⟨⟨_, rfl⟩, .inl ⟨_, by rw [hm]; simp, hJs⟩⟩
  · have e0 : (((m + 1 : Nat) : Int) - 1) = (m : Int) := by omega
    rw [e0]
    have hlt : m < len := by omega
    have hlt' : (m : Int) < (len : Int) := by omega
    have q0 : wr.cell? ⟨b, off + m * 6, none⟩ = some (vs m 0) := (kpM_cell hnx (cell_lt' (hc m 0 hlt (by omega))) hb).trans (hc m 0 hlt (by omega))
    have q1 : wr.cell? ⟨b, off + m * 6 + 1, none⟩ = some (vs m 1) := (kpM_cell hnx (cell_lt' (hc m 1 hlt (by omega))) hb).trans (hc m 1 hlt (by omega))
    have q2 : wr.cell? ⟨b, off + m * 6 + 2, none⟩ = some (vs m 2) := (kpM_cell hnx (cell_lt' (hc m 2 hlt (by omega))) hb).trans (hc m 2 hlt (by omega))
    have q3 : wr.cell? ⟨b, off + m * 6 + 3, none⟩ = some (vs m 3) := (kpM_cell hnx (cell_lt' (hc m 3 hlt (by omega))) hb).trans (hc m 3 hlt (by omega))
    have q4 : wr.cell? ⟨b, off + m * 6 + 4, none⟩ = some (vs m 4) := (kpM_cell hnx (cell_lt' (hc m 4 hlt (by omega))) hb).trans (hc m 4 hlt (by omega))
    have q5 : wr.cell? ⟨b, off + m * 6 + 5, none⟩ = some (vs m 5) := (kpM_cell hnx (cell_lt' (hc m 5 hlt (by omega))) hb).trans (hc m 5 hlt (by omega))
    have hpl : (backTo len r).length < len := by rw [backTo_len (by omega)]; omega
    obtain ⟨fn, tmps, assign, body, hy, hR⟩ := hY _ ⟨m, hlt⟩ wr hJs hpl
    dsimp only at hy
    have hw1 : IntKind.i64.wrap ((m : Int) - 1) = (m : Int) - 1 := IntWalk.i64_in _ (by omega)
    have hsn : backTo len r ++ [⟨m, hlt⟩] = backTo len (r + 1) := by
     rw [backTo_succ (by omega)]
     congr 3
     omega
    have HS := Lib.hid hsn
    have HM := Lib.hid hm
    clear hsn hm hpl
    gi_wp2
    refine hR.mono ?_
    rintro e W3 (⟨rfl, hJ3, hk3⟩ | ⟨rfl, hJx3⟩)
    · gi_wp2
      go_roundw
      case rel => exact ⟨r + 1, m, by have := HM.out; omega, rfl, by rw [← HS.out]; exact hJ3, kpM_t hnx hk3⟩
      case measure => simp [intOf]
    · gi_wp2
      refine bodyPost_ret (results_none rfl _ _ _) rfl ?_
      exact ⟨⟨_, rfl⟩, .inr ⟨_, ⟨r + 1, by have := HM.out; omega, HS.out⟩, hJx3⟩⟩
theorem back129_nil (F : Fence) (n : Nat) (h8 : F.fn 129) (hro : F.round = none) (l Bs cap : Nat) (A : Option Addr) (J : List (Fin 0) → World → Prop) (W : World) (hBs : W.cell? ⟨Bs, 0, none⟩ = some (.slice A 0 cap)) (h0 : J [] W) :
 CallsIn F n Tryz.prog 129 #[.func (.yield l) #[] #[], .pointer (some ⟨Bs, 0, none⟩)] W fun e W' => (∃ v, e = .returned v) ∧ J [] W' := by
 refine callsIn_of_wp Tryz.func129 rfl h8 ?_ hro
 simp only [Tryz.ntmps129, List.size_toArray, List.length_cons, List.length_nil, Nat.reduceAdd, Nat.reduceSub, Array.replicate_succ, Array.replicate_zero, List.push_toArray, List.append_toArray, List.nil_append, List.cons_append]
 gi_wp2
 gi_loopw [3] (fun i wr => i = .int .i64 (-1) ∧ J [] wr) (fun _ _ => 0)
 case atStart => exact ⟨rfl, h0⟩
 case round =>
  obtain ⟨rfl, hJs⟩ := hrel
  gi_wp2
  go_end0
  exact ⟨⟨_, rfl⟩, hJs⟩
theorem backward104_in (F : Fence) (n : Nat) (h5 : F.fn 104) (hro : F.round = none) (a : Option Addr) (len cap : Nat) (w : World) :
 CallsIn F n Tryz.prog 104 #[.slice a len cap] w fun e w' => e = .returned (.func (.func 129) #[] #[.pointer (some ⟨w.heap.size, 0, none⟩)]) ∧ w' = w.alloc (.cells #[.slice a len cap] 26) := by
 refine callsIn_of_wp Tryz.func104 rfl h5 ?_ hro
 simp only [Tryz.ntmps104, List.size_toArray, List.length_cons, List.length_nil, Nat.reduceAdd, Nat.reduceSub, Array.replicate_succ, Array.replicate_zero, List.push_toArray, List.append_toArray, List.nil_append, List.cons_append]
 gi_wp2
 go_ret
 exact ⟨rfl, rfl⟩
theorem back129_stops (F : Fence) (n : Nat) (h8 : F.fn 129) (hro : F.round = none) (hn : 1 ≤ n) (Bs mb n₀ len cap : Nat) (A : Option Addr) (vs : Nat → Nat → Value) (hlen : len ≤ 4194304) (hcap : len ≤ cap) (hB : Bs < n₀ ∧ Bs ≠ mb) (w : World) (hn0 : n₀ ≤ w.heap.size)
 (hBs : w.cell? ⟨Bs, 0, none⟩ = some (.slice A len cap)) (hA : 0 < len → ∃ b off, A = some ⟨b, off, none⟩ ∧ b < n₀ ∧ b ≠ mb ∧ ∀ j c, j < len → c < 6 → w.cell? ⟨b, off + j * 6 + c, none⟩ = some (vs j c)) :
 SeqStopsK F n Tryz.prog 129 #[.pointer (some ⟨Bs, 0, none⟩)] (fun x : Fin len => #[.int .i64 (x.val : Int), .agg #[vs x.val 0, vs x.val 1, vs x.val 2, vs x.val 3, vs x.val 4, vs x.val 5]]) (KpM mb n₀) (fun ys => ys = backTo len len) (fun pre => ∃ k, k ≤ len ∧ pre = backTo len k) len w := fun l J Jx W hW _ _ hY h0 => by
 have hc' := (hW.cell (p := ⟨Bs, 0, none⟩) (by show Bs < _; omega)).trans hBs
 rcases Nat.eq_zero_or_pos len with rfl | hpos
 · exact (back129_nil F n h8 hro l Bs cap A J W hc' h0).mono fun e W' ⟨he, hj⟩ => ⟨he, .inl ⟨_, rfl, hj⟩⟩
 · obtain ⟨b, off, rfl, hb, hm, hcs⟩ := hA hpos
   exact back129_in F n h8 hro hn l Bs mb n₀ b off len cap vs hlen hcap ⟨hb, hm⟩ hB J Jx hY W hc' (fun j c hj hcc => (hW.cell (p := ⟨b, off + j * 6 + c, none⟩) (by show b < _; omega)).trans (hcs j c hj hcc)) h0
end Go.Proofs.YtpblcjipmoblnaaGreatDoor
