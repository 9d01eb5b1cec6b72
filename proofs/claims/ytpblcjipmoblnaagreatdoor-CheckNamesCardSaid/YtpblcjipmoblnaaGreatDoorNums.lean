/- Plain Nums -/
import Derived.Test.YtpblcjipmoblnaaGreatDoorOpenG
import Derived.Test.YtpblcjipmoblnaaGreatDoorLFlat
import Derived.Test.YtpblcjipmoblnaaGreatDoorIdxF
set_option maxRecDepth 100000
set_option maxHeartbeats 4000000
set_option linter.unusedVariables false
set_option linter.unusedSimpArgs false
namespace Go.Proofs.YtpblcjipmoblnaaGreatDoor
open Go.RowKit Go.IntWalk Ck
def bs (l : List UInt8) : ByteArray := ⟨l.toArray⟩
def pol0 : Policy := {
 pos := 0
 name := bs [115]
 rams := [⟨1, 65536, 65536⟩]
 devices := []
 regions := [⟨2, bs [114], 4096, false, 0, false, false, 0, false, ByteArray.empty⟩]
 subjects := [⟨3, bs [97], 0, false, [⟨4, bs [114], 4096, true, false⟩], []⟩]
 channels := []
 irqs := []
 queues := []
 plans := [⟨5, bs [112], 10, [⟨6, 0, false, [⟨7, bs [97], 10, 0⟩]⟩]⟩]
 masters := []
 starts := [⟨8, bs [112]⟩]
 monitors := []
 forbids := [] }
def polZ : Policy := ⟨3, ByteArray.empty, [], [], [], [], [], [], [], [], [], [], [], []⟩
theorem slice_nil {α : Type} {B k : Nat} {R : World → Nat → Nat → α → Prop} {w : World} : SliceAt B k R w (.slice none 0 0) [] := ⟨none, 0, rfl, Nat.le_refl _, by unfold top; simp, fun h => by simp at h⟩
theorem slice_one {α : Type} {B k : Nat} {R : World → Nat → Nat → α → Prop} {w : World} {b : Nat} {x : α} (hb : b < B) (h : R w b 0 x) : SliceAt B k R w (.slice (some ⟨b, 0, none⟩) 1 1) [x] :=
 ⟨_, 1, rfl, Nat.le_refl _, by unfold top; simp, fun _ => ⟨b, 0, rfl, hb, fun i y hy => by
  match i, hy with
  | 0, hy => obtain rfl : x = y := Option.some.inj hy; simpa using h
  | i + 1, hy => simp at hy⟩⟩
theorem cells_row {w : World} {b : Nat} {l : List Value} {t : TypeId} (h : w.heap[b]? = some (.cells l.toArray t (0, 0))) : CellsAt w b 0 l := fun j v hv => by
 rw [Nat.zero_add, cell_of_row _ _ _ _ _ _ h]
 simpa using hv
def v0 (z : Nat) : PolV := {
 rams := .slice (some ⟨z + 1, 0, none⟩) 1 1
 devices := .slice none 0 0
 regions := .slice (some ⟨z + 1 + 1, 0, none⟩) 1 1
 subjects := .slice (some ⟨z + 1 + 1 + 1 + 1, 0, none⟩) 1 1
 channels := .slice none 0 0
 irqs := .slice none 0 0
 queues := .slice none 0 0
 plans := .slice (some ⟨z + 1 + 1 + 1 + 1 + 1 + 1 + 1, 0, none⟩) 1 1
 masters := .slice none 0 0
 starts := .slice (some ⟨z + 1 + 1 + 1 + 1 + 1 + 1 + 1 + 1, 0, none⟩) 1 1
 monitors := .slice none 0 0
 forbids := .slice none 0 0 }
def vZ : PolV := ⟨.slice none 0 0, .slice none 0 0, .slice none 0 0, .slice none 0 0, .slice none 0 0, .slice none 0 0, .slice none 0 0, .slice none 0 0, .slice none 0 0, .slice none 0 0, .slice none 0 0, .slice none 0 0⟩
theorem polZ_at (B : Nat) (w : World) : PolAt B w vZ polZ := ⟨slice_nil, slice_nil, slice_nil, slice_nil, slice_nil, slice_nil, slice_nil, slice_nil, slice_nil, slice_nil, slice_nil, slice_nil, by unfold Wide polZ; simp, by unfold Short polZ; simp⟩
def plainObjs (z : Nat) : List Obj :=
 [.cells ((v0 z).cells pol0).toArray 34, .cells (Ck.Ram.cells ⟨1, 65536, 65536⟩).toArray 41, .cells (Ck.Region.cells ⟨2, bs [114], 4096, false, 0, false, false, 0, false, bs []⟩).toArray 48,
  .cells (Ck.Map.cells ⟨4, bs [114], 4096, true, false⟩).toArray 71, .cells #[.int .i64 3, .string (bs [97]), .int .u64 0, .bool false, .slice (some ⟨z + 1 + 1 + 1, 0, none⟩) 1 1, .slice none 0 0] 52,
  .cells (Run.cells ⟨7, bs [97], 10, 0⟩).toArray 108, .cells #[.int .i64 6, .int .u64 0, .bool false, .slice (some ⟨z + 1 + 1 + 1 + 1 + 1, 0, none⟩) 1 1] 92,
  .cells #[.int .i64 5, .string (bs [112]), .int .u64 10, .slice (some ⟨z + 1 + 1 + 1 + 1 + 1 + 1, 0, none⟩) 1 1] 62, .cells (Ck.Pick.cells ⟨8, bs [112]⟩).toArray 78]
theorem allocs_at : ∀ (os : List Obj) (w : World), (os.foldl World.alloc w).heap.size = w.heap.size + os.length ∧ (∀ i o, os[i]? = some o → (os.foldl World.alloc w).heap[w.heap.size + i]? = some o) ∧ Keep (fun _ => False) w (os.foldl World.alloc w)
 | [], w => ⟨rfl, fun i o h => by simp at h, Keep.refl _ _⟩
 | o :: os, w => by
  obtain ⟨h1, h2, h3⟩ := allocs_at os (w.alloc o)
  have hs : (w.alloc o).heap.size = w.heap.size + 1 := by simp
  have h0 : (w.alloc o).heap[w.heap.size]? = some o := heap_alloc_new _ _
  refine ⟨by rw [List.foldl_cons, h1, hs, List.length_cons]; omega, fun i x hx => ?_, ((Keep.refl _ _).alloc _).trans h3 (fun _ _ e => e)⟩
  cases i with
  | zero =>
   obtain rfl : o = x := Option.some.inj hx
   rw [List.foldl_cons, Nat.add_zero, h3.block _ (by omega) (fun e => e)]
   exact h0
  | succ i =>
   have := h2 i x hx
   rw [hs, Nat.add_assoc, Nat.add_comm 1 i] at this
   exact this
theorem plain_at {z B : Nat} {w : World} (h : ∀ i o, (plainObjs z)[i]? = some o → w.heap[z + i]? = some o) (hB : z + 9 ≤ B) : PolAt B w (v0 z) pol0 := {
 rams := slice_one (b := z + 1) (by omega) ⟨cells_row (h 1 _ rfl), by simp [Ck.Ram.Ok, Wide, lim, ByteArray.size]⟩
 devices := slice_nil
 regions := slice_one (b := z + 1 + 1) (by omega) ⟨cells_row (h 2 _ rfl), by simp [Ck.Region.Ok, Wide, Short, bs, lim, ByteArray.size]⟩
 subjects := slice_one (b := z + 1 + 1 + 1 + 1) (by omega) ⟨_, _, cells_row (h 4 _ rfl), slice_one (b := z + 1 + 1 + 1) (by omega) ⟨cells_row (h 3 _ rfl), by simp [Ck.Map.Ok, Wide, Short, bs, lim, ByteArray.size]⟩, slice_nil, by simp [Wide, Short, bs, lim, ByteArray.size]⟩
 channels := slice_nil
 irqs := slice_nil
 queues := slice_nil
 plans := slice_one (b := z + 1 + 1 + 1 + 1 + 1 + 1 + 1) (by omega) ⟨_, cells_row (h 7 _ rfl), slice_one (b := z + 1 + 1 + 1 + 1 + 1 + 1) (by omega) ⟨_, cells_row (h 6 _ rfl),
  slice_one (b := z + 1 + 1 + 1 + 1 + 1) (by omega) ⟨cells_row (h 5 _ rfl), by simp [Run.Ok, Wide, Short, bs, lim, ByteArray.size]⟩, by simp [Wide, lim, ByteArray.size]⟩, by simp [Wide, Short, bs, lim, ByteArray.size]⟩
 masters := slice_nil
 starts := slice_one (b := z + 1 + 1 + 1 + 1 + 1 + 1 + 1 + 1) (by omega) ⟨cells_row (h 8 _ rfl), by simp [Ck.Pick.Ok, Wide, Short, bs, lim, ByteArray.size]⟩
 monitors := slice_nil
 forbids := slice_nil
 pos := by simp [pol0, Wide, lim, ByteArray.size]
 name := by simp [pol0, Short, bs, lim, ByteArray.size] }
theorem post_pol {fn : Func} {R : Ending → World → Prop} {a : Act} {w : World} {t z : Nat} {v : PolV} {P : Policy} (h : fn.results = #[.cell t 34]) (ht : At a t (.pointer (some ⟨z, 0, none⟩))) (hs : t < a.tmps.size) (hc : CellsAt w z 0 (v.cells P)) (hd : a.defers = [])
 (hR : R (.returned (.agg (v.cells P).toArray)) w) : bodyPost Tryz.prog fn R .ret a w := by
 refine bodyPost_ret (v := .agg (v.cells P).toArray) ?_ hd hR
 have e : a.tmps.getD t undef = .pointer (some ⟨z, 0, none⟩) := ht.eval hs
 have c0 := hc 0 _ rfl
 have c1 := hc 1 _ rfl
 have c2 := hc 2 _ rfl
 have c3 := hc 3 _ rfl
 have c4 := hc 4 _ rfl
 have c5 := hc 5 _ rfl
 have c6 := hc 6 _ rfl
 have c7 := hc 7 _ rfl
 have c8 := hc 8 _ rfl
 have c9 := hc 9 _ rfl
 have c10 := hc 10 _ rfl
 have c11 := hc 11 _ rfl
 have c12 := hc 12 _ rfl
 have c13 := hc 13 _ rfl
 simp only [Nat.zero_add] at c0 c1 c2 c3 c4 c5 c6 c7 c8 c9 c10 c11 c12 c13
 clear hc hR
 unfold results
 simp only [h]
 go_simp
 rfl
theorem plain_any (w : World) : Calls Tryz.prog 33 #[] w fun e w' => ∃ z, e = .returned (.agg ((v0 z).cells pol0).toArray) ∧ w.heap.size ≤ z ∧ z + 9 ≤ w'.heap.size ∧ (∀ i o, (plainObjs z)[i]? = some o → w'.heap[z + i]? = some o) ∧ Keep (fun _ => False) w w' := by
 obtain ⟨h1, h2, h3⟩ := allocs_at (plainObjs w.heap.size) w
 have H1 := Lib.hid h1
 have H2 := Lib.hid h2
 have H3 := Lib.hid h3
 clear h1 h2 h3
 go_enter Tryz.func33, Tryz.ntmps33
 go_wp2
 exact post_pol (z := w.heap.size) (t := 0) rfl (fun _ => rfl) (show (0 : Nat) < 18 by decide) (cells_row (H2.out 0 _ rfl)) rfl ⟨w.heap.size, rfl, Nat.le_refl _, Nat.le_of_eq H1.out.symm, H2.out, H3.out⟩
def nums : List Int := [4, 5, 32, 33, 34, 35, 36, 40, 80, 81, 100, 101, 102, 103, 104, 105, 106, 107, 108, 109, 113]
theorem nums_at {k : Nat} (h : k < 21) : ∃ x, nums[k]? = some x := ⟨_, List.getElem?_eq_getElem h⟩
def numObjs : List Obj := [.cells (nums.map (Value.int .i64)).toArray 72, .cells (nums.map (Value.int .i64)).toArray 3]
theorem numbers_any (w : World) : Calls Tryz.prog 7 #[] w fun e w' => e = .returned (.bool true) ∧ Keep (fun _ => False) w w' := by
 obtain ⟨h1, h2, h3⟩ := allocs_at numObjs w
 have H1 := Lib.hid h1
 have H2 := Lib.hid h2
 have H3 := Lib.hid h3
 clear h1 h2 h3
 go_enter Tryz.func7, Tryz.ntmps7
 go_wp2_with fail
 obtain ⟨wo, hwo⟩ : ∃ wo : World, wo = numObjs.foldl World.alloc w := ⟨_, rfl⟩
 obtain ⟨z, hz⟩ : ∃ z, z = w.heap.size := ⟨_, rfl⟩
 obtain ⟨y, hy⟩ : ∃ y, y = w.heap.size + 1 := ⟨_, rfl⟩
 have hzs : z < wo.heap.size := by have := H1.out; rw [← hwo] at this; simp [numObjs] at this; omega
 have hys : y < wo.heap.size := by have := H1.out; rw [← hwo] at this; simp [numObjs] at this; omega
 have hr0 : wo.heap[z]? = some (.cells (nums.map (Value.int .i64)).toArray 72 (0, 0)) := by rw [hwo, hz]; exact H2.out 0 _ rfl
 have hr1 : wo.heap[y]? = some (.cells (nums.map (Value.int .i64)).toArray 3 (0, 0)) := by rw [hwo, hy]; exact H2.out 1 _ rfl
 have hk0 : Keep (fun _ => False) w wo := by rw [hwo]; exact H3.out
 rw [← hy, ← hz]
 change Code.wp _ _ _ _ (numObjs.foldl World.alloc w)
 rw [← hwo]
 have HR0 := Lib.hid hr0
 have HR1 := Lib.hid hr1
 have HK0 := Lib.hid hk0
 clear hwo hz hy H1 H2 H3 hr0 hr1 hk0
 go_loopw [3] (fun i wr => ∃ n : Nat, n ≤ 21 ∧ i = .int .i64 n ∧ Keep (fun _ => False) wo wr) (fun i _ => 21 - (intOf i).toNat)
 case atStart => exact ⟨0, by omega, rfl, Keep.refl _ _⟩
 case round =>
 obtain ⟨n, hn, rfl, hk⟩ := hrel
 by_cases hlt : n < 21
 · obtain ⟨x, hx⟩ := nums_at hlt
   have q0 : wr.cell? ⟨z, n, none⟩ = some (.int .i64 x) := by rw [cell_of_row _ _ _ _ _ _ ((hk.block z hzs (fun e => e)).trans HR0.out)]; simp [hx]
   have q1 : wr.cell? ⟨y, n, none⟩ = some (.int .i64 x) := by rw [cell_of_row _ _ _ _ _ _ ((hk.block y hys (fun e => e)).trans HR1.out)]; simp [hx]
   have HK := Lib.hid hk
   clear hk hx
   go_wp2
   go_quiet (fail)
   go_wp2
   go_roundw
   case rel => exact ⟨n + 1, by omega, by go_num, HK.out.drewN _⟩
   case measure => simp [intOf]; omega
 · obtain rfl : n = 21 := by omega
   have HK := Lib.hid hk
   clear hk
   go_wp2
   go_ret
   exact ⟨rfl, HK0.out.trans HK.out (fun _ _ e => e)⟩
end Go.Proofs.YtpblcjipmoblnaaGreatDoor
