/- LanesKept: its argument opened, and the law's walk. -/
import Derived.Test.YtgilejknjdbneaaOpen3
import Derived.Test.YtgilejknjdbneaaK4
import Derived.Test.YtgilejknjdbneaaK5
import Derived.Test.YtgilejknjdbneaaR7
namespace Go.Proofs.Ytgilejknjdbneaa
open Go.ChangeShapes Go.WideShapes Go.ChangeAt Go.RowKit Go.Deep Go.Joins

structure AskR where
  major : Nat
  lp : Int
  cpu : Nat
  nd : Bool
  A : Option Addr
  c : Nat
  runs : List Run

def AskR.Ok (W : World) (s : AskR) : Prop := RunsAt W s.A s.runs ∧ s.runs.length ≤ s.c ∧ (∀ r ∈ s.runs, r.bud < 18446744073709551616 ∧ r.per < 18446744073709551616) ∧ s.major < 18446744073709551616 ∧ s.cpu < 18446744073709551616 ∧ (s.c = 0 ∨ s.A ≠ none)
def AskR.At (W : World) (a : Nat → Addr) (s : AskR) : Prop :=
  W.cell? (a 0) = some (.int .u64 s.major) ∧ W.cell? (a 1) = some (.int .i64 s.lp) ∧ W.cell? (a 2) = some (.int .u64 s.cpu) ∧ W.cell? (a 3) = some (.bool s.nd) ∧ W.cell? (a 4) = some (.slice s.A s.runs.length s.c)
def AsksAt (W : World) (A : Option Addr) (xs : List AskR) : Prop :=
  0 < xs.length → ∃ b off, A = some ⟨b, off, none⟩ ∧ b < W.heap.size ∧ ∀ (i : Nat) (s : AskR), xs[i]? = some s → s.At W (fun j => ⟨b, off + i * 5 + j, none⟩)

theorem list5 {α : Type} {l : List α} (h : l.length = 5) : ∃ a b c d e, l = [a, b, c, d, e] := by
  match l, h with
  | [a, b, c, d, e], _ => exact ⟨a, b, c, d, e, rfl⟩

section
variable {H : Type} {enc : TypeId × Value → H} {W : World} {base : Nat}
theorem ask_open {a : Addr} {cs : List Value} {n : Nat} {x : DataW H × List MemPlace} (hc : W.cells? base a 5 = some cs) (h : DataW.trod enc Try.prog W base (fun _ => true) true n 64 cs = some x) :
    ∃ s : AskR, s.Ok W ∧ s.At W (fun j => a.add j) := by
  obtain ⟨_, hcl, hat⟩ := World.cells?_some hc
  have k0 : Try.prog.cellsOf 26 = 1 := by kernel_rfl
  have k1 : Try.prog.cellsOf 31 = 4 := by kernel_rfl
  have k2 : Try.prog.cellsOf 3 = 1 := by kernel_rfl
  have k3 : Try.prog.cellsOf 4 = 1 := by kernel_rfl
  have k4 : Try.prog.cellsOf 29 = 1 := by kernel_rfl
  obtain ⟨c0, c1, c2, c3, c4, rfl⟩ := list5 hcl
  obtain ⟨ys, n1, _, _, _, hyl, hf⟩ := DataW.trod_struct Try.underlying64 h
  have t0 : DataW.trod enc Try.prog W base (fun _ => true) true n1 26 (([c0, c1, c2, c3, c4].drop 0).take (Try.prog.cellsOf 26)) = ys[0]? := hf 0 _ rfl
  have t1 : DataW.trod enc Try.prog W base (fun _ => true) true n1 31 (([c0, c1, c2, c3, c4].drop 1).take (Try.prog.cellsOf 31)) = ys[1]? := hf 1 _ rfl
  simp only [k0, k1, List.drop_zero, List.drop_succ_cons, List.take_succ_cons, List.take_zero] at t0 t1
  have hyl2 : ys.length = 2 := hyl
  obtain ⟨y0, hy0⟩ : ∃ y, ys[0]? = some y := ⟨_, List.getElem?_eq_getElem (by omega)⟩
  obtain ⟨y1, hy1⟩ : ∃ y, ys[1]? = some y := ⟨_, List.getElem?_eq_getElem (by omega)⟩
  rw [hy0] at t0
  rw [hy1] at t1
  obtain ⟨zs, n2, _, _, _, hzl, hg⟩ := DataW.trod_struct Try.underlying31 t1
  have s0 : DataW.trod enc Try.prog W base (fun _ => true) true n2 3 (([c1, c2, c3, c4].drop 0).take (Try.prog.cellsOf 3)) = zs[0]? := hg 0 _ rfl
  have s1 : DataW.trod enc Try.prog W base (fun _ => true) true n2 26 (([c1, c2, c3, c4].drop 1).take (Try.prog.cellsOf 26)) = zs[1]? := hg 1 _ rfl
  have s2 : DataW.trod enc Try.prog W base (fun _ => true) true n2 4 (([c1, c2, c3, c4].drop 2).take (Try.prog.cellsOf 4)) = zs[2]? := hg 2 _ rfl
  have s3 : DataW.trod enc Try.prog W base (fun _ => true) true n2 29 (([c1, c2, c3, c4].drop 3).take (Try.prog.cellsOf 29)) = zs[3]? := hg 3 _ rfl
  simp only [k0, k2, k3, k4, List.drop_zero, List.drop_succ_cons, List.take_succ_cons, List.take_zero] at s0 s1 s2 s3
  have hzl4 : zs.length = 4 := hzl
  obtain ⟨z0, hz0⟩ : ∃ y, zs[0]? = some y := ⟨_, List.getElem?_eq_getElem (by omega)⟩
  obtain ⟨z1, hz1⟩ : ∃ y, zs[1]? = some y := ⟨_, List.getElem?_eq_getElem (by omega)⟩
  obtain ⟨z2, hz2⟩ : ∃ y, zs[2]? = some y := ⟨_, List.getElem?_eq_getElem (by omega)⟩
  obtain ⟨z3, hz3⟩ : ∃ y, zs[3]? = some y := ⟨_, List.getElem?_eq_getElem (by omega)⟩
  rw [hz0] at s0
  rw [hz1] at s1
  rw [hz2] at s2
  rw [hz3] at s3
  obtain ⟨m0, e0, _, w0⟩ := DataW.trod_int Try.underlying26 t0
  obtain ⟨m1, e1, _, w1⟩ := DataW.trod_int Try.underlying3 s0
  obtain ⟨m2, e2, _, w2⟩ := DataW.trod_int Try.underlying26 s1
  obtain ⟨m3, e3, _⟩ := DataW.trod_bool Try.underlying4 s2
  obtain ⟨A, l, c, e4⟩ := slice_form Try.underlying29 s3
  simp at e0 e1 e2 e3 e4
  subst e0 e1 e2 e3 e4
  obtain ⟨xs, hxl, hxat, hxb, _⟩ := runs_open_cells s3
  have hu := bounds_u64 w0
  have hu2 := bounds_u64 w2
  have hlc : l ≤ c ∧ (c = 0 ∨ A ≠ none) := by
    rcases open_slice Try.underlying29 s3 with ⟨hcs, _⟩ | ⟨a', len', cap', m, n, D, Pl, hcs, _, h1, _⟩
    · simp at hcs
      obtain ⟨rfl, rfl, rfl⟩ := hcs
      exact ⟨Nat.le_refl _, .inl rfl⟩
    · simp at hcs
      obtain ⟨rfl, rfl, rfl⟩ := hcs
      exact ⟨h1, .inr (by simp)⟩
  refine ⟨⟨m0.toNat, m1, m2.toNat, m3, A, c, xs⟩, ⟨hxat, by simp only; omega, fun r hr => (hxb r hr).2.2, by simp only; omega, by simp only; omega, hlc.2⟩, ?_⟩
  have h0 := hat 0 (by omega)
  have h1 := hat 1 (by omega)
  have h2 := hat 2 (by omega)
  have h3 := hat 3 (by omega)
  have h4 := hat 4 (by omega)
  refine ⟨by simp only; rw [Int.toNat_of_nonneg hu.1]; exact h0, h1, by simp only; rw [Int.toNat_of_nonneg hu2.1]; exact h2, h3, ?_⟩
  simp only
  rw [hxl]
  exact h4
theorem asks_open {A : Option Addr} {n c : Nat} {d : DataW H} {p : List MemPlace} (h : DataW.Trod enc Try.prog W base (fun _ => true) true 59 (.slice A n c) d p) :
    ∃ xs : List AskR, xs.length = n ∧ AsksAt W A xs ∧ (∀ s ∈ xs, s.Ok W) := by
  obtain ⟨fuel, hf⟩ := h
  have k5 : Try.prog.cellsOf 64 = 5 := by kernel_rfl
  rcases open_slice Try.underlying59 hf with ⟨hcs, hx⟩ | ⟨a, len, cap, m, n1, D, Pl, hcs, _, hl, hm, hmm, hx, hi⟩
  · simp [Value.cells] at hcs
    obtain ⟨rfl, rfl, rfl⟩ := hcs
    exact ⟨[], rfl, fun h => by simp at h, fun s h => by simp at h⟩
  · simp [Value.cells] at hcs
    obtain ⟨rfl, rfl, rfl⟩ := hcs
    simp only [if_true] at hmm
    obtain ⟨xs, hxl, hq⟩ := list_of (Q := fun i (s : AskR) => s.Ok W ∧ s.At W (fun j => (a.add (i * 5)).add j)) n (fun i hin => by
      obtain ⟨cs', hc, ht⟩ := hi i (by omega)
      rw [k5] at hc
      exact ask_open hc ht)
    refine ⟨xs, hxl, fun hpos => ?_, fun s hs => ?_⟩
    · obtain ⟨s0, hs0⟩ : ∃ s, xs[0]? = some s := ⟨xs[0], List.getElem?_eq_getElem hpos⟩
      have h00 := (hq 0 s0 hs0).2.1
      have h01 : W.cell? (a.add 0) = some (.int .u64 s0.major) := by
        have h02 : W.cell? ((a.add (0 * 5)).add 0) = some (.int .u64 s0.major) := h00
        rw [Go.Deep.add_add] at h02
        exact h02
      obtain ⟨b, off, rfl, hb, hadd⟩ := spot_none h01
      refine ⟨b, off, rfl, hb, fun i s hs => ?_⟩
      obtain ⟨_, h1⟩ := hq i s hs
      have hadd2 : ∀ j, ((⟨b, off, none⟩ : Addr).add (i * 5)).add j = ⟨b, off + i * 5 + j, none⟩ := fun j => by rw [Go.Deep.add_add, hadd, Nat.add_assoc]
      unfold AskR.At at h1 ⊢
      simpa only [hadd2] using h1
    · obtain ⟨i, hi⟩ := List.getElem?_of_mem hs
      exact (hq i s hi).1
end
end Go.Proofs.Ytgilejknjdbneaa

namespace Go.Proofs.Ytgilejknjdbneaa
open Go.RowKit Go.IntWalk

theorem BlkRun.keep {S : Nat → Prop} {w w' : World} {g n : Nat} (h : BlkRun w g n) (hk : Keep S w w') (hS : ¬ S g) : BlkRun w' g n := by
  obtain ⟨cur, h1, h2⟩ := h
  exact ⟨cur, (hk.block g (Array.getElem?_eq_some_iff.1 h1).1 hS).trans h1, h2⟩
theorem BlkRun.lt {w : World} {g n : Nat} (h : BlkRun w g n) : g < w.heap.size := by
  obtain ⟨cur, h1, _⟩ := h
  exact (Array.getElem?_eq_some_iff.1 h1).1
theorem BlkRun.ty {w : World} {g n : Nat} (h : BlkRun w g n) : tyAt w g = some 28 := by
  obtain ⟨cur, h1, _⟩ := h
  unfold tyAt; rw [h1]

theorem BookAt.keepTy {S : Nat → Prop} {w w' : World} {B pb : Nat} {vL vW : Value} {held : Int} {ks : List Kept} (h1 : BookAt w B pb vL vW held ks) (hk : Keep S w w') (hS : ∀ k, S k → k < w.heap.size → tyAt w k ≠ some 62 ∧ tyAt w k ≠ some 22 ∧ tyAt w k ≠ some 33) : BookAt w' B pb vL vW held ks := by
  have hZ : tyAt w pb = some 62 := by unfold tyAt; rw [h1.var]
  refine ⟨(hk.block pb h1.size (fun e => (hS pb e h1.size).1 hZ)).trans h1.var, h1.lists.keep hk (fun k hk' e => ?_), h1.was.keep hk (fun k hk' e => ?_), fun x hx => ?_, h1.lb, h1.ap, h1.far⟩
  · obtain ⟨_, a2, a3⟩ := h1.lists.lt k hk'
    exact (hS k e a2).2.1 a3
  · obtain ⟨_, a2, a3⟩ := h1.was.lt k hk'
    exact (hS k e a2).2.1 a3
  · obtain ⟨r1, r2⟩ := h1.rows x hx
    exact ⟨own_keep r1 hk (fun j hj e => (hS j e (own_ty r1 hj).2.2).2.2 (own_ty r1 hj).1), own_keep r2 hk (fun j hj e => (hS j e (own_ty r2 hj).2.2).2.2 (own_ty r2 hj).1)⟩
theorem heap_ty {S : Nat → Prop} {w w' : World} (hk : Keep S w w') {x : Nat} {cs : Array Value} {t : TypeId} {fr : Nat × Nat} (hx : w.heap[x]? = some (.cells cs t fr)) (hS : ∀ k, S k → tyAt w k ≠ some t) : w'.heap[x]? = some (.cells cs t fr) :=
  (hk.block x (Array.getElem?_eq_some_iff.1 hx).1 (fun e => hS x e (by unfold tyAt; rw [hx]))).trans hx

/-- The law's memory: the book in block Z, the buffer in block g. -/
structure KSt (W wr : World) (Z g N : Nat) : Prop where
  book : ∃ vL vW held ks, BookAt wr (Z + 1) Z vL vW held ks ∧ ks.length ≤ N ∧ ∀ k ∈ ks, k.xs.length ≤ 100000
  blk : BlkRun wr g 160
  bel : Below Z W wr
namespace KSt
variable {W w w' : World} {Z g N : Nat}
theorem keepN (h : KSt W w Z g N) (hZ : Z ≤ w.heap.size) (hk : Keep (fun _ => False) w w') : KSt W w' Z g N := by
  obtain ⟨vL, vW, held, ks, h1, h2, h3⟩ := h.book
  exact ⟨⟨vL, vW, held, ks, h1.keepN hk, h2, h3⟩, h.blk.keep hk (fun h => h), h.bel.trans (hk.below hZ (fun _ _ h => h))⟩
theorem zlt (h : KSt W w Z g N) : Z < w.heap.size := by
  obtain ⟨vL, vW, held, ks, h1, h2, h3⟩ := h.book
  exact h1.size
theorem keepF (h : KSt W w Z g N) (hk : Keep (fun _ => False) w w') : KSt W w' Z g N := h.keepN (Nat.le_of_lt h.zlt) hk
/-- Blocks of runs, of lanes are written. -/
theorem keepTy {S : Nat → Prop} (h : KSt W w Z g N) (hk : Keep S w w') (hS : ∀ k, S k → k < w.heap.size → tyAt w k ≠ some 62 ∧ tyAt w k ≠ some 22 ∧ tyAt w k ≠ some 33 ∧ Z ≤ k) (hb : BlkRun w' g 160) : KSt W w' Z g N := by
  obtain ⟨vL, vW, held, ks, h1, h2, h3⟩ := h.book
  exact ⟨⟨vL, vW, held, ks, h1.keepTy hk (fun k e hk => ⟨(hS k e hk).1, (hS k e hk).2.1, (hS k e hk).2.2.1⟩), h2, h3⟩, hb, h.bel.trans (hk.below (Nat.le_of_lt h1.size) (fun i hi e => by
    have := (hS i e (by have := h1.size; omega)).2.2.2
    omega))⟩
/-- Keep. -/
theorem kept (h : KSt W w Z g N) (hN : N ≤ 1000) (A : Option Addr) (n c q : Nat) (xs : List Slot) (hn : xs.length = n) (hn2 : n ≤ 100000) (w0 : World) (h0 : KSt W w0 Z g N) {S : Nat → Prop} (hb : Keep S w0 w) (hS : ∀ k, S k → k < w0.heap.size → tyAt w0 k ≠ some 62 ∧ tyAt w0 k ≠ some 22 ∧ tyAt w0 k ≠ some 33) (hv : w.ownsRow w0.heap.size 33 3 (.slice A n c) n (slotCells xs)) :
    Calls Try.prog 32 #[.pointer (some ⟨Z, 0, none⟩), .slice A n c] w fun e w' => e = .returned (.tuple #[]) ∧ KSt W w' Z g (N + 1) ∧ Keep (fun k => tyAt w k = some 62 ∨ tyAt w k = some 22) w w' := by
  obtain ⟨vL, vW, held, ks, hB0, h2, h3⟩ := h0.book
  have hB := hB0.keepTy hb hS
  have hz0 := hB0.size
  have hz : Z < w.heap.size := hB.size
  refine (keep_any w (Z + 1) Z ks.length n c vL vW held ks A xs hB rfl h3 (by omega) (by omega) hn hn2 (own_base_le hv (by omega)) ?_).mono ?_
  · intro kk hkk k hk hk2
    have h4 := ((hB0.rows kk hkk).1.lt k hk).2
    have h5 := (hv.lt k hk2).1
    omega
  · rintro e w' ⟨rfl, vL', vW', held', v2, pre, ks', hpre, hB', hK⟩
    have hsub : ∀ k ∈ ks', k ∈ ks ++ [⟨.slice A n c, v2, xs⟩] := fun k hk => by rw [← hpre]; exact List.mem_append_right _ hk
    have hlen : ks'.length ≤ ks.length + 1 := by
      have := congrArg List.length hpre
      simp at this
      omega
    have hK2 : Keep (fun k => tyAt w k = some 62 ∨ tyAt w k = some 22) w w' := hK.mono (fun i _ hi => by
      rcases hi with rfl | hi | hi
      · left; unfold tyAt; rw [hB.var]
      · right; exact (hB.lists.lt i hi).2.2
      · right; exact (hB.was.lt i hi).2.2)
    refine ⟨rfl, ⟨⟨vL', vW', held', ks', hB', by omega, fun k hk => ?_⟩, h.blk.keep hK2 (fun e => by rw [h.blk.ty] at e; simp at e), h.bel.trans (hK.below (Nat.le_of_lt hz) (fun i hi e => ?_))⟩, hK2⟩
    · rcases List.mem_append.1 (hsub k hk) with h4 | h4
      · exact h3 k h4
      · simp at h4; rw [h4]; simp only; omega
    · rcases e with rfl | e | e
      · omega
      · have := (hB.lists.lt i e).1; omega
      · have := (hB.was.lt i e).1; omega
theorem apart (h : KSt W w Z g N) (hN : N ≤ 1000) : Calls Try.prog 33 #[.pointer (some ⟨Z, 0, none⟩), .func (.func 34) #[] #[]] w fun e w' => e = .returned (.bool true) ∧ Below Z w w' := by
  obtain ⟨vL, vW, held, ks, h1, h2, h3⟩ := h.book
  exact apart_any w (Z + 1) Z ks.length vL vW held ks h1 rfl h3 (by omega)
end KSt

theorem RunsAt.take {w : World} {A : Option Addr} {xs : List Run} (h : RunsAt w A xs) (m : Nat) : RunsAt w A (xs.take m) := by
  intro h0
  obtain ⟨b, off, hA, hb, hat⟩ := h (by have := List.length_take_le' m xs; omega)
  refine ⟨b, off, hA, hb, fun i r hi => hat i r ?_⟩
  rw [List.getElem?_take] at hi
  split at hi
  · exact hi
  · simp at hi

set_option maxRecDepth 100000 in
set_option maxHeartbeats 4000000 in
theorem lawKept_any (A : Option Addr) (n c : Nat) (xs : List AskR) (W : World) (hn : xs.length = n) (hr : AsksAt W A xs) (hok : ∀ s ∈ xs, s.Ok W) :
    Calls Try.prog 11 #[.slice A n c] W fun e w' => e = .returned (.bool true) ∧ Below W.heap.size W w' := by
  obtain ⟨Z, hZ⟩ : ∃ Z, Z = W.heap.size := ⟨_, rfl⟩
  obtain ⟨w1, hw1⟩ : ∃ w1, w1 = W.alloc (.cells #[.slice none 0 0, .slice none 0 0, .int .i64 0, .bool false] 62) := ⟨_, rfl⟩
  have hb1 : Below Z W w1 := by rw [hw1]; exact (Below.refl Z W).alloc (by omega) _
  have hs1 : w1.heap.size = Z + 1 := by rw [hw1, hZ]; simp
  have hv1 : w1.heap[Z]? = some (.cells #[.slice none 0 0, .slice none 0 0, .int .i64 0, .bool false] 62 (0, 0)) := by rw [hw1, hZ]; exact heap_alloc_new _ _
  obtain ⟨i28, hi, hz0, hz1, hz2⟩ := info_parts Try.info28
  have hsz : (Try.prog.info? 28).map (·.size) = some 4 := by rw [hi]; simp [hz1]
  have HSZ := Lib.hid hsz
  have HN := Lib.hid hn
  have HR := Lib.hid hr
  have HOk := Lib.hid hok
  have HB1 := Lib.hid hb1
  have HS1 := Lib.hid hs1
  have HV1 := Lib.hid hv1
  have HW1 := Lib.hid hw1
  have HZ := Lib.hid hZ
  have HZ2 : Hid (W.heap.size = Z) := hZ.symm
  clear hn hr hok hb1 hs1 hv1 hw1 hZ hsz
  go_enter Try.func11, Try.ntmps11
  go_wp2_with (at_make; refine wpList_make_full _ rfl (.const (.int .i64 40)) (.const (.int .i64 40)) 29 rfl (W.heap.size + 1) 28 i28 (.agg #[.int .i64 0, .string ByteArray.empty, .int .u64 0, .int .u64 0]) 4 Try.underlying29 hi hz0 hz1 .i64 .i64 40 40 40 rfl rfl rfl rfl ?h1 ?h2 ?h3 ?_)
  case h1 => rw [hz2]; omega
  case h2 => unfold maxLen; omega
  case h3 => simp
  intro w2 hown2 hgr2
  rw [← HW1.out] at hgr2
  rw [HZ2.out] at hown2 ⊢
  have hk2 : Keep (fun _ => False) w1 w2 := Keep.of_grown hgr2 (by simp)
  obtain ⟨g, hg⟩ : ∃ g, g = Z + 1 := ⟨_, rfl⟩
  rw [← hg] at hown2 ⊢
  have hblk2 : BlkRun w2 g 160 := by
    rcases hown2.2 with ⟨h, _⟩ | ⟨g', cap', cur, h, _, h2, _, _, h3, _⟩
    · simp at h
    · simp only [Value.slice.injEq, Option.some.injEq, Addr.mk.injEq, and_true, true_and] at h
      obtain ⟨rfl, rfl⟩ := h
      exact ⟨cur, h2, h3⟩
  have hZ1 : Z < w1.heap.size := by rw [HS1.out]; omega
  have hK2 : KSt W w2 Z g (2 * 0) := ⟨⟨_, _, _, [], ⟨(hk2.block Z hZ1 (by simp)).trans HV1.out, OwnsOff.nil _ _ _, OwnsOff.nil _ _ _, by simp, by omega, by simp [Value.ownBlock], List.Pairwise.nil⟩, by simp, by simp⟩, hblk2, HB1.out.trans (hk2.below (by omega) (by simp))⟩
  have HK2 := Lib.hid hK2
  have hgZ : Z ≤ g := by omega
  clear hown2 hgr2 hk2 hblk2 hZ1 hK2 hg
  go_wp2_with fail
  go_loopg [5] 20 (fun q x wr0 => ∃ (i : Nat) (wr : World), wr = wr0 ∧ q + i = 20 ∧ x = .int .i64 i ∧ Hid (KSt W wr Z g (2 * i)))
  case atStart => exact ⟨0, _, rfl, rfl, rfl, HK2⟩
  case round =>
    obtain ⟨i, wr, rfl, hqi, rfl, HKr⟩ := hrel
    have HQ := Lib.hid hqi
    have hi20 : i ≤ 20 := by omega
    clear hqi
    by_cases hin : i < n
    · by_cases hi2 : i < 20
      · obtain ⟨s, hs⟩ : ∃ s, xs[i]? = some s := ⟨_, List.getElem?_eq_getElem (by rw [HN.out]; exact hin)⟩
        have hsok := HOk.out s (List.mem_of_getElem? hs)
        obtain ⟨b, off, hA, hbW, hat⟩ := HR.out (by rw [HN.out]; omega)
        subst hA
        obtain ⟨e0, e1, e2, e3, e4⟩ := hat i s hs
        have hbz : b < Z := by rw [← HZ2.out]; exact hbW
        have hcell : ∀ j v, W.cell? ⟨b, off + i * 5 + j, none⟩ = some v → wr.cell? ⟨b, off + i * 5 + j, none⟩ = some v := fun j v h => (HKr.out.bel.cell (p := ⟨b, off + i * 5 + j, none⟩) hbz).trans h
        have f0 : wr.cell? ⟨b, off + i * 5, none⟩ = some (.int .u64 s.major) := hcell 0 _ e0
        have f1 := hcell 1 _ e1
        have f2 := hcell 2 _ e2
        have f3 := hcell 3 _ e3
        have f4 := hcell 4 _ e4
        obtain ⟨mj, lp, cpu, nd, A2, c2, rs⟩ := s
        simp only at f0 f1 f2 f3 f4
        obtain ⟨k1, k2, k3, k4, k5, k6⟩ := hsok
        simp only at k1 k2 k3 k4 k5 k6
        have HRs := Lib.hid k1
        have HBd := Lib.hid k3
        have HHp := Lib.hid k6
        have hin2 : (i : Int) < n := by omega
        have hi23 : (i : Int) < 20 := by omega
        have hi0 : (0 : Int) ≤ i := by omega
        obtain ⟨px, hpx⟩ : ∃ px, px = wr.heap.size := ⟨_, rfl⟩
        obtain ⟨l, hl⟩ : ∃ l, l = rs.length := ⟨_, rfl⟩
        rw [← hl] at f4 k2
        have HL := Lib.hid hl
        have HPx := Lib.hid hpx
        clear hcell hat e0 e1 e2 e3 e4 hs k1 k3 k6 hpx hl
        go_upto_region 7 with fail
        rw [← HPx.out]
        obtain ⟨w3, hw3⟩ : ∃ w3, w3 = wr.alloc (.cells #[.int .u64 mj, .int .i64 lp, .int .u64 cpu, .bool nd, .slice A2 l c2] 64) := ⟨_, rfl⟩
        have hk3 : Keep (fun _ => False) wr w3 := by rw [hw3]; exact (Keep.refl _ wr).alloc _
        have hpx3 : w3.heap[px]? = some (.cells #[.int .u64 mj, .int .i64 lp, .int .u64 cpu, .bool nd, .slice A2 l c2] 64 (0, 0)) := by rw [hw3, HPx.out]; exact heap_alloc_new _ _
        have hK3 := HKr.out.keepF hk3
        have hgpx : Z ≤ px := by rw [HPx.out]; have := HKr.out.zlt; omega
        rw [← hw3]
        have HK3 := Lib.hid hK3
        have HPx3 := Lib.hid hpx3
        have q4 : w3.cell? ⟨px, 4, none⟩ = some (.slice A2 l c2) := cell_of_row _ _ _ _ _ _ hpx3
        have q4f : w3.frozen? ⟨px, 4, none⟩ = false := by simp [World.frozen?, hpx3]
        obtain ⟨r2, hr2⟩ : ∃ r2, r2 = rs.take 40 := ⟨_, rfl⟩
        obtain ⟨M, hM⟩ : ∃ M, M = r2.length := ⟨_, rfl⟩
        have hMl : M = min 40 l := by rw [hM, hr2, HL.out]; simp
        have hM40 : M ≤ 40 := by omega
        have HMl := Lib.hid hMl
        have HM := Lib.hid hM
        have HR2 : Hid (RunsAt W A2 r2) := Lib.hid (by rw [hr2]; exact HRs.out.take 40)
        have HBd2 : Hid (∀ r ∈ r2, r.bud < 18446744073709551616 ∧ r.per < 18446744073709551616) := Lib.hid (fun r hr => HBd.out r (by rw [hr2] at hr; exact List.mem_of_mem_take hr))
        have HA2 : Hid (40 < l → ∃ b2 o2, A2 = some ⟨b2, o2, none⟩) := Lib.hid (fun h => by obtain ⟨b2, o2, h1, _⟩ := HRs.out (by rw [← HL.out]; omega); exact ⟨b2, o2, h1⟩)
        have HMc : Hid (M ≤ c2) := Lib.hid (by omega)
        clear hk3 hpx3 hK3 hw3 hr2 hM hMl f0 f1 f2 f3 f4
        go_upto_if 35 with fail
        go_cut [] from 36 to 41 (fun wx => Hid (wx.heap[px]? = some (.cells #[.int .u64 mj, .int .i64 lp, .int .u64 cpu, .bool nd, .slice A2 M c2] 64 (0, 0))) ∧ Hid (KSt W wx Z g (2 * i)))
        case first =>
          by_cases h40 : 40 < l
          · obtain ⟨b2, o2, hA2⟩ := HA2.out h40
            subst hA2
            have h40i : (40 : Int) < l := by omega
            have h40c : (40 : Int) ≤ c2 := by omega
            have hKw : Keep (fun k => k = px) w3 (w3.setCell ⟨px, 4, none⟩ (.slice (some ⟨b2, o2, none⟩) 40 c2)) := (Keep.refl (fun k => k = px) w3).setCell (fun _ => rfl) _
            have hty : tyAt w3 px = some 64 := by unfold tyAt; rw [HPx3.out]
            have HFin2 : Hid (KSt W (w3.setCell ⟨px, 4, none⟩ (.slice (some ⟨b2, o2, none⟩) 40 c2)) Z g (2 * i)) := HK3.out.keepTy hKw (fun k e _ => by subst e; rw [hty]; simp; exact hgpx) (HK3.out.blk.keep hKw (fun e => by rw [← e, HK3.out.blk.ty] at hty; simp at hty))
            have hMe : M = 40 := by have := HMl.out; omega
            have HFin1 : Hid ((w3.setCell ⟨px, 4, none⟩ (.slice (some ⟨b2, o2, none⟩) 40 c2)).heap[px]? = some (.cells #[.int .u64 mj, .int .i64 lp, .int .u64 cpu, .bool nd, .slice (some ⟨b2, o2, none⟩) M c2] 64 (0, 0))) := by
              rw [hMe]
              exact Lib.hid (by simp [World.setCell, Array.getElem?_modify, HPx3.out])
            clear hKw hty hMe
            go_wp2_with fail
            go_meet
            exact ⟨HFin1, HFin2⟩
          · have h40i : ¬ (40 : Int) < l := by omega
            have hMeq : M = l := by have := HMl.out; omega
            have HFin : Hid (w3.heap[px]? = some (.cells #[.int .u64 mj, .int .i64 lp, .int .u64 cpu, .bool nd, .slice A2 M c2] 64 (0, 0))) := Lib.hid (by rw [hMeq]; exact HPx3.out)
            clear hMeq
            go_wp2_with fail
            go_meet
            exact ⟨HFin, HK3⟩
        case rest =>
          clear q4 q4f HK3 HPx3
          obtain ⟨HPx4, HK4⟩ := hcut
          obtain ⟨wy, hwy⟩ : ∃ wy : World, wy = wc := ⟨_, rfl⟩
          have p0 : wc.cell? ⟨px, 0, none⟩ = some (.int .u64 mj) := cell_of_row _ _ _ _ _ _ HPx4.out
          have p1 : wc.cell? ⟨px, 1, none⟩ = some (.int .i64 lp) := cell_of_row _ _ _ _ _ _ HPx4.out
          have p2 : wc.cell? ⟨px, 2, none⟩ = some (.int .u64 cpu) := cell_of_row _ _ _ _ _ _ HPx4.out
          have p3 : wc.cell? ⟨px, 3, none⟩ = some (.bool nd) := cell_of_row _ _ _ _ _ _ HPx4.out
          have p4 : wc.cell? ⟨px, 4, none⟩ = some (.slice A2 M c2) := cell_of_row _ _ _ _ _ _ HPx4.out
          obtain ⟨py, hpy⟩ : ∃ py, py = wc.heap.size := ⟨_, rfl⟩
          have HPyE := Lib.hid hpy
          clear hpy hwy
          go_upto_region 10 with fail
          rw [← HPyE.out]
          obtain ⟨w5, hw5⟩ : ∃ w5, w5 = wc.alloc (.cells #[.int .i64 lp, .int .u64 cpu, .bool nd, .slice A2 M c2] 31) := ⟨_, rfl⟩
          have hk5 : Keep (fun _ => False) wc w5 := by rw [hw5]; exact (Keep.refl _ wc).alloc _
          have hpy5 : w5.heap[py]? = some (.cells #[.int .i64 lp, .int .u64 cpu, .bool nd, .slice A2 M c2] 31 (0, 0)) := by rw [hw5, HPyE.out]; exact heap_alloc_new _ _
          have hgpy : Z ≤ py := by rw [HPyE.out]; have := HK4.out.zlt; omega
          have hpx5 : w5.heap[px]? = some (.cells #[.int .u64 mj, .int .i64 lp, .int .u64 cpu, .bool nd, .slice A2 M c2] 64 (0, 0)) := (hk5.block px (Array.getElem?_eq_some_iff.1 HPx4.out).1 (fun h => h)).trans HPx4.out
          have hK5 := HK4.out.keepF hk5
          rw [← hw5]
          have HK5 := Lib.hid hK5
          have HPx5 := Lib.hid hpx5
          have HPy5 := Lib.hid hpy5
          clear p0 p1 p2 p3 p4 hk5 hpy5 hpx5 hK5 hw5 HK4 HPx4
          go_wp2_with fail
          go_loopg [8] 2 (fun q x wr0 => ∃ (k : Nat) (wr : World) (A3 : Option Addr) (m3 c3 : Nat), wr = wr0 ∧ q + k = 2 ∧ x = .int .i64 k ∧ Hid (wr.heap[px]? = some (.cells #[.int .u64 mj, .int .i64 lp, .int .u64 cpu, .bool nd, .slice A2 M c2] 64 (0, 0))) ∧ Hid (wr.heap[py]? = some (.cells #[.int .i64 lp, .int .u64 cpu, .bool nd, .slice A3 m3 c3] 31 (0, 0))) ∧ Hid (KSt W wr Z g (2 * i + k)))
          case atStart => exact ⟨0, _, _, _, _, rfl, rfl, rfl, HPx5, HPy5, HK5⟩
          case round =>
            clear HK5 HPx5 HPy5 HKr
            obtain ⟨k, wr, A3, m3, c3, rfl, hqk, rfl, HPx6, HPy6, HK6⟩ := hrel
            have HQk := Lib.hid hqk
            have hk2 : k ≤ 2 := by omega
            clear hqk
            by_cases hk : k < 2
            · have hki : (k : Int) < 2 := by omega
              have p4 : wr.cell? ⟨px, 4, none⟩ = some (.slice A2 M c2) := cell_of_row _ _ _ _ _ _ HPx6.out
              obtain ⟨cur, hcur, hcs⟩ := HK6.out.blk
              have hR6 : RunsAt wr A2 r2 := HR2.out.below HK6.out.bel (by rw [HZ2.out]; exact Nat.le_refl _)
              have HCur := Lib.hid hcur
              have HCs := Lib.hid hcs
              have HR6 := Lib.hid hR6
              have hcl := rowOfRun_length r2
              rw [← HM.out] at hcl
              have HCl := Lib.hid hcl
              clear hcur hcs hR6 hcl
              go_wp2_with (with_reducible refine wpList_copy_all rfl (.tmp 48) (.tmp 51) 29 29 rfl 28 4 Try.underlying29 HSZ.out g 40 40 A2 M c2 rfl rfl cur 28 HCur.out (rowOfRun r2) (by omega) HCl.out ?h4 ?h5 (rowOfRun_one _) ?_)
              case h4 => intro h0; exact HR6.out.list (by rw [← HM.out]; exact h0)
              case h5 => rw [HCl.out, HCs.out]; omega
              intro w7 hcur7 hgr7 hsz7
              have hk7 : Keep (fun k => k = g) wr w7 := Keep.of_grown hgr7 (fun k h => by injection h with h; exact h.symm)
              have htg : tyAt wr g = some 28 := HK6.out.blk.ty
              have hblk7 : BlkRun w7 g 160 := ⟨_, hcur7, by simp [HCl.out, HCs.out]; omega⟩
              have hrow7 : RunRow w7 g r2 := RunRow.of_block hcur7
              have hK7 : KSt W w7 Z g (2 * i + k) := HK6.out.keepTy hk7 (fun k e _ => by subst e; rw [htg]; simp; exact hgZ) hblk7
              have hpx7 : w7.heap[px]? = some (.cells #[.int .u64 mj, .int .i64 lp, .int .u64 cpu, .bool nd, .slice A2 M c2] 64 (0, 0)) := heap_ty hk7 HPx6.out (fun k e => by subst e; rw [htg]; simp)
              have hpy7 : w7.heap[py]? = some (.cells #[.int .i64 lp, .int .u64 cpu, .bool nd, .slice A3 m3 c3] 31 (0, 0)) := heap_ty hk7 HPy6.out (fun k e => by subst e; rw [htg]; simp)
              clear p4
              have p4 : w7.cell? ⟨px, 4, none⟩ = some (.slice A2 M c2) := cell_of_row _ _ _ _ _ _ hpx7
              have y3 : w7.cell? ⟨py, 3, none⟩ = some (.slice A3 m3 c3) := cell_of_row _ _ _ _ _ _ hpy7
              have y3f : w7.frozen? ⟨py, 3, none⟩ = false := by simp [World.frozen?, hpy7]
              have hk8 : Keep (fun k => k = py) w7 (w7.setCell ⟨py, 3, none⟩ (.slice (some ⟨g, 0, none⟩) M 40)) := (Keep.refl (fun k => k = py) w7).setCell (fun _ => rfl) _
              have htp : tyAt w7 py = some 31 := by unfold tyAt; rw [hpy7]
              have hgp : ¬ g = py := fun e => by rw [← e, hblk7.ty] at htp; simp at htp
              have hpy8 : (w7.setCell ⟨py, 3, none⟩ (.slice (some ⟨g, 0, none⟩) M 40)).heap[py]? = some (.cells #[.int .i64 lp, .int .u64 cpu, .bool nd, .slice (some ⟨g, 0, none⟩) M 40] 31 (0, 0)) := by simp [World.setCell, Array.getElem?_modify, hpy7]
              obtain ⟨w8, hw8⟩ : ∃ w8, w8 = w7.setCell ⟨py, 3, none⟩ (.slice (some ⟨g, 0, none⟩) M 40) := ⟨_, rfl⟩
              rw [← hw8] at hk8 hpy8
              have hpx8 : w8.heap[px]? = some (.cells #[.int .u64 mj, .int .i64 lp, .int .u64 cpu, .bool nd, .slice A2 M c2] 64 (0, 0)) := heap_ty hk8 hpx7 (fun k e => by subst e; rw [htp]; simp)
              have hblk8 : BlkRun w8 g 160 := hblk7.keep hk8 hgp
              have hK8 : KSt W w8 Z g (2 * i + k) := hK7.keepTy hk8 (fun k e _ => by subst e; rw [htp]; simp; exact hgpy) hblk8
              have hrow8 : RunRow w8 g r2 := hrow7.keep (fun j => hk8.cell (p := ⟨g, j, none⟩) hblk7.lt hgp)
              have hfl := flat_any mj nd (some ⟨g, 0, none⟩) 40 r2 lp cpu w8 k4 HBd2.out (by rw [← HM.out]; omega) (hrow8.at_ hblk8.lt)
              rw [← HM.out] at hfl
              obtain ⟨R1, R2, R3, hR3⟩ : ∃ R1 R2 R3, Ln.flatAny mj nd r2 = (R1, R2, R3) := ⟨_, _, _, rfl⟩
              have hr1 : R1.length ≤ 4096 := by have h := Ln.flatAny_len mj nd r2; rw [hR3] at h; exact h
              rw [hR3] at hfl
              have x0 : w8.cell? ⟨px, 0, none⟩ = some (.int .u64 mj) := cell_of_row _ _ _ _ _ _ hpx8
              have y0 : w8.cell? ⟨py, 0, none⟩ = some (.int .i64 lp) := cell_of_row _ _ _ _ _ _ hpy8
              have y1 : w8.cell? ⟨py, 1, none⟩ = some (.int .u64 cpu) := cell_of_row _ _ _ _ _ _ hpy8
              have y2 : w8.cell? ⟨py, 2, none⟩ = some (.bool nd) := cell_of_row _ _ _ _ _ _ hpy8
              have y8 : w8.cell? ⟨py, 3, none⟩ = some (.slice (some ⟨g, 0, none⟩) M 40) := cell_of_row _ _ _ _ _ _ hpy8
              have HFl := Lib.hid hfl
              have HK8 := Lib.hid hK8
              have HPx8 := Lib.hid hpx8
              have HPy8 := Lib.hid hpy8
              have HRes := Lib.hid hR3
              have hMi : (M : Int) ≤ 40 := by omega
              have HW8 := Lib.hid hw8
              clear hk7 htg hblk7 hrow7 hK7 hpx7 hpy7 hk8 htp hgp hpy8 hpx8 hblk8 hK8 hrow8 hfl hR3 hcur7 hgr7 hsz7 hw8
              go_upto_region 15 with fail
              rw [← HW8.out]
              clear p4 y3 y3f
              go_wp2_with fail
              refine HFl.out.mono ?_
              rintro e w9 ⟨v1, rfl, hown9, hb9⟩
              simp only at hown9
              obtain ⟨A9, e9, rfl⟩ := own_form hown9
              have hk9 : Keep (fun _ => False) w8 w9 := Keep.of_below hb9 (fun i hi h => by omega)
              have HK9 := Lib.hid (HK8.out.keepF hk9)
              have HPx9 := Lib.hid (heap_ty hk9 HPx8.out (fun k e => e.elim))
              have HPy9 := Lib.hid (heap_ty hk9 HPy8.out (fun k e => e.elim))
              have HOwn9 := Lib.hid hown9
              have HKp9 := Lib.hid hk9
              clear x0 y0 y1 y2 y8 hown9 hk9 hb9
              go_wp2_with fail
              go_loopg [12] 40 (fun q x wq0 => ∃ (j : Nat) (wq : World), wq = wq0 ∧ q + j = 40 ∧ x = .int .i64 j ∧ Hid (Keep (fun k => k = g) w9 wq) ∧ Hid (BlkRun wq g 160))
              case atStart => exact ⟨0, _, rfl, rfl, rfl, Lib.hid (Keep.refl _ _), HK9.out.blk⟩
              case round =>
                obtain ⟨j, wq, rfl, hqj, rfl, HKq, HBq⟩ := hrel
                have HQj := Lib.hid hqj
                have hj40 : j ≤ 40 := by omega
                clear hqj
                by_cases hj : j < 40
                · have hji : (j : Int) < 40 := by omega
                  have hj0 : (0 : Int) ≤ j := by omega
                  obtain ⟨⟨v0, q0⟩, f0⟩ := HBq.out.cell (j := j * 4 + 0) (by omega)
                  obtain ⟨⟨v1, q1⟩, f1⟩ := HBq.out.cell (j := j * 4 + 1) (by omega)
                  obtain ⟨⟨v2, q2⟩, f2⟩ := HBq.out.cell (j := j * 4 + 2) (by omega)
                  obtain ⟨⟨v3, q3⟩, f3⟩ := HBq.out.cell (j := j * 4 + 3) (by omega)
                  rw [Nat.add_zero] at q0 f0
                  have HBs : Hid (∀ (w4 : World) (p : Addr) u, Hid (BlkRun w4 g 160) → BlkRun (w4.setCell p u) g 160) := Lib.hid fun w4 p u h => h.out.setCell p u
                  have HKs : Hid (∀ (w4 : World) y u, Hid (Keep (fun k => k = g) w9 w4) → Keep (fun k => k = g) w9 (w4.setCell ⟨g, y, none⟩ u)) := Lib.hid fun w4 y u h => h.out.setCell (fun _ => rfl) _
                  go_wp2_with fail
                  go_roundg (40 - (j + 1))
                  all_goals first
                    | (have := HQj.out; omega)
                    | exact ⟨j + 1, _, rfl, by have := HQj.out; omega, by go_num, Lib.hid (HKs.out _ _ _ (Lib.hid (HKs.out _ _ _ (Lib.hid (HKs.out _ _ _ (Lib.hid (HKs.out _ _ _ HKq))))))), Lib.hid (HBs.out _ _ _ (Lib.hid (HBs.out _ _ _ (Lib.hid (HBs.out _ _ _ (Lib.hid (HBs.out _ _ _ HBq)))))))⟩
                · have hji : ¬ (j : Int) < 40 := by omega
                  have htg9 : tyAt w9 g = some 28 := HK9.out.blk.ty
                  have hKq : KSt W wq Z g (2 * i + k) := HK9.out.keepTy HKq.out (fun k e _ => by subst e; rw [htg9]; simp; exact hgZ) HBq.out
                  have hpxq : wq.heap[px]? = some (.cells #[.int .u64 mj, .int .i64 lp, .int .u64 cpu, .bool nd, .slice A2 M c2] 64 (0, 0)) := heap_ty HKq.out HPx9.out (fun k e => by subst e; rw [htg9]; simp)
                  have hpyq := heap_ty HKq.out HPy9.out (fun k e => by subst e; rw [htg9]; simp)
                  have hownq : wq.ownsRow w8.heap.size 33 3 (.slice A9 R1.length e9) R1.length (slotCells R1) := own_keep HOwn9.out HKq.out (fun k hk e => by have := (own_ty HOwn9.out hk).1; rw [e, htg9] at this; simp at this)
                  have hRq : RunsAt wq A2 r2 := HR2.out.below hKq.bel (by rw [HZ2.out]; exact Nat.le_refl _)
                  have hfl := flatR_any mj nd A2 c2 r2 lp cpu wq k4 HBd2.out (by rw [← HM.out]; omega) hRq
                  rw [← HM.out, HRes.out] at hfl
                  have HFl2 := Lib.hid hfl
                  have HKq2 := Lib.hid hKq
                  have HPxq := Lib.hid hpxq
                  have HPyq := Lib.hid hpyq
                  have HOwnq := Lib.hid hownq
                  have x0 : wq.cell? ⟨px, 0, none⟩ = some (.int .u64 mj) := cell_of_row _ _ _ _ _ _ hpxq
                  have x1 : wq.cell? ⟨px, 1, none⟩ = some (.int .i64 lp) := cell_of_row _ _ _ _ _ _ hpxq
                  have x2 : wq.cell? ⟨px, 2, none⟩ = some (.int .u64 cpu) := cell_of_row _ _ _ _ _ _ hpxq
                  have x3 : wq.cell? ⟨px, 3, none⟩ = some (.bool nd) := cell_of_row _ _ _ _ _ _ hpxq
                  have x4 : wq.cell? ⟨px, 4, none⟩ = some (.slice A2 M c2) := cell_of_row _ _ _ _ _ _ hpxq
                  have HS8 : Hid (∀ k, k = g → k < w8.heap.size → tyAt w8 k ≠ some 62 ∧ tyAt w8 k ≠ some 22 ∧ tyAt w8 k ≠ some 33) := Lib.hid (fun k e _ => by subst e; rw [HK8.out.blk.ty]; simp)
                  have HK8q := Lib.hid ((HKp9.out.mono (T := fun k => k = g) (fun _ _ h => h.elim)).trans HKq.out (fun _ _ h => h))
                  clear htg9 hKq hpxq hpyq hownq hRq hfl HPx9 HPy9 HOwn9 HKq HBq HK9
                  go_wp2_with fail
                  refine HFl2.out.mono ?_
                  rintro e w11 ⟨v2, rfl, hown11, hb11⟩
                  simp only at hown11
                  obtain ⟨A11, e11, rfl⟩ := own_form hown11
                  have hk11 : Keep (fun _ => False) wq w11 := Keep.of_below hb11 (fun i hi h => by omega)
                  have hown9b : w11.ownsRow w8.heap.size 33 3 (.slice A9 R1.length e9) R1.length (slotCells R1) := own_keep HOwnq.out hk11 (fun _ _ h => h)
                  have HOwn9b := Lib.hid hown9b
                  have HOwn11 := Lib.hid hown11
                  have HK11 := Lib.hid (HKq2.out.keepF hk11)
                  have HPx11 := Lib.hid (heap_ty hk11 HPxq.out (fun k e => e.elim))
                  have HPy11 := Lib.hid (heap_ty hk11 HPyq.out (fun k e => e.elim))
                  have HK8b := Lib.hid (HK8q.out.trans (hk11.mono (T := fun k => k = g) (fun _ _ h => h.elim)) (fun _ _ h => h))
                  clear x0 x1 x2 x3 x4 hown11 hk11 hown9b hb11 HPxq HPyq HOwnq HKq2
                  go_wp2_with fail
                  refine (sameSlot_any A9 A11 e9 e11 R1 w11 (by omega) (slotsAt_form rfl HOwn9b.out) (slotsAt_form rfl HOwn11.out)).mono ?_
                  rintro e w12 ⟨rfl, nn, hw12⟩
                  have hk12 : Keep (fun _ => False) w11 w12 := by rw [hw12]; exact (Keep.refl _ _).drewN _
                  have HK12 := Lib.hid (HK11.out.keepF hk12)
                  have HPx12 := Lib.hid (heap_ty hk12 HPx11.out (fun k e => e.elim))
                  have HPy12 := Lib.hid (heap_ty hk12 HPy11.out (fun k e => e.elim))
                  have HOwn12 := Lib.hid (own_keep HOwn9b.out hk12 (fun _ _ h => h))
                  have HK8c := Lib.hid (HK8b.out.trans (hk12.mono (T := fun k => k = g) (fun _ _ h => h.elim)) (fun _ _ h => h))
                  have HKeep := Lib.hid (HK12.out.kept (by omega) A9 R1.length e9 0 R1 rfl (by omega) w8 HK8.out HK8c.out HS8.out HOwn12.out)
                  clear hw12 hk12 HK11 HPx11 HPy11 HOwn9b HOwn11
                  go_wp2_with fail
                  refine HKeep.out.mono ?_
                  rintro e w13 ⟨rfl, hK13, hkk13⟩
                  have HK13 := Lib.hid hK13
                  have HPx13 := Lib.hid (heap_ty hkk13 HPx12.out (fun k e h => by rw [h] at e; simp at e))
                  have HPy13 := Lib.hid (heap_ty hkk13 HPy12.out (fun k e h => by rw [h] at e; simp at e))
                  clear hK13 hkk13
                  go_wp2_with fail
                  go_roundg (2 - (k + 1))
                  all_goals first
                    | (have := HQk.out; omega)
                    | exact ⟨k + 1, _, _, _, _, rfl, by have := HQk.out; omega, by go_num, HPx13, HPy13, HK13⟩
            · have hki : ¬ (k : Int) < 2 := by omega
              have hke : k = 2 := by omega
              have HFin : Hid (KSt W wr Z g (2 * (i + 1))) := by rw [hke] at HK6; exact HK6
              clear hke
              go_wp2_with fail
              go_roundg (20 - (i + 1))
              all_goals first
                | (have := HQ.out; omega)
                | exact ⟨i + 1, _, rfl, by have := HQ.out; omega, by go_num, HFin⟩
      · have hii : (i : Int) < n := by omega
        have hi3 : ¬ (i : Int) < 20 := by omega
        go_wp2_with fail
        refine (HKr.out.apart (by omega)).mono ?_
        rintro e w3 ⟨rfl, hb3⟩
        have HB3 := Lib.hid (HKr.out.bel.trans hb3)
        clear hb3
        go_wp2_with fail
        refine (known_any w3).mono ?_
        rintro e w4 ⟨rfl, hb4⟩
        have HB4 := Lib.hid (HB3.out.trans (hb4.mono (by rw [← HZ2.out]; exact HB3.out.size)))
        clear hb4
        go_wp2
        go_ret
        exact ⟨rfl, by rw [HZ2.out]; exact HB4.out⟩
    · have hii : ¬ (i : Int) < n := by omega
      go_wp2_with fail
      refine (HKr.out.apart (by omega)).mono ?_
      rintro e w3 ⟨rfl, hb3⟩
      have HB3 := Lib.hid (HKr.out.bel.trans hb3)
      clear hb3
      go_wp2_with fail
      refine (known_any w3).mono ?_
      rintro e w4 ⟨rfl, hb4⟩
      have HB4 := Lib.hid (HB3.out.trans (hb4.mono (by rw [← HZ2.out]; exact HB3.out.size)))
      clear hb4
      go_wp2
      go_ret
      exact ⟨rfl, by rw [HZ2.out]; exact HB4.out⟩
end Go.Proofs.Ytgilejknjdbneaa
