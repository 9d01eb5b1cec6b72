/- The book of slots: lists of list headers in memory of the book's own; mark, Stays. -/
import Derived.Test.YtgilejknjdbneaaH7
import Derived.ArgAppend
import Derived.Deep.AppendLies
import Derived.Test.YtgilejknjdbneaaBkSlot
import Derived.Test.YtgilejknjdbneaaV1
import Derived.Deep.LoopGhost
import Derived.Deep.CutRange
import Derived.Deep.RegionHeld3
namespace Go.Proofs.Ytgilejknjdbneaa
open Go.RowKit Go.IntWalk

/-- Elements of one cell each, in a block of the call's own, from some place of it on. -/
def OwnsOff (w : World) (base : Nat) (e : TypeId) (v : Value) (n : Nat) (xs : List Value) : Prop :=
  xs.length = n ∧ ((v = .slice none 0 0 ∧ n = 0) ∨
    ∃ g o cap cur, v = .slice (some ⟨g, o, none⟩) n cap ∧ base ≤ g ∧ w.heap[g]? = some (.cells cur e (0, 0)) ∧ n ≤ cap ∧ cap ≤ maxLen ∧ o + cap ≤ cur.size ∧ ∀ j u, xs[j]? = some u → cur[o + j]? = some u)
namespace OwnsOff
variable {w w' : World} {base : Nat} {e : TypeId} {v : Value} {n : Nat} {xs : List Value}
theorem nil (w : World) (base : Nat) (e : TypeId) : OwnsOff w base e (.slice none 0 0) 0 [] := ⟨rfl, .inl ⟨rfl, rfl⟩⟩
theorem of_row (h : w.ownsRow base e 1 v n xs) : OwnsOff w base e v n xs := by
  refine ⟨by have := h.1; omega, ?_⟩
  rcases h.2 with h1 | ⟨g, cap, cur, hv, hb, hg, hn, hm, hs, ht⟩
  · exact .inl h1
  · refine .inr ⟨g, 0, cap, cur, hv, hb, hg, hn, hm, by omega, fun j u hj => ?_⟩
    rw [Nat.zero_add]
    have hjn : j < n := by have := (List.getElem?_eq_some_iff.1 hj).1; have := h.1; omega
    rw [← ht, List.getElem?_take_of_lt (by omega)] at hj
    simpa using hj
theorem lt (h : OwnsOff w base e v n xs) : ∀ k, v.ownBlock = some k → base ≤ k ∧ k < w.heap.size ∧ tyAt w k = some e := by
  intro k hk
  rcases h.2 with ⟨rfl, _⟩ | ⟨g, o, cap, cur, rfl, hb, hg, _⟩
  · simp [Value.ownBlock] at hk
  · have : g = k := by simpa [Value.ownBlock] using hk
    subst this
    exact ⟨hb, (Array.getElem?_eq_some_iff.1 hg).1, by unfold tyAt; rw [hg]⟩
theorem keep {S : Nat → Prop} (h : OwnsOff w base e v n xs) (hk : Keep S w w') (hS : ∀ k, v.ownBlock = some k → ¬ S k) : OwnsOff w' base e v n xs := by
  refine ⟨h.1, ?_⟩
  rcases h.2 with h1 | ⟨g, o, cap, cur, rfl, hb, hg, h3⟩
  · exact .inl h1
  · exact .inr ⟨g, o, cap, cur, rfl, hb, by rw [hk.block g (Array.getElem?_eq_some_iff.1 hg).1 (hS g rfl)]; exact hg, h3⟩
theorem cell (h : OwnsOff w base e v n xs) {j : Nat} {u : Value} (hj : xs[j]? = some u) : ∃ g o cap, v = .slice (some ⟨g, o, none⟩) n cap ∧ g < w.heap.size ∧ w.cell? ⟨g, o + j, none⟩ = some u := by
  have hjn : j < n := by have := (List.getElem?_eq_some_iff.1 hj).1; have := h.1; omega
  rcases h.2 with ⟨_, h0⟩ | ⟨g, o, cap, cur, rfl, hb, hg, h3, h4, h5, h6⟩
  · omega
  · exact ⟨g, o, cap, rfl, (Array.getElem?_eq_some_iff.1 hg).1, by rw [cell_of_row w g (o + j) cur _ _ hg]; exact h6 j u hj⟩
theorem form (h : OwnsOff w base e v n xs) : ∃ A cap, v = .slice A n cap := by
  rcases h.2 with ⟨rfl, rfl⟩ | ⟨g, o, cap, cur, rfl, _⟩
  · exact ⟨_, _, rfl⟩
  · exact ⟨_, _, rfl⟩
/-- The first is let go. -/
theorem tail {u : Value} {g o n cap : Nat} (h : OwnsOff w base e (.slice (some ⟨g, o, none⟩) (n + 1) cap) (n + 1) (u :: xs)) : OwnsOff w base e (.slice (some ⟨g, o + 1, none⟩) n (cap - 1)) n xs := by
  refine ⟨by have := h.1; simp at this; exact this, .inr ?_⟩
  rcases h.2 with ⟨h1, _⟩ | ⟨g', o', cap', cur, hv, hb, hg, h3, h4, h5, h6⟩
  · simp at h1
  · simp only [Value.slice.injEq, Option.some.injEq, Addr.mk.injEq, and_true, true_and] at hv
    obtain ⟨⟨rfl, rfl⟩, rfl⟩ := hv
    refine ⟨g, o + 1, cap - 1, cur, rfl, hb, hg, by omega, by omega, by omega, fun j x hj => ?_⟩
    have := h6 (j + 1) x (by simpa using hj)
    rw [show o + 1 + j = o + (j + 1) by omega]; exact this
end OwnsOff

section
variable {P : Program}
/-- append of one more. -/
theorem run_append_off (w : World) (base : Nat) (t ty e : TypeId) (i : TypeInfo) (z : Value) (bytes : Nat) (ht : P.underlying t = some (.slice e)) (hi : P.info? e = some i) (hz : i.zero = some z)
    (hsize : i.size = 1) (hby : i.bytes = bytes) (hzs : z.cells.size = 1)
    (v : Value) (n : Nat) (xs : List Value) (hown : OwnsOff w base e v n xs)
    (a : Addr) (c : Nat) (u : Value) (hu : w.cell? (a.add 0) = some u) (h1 : u.oneCell' = true)
    (h63 : n + 1 ≤ maxLen) (hbytes : (n + 1) * bytes ≤ 140737488355328) (hbase : base ≤ w.heap.size) :
    ∃ v' w', (Builtin.append_ #[t, t] ty #[v, .slice (some a) 1 c]).run P w = .ok v' w' ∧ OwnsOff w' base e v' (n + 1) (xs ++ [u]) ∧ w.grownBy w' v.ownBlock ∧ (v'.ownBlock = v.ownBlock ∨ ∃ k, v'.ownBlock = some k ∧ w.heap.size ≤ k) := by
  have hnews : ∀ j x, [u][j]? = some x → w.cell? (a.add j) = some x := fun j x hj => by
    cases j with
    | zero => simp at hj; rw [← hj]; exact hu
    | succ j => simp at hj
  have hone : ∀ x ∈ [u], x.oneCell' = true := fun x hx => by simp at hx; rw [hx]; exact h1
  rcases hown.2 with ⟨rfl, rfl⟩ | ⟨g, o, cap, cur, rfl, hb, hg, hn, hm, hoc, hcur⟩
  · have hx : xs = [] := List.eq_nil_of_length_eq_zero hown.1
    subst hx
    obtain ⟨g, cap, w', hr, ho, hgr, hat, _⟩ := run_append_lies (P := P) w t ty base e i z 1 bytes ht hi hz hsize hby hzs (by omega) (.slice none 0 0) 0 [] (World.ownsRow_nil _ _ _ _) a 1 c [u] rfl hnews hone (by omega) h63 hbytes hbase w.heap.size rfl
    rcases hat with h | h
    · simp [Value.ownBlock] at h
    · exact ⟨_, w', hr, OwnsOff.of_row ho, hgr, .inr ⟨g, rfl, by omega⟩⟩
  · have holds : ∀ j x, xs[j]? = some x → w.cell? ((⟨g, o, none⟩ : Addr).add j) = some x := fun j x hj => by
      have hadd : (⟨g, o, none⟩ : Addr).add j = ⟨g, o + j, none⟩ := by unfold Addr.add; split <;> simp_all
      rw [hadd, cell_of_row w g (o + j) cur _ _ hg]
      exact hcur j x hj
    by_cases hroom : n + 1 ≤ cap
    · have hlt : o + n < cur.size := by omega
      have hc0 : w.cell? ⟨g, o + n, none⟩ = some cur[o + n] := by rw [cell_of_row w g (o + n) cur _ _ hg]; exact Array.getElem?_eq_getElem hlt
      have hr := run_append_room_cells (P := P) w t ty e i ht hi g o n cap a 1 c [u] (by rw [hsize]; rfl) hnews hone hroom (fun j hj => by
          have : j = 0 := by simp at hj; exact hj
          subst this
          rw [hsize, Nat.mul_one, Nat.add_zero, hc0]; rfl) (fun j hj => by simp [World.frozen?, hg])
      rw [hsize, Nat.mul_one] at hr
      have hset : w.setCells g (o + n) [u] = w.setCell ⟨g, o + n, none⟩ u := rfl
      rw [hset] at hr
      have hh : (w.setCell ⟨g, o + n, none⟩ u).heap[g]? = some (.cells (cur.set (o + n) u hlt) e (0, 0)) := by
        simp [World.setCell, Array.getElem?_modify, hg, Array.setIfInBounds, hlt]
      refine ⟨_, _, hr, ⟨by rw [List.length_append, hown.1]; rfl, .inr ⟨g, o, cap, _, rfl, hb, hh, hroom, hm, by simpa using hoc, fun j x hj => ?_⟩⟩, ⟨rfl, rfl, rfl, by simp [World.setCell], fun k hk hne => Below.heap_setCell w _ u k (by simp [Value.ownBlock] at hne; simp only; exact fun e => hne e)⟩, .inl rfl⟩
      rw [Array.getElem?_set]
      rcases Nat.lt_or_ge j n with h | h
      · rw [if_neg (by omega)]
        rw [List.getElem?_append_left (by rw [hown.1]; exact h)] at hj
        exact hcur j x hj
      · have hjn : j = n := by
          have := (List.getElem?_eq_some_iff.1 hj).1
          rw [List.length_append, hown.1] at this
          simp at this
          omega
        subst hjn
        rw [List.getElem?_append_right (by rw [hown.1]; exact Nat.le_refl _), hown.1, Nat.sub_self] at hj
        rw [if_pos rfl]
        simpa using hj
    · obtain ⟨v', w', hr, ho, hgr⟩ := run_append_arg_grows (P := P) w t ty e i z 1 bytes ht hi hz hsize hby hzs (by omega) ⟨g, o, none⟩ n cap xs (by rw [hown.1, Nat.mul_one]) holds a 1 c [u] rfl hnews (by omega) h63 hbytes
      obtain ⟨g', cap', hv, hg', _⟩ := ho.form (by omega)
      refine ⟨v', w', hr, ?_, ⟨hgr.os, hgr.tape, hgr.output, hgr.size, fun k hk _ => hgr.block k hk (by simp)⟩, .inr ⟨g', by rw [hv]; rfl, hg'⟩⟩
      have := OwnsOff.of_row ho
      refine ⟨this.1, ?_⟩
      rcases this.2 with h | ⟨g2, o2, cap2, cur2, h1, h2, h3⟩
      · exact .inl h
      · exact .inr ⟨g2, o2, cap2, cur2, h1, by omega, h3⟩
/-- At the operation. -/
theorem wp_append_off (w : World) {o : Oper} {a : Act} {K : Act → World → Prop} {Q : Exit → Act → World → Prop} (s x : Operand) (t : TypeId)
    (ho : o.op = .call { callee := .builtin .append, args := #[s, x], argTypes := #[t, t] })
    (base : Nat) (e : TypeId) (i : TypeInfo) (z : Value) (bytes : Nat) (ht : P.underlying t = some (.slice e)) (hi : P.info? e = some i) (hz : i.zero = some z)
    (hsize : i.size = 1) (hby : i.bytes = bytes) (hzs : z.cells.size = 1)
    (v : Value) (n : Nat) (xs : List Value) (hs : a.eval s = v) (hown : OwnsOff w base e v n xs)
    (ad : Addr) (c : Nat) (u : Value) (hx : a.eval x = .slice (some ad) 1 c) (hu : w.cell? (ad.add 0) = some u) (h1 : u.oneCell' = true)
    (h63 : n + 1 ≤ maxLen) (hbytes : (n + 1) * bytes ≤ 140737488355328) (hbase : base ≤ w.heap.size)
    (h : ∀ v' w', OwnsOff w' base e v' (n + 1) (xs ++ [u]) → w.grownBy w' v.ownBlock → (v'.ownBlock = v.ownBlock ∨ ∃ k, v'.ownBlock = some k ∧ w.heap.size ≤ k) → K (a.put o.dst v') w') : o.wp P a w K Q := by
  obtain ⟨v', w', hr, h2, h3, h4⟩ := run_append_off (P := P) w base t o.type e i z bytes ht hi hz hsize hby hzs v n xs hown ad c u hu h1 h63 hbytes hbase
  unfold Oper.wp execOp
  simp only [ho, resolve, invoke, builtin, Sem.run_bind, Sem.run_pure, Result.andThen_ok, List.map_toArray, List.map_cons, List.map_nil, hs, hx, hr]
  exact h v' w' h2 h3 h4
theorem wpList_append_off (w : World) {ops : Array Oper} {rest : List Oper} {o : Oper} {a : Act} {Q : Exit → Act → World → Prop} (hgd : o.guard = none) (s x : Operand) (t : TypeId)
    (ho : o.op = .call { callee := .builtin .append, args := #[s, x], argTypes := #[t, t] })
    (base : Nat) (e : TypeId) (i : TypeInfo) (z : Value) (bytes : Nat) (ht : P.underlying t = some (.slice e)) (hi : P.info? e = some i) (hz : i.zero = some z)
    (hsize : i.size = 1) (hby : i.bytes = bytes) (hzs : z.cells.size = 1)
    (v : Value) (n : Nat) (xs : List Value) (hs : a.eval s = v) (hown : OwnsOff w base e v n xs)
    (ad : Addr) (c : Nat) (u : Value) (hx : a.eval x = .slice (some ad) 1 c) (hu : w.cell? (ad.add 0) = some u) (h1 : u.oneCell' = true)
    (h63 : n + 1 ≤ maxLen) (hbytes : (n + 1) * bytes ≤ 140737488355328) (hbase : base ≤ w.heap.size)
    (h : ∀ v' w', OwnsOff w' base e v' (n + 1) (xs ++ [u]) → w.grownBy w' v.ownBlock → (v'.ownBlock = v.ownBlock ∨ ∃ k, v'.ownBlock = some k ∧ w.heap.size ≤ k) → wpList P ops Q rest (a.put o.dst v') w') : wpList P ops Q (o :: rest) a w :=
  wpList_plain hgd fun _ hK => wp_append_off w s x t ho base e i z bytes ht hi hz hsize hby hzs v n xs hs hown ad c u hx hu h1 h63 hbytes hbase fun v' w' h2 h3 h4 => hK _ _ (h v' w' h2 h3 h4)
theorem step_append_off (w : World) {ops : Array Oper} {o : Oper} {a : Act} {K : Act → World → Prop} {Q : Exit → Act → World → Prop} {E : Prop} (hgd : o.guard = none) (s x : Operand) (t : TypeId)
    (ho : o.op = .call { callee := .builtin .append, args := #[s, x], argTypes := #[t, t] })
    (base : Nat) (e : TypeId) (i : TypeInfo) (z : Value) (bytes : Nat) (ht : P.underlying t = some (.slice e)) (hi : P.info? e = some i) (hz : i.zero = some z)
    (hsize : i.size = 1) (hby : i.bytes = bytes) (hzs : z.cells.size = 1)
    (v : Value) (n : Nat) (xs : List Value) (hs : a.eval s = v) (hown : OwnsOff w base e v n xs)
    (ad : Addr) (c : Nat) (u : Value) (hx : a.eval x = .slice (some ad) 1 c) (hu : w.cell? (ad.add 0) = some u) (h1 : u.oneCell' = true)
    (h63 : n + 1 ≤ maxLen) (hbytes : (n + 1) * bytes ≤ 140737488355328) (hbase : base ≤ w.heap.size)
    (h : ∀ v' w', OwnsOff w' base e v' (n + 1) (xs ++ [u]) → w.grownBy w' v.ownBlock → (v'.ownBlock = v.ownBlock ∨ ∃ k, v'.ownBlock = some k ∧ w.heap.size ≤ k) → K (a.put o.dst v') w') :
    if Region.wanted o (yielded ops a.tmps) = true then Oper.wp P o a w K Q else E := by
  have hw : Region.wanted o (yielded ops a.tmps) = true := by simp [Region.wanted, hgd]
  rw [if_pos hw]
  exact wp_append_off w s x t ho base e i z bytes ht hi hz hsize hby hzs v n xs hs hown ad c u hx hu h1 h63 hbytes hbase h
end
end Go.Proofs.Ytgilejknjdbneaa

namespace Go.Proofs.Ytgilejknjdbneaa
open Go.RowKit Go.IntWalk

theorem mark_any (i j : Int) (w : World) (hi : 0 ≤ i ∧ i ≤ 1000000) :
    Calls Try.prog 34 #[.int .i64 i, .int .i64 j] w fun e w' => e = .returned (.agg #[.string ByteArray.empty, .int .i64 (-1 - i), .int .i64 0]) ∧ Below w.heap.size w w' := by
  go_enter Try.func34, Try.ntmps34
  go_wp2
  refine bodyPost_ret (results_cell_row rfl _ _ w.heap.size 33 #[.string ByteArray.empty, .int .i64 (-1 - i), .int .i64 0] (0, 0) _ rfl (heap_alloc_new _ _) Try.underlying33 rfl (by kernel_rfl)) rfl ?_
  exact ⟨rfl, (Below.refl _ _).alloc (Nat.le_refl _) _⟩

/-- A list that is kept, with its copy. -/
structure Kept where
  v : Value
  v2 : Value
  xs : List Slot

structure BookAt (w : World) (B pb : Nat) (vL vW : Value) (held : Int) (ks : List Kept) : Prop where
  var : w.heap[pb]? = some (.cells #[vL, vW, .int .i64 held, .bool false] 62 (0, 0))
  lists : OwnsOff w B 22 vL ks.length (ks.map Kept.v)
  was : OwnsOff w B 22 vW ks.length (ks.map Kept.v2)
  rows : ∀ k ∈ ks, w.ownsRow B 33 3 k.v k.xs.length (slotCells k.xs) ∧ w.ownsRow B 33 3 k.v2 k.xs.length (slotCells k.xs)
  lb : pb < B
  ap : ∀ k, vL.ownBlock = some k → vW.ownBlock ≠ some k
  far : ks.Pairwise fun a b => ∀ k, a.v.ownBlock = some k → b.v.ownBlock ≠ some k
namespace BookAt
variable {w w' : World} {B pb : Nat} {vL vW : Value} {held : Int} {ks : List Kept}
theorem size (h : BookAt w B pb vL vW held ks) : pb < w.heap.size := (Array.getElem?_eq_some_iff.1 h.var).1
/-- Only the book's own block, and new ones, have turned. -/
theorem onVar (h : BookAt w B pb vL vW held ks) (hk : Keep (fun k => k = pb) w w') {held' : Int} (hv : w'.heap[pb]? = some (.cells #[vL, vW, .int .i64 held', .bool false] 62 (0, 0))) : BookAt w' B pb vL vW held' ks := by
  have hb := h.lb
  refine ⟨hv, h.lists.keep hk (fun k hk' => by have := (h.lists.lt k hk').1; omega), h.was.keep hk (fun k hk' => by have := (h.was.lt k hk').1; omega), fun k hk' => ?_, hb, h.ap, h.far⟩
  obtain ⟨h1, h2⟩ := h.rows k hk'
  exact ⟨own_keep h1 hk (fun j hj => by have := (h1.lt j hj).1; omega), own_keep h2 hk (fun j hj => by have := (h2.lt j hj).1; omega)⟩
theorem keepN (h : BookAt w B pb vL vW held ks) (hk : Keep (fun _ => False) w w') : BookAt w' B pb vL vW held ks :=
  h.onVar (hk.mono (fun _ _ h => h.elim)) ((hk.block pb h.size (by simp)).trans h.var)
theorem setBad (h : BookAt w B pb vL vW held ks) : BookAt (w.setCell ⟨pb, 3, none⟩ (.bool false)) B pb vL vW held ks :=
  h.onVar ((Keep.refl (fun k => k = pb) w).setCell (fun _ => rfl) _) (by simp [World.setCell, Array.getElem?_modify, h.var])
end BookAt

set_option maxRecDepth 100000 in
set_option maxHeartbeats 2000000 in
theorem stays_any (w : World) (B pb m : Nat) (vL vW : Value) (held : Int) (ks : List Kept) (h : BookAt w B pb vL vW held ks) (hm : ks.length = m) (hl : ∀ k ∈ ks, k.xs.length ≤ 100000) (hm2 : m ≤ 1000000) :
    Calls Try.prog 53 #[.pointer (some ⟨pb, 0, none⟩)] w fun e w' => e = .returned (.bool true) ∧ BookAt w' B pb vL vW held ks ∧ Keep (fun k => k = pb) w w' := by
  obtain ⟨AL, cL, hvL⟩ := h.lists.form
  obtain ⟨AW, cW, hvW⟩ := h.was.form
  rw [hm] at hvL hvW
  subst hvL
  subst hvW
  have HB := Lib.hid h
  have HM := Lib.hid hm
  have HL := Lib.hid hl
  clear h hm hl
  go_enter Try.func53, Try.ntmps53
  go_wp2
  go_loopg [3] m (fun q x wr => ∃ i : Nat, q + i = m ∧ x = .int .i64 i ∧ Hid (BookAt wr B pb (.slice AL m cL) (.slice AW m cW) held ks) ∧ Hid (Keep (fun k => k = pb) w wr))
  case atStart => exact ⟨0, rfl, rfl, HB.out, Keep.refl _ _⟩
  case round =>
    obtain ⟨i, hqi, rfl, HBk, HK⟩ := hrel
    have HQ := Lib.hid hqi
    have him : i ≤ m := by omega
    have hv := HBk.out.var
    have hsz := HBk.out.size
    have b0 : wr.cell? ⟨pb, 0, none⟩ = some (.slice AL m cL) := cell_of_row _ _ _ _ _ _ hv
    have b1 : wr.cell? ⟨pb, 1, none⟩ = some (.slice AW m cW) := cell_of_row _ _ _ _ _ _ hv
    have b3 : wr.cell? ⟨pb, 3, none⟩ = some (.bool false) := cell_of_row _ _ _ _ _ _ hv
    have b3f : wr.frozen? ⟨pb, 3, none⟩ = false := by simp [World.frozen?, hv]
    clear hqi hv
    by_cases hi : i < m
    · have hik : ks[i]? = some (ks[i]'(by rw [HM.out]; exact hi)) := List.getElem?_eq_getElem (by rw [HM.out]; exact hi)
      obtain ⟨kk, hkk⟩ : ∃ kk, ks[i]? = some kk := ⟨_, hik⟩
      have hmem := List.mem_of_getElem? hkk
      obtain ⟨r1, r2⟩ := HBk.out.rows kk hmem
      obtain ⟨A1, c1, hk1⟩ : ∃ A c, kk.v = .slice A kk.xs.length c := by
        rcases r1.2 with ⟨h, h2⟩ | ⟨g, cap, cur, h, _⟩
        · exact ⟨none, 0, by rw [h, h2]⟩
        · exact ⟨_, _, h⟩
      obtain ⟨A2, c2, hk2⟩ : ∃ A c, kk.v2 = .slice A kk.xs.length c := by
        rcases r2.2 with ⟨h, h2⟩ | ⟨g, cap, cur, h, _⟩
        · exact ⟨none, 0, by rw [h, h2]⟩
        · exact ⟨_, _, h⟩
      obtain ⟨gL, oL, capL, hvL, hgL, lc⟩ := HBk.out.lists.cell (j := i) (u := kk.v) (by rw [List.getElem?_map, hkk]; rfl)
      obtain ⟨gW, oW, capW, hvW, hgW, wc⟩ := HBk.out.was.cell (j := i) (u := kk.v2) (by rw [List.getElem?_map, hkk]; rfl)
      injection hvL with e1 e2 e3
      injection hvW with e4 e5 e6
      subst e1
      subst e4
      rw [hk1] at lc
      rw [hk2] at wc
      obtain ⟨len, hlen⟩ : ∃ len, len = kk.xs.length := ⟨_, rfl⟩
      rw [← hlen] at lc wc
      have hii : (i : Int) < m := by omega
      have hsame : ∀ wq, BookAt wq B pb (.slice (some ⟨gL, oL, none⟩) m cL) (.slice (some ⟨gW, oW, none⟩) m cW) held ks → Calls Try.prog 31 #[.slice A1 len c1, .slice A2 len c2] wq fun e w' => e = .returned (.bool true) ∧ ∃ n, w' = wq.drewN n := fun wq hq => by
        obtain ⟨s1, s2⟩ := hq.rows kk hmem
        have hfr : ∀ {v : Value} {A : Option Addr} {c : Nat}, v = .slice A kk.xs.length c → wq.ownsRow B 33 3 v kk.xs.length (slotCells kk.xs) → SlotsAt wq A kk.xs := fun {v A c} hv ho h0 => by
          obtain ⟨g, cap, hvv, _, hlt⟩ := ho.form h0
          rw [hv] at hvv ho
          injection hvv with e1 e2 e3
          subst e1
          exact slotsAt_of_own ho hlt h0
        rw [hlen]
        exact sameSlot_any A1 A2 c1 c2 kk.xs wq (by have := HL.out kk hmem; omega) (hfr hk1 s1) (hfr hk2 s2)
      have HSame := Lib.hid hsame
      have HMk : Hid (∀ w1 : World, BookAt w1 B pb (.slice (some ⟨gL, oL, none⟩) m cL) (.slice (some ⟨gW, oW, none⟩) m cW) held ks → Keep (fun k => k = pb) w w1 → w1.cell? ⟨pb, 0, none⟩ = some (.slice (some ⟨gL, oL, none⟩) m cL) ∧ w1.cell? ⟨pb, 1, none⟩ = some (.slice (some ⟨gW, oW, none⟩) m cW) ∧ w1.cell? ⟨pb, 3, none⟩ = some (.bool false) ∧ w1.cell? ⟨gL, oL + i, none⟩ = some (.slice A1 len c1) ∧ w1.cell? ⟨gW, oW + i, none⟩ = some (.slice A2 len c2) ∧ w1.frozen? ⟨pb, 3, none⟩ = false ∧ BookAt w1 B pb (.slice (some ⟨gL, oL, none⟩) m cL) (.slice (some ⟨gW, oW, none⟩) m cW) held ks ∧ Keep (fun k => k = pb) w w1) := fun w1 hb hkp => by
        have hv := hb.var
        obtain ⟨g1, o1, p1, e1, _, l1⟩ := hb.lists.cell (j := i) (u := kk.v) (by rw [List.getElem?_map, hkk]; rfl)
        obtain ⟨g2, o2, p2, e2, _, l2⟩ := hb.was.cell (j := i) (u := kk.v2) (by rw [List.getElem?_map, hkk]; rfl)
        injection e1 with e1 _ _
        injection e2 with e2 _ _
        injection e1 with e1
        injection e2 with e2
        injection e1 with e1 e1' _
        injection e2 with e2 e2' _
        subst e1 e1' e2 e2'
        rw [hk1, ← hlen] at l1
        rw [hk2, ← hlen] at l2
        exact ⟨cell_of_row _ _ _ _ _ _ hv, cell_of_row _ _ _ _ _ _ hv, cell_of_row _ _ _ _ _ _ hv, l1, l2, by simp [World.frozen?, hv], hb, hkp⟩
      have HS0 : Hid (wr.drew.cell? ⟨pb, 0, none⟩ = some (.slice (some ⟨gL, oL, none⟩) m cL) ∧ wr.drew.cell? ⟨pb, 1, none⟩ = some (.slice (some ⟨gW, oW, none⟩) m cW) ∧ wr.drew.cell? ⟨pb, 3, none⟩ = some (.bool false) ∧ wr.drew.cell? ⟨gL, oL + i, none⟩ = some (.slice A1 len c1) ∧ wr.drew.cell? ⟨gW, oW + i, none⟩ = some (.slice A2 len c2) ∧ wr.drew.frozen? ⟨pb, 3, none⟩ = false ∧ BookAt wr.drew B pb (.slice (some ⟨gL, oL, none⟩) m cL) (.slice (some ⟨gW, oW, none⟩) m cW) held ks ∧ Keep (fun k => k = pb) w wr.drew) := HMk.out _ (HBk.out.keepN (Keep.refl _ _).drew) HK.out.drew
      have HStep : Hid (∀ n : Nat, (wr.drewN n).cell? ⟨pb, 0, none⟩ = some (.slice (some ⟨gL, oL, none⟩) m cL) ∧ (wr.drewN n).cell? ⟨pb, 1, none⟩ = some (.slice (some ⟨gW, oW, none⟩) m cW) ∧ (wr.drewN n).cell? ⟨pb, 3, none⟩ = some (.bool false) ∧ (wr.drewN n).cell? ⟨gL, oL + i, none⟩ = some (.slice A1 len c1) ∧ (wr.drewN n).cell? ⟨gW, oW + i, none⟩ = some (.slice A2 len c2) ∧ (wr.drewN n).frozen? ⟨pb, 3, none⟩ = false ∧ BookAt (wr.drewN n) B pb (.slice (some ⟨gL, oL, none⟩) m cL) (.slice (some ⟨gW, oW, none⟩) m cW) held ks ∧ Keep (fun k => k = pb) w (wr.drewN n)) := fun n => HMk.out _ (HBk.out.keepN ((Keep.refl _ _).drewN _)) (HK.out.drewN _)
      have HStS : Hid (∀ w1 : World, (w1.cell? ⟨pb, 0, none⟩ = some (.slice (some ⟨gL, oL, none⟩) m cL) ∧ w1.cell? ⟨pb, 1, none⟩ = some (.slice (some ⟨gW, oW, none⟩) m cW) ∧ w1.cell? ⟨pb, 3, none⟩ = some (.bool false) ∧ w1.cell? ⟨gL, oL + i, none⟩ = some (.slice A1 len c1) ∧ w1.cell? ⟨gW, oW + i, none⟩ = some (.slice A2 len c2) ∧ w1.frozen? ⟨pb, 3, none⟩ = false ∧ BookAt w1 B pb (.slice (some ⟨gL, oL, none⟩) m cL) (.slice (some ⟨gW, oW, none⟩) m cW) held ks ∧ Keep (fun k => k = pb) w w1) → (w1.setCell ⟨pb, 3, none⟩ (.bool false)).cell? ⟨pb, 0, none⟩ = some (.slice (some ⟨gL, oL, none⟩) m cL) ∧ (w1.setCell ⟨pb, 3, none⟩ (.bool false)).cell? ⟨pb, 1, none⟩ = some (.slice (some ⟨gW, oW, none⟩) m cW) ∧ (w1.setCell ⟨pb, 3, none⟩ (.bool false)).cell? ⟨pb, 3, none⟩ = some (.bool false) ∧ (w1.setCell ⟨pb, 3, none⟩ (.bool false)).cell? ⟨gL, oL + i, none⟩ = some (.slice A1 len c1) ∧ (w1.setCell ⟨pb, 3, none⟩ (.bool false)).cell? ⟨gW, oW + i, none⟩ = some (.slice A2 len c2) ∧ (w1.setCell ⟨pb, 3, none⟩ (.bool false)).frozen? ⟨pb, 3, none⟩ = false ∧ BookAt (w1.setCell ⟨pb, 3, none⟩ (.bool false)) B pb (.slice (some ⟨gL, oL, none⟩) m cL) (.slice (some ⟨gW, oW, none⟩) m cW) held ks ∧ Keep (fun k => k = pb) w (w1.setCell ⟨pb, 3, none⟩ (.bool false))) := fun w1 h => by
        obtain ⟨_, _, _, _, _, _, h7, h8⟩ := h
        exact HMk.out _ h7.setBad (h8.setCell (fun _ => rfl) _)
      have HSB : Hid (∀ w1 : World, (w1.cell? ⟨pb, 0, none⟩ = some (.slice (some ⟨gL, oL, none⟩) m cL) ∧ w1.cell? ⟨pb, 1, none⟩ = some (.slice (some ⟨gW, oW, none⟩) m cW) ∧ w1.cell? ⟨pb, 3, none⟩ = some (.bool false) ∧ w1.cell? ⟨gL, oL + i, none⟩ = some (.slice A1 len c1) ∧ w1.cell? ⟨gW, oW + i, none⟩ = some (.slice A2 len c2) ∧ w1.frozen? ⟨pb, 3, none⟩ = false ∧ BookAt w1 B pb (.slice (some ⟨gL, oL, none⟩) m cL) (.slice (some ⟨gW, oW, none⟩) m cW) held ks ∧ Keep (fun k => k = pb) w w1) → BookAt w1 B pb (.slice (some ⟨gL, oL, none⟩) m cL) (.slice (some ⟨gW, oW, none⟩) m cW) held ks) := fun w1 h => h.2.2.2.2.2.2.1
      have HSK : Hid (∀ w1 : World, (w1.cell? ⟨pb, 0, none⟩ = some (.slice (some ⟨gL, oL, none⟩) m cL) ∧ w1.cell? ⟨pb, 1, none⟩ = some (.slice (some ⟨gW, oW, none⟩) m cW) ∧ w1.cell? ⟨pb, 3, none⟩ = some (.bool false) ∧ w1.cell? ⟨gL, oL + i, none⟩ = some (.slice A1 len c1) ∧ w1.cell? ⟨gW, oW + i, none⟩ = some (.slice A2 len c2) ∧ w1.frozen? ⟨pb, 3, none⟩ = false ∧ BookAt w1 B pb (.slice (some ⟨gL, oL, none⟩) m cL) (.slice (some ⟨gW, oW, none⟩) m cW) held ks ∧ Keep (fun k => k = pb) w w1) → Keep (fun k => k = pb) w w1) := fun w1 h => h.2.2.2.2.2.2.2
      clear hsame r1 r2 hk1 hk2 hlen hik e2 e3 e5 e6
      go_upto_region 4 with fail
      go_region_held3 (fun w1 => w1.cell? ⟨pb, 0, none⟩ = some (.slice (some ⟨gL, oL, none⟩) m cL) ∧ w1.cell? ⟨pb, 1, none⟩ = some (.slice (some ⟨gW, oW, none⟩) m cW) ∧ w1.cell? ⟨pb, 3, none⟩ = some (.bool false) ∧ w1.cell? ⟨gL, oL + i, none⟩ = some (.slice A1 len c1) ∧ w1.cell? ⟨gW, oW + i, none⟩ = some (.slice A2 len c2) ∧ w1.frozen? ⟨pb, 3, none⟩ = false ∧
          BookAt w1 B pb (.slice (some ⟨gL, oL, none⟩) m cL) (.slice (some ⟨gW, oW, none⟩) m cW) held ks ∧ Keep (fun k => k = pb) w w1)
        (first | exact HS0.out | exact HStep.out _ | exact HStS.out _ (by assumption))
        (first | (go_at_call 31; refine (HSame.out _ ?_).mono ?_; exact HSB.out _ (by assumption); rintro e w6 ⟨rfl, nn, rfl⟩))
      all_goals (try go_wp2_with fail)
      all_goals go_roundg (m - (i + 1))
      all_goals first
        | (have := HQ.out; omega)
        | exact ⟨i + 1, by omega, by go_num, HSB.out _ (by assumption), HSK.out _ (by assumption)⟩
    · have HB2 := Lib.hid HBk.out
      go_wp2
      go_ret
      exact ⟨rfl, HBk.out, HK.out⟩
end Go.Proofs.Ytgilejknjdbneaa
