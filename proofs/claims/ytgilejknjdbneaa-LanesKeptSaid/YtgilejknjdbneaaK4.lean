/- The book of slots: Keep. -/
import Derived.Test.YtgilejknjdbneaaK2
import Derived.Deep.RegionLaw
import Derived.Deep.Upon
import Derived.StillTailTactics
namespace Go.Proofs.Ytgilejknjdbneaa
open Go.RowKit Go.IntWalk

theorem Try.info22 : (Try.prog.info? 22).map (fun i => (i.zero, i.size, i.bytes)) = some (some (.slice none 0 0), 1, 24) := by kernel_rfl

section
variable {P : Program}
/-- append to nil: a copy. -/
theorem run_copy (w : World) (b0 base : Nat) (t ty e : TypeId) (i : TypeInfo) (z : Value) (size bytes : Nat) (ht : P.underlying t = some (.slice e)) (hi : P.info? e = some i) (hz : i.zero = some z)
    (hsize : i.size = size) (hby : i.bytes = bytes) (hzs : z.cells.size = size) (hsz : 0 < size)
    (A : Option Addr) (n c : Nat) (xs : List Value) (hown : w.ownsRow b0 e size (.slice A n c) n xs) (h1 : ∀ u ∈ xs, u.oneCell' = true)
    (h63 : n ≤ maxLen) (hbytes : n * bytes ≤ 140737488355328) (hbase : base ≤ w.heap.size) :
    ∃ A' c' w', (Builtin.append_ #[t, t] ty #[.slice none 0 0, .slice A n c]).run P w = .ok (.slice A' n c') w' ∧ w'.ownsRow base e size (.slice A' n c') n xs ∧ w.grownBy w' none ∧ (∀ k, (Value.slice A' n c').ownBlock = some k → w.heap.size ≤ k) := by
  rcases Nat.eq_zero_or_pos n with h0 | h0
  · subst h0
    have hx : xs = [] := List.eq_nil_of_length_eq_zero (by have := hown.1; omega)
    subst hx
    refine ⟨none, 0, w, ?_, World.ownsRow_nil _ _ _ _, ⟨rfl, rfl, rfl, Nat.le_refl _, fun _ _ _ => rfl⟩, fun k hk => by simp [Value.ownBlock] at hk⟩
    cases A <;> simp [Builtin.append_, run_underlying ht, sizeOf, typeInfo, hi, Builtin.lenOf, Builtin.firstCells, loadCells, loadCellsFrom]
  · obtain ⟨g, cap, hv, hb, hlt⟩ := hown.form h0
    injection hv with hA _ hc
    subst hA hc
    have hcells := hown.cells (g := g) rfl
    obtain ⟨g', cap', w', hr, ho, hgr, hat, hlt'⟩ := run_append_lies (P := P) w t ty base e i z size bytes ht hi hz hsize hby hzs hsz (.slice none 0 0) 0 [] (World.ownsRow_nil _ _ _ _) ⟨g, 0, none⟩ n c xs hown.1 hcells h1 h0 (by omega) (by rw [Nat.zero_add]; exact hbytes) hbase w.heap.size rfl
    rw [Nat.zero_add] at hr ho
    refine ⟨some ⟨g', 0, none⟩, cap', w', hr, ho, hgr, fun k hk => ?_⟩
    rcases hat with h | h
    · simp [Value.ownBlock] at h
    · have : g' = k := by simpa [Value.ownBlock] using hk
      omega
theorem step_copy (w : World) {ops : Array Oper} {o : Oper} {a : Act} {K : Act → World → Prop} {Q : Exit → Act → World → Prop} {E : Prop} (hgd : o.guard = none) (x : Operand) (t : TypeId)
    (ho : o.op = .call { callee := .builtin .append, args := #[.const (.slice none 0 0), x], argTypes := #[t, t] })
    (b0 base : Nat) (e : TypeId) (i : TypeInfo) (z : Value) (size bytes : Nat) (ht : P.underlying t = some (.slice e)) (hi : P.info? e = some i) (hz : i.zero = some z)
    (hsize : i.size = size) (hby : i.bytes = bytes) (hzs : z.cells.size = size) (hsz : 0 < size)
    (A : Option Addr) (n c : Nat) (xs : List Value) (hx : a.eval x = .slice A n c) (hown : w.ownsRow b0 e size (.slice A n c) n xs) (h1 : ∀ u ∈ xs, u.oneCell' = true)
    (h63 : n ≤ maxLen) (hbytes : n * bytes ≤ 140737488355328) (hbase : base ≤ w.heap.size)
    (h : ∀ A' c' w', w'.ownsRow base e size (.slice A' n c') n xs → w.grownBy w' none → (∀ k, (Value.slice A' n c').ownBlock = some k → w.heap.size ≤ k) → K (a.put o.dst (.slice A' n c')) w') :
    if Region.wanted o (yielded ops a.tmps) = true then Oper.wp P o a w K Q else E := by
  have hw : Region.wanted o (yielded ops a.tmps) = true := by simp [Region.wanted, hgd]
  rw [if_pos hw]
  obtain ⟨A', c', w', hr, h2, h3, h4⟩ := run_copy (P := P) w b0 base t o.type e i z size bytes ht hi hz hsize hby hzs hsz A n c xs hown h1 h63 hbytes hbase
  have hs : a.eval (.const (.slice none 0 0)) = .slice none 0 0 := rfl
  unfold Oper.wp execOp
  simp only [ho, resolve, invoke, builtin, Sem.run_bind, Sem.run_pure, Result.andThen_ok, List.map_toArray, List.map_cons, List.map_nil, hs, hx, hr]
  exact h A' c' w' h2 h3 h4
theorem step_append_off' (w : World) {ops : Array Oper} {o : Oper} {a : Act} {K : Act → World → Prop} {Q : Exit → Act → World → Prop} {E : Prop} (hgd : o.guard = none) (s x : Operand) (t : TypeId)
    (ho : o.op = .call { callee := .builtin .append, args := #[s, x], argTypes := #[t, t] })
    (base : Nat) (e : TypeId) (i : TypeInfo) (z : Value) (bytes : Nat) (ht : P.underlying t = some (.slice e)) (hi : P.info? e = some i) (hz : i.zero = some z)
    (hsize : i.size = 1) (hby : i.bytes = bytes) (hzs : z.cells.size = 1)
    (v : Value) (n : Nat) (xs : List Value) (hs : a.eval s = v) (hown : OwnsOff w base e v n xs)
    (ad : Addr) (c : Nat) (u : Value) (hx : a.eval x = .slice (some ad) 1 c) (hu : w.cell? (ad.add 0) = some u) (h1 : u.oneCell' = true)
    (h63 : n + 1 ≤ maxLen) (hbytes : (n + 1) * bytes ≤ 140737488355328) (hbase : base ≤ w.heap.size)
    (h : ∀ A' c' w', OwnsOff w' base e (.slice A' (n + 1) c') (n + 1) (xs ++ [u]) → w.grownBy w' v.ownBlock → ((Value.slice A' (n + 1) c').ownBlock = v.ownBlock ∨ ∃ k, (Value.slice A' (n + 1) c').ownBlock = some k ∧ w.heap.size ≤ k) → K (a.put o.dst (.slice A' (n + 1) c')) w') :
    if Region.wanted o (yielded ops a.tmps) = true then Oper.wp P o a w K Q else E :=
  step_append_off w hgd s x t ho base e i z bytes ht hi hz hsize hby hzs v n xs hs hown ad c u hx hu h1 h63 hbytes hbase fun v' w' h2 h3 h4 => by
    obtain ⟨A', c', rfl⟩ := h2.form
    exact h A' c' w' h2 h3 h4
theorem wpList_append_off' (w : World) {ops : Array Oper} {rest : List Oper} {o : Oper} {a : Act} {Q : Exit → Act → World → Prop} (hgd : o.guard = none) (s x : Operand) (t : TypeId)
    (ho : o.op = .call { callee := .builtin .append, args := #[s, x], argTypes := #[t, t] })
    (base : Nat) (e : TypeId) (i : TypeInfo) (z : Value) (bytes : Nat) (ht : P.underlying t = some (.slice e)) (hi : P.info? e = some i) (hz : i.zero = some z)
    (hsize : i.size = 1) (hby : i.bytes = bytes) (hzs : z.cells.size = 1)
    (v : Value) (n : Nat) (xs : List Value) (hs : a.eval s = v) (hown : OwnsOff w base e v n xs)
    (ad : Addr) (c : Nat) (u : Value) (hx : a.eval x = .slice (some ad) 1 c) (hu : w.cell? (ad.add 0) = some u) (h1 : u.oneCell' = true)
    (h63 : n + 1 ≤ maxLen) (hbytes : (n + 1) * bytes ≤ 140737488355328) (hbase : base ≤ w.heap.size)
    (h : ∀ A' c' w', OwnsOff w' base e (.slice A' (n + 1) c') (n + 1) (xs ++ [u]) → w.grownBy w' v.ownBlock → ((Value.slice A' (n + 1) c').ownBlock = v.ownBlock ∨ ∃ k, (Value.slice A' (n + 1) c').ownBlock = some k ∧ w.heap.size ≤ k) → wpList P ops Q rest (a.put o.dst (.slice A' (n + 1) c')) w') : wpList P ops Q (o :: rest) a w :=
  wpList_append_off w hgd s x t ho base e i z bytes ht hi hz hsize hby hzs v n xs hs hown ad c u hx hu h1 h63 hbytes hbase fun v' w' h2 h3 h4 => by
    obtain ⟨A', c', rfl⟩ := h2.form
    exact h A' c' w' h2 h3 h4
end

theorem slotCells_one (l : List Slot) : ∀ u ∈ slotCells l, u.oneCell' = true := by
  intro u hu
  simp only [slotCells, List.mem_flatMap] at hu
  obtain ⟨s, _, hs⟩ := hu
  simp [Slot.cells] at hs
  rcases hs with rfl | rfl | rfl <;> rfl

/-- A book whose two lists are of their own. -/
structure BookG (w : World) (B pb : Nat) (vL vW : Value) (held : Int) (la wa : List Value) (ks : List Kept) : Prop where
  var : w.heap[pb]? = some (.cells #[vL, vW, .int .i64 held, .bool false] 62 (0, 0))
  lists : OwnsOff w B 22 vL la.length la
  was : OwnsOff w B 22 vW wa.length wa
  rows : ∀ k ∈ ks, w.ownsRow B 33 3 k.v k.xs.length (slotCells k.xs) ∧ w.ownsRow B 33 3 k.v2 k.xs.length (slotCells k.xs)
  lb : pb < B
  ap : ∀ k, vL.ownBlock = some k → vW.ownBlock ≠ some k
theorem BookAt.toG {w : World} {B pb : Nat} {vL vW : Value} {held : Int} {ks : List Kept} (h : BookAt w B pb vL vW held ks) : BookG w B pb vL vW held (ks.map Kept.v) (ks.map Kept.v2) ks :=
  ⟨h.var, by rw [List.length_map]; exact h.lists, by rw [List.length_map]; exact h.was, h.rows, h.lb, h.ap⟩
namespace BookG
variable {w w' : World} {B pb : Nat} {vL vW : Value} {held : Int} {la wa : List Value} {ks : List Kept}
theorem toAt (h : BookG w B pb vL vW held (ks.map Kept.v) (ks.map Kept.v2) ks) (hf : ks.Pairwise fun a b => ∀ k, a.v.ownBlock = some k → b.v.ownBlock ≠ some k) : BookAt w B pb vL vW held ks :=
  ⟨h.var, by have := h.lists; rwa [List.length_map] at this, by have := h.was; rwa [List.length_map] at this, h.rows, h.lb, h.ap, hf⟩
theorem size (h : BookG w B pb vL vW held la wa ks) : pb < w.heap.size := (Array.getElem?_eq_some_iff.1 h.var).1
theorem ty (h : BookG w B pb vL vW held la wa ks) : tyAt w pb = some 62 := by unfold tyAt; rw [h.var]
/-- Blocks of other types than slots have turned: the rows stay. -/
theorem rowsKeep {S : Nat → Prop} (h : BookG w B pb vL vW held la wa ks) (hk : Keep S w w') (hS : ∀ k, S k → tyAt w k ≠ some 33) : ∀ k ∈ ks, w'.ownsRow B 33 3 k.v k.xs.length (slotCells k.xs) ∧ w'.ownsRow B 33 3 k.v2 k.xs.length (slotCells k.xs) := fun k hk' => by
  obtain ⟨h1, h2⟩ := h.rows k hk'
  exact ⟨own_keep h1 hk (fun j hj hs => hS j hs (own_ty h1 hj).1), own_keep h2 hk (fun j hj hs => hS j hs (own_ty h2 hj).1)⟩
/-- Only new blocks. -/
theorem keepN (h : BookG w B pb vL vW held la wa ks) (hk : Keep (fun _ => False) w w') : BookG w' B pb vL vW held la wa ks :=
  ⟨(hk.block pb h.size (by simp)).trans h.var, h.lists.keep hk (fun _ _ h => h), h.was.keep hk (fun _ _ h => h), h.rowsKeep hk (fun _ h => h.elim), h.lb, h.ap⟩
/-- The book's own block is written. -/
theorem onVar (h : BookG w B pb vL vW held la wa ks) (hk : Keep (fun k => k = pb) w w') {held' : Int} (hv : w'.heap[pb]? = some (.cells #[vL, vW, .int .i64 held', .bool false] 62 (0, 0))) : BookG w' B pb vL vW held' la wa ks := by
  have hb := h.lb
  exact ⟨hv, h.lists.keep hk (fun k hk' => by have := (h.lists.lt k hk').1; omega), h.was.keep hk (fun k hk' => by have := (h.was.lt k hk').1; omega), h.rowsKeep hk (fun k e => by subst e; rw [h.ty]; simp), hb, h.ap⟩
/-- Another list of lists, written to the book. -/
theorem onLists (h : BookG w B pb vL vW held la wa ks) {vL' : Value} {la' : List Value} {w1 : World} (hg : Keep (fun k => vL.ownBlock = some k) w w1) (hl : OwnsOff w1 B 22 vL' la'.length la') (hat : vL'.ownBlock = vL.ownBlock ∨ ∃ k, vL'.ownBlock = some k ∧ w.heap.size ≤ k) :
    BookG (w1.setCell ⟨pb, 0, none⟩ vL') B pb vL' vW held la' wa ks := by
  have hb := h.lb
  have hp1 : ¬ vL.ownBlock = some pb := fun e => by have := (h.lists.lt pb e).1; omega
  have hv1 : w1.heap[pb]? = _ := (hg.block pb h.size hp1).trans h.var
  have hs : Keep (fun k => k = pb) w1 (w1.setCell ⟨pb, 0, none⟩ vL') := (Keep.refl (fun k => k = pb) w1).setCell (fun _ => rfl) _
  have hk : Keep (fun k => vL.ownBlock = some k ∨ k = pb) w (w1.setCell ⟨pb, 0, none⟩ vL') := (hg.mono (fun _ _ h => .inl h)).setCell (fun _ => .inr rfl) _
  refine ⟨by simp [World.setCell, Array.getElem?_modify, hv1], hl.keep hs (fun k hk' e => by have := (hl.lt k hk').1; omega), h.was.keep hk (fun k hk' e => ?_), h.rowsKeep hk (fun k e => ?_), hb, fun k hk' e => ?_⟩
  · rcases e with e | e
    · exact h.ap k e hk'
    · have := (h.was.lt k hk').1; omega
  · rcases e with e | e
    · rw [(h.lists.lt k e).2.2]; simp
    · subst e; rw [h.ty]; simp
  · rcases hat with ha | ⟨k2, ha, hge⟩
    · rw [ha] at hk'; exact h.ap k hk' e
    · rw [ha] at hk'
      injection hk' with e2
      have := (h.was.lt k e).2.1
      omega
theorem onWas (h : BookG w B pb vL vW held la wa ks) {vW' : Value} {wa' : List Value} {w1 : World} (hg : Keep (fun k => vW.ownBlock = some k) w w1) (hl : OwnsOff w1 B 22 vW' wa'.length wa') (hat : vW'.ownBlock = vW.ownBlock ∨ ∃ k, vW'.ownBlock = some k ∧ w.heap.size ≤ k) :
    BookG (w1.setCell ⟨pb, 1, none⟩ vW') B pb vL vW' held la wa' ks := by
  have hb := h.lb
  have hp1 : ¬ vW.ownBlock = some pb := fun e => by have := (h.was.lt pb e).1; omega
  have hv1 : w1.heap[pb]? = _ := (hg.block pb h.size hp1).trans h.var
  have hs : Keep (fun k => k = pb) w1 (w1.setCell ⟨pb, 1, none⟩ vW') := (Keep.refl (fun k => k = pb) w1).setCell (fun _ => rfl) _
  have hk : Keep (fun k => vW.ownBlock = some k ∨ k = pb) w (w1.setCell ⟨pb, 1, none⟩ vW') := (hg.mono (fun _ _ h => .inl h)).setCell (fun _ => .inr rfl) _
  refine ⟨by simp [World.setCell, Array.getElem?_modify, hv1], h.lists.keep hk (fun k hk' e => ?_), hl.keep hs (fun k hk' e => by have := (hl.lt k hk').1; omega), h.rowsKeep hk (fun k e => ?_), hb, fun k hk' e => ?_⟩
  · rcases e with e | e
    · exact h.ap k hk' e
    · have := (h.lists.lt k hk').1; omega
  · rcases e with e | e
    · rw [(h.was.lt k e).2.2]; simp
    · subst e; rw [h.ty]; simp
  · rcases hat with ha | ⟨k2, ha, hge⟩
    · rw [ha] at e; exact h.ap k hk' e
    · rw [ha] at e
      injection e with e2
      have := (h.lists.lt k hk').2.1
      omega
/-- One row more. -/
theorem addRow (h : BookG w B pb vL vW held la wa ks) {x : Kept} (h1 : w.ownsRow B 33 3 x.v x.xs.length (slotCells x.xs)) (h2 : w.ownsRow B 33 3 x.v2 x.xs.length (slotCells x.xs)) : BookG w B pb vL vW held la wa (ks ++ [x]) :=
  ⟨h.var, h.lists, h.was, fun k hk => by rcases List.mem_append.1 hk with h3 | h3; · exact h.rows k h3
                                         · simp at h3; subst h3; exact ⟨h1, h2⟩, h.lb, h.ap⟩
theorem dropRow {x : Kept} (h : BookG w B pb vL vW held la wa (x :: ks)) : BookG w B pb vL vW held la wa ks :=
  ⟨h.var, h.lists, h.was, fun k hk => h.rows k (List.mem_cons_of_mem _ hk), h.lb, h.ap⟩
end BookG
end Go.Proofs.Ytgilejknjdbneaa

namespace Go.Proofs.Ytgilejknjdbneaa
open Go.RowKit Go.IntWalk

set_option maxRecDepth 100000 in
set_option maxHeartbeats 4000000 in
theorem keep_any (w : World) (B pb m n c : Nat) (vL vW : Value) (held : Int) (ks : List Kept) (A : Option Addr) (xs : List Slot) (h : BookAt w B pb vL vW held ks) (hm : ks.length = m) (hl : ∀ k ∈ ks, k.xs.length ≤ 100000) (hm2 : m ≤ 1000)
    (hB : B ≤ w.heap.size) (hn : xs.length = n) (hn2 : n ≤ 100000) (hv : w.ownsRow B 33 3 (.slice A n c) n (slotCells xs)) (hfar : ∀ kk ∈ ks, ∀ k, kk.v.ownBlock = some k → (Value.slice A n c).ownBlock ≠ some k) :
    Calls Try.prog 32 #[.pointer (some ⟨pb, 0, none⟩), .slice A n c] w fun e w' => e = .returned (.tuple #[]) ∧ ∃ vL' vW' held' v2 pre ks', pre ++ ks' = ks ++ [⟨.slice A n c, v2, xs⟩] ∧ BookAt w' B pb vL' vW' held' ks' ∧ Keep (fun k => k = pb ∨ vL.ownBlock = some k ∨ vW.ownBlock = some k) w w' := by
  obtain ⟨AL, cL, hvL⟩ := h.lists.form
  obtain ⟨AW, cW, hvW⟩ := h.was.form
  rw [hm] at hvL hvW
  subst hvL
  subst hvW
  have hG := h.toG
  have HG := Lib.hid hG
  have HF := Lib.hid h.far
  have HFar := Lib.hid hfar
  have HM := Lib.hid hm
  have HL := Lib.hid hl
  have HN := Lib.hid hn
  have HV := Lib.hid hv
  have HH := Lib.hid hB
  have hvar := h.var
  have hsz := h.size
  have b0 : w.cell? ⟨pb, 0, none⟩ = some (.slice AL m cL) := cell_of_row _ _ _ _ _ _ hvar
  have b0f : w.frozen? ⟨pb, 0, none⟩ = false := by simp [World.frozen?, hvar]
  obtain ⟨i22, hi, hz0, hz1, hz2⟩ := info_parts Try.info22
  obtain ⟨i33, hi3, hy0, hy1, hy2⟩ := info_parts Try.info33
  have HLi : Hid (OwnsOff w B 22 (.slice AL m cL) m (ks.map Kept.v)) := Lib.hid (hm ▸ h.lists)
  have HWa : Hid (OwnsOff w B 22 (.slice AW m cW) m (ks.map Kept.v2)) := Lib.hid (hm ▸ h.was)
  have HK1 : Hid (∀ (w1 : World) A1 c1, OwnsOff w1 B 22 (.slice A1 (m + 1) c1) (m + 1) (ks.map Kept.v ++ [.slice A n c]) → (w.alloc (.cells #[.slice A n c] 22)).grownBy w1 (Value.slice AL m cL).ownBlock → ((Value.slice A1 (m + 1) c1).ownBlock = (Value.slice AL m cL).ownBlock ∨ ∃ k, (Value.slice A1 (m + 1) c1).ownBlock = some k ∧ w.heap.size + 1 ≤ k) →
      BookG (w1.setCell ⟨pb, 0, none⟩ (.slice A1 (m + 1) c1)) B pb (.slice A1 (m + 1) c1) (.slice AW m cW) held (ks.map Kept.v ++ [.slice A n c]) (ks.map Kept.v2) ks ∧
      (w1.setCell ⟨pb, 0, none⟩ (.slice A1 (m + 1) c1)).ownsRow B 33 3 (.slice A n c) n (slotCells xs) ∧ Keep (fun k => k = pb ∨ (Value.slice AL m cL).ownBlock = some k) w (w1.setCell ⟨pb, 0, none⟩ (.slice A1 (m + 1) c1)) ∧ w1.frozen? ⟨pb, 0, none⟩ = false ∧ (∃ u, w1.cell? ⟨pb, 0, none⟩ = some u)) := fun w1 A1 c1 ho hg ha => by
    have hg1 : Keep (fun k => (Value.slice AL m cL).ownBlock = some k) w w1 := ((Keep.refl _ w).alloc _).trans (Keep.of_grown (S := fun k => (Value.slice AL m cL).ownBlock = some k) hg (fun k h => h)) (fun _ _ h => h)
    have hlen : (ks.map Kept.v ++ [Value.slice A n c]).length = m + 1 := by simp [hm]
    have hpb : ¬ (Value.slice AL m cL).ownBlock = some pb := fun e => by have := (h.lists.lt pb e).1; have := h.lb; omega
    have hv1 := (hg1.block pb hsz hpb).trans hvar
    have hK : Keep (fun k => k = pb ∨ (Value.slice AL m cL).ownBlock = some k) w (w1.setCell ⟨pb, 0, none⟩ (.slice A1 (m + 1) c1)) := (hg1.mono (fun _ _ h => .inr h)).setCell (fun _ => .inl rfl) _
    refine ⟨hG.onLists hg1 (by rw [hlen]; exact ho) (by rcases ha with ha | ⟨k, ha, hk⟩; · exact .inl ha
                                                        · exact .inr ⟨k, ha, by omega⟩), own_keep hv hK (fun k hk e => ?_), hK, by simp [World.frozen?, hv1], _, cell_of_row _ _ _ _ _ _ hv1⟩
    have h33 := (own_ty hv hk).1
    rcases e with e | e
    · subst e; rw [hG.ty] at h33; simp at h33
    · rw [(h.lists.lt k e).2.2] at h33; simp at h33
  clear h hm hl hn hv hvar hG hfar hB
  go_enter Try.func32, Try.ntmps32
  go_wp2_with (at_builtin; refine wpList_append_off' _ rfl (.tmp 8) (.tmp 10) 60 rfl B 22 i22 (.slice none 0 0) 24 Try.underlying60 hi hz0 hz1 hz2 rfl (.slice AL m cL) m (ks.map Kept.v) rfl (HLi.out.keep ((Keep.refl (fun _ => False) w).alloc _) (fun _ _ => by simp)) ⟨w.heap.size, 0, none⟩ 1 (.slice A n c) rfl ?k1 rfl (by unfold maxLen; omega) (by omega) ?k2 ?_)
  case k1 => exact World.news_of_block (cs := #[.slice A n c]) (heap_alloc_new w _) 0 _ rfl
  case k2 => have := HH.out; simp; omega
  intro A1 c1 w1 hown1 hgrow1 hat1
  obtain ⟨hG1, hV1, hS1, hf1, u1, hc1⟩ := HK1.out w1 A1 c1 hown1 hgrow1 (by simpa using hat1)
  have HG1 := Lib.hid hG1
  have HV1 := Lib.hid hV1
  have HS1 := Lib.hid hS1
  clear hG1 hV1 hS1 hown1 hgrow1 hat1 HK1
  go_upto_region 1 with fail
  obtain ⟨W1, hW1⟩ : ∃ W1, W1 = w1.setCell ⟨pb, 0, none⟩ (.slice A1 (m + 1) c1) := ⟨_, rfl⟩
  rw [← hW1] at HG1 HV1 HS1 ⊢
  clear hW1 hf1 hc1
  have hv1 := HG1.out.var
  have b1 : W1.cell? ⟨pb, 1, none⟩ = some (.slice AW m cW) := cell_of_row _ _ _ _ _ _ hv1
  have HB1 : B ≤ W1.drew.heap.size := Nat.le_trans HH.out HS1.out.size
  have HV1d : Hid (W1.drew.ownsRow B 33 3 (.slice A n c) n (slotCells xs)) := own_keep HV1.out (Keep.refl (fun _ => False) W1).drew (fun _ _ h => h)
  have HInner : Hid (∀ (w2 : World) A2 c2, w2.ownsRow B 33 3 (.slice A2 n c2) n (slotCells xs) → W1.drew.grownBy w2 none →
      w2.cell? ⟨pb, 1, none⟩ = some (.slice AW m cW) ∧ (w2.alloc (.cells #[.slice A2 n c2] 22)).cell? ⟨pb, 1, none⟩ = some (.slice AW m cW) ∧ Keep (fun _ => False) W1 w2 ∧ OwnsOff (w2.alloc (.cells #[.slice A2 n c2] 22)) B 22 (.slice AW m cW) m (ks.map Kept.v2) ∧ B ≤ (w2.alloc (.cells #[.slice A2 n c2] 22)).heap.size) := fun w2 A2 c2 ho hg => by
    have hk : Keep (fun _ => False) W1 w2 := (Keep.refl _ W1).drew.trans (Keep.of_grown (S := fun _ => False) hg (fun k h => by simp at h)) (fun _ _ h => h)
    have hg2 := HG1.out.keepN hk
    have hwas := hg2.was
    rw [List.length_map, HM.out] at hwas
    have hk2 : Keep (fun _ => False) w2 (w2.alloc (.cells #[.slice A2 n c2] 22)) := (Keep.refl _ w2).alloc _
    exact ⟨cell_of_row _ _ _ _ _ _ hg2.var, cell_of_row _ _ _ _ _ _ (hg2.keepN hk2).var, hk, hwas.keep ((Keep.refl (fun _ => False) w2).alloc _) (fun _ _ h => h), by have := hk.size; have := HB1; simp at this ⊢; omega⟩
  have HOuter : Hid (∀ (w2 : World) A2 c2 (w3 : World) A3 c3, w2.ownsRow B 33 3 (.slice A2 n c2) n (slotCells xs) → Keep (fun _ => False) W1 w2 →
      OwnsOff w3 B 22 (.slice A3 (m + 1) c3) (m + 1) (ks.map Kept.v2 ++ [.slice A2 n c2]) → (w2.alloc (.cells #[.slice A2 n c2] 22)).grownBy w3 (Value.slice AW m cW).ownBlock → ((Value.slice A3 (m + 1) c3).ownBlock = (Value.slice AW m cW).ownBlock ∨ ∃ k, (Value.slice A3 (m + 1) c3).ownBlock = some k ∧ (w2.alloc (.cells #[.slice A2 n c2] 22)).heap.size ≤ k) →
      w3.frozen? ⟨pb, 1, none⟩ = false ∧ (∃ u, w3.cell? ⟨pb, 1, none⟩ = some u) ∧
      Hid (BookG (w3.setCell ⟨pb, 1, none⟩ (.slice A3 (m + 1) c3)) B pb (.slice A1 (m + 1) c1) (.slice A3 (m + 1) c3) held (ks.map Kept.v ++ [.slice A n c]) (ks.map Kept.v2 ++ [.slice A2 n c2]) (ks ++ [⟨.slice A n c, .slice A2 n c2, xs⟩]) ∧
      Keep (fun k => k = pb ∨ (Value.slice AL m cL).ownBlock = some k ∨ (Value.slice AW m cW).ownBlock = some k) w (w3.setCell ⟨pb, 1, none⟩ (.slice A3 (m + 1) c3)))) := fun w2 A2 c2 w3 A3 c3 ho hk h3 hg ha => by
    have hg2 := HG1.out.keepN hk
    have hk3 : Keep (fun k => (Value.slice AW m cW).ownBlock = some k) w2 w3 := ((Keep.refl _ w2).alloc _).trans (Keep.of_grown (S := fun k => (Value.slice AW m cW).ownBlock = some k) hg (fun k h => h)) (fun _ _ h => h)
    have hpb : ¬ (Value.slice AW m cW).ownBlock = some pb := fun e => by have := (hg2.was.lt pb e).1; have := hg2.lb; omega
    have hv3 := (hk3.block pb hg2.size hpb).trans hg2.var
    have hlen : (ks.map Kept.v2 ++ [Value.slice A2 n c2]).length = m + 1 := by simp [HM.out]
    have hb := hg2.onWas hk3 (by rw [hlen]; exact h3) (by rcases ha with ha | ⟨k, ha, hk⟩; · exact .inl ha
                                                          · exact .inr ⟨k, ha, by simp at hk; omega⟩)
    have hkk : Keep (fun k => k = pb ∨ (Value.slice AW m cW).ownBlock = some k) w2 (w3.setCell ⟨pb, 1, none⟩ (.slice A3 (m + 1) c3)) := (hk3.mono (fun _ _ h => .inr h)).setCell (fun _ => .inl rfl) _
    have hne : ∀ (v : Value), w2.ownsRow B 33 3 v n (slotCells xs) → ∀ k, v.ownBlock = some k → ¬ (k = pb ∨ (Value.slice AW m cW).ownBlock = some k) := fun v hv k hk e => by
      have h33 := (own_ty hv hk).1
      rcases e with e | e
      · subst e; rw [hg2.ty] at h33; simp at h33
      · rw [(hg2.was.lt k e).2.2] at h33; simp at h33
    have hva := own_keep HV1.out hk (fun _ _ h => h)
    have hNn := HN.out
    subst hNn
    refine ⟨by simp [World.frozen?, hv3], ⟨_, cell_of_row _ _ _ _ _ _ hv3⟩, Lib.hid ⟨hb.addRow (own_keep hva hkk (hne _ hva)) (own_keep ho hkk (hne _ ho)), ?_⟩⟩
    refine (HS1.out.mono (T := fun k => k = pb ∨ (Value.slice AL m cL).ownBlock = some k ∨ (Value.slice AW m cW).ownBlock = some k) (fun _ _ h => h.elim .inl (fun h => .inr (.inl h)))).trans ((hk.mono (T := fun k => k = pb ∨ (Value.slice AW m cW).ownBlock = some k) (fun _ _ h => h.elim)).trans hkk (fun _ _ h => h)) (fun i _ h => h.elim .inl (fun h => .inr (.inr h)))
  clear hv1
  go_cut [] from 14 to 24 (fun wx => ∃ A3 c3 v2, Hid (BookG wx B pb (.slice A1 (m + 1) c1) (.slice A3 (m + 1) c3) held (ks.map Kept.v ++ [.slice A n c]) (ks.map Kept.v2 ++ [v2]) (ks ++ [⟨.slice A n c, v2, xs⟩])) ∧ Hid (Keep (fun k => k = pb ∨ (Value.slice AL m cL).ownBlock = some k ∨ (Value.slice AW m cW).ownBlock = some k) w wx))
  case first =>
    go_region_law ((first
      | (refine step_copy W1.drew rfl (.tmp 19) 22 rfl B B 33 i33 _ 3 32 Try.underlying22 hi3 hy0 hy1 hy2 rfl (by omega) A n c (slotCells xs) rfl HV1d.out (slotCells_one _) (by unfold maxLen; omega) (by omega) HB1 ?_; intro A2 c2 w2 hown2 hgr2 hat2; obtain ⟨b1', b1a, HK2, HO2, hB2⟩ := HInner.out w2 A2 c2 hown2 hgr2)
      | (refine step_append_off' (w2.alloc (.cells #[.slice A2 n c2] 22)) rfl (.tmp 18) (.tmp 21) 60 rfl B 22 i22 (.slice none 0 0) 24 Try.underlying60 hi hz0 hz1 hz2 rfl (.slice AW m cW) m (ks.map Kept.v2) rfl HO2 ⟨w2.heap.size, 0, none⟩ 1 (.slice A2 n c2) rfl (World.news_of_block (cs := #[.slice A2 n c2]) (heap_alloc_new w2 _) 0 _ rfl) rfl (by unfold maxLen; omega) (by omega) hB2 ?_; intro A3 c3 w3 hown3 hgr3 hat3; obtain ⟨f3, ⟨u3, hc3⟩, HR3⟩ := HOuter.out w2 A2 c2 w3 A3 c3 hown2 HK2 hown3 hgr3 hat3)))
    all_goals (try go_wp2_with fail)
    all_goals go_meet
    all_goals exact ⟨A3, c3, _, HR3.out.1, HR3.out.2⟩
  case rest =>
    obtain ⟨A3, c3, v2, HG3, HK3⟩ := hcut
    have hv3 := HG3.out.var
    have b2 : wc.cell? ⟨pb, 2, none⟩ = some (.int .i64 held) := cell_of_row _ _ _ _ _ _ hv3
    have b2f : wc.frozen? ⟨pb, 2, none⟩ = false := by simp [World.frozen?, hv3]
    have HSet : Hid (∀ (w4 : World) (L W : Value) (hd hd' : Int) (la wa : List Value) (kk : List Kept), Hid (BookG w4 B pb L W hd la wa kk) → BookG (w4.setCell ⟨pb, 2, none⟩ (.int .i64 hd')) B pb L W hd' la wa kk) := Lib.hid fun w4 L W hd hd' la wa kk h => h.out.onVar ((Keep.refl (fun k => k = pb) w4).setCell (fun _ => rfl) _) (by have := h.out.var; simp [World.setCell, Array.getElem?_modify, this])
    have HSk : Hid (∀ (w4 : World) j u, Hid (Keep (fun k => k = pb ∨ (Value.slice AL m cL).ownBlock = some k ∨ (Value.slice AW m cW).ownBlock = some k) w w4) → Keep (fun k => k = pb ∨ (Value.slice AL m cL).ownBlock = some k ∨ (Value.slice AW m cW).ownBlock = some k) w (w4.setCell ⟨pb, j, none⟩ u)) := Lib.hid fun w4 j u h => h.out.setCell (fun _ => .inl rfl) _
    clear hv3
    go_upto_region 2 with fail
    go_cut [] from 25 to 35 (fun wx => ∃ held2 : Int, Hid (BookG wx B pb (.slice A1 (m + 1) c1) (.slice A3 (m + 1) c3) held2 (ks.map Kept.v ++ [.slice A n c]) (ks.map Kept.v2 ++ [v2]) (ks ++ [⟨.slice A n c, v2, xs⟩])) ∧ Hid (Keep (fun k => k = pb ∨ (Value.slice AL m cL).ownBlock = some k ∨ (Value.slice AW m cW).ownBlock = some k) w wx))
    case first =>
      go_wp2_with fail
      go_meet
      exact ⟨_, Lib.hid (HSet.out _ _ _ _ _ _ _ _ HG3), Lib.hid (HSk.out _ _ _ HK3)⟩
    case rest =>
      obtain ⟨held2, HG4, HK4⟩ := hcut
      go_wp2_with fail
      go_loopg [] (m + 1) (fun r wr => ∃ (q : Nat) (Aq : Option Addr) (cq : Nat) (Dq : Option Addr) (dq : Nat) (hd : Int) (pre kt : List Kept), q = r ∧ Hid (pre ++ kt = ks ++ [⟨.slice A n c, v2, xs⟩]) ∧ Hid (kt.length = q) ∧ q ≤ m + 1 ∧ Hid (BookG wr B pb (.slice Aq q cq) (.slice Dq q dq) hd (kt.map Kept.v) (kt.map Kept.v2) kt) ∧ Hid (Keep (fun k => k = pb ∨ (Value.slice AL m cL).ownBlock = some k ∨ (Value.slice AW m cW).ownBlock = some k) w wr))
      case atStart => exact ⟨_, A1, c1, A3, c3, held2, [], _, rfl, Lib.hid rfl, Lib.hid (by simp [HM.out]), Nat.le_refl _, by simpa using HG4, HK4⟩
      case round =>
        obtain ⟨q, Aq, cq, Dq, dq, hd, pre, kt, rfl, HPre, HQ, hqm, HG5, HK5⟩ := hrel
        have hv5 := HG5.out.var
        have b0 : wr.cell? ⟨pb, 0, none⟩ = some (.slice Aq q cq) := cell_of_row _ _ _ _ _ _ hv5
        have b2 : wr.cell? ⟨pb, 2, none⟩ = some (.int .i64 hd) := cell_of_row _ _ _ _ _ _ hv5
        clear hv5
        have HEnd : Hid (∃ vL' vW' held' v2' pre' ks', pre' ++ ks' = ks ++ [⟨.slice A n c, v2', xs⟩] ∧ BookAt wr B pb vL' vW' held' ks' ∧ Keep (fun k => k = pb ∨ (Value.slice AL m cL).ownBlock = some k ∨ (Value.slice AW m cW).ownBlock = some k) w wr) := by
          refine Lib.hid ⟨_, _, _, _, pre, kt, HPre.out, HG5.out.toAt ?_, HK5.out⟩
          have hp : (pre ++ kt).Pairwise fun a b => ∀ k, a.v.ownBlock = some k → b.v.ownBlock ≠ some k := by
            rw [HPre.out, List.pairwise_append]
            exact ⟨HF.out, List.pairwise_singleton _ _, fun a ha b hb => by simp at hb; subst hb; exact HFar.out a ha⟩
          exact (List.pairwise_append.1 hp).2.1
        by_cases hq1 : 1 < q
        · have hqi : (1 : Int) < q := by omega
          by_cases hh : 1000000 < hd
          · obtain ⟨kk, kt2, hkt⟩ : ∃ kk kt2, kt = kk :: kt2 := by
              cases kt with
              | nil => have := HQ.out; simp at this; omega
              | cons a b => exact ⟨a, b, rfl⟩
            subst hkt
            have hqc : kt2.length + 1 = q := by have := HQ.out; simpa using this
            have hkl : kk.xs.length ≤ 100000 := by
              have hmem : kk ∈ ks ++ [⟨.slice A n c, v2, xs⟩] := by rw [← HPre.out]; simp
              rcases List.mem_append.1 hmem with h | h
              · exact HL.out kk h
              · simp at h; rw [h]; simp only; rw [HN.out]; exact hn2
            obtain ⟨r1, r2⟩ := HG5.out.rows kk (List.mem_cons_self ..)
            have hform : ∀ v : Value, wr.ownsRow B 33 3 v kk.xs.length (slotCells kk.xs) → ∃ A c, v = .slice A kk.xs.length c := fun v r => by
              rcases r.2 with ⟨h, h2⟩ | ⟨g, cap, cur, h, _⟩
              · exact ⟨none, 0, by rw [h, h2]⟩
              · exact ⟨_, _, h⟩
            obtain ⟨Ak, ck, hk1⟩ := hform _ r1
            obtain ⟨Dk, dk, hk2⟩ := hform _ r2
            obtain ⟨gL, oL, capL, hvL, hgL, lc⟩ := HG5.out.lists.cell (j := 0) (u := kk.v) rfl
            obtain ⟨gW, oW, capW, hvW, hgW, wc0⟩ := HG5.out.was.cell (j := 0) (u := kk.v2) rfl
            injection hvL with e1 e2 e3
            injection hvW with e4 e5 e6
            subst e1
            subst e4
            obtain ⟨len, hlen⟩ : ∃ len, len = kk.xs.length := ⟨_, rfl⟩
            have hcq : q ≤ cq ∧ q ≤ dq := by
              have h1 := HG5.out.lists
              have h2 := HG5.out.was
              constructor
              · rcases h1.2 with ⟨h, _⟩ | ⟨g, o, cap, cur, h, _, _, h3, _⟩
                · simp at h
                · injection h with _ _ h; rw [h]; simp at h3; omega
              · rcases h2.2 with ⟨h, _⟩ | ⟨g, o, cap, cur, h, _, _, h3, _⟩
                · simp at h
                · injection h with _ _ h; rw [h]; simp at h3; omega
            have HSame : Hid (∀ wq hd', BookG wq B pb (.slice (some ⟨gL, oL, none⟩) q cq) (.slice (some ⟨gW, oW, none⟩) q dq) hd' ((kk :: kt2).map Kept.v) ((kk :: kt2).map Kept.v2) (kk :: kt2) → Calls Try.prog 31 #[.slice Ak len ck, .slice Dk len dk] wq fun e w' => e = .returned (.bool true) ∧ ∃ n, w' = wq.drewN n) := fun wq hd' hq => by
              obtain ⟨s1, s2⟩ := hq.rows kk (List.mem_cons_self ..)
              have hfr : ∀ {v : Value} {A : Option Addr} {c : Nat}, v = .slice A kk.xs.length c → wq.ownsRow B 33 3 v kk.xs.length (slotCells kk.xs) → SlotsAt wq A kk.xs := fun {v A c} hv ho h0 => by
                obtain ⟨g, cap, hvv, _, hlt⟩ := ho.form h0
                rw [hv] at hvv ho
                injection hvv with e1 e2 e3
                subst e1
                exact slotsAt_of_own ho hlt h0
              rw [hlen]
              exact sameSlot_any Ak Dk ck dk kk.xs wq (by omega) (hfr hk1 s1) (hfr hk2 s2)
            have HMk : Hid (∀ (w1 : World) hd', BookG w1 B pb (.slice (some ⟨gL, oL, none⟩) q cq) (.slice (some ⟨gW, oW, none⟩) q dq) hd' ((kk :: kt2).map Kept.v) ((kk :: kt2).map Kept.v2) (kk :: kt2) → Keep (fun k => k = pb ∨ (Value.slice AL m cL).ownBlock = some k ∨ (Value.slice AW m cW).ownBlock = some k) w w1 → (w1).cell? ⟨pb, 0, none⟩ = some (.slice (some ⟨gL, oL, none⟩) q cq) ∧ (w1).cell? ⟨pb, 1, none⟩ = some (.slice (some ⟨gW, oW, none⟩) q dq) ∧ (w1).cell? ⟨pb, 2, none⟩ = some (.int .i64 hd') ∧ (w1).cell? ⟨pb, 3, none⟩ = some (.bool false) ∧ (w1).cell? ⟨gL, oL, none⟩ = some (.slice Ak len ck) ∧ (w1).cell? ⟨gW, oW, none⟩ = some (.slice Dk len dk) ∧ (w1).frozen? ⟨pb, 0, none⟩ = false ∧ (w1).frozen? ⟨pb, 1, none⟩ = false ∧ (w1).frozen? ⟨pb, 3, none⟩ = false ∧ (w1).frozen? ⟨pb, 2, none⟩ = false ∧ BookG (w1) B pb (.slice (some ⟨gL, oL, none⟩) q cq) (.slice (some ⟨gW, oW, none⟩) q dq) hd' ((kk :: kt2).map Kept.v) ((kk :: kt2).map Kept.v2) (kk :: kt2) ∧ Keep (fun k => k = pb ∨ (Value.slice AL m cL).ownBlock = some k ∨ (Value.slice AW m cW).ownBlock = some k) w (w1)) := fun w1 hd' hb hkp => by
              have hv := hb.var
              obtain ⟨g1, o1, p1, e1, _, l1⟩ := hb.lists.cell (j := 0) (u := kk.v) rfl
              obtain ⟨g2, o2, p2, e2, _, l2⟩ := hb.was.cell (j := 0) (u := kk.v2) rfl
              injection e1 with e1 _ _
              injection e2 with e2 _ _
              injection e1 with e1
              injection e2 with e2
              injection e1 with e1 e1' _
              injection e2 with e2 e2' _
              subst e1 e1' e2 e2'
              rw [hk1, ← hlen] at l1
              rw [hk2, ← hlen] at l2
              exact ⟨cell_of_row _ _ _ _ _ _ hv, cell_of_row _ _ _ _ _ _ hv, cell_of_row _ _ _ _ _ _ hv, cell_of_row _ _ _ _ _ _ hv, l1, l2, by simp [World.frozen?, hv], by simp [World.frozen?, hv], by simp [World.frozen?, hv], by simp [World.frozen?, hv], hb, hkp⟩
            have HS0 : Hid ((wr.drew).cell? ⟨pb, 0, none⟩ = some (.slice (some ⟨gL, oL, none⟩) q cq) ∧ (wr.drew).cell? ⟨pb, 1, none⟩ = some (.slice (some ⟨gW, oW, none⟩) q dq) ∧ (wr.drew).cell? ⟨pb, 2, none⟩ = some (.int .i64 hd) ∧ (wr.drew).cell? ⟨pb, 3, none⟩ = some (.bool false) ∧ (wr.drew).cell? ⟨gL, oL, none⟩ = some (.slice Ak len ck) ∧ (wr.drew).cell? ⟨gW, oW, none⟩ = some (.slice Dk len dk) ∧ (wr.drew).frozen? ⟨pb, 0, none⟩ = false ∧ (wr.drew).frozen? ⟨pb, 1, none⟩ = false ∧ (wr.drew).frozen? ⟨pb, 3, none⟩ = false ∧ (wr.drew).frozen? ⟨pb, 2, none⟩ = false ∧ BookG (wr.drew) B pb (.slice (some ⟨gL, oL, none⟩) q cq) (.slice (some ⟨gW, oW, none⟩) q dq) hd ((kk :: kt2).map Kept.v) ((kk :: kt2).map Kept.v2) (kk :: kt2) ∧ Keep (fun k => k = pb ∨ (Value.slice AL m cL).ownBlock = some k ∨ (Value.slice AW m cW).ownBlock = some k) w (wr.drew)) := HMk.out _ _ (HG5.out.keepN (Keep.refl _ _).drew) HK5.out.drew
            have HStep : Hid (∀ n : Nat, (wr.drewN n).cell? ⟨pb, 0, none⟩ = some (.slice (some ⟨gL, oL, none⟩) q cq) ∧ (wr.drewN n).cell? ⟨pb, 1, none⟩ = some (.slice (some ⟨gW, oW, none⟩) q dq) ∧ (wr.drewN n).cell? ⟨pb, 2, none⟩ = some (.int .i64 hd) ∧ (wr.drewN n).cell? ⟨pb, 3, none⟩ = some (.bool false) ∧ (wr.drewN n).cell? ⟨gL, oL, none⟩ = some (.slice Ak len ck) ∧ (wr.drewN n).cell? ⟨gW, oW, none⟩ = some (.slice Dk len dk) ∧ (wr.drewN n).frozen? ⟨pb, 0, none⟩ = false ∧ (wr.drewN n).frozen? ⟨pb, 1, none⟩ = false ∧ (wr.drewN n).frozen? ⟨pb, 3, none⟩ = false ∧ (wr.drewN n).frozen? ⟨pb, 2, none⟩ = false ∧ BookG (wr.drewN n) B pb (.slice (some ⟨gL, oL, none⟩) q cq) (.slice (some ⟨gW, oW, none⟩) q dq) hd ((kk :: kt2).map Kept.v) ((kk :: kt2).map Kept.v2) (kk :: kt2) ∧ Keep (fun k => k = pb ∨ (Value.slice AL m cL).ownBlock = some k ∨ (Value.slice AW m cW).ownBlock = some k) w (wr.drewN n)) := fun n => HMk.out _ _ (HG5.out.keepN ((Keep.refl _ _).drewN _)) (HK5.out.drewN _)
            have HStS : Hid (∀ w1 : World, ((w1).cell? ⟨pb, 0, none⟩ = some (.slice (some ⟨gL, oL, none⟩) q cq) ∧ (w1).cell? ⟨pb, 1, none⟩ = some (.slice (some ⟨gW, oW, none⟩) q dq) ∧ (w1).cell? ⟨pb, 2, none⟩ = some (.int .i64 hd) ∧ (w1).cell? ⟨pb, 3, none⟩ = some (.bool false) ∧ (w1).cell? ⟨gL, oL, none⟩ = some (.slice Ak len ck) ∧ (w1).cell? ⟨gW, oW, none⟩ = some (.slice Dk len dk) ∧ (w1).frozen? ⟨pb, 0, none⟩ = false ∧ (w1).frozen? ⟨pb, 1, none⟩ = false ∧ (w1).frozen? ⟨pb, 3, none⟩ = false ∧ (w1).frozen? ⟨pb, 2, none⟩ = false ∧ BookG (w1) B pb (.slice (some ⟨gL, oL, none⟩) q cq) (.slice (some ⟨gW, oW, none⟩) q dq) hd ((kk :: kt2).map Kept.v) ((kk :: kt2).map Kept.v2) (kk :: kt2) ∧ Keep (fun k => k = pb ∨ (Value.slice AL m cL).ownBlock = some k ∨ (Value.slice AW m cW).ownBlock = some k) w (w1)) → (w1.setCell ⟨pb, 3, none⟩ (.bool false)).cell? ⟨pb, 0, none⟩ = some (.slice (some ⟨gL, oL, none⟩) q cq) ∧ (w1.setCell ⟨pb, 3, none⟩ (.bool false)).cell? ⟨pb, 1, none⟩ = some (.slice (some ⟨gW, oW, none⟩) q dq) ∧ (w1.setCell ⟨pb, 3, none⟩ (.bool false)).cell? ⟨pb, 2, none⟩ = some (.int .i64 hd) ∧ (w1.setCell ⟨pb, 3, none⟩ (.bool false)).cell? ⟨pb, 3, none⟩ = some (.bool false) ∧ (w1.setCell ⟨pb, 3, none⟩ (.bool false)).cell? ⟨gL, oL, none⟩ = some (.slice Ak len ck) ∧ (w1.setCell ⟨pb, 3, none⟩ (.bool false)).cell? ⟨gW, oW, none⟩ = some (.slice Dk len dk) ∧ (w1.setCell ⟨pb, 3, none⟩ (.bool false)).frozen? ⟨pb, 0, none⟩ = false ∧ (w1.setCell ⟨pb, 3, none⟩ (.bool false)).frozen? ⟨pb, 1, none⟩ = false ∧ (w1.setCell ⟨pb, 3, none⟩ (.bool false)).frozen? ⟨pb, 3, none⟩ = false ∧ (w1.setCell ⟨pb, 3, none⟩ (.bool false)).frozen? ⟨pb, 2, none⟩ = false ∧ BookG (w1.setCell ⟨pb, 3, none⟩ (.bool false)) B pb (.slice (some ⟨gL, oL, none⟩) q cq) (.slice (some ⟨gW, oW, none⟩) q dq) hd ((kk :: kt2).map Kept.v) ((kk :: kt2).map Kept.v2) (kk :: kt2) ∧ Keep (fun k => k = pb ∨ (Value.slice AL m cL).ownBlock = some k ∨ (Value.slice AW m cW).ownBlock = some k) w (w1.setCell ⟨pb, 3, none⟩ (.bool false))) := fun w1 h => by
              obtain ⟨_, _, _, _, _, _, _, _, _, _, h7, h8⟩ := h
              exact HMk.out _ _ (h7.onVar ((Keep.refl (fun k => k = pb) w1).setCell (fun _ => rfl) _) (by have := h7.var; simp [World.setCell, Array.getElem?_modify, this])) (h8.setCell (fun _ => .inl rfl) _)
            have HSB : Hid (∀ w1 : World, ((w1).cell? ⟨pb, 0, none⟩ = some (.slice (some ⟨gL, oL, none⟩) q cq) ∧ (w1).cell? ⟨pb, 1, none⟩ = some (.slice (some ⟨gW, oW, none⟩) q dq) ∧ (w1).cell? ⟨pb, 2, none⟩ = some (.int .i64 hd) ∧ (w1).cell? ⟨pb, 3, none⟩ = some (.bool false) ∧ (w1).cell? ⟨gL, oL, none⟩ = some (.slice Ak len ck) ∧ (w1).cell? ⟨gW, oW, none⟩ = some (.slice Dk len dk) ∧ (w1).frozen? ⟨pb, 0, none⟩ = false ∧ (w1).frozen? ⟨pb, 1, none⟩ = false ∧ (w1).frozen? ⟨pb, 3, none⟩ = false ∧ (w1).frozen? ⟨pb, 2, none⟩ = false ∧ BookG (w1) B pb (.slice (some ⟨gL, oL, none⟩) q cq) (.slice (some ⟨gW, oW, none⟩) q dq) hd ((kk :: kt2).map Kept.v) ((kk :: kt2).map Kept.v2) (kk :: kt2) ∧ Keep (fun k => k = pb ∨ (Value.slice AL m cL).ownBlock = some k ∨ (Value.slice AW m cW).ownBlock = some k) w (w1)) → BookG w1 B pb (.slice (some ⟨gL, oL, none⟩) q cq) (.slice (some ⟨gW, oW, none⟩) q dq) hd ((kk :: kt2).map Kept.v) ((kk :: kt2).map Kept.v2) (kk :: kt2)) := fun w1 h => h.2.2.2.2.2.2.2.2.2.2.1
            have HSK : Hid (∀ w1 : World, ((w1).cell? ⟨pb, 0, none⟩ = some (.slice (some ⟨gL, oL, none⟩) q cq) ∧ (w1).cell? ⟨pb, 1, none⟩ = some (.slice (some ⟨gW, oW, none⟩) q dq) ∧ (w1).cell? ⟨pb, 2, none⟩ = some (.int .i64 hd) ∧ (w1).cell? ⟨pb, 3, none⟩ = some (.bool false) ∧ (w1).cell? ⟨gL, oL, none⟩ = some (.slice Ak len ck) ∧ (w1).cell? ⟨gW, oW, none⟩ = some (.slice Dk len dk) ∧ (w1).frozen? ⟨pb, 0, none⟩ = false ∧ (w1).frozen? ⟨pb, 1, none⟩ = false ∧ (w1).frozen? ⟨pb, 3, none⟩ = false ∧ (w1).frozen? ⟨pb, 2, none⟩ = false ∧ BookG (w1) B pb (.slice (some ⟨gL, oL, none⟩) q cq) (.slice (some ⟨gW, oW, none⟩) q dq) hd ((kk :: kt2).map Kept.v) ((kk :: kt2).map Kept.v2) (kk :: kt2) ∧ Keep (fun k => k = pb ∨ (Value.slice AL m cL).ownBlock = some k ∨ (Value.slice AW m cW).ownBlock = some k) w (w1)) → Keep (fun k => k = pb ∨ (Value.slice AL m cL).ownBlock = some k ∨ (Value.slice AW m cW).ownBlock = some k) w w1) := fun w1 h => h.2.2.2.2.2.2.2.2.2.2.2
            obtain ⟨c0, c1', c2', c3', c4', c5', c6', c7', c8', c9', _, _⟩ := HMk.out wr hd HG5.out HK5.out
            have HQc := Lib.hid hqc
            clear r1 r2 hk1 hk2 hlen e2 e3 e5 e6 hform lc wc0 hqc hkl
            have hq0 : (0 : Int) < q := by omega
            have hq0n : 0 < q := by omega
            go_upto_region 4 with fail
            go_cut [] from 57 to 80 (fun wx => Hid (BookG wx B pb (.slice (some ⟨gL, oL, none⟩) q cq) (.slice (some ⟨gW, oW, none⟩) q dq) hd ((kk :: kt2).map Kept.v) ((kk :: kt2).map Kept.v2) (kk :: kt2)) ∧ Hid (Keep (fun k => k = pb ∨ (Value.slice AL m cL).ownBlock = some k ∨ (Value.slice AW m cW).ownBlock = some k) w wx))
            case first =>
              go_region_held3 (fun w1 => (w1).cell? ⟨pb, 0, none⟩ = some (.slice (some ⟨gL, oL, none⟩) q cq) ∧ (w1).cell? ⟨pb, 1, none⟩ = some (.slice (some ⟨gW, oW, none⟩) q dq) ∧ (w1).cell? ⟨pb, 2, none⟩ = some (.int .i64 hd) ∧ (w1).cell? ⟨pb, 3, none⟩ = some (.bool false) ∧ (w1).cell? ⟨gL, oL, none⟩ = some (.slice Ak len ck) ∧ (w1).cell? ⟨gW, oW, none⟩ = some (.slice Dk len dk) ∧ (w1).frozen? ⟨pb, 0, none⟩ = false ∧ (w1).frozen? ⟨pb, 1, none⟩ = false ∧ (w1).frozen? ⟨pb, 3, none⟩ = false ∧ (w1).frozen? ⟨pb, 2, none⟩ = false ∧ BookG (w1) B pb (.slice (some ⟨gL, oL, none⟩) q cq) (.slice (some ⟨gW, oW, none⟩) q dq) hd ((kk :: kt2).map Kept.v) ((kk :: kt2).map Kept.v2) (kk :: kt2) ∧ Keep (fun k => k = pb ∨ (Value.slice AL m cL).ownBlock = some k ∨ (Value.slice AW m cW).ownBlock = some k) w (w1))
                (first | exact HS0.out | exact HStep.out _ | exact HStS.out _ (by assumption))
                (first | (go_at_call 31; refine (HSame.out _ hd ?_).mono ?_; exact HSB.out _ (by assumption); rintro e w6 ⟨rfl, nn, rfl⟩))
              all_goals (try go_wp2_with fail)
              all_goals go_meet
              all_goals exact ⟨Lib.hid (HSB.out _ (by assumption)), Lib.hid (HSK.out _ (by assumption))⟩
            case rest =>
              obtain ⟨HG6, HK6⟩ := hcut
              obtain ⟨d0, d1, d2, d3, d4, d5, d6, d7, d8, d9, _, _⟩ := HMk.out wc hd HG6.out HK6.out
              have HG6d : Hid (BookG wc.drew B pb (.slice (some ⟨gL, oL, none⟩) q cq) (.slice (some ⟨gW, oW, none⟩) q dq) hd ((kk :: kt2).map Kept.v) ((kk :: kt2).map Kept.v2) (kk :: kt2)) := HG6.out.keepN (Keep.refl _ _).drew
              have HK6d : Hid (Keep (fun k => k = pb ∨ (Value.slice AL m cL).ownBlock = some k ∨ (Value.slice AW m cW).ownBlock = some k) w wc.drew) := HK6.out.drew
              clear c0 c1' c2' c3' c4' c5' c6' c7' c8' c9' HS0 HStep HStS HSame
              go_upto_region 5 with fail
              go_cut [] from 80 to 95 (fun wx => ∃ hd2 : Int, Hid (BookG wx B pb (.slice (some ⟨gL, oL, none⟩) q cq) (.slice (some ⟨gW, oW, none⟩) q dq) hd2 ((kk :: kt2).map Kept.v) ((kk :: kt2).map Kept.v2) (kk :: kt2)) ∧ Hid (Keep (fun k => k = pb ∨ (Value.slice AL m cL).ownBlock = some k ∨ (Value.slice AW m cW).ownBlock = some k) w wx))
              case first =>
                go_region_with (fail)
                all_goals (try go_wp2_with fail)
                all_goals go_meet
                all_goals exact ⟨_, Lib.hid (HSet.out _ _ _ _ _ _ _ _ HG6d), Lib.hid (HSk.out _ _ _ HK6d)⟩
              case rest =>
                clear d0 d1 d2 d3 d4 d5 d6 d7 d8 d9
                obtain ⟨hd2, HG7, HK7⟩ := hcut
                rename World => wd
                obtain ⟨d0, d1, d2, d3, d4, d5, d6, d7, d8, d9, _, _⟩ := HMk.out wd hd2 HG7.out HK7.out
                have HFin : Hid (BookG ((wd.setCell ⟨pb, 0, none⟩ (.slice (some ⟨gL, oL + 1, none⟩) (q - 1) (cq - 1))).setCell ⟨pb, 1, none⟩ (.slice (some ⟨gW, oW + 1, none⟩) (q - 1) (dq - 1))) B pb (.slice (some ⟨gL, oL + 1, none⟩) (q - 1) (cq - 1)) (.slice (some ⟨gW, oW + 1, none⟩) (q - 1) (dq - 1)) hd2 (kt2.map Kept.v) (kt2.map Kept.v2) kt2) := by
                  have hb := HG7.out
                  have hqc := HQc.out
                  subst hqc
                  have hl := hb.lists
                  rw [List.length_map, List.length_cons] at hl
                  have h1 := hb.onLists (Keep.refl _ wd) (vL' := .slice (some ⟨gL, oL + 1, none⟩) (kt2.length + 1 - 1) (cq - 1)) (la' := kt2.map Kept.v) (by rw [List.length_map]; exact OwnsOff.tail hl) (.inl rfl)
                  have hw := h1.was
                  rw [List.length_map, List.length_cons] at hw
                  exact (h1.onWas (Keep.refl _ _) (vW' := .slice (some ⟨gW, oW + 1, none⟩) (kt2.length + 1 - 1) (dq - 1)) (wa' := kt2.map Kept.v2) (by rw [List.length_map]; exact OwnsOff.tail hw) (.inl rfl)).dropRow
                have HFinK : Hid (Keep (fun k => k = pb ∨ (Value.slice AL m cL).ownBlock = some k ∨ (Value.slice AW m cW).ownBlock = some k) w ((wd.setCell ⟨pb, 0, none⟩ (.slice (some ⟨gL, oL + 1, none⟩) (q - 1) (cq - 1))).setCell ⟨pb, 1, none⟩ (.slice (some ⟨gW, oW + 1, none⟩) (q - 1) (dq - 1)))) := Lib.hid (HSk.out _ _ _ (Lib.hid (HSk.out _ _ _ HK7)))
                have HPre2 : Hid ((pre ++ [kk]) ++ kt2 = ks ++ [⟨.slice A n c, v2, xs⟩]) := by rw [List.append_assoc]; exact HPre.out
                go_upto_region 6 with fail
                go_wp2_with fail
                go_roundg (q - 1)
                all_goals first
                  | omega
                  | exact ⟨q - 1, _, _, _, _, hd2, pre ++ [kk], kt2, rfl, HPre2, Lib.hid (by have := HQc.out; omega), by omega, HFin, HFinK⟩
          · have hq4 : ¬ (4000 : Int) < q := by omega
            go_wp2
            go_end0
            exact ⟨rfl, HEnd.out⟩
        · have hqi : ¬ (1 : Int) < q := by omega
          go_wp2
          go_end0
          exact ⟨rfl, HEnd.out⟩
end Go.Proofs.Ytgilejknjdbneaa
