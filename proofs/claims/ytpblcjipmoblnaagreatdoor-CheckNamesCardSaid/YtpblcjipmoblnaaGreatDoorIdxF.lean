/- Things IdxF -/
import Derived.Test.YtpblcjipmoblnaaGreatDoorNamesB
import Derived.Test.YtpblcjipmoblnaaGreatDoorBack
import Derived.Maps.OwnIn
import Derived.Test.YtpblcjipmoblnaaGreatDoorFor2
import Derived.Test.YtpblcjipmoblnaaGreatDoorKnown
set_option maxRecDepth 100000
set_option maxHeartbeats 4000000
set_option linter.unusedVariables false
set_option linter.unusedSimpArgs false
namespace Go.Proofs.YtpblcjipmoblnaaGreatDoor
open Go.RowKit Go.IntWalk Go.Shelf Ck
attribute [local go_sem] Oper.semAt_some
theorem ownI_cells {β : Type} (k : Nat) (cs : Array Value) (t : TypeId) (z : Nat × Nat) : Own (fun (_ : β) W => W.heap[k]? = some (.cells cs t z)) := fun s A B row hs hg hr => by
 refine (hg.block k (heap_lt hs) fun e => ?_).trans hs
 obtain ⟨o, ho, hc⟩ := hr k e.symm
 rw [hs] at ho
 cases ho
 cases hc
theorem heap_own {A B : World} {row : Option Nat} {k : Nat} {cs : Array Value} {t : TypeId} {z : Nat × Nat} (h : A.heap[k]? = some (.cells cs t z)) (hg : A.grownBy B row) (hr : ∀ r, row = some r → ∃ o : Obj, A.heap[r]? = some o ∧ o.isCells = false) : B.heap[k]? = some (.cells cs t z) :=
 ownI_cells k cs t z () A B row h hg hr
theorem keepsFrom_of {b N : Nat} {W W' : World} (hk : Keep (fun k => k = b) W W') (hb : b < N) : KeepsFrom N W W' :=
 ⟨hk.size, fun k o hB h _ => (hk.block k (heap_lt h) (by show k ≠ b; omega)).trans h⟩
theorem SMap.updateIn {F0 : Fence} {nF : Nat} {w : World} {b n : Nat} {z : Value} {F : ByteArray → Value} {p : ByteArray → Bool} {P : Program} (hP : P = Tryz.prog) (h : SMap w b n z F p) (hn : n < maxLen) {ops : Array Oper} {rest : List Oper} {o : Oper} {a : Act} {Q : Exit → Act → World → Prop}
 (hg : o.guard = none) {m x u : Operand} {t e : TypeId} (hop : o.op = Op.mapUpdate t m x u) (ht : P.underlying t = some (.map 9 e))
 (hm : a.eval m = .map (some b)) {s : ByteArray} (hx : a.eval x = .string s) (hs : s.size ≤ maxLen) {v : Value} (hv : a.eval u = v)
 (hK : ∀ w', SMap w' b (n + 1) z (fun t => if t = s then v else F t) (fun t => decide (t = s) || p t) → Keep (fun k => k = b) w w' → wpListIn F0 nF P ops Q rest (a.put o.dst undef) w') : wpListIn F0 nF P ops Q (o :: rest) a w := by
 subst hP
 obtain ⟨D, h1, h2⟩ := h
 refine wpListIn_mapUpdate_own _ hg m x u t hop 9 e Tryz.law9 ht heldR b n D hm h1 hn _ _ (key s) hx hv (Go.WideMaps.keyOf_string_mk Tryz.underlying9 hs) _ [] rfl fun w' hown hg' => hK w' ⟨_, hown, fun t ht => ?_⟩ (Keep.of_grown hg' (fun k e => by cases e; rfl))
 obtain ⟨q1, q2⟩ := h2 t ht
 by_cases hts : t = s
 · subst hts
   exact ⟨by show _ = DataW.held (if t = t then v else F t); rw [if_pos rfl]; exact Go.Maps.atKey_put_same h1.isMap (key_ok t) _ _, by rw [Go.Maps.has_put_same h1.isMap (key_ok t)]; simp⟩
 · have hkn : key t ≠ key s := fun e => hts (key_inj e)
   exact ⟨by show _ = DataW.held (if t = s then v else F t); rw [if_neg hts]; exact (Go.Maps.atKey_put_other hkn _ _).trans q1, by rw [Go.Maps.has_put_other hkn, q2]; simp [hts]⟩
theorem SMap.own {b n N : Nat} {z : Value} {F : ByteArray → Value} {p : ByteArray → Bool} {W W' : World} {row : Option Nat} (hs : SMap W b n z F p) (hg : W.grownBy W' row) (hr : ∀ r, row = some r → N ≤ r) (hb : b < N) : SMap W' b n z F p := by
 obtain ⟨D, h1, h2⟩ := hs
 exact ⟨D, h1.kept hg (fun e => by have := hr _ e.symm; omega), h2⟩
def lastF {α : Type} (nm : α → ByteArray) (va : α → Value) (F : ByteArray → Value) : List α → ByteArray → Value
 | [], s => F s
 | x :: t, s => if s = nm x then va x else lastF nm va F t s
def lastP {α : Type} (nm : α → ByteArray) (p : ByteArray → Bool) : List α → ByteArray → Bool
 | [], s => p s
 | x :: t, s => decide (s = nm x) || lastP nm p t s
theorem lastF_find {α : Type} {nm : α → ByteArray} {va : α → Value} {F : ByteArray → Value} (s : ByteArray) : ∀ l : List α, lastF nm va F l s = match l.find? (fun x => decide (nm x = s)) with | some x => va x | none => F s
 | [] => rfl
 | x :: t => by
  simp only [lastF, List.find?_cons]
  by_cases h : s = nm x
  · simp [h]
  · have h' : ¬ nm x = s := fun e => h e.symm
    simp [h, h', lastF_find s t]
theorem lastP_find {α : Type} {nm : α → ByteArray} {p : ByteArray → Bool} (s : ByteArray) : ∀ l : List α, lastP nm p l s = match l.find? (fun x => decide (nm x = s)) with | some _ => true | none => p s
 | [] => rfl
 | x :: t => by
  simp only [lastP, List.find?_cons]
  by_cases h : s = nm x
  · simp [h]
  · have h' : ¬ nm x = s := fun e => h e.symm
    simp [h, h', lastP_find s t]
theorem backTo_all (len : Nat) : (backTo len len).reverse = List.finRange len := by
 unfold backTo
 rw [List.take_of_length_le (by simp), List.reverse_reverse]
theorem find_fin {α : Type} (l : List α) (p : α → Bool) : l.find? p = ((List.finRange l.length).find? (fun i => p l[i])).map (fun i => l[i]) := by
 have : l = (List.finRange l.length).map (fun i => l[i]) := by
  apply List.ext_getElem
  · simp
  · intro i h1 h2; simp
 conv => lhs; rw [this]
 rw [List.find?_map]
 rfl
theorem four_allocs (w : World) (o1 o2 o3 o4 : Obj) : ((((w.alloc o1).alloc o2).alloc o3).alloc o4).heap.size = w.heap.size + 4 ∧ ((((w.alloc o1).alloc o2).alloc o3).alloc o4).heap[w.heap.size]? = some o1 ∧ ((((w.alloc o1).alloc o2).alloc o3).alloc o4).heap[w.heap.size + 1]? = some o2 ∧
 ((((w.alloc o1).alloc o2).alloc o3).alloc o4).heap[w.heap.size + 1 + 1]? = some o3 ∧ ((((w.alloc o1).alloc o2).alloc o3).alloc o4).heap[w.heap.size + 1 + 1 + 1]? = some o4 ∧ Below w.heap.size w ((((w.alloc o1).alloc o2).alloc o3).alloc o4) := by
 have s1 : (w.alloc o1).heap.size = w.heap.size + 1 := by simp
 have s2 : ((w.alloc o1).alloc o2).heap.size = w.heap.size + 1 + 1 := by simp
 have s3 : (((w.alloc o1).alloc o2).alloc o3).heap.size = w.heap.size + 1 + 1 + 1 := by simp
 refine ⟨by simp, ?_, ?_, ?_, ?_, ?_⟩
 · rw [Below.heap_alloc _ _ _ (by omega), Below.heap_alloc _ _ _ (by omega), Below.heap_alloc _ _ _ (by omega), heap_alloc_new]
 · rw [Below.heap_alloc _ _ _ (by omega), Below.heap_alloc _ _ _ (by omega), ← s1, heap_alloc_new]
 · rw [Below.heap_alloc _ _ _ (by omega), ← s2, heap_alloc_new]
 · rw [← s3, heap_alloc_new]
 · exact ((((Below.refl _ w).alloc (Nat.le_refl _) _).alloc (by omega) _).alloc (by omega) _).alloc (by omega) _
theorem list_rows {α σ : Type} [Inhabited σ] {B k : Nat} {R : World → Nat → Nat → α → Prop} {w : World} {A : Option Addr} {xs : List α} (row : α → σ → List Value) (Φ : α → σ → Prop) (hR : ∀ b o x, R w b o x → ∃ s, CellsAt w b o (row x s) ∧ Φ x s) (h : ListAt B k R w A xs) :
 ∃ sf : Nat → σ, (0 < xs.length → ∃ b off, A = some ⟨b, off, none⟩ ∧ b < B ∧ ∀ j (hj : j < xs.length), CellsAt w b (off + j * k) (row xs[j] (sf j))) ∧ ∀ i (hi : i < xs.length), Φ xs[i] (sf i) := by
 rcases Nat.eq_zero_or_pos xs.length with h0 | hpos
 · exact ⟨fun _ => default, fun h => by omega, fun i hi => by omega⟩
 · obtain ⟨b, off, hA, hb, hc⟩ := h hpos
   have hx : ∀ j, ∃ s, ∀ hj : j < xs.length, CellsAt w b (off + j * k) (row xs[j] s) ∧ Φ xs[j] s := fun j => by
    by_cases hj : j < xs.length
    · obtain ⟨s, hs⟩ := hR _ _ _ (hc j xs[j] (List.getElem?_eq_getElem hj))
      exact ⟨s, fun _ => hs⟩
    · exact ⟨default, fun h => absurd h hj⟩
   exact ⟨fun j => Classical.choose (hx j), fun _ => ⟨b, off, hA, hb, fun j hj => (Classical.choose_spec (hx j) hj).1⟩, fun i hi => (Classical.choose_spec (hx i) hi).2⟩
end Go.Proofs.YtpblcjipmoblnaaGreatDoor
namespace Go.Proofs.YtpblcjipmoblnaaGreatDoor
open Go.RowKit Go.IntWalk Ck
theorem lane_cpu (w : World) (bz : Nat) (c0 cpu n c : Nat) (p : Int) (nd : Bool) (A : Option Addr) (hb : w.heap[bz]? = some (.cells #[.int .u64 c0] 39 (0, 0))) :
 Calls Tryz.prog 113 #[.agg #[.int .i64 p, .int .u64 cpu, .bool nd, .slice A n c], .pointer (some ⟨bz, 0, none⟩)] w fun e w' => e = .returned (.bool (decide (cpu = c0))) ∧ Keep (fun _ => False) w w' := by
 have hb' : (w.alloc (.cells #[.int .i64 p, .int .u64 cpu, .bool nd, .slice A n c] 92)).cell? ⟨bz, 0, none⟩ = some (.int .u64 c0) := cell_of_one ((Below.heap_alloc _ _ _ (heap_lt hb)).trans hb)
 have e1 : ((cpu : Int) == (c0 : Int)) = decide (cpu = c0) := nat_eqb _ _
 clear hb
 go_enter Tryz.func113, Tryz.ntmps113
 go_wp2
 go_ret
 exact ⟨by simp [e1], (Keep.refl _ _).alloc _⟩
def idxOf (ls : List Lane) (c0 : Nat) : Int := match ls.findIdx? (fun y => decide (y.cpu = c0)) with | some i => i | none => -1
theorem idx_none {ls : List Lane} {c0 : Nat} (h : ∀ y ∈ ls, y.cpu ≠ c0) : idxOf ls c0 = -1 := by
 unfold idxOf
 rw [List.findIdx?_eq_none_iff.2 (fun y hy => by simpa using h y hy)]
theorem idx_some {ls : List Lane} {c0 k : Nat} {x : Lane} (hx : ls[k]? = some x) (hc : x.cpu = c0) (h : ∀ y ∈ ls.take k, y.cpu ≠ c0) : idxOf ls c0 = k := by
 unfold idxOf
 obtain ⟨hk, hxe⟩ := List.getElem?_eq_some_iff.1 hx
 rw [List.findIdx?_eq_some_iff_getElem.2 ⟨hk, by rw [hxe]; simpa using hc, fun j hj => by
  have := h (ls[j]'(by omega)) (List.mem_take_iff_getElem.2 ⟨j, by omega, rfl⟩)
  simpa using this⟩]
theorem index_lanes {B : Nat} {w : World} {A : Option Addr} {c : Nat} {ls : List Lane} (hs : SliceAt B 4 (LaneAt B) w (.slice A ls.length c) ls) (hB : B ≤ w.heap.size) {bz c0 : Nat} (hb : w.heap[bz]? = some (.cells #[.int .u64 c0] 39 (0, 0))) :
 Calls Tryz.prog 112 #[.slice A ls.length c, .func (.func 113) #[] #[.pointer (some ⟨bz, 0, none⟩)]] w fun e w' => e = .returned (.int .i64 (idxOf ls c0)) ∧ Keep (fun _ => False) w w' := by
 obtain ⟨_, _, e, hnc, hn, hl⟩ := hs
 cases e
 unfold top at hn
 have HLS := Lib.hid hl
 have HB := Lib.hid hb
 have hbl0 := heap_lt hb
 clear hl hb
 refine calls_abs Tryz.func112 Tryz.ntmps112 rfl (by show 2 ≤ 19; decide) fun a hsz hd h => ?_
 have h0 : At a 0 (.slice A ls.length c) := h 0 _ rfl
 have h1 : At a 1 (.func (.func 113) #[] #[.pointer (some ⟨bz, 0, none⟩)]) := h 1 _ rfl
 clear h
 conv => arg 2; whnf
 refine wp_seq (Code.wp_only (R := fun a1_ wa1_ => Agree (fun i => i == 4) a a1_ ∧ wa1_ = w) ?_ ?_)
 · have hAr : Agree (fun i => i == 4) a a := Agree.refl _ _
   obtain ⟨T, d⟩ := a
   refine wp_region_lit ?_
   with_reducible refine st ?_
   refine wpList_nil ⟨rfl, ag, rfl⟩
 rintro a1_ wa1_ ⟨hAa1_, rfl⟩
 replace h0 := hAa1_.at_ h0 rfl
 replace h1 := hAa1_.at_ h1 rfl
 have hsz_ := hAa1_.size.trans hsz
 have hd_ := hAa1_.defers.trans hd
 refine wp_seq (wp_seq (Code.wp_only (R := fun a2_ wa2_ => Agree (fun i => i == 6 || i == 7 || i == 8) a1_ a2_ ∧ At a2_ 7 (.int .i64 ls.length) ∧ At a2_ 8 (.int .i64 0) ∧ wa2_ = wa1_) ?_ ?_))
 · have hAr : Agree (fun i => i == 6 || i == 7 || i == 8) a1_ a1_ := Agree.refl _ _
   obtain ⟨T, d⟩ := a1_
   refine wp_region_lit ?_
   iterate 3 with_reducible refine st ?_
   refine wpList_nil ⟨rfl, ag, aq, aq, rfl⟩
 rintro a2_ wa2_ ⟨hAa2_, k_n, k_i, rfl⟩
 replace h0 := hAa2_.at_ h0 rfl
 replace h1 := hAa2_.at_ h1 rfl
 have hsz__ := hAa2_.size.trans hsz_
 have hd__ := hAa2_.defers.trans hd_
 refine wp_range ls.length (fun i => i == 4 || i == 5 || (decide (8 ≤ i) && decide (i ≤ 18))) (fun i => i == 4 || i == 5 || (decide (10 ≤ i) && decide (i ≤ 17))) (fun k _ w' => (∀ y ∈ ls.take k, y.cpu ≠ c0) ∧ Keep (fun _ => False) wa2_ w') (by omega) k_i k_n (by decide) rfl
  (by intro j; simp; omega) (by omega) (by decide) (fun k a1 a2 w hA hI => hI) ⟨by simp, Keep.refl _ _⟩ ?_ ?_
 · rintro n b wr hlt hA k_j ⟨hno, hk⟩
   obtain ⟨bl, off, rfl, hbl, hcs⟩ := HLS.out (by omega)
   obtain ⟨x, hx⟩ : ∃ x, ls[n]? = some x := ⟨_, List.getElem?_eq_getElem hlt⟩
   obtain ⟨vv, hc, ⟨A_r, c_r, rfl, _⟩, _, hcl⟩ := (lane_stays B) _ _ _ _ _ (hk.below (B := B) (by omega) (fun _ _ h => h)) hbl (hcs n x hx)
   have q0 := hc.c0
   have q1 := hc 1 _ rfl
   have q2 := hc 2 _ rfl
   have q3 := hc 3 _ rfl
   have k_0 := hA.at_ h0 rfl
   have k_1 := hA.at_ h1 rfl
   have hszb := hA.size.trans hsz__
   have hdb := hA.defers.trans hd__
   have hszw := hk.size
   have hblr : bl < wr.heap.size := by omega
   have hkc : n ≤ c := by omega
   have hcall := lane_cpu wr bz c0 x.cpu x.runs.length c_r x.pos x.needs A_r ((hk.block bz hbl0 (fun h => h)).trans HB.out)
   have HX := Lib.hid hx
   have HC := Lib.hid hcall
   have HK := Lib.hid hk
   have HNO := Lib.hid hno
   clear hx hcs hc hA hk hno hcall hcl
   refine wp_seq (Code.wp_only (R := fun a3_ wa3_ => Agree (fun i => i == 10 || i == 5) b a3_ ∧ At a3_ 5 (.int .i64 n) ∧ wa3_ = wr) ?_ ?_)
   · have hAr : Agree (fun i => i == 10 || i == 5) b b := Agree.refl _ _
     obtain ⟨T, d⟩ := b
     refine wp_region_lit ?_
     iterate 2 with_reducible refine st ?_
     refine wpList_nil ⟨rfl, ag, aq, rfl⟩
   rintro a3_ wa3_ ⟨hAa3_, k_5, rfl⟩
   replace k_0 := hAa3_.at_ k_0 rfl
   replace k_1 := hAa3_.at_ k_1 rfl
   replace k_j := hAa3_.at_ k_j rfl
   have hszb_ := hAa3_.size.trans hszb
   have hdb_ := hAa3_.defers.trans hdb
   refine wp_seq (Code.wp_only (R := fun a4_ wa4_ => Agree (fun i => (decide (11 ≤ i) && decide (i ≤ 16))) a3_ a4_ ∧ At a4_ 16 (.bool (decide (x.cpu = c0))) ∧ Keep (fun _ => False) wa3_ wa4_) ?_ ?_)
   · have hAr : Agree (fun i => (decide (11 ≤ i) && decide (i ≤ 16))) a3_ a3_ := Agree.refl _ _
     obtain ⟨T, d⟩ := a3_
     refine wp_region_lit ?_
     iterate 5 with_reducible refine st ?_
     with_reducible refine wpList_step (fun K hK => ?_)
     go_simp
     refine HC.out.mono ?_
     rintro e w2 ⟨rfl, hk2⟩
     with_reducible refine hK _ _ ?_
     clear hK K
     refine wpList_nil ⟨rfl, ?_, ?_, ?_⟩
     · exact ag
     · exact aq
     · exact hk2
   rintro a4_ wa4_ ⟨hAa4_, k_16, hk2⟩
   replace k_0 := hAa4_.at_ k_0 rfl
   replace k_1 := hAa4_.at_ k_1 rfl
   replace k_j := hAa4_.at_ k_j rfl
   replace k_5 := hAa4_.at_ k_5 rfl
   have hszb__ := hAa4_.size.trans hszb_
   have hdb__ := hAa4_.defers.trans hdb_
   refine wp_cond_split (k_16.eval (by omega)) (fun hy => ?_) (fun hy => ?_)
   · have hcc : x.cpu = c0 := of_decide_eq_true hy
     refine wp_seq (Code.wp_only (R := fun a5_ wa5_ => Agree (fun i => i == 4 || i == 17) a4_ a5_ ∧ At a5_ 4 (.int .i64 n) ∧ wa5_ = wa4_) ?_ ?_)
     · have hAr : Agree (fun i => i == 4 || i == 17) a4_ a4_ := Agree.refl _ _
       obtain ⟨T, d⟩ := a4_
       refine wp_region_lit ?_
       iterate 2 with_reducible refine st ?_
       refine wpList_nil ⟨rfl, ag, aq, rfl⟩
     rintro a5_ wa5_ ⟨hAa5_, k_4, rfl⟩
     replace k_5 := hAa5_.at_ k_5 rfl
     have hszb___ := hAa5_.size.trans hszb__
     have hdb___ := hAa5_.defers.trans hdb__
     refine wp_ret ?_
     repeat (first | with_reducible apply inbody_ret | with_reducible apply then_ret)
     refine post_tmp (t := 4) rfl k_4 (by rw [hszb___]; decide) hdb___ ?_
     exact ⟨by rw [idx_some HX.out hcc HNO.out], HK.out.trans hk2 (fun _ _ h => h)⟩
   · have hcc : x.cpu ≠ c0 := of_decide_eq_false hy
     refine wp_skip ?_
     refine ⟨?_, fun y hy => ?_, HK.out.trans hk2 (fun _ _ h => h)⟩
     · refine Agree.trans (hAa3_.mono ?_) hAa4_ ?_ <;> (intro j; simp; omega)
     · rw [take_at HX.out] at hy
       rcases List.mem_append.1 hy with h | h
       · exact HNO.out y h
       · obtain rfl : y = x := by simpa using h
         exact hcc
 · rintro b wr hA ⟨hno, hk⟩
   rw [List.take_length] at hno
   have hszb := hA.size.trans hsz__
   have hdb := hA.defers.trans hd__
   refine wp_seq (Code.wp_only (R := fun a6_ wa6_ => Agree (fun i => i == 4) b a6_ ∧ At a6_ 4 (.int .i64 (-1)) ∧ wa6_ = wr) ?_ ?_)
   · have hAr : Agree (fun i => i == 4) b b := Agree.refl _ _
     obtain ⟨T, d⟩ := b
     refine wp_region_lit ?_
     with_reducible refine st ?_
     refine wpList_nil ⟨rfl, ag, aq, rfl⟩
   rintro a6_ wa6_ ⟨hAa6_, k_4, rfl⟩
   have hszb_ := hAa6_.size.trans hszb
   have hdb_ := hAa6_.defers.trans hdb
   refine wp_ret ?_
   repeat (first | with_reducible apply inbody_ret | with_reducible apply then_ret)
   refine post_tmp (t := 4) rfl k_4 (by rw [hszb_]; decide) hdb_ ?_
   exact ⟨by rw [idx_none hno], hk⟩
end Go.Proofs.YtpblcjipmoblnaaGreatDoor
