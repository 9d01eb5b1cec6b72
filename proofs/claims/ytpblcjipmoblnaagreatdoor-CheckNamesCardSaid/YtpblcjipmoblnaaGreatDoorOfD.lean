/- SpanB OfA OfC OfD -/
import Derived.Test.YtpblcjipmoblnaaGreatDoorTheirs
import Derived.Test.YtpblcjipmoblnaaGreatDoorRowsC
set_option maxRecDepth 100000
set_option maxHeartbeats 4000000
set_option linter.unusedVariables false
set_option linter.unusedSimpArgs false
namespace Go.Proofs.YtpblcjipmoblnaaGreatDoor
open Go.RowKit Go.IntWalk Ck
def spC (l : List Sp) : List Value := l.flatMap encSp
theorem spC_snoc (l : List Sp) (x : Sp) : spC (l ++ [x]) = spC l ++ encSp x := by simp [spC]
theorem spC_len (l : List Sp) : (spC l).length = l.length * 2 := by
 induction l with
 | nil => rfl
 | cons x t ih => simp only [spC, List.flatMap_cons, List.length_append] at ih ⊢; rw [ih]; simp [encSp]; omega
theorem spC_at : ∀ (l : List Sp) (i : Nat) (s : Sp), l[i]? = some s → (spC l)[i * 2]? = some (.int .u64 s.1) ∧ (spC l)[i * 2 + 1]? = some (.int .u64 s.2)
 | [], _, _, h => by simp at h
 | x :: t, 0, s, h => by
  have : x = s := by simpa using h
  subst this
  exact ⟨rfl, rfl⟩
 | x :: t, i + 1, s, h => by
  obtain ⟨h1, h2⟩ := spC_at t i s (by simpa using h)
  have e : spC (x :: t) = .int .u64 x.1 :: .int .u64 x.2 :: spC t := rfl
  rw [e]
  refine ⟨?_, ?_⟩
  · rw [show (i + 1) * 2 = i * 2 + 1 + 1 by omega]; simpa using h1
  · rw [show (i + 1) * 2 + 1 = i * 2 + 1 + 1 + 1 by omega]; simpa using h2
theorem Tryz.info180 : (Tryz.prog.info? 180).map (fun i => (i.zero, i.size, i.bytes)) = some (some (.agg #[.int .u64 0, .int .u64 0]), 2, 16) := by kernel_rfl
theorem append_sp {w : World} {P : Program} (hP : P = Tryz.prog) {ops : Array Oper} {rest : List Oper} {o : Oper} {a : Act} {Q : Exit → Act → World → Prop} (hgd : o.guard = none) {s x : Operand}
 (ho : o.op = .call { callee := .builtin .append, args := #[s, x], argTypes := #[173, 173] }) {Z : Nat} {u : Value} {l : List Sp} (hs : a.eval s = u) (hown : w.ownsRow Z 180 2 u l.length (spC l)) (hn : l.length ≤ 8388608)
 {blk : Nat} {p : Sp} (hx : a.eval x = .slice (some ⟨blk, 0, none⟩) 1 1) (c0 : w.cell? ⟨blk, 0, none⟩ = some (.int .u64 p.1)) (c1 : w.cell? ⟨blk, 1, none⟩ = some (.int .u64 p.2)) (hZ : Z ≤ w.heap.size)
 (h : ∀ u' w', w'.ownsRow Z 180 2 u' (l.length + 1) (spC (l ++ [p])) → Keep (fun k => u.ownBlock = some k) w w' → wpList P ops Q rest (a.put o.dst u') w') : wpList P ops Q (o :: rest) a w := by
 subst hP
 obtain ⟨i0, hi, hz0, hz1, hz2⟩ := info_parts Tryz.info180
 have hadd : ∀ j, (⟨blk, 0, none⟩ : Addr).add j = ⟨blk, j, none⟩ := fun j => by unfold Addr.add; split <;> simp_all
 refine wpList_append_lies w hgd s x 173 ho Z 180 i0 (.agg #[.int .u64 0, .int .u64 0]) 2 16 Tryz.underlying173 hi hz0 hz1 hz2 rfl (by omega) u l.length (spC l) hs hown ⟨blk, 0, none⟩ 1 1 (encSp p) hx rfl (fun j v hv => ?_) ?_ (by omega) (by unfold maxLen; omega) (by omega) hZ w.heap.size rfl ?_
 · rw [hadd]
   match j, hv with
   | 0, hv => cases hv; exact c0
   | 1, hv => cases hv; exact c1
   | j + 2, hv => simp [encSp] at hv
 · simp [encSp, Value.oneCell']
 · intro g cap w' h1 h2 h3 h4
   refine h _ w' ?_ (Keep.of_grown h2 (fun k e => e))
   rw [spC_snoc]
   exact h1
theorem spans_of_own {w : World} {Z pb : Nat} {u : Value} {l : List Sp} (h : w.ownsRow Z 180 2 u l.length (spC l)) (hl : l.length ≤ 4194304) (hpb : pb < Z) (hok : ∀ s ∈ l, s.1 < lim ∧ s.2 < lim) : SpansAt w pb u l := by
 rcases Nat.eq_zero_or_pos l.length with h0 | h0
 · rcases h.2 with ⟨e1, _⟩ | ⟨g, cap, cur, e1, _, _, hc, _⟩
   · exact ⟨none, 0, by rw [e1, h0], by omega, hl, fun h => by omega⟩
   · exact ⟨_, _, e1, hc, hl, fun h => by omega⟩
 · obtain ⟨g, cap, hv, hB, hlt⟩ := h.form h0
   subst hv
   have hc : l.length ≤ cap := by
    rcases h.2 with ⟨e1, _⟩ | ⟨g', cap', cur, e1, _, _, hc, _⟩
    · cases e1
    · cases e1; exact hc
   refine ⟨_, _, rfl, hc, hl, fun _ => ⟨g, rfl, hlt, by omega, fun i s hs => ?_⟩⟩
   obtain ⟨h1, h2⟩ := spC_at l i s hs
   have hil := (List.getElem?_eq_some_iff.1 hs).1
   exact ⟨(h.cellAt _ (by omega)).trans h1, (h.cellAt _ (by omega)).trans h2, hok s (List.mem_of_getElem? hs)⟩
def keepSp (l : List Sp) : List Sp := l.filter fun s => decide (s.1 ≤ s.2)
theorem keepSp_snoc (l : List Sp) (x : Sp) : keepSp (l ++ [x]) = if x.1 ≤ x.2 then keepSp l ++ [x] else keepSp l := by
 unfold keepSp
 rw [List.filter_append]
 by_cases h : x.1 ≤ x.2 <;> simp [h]
theorem keepSp_len (l : List Sp) : (keepSp l).length ≤ l.length := List.length_filter_le _ _
theorem of_filter {w : World} {pb : Nat} {A : Option Addr} {c : Nat} {xs : List Sp} (hu : SpansAt w pb (.slice A xs.length c) xs) (hpw : pb < w.heap.size) (a : Act) (hsz : a.tmps.size = 80) (h0 : At a 0 (.slice A xs.length c)) (h3 : At a 3 (.slice none 0 0)) (Q : Exit → Act → World → Prop)
 (hQ : ∀ a' w' u', Agree (fun i => i == 3 || i == 5 || (decide (10 ≤ i) && decide (i ≤ 23))) a a' → At a' 3 u' → w'.ownsRow w.heap.size 180 2 u' (keepSp xs).length (spC (keepSp xs)) → Keep (fun _ => False) w w' → Q .normal a' w') :
 (codeC Tryz.f124 [1,1,0]).wp Tryz.prog Q a w := by
 obtain ⟨_, _, e, hc, hlen, hcell⟩ := hu
 cases e
 conv => arg 2; whnf
 refine wp_seq (Code.wp_only (R := fun a1 w1 => Agree (fun i => i == 10 || i == 11 || i == 12) a a1 ∧ At a1 10 (.slice A xs.length c) ∧ At a1 11 (.int .i64 xs.length) ∧ At a1 12 (.int .i64 0) ∧ w1 = w) ?_ ?_)
 · clear hcell
   obtain ⟨T, d⟩ := a
   refine wp_region_lit ?_
   iterate 3 with_reducible refine st ?_
   with_reducible refine wpList_nil ?_
   refine ⟨rfl, ag, aq, aq, aq, rfl⟩
 rintro a0 w0 ⟨hA0, k_s, k_n, k_i, rfl⟩
 have hsz0 := hA0.size.trans hsz
 replace h3 := hA0.at_ h3 rfl
 obtain ⟨Z, hZ⟩ : ∃ z, z = w0.heap.size := ⟨_, rfl⟩
 rw [← hZ] at hQ
 have HZ := Lib.hid hZ
 have hpz : pb < Z := by omega
 clear hZ
 refine wp_range xs.length (fun i => i == 3 || i == 5 || (decide (12 ≤ i) && decide (i ≤ 23))) (fun i => i == 3 || i == 5 || (decide (14 ≤ i) && decide (i ≤ 22))) (fun k a' w' => ∃ u, At a' 3 u ∧ w'.ownsRow Z 180 2 u (keepSp (xs.take k)).length (spC (keepSp (xs.take k))) ∧ Keep (fun _ => False) w0 w') (by omega) k_i k_n (by decide) rfl
  (by intro j; simp; omega) (by omega) (by decide) (fun k a1 a2 w hA ⟨u, h1, h2⟩ => ⟨u, hA.at_ h1 rfl, h2⟩) ⟨_, h3, by simpa [keepSp, spC] using World.ownsRow_nil _ _ _ _, Keep.refl _ _⟩ ?_ ?_
 · rintro k a1 wr hlt hA k_j ⟨u, k_3, hown, hk⟩
   obtain ⟨g, rfl, hg, hgp, hgc⟩ := hcell (by omega)
   obtain ⟨x, hx⟩ : ∃ x, xs[k]? = some x := ⟨_, List.getElem?_eq_getElem hlt⟩
   obtain ⟨c1, c2, c3, c4⟩ := hgc k x hx
   unfold lim at c3 c4
   have q0 : wr.cell? ⟨g, k * 2, none⟩ = some (.int .u64 x.1) := (hk.cell (p := ⟨g, k * 2, none⟩) hg (fun h => h)).trans c1
   have q1 : wr.cell? ⟨g, k * 2 + 1, none⟩ = some (.int .u64 x.2) := (hk.cell (p := ⟨g, k * 2 + 1, none⟩) hg (fun h => h)).trans c2
   have k_sl := hA.at_ k_s rfl
   have hsz1 := hA.size.trans hsz0
   have hszw := hk.size
   have hgr : g < wr.heap.size := by omega
   have hkc : k ≤ c := by omega
   have HX := Lib.hid hx
   have HO := Lib.hid hown
   have HK := Lib.hid hk
   have HA := Lib.hid hA
   clear hx hown hk hA hgc c1 c2 hcell
   refine wp_seq (Code.wp_only (R := fun a2 w2 => Agree (fun i => i == 14 || i == 15 || i == 5) a1 a2 ∧ At a2 5 (.pointer (some ⟨wr.heap.size, 0, none⟩)) ∧ w2 = wr.alloc (.cells #[.int .u64 x.1, .int .u64 x.2] 180)) ?_ ?_)
   · obtain ⟨T, d⟩ := a1
     refine wp_region_lit ?_
     iterate 4 with_reducible refine st ?_
     with_reducible refine wpList_nil ?_
     refine ⟨rfl, ag, aq, rfl⟩
   rintro a2 wo ⟨hA2, k_5, hwo⟩
   obtain ⟨z, hz⟩ : ∃ z, z = wr.heap.size := ⟨_, rfl⟩
   rw [← hz] at k_5
   have hx0 : CellsAt wo z 0 [.int .u64 x.1, .int .u64 x.2] := by rw [hwo, hz]; exact cells_new _ _ _
   have hzo : z < wo.heap.size := by rw [hwo, hz]; simp
   have hko : Keep (fun _ => False) wr wo := by rw [hwo]; exact (Keep.refl _ _).alloc _
   have hsz2 := hA2.size.trans hsz1
   have j_3 := hA2.at_ k_3 rfl
   have HO1 := Lib.hid (rowOwn_keep HO.out hko (fun _ _ h => h))
   have HK1 := Lib.hid (HK.out.trans hko (fun _ _ h => h))
   have hszo := hko.size
   have HAg : Hid (Agree (fun i => i == 3 || i == 5 || (decide (14 ≤ i) && decide (i ≤ 22))) a1 a2) := hA2.mono (by intro j; simp; omega)
   clear hwo hz hko HO HK hA2 q0 q1 k_sl k_3 k_j
   refine wp_seq (Code.wp_only (R := fun a3 w3 => Agree (fun i => i == 16 || i == 17 || i == 18) a2 a3 ∧ At a3 18 (.bool (!decide (x.2 < x.1))) ∧ Keep (fun _ => False) wo w3) ?_ ?_)
   · have q0 := hx0.c0
     have q1 := hx0 1 _ rfl
     obtain ⟨t, ht⟩ : ∃ t, t = decide (x.2 < x.1) := ⟨_, rfl⟩
     rw [← ht]
     have hc := none_any x.1 x.2 wo
     rw [← ht] at hc
     have HC := Lib.hid hc
     clear hc ht
     obtain ⟨T, d⟩ := a2
     refine wp_region_lit ?_
     with_reducible refine st ?_
     with_reducible refine wpList_step (fun K hK => ?_)
     go_simp
     refine HC.out.mono ?_
     rintro e w3 ⟨rfl, hk3⟩
     with_reducible refine hK _ _ ?_
     clear hK K
     have HK3 := Lib.hid hk3
     clear hk3
     with_reducible refine st ?_
     with_reducible refine wpList_nil ?_
     refine ⟨rfl, ag, aq, HK3.out⟩
   rintro a3 w3 ⟨hA3, k18, hk3⟩
   have hsz3 := hA3.size.trans hsz2
   have e18 := k18.eval (by omega)
   have l_3 := hA3.at_ j_3 rfl
   have l_5 := hA3.at_ k_5 rfl
   have hx3 := hx0.keep hk3 hzo (fun h => h)
   have hz3 : z < w3.heap.size := Nat.lt_of_lt_of_le hzo hk3.size
   have HO3 := Lib.hid (rowOwn_keep HO1.out hk3 (fun _ _ h => h))
   have HK3 := Lib.hid (HK1.out.trans hk3 (fun _ _ h => h))
   have HAg3 : Hid (Agree (fun i => i == 3 || i == 5 || (decide (14 ≤ i) && decide (i ≤ 22))) a1 a3) := HAg.out.trans hA3 (by intro j; simp; omega)
   have hkl : (keepSp (xs.take k)).length ≤ 4194304 := by have := keepSp_len (xs.take k); rw [List.length_take] at this; omega
   clear hA3 hk3 HO1 HK1 hx0
   by_cases hxx : x.2 < x.1
   · rw [decide_eq_true hxx] at e18
     refine wp_cond_false e18 (wp_skip ?_)
     refine ⟨HAg3.out, u, l_3, ?_, HK3.out⟩
     rw [take_at HX.out, keepSp_snoc, if_neg (by omega)]
     exact HO3.out
   · rw [decide_eq_false hxx] at e18
     refine wp_cond_true e18 ?_
     refine Code.wp_only (R := fun a4 w4 => Agree (fun i => i == 3 || (decide (19 ≤ i) && decide (i ≤ 22))) a3 a4 ∧ (∃ u', At a4 3 u' ∧ w4.ownsRow Z 180 2 u' ((keepSp (xs.take k)).length + 1) (spC (keepSp (xs.take k) ++ [x]))) ∧ Keep (fun _ => False) w0 w4) ?_ ?_
     · have q0 := hx3.c0
       have q1 := hx3 1 _ rfl
       obtain ⟨l, hl⟩ : ∃ l, l = keepSp (xs.take k) := ⟨_, rfl⟩
       rw [← hl] at HO3 hkl ⊢
       have HLL := Lib.hid hl
       clear hl hx3 e18
       obtain ⟨T, d⟩ := a3
       refine wp_region_lit ?_
       iterate 3 with_reducible refine st ?_
       have hb := cells_new w3 [.int .u64 x.1, .int .u64 x.2] 180
       have hka : Keep (fun _ => False) w3 (w3.alloc (.cells #[.int .u64 x.1, .int .u64 x.2] 180)) := (Keep.refl _ _).alloc _
       have HOA := Lib.hid (rowOwn_keep HO3.out hka (fun _ _ h => h))
       refine append_sp rfl rfl rfl (At.eval (by exact aq) (by have := hsz3; simp at this ⊢; omega)) HOA.out (by omega) (At.eval (by exact aq) (by have := hsz3; simp at this ⊢; omega)) hb.c0 (hb 1 _ rfl) (by have := HZ.out; have := hka.size; have := HK3.out.size; omega) ?_
       intro u2 w4 hown4 hk4
       have HU4 := Lib.hid hown4
       have HKA : Hid (Keep (fun _ => False) w0 w4) := (HK3.out.trans hka (fun _ _ h => h)).trans hk4 (fun i hi h => by have := (HO3.out.lt i h).1; have := HZ.out; omega)
       clear hown4 hk4 hb hka
       simp only [Act.put]
       with_reducible refine st ?_
       with_reducible refine wpList_nil ?_
       refine ⟨rfl, ag, ⟨u2, aq, HU4.out⟩, HKA.out⟩
     rintro a4 w4 ⟨hA4, ⟨u', k3', hown'⟩, hk4⟩
     refine ⟨HAg3.out.trans hA4 (by intro j; simp; omega), u', k3', ?_, hk4⟩
     rw [take_at HX.out, keepSp_snoc, if_pos (by omega), List.length_append]
     exact hown'
 · rintro a' w' hA ⟨u, k_3, hown, hk⟩
   rw [List.take_length] at hown
   exact hQ _ _ _ ((hA0.mono (by intro j; simp; omega)).trans hA (by intro j; simp; omega)) k_3 hown hk
theorem of_put {w : World} {Z z : Nat} {u : Value} {l : List Sp} {x : Sp} (a : Act) (hsz : a.tmps.size = 80) (h6 : At a 6 u) (h8 : At a 8 (.pointer (some ⟨z, 0, none⟩))) (HO : Hid (w.ownsRow Z 180 2 u l.length (spC l))) (hl : l.length ≤ 8388608) (hZ : Z ≤ w.heap.size)
 (q0 : w.cell? ⟨z, 0, none⟩ = some (.int .u64 x.1)) (q1 : w.cell? ⟨z, 1, none⟩ = some (.int .u64 x.2)) (Q : Exit → Act → World → Prop)
 (hQ : ∀ a' w' u', Agree (fun i => i == 6 || (decide (73 ≤ i) && decide (i ≤ 76))) a a' → At a' 6 u' → w'.ownsRow Z 180 2 u' (l.length + 1) (spC (l ++ [x])) → Keep (fun k => Z ≤ k) w w' → Q .normal a' w') :
 (codeC Tryz.f124 [1, 1, 1, 1, 1, 0, 1, 0, 0, 1, 1, 0, 0, 1, 1, 1]).wp Tryz.prog Q a w := by
 conv => arg 2; whnf
 refine Code.wp_only (R := fun a4 w4 => Agree (fun i => i == 6 || (decide (73 ≤ i) && decide (i ≤ 76))) a a4 ∧ (∃ u', At a4 6 u' ∧ w4.ownsRow Z 180 2 u' (l.length + 1) (spC (l ++ [x]))) ∧ Keep (fun k => Z ≤ k) w w4) ?_ (fun a4 w4 h => hQ a4 w4 h.2.1.choose h.1 h.2.1.choose_spec.1 h.2.1.choose_spec.2 h.2.2)
 clear hQ
 obtain ⟨T, d⟩ := a
 refine wp_region_lit ?_
 iterate 3 with_reducible refine st ?_
 have hb := cells_new w [.int .u64 x.1, .int .u64 x.2] 180
 have hka : Keep (fun _ => False) w (w.alloc (.cells #[.int .u64 x.1, .int .u64 x.2] 180)) := (Keep.refl _ _).alloc _
 have HOA := Lib.hid (rowOwn_keep HO.out hka (fun _ _ h => h))
 refine append_sp rfl rfl rfl (At.eval (by exact aq) (by have := hsz; simp at this ⊢; omega)) HOA.out (by omega) (At.eval (by exact aq) (by have := hsz; simp at this ⊢; omega)) hb.c0 (hb 1 _ rfl) (by have := hka.size; omega) ?_
 intro u2 w4 hown4 hk4
 have HU4 := Lib.hid hown4
 have HKA : Hid (Keep (fun k => Z ≤ k) w w4) := (hka.mono fun _ _ h => h.elim).trans hk4 (fun i hi h => (HO.out.lt i h).1)
 clear hown4 hk4 hb hka HOA
 simp only [Act.put]
 with_reducible refine st ?_
 with_reducible refine wpList_nil ?_
 refine ⟨rfl, ag, ⟨u2, aq, HU4.out⟩, HKA.out⟩
theorem of_cond0 {w : World} (a : Act) (hsz : a.tmps.size = 80) (h9 : At a 9 (.int .i64 (0 : Nat))) (Q : Exit → Act → World → Prop) (hQ : ∀ a', Agree (fun i => (decide (34 ≤ i) && decide (i ≤ 58))) a a' → At a' 58 (.bool false) → Q .normal a' w.drew) :
 (codeC Tryz.f124 [1, 1, 1, 1, 1, 0, 1, 0, 0, 1, 1, 0, 0, 1, 1, 0, 0]).wp Tryz.prog Q a w := by
 conv => arg 2; whnf
 refine Code.wp_only (R := fun a' w' => Agree (fun i => (decide (34 ≤ i) && decide (i ≤ 58))) a a' ∧ At a' 58 (.bool false) ∧ w' = w.drew) ?_ (fun a4 w4 h => by obtain ⟨h1, h2, rfl⟩ := h; exact hQ a4 h1 h2)
 clear hQ
 have hun := undef_eq
 obtain ⟨T, d⟩ := a
 refine wp_region_still_lit (by kernel_rfl) (by kernel_rfl) ?_
 iterate 25
  with_reducible refine wpStill_step (fun K hK => ?_)
  go_simp
  with_reducible refine hK _ ?_
  clear hK K
 with_reducible refine wpStill_nil ?_
 refine ⟨rfl, ag, aq, rfl⟩
theorem of_cond1 {w : World} {z g c m : Nat} {x y : Sp} (a : Act) (hsz : a.tmps.size = 80) (hm : m + 1 ≤ c) (hm2 : m ≤ 8388608) (hx : x.1 < lim) (hy : y.2 < lim) (h6 : At a 6 (.slice (some ⟨g, 0, none⟩) (m + 1) c)) (h8 : At a 8 (.pointer (some ⟨z, 0, none⟩))) (h9 : At a 9 (.int .i64 ((m + 1 : Nat) : Int)))
 (q0 : w.cell? ⟨z, 0, none⟩ = some (.int .u64 x.1)) (q1 : w.cell? ⟨g, m * 2 + 1, none⟩ = some (.int .u64 y.2)) (Q : Exit → Act → World → Prop) (hQ : ∀ a', Agree (fun i => (decide (34 ≤ i) && decide (i ≤ 58))) a a' → At a' 58 (.bool (decide (x.1 ≤ y.2 + 1))) → Q .normal a' w.drew) :
 (codeC Tryz.f124 [1, 1, 1, 1, 1, 0, 1, 0, 0, 1, 1, 0, 0, 1, 1, 0, 0]).wp Tryz.prog Q a w := by
 unfold lim at hx hy
 conv => arg 2; whnf
 refine Code.wp_only (R := fun a' w' => Agree (fun i => (decide (34 ≤ i) && decide (i ≤ 58))) a a' ∧ At a' 58 (.bool (decide (x.1 ≤ y.2 + 1))) ∧ w' = w.drew) ?_ (fun a4 w4 h => by obtain ⟨h1, h2, rfl⟩ := h; exact hQ a4 h1 h2)
 clear hQ
 have hun := undef_eq
 have hw1 : IntKind.i64.wrap (((m + 1 : Nat) : Int) - 1) = (m : Int) := by rw [show ((m + 1 : Nat) : Int) - 1 = m by omega]; exact i64_in _ (by omega)
 have hw2 : IntKind.i64.wrap (m : Int) = (m : Int) := i64_in _ (by omega)
 obtain ⟨b1, e1⟩ : ∃ t, decide (x.1 ≤ y.2) = t := ⟨_, rfl⟩
 obtain ⟨b2, e2⟩ : ∃ t, ((x.1 : Int) == IntKind.u64.wrap ((y.2 : Int) + 1)) = t := ⟨_, rfl⟩
 obtain ⟨b3, e3⟩ : ∃ t, decide (x.1 ≤ y.2 + 1) = t := ⟨_, rfl⟩
 have HB : Hid (b3 = (b1 || b2)) := by
  refine Lib.hid ?_
  rw [← e1, ← e2, ← e3, int_eqb, IntKind.wrap_u64, Bool.eq_iff_iff]
  simp only [Bool.or_eq_true, decide_eq_true_eq]
  omega
 rw [e3]
 clear e3
 have hlt : (m : Int) < (m : Int) + 1 := by omega
 obtain ⟨T, d⟩ := a
 refine wp_region_still_lit (by kernel_rfl) (by kernel_rfl) ?_
 cases b1
 · skip
   iterate 25
    with_reducible refine wpStill_step (fun K hK => ?_)
    go_simp
    with_reducible refine hK _ ?_
    clear hK K
   with_reducible refine wpStill_nil ?_
   refine ⟨rfl, ?_, ?_, rfl⟩
   · exact ag
   · rw [show b3 = b2 from HB.out]
     exact aq
 · skip
   iterate 25
    with_reducible refine wpStill_step (fun K hK => ?_)
    go_simp
    with_reducible refine hK _ ?_
    clear hK K
   with_reducible refine wpStill_nil ?_
   refine ⟨rfl, ?_, ?_, rfl⟩
   · exact ag
   · rw [show b3 = true from HB.out]
     exact aq
theorem of_max {w : World} {z g c m : Nat} {x y : Sp} (a : Act) (hsz : a.tmps.size = 80) (hm : m + 1 ≤ c) (hm2 : m ≤ 8388608) (h6 : At a 6 (.slice (some ⟨g, 0, none⟩) (m + 1) c)) (h8 : At a 8 (.pointer (some ⟨z, 0, none⟩))) (h9 : At a 9 (.int .i64 ((m + 1 : Nat) : Int)))
 (q0 : w.cell? ⟨z, 1, none⟩ = some (.int .u64 x.2)) (q1 : w.cell? ⟨g, m * 2 + 1, none⟩ = some (.int .u64 y.2)) (q2 : w.frozen? ⟨g, m * 2 + 1, none⟩ = false) (Q : Exit → Act → World → Prop) (hQ : ∀ a', Agree (fun i => (decide (59 ≤ i) && decide (i ≤ 72))) a a' → Q .normal a' (w.setCell ⟨g, m * 2 + 1, none⟩ (.int .u64 (max y.2 x.2 : Nat))).drew) :
 (codeC Tryz.f124 [1, 1, 1, 1, 1, 0, 1, 0, 0, 1, 1, 0, 0, 1, 1, 0, 1, 0, 0]).wp Tryz.prog Q a w := by
 conv => arg 2; whnf
 refine Code.wp_only (R := fun a' w' => Agree (fun i => (decide (59 ≤ i) && decide (i ≤ 72))) a a' ∧ w' = (w.setCell ⟨g, m * 2 + 1, none⟩ (.int .u64 (max y.2 x.2 : Nat))).drew) ?_ (fun a4 w4 h => by obtain ⟨h1, rfl⟩ := h; exact hQ a4 h1)
 clear hQ
 have hw1 : IntKind.i64.wrap (((m + 1 : Nat) : Int) - 1) = (m : Int) := by rw [show ((m + 1 : Nat) : Int) - 1 = m by omega]; exact i64_in _ (by omega)
 have hw2 : IntKind.i64.wrap (m : Int) = (m : Int) := i64_in _ (by omega)
 have hlt : (m : Int) < (m : Int) + 1 := by omega
 obtain ⟨T, d⟩ := a
 refine wp_region_still_tail 14 (by kernel_rfl) (by kernel_rfl) ?_
 simp only [List.take_succ_cons, List.take_zero, List.drop_succ_cons, List.drop_zero]
 iterate 14
  with_reducible refine wpStill_step (fun K hK => ?_)
  go_simp
  with_reducible refine hK _ ?_
  clear hK K
 with_reducible refine wpStill_nil ?_
 with_reducible refine st ?_
 with_reducible refine wpList_nil ?_
 refine ⟨rfl, ?_, ?_⟩
 · exact ag
 · rw [show (if y.2 < x.2 then (x.2 : Int) else (y.2 : Int)) = ((max y.2 x.2 : Nat) : Int) by split <;> omega]
theorem mergeStep_len (out : List Sp) (x : Sp) : (mergeStep out x).length ≤ out.length + 1 := by
 unfold mergeStep
 split
 · simp
 · rename_i y hy
   have h0 : out ≠ [] := by intro e; rw [e] at hy; simp at hy
   have := List.length_pos_iff.2 h0
   split
   · simp; try omega
   · simp
theorem mergeAll_len (l : List Sp) : ∀ n : Nat, n ≤ l.length → (mergeAll (l.take n)).length ≤ n
 | 0, _ => by simp [mergeAll]
 | n + 1, h => by
  have ih := mergeAll_len l n (by omega)
  rw [List.take_succ_eq_append_getElem (by omega), mergeAll_snoc]
  have := mergeStep_len (mergeAll (l.take n)) l[n]
  omega
theorem mergeStep_lim {out : List Sp} {x : Sp} (h : ∀ s ∈ out, s.1 < lim ∧ s.2 < lim) (hx : x.1 < lim ∧ x.2 < lim) : ∀ s ∈ mergeStep out x, s.1 < lim ∧ s.2 < lim := by
 unfold mergeStep
 split
 · simpa using hx
 · rename_i y hy
   have hy2 := h y (List.mem_of_getLast? hy)
   split
   · intro s hs
     rcases List.mem_append.1 hs with hs | hs
     · exact h s (List.dropLast_subset _ hs)
     · have : s = (y.1, max y.2 x.2) := by simpa using hs
       subst this
       exact ⟨hy2.1, by show max y.2 x.2 < lim; omega⟩
   · intro s hs
     rcases List.mem_append.1 hs with hs | hs
     · exact h s hs
     · have : s = x := by simpa using hs
       subst this
       exact hx
theorem mergeAll_lim : ∀ (n : Nat) (l : List Sp), l.length = n → (∀ s ∈ l, s.1 < lim ∧ s.2 < lim) → ∀ s ∈ mergeAll l, s.1 < lim ∧ s.2 < lim
 | 0, l, hl, _ => by
  have : l = [] := List.length_eq_zero_iff.1 hl
  subst this
  simp [mergeAll]
 | n + 1, l, hl, h => by
  obtain ⟨t, x, rfl⟩ : ∃ t x, l = t ++ [x] := by
   have hne : l ≠ [] := by intro e; rw [e] at hl; simp at hl
   exact ⟨l.dropLast, l.getLast hne, (List.dropLast_concat_getLast hne).symm⟩
  rw [mergeAll_snoc]
  exact mergeStep_lim (mergeAll_lim n t (by simpa using hl) fun s hs => h s (by simp [hs])) (h x (by simp))
theorem set_sp (t : List Sp) (y : Sp) (v : Nat) : (spC (t ++ [y])).set (t.length * 2 + 1) (.int .u64 v) = spC (t ++ [(y.1, v)]) := by
 rw [spC_snoc, spC_snoc, ← spC_len, List.set_append_right _ _ (by omega)]
 congr 1
 rw [show (spC t).length + 1 - (spC t).length = 1 by omega]
 rfl
theorem of_merge {w : World} {pb : Nat} {A : Option Addr} {c : Nat} {xs : List Sp} (hu : SpansAt w pb (.slice A xs.length c) xs) (hpw : pb < w.heap.size) (hlim : ∀ s ∈ xs, s.1 < lim ∧ s.2 < lim) (a : Act) (hsz : a.tmps.size = 80) (h3 : At a 3 (.slice A xs.length c)) (h6 : At a 6 (.slice none 0 0)) (Q : Exit → Act → World → Prop)
 (hQ : ∀ a' w' u', Agree (fun i => i == 6 || i == 8 || i == 9 || (decide (26 ≤ i) && decide (i ≤ 77))) a a' → At a' 6 u' → w'.ownsRow w.heap.size 180 2 u' (mergeAll xs).length (spC (mergeAll xs)) → Keep (fun _ => False) w w' → Q .normal a' w') :
 (codeC Tryz.f124 [1, 1, 1, 1, 1, 0]).wp Tryz.prog Q a w := by
 obtain ⟨_, _, e, hc, hlen, hcell⟩ := hu
 cases e
 conv => arg 2; whnf
 refine wp_seq (Code.wp_only (R := fun a1 w1 => Agree (fun i => i == 26 || i == 27 || i == 28) a a1 ∧ At a1 26 (.slice A xs.length c) ∧ At a1 27 (.int .i64 xs.length) ∧ At a1 28 (.int .i64 0) ∧ w1 = w) ?_ ?_)
 · clear hcell
   obtain ⟨T, d⟩ := a
   refine wp_region_lit ?_
   iterate 3 with_reducible refine st ?_
   with_reducible refine wpList_nil ?_
   refine ⟨rfl, ag, aq, aq, aq, rfl⟩
 rintro a0 w0 ⟨hA0, k_s, k_n, k_i, rfl⟩
 have hsz0 := hA0.size.trans hsz
 replace h6 := hA0.at_ h6 rfl
 obtain ⟨Z, hZ⟩ : ∃ z, z = w0.heap.size := ⟨_, rfl⟩
 rw [← hZ] at hQ
 have HZ := Lib.hid hZ
 have hpz : pb < Z := by omega
 have HLIM := Lib.hid hlim
 clear hZ hlim
 refine wp_range xs.length (fun i => i == 6 || i == 8 || i == 9 || (decide (28 ≤ i) && decide (i ≤ 77))) (fun i => i == 6 || i == 8 || i == 9 || (decide (30 ≤ i) && decide (i ≤ 76))) (fun k a' w' => ∃ u, At a' 6 u ∧ w'.ownsRow Z 180 2 u (mergeAll (xs.take k)).length (spC (mergeAll (xs.take k))) ∧ Keep (fun _ => False) w0 w') (by omega) k_i k_n (by decide) rfl
  (by intro j; simp; omega) (by omega) (by decide) (fun k a1 a2 w hA ⟨u, h1, h2⟩ => ⟨u, hA.at_ h1 rfl, h2⟩) ⟨_, h6, by simpa [mergeAll, spC] using World.ownsRow_nil _ _ _ _, Keep.refl _ _⟩ ?_ ?_
 · rintro k a1 wr hlt hA k_j ⟨u, k_6, hown, hk⟩
   obtain ⟨g, rfl, hg, hgp, hgc⟩ := hcell (by omega)
   obtain ⟨x, hx⟩ : ∃ x, xs[k]? = some x := ⟨_, List.getElem?_eq_getElem hlt⟩
   obtain ⟨c1, c2, c3, c4⟩ := hgc k x hx
   have q0 : wr.cell? ⟨g, k * 2, none⟩ = some (.int .u64 x.1) := (hk.cell (p := ⟨g, k * 2, none⟩) hg (fun h => h)).trans c1
   have q1 : wr.cell? ⟨g, k * 2 + 1, none⟩ = some (.int .u64 x.2) := (hk.cell (p := ⟨g, k * 2 + 1, none⟩) hg (fun h => h)).trans c2
   have k_sl := hA.at_ k_s rfl
   have hsz1 := hA.size.trans hsz0
   have hszw := hk.size
   have hgr : g < wr.heap.size := by omega
   have hkc : k ≤ c := by omega
   have HML : Hid (mergeAll (xs.take (k + 1)) = mergeStep (mergeAll (xs.take k)) x) := by
    refine Lib.hid ?_
    rw [take_at hx, mergeAll_snoc]
   have hol := mergeAll_len xs k (by omega)
   have HOL : Hid (∀ s ∈ mergeAll (xs.take k), s.1 < lim ∧ s.2 < lim) := mergeAll_lim _ _ rfl fun s hs => HLIM.out s (List.mem_of_mem_take hs)
   obtain ⟨out, hout⟩ : ∃ l, l = mergeAll (xs.take k) := ⟨_, rfl⟩
   rw [← hout] at hown HML hol HOL
   have HOT := Lib.hid hout
   clear hout
   obtain ⟨p, cap, rfl⟩ : ∃ p cap, u = .slice p out.length cap := by
    rcases hown.2 with ⟨e1, e2⟩ | ⟨g, cap, cur, e1, _⟩
    · exact ⟨_, _, by rw [e1, e2]⟩
    · exact ⟨_, _, e1⟩
   have HX := Lib.hid hx
   have HO := Lib.hid hown
   have HK := Lib.hid hk
   have HA := Lib.hid hA
   have HC3 := Lib.hid c3
   clear hx hown hk hA hgc c1 c2 hcell c3 c4
   refine wp_seq (Code.wp_only (R := fun a2 w2 => Agree (fun i => i == 30 || i == 31 || i == 8) a1 a2 ∧ At a2 8 (.pointer (some ⟨wr.heap.size, 0, none⟩)) ∧ w2 = wr.alloc (.cells #[.int .u64 x.1, .int .u64 x.2] 180)) ?_ ?_)
   · obtain ⟨T, d⟩ := a1
     refine wp_region_lit ?_
     iterate 4 with_reducible refine st ?_
     with_reducible refine wpList_nil ?_
     refine ⟨rfl, ag, aq, rfl⟩
   rintro a2 wo ⟨hA2, k_8, hwo⟩
   obtain ⟨z, hz⟩ : ∃ z, z = wr.heap.size := ⟨_, rfl⟩
   rw [← hz] at k_8
   have hx0 : CellsAt wo z 0 [.int .u64 x.1, .int .u64 x.2] := by rw [hwo, hz]; exact cells_new _ _ _
   have hzo : z < wo.heap.size := by rw [hwo, hz]; simp
   have hko : Keep (fun _ => False) wr wo := by rw [hwo]; exact (Keep.refl _ _).alloc _
   have hsz2 := hA2.size.trans hsz1
   have j_6 := hA2.at_ k_6 rfl
   have HO1 := Lib.hid (rowOwn_keep HO.out hko (fun _ _ h => h))
   have HK1 := Lib.hid (HK.out.trans hko (fun _ _ h => h))
   have hszo := hko.size
   have HAg : Hid (Agree (fun i => i == 6 || i == 8 || i == 9 || (decide (30 ≤ i) && decide (i ≤ 76))) a1 a2) := hA2.mono (by intro j; simp; omega)
   clear hwo hz hko HO HK hA2 q0 q1 k_sl k_6 k_j
   refine wp_seq (Code.wp_only (R := fun a3 w3 => Agree (fun i => i == 32 || i == 33 || i == 9) a2 a3 ∧ At a3 9 (.int .i64 (out.length : Nat)) ∧ w3 = wo) ?_ ?_)
   · clear hx0
     obtain ⟨T, d⟩ := a2
     refine wp_region_lit ?_
     iterate 3 with_reducible refine st ?_
     with_reducible refine wpList_nil ?_
     refine ⟨rfl, ag, aq, rfl⟩
   rintro a3 w3 ⟨hA3, k_9, rfl⟩
   have hsz3 := hA3.size.trans hsz2
   have l_6 := hA3.at_ j_6 rfl
   have l_8 := hA3.at_ k_8 rfl
   have HAg3 : Hid (Agree (fun i => i == 6 || i == 8 || i == 9 || (decide (30 ≤ i) && decide (i ≤ 76))) a1 a3) := HAg.out.trans hA3 (by intro j; simp; omega)
   have hxd := hx0.keep (Keep.drew (Keep.refl (fun _ => False) w3)) hzo (fun h => h)
   have HOD := Lib.hid (rowOwn_keep HO1.out (Keep.drew (Keep.refl (fun _ => False) w3)) (fun _ _ h => h))
   have hzw : Z ≤ w3.drew.heap.size := by have := HZ.out; have := HK1.out.size; show Z ≤ w3.heap.size; omega
   clear hA3 HAg
   refine wp_seq (wp_seq ?_)
   cases hgl : out.getLast? with
   | none =>
    have hnil : out = [] := List.getLast?_eq_none_iff.1 hgl
    subst hnil
    refine of_cond0 a3 hsz3 k_9 _ (fun a4 hA4 k58 => ?_)
    have hsz4 := hA4.size.trans hsz3
    refine wp_cond_false (k58.eval (by omega)) (wp_skip ?_)
    repeat with_reducible apply then_normal
    refine of_put a4 hsz4 (hA4.at_ l_6 rfl) (hA4.at_ l_8 rfl) HOD (by simp) hzw hxd.c0 (hxd 1 _ rfl) _ (fun a5 w5 u5 hA5 k6 hown5 hk5 => ?_)
    refine ⟨(HAg3.out.trans hA4 (by intro j; simp; omega)).trans hA5 (by intro j; simp; omega), u5, k6, ?_, (HK1.out.drew).trans hk5 (fun i h1 h2 => by have := HZ.out; omega)⟩
    rw [show mergeAll (xs.take (k + 1)) = [x] from HML.out]
    exact hown5
   | some y =>
    obtain ⟨t, ht, hd⟩ := last_split hgl
    subst ht
    have hY := HOL.out y (by simp)
    have el : (t ++ [y]).length = t.length + 1 := by simp
    rw [el] at k_9 hol
    obtain ⟨g2, cap2, hv, hB, hlt2⟩ := HO1.out.form (by simp)
    cases hv
    have hcap : t.length + 1 ≤ cap := by
     rcases HO1.out.2 with ⟨e1, _⟩ | ⟨g1, cap1, cur, e1, _, _, hc1, _⟩
     · cases e1
     · cases e1; rw [el] at hc1; exact hc1
    have l_6e := l_6
    rw [el] at l_6e
    obtain ⟨_, s2⟩ := spC_at (t ++ [y]) t.length y (by simp)
    have q3 : w3.cell? ⟨g2, t.length * 2 + 1, none⟩ = some (.int .u64 y.2) := (HO1.out.cellAt _ (by rw [el]; omega)).trans s2
    refine of_cond1 a3 hsz3 hcap (by omega) HC3.out hY.2 l_6e l_8 k_9 hx0.c0 q3 _ (fun a4 hA4 k58 => ?_)
    have hsz4 := hA4.size.trans hsz3
    have e58 := k58.eval (by omega)
    by_cases hxy : x.1 ≤ y.2 + 1
    · rw [decide_eq_true hxy] at e58
      refine wp_cond_true e58 (wp_seq ?_)
      refine of_max (w := w3.drew) (x := x) a4 hsz4 hcap (by omega) (hA4.at_ l_6e rfl) (hA4.at_ l_8 rfl) (hA4.at_ k_9 rfl) (hxd 1 _ rfl) ((Keep.cell (Keep.drew (Keep.refl (fun _ => False) w3)) hlt2 (fun h => h)).trans q3) (HOD.out.frozenAt _) _ (fun a5 hA5 => ?_)
      refine wp_exit ?_
      repeat with_reducible apply then_exit
      simp only [InBody, if_true]
      obtain ⟨hs1, hs2⟩ := HOD.out.stored (t.length * 2 + 1) (.int .u64 (max y.2 x.2 : Nat))
      refine ⟨(HAg3.out.trans hA4 (by intro j; simp; omega)).trans hA5 (by intro j; simp; omega), _, hA5.at_ (hA4.at_ l_6 rfl) rfl, ?_, ?_⟩
      · have e : mergeAll (xs.take (k + 1)) = t ++ [(y.1, max y.2 x.2)] := by
         rw [HML.out]
         unfold mergeStep
         rw [hgl]
         simp only [if_pos hxy, hd]
        rw [set_sp] at hs1
        rw [e, show (t ++ [(y.1, max y.2 x.2)]).length = (t ++ [y]).length by simp]
        exact rowOwn_keep hs1 (Keep.drew (Keep.refl (fun _ => False) _)) (fun _ _ h => h)
      · refine Keep.drew ((HK1.out.drew).setCell (fun h => ?_) _)
        have h : g2 < w0.heap.size := h
        have := HZ.out
        omega
    · rw [decide_eq_false hxy] at e58
      refine wp_cond_false e58 (wp_skip ?_)
      repeat with_reducible apply then_normal
      refine of_put a4 hsz4 (hA4.at_ l_6 rfl) (hA4.at_ l_8 rfl) HOD (by rw [el]; omega) hzw hxd.c0 (hxd 1 _ rfl) _ (fun a5 w5 u5 hA5 k6 hown5 hk5 => ?_)
      refine ⟨(HAg3.out.trans hA4 (by intro j; simp; omega)).trans hA5 (by intro j; simp; omega), u5, k6, ?_, (HK1.out.drew).trans hk5 (fun i h1 h2 => by have := HZ.out; omega)⟩
      have e : mergeAll (xs.take (k + 1)) = t ++ [y] ++ [x] := by
       rw [HML.out]
       unfold mergeStep
       rw [hgl]
       simp only [if_neg hxy]
      rw [e, show (t ++ [y] ++ [x]).length = (t ++ [y]).length + 1 by simp]
      exact hown5
 · rintro a' w' hA ⟨u, k_6, hown, hk⟩
   rw [List.take_length] at hown
   exact hQ _ _ _ ((hA0.mono (by intro j; simp; omega)).trans hA (by intro j; simp; omega)) k_6 hown hk
end Go.Proofs.YtpblcjipmoblnaaGreatDoor
