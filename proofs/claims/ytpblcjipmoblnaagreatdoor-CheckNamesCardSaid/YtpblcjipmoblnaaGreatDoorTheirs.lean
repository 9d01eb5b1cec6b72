/- SpanA Covers WhoA Theirs -/
import Derived.Test.YtpblcjipmoblnaaGreatDoorSpanP
import Derived.Test.YtpblcjipmoblnaaGreatDoorNamesB
import Derived.Test.YtpblcjipmoblnaaGreatDoorFor2
import Derived.Test.YtpblcjipmoblnaaGreatDoorNamesA
set_option maxRecDepth 100000
set_option maxHeartbeats 4000000
set_option linter.unusedVariables false
set_option linter.unusedSimpArgs false
set_option linter.unnecessarySimpa false
namespace Go.Proofs.YtpblcjipmoblnaaGreatDoor
open Go.RowKit Go.IntWalk Ck
def encSp (x : Sp) : List Value := [.int .u64 x.1, .int .u64 x.2]
theorem none_any (a b : Nat) (w : World) : Calls Tryz.prog 125 #[.agg #[.int .u64 a, .int .u64 b]] w fun e w' => e = .returned (.bool (decide (b < a))) ∧ Keep (fun _ => False) w w' := by
 go_enter Tryz.func125, Tryz.ntmps125
 go_wp2
 go_ret
 exact ⟨rfl, (Keep.refl _ _).alloc _⟩
def SpansAt (w : World) (pb : Nat) (u : Value) (l : List Sp) : Prop :=
 ∃ A c, u = .slice A l.length c ∧ l.length ≤ c ∧ l.length ≤ 4194304 ∧ (0 < l.length → ∃ g, A = some ⟨g, 0, none⟩ ∧ g < w.heap.size ∧ g ≠ pb ∧
  ∀ (i : Nat) (s : Sp), l[i]? = some s → w.cell? ⟨g, i * 2, none⟩ = some (.int .u64 s.1) ∧ w.cell? ⟨g, i * 2 + 1, none⟩ = some (.int .u64 s.2) ∧ s.1 < lim ∧ s.2 < lim)
theorem SpansAt.keep {w w' : World} {pb : Nat} {u : Value} {l : List Sp} (h : SpansAt w pb u l) (hk : Keep (fun k => k = pb) w w') : SpansAt w' pb u l := by
 obtain ⟨A, c, e, h1, h2, h3⟩ := h
 refine ⟨A, c, e, h1, h2, fun h0 => ?_⟩
 obtain ⟨g, e, hg, hp, hc⟩ := h3 h0
 refine ⟨g, e, Nat.lt_of_lt_of_le hg hk.size, hp, fun i s hs => ?_⟩
 obtain ⟨c1, c2, c3⟩ := hc i s hs
 exact ⟨(hk.cell (p := ⟨g, i * 2, none⟩) hg hp).trans c1, (hk.cell (p := ⟨g, i * 2 + 1, none⟩) hg hp).trans c2, c3⟩
theorem wp_while2 {P : Program} {b b2 t : Nat} {R1 body : Code} {Q : Exit → Act → World → Prop} {a : Act} {w : World} (I : Act → World → Prop) (μ : Act → World → Nat) (J : Nat → Act → World → Prop) (Done : Act → World → Prop) (h0 : I a w)
 (h1 : ∀ a w, I a w → R1.wp P (Only fun a' w' => (a'.eval (.tmp t) = .bool true ∧ J (μ a w) a' w') ∨ (a'.eval (.tmp t) = .bool false ∧ Done a' w')) a w)
 (hb : ∀ m a w, J m a w → body.wp P (Only fun a' w' => I a' w' ∧ μ a' w' < m) a w)
 (hq : ∀ a w, Done a w → Q .normal a w) :
 (Code.block b (Code.loop (Code.seq (Code.seq R1 (Code.cond (.tmp t) .skip (.exit b))) (Code.block b2 body)))).wp P Q a w := by
 refine wp_block (wp_loop I μ h0 ?_)
 intro a w hI
 refine wp_seq (wp_seq (Code.wp_only (h1 a w hI) fun a1 w1 h => ?_))
 rcases h with ⟨ht, hJ⟩ | ⟨ht, hD⟩
 · refine wp_cond_true ht (wp_skip (wp_block (Code.wp_only (hb _ a1 w1 hJ) fun a2 w2 hh => ?_)))
   exact hh
 · refine wp_cond_false ht (wp_exit ?_)
   show Exit.inBlock b Q (.exit b) a1 w1
   simp only [Exit.inBlock, if_true]
   exact hq _ _ hD
theorem last_mono {l : List Sp} (h : SetOk l) {i j : Nat} {s t : Sp} (hij : i ≤ j) (hs : l[i]? = some s) (ht : l[j]? = some t) : s.2 ≤ t.2 := by
 rcases Nat.lt_or_ge i j with h1 | h1
 · obtain ⟨hil, e1⟩ := List.getElem?_eq_some_iff.1 hs
   obtain ⟨hjl, e2⟩ := List.getElem?_eq_some_iff.1 ht
   have := List.pairwise_iff_getElem.1 h.apart i j hil hjl h1
   have h2 := h.some_ t (List.mem_of_getElem? ht)
   rw [e1, e2] at this
   omega
 · have : i = j := by omega
   subst this
   have := Option.some.inj (hs.symm.trans ht)
   subst this
   exact Nat.le_refl _
theorem find_any {w : World} {pb : Nat} {u : Value} {l : List Sp} (hu : SpansAt w pb u l) (hl : SetOk l) (p : Nat) (hp : p < lim) :
 Calls Tryz.prog 126 #[.agg #[u], .int .u64 p] w fun e w' => (∃ i : Nat, e = .returned (.int .i64 i) ∧ i ≤ l.length ∧ (∀ j s, j < i → l[j]? = some s → s.2 < p) ∧ ∀ s, l[i]? = some s → p ≤ s.2) ∧ Keep (fun _ => False) w w' := by
 obtain ⟨A, c, rfl, hc, hlen, hcell⟩ := hu
 unfold lim at hp
 refine calls_abs Tryz.func126 Tryz.ntmps126 rfl (by simp) fun a hsz hdf hargs => ?_
 have h0 : At a 0 (.agg #[.slice A l.length c]) := hargs 0 _ rfl
 have h1 : At a 1 (.int .u64 p) := hargs 1 _ rfl
 clear hargs
 conv => arg 2; whnf
 refine wp_seq (Code.wp_only (R := fun a1 w1 => Agree (fun i => i == 2 || i == 4) a a1 ∧ At a1 2 (.pointer (some ⟨w.heap.size, 0, none⟩)) ∧ w1 = w.alloc (.cells #[.slice A l.length c] 175)) ?_ ?_)
 · clear hcell
   obtain ⟨T, d⟩ := a
   refine wp_region_lit ?_
   iterate 2 with_reducible refine st ?_
   with_reducible refine wpList_nil ?_
   refine ⟨rfl, ag, aq, rfl⟩
 rintro a1 w1 ⟨hA1, h2, hw1⟩
 have hk1 : Keep (fun _ => False) w w1 := by rw [hw1]; exact (Keep.refl _ _).alloc _
 obtain ⟨z, hz⟩ : ∃ z, z = w.heap.size := ⟨_, rfl⟩
 rw [← hz] at h2
 have hx1 : w1.cell? ⟨z, 0, none⟩ = some (.slice A l.length c) := by rw [hw1, hz]; exact cells_new w [.slice A l.length c] 175 0 _ rfl
 have hzs : z < w1.heap.size := by rw [hw1, hz]; simp
 replace h1 := hA1.at_ h1 rfl
 replace hsz := hA1.size.trans hsz
 replace hdf := hA1.defers.trans hdf
 clear hA1 h0 hw1 hz
 refine wp_seq (Code.wp_only (R := fun a2 w2 => Agree (fun i => i == 8 || i == 9 || i == 10 || i == 5 || i == 6) a1 a2 ∧ At a2 5 (.int .i64 (0 : Nat)) ∧ At a2 6 (.int .i64 l.length) ∧ w2 = w1.drew) ?_ ?_)
 · clear hcell hk1
   obtain ⟨T, d⟩ := a1
   refine wp_region_still_lit (by kernel_rfl) (by kernel_rfl) ?_
   iterate 5
    with_reducible refine wpStill_step (fun K hK => ?_)
    go_simp
    with_reducible refine hK _ ?_
    clear hK K
   with_reducible refine wpStill_nil ?_
   refine ⟨rfl, ?_, ?_, ?_, rfl⟩
   · exact ag
   · show At _ 5 (.int .i64 0)
     exact aq
   · exact aq
 rintro a2 w2 ⟨hA2, h5, h6, hw2⟩
 have hk2 : Keep (fun _ => False) w w2 := by rw [hw2]; exact hk1.drew
 have hx2 : w2.cell? ⟨z, 0, none⟩ = some (.slice A l.length c) := by rw [hw2]; exact hx1
 have hzs2 : z < w2.heap.size := by rw [hw2]; exact hzs
 replace h1 := hA2.at_ h1 rfl
 replace h2 := hA2.at_ h2 rfl
 replace hsz := hA2.size.trans hsz
 replace hdf := hA2.defers.trans hdf
 clear hA2 hw2 hx1 hk1 hzs w1
 refine wp_seq (wp_while2 (t := 13)
  (fun a' w' => Agree (fun i => i == 5 || i == 6 || i == 7 || (decide (11 ≤ i) && decide (i ≤ 28))) a2 a' ∧ w' = w2 ∧ ∃ i j : Nat, At a' 5 (.int .i64 i) ∧ At a' 6 (.int .i64 j) ∧ i ≤ j ∧ j ≤ l.length ∧ (∀ k s, k < i → l[k]? = some s → s.2 < p) ∧ ∀ k s, j ≤ k → l[k]? = some s → p ≤ s.2)
  (fun a' _ => (intOf (a'.eval (.tmp 6)) - intOf (a'.eval (.tmp 5))).toNat)
  (fun m a' w' => Agree (fun i => i == 5 || i == 6 || i == 7 || (decide (11 ≤ i) && decide (i ≤ 28))) a2 a' ∧ w' = w2 ∧ ∃ i j : Nat, At a' 5 (.int .i64 i) ∧ At a' 6 (.int .i64 j) ∧ i < j ∧ m = j - i ∧ j ≤ l.length ∧ (∀ k s, k < i → l[k]? = some s → s.2 < p) ∧ ∀ k s, j ≤ k → l[k]? = some s → p ≤ s.2)
  (fun a' w' => a'.defers = [] ∧ a'.tmps.size = 30 ∧ w' = w2 ∧ ∃ i : Nat, At a' 5 (.int .i64 i) ∧ i ≤ l.length ∧ (∀ k s, k < i → l[k]? = some s → s.2 < p) ∧ ∀ k s, i ≤ k → l[k]? = some s → p ≤ s.2)
  ⟨Agree.refl _ _, rfl, 0, l.length, h5, h6, Nat.zero_le _, Nat.le_refl _, fun k s hk _ => by omega, fun k s hk hs => by have := (List.getElem?_eq_some_iff.1 hs).1; omega⟩ ?_ ?_ ?_)
 · rintro a3 w3 ⟨hA, rfl, i, j, k5, k6, hij, hjl, hlo, hhi⟩
   have hsz3 := hA.size.trans hsz
   have hdf3 := hA.defers.trans hdf
   have e5 := k5.eval (by omega)
   have e6 := k6.eval (by omega)
   have HLO := Lib.hid hlo
   have HHI := Lib.hid hhi
   have HA := Lib.hid hA
   obtain ⟨t, ht⟩ : ∃ b, decide (i < j) = b := ⟨_, rfl⟩
   clear hlo hhi hA hcell
   refine Code.wp_only (R := fun a4 w4 => Agree (fun i => i == 11 || i == 12 || i == 13) a3 a4 ∧ At a4 13 (.bool t) ∧ w4 = w3) ?_ ?_
   · clear e5 e6
     obtain ⟨T, d⟩ := a3
     refine wp_region_lit ?_
     iterate 3 with_reducible refine st ?_
     with_reducible refine wpList_nil ?_
     refine ⟨rfl, ag, aq, rfl⟩
   rintro a4 w4 ⟨hA4, k13, rfl⟩
   have e13 := k13.eval (by have := hA4.size; omega)
   have hm : (intOf (a3.eval (.tmp 6)) - intOf (a3.eval (.tmp 5))).toNat = j - i := by rw [e5, e6]; simp [intOf] <;> omega
   rw [hm]
   refine ⟨rfl, ?_⟩
   cases t with
   | true => exact .inl ⟨e13, HA.out.trans hA4 (by intro j; simp; omega), rfl, i, j, hA4.at_ k5 rfl, hA4.at_ k6 rfl, of_decide_eq_true ht, rfl, hjl, HLO.out, HHI.out⟩
   | false =>
    have : i = j := by have := of_decide_eq_false ht; omega
    subst this
    exact .inr ⟨e13, hA4.defers.trans hdf3, hA4.size.trans hsz3, rfl, i, hA4.at_ k5 rfl, hjl, HLO.out, HHI.out⟩
 · rintro m a3 w3 ⟨hA, rfl, i, j, k5, k6, hij, hm, hjl, hlo, hhi⟩
   have hsz3 := hA.size.trans hsz
   have k1 := hA.at_ h1 rfl
   have k2 := hA.at_ h2 rfl
   obtain ⟨q, hq⟩ : ∃ q, q = (i + j) / 2 := ⟨_, rfl⟩
   have hqi : i ≤ q := by omega
   have hqj : q < j := by omega
   obtain ⟨s, hs⟩ : ∃ s, l[q]? = some s := ⟨_, List.getElem?_eq_getElem (by omega)⟩
   obtain ⟨g, rfl, hg1, _, hgc⟩ := hcell (by omega)
   obtain ⟨c1, c2, c3, c4⟩ := hgc q s hs
   have q1 : w3.cell? ⟨g, q * 2 + 1, none⟩ = some (.int .u64 s.2) := (hk2.cell (p := ⟨g, q * 2 + 1, none⟩) hg1 (fun h => h)).trans c2
   have hgs : g < w3.heap.size := by have := hk2.size; omega
   unfold lim at c4
   have hqd : ((i : Int) + (j : Int)) / 2 = (q : Int) := by omega
   have hqt : ((i : Int) + (j : Int)).tdiv 2 = (q : Int) := by rw [Int.tdiv_eq_ediv_of_nonneg (by omega)]; exact hqd
   have hqw : IntKind.i64.wrap ((i : Int) + (j : Int)) = (i : Int) + (j : Int) := i64_in _ (by omega)
   have hqv : IntKind.i64.wrap (q : Int) = (q : Int) := i64_in _ (by omega)
   have hqp : IntKind.i64.wrap ((q : Int) + 1) = (q : Int) + 1 := i64_in _ (by omega)
   have hql : q < l.length := by omega
   have hqz : decide ((i : Int) + (j : Int) = -9223372036854775808) = false := decide_eq_false (by omega)
   have hqc : q ≤ c := by omega
   have HLO := Lib.hid hlo
   have HHI := Lib.hid hhi
   have HA := Lib.hid hA
   have HS := Lib.hid hs
   have HM := Lib.hid hm
   clear hlo hhi hA hcell hgc c1 c2 hq hs hm
   refine wp_seq (Code.wp_only (R := fun a4 w4 => Agree (fun i => i == 14 || i == 15 || i == 16 || i == 17 || i == 7) a3 a4 ∧ At a4 7 (.int .i64 q) ∧ w4 = w3) ?_ ?_)
   · obtain ⟨T, d⟩ := a3
     refine wp_region_lit ?_
     iterate 5 with_reducible refine st ?_
     with_reducible refine wpList_nil ?_
     refine ⟨rfl, ag, aq, rfl⟩
   rintro a4 w4 ⟨hA4, k7, rfl⟩
   clear hqd hqt hqw hqv hqz
   have hsz4 := hA4.size.trans hsz3
   have j1 := hA4.at_ k1 rfl
   have j2 := hA4.at_ k2 rfl
   have j5 := hA4.at_ k5 rfl
   have j6 := hA4.at_ k6 rfl
   obtain ⟨t, ht⟩ : ∃ b, decide (s.2 < p) = b := ⟨_, rfl⟩
   refine wp_seq (Code.wp_only (R := fun a5 w5 => Agree (fun i => decide (18 ≤ i) && decide (i ≤ 25)) a4 a5 ∧ At a5 25 (.bool t) ∧ w5 = w4) ?_ ?_)
   · clear k1 k2 k5 k6 hA4
     obtain ⟨T, d⟩ := a4
     refine wp_region_lit ?_
     iterate 8 with_reducible refine st ?_
     with_reducible refine wpList_nil ?_
     refine ⟨rfl, ag, aq, rfl⟩
   rintro a5 w5 ⟨hA5, k25, rfl⟩
   have hsz5 := hA5.size.trans hsz4
   have e25 := k25.eval (by omega)
   have l5 := hA5.at_ j5 rfl
   have l6 := hA5.at_ j6 rfl
   have l7 := hA5.at_ k7 rfl
   have HAg := Lib.hid (HA.out.trans ((hA4.mono (by intro j; simp; omega : ∀ x, _ → (fun i => i == 7 || (decide (14 ≤ i) && decide (i ≤ 25))) x = true)).trans hA5 (by intro j; simp; omega)) (by intro j; simp; omega))
   clear hA4 hA5 k1 k2 k5 k6 k7 j1 j2 j5 j6 k25
   cases t with
   | true =>
    refine wp_cond_true e25 ?_
    have hlt : s.2 < p := of_decide_eq_true ht
    refine Code.wp_only (R := fun a6 w6 => Agree (fun i => i == 26 || i == 27 || i == 5) a5 a6 ∧ At a6 5 (.int .i64 ((q : Int) + 1)) ∧ w6 = w5) ?_ ?_
    · clear e25 HAg
      obtain ⟨T, d⟩ := a5
      refine wp_region_lit ?_
      iterate 3 with_reducible refine st ?_
      with_reducible refine wpList_nil ?_
      refine ⟨rfl, ag, aq, rfl⟩
    rintro a6 w6 ⟨hA6, k5, rfl⟩
    have k6 := hA6.at_ l6 rfl
    have hsz6 := hA6.size.trans hsz5
    have e5 := k5.eval (by omega)
    have e6 := k6.eval (by omega)
    have k5' : At a6 5 (.int .i64 ((q + 1 : Nat) : Int)) := by rw [show ((q + 1 : Nat) : Int) = (q : Int) + 1 by omega]; exact k5
    refine ⟨rfl, ⟨HAg.out.trans hA6 (by intro j; simp; omega), rfl, q + 1, j, k5', k6, by omega, hjl, fun k u hk hu => ?_, HHI.out⟩, ?_⟩
    · have := last_mono hl (by omega : k ≤ q) hu HS.out; omega
    · rw [e5, e6, HM.out]; simp [intOf]; omega
   | false =>
    refine wp_cond_false e25 ?_
    have hge : ¬ s.2 < p := of_decide_eq_false ht
    refine Code.wp_only (R := fun a6 w6 => Agree (fun i => i == 28 || i == 6) a5 a6 ∧ At a6 6 (.int .i64 q) ∧ w6 = w5) ?_ ?_
    · clear e25 HAg
      obtain ⟨T, d⟩ := a5
      refine wp_region_lit ?_
      iterate 2 with_reducible refine st ?_
      with_reducible refine wpList_nil ?_
      refine ⟨rfl, ag, aq, rfl⟩
    rintro a6 w6 ⟨hA6, k6, rfl⟩
    have k5 := hA6.at_ l5 rfl
    have hsz6 := hA6.size.trans hsz5
    have e5 := k5.eval (by omega)
    have e6 := k6.eval (by omega)
    refine ⟨rfl, ⟨HAg.out.trans hA6 (by intro j; simp; omega), rfl, i, q, k5, k6, by omega, by omega, HLO.out, fun k u hk hu => ?_⟩, ?_⟩
    · have := last_mono hl hk HS.out hu; omega
    · rw [e5, e6, HM.out]; simp [intOf]; omega
 · rintro a3 w3 ⟨hd3, hs3, rfl, i, k5, hil, hlo, hhi⟩
   with_reducible apply then_normal
   refine wp_seq (Code.wp_only (R := fun a4 w4 => At a4 4 (.int .i64 i) ∧ a4.tmps.size = 30 ∧ a4.defers = [] ∧ w4 = w3) ?_ ?_)
   · clear hcell hlo hhi
     obtain ⟨T, d⟩ := a3
     refine wp_region_lit ?_
     iterate 2 with_reducible refine st ?_
     with_reducible refine wpList_nil ?_
     refine ⟨rfl, ?_, by simpa using hs3, hd3, rfl⟩
     exact aq
   rintro a4 w4 ⟨h4, hs4, hd4, rfl⟩
   exact wp_ret (post_tmp (t := 4) rfl h4 (by rw [hs4]; decide) hd4 ⟨⟨i, rfl, hil, hlo, fun s hs => hhi i s (Nat.le_refl _) hs⟩, hk2⟩)
end Go.Proofs.YtpblcjipmoblnaaGreatDoor
namespace Go.Proofs.YtpblcjipmoblnaaGreatDoor
open Go.RowKit Go.IntWalk Ck
open Classical in
noncomputable def coversL (l : List Sp) (a b : Nat) : Bool := decide (∀ p, a ≤ p → p ≤ b → inSp l p)
theorem coversL_iff {l : List Sp} {a b : Nat} : coversL l a b = true ↔ ∀ p, a ≤ p → p ≤ b → inSp l p := by unfold coversL; simp
theorem covers_any {w : World} {pb : Nat} {u : Value} {l : List Sp} (hu : SpansAt w pb u l) (hl : SetOk l) (a b : Nat) (ha : a < lim) (hb : b < lim) (hpw : pb < w.heap.size) :
 Calls Tryz.prog 102 #[.agg #[u], .agg #[.int .u64 a, .int .u64 b]] w fun e w' => e = .returned (.bool (coversL l a b)) ∧ Keep (fun _ => False) w w' := by
 unfold lim at ha hb
 refine calls_abs Tryz.func102 Tryz.ntmps102 rfl (by simp) fun ac hsz hdf hargs => ?_
 have h0 : At ac 0 (.agg #[u]) := hargs 0 _ rfl
 have h1 : At ac 1 (.agg #[.int .u64 a, .int .u64 b]) := hargs 1 _ rfl
 clear hargs
 obtain ⟨A, c, rfl, hc, hlen, hcell⟩ := hu
 conv => arg 2; whnf
 refine wp_seq (Code.wp_only (R := fun a1 w1 => Agree (fun i => i == 2 || i == 3 || i == 4) ac a1 ∧ At a1 2 (.pointer (some ⟨w.heap.size, 0, none⟩)) ∧ At a1 3 (.pointer (some ⟨w.heap.size + 1, 0, none⟩)) ∧ w1 = (w.alloc (.cells #[.slice A l.length c] 175)).alloc (.cells #[.int .u64 a, .int .u64 b] 180)) ?_ ?_)
 · clear hcell
   obtain ⟨T, d⟩ := ac
   refine wp_region_lit ?_
   iterate 3 with_reducible refine st ?_
   with_reducible refine wpList_nil ?_
   refine ⟨rfl, ag, aq, aq, rfl⟩
 rintro a1 w1 ⟨hA1, h2, h3, hw1⟩
 have hk1 : Keep (fun _ => False) w w1 := by rw [hw1]; exact ((Keep.refl _ _).alloc _).alloc _
 obtain ⟨z, hz⟩ : ∃ z, z = w.heap.size := ⟨_, rfl⟩
 obtain ⟨y, hy⟩ : ∃ z, z = w.heap.size + 1 := ⟨_, rfl⟩
 rw [← hz] at h2
 rw [← hy] at h3
 have x0 : w1.cell? ⟨z, 0, none⟩ = some (.slice A l.length c) := by
  rw [hw1, hz]
  exact (((Keep.refl (fun _ => False) _).alloc _).cell (p := ⟨w.heap.size, 0, none⟩) (by simp) (fun h => h)).trans (cells_new w [.slice A l.length c] 175 0 _ rfl)
 have y0 : w1.cell? ⟨y, 0, none⟩ = some (.int .u64 a) := by rw [hw1, hy]; have := cells_new (w.alloc (.cells #[.slice A l.length c] 175)) [.int .u64 a, .int .u64 b] 180 0 _ rfl; simpa using this
 have y1 : w1.cell? ⟨y, 1, none⟩ = some (.int .u64 b) := by rw [hw1, hy]; have := cells_new (w.alloc (.cells #[.slice A l.length c] 175)) [.int .u64 a, .int .u64 b] 180 1 _ rfl; simpa using this
 have zs : z < w1.heap.size ∧ y < w1.heap.size := by rw [hw1, hz, hy]; simp; omega
 replace hsz := hA1.size.trans hsz
 replace hdf := hA1.defers.trans hdf
 have hu1 : SpansAt w1 pb (.slice A l.length c) l := SpansAt.keep (w := w) ⟨A, c, rfl, hc, hlen, hcell⟩ (hk1.mono fun _ _ h => h.elim)
 have HU := Lib.hid hu1
 clear hA1 h0 h1 hw1 hz hy hcell hu1
 refine wp_seq (wp_seq (Code.wp_only (R := fun a2 w2 => Agree (fun i => i == 6 || i == 7) a1 a2 ∧ At a2 7 (.bool (decide (b < a))) ∧ Keep (fun _ => False) w1 w2) ?_ ?_))
 · obtain ⟨T, d⟩ := a1
   refine wp_region_lit ?_
   with_reducible refine st ?_
   with_reducible refine wpList_step (fun K hK => ?_)
   go_simp
   refine (none_any a b w1).mono ?_
   rintro e w2 ⟨rfl, hk2⟩
   with_reducible refine hK _ _ (wpList_nil ?_)
   refine ⟨rfl, ag, aq, hk2⟩
 rintro a2 w2 ⟨hA2, k7, hk2⟩
 have hsz2 := hA2.size.trans hsz
 have hdf2 := hA2.defers.trans hdf
 have e7 := k7.eval (by omega)
 have j2 := hA2.at_ h2 rfl
 have j3 := hA2.at_ h3 rfl
 have x0 := (hk2.cell (p := ⟨z, 0, none⟩) zs.1 (fun h => h)).trans x0
 have y0 := (hk2.cell (p := ⟨y, 0, none⟩) zs.2 (fun h => h)).trans y0
 have y1 := (hk2.cell (p := ⟨y, 1, none⟩) zs.2 (fun h => h)).trans y1
 have zs2 : z < w2.heap.size ∧ y < w2.heap.size := ⟨Nat.lt_of_lt_of_le zs.1 hk2.size, Nat.lt_of_lt_of_le zs.2 hk2.size⟩
 have HU2 := Lib.hid (HU.out.keep (hk2.mono fun _ _ h => h.elim))
 have HK2 := Lib.hid (hk1.trans hk2 (fun _ _ h => h))
 clear hA2 hk2 hk1 k7 zs
 by_cases hba : b < a
 · rw [decide_eq_true hba] at e7
   refine wp_cond_true e7 ?_
   refine wp_seq (Code.wp_only (R := fun a3 w3 => At a3 4 (.bool true) ∧ a3.tmps.size = 39 ∧ a3.defers = [] ∧ w3 = w2) ?_ ?_)
   · obtain ⟨T, d⟩ := a2
     refine wp_region_lit ?_
     with_reducible refine st ?_
     with_reducible refine wpList_nil ?_
     refine ⟨rfl, ?_, by simpa using hsz2, hdf2, rfl⟩
     exact aq
   rintro a3 w3 ⟨h4, hs3, hd3, rfl⟩
   refine wp_ret ?_
   repeat (first | with_reducible apply inbody_ret | with_reducible apply then_ret)
   refine post_tmp (t := 4) rfl h4 (by rw [hs3]; decide) hd3 ⟨?_, HK2.out⟩
   have e : coversL l a b = true := coversL_iff.2 fun p h1 h2 => by omega
   rw [e]
 · rw [decide_eq_false hba] at e7
   refine wp_cond_false e7 (wp_skip ?_)
   repeat with_reducible apply then_normal
   refine wp_seq (Code.wp_only (R := fun a3 w3 => Agree (fun i => i == 5 || (decide (8 ≤ i) && decide (i ≤ 11))) a2 a3 ∧ (∃ i : Nat, At a3 5 (.int .i64 i) ∧ i ≤ l.length ∧ (∀ j s, j < i → l[j]? = some s → s.2 < a) ∧ ∀ s, l[i]? = some s → a ≤ s.2) ∧ Keep (fun _ => False) w2 w3) ?_ ?_)
   · obtain ⟨T, d⟩ := a2
     refine wp_region_lit ?_
     iterate 3 with_reducible refine st ?_
     with_reducible refine wpList_step (fun K hK => ?_)
     go_simp
     refine (find_any HU2.out hl a (by unfold lim; omega)).mono ?_
     rintro e w3 ⟨⟨i, rfl, hi, h5, h6⟩, hk3⟩
     with_reducible refine hK _ _ ?_
     clear hK K
     have H5 := Lib.hid h5
     have H6 := Lib.hid h6
     clear h5 h6
     with_reducible refine st ?_
     with_reducible refine wpList_nil ?_
     refine ⟨rfl, ag, ⟨i, aq, hi, H5.out, H6.out⟩, hk3⟩
   rintro a3 w3 ⟨hA3, ⟨i, k5, hi, hlo, hhi⟩, hk3⟩
   have hsz3 := hA3.size.trans hsz2
   have hdf3 := hA3.defers.trans hdf2
   have l2 := hA3.at_ j2 rfl
   have l3 := hA3.at_ j3 rfl
   have x0 := (hk3.cell (p := ⟨z, 0, none⟩) zs2.1 (fun h => h)).trans x0
   have y0 := (hk3.cell (p := ⟨y, 0, none⟩) zs2.2 (fun h => h)).trans y0
   have y1 := (hk3.cell (p := ⟨y, 1, none⟩) zs2.2 (fun h => h)).trans y1
   have zs3 : z < w3.heap.size ∧ y < w3.heap.size := ⟨Nat.lt_of_lt_of_le zs2.1 hk3.size, Nat.lt_of_lt_of_le zs2.2 hk3.size⟩
   have hu3 := HU2.out.keep (hk3.mono fun _ _ h => h.elim)
   have HCV := Lib.hid (covers_iff hl (by omega : a ≤ b) hlo hhi)
   have HK3 := Lib.hid (HK2.out.trans hk3 (fun _ _ h => h))
   obtain ⟨_, _, e, _, _, hcell⟩ := hu3
   cases e
   clear hA3 hk3 hlo hhi j2 j3
   suffices H : (Code.wp Tryz.prog (codeC Tryz.f102 [1, 1, 1, 0]) (Only fun a4 w4 => At a4 4 (.bool (coversL l a b)) ∧ a4.tmps.size = 39 ∧ a4.defers = [] ∧ w4 = w3.drew) a3 w3) from
    wp_seq (Code.wp_only H fun a4 w4 ⟨h4, hs4, hd4, hw4⟩ => wp_ret (post_tmp (t := 4) rfl h4 (by rw [hs4]; decide) hd4 ⟨rfl, by rw [hw4]; exact HK3.out.drew⟩))
   conv => arg 2; whnf
   by_cases hil : i < l.length
   · obtain ⟨s, hs⟩ : ∃ s, l[i]? = some s := ⟨_, List.getElem?_eq_getElem hil⟩
     obtain ⟨g, rfl, hg, _, hgc⟩ := hcell (by omega)
     obtain ⟨c1, c2, c3, c4⟩ := hgc i s hs
     unfold lim at c3 c4
     have hic : i ≤ c := by omega
     obtain ⟨b1, e1⟩ : ∃ t, decide (s.1 ≤ a) = t := ⟨_, rfl⟩
     obtain ⟨b2, e2⟩ : ∃ t, decide (b ≤ s.2) = t := ⟨_, rfl⟩
     have HV : Hid (coversL l a b = (b1 && b2)) := by
      show coversL l a b = _
      rw [← e1, ← e2, Bool.eq_iff_iff]
      rw [coversL_iff, HCV.out]
      simp only [Bool.and_eq_true, decide_eq_true_eq]
      constructor
      · rintro ⟨t, ht, h1, h2⟩
        have := Option.some.inj (hs.symm.trans ht)
        subst this
        exact ⟨h1, h2⟩
      · rintro ⟨h1, h2⟩
        exact ⟨s, hs, h1, h2⟩
     have hun := undef_eq
     have hil2 : decide (i < l.length) = true := decide_eq_true hil
     clear hs hcell hgc
     obtain ⟨T, d⟩ := a3
     refine wp_region_still_lit (by kernel_rfl) (by kernel_rfl) ?_
     cases b1
     · skip
       iterate 28
        with_reducible refine wpStill_step (fun K hK => ?_)
        go_simp
        with_reducible refine hK _ ?_
        clear hK K
       with_reducible refine wpStill_nil ?_
       refine ⟨rfl, ?_, by simpa using hsz3, hdf3, rfl⟩
       rw [show coversL l a b = false from HV.out]
       exact aq
     · skip
       iterate 28
        with_reducible refine wpStill_step (fun K hK => ?_)
        go_simp
        with_reducible refine hK _ ?_
        clear hK K
       with_reducible refine wpStill_nil ?_
       refine ⟨rfl, ?_, by simpa using hsz3, hdf3, rfl⟩
       rw [show coversL l a b = b2 from HV.out.trans (Bool.true_and _)]
       exact aq
   · have HV : Hid (coversL l a b = false) := by
      show coversL l a b = _
      rw [Bool.eq_false_iff, Ne, coversL_iff, HCV.out]
      rintro ⟨t, ht, _⟩
      exact hil (List.getElem?_eq_some_iff.1 ht).1
     have hun := undef_eq
     have hil2 : decide (i < l.length) = false := decide_eq_false hil
     clear hcell
     obtain ⟨T, d⟩ := a3
     refine wp_region_still_lit (by kernel_rfl) (by kernel_rfl) ?_
     iterate 28
      with_reducible refine wpStill_step (fun K hK => ?_)
      go_simp
      with_reducible refine hK _ ?_
      clear hK K
     with_reducible refine wpStill_nil ?_
     refine ⟨rfl, ?_, by simpa using hsz3, hdf3, rfl⟩
     rw [show coversL l a b = false from HV.out]
     exact aq
end Go.Proofs.YtpblcjipmoblnaaGreatDoor
namespace Go.Proofs.YtpblcjipmoblnaaGreatDoor
open Go.RowKit Go.IntWalk Ck
theorem who_rules {B : Nat} {w : World} {pb : Nat} {v : PolV} {P : Policy} {L : List Wr} (h : LookAt B w pb v P why6 L) (a : Act) (hsz : a.tmps.size = 185)
 (h0 : At a 0 (.pointer (some ⟨pb, 0, none⟩))) {zx : Nat} {A : Option Addr} {c : Nat} {l : List Ck.Rule} (hx_ : At a 3 (.pointer (some ⟨zx, 0, none⟩))) (hq : w.cell? ⟨zx, 5, none⟩ = some (.slice A l.length c)) (hs : SliceAt B 4 RuleAt w (.slice A l.length c) l) {zy : Nat} {y : Subject} {A_mapsy A_rulesy : Option Addr} {c_mapsy c_rulesy : Nat} (HO : Hid (∀ w0, Keep (fun k => k = pb) w w0 → CellsAt w0 zy 0 [.int .i64 y.pos, .string y.name, .int .u64 y.cpu, .bool y.stopped, .slice A_mapsy y.maps.length c_mapsy, .slice A_rulesy y.rules.length c_rulesy])) (hy : At a 3 (.pointer (some ⟨zy, 0, none⟩))) (Q : Exit → Act → World → Prop)
 (hQ : ∀ a' w', Agree (fun i => i == 5 || (decide (31 ≤ i) && decide (i ≤ 64))) a a' → LookAt B w' pb v P why6 (l.flatMap (whoRule y) ++ L) → Keep (fun k => k = pb) w w' → Q .normal a' w') :
 (codeC Tryz.f54 [0,1,0,0,1,1,0,0,1,1]).wp Tryz.prog Q a w := by
 have hsl := hs
 obtain ⟨_, _, e, hnc, hn0, hl⟩ := hs
 cases e
 unfold top at hn0
 have hlt := h.lt
 have hBp := h.base
 conv => arg 2; whnf
 refine wp_seq (Code.wp_only (R := fun a1 w1 => Agree (fun i => i == 31 || i == 32 || i == 33 || i == 34) a a1 ∧ At a1 32 (.slice A l.length c) ∧ At a1 33 (.int .i64 l.length) ∧ At a1 34 (.int .i64 0) ∧ w1 = w) ?_ ?_)
 · clear hl
   obtain ⟨T, d⟩ := a
   refine wp_region_lit ?_
   iterate 4 with_reducible refine st ?_
   with_reducible refine wpList_nil ?_
   refine ⟨rfl, ag, aq, aq, aq, rfl⟩
 rintro a0 w0 ⟨hA0, k_s, k_n, k_i, rfl⟩
 have hsz0 : a0.tmps.size = 185 := hA0.size.trans hsz
 replace h0 := hA0.at_ h0 rfl
 replace hy := hA0.at_ hy rfl
 refine wp_range l.length (fun i => i == 5 || (decide (34 ≤ i) && decide (i ≤ 64))) (fun i => i == 5 || (decide (36 ≤ i) && decide (i ≤ 63))) (fun k _ w' => LookAt B w' pb v P why6 ((l.take k).flatMap (whoRule y) ++ L) ∧ Keep (fun k => k = pb) w0 w') (by omega) k_i k_n (by decide) rfl
  (by intro j; simp; omega) (by omega) (by decide) (fun k a1 a2 w hA hI => hI) ⟨by simpa [List.take_zero] using h, Keep.refl _ _⟩ ?_ ?_
 · rintro n a1 wr hlt2 hA k_j ⟨hL, hk⟩
   obtain ⟨bl, off, rfl, hbl, hcs⟩ := hl (by omega)
   obtain ⟨x, hx⟩ : ∃ x, l[n]? = some x := ⟨_, List.getElem?_eq_getElem hlt2⟩
   obtain ⟨hc, ok_x⟩ := (flat_stays B _ _) _ _ _ _ _ (hk.below (B := B) (by omega) (fun _ hi e => by omega)) hbl (hcs n x hx)
   have q0 := hc.c0
   have q1 := hc 1 _ rfl
   have q2 := hc 2 _ rfl
   have q3 := hc 3 _ rfl
   have k_0 := hA.at_ h0 rfl
   have k_hy := hA.at_ hy rfl
   have k_sl := hA.at_ k_s rfl
   have hsz1 : a1.tmps.size = 185 := hA.size.trans hsz0
   have hszw := hk.size
   have hblr : bl < wr.heap.size := by omega
   have HX := Lib.hid hx
   have HL := Lib.hid hL
   have HK := Lib.hid hk
   have hnc2 : n ≤ c := by omega
   have HA := Lib.hid hA
   clear hx hL hk hc hA hcs
   refine wp_seq (Code.wp_only (R := fun a2 w2 => Agree (fun i => i == 36 || i == 37 || i == 5) a1 a2 ∧ At a2 5 (.pointer (some ⟨wr.heap.size, 0, none⟩)) ∧ w2 = wr.alloc (Obj.cells #[.int .i64 x.pos, .int .i64 x.how, .string x.to, .int .u64 x.vector] 85)) ?_ ?_)
   · skip
     obtain ⟨T, d⟩ := a1
     refine wp_region_lit ?_
     iterate 4 with_reducible refine st ?_
     with_reducible refine wpList_nil ?_
     refine ⟨rfl, ag, aq, rfl⟩
   rintro a2 wo ⟨hA2, k_x, hwo⟩
   obtain ⟨z, hz⟩ : ∃ z, z = wr.heap.size := ⟨_, rfl⟩
   rw [← hz] at k_x
   have hx0 : CellsAt wo z 0 [.int .i64 x.pos, .int .i64 x.how, .string x.to, .int .u64 x.vector] := by rw [hwo, hz]; exact cells_new _ _ _
   have hzo : z < wo.heap.size := by rw [hwo, hz]; simp
   have hzpb : z ≠ pb := by omega
   have hko : Keep (fun _ => False) wr wo := by rw [hwo]; exact (Keep.refl _ _).alloc _
   have HL1 := Lib.hid (HL.out.new hko)
   have HK1 := Lib.hid (HK.out.trans hko (fun _ _ h => h.elim))
   have HKr : Hid (Keep (fun k => k = pb) wr wo) := hko.mono (fun _ _ h => h.elim)
   have k_0 := hA2.at_ k_0 rfl
   replace k_hy := hA2.at_ k_hy rfl
   have hsz2 := hA2.size.trans hsz1
   have HAg : Hid (Agree (fun i => i == 5 || (decide (36 ≤ i) && decide (i ≤ 63))) a1 a2) := hA2.mono (by intro j; simp; omega)
   clear hwo hz hko HL HK hA2 q0 q1 q2 q3
   clear k_sl k_j hl
   refine wp_seq (Code.wp_only (R := fun a' w' => Agree (fun i => (decide (38 ≤ i) && decide (i ≤ 49))) a2 a' ∧ LookAt B w' pb v P why6 (say (!decide (x.how = 1) || decide (x.vector < 64)) x.pos 1 ++ ((l.take n).flatMap (whoRule y) ++ L)) ∧ Keep (fun k => k = pb) wo w') ?_ ?_)
   · skip
     clear HAg HX
     have q_x_pos := hx0.c0
     have q_x_how := hx0 1 _ rfl
     have q_x_to := hx0 2 _ rfl
     have q_x_vector := hx0 3 _ rfl
     have q_y_pos := (HO.out _ HK1.out).c0
     have q_y_name := (HO.out _ HK1.out) 1 _ rfl
     have q_y_cpu := (HO.out _ HK1.out) 2 _ rfl
     have q_y_stopped := (HO.out _ HK1.out) 3 _ rfl
     have q_y_maps := (HO.out _ HK1.out) 4 _ rfl
     have q_y_rules := (HO.out _ HK1.out) 5 _ rfl
     clear hx0
     obtain ⟨b_x_how_eq1, eb_x_how_eq1⟩ : ∃ b, b = decide (x.how = 1) := ⟨_, rfl⟩
     have w1b_x_how_eq1 : ((x.how : Int) == 1) = b_x_how_eq1 := by rw [eb_x_how_eq1]; exact int_eqb _ _
     have w2b_x_how_eq1 : ((x.how : Int) != 1) = !b_x_how_eq1 := by rw [eb_x_how_eq1]; exact int_neb _ _
     obtain ⟨b_x_vector_lt64, eb_x_vector_lt64⟩ : ∃ b, b = decide (x.vector < 64) := ⟨_, rfl⟩
     have w1b_x_vector_lt64 : decide ((x.vector : Int) < 64) = b_x_vector_lt64 := by rw [eb_x_vector_lt64]; exact decide_eq_decide.2 (by omega)
     have HS : Hid (say (!decide (x.how = 1) || decide (x.vector < 64)) x.pos 1 = say ((!b_x_how_eq1 || b_x_vector_lt64)) x.pos 1) := by rw [eb_x_how_eq1, eb_x_vector_lt64]; rfl
     clear eb_x_how_eq1
     clear eb_x_vector_lt64
     have HLd := HL1
     have hun := undef_eq
     obtain ⟨T, d⟩ := a2
     refine wp_region_lit ?_
     iterate 5 with_reducible refine st ?_
     cases b_x_how_eq1
     · iterate 6
        with_reducible refine st ?_
       with_reducible refine wpList_step (fun K hK => ?_)
       go_simp
       refine (must_any _ _ 1 101 HLd.out rfl).mono ?_
       rintro e w2 ⟨rfl, hL2, hk2⟩
       with_reducible refine hK _ _ (wpList_nil ?_)
       refine ⟨rfl, ?_, ?_, ?_⟩
       · exact ag
       · have hs := HS.out
         try simp only [bS] at hs
         rw [hs]
         exact hL2
       · exact hk2
     · iterate 6
        with_reducible refine st ?_
       with_reducible refine wpList_step (fun K hK => ?_)
       go_simp
       refine (must_any _ _ 1 101 HLd.out rfl).mono ?_
       rintro e w2 ⟨rfl, hL2, hk2⟩
       with_reducible refine hK _ _ (wpList_nil ?_)
       refine ⟨rfl, ?_, ?_, ?_⟩
       · exact ag
       · have hs := HS.out
         try simp only [bS] at hs
         rw [hs]
         exact hL2
       · exact hk2
   rintro a3 w3 ⟨hA3, hL3, hk3⟩
   replace hx0 := hx0.keep hk3 hzo hzpb
   replace hzo : z < w3.heap.size := Nat.lt_of_lt_of_le hzo hk3.size
   replace HL1 := Lib.hid hL3
   replace HK1 := Lib.hid (HK1.out.trans hk3 (fun _ _ e => e))
   replace HKr := Lib.hid (HKr.out.trans hk3 (fun _ _ e => e))
   replace k_0 := hA3.at_ k_0 rfl
   replace k_x := hA3.at_ k_x rfl
   replace k_hy := hA3.at_ k_hy rfl
   replace hsz2 := hA3.size.trans hsz2
   replace HAg : Hid (Agree (fun i => i == 5 || (decide (36 ≤ i) && decide (i ≤ 63))) a1 a3) := HAg.out.trans hA3 (by intro j; simp; omega)
   clear hA3 hL3 hk3
   refine Code.wp_only (R := fun a' w' => Agree (fun i => (decide (50 ≤ i) && decide (i ≤ 63))) a3 a' ∧ LookAt B w' pb v P why6 (say (!decide (x.how = 1) || !decide (x.to = y.name)) x.pos 3 ++ (say (!decide (x.how = 1) || decide (x.vector < 64)) x.pos 1 ++ ((l.take n).flatMap (whoRule y) ++ L))) ∧ Keep (fun k => k = pb) w3 w') ?_ ?_
   · skip
     clear HAg HX
     have q_x_pos := hx0.c0
     have q_x_how := hx0 1 _ rfl
     have q_x_to := hx0 2 _ rfl
     have q_x_vector := hx0 3 _ rfl
     have q_y_pos := (HO.out _ HK1.out).c0
     have q_y_name := (HO.out _ HK1.out) 1 _ rfl
     have q_y_cpu := (HO.out _ HK1.out) 2 _ rfl
     have q_y_stopped := (HO.out _ HK1.out) 3 _ rfl
     have q_y_maps := (HO.out _ HK1.out) 4 _ rfl
     have q_y_rules := (HO.out _ HK1.out) 5 _ rfl
     clear hx0
     obtain ⟨b_x_how_eq1, eb_x_how_eq1⟩ : ∃ b, b = decide (x.how = 1) := ⟨_, rfl⟩
     have w1b_x_how_eq1 : ((x.how : Int) == 1) = b_x_how_eq1 := by rw [eb_x_how_eq1]; exact int_eqb _ _
     have w2b_x_how_eq1 : ((x.how : Int) != 1) = !b_x_how_eq1 := by rw [eb_x_how_eq1]; exact int_neb _ _
     obtain ⟨b_x_to_is_y_name, eb_x_to_is_y_name⟩ : ∃ b, b = decide (x.to = y.name) := ⟨_, rfl⟩
     have w1b_x_to_is_y_name : (x.to.toList == y.name.toList) = b_x_to_is_y_name := by rw [eb_x_to_is_y_name]; exact bytes_beq _ _
     have w2b_x_to_is_y_name : (x.to.toList != y.name.toList) = !b_x_to_is_y_name := by rw [← w1b_x_to_is_y_name]; rfl
     have HS : Hid (say (!decide (x.how = 1) || !decide (x.to = y.name)) x.pos 3 = say ((!b_x_how_eq1 || !b_x_to_is_y_name)) x.pos 3) := by rw [eb_x_how_eq1, eb_x_to_is_y_name]; rfl
     clear eb_x_how_eq1
     clear eb_x_to_is_y_name
     have HLd := HL1
     have hun := undef_eq
     obtain ⟨T, d⟩ := a3
     refine wp_region_lit ?_
     iterate 5 with_reducible refine st ?_
     cases b_x_how_eq1
     · iterate 8
        with_reducible refine st ?_
       with_reducible refine wpList_step (fun K hK => ?_)
       go_simp
       refine (must_any _ _ 3 102 HLd.out rfl).mono ?_
       rintro e w2 ⟨rfl, hL2, hk2⟩
       with_reducible refine hK _ _ (wpList_nil ?_)
       refine ⟨rfl, ?_, ?_, ?_⟩
       · exact ag
       · have hs := HS.out
         try simp only [bS] at hs
         rw [hs]
         exact hL2
       · exact hk2
     · iterate 8
        with_reducible refine st ?_
       with_reducible refine wpList_step (fun K hK => ?_)
       go_simp
       refine (must_any _ _ 3 102 HLd.out rfl).mono ?_
       rintro e w2 ⟨rfl, hL2, hk2⟩
       with_reducible refine hK _ _ (wpList_nil ?_)
       refine ⟨rfl, ?_, ?_, ?_⟩
       · exact ag
       · have hs := HS.out
         try simp only [bS] at hs
         rw [hs]
         exact hL2
       · exact hk2
   rintro a4 w4 ⟨hA3, hL3, hk3⟩
   refine ⟨HAg.out.trans hA3 (by intro j; simp; omega), hL3.congr fun p => ?_, HK1.out.trans hk3 (fun _ _ e => e)⟩
   rw [take_at HX.out, List.flatMap_append, List.flatMap_cons, List.flatMap_nil, List.append_nil]
   simp only [List.mem_append, whoRule]
   try simp only [or_assoc, or_comm, or_left_comm]
 · rintro a' w' hA ⟨hL, hk⟩
   rw [List.take_length] at hL
   exact hQ _ _ ((hA0.mono (by intro j; simp; omega)).trans hA (by intro j; simp; omega)) hL hk
theorem who_subjects {B : Nat} {w : World} {pb : Nat} {v : PolV} {P : Policy} {L : List Wr} (h : LookAt B w pb v P why6 L) (a : Act) (hsz : a.tmps.size = 185)
 (h0 : At a 0 (.pointer (some ⟨pb, 0, none⟩))) (Q : Exit → Act → World → Prop)
 (hQ : ∀ a' w', Agree (fun i => i == 3 || i == 5 || (decide (14 ≤ i) && decide (i ≤ 65))) a a' → LookAt B w' pb v P why6 (P.subjects.flatMap whoSubject ++ L) → Keep (fun k => k = pb) w w' → Q .normal a' w') :
 (codeC Tryz.f54 [0]).wp Tryz.prog Q a w := by
 have hs := h.pol.subjects
 obtain ⟨A, c, hu, hnc, hn0, hl⟩ := hs
 unfold top at hn0
 have hlt := h.lt
 have hBp := h.base
 have hq : w.cell? ⟨pb, 5, none⟩ = some v.subjects := h.cell rfl
 rw [hu] at hq
 clear hu
 conv => arg 2; whnf
 refine wp_seq (Code.wp_only (R := fun a1 w1 => Agree (fun i => i == 14 || i == 15 || i == 16 || i == 17 || i == 18 || i == 19 || i == 20) a a1 ∧ At a1 18 (.slice A P.subjects.length c) ∧ At a1 19 (.int .i64 P.subjects.length) ∧ At a1 20 (.int .i64 0) ∧ w1 = w) ?_ ?_)
 · clear hl
   obtain ⟨T, d⟩ := a
   refine wp_region_lit ?_
   iterate 7 with_reducible refine st ?_
   with_reducible refine wpList_nil ?_
   refine ⟨rfl, ag, aq, aq, aq, rfl⟩
 rintro a0 w0 ⟨hA0, k_s, k_n, k_i, rfl⟩
 have hsz0 : a0.tmps.size = 185 := hA0.size.trans hsz
 replace h0 := hA0.at_ h0 rfl
 refine wp_range P.subjects.length (fun i => i == 3 || i == 5 || (decide (20 ≤ i) && decide (i ≤ 65))) (fun i => i == 3 || i == 5 || (decide (22 ≤ i) && decide (i ≤ 64))) (fun k _ w' => LookAt B w' pb v P why6 ((P.subjects.take k).flatMap whoSubject ++ L) ∧ Keep (fun k => k = pb) w0 w') (by omega) k_i k_n (by decide) rfl
  (by intro j; simp; omega) (by omega) (by decide) (fun k a1 a2 w hA hI => hI) ⟨by simpa [List.take_zero] using h, Keep.refl _ _⟩ ?_ ?_
 · rintro n a1 wr hlt2 hA k_j ⟨hL, hk⟩
   obtain ⟨bl, off, rfl, hbl, hcs⟩ := hl (by omega)
   obtain ⟨x, hx⟩ : ∃ x, P.subjects[n]? = some x := ⟨_, List.getElem?_eq_getElem hlt2⟩
   obtain ⟨u_maps, u_rules, hc, hs_maps, hs_rules, ok_x⟩ := (subject_stays B) _ _ _ _ _ (hk.below (B := B) (by omega) (fun _ hi e => by omega)) hbl (hcs n x hx)
   have HS_maps := Lib.hid hs_maps
   obtain ⟨A_mapsx, c_mapsx, rfl, hnc_maps, hn_maps, _⟩ := hs_maps
   unfold top at hn_maps
   have HS_rules := Lib.hid hs_rules
   obtain ⟨A_rulesx, c_rulesx, rfl, hnc_rules, hn_rules, _⟩ := hs_rules
   unfold top at hn_rules
   have q0 := hc.c0
   have q1 := hc 1 _ rfl
   have q2 := hc 2 _ rfl
   have q3 := hc 3 _ rfl
   have q4 := hc 4 _ rfl
   have q5 := hc 5 _ rfl
   have k_0 := hA.at_ h0 rfl
   have k_sl := hA.at_ k_s rfl
   have hsz1 : a1.tmps.size = 185 := hA.size.trans hsz0
   have hszw := hk.size
   have hblr : bl < wr.heap.size := by omega
   have HX := Lib.hid hx
   have HL := Lib.hid hL
   have HK := Lib.hid hk
   have hnc2 : n ≤ c := by omega
   have HA := Lib.hid hA
   clear hx hL hk hc hA hcs
   refine wp_seq (Code.wp_only (R := fun a2 w2 => Agree (fun i => i == 22 || i == 23 || i == 3) a1 a2 ∧ At a2 3 (.pointer (some ⟨wr.heap.size, 0, none⟩)) ∧ w2 = wr.alloc (Obj.cells #[.int .i64 x.pos, .string x.name, .int .u64 x.cpu, .bool x.stopped, .slice A_mapsx x.maps.length c_mapsx, .slice A_rulesx x.rules.length c_rulesx] 52)) ?_ ?_)
   · skip
     obtain ⟨T, d⟩ := a1
     refine wp_region_lit ?_
     iterate 4 with_reducible refine st ?_
     with_reducible refine wpList_nil ?_
     refine ⟨rfl, ag, aq, rfl⟩
   rintro a2 wo ⟨hA2, k_x, hwo⟩
   obtain ⟨z, hz⟩ : ∃ z, z = wr.heap.size := ⟨_, rfl⟩
   rw [← hz] at k_x
   have hx0 : CellsAt wo z 0 [.int .i64 x.pos, .string x.name, .int .u64 x.cpu, .bool x.stopped, .slice A_mapsx x.maps.length c_mapsx, .slice A_rulesx x.rules.length c_rulesx] := by rw [hwo, hz]; exact cells_new _ _ _
   have hzo : z < wo.heap.size := by rw [hwo, hz]; simp
   have hzpb : z ≠ pb := by omega
   have hko : Keep (fun _ => False) wr wo := by rw [hwo]; exact (Keep.refl _ _).alloc _
   have HL1 := Lib.hid (HL.out.new hko)
   have HK1 := Lib.hid (HK.out.trans hko (fun _ _ h => h.elim))
   have HKr : Hid (Keep (fun k => k = pb) wr wo) := hko.mono (fun _ _ h => h.elim)
   have k_0 := hA2.at_ k_0 rfl
   have hsz2 := hA2.size.trans hsz1
   have HAg : Hid (Agree (fun i => i == 3 || i == 5 || (decide (22 ≤ i) && decide (i ≤ 64))) a1 a2) := hA2.mono (by intro j; simp; omega)
   clear hwo hz hko HL HK hA2 q0 q1 q2 q3 q4 q5
   clear k_sl k_j hl
   refine wp_seq (Code.wp_only (R := fun a' w' => Agree (fun i => (decide (24 ≤ i) && decide (i ≤ 30))) a2 a' ∧ LookAt B w' pb v P why6 (say (decide (x.cpu < 4)) x.pos 0 ++ ((P.subjects.take n).flatMap whoSubject ++ L)) ∧ Keep (fun k => k = pb) wo w') ?_ ?_)
   · skip
     clear HAg HX
     have q_x_pos := hx0.c0
     have q_x_name := hx0 1 _ rfl
     have q_x_cpu := hx0 2 _ rfl
     have q_x_stopped := hx0 3 _ rfl
     have q_x_maps := hx0 4 _ rfl
     have q_x_rules := hx0 5 _ rfl
     clear hx0
     obtain ⟨b_x_cpu_lt4, eb_x_cpu_lt4⟩ : ∃ b, b = decide (x.cpu < 4) := ⟨_, rfl⟩
     have w1b_x_cpu_lt4 : decide ((x.cpu : Int) < 4) = b_x_cpu_lt4 := by rw [eb_x_cpu_lt4]; exact decide_eq_decide.2 (by omega)
     have HS : Hid (say (decide (x.cpu < 4)) x.pos 0 = say (b_x_cpu_lt4) x.pos 0) := by rw [eb_x_cpu_lt4]; rfl
     clear eb_x_cpu_lt4
     have HLd := HL1
     obtain ⟨T, d⟩ := a2
     refine wp_region_lit ?_
     iterate 6 with_reducible refine st ?_
     with_reducible refine wpList_step (fun K hK => ?_)
     go_simp
     refine (must_any _ _ 0 100 HLd.out rfl).mono ?_
     rintro e w2 ⟨rfl, hL2, hk2⟩
     with_reducible refine hK _ _ (wpList_nil ?_)
     refine ⟨rfl, ?_, ?_, ?_⟩
     · exact ag
     · have hs := HS.out
       try simp only [bS] at hs
       rw [hs]
       exact hL2
     · exact hk2
   rintro a3 w3 ⟨hA3, hL3, hk3⟩
   replace hx0 := hx0.keep hk3 hzo hzpb
   replace hzo : z < w3.heap.size := Nat.lt_of_lt_of_le hzo hk3.size
   replace HL1 := Lib.hid hL3
   replace HK1 := Lib.hid (HK1.out.trans hk3 (fun _ _ e => e))
   replace HKr := Lib.hid (HKr.out.trans hk3 (fun _ _ e => e))
   replace k_0 := hA3.at_ k_0 rfl
   replace k_x := hA3.at_ k_x rfl
   replace hsz2 := hA3.size.trans hsz2
   replace HAg : Hid (Agree (fun i => i == 3 || i == 5 || (decide (22 ≤ i) && decide (i ≤ 64))) a1 a3) := HAg.out.trans hA3 (by intro j; simp; omega)
   clear hA3 hL3 hk3
   refine who_rules HL1.out a3 hsz2 k_0 k_x (hx0 5 _ rfl) (HS_rules.out.below (flat_stays _ _ _) (HKr.out.below (B := B) (by omega) (fun _ hi e => by omega))) (Lib.hid fun w4 hk4 => hx0.keep hk4 hzo hzpb) k_x _ (fun a4 w4 hA3 hL3 hk3 => ?_)
   refine ⟨HAg.out.trans hA3 (by intro j; simp; omega), hL3.congr fun p => ?_, HK1.out.trans hk3 (fun _ _ e => e)⟩
   rw [take_at HX.out, List.flatMap_append, List.flatMap_cons, List.flatMap_nil, List.append_nil]
   simp only [List.mem_append, whoSubject]
   try simp only [or_assoc, or_comm, or_left_comm]
 · rintro a' w' hA ⟨hL, hk⟩
   rw [List.take_length] at hL
   exact hQ _ _ ((hA0.mono (by intro j; simp; omega)).trans hA (by intro j; simp; omega)) hL hk
theorem who_irqs {B : Nat} {w : World} {pb : Nat} {v : PolV} {P : Policy} {L : List Wr} (h : LookAt B w pb v P why6 L) (a : Act) (hsz : a.tmps.size = 185)
 (h0 : At a 0 (.pointer (some ⟨pb, 0, none⟩))) (Q : Exit → Act → World → Prop)
 (hQ : ∀ a' w', Agree (fun i => i == 7 || (decide (66 ≤ i) && decide (i ≤ 83))) a a' → LookAt B w' pb v P why6 (P.irqs.flatMap (fun x => say (decide (x.vector < 64)) x.pos 1) ++ L) → Keep (fun k => k = pb) w w' → Q .normal a' w') :
 (codeC Tryz.f54 [1,0]).wp Tryz.prog Q a w := by
 have hs := h.pol.irqs
 obtain ⟨A, c, hu, hnc, hn0, hl⟩ := hs
 unfold top at hn0
 have hlt := h.lt
 have hBp := h.base
 have hq : w.cell? ⟨pb, 7, none⟩ = some v.irqs := h.cell rfl
 rw [hu] at hq
 clear hu
 conv => arg 2; whnf
 refine wp_seq (Code.wp_only (R := fun a1 w1 => Agree (fun i => i == 66 || i == 67 || i == 68 || i == 69 || i == 70 || i == 71 || i == 72) a a1 ∧ At a1 70 (.slice A P.irqs.length c) ∧ At a1 71 (.int .i64 P.irqs.length) ∧ At a1 72 (.int .i64 0) ∧ w1 = w) ?_ ?_)
 · clear hl
   obtain ⟨T, d⟩ := a
   refine wp_region_lit ?_
   iterate 7 with_reducible refine st ?_
   with_reducible refine wpList_nil ?_
   refine ⟨rfl, ag, aq, aq, aq, rfl⟩
 rintro a0 w0 ⟨hA0, k_s, k_n, k_i, rfl⟩
 have hsz0 : a0.tmps.size = 185 := hA0.size.trans hsz
 replace h0 := hA0.at_ h0 rfl
 refine wp_range P.irqs.length (fun i => i == 7 || (decide (72 ≤ i) && decide (i ≤ 83))) (fun i => i == 7 || (decide (74 ≤ i) && decide (i ≤ 82))) (fun k _ w' => LookAt B w' pb v P why6 ((P.irqs.take k).flatMap (fun x => say (decide (x.vector < 64)) x.pos 1) ++ L) ∧ Keep (fun k => k = pb) w0 w') (by omega) k_i k_n (by decide) rfl
  (by intro j; simp; omega) (by omega) (by decide) (fun k a1 a2 w hA hI => hI) ⟨by simpa [List.take_zero] using h, Keep.refl _ _⟩ ?_ ?_
 · rintro n a1 wr hlt2 hA k_j ⟨hL, hk⟩
   obtain ⟨bl, off, rfl, hbl, hcs⟩ := hl (by omega)
   obtain ⟨x, hx⟩ : ∃ x, P.irqs[n]? = some x := ⟨_, List.getElem?_eq_getElem hlt2⟩
   obtain ⟨hc, ok_x⟩ := (flat_stays B _ _) _ _ _ _ _ (hk.below (B := B) (by omega) (fun _ hi e => by omega)) hbl (hcs n x hx)
   have q0 := hc.c0
   have q1 := hc 1 _ rfl
   have q2 := hc 2 _ rfl
   have q3 := hc 3 _ rfl
   have q4 := hc 4 _ rfl
   have q5 := hc 5 _ rfl
   have k_0 := hA.at_ h0 rfl
   have k_sl := hA.at_ k_s rfl
   have hsz1 : a1.tmps.size = 185 := hA.size.trans hsz0
   have hszw := hk.size
   have hblr : bl < wr.heap.size := by omega
   have HX := Lib.hid hx
   have HL := Lib.hid hL
   have HK := Lib.hid hk
   have hnc2 : n ≤ c := by omega
   have HA := Lib.hid hA
   clear hx hL hk hc hA hcs
   refine wp_seq (Code.wp_only (R := fun a2 w2 => Agree (fun i => i == 74 || i == 75 || i == 7) a1 a2 ∧ At a2 7 (.pointer (some ⟨wr.heap.size, 0, none⟩)) ∧ w2 = wr.alloc (Obj.cells #[.int .i64 x.pos, .string x.name, .string x.from_, .string x.to, .int .u64 x.vector, .bool x.masked] 58)) ?_ ?_)
   · skip
     obtain ⟨T, d⟩ := a1
     refine wp_region_lit ?_
     iterate 4 with_reducible refine st ?_
     with_reducible refine wpList_nil ?_
     refine ⟨rfl, ag, aq, rfl⟩
   rintro a2 wo ⟨hA2, k_x, hwo⟩
   obtain ⟨z, hz⟩ : ∃ z, z = wr.heap.size := ⟨_, rfl⟩
   rw [← hz] at k_x
   have hx0 : CellsAt wo z 0 [.int .i64 x.pos, .string x.name, .string x.from_, .string x.to, .int .u64 x.vector, .bool x.masked] := by rw [hwo, hz]; exact cells_new _ _ _
   have hzo : z < wo.heap.size := by rw [hwo, hz]; simp
   have hzpb : z ≠ pb := by omega
   have hko : Keep (fun _ => False) wr wo := by rw [hwo]; exact (Keep.refl _ _).alloc _
   have HL1 := Lib.hid (HL.out.new hko)
   have HK1 := Lib.hid (HK.out.trans hko (fun _ _ h => h.elim))
   have HKr : Hid (Keep (fun k => k = pb) wr wo) := hko.mono (fun _ _ h => h.elim)
   have k_0 := hA2.at_ k_0 rfl
   have hsz2 := hA2.size.trans hsz1
   have HAg : Hid (Agree (fun i => i == 7 || (decide (74 ≤ i) && decide (i ≤ 82))) a1 a2) := hA2.mono (by intro j; simp; omega)
   clear hwo hz hko HL HK hA2 q0 q1 q2 q3 q4 q5
   clear k_sl k_j hl
   refine Code.wp_only (R := fun a' w' => Agree (fun i => (decide (76 ≤ i) && decide (i ≤ 82))) a2 a' ∧ LookAt B w' pb v P why6 (say (decide (x.vector < 64)) x.pos 1 ++ ((P.irqs.take n).flatMap (fun x => say (decide (x.vector < 64)) x.pos 1) ++ L)) ∧ Keep (fun k => k = pb) wo w') ?_ ?_
   · skip
     clear HAg HX
     have q_x_pos := hx0.c0
     have q_x_name := hx0 1 _ rfl
     have q_x_from_ := hx0 2 _ rfl
     have q_x_to := hx0 3 _ rfl
     have q_x_vector := hx0 4 _ rfl
     have q_x_masked := hx0 5 _ rfl
     clear hx0
     obtain ⟨b_x_vector_lt64, eb_x_vector_lt64⟩ : ∃ b, b = decide (x.vector < 64) := ⟨_, rfl⟩
     have w1b_x_vector_lt64 : decide ((x.vector : Int) < 64) = b_x_vector_lt64 := by rw [eb_x_vector_lt64]; exact decide_eq_decide.2 (by omega)
     have HS : Hid (say (decide (x.vector < 64)) x.pos 1 = say (b_x_vector_lt64) x.pos 1) := by rw [eb_x_vector_lt64]; rfl
     clear eb_x_vector_lt64
     have HLd := HL1
     obtain ⟨T, d⟩ := a2
     refine wp_region_lit ?_
     iterate 6 with_reducible refine st ?_
     with_reducible refine wpList_step (fun K hK => ?_)
     go_simp
     refine (must_any _ _ 1 101 HLd.out rfl).mono ?_
     rintro e w2 ⟨rfl, hL2, hk2⟩
     with_reducible refine hK _ _ (wpList_nil ?_)
     refine ⟨rfl, ?_, ?_, ?_⟩
     · exact ag
     · have hs := HS.out
       try simp only [bS] at hs
       rw [hs]
       exact hL2
     · exact hk2
   rintro a3 w3 ⟨hA3, hL3, hk3⟩
   refine ⟨HAg.out.trans hA3 (by intro j; simp; omega), hL3.congr fun p => ?_, HK1.out.trans hk3 (fun _ _ e => e)⟩
   rw [take_at HX.out, List.flatMap_append, List.flatMap_cons, List.flatMap_nil, List.append_nil]
   simp only [List.mem_append, List.mem_append]
   try simp only [or_assoc, or_comm, or_left_comm]
 · rintro a' w' hA ⟨hL, hk⟩
   rw [List.take_length] at hL
   exact hQ _ _ ((hA0.mono (by intro j; simp; omega)).trans hA (by intro j; simp; omega)) hL hk
theorem who_forbids {B : Nat} {w : World} {pb : Nat} {v : PolV} {P : Policy} {L : List Wr} (h : LookAt B w pb v P why6 L) (a : Act) (hsz : a.tmps.size = 185)
 (h0 : At a 0 (.pointer (some ⟨pb, 0, none⟩))) (Q : Exit → Act → World → Prop)
 (hQ : ∀ a' w', Agree (fun i => i == 11 || (decide (128 ≤ i) && decide (i ≤ 147))) a a' → LookAt B w' pb v P why6 (P.forbids.flatMap (fun x => say (!decide (x.from_ = x.to)) x.pos 3) ++ L) → Keep (fun k => k = pb) w w' → Q .normal a' w') :
 (codeC Tryz.f54 [1,1,1,0]).wp Tryz.prog Q a w := by
 have hs := h.pol.forbids
 obtain ⟨A, c, hu, hnc, hn0, hl⟩ := hs
 unfold top at hn0
 have hlt := h.lt
 have hBp := h.base
 have hq : w.cell? ⟨pb, 13, none⟩ = some v.forbids := h.cell rfl
 rw [hu] at hq
 clear hu
 conv => arg 2; whnf
 refine wp_seq (Code.wp_only (R := fun a1 w1 => Agree (fun i => i == 128 || i == 129 || i == 130 || i == 131 || i == 132 || i == 133 || i == 134) a a1 ∧ At a1 132 (.slice A P.forbids.length c) ∧ At a1 133 (.int .i64 P.forbids.length) ∧ At a1 134 (.int .i64 0) ∧ w1 = w) ?_ ?_)
 · clear hl
   obtain ⟨T, d⟩ := a
   refine wp_region_lit ?_
   iterate 7 with_reducible refine st ?_
   with_reducible refine wpList_nil ?_
   refine ⟨rfl, ag, aq, aq, aq, rfl⟩
 rintro a0 w0 ⟨hA0, k_s, k_n, k_i, rfl⟩
 have hsz0 : a0.tmps.size = 185 := hA0.size.trans hsz
 replace h0 := hA0.at_ h0 rfl
 refine wp_range P.forbids.length (fun i => i == 11 || (decide (134 ≤ i) && decide (i ≤ 147))) (fun i => i == 11 || (decide (136 ≤ i) && decide (i ≤ 146))) (fun k _ w' => LookAt B w' pb v P why6 ((P.forbids.take k).flatMap (fun x => say (!decide (x.from_ = x.to)) x.pos 3) ++ L) ∧ Keep (fun k => k = pb) w0 w') (by omega) k_i k_n (by decide) rfl
  (by intro j; simp; omega) (by omega) (by decide) (fun k a1 a2 w hA hI => hI) ⟨by simpa [List.take_zero] using h, Keep.refl _ _⟩ ?_ ?_
 · rintro n a1 wr hlt2 hA k_j ⟨hL, hk⟩
   obtain ⟨bl, off, rfl, hbl, hcs⟩ := hl (by omega)
   obtain ⟨x, hx⟩ : ∃ x, P.forbids[n]? = some x := ⟨_, List.getElem?_eq_getElem hlt2⟩
   obtain ⟨hc, ok_x⟩ := (flat_stays B _ _) _ _ _ _ _ (hk.below (B := B) (by omega) (fun _ hi e => by omega)) hbl (hcs n x hx)
   have q0 := hc.c0
   have q1 := hc 1 _ rfl
   have q2 := hc 2 _ rfl
   have k_0 := hA.at_ h0 rfl
   have k_sl := hA.at_ k_s rfl
   have hsz1 : a1.tmps.size = 185 := hA.size.trans hsz0
   have hszw := hk.size
   have hblr : bl < wr.heap.size := by omega
   have HX := Lib.hid hx
   have HL := Lib.hid hL
   have HK := Lib.hid hk
   have hnc2 : n ≤ c := by omega
   have HA := Lib.hid hA
   clear hx hL hk hc hA hcs
   refine wp_seq (Code.wp_only (R := fun a2 w2 => Agree (fun i => i == 136 || i == 137 || i == 11) a1 a2 ∧ At a2 11 (.pointer (some ⟨wr.heap.size, 0, none⟩)) ∧ w2 = wr.alloc (Obj.cells #[.int .i64 x.pos, .string x.from_, .string x.to] 68)) ?_ ?_)
   · skip
     obtain ⟨T, d⟩ := a1
     refine wp_region_lit ?_
     iterate 4 with_reducible refine st ?_
     with_reducible refine wpList_nil ?_
     refine ⟨rfl, ag, aq, rfl⟩
   rintro a2 wo ⟨hA2, k_x, hwo⟩
   obtain ⟨z, hz⟩ : ∃ z, z = wr.heap.size := ⟨_, rfl⟩
   rw [← hz] at k_x
   have hx0 : CellsAt wo z 0 [.int .i64 x.pos, .string x.from_, .string x.to] := by rw [hwo, hz]; exact cells_new _ _ _
   have hzo : z < wo.heap.size := by rw [hwo, hz]; simp
   have hzpb : z ≠ pb := by omega
   have hko : Keep (fun _ => False) wr wo := by rw [hwo]; exact (Keep.refl _ _).alloc _
   have HL1 := Lib.hid (HL.out.new hko)
   have HK1 := Lib.hid (HK.out.trans hko (fun _ _ h => h.elim))
   have HKr : Hid (Keep (fun k => k = pb) wr wo) := hko.mono (fun _ _ h => h.elim)
   have k_0 := hA2.at_ k_0 rfl
   have hsz2 := hA2.size.trans hsz1
   have HAg : Hid (Agree (fun i => i == 11 || (decide (136 ≤ i) && decide (i ≤ 146))) a1 a2) := hA2.mono (by intro j; simp; omega)
   clear hwo hz hko HL HK hA2 q0 q1 q2
   clear k_sl k_j hl
   refine Code.wp_only (R := fun a' w' => Agree (fun i => (decide (138 ≤ i) && decide (i ≤ 146))) a2 a' ∧ LookAt B w' pb v P why6 (say (!decide (x.from_ = x.to)) x.pos 3 ++ ((P.forbids.take n).flatMap (fun x => say (!decide (x.from_ = x.to)) x.pos 3) ++ L)) ∧ Keep (fun k => k = pb) wo w') ?_ ?_
   · skip
     clear HAg HX
     have q_x_pos := hx0.c0
     have q_x_from_ := hx0 1 _ rfl
     have q_x_to := hx0 2 _ rfl
     clear hx0
     obtain ⟨b_x_from__is_x_to, eb_x_from__is_x_to⟩ : ∃ b, b = decide (x.from_ = x.to) := ⟨_, rfl⟩
     have w1b_x_from__is_x_to : (x.from_.toList == x.to.toList) = b_x_from__is_x_to := by rw [eb_x_from__is_x_to]; exact bytes_beq _ _
     have w2b_x_from__is_x_to : (x.from_.toList != x.to.toList) = !b_x_from__is_x_to := by rw [← w1b_x_from__is_x_to]; rfl
     have HS : Hid (say (!decide (x.from_ = x.to)) x.pos 3 = say (!b_x_from__is_x_to) x.pos 3) := by rw [eb_x_from__is_x_to]; rfl
     clear eb_x_from__is_x_to
     have HLd := HL1
     obtain ⟨T, d⟩ := a2
     refine wp_region_lit ?_
     iterate 8 with_reducible refine st ?_
     with_reducible refine wpList_step (fun K hK => ?_)
     go_simp
     refine (must_any _ _ 3 102 HLd.out rfl).mono ?_
     rintro e w2 ⟨rfl, hL2, hk2⟩
     with_reducible refine hK _ _ (wpList_nil ?_)
     refine ⟨rfl, ?_, ?_, ?_⟩
     · exact ag
     · have hs := HS.out
       try simp only [bS] at hs
       rw [hs]
       exact hL2
     · exact hk2
   rintro a3 w3 ⟨hA3, hL3, hk3⟩
   refine ⟨HAg.out.trans hA3 (by intro j; simp; omega), hL3.congr fun p => ?_, HK1.out.trans hk3 (fun _ _ e => e)⟩
   rw [take_at HX.out, List.flatMap_append, List.flatMap_cons, List.flatMap_nil, List.append_nil]
   simp only [List.mem_append, List.mem_append]
   try simp only [or_assoc, or_comm, or_left_comm]
 · rintro a' w' hA ⟨hL, hk⟩
   rw [List.take_length] at hL
   exact hQ _ _ ((hA0.mono (by intro j; simp; omega)).trans hA (by intro j; simp; omega)) hL hk
theorem who_queues {B : Nat} {w : World} {pb : Nat} {v : PolV} {P : Policy} {L : List Wr} (h : LookAt B w pb v P why6 L) (a : Act) (hsz : a.tmps.size = 185)
 (h0 : At a 0 (.pointer (some ⟨pb, 0, none⟩))) (Q : Exit → Act → World → Prop)
 (hQ : ∀ a' w', Agree (fun i => i == 13 || (decide (148 ≤ i) && decide (i ≤ 184))) a a' → LookAt B w' pb v P why6 (P.queues.flatMap whoQueue ++ L) → Keep (fun k => k = pb) w w' → Q .normal a' w') :
 (codeC Tryz.f54 [1,1,1,1]).wp Tryz.prog Q a w := by
 have hs := h.pol.queues
 obtain ⟨A, c, hu, hnc, hn0, hl⟩ := hs
 unfold top at hn0
 have hlt := h.lt
 have hBp := h.base
 have hq : w.cell? ⟨pb, 8, none⟩ = some v.queues := h.cell rfl
 rw [hu] at hq
 clear hu
 conv => arg 2; whnf
 refine wp_seq (Code.wp_only (R := fun a1 w1 => Agree (fun i => i == 148 || i == 149 || i == 150 || i == 151 || i == 152 || i == 153 || i == 154) a a1 ∧ At a1 152 (.slice A P.queues.length c) ∧ At a1 153 (.int .i64 P.queues.length) ∧ At a1 154 (.int .i64 0) ∧ w1 = w) ?_ ?_)
 · clear hl
   obtain ⟨T, d⟩ := a
   refine wp_region_lit ?_
   iterate 7 with_reducible refine st ?_
   with_reducible refine wpList_nil ?_
   refine ⟨rfl, ag, aq, aq, aq, rfl⟩
 rintro a0 w0 ⟨hA0, k_s, k_n, k_i, rfl⟩
 have hsz0 : a0.tmps.size = 185 := hA0.size.trans hsz
 replace h0 := hA0.at_ h0 rfl
 refine wp_range P.queues.length (fun i => i == 13 || (decide (154 ≤ i) && decide (i ≤ 184))) (fun i => i == 13 || (decide (156 ≤ i) && decide (i ≤ 183))) (fun k _ w' => LookAt B w' pb v P why6 ((P.queues.take k).flatMap whoQueue ++ L) ∧ Keep (fun k => k = pb) w0 w') (by omega) k_i k_n (by decide) rfl
  (by intro j; simp; omega) (by omega) (by decide) (fun k a1 a2 w hA hI => hI) ⟨by simpa [List.take_zero] using h, Keep.refl _ _⟩ ?_ ?_
 · rintro n a1 wr hlt2 hA k_j ⟨hL, hk⟩
   obtain ⟨bl, off, rfl, hbl, hcs⟩ := hl (by omega)
   obtain ⟨x, hx⟩ : ∃ x, P.queues[n]? = some x := ⟨_, List.getElem?_eq_getElem hlt2⟩
   obtain ⟨hc, ok_x⟩ := (flat_stays B _ _) _ _ _ _ _ (hk.below (B := B) (by omega) (fun _ hi e => by omega)) hbl (hcs n x hx)
   have q0 := hc.c0
   have q1 := hc 1 _ rfl
   have q2 := hc 2 _ rfl
   have q3 := hc 3 _ rfl
   have q4 := hc 4 _ rfl
   have q5 := hc 5 _ rfl
   have k_0 := hA.at_ h0 rfl
   have k_sl := hA.at_ k_s rfl
   have hsz1 : a1.tmps.size = 185 := hA.size.trans hsz0
   have hszw := hk.size
   have hblr : bl < wr.heap.size := by omega
   have HX := Lib.hid hx
   have HL := Lib.hid hL
   have HK := Lib.hid hk
   have hnc2 : n ≤ c := by omega
   have HA := Lib.hid hA
   clear hx hL hk hc hA hcs
   refine wp_seq (Code.wp_only (R := fun a2 w2 => Agree (fun i => i == 156 || i == 157 || i == 13) a1 a2 ∧ At a2 13 (.pointer (some ⟨wr.heap.size, 0, none⟩)) ∧ w2 = wr.alloc (Obj.cells #[.int .i64 x.pos, .string x.name, .string x.from_, .string x.to, .int .i64 x.how, .int .u64 x.depth] 65)) ?_ ?_)
   · skip
     obtain ⟨T, d⟩ := a1
     refine wp_region_lit ?_
     iterate 4 with_reducible refine st ?_
     with_reducible refine wpList_nil ?_
     refine ⟨rfl, ag, aq, rfl⟩
   rintro a2 wo ⟨hA2, k_x, hwo⟩
   obtain ⟨z, hz⟩ : ∃ z, z = wr.heap.size := ⟨_, rfl⟩
   rw [← hz] at k_x
   have hx0 : CellsAt wo z 0 [.int .i64 x.pos, .string x.name, .string x.from_, .string x.to, .int .i64 x.how, .int .u64 x.depth] := by rw [hwo, hz]; exact cells_new _ _ _
   have hzo : z < wo.heap.size := by rw [hwo, hz]; simp
   have hzpb : z ≠ pb := by omega
   have hko : Keep (fun _ => False) wr wo := by rw [hwo]; exact (Keep.refl _ _).alloc _
   have HL1 := Lib.hid (HL.out.new hko)
   have HK1 := Lib.hid (HK.out.trans hko (fun _ _ h => h.elim))
   have HKr : Hid (Keep (fun k => k = pb) wr wo) := hko.mono (fun _ _ h => h.elim)
   have k_0 := hA2.at_ k_0 rfl
   have hsz2 := hA2.size.trans hsz1
   have HAg : Hid (Agree (fun i => i == 13 || (decide (156 ≤ i) && decide (i ≤ 183))) a1 a2) := hA2.mono (by intro j; simp; omega)
   clear hwo hz hko HL HK hA2 q0 q1 q2 q3 q4 q5
   clear k_sl k_j hl
   refine wp_seq (Code.wp_only (R := fun a' w' => Agree (fun i => (decide (158 ≤ i) && decide (i ≤ 174))) a2 a' ∧ LookAt B w' pb v P why6 (say (decide (x.how = 3) || decide (1 ≤ x.depth) && decide (x.depth ≤ 64)) x.pos 2 ++ ((P.queues.take n).flatMap whoQueue ++ L)) ∧ Keep (fun k => k = pb) wo w') ?_ ?_)
   · skip
     clear HAg HX
     have q_x_pos := hx0.c0
     have q_x_name := hx0 1 _ rfl
     have q_x_from_ := hx0 2 _ rfl
     have q_x_to := hx0 3 _ rfl
     have q_x_how := hx0 4 _ rfl
     have q_x_depth := hx0 5 _ rfl
     clear hx0
     obtain ⟨b_x_how_eq3, eb_x_how_eq3⟩ : ∃ b, b = decide (x.how = 3) := ⟨_, rfl⟩
     have w1b_x_how_eq3 : ((x.how : Int) == 3) = b_x_how_eq3 := by rw [eb_x_how_eq3]; exact int_eqb _ _
     have w2b_x_how_eq3 : ((x.how : Int) != 3) = !b_x_how_eq3 := by rw [eb_x_how_eq3]; exact int_neb _ _
     obtain ⟨b_x_depth_ge1, eb_x_depth_ge1⟩ : ∃ b, b = decide (1 ≤ x.depth) := ⟨_, rfl⟩
     have w1b_x_depth_ge1 : decide (1 ≤ (x.depth : Int)) = b_x_depth_ge1 := by rw [eb_x_depth_ge1]; exact decide_eq_decide.2 (by omega)
     obtain ⟨b_x_depth_le64, eb_x_depth_le64⟩ : ∃ b, b = decide (x.depth ≤ 64) := ⟨_, rfl⟩
     have w1b_x_depth_le64 : decide ((x.depth : Int) ≤ 64) = b_x_depth_le64 := by rw [eb_x_depth_le64]; exact decide_eq_decide.2 (by omega)
     have HS : Hid (say (decide (x.how = 3) || decide (1 ≤ x.depth) && decide (x.depth ≤ 64)) x.pos 2 = say ((b_x_how_eq3 || (b_x_depth_ge1 && b_x_depth_le64))) x.pos 2) := by rw [eb_x_how_eq3, eb_x_depth_ge1, eb_x_depth_le64]; rfl
     clear eb_x_how_eq3
     clear eb_x_depth_ge1
     clear eb_x_depth_le64
     have HLd := HL1
     have hun := undef_eq
     obtain ⟨T, d⟩ := a2
     refine wp_region_lit ?_
     iterate 5 with_reducible refine st ?_
     cases b_x_how_eq3
     · iterate 4
        with_reducible refine st ?_
       cases b_x_depth_ge1
       · iterate 7
          with_reducible refine st ?_
         with_reducible refine wpList_step (fun K hK => ?_)
         go_simp
         refine (must_any _ _ 2 113 HLd.out rfl).mono ?_
         rintro e w2 ⟨rfl, hL2, hk2⟩
         with_reducible refine hK _ _ (wpList_nil ?_)
         refine ⟨rfl, ?_, ?_, ?_⟩
         · exact ag
         · have hs := HS.out
           try simp only [bS] at hs
           rw [hs]
           exact hL2
         · exact hk2
       · iterate 7
          with_reducible refine st ?_
         with_reducible refine wpList_step (fun K hK => ?_)
         go_simp
         refine (must_any _ _ 2 113 HLd.out rfl).mono ?_
         rintro e w2 ⟨rfl, hL2, hk2⟩
         with_reducible refine hK _ _ (wpList_nil ?_)
         refine ⟨rfl, ?_, ?_, ?_⟩
         · exact ag
         · have hs := HS.out
           try simp only [bS] at hs
           rw [hs]
           exact hL2
         · exact hk2
     · iterate 11
        with_reducible refine st ?_
       with_reducible refine wpList_step (fun K hK => ?_)
       go_simp
       refine (must_any _ _ 2 113 HLd.out rfl).mono ?_
       rintro e w2 ⟨rfl, hL2, hk2⟩
       with_reducible refine hK _ _ (wpList_nil ?_)
       refine ⟨rfl, ?_, ?_, ?_⟩
       · exact ag
       · have hs := HS.out
         try simp only [bS] at hs
         rw [hs]
         exact hL2
       · exact hk2
   rintro a3 w3 ⟨hA3, hL3, hk3⟩
   replace hx0 := hx0.keep hk3 hzo hzpb
   replace hzo : z < w3.heap.size := Nat.lt_of_lt_of_le hzo hk3.size
   replace HL1 := Lib.hid hL3
   replace HK1 := Lib.hid (HK1.out.trans hk3 (fun _ _ e => e))
   replace HKr := Lib.hid (HKr.out.trans hk3 (fun _ _ e => e))
   replace k_0 := hA3.at_ k_0 rfl
   replace k_x := hA3.at_ k_x rfl
   replace hsz2 := hA3.size.trans hsz2
   replace HAg : Hid (Agree (fun i => i == 13 || (decide (156 ≤ i) && decide (i ≤ 183))) a1 a3) := HAg.out.trans hA3 (by intro j; simp; omega)
   clear hA3 hL3 hk3
   refine Code.wp_only (R := fun a' w' => Agree (fun i => (decide (175 ≤ i) && decide (i ≤ 183))) a3 a' ∧ LookAt B w' pb v P why6 (say (!decide (x.from_ = x.to)) x.pos 3 ++ (say (decide (x.how = 3) || decide (1 ≤ x.depth) && decide (x.depth ≤ 64)) x.pos 2 ++ ((P.queues.take n).flatMap whoQueue ++ L))) ∧ Keep (fun k => k = pb) w3 w') ?_ ?_
   · skip
     clear HAg HX
     have q_x_pos := hx0.c0
     have q_x_name := hx0 1 _ rfl
     have q_x_from_ := hx0 2 _ rfl
     have q_x_to := hx0 3 _ rfl
     have q_x_how := hx0 4 _ rfl
     have q_x_depth := hx0 5 _ rfl
     clear hx0
     obtain ⟨b_x_from__is_x_to, eb_x_from__is_x_to⟩ : ∃ b, b = decide (x.from_ = x.to) := ⟨_, rfl⟩
     have w1b_x_from__is_x_to : (x.from_.toList == x.to.toList) = b_x_from__is_x_to := by rw [eb_x_from__is_x_to]; exact bytes_beq _ _
     have w2b_x_from__is_x_to : (x.from_.toList != x.to.toList) = !b_x_from__is_x_to := by rw [← w1b_x_from__is_x_to]; rfl
     have HS : Hid (say (!decide (x.from_ = x.to)) x.pos 3 = say (!b_x_from__is_x_to) x.pos 3) := by rw [eb_x_from__is_x_to]; rfl
     clear eb_x_from__is_x_to
     have HLd := HL1
     obtain ⟨T, d⟩ := a3
     refine wp_region_lit ?_
     iterate 8 with_reducible refine st ?_
     with_reducible refine wpList_step (fun K hK => ?_)
     go_simp
     refine (must_any _ _ 3 102 HLd.out rfl).mono ?_
     rintro e w2 ⟨rfl, hL2, hk2⟩
     with_reducible refine hK _ _ (wpList_nil ?_)
     refine ⟨rfl, ?_, ?_, ?_⟩
     · exact ag
     · have hs := HS.out
       try simp only [bS] at hs
       rw [hs]
       exact hL2
     · exact hk2
   rintro a4 w4 ⟨hA3, hL3, hk3⟩
   refine ⟨HAg.out.trans hA3 (by intro j; simp; omega), hL3.congr fun p => ?_, HK1.out.trans hk3 (fun _ _ e => e)⟩
   rw [take_at HX.out, List.flatMap_append, List.flatMap_cons, List.flatMap_nil, List.append_nil]
   simp only [List.mem_append, whoQueue]
   try simp only [or_assoc, or_comm, or_left_comm]
 · rintro a' w' hA ⟨hL, hk⟩
   rw [List.take_length] at hL
   exact hQ _ _ ((hA0.mono (by intro j; simp; omega)).trans hA (by intro j; simp; omega)) hL hk
def okMap (c : Ck.Channel) (y : ByteArray) (m : Ck.Map) : Bool := !decide (m.of = c.over) || (decide (y = c.from_) || decide (y = c.to) && !m.write)
theorem zero3 (w : World) : (zeroValue 3).run Tryz.prog w = .ok (.int .i64 0) w := by kernel_rfl
theorem theirs_in {B M : Nat} {w : World} {cnt0 n0 : Nat} (hB : B ≤ M) (hM : M < w.heap.size) (a : Act) (hsz : a.tmps.size = 85) {zc : Nat} {c : Ck.Channel} (HC : Hid (∀ w0, Keep (fun k => k = M) w w0 → CellsAt w0 zc 0 [.int .i64 c.pos, .string c.name, .string c.from_, .string c.to, .bool c.shared, .string c.over, .int .i64 c.how, .int .u64 c.vector])) (h3 : At a 3 (.pointer (some ⟨zc, 0, none⟩))) (h5 : At a 5 (.map (some M)))
 {zy : Nat} {y : Subject} {A_rulesy : Option Addr} {c_rulesy c_mapsy : Nat} {A_mapsy : Option Addr} (HY : Hid (∀ w0, Keep (fun k => k = M) w w0 → CellsAt w0 zy 0 [.int .i64 y.pos, .string y.name, .int .u64 y.cpu, .bool y.stopped, .slice A_mapsy y.maps.length c_mapsy, .slice A_rulesy y.rules.length c_rulesy])) (h7 : At a 7 (.pointer (some ⟨zy, 0, none⟩))) (hsn : y.name.size ≤ maxLen)
 (hs : SliceAt B 5 MapAt w (.slice A_mapsy y.maps.length c_mapsy) y.maps) {n : Nat} {cnt : ByteArray → Nat} {p : ByteArray → Bool} {hit : ByteArray → Prop} (hn : n ≤ 8796093022208) (hE : SMap w M n (.int .i64 0) (fun s => .int .i64 (cnt s)) p) (hcn : ∀ s, cnt s ≤ n ∧ (0 < cnt s ↔ hit s)) (Q : Exit → Act → World → Prop)
 (hQ : ∀ a' w' (n' : Nat) (cnt' : ByteArray → Nat) p', Agree (fun i => i == 4 || i == 9 || (decide (23 ≤ i) && decide (i ≤ 56))) a a' → n' ≤ n + y.maps.length → SMap w' M n' (.int .i64 0) (fun s => .int .i64 (cnt' s)) p' → (∀ s, cnt' s ≤ n' ∧ (0 < cnt' s ↔ (hit s ∨ (s = y.name ∧ ∃ m ∈ y.maps, m.of = c.over)))) → (∀ m ∈ y.maps, okMap c y.name m = true) → Keep (fun k => k = M) w w' → Q .normal a' w')
 (hR : ∀ a' w', At a' 4 (.bool false) → a'.tmps.size = 85 → a'.defers = a.defers → (∃ m ∈ y.maps, okMap c y.name m = false) → Keep (fun k => k = M) w w' → Q .ret a' w') :
 (codeC Tryz.f103 [1,1,0,1,0,0,1,1,0,0,1]).wp Tryz.prog Q a w := by
 have hsl := hs
 obtain ⟨_, _, e, hnc, hn0, hl⟩ := hs
 cases e
 unfold top at hn0
 have hq := HY.out _ (Keep.refl _ _) 4 _ rfl
 conv => arg 2; whnf
 refine wp_seq (Code.wp_only (R := fun a1 w1 => Agree (fun i => (decide (23 ≤ i) && decide (i ≤ 26))) a a1 ∧ At a1 24 (.slice A_mapsy y.maps.length c_mapsy) ∧ At a1 25 (.int .i64 y.maps.length) ∧ At a1 26 (.int .i64 0) ∧ w1 = w) ?_ ?_)
 · clear hl hE hcn HC HY
   obtain ⟨T, d⟩ := a
   refine wp_region_lit ?_
   iterate 4 with_reducible refine st ?_
   with_reducible refine wpList_nil ?_
   refine ⟨rfl, ag, aq, aq, aq, rfl⟩
 rintro a0 w0 ⟨hA0, k_s, k_n, k_i, rfl⟩
 have hsz0 : a0.tmps.size = 85 := hA0.size.trans hsz
 replace h3 := hA0.at_ h3 rfl
 replace h5 := hA0.at_ h5 rfl
 replace h7 := hA0.at_ h7 rfl
 refine wp_range y.maps.length (fun i => i == 4 || i == 9 || (decide (26 ≤ i) && decide (i ≤ 56))) (fun i => i == 4 || i == 9 || (decide (28 ≤ i) && decide (i ≤ 55))) (fun k _ w' => ∃ (n' : Nat) (cnt' : ByteArray → Nat) (p' : ByteArray → Bool), n' ≤ n + k ∧ SMap w' M n' (.int .i64 0) (fun s => .int .i64 (cnt' s)) p' ∧ (∀ s, cnt' s ≤ n' ∧ (0 < cnt' s ↔ (hit s ∨ (s = y.name ∧ ∃ m ∈ y.maps.take k, m.of = c.over)))) ∧ (∀ m ∈ y.maps.take k, okMap c y.name m = true) ∧ Keep (fun k => k = M) w0 w') (by omega) k_i k_n (by decide) rfl
  (by intro j; simp; omega) (by omega) (by decide) (fun k a1 a2 w hA hI => hI) ⟨n, cnt, p, by omega, hE, fun s => ⟨(hcn s).1, by rw [(hcn s).2]; simp⟩, by simp, Keep.refl _ _⟩ ?_ ?_
 · rintro k a1 wr hlt2 hA k_j ⟨n1, cnt1, p1, hn1, hE1, hcn1, hok1, hk⟩
   obtain ⟨bl, off, rfl, hbl, hcs⟩ := hl (by omega)
   obtain ⟨m, hx⟩ : ∃ x, y.maps[k]? = some x := ⟨_, List.getElem?_eq_getElem hlt2⟩
   obtain ⟨hc, ok_m⟩ := (flat_stays B _ _) _ _ _ _ _ (hk.below (B := B) (by omega) (fun _ hi e => by omega)) hbl (hcs k m hx)
   have q0 := hc.c0
   have q1 := hc 1 _ rfl
   have q2 := hc 2 _ rfl
   have q3 := hc 3 _ rfl
   have q4 := hc 4 _ rfl
   have k_3 := hA.at_ h3 rfl
   have k_5 := hA.at_ h5 rfl
   have k_7 := hA.at_ h7 rfl
   have k_sl := hA.at_ k_s rfl
   have hsz1 : a1.tmps.size = 85 := hA.size.trans hsz0
   have hszw := hk.size
   have hblr : bl < wr.heap.size := by omega
   have hnc2 : k ≤ c_mapsy := by omega
   have hdf1 : a1.defers = a0.defers := hA.defers
   have HX := Lib.hid hx
   have HK := Lib.hid hk
   have HA := Lib.hid hA
   have HE := Lib.hid hE1
   have HCN := Lib.hid hcn1
   have HOK := Lib.hid hok1
   have HE0 := Lib.hid hE
   have HCN0 := Lib.hid hcn
   have HCS := Lib.hid hcs
   have hmem : m ∈ y.maps := List.mem_of_getElem? hx
   clear hx hk hc hA hcs hE1 hcn1 hok1 hE hcn hl
   refine wp_seq (Code.wp_only (R := fun a2 w2 => Agree (fun i => i == 28 || i == 29 || i == 9) a1 a2 ∧ At a2 9 (.pointer (some ⟨wr.heap.size, 0, none⟩)) ∧ w2 = wr.alloc (Obj.cells #[.int .i64 m.pos, .string m.of, .int .u64 m.at_, .bool m.write, .bool m.exec] 71)) ?_ ?_)
   · clear HC HY
     obtain ⟨T, d⟩ := a1
     refine wp_region_lit ?_
     iterate 4 with_reducible refine st ?_
     with_reducible refine wpList_nil ?_
     refine ⟨rfl, ag, aq, rfl⟩
   rintro a2 wo ⟨hA2, k_9, hwo⟩
   obtain ⟨z, hz⟩ : ∃ z, z = wr.heap.size := ⟨_, rfl⟩
   rw [← hz] at k_9
   have hx0 : CellsAt wo z 0 [.int .i64 m.pos, .string m.of, .int .u64 m.at_, .bool m.write, .bool m.exec] := by rw [hwo, hz]; exact cells_new _ _ _
   have hko : Keep (fun _ => False) wr wo := by rw [hwo]; exact (Keep.refl _ _).alloc _
   have hzM : z ≠ M := by have := HE.out.lt; omega
   have hzo : z < wo.heap.size := by rw [hwo, hz]; simp
   have hKo : Keep (fun k => k = M) w0 wo := HK.out.trans hko (fun _ _ h => h.elim)
   have HEo := Lib.hid (HE.out.keep hko (fun h => h))
   have xc := HC.out _ hKo
   have xy := HY.out _ hKo
   have hsz2 : a2.tmps.size = 85 := hA2.size.trans hsz1
   have j_3 := hA2.at_ k_3 rfl
   have j_5 := hA2.at_ k_5 rfl
   have j_7 := hA2.at_ k_7 rfl
   have hdf2 : a2.defers = a0.defers := hA2.defers.trans hdf1
   have HAg : Hid (Agree (fun i => i == 4 || i == 9 || (decide (28 ≤ i) && decide (i ≤ 55))) a1 a2) := hA2.mono (by intro j; simp; omega)
   have HKo := Lib.hid hKo
   clear hwo hz hko HE HK hA2 hKo q0 q1 q2 q3 q4 k_sl k_j k_3 k_5 k_7
   have q_of := hx0 1 _ rfl
   have q_w := hx0 3 _ rfl
   have q_ov := xc 5 _ rfl
   have q_fr := xc 2 _ rfl
   have q_to := xc 3 _ rfl
   have q_nm := xy 1 _ rfl
   clear xc xy hx0
   obtain ⟨bo, ebo⟩ : ∃ b, b = decide (m.of = c.over) := ⟨_, rfl⟩
   obtain ⟨bf, ebf⟩ : ∃ b, b = decide (y.name = c.from_) := ⟨_, rfl⟩
   obtain ⟨bt, ebt⟩ : ∃ b, b = decide (y.name = c.to) := ⟨_, rfl⟩
   obtain ⟨bw, ebw⟩ : ∃ b, b = m.write := ⟨_, rfl⟩
   rw [← ebw] at q_w
   have tt1 : (m.of.toList == c.over.toList) = bo := by rw [ebo]; exact bytes_beq _ _
   have tt2 : (m.of.toList != c.over.toList) = !bo := by rw [← tt1]; rfl
   have tt3 : (y.name.toList == c.from_.toList) = bf := by rw [ebf]; exact bytes_beq _ _
   have tt4 : (y.name.toList != c.from_.toList) = !bf := by rw [← tt3]; rfl
   have tt5 : (y.name.toList == c.to.toList) = bt := by rw [ebt]; exact bytes_beq _ _
   have tt6 : (y.name.toList != c.to.toList) = !bt := by rw [← tt5]; rfl
   have HOKM : Hid (okMap c y.name m = (!bo || (bf || bt && !bw))) := by rw [ebo, ebf, ebt, ebw]; rfl
   have HBO := Lib.hid ebo
   clear ebo ebf ebt ebw
   refine wp_seq (wp_seq (Code.wp_only (R := fun a3 w3 => Agree (fun i => (decide (30 ≤ i) && decide (i ≤ 34))) a2 a3 ∧ At a3 34 (.bool (!bo)) ∧ w3 = wo) ?_ ?_))
   · clear HC HY tt3 tt4 tt5 tt6
     obtain ⟨T, d⟩ := a2
     refine wp_region_lit ?_
     iterate 5 with_reducible refine st ?_
     with_reducible refine wpList_nil ?_
     refine ⟨rfl, ag, aq, rfl⟩
   rintro a3 w3 ⟨hA3, k_34, rfl⟩
   have e34 := k_34.eval (by rw [hA3.size, hsz2]; decide)
   have hsz3 := hA3.size.trans hsz2
   have i_3 := hA3.at_ j_3 rfl
   have i_5 := hA3.at_ j_5 rfl
   have i_7 := hA3.at_ j_7 rfl
   have i_9 := hA3.at_ k_9 rfl
   have hdf3 := hA3.defers.trans hdf2
   have HAg3 : Hid (Agree (fun i => i == 4 || i == 9 || (decide (28 ≤ i) && decide (i ≤ 55))) a1 a3) := HAg.out.trans hA3 (by intro j; simp; omega)
   clear hA3 j_3 j_5 j_7 k_9 HAg hdf2
   cases bo
   · refine wp_cond_true e34 (wp_exit ?_)
     repeat with_reducible apply then_exit
     simp only [InBody, if_true]
     have hne : m.of ≠ c.over := of_decide_eq_false HBO.out.symm
     refine ⟨HAg3.out, n1, cnt1, p1, by omega, HEo.out, fun s => ⟨(HCN.out s).1, ?_⟩, ?_, HKo.out⟩
     · rw [(HCN.out s).2, take_at HX.out]
       simp [hne]
     · rw [take_at HX.out]
       intro x hx
       rcases List.mem_append.1 hx with hx | hx
       · exact HOK.out x hx
       · have e : x = m := by simpa using hx
         subst e
         rw [HOKM.out]; rfl
   · refine wp_cond_false e34 (wp_skip ?_)
     with_reducible apply then_normal
     refine wp_seq (wp_seq (Code.wp_only (R := fun a4 w4 => Agree (fun i => (decide (35 ≤ i) && decide (i ≤ 50))) a3 a4 ∧ At a4 50 (.bool (!bf && (!bt || bw))) ∧ w4 = w3) ?_ ?_))
     · clear HC HY tt1 tt2
       have hun := undef_eq
       obtain ⟨T, d⟩ := a3
       refine wp_region_lit ?_
       cases bf <;> cases bt <;> cases bw
       all_goals
        iterate 16 with_reducible refine st ?_
        with_reducible refine wpList_nil ?_
        refine ⟨rfl, ?_, ?_, rfl⟩
        · exact ag
        · try simp only [Bool.not_true, Bool.not_false, Bool.true_and, Bool.false_and, Bool.true_or, Bool.false_or, Bool.or_true, Bool.or_false, Bool.and_true, Bool.and_false]
          exact aq
     rintro a4 w4 ⟨hA4, k_50, rfl⟩
     have e50 := k_50.eval (by rw [hA4.size, hsz3]; decide)
     have hsz4 := hA4.size.trans hsz3
     have l_3 := hA4.at_ i_3 rfl
     have l_5 := hA4.at_ i_5 rfl
     have l_7 := hA4.at_ i_7 rfl
     have hdf4 := hA4.defers.trans hdf3
     have HAg4 : Hid (Agree (fun i => i == 4 || i == 9 || (decide (28 ≤ i) && decide (i ≤ 55))) a1 a4) := HAg3.out.trans hA4 (by intro j; simp; omega)
     clear hA4 i_3 i_5 i_7 i_9 HAg3
     obtain ⟨bad, ebad⟩ : ∃ b, b = (!bf && (!bt || bw)) := ⟨_, rfl⟩
     rw [← ebad] at e50
     have hbad : okMap c y.name m = !bad := by rw [HOKM.out, ebad]; cases bf <;> cases bt <;> cases bw <;> rfl
     have HBD := Lib.hid hbad
     clear hbad ebad tt1 tt2 tt3 tt4 tt5 tt6
     cases bad
     · refine wp_cond_false e50 (wp_skip ?_)
       with_reducible apply then_normal
       have hcb := (HCN.out y.name).1
       obtain ⟨cy, ecy⟩ : ∃ u, u = cnt1 y.name := ⟨_, rfl⟩
       rw [← ecy] at hcb
       have HCY := Lib.hid ecy
       clear ecy
       refine Code.wp_only (R := fun a5 w5 => Agree (fun i => (decide (51 ≤ i) && decide (i ≤ 55))) a4 a5 ∧ SMap w5 M (n1 + 1) (.int .i64 0) (fun t => if t = y.name then .int .i64 ((cy : Int) + 1) else .int .i64 (cnt1 t)) (fun t => decide (t = y.name) || p1 t) ∧ Keep (fun k => k = M) w4 w5) ?_ ?_
       · clear HC HY
         obtain ⟨T, d⟩ := a4
         refine wp_region_lit ?_
         iterate 3 with_reducible refine st ?_
         refine SMap.lookup rfl HEo.out rfl rfl Tryz.underlying224 zero3 (At.eval (by exact aq) (by have := hsz4; simp at this ⊢; omega)) (At.eval (by exact aq) (by have := hsz4; simp at this ⊢; omega)) hsn ?_
         rw [← HCY.out]
         simp only [Act.put]
         have hwr : IntKind.i64.wrap ((cy : Int) + 1) = (cy : Int) + 1 := IntWalk.i64_in _ (by omega)
         with_reducible refine st ?_
         refine SMap.update rfl HEo.out (by unfold maxLen; omega) rfl rfl Tryz.underlying224 (At.eval (by exact aq) (by have := hsz4; simp at this ⊢; omega)) (At.eval (by exact aq) (by have := hsz4; simp at this ⊢; omega)) hsn (v := .int .i64 ((cy : Int) + 1)) (At.eval (by exact aq) (by have := hsz4; simp at this ⊢; omega)) ?_
         intro w5 hE5 hk5
         with_reducible refine wpList_nil ?_
         refine ⟨rfl, ?_, hE5, hk5⟩
         simp only [Act.put]
         (repeat (first | with_reducible apply Agree.put | with_reducible apply Agree.set)) <;> first | with_reducible exact Agree.refl _ _ | rfl
       rintro a5 w5 ⟨hA5, hE5, hk5⟩
       have hov : m.of = c.over := of_decide_eq_true HBO.out.symm
       refine ⟨HAg4.out.trans hA5 (by intro j; simp; omega), n1 + 1, fun t => if t = y.name then cnt1 y.name + 1 else cnt1 t, fun t => decide (t = y.name) || p1 t, by omega, ?_, fun s => ⟨?_, ?_⟩, ?_, HKo.out.trans hk5 (fun _ _ e => e)⟩
       · have e : (fun t => if t = y.name then Value.int .i64 ((cy : Int) + 1) else Value.int .i64 (cnt1 t)) = fun t => Value.int .i64 ((if t = y.name then cnt1 y.name + 1 else cnt1 t : Nat) : Int) := by
          funext t
          by_cases ht : t = y.name
          · simp [ht, HCY.out]
          · simp [ht]
         rw [← e]; exact hE5
       · by_cases hsy : s = y.name
         · simp only [hsy, if_true]; have := (HCN.out y.name).1; omega
         · simp only [hsy, if_false]; have := (HCN.out s).1; omega
       · rw [take_at HX.out]
         by_cases hsy : s = y.name
         · simp only [hsy, if_true]
           exact ⟨fun _ => .inr ⟨trivial, m, by simp, hov⟩, fun _ => by omega⟩
         · simp only [hsy, if_false]
           rw [(HCN.out s).2]
           simp [hsy]
       · rw [take_at HX.out]
         intro x hx
         rcases List.mem_append.1 hx with hx | hx
         · exact HOK.out x hx
         · have e : x = m := by simpa using hx
           subst e
           exact HBD.out
     · refine wp_cond_true e50 ?_
       refine wp_seq (Code.wp_only (R := fun a5 w5 => At a5 4 (.bool false) ∧ a5.tmps.size = 85 ∧ a5.defers = a4.defers ∧ w5 = w4) ?_ ?_)
       · obtain ⟨T, d⟩ := a4
         refine wp_region_lit ?_
         with_reducible refine st ?_
         with_reducible refine wpList_nil ?_
         refine ⟨rfl, ?_, ?_, rfl, rfl⟩
         · exact aq
         · simpa using hsz4
       rintro a5 w5 ⟨k4, k5, k6, rfl⟩
       refine wp_ret ?_
       repeat with_reducible apply then_ret
       exact hR _ _ k4 k5 (k6.trans (hdf4.trans hA0.defers)) ⟨m, hmem, HBD.out⟩ HKo.out
 · rintro a' w' hA ⟨n1, cnt1, p1, hn1, hE1, hcn1, hok1, hk⟩
   rw [List.take_length] at hcn1 hok1
   exact hQ _ _ _ _ _ ((hA0.mono (by intro j; simp; omega)).trans hA (by intro j; simp; omega)) hn1 hE1 hcn1 hok1 hk
end Go.Proofs.YtpblcjipmoblnaaGreatDoor
