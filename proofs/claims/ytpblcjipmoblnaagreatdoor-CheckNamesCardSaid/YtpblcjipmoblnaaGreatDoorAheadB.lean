/- AheadB -/
import Derived.Test.YtpblcjipmoblnaaGreatDoorPlansA
import Derived.Test.YtpblcjipmoblnaaGreatDoorThings2
import Derived.Test.YtpblcjipmoblnaaGreatDoorNames
set_option maxRecDepth 100000
set_option maxHeartbeats 4000000
set_option linter.unusedVariables false
set_option linter.unusedSimpArgs false
namespace Go.Proofs.YtpblcjipmoblnaaGreatDoor
open Go.RowKit Go.IntWalk Ck
theorem nat_andNot7 (t : Nat) (h : t < 2 ^ 64) : t &&& (2 ^ 64 - (7 + 1)) = t / 8 * 8 := by
 apply Nat.eq_of_testBit_eq
 intro i
 have e1 : t / 8 * 8 = (t >>> 3) <<< 3 := by rw [Nat.shiftRight_eq_div_pow, Nat.shiftLeft_eq]
 have e7 : (7 : Nat) = 2 ^ 3 - 1 := rfl
 rw [e1, Nat.testBit_and, Nat.testBit_two_pow_sub_succ (by decide), e7, Nat.testBit_two_pow_sub_one, Nat.testBit_shiftLeft, Nat.testBit_shiftRight]
 by_cases h3 : i < 3
 · have h4 : ¬ 3 ≤ i := by omega
   simp [h3, h4]
 · have h4 : 3 ≤ i := by omega
   have e2 : 3 + (i - 3) = i := by omega
   rw [e2]
   by_cases hi : i < 64
   · simp [h3, h4, hi]
   · have : t.testBit i = false := Nat.testBit_lt_two_pow (Nat.lt_of_lt_of_le h (Nat.pow_le_pow_right (by omega) (by omega)))
     simp [this]
theorem andNot7 {t : Nat} (h : t < 9223372036854775808) : bits .andNot .i64 (t : Int) 7 = ((t / 8 * 8 : Nat) : Int) := by
 show IntKind.i64.wrap ((BitVec.ofInt 64 (t : Int) &&& ~~~(7#64)).toNat : Int) = _
 rw [BitVec.ofInt_natCast]
 have hv : (BitVec.ofNat 64 t &&& ~~~7#64).toNat = t / 8 * 8 := by
  rw [BitVec.toNat_and, BitVec.toNat_not, BitVec.toNat_ofNat, Nat.mod_eq_of_lt (by omega)]
  exact nat_andNot7 t (by omega)
 rw [hv]
 exact IntWalk.i64_in _ (by omega)
theorem flat_le (M : Nat) (y : Lane) : (flatL M y).1 ≤ 4096 := by
 unfold flatL Ln.flatAny
 simp only
 split
 · simp
 · split
   · simp
   · unfold Ln.capped
     split
     · simp
     · simp; omega
theorem slots_le (x : Plan) (c : Nat) : slotsOf flatL x c ≤ 4096 := by
 unfold slotsOf
 split
 · exact flat_le _ _
 · omega
def slotTo (x : Plan) : Nat → Nat
 | 0 => 0
 | j + 1 => slotTo x j + (8 + 8 * slotsOf flatL x j)
theorem slotTo_le (x : Plan) : ∀ j, slotTo x j ≤ j * 32776
 | 0 => Nat.le_refl _
 | j + 1 => by have := slotTo_le x j; have := slots_le x j; simp only [slotTo]; omega
theorem slotTo_four (x : Plan) : slotTo x 4 = 32 + 8 * (slotsOf flatL x 0 + slotsOf flatL x 1 + slotsOf flatL x 2 + slotsOf flatL x 3) := by simp only [slotTo]; omega
def regS (l : List Ck.Region) : Nat := (l.map fun x => 24 + (x.text.size + 7) / 8 * 8).sum
def planS (l : List Plan) : Nat := (l.map fun x => 32 + 8 * (slotsOf flatL x 0 + slotsOf flatL x 1 + slotsOf flatL x 2 + slotsOf flatL x 3)).sum
theorem regS_snoc (l : List Ck.Region) (x : Ck.Region) : regS (l ++ [x]) = regS l + (24 + (x.text.size + 7) / 8 * 8) := by simp [regS]
theorem planS_snoc (l : List Plan) (x : Plan) : planS (l ++ [x]) = planS l + slotTo x 4 := by rw [slotTo_four]; simp [planS]
theorem regS_le : ∀ (l : List Ck.Region), (∀ x ∈ l, x.text.size ≤ 2097152) → regS l ≤ l.length * 2097192
 | [], _ => Nat.le_refl _
 | x :: t, h => by
  have h1 := regS_le t fun y hy => h y (List.mem_cons_of_mem _ hy)
  have h2 := h x List.mem_cons_self
  have e : regS (x :: t) = (24 + (x.text.size + 7) / 8 * 8) + regS t := by simp [regS]
  rw [e, List.length_cons]
  omega
theorem planS_le : ∀ (l : List Plan), planS l ≤ l.length * 131104
 | [] => Nat.le_refl _
 | x :: t => by
  have h1 := planS_le t
  have h2 := slotTo_le x 4
  have e : planS (x :: t) = slotTo x 4 + planS t := by rw [slotTo_four]; simp [planS]
  rw [e, List.length_cons]
  omega
theorem idx_find {ls : List Lane} {c0 : Nat} : (idxOf ls c0 = -1 ∧ ls.find? (fun y => decide (y.cpu = c0)) = none) ∨ ∃ (k : Nat) (y : Lane), idxOf ls c0 = k ∧ ls[k]? = some y ∧ ls.find? (fun y => decide (y.cpu = c0)) = some y := by
 by_cases h : ∀ y ∈ ls, y.cpu ≠ c0
 · exact .inl ⟨idx_none h, List.find?_eq_none.2 fun y hy => by simpa using h y hy⟩
 · right
   simp only [Classical.not_forall] at h
   obtain ⟨y, hy, hc⟩ := h
   have hc : y.cpu = c0 := Classical.not_not.1 hc
   obtain ⟨k, hk⟩ : ∃ k, ls.findIdx? (fun y => decide (y.cpu = c0)) = some k := by
    rw [← Option.isSome_iff_exists, List.findIdx?_isSome, List.any_eq_true]
    exact ⟨y, hy, by simpa using hc⟩
   obtain ⟨h1, h2, h3⟩ := List.findIdx?_eq_some_iff_getElem.1 hk
   refine ⟨k, ls[k], ?_, List.getElem?_eq_getElem h1, ?_⟩
   · unfold idxOf; rw [hk]
   · rw [List.find?_eq_some_iff_getElem]
     exact ⟨h2, k, h1, rfl, fun j hj => by simpa using h3 j hj⟩
theorem ahead_any {B : Nat} {w : World} {v : PolV} {P : Policy} (hp : PolAt B w v P) (hB : B ≤ w.heap.size) : Calls Tryz.prog 60 #[.agg (v.cells P).toArray] w fun e w' => e = .returned (.int .i64 (aheadOf flatL P)) ∧ Keep (fun _ => False) w w' := by
 have htx : ∀ x ∈ P.regions, x.text.size ≤ 2097152 := slice_all hp.regions fun b o x hx => hx.2.2.2.2.2.2
 obtain ⟨A_rams, c_rams, hv_rams, hc_rams, hn_rams, hl_rams⟩ := hp.rams
 obtain ⟨A_devices, c_devices, hv_devices, hc_devices, hn_devices, hl_devices⟩ := hp.devices
 obtain ⟨A_regions, c_regions, hv_regions, hc_regions, hn_regions, hl_regions⟩ := hp.regions
 obtain ⟨A_subjects, c_subjects, hv_subjects, hc_subjects, hn_subjects, hl_subjects⟩ := hp.subjects
 obtain ⟨A_channels, c_channels, hv_channels, hc_channels, hn_channels, hl_channels⟩ := hp.channels
 obtain ⟨A_irqs, c_irqs, hv_irqs, hc_irqs, hn_irqs, hl_irqs⟩ := hp.irqs
 obtain ⟨A_queues, c_queues, hv_queues, hc_queues, hn_queues, hl_queues⟩ := hp.queues
 obtain ⟨A_plans, c_plans, hv_plans, hc_plans, hn_plans, hl_plans⟩ := hp.plans
 obtain ⟨A_masters, c_masters, hv_masters, hc_masters, hn_masters, hl_masters⟩ := hp.masters
 obtain ⟨A_starts, c_starts, hv_starts, hc_starts, hn_starts, hl_starts⟩ := hp.starts
 obtain ⟨A_monitors, c_monitors, hv_monitors, hc_monitors, hn_monitors, hl_monitors⟩ := hp.monitors
 obtain ⟨A_forbids, c_forbids, hv_forbids, hc_forbids, hn_forbids, hl_forbids⟩ := hp.forbids
 have e0 : (v.cells P).toArray = #[.int .i64 P.pos, .string P.name, .slice A_rams P.rams.length c_rams, .slice A_devices P.devices.length c_devices, .slice A_regions P.regions.length c_regions, .slice A_subjects P.subjects.length c_subjects, .slice A_channels P.channels.length c_channels, .slice A_irqs P.irqs.length c_irqs, .slice A_queues P.queues.length c_queues, .slice A_plans P.plans.length c_plans, .slice A_masters P.masters.length c_masters, .slice A_starts P.starts.length c_starts, .slice A_monitors P.monitors.length c_monitors, .slice A_forbids P.forbids.length c_forbids] := by
  rw [← hv_rams, ← hv_devices, ← hv_regions, ← hv_subjects, ← hv_channels, ← hv_irqs, ← hv_queues, ← hv_plans, ← hv_masters, ← hv_starts, ← hv_monitors, ← hv_forbids]
  rfl
 rw [e0]
 unfold top at hn_rams hn_devices hn_regions hn_subjects hn_channels hn_irqs hn_queues hn_plans hn_masters hn_starts hn_monitors hn_forbids
 have HLR := Lib.hid hl_regions
 have HLP := Lib.hid hl_plans
 have HTX := Lib.hid htx
 clear e0 hp htx hv_rams hl_rams hv_devices hl_devices hv_regions hl_regions hv_subjects hl_subjects hv_channels hl_channels hv_irqs hl_irqs hv_queues hl_queues hv_plans hl_plans hv_masters hl_masters hv_starts hl_starts hv_monitors hl_monitors hv_forbids hl_forbids hc_rams hc_devices hc_subjects hc_channels hc_irqs hc_queues hc_masters hc_starts hc_monitors hc_forbids hn_masters hn_starts hn_monitors hn_forbids
 refine calls_abs Tryz.func60 Tryz.ntmps60 rfl (by show 1 ≤ 104; decide) fun a hsz hd h => ?_
 have h0 : At a 0 (.agg #[.int .i64 P.pos, .string P.name, .slice A_rams P.rams.length c_rams, .slice A_devices P.devices.length c_devices, .slice A_regions P.regions.length c_regions, .slice A_subjects P.subjects.length c_subjects, .slice A_channels P.channels.length c_channels, .slice A_irqs P.irqs.length c_irqs, .slice A_queues P.queues.length c_queues, .slice A_plans P.plans.length c_plans, .slice A_masters P.masters.length c_masters, .slice A_starts P.starts.length c_starts, .slice A_monitors P.monitors.length c_monitors, .slice A_forbids P.forbids.length c_forbids]) := h 0 _ rfl
 clear h
 conv => arg 2; whnf
 refine wp_seq (Code.wp_only (R := fun a1_ wa1_ => Agree (fun i => i == 1 || i == 2) a a1_ ∧ At a1_ 1 (.pointer (some ⟨w.heap.size, 0, none⟩)) ∧ wa1_ = w.alloc (.cells #[.int .i64 P.pos, .string P.name, .slice A_rams P.rams.length c_rams, .slice A_devices P.devices.length c_devices, .slice A_regions P.regions.length c_regions, .slice A_subjects P.subjects.length c_subjects, .slice A_channels P.channels.length c_channels, .slice A_irqs P.irqs.length c_irqs, .slice A_queues P.queues.length c_queues, .slice A_plans P.plans.length c_plans, .slice A_masters P.masters.length c_masters, .slice A_starts P.starts.length c_starts, .slice A_monitors P.monitors.length c_monitors, .slice A_forbids P.forbids.length c_forbids] 34)) ?_ ?_)
 · have hAr : Agree (fun i => i == 1 || i == 2) a a := Agree.refl _ _
   obtain ⟨T, d⟩ := a
   refine wp_region_lit ?_
   iterate 2 with_reducible refine st ?_
   refine wpList_nil ⟨rfl, ag, aq, rfl⟩
 rintro a1_ wa1_ ⟨hAa1_, h1, hwa1_⟩
 replace h0 := hAa1_.at_ h0 rfl
 have hsz_ := hAa1_.size.trans hsz
 have hd_ := hAa1_.defers.trans hd
 obtain ⟨z, hz⟩ : ∃ z, z = w.heap.size := ⟨_, rfl⟩
 rw [← hz] at h1
 have fz : wa1_.heap[z]? = some (.cells #[.int .i64 P.pos, .string P.name, .slice A_rams P.rams.length c_rams, .slice A_devices P.devices.length c_devices, .slice A_regions P.regions.length c_regions, .slice A_subjects P.subjects.length c_subjects, .slice A_channels P.channels.length c_channels, .slice A_irqs P.irqs.length c_irqs, .slice A_queues P.queues.length c_queues, .slice A_plans P.plans.length c_plans, .slice A_masters P.masters.length c_masters, .slice A_starts P.starts.length c_starts, .slice A_monitors P.monitors.length c_monitors, .slice A_forbids P.forbids.length c_forbids] 34 (0, 0)) := by rw [hwa1_, hz]; exact heap_alloc_new _ _
 have HK1 : Hid (Keep (fun _ => False) w wa1_) := Lib.hid (by rw [hwa1_]; exact (Keep.refl _ _).alloc _)
 have HZ : Hid (z < wa1_.heap.size ∧ w.heap.size ≤ wa1_.heap.size) := Lib.hid ⟨heap_lt fz, HK1.out.size⟩
 have q2 : wa1_.cell? ⟨z, 2, none⟩ = some (.slice A_rams P.rams.length c_rams) := by rw [cell_of_row _ _ _ _ _ _ fz]; rfl
 have q3 : wa1_.cell? ⟨z, 3, none⟩ = some (.slice A_devices P.devices.length c_devices) := by rw [cell_of_row _ _ _ _ _ _ fz]; rfl
 have q4 : wa1_.cell? ⟨z, 4, none⟩ = some (.slice A_regions P.regions.length c_regions) := by rw [cell_of_row _ _ _ _ _ _ fz]; rfl
 have q5 : wa1_.cell? ⟨z, 5, none⟩ = some (.slice A_subjects P.subjects.length c_subjects) := by rw [cell_of_row _ _ _ _ _ _ fz]; rfl
 have q6 : wa1_.cell? ⟨z, 6, none⟩ = some (.slice A_channels P.channels.length c_channels) := by rw [cell_of_row _ _ _ _ _ _ fz]; rfl
 have q7 : wa1_.cell? ⟨z, 7, none⟩ = some (.slice A_irqs P.irqs.length c_irqs) := by rw [cell_of_row _ _ _ _ _ _ fz]; rfl
 have q8 : wa1_.cell? ⟨z, 8, none⟩ = some (.slice A_queues P.queues.length c_queues) := by rw [cell_of_row _ _ _ _ _ _ fz]; rfl
 have q9 : wa1_.cell? ⟨z, 9, none⟩ = some (.slice A_plans P.plans.length c_plans) := by rw [cell_of_row _ _ _ _ _ _ fz]; rfl
 have FZ := Lib.hid fz
 clear hwa1_ hz fz h0
 obtain ⟨n21, hn21⟩ : ∃ n : Nat, n = P.subjects.length + P.devices.length := ⟨_, rfl⟩
 have en21 : IntKind.i64.wrap (((P.subjects.length : Nat) : Int) + ((P.devices.length : Nat) : Int)) = (n21 : Int) := by rw [hn21, i64_in _ (by omega)]; omega
 obtain ⟨n25, hn25⟩ : ∃ n : Nat, n = n21 + P.channels.length := ⟨_, rfl⟩
 have en25 : IntKind.i64.wrap ((n21 : Int) + ((P.channels.length : Nat) : Int)) = (n25 : Int) := by rw [hn25, i64_in _ (by omega)]; omega
 obtain ⟨n29, hn29⟩ : ∃ n : Nat, n = n25 + P.irqs.length := ⟨_, rfl⟩
 have en29 : IntKind.i64.wrap ((n25 : Int) + ((P.irqs.length : Nat) : Int)) = (n29 : Int) := by rw [hn29, i64_in _ (by omega)]; omega
 obtain ⟨n33, hn33⟩ : ∃ n : Nat, n = n29 + P.queues.length := ⟨_, rfl⟩
 have en33 : IntKind.i64.wrap ((n29 : Int) + ((P.queues.length : Nat) : Int)) = (n33 : Int) := by rw [hn33, i64_in _ (by omega)]; omega
 obtain ⟨n37, hn37⟩ : ∃ n : Nat, n = n33 + P.plans.length := ⟨_, rfl⟩
 have en37 : IntKind.i64.wrap ((n33 : Int) + ((P.plans.length : Nat) : Int)) = (n37 : Int) := by rw [hn37, i64_in _ (by omega)]; omega
 obtain ⟨n44, hn44⟩ : ∃ n : Nat, n = P.rams.length + P.devices.length := ⟨_, rfl⟩
 have en44 : IntKind.i64.wrap (((P.rams.length : Nat) : Int) + ((P.devices.length : Nat) : Int)) = (n44 : Int) := by rw [hn44, i64_in _ (by omega)]; omega
 obtain ⟨n45, hn45⟩ : ∃ n : Nat, n = 16 * n44 := ⟨_, rfl⟩
 have en45 : IntKind.i64.wrap ((16 : Int) * (n44 : Int)) = (n45 : Int) := by rw [hn45, i64_in _ (by omega)]; omega
 obtain ⟨n46, hn46⟩ : ∃ n : Nat, n = 248 + n45 := ⟨_, rfl⟩
 have en46 : IntKind.i64.wrap ((248 : Int) + (n45 : Int)) = (n46 : Int) := by rw [hn46, i64_in _ (by omega)]; omega
 obtain ⟨n48, hn48⟩ : ∃ n : Nat, n = 8 * n37 := ⟨_, rfl⟩
 have en48 : IntKind.i64.wrap ((8 : Int) * (n37 : Int)) = (n48 : Int) := by rw [hn48, i64_in _ (by omega)]; omega
 obtain ⟨n49, hn49⟩ : ∃ n : Nat, n = n46 + n48 := ⟨_, rfl⟩
 have en49 : IntKind.i64.wrap ((n46 : Int) + (n48 : Int)) = (n49 : Int) := by rw [hn49, i64_in _ (by omega)]; omega
 have HN : Hid (n49 = 248 + 16 * (P.rams.length + P.devices.length) + 8 * (P.subjects.length + P.devices.length + P.channels.length + P.irqs.length + P.queues.length + P.plans.length)) := Lib.hid (by omega)
 have HF49 : Hid ((n46 : Int) + (n48 : Int) = (n49 : Int)) := Lib.hid (by omega)
 have hb49 : n49 ≤ 268435456 := by omega
 clear hn21 hn25 hn29 hn33 hn37 hn44 hn45 hn46 hn48 hn49
 refine wp_seq (Code.wp_only (R := fun a2_ wa2_ => Agree (fun i => i == 3 || (decide (15 ≤ i) && decide (i ≤ 37))) a1_ a2_ ∧ At a2_ 3 (.int .i64 n37) ∧ wa2_ = wa1_) ?_ ?_)
 · have hAr : Agree (fun i => i == 3 || (decide (15 ≤ i) && decide (i ≤ 37))) a1_ a1_ := Agree.refl _ _
   obtain ⟨T, d⟩ := a1_
   refine wp_region_lit ?_
   iterate 24 with_reducible refine st ?_
   refine wpList_nil ⟨rfl, ag, aq, rfl⟩
 rintro a2_ wa2_ ⟨hAa2_, k3, rfl⟩
 replace h1 := hAa2_.at_ h1 rfl
 have hsz__ := hAa2_.size.trans hsz_
 have hd__ := hAa2_.defers.trans hd_
 refine wp_seq (Code.wp_only (R := fun a3_ wa3_ => Agree (fun i => i == 4 || (decide (38 ≤ i) && decide (i ≤ 49))) a2_ a3_ ∧ At a3_ 4 (.int .i64 n49) ∧ wa3_ = wa2_) ?_ ?_)
 · have hAr : Agree (fun i => i == 4 || (decide (38 ≤ i) && decide (i ≤ 49))) a2_ a2_ := Agree.refl _ _
   obtain ⟨T, d⟩ := a2_
   refine wp_region_lit ?_
   iterate 13 with_reducible refine st ?_
   refine wpList_nil ⟨rfl, ?_, ?_, rfl⟩
   · exact ag
   · rw [← HF49.out]; exact At.self
 rintro a3_ wa3_ ⟨hAa3_, k4, rfl⟩
 replace h1 := hAa3_.at_ h1 rfl
 replace k3 := hAa3_.at_ k3 rfl
 have hsz___ := hAa3_.size.trans hsz__
 have hd___ := hAa3_.defers.trans hd__
 clear en21 en25 en29 en33 en37 en44 en45 en46 en48 en49
 refine wp_seq (wp_seq (Code.wp_only (R := fun a4_ wa4_ => Agree (fun i => (decide (50 ≤ i) && decide (i ≤ 53))) a3_ a4_ ∧ At a4_ 51 (.slice A_regions P.regions.length c_regions) ∧ At a4_ 52 (.int .i64 P.regions.length) ∧ At a4_ 53 (.int .i64 0) ∧ wa4_ = wa3_) ?_ ?_))
 · have hAr : Agree (fun i => (decide (50 ≤ i) && decide (i ≤ 53))) a3_ a3_ := Agree.refl _ _
   obtain ⟨T, d⟩ := a3_
   refine wp_region_lit ?_
   iterate 4 with_reducible refine st ?_
   refine wpList_nil ⟨rfl, ag, aq, aq, aq, rfl⟩
 rintro a4_ wa4_ ⟨hAa4_, k_s, k_n, k_i, rfl⟩
 replace h1 := hAa4_.at_ h1 rfl
 replace k3 := hAa4_.at_ k3 rfl
 replace k4 := hAa4_.at_ k4 rfl
 have hsz____ := hAa4_.size.trans hsz___
 have hd____ := hAa4_.defers.trans hd___
 clear k3
 refine wp_range P.regions.length (fun i => i == 4 || i == 6 || (decide (53 ≤ i) && decide (i ≤ 65))) (fun i => i == 4 || i == 6 || (decide (55 ≤ i) && decide (i ≤ 64))) (fun k a' w' => At a' 4 (.int .i64 (n49 + regS (P.regions.take k) : Nat)) ∧ Keep (fun _ => False) wa4_ w') (by omega) k_i k_n (by decide) rfl
  (by intro j; simp; omega) (by omega) (by decide) (fun k a1 a2 w hA ⟨hI, hk⟩ => ⟨hA.at_ hI rfl, hk⟩) ⟨by simpa [regS] using k4, Keep.refl _ _⟩ ?_ ?_
 · rintro n b wr hlt hA k_j ⟨k_4, hk⟩
   obtain ⟨bl, off, rfl, hbl, hcs⟩ := HLR.out (by omega)
   obtain ⟨x, hx⟩ : ∃ x, P.regions[n]? = some x := ⟨_, List.getElem?_eq_getElem hlt⟩
   have hkw : Keep (fun _ => False) w wr := HK1.out.trans hk (fun _ _ h => h)
   obtain ⟨hc, ok_x⟩ := (flat_stays B _ _) _ _ _ _ _ (hkw.below (B := B) (by omega) (fun _ _ h => h)) hbl (hcs n x hx)
   have q0 := hc.c0
   have r1 := hc 1 _ rfl
   have r2 := hc 2 _ rfl
   have r3 := hc 3 _ rfl
   have r4 := hc 4 _ rfl
   have r5 := hc 5 _ rfl
   have r6 := hc 6 _ rfl
   have r7 := hc 7 _ rfl
   have r8 := hc 8 _ rfl
   have r9 := hc 9 _ rfl
   have k_sl := hA.at_ k_s rfl
   have hszb := hA.size.trans hsz____
   have hdb := hA.defers.trans hd____
   have hszw := hkw.size
   have hblr : bl < wr.heap.size := by omega
   have hkc : n ≤ c_regions := by omega
   have HX := Lib.hid hx
   have HK := Lib.hid hk
   have HA := Lib.hid hA
   have htk := take_at hx
   have HTK : Hid (regS (P.regions.take (n + 1)) = regS (P.regions.take n) + (24 + (x.text.size + 7) / 8 * 8)) := by rw [htk]; exact regS_snoc _ _
   have htx := HTX.out x (List.mem_of_getElem? hx)
   have hrs := regS_le (P.regions.take n) fun y hy => HTX.out y (List.mem_of_mem_take hy)
   have hrl : (P.regions.take n).length ≤ 2097152 := by simp; omega
   obtain ⟨rs, hrse⟩ : ∃ r, r = regS (P.regions.take n) := ⟨_, rfl⟩
   rw [← hrse] at HTK hrs k_4
   have hrs2 : rs ≤ 4400000000000 := by omega
   clear hx hcs hc hA hk hkw htk hrse hrs hrl q2 q3 q4 q5 q6 q7 q8 q9
   refine wp_seq (Code.wp_only (R := fun a5_ wa5_ => Agree (fun i => i == 6 || i == 55 || i == 56) b a5_ ∧ At a5_ 6 (.pointer (some ⟨wr.heap.size, 0, none⟩)) ∧ wa5_ = wr.alloc (.cells #[.int .i64 x.pos, .string x.name, .int .u64 x.size, .bool x.fixed, .int .u64 x.at_, .bool x.big, .bool x.wx, .int .u64 x.fill, .bool x.texted, .string x.text] 48)) ?_ ?_)
   · have hAr : Agree (fun i => i == 6 || i == 55 || i == 56) b b := Agree.refl _ _
     obtain ⟨T, d⟩ := b
     refine wp_region_lit ?_
     iterate 4 with_reducible refine st ?_
     refine wpList_nil ⟨rfl, ag, aq, rfl⟩
   rintro a5_ wa5_ ⟨hAa5_, k_6, hwa5_⟩
   replace k_4 := hAa5_.at_ k_4 rfl
   replace k_sl := hAa5_.at_ k_sl rfl
   replace k_j := hAa5_.at_ k_j rfl
   have hszb_ := hAa5_.size.trans hszb
   have hdb_ := hAa5_.defers.trans hdb
   obtain ⟨zx, hzx⟩ : ∃ z, z = wr.heap.size := ⟨_, rfl⟩
   rw [← hzx] at k_6
   have t9 : wa5_.cell? ⟨zx, 9, none⟩ = some (.string x.text) := by rw [cell_of_row _ _ _ _ _ _ (show wa5_.heap[zx]? = some (.cells #[.int .i64 x.pos, .string x.name, .int .u64 x.size, .bool x.fixed, .int .u64 x.at_, .bool x.big, .bool x.wx, .int .u64 x.fill, .bool x.texted, .string x.text] 48 (0, 0)) by rw [hwa5_, hzx]; exact heap_alloc_new _ _)]; rfl
   have HKB : Hid (Keep (fun _ => False) wr wa5_) := Lib.hid (by rw [hwa5_]; exact (Keep.refl _ _).alloc _)
   clear hwa5_ hzx q0 r1 r2 r3 r4 r5 r6 r7 r8 r9
   obtain ⟨cur, hcur⟩ : ∃ n : Nat, n = n49 + rs := ⟨_, rfl⟩
   rw [← hcur] at k_4
   obtain ⟨t61, ht61⟩ : ∃ n : Nat, n = x.text.size + 7 := ⟨_, rfl⟩
   have et61 : IntKind.i64.wrap (((x.text.size : Nat) : Int) + (7 : Int)) = (t61 : Int) := by rw [ht61, i64_in _ (by omega)]; omega
   have Ft61 : Hid (((x.text.size : Nat) : Int) + (7 : Int) = (t61 : Int)) := Lib.hid (by omega)
   obtain ⟨t62, ht62⟩ : ∃ n : Nat, n = t61 / 8 * 8 := ⟨_, rfl⟩
   have et62 : bits BinOp.andNot IntKind.i64 (t61 : Int) 7 = (t62 : Int) := by rw [ht62]; exact andNot7 (by omega)
   obtain ⟨t63, ht63⟩ : ∃ n : Nat, n = 24 + t62 := ⟨_, rfl⟩
   have et63 : IntKind.i64.wrap ((24 : Int) + (t62 : Int)) = (t63 : Int) := by rw [ht63, i64_in _ (by omega)]; omega
   have Ft63 : Hid ((24 : Int) + (t62 : Int) = (t63 : Int)) := Lib.hid (by omega)
   obtain ⟨nw, hnw⟩ : ∃ n : Nat, n = cur + t63 := ⟨_, rfl⟩
   have enw : IntKind.i64.wrap ((cur : Int) + (t63 : Int)) = (nw : Int) := by rw [hnw, i64_in _ (by omega)]; omega
   have Fnw : Hid ((cur : Int) + (t63 : Int) = (nw : Int)) := Lib.hid (by omega)
   have HNW : Hid (nw = n49 + regS (P.regions.take (n + 1))) := Lib.hid (by rw [HTK.out, hnw, ht63, ht62, ht61, hcur]; omega)
   clear hcur ht61 ht62 ht63 hnw HTK
   refine Code.wp_only (R := fun a6_ wa6_ => Agree (fun i => i == 4 || (decide (57 ≤ i) && decide (i ≤ 64))) a5_ a6_ ∧ At a6_ 4 (.int .i64 nw) ∧ wa6_ = wa5_) ?_ ?_
   · have hAr : Agree (fun i => i == 4 || (decide (57 ≤ i) && decide (i ≤ 64))) a5_ a5_ := Agree.refl _ _
     obtain ⟨T, d⟩ := a5_
     refine wp_region_lit ?_
     iterate 9 with_reducible refine st ?_
     refine wpList_nil ⟨rfl, ?_, ?_, rfl⟩
     · exact ag
     · first | exact At.self | (rw [← Fnw.out]; exact At.self)
   rintro a6_ wa6_ ⟨hAa6_, k_4n, rfl⟩
   replace k_sl := hAa6_.at_ k_sl rfl
   replace k_j := hAa6_.at_ k_j rfl
   replace k_6 := hAa6_.at_ k_6 rfl
   have hszb__ := hAa6_.size.trans hszb_
   have hdb__ := hAa6_.defers.trans hdb_
   refine ⟨?_, ?_, HK.out.trans HKB.out (fun _ _ h => h)⟩
   · refine Agree.trans (hAa5_.mono ?_) hAa6_ ?_ <;> (intro j; simp; omega)
   · rw [← HNW.out]; exact k_4n
 · rintro b wr hA ⟨k_4, hk⟩
   rw [List.take_length] at k_4
   replace h1 := hA.at_ h1 rfl
   have hszb := hA.size.trans hsz____
   have hdb := hA.defers.trans hd____
   have hkw : Keep (fun _ => False) w wr := HK1.out.trans hk (fun _ _ h => h)
   obtain ⟨b0, hb0⟩ : ∃ n : Nat, n = n49 + regS P.regions := ⟨_, rfl⟩
   rw [← hb0] at k_4
   have hb0l : b0 ≤ 4401000000000 := by have := regS_le P.regions HTX.out; omega
   have q9 : wr.cell? ⟨z, 9, none⟩ = some (.slice A_plans P.plans.length c_plans) := by rw [cell_of_row _ _ _ _ _ _ ((hk.block z (heap_lt FZ.out) (fun h => h)).trans FZ.out)]; rfl
   have HB0 := Lib.hid hb0
   have HKW := Lib.hid hkw
   have hszw := hkw.size
   clear hb0 hk hkw hA k_s k_n k_i
   refine wp_seq (wp_seq (Code.wp_only (R := fun a7_ wa7_ => Agree (fun i => (decide (66 ≤ i) && decide (i ≤ 69))) b a7_ ∧ At a7_ 67 (.slice A_plans P.plans.length c_plans) ∧ At a7_ 68 (.int .i64 P.plans.length) ∧ At a7_ 69 (.int .i64 0) ∧ wa7_ = wr) ?_ ?_))
   · have hAr : Agree (fun i => (decide (66 ≤ i) && decide (i ≤ 69))) b b := Agree.refl _ _
     obtain ⟨T, d⟩ := b
     refine wp_region_lit ?_
     iterate 4 with_reducible refine st ?_
     refine wpList_nil ⟨rfl, ag, aq, aq, aq, rfl⟩
   rintro a7_ wa7_ ⟨hAa7_, k_s, k_n, k_i, rfl⟩
   replace h1 := hAa7_.at_ h1 rfl
   replace k_4 := hAa7_.at_ k_4 rfl
   have hszb_ := hAa7_.size.trans hszb
   have hdb_ := hAa7_.defers.trans hdb
   refine wp_range P.plans.length (fun i => i == 4 || (decide (8 ≤ i) && decide (i ≤ 14)) || (decide (69 ≤ i) && decide (i ≤ 102))) (fun i => i == 4 || (decide (8 ≤ i) && decide (i ≤ 14)) || (decide (71 ≤ i) && decide (i ≤ 101))) (fun k a' w' => At a' 4 (.int .i64 (b0 + planS (P.plans.take k) : Nat)) ∧ Keep (fun _ => False) wa7_ w') (by omega) k_i k_n (by decide) rfl
    (by intro j; simp; omega) (by omega) (by decide) (fun k a1 a2 w hA ⟨hI, hk⟩ => ⟨hA.at_ hI rfl, hk⟩) ⟨by simpa [planS] using k_4, Keep.refl _ _⟩ ?_ ?_
   · rintro n b wr hlt hA k_j ⟨k_4, hk⟩
     obtain ⟨bl, off, rfl, hbl, hcs⟩ := HLP.out (by omega)
     obtain ⟨x, hx⟩ : ∃ x, P.plans[n]? = some x := ⟨_, List.getElem?_eq_getElem hlt⟩
     have hkw : Keep (fun _ => False) w wr := HKW.out.trans hk (fun _ _ h => h)
     obtain ⟨lv, hc, hlanes, hposx, hmaj, hnm⟩ := (plan_stays B) _ _ _ _ _ (hkw.below (B := B) (by omega) (fun _ _ h => h)) hbl (hcs n x hx)
     obtain ⟨A_l, c_l, rfl, hcl, hnl, hll⟩ := hlanes
     unfold top at hnl
     have q0 := hc.c0
     have r1 := hc 1 _ rfl
     have r2 := hc 2 _ rfl
     have r3 := hc 3 _ rfl
     have k_sl := hA.at_ k_s rfl
     have hszb := hA.size.trans hszb_
     have hdb := hA.defers.trans hdb_
     have hszw := hkw.size
     have hblr : bl < wr.heap.size := by omega
     have hkc : n ≤ c_plans := by omega
     have HX := Lib.hid hx
     have HK := Lib.hid hk
     have HA := Lib.hid hA
     have htk := take_at hx
     have HTK : Hid (planS (P.plans.take (n + 1)) = planS (P.plans.take n) + slotTo x 4) := by rw [htk]; exact planS_snoc _ _
     have hrs := planS_le (P.plans.take n)
     have hrl : (P.plans.take n).length ≤ 2097152 := by simp; omega
     obtain ⟨rs, hrse⟩ : ∃ r, r = planS (P.plans.take n) := ⟨_, rfl⟩
     rw [← hrse] at HTK hrs k_4
     have hrs2 : rs ≤ 300000000000 := by omega
     have HLL : Hid (SliceAt B 4 (LaneAt B) wr (.slice A_l x.lanes.length c_l) x.lanes) := ⟨A_l, c_l, rfl, hcl, by unfold top; omega, hll⟩
     clear hx hcs hc hA hk hkw htk hrse hrs hrl hll q9
     refine wp_seq (Code.wp_only (R := fun a8_ wa8_ => Agree (fun i => i == 8 || i == 71 || i == 72) b a8_ ∧ At a8_ 8 (.pointer (some ⟨wr.heap.size, 0, none⟩)) ∧ wa8_ = wr.alloc (.cells #[.int .i64 x.pos, .string x.name, .int .u64 x.major, .slice A_l x.lanes.length c_l] 62)) ?_ ?_)
     · have hAr : Agree (fun i => i == 8 || i == 71 || i == 72) b b := Agree.refl _ _
       obtain ⟨T, d⟩ := b
       refine wp_region_lit ?_
       iterate 4 with_reducible refine st ?_
       refine wpList_nil ⟨rfl, ag, aq, rfl⟩
     rintro a8_ wa8_ ⟨hAa8_, k_8, hwa8_⟩
     replace k_4 := hAa8_.at_ k_4 rfl
     replace k_sl := hAa8_.at_ k_sl rfl
     replace k_j := hAa8_.at_ k_j rfl
     have hszb_ := hAa8_.size.trans hszb
     have hdb_ := hAa8_.defers.trans hdb
     obtain ⟨zx, hzx⟩ : ∃ z, z = wr.heap.size := ⟨_, rfl⟩
     rw [← hzx] at k_8
     have fx : wa8_.heap[zx]? = some (.cells #[.int .i64 x.pos, .string x.name, .int .u64 x.major, .slice A_l x.lanes.length c_l] 62 (0, 0)) := by rw [hwa8_, hzx]; exact heap_alloc_new _ _
     have HKB : Hid (Keep (fun _ => False) wr wa8_) := Lib.hid (by rw [hwa8_]; exact (Keep.refl _ _).alloc _)
     have HLLB := Lib.hid (HLL.out.below (lane_stays B) (HKB.out.below (B := B) (by omega) (fun _ _ h => h)))
     have hszwb := HKB.out.size
     have FX := Lib.hid fx
     clear hwa8_ hzx fx q0 r1 r2 r3
     have HBW : Hid (B ≤ wa8_.heap.size) := Lib.hid (by omega)
     clear k_sl k_j
     refine wp_seq (Code.wp_only (R := fun a9_ wa9_ => Agree (fun i => i == 73) a8_ a9_ ∧ At a9_ 73 (.int .u64 (0 : Nat)) ∧ wa9_ = wa8_) ?_ ?_)
     · have hAr : Agree (fun i => i == 73) a8_ a8_ := Agree.refl _ _
       obtain ⟨T, d⟩ := a8_
       refine wp_region_lit ?_
       with_reducible refine st ?_
       refine wpList_nil ⟨rfl, ?_, ?_, rfl⟩
       · exact ag
       · exact At.self
     rintro a9_ wa9_ ⟨hAa9_, k_73, rfl⟩
     replace k_4 := hAa9_.at_ k_4 rfl
     replace k_8 := hAa9_.at_ k_8 rfl
     have hszb__ := hAa9_.size.trans hszb_
     have hdb__ := hAa9_.defers.trans hdb_
     obtain ⟨cur, hcur⟩ : ∃ n : Nat, n = b0 + rs := ⟨_, rfl⟩
     rw [← hcur] at k_4
     have hcl2 : cur ≤ 4800000000000 := by omega
     have HCUR := Lib.hid hcur
     clear hcur
     refine wp_for 4 (fun j a' w' => Agree (fun i => i == 4 || (decide (9 ≤ i) && decide (i ≤ 14)) || (decide (73 ≤ i) && decide (i ≤ 101))) a9_ a' ∧ At a' 73 (.int .u64 (j : Nat)) ∧ At a' 4 (.int .i64 (cur + slotTo x j : Nat)) ∧ Keep (fun _ => False) wa9_ w') (fun j a' w' => Agree (fun i => i == 4 || (decide (9 ≤ i) && decide (i ≤ 14)) || (decide (73 ≤ i) && decide (i ≤ 101))) a9_ a' ∧ At a' 73 (.int .u64 (j : Nat)) ∧ At a' 4 (.int .i64 (cur + slotTo x (j + 1) : Nat)) ∧ Keep (fun _ => False) wa9_ w') (fun a => match a.eval (.tmp 73) with | .int _ x => x.toNat | _ => 0) ⟨Agree.refl _ _, k_73, by simpa [slotTo] using k_4, Keep.refl _ _⟩ ?_ ?_ ?_ ?_ ?_
     · rintro j a' w' ⟨hA, hj, _⟩
       rw [hj.eval (by rw [hA.size, hszb__]; decide)]
       simp
     · rintro j a' w' hj4 ⟨hA, hj, hrest⟩
       have hszb := hA.size.trans hszb__
       have HR := Lib.hid hrest
       have e1 : decide ((j : Int) < 4) = decide (j < 4) := decide_eq_decide.2 (by omega)
       clear hrest
       obtain ⟨T, d⟩ := a'
       refine wp_region_lit ?_
       with_reducible refine st ?_
       refine wpList_nil ⟨rfl, ⟨?_, ?_, ?_, HR.out.2⟩, ?_⟩
       · exact ag
       · exact At.ne hj (by decide)
       · exact At.ne HR.out.1 (by decide)
       · exact (At.eval At.self (by have := hszb; simp at this ⊢; omega))
     · rintro j b wr hj4 ⟨hA, hj, k_4, hk⟩
       replace k_8 := hA.at_ k_8 rfl
       have hszb := hA.size.trans hszb__
       have hdb := hA.defers.trans hdb__
       have HA := Lib.hid hA
       have HKI := Lib.hid hk
       have hszI := hk.size
       have hst := slotTo_le x j
       have hsl := slots_le x j
       obtain ⟨ci, hci⟩ : ∃ n : Nat, n = cur + slotTo x j := ⟨_, rfl⟩
       rw [← hci] at k_4
       have hcil : ci ≤ 4900000000000 := by omega
       have HCI := Lib.hid hci
       have fxr := (hk.block zx (heap_lt FX.out) (fun h => h)).trans FX.out
       have r2 : wr.cell? ⟨zx, 2, none⟩ = some (.int .u64 x.major) := by rw [cell_of_row _ _ _ _ _ _ fxr]; rfl
       have r3 : wr.cell? ⟨zx, 3, none⟩ = some (.slice A_l x.lanes.length c_l) := by rw [cell_of_row _ _ _ _ _ _ fxr]; rfl
       have HLI := Lib.hid (HLLB.out.below (lane_stays B) (hk.below (B := B) HBW.out (fun _ _ h => h)))
       have FXR := Lib.hid fxr
       clear hA hk hci fxr
       refine wp_seq (Code.wp_only (R := fun a10_ wa10_ => Agree (fun i => i == 9 || i == 75) b a10_ ∧ At a10_ 9 (.pointer (some ⟨wr.heap.size, 0, none⟩)) ∧ wa10_ = wr.alloc (.cells #[.int .u64 j] 39)) ?_ ?_)
       · have hAr : Agree (fun i => i == 9 || i == 75) b b := Agree.refl _ _
         obtain ⟨T, d⟩ := b
         refine wp_region_lit ?_
         iterate 3 with_reducible refine st ?_
         refine wpList_nil ⟨rfl, ag, aq, rfl⟩
       rintro a10_ wa10_ ⟨hAa10_, k_9, hwa10_⟩
       replace k_4 := hAa10_.at_ k_4 rfl
       replace k_8 := hAa10_.at_ k_8 rfl
       replace hj := hAa10_.at_ hj rfl
       have hszb_ := hAa10_.size.trans hszb
       have hdb_ := hAa10_.defers.trans hdb
       obtain ⟨zc, hzc⟩ : ∃ z, z = wr.heap.size := ⟨_, rfl⟩
       rw [← hzc] at k_9
       have fc : wa10_.heap[zc]? = some (.cells #[.int .u64 j] 39 (0, 0)) := by rw [hwa10_, hzc]; exact heap_alloc_new _ _
       have hkc2 : Keep (fun _ => False) wr wa10_ := by rw [hwa10_]; exact (Keep.refl _ _).alloc _
       replace r2 := (hkc2.cell (p := ⟨zx, 2, none⟩) (heap_lt FXR.out) (fun h => h)).trans r2
       replace r3 := (hkc2.cell (p := ⟨zx, 3, none⟩) (heap_lt FXR.out) (fun h => h)).trans r3
       have hBc : B ≤ wa10_.heap.size := Nat.le_trans HBW.out (Nat.le_trans hszI hkc2.size)
       have HLC := Lib.hid (HLI.out.below (lane_stays B) (hkc2.below (B := B) (Nat.le_trans HBW.out hszI) (fun _ _ h => h)))
       have HCALL := Lib.hid (index_lanes HLC.out hBc fc)
       have HKC := Lib.hid hkc2
       clear hwa10_ hzc fc hkc2
       refine wp_seq (Code.wp_only (R := fun a11_ wa11_ => Agree (fun i => i == 10) a10_ a11_ ∧ At a11_ 10 (.int .i64 (1 : Nat)) ∧ wa11_ = wa10_) ?_ ?_)
       · have hAr : Agree (fun i => i == 10) a10_ a10_ := Agree.refl _ _
         obtain ⟨T, d⟩ := a10_
         refine wp_region_lit ?_
         with_reducible refine st ?_
         refine wpList_nil ⟨rfl, ?_, ?_, rfl⟩
         · exact ag
         · exact At.self
       rintro a11_ wa11_ ⟨hAa11_, k_10, rfl⟩
       replace k_4 := hAa11_.at_ k_4 rfl
       replace k_8 := hAa11_.at_ k_8 rfl
       replace hj := hAa11_.at_ hj rfl
       replace k_9 := hAa11_.at_ k_9 rfl
       have hszb__ := hAa11_.size.trans hszb_
       have hdb__ := hAa11_.defers.trans hdb_
       refine wp_seq (wp_seq (Code.wp_only (R := fun a12_ wa12_ => Agree (fun i => i == 11 || (decide (76 ≤ i) && decide (i ≤ 79))) a11_ a12_ ∧ At a12_ 11 (.int .i64 (idxOf x.lanes j)) ∧ Keep (fun _ => False) wa11_ wa12_) ?_ ?_))
       · have hAr : Agree (fun i => i == 11 || (decide (76 ≤ i) && decide (i ≤ 79))) a11_ a11_ := Agree.refl _ _
         obtain ⟨T, d⟩ := a11_
         refine wp_region_lit ?_
         iterate 3 with_reducible refine st ?_
         with_reducible refine wpList_step (fun K hK => ?_)
         go_simp
         refine HCALL.out.mono ?_
         rintro e w2 ⟨rfl, hk2⟩
         with_reducible refine hK _ _ ?_
         clear hK K
         with_reducible refine st ?_
         refine wpList_nil ⟨rfl, ?_, ?_, ?_⟩
         · exact ag
         · exact aq
         · exact hk2
       rintro a12_ wa12_ ⟨hAa12_, k_11, hk2⟩
       replace k_4 := hAa12_.at_ k_4 rfl
       replace k_8 := hAa12_.at_ k_8 rfl
       replace hj := hAa12_.at_ hj rfl
       replace k_9 := hAa12_.at_ k_9 rfl
       replace k_10 := hAa12_.at_ k_10 rfl
       have hszb___ := hAa12_.size.trans hszb__
       have hdb___ := hAa12_.defers.trans hdb__
       obtain ⟨ix, hix⟩ : ∃ i : Int, i = idxOf x.lanes j := ⟨_, rfl⟩
       rw [← hix] at k_11
       have HIX := Lib.hid hix
       have hszd := hk2.size
       have HK2 := Lib.hid hk2
       replace r2 := (hk2.cell (p := ⟨zx, 2, none⟩) (World.block_lt_of_cell? _ ⟨zx, 2, none⟩ r2) (fun h => h)).trans r2
       replace r3 := (hk2.cell (p := ⟨zx, 3, none⟩) (World.block_lt_of_cell? _ ⟨zx, 3, none⟩ r3) (fun h => h)).trans r3
       obtain ⟨ge, hge⟩ : ∃ b, b = decide (0 ≤ ix) := ⟨_, rfl⟩
       have w1ge : decide ((0 : Int) ≤ ix) = ge := hge.symm
       have HGE := Lib.hid hge
       have hBd : B ≤ wa12_.heap.size := Nat.le_trans hBc hszd
       have HLD := Lib.hid (HLC.out.below (lane_stays B) (hk2.below (B := B) hBc (fun _ _ h => h)))
       clear hix hge hk2
       refine wp_seq (Code.wp_only (R := fun a13_ wa13_ => Agree (fun i => (decide (80 ≤ i) && decide (i ≤ 81))) a12_ a13_ ∧ At a13_ 81 (.bool ge) ∧ wa13_ = wa12_) ?_ ?_)
       · have hAr : Agree (fun i => (decide (80 ≤ i) && decide (i ≤ 81))) a12_ a12_ := Agree.refl _ _
         obtain ⟨T, d⟩ := a12_
         refine wp_region_lit ?_
         iterate 2 with_reducible refine st ?_
         refine wpList_nil ⟨rfl, ag, aq, rfl⟩
       rintro a13_ wa13_ ⟨hAa13_, k_81, rfl⟩
       replace k_4 := hAa13_.at_ k_4 rfl
       replace k_8 := hAa13_.at_ k_8 rfl
       replace hj := hAa13_.at_ hj rfl
       replace k_9 := hAa13_.at_ k_9 rfl
       replace k_10 := hAa13_.at_ k_10 rfl
       replace k_11 := hAa13_.at_ k_11 rfl
       have hszb____ := hAa13_.size.trans hszb___
       have hdb____ := hAa13_.defers.trans hdb___
       have HSL : Hid (∀ (k : Nat) (y : Lane), idxOf x.lanes j = k → x.lanes[k]? = some y → slotsOf flatL x j = (flatL x.major y).1) := Lib.hid fun k y hk hy => by
        rcases idx_find (ls := x.lanes) (c0 := j) with ⟨e, _⟩ | ⟨k2, y2, e, e2, e3⟩
        · rw [hk] at e; omega
        · have : k = k2 := by rw [hk] at e; omega
          subst this
          obtain rfl : y = y2 := Option.some.inj (hy.symm.trans e2)
          unfold slotsOf
          rw [e3]
       refine wp_cond_split (k_81.eval (by omega)) (fun hg => ?_) (fun hg => ?_)
       · have hix0 : 0 ≤ ix := by have h1 := HGE.out; rw [hg] at h1; exact of_decide_eq_true h1.symm
         obtain ⟨k, y, hke, hky⟩ : ∃ (k : Nat) (y : Lane), idxOf x.lanes j = k ∧ x.lanes[k]? = some y := by
          rcases idx_find (ls := x.lanes) (c0 := j) with ⟨e, _⟩ | ⟨k2, y2, e, e2, e3⟩
          · rw [HIX.out, e] at hix0; omega
          · exact ⟨k2, y2, e, e2⟩
         have hkl : k < x.lanes.length := (List.getElem?_eq_some_iff.1 hky).1
         obtain ⟨_, _, e, hclx, hnlx, hllx⟩ := HLD.out
         cases e
         obtain ⟨lb, loff, rfl, hlb, hlc⟩ := hllx (by omega)
         obtain ⟨rv, hcy, hruns, hpy, hcpu⟩ := hlc k y hky
         obtain ⟨A_r, c_r, rfl, hrl⟩ := hruns
         have hRA : SliceAt B 4 RunAt wa13_ (.slice A_r y.runs.length c_r) y.runs := ⟨A_r, c_r, rfl, hrl⟩
         have k_11k : At a13_ 11 (.int .i64 k) := by rw [← hke, ← HIX.out]; exact k_11
         refine wp_seq (ahead_flat (R := Ln.flatAny x.major y.needs y.runs) rfl r2 r3 hkl hclx (by unfold top at hnlx; omega) hcy.c0 (hcy 1 _ rfl) (hcy 2 _ rfl) (hcy 3 _ rfl) (flat_any x.major y.needs A_r c_r y.runs y.pos y.cpu wa13_.drew (by unfold lim at hmaj; omega) (runs_ok hRA) (by obtain ⟨_, _, e2, _, h2, _⟩ := hRA; unfold top at h2; omega) (runs_at (w := wa13_.drew) (hRA.below (flat_stays _ _ _) (((Keep.refl (fun _ => False) wa13_).drew).below (B := B) hBd (fun _ _ h => h))) hBd)) a13_ (by omega) k_8 k_11k _ ?_)
         intro c wz v hAc k_12 hown hbel
         have hrow : (Ln.flatAny x.major y.needs y.runs).1.length = slotsOf flatL x j := by rw [HSL.out k y hke hky]; rfl
         rw [hrow] at hown
         obtain ⟨A_v, c_v, rfl⟩ : ∃ A c, v = .slice A (slotsOf flatL x j) c := by
          rcases hown.2 with ⟨e1, e2⟩ | ⟨gg, cap, cu, e1, _⟩
          · exact ⟨_, _, by rw [e1, ← e2]⟩
          · exact ⟨_, _, e1⟩
         have hszc := hAc.size.trans hszb____
         have hdc := hAc.defers.trans hdb____
         replace k_4 := hAc.at_ k_4 rfl
         replace hj := hAc.at_ hj rfl
         have HAC := Lib.hid hAc
         have hkz : Keep (fun _ => False) wa13_ wz := below_keepF hbel rfl
         have HKZ := Lib.hid hkz
         obtain ⟨sl, hsle⟩ : ∃ n : Nat, n = slotsOf flatL x j := ⟨_, rfl⟩
         rw [← hsle] at k_12 hsl hown
         have HSLE := Lib.hid hsle
         clear hAc hown hbel hkz hsle hrow
         refine Code.wp_only (R := fun a14_ wa14_ => Agree (fun i => i == 10 || i == 94 || i == 95) c a14_ ∧ At a14_ 10 (.int .i64 sl) ∧ wa14_ = wz) ?_ ?_
         · have hAr : Agree (fun i => i == 10 || i == 94 || i == 95) c c := Agree.refl _ _
           obtain ⟨T, d⟩ := c
           refine wp_region_lit ?_
           iterate 3 with_reducible refine st ?_
           refine wpList_nil ⟨rfl, ag, aq, rfl⟩
         rintro a14_ wa14_ ⟨hAa14_, k_10n, rfl⟩
         replace k_4 := hAa14_.at_ k_4 rfl
         replace k_12 := hAa14_.at_ k_12 rfl
         replace hj := hAa14_.at_ hj rfl
         have hszc_ := hAa14_.size.trans hszc
         have hdc_ := hAa14_.defers.trans hdc
         obtain ⟨t98, ht98⟩ : ∃ n : Nat, n = 8 * sl := ⟨_, rfl⟩
         have et98 : IntKind.i64.wrap ((8 : Int) * (sl : Int)) = (t98 : Int) := by rw [ht98, i64_in _ (by omega)]; omega
         have Ft98 : Hid ((8 : Int) * (sl : Int) = (t98 : Int)) := Lib.hid (by omega)
         obtain ⟨t99, ht99⟩ : ∃ n : Nat, n = 8 + t98 := ⟨_, rfl⟩
         have et99 : IntKind.i64.wrap ((8 : Int) + (t98 : Int)) = (t99 : Int) := by rw [ht99, i64_in _ (by omega)]; omega
         have Ft99 : Hid ((8 : Int) + (t98 : Int) = (t99 : Int)) := Lib.hid (by omega)
         obtain ⟨nw, hnw⟩ : ∃ n : Nat, n = ci + t99 := ⟨_, rfl⟩
         have enw : IntKind.i64.wrap ((ci : Int) + (t99 : Int)) = (nw : Int) := by rw [hnw, i64_in _ (by omega)]; omega
         have Fnw : Hid ((ci : Int) + (t99 : Int) = (nw : Int)) := Lib.hid (by omega)
         have HNW : Hid (nw = cur + slotTo x (j + 1)) := Lib.hid (by have h1 := HCI.out; have h2 := HSLE.out; simp only [slotTo]; omega)
         clear ht98 ht99 hnw
         refine Code.wp_only (R := fun a15_ wa15_ => Agree (fun i => i == 4 || (decide (96 ≤ i) && decide (i ≤ 100))) a14_ a15_ ∧ At a15_ 4 (.int .i64 nw) ∧ wa15_ = wa14_) ?_ ?_
         · have hAr : Agree (fun i => i == 4 || (decide (96 ≤ i) && decide (i ≤ 100))) a14_ a14_ := Agree.refl _ _
           obtain ⟨T, d⟩ := a14_
           refine wp_region_lit ?_
           iterate 6 with_reducible refine st ?_
           refine wpList_nil ⟨rfl, ?_, ?_, rfl⟩
           · exact ag
           · first | exact At.self | (rw [← Fnw.out]; exact At.self)
         rintro a15_ wa15_ ⟨hAa15_, k_4n, rfl⟩
         replace k_12 := hAa15_.at_ k_12 rfl
         replace hj := hAa15_.at_ hj rfl
         replace k_10n := hAa15_.at_ k_10n rfl
         have hszc__ := hAa15_.size.trans hszc_
         have hdc__ := hAa15_.defers.trans hdc_
         exact ⟨(Agree.trans (Agree.trans (Agree.trans (Agree.trans (Agree.trans (Agree.trans (Agree.trans HA.out hAa10_ (by intro j; simp; omega)) hAa11_ (by intro j; simp; omega)) hAa12_ (by intro j; simp; omega)) hAa13_ (by intro j; simp; omega)) HAC.out (by intro j; simp; omega)) hAa14_ (by intro j; simp; omega)) hAa15_ (by intro j; simp; omega)), hj, by rw [← HNW.out]; exact k_4n, ((HKI.out.trans HKC.out (fun _ _ h => h)).trans HK2.out (fun _ _ h => h)).trans HKZ.out (fun _ _ h => h)⟩
       · have hix0 : ¬ 0 ≤ ix := by have h1 := HGE.out; rw [hg] at h1; exact of_decide_eq_false h1.symm
         refine wp_skip ?_
         have hsl1 : slotsOf flatL x j = 1 := by
          rcases idx_find (ls := x.lanes) (c0 := j) with ⟨e, e2⟩ | ⟨k2, y2, e, e2, e3⟩
          · unfold slotsOf; rw [e2]
          · rw [HIX.out, e] at hix0; omega
         obtain ⟨sl, hsle⟩ : ∃ n : Nat, n = slotsOf flatL x j := ⟨_, rfl⟩
         have k_10n : At a13_ 10 (.int .i64 sl) := by rw [hsle, hsl1]; exact k_10
         rw [← hsle] at hsl
         have HSLE := Lib.hid hsle
         clear hsle hsl1 k_10
         obtain ⟨t98, ht98⟩ : ∃ n : Nat, n = 8 * sl := ⟨_, rfl⟩
         have et98 : IntKind.i64.wrap ((8 : Int) * (sl : Int)) = (t98 : Int) := by rw [ht98, i64_in _ (by omega)]; omega
         have Ft98 : Hid ((8 : Int) * (sl : Int) = (t98 : Int)) := Lib.hid (by omega)
         obtain ⟨t99, ht99⟩ : ∃ n : Nat, n = 8 + t98 := ⟨_, rfl⟩
         have et99 : IntKind.i64.wrap ((8 : Int) + (t98 : Int)) = (t99 : Int) := by rw [ht99, i64_in _ (by omega)]; omega
         have Ft99 : Hid ((8 : Int) + (t98 : Int) = (t99 : Int)) := Lib.hid (by omega)
         obtain ⟨nw, hnw⟩ : ∃ n : Nat, n = ci + t99 := ⟨_, rfl⟩
         have enw : IntKind.i64.wrap ((ci : Int) + (t99 : Int)) = (nw : Int) := by rw [hnw, i64_in _ (by omega)]; omega
         have Fnw : Hid ((ci : Int) + (t99 : Int) = (nw : Int)) := Lib.hid (by omega)
         have HNW : Hid (nw = cur + slotTo x (j + 1)) := Lib.hid (by have h1 := HCI.out; have h2 := HSLE.out; simp only [slotTo]; omega)
         clear ht98 ht99 hnw
         refine Code.wp_only (R := fun a16_ wa16_ => Agree (fun i => i == 4 || (decide (96 ≤ i) && decide (i ≤ 100))) a13_ a16_ ∧ At a16_ 4 (.int .i64 nw) ∧ wa16_ = wa13_) ?_ ?_
         · have hAr : Agree (fun i => i == 4 || (decide (96 ≤ i) && decide (i ≤ 100))) a13_ a13_ := Agree.refl _ _
           obtain ⟨T, d⟩ := a13_
           refine wp_region_lit ?_
           iterate 6 with_reducible refine st ?_
           refine wpList_nil ⟨rfl, ?_, ?_, rfl⟩
           · exact ag
           · first | exact At.self | (rw [← Fnw.out]; exact At.self)
         rintro a16_ wa16_ ⟨hAa16_, k_4n, rfl⟩
         replace k_8 := hAa16_.at_ k_8 rfl
         replace hj := hAa16_.at_ hj rfl
         replace k_9 := hAa16_.at_ k_9 rfl
         replace k_11 := hAa16_.at_ k_11 rfl
         replace k_81 := hAa16_.at_ k_81 rfl
         replace k_10n := hAa16_.at_ k_10n rfl
         have hszb_____ := hAa16_.size.trans hszb____
         have hdb_____ := hAa16_.defers.trans hdb____
         exact ⟨(Agree.trans (Agree.trans (Agree.trans (Agree.trans (Agree.trans HA.out hAa10_ (by intro j; simp; omega)) hAa11_ (by intro j; simp; omega)) hAa12_ (by intro j; simp; omega)) hAa13_ (by intro j; simp; omega)) hAa16_ (by intro j; simp; omega)), hj, by rw [← HNW.out]; exact k_4n, (HKI.out.trans HKC.out (fun _ _ h => h)).trans HK2.out (fun _ _ h => h)⟩
     · rintro j a' w' hj4 ⟨hA, hj, hrest⟩
       have hszb := hA.size.trans hszb__
       have HR := Lib.hid hrest
       have e1 : IntKind.u64.wrap ((j : Int) + 1) = ((j + 1 : Nat) : Int) := by rw [u64_in _ (by omega)]; omega
       clear hrest
       obtain ⟨T, d⟩ := a'
       refine wp_region_lit ?_
       iterate 2 with_reducible refine st ?_
       refine wpList_nil ⟨rfl, ?_, ?_, ?_, HR.out.2⟩
       · exact ag
       · first | exact At.self | (rw [show ((j + 1 : Nat) : Int) = (j : Int) + 1 from by omega]; exact At.self)
       · exact At.ne (At.ne HR.out.1 (by decide)) (by decide)
     · rintro c wz ⟨hA, hj, k_4c, hkc⟩
       have HNW : Hid (cur + slotTo x 4 = b0 + planS (P.plans.take (n + 1))) := Lib.hid (by rw [HTK.out, HCUR.out]; omega)
       rw [HNW.out] at k_4c
       exact ⟨Agree.trans (Agree.trans (hAa8_.mono (by intro j; simp; omega)) hAa9_ (by intro j; simp; omega)) hA (by intro j; simp; omega), k_4c, (HK.out.trans HKB.out (fun _ _ h => h)).trans hkc (fun _ _ h => h)⟩
   · rintro b wr hA ⟨k_4, hk⟩
     rw [List.take_length] at k_4
     have hszb := hA.size.trans hszb_
     have hdb := hA.defers.trans hdb_
     have hval : b0 + planS P.plans = aheadOf flatL P := by
      rw [HB0.out, HN.out]
      unfold aheadOf regS planS
      omega
     rw [hval] at k_4
     obtain ⟨tt, htt⟩ : ∃ n : Nat, n = aheadOf flatL P := ⟨_, rfl⟩
     rw [← htt] at k_4
     have HTT := Lib.hid htt
     clear htt hval
     refine wp_seq (Code.wp_only (R := fun a17_ wa17_ => Agree (fun i => i == 2 || i == 103) b a17_ ∧ At a17_ 2 (.int .i64 tt) ∧ wa17_ = wr) ?_ ?_)
     · have hAr : Agree (fun i => i == 2 || i == 103) b b := Agree.refl _ _
       obtain ⟨T, d⟩ := b
       refine wp_region_lit ?_
       iterate 2 with_reducible refine st ?_
       refine wpList_nil ⟨rfl, ag, aq, rfl⟩
     rintro a17_ wa17_ ⟨hAa17_, k_2, rfl⟩
     replace k_4 := hAa17_.at_ k_4 rfl
     have hszb_ := hAa17_.size.trans hszb
     have hdb_ := hAa17_.defers.trans hdb
     refine wp_ret ?_
     repeat (first | with_reducible apply inbody_ret | with_reducible apply then_ret)
     refine post_tmp (t := 2) rfl k_2 (by rw [hszb_]; decide) hdb_ ?_
     exact ⟨by rw [HTT.out], HKW.out.trans hk (fun _ _ h => h)⟩
end Go.Proofs.YtpblcjipmoblnaaGreatDoor
