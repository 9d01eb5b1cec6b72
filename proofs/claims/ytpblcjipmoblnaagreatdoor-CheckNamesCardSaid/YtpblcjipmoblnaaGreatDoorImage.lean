/- Pages Image -/
import Derived.Test.YtpblcjipmoblnaaGreatDoorAheadB
import Derived.Test.YtpblcjipmoblnaaGreatDoorThings2
import Derived.Test.YtpblcjipmoblnaaGreatDoorFor2
set_option maxRecDepth 100000
set_option maxHeartbeats 4000000
set_option linter.unusedVariables false
set_option linter.unusedSimpArgs false
namespace Go.Proofs.YtpblcjipmoblnaaGreatDoor
open Go.RowKit Go.IntWalk Ck
theorem ups_len {P : Policy} {m : Ck.Map} (h : tableOk P m = true) : (ups m (thing0 P m.of)).length ≤ 34 := by
 rw [tableOk_eq] at h
 simp only [Bool.and_eq_true, decide_eq_true_eq] at h
 obtain ⟨_, h1, h2⟩ := h
 obtain ⟨hb1, hb2⟩ : m.at_ ≤ 549755813888 ∧ (thing0 P m.of).size ≤ 549755813888 - m.at_ := by
  unfold below at h2
  simpa using h2
 simp [ups]
 omega
theorem uppers_len {P : Policy} : ∀ {l : List Ck.Map}, (∀ m ∈ l, tableOk P m = true) → (uppers P l).length ≤ 34 * l.length
 | [], _ => Nat.le_refl _
 | m :: t, h => by
  have ih := uppers_len (l := t) fun x hx => h x (List.mem_cons_of_mem _ hx)
  have h1 := ups_len (h m List.mem_cons_self)
  have e : uppers P (m :: t) = (if (thing0 P m.of).size = 0 then [] else (ups m (thing0 P m.of)).map (· / 512)) ++ uppers P t := by simp [uppers]
  rw [e, List.length_append, List.length_cons]
  split
  · simp; omega
  · rw [List.length_map]; omega
theorem lowers_len {P : Policy} : ∀ {l : List Ck.Map}, (∀ m ∈ l, tableOk P m = true) → (lowers P l).length ≤ 34 * l.length
 | [], _ => Nat.le_refl _
 | m :: t, h => by
  have ih := lowers_len (l := t) fun x hx => h x (List.mem_cons_of_mem _ hx)
  have h1 := ups_len (h m List.mem_cons_self)
  have e : lowers P (m :: t) = (if (thing0 P m.of).size = 0 ∨ (thing0 P m.of).big = true then [] else ups m (thing0 P m.of)) ++ lowers P t := by simp [lowers]
  rw [e, List.length_append, List.length_cons]
  split
  · simp; omega
  · omega
theorem dups_len (l : List Nat) : l.eraseDups.length ≤ l.length := dups_le (dups_nodup l) fun x hx => List.mem_eraseDups.1 hx
theorem tables_le (P : Policy) (l : List Ck.Map) : tables P l ≤ 1 + 68 * l.length := by
 unfold tables
 split
 · rename_i h
   have h := List.all_eq_true.1 h
   have h1 := uppers_len h
   have h2 := lowers_len h
   have h3 := dups_len (uppers P l)
   have h4 := dups_len (lowers P l)
   omega
 · omega
def tabS (P : Policy) (ls : List (List Ck.Map)) : Nat := (ls.map (tables P)).sum
theorem tabS_snoc (P : Policy) (ls : List (List Ck.Map)) (l : List Ck.Map) : tabS P (ls ++ [l]) = tabS P ls + tables P l := by simp [tabS]
theorem tabS_le (P : Policy) : ∀ (ls : List (List Ck.Map)), (∀ l ∈ ls, l.length ≤ 2097152) → tabS P ls ≤ ls.length * 142606400
 | [], _ => by simp [tabS]
 | l :: t, h => by
  have h1 := tabS_le P t fun y hy => h y (List.mem_cons_of_mem _ hy)
  have h2 := h l List.mem_cons_self
  have h3 := tables_le P l
  have e : tabS P (l :: t) = tables P l + tabS P t := by simp [tabS]
  rw [e, List.length_cons]
  omega
theorem pages_zero {flat : Nat → Lane → Nat × Int × Int} {P : Policy} {l : List Ck.Map} (hl : l ∈ P.tabled) (h0 : tables P l = 0) : pages flat P = 0 := by
 unfold pages
 rw [if_neg]
 intro h
 have := List.all_eq_true.1 h l hl
 rw [h0] at this
 cases this
theorem pages_sum {flat : Nat → Lane → Nat × Int × Int} {P : Policy} (h : ∀ l ∈ P.tabled, 0 < tables P l) : pages flat P = tabS P P.tabled + (aheadOf flat P + 4095) / 4096 := by
 unfold pages
 rw [if_pos (List.all_eq_true.2 fun l hl => by simpa using h l hl)]
 rfl
theorem ahead_le (P : Policy) (hr : ∀ x ∈ P.regions, x.text.size ≤ 2097152) (h : P.rams.length ≤ 2097152 ∧ P.devices.length ≤ 2097152 ∧ P.regions.length ≤ 2097152 ∧ P.subjects.length ≤ 2097152 ∧ P.channels.length ≤ 2097152 ∧ P.irqs.length ≤ 2097152 ∧ P.queues.length ≤ 2097152 ∧ P.plans.length ≤ 2097152) : aheadOf flatL P ≤ 9000000000000 := by
 have h1 := regS_le P.regions hr
 have h2 := planS_le P.plans
 unfold regS at h1
 unfold planS at h2
 unfold aheadOf
 omega
def devT (l : List Ck.Device) : List (List Ck.Map) := (l.map Device.maps).filter fun l => decide (0 < l.length)
theorem devT_snoc (l : List Ck.Device) (x : Ck.Device) : devT (l ++ [x]) = devT l ++ (if 0 < x.maps.length then [x.maps] else []) := by
 unfold devT
 rw [List.map_append, List.filter_append]
 congr 1
 simp only [List.map_cons, List.map_nil, List.filter_cons, List.filter_nil]
 by_cases h : 0 < x.maps.length <;> simp [h]
theorem devT_len (l : List Ck.Device) : (devT l).length ≤ l.length := by
 unfold devT
 exact Nat.le_trans (List.length_filter_le _ _) (by simp)
theorem pages_any {B : Nat} {w : World} {v : PolV} {P : Policy} (hp : PolAt B w v P) (hB : B ≤ w.heap.size) : Calls Tryz.prog 22 #[.agg (v.cells P).toArray] w fun e w' => e = .returned (.int .i64 (pages flatL P)) ∧ Keep (fun _ => False) w w' := by
 have hsm : ∀ x ∈ P.subjects, x.maps.length ≤ 2097152 := slice_all hp.subjects fun b o x hx => by obtain ⟨_, _, _, ⟨_, _, _, _, h, _⟩, _⟩ := hx; exact h
 have hdm : ∀ x ∈ P.devices, x.maps.length ≤ 2097152 := slice_all hp.devices fun b o x hx => by obtain ⟨_, _, ⟨_, _, _, _, h, _⟩, _⟩ := hx; exact h
 have htx : ∀ x ∈ P.regions, x.text.size ≤ 2097152 := slice_all hp.regions fun b o x hx => hx.2.2.2.2.2.2
 have hth := fun s => thing_lt hp s
 have HP := Lib.hid hp
 obtain ⟨A_rams, c_rams, hv_rams, hc_rams, hn_rams, hl_rams⟩ := hp.rams
 obtain ⟨A_devices, c_devices, hv_devices, hc_devices, hn_devices, hl_devices⟩ := hp.devices
 obtain ⟨A_regions, c_regions, hv_regions, hc_regions, hn_regions, hl_regions⟩ := hp.regions
 obtain ⟨A_subjects, c_subjects, hv_subjects, hc_subjects, hn_subjects, hl_subjects⟩ := hp.subjects
 obtain ⟨A_channels, c_channels, hv_channels, hc_channels, hn_channels, hl_channels⟩ := hp.channels
 obtain ⟨A_irqs, c_irqs, hv_irqs, hc_irqs, hn_irqs, hl_irqs⟩ := hp.irqs
 obtain ⟨A_queues, c_queues, hv_queues, hc_queues, hn_queues, hl_queues⟩ := hp.queues
 obtain ⟨A_plans, c_plans, hv_plans, hc_plans, hn_plans, hl_plans⟩ := hp.plans
 obtain ⟨A_masters, c_masters, hv_masters, hc_masters, hn_masters, hl_masters⟩ := hp.masters
 obtain ⟨A_starts, c_starts, hv_starts, hc_starts, hn_starts, hl_starts⟩ := hp.starts
 obtain ⟨A_monitors, c_monitors, hv_monitors, hc_monitors, hn_monitors, hl_monitors⟩ := hp.monitors
 obtain ⟨A_forbids, c_forbids, hv_forbids, hc_forbids, hn_forbids, hl_forbids⟩ := hp.forbids
 have e0 : (v.cells P).toArray = #[.int .i64 P.pos, .string P.name, .slice A_rams P.rams.length c_rams, .slice A_devices P.devices.length c_devices, .slice A_regions P.regions.length c_regions, .slice A_subjects P.subjects.length c_subjects, .slice A_channels P.channels.length c_channels, .slice A_irqs P.irqs.length c_irqs, .slice A_queues P.queues.length c_queues, .slice A_plans P.plans.length c_plans, .slice A_masters P.masters.length c_masters, .slice A_starts P.starts.length c_starts, .slice A_monitors P.monitors.length c_monitors, .slice A_forbids P.forbids.length c_forbids] := by
  rw [← hv_rams, ← hv_devices, ← hv_regions, ← hv_subjects, ← hv_channels, ← hv_irqs, ← hv_queues, ← hv_plans, ← hv_masters, ← hv_starts, ← hv_monitors, ← hv_forbids]
  rfl
 rw [e0]
 unfold top at hn_rams hn_devices hn_regions hn_subjects hn_channels hn_irqs hn_queues hn_plans hn_masters hn_starts hn_monitors hn_forbids
 have hal := ahead_le P htx ⟨hn_rams, hn_devices, hn_regions, hn_subjects, hn_channels, hn_irqs, hn_queues, hn_plans⟩
 have HLS := Lib.hid hl_subjects
 have HLD := Lib.hid hl_devices
 have HSM := Lib.hid hsm
 have HDM := Lib.hid hdm
 have HTH := Lib.hid hth
 have HTHINGS : Hid (∀ w1, Keep (fun _ => False) w w1 → Calls Tryz.prog 58 #[.agg #[.int .i64 P.pos, .string P.name, .slice A_rams P.rams.length c_rams, .slice A_devices P.devices.length c_devices, .slice A_regions P.regions.length c_regions, .slice A_subjects P.subjects.length c_subjects, .slice A_channels P.channels.length c_channels, .slice A_irqs P.irqs.length c_irqs, .slice A_queues P.queues.length c_queues, .slice A_plans P.plans.length c_plans, .slice A_masters P.masters.length c_masters, .slice A_starts P.starts.length c_starts, .slice A_monitors P.monitors.length c_monitors, .slice A_forbids P.forbids.length c_forbids]] w1 fun e w' => ∃ mb, e = .returned (.map (some mb)) ∧ w1.heap.size ≤ mb ∧ mb < w'.heap.size ∧ ThingMap w' mb P ∧ Keep (fun _ => False) w1 w') := Lib.hid fun w1 hk => by rw [← e0]; exact things_any (HP.out.below (hk.below (B := B) hB (fun _ _ h => h))) (Nat.le_trans hB hk.size)
 have HAHEAD : Hid (∀ w1, Keep (fun _ => False) w w1 → Calls Tryz.prog 60 #[.agg #[.int .i64 P.pos, .string P.name, .slice A_rams P.rams.length c_rams, .slice A_devices P.devices.length c_devices, .slice A_regions P.regions.length c_regions, .slice A_subjects P.subjects.length c_subjects, .slice A_channels P.channels.length c_channels, .slice A_irqs P.irqs.length c_irqs, .slice A_queues P.queues.length c_queues, .slice A_plans P.plans.length c_plans, .slice A_masters P.masters.length c_masters, .slice A_starts P.starts.length c_starts, .slice A_monitors P.monitors.length c_monitors, .slice A_forbids P.forbids.length c_forbids]] w1 fun e w' => e = .returned (.int .i64 (aheadOf flatL P)) ∧ Keep (fun _ => False) w1 w') := Lib.hid fun w1 hk => by rw [← e0]; exact ahead_any (HP.out.below (hk.below (B := B) hB (fun _ _ h => h))) (Nat.le_trans hB hk.size)
 clear e0 hp hsm hdm htx hth hv_rams hl_rams hv_devices hl_devices hv_regions hl_regions hv_subjects hl_subjects hv_channels hl_channels hv_irqs hl_irqs hv_queues hl_queues hv_plans hl_plans hv_masters hl_masters hv_starts hl_starts hv_monitors hl_monitors hv_forbids hl_forbids hc_rams hc_regions hc_channels hc_irqs hc_queues hc_plans hc_masters hc_starts hc_monitors hc_forbids hn_rams hn_regions hn_channels hn_irqs hn_queues hn_plans hn_masters hn_starts hn_monitors hn_forbids
 refine calls_abs Tryz.func22 Tryz.ntmps22 rfl (by show 1 ≤ 58; decide) fun a hsz hd h => ?_
 have h0 : At a 0 (.agg #[.int .i64 P.pos, .string P.name, .slice A_rams P.rams.length c_rams, .slice A_devices P.devices.length c_devices, .slice A_regions P.regions.length c_regions, .slice A_subjects P.subjects.length c_subjects, .slice A_channels P.channels.length c_channels, .slice A_irqs P.irqs.length c_irqs, .slice A_queues P.queues.length c_queues, .slice A_plans P.plans.length c_plans, .slice A_masters P.masters.length c_masters, .slice A_starts P.starts.length c_starts, .slice A_monitors P.monitors.length c_monitors, .slice A_forbids P.forbids.length c_forbids]) := h 0 _ rfl
 clear h
 conv => arg 2; whnf
 refine wp_seq (Code.wp_only (R := fun a1_ wa1_ => Agree (fun i => i == 1 || i == 2) a a1_ ∧ At a1_ 1 (.pointer (some ⟨w.heap.size, 0, none⟩)) ∧ wa1_ = w.alloc (.cells #[.int .i64 P.pos, .string P.name, .slice A_rams P.rams.length c_rams, .slice A_devices P.devices.length c_devices, .slice A_regions P.regions.length c_regions, .slice A_subjects P.subjects.length c_subjects, .slice A_channels P.channels.length c_channels, .slice A_irqs P.irqs.length c_irqs, .slice A_queues P.queues.length c_queues, .slice A_plans P.plans.length c_plans, .slice A_masters P.masters.length c_masters, .slice A_starts P.starts.length c_starts, .slice A_monitors P.monitors.length c_monitors, .slice A_forbids P.forbids.length c_forbids] 34)) ?_ ?_)
 · have hAr : Agree (fun i => i == 1 || i == 2) a a := Agree.refl _ _
   obtain ⟨T, d⟩ := a
   refine wp_region_lit ?_
   iterate 2 with_reducible refine st ?_
   refine wpList_nil ⟨rfl, ag, aq, rfl⟩
 rintro a1_ wa1_ ⟨hAa1_, h1, hwa1_⟩
 replace h0 := hAa1_.at_ h0 rfl
 have hsz_ := hAa1_.size.trans hsz
 have hd_ := hAa1_.defers.trans hd
 obtain ⟨z, hz⟩ : ∃ z, z = w.heap.size := ⟨_, rfl⟩
 rw [← hz] at h1
 have fz : wa1_.heap[z]? = some (.cells #[.int .i64 P.pos, .string P.name, .slice A_rams P.rams.length c_rams, .slice A_devices P.devices.length c_devices, .slice A_regions P.regions.length c_regions, .slice A_subjects P.subjects.length c_subjects, .slice A_channels P.channels.length c_channels, .slice A_irqs P.irqs.length c_irqs, .slice A_queues P.queues.length c_queues, .slice A_plans P.plans.length c_plans, .slice A_masters P.masters.length c_masters, .slice A_starts P.starts.length c_starts, .slice A_monitors P.monitors.length c_monitors, .slice A_forbids P.forbids.length c_forbids] 34 (0, 0)) := by rw [hwa1_, hz]; exact heap_alloc_new _ _
 have HK1 : Hid (Keep (fun _ => False) w wa1_) := Lib.hid (by rw [hwa1_]; exact (Keep.refl _ _).alloc _)
 have FZ := Lib.hid fz
 have q0 : wa1_.cell? ⟨z, 0, none⟩ = some (.int .i64 P.pos) := by rw [cell_of_row _ _ _ _ _ _ fz]; rfl
 have q1 : wa1_.cell? ⟨z, 1, none⟩ = some (.string P.name) := by rw [cell_of_row _ _ _ _ _ _ fz]; rfl
 have q2 : wa1_.cell? ⟨z, 2, none⟩ = some (.slice A_rams P.rams.length c_rams) := by rw [cell_of_row _ _ _ _ _ _ fz]; rfl
 have q3 : wa1_.cell? ⟨z, 3, none⟩ = some (.slice A_devices P.devices.length c_devices) := by rw [cell_of_row _ _ _ _ _ _ fz]; rfl
 have q4 : wa1_.cell? ⟨z, 4, none⟩ = some (.slice A_regions P.regions.length c_regions) := by rw [cell_of_row _ _ _ _ _ _ fz]; rfl
 have q5 : wa1_.cell? ⟨z, 5, none⟩ = some (.slice A_subjects P.subjects.length c_subjects) := by rw [cell_of_row _ _ _ _ _ _ fz]; rfl
 have q6 : wa1_.cell? ⟨z, 6, none⟩ = some (.slice A_channels P.channels.length c_channels) := by rw [cell_of_row _ _ _ _ _ _ fz]; rfl
 have q7 : wa1_.cell? ⟨z, 7, none⟩ = some (.slice A_irqs P.irqs.length c_irqs) := by rw [cell_of_row _ _ _ _ _ _ fz]; rfl
 have q8 : wa1_.cell? ⟨z, 8, none⟩ = some (.slice A_queues P.queues.length c_queues) := by rw [cell_of_row _ _ _ _ _ _ fz]; rfl
 have q9 : wa1_.cell? ⟨z, 9, none⟩ = some (.slice A_plans P.plans.length c_plans) := by rw [cell_of_row _ _ _ _ _ _ fz]; rfl
 have q10 : wa1_.cell? ⟨z, 10, none⟩ = some (.slice A_masters P.masters.length c_masters) := by rw [cell_of_row _ _ _ _ _ _ fz]; rfl
 have q11 : wa1_.cell? ⟨z, 11, none⟩ = some (.slice A_starts P.starts.length c_starts) := by rw [cell_of_row _ _ _ _ _ _ fz]; rfl
 have q12 : wa1_.cell? ⟨z, 12, none⟩ = some (.slice A_monitors P.monitors.length c_monitors) := by rw [cell_of_row _ _ _ _ _ _ fz]; rfl
 have q13 : wa1_.cell? ⟨z, 13, none⟩ = some (.slice A_forbids P.forbids.length c_forbids) := by rw [cell_of_row _ _ _ _ _ _ fz]; rfl
 clear hwa1_ hz fz h0
 have HT1 := Lib.hid (HTHINGS.out wa1_ HK1.out)
 clear HTHINGS
 refine wp_seq (Code.wp_only (R := fun a2_ wa2_ => Agree (fun i => i == 3 || i == 11 || i == 12) a1_ a2_ ∧ ∃ mb, At a2_ 3 (.map (some mb)) ∧ wa1_.heap.size ≤ mb ∧ mb < wa2_.heap.size ∧ ThingMap wa2_ mb P ∧ Keep (fun _ => False) wa1_ wa2_) ?_ ?_)
 · have hAr : Agree (fun i => i == 3 || i == 11 || i == 12) a1_ a1_ := Agree.refl _ _
   obtain ⟨T, d⟩ := a1_
   refine wp_region_lit ?_
   with_reducible refine st ?_
   with_reducible refine wpList_step (fun K hK => ?_)
   go_simp
   refine HT1.out.mono ?_
   rintro e w2 ⟨mb, rfl, hm1, hm2, hm3, hk2⟩
   with_reducible refine hK _ _ ?_
   clear hK K
   with_reducible refine st ?_
   refine wpList_nil ⟨rfl, ag, mb, aq, hm1, hm2, hm3, hk2⟩
 rintro a2_ wa2_ ⟨hAa2_, mb, h3, hmb1, hmb2, hm, hk2⟩
 replace h1 := hAa2_.at_ h1 rfl
 have hsz__ := hAa2_.size.trans hsz_
 have hd__ := hAa2_.defers.trans hd_
 have HM := Lib.hid hm
 have HK2 : Hid (Keep (fun _ => False) w wa2_) := HK1.out.trans hk2 (fun _ _ h => h)
 have FZ2 := Lib.hid ((hk2.block z (heap_lt FZ.out) (fun h => h)).trans FZ.out)
 replace q0 := (hk2.cell (p := ⟨z, 0, none⟩) (heap_lt FZ.out) (fun h => h)).trans q0
 replace q1 := (hk2.cell (p := ⟨z, 1, none⟩) (heap_lt FZ.out) (fun h => h)).trans q1
 replace q2 := (hk2.cell (p := ⟨z, 2, none⟩) (heap_lt FZ.out) (fun h => h)).trans q2
 replace q3 := (hk2.cell (p := ⟨z, 3, none⟩) (heap_lt FZ.out) (fun h => h)).trans q3
 replace q4 := (hk2.cell (p := ⟨z, 4, none⟩) (heap_lt FZ.out) (fun h => h)).trans q4
 replace q5 := (hk2.cell (p := ⟨z, 5, none⟩) (heap_lt FZ.out) (fun h => h)).trans q5
 replace q6 := (hk2.cell (p := ⟨z, 6, none⟩) (heap_lt FZ.out) (fun h => h)).trans q6
 replace q7 := (hk2.cell (p := ⟨z, 7, none⟩) (heap_lt FZ.out) (fun h => h)).trans q7
 replace q8 := (hk2.cell (p := ⟨z, 8, none⟩) (heap_lt FZ.out) (fun h => h)).trans q8
 replace q9 := (hk2.cell (p := ⟨z, 9, none⟩) (heap_lt FZ.out) (fun h => h)).trans q9
 replace q10 := (hk2.cell (p := ⟨z, 10, none⟩) (heap_lt FZ.out) (fun h => h)).trans q10
 replace q11 := (hk2.cell (p := ⟨z, 11, none⟩) (heap_lt FZ.out) (fun h => h)).trans q11
 replace q12 := (hk2.cell (p := ⟨z, 12, none⟩) (heap_lt FZ.out) (fun h => h)).trans q12
 replace q13 := (hk2.cell (p := ⟨z, 13, none⟩) (heap_lt FZ.out) (fun h => h)).trans q13
 clear hm hk2 HT1
 refine wp_seq (Code.wp_only (R := fun a3_ wa3_ => Agree (fun i => i == 4) a2_ a3_ ∧ At a3_ 4 (.int .i64 (0 : Nat)) ∧ wa3_ = wa2_) ?_ ?_)
 · have hAr : Agree (fun i => i == 4) a2_ a2_ := Agree.refl _ _
   obtain ⟨T, d⟩ := a2_
   refine wp_region_lit ?_
   with_reducible refine st ?_
   refine wpList_nil ⟨rfl, ?_, ?_, rfl⟩
   · exact ag
   · exact At.self
 rintro a3_ wa3_ ⟨hAa3_, h4, rfl⟩
 replace h1 := hAa3_.at_ h1 rfl
 replace h3 := hAa3_.at_ h3 rfl
 have hsz___ := hAa3_.size.trans hsz__
 have hd___ := hAa3_.defers.trans hd__
 refine wp_seq (wp_seq (Code.wp_only (R := fun a4_ wa4_ => Agree (fun i => (decide (13 ≤ i) && decide (i ≤ 16))) a3_ a4_ ∧ At a4_ 14 (.slice A_subjects P.subjects.length c_subjects) ∧ At a4_ 15 (.int .i64 P.subjects.length) ∧ At a4_ 16 (.int .i64 0) ∧ wa4_ = wa3_) ?_ ?_))
 · have hAr : Agree (fun i => (decide (13 ≤ i) && decide (i ≤ 16))) a3_ a3_ := Agree.refl _ _
   obtain ⟨T, d⟩ := a3_
   refine wp_region_lit ?_
   iterate 4 with_reducible refine st ?_
   refine wpList_nil ⟨rfl, ag, aq, aq, aq, rfl⟩
 rintro a4_ wa4_ ⟨hAa4_, k_s, k_n, k_i, rfl⟩
 replace h1 := hAa4_.at_ h1 rfl
 replace h3 := hAa4_.at_ h3 rfl
 replace h4 := hAa4_.at_ h4 rfl
 have hsz____ := hAa4_.size.trans hsz___
 have hd____ := hAa4_.defers.trans hd___
 refine wp_range P.subjects.length (fun i => i == 2 || i == 4 || i == 6 || i == 7 || (decide (16 ≤ i) && decide (i ≤ 29))) (fun i => i == 2 || i == 4 || i == 6 || i == 7 || (decide (18 ≤ i) && decide (i ≤ 28))) (fun k a' w' => At a' 4 (.int .i64 (tabS P ((P.subjects.take k).map Subject.maps) : Nat)) ∧ (∀ x ∈ P.subjects.take k, 0 < tables P x.maps) ∧ Keep (fun _ => False) wa4_ w') (by omega) k_i k_n (by decide) rfl
  (by intro j; simp; omega) (by omega) (by decide) (fun k a1 a2 w hA ⟨hI, hk⟩ => ⟨hA.at_ hI rfl, hk⟩) ⟨by simpa [tabS] using h4, by simp, Keep.refl _ _⟩ ?_ ?_
 · rintro n b wr hlt hA k_j ⟨k_4, hpos, hk⟩
   obtain ⟨bl, off, rfl, hbl, hcs⟩ := HLS.out (by omega)
   obtain ⟨x, hx⟩ : ∃ x, P.subjects[n]? = some x := ⟨_, List.getElem?_eq_getElem hlt⟩
   have hkw : Keep (fun _ => False) w wr := HK2.out.trans hk (fun _ _ h => h)
   obtain ⟨mv, rv, hc, hmaps, hrules, _, hcpu, _⟩ := (subject_stays B) _ _ _ _ _ (hkw.below (B := B) (by omega) (fun _ _ h => h)) hbl (hcs n x hx)
   obtain ⟨A_m, c_m, rfl, hmaps⟩ := hmaps
   obtain ⟨A_r, c_r, rfl, _⟩ := hrules
   have HMS : Hid (SliceAt B 5 MapAt wr (.slice A_m x.maps.length c_m) x.maps) := Lib.hid ⟨A_m, c_m, rfl, hmaps⟩
   have q0 := hc.c0
   have r1 := hc 1 _ rfl
   have r2 := hc 2 _ rfl
   have r3 := hc 3 _ rfl
   have r4 := hc 4 _ rfl
   have r5 := hc 5 _ rfl
   have k_sl := hA.at_ k_s rfl
   have k_3 := hA.at_ h3 rfl
   have hszb := hA.size.trans hsz____
   have hdb := hA.defers.trans hd____
   have hszw := hkw.size
   have hszw2 := hk.size
   have hblr : bl < wr.heap.size := by omega
   have hkc : n ≤ c_subjects := by omega
   have htk := take_at hx
   have HTK : Hid (tabS P ((P.subjects.take (n + 1)).map Subject.maps) = tabS P ((P.subjects.take n).map Subject.maps) + tables P x.maps) := by rw [htk, List.map_append]; exact tabS_snoc _ _ _
   have HPO : Hid (0 < tables P x.maps → ∀ y ∈ P.subjects.take (n + 1), 0 < tables P y.maps) := Lib.hid fun h y hy => by
    rw [htk] at hy
    rcases List.mem_append.1 hy with h1 | h1
    · exact hpos y h1
    · obtain rfl : y = x := by simpa using h1
      exact h
   have hmem : x ∈ P.subjects := List.mem_of_getElem? hx
   have hml := HSM.out x hmem
   have hrs := tabS_le P ((P.subjects.take n).map Subject.maps) (fun l hl => by obtain ⟨y, hy, rfl⟩ := List.mem_map.1 hl; exact HSM.out y (List.mem_of_mem_take hy))
   have hrl : ((P.subjects.take n).map Subject.maps).length ≤ 2097152 := by simp; omega
   have htl := tables_le P x.maps
   have HTAB : Hid (x.maps ∈ P.tabled) := Lib.hid (List.mem_append_left _ (List.mem_map.2 ⟨x, hmem, rfl⟩))
   obtain ⟨rs, hrse⟩ : ∃ r, r = tabS P ((P.subjects.take n).map Subject.maps) := ⟨_, rfl⟩
   rw [← hrse] at HTK hrs k_4
   have hrs2 : rs ≤ 300000000000000 := by omega
   obtain ⟨tb, htbe⟩ : ∃ t, t = tables P x.maps := ⟨_, rfl⟩
   have htb : tb ≤ 200000000 := by omega
   have HTB := Lib.hid htbe
   have HKW := Lib.hid hkw
   have HK := Lib.hid hk
   have HA := Lib.hid hA
   have HMW := Lib.hid (show ThingMap wr mb P from by obtain ⟨nn, h⟩ := HM.out; exact ⟨nn, h.keep hk (fun h => h)⟩)
   clear hx hcs hc hA hk hkw htk hrse hrs hrl hpos hmaps hcpu htl htbe hmem hml q1 q2 q3 q4 q5 q6 q7 q8 q9 q10 q11 q12 q13
   refine wp_seq (Code.wp_only (R := fun a5_ wa5_ => Agree (fun i => i == 6 || i == 18 || i == 19) b a5_ ∧ At a5_ 6 (.pointer (some ⟨wr.heap.size, 0, none⟩)) ∧ wa5_ = wr.alloc (.cells #[.int .i64 x.pos, .string x.name, .int .u64 x.cpu, .bool x.stopped, .slice A_m x.maps.length c_m, .slice A_r x.rules.length c_r] 52)) ?_ ?_)
   · have hAr : Agree (fun i => i == 6 || i == 18 || i == 19) b b := Agree.refl _ _
     obtain ⟨T, d⟩ := b
     refine wp_region_lit ?_
     iterate 4 with_reducible refine st ?_
     refine wpList_nil ⟨rfl, ag, aq, rfl⟩
   rintro a5_ wa5_ ⟨hAa5_, k_6, hwa5_⟩
   replace k_4 := hAa5_.at_ k_4 rfl
   replace k_3 := hAa5_.at_ k_3 rfl
   replace k_sl := hAa5_.at_ k_sl rfl
   replace k_j := hAa5_.at_ k_j rfl
   have hszb_ := hAa5_.size.trans hszb
   have hdb_ := hAa5_.defers.trans hdb
   obtain ⟨zx, hzx⟩ : ∃ z, z = wr.heap.size := ⟨_, rfl⟩
   rw [← hzx] at k_6
   have t4 : wa5_.cell? ⟨zx, 4, none⟩ = some (.slice A_m x.maps.length c_m) := by rw [cell_of_row _ _ _ _ _ _ (show wa5_.heap[zx]? = some (.cells #[.int .i64 x.pos, .string x.name, .int .u64 x.cpu, .bool x.stopped, .slice A_m x.maps.length c_m, .slice A_r x.rules.length c_r] 52 (0, 0)) by rw [hwa5_, hzx]; exact heap_alloc_new _ _)]; rfl
   have hkb : Keep (fun _ => False) wr wa5_ := by rw [hwa5_]; exact (Keep.refl _ _).alloc _
   have HKB := Lib.hid hkb
   have hcall := tables_any (HMS.out.below (flat_stays _ _ _) (hkb.below (B := B) (by omega) (fun _ _ h => h))) (Nat.le_trans (by omega) hkb.size) (mb := mb) (by obtain ⟨nn, h⟩ := HMW.out; exact ⟨nn, h.keep hkb (fun h => h)⟩ : ThingMap wa5_ mb P) (Nat.lt_of_lt_of_le (by omega) hkb.size) HTH.out
   rw [← HTB.out] at hcall
   have HC := Lib.hid hcall
   clear hwa5_ hzx hkb hcall q0 r1 r2 r3 r4 r5 k_sl k_j
   refine wp_seq (Code.wp_only (R := fun a6_ wa6_ => Agree (fun i => i == 7 || (decide (20 ≤ i) && decide (i ≤ 23))) a5_ a6_ ∧ At a6_ 7 (.int .i64 tb) ∧ Keep (fun _ => False) wa5_ wa6_) ?_ ?_)
   · have hAr : Agree (fun i => i == 7 || (decide (20 ≤ i) && decide (i ≤ 23))) a5_ a5_ := Agree.refl _ _
     obtain ⟨T, d⟩ := a5_
     refine wp_region_lit ?_
     iterate 3 with_reducible refine st ?_
     with_reducible refine wpList_step (fun K hK => ?_)
     go_simp
     refine HC.out.mono ?_
     rintro e w2 ⟨rfl, hk2⟩
     with_reducible refine hK _ _ ?_
     clear hK K
     with_reducible refine st ?_
     refine wpList_nil ⟨rfl, ?_, ?_, ?_⟩
     · exact ag
     · exact aq
     · exact hk2
   rintro a6_ wa6_ ⟨hAa6_, k_7, hk2⟩
   replace k_4 := hAa6_.at_ k_4 rfl
   replace k_3 := hAa6_.at_ k_3 rfl
   replace k_6 := hAa6_.at_ k_6 rfl
   have hszb__ := hAa6_.size.trans hszb_
   have hdb__ := hAa6_.defers.trans hdb_
   obtain ⟨ze, hze⟩ : ∃ b, b = decide (tb = 0) := ⟨_, rfl⟩
   have w1ze : ((tb : Int) == 0) = ze := by rw [hze]; exact nat_eqb _ 0
   have HZE := Lib.hid hze
   have HK2W := Lib.hid hk2
   clear hze hk2
   refine wp_seq (wp_seq (Code.wp_only (R := fun a7_ wa7_ => Agree (fun i => i == 24 || i == 25) a6_ a7_ ∧ At a7_ 25 (.bool ze) ∧ wa7_ = wa6_) ?_ ?_))
   · have hAr : Agree (fun i => i == 24 || i == 25) a6_ a6_ := Agree.refl _ _
     obtain ⟨T, d⟩ := a6_
     refine wp_region_lit ?_
     iterate 2 with_reducible refine st ?_
     refine wpList_nil ⟨rfl, ag, aq, rfl⟩
   rintro a7_ wa7_ ⟨hAa7_, k_25, rfl⟩
   replace k_4 := hAa7_.at_ k_4 rfl
   replace k_3 := hAa7_.at_ k_3 rfl
   replace k_6 := hAa7_.at_ k_6 rfl
   replace k_7 := hAa7_.at_ k_7 rfl
   have hszb___ := hAa7_.size.trans hszb__
   have hdb___ := hAa7_.defers.trans hdb__
   refine wp_cond_split (k_25.eval (by omega)) (fun hg => ?_) (fun hg => ?_)
   · have ht0 : tables P x.maps = 0 := by have h1 := HZE.out; rw [hg] at h1; have := of_decide_eq_true h1.symm; rw [← HTB.out]; exact this
     clear HC w1ze
     refine wp_seq (Code.wp_only (R := fun a8_ wa8_ => Agree (fun i => i == 2) a7_ a8_ ∧ At a8_ 2 (.int .i64 (0 : Nat)) ∧ wa8_ = wa7_) ?_ ?_)
     · have hAr : Agree (fun i => i == 2) a7_ a7_ := Agree.refl _ _
       obtain ⟨T, d⟩ := a7_
       refine wp_region_lit ?_
       with_reducible refine st ?_
       refine wpList_nil ⟨rfl, ?_, ?_, rfl⟩
       · exact ag
       · exact At.self
     rintro a8_ wa8_ ⟨hAa8_, k_2, rfl⟩
     have hszb____ := hAa8_.size.trans hszb___
     have hdb____ := hAa8_.defers.trans hdb___
     refine wp_ret ?_
     repeat (first | with_reducible apply inbody_ret | with_reducible apply then_ret)
     refine post_tmp (t := 2) rfl k_2 (by rw [hszb____]; decide) hdb____ ?_
     exact ⟨by rw [pages_zero HTAB.out ht0], (HKW.out.trans HKB.out (fun _ _ h => h)).trans HK2W.out (fun _ _ h => h)⟩
   · have htp : 0 < tables P x.maps := by have h1 := HZE.out; rw [hg] at h1; have := of_decide_eq_false h1.symm; rw [← HTB.out]; omega
     refine wp_skip ?_
     obtain ⟨nw, hnw⟩ : ∃ n : Nat, n = rs + tb := ⟨_, rfl⟩
     have enw : IntKind.i64.wrap ((rs : Int) + (tb : Int)) = (nw : Int) := by rw [hnw, i64_in _ (by omega)]; omega
     have Fnw : Hid ((rs : Int) + (tb : Int) = (nw : Int)) := Lib.hid (by omega)
     have HNW := Lib.hid hnw
     clear hnw HC w1ze hg
     refine Code.wp_only (R := fun a9_ wa9_ => Agree (fun i => i == 4 || (decide (26 ≤ i) && decide (i ≤ 28))) a7_ a9_ ∧ At a9_ 4 (.int .i64 nw) ∧ wa9_ = wa7_) ?_ ?_
     · have hAr : Agree (fun i => i == 4 || (decide (26 ≤ i) && decide (i ≤ 28))) a7_ a7_ := Agree.refl _ _
       obtain ⟨T, d⟩ := a7_
       refine wp_region_lit ?_
       iterate 4 with_reducible refine st ?_
       refine wpList_nil ⟨rfl, ?_, ?_, rfl⟩
       · exact ag
       · first | exact At.self | (rw [← Fnw.out]; exact At.self)
     rintro a9_ wa9_ ⟨hAa9_, k_4n, rfl⟩
     replace k_3 := hAa9_.at_ k_3 rfl
     replace k_6 := hAa9_.at_ k_6 rfl
     replace k_7 := hAa9_.at_ k_7 rfl
     replace k_25 := hAa9_.at_ k_25 rfl
     have hszb____ := hAa9_.size.trans hszb___
     have hdb____ := hAa9_.defers.trans hdb___
     exact ⟨(Agree.trans (Agree.trans (Agree.trans (Agree.trans (Agree.refl (fun i => i == 2 || i == 4 || i == 6 || i == 7 || (decide (18 ≤ i) && decide (i ≤ 28))) _) hAa5_ (by intro j; simp; omega)) hAa6_ (by intro j; simp; omega)) hAa7_ (by intro j; simp; omega)) hAa9_ (by intro j; simp; omega)), by rw [HTK.out, ← HTB.out, ← HNW.out]; exact k_4n, HPO.out htp, ((HK.out.trans HKB.out (fun _ _ h => h)).trans HK2W.out (fun _ _ h => h))⟩
 · rintro b wr hA ⟨k_4, hpos, hk⟩
   rw [List.take_length] at k_4 hpos
   replace h1 := hA.at_ h1 rfl
   replace h3 := hA.at_ h3 rfl
   have hszb := hA.size.trans hsz____
   have hdb := hA.defers.trans hd____
   have hkw : Keep (fun _ => False) w wr := HK2.out.trans hk (fun _ _ h => h)
   have hb0l := tabS_le P (P.subjects.map Subject.maps) (fun l hl => by obtain ⟨y, hy, rfl⟩ := List.mem_map.1 hl; exact HSM.out y hy)
   have hrl : (P.subjects.map Subject.maps).length ≤ 2097152 := by simp; omega
   obtain ⟨b0, hb0⟩ : ∃ n : Nat, n = tabS P (P.subjects.map Subject.maps) := ⟨_, rfl⟩
   rw [← hb0] at k_4 hb0l
   have hb0k : b0 ≤ 300000000000000 := by omega
   have q0 : wr.cell? ⟨z, 0, none⟩ = some (.int .i64 P.pos) := by rw [cell_of_row _ _ _ _ _ _ ((hk.block z (heap_lt FZ2.out) (fun h => h)).trans FZ2.out)]; rfl
   have q1 : wr.cell? ⟨z, 1, none⟩ = some (.string P.name) := by rw [cell_of_row _ _ _ _ _ _ ((hk.block z (heap_lt FZ2.out) (fun h => h)).trans FZ2.out)]; rfl
   have q2 : wr.cell? ⟨z, 2, none⟩ = some (.slice A_rams P.rams.length c_rams) := by rw [cell_of_row _ _ _ _ _ _ ((hk.block z (heap_lt FZ2.out) (fun h => h)).trans FZ2.out)]; rfl
   have q3 : wr.cell? ⟨z, 3, none⟩ = some (.slice A_devices P.devices.length c_devices) := by rw [cell_of_row _ _ _ _ _ _ ((hk.block z (heap_lt FZ2.out) (fun h => h)).trans FZ2.out)]; rfl
   have q4 : wr.cell? ⟨z, 4, none⟩ = some (.slice A_regions P.regions.length c_regions) := by rw [cell_of_row _ _ _ _ _ _ ((hk.block z (heap_lt FZ2.out) (fun h => h)).trans FZ2.out)]; rfl
   have q5 : wr.cell? ⟨z, 5, none⟩ = some (.slice A_subjects P.subjects.length c_subjects) := by rw [cell_of_row _ _ _ _ _ _ ((hk.block z (heap_lt FZ2.out) (fun h => h)).trans FZ2.out)]; rfl
   have q6 : wr.cell? ⟨z, 6, none⟩ = some (.slice A_channels P.channels.length c_channels) := by rw [cell_of_row _ _ _ _ _ _ ((hk.block z (heap_lt FZ2.out) (fun h => h)).trans FZ2.out)]; rfl
   have q7 : wr.cell? ⟨z, 7, none⟩ = some (.slice A_irqs P.irqs.length c_irqs) := by rw [cell_of_row _ _ _ _ _ _ ((hk.block z (heap_lt FZ2.out) (fun h => h)).trans FZ2.out)]; rfl
   have q8 : wr.cell? ⟨z, 8, none⟩ = some (.slice A_queues P.queues.length c_queues) := by rw [cell_of_row _ _ _ _ _ _ ((hk.block z (heap_lt FZ2.out) (fun h => h)).trans FZ2.out)]; rfl
   have q9 : wr.cell? ⟨z, 9, none⟩ = some (.slice A_plans P.plans.length c_plans) := by rw [cell_of_row _ _ _ _ _ _ ((hk.block z (heap_lt FZ2.out) (fun h => h)).trans FZ2.out)]; rfl
   have q10 : wr.cell? ⟨z, 10, none⟩ = some (.slice A_masters P.masters.length c_masters) := by rw [cell_of_row _ _ _ _ _ _ ((hk.block z (heap_lt FZ2.out) (fun h => h)).trans FZ2.out)]; rfl
   have q11 : wr.cell? ⟨z, 11, none⟩ = some (.slice A_starts P.starts.length c_starts) := by rw [cell_of_row _ _ _ _ _ _ ((hk.block z (heap_lt FZ2.out) (fun h => h)).trans FZ2.out)]; rfl
   have q12 : wr.cell? ⟨z, 12, none⟩ = some (.slice A_monitors P.monitors.length c_monitors) := by rw [cell_of_row _ _ _ _ _ _ ((hk.block z (heap_lt FZ2.out) (fun h => h)).trans FZ2.out)]; rfl
   have q13 : wr.cell? ⟨z, 13, none⟩ = some (.slice A_forbids P.forbids.length c_forbids) := by rw [cell_of_row _ _ _ _ _ _ ((hk.block z (heap_lt FZ2.out) (fun h => h)).trans FZ2.out)]; rfl
   have FZ3 := Lib.hid ((hk.block z (heap_lt FZ2.out) (fun h => h)).trans FZ2.out)
   have HB0 := Lib.hid hb0
   have HKW := Lib.hid hkw
   have HPOS := Lib.hid hpos
   have hszw := hkw.size
   have hszw2 := hk.size
   have HMW := Lib.hid (show ThingMap wr mb P from by obtain ⟨nn, h⟩ := HM.out; exact ⟨nn, h.keep hk (fun h => h)⟩)
   clear hb0 hk hkw hA k_s k_n k_i hpos hb0l hrl h4
   refine wp_seq (wp_seq (Code.wp_only (R := fun a10_ wa10_ => Agree (fun i => (decide (30 ≤ i) && decide (i ≤ 33))) b a10_ ∧ At a10_ 31 (.slice A_devices P.devices.length c_devices) ∧ At a10_ 32 (.int .i64 P.devices.length) ∧ At a10_ 33 (.int .i64 0) ∧ wa10_ = wr) ?_ ?_))
   · have hAr : Agree (fun i => (decide (30 ≤ i) && decide (i ≤ 33))) b b := Agree.refl _ _
     obtain ⟨T, d⟩ := b
     refine wp_region_lit ?_
     iterate 4 with_reducible refine st ?_
     refine wpList_nil ⟨rfl, ag, aq, aq, aq, rfl⟩
   rintro a10_ wa10_ ⟨hAa10_, k_s, k_n, k_i, rfl⟩
   replace h1 := hAa10_.at_ h1 rfl
   replace h3 := hAa10_.at_ h3 rfl
   replace k_4 := hAa10_.at_ k_4 rfl
   have hszb_ := hAa10_.size.trans hszb
   have hdb_ := hAa10_.defers.trans hdb
   refine wp_range P.devices.length (fun i => i == 2 || i == 4 || i == 9 || i == 10 || (decide (33 ≤ i) && decide (i ≤ 50))) (fun i => i == 2 || i == 4 || i == 9 || i == 10 || (decide (35 ≤ i) && decide (i ≤ 49))) (fun k a' w' => At a' 4 (.int .i64 (b0 + tabS P (devT (P.devices.take k)) : Nat)) ∧ (∀ l ∈ devT (P.devices.take k), 0 < tables P l) ∧ Keep (fun _ => False) wa10_ w') (by omega) k_i k_n (by decide) rfl
    (by intro j; simp; omega) (by omega) (by decide) (fun k a1 a2 w hA ⟨hI, hk⟩ => ⟨hA.at_ hI rfl, hk⟩) ⟨by simpa [tabS, devT] using k_4, by simp [devT], Keep.refl _ _⟩ ?_ ?_
   · rintro n b wr hlt hA k_j ⟨k_4, hpos, hk⟩
     obtain ⟨bl, off, rfl, hbl, hcs⟩ := HLD.out (by omega)
     obtain ⟨x, hx⟩ : ∃ x, P.devices[n]? = some x := ⟨_, List.getElem?_eq_getElem hlt⟩
     have hkw : Keep (fun _ => False) w wr := HKW.out.trans hk (fun _ _ h => h)
     obtain ⟨mv, hc, hmaps, _⟩ := (device_stays B) _ _ _ _ _ (hkw.below (B := B) (by omega) (fun _ _ h => h)) hbl (hcs n x hx)
     obtain ⟨A_m, c_m, rfl, hmaps⟩ := hmaps
     have HMS : Hid (SliceAt B 5 MapAt wr (.slice A_m x.maps.length c_m) x.maps) := Lib.hid ⟨A_m, c_m, rfl, hmaps⟩
     have q0 := hc.c0
     have r1 := hc 1 _ rfl
     have r2 := hc 2 _ rfl
     have r3 := hc 3 _ rfl
     have r4 := hc 4 _ rfl
     have k_sl := hA.at_ k_s rfl
     have k_3 := hA.at_ h3 rfl
     have hszb := hA.size.trans hszb_
     have hdb := hA.defers.trans hdb_
     have hszw := hkw.size
     have hszw2 := hk.size
     have hblr : bl < wr.heap.size := by omega
     have hkc : n ≤ c_devices := by omega
     have htk := take_at hx
     have HTK : Hid (devT (P.devices.take (n + 1)) = devT (P.devices.take n) ++ (if 0 < x.maps.length then [x.maps] else [])) := by rw [htk]; exact devT_snoc _ _
     have hmem : x ∈ P.devices := List.mem_of_getElem? hx
     have hml := HDM.out x hmem
     have hrs := tabS_le P (devT (P.devices.take n)) (fun l hl => by obtain ⟨y, hy, rfl⟩ := List.mem_map.1 (List.mem_filter.1 hl).1; exact HDM.out y (List.mem_of_mem_take hy))
     have hrl := devT_len (P.devices.take n)
     have hrl2 : (P.devices.take n).length ≤ 2097152 := by simp; omega
     have htl := tables_le P x.maps
     have HTAB : Hid (0 < x.maps.length → x.maps ∈ P.tabled) := Lib.hid fun h => List.mem_append_right _ (List.mem_filter.2 ⟨List.mem_map.2 ⟨x, hmem, rfl⟩, by simpa using h⟩)
     obtain ⟨dl, hdl⟩ : ∃ r, r = devT (P.devices.take n) := ⟨_, rfl⟩
     rw [← hdl] at HTK hrs k_4 hpos hrl
     obtain ⟨rs, hrse⟩ : ∃ r, r = b0 + tabS P dl := ⟨_, rfl⟩
     rw [← hrse] at k_4
     have hrs2 : rs ≤ 700000000000000 := by omega
     obtain ⟨tb, htbe⟩ : ∃ t, t = tables P x.maps := ⟨_, rfl⟩
     have htb : tb ≤ 200000000 := by omega
     have HTB := Lib.hid htbe
     have HRS := Lib.hid hrse
     have HKW2 := Lib.hid hkw
     have HK := Lib.hid hk
     have HPD := Lib.hid hpos
     have HMW2 := Lib.hid (show ThingMap wr mb P from by obtain ⟨nn, h⟩ := HMW.out; exact ⟨nn, h.keep hk (fun h => h)⟩)
     skip
     clear hx hcs hc hA hk hkw htk hdl hrse hrs hrl hrl2 hpos hmaps htl htbe hmem hml q1 q2 q3 q4 q5 q6 q7 q8 q9 q10 q11 q12 q13
     refine wp_seq (Code.wp_only (R := fun a11_ wa11_ => Agree (fun i => i == 9 || i == 35 || i == 36) b a11_ ∧ At a11_ 9 (.pointer (some ⟨wr.heap.size, 0, none⟩)) ∧ wa11_ = wr.alloc (.cells #[.int .i64 x.pos, .string x.name, .int .u64 x.at_, .int .u64 x.size, .slice A_m x.maps.length c_m] 45)) ?_ ?_)
     · have hAr : Agree (fun i => i == 9 || i == 35 || i == 36) b b := Agree.refl _ _
       obtain ⟨T, d⟩ := b
       refine wp_region_lit ?_
       iterate 4 with_reducible refine st ?_
       refine wpList_nil ⟨rfl, ag, aq, rfl⟩
     rintro a11_ wa11_ ⟨hAa11_, k_9, hwa11_⟩
     replace k_4 := hAa11_.at_ k_4 rfl
     replace k_3 := hAa11_.at_ k_3 rfl
     replace k_sl := hAa11_.at_ k_sl rfl
     replace k_j := hAa11_.at_ k_j rfl
     have hszb_ := hAa11_.size.trans hszb
     have hdb_ := hAa11_.defers.trans hdb
     obtain ⟨zx, hzx⟩ : ∃ z, z = wr.heap.size := ⟨_, rfl⟩
     rw [← hzx] at k_9
     have t4 : wa11_.cell? ⟨zx, 4, none⟩ = some (.slice A_m x.maps.length c_m) := by rw [cell_of_row _ _ _ _ _ _ (show wa11_.heap[zx]? = some (.cells #[.int .i64 x.pos, .string x.name, .int .u64 x.at_, .int .u64 x.size, .slice A_m x.maps.length c_m] 45 (0, 0)) by rw [hwa11_, hzx]; exact heap_alloc_new _ _)]; rfl
     have hkb : Keep (fun _ => False) wr wa11_ := by rw [hwa11_]; exact (Keep.refl _ _).alloc _
     have HKB := Lib.hid hkb
     have hcall := tables_any (HMS.out.below (flat_stays _ _ _) (hkb.below (B := B) (by omega) (fun _ _ h => h))) (Nat.le_trans (by omega) hkb.size) (mb := mb) (by obtain ⟨nn, h⟩ := HMW2.out; exact ⟨nn, h.keep hkb (fun h => h)⟩ : ThingMap wa11_ mb P) (Nat.lt_of_lt_of_le (by omega) hkb.size) HTH.out
     rw [← HTB.out] at hcall
     have HC := Lib.hid hcall
     clear hwa11_ hzx hkb hcall q0 r1 r2 r3 r4 k_sl k_j
     obtain ⟨me, hme⟩ : ∃ b, b = decide (x.maps.length = 0) := ⟨_, rfl⟩
     have w1me : ((x.maps.length : Int) == 0) = me := by rw [hme]; exact nat_eqb _ 0
     have HME := Lib.hid hme
     clear hme
     refine wp_seq (wp_seq (Code.wp_only (R := fun a12_ wa12_ => Agree (fun i => (decide (37 ≤ i) && decide (i ≤ 40))) a11_ a12_ ∧ At a12_ 40 (.bool me) ∧ wa12_ = wa11_) ?_ ?_))
     · have hAr : Agree (fun i => (decide (37 ≤ i) && decide (i ≤ 40))) a11_ a11_ := Agree.refl _ _
       obtain ⟨T, d⟩ := a11_
       refine wp_region_lit ?_
       iterate 4 with_reducible refine st ?_
       refine wpList_nil ⟨rfl, ag, aq, rfl⟩
     rintro a12_ wa12_ ⟨hAa12_, k_40, rfl⟩
     replace k_4 := hAa12_.at_ k_4 rfl
     replace k_3 := hAa12_.at_ k_3 rfl
     replace k_9 := hAa12_.at_ k_9 rfl
     have hszb__ := hAa12_.size.trans hszb_
     have hdb__ := hAa12_.defers.trans hdb_
     refine wp_cond_split (k_40.eval (by omega)) (fun hg => ?_) (fun hg => ?_)
     · have h0 : ¬ 0 < x.maps.length := by have h1 := HME.out; rw [hg] at h1; have := of_decide_eq_true h1.symm; omega
       refine wp_exit ?_
       repeat with_reducible apply then_exit
       simp only [InBody, if_true]
       have e1 := HTK.out
       rw [if_neg h0, List.append_nil] at e1
       rw [e1]
       exact ⟨(Agree.trans (Agree.trans (Agree.refl (fun i => i == 2 || i == 4 || i == 9 || i == 10 || (decide (35 ≤ i) && decide (i ≤ 49))) _) hAa11_ (by intro j; simp; omega)) hAa12_ (by intro j; simp; omega)), by rw [← HRS.out]; exact k_4, HPD.out, (HK.out.trans HKB.out (fun _ _ h => h))⟩
     · have hmp : 0 < x.maps.length := by have h1 := HME.out; rw [hg] at h1; have := of_decide_eq_false h1.symm; omega
       refine wp_skip ?_
       have e1 := HTK.out
       rw [if_pos hmp] at e1
       have HE1 := Lib.hid e1
       clear e1 hg w1me
       refine wp_seq (Code.wp_only (R := fun a13_ wa13_ => Agree (fun i => i == 10 || (decide (41 ≤ i) && decide (i ≤ 44))) a12_ a13_ ∧ At a13_ 10 (.int .i64 tb) ∧ Keep (fun _ => False) wa12_ wa13_) ?_ ?_)
       · have hAr : Agree (fun i => i == 10 || (decide (41 ≤ i) && decide (i ≤ 44))) a12_ a12_ := Agree.refl _ _
         obtain ⟨T, d⟩ := a12_
         refine wp_region_lit ?_
         iterate 3 with_reducible refine st ?_
         with_reducible refine wpList_step (fun K hK => ?_)
         go_simp
         refine HC.out.mono ?_
         rintro e w2 ⟨rfl, hk2⟩
         with_reducible refine hK _ _ ?_
         clear hK K
         with_reducible refine st ?_
         refine wpList_nil ⟨rfl, ?_, ?_, ?_⟩
         · exact ag
         · exact aq
         · exact hk2
       rintro a13_ wa13_ ⟨hAa13_, k_10, hk2⟩
       replace k_4 := hAa13_.at_ k_4 rfl
       replace k_3 := hAa13_.at_ k_3 rfl
       replace k_9 := hAa13_.at_ k_9 rfl
       have hszb___ := hAa13_.size.trans hszb__
       have hdb___ := hAa13_.defers.trans hdb__
       obtain ⟨ze, hze⟩ : ∃ b, b = decide (tb = 0) := ⟨_, rfl⟩
       have w1ze : ((tb : Int) == 0) = ze := by rw [hze]; exact nat_eqb _ 0
       have HZE := Lib.hid hze
       have HK2W := Lib.hid hk2
       clear hze hk2
       refine wp_seq (wp_seq (Code.wp_only (R := fun a14_ wa14_ => Agree (fun i => i == 45 || i == 46) a13_ a14_ ∧ At a14_ 46 (.bool ze) ∧ wa14_ = wa13_) ?_ ?_))
       · have hAr : Agree (fun i => i == 45 || i == 46) a13_ a13_ := Agree.refl _ _
         obtain ⟨T, d⟩ := a13_
         refine wp_region_lit ?_
         iterate 2 with_reducible refine st ?_
         refine wpList_nil ⟨rfl, ag, aq, rfl⟩
       rintro a14_ wa14_ ⟨hAa14_, k_46, rfl⟩
       replace k_4 := hAa14_.at_ k_4 rfl
       replace k_3 := hAa14_.at_ k_3 rfl
       replace k_9 := hAa14_.at_ k_9 rfl
       replace k_10 := hAa14_.at_ k_10 rfl
       have hszb____ := hAa14_.size.trans hszb___
       have hdb____ := hAa14_.defers.trans hdb___
       refine wp_cond_split (k_46.eval (by omega)) (fun hg => ?_) (fun hg => ?_)
       · have ht0 : tables P x.maps = 0 := by have h1 := HZE.out; rw [hg] at h1; have := of_decide_eq_true h1.symm; rw [← HTB.out]; exact this
         clear HC w1ze
         refine wp_seq (Code.wp_only (R := fun a15_ wa15_ => Agree (fun i => i == 2) a14_ a15_ ∧ At a15_ 2 (.int .i64 (0 : Nat)) ∧ wa15_ = wa14_) ?_ ?_)
         · have hAr : Agree (fun i => i == 2) a14_ a14_ := Agree.refl _ _
           obtain ⟨T, d⟩ := a14_
           refine wp_region_lit ?_
           with_reducible refine st ?_
           refine wpList_nil ⟨rfl, ?_, ?_, rfl⟩
           · exact ag
           · exact At.self
         rintro a15_ wa15_ ⟨hAa15_, k_2, rfl⟩
         have hszb_____ := hAa15_.size.trans hszb____
         have hdb_____ := hAa15_.defers.trans hdb____
         refine wp_ret ?_
         repeat (first | with_reducible apply inbody_ret | with_reducible apply then_ret)
         refine post_tmp (t := 2) rfl k_2 (by rw [hszb_____]; decide) hdb_____ ?_
         exact ⟨by rw [pages_zero (HTAB.out hmp) ht0], (HKW2.out.trans HKB.out (fun _ _ h => h)).trans HK2W.out (fun _ _ h => h)⟩
       · have htp : 0 < tables P x.maps := by have h1 := HZE.out; rw [hg] at h1; have := of_decide_eq_false h1.symm; rw [← HTB.out]; omega
         refine wp_skip ?_
         obtain ⟨nw, hnw⟩ : ∃ n : Nat, n = rs + tb := ⟨_, rfl⟩
         have enw : IntKind.i64.wrap ((rs : Int) + (tb : Int)) = (nw : Int) := by rw [hnw, i64_in _ (by omega)]; omega
         have Fnw : Hid ((rs : Int) + (tb : Int) = (nw : Int)) := Lib.hid (by omega)
         have HNW := Lib.hid hnw
         clear hnw HC w1ze hg
         refine Code.wp_only (R := fun a16_ wa16_ => Agree (fun i => i == 4 || (decide (47 ≤ i) && decide (i ≤ 49))) a14_ a16_ ∧ At a16_ 4 (.int .i64 nw) ∧ wa16_ = wa14_) ?_ ?_
         · have hAr : Agree (fun i => i == 4 || (decide (47 ≤ i) && decide (i ≤ 49))) a14_ a14_ := Agree.refl _ _
           obtain ⟨T, d⟩ := a14_
           refine wp_region_lit ?_
           iterate 4 with_reducible refine st ?_
           refine wpList_nil ⟨rfl, ?_, ?_, rfl⟩
           · exact ag
           · first | exact At.self | (rw [← Fnw.out]; exact At.self)
         rintro a16_ wa16_ ⟨hAa16_, k_4n, rfl⟩
         replace k_3 := hAa16_.at_ k_3 rfl
         replace k_9 := hAa16_.at_ k_9 rfl
         replace k_10 := hAa16_.at_ k_10 rfl
         replace k_46 := hAa16_.at_ k_46 rfl
         have hszb_____ := hAa16_.size.trans hszb____
         have hdb_____ := hAa16_.defers.trans hdb____
         have HV : b0 + tabS P (dl ++ [x.maps]) = nw := by rw [tabS_snoc, ← HTB.out, HNW.out, HRS.out]; omega
         refine ⟨(Agree.trans (Agree.trans (Agree.trans (Agree.trans (Agree.trans (Agree.refl (fun i => i == 2 || i == 4 || i == 9 || i == 10 || (decide (35 ≤ i) && decide (i ≤ 49))) _) hAa11_ (by intro j; simp; omega)) hAa12_ (by intro j; simp; omega)) hAa13_ (by intro j; simp; omega)) hAa14_ (by intro j; simp; omega)) hAa16_ (by intro j; simp; omega)), by rw [HE1.out, HV]; exact k_4n, fun l hl => ?_, ((HK.out.trans HKB.out (fun _ _ h => h)).trans HK2W.out (fun _ _ h => h))⟩
         rw [HE1.out] at hl
         rcases List.mem_append.1 hl with h | h
         · exact HPD.out l h
         · obtain rfl : l = x.maps := by simpa using h
           exact htp
   · rintro b wr hA ⟨k_4, hpos, hk⟩
     rw [List.take_length] at k_4 hpos
     replace h1 := hA.at_ h1 rfl
     have hszb := hA.size.trans hszb_
     have hdb := hA.defers.trans hdb_
     have hkw : Keep (fun _ => False) w wr := HKW.out.trans hk (fun _ _ h => h)
     have hb1l := tabS_le P (devT P.devices) (fun l hl => by obtain ⟨y, hy, rfl⟩ := List.mem_map.1 (List.mem_filter.1 hl).1; exact HDM.out y hy)
     have hrl := devT_len P.devices
     obtain ⟨b1, hb1⟩ : ∃ n : Nat, n = b0 + tabS P (devT P.devices) := ⟨_, rfl⟩
     rw [← hb1] at k_4
     have hb1k : b1 ≤ 700000000000000 := by omega
     have hpg : pages flatL P = b1 + (aheadOf flatL P + 4095) / 4096 := by
      rw [pages_sum (fun l hl => by
       rcases List.mem_append.1 hl with h | h
       · obtain ⟨y, hy, rfl⟩ := List.mem_map.1 h; exact HPOS.out y hy
       · exact hpos l h), hb1, HB0.out]
      congr 1
      unfold Policy.tabled tabS devT
      simp
     replace q0 := (hk.cell (p := ⟨z, 0, none⟩) (heap_lt FZ3.out) (fun h => h)).trans q0
     replace q1 := (hk.cell (p := ⟨z, 1, none⟩) (heap_lt FZ3.out) (fun h => h)).trans q1
     replace q2 := (hk.cell (p := ⟨z, 2, none⟩) (heap_lt FZ3.out) (fun h => h)).trans q2
     replace q3 := (hk.cell (p := ⟨z, 3, none⟩) (heap_lt FZ3.out) (fun h => h)).trans q3
     replace q4 := (hk.cell (p := ⟨z, 4, none⟩) (heap_lt FZ3.out) (fun h => h)).trans q4
     replace q5 := (hk.cell (p := ⟨z, 5, none⟩) (heap_lt FZ3.out) (fun h => h)).trans q5
     replace q6 := (hk.cell (p := ⟨z, 6, none⟩) (heap_lt FZ3.out) (fun h => h)).trans q6
     replace q7 := (hk.cell (p := ⟨z, 7, none⟩) (heap_lt FZ3.out) (fun h => h)).trans q7
     replace q8 := (hk.cell (p := ⟨z, 8, none⟩) (heap_lt FZ3.out) (fun h => h)).trans q8
     replace q9 := (hk.cell (p := ⟨z, 9, none⟩) (heap_lt FZ3.out) (fun h => h)).trans q9
     replace q10 := (hk.cell (p := ⟨z, 10, none⟩) (heap_lt FZ3.out) (fun h => h)).trans q10
     replace q11 := (hk.cell (p := ⟨z, 11, none⟩) (heap_lt FZ3.out) (fun h => h)).trans q11
     replace q12 := (hk.cell (p := ⟨z, 12, none⟩) (heap_lt FZ3.out) (fun h => h)).trans q12
     replace q13 := (hk.cell (p := ⟨z, 13, none⟩) (heap_lt FZ3.out) (fun h => h)).trans q13
     have HAH := Lib.hid (HAHEAD.out wr hkw)
     have HKW3 := Lib.hid hkw
     have HPG := Lib.hid hpg
     clear hb1 hk hkw hA k_s k_n k_i hpos hb1l hrl hpg h3 HAHEAD
     obtain ⟨ah, hah⟩ : ∃ n : Nat, n = aheadOf flatL P := ⟨_, rfl⟩
     rw [← hah] at HAH HPG hal
     obtain ⟨t54, ht54⟩ : ∃ n : Nat, n = ah + 4096 := ⟨_, rfl⟩
     have et54 : IntKind.i64.wrap ((ah : Int) + (4096 : Int)) = (t54 : Int) := by rw [ht54, i64_in _ (by omega)]; omega
     have Ft54 : Hid ((ah : Int) + (4096 : Int) = (t54 : Int)) := Lib.hid (by omega)
     obtain ⟨t55, ht55⟩ : ∃ n : Nat, n = ah + 4095 := ⟨_, rfl⟩
     have et55 : IntKind.i64.wrap ((t54 : Int) - 1) = (t55 : Int) := by rw [ht55, i64_in _ (by omega)]; omega
     obtain ⟨t56, ht56⟩ : ∃ n : Nat, n = t55 / 4096 := ⟨_, rfl⟩
     have et56 : (t55 : Int).tdiv 4096 = (t56 : Int) := by rw [ht56, Int.tdiv_eq_ediv_of_nonneg (by omega)]; omega
     have et56b : (t55 : Int) / 4096 = (t56 : Int) := by omega
     have ew56 : IntKind.i64.wrap (t56 : Int) = (t56 : Int) := i64_in _ (by omega)
     obtain ⟨t57, ht57⟩ : ∃ n : Nat, n = b1 + t56 := ⟨_, rfl⟩
     have et57 : IntKind.i64.wrap ((b1 : Int) + (t56 : Int)) = (t57 : Int) := by rw [ht57, i64_in _ (by omega)]; omega
     have Ft57 : Hid ((b1 : Int) + (t56 : Int) = (t57 : Int)) := Lib.hid (by omega)
     have HV : Hid (t57 = pages flatL P) := Lib.hid (by rw [HPG.out, ht57, ht56, ht55])
     clear hah ht54 ht55 ht56 ht57 HPG
     refine wp_seq (Code.wp_only (R := fun a17_ wa17_ => Agree (fun i => i == 2 || (decide (51 ≤ i) && decide (i ≤ 57))) b a17_ ∧ At a17_ 2 (.int .i64 t57) ∧ Keep (fun _ => False) wr wa17_) ?_ ?_)
     · have hAr : Agree (fun i => i == 2 || (decide (51 ≤ i) && decide (i ≤ 57))) b b := Agree.refl _ _
       obtain ⟨T, d⟩ := b
       refine wp_region_lit ?_
       iterate 2 with_reducible refine st ?_
       with_reducible refine wpList_step (fun K hK => ?_)
       go_simp
       refine HAH.out.mono ?_
       rintro e w2 ⟨rfl, hk2⟩
       with_reducible refine hK _ _ ?_
       clear hK K
       iterate 5 with_reducible refine st ?_
       refine wpList_nil ⟨rfl, ?_, ?_, ?_⟩
       · exact ag
       · first | exact At.self | (rw [← Ft57.out]; exact At.self)
       · exact hk2
     rintro a17_ wa17_ ⟨hAa17_, k_2, hk2⟩
     replace h1 := hAa17_.at_ h1 rfl
     replace k_4 := hAa17_.at_ k_4 rfl
     have hszb_ := hAa17_.size.trans hszb
     have hdb_ := hAa17_.defers.trans hdb
     refine wp_ret ?_
     repeat (first | with_reducible apply inbody_ret | with_reducible apply then_ret)
     refine post_tmp (t := 2) rfl k_2 (by rw [hszb_]; decide) hdb_ ?_
     exact ⟨by rw [HV.out], HKW3.out.trans hk2 (fun _ _ h => h)⟩
theorem tablesP_any {B : Nat} {w : World} {v : PolV} {P : Policy} (hp : PolAt B w v P) (hB : B ≤ w.heap.size) {A : Option Addr} {c : Nat} {l : List Ck.Map} (hs : SliceAt B 5 MapAt w (.slice A l.length c) l) :
 Calls Tryz.prog 34 #[.slice A l.length c, .agg (v.cells P).toArray] w fun e w' => e = .returned (.int .i64 (tables P l)) ∧ Keep (fun _ => False) w w' := by
 have hth := fun s => thing_lt hp s
 have HP := Lib.hid hp
 obtain ⟨A_rams, c_rams, hv_rams, hc_rams, hn_rams, hl_rams⟩ := hp.rams
 obtain ⟨A_devices, c_devices, hv_devices, hc_devices, hn_devices, hl_devices⟩ := hp.devices
 obtain ⟨A_regions, c_regions, hv_regions, hc_regions, hn_regions, hl_regions⟩ := hp.regions
 obtain ⟨A_subjects, c_subjects, hv_subjects, hc_subjects, hn_subjects, hl_subjects⟩ := hp.subjects
 obtain ⟨A_channels, c_channels, hv_channels, hc_channels, hn_channels, hl_channels⟩ := hp.channels
 obtain ⟨A_irqs, c_irqs, hv_irqs, hc_irqs, hn_irqs, hl_irqs⟩ := hp.irqs
 obtain ⟨A_queues, c_queues, hv_queues, hc_queues, hn_queues, hl_queues⟩ := hp.queues
 obtain ⟨A_plans, c_plans, hv_plans, hc_plans, hn_plans, hl_plans⟩ := hp.plans
 obtain ⟨A_masters, c_masters, hv_masters, hc_masters, hn_masters, hl_masters⟩ := hp.masters
 obtain ⟨A_starts, c_starts, hv_starts, hc_starts, hn_starts, hl_starts⟩ := hp.starts
 obtain ⟨A_monitors, c_monitors, hv_monitors, hc_monitors, hn_monitors, hl_monitors⟩ := hp.monitors
 obtain ⟨A_forbids, c_forbids, hv_forbids, hc_forbids, hn_forbids, hl_forbids⟩ := hp.forbids
 have e0 : (v.cells P).toArray = #[.int .i64 P.pos, .string P.name, .slice A_rams P.rams.length c_rams, .slice A_devices P.devices.length c_devices, .slice A_regions P.regions.length c_regions, .slice A_subjects P.subjects.length c_subjects, .slice A_channels P.channels.length c_channels, .slice A_irqs P.irqs.length c_irqs, .slice A_queues P.queues.length c_queues, .slice A_plans P.plans.length c_plans, .slice A_masters P.masters.length c_masters, .slice A_starts P.starts.length c_starts, .slice A_monitors P.monitors.length c_monitors, .slice A_forbids P.forbids.length c_forbids] := by
  rw [← hv_rams, ← hv_devices, ← hv_regions, ← hv_subjects, ← hv_channels, ← hv_irqs, ← hv_queues, ← hv_plans, ← hv_masters, ← hv_starts, ← hv_monitors, ← hv_forbids]
  rfl
 rw [e0]
 have HTH := Lib.hid hth
 have HS := Lib.hid hs
 have HTHINGS : Hid (∀ w1, Keep (fun _ => False) w w1 → Calls Tryz.prog 58 #[.agg #[.int .i64 P.pos, .string P.name, .slice A_rams P.rams.length c_rams, .slice A_devices P.devices.length c_devices, .slice A_regions P.regions.length c_regions, .slice A_subjects P.subjects.length c_subjects, .slice A_channels P.channels.length c_channels, .slice A_irqs P.irqs.length c_irqs, .slice A_queues P.queues.length c_queues, .slice A_plans P.plans.length c_plans, .slice A_masters P.masters.length c_masters, .slice A_starts P.starts.length c_starts, .slice A_monitors P.monitors.length c_monitors, .slice A_forbids P.forbids.length c_forbids]] w1 fun e w' => ∃ mb, e = .returned (.map (some mb)) ∧ w1.heap.size ≤ mb ∧ mb < w'.heap.size ∧ ThingMap w' mb P ∧ Keep (fun _ => False) w1 w') := Lib.hid fun w1 hk => by rw [← e0]; exact things_any (HP.out.below (hk.below (B := B) hB (fun _ _ h => h))) (Nat.le_trans hB hk.size)
 clear e0 hp hth hs hv_rams hl_rams hc_rams hn_rams hv_devices hl_devices hc_devices hn_devices hv_regions hl_regions hc_regions hn_regions hv_subjects hl_subjects hc_subjects hn_subjects hv_channels hl_channels hc_channels hn_channels hv_irqs hl_irqs hc_irqs hn_irqs hv_queues hl_queues hc_queues hn_queues hv_plans hl_plans hc_plans hn_plans hv_masters hl_masters hc_masters hn_masters hv_starts hl_starts hc_starts hn_starts hv_monitors hl_monitors hc_monitors hn_monitors hv_forbids hl_forbids hc_forbids hn_forbids
 refine calls_abs Tryz.func34 Tryz.ntmps34 rfl (by show 2 ≤ 9; decide) fun a hsz hd h => ?_
 have h0 : At a 0 (.slice A l.length c) := h 0 _ rfl
 have h1 : At a 1 (.agg #[.int .i64 P.pos, .string P.name, .slice A_rams P.rams.length c_rams, .slice A_devices P.devices.length c_devices, .slice A_regions P.regions.length c_regions, .slice A_subjects P.subjects.length c_subjects, .slice A_channels P.channels.length c_channels, .slice A_irqs P.irqs.length c_irqs, .slice A_queues P.queues.length c_queues, .slice A_plans P.plans.length c_plans, .slice A_masters P.masters.length c_masters, .slice A_starts P.starts.length c_starts, .slice A_monitors P.monitors.length c_monitors, .slice A_forbids P.forbids.length c_forbids]) := h 1 _ rfl
 clear h
 conv => arg 2; whnf
 refine wp_seq (Code.wp_only (R := fun a1_ wa1_ => Agree (fun i => i == 3 || i == 4) a a1_ ∧ At a1_ 3 (.pointer (some ⟨w.heap.size, 0, none⟩)) ∧ wa1_ = w.alloc (.cells #[.int .i64 P.pos, .string P.name, .slice A_rams P.rams.length c_rams, .slice A_devices P.devices.length c_devices, .slice A_regions P.regions.length c_regions, .slice A_subjects P.subjects.length c_subjects, .slice A_channels P.channels.length c_channels, .slice A_irqs P.irqs.length c_irqs, .slice A_queues P.queues.length c_queues, .slice A_plans P.plans.length c_plans, .slice A_masters P.masters.length c_masters, .slice A_starts P.starts.length c_starts, .slice A_monitors P.monitors.length c_monitors, .slice A_forbids P.forbids.length c_forbids] 34)) ?_ ?_)
 · have hAr : Agree (fun i => i == 3 || i == 4) a a := Agree.refl _ _
   obtain ⟨T, d⟩ := a
   refine wp_region_lit ?_
   iterate 2 with_reducible refine st ?_
   refine wpList_nil ⟨rfl, ag, aq, rfl⟩
 rintro a1_ wa1_ ⟨hAa1_, h3, hwa1_⟩
 replace h0 := hAa1_.at_ h0 rfl
 replace h1 := hAa1_.at_ h1 rfl
 have hsz_ := hAa1_.size.trans hsz
 have hd_ := hAa1_.defers.trans hd
 obtain ⟨z, hz⟩ : ∃ z, z = w.heap.size := ⟨_, rfl⟩
 rw [← hz] at h3
 have fz : wa1_.heap[z]? = some (.cells #[.int .i64 P.pos, .string P.name, .slice A_rams P.rams.length c_rams, .slice A_devices P.devices.length c_devices, .slice A_regions P.regions.length c_regions, .slice A_subjects P.subjects.length c_subjects, .slice A_channels P.channels.length c_channels, .slice A_irqs P.irqs.length c_irqs, .slice A_queues P.queues.length c_queues, .slice A_plans P.plans.length c_plans, .slice A_masters P.masters.length c_masters, .slice A_starts P.starts.length c_starts, .slice A_monitors P.monitors.length c_monitors, .slice A_forbids P.forbids.length c_forbids] 34 (0, 0)) := by rw [hwa1_, hz]; exact heap_alloc_new _ _
 have hk1 : Keep (fun _ => False) w wa1_ := by rw [hwa1_]; exact (Keep.refl _ _).alloc _
 have HK1 := Lib.hid hk1
 have q0 : wa1_.cell? ⟨z, 0, none⟩ = some (.int .i64 P.pos) := by rw [cell_of_row _ _ _ _ _ _ fz]; rfl
 have q1 : wa1_.cell? ⟨z, 1, none⟩ = some (.string P.name) := by rw [cell_of_row _ _ _ _ _ _ fz]; rfl
 have q2 : wa1_.cell? ⟨z, 2, none⟩ = some (.slice A_rams P.rams.length c_rams) := by rw [cell_of_row _ _ _ _ _ _ fz]; rfl
 have q3 : wa1_.cell? ⟨z, 3, none⟩ = some (.slice A_devices P.devices.length c_devices) := by rw [cell_of_row _ _ _ _ _ _ fz]; rfl
 have q4 : wa1_.cell? ⟨z, 4, none⟩ = some (.slice A_regions P.regions.length c_regions) := by rw [cell_of_row _ _ _ _ _ _ fz]; rfl
 have q5 : wa1_.cell? ⟨z, 5, none⟩ = some (.slice A_subjects P.subjects.length c_subjects) := by rw [cell_of_row _ _ _ _ _ _ fz]; rfl
 have q6 : wa1_.cell? ⟨z, 6, none⟩ = some (.slice A_channels P.channels.length c_channels) := by rw [cell_of_row _ _ _ _ _ _ fz]; rfl
 have q7 : wa1_.cell? ⟨z, 7, none⟩ = some (.slice A_irqs P.irqs.length c_irqs) := by rw [cell_of_row _ _ _ _ _ _ fz]; rfl
 have q8 : wa1_.cell? ⟨z, 8, none⟩ = some (.slice A_queues P.queues.length c_queues) := by rw [cell_of_row _ _ _ _ _ _ fz]; rfl
 have q9 : wa1_.cell? ⟨z, 9, none⟩ = some (.slice A_plans P.plans.length c_plans) := by rw [cell_of_row _ _ _ _ _ _ fz]; rfl
 have q10 : wa1_.cell? ⟨z, 10, none⟩ = some (.slice A_masters P.masters.length c_masters) := by rw [cell_of_row _ _ _ _ _ _ fz]; rfl
 have q11 : wa1_.cell? ⟨z, 11, none⟩ = some (.slice A_starts P.starts.length c_starts) := by rw [cell_of_row _ _ _ _ _ _ fz]; rfl
 have q12 : wa1_.cell? ⟨z, 12, none⟩ = some (.slice A_monitors P.monitors.length c_monitors) := by rw [cell_of_row _ _ _ _ _ _ fz]; rfl
 have q13 : wa1_.cell? ⟨z, 13, none⟩ = some (.slice A_forbids P.forbids.length c_forbids) := by rw [cell_of_row _ _ _ _ _ _ fz]; rfl
 have HT1 := Lib.hid (HTHINGS.out wa1_ hk1)
 clear hwa1_ hz fz h1 hk1 HTHINGS
 refine wp_seq (Code.wp_only (R := fun a2_ wa2_ => Agree (fun i => (decide (4 ≤ i) && decide (i ≤ 8))) a1_ a2_ ∧ At a2_ 4 (.int .i64 (tables P l : Nat)) ∧ Keep (fun _ => False) w wa2_) ?_ ?_)
 · have hAr : Agree (fun i => (decide (4 ≤ i) && decide (i ≤ 8))) a1_ a1_ := Agree.refl _ _
   obtain ⟨T, d⟩ := a1_
   refine wp_region_lit ?_
   iterate 2 with_reducible refine st ?_
   with_reducible refine wpList_step (fun K hK => ?_)
   go_simp
   refine HT1.out.mono ?_
   rintro e w2 ⟨mb, rfl, hm1, hm2, hm3, hk2⟩
   with_reducible refine hK _ _ ?_
   clear hK K
   have hk02 : Keep (fun _ => False) w w2 := HK1.out.trans hk2 (fun _ _ h => h)
   have hcall := tables_any (HS.out.below (flat_stays _ _ _) (hk02.below (B := B) hB (fun _ _ h => h))) (Nat.le_trans hB hk02.size) hm3 hm2 HTH.out
   have HC := Lib.hid hcall
   have HK02 := Lib.hid hk02
   clear hm1 hm2 hm3 hk2 hcall hk02
   with_reducible refine wpList_step (fun K hK => ?_)
   go_simp
   refine HC.out.mono ?_
   rintro e w3 ⟨rfl, hk3⟩
   with_reducible refine hK _ _ ?_
   clear hK K
   have hkf : Keep (fun _ => False) w w3 := HK02.out.trans hk3 (fun _ _ h => h)
   clear hk3
   with_reducible refine st ?_
   refine wpList_nil ⟨rfl, ?_, ?_, ?_⟩
   · exact ag
   · exact aq
   · exact hkf
 rintro a2_ wa2_ ⟨hAa2_, k_4, hkf⟩
 replace h0 := hAa2_.at_ h0 rfl
 replace h3 := hAa2_.at_ h3 rfl
 have hsz__ := hAa2_.size.trans hsz_
 have hd__ := hAa2_.defers.trans hd_
 refine wp_ret ?_
 repeat (first | with_reducible apply inbody_ret | with_reducible apply then_ret)
 refine post_tmp (t := 4) rfl k_4 (by rw [hsz__]; decide) hd__ ?_
 exact ⟨rfl, hkf⟩
theorem image_any {B : Nat} {w : World} {pb : Nat} {v : PolV} {P : Policy} (h : LookAt B w pb v P why8 []) : Calls Tryz.prog 56 #[.pointer (some ⟨pb, 0, none⟩)] w fun e w' => e = .returned (.tuple #[]) ∧ LookAt B w' pb v P why8 (imageW flatL P) ∧ Keep (fun k => k = pb) w w' := by
 have hp := h.pol
 have HL := Lib.hid h
 have hBp := h.base
 have hlt := h.lt
 have HC : Hid (∀ w1, Keep (fun _ => False) w w1 → ∀ j x, (v.cells P)[j]? = some x → w1.cell? ⟨pb, j, none⟩ = some x) := Lib.hid fun w1 hk j x hj => (HL.out.new hk).cell hj
 obtain ⟨A_rams, c_rams, hv_rams, hc_rams, hn_rams, hl_rams⟩ := hp.rams
 obtain ⟨A_devices, c_devices, hv_devices, hc_devices, hn_devices, hl_devices⟩ := hp.devices
 obtain ⟨A_regions, c_regions, hv_regions, hc_regions, hn_regions, hl_regions⟩ := hp.regions
 obtain ⟨A_subjects, c_subjects, hv_subjects, hc_subjects, hn_subjects, hl_subjects⟩ := hp.subjects
 obtain ⟨A_channels, c_channels, hv_channels, hc_channels, hn_channels, hl_channels⟩ := hp.channels
 obtain ⟨A_irqs, c_irqs, hv_irqs, hc_irqs, hn_irqs, hl_irqs⟩ := hp.irqs
 obtain ⟨A_queues, c_queues, hv_queues, hc_queues, hn_queues, hl_queues⟩ := hp.queues
 obtain ⟨A_plans, c_plans, hv_plans, hc_plans, hn_plans, hl_plans⟩ := hp.plans
 obtain ⟨A_masters, c_masters, hv_masters, hc_masters, hn_masters, hl_masters⟩ := hp.masters
 obtain ⟨A_starts, c_starts, hv_starts, hc_starts, hn_starts, hl_starts⟩ := hp.starts
 obtain ⟨A_monitors, c_monitors, hv_monitors, hc_monitors, hn_monitors, hl_monitors⟩ := hp.monitors
 obtain ⟨A_forbids, c_forbids, hv_forbids, hc_forbids, hn_forbids, hl_forbids⟩ := hp.forbids
 have e1 : v.cells P = [.int .i64 P.pos, .string P.name, .slice A_rams P.rams.length c_rams, .slice A_devices P.devices.length c_devices, .slice A_regions P.regions.length c_regions, .slice A_subjects P.subjects.length c_subjects, .slice A_channels P.channels.length c_channels, .slice A_irqs P.irqs.length c_irqs, .slice A_queues P.queues.length c_queues, .slice A_plans P.plans.length c_plans, .slice A_masters P.masters.length c_masters, .slice A_starts P.starts.length c_starts, .slice A_monitors P.monitors.length c_monitors, .slice A_forbids P.forbids.length c_forbids] := by
  rw [← hv_rams, ← hv_devices, ← hv_regions, ← hv_subjects, ← hv_channels, ← hv_irqs, ← hv_queues, ← hv_plans, ← hv_masters, ← hv_starts, ← hv_monitors, ← hv_forbids]
  rfl
 rw [e1] at HC
 have e0 : (v.cells P).toArray = #[.int .i64 P.pos, .string P.name, .slice A_rams P.rams.length c_rams, .slice A_devices P.devices.length c_devices, .slice A_regions P.regions.length c_regions, .slice A_subjects P.subjects.length c_subjects, .slice A_channels P.channels.length c_channels, .slice A_irqs P.irqs.length c_irqs, .slice A_queues P.queues.length c_queues, .slice A_plans P.plans.length c_plans, .slice A_masters P.masters.length c_masters, .slice A_starts P.starts.length c_starts, .slice A_monitors P.monitors.length c_monitors, .slice A_forbids P.forbids.length c_forbids] := by rw [e1]
 have HPG : Hid (∀ w1, Keep (fun _ => False) w w1 → Calls Tryz.prog 22 #[.agg #[.int .i64 P.pos, .string P.name, .slice A_rams P.rams.length c_rams, .slice A_devices P.devices.length c_devices, .slice A_regions P.regions.length c_regions, .slice A_subjects P.subjects.length c_subjects, .slice A_channels P.channels.length c_channels, .slice A_irqs P.irqs.length c_irqs, .slice A_queues P.queues.length c_queues, .slice A_plans P.plans.length c_plans, .slice A_masters P.masters.length c_masters, .slice A_starts P.starts.length c_starts, .slice A_monitors P.monitors.length c_monitors, .slice A_forbids P.forbids.length c_forbids]] w1 fun e w' => e = .returned (.int .i64 (pages flatL P)) ∧ Keep (fun _ => False) w1 w') := Lib.hid fun w1 hk => by rw [← e0]; exact pages_any (HL.out.pol.below (hk.below (B := B) (by omega) (fun _ _ h => h))) (Nat.le_trans (by omega) hk.size)
 clear e0 e1 hp h hv_rams hl_rams hc_rams hn_rams hv_devices hl_devices hc_devices hn_devices hv_regions hl_regions hc_regions hn_regions hv_subjects hl_subjects hc_subjects hn_subjects hv_channels hl_channels hc_channels hn_channels hv_irqs hl_irqs hc_irqs hn_irqs hv_queues hl_queues hc_queues hn_queues hv_plans hl_plans hc_plans hn_plans hv_masters hl_masters hc_masters hn_masters hv_starts hl_starts hc_starts hn_starts hv_monitors hl_monitors hc_monitors hn_monitors hv_forbids hl_forbids hc_forbids hn_forbids
 obtain ⟨pg, hpg⟩ : ∃ n, n = pages flatL P := ⟨_, rfl⟩
 rw [← hpg] at HPG
 have HS : Hid (imageW flatL P = say (decide (pg ≤ 1024)) P.pos 0) := Lib.hid (by rw [hpg]; rfl)
 clear hpg
 have w1pg : decide ((pg : Int) ≤ 1024) = decide (pg ≤ 1024) := decide_eq_decide.2 (by omega)
 obtain ⟨bl, hbl⟩ : ∃ b, b = decide (pg ≤ 1024) := ⟨_, rfl⟩
 rw [← hbl] at w1pg HS
 clear hbl
 refine calls_abs Tryz.func56 Tryz.ntmps56 rfl (by show 1 ≤ 15; decide) fun a hsz hd hh => ?_
 have h0 : At a 0 (.pointer (some ⟨pb, 0, none⟩)) := hh 0 _ rfl
 clear hh
 conv => arg 2; whnf
 refine wp_region_calm 12 (fun i => ([.pointer (some ⟨pb, 0, none⟩), .pointer (some ⟨pb, 0, none⟩), .pointer (some ⟨pb, 0, none⟩), .pointer (some ⟨pb, 0, none⟩), .agg #[.int .i64 P.pos, .string P.name, .slice A_rams P.rams.length c_rams, .slice A_devices P.devices.length c_devices, .slice A_regions P.regions.length c_regions, .slice A_subjects P.subjects.length c_subjects, .slice A_channels P.channels.length c_channels, .slice A_irqs P.irqs.length c_irqs, .slice A_queues P.queues.length c_queues, .slice A_plans P.plans.length c_plans, .slice A_masters P.masters.length c_masters, .slice A_starts P.starts.length c_starts, .slice A_monitors P.monitors.length c_monitors, .slice A_forbids P.forbids.length c_forbids], .int .i64 (pg : Nat), .bool bl, .pointer (some ⟨pb, 0, none⟩), .pointer (some ⟨pb, 0, none⟩), .pointer (some ⟨pb, 0, none⟩), .pointer (some ⟨pb, 0, none⟩), .int .i64 P.pos] : List Value).getD i undef) (fun w' => Keep (fun _ => False) w.drew w') (by kernel_rfl) (by kernel_rfl) (Keep.refl _ _) ?_ ?_
 · intro i o hi ho a' w' K hW hb hd2 hK
   have hszq : a'.tmps.size = 15 := hb.size.trans hsz
   have z_0 := hb.at_ h0 rfl
   have hkq : Keep (fun _ => False) w w' := ((Keep.refl (fun _ => False) w).drew).trans hW (fun _ _ h => h)
   match i, hi, ho, hd2, hK with
   | 0, _, ho, hd2, hK =>
    obtain rfl : _ = o := Option.some.inj ho
    obtain ⟨T, d⟩ := a'
    go_simp
    exact hK _ hW
   | 1, _, ho, hd2, hK =>
    obtain rfl : _ = o := Option.some.inj ho
    obtain ⟨T, d⟩ := a'
    go_simp
    exact hK _ hW
   | 2, _, ho, hd2, hK =>
    obtain rfl : _ = o := Option.some.inj ho
    have d_1 : At a' 3 (.pointer (some ⟨pb, 0, none⟩)) := hd2 1 (by kernel_rfl) (by decide) 3 rfl
    obtain ⟨T, d⟩ := a'
    go_simp
    exact hK _ hW
   | 3, _, ho, hd2, hK =>
    obtain rfl : _ = o := Option.some.inj ho
    have d_2 : At a' 4 (.pointer (some ⟨pb, 0, none⟩)) := hd2 2 (by kernel_rfl) (by decide) 4 rfl
    obtain ⟨T, d⟩ := a'
    go_simp
    exact hK _ hW
   | 4, _, ho, hd2, hK =>
    obtain rfl : _ = o := Option.some.inj ho
    have d_3 : At a' 5 (.pointer (some ⟨pb, 0, none⟩)) := hd2 3 (by kernel_rfl) (by decide) 5 rfl
    have q0 := HC.out w' hkq 0 _ rfl
    have q1 := HC.out w' hkq 1 _ rfl
    have q2 := HC.out w' hkq 2 _ rfl
    have q3 := HC.out w' hkq 3 _ rfl
    have q4 := HC.out w' hkq 4 _ rfl
    have q5 := HC.out w' hkq 5 _ rfl
    have q6 := HC.out w' hkq 6 _ rfl
    have q7 := HC.out w' hkq 7 _ rfl
    have q8 := HC.out w' hkq 8 _ rfl
    have q9 := HC.out w' hkq 9 _ rfl
    have q10 := HC.out w' hkq 10 _ rfl
    have q11 := HC.out w' hkq 11 _ rfl
    have q12 := HC.out w' hkq 12 _ rfl
    have q13 := HC.out w' hkq 13 _ rfl
    obtain ⟨T, d⟩ := a'
    go_simp
    exact hK _ hW
   | 5, _, ho, hd2, hK =>
    obtain rfl : _ = o := Option.some.inj ho
    have d_4 : At a' 6 (.agg #[.int .i64 P.pos, .string P.name, .slice A_rams P.rams.length c_rams, .slice A_devices P.devices.length c_devices, .slice A_regions P.regions.length c_regions, .slice A_subjects P.subjects.length c_subjects, .slice A_channels P.channels.length c_channels, .slice A_irqs P.irqs.length c_irqs, .slice A_queues P.queues.length c_queues, .slice A_plans P.plans.length c_plans, .slice A_masters P.masters.length c_masters, .slice A_starts P.starts.length c_starts, .slice A_monitors P.monitors.length c_monitors, .slice A_forbids P.forbids.length c_forbids]) := hd2 4 (by kernel_rfl) (by decide) 6 rfl
    obtain ⟨T, d⟩ := a'
    go_simp
    refine (HPG.out w' hkq).mono ?_
    rintro e w2 ⟨rfl, hk2⟩
    exact hK _ (hW.trans hk2 (fun _ _ h => h))
   | 6, _, ho, hd2, hK =>
    obtain rfl : _ = o := Option.some.inj ho
    have d_5 : At a' 7 (.int .i64 (pg : Nat)) := hd2 5 (by kernel_rfl) (by decide) 7 rfl
    obtain ⟨T, d⟩ := a'
    go_simp
    exact hK _ hW
   | 7, _, ho, hd2, hK =>
    obtain rfl : _ = o := Option.some.inj ho
    obtain ⟨T, d⟩ := a'
    go_simp
    exact hK _ hW
   | 8, _, ho, hd2, hK =>
    obtain rfl : _ = o := Option.some.inj ho
    have d_7 : At a' 9 (.pointer (some ⟨pb, 0, none⟩)) := hd2 7 (by kernel_rfl) (by decide) 9 rfl
    obtain ⟨T, d⟩ := a'
    go_simp
    exact hK _ hW
   | 9, _, ho, hd2, hK =>
    obtain rfl : _ = o := Option.some.inj ho
    have d_8 : At a' 10 (.pointer (some ⟨pb, 0, none⟩)) := hd2 8 (by kernel_rfl) (by decide) 10 rfl
    obtain ⟨T, d⟩ := a'
    go_simp
    exact hK _ hW
   | 10, _, ho, hd2, hK =>
    obtain rfl : _ = o := Option.some.inj ho
    have d_9 : At a' 11 (.pointer (some ⟨pb, 0, none⟩)) := hd2 9 (by kernel_rfl) (by decide) 11 rfl
    obtain ⟨T, d⟩ := a'
    go_simp
    exact hK _ hW
   | 11, _, ho, hd2, hK =>
    obtain rfl : _ = o := Option.some.inj ho
    have d_10 : At a' 12 (.pointer (some ⟨pb, 0, none⟩)) := hd2 10 (by kernel_rfl) (by decide) 12 rfl
    have q0 := HC.out w' hkq 0 _ rfl
    obtain ⟨T, d⟩ := a'
    go_simp
    exact hK _ hW
 · intro o ho a' w' hW hb hd2
   obtain rfl : _ = o := Option.some.inj ho
   have hszq : a'.tmps.size = 15 := hb.size.trans hsz
   have hdq := hb.defers.trans hd
   have hkq : Keep (fun _ => False) w w' := ((Keep.refl (fun _ => False) w).drew).trans hW (fun _ _ h => h)
   have d_0 : At a' 2 (.pointer (some ⟨pb, 0, none⟩)) := hd2 0 (by decide) 2 rfl
   have d_6 : At a' 8 (.bool bl) := hd2 6 (by decide) 8 rfl
   have d_11 : At a' 13 (.int .i64 P.pos) := hd2 11 (by decide) 13 rfl
   have HLQ := Lib.hid (HL.out.new hkq)
   have HKQ := Lib.hid hkq
   clear hkq hW hb hd2
   obtain ⟨T, d⟩ := a'
   with_reducible refine wpList_step (fun K hK => ?_)
   go_simp
   refine (must_any _ _ 0 108 HLQ.out rfl).mono ?_
   rintro e w2 ⟨rfl, hL2, hk2⟩
   with_reducible refine hK _ _ (wpList_nil ?_)
   refine post_none rfl hdq ⟨rfl, ?_, (HKQ.out.mono fun _ _ h => h.elim : Keep (fun k => k = pb) w w').trans hk2 (fun _ _ h => h)⟩
   rw [HS.out]
   simpa using hL2
end Go.Proofs.YtpblcjipmoblnaaGreatDoor
