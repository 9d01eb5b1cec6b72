/- CheckA CheckB -/
import Derived.Test.YtpblcjipmoblnaaGreatDoorSmall
import Derived.Test.YtpblcjipmoblnaaGreatDoorImage
import Derived.Test.YtpblcjipmoblnaaGreatDoorPlansB
import Derived.Test.YtpblcjipmoblnaaGreatDoorMaps
import Derived.Test.YtpblcjipmoblnaaGreatDoorRowsC
import Derived.Test.YtpblcjipmoblnaaGreatDoorWho
set_option maxRecDepth 100000
set_option maxHeartbeats 4000000
set_option linter.unusedVariables false
set_option linter.unusedSimpArgs false
namespace Go.Proofs.YtpblcjipmoblnaaGreatDoor
open Go.RowKit Go.IntWalk Ck
theorem look_other {B : Nat} {w : World} {pb : Nat} {v : PolV} {P : Policy} {W W' : Int → Int} (h : LookAt B w pb v P W []) : LookAt B w pb v P W' [] := by
 obtain ⟨f, o, h1, h2, h3⟩ := h.look
 cases o with
 | none => exact ⟨h.laid, h.base, h.pol, f, none, h1, h2, h3⟩
 | some m => exact absurd h3.1 (by simp)
theorem tells_at {g : List Wr × (Int → Int)} {a r : Int} : ∀ {l : List (List Wr × (Int → Int))} {k : Nat}, l[k]? = some g → (∀ x ∈ l.take k, x.1 = []) → (a, r) ∈ g.1 → (∀ x ∈ g.1, Le (a, r) x) → Tells l a (g.2 r)
 | [], k, h, _, _, _ => by simp at h
 | x :: t, 0, h, _, h1, h2 => by
  obtain rfl : x = g := Option.some.inj h
  exact .inr ⟨r, h1, h2, rfl⟩
 | x :: t, k + 1, h, he, h1, h2 => .inl ⟨he x (by simp), tells_at (l := t) (by simpa using h) (fun y hy => he y (by simp [hy])) h1 h2⟩
theorem tells_none : ∀ {l : List (List Wr × (Int → Int))}, (∀ x ∈ l, x.1 = []) → Tells l 0 0
 | [], _ => ⟨rfl, rfl⟩
 | x :: t, h => .inl ⟨h x (by simp), tells_none fun y hy => h y (by simp [hy])⟩
def GroupsC (B pb : Nat) (v : PolV) (P : Policy) (l : List (List Wr × (Int → Int))) : Prop :=
 l.length = 8 ∧ ∀ (k : Nat) (g : List Wr × (Int → Int)) (w : World), l[k]? = some g → LookAt B w pb v P g.2 [] → Calls Tryz.prog (49 + k) #[.pointer (some ⟨pb, 0, none⟩)] w fun e w' => e = .returned (.tuple #[]) ∧ LookAt B w' pb v P g.2 g.1 ∧ Keep (fun k => k = pb) w w'
theorem list8 {α : Type} {a0 a1 a2 a3 a4 a5 a6 a7 g : α} {k : Nat} (h : [a0, a1, a2, a3, a4, a5, a6, a7][k]? = some g) : (k = 0 ∧ g = a0) ∨ (k = 1 ∧ g = a1) ∨ (k = 2 ∧ g = a2) ∨ (k = 3 ∧ g = a3) ∨ (k = 4 ∧ g = a4) ∨ (k = 5 ∧ g = a5) ∨ (k = 6 ∧ g = a6) ∨ (k = 7 ∧ g = a7) := by
 have hk : k < 8 := by have := (List.getElem?_eq_some_iff.1 h).1; simpa using this
 rcases (by omega : k = 0 ∨ k = 1 ∨ k = 2 ∨ k = 3 ∨ k = 4 ∨ k = 5 ∨ k = 6 ∨ k = 7) with rfl | rfl | rfl | rfl | rfl | rfl | rfl | rfl <;> simp at h <;> subst h <;> simp
theorem groups_c {B pb : Nat} {v : PolV} {P : Policy} {named : ByteArray → Bool} (hN : NamedSpec B named) : GroupsC B pb v P (groups named flatL P) := by
 refine ⟨rfl, fun k g w hk h => ?_⟩
 rcases list8 hk with ⟨rfl, rfl⟩ | ⟨rfl, rfl⟩ | ⟨rfl, rfl⟩ | ⟨rfl, rfl⟩ | ⟨rfl, rfl⟩ | ⟨rfl, rfl⟩ | ⟨rfl, rfl⟩ | ⟨rfl, rfl⟩
 · exact names_any hN h
 · exact counts_any h
 · exact bus_any h
 · exact regions_any h
 · exact maps_any things_any h
 · exact who_any h
 · exact plans_any h
 · exact image_any h
def fnV (pb k : Nat) : Value := .func (.func (49 + k)) #[.pointer (some ⟨pb, 0, none⟩)] #[]
theorem check_call {B : Nat} {w : World} {pb : Nat} {v : PolV} {P : Policy} {l : List (List Wr × (Int → Int))} (hG : GroupsC B pb v P l) {k : Nat} {g : List Wr × (Int → Int)} (hk : l[k]? = some g) (hL : LookAt B w pb v P g.2 []) (a : Act) (hsz : a.tmps.size = 53) (h6 : At a 6 (fnV pb k)) (Q : Exit → Act → World → Prop)
 (hQ : ∀ a' w', Agree (fun i => i == 34 || i == 35) a a' → LookAt B w' pb v P g.2 g.1 → Keep (fun k => k = pb) w w' → Q .normal a' w') :
 (codeC Tryz.f21 [1,1,0,1,0,0,1,1,0,0,1,0]).wp Tryz.prog Q a w := by
 have hk8 : k < 8 := by have := (List.getElem?_eq_some_iff.1 hk).1; rw [hG.1] at this; exact this
 have HC := Lib.hid (hG.2 k g w hk hL)
 have HQ := Lib.hid hQ
 clear hQ hG hL hk
 unfold fnV at h6
 have hAr : Agree (fun i => i == 34 || i == 35) a a := Agree.refl _ _
 conv => arg 2; whnf
 rcases (by omega : k = 0 ∨ k = 1 ∨ k = 2 ∨ k = 3 ∨ k = 4 ∨ k = 5 ∨ k = 6 ∨ k = 7) with rfl | rfl | rfl | rfl | rfl | rfl | rfl | rfl
 · have h6 : At a 6 (.func (.func 49) #[.pointer (some ⟨pb, 0, none⟩)] #[]) := h6
   have HC : Hid (Calls Tryz.prog 49 #[.pointer (some ⟨pb, 0, none⟩)] w fun e w' => e = .returned (.tuple #[]) ∧ LookAt B w' pb v P g.2 g.1 ∧ Keep (fun k => k = pb) w w') := HC
   obtain ⟨T, d⟩ := a
   refine wp_region_lit ?_
   with_reducible refine st ?_
   with_reducible refine wpList_step (fun K hK => ?_)
   go_simp
   refine HC.out.mono ?_
   rintro e w2 ⟨rfl, hL2, hk2⟩
   with_reducible refine hK _ _ (wpList_nil ?_)
   refine HQ.out _ _ ?_ hL2 hk2
   exact ag
 · have h6 : At a 6 (.func (.func 50) #[.pointer (some ⟨pb, 0, none⟩)] #[]) := h6
   have HC : Hid (Calls Tryz.prog 50 #[.pointer (some ⟨pb, 0, none⟩)] w fun e w' => e = .returned (.tuple #[]) ∧ LookAt B w' pb v P g.2 g.1 ∧ Keep (fun k => k = pb) w w') := HC
   obtain ⟨T, d⟩ := a
   refine wp_region_lit ?_
   with_reducible refine st ?_
   with_reducible refine wpList_step (fun K hK => ?_)
   go_simp
   refine HC.out.mono ?_
   rintro e w2 ⟨rfl, hL2, hk2⟩
   with_reducible refine hK _ _ (wpList_nil ?_)
   refine HQ.out _ _ ?_ hL2 hk2
   exact ag
 · have h6 : At a 6 (.func (.func 51) #[.pointer (some ⟨pb, 0, none⟩)] #[]) := h6
   have HC : Hid (Calls Tryz.prog 51 #[.pointer (some ⟨pb, 0, none⟩)] w fun e w' => e = .returned (.tuple #[]) ∧ LookAt B w' pb v P g.2 g.1 ∧ Keep (fun k => k = pb) w w') := HC
   obtain ⟨T, d⟩ := a
   refine wp_region_lit ?_
   with_reducible refine st ?_
   with_reducible refine wpList_step (fun K hK => ?_)
   go_simp
   refine HC.out.mono ?_
   rintro e w2 ⟨rfl, hL2, hk2⟩
   with_reducible refine hK _ _ (wpList_nil ?_)
   refine HQ.out _ _ ?_ hL2 hk2
   exact ag
 · have h6 : At a 6 (.func (.func 52) #[.pointer (some ⟨pb, 0, none⟩)] #[]) := h6
   have HC : Hid (Calls Tryz.prog 52 #[.pointer (some ⟨pb, 0, none⟩)] w fun e w' => e = .returned (.tuple #[]) ∧ LookAt B w' pb v P g.2 g.1 ∧ Keep (fun k => k = pb) w w') := HC
   obtain ⟨T, d⟩ := a
   refine wp_region_lit ?_
   with_reducible refine st ?_
   with_reducible refine wpList_step (fun K hK => ?_)
   go_simp
   refine HC.out.mono ?_
   rintro e w2 ⟨rfl, hL2, hk2⟩
   with_reducible refine hK _ _ (wpList_nil ?_)
   refine HQ.out _ _ ?_ hL2 hk2
   exact ag
 · have h6 : At a 6 (.func (.func 53) #[.pointer (some ⟨pb, 0, none⟩)] #[]) := h6
   have HC : Hid (Calls Tryz.prog 53 #[.pointer (some ⟨pb, 0, none⟩)] w fun e w' => e = .returned (.tuple #[]) ∧ LookAt B w' pb v P g.2 g.1 ∧ Keep (fun k => k = pb) w w') := HC
   obtain ⟨T, d⟩ := a
   refine wp_region_lit ?_
   with_reducible refine st ?_
   with_reducible refine wpList_step (fun K hK => ?_)
   go_simp
   refine HC.out.mono ?_
   rintro e w2 ⟨rfl, hL2, hk2⟩
   with_reducible refine hK _ _ (wpList_nil ?_)
   refine HQ.out _ _ ?_ hL2 hk2
   exact ag
 · have h6 : At a 6 (.func (.func 54) #[.pointer (some ⟨pb, 0, none⟩)] #[]) := h6
   have HC : Hid (Calls Tryz.prog 54 #[.pointer (some ⟨pb, 0, none⟩)] w fun e w' => e = .returned (.tuple #[]) ∧ LookAt B w' pb v P g.2 g.1 ∧ Keep (fun k => k = pb) w w') := HC
   obtain ⟨T, d⟩ := a
   refine wp_region_lit ?_
   with_reducible refine st ?_
   with_reducible refine wpList_step (fun K hK => ?_)
   go_simp
   refine HC.out.mono ?_
   rintro e w2 ⟨rfl, hL2, hk2⟩
   with_reducible refine hK _ _ (wpList_nil ?_)
   refine HQ.out _ _ ?_ hL2 hk2
   exact ag
 · have h6 : At a 6 (.func (.func 55) #[.pointer (some ⟨pb, 0, none⟩)] #[]) := h6
   have HC : Hid (Calls Tryz.prog 55 #[.pointer (some ⟨pb, 0, none⟩)] w fun e w' => e = .returned (.tuple #[]) ∧ LookAt B w' pb v P g.2 g.1 ∧ Keep (fun k => k = pb) w w') := HC
   obtain ⟨T, d⟩ := a
   refine wp_region_lit ?_
   with_reducible refine st ?_
   with_reducible refine wpList_step (fun K hK => ?_)
   go_simp
   refine HC.out.mono ?_
   rintro e w2 ⟨rfl, hL2, hk2⟩
   with_reducible refine hK _ _ (wpList_nil ?_)
   refine HQ.out _ _ ?_ hL2 hk2
   exact ag
 · have h6 : At a 6 (.func (.func 56) #[.pointer (some ⟨pb, 0, none⟩)] #[]) := h6
   have HC : Hid (Calls Tryz.prog 56 #[.pointer (some ⟨pb, 0, none⟩)] w fun e w' => e = .returned (.tuple #[]) ∧ LookAt B w' pb v P g.2 g.1 ∧ Keep (fun k => k = pb) w w') := HC
   obtain ⟨T, d⟩ := a
   refine wp_region_lit ?_
   with_reducible refine st ?_
   with_reducible refine wpList_step (fun K hK => ?_)
   go_simp
   refine HC.out.mono ?_
   rintro e w2 ⟨rfl, hL2, hk2⟩
   with_reducible refine hK _ _ (wpList_nil ?_)
   refine HQ.out _ _ ?_ hL2 hk2
   exact ag
theorem results_two {P : Program} {fn : Func} {a : Act} {w : World} {s t : Nat} {u v : Value} (h : fn.results = #[.tmp s, .tmp t]) (hs : At a s u) (ht : At a t v) (hsl : s < a.tmps.size) (htl : t < a.tmps.size) : (results fn a.tmps).run P w = .ok (.tuple #[u, v]) w := by
 have e1 : a.tmps.getD s undef = u := hs.eval hsl
 have e2 : a.tmps.getD t undef = v := ht.eval htl
 rw [results_tmp2 h, e1, e2]
theorem check_any {B : Nat} {w : World} {v : PolV} {P : Policy} {named : ByteArray → Bool} (hN : NamedSpec B named) (hp : PolAt B w v P) (hla : Laid B w) (hB : B ≤ w.heap.size) :
 Calls Tryz.prog 21 #[.agg (v.cells P).toArray] w fun e w' => (∃ a x : Int, e = .returned (.tuple #[.int .i64 a, .int .i64 x]) ∧ Tells (groups named flatL P) a x) ∧ Keep (fun _ => False) w w' := by
 have HP := Lib.hid hp
 have HLA := Lib.hid hla
 obtain ⟨l, hl⟩ : ∃ l, l = groups named flatL P := ⟨_, rfl⟩
 have hGC : ∀ pb, GroupsC B pb v P l := fun pb => by rw [hl]; exact groups_c hN
 have HGC := Lib.hid hGC
 rw [← hl]
 have hl8 : l.length = 8 := (hGC 0).1
 clear hl hGC hla
 obtain ⟨A_rams, c_rams, hv_rams, hc_rams, hn_rams, hl_rams⟩ := hp.rams
 obtain ⟨A_devices, c_devices, hv_devices, hc_devices, hn_devices, hl_devices⟩ := hp.devices
 obtain ⟨A_regions, c_regions, hv_regions, hc_regions, hn_regions, hl_regions⟩ := hp.regions
 obtain ⟨A_subjects, c_subjects, hv_subjects, hc_subjects, hn_subjects, hl_subjects⟩ := hp.subjects
 obtain ⟨A_channels, c_channels, hv_channels, hc_channels, hn_channels, hl_channels⟩ := hp.channels
 obtain ⟨A_irqs, c_irqs, hv_irqs, hc_irqs, hn_irqs, hl_irqs⟩ := hp.irqs
 obtain ⟨A_queues, c_queues, hv_queues, hc_queues, hn_queues, hl_queues⟩ := hp.queues
 obtain ⟨A_plans, c_plans, hv_plans, hc_plans, hn_plans, hl_plans⟩ := hp.plans
 obtain ⟨A_masters, c_masters, hv_masters, hc_masters, hn_masters, hl_masters⟩ := hp.masters
 obtain ⟨A_starts, c_starts, hv_starts, hc_starts, hn_starts, hl_starts⟩ := hp.starts
 obtain ⟨A_monitors, c_monitors, hv_monitors, hc_monitors, hn_monitors, hl_monitors⟩ := hp.monitors
 obtain ⟨A_forbids, c_forbids, hv_forbids, hc_forbids, hn_forbids, hl_forbids⟩ := hp.forbids
 have e0 : (v.cells P).toArray = #[.int .i64 P.pos, .string P.name, .slice A_rams P.rams.length c_rams, .slice A_devices P.devices.length c_devices, .slice A_regions P.regions.length c_regions, .slice A_subjects P.subjects.length c_subjects, .slice A_channels P.channels.length c_channels, .slice A_irqs P.irqs.length c_irqs, .slice A_queues P.queues.length c_queues, .slice A_plans P.plans.length c_plans, .slice A_masters P.masters.length c_masters, .slice A_starts P.starts.length c_starts, .slice A_monitors P.monitors.length c_monitors, .slice A_forbids P.forbids.length c_forbids] := by
  rw [← hv_rams, ← hv_devices, ← hv_regions, ← hv_subjects, ← hv_channels, ← hv_irqs, ← hv_queues, ← hv_plans, ← hv_masters, ← hv_starts, ← hv_monitors, ← hv_forbids]
  rfl
 have e1 : (v.cells P ++ [Value.nilIface]).toArray = #[.int .i64 P.pos, .string P.name, .slice A_rams P.rams.length c_rams, .slice A_devices P.devices.length c_devices, .slice A_regions P.regions.length c_regions, .slice A_subjects P.subjects.length c_subjects, .slice A_channels P.channels.length c_channels, .slice A_irqs P.irqs.length c_irqs, .slice A_queues P.queues.length c_queues, .slice A_plans P.plans.length c_plans, .slice A_masters P.masters.length c_masters, .slice A_starts P.starts.length c_starts, .slice A_monitors P.monitors.length c_monitors, .slice A_forbids P.forbids.length c_forbids, .nilIface] := by
  rw [← hv_rams, ← hv_devices, ← hv_regions, ← hv_subjects, ← hv_channels, ← hv_irqs, ← hv_queues, ← hv_plans, ← hv_masters, ← hv_starts, ← hv_monitors, ← hv_forbids]
  rfl
 rw [e0]
 have HE1 := Lib.hid e1
 clear e0 e1 hp hv_rams hl_rams hc_rams hn_rams hv_devices hl_devices hc_devices hn_devices hv_regions hl_regions hc_regions hn_regions hv_subjects hl_subjects hc_subjects hn_subjects hv_channels hl_channels hc_channels hn_channels hv_irqs hl_irqs hc_irqs hn_irqs hv_queues hl_queues hc_queues hn_queues hv_plans hl_plans hc_plans hn_plans hv_masters hl_masters hc_masters hn_masters hv_starts hl_starts hc_starts hn_starts hv_monitors hl_monitors hc_monitors hn_monitors hv_forbids hl_forbids hc_forbids hn_forbids
 refine calls_abs Tryz.func21 Tryz.ntmps21 rfl (by show 1 ≤ 53; decide) fun a hsz hd h => ?_
 have h0 : At a 0 (.agg #[.int .i64 P.pos, .string P.name, .slice A_rams P.rams.length c_rams, .slice A_devices P.devices.length c_devices, .slice A_regions P.regions.length c_regions, .slice A_subjects P.subjects.length c_subjects, .slice A_channels P.channels.length c_channels, .slice A_irqs P.irqs.length c_irqs, .slice A_queues P.queues.length c_queues, .slice A_plans P.plans.length c_plans, .slice A_masters P.masters.length c_masters, .slice A_starts P.starts.length c_starts, .slice A_monitors P.monitors.length c_monitors, .slice A_forbids P.forbids.length c_forbids]) := h 0 _ rfl
 clear h
 conv => arg 2; whnf
 refine wp_seq (Code.wp_only (R := fun a1_ wa1_ => Agree (fun i => i == 1 || i == 2 || i == 3) a a1_ ∧ At a1_ 1 (.pointer (some ⟨w.heap.size, 0, none⟩)) ∧ At a1_ 2 (.int .i64 0) ∧ At a1_ 3 (.int .i64 0) ∧ wa1_ = w.alloc (.cells #[.int .i64 P.pos, .string P.name, .slice A_rams P.rams.length c_rams, .slice A_devices P.devices.length c_devices, .slice A_regions P.regions.length c_regions, .slice A_subjects P.subjects.length c_subjects, .slice A_channels P.channels.length c_channels, .slice A_irqs P.irqs.length c_irqs, .slice A_queues P.queues.length c_queues, .slice A_plans P.plans.length c_plans, .slice A_masters P.masters.length c_masters, .slice A_starts P.starts.length c_starts, .slice A_monitors P.monitors.length c_monitors, .slice A_forbids P.forbids.length c_forbids] 34)) ?_ ?_)
 · have hAr : Agree (fun i => i == 1 || i == 2 || i == 3) a a := Agree.refl _ _
   obtain ⟨T, d⟩ := a
   refine wp_region_lit ?_
   iterate 3 with_reducible refine st ?_
   refine wpList_nil ⟨rfl, ag, aq, aq, aq, rfl⟩
 rintro a1_ wa1_ ⟨hAa1_, h1, h2, h3, hwa1_⟩
 replace h0 := hAa1_.at_ h0 rfl
 have hsz_ := hAa1_.size.trans hsz
 have hd_ := hAa1_.defers.trans hd
 obtain ⟨z, hz⟩ : ∃ z, z = w.heap.size := ⟨_, rfl⟩
 rw [← hz] at h1
 have fz : wa1_.heap[z]? = some (.cells #[.int .i64 P.pos, .string P.name, .slice A_rams P.rams.length c_rams, .slice A_devices P.devices.length c_devices, .slice A_regions P.regions.length c_regions, .slice A_subjects P.subjects.length c_subjects, .slice A_channels P.channels.length c_channels, .slice A_irqs P.irqs.length c_irqs, .slice A_queues P.queues.length c_queues, .slice A_plans P.plans.length c_plans, .slice A_masters P.masters.length c_masters, .slice A_starts P.starts.length c_starts, .slice A_monitors P.monitors.length c_monitors, .slice A_forbids P.forbids.length c_forbids] 34 (0, 0)) := by rw [hwa1_, hz]; exact heap_alloc_new _ _
 have hk1 : Keep (fun _ => False) w wa1_ := by rw [hwa1_]; exact (Keep.refl _ _).alloc _
 have HK1 := Lib.hid hk1
 have q0 : wa1_.cell? ⟨z, 0, none⟩ = some (.int .i64 P.pos) := by rw [cell_of_row _ _ _ _ _ _ fz]; rfl
 have q1 : wa1_.cell? ⟨z, 1, none⟩ = some (.string P.name) := by rw [cell_of_row _ _ _ _ _ _ fz]; rfl
 have q2 : wa1_.cell? ⟨z, 2, none⟩ = some (.slice A_rams P.rams.length c_rams) := by rw [cell_of_row _ _ _ _ _ _ fz]; rfl
 have q3 : wa1_.cell? ⟨z, 3, none⟩ = some (.slice A_devices P.devices.length c_devices) := by rw [cell_of_row _ _ _ _ _ _ fz]; rfl
 have q4 : wa1_.cell? ⟨z, 4, none⟩ = some (.slice A_regions P.regions.length c_regions) := by rw [cell_of_row _ _ _ _ _ _ fz]; rfl
 have q5 : wa1_.cell? ⟨z, 5, none⟩ = some (.slice A_subjects P.subjects.length c_subjects) := by rw [cell_of_row _ _ _ _ _ _ fz]; rfl
 have q6 : wa1_.cell? ⟨z, 6, none⟩ = some (.slice A_channels P.channels.length c_channels) := by rw [cell_of_row _ _ _ _ _ _ fz]; rfl
 have q7 : wa1_.cell? ⟨z, 7, none⟩ = some (.slice A_irqs P.irqs.length c_irqs) := by rw [cell_of_row _ _ _ _ _ _ fz]; rfl
 have q8 : wa1_.cell? ⟨z, 8, none⟩ = some (.slice A_queues P.queues.length c_queues) := by rw [cell_of_row _ _ _ _ _ _ fz]; rfl
 have q9 : wa1_.cell? ⟨z, 9, none⟩ = some (.slice A_plans P.plans.length c_plans) := by rw [cell_of_row _ _ _ _ _ _ fz]; rfl
 have q10 : wa1_.cell? ⟨z, 10, none⟩ = some (.slice A_masters P.masters.length c_masters) := by rw [cell_of_row _ _ _ _ _ _ fz]; rfl
 have q11 : wa1_.cell? ⟨z, 11, none⟩ = some (.slice A_starts P.starts.length c_starts) := by rw [cell_of_row _ _ _ _ _ _ fz]; rfl
 have q12 : wa1_.cell? ⟨z, 12, none⟩ = some (.slice A_monitors P.monitors.length c_monitors) := by rw [cell_of_row _ _ _ _ _ _ fz]; rfl
 have q13 : wa1_.cell? ⟨z, 13, none⟩ = some (.slice A_forbids P.forbids.length c_forbids) := by rw [cell_of_row _ _ _ _ _ _ fz]; rfl
 have hszz1 := hk1.size
 clear hwa1_ hz fz h0 hk1
 refine wp_seq (Code.wp_only (R := fun a2_ wa2_ => Agree (fun i => i == 4 || (decide (9 ≤ i) && decide (i ≤ 11))) a1_ a2_ ∧ At a2_ 4 (.pointer (some ⟨wa1_.heap.size, 0, none⟩)) ∧ wa2_ = wa1_.alloc (.cells #[.int .i64 P.pos, .string P.name, .slice A_rams P.rams.length c_rams, .slice A_devices P.devices.length c_devices, .slice A_regions P.regions.length c_regions, .slice A_subjects P.subjects.length c_subjects, .slice A_channels P.channels.length c_channels, .slice A_irqs P.irqs.length c_irqs, .slice A_queues P.queues.length c_queues, .slice A_plans P.plans.length c_plans, .slice A_masters P.masters.length c_masters, .slice A_starts P.starts.length c_starts, .slice A_monitors P.monitors.length c_monitors, .slice A_forbids P.forbids.length c_forbids, .nilIface] 113)) ?_ ?_)
 · have hAr : Agree (fun i => i == 4 || (decide (9 ≤ i) && decide (i ≤ 11))) a1_ a1_ := Agree.refl _ _
   obtain ⟨T, d⟩ := a1_
   refine wp_region_lit ?_
   iterate 4 with_reducible refine st ?_
   refine wpList_nil ⟨rfl, ag, aq, rfl⟩
 rintro a2_ wa2_ ⟨hAa2_, h4, hwa2_⟩
 replace h1 := hAa2_.at_ h1 rfl
 replace h2 := hAa2_.at_ h2 rfl
 replace h3 := hAa2_.at_ h3 rfl
 have hsz__ := hAa2_.size.trans hsz_
 have hd__ := hAa2_.defers.trans hd_
 obtain ⟨pb, hpb⟩ : ∃ z, z = wa1_.heap.size := ⟨_, rfl⟩
 rw [← hpb] at h4
 have fp : wa2_.heap[pb]? = some (.cells #[.int .i64 P.pos, .string P.name, .slice A_rams P.rams.length c_rams, .slice A_devices P.devices.length c_devices, .slice A_regions P.regions.length c_regions, .slice A_subjects P.subjects.length c_subjects, .slice A_channels P.channels.length c_channels, .slice A_irqs P.irqs.length c_irqs, .slice A_queues P.queues.length c_queues, .slice A_plans P.plans.length c_plans, .slice A_masters P.masters.length c_masters, .slice A_starts P.starts.length c_starts, .slice A_monitors P.monitors.length c_monitors, .slice A_forbids P.forbids.length c_forbids, .nilIface] 113 (0, 0)) := by rw [hwa2_, hpb]; exact heap_alloc_new _ _
 have hk2 : Keep (fun _ => False) w wa2_ := HK1.out.trans (by rw [hwa2_]; exact (Keep.refl _ _).alloc _) (fun _ _ h => h)
 rw [← HE1.out] at fp
 have hbel := hk2.below (B := B) hB (fun _ _ h => h)
 have hL2 : LookAt B wa2_ pb v P why1 [] := ⟨HLA.out.below hbel, by omega, HP.out.below hbel, .nilIface, none, fp, rfl, isMin_nil⟩
 have HL2 := Lib.hid hL2
 have HK2 := Lib.hid hk2
 have hpl := hL2.lt
 have HPB := Lib.hid (show w.heap.size ≤ pb by omega)
 clear hwa2_ hpb fp hk2 hbel hL2 HK1 HP HLA HE1 hszz1 q0 q1 q2 q3 q4 q5 q6 q7 q8 q9 q10 q11 q12 q13
 refine wp_seq (wp_seq (Code.wp_only (R := fun a3_ wa3_ => Agree (fun i => (decide (12 ≤ i) && decide (i ≤ 30))) a2_ a3_ ∧ At a3_ 28 (.slice (some ⟨wa2_.heap.size, 0, none⟩) 8 8) ∧ At a3_ 29 (.int .i64 (8 : Nat)) ∧ At a3_ 30 (.int .i64 0) ∧ wa3_ = wa2_.alloc (.cells #[.func (.func 49) #[.pointer (some ⟨pb, 0, none⟩)] #[], .func (.func 50) #[.pointer (some ⟨pb, 0, none⟩)] #[], .func (.func 51) #[.pointer (some ⟨pb, 0, none⟩)] #[], .func (.func 52) #[.pointer (some ⟨pb, 0, none⟩)] #[], .func (.func 53) #[.pointer (some ⟨pb, 0, none⟩)] #[], .func (.func 54) #[.pointer (some ⟨pb, 0, none⟩)] #[], .func (.func 55) #[.pointer (some ⟨pb, 0, none⟩)] #[], .func (.func 56) #[.pointer (some ⟨pb, 0, none⟩)] #[]] 1)) ?_ ?_))
 · have hAr : Agree (fun i => (decide (12 ≤ i) && decide (i ≤ 30))) a2_ a2_ := Agree.refl _ _
   obtain ⟨T, d⟩ := a2_
   refine wp_region_lit ?_
   iterate 19 with_reducible refine st ?_
   refine wpList_nil ⟨rfl, ?_, ?_, ?_, ?_, rfl⟩
   · exact ag
   · exact aq
   · exact At.ne At.self (by decide)
   · exact aq
 rintro a3_ wa3_ ⟨hAa3_, k_s, k_n, k_i, hwa3_⟩
 replace h1 := hAa3_.at_ h1 rfl
 replace h2 := hAa3_.at_ h2 rfl
 replace h3 := hAa3_.at_ h3 rfl
 replace h4 := hAa3_.at_ h4 rfl
 have hsz___ := hAa3_.size.trans hsz__
 have hd___ := hAa3_.defers.trans hd__
 obtain ⟨zf, hzf⟩ : ∃ z, z = wa2_.heap.size := ⟨_, rfl⟩
 rw [← hzf] at k_s
 have ff : wa3_.heap[zf]? = some (.cells #[.func (.func 49) #[.pointer (some ⟨pb, 0, none⟩)] #[], .func (.func 50) #[.pointer (some ⟨pb, 0, none⟩)] #[], .func (.func 51) #[.pointer (some ⟨pb, 0, none⟩)] #[], .func (.func 52) #[.pointer (some ⟨pb, 0, none⟩)] #[], .func (.func 53) #[.pointer (some ⟨pb, 0, none⟩)] #[], .func (.func 54) #[.pointer (some ⟨pb, 0, none⟩)] #[], .func (.func 55) #[.pointer (some ⟨pb, 0, none⟩)] #[], .func (.func 56) #[.pointer (some ⟨pb, 0, none⟩)] #[]] 1 (0, 0)) := by rw [hwa3_, hzf]; exact heap_alloc_new _ _
 have hk23 : Keep (fun _ => False) wa2_ wa3_ := by rw [hwa3_]; exact (Keep.refl _ _).alloc _
 have HL3 := Lib.hid (HL2.out.new hk23)
 have HK3 : Hid (Keep (fun _ => False) w wa3_) := HK2.out.trans hk23 (fun _ _ h => h)
 have FF := Lib.hid ff
 have hzp : zf ≠ pb := by omega
 have HZF := Lib.hid (show zf < wa3_.heap.size from heap_lt ff)
 clear hwa3_ hzf ff hk23 HL2 HK2
 refine wp_range 8 (fun i => i == 2 || i == 3 || (decide (6 ≤ i) && decide (i ≤ 8)) || (decide (30 ≤ i) && decide (i ≤ 52))) (fun i => i == 2 || i == 3 || (decide (6 ≤ i) && decide (i ≤ 8)) || (decide (32 ≤ i) && decide (i ≤ 51))) (fun k _ w' => LookAt B w' pb v P why1 [] ∧ (∀ x ∈ l.take k, x.1 = []) ∧ Keep (fun k => k = pb) wa3_ w') (by omega) k_i k_n (by decide) rfl
  (by intro j; simp; omega) (by omega) (by decide) (fun k a1 a2 w hA hI => hI) ⟨HL3.out, by simp, Keep.refl _ _⟩ ?_ ?_
 · rintro n b wr hlt hA k_j ⟨hL, hno, hk⟩
   obtain ⟨gr, hg⟩ : ∃ x, l[n]? = some x := ⟨_, List.getElem?_eq_getElem (by omega)⟩
   have fr := (hk.block zf (heap_lt FF.out) hzp).trans FF.out
   have q0 : wr.cell? ⟨zf, n, none⟩ = some (fnV pb n) := by
    rw [cell_of_row _ _ _ _ _ _ fr]
    rcases (by omega : n = 0 ∨ n = 1 ∨ n = 2 ∨ n = 3 ∨ n = 4 ∨ n = 5 ∨ n = 6 ∨ n = 7) with rfl | rfl | rfl | rfl | rfl | rfl | rfl | rfl <;> rfl
   have k_4 := hA.at_ h4 rfl
   have k_sl := hA.at_ k_s rfl
   have hszb := hA.size.trans hsz___
   have hdb := hA.defers.trans hd___
   have hzl := heap_lt fr
   have hn4 : (n : Int) < 8 := by omega
   have HG := Lib.hid hg
   have HNO := Lib.hid hno
   have HK := Lib.hid hk
   have HL := Lib.hid hL
   clear hg hno hk fr hA hL
   obtain ⟨fv, hfv⟩ : ∃ f, f = fnV pb n := ⟨_, rfl⟩
   rw [← hfv] at q0
   have HFV := Lib.hid hfv
   clear hfv
   refine wp_seq (Code.wp_only (R := fun a4_ wa4_ => Agree (fun i => i == 6 || i == 32 || i == 33) b a4_ ∧ At a4_ 6 (fv) ∧ wa4_ = wr) ?_ ?_)
   · have hAr : Agree (fun i => i == 6 || i == 32 || i == 33) b b := Agree.refl _ _
     obtain ⟨T, d⟩ := b
     refine wp_region_lit ?_
     iterate 3 with_reducible refine st ?_
     refine wpList_nil ⟨rfl, ag, aq, rfl⟩
   rintro a4_ wa4_ ⟨hAa4_, k_6, rfl⟩
   replace k_4 := hAa4_.at_ k_4 rfl
   replace k_sl := hAa4_.at_ k_sl rfl
   replace k_j := hAa4_.at_ k_j rfl
   have hszb_ := hAa4_.size.trans hszb
   have hdb_ := hAa4_.defers.trans hdb
   clear q0 k_sl k_j
   rw [HFV.out] at k_6
   refine wp_seq (check_call (HGC.out pb) HG.out (look_other HL.out) a4_ hszb_ k_6 _ ?_)
   intro c wc hAc hLc hkc
   have hszc := hAc.size.trans hszb_
   have hdc := hAc.defers.trans hdb_
   replace k_4 := hAc.at_ k_4 rfl
   have HLC := Lib.hid hLc
   have HKC := Lib.hid hkc
   clear hLc hkc
   refine wp_seq (Code.wp_only (R := fun a5_ wa5_ => Agree (fun i => i == 7) c a5_ ∧ At a5_ 7 (.pointer (some ⟨wc.heap.size, 0, none⟩)) ∧ wa5_ = wc.alloc (.cells #[.pointer none] 115)) ?_ ?_)
   · have hAr : Agree (fun i => i == 7) c c := Agree.refl _ _
     obtain ⟨T, d⟩ := c
     refine wp_region_lit ?_
     with_reducible refine st ?_
     refine wpList_nil ⟨rfl, ag, aq, rfl⟩
   rintro a5_ wa5_ ⟨hAa5_, k_7, hwa5_⟩
   replace k_4 := hAa5_.at_ k_4 rfl
   have hszc_ := hAa5_.size.trans hszc
   have hdc_ := hAa5_.defers.trans hdc
   obtain ⟨tb, htb⟩ : ∃ z, z = wc.heap.size := ⟨_, rfl⟩
   rw [← htb] at k_7
   have ft : Var wa5_ tb 115 (.pointer none) := by unfold Var; rw [hwa5_, htb]; exact heap_alloc_new _ _
   have hkd : Keep (fun _ => False) wc wa5_ := by rw [hwa5_]; exact (Keep.refl _ _).alloc _
   have hLD := HLC.out.new hkd
   have htp : tb ≠ pb := by have := HLC.out.lt; omega
   have HTW := Lib.hid (show wc.heap.size ≤ tb by omega)
   clear hwa5_ htb
   obtain ⟨f, o, hrow, hfo, hmin⟩ := hLD.look
   have p14 : wa5_.cell? ⟨pb, 14, none⟩ = some f := by
    rw [cell_of_row _ _ _ _ _ _ hrow]
    simp only [List.getElem?_toArray]
    rw [List.getElem?_append_right (by simp [PolV.cells])]
    rfl
   have HLD := Lib.hid hLD
   have HKD := Lib.hid hkd
   have HFT := Lib.hid ft
   have HMIN := Lib.hid hmin
   have hlam := hLD.laid
   clear hrow hkd hLD ft
   cases o with
   | none =>
    obtain rfl : f = .nilIface := hfo
    have hemp : gr.1 = [] := HMIN.out.none_iff
    have hcall := as_nil (.iface 117 (.pointer (some ⟨tb, 0, none⟩))) wa5_
    have HC := Lib.hid hcall
    clear hcall
    refine wp_seq (wp_seq (Code.wp_only (R := fun a6_ wa6_ => Agree (fun i => (decide (36 ≤ i) && decide (i ≤ 42))) a5_ a6_ ∧ At a6_ 42 (.bool true) ∧ wa6_ = wa5_) ?_ ?_))
    · have hAr : Agree (fun i => (decide (36 ≤ i) && decide (i ≤ 42))) a5_ a5_ := Agree.refl _ _
      obtain ⟨T, d⟩ := a5_
      refine wp_region_lit ?_
      iterate 5 with_reducible refine st ?_
      with_reducible refine wpList_step (fun K hK => ?_)
      go_simp
      refine HC.out.mono ?_
      rintro e w2 ⟨rfl, rfl⟩
      with_reducible refine hK _ _ ?_
      clear hK K
      with_reducible refine st ?_
      refine wpList_nil ⟨rfl, ag, aq, rfl⟩
    rintro a6_ wa6_ ⟨hAa6_, k_42, rfl⟩
    replace k_4 := hAa6_.at_ k_4 rfl
    replace k_7 := hAa6_.at_ k_7 rfl
    have hszc__ := hAa6_.size.trans hszc_
    have hdc__ := hAa6_.defers.trans hdc_
    refine wp_cond_split (k_42.eval (by omega)) (fun hq => ?_) (fun hq => by cases hq)
    refine wp_exit ?_
    repeat with_reducible apply then_exit
    simp only [InBody, if_true]
    refine ⟨(Agree.trans (Agree.trans (Agree.trans (Agree.trans (Agree.refl (fun i => i == 2 || i == 3 || (decide (6 ≤ i) && decide (i ≤ 8)) || (decide (32 ≤ i) && decide (i ≤ 51))) _) hAa4_ (by intro j; simp; omega)) hAc (by intro j; simp; omega)) hAa5_ (by intro j; simp; omega)) hAa6_ (by intro j; simp; omega)), ?_, fun x hx => ?_, (HK.out.trans HKC.out (fun _ _ h => h)).trans HKD.out (fun _ _ h => h.elim)⟩
    · have h1 := HLD.out
      rw [hemp] at h1
      exact look_other h1
    · rw [take_at HG.out] at hx
      rcases List.mem_append.1 hx with h | h
      · exact HNO.out x h
      · obtain rfl : x = gr := by simpa using h
        exact hemp
   | some m =>
    obtain ⟨eb, rfl, hep, hrowe⟩ := hfo
    have hcall := as_wrong ⟨eb, 0, none⟩ tb wa5_ hlam.err HFT.out
    have HC := Lib.hid hcall
    have HRE := Lib.hid hrowe
    have het : eb ≠ tb := by rintro rfl; have h1 := HFT.out; unfold Var at h1; rw [hrowe] at h1; cases h1
    clear hcall hrowe
    refine wp_seq (wp_seq (Code.wp_only (R := fun a7_ wa7_ => Agree (fun i => (decide (36 ≤ i) && decide (i ≤ 42))) a5_ a7_ ∧ At a7_ 42 (.bool false) ∧ Var wa7_ tb 115 (.pointer (some ⟨eb, 0, none⟩)) ∧ Keep (fun k => k = tb) wa5_ wa7_) ?_ ?_))
    · have hAr : Agree (fun i => (decide (36 ≤ i) && decide (i ≤ 42))) a5_ a5_ := Agree.refl _ _
      obtain ⟨T, d⟩ := a5_
      refine wp_region_lit ?_
      iterate 5 with_reducible refine st ?_
      with_reducible refine wpList_step (fun K hK => ?_)
      go_simp
      refine HC.out.mono ?_
      rintro e w2 ⟨rfl, hv2, hk2⟩
      with_reducible refine hK _ _ ?_
      clear hK K
      with_reducible refine st ?_
      refine wpList_nil ⟨rfl, ?_, ?_, ?_, ?_⟩
      · exact ag
      · exact aq
      · exact hv2
      · exact hk2
    rintro a7_ wa7_ ⟨hAa7_, k_42, hv2, hk2⟩
    replace k_4 := hAa7_.at_ k_4 rfl
    replace k_7 := hAa7_.at_ k_7 rfl
    have hszc__ := hAa7_.size.trans hszc_
    have hdc__ := hAa7_.defers.trans hdc_
    refine wp_cond_split (k_42.eval (by omega)) (fun hq => by cases hq) (fun hq => ?_)
    refine wp_skip ?_
    clear hq k_42
    have hre := (hk2.block eb (heap_lt HRE.out) het).trans HRE.out
    have her : ErrT wa7_ := (hlam.below ((HKD.out.mono fun _ _ h => h.elim : Keep (fun k => k = tb) wc wa5_) |> fun _ => hk2.below (B := B) (by have := HLD.out.base; have := HLD.out.lt; omega) (fun i hi e => by have := HLC.out.base; have := HLC.out.lt; have := HTW.out; omega))).err
    have HV2 := Lib.hid hv2
    have HKE := Lib.hid hk2
    have HRR := Lib.hid hre
    have HER := Lib.hid her
    clear hv2 hk2 hre her HC p14 hlam
    refine wp_seq (Code.wp_only (R := fun a8_ wa8_ => Agree (fun i => i == 8) a7_ a8_ ∧ At a8_ 8 (.pointer (some ⟨wa7_.heap.size, 0, none⟩)) ∧ wa8_ = wa7_.alloc (.cells #[.int .i64 0] 72)) ?_ ?_)
    · have hAr : Agree (fun i => i == 8) a7_ a7_ := Agree.refl _ _
      obtain ⟨T, d⟩ := a7_
      refine wp_region_lit ?_
      with_reducible refine st ?_
      refine wpList_nil ⟨rfl, ag, aq, rfl⟩
    rintro a8_ wa8_ ⟨hAa8_, k_8, hwa8_⟩
    replace k_4 := hAa8_.at_ k_4 rfl
    replace k_7 := hAa8_.at_ k_7 rfl
    have hszc___ := hAa8_.size.trans hszc__
    have hdc___ := hAa8_.defers.trans hdc__
    obtain ⟨te, hte⟩ : ∃ z, z = wa7_.heap.size := ⟨_, rfl⟩
    rw [← hte] at k_8
    have fe : Var wa8_ te 72 (.int .i64 0) := by unfold Var; rw [hwa8_, hte]; exact heap_alloc_new _ _
    have hkf : Keep (fun _ => False) wa7_ wa8_ := by rw [hwa8_]; exact (Keep.refl _ _).alloc _
    have hv3 := HV2.out.keep hkf (fun h => h)
    have hr3 := (hkf.block eb (heap_lt HRR.out) (fun h => h)).trans HRR.out
    have hlte := HV2.out.lt
    have HTE := Lib.hid (show wa7_.heap.size ≤ te by omega)
    have htt : te ≠ tb := by omega
    have hte2 : te ≠ eb := by have := heap_lt HRR.out; omega
    have htp2 : te ≠ pb := by have h1 := HLD.out.lt; have h2 := HKE.out.size; omega
    have c2 : wa8_.cell? ⟨eb, 2, none⟩ = some (.iface 72 (.int .i64 (gr.2 m.2))) := by rw [cell_of_row _ _ _ _ _ _ hr3]; rfl
    have hel := (hkf.cell (p := ⟨0, 0, none⟩) (World.block_lt_of_cell? _ ⟨0, 0, none⟩ HER.out) (fun h => h)).trans HER.out
    have hcall := as_errno eb te (gr.2 m.2) wa8_ hel c2 fe
    have v7 : wa8_.cell? ⟨tb, 0, none⟩ = some (.pointer (some ⟨eb, 0, none⟩)) := hv3.cell
    have HC := Lib.hid hcall
    have HV3 := Lib.hid hv3
    have HR3 := Lib.hid hr3
    have HKF := Lib.hid hkf
    clear hwa8_ hte fe hkf hv3 hr3 c2 hel hcall hlte
    refine wp_seq (Code.wp_only (R := fun a9_ wa9_ => Agree (fun i => (decide (43 ≤ i) && decide (i ≤ 46))) a8_ a9_ ∧ Var wa9_ te 72 (.int .i64 (gr.2 m.2)) ∧ Keep (fun k => k = te) wa8_ wa9_) ?_ ?_)
    · have hAr : Agree (fun i => (decide (43 ≤ i) && decide (i ≤ 46))) a8_ a8_ := Agree.refl _ _
      obtain ⟨T, d⟩ := a8_
      refine wp_region_lit ?_
      iterate 3 with_reducible refine st ?_
      with_reducible refine wpList_step (fun K hK => ?_)
      go_simp
      refine HC.out.mono ?_
      rintro e w2 ⟨rfl, hv2, hk2⟩
      with_reducible refine hK _ _ ?_
      clear hK K
      refine wpList_nil ⟨rfl, ?_, ?_, ?_⟩
      · exact ag
      · exact hv2
      · exact hk2
    rintro a9_ wa9_ ⟨hAa9_, hv4, hk4⟩
    replace k_4 := hAa9_.at_ k_4 rfl
    replace k_7 := hAa9_.at_ k_7 rfl
    replace k_8 := hAa9_.at_ k_8 rfl
    have hszc____ := hAa9_.size.trans hszc___
    have hdc____ := hAa9_.defers.trans hdc___
    have v7 : wa9_.cell? ⟨tb, 0, none⟩ = some (.pointer (some ⟨eb, 0, none⟩)) := (hk4.cell (p := ⟨tb, 0, none⟩) HV3.out.lt (fun h => htt h.symm)).trans HV3.out.cell
    have v8 : wa9_.cell? ⟨te, 0, none⟩ = some (.int .i64 (gr.2 m.2)) := hv4.cell
    have c0 : wa9_.cell? ⟨eb, 0, none⟩ = some (.int .i64 m.1) := by rw [cell_of_row _ _ _ _ _ _ ((hk4.block eb (heap_lt HR3.out) (fun h => hte2 h.symm)).trans HR3.out)]; rfl
    have HKG : Hid (Keep (fun _ => False) w wa9_) := Lib.hid ((((((HK3.out.trans HK.out (fun i hi e => by have := HPB.out; omega)).trans HKC.out (fun i hi e => by have := HPB.out; omega)).trans HKD.out (fun _ _ h => h)).trans HKE.out (fun i hi e => by have h1 := HTW.out; have h2 := HKC.out.size; have h3 := HK.out.size; have h4 := HK3.out.size; omega)).trans HKF.out (fun _ _ h => h)).trans hk4 (fun i hi e => by have h0 := HKE.out.size; have h1 := HKD.out.size; have h2 := HKC.out.size; have h3 := HK.out.size; have h4 := HK3.out.size; have h5 := HTE.out; omega))
    obtain ⟨xe, hxe⟩ : ∃ x : Int, x = gr.2 m.2 := ⟨_, rfl⟩
    rw [← hxe] at v8
    have HXE := Lib.hid hxe
    obtain ⟨xa, hxa⟩ : ∃ x : Int, x = m.1 := ⟨_, rfl⟩
    rw [← hxa] at c0
    have HXA := Lib.hid hxa
    clear hv4 hk4 HC hxe hxa
    refine wp_seq (Code.wp_only (R := fun a10_ wa10_ => Agree (fun i => i == 2 || i == 3 || (decide (47 ≤ i) && decide (i ≤ 51))) a9_ a10_ ∧ At a10_ 2 (.int .i64 xa) ∧ At a10_ 3 (.int .i64 xe) ∧ wa10_ = wa9_.drew) ?_ ?_)
    · have hAr : Agree (fun i => i == 2 || i == 3 || (decide (47 ≤ i) && decide (i ≤ 51))) a9_ a9_ := Agree.refl _ _
      obtain ⟨T, d⟩ := a9_
      refine wp_region_still_lit (by kernel_rfl) (by kernel_rfl) ?_
      iterate 7
       with_reducible refine wpStill_step (fun K hK => ?_)
       go_simp
       with_reducible refine hK _ ?_
       clear hK K
      with_reducible refine wpStill_nil ?_
      refine ⟨rfl, ag, aq, aq, rfl⟩
    rintro a10_ wa10_ ⟨hAa10_, k_2, k_3, hwa10_⟩
    have hszf := hAa10_.size.trans hszc____
    have hdf := hAa10_.defers.trans hdc____
    refine wp_ret ?_
    repeat (first | with_reducible apply inbody_ret | with_reducible apply then_ret)
    refine bodyPost_ret (v := .tuple #[.int .i64 xa, .int .i64 xe]) (results_two rfl k_2 k_3 (by omega) (by omega)) hdf ?_
    refine ⟨⟨xa, xe, rfl, ?_⟩, by rw [hwa10_]; exact HKG.out.drew⟩
    rw [HXA.out, HXE.out]
    exact tells_at HG.out HNO.out HMIN.out.1 HMIN.out.2
 · rintro b wr hA ⟨hL, hno, hk⟩
   have hszb := hA.size.trans hsz___
   have hdb := hA.defers.trans hd___
   have HKG : Hid (Keep (fun _ => False) w wr) := HK3.out.trans hk (fun i hi e => by have := HPB.out; omega)
   have hall : ∀ x ∈ l, x.1 = [] := fun x hx => hno x (by rw [List.take_of_length_le (by omega)]; exact hx)
   clear hA hL hno hk
   refine wp_seq (Code.wp_only (R := fun a11_ wa11_ => Agree (fun i => i == 2 || i == 3) b a11_ ∧ At a11_ 2 (.int .i64 0) ∧ At a11_ 3 (.int .i64 0) ∧ wa11_ = wr) ?_ ?_)
   · have hAr : Agree (fun i => i == 2 || i == 3) b b := Agree.refl _ _
     obtain ⟨T, d⟩ := b
     refine wp_region_lit ?_
     iterate 2 with_reducible refine st ?_
     refine wpList_nil ⟨rfl, ag, aq, aq, rfl⟩
   rintro a11_ wa11_ ⟨hAa11_, k_2, k_3, rfl⟩
   have hszb_ := hAa11_.size.trans hszb
   have hdb_ := hAa11_.defers.trans hdb
   refine wp_ret ?_
   repeat (first | with_reducible apply inbody_ret | with_reducible apply then_ret)
   refine bodyPost_ret (v := .tuple #[.int .i64 0, .int .i64 0]) (results_two rfl k_2 k_3 (by omega) (by omega)) hdb_ ?_
   exact ⟨⟨0, 0, rfl, tells_none hall⟩, HKG.out⟩
end Go.Proofs.YtpblcjipmoblnaaGreatDoor
