/- PlansB -/
import Derived.Test.YtpblcjipmoblnaaGreatDoorPlansA
import Derived.Test.YtpblcjipmoblnaaGreatDoorIdxF
set_option maxRecDepth 100000
set_option maxHeartbeats 4000000
set_option linter.unusedVariables false
set_option linter.unusedSimpArgs false
namespace Go.Proofs.YtpblcjipmoblnaaGreatDoor
open Go.RowKit Go.IntWalk Go.Shelf Ck
attribute [local go_sem] Oper.semAt_some
def cpuF (P : Policy) (l : List (Fin P.subjects.length)) : ByteArray → Value := lastF (fun i => P.subjects[i].name) (fun i => .int .u64 (P.subjects[i].cpu : Nat)) (fun _ => .int .u64 0) l
theorem cpuF_all (P : Policy) (s : ByteArray) : cpuF P (List.finRange _) s = .int .u64 (cpuOf P s : Nat) := by
 unfold cpuF cpuOf
 rw [lastF_find, find_fin P.subjects]
 cases (List.finRange P.subjects.length).find? fun i => decide (P.subjects[i].name = s) <;> rfl
theorem calls_absM {P : Program} {f : FuncId} {fn : Func} {N : Nat} {args : Array Value} {w : World} {R : Ending → World → Prop} (hf : P.funcs[f]? = some fn) (hN : fn.ntmps = N) (hb : fn.body.isSome = true) (hle : args.size ≤ N)
 (h : ∀ a : Act, a.tmps.size = N → a.defers = [] → (∀ i v, args[i]? = some v → At a i v) → (codeC fn []).wp P (bodyPostM Fence.wide 9 P fn R) a w) : Calls P f args w R := by
 obtain ⟨c, hc⟩ := Option.isSome_iff_exists.1 hb
 have e : codeC fn [] = c := by unfold codeC; rw [hc]; rfl
 rw [e] at h
 refine (callsIn_wide (n := 9)).1 (callsIn_of_wp_marks hf hc trivial (wpIn_wide.2 (h _ ?_ rfl fun i v hv => ?_)))
 · simp [hN]; omega
 · intro hl
   have hi : i < args.size := (Array.getElem?_eq_some_iff.1 hv).1
   show (args ++ Array.replicate (fn.ntmps - args.size) undef)[i] = v
   rw [Array.getElem_append_left hi]
   exact (Array.getElem?_eq_some_iff.1 hv).2
theorem ownI_map {β : Type} {N k : Nat} {cs : Array Value} {t : TypeId} {z : Nat × Nat} : OwnFrom N (fun (_ : β) W => W.heap[k]? = some (.cells cs t z)) := Own.from (ownI_cells k cs t z) N
theorem zip_two (T : Array Value) (p q : Nat) (u v : Value) : (#[p, q].zip #[u, v]).foldl (fun (t : Array Value) (x : Nat × Value) => match x with | (p, v) => t.setIfInBounds p v) T = (T.setIfInBounds p u).setIfInBounds q v := by
 simp [List.zip_toArray]
theorem plans_back {B : Nat} {w : World} {v : PolV} {P : Policy} (hp : PolAt B w v P) (hB : B ≤ w.heap.size) {A_s : Option Addr} {c_s : Nat} (hvs : v.subjects = .slice A_s P.subjects.length c_s) {mb mc bx : Nat} (hm : w.heap[mb]? = some (.map #[] 0)) (hmc : w.heap[mc]? = some (.cells #[.map (some mb)] 184 (0, 0))) (hbx : w.heap[bx]? = some (.cells #[.slice A_s P.subjects.length c_s] 26 (0, 0)))
 (hmB : B ≤ mb) (a : Act) (hsz : a.tmps.size = 130) (h2 : At a 2 (.pointer (some ⟨mc, 0, none⟩))) (h55 : At a 55 (.func (.func 129) #[] #[.pointer (some ⟨bx, 0, none⟩)])) (Q : Exit → Act → World → Prop)
 (hQ : ∀ D W, w.heap.size ≤ D → CpuMap W mb P → W.heap[mc]? = some (.cells #[.map (some mb)] 184 (0, 0)) → Keep (fun k => k = mb) w W → W.heap[D]? = some (.deferred (some [])) → Q .normal { a with defers := { target := .collected D, args := #[] } :: a.defers } W) :
 (codeC Tryz.f55 [1,1,1,0,1]).wp Tryz.prog Q a w := by
 have hs := hp.subjects
 rw [hvs] at hs
 obtain ⟨_, _, e, hcc, hn, hl⟩ := hs
 cases e
 unfold top at hn
 have HQ := Lib.hid hQ
 have hmcl := heap_lt hmc
 have hml := heap_lt hm
 have hbl := heap_lt hbx
 have hmm : mc ≠ mb := by rintro rfl; rw [hmc] at hm; cases hm
 have hbm : bx ≠ mb := by rintro rfl; rw [hbx] at hm; cases hm
 clear hQ
 conv => arg 2; whnf
 refine wp_block ((wpIn_wide (n := 9)).1 ?_)
 obtain ⟨sf, hsf, hphi⟩ := list_rows (σ := (Option Addr × Nat) × (Option Addr × Nat)) (fun (x : Subject) s => [.int .i64 x.pos, .string x.name, .int .u64 x.cpu, .bool x.stopped, .slice s.1.1 x.maps.length s.1.2, .slice s.2.1 x.rules.length s.2.2]) (fun x _ => Short x.name) (fun b o x hx => by
  obtain ⟨u, u2, hc, ⟨Am, cm, rfl, _⟩, ⟨Ar, cr, rfl, _⟩, _, _, hs⟩ := hx
  exact ⟨((Am, cm), (Ar, cr)), hc, hs⟩) hl
 obtain ⟨vs, hvs⟩ : ∃ vs : Nat → Nat → Value, vs = fun j c => if h : j < P.subjects.length then ([.int .i64 P.subjects[j].pos, .string P.subjects[j].name, .int .u64 P.subjects[j].cpu, .bool P.subjects[j].stopped, .slice (sf j).1.1 P.subjects[j].maps.length (sf j).1.2, .slice (sf j).2.1 P.subjects[j].rules.length (sf j).2.2] : List Value).getD c undef else undef := ⟨_, rfl⟩
 have hA : 0 < P.subjects.length → ∃ b off, A_s = some ⟨b, off, none⟩ ∧ b < w.heap.size ∧ b ≠ mb ∧ ∀ j c, j < P.subjects.length → c < 6 → w.cell? ⟨b, off + j * 6 + c, none⟩ = some (vs j c) := fun hpos => by
  obtain ⟨b, off, h1, h2, h3⟩ := hsf hpos
  refine ⟨b, off, h1, by omega, by omega, fun j c hj hc => ?_⟩
  rw [hvs]
  simp only [dif_pos hj]
  refine (h3 j hj) c _ ?_
  match c, hc with
  | 0, _ => rfl
  | 1, _ => rfl
  | 2, _ => rfl
  | 3, _ => rfl
  | 4, _ => rfl
  | 5, _ => rfl
 have hst := back129_stops Fence.wide 8 trivial rfl (by decide) bx mb w.heap.size P.subjects.length c_s A_s vs (by omega) hcc ⟨hbl, hbm⟩ w (Nat.le_refl _) (cell_of_one hbx) hA
 rw [show (fun x : Fin P.subjects.length => (#[.int .i64 (x.val : Int), .agg #[vs x.val 0, vs x.val 1, vs x.val 2, vs x.val 3, vs x.val 4, vs x.val 5]] : Array Value)) = fun x => #[.int .i64 (x.val : Int), .agg #[.int .i64 P.subjects[x.val].pos, .string P.subjects[x.val].name, .int .u64 P.subjects[x.val].cpu, .bool P.subjects[x.val].stopped, .slice (sf x.val).1.1 P.subjects[x.val].maps.length (sf x.val).1.2, .slice (sf x.val).2.1 P.subjects[x.val].rules.length (sf x.val).2.2]] from by
  funext x
  rw [hvs]
  simp only [dif_pos x.isLt]
  rfl] at hst
 have e55 : a.eval (.tmp 55) = .func (.func 129) #[] #[.pointer (some ⟨bx, 0, none⟩)] := h55.eval (by rw [hsz]; decide)
 refine wpIn_rangeFunc_ownH (F := Fence.wide) (n := 9) rfl (by decide) (gf := 129) (lb := #[.pointer (some ⟨bx, 0, none⟩)]) e55 trivial (enters_of Tryz.func129 (by kernel_rfl) rfl)
  hst kpM_t (kpM_b (Nat.le_refl _)) (Below.refl _ _) (fun _ => rfl)
  (fun pre W => (SMap W mb pre.length (.int .u64 0) (cpuF P pre.reverse) (lastP (fun i => P.subjects[i].name) (fun _ => false) pre.reverse) ∧ W.heap[mc]? = some (.cells #[.map (some mb)] 184 (0, 0))) ∧ (Keep (fun k => k = mb) w W))
  (fun _ _ _ => False)
  (OwnFrom.and (OwnFrom.and (fun s A B row hs hg hr => SMap.own hs hg (fun r e => (hr r e).1) hml) ownI_map) (fun s A B row hs hg hr => hs.trans (Keep.of_grown hg (S := fun k => w.heap.size ≤ k) (fun k e => (hr k e).1)) (fun i hi h => by omega)))
  (fun _ _ _ _ _ hs _ _ => hs)
  ⟨⟨SMap.new _ _ _ hm, hmc⟩, Keep.refl _ _⟩
  (fun x (a' : Act) (W : World) => ∃ Bx : Nat, W.heap[Bx]? = some (Obj.cells #[.int .i64 P.subjects[x.val].pos, .string P.subjects[x.val].name, .int .u64 P.subjects[x.val].cpu, .bool P.subjects[x.val].stopped, .slice (sf x.val).1.1 P.subjects[x.val].maps.length (sf x.val).1.2, .slice (sf x.val).2.1 P.subjects[x.val].rules.length (sf x.val).2.2] 52 (0, 0)) ∧ a'.tmps.size = 130 ∧ At a' 2 (.pointer (some ⟨mc, 0, none⟩)) ∧ At a' 4 (.pointer (some ⟨Bx, 0, none⟩)))
  (fun x a' s A B row hs hg hr => by
    obtain ⟨Bx, h2, h3⟩ := hs
    exact ⟨Bx, heap_own h2 hg (fun r e => (hr r e).2), h3⟩)
  ?assign ?body ?done ?stop
 case assign =>
  rintro l pre x W K ⟨⟨hS, h3⟩, hB⟩ hK
  have hlt2 := heap_lt h3
  have HK := Lib.hid hK
  clear hst hA hphi hsf hvs hl hK hp
  obtain ⟨T, d⟩ := a
  have hsz' : ((T.setIfInBounds 56 (.int .i64 (x.val : Int))).setIfInBounds 57 (.agg #[.int .i64 P.subjects[x.val].pos, .string P.subjects[x.val].name, .int .u64 P.subjects[x.val].cpu, .bool P.subjects[x.val].stopped, .slice (sf x.val).1.1 P.subjects[x.val].maps.length (sf x.val).1.2, .slice (sf x.val).2.1 P.subjects[x.val].rules.length (sf x.val).2.2])).size = 130 := by simpa using hsz
  refine wpIn_region_lit ?_
  rw [zip_two]
  dsimp only
  iterate 2
   with_reducible refine wpListIn_step (fun K hK => ?_)
   go_simp
   with_reducible refine hK _ _ ?_
   clear hK K
  refine wpListIn_nil ?_
  refine HK.out _ _ ((KeepsOthers.alloc _ _).from _) ((Keep.refl _ _).alloc _) ⟨⟨hS.keep (((Keep.refl (fun _ => False) _).alloc _)) (fun h => h), (Below.heap_alloc _ _ _ hlt2).trans h3⟩, hB.alloc _⟩ ⟨W.heap.size, heap_alloc_new _ _, ?_, ?_, ?_⟩
  · simpa using hsz
  · (repeat (first | with_reducible exact At.self | with_reducible apply At.ne)); all_goals first | decide | with_reducible exact h2
  · exact aq
 case body =>
  rintro l pre x a' W hl _ ⟨⟨hS, h3⟩, hB⟩ ⟨Bx, hX, hszx, k2, k4⟩ hlt
  have q1 : W.cell? ⟨Bx, 1, none⟩ = some (.string P.subjects[x.val].name) := by rw [cell_of_row _ _ _ _ _ _ hX]; rfl
  have q2 : W.cell? ⟨Bx, 2, none⟩ = some (.int .u64 P.subjects[x.val].cpu) := by rw [cell_of_row _ _ _ _ _ _ hX]; rfl
  have qm := cell_of_one h3
  have hsh := hphi x.val x.isLt
  have HS := Lib.hid hS
  have H3 := Lib.hid h3
  have HB := Lib.hid hB
  have HSH : Hid (Short P.subjects[x.val].name) := Lib.hid hsh
  clear hS h3 hB hX hst hA hphi hsf hvs hsh hp
  obtain ⟨T, d⟩ := a'
  refine wpIn_block (wpIn_region_lit ?_)
  iterate 5
   with_reducible refine wpListIn_step (fun K hK => ?_)
   go_simp
   with_reducible refine hK _ _ ?_
   clear hK K
  refine SMap.updateIn rfl HS.out (by unfold maxLen; omega) rfl rfl Tryz.underlying184 (At.eval (by exact aq) (by have := hszx; simp at this ⊢; omega)) (At.eval (by exact aq) (by have := hszx; simp at this ⊢; omega)) (Nat.le_trans HSH.out (by unfold maxLen; omega)) (At.eval (by exact aq) (by have := hszx; simp at this ⊢; omega)) ?_
  intro w2 hS2 hk2
  refine wpListIn_nil ?_
  have e1 : (pre ++ [x]).reverse = x :: pre.reverse := by simp
  have e2 : (pre ++ [x]).length = pre.length + 1 := by simp
  refine ⟨keepsFrom_of hk2 hml, hk2.mono fun _ _ h => .inl h, ⟨?_, (hk2.block _ (heap_lt H3.out) hmm).trans H3.out⟩, HB.out.trans hk2 (fun _ _ h => h)⟩
  rw [e1, e2]
  exact hS2
 case done =>
  rintro D ys W hD rfl ⟨⟨hS, h3⟩, hB⟩ hK
  rw [backTo_all] at hS
  have f1 : cpuF P (List.finRange _) = fun s => .int .u64 (cpuOf P s : Nat) := funext fun s => cpuF_all P s
  rw [f1] at hS
  exact HQ.out D W hD ⟨_, _, hS⟩ h3 hB hK
 case stop =>
  rintro D c pre W _ _ h _
  exact h.elim
theorem look_turn {B : Nat} {w w' : World} {pb : Nat} {v : PolV} {P : Policy} {W : Int → Int} {L : List Wr} (h : LookAt B w pb v P W L) {m : Nat} (hk : Keep (fun k => k = m) w w') (hm : m < w.heap.size → B ≤ m ∧ tyOf w m = none) : LookAt B w' pb v P W L :=
 h.keep hk fun k hs hl => by
  subst hs
  obtain ⟨h1, h2⟩ := hm hl
  exact ⟨h1, by rw [h2]; simp, by rw [h2]; simp⟩
theorem plans_any {B : Nat} {w : World} {pb : Nat} {v : PolV} {P : Policy} (h : LookAt B w pb v P why7 []) : Calls Tryz.prog 55 #[.pointer (some ⟨pb, 0, none⟩)] w fun e w' => e = .returned (.tuple #[]) ∧ LookAt B w' pb v P why7 (plansW flat2 P) ∧ Keep (fun k => k = pb) w w' := by
 have hBp := h.base
 have hlt := h.lt
 obtain ⟨A_t, c_t, hvt, _, hnt, _⟩ := h.pol.starts
 obtain ⟨A_p, c_p, hvp, hcp, hnp, hlp⟩ := h.pol.plans
 obtain ⟨A_m, c_m, hvm, _, hnm, _⟩ := h.pol.masters
 obtain ⟨A_s, c_s, hvs, hcs, hns, hls⟩ := h.pol.subjects
 unfold top at hnt hnp hnm hns
 have q11 : w.cell? ⟨pb, 11, none⟩ = some (.slice A_t P.starts.length c_t) := by rw [← hvt]; exact h.cell rfl
 have q0 : w.cell? ⟨pb, 0, none⟩ = some (.int .i64 P.pos) := h.cell rfl
 have HL0 := Lib.hid (h.new ((Keep.refl _ w).drew))
 have HLP := Lib.hid hlp
 have HVS := Lib.hid hvs
 clear h hlp hls hvt
 refine calls_absM Tryz.func55 Tryz.ntmps55 rfl (by show 1 ≤ 130; decide) fun a hsz hd hh => ?_
 have h0 : At a 0 (.pointer (some ⟨pb, 0, none⟩)) := hh 0 _ rfl
 clear hh
 conv => arg 2; whnf
 obtain ⟨bs, hbs⟩ : ∃ b, b = decide (0 < P.starts.length) := ⟨_, rfl⟩
 have w1bs : decide ((0 : Int) < (P.starts.length : Int)) = bs := by rw [hbs]; exact decide_eq_decide.2 (by omega)
 have w2bs : decide (0 < P.starts.length) = bs := hbs.symm
 have HBS := Lib.hid hbs
 clear hbs
 refine wp_seq (Code.wp_only (R := fun a1_ wa1_ => Agree (fun i => (decide (11 ≤ i) && decide (i ≤ 24))) a a1_ ∧ LookAt B wa1_ pb v P why7 (say bs P.pos 0) ∧ Keep (fun k => k = pb) w wa1_) ?_ ?_)
 · have hAr : Agree (fun i => (decide (11 ≤ i) && decide (i ≤ 24))) a a := Agree.refl _ _
   obtain ⟨T, d⟩ := a
   refine wp_region_still_tail 13 (by kernel_rfl) (by kernel_rfl) ?_
   simp only [List.take_succ_cons, List.take_zero, List.drop_succ_cons, List.drop_zero]
   iterate 13
    with_reducible refine wpStill_step (fun K hK => ?_)
    go_simp
    with_reducible refine hK _ ?_
    clear hK K
   with_reducible refine wpStill_nil ?_
   with_reducible refine wpList_step (fun K hK => ?_)
   go_simp
   refine (must_any bs P.pos 0 107 HL0.out rfl).mono ?_
   rintro e w2 ⟨rfl, hL2, hk2⟩
   with_reducible refine hK _ _ (wpList_nil ?_)
   refine ⟨rfl, ag, by simpa using hL2, ((Keep.refl _ _).drew).trans hk2 (fun _ _ e => e)⟩
 rintro a1_ wa1_ ⟨hAa1_, hLa1_, hka1_⟩
 replace h0 := hAa1_.at_ h0 rfl
 have hsz_ := hAa1_.size.trans hsz
 have hd_ := hAa1_.defers.trans hd
 have p9 : wa1_.cell? ⟨pb, 9, none⟩ = some (.slice A_p P.plans.length c_p) := by rw [← hvp]; exact hLa1_.cell rfl
 have p10 : wa1_.cell? ⟨pb, 10, none⟩ = some (.slice A_m P.masters.length c_m) := by rw [← hvm]; exact hLa1_.cell rfl
 have p5 : wa1_.cell? ⟨pb, 5, none⟩ = some (.slice A_s P.subjects.length c_s) := by rw [← HVS.out]; exact hLa1_.cell rfl
 clear hvp hvm w1bs w2bs q0 q11
 obtain ⟨bp, hbp⟩ : ∃ b, b = decide (1 < P.plans.length) := ⟨_, rfl⟩
 have w1bp : decide ((1 : Int) < (P.plans.length : Int)) = bp := by rw [hbp]; exact decide_eq_decide.2 (by omega)
 have w2bp : decide (1 < P.plans.length) = bp := hbp.symm
 have HBP := Lib.hid hbp
 clear hbp
 have HL1 := Lib.hid hLa1_
 have HK1 := Lib.hid hka1_
 clear hLa1_ hka1_
 refine wp_seq (wp_seq (Code.wp_only (R := fun a2_ wa2_ => Agree (fun i => (decide (25 ≤ i) && decide (i ≤ 31))) a1_ a2_ ∧ At a2_ 31 (.bool bp) ∧ wa2_ = wa1_) ?_ ?_))
 · have hAr : Agree (fun i => (decide (25 ≤ i) && decide (i ≤ 31))) a1_ a1_ := Agree.refl _ _
   obtain ⟨T, d⟩ := a1_
   refine wp_region_lit ?_
   iterate 7 with_reducible refine st ?_
   refine wpList_nil ⟨rfl, ag, aq, rfl⟩
 rintro a2_ wa2_ ⟨hAa2_, k_31, rfl⟩
 replace h0 := hAa2_.at_ h0 rfl
 have hsz__ := hAa2_.size.trans hsz_
 have hd__ := hAa2_.defers.trans hd_
 refine Code.wp_only (R := fun a3_ wa3_ => Agree (fun i => (decide (32 ≤ i) && decide (i ≤ 48))) a2_ a3_ ∧ LookAt B wa3_ pb v P why7 (say bs P.pos 0 ++ (match P.plans[1]? with | some x => say (decide (0 < P.masters.length)) x.pos 1 | none => [])) ∧ Keep (fun k => k = pb) wa2_ wa3_) ?_ ?_
 · refine wp_cond_split (k_31.eval (by omega)) (fun hg => ?_) (fun hg => ?_)
   · have hlp1 : 1 < P.plans.length := by have h1 := HBP.out; rw [hg] at h1; exact of_decide_eq_true h1.symm
     obtain ⟨x, hx⟩ : ∃ x, P.plans[1]? = some x := ⟨_, List.getElem?_eq_getElem hlp1⟩
     obtain ⟨bl, off, rfl, hbl, hcs1⟩ := HLP.out (by omega)
     obtain ⟨lv, hc, _⟩ := (plan_stays B) _ _ _ _ _ (HK1.out.below (B := B) (by omega) (fun _ hi e => by omega)) hbl (hcs1 1 x hx)
     have r0 := hc.c0
     rw [Nat.one_mul] at r0
     obtain ⟨bm, hbm⟩ : ∃ b, b = decide (0 < P.masters.length) := ⟨_, rfl⟩
     have w1bm : decide ((0 : Int) < (P.masters.length : Int)) = bm := by rw [hbm]; exact decide_eq_decide.2 (by omega)
     have w2bm : decide (0 < P.masters.length) = bm := hbm.symm
     have HX := Lib.hid hx
     have HBM := Lib.hid hbm
     have hpc : 1 ≤ c_p := by omega
     have hpi : (1 : Int) < (P.plans.length : Int) := by omega
     have HLd := Lib.hid (HL1.out.new ((Keep.refl _ wa2_).drew))
     clear hbm hx hc hcs1 hg w1bp w2bp k_31
     have hAr : Agree (fun i => (decide (32 ≤ i) && decide (i ≤ 48))) a2_ a2_ := Agree.refl _ _
     obtain ⟨T, d⟩ := a2_
     refine wp_region_still_tail 16 (by kernel_rfl) (by kernel_rfl) ?_
     simp only [List.take_succ_cons, List.take_zero, List.drop_succ_cons, List.drop_zero]
     iterate 16
      with_reducible refine wpStill_step (fun K hK => ?_)
      go_simp
      with_reducible refine hK _ ?_
      clear hK K
     with_reducible refine wpStill_nil ?_
     with_reducible refine wpList_step (fun K hK => ?_)
     go_simp
     refine (must_any bm x.pos 1 106 HLd.out rfl).mono ?_
     rintro e w2 ⟨rfl, hL2, hk2⟩
     with_reducible refine hK _ _ (wpList_nil ?_)
     refine ⟨rfl, ?_, hL2.congr fun p => ?_, ((Keep.refl _ _).drew).trans hk2 (fun _ _ e => e)⟩
     · exact ag
     · rw [HX.out, HBM.out]
       simp only [List.mem_append]
       try simp only [or_comm]
   · have hlp1 : ¬ 1 < P.plans.length := by have h1 := HBP.out; rw [hg] at h1; exact of_decide_eq_false h1.symm
     refine wp_skip ⟨rfl, Agree.refl _ _, ?_, Keep.refl _ _⟩
     rw [List.getElem?_eq_none (by omega)]
     simpa using HL1.out
 rintro a3_ wa3_ ⟨hAa3_, hL3, hk3⟩
 replace h0 := hAa3_.at_ h0 rfl
 have hsz___ := hAa3_.size.trans hsz__
 have hd___ := hAa3_.defers.trans hd__
 have p5 : wa3_.cell? ⟨pb, 5, none⟩ = some (.slice A_s P.subjects.length c_s) := by rw [← HVS.out]; exact hL3.cell rfl
 have HL3 := Lib.hid hL3
 have HK3 : Hid (Keep (fun k => k = pb) w wa3_) := HK1.out.trans hk3 (fun _ _ h => h)
 have hlt3 := hL3.lt
 clear hL3 hk3 p9 p10 w1bp w2bp HLP
 have hmm := @run_makeMap Tryz.prog
 refine wp_seq (Code.wp_only (R := fun a4_ wa4_ => Agree (fun i => i == 2 || i == 49) a3_ a4_ ∧ At a4_ 2 (.pointer (some ⟨wa3_.heap.size + 1, 0, none⟩)) ∧ wa4_ = (wa3_.alloc (.map #[] 0)).alloc (.cells #[.map (some wa3_.heap.size)] 184)) ?_ ?_)
 · have hAr : Agree (fun i => i == 2 || i == 49) a3_ a3_ := Agree.refl _ _
   obtain ⟨T, d⟩ := a3_
   refine wp_region_lit ?_
   iterate 3 with_reducible refine st ?_
   refine wpList_nil ⟨rfl, ag, aq, rfl⟩
 rintro a4_ wa4_ ⟨hAa4_, h2, hwa4_⟩
 replace h0 := hAa4_.at_ h0 rfl
 have hsz____ := hAa4_.size.trans hsz___
 have hd____ := hAa4_.defers.trans hd___
 clear hmm
 obtain ⟨mb, hmb⟩ : ∃ m, m = wa3_.heap.size := ⟨_, rfl⟩
 rw [← hmb] at h2 hwa4_
 have s4 : wa4_.heap.size = mb + 2 := by rw [hwa4_, hmb]; simp
 have f1 : wa4_.heap[mb]? = some (.map #[] 0) := by rw [hwa4_, hmb, Below.heap_alloc _ _ _ (by simp)]; exact heap_alloc_new _ _
 have f2 : wa4_.heap[mb + 1]? = some (.cells #[.map (some mb)] 184 (0, 0)) := by
  rw [hwa4_]
  have := heap_alloc_new (wa3_.alloc (.map #[] 0)) (.cells #[.map (some mb)] 184)
  rwa [World.size_alloc, ← hmb] at this
 have hk4 : Keep (fun _ => False) wa3_ wa4_ := by rw [hwa4_]; exact ((Keep.refl _ _).alloc _).alloc _
 replace p5 := (hk4.cell (p := ⟨pb, 5, none⟩) hlt3 (fun h => h)).trans p5
 have HMB := Lib.hid hmb
 have HS4 := Lib.hid s4
 clear hwa4_ hmb s4
 refine wp_seq (wp_seq (Code.wp_only (R := fun a5_ wa5_ => Agree (fun i => (decide (50 ≤ i) && decide (i ≤ 55))) a4_ a5_ ∧ At a5_ 55 (.func (.func 129) #[] #[.pointer (some ⟨wa4_.heap.size, 0, none⟩)]) ∧ wa5_ = wa4_.alloc (.cells #[.slice A_s P.subjects.length c_s] 26)) ?_ ?_))
 · have hAr : Agree (fun i => (decide (50 ≤ i) && decide (i ≤ 55))) a4_ a4_ := Agree.refl _ _
   obtain ⟨T, d⟩ := a4_
   refine wp_region_lit ?_
   iterate 5 with_reducible refine st ?_
   with_reducible refine wpList_step (fun K hK => ?_)
   go_simp
   refine ((callsIn_wide (n := 9)).1 (backward104_in Fence.wide 9 trivial rfl A_s P.subjects.length c_s _)).mono ?_
   rintro e w5 ⟨rfl, rfl⟩
   with_reducible refine hK _ _ ?_
   clear hK K
   refine wpList_nil ⟨rfl, ag, aq, rfl⟩
 rintro a5_ wa5_ ⟨hAa5_, h55, hwa5_⟩
 replace h0 := hAa5_.at_ h0 rfl
 replace h2 := hAa5_.at_ h2 rfl
 have hsz_____ := hAa5_.size.trans hsz____
 have hd_____ := hAa5_.defers.trans hd____
 obtain ⟨bx, hbx⟩ : ∃ m, m = wa4_.heap.size := ⟨_, rfl⟩
 rw [← hbx] at h55
 have f3 : wa5_.heap[bx]? = some (.cells #[.slice A_s P.subjects.length c_s] 26 (0, 0)) := by rw [hwa5_, hbx]; exact heap_alloc_new _ _
 have hk5 : Keep (fun _ => False) wa4_ wa5_ := by rw [hwa5_]; exact (Keep.refl _ _).alloc _
 have hk35 : Keep (fun _ => False) wa3_ wa5_ := hk4.trans hk5 (fun _ _ h => h)
 have hL5 := HL3.out.new hk35
 have hmbs : pb < mb := by rw [HMB.out]; exact hlt3
 have hs5 := hk5.size
 have hs4 := HS4.out
 refine plans_back hL5.pol (by omega) HVS.out ((hk5.block mb (heap_lt f1) (fun h => h)).trans f1) ((hk5.block (mb + 1) (heap_lt f2) (fun h => h)).trans f2) f3 (by omega) a5_ hsz_____ h2 h55 _ ?_
 intro D W hD hcm hmc hkW hK
 with_reducible apply then_normal
 have hL6 := look_turn hL5 hkW (fun _ => ⟨by omega, by unfold tyOf; rw [(hk5.block mb (heap_lt f1) (fun h => h)).trans f1]⟩)
 refine plans_plans hL6 hmc hcm ⟨by omega, by omega⟩ { tmps := a5_.tmps, defers := { target := .collected D, args := #[] } :: a5_.defers } hsz_____ h0 h2 _ ?_
 intro a' w' hA' hL' hk'
 have hdf : a'.defers = [{ target := .collected D, args := #[] }] := by rw [hA'.defers]; show _ :: a5_.defers = _; rw [show a5_.defers = [] from hd_____]
 have hDp : D ≠ pb := by omega
 have hK' : w'.heap[D]? = some (.deferred (some [])) := (hk'.block D (heap_lt hK) hDp).trans hK
 have hkp : Keep (fun k => k = D) w' (w'.putObj D (.deferred none)) := Keep.of_grown (grownBy_putObj' w' D (.deferred none)) (fun k e => by cases e; rfl)
 have hL'' := look_turn hL' hkp (fun _ => ⟨by omega, by unfold tyOf; rw [hK']⟩)
 have hkf : Keep (fun k => k = pb) w w' := ((HK3.out.trans hk35 (fun _ _ h => h.elim)).trans hkW (fun i hi e => by have := HK3.out.size; have := HMB.out; omega)).trans hk' (fun _ _ h => h)
 have hkf' : Keep (fun k => k = pb) w (w'.putObj D (.deferred none)) := hkf.trans hkp (fun i hi e => by have := HK3.out.size; have := HMB.out; omega)
 show LeavesInM Fence.wide 9 Tryz.prog Tryz.f55 a'.tmps _ a'.defers .returning w'
 rw [hdf]
 refine ⟨by simp, .inl ⟨_, _, rfl, run_takeDeferred hK', ?_⟩⟩
 refine ⟨_, results_none rfl _ _ _, rfl, hL''.congr fun p => ?_, hkf'⟩
 unfold plansW
 rw [HBS.out]
 simp only [List.mem_append]
 try simp only [or_assoc, or_comm, or_left_comm]
 exact Iff.rfl
end Go.Proofs.YtpblcjipmoblnaaGreatDoor
