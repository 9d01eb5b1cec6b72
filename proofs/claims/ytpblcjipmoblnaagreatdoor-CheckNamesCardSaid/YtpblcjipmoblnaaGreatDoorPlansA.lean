/- AheadA LaneC PlansA -/
import Derived.Test.YtpblcjipmoblnaaGreatDoorFor2
import Derived.Test.YtpblcjipmoblnaaGreatDoorIdxF
import Derived.Test.YtpblcjipmoblnaaGreatDoorLFlat
import Derived.Test.YtpblcjipmoblnaaGreatDoorIsEr
import Derived.Test.YtpblcjipmoblnaaGreatDoorNamesA
import Derived.Test.YtpblcjipmoblnaaGreatDoorNamesB
set_option maxRecDepth 100000
set_option maxHeartbeats 4000000
set_option linter.unusedVariables false
set_option linter.unusedSimpArgs false
namespace Go.Proofs.YtpblcjipmoblnaaGreatDoor
open Go.RowKit Go.IntWalk Ck
theorem runs_at {B : Nat} {w : World} {A : Option Addr} {c : Nat} {xs : List Run} (h : SliceAt B 4 RunAt w (.slice A xs.length c) xs) (hB : B ≤ w.heap.size) : RunsAt w A xs := by
 obtain ⟨_, _, e, _, _, hl⟩ := h
 cases e
 intro hn
 obtain ⟨b, off, hA, hb, hc⟩ := hl hn
 refine ⟨b, off, hA, by omega, fun i r hr => ?_⟩
 have := (hc i r hr).1
 exact ⟨this.c0, this 1 _ rfl, this 2 _ rfl, this 3 _ rfl⟩
theorem runs_ok {B : Nat} {w : World} {A : Option Addr} {c : Nat} {xs : List Run} (h : SliceAt B 4 RunAt w (.slice A xs.length c) xs) : ∀ r ∈ xs, r.bud < 18446744073709551616 ∧ r.per < 18446744073709551616 := by
 intro r hr
 obtain ⟨A, c, _, _, _, hl⟩ := h
 obtain ⟨bl, off, _, _, hcs⟩ := hl (List.length_pos_of_mem hr)
 obtain ⟨k, hk⟩ := List.getElem?_of_mem hr
 have := (hcs k r hk).2
 exact ⟨this.2.1, this.2.2.1⟩
def flatL (M : Nat) (y : Lane) : Nat × Int × Int := ((Ln.flatAny M y.needs y.runs).1.length, (Ln.flatAny M y.needs y.runs).2.1, (Ln.flatAny M y.needs y.runs).2.2)
theorem ahead_flat {w : World} {zp bl off n c k M : Nat} {y : Lane} {A_r : Option Addr} {c_r : Nat} {R : List Slot × Int × Int} (hR : R = Ln.flatAny M y.needs y.runs)
 (qm : w.cell? ⟨zp, 2, none⟩ = some (.int .u64 M)) (ql : w.cell? ⟨zp, 3, none⟩ = some (.slice (some ⟨bl, off, none⟩) n c)) (hk : k < n) (hkc : n ≤ c) (hnt : n ≤ 2097152)
 (q0 : w.cell? ⟨bl, off + k * 4, none⟩ = some (.int .i64 y.pos)) (q1 : w.cell? ⟨bl, off + k * 4 + 1, none⟩ = some (.int .u64 y.cpu)) (q2 : w.cell? ⟨bl, off + k * 4 + 2, none⟩ = some (.bool y.needs)) (q3 : w.cell? ⟨bl, off + k * 4 + 3, none⟩ = some (.slice A_r y.runs.length c_r))
 (hF : Calls Tryz.prog 66 #[.int .u64 M, .agg #[.int .i64 y.pos, .int .u64 y.cpu, .bool y.needs, .slice A_r y.runs.length c_r]] w.drew (FlatPost w.drew R)) (a : Act) (hsz : a.tmps.size = 104) (h8 : At a 8 (.pointer (some ⟨zp, 0, none⟩))) (h11 : At a 11 (.int .i64 k)) (Q : Exit → Act → World → Prop)
 (hQ : ∀ a' w' v, Agree (fun i => i == 12 || i == 13 || i == 14 || (decide (82 ≤ i) && decide (i ≤ 93))) a a' → At a' 12 v → w'.ownsRow w.heap.size 256 3 v R.1.length (slotCells R.1) → Below w.heap.size w w' → Q .normal a' w') :
 (codeC Tryz.f60 [1,1,1,1,0,1,0,0,1,1,0,0,1,1,0,0,1,1,0,0,1,1,0,1,1,0,0]).wp Tryz.prog Q a w := by
 have HF := Lib.hid hF
 have HQ := Lib.hid hQ
 clear hF hQ hR
 conv => arg 2; whnf
 refine wp_region_inv (fun L a' w' => Agree (fun i => i == 12 || i == 13 || i == 14 || (decide (82 ≤ i) && decide (i ≤ 93))) a a' ∧ (L 0 = true → At a' 83 (.pointer (some ⟨zp, 2, none⟩))) ∧ (L 1 = true → At a' 84 (.int .u64 M)) ∧ (L 2 = true → At a' 85 (.pointer (some ⟨zp, 3, none⟩))) ∧ (L 3 = true → At a' 86 (.slice (some ⟨bl, off, none⟩) n c)) ∧ (L 4 = true → At a' 87 (.int .i64 k)) ∧ (L 5 = true → At a' 88 (.pointer (some ⟨bl, off + k * 4, none⟩))) ∧ (L 6 = true → At a' 89 (.agg #[.int .i64 y.pos, .int .u64 y.cpu, .bool y.needs, .slice A_r y.runs.length c_r])) ∧ (L 7 = false → w' = w.drew ∧ L 8 = false ∧ L 9 = false ∧ L 10 = false ∧ L 11 = false ∧ L 12 = false) ∧ (L 7 = true → ∃ v, w'.ownsRow w.heap.size 256 3 v R.1.length (slotCells R.1) ∧ Below w.heap.size w.drew w' ∧ At a' 90 (.tuple #[v, .int .i64 R.2.1, .int .i64 R.2.2]) ∧ (L 8 = true → At a' 82 (.tuple #[v, .int .i64 R.2.1, .int .i64 R.2.2])) ∧ (L 9 = true → At a' 91 (v)) ∧ (L 10 = true → At a' 92 (.int .i64 R.2.1)) ∧ (L 11 = true → At a' 93 (.int .i64 R.2.2)) ∧ (L 12 = true → At a' 12 (v)))) (by kernel_rfl) (by kernel_rfl) ?_ ?_ ?_
 · exact ⟨Agree.refl _ _, (fun h => by cases h), (fun h => by cases h), (fun h => by cases h), (fun h => by cases h), (fun h => by cases h), (fun h => by cases h), (fun h => by cases h), (fun _ => ⟨rfl, rfl, rfl, rfl, rfl, rfl⟩), (fun h => by cases h)⟩
 · rintro L a' w' i op ⟨hA, c0, c1, c2, c3, c4, c5, c6, hw, hv⟩ ho hL he K hK
   have k8 := hA.at_ h8 rfl
   have k11 := hA.at_ h11 rfl
   have hszz := hA.size.trans hsz
   have hi : i < 15 := by
    have := (List.getElem?_eq_some_iff.1 ho).1
    simpa using this
   rcases (by omega : i = 0 ∨ i = 1 ∨ i = 2 ∨ i = 3 ∨ i = 4 ∨ i = 5 ∨ i = 6 ∨ i = 7 ∨ i = 8 ∨ i = 9 ∨ i = 10 ∨ i = 11 ∨ i = 12 ∨ i = 13 ∨ i = 14) with rfl | rfl | rfl | rfl | rfl | rfl | rfl | rfl | rfl | rfl | rfl | rfl | rfl | rfl | rfl
   · obtain rfl := Option.some.inj (ho : some _ = some op)
     clear ho hi
     clear he
     have qm7 : L 7 = true ∨ w' = w.drew := by
      cases h : L 7 with
      | true => exact .inl rfl
      | false => exact .inr (hw h).1
     have hk7 : Below w.heap.size w w' := by
      rcases qm7 with h | h
      · obtain ⟨v, _, hb, _⟩ := hv h; exact ⟨hb.os, hb.tape, hb.output, hb.size, hb.block⟩
      · rw [h]; exact ⟨rfl, rfl, rfl, Nat.le_refl _, fun _ _ => rfl⟩
     clear hk7 qm7
     have HA := Lib.hid hA
     have HW := Lib.hid hw
     have HV := Lib.hid hv
     clear hA hw hv
     obtain ⟨T, d⟩ := a'
     go_simp
     refine hK _ _ ?_
     exact ⟨HA.out.set rfl _, (fun _ => At.self), (fun h => (c1 h).ne (by decide)), (fun h => (c2 h).ne (by decide)), (fun h => (c3 h).ne (by decide)), (fun h => (c4 h).ne (by decide)), (fun h => (c5 h).ne (by decide)), (fun h => (c6 h).ne (by decide)), HW.out, (fun h => by obtain ⟨v, ho, hb, e7, e8, e9, e10, e11, e12⟩ := HV.out h; exact ⟨v, ho, hb, e7.ne (by decide), fun h => (e8 h).ne (by decide), fun h => (e9 h).ne (by decide), fun h => (e10 h).ne (by decide), fun h => (e11 h).ne (by decide), fun h => (e12 h).ne (by decide)⟩)⟩
   · obtain rfl := Option.some.inj (ho : some _ = some op)
     clear ho hi
     have d0 : L 0 = true := by simpa [Region.binds] using he
     clear he
     have kk0 := c0 d0
     have qm7 : L 7 = true ∨ w' = w.drew := by
      cases h : L 7 with
      | true => exact .inl rfl
      | false => exact .inr (hw h).1
     have hk7 : Below w.heap.size w w' := by
      rcases qm7 with h | h
      · obtain ⟨v, _, hb, _⟩ := hv h; exact ⟨hb.os, hb.tape, hb.output, hb.size, hb.block⟩
      · rw [h]; exact ⟨rfl, rfl, rfl, Nat.le_refl _, fun _ _ => rfl⟩
     replace qm := (hk7.cell (p := ⟨zp, 2, none⟩) (World.block_lt_of_cell? w ⟨zp, 2, none⟩ qm)).trans qm
     clear hk7 qm7
     have HA := Lib.hid hA
     have HW := Lib.hid hw
     have HV := Lib.hid hv
     clear hA hw hv
     obtain ⟨T, d⟩ := a'
     go_simp
     refine hK _ _ ?_
     exact ⟨HA.out.set rfl _, (fun h => (c0 h).ne (by decide)), (fun _ => At.self), (fun h => (c2 h).ne (by decide)), (fun h => (c3 h).ne (by decide)), (fun h => (c4 h).ne (by decide)), (fun h => (c5 h).ne (by decide)), (fun h => (c6 h).ne (by decide)), HW.out, (fun h => by obtain ⟨v, ho, hb, e7, e8, e9, e10, e11, e12⟩ := HV.out h; exact ⟨v, ho, hb, e7.ne (by decide), fun h => (e8 h).ne (by decide), fun h => (e9 h).ne (by decide), fun h => (e10 h).ne (by decide), fun h => (e11 h).ne (by decide), fun h => (e12 h).ne (by decide)⟩)⟩
   · obtain rfl := Option.some.inj (ho : some _ = some op)
     clear ho hi
     clear he
     have qm7 : L 7 = true ∨ w' = w.drew := by
      cases h : L 7 with
      | true => exact .inl rfl
      | false => exact .inr (hw h).1
     have hk7 : Below w.heap.size w w' := by
      rcases qm7 with h | h
      · obtain ⟨v, _, hb, _⟩ := hv h; exact ⟨hb.os, hb.tape, hb.output, hb.size, hb.block⟩
      · rw [h]; exact ⟨rfl, rfl, rfl, Nat.le_refl _, fun _ _ => rfl⟩
     clear hk7 qm7
     have HA := Lib.hid hA
     have HW := Lib.hid hw
     have HV := Lib.hid hv
     clear hA hw hv
     obtain ⟨T, d⟩ := a'
     go_simp
     refine hK _ _ ?_
     exact ⟨HA.out.set rfl _, (fun h => (c0 h).ne (by decide)), (fun h => (c1 h).ne (by decide)), (fun _ => At.self), (fun h => (c3 h).ne (by decide)), (fun h => (c4 h).ne (by decide)), (fun h => (c5 h).ne (by decide)), (fun h => (c6 h).ne (by decide)), HW.out, (fun h => by obtain ⟨v, ho, hb, e7, e8, e9, e10, e11, e12⟩ := HV.out h; exact ⟨v, ho, hb, e7.ne (by decide), fun h => (e8 h).ne (by decide), fun h => (e9 h).ne (by decide), fun h => (e10 h).ne (by decide), fun h => (e11 h).ne (by decide), fun h => (e12 h).ne (by decide)⟩)⟩
   · obtain rfl := Option.some.inj (ho : some _ = some op)
     clear ho hi
     have d2 : L 2 = true := by simpa [Region.binds] using he
     clear he
     have kk0 := c2 d2
     have qm7 : L 7 = true ∨ w' = w.drew := by
      cases h : L 7 with
      | true => exact .inl rfl
      | false => exact .inr (hw h).1
     have hk7 : Below w.heap.size w w' := by
      rcases qm7 with h | h
      · obtain ⟨v, _, hb, _⟩ := hv h; exact ⟨hb.os, hb.tape, hb.output, hb.size, hb.block⟩
      · rw [h]; exact ⟨rfl, rfl, rfl, Nat.le_refl _, fun _ _ => rfl⟩
     replace ql := (hk7.cell (p := ⟨zp, 3, none⟩) (World.block_lt_of_cell? w ⟨zp, 3, none⟩ ql)).trans ql
     clear hk7 qm7
     have HA := Lib.hid hA
     have HW := Lib.hid hw
     have HV := Lib.hid hv
     clear hA hw hv
     obtain ⟨T, d⟩ := a'
     go_simp
     refine hK _ _ ?_
     exact ⟨HA.out.set rfl _, (fun h => (c0 h).ne (by decide)), (fun h => (c1 h).ne (by decide)), (fun h => (c2 h).ne (by decide)), (fun _ => At.self), (fun h => (c4 h).ne (by decide)), (fun h => (c5 h).ne (by decide)), (fun h => (c6 h).ne (by decide)), HW.out, (fun h => by obtain ⟨v, ho, hb, e7, e8, e9, e10, e11, e12⟩ := HV.out h; exact ⟨v, ho, hb, e7.ne (by decide), fun h => (e8 h).ne (by decide), fun h => (e9 h).ne (by decide), fun h => (e10 h).ne (by decide), fun h => (e11 h).ne (by decide), fun h => (e12 h).ne (by decide)⟩)⟩
   · obtain rfl := Option.some.inj (ho : some _ = some op)
     clear ho hi
     clear he
     have qm7 : L 7 = true ∨ w' = w.drew := by
      cases h : L 7 with
      | true => exact .inl rfl
      | false => exact .inr (hw h).1
     have hk7 : Below w.heap.size w w' := by
      rcases qm7 with h | h
      · obtain ⟨v, _, hb, _⟩ := hv h; exact ⟨hb.os, hb.tape, hb.output, hb.size, hb.block⟩
      · rw [h]; exact ⟨rfl, rfl, rfl, Nat.le_refl _, fun _ _ => rfl⟩
     clear hk7 qm7
     have HA := Lib.hid hA
     have HW := Lib.hid hw
     have HV := Lib.hid hv
     clear hA hw hv
     obtain ⟨T, d⟩ := a'
     go_simp
     refine hK _ _ ?_
     exact ⟨HA.out.set rfl _, (fun h => (c0 h).ne (by decide)), (fun h => (c1 h).ne (by decide)), (fun h => (c2 h).ne (by decide)), (fun h => (c3 h).ne (by decide)), (fun _ => At.self), (fun h => (c5 h).ne (by decide)), (fun h => (c6 h).ne (by decide)), HW.out, (fun h => by obtain ⟨v, ho, hb, e7, e8, e9, e10, e11, e12⟩ := HV.out h; exact ⟨v, ho, hb, e7.ne (by decide), fun h => (e8 h).ne (by decide), fun h => (e9 h).ne (by decide), fun h => (e10 h).ne (by decide), fun h => (e11 h).ne (by decide), fun h => (e12 h).ne (by decide)⟩)⟩
   · obtain rfl := Option.some.inj (ho : some _ = some op)
     clear ho hi
     have d3 : L 3 = true := by have := he; simp [Region.binds] at this; exact this.1
     have d4 : L 4 = true := by have := he; simp [Region.binds] at this; exact this.2
     clear he
     have kk0 := c3 d3
     have kk1 := c4 d4
     have qm7 : L 7 = true ∨ w' = w.drew := by
      cases h : L 7 with
      | true => exact .inl rfl
      | false => exact .inr (hw h).1
     have hk7 : Below w.heap.size w w' := by
      rcases qm7 with h | h
      · obtain ⟨v, _, hb, _⟩ := hv h; exact ⟨hb.os, hb.tape, hb.output, hb.size, hb.block⟩
      · rw [h]; exact ⟨rfl, rfl, rfl, Nat.le_refl _, fun _ _ => rfl⟩
     clear hk7 qm7
     have HA := Lib.hid hA
     have HW := Lib.hid hw
     have HV := Lib.hid hv
     clear hA hw hv
     obtain ⟨T, d⟩ := a'
     go_simp
     refine hK _ _ ?_
     exact ⟨HA.out.set rfl _, (fun h => (c0 h).ne (by decide)), (fun h => (c1 h).ne (by decide)), (fun h => (c2 h).ne (by decide)), (fun h => (c3 h).ne (by decide)), (fun h => (c4 h).ne (by decide)), (fun _ => At.self), (fun h => (c6 h).ne (by decide)), HW.out, (fun h => by obtain ⟨v, ho, hb, e7, e8, e9, e10, e11, e12⟩ := HV.out h; exact ⟨v, ho, hb, e7.ne (by decide), fun h => (e8 h).ne (by decide), fun h => (e9 h).ne (by decide), fun h => (e10 h).ne (by decide), fun h => (e11 h).ne (by decide), fun h => (e12 h).ne (by decide)⟩)⟩
   · obtain rfl := Option.some.inj (ho : some _ = some op)
     clear ho hi
     have d5 : L 5 = true := by simpa [Region.binds] using he
     clear he
     have kk0 := c5 d5
     have qm7 : L 7 = true ∨ w' = w.drew := by
      cases h : L 7 with
      | true => exact .inl rfl
      | false => exact .inr (hw h).1
     have hk7 : Below w.heap.size w w' := by
      rcases qm7 with h | h
      · obtain ⟨v, _, hb, _⟩ := hv h; exact ⟨hb.os, hb.tape, hb.output, hb.size, hb.block⟩
      · rw [h]; exact ⟨rfl, rfl, rfl, Nat.le_refl _, fun _ _ => rfl⟩
     replace q0 := (hk7.cell (p := ⟨bl, off + k * 4, none⟩) (World.block_lt_of_cell? w ⟨bl, off + k * 4, none⟩ q0)).trans q0
     replace q1 := (hk7.cell (p := ⟨bl, off + k * 4 + 1, none⟩) (World.block_lt_of_cell? w ⟨bl, off + k * 4 + 1, none⟩ q1)).trans q1
     replace q2 := (hk7.cell (p := ⟨bl, off + k * 4 + 2, none⟩) (World.block_lt_of_cell? w ⟨bl, off + k * 4 + 2, none⟩ q2)).trans q2
     replace q3 := (hk7.cell (p := ⟨bl, off + k * 4 + 3, none⟩) (World.block_lt_of_cell? w ⟨bl, off + k * 4 + 3, none⟩ q3)).trans q3
     clear hk7 qm7
     have HA := Lib.hid hA
     have HW := Lib.hid hw
     have HV := Lib.hid hv
     clear hA hw hv
     obtain ⟨T, d⟩ := a'
     go_simp
     refine hK _ _ ?_
     exact ⟨HA.out.set rfl _, (fun h => (c0 h).ne (by decide)), (fun h => (c1 h).ne (by decide)), (fun h => (c2 h).ne (by decide)), (fun h => (c3 h).ne (by decide)), (fun h => (c4 h).ne (by decide)), (fun h => (c5 h).ne (by decide)), (fun _ => At.self), HW.out, (fun h => by obtain ⟨v, ho, hb, e7, e8, e9, e10, e11, e12⟩ := HV.out h; exact ⟨v, ho, hb, e7.ne (by decide), fun h => (e8 h).ne (by decide), fun h => (e9 h).ne (by decide), fun h => (e10 h).ne (by decide), fun h => (e11 h).ne (by decide), fun h => (e12 h).ne (by decide)⟩)⟩
   · obtain rfl := Option.some.inj (ho : some _ = some op)
     clear ho hi
     have d1 : L 1 = true := by have := he; simp [Region.binds] at this; exact this.1
     have d6 : L 6 = true := by have := he; simp [Region.binds] at this; exact this.2
     clear he
     obtain ⟨hw0, n8, n9, n10, n11, n12⟩ := hw hL
     subst hw0
     have k84 := c1 d1
     have k89 := c6 d6
     have HA := Lib.hid hA
     have HW := Lib.hid hw
     have HV := Lib.hid hv
     clear hA hw hv
     obtain ⟨T, d⟩ := a'
     go_simp
     refine HF.out.mono ?_
     rintro e w2 ⟨v, rfl, ho2, hb2⟩
     refine hK _ _ ?_
     exact ⟨HA.out.set rfl _, (fun h => (c0 h).ne (by decide)), (fun h => (c1 h).ne (by decide)), (fun h => (c2 h).ne (by decide)), (fun h => (c3 h).ne (by decide)), (fun h => (c4 h).ne (by decide)), (fun h => (c5 h).ne (by decide)), (fun h => (c6 h).ne (by decide)), (fun h => by cases h), (fun _ => ⟨v, ho2, hb2, At.self, fun h => absurd (n8.symm.trans h) (by decide), fun h => absurd (n9.symm.trans h) (by decide), fun h => absurd (n10.symm.trans h) (by decide), fun h => absurd (n11.symm.trans h) (by decide), fun h => absurd (n12.symm.trans h) (by decide)⟩)⟩
   · obtain rfl := Option.some.inj (ho : some _ = some op)
     clear ho hi
     have d7 : L 7 = true := by simpa [Region.binds] using he
     clear he
     have d7 : L 7 = true := by
      cases h : L 7 with
      | true => rfl
      | false => simp_all
     obtain ⟨v, ho, hb, e7, e8, e9, e10, e11, e12⟩ := hv d7
     have kk0 := e7
     have HO := Lib.hid ho
     have HBB := Lib.hid hb
     clear ho hb
     have HA := Lib.hid hA
     have HW := Lib.hid hw
     have HV := Lib.hid hv
     clear hA hw hv
     obtain ⟨T, d⟩ := a'
     go_simp
     refine hK _ _ ?_
     exact ⟨HA.out.set rfl _, (fun h => (c0 h).ne (by decide)), (fun h => (c1 h).ne (by decide)), (fun h => (c2 h).ne (by decide)), (fun h => (c3 h).ne (by decide)), (fun h => (c4 h).ne (by decide)), (fun h => (c5 h).ne (by decide)), (fun h => (c6 h).ne (by decide)), (fun h => absurd (d7.symm.trans h) (by decide)), (fun _ => ⟨v, HO.out, HBB.out, e7.ne (by decide), fun _ => At.self, fun h => (e9 h).ne (by decide), fun h => (e10 h).ne (by decide), fun h => (e11 h).ne (by decide), fun h => (e12 h).ne (by decide)⟩)⟩
   · obtain rfl := Option.some.inj (ho : some _ = some op)
     clear ho hi
     have d8 : L 8 = true := by simpa [Region.binds] using he
     clear he
     have d7 : L 7 = true := by
      cases h : L 7 with
      | true => rfl
      | false => obtain ⟨_, n8, n9, n10, n11, n12⟩ := hw h; simp_all
     obtain ⟨v, ho, hb, e7, e8, e9, e10, e11, e12⟩ := hv d7
     have kk0 := e8 d8
     have HO := Lib.hid ho
     have HBB := Lib.hid hb
     clear ho hb
     have HA := Lib.hid hA
     have HW := Lib.hid hw
     have HV := Lib.hid hv
     clear hA hw hv
     obtain ⟨T, d⟩ := a'
     go_simp
     refine hK _ _ ?_
     exact ⟨HA.out.set rfl _, (fun h => (c0 h).ne (by decide)), (fun h => (c1 h).ne (by decide)), (fun h => (c2 h).ne (by decide)), (fun h => (c3 h).ne (by decide)), (fun h => (c4 h).ne (by decide)), (fun h => (c5 h).ne (by decide)), (fun h => (c6 h).ne (by decide)), (fun h => absurd (d7.symm.trans h) (by decide)), (fun _ => ⟨v, HO.out, HBB.out, e7.ne (by decide), fun h => (e8 h).ne (by decide), fun _ => At.self, fun h => (e10 h).ne (by decide), fun h => (e11 h).ne (by decide), fun h => (e12 h).ne (by decide)⟩)⟩
   · obtain rfl := Option.some.inj (ho : some _ = some op)
     clear ho hi
     have d8 : L 8 = true := by simpa [Region.binds] using he
     clear he
     have d7 : L 7 = true := by
      cases h : L 7 with
      | true => rfl
      | false => obtain ⟨_, n8, n9, n10, n11, n12⟩ := hw h; simp_all
     obtain ⟨v, ho, hb, e7, e8, e9, e10, e11, e12⟩ := hv d7
     have kk0 := e8 d8
     have HO := Lib.hid ho
     have HBB := Lib.hid hb
     clear ho hb
     have HA := Lib.hid hA
     have HW := Lib.hid hw
     have HV := Lib.hid hv
     clear hA hw hv
     obtain ⟨T, d⟩ := a'
     go_simp
     refine hK _ _ ?_
     exact ⟨HA.out.set rfl _, (fun h => (c0 h).ne (by decide)), (fun h => (c1 h).ne (by decide)), (fun h => (c2 h).ne (by decide)), (fun h => (c3 h).ne (by decide)), (fun h => (c4 h).ne (by decide)), (fun h => (c5 h).ne (by decide)), (fun h => (c6 h).ne (by decide)), (fun h => absurd (d7.symm.trans h) (by decide)), (fun _ => ⟨v, HO.out, HBB.out, e7.ne (by decide), fun h => (e8 h).ne (by decide), fun h => (e9 h).ne (by decide), fun _ => At.self, fun h => (e11 h).ne (by decide), fun h => (e12 h).ne (by decide)⟩)⟩
   · obtain rfl := Option.some.inj (ho : some _ = some op)
     clear ho hi
     have d8 : L 8 = true := by simpa [Region.binds] using he
     clear he
     have d7 : L 7 = true := by
      cases h : L 7 with
      | true => rfl
      | false => obtain ⟨_, n8, n9, n10, n11, n12⟩ := hw h; simp_all
     obtain ⟨v, ho, hb, e7, e8, e9, e10, e11, e12⟩ := hv d7
     have kk0 := e8 d8
     have HO := Lib.hid ho
     have HBB := Lib.hid hb
     clear ho hb
     have HA := Lib.hid hA
     have HW := Lib.hid hw
     have HV := Lib.hid hv
     clear hA hw hv
     obtain ⟨T, d⟩ := a'
     go_simp
     refine hK _ _ ?_
     exact ⟨HA.out.set rfl _, (fun h => (c0 h).ne (by decide)), (fun h => (c1 h).ne (by decide)), (fun h => (c2 h).ne (by decide)), (fun h => (c3 h).ne (by decide)), (fun h => (c4 h).ne (by decide)), (fun h => (c5 h).ne (by decide)), (fun h => (c6 h).ne (by decide)), (fun h => absurd (d7.symm.trans h) (by decide)), (fun _ => ⟨v, HO.out, HBB.out, e7.ne (by decide), fun h => (e8 h).ne (by decide), fun h => (e9 h).ne (by decide), fun h => (e10 h).ne (by decide), fun _ => At.self, fun h => (e12 h).ne (by decide)⟩)⟩
   · obtain rfl := Option.some.inj (ho : some _ = some op)
     clear ho hi
     have d9 : L 9 = true := by have := he; simp [Region.binds] at this; exact this.1
     clear he
     have d7 : L 7 = true := by
      cases h : L 7 with
      | true => rfl
      | false => obtain ⟨_, n8, n9, n10, n11, n12⟩ := hw h; simp_all
     obtain ⟨v, ho, hb, e7, e8, e9, e10, e11, e12⟩ := hv d7
     have kk0 := e9 d9
     have HO := Lib.hid ho
     have HBB := Lib.hid hb
     clear ho hb
     have HA := Lib.hid hA
     have HW := Lib.hid hw
     have HV := Lib.hid hv
     clear hA hw hv
     obtain ⟨T, d⟩ := a'
     go_simp
     refine hK _ _ ?_
     exact ⟨HA.out.set rfl _, (fun h => (c0 h).ne (by decide)), (fun h => (c1 h).ne (by decide)), (fun h => (c2 h).ne (by decide)), (fun h => (c3 h).ne (by decide)), (fun h => (c4 h).ne (by decide)), (fun h => (c5 h).ne (by decide)), (fun h => (c6 h).ne (by decide)), (fun h => absurd (d7.symm.trans h) (by decide)), (fun _ => ⟨v, HO.out, HBB.out, e7.ne (by decide), fun h => (e8 h).ne (by decide), fun h => (e9 h).ne (by decide), fun h => (e10 h).ne (by decide), fun h => (e11 h).ne (by decide), fun _ => At.self⟩)⟩
   · obtain rfl := Option.some.inj (ho : some _ = some op)
     clear ho hi
     have d10 : L 10 = true := by have := he; simp [Region.binds] at this; exact this.1
     clear he
     have d7 : L 7 = true := by
      cases h : L 7 with
      | true => rfl
      | false => obtain ⟨_, n8, n9, n10, n11, n12⟩ := hw h; simp_all
     obtain ⟨v, ho, hb, e7, e8, e9, e10, e11, e12⟩ := hv d7
     have kk0 := e10 d10
     have HO := Lib.hid ho
     have HBB := Lib.hid hb
     clear ho hb
     have HA := Lib.hid hA
     have HW := Lib.hid hw
     have HV := Lib.hid hv
     clear hA hw hv
     obtain ⟨T, d⟩ := a'
     go_simp
     refine hK _ _ ?_
     exact ⟨HA.out.set rfl _, (fun h => (c0 h).ne (by decide)), (fun h => (c1 h).ne (by decide)), (fun h => (c2 h).ne (by decide)), (fun h => (c3 h).ne (by decide)), (fun h => (c4 h).ne (by decide)), (fun h => (c5 h).ne (by decide)), (fun h => (c6 h).ne (by decide)), (fun h => absurd (d7.symm.trans h) (by decide)), (fun _ => ⟨v, HO.out, HBB.out, e7.ne (by decide), fun h => (e8 h).ne (by decide), fun h => (e9 h).ne (by decide), fun h => (e10 h).ne (by decide), fun h => (e11 h).ne (by decide), fun h => (e12 h).ne (by decide)⟩)⟩
   · obtain rfl := Option.some.inj (ho : some _ = some op)
     clear ho hi
     have d11 : L 11 = true := by have := he; simp [Region.binds] at this; exact this.1
     clear he
     have d7 : L 7 = true := by
      cases h : L 7 with
      | true => rfl
      | false => obtain ⟨_, n8, n9, n10, n11, n12⟩ := hw h; simp_all
     obtain ⟨v, ho, hb, e7, e8, e9, e10, e11, e12⟩ := hv d7
     have kk0 := e11 d11
     have HO := Lib.hid ho
     have HBB := Lib.hid hb
     clear ho hb
     have HA := Lib.hid hA
     have HW := Lib.hid hw
     have HV := Lib.hid hv
     clear hA hw hv
     obtain ⟨T, d⟩ := a'
     go_simp
     refine hK _ _ ?_
     exact ⟨HA.out.set rfl _, (fun h => (c0 h).ne (by decide)), (fun h => (c1 h).ne (by decide)), (fun h => (c2 h).ne (by decide)), (fun h => (c3 h).ne (by decide)), (fun h => (c4 h).ne (by decide)), (fun h => (c5 h).ne (by decide)), (fun h => (c6 h).ne (by decide)), (fun h => absurd (d7.symm.trans h) (by decide)), (fun _ => ⟨v, HO.out, HBB.out, e7.ne (by decide), fun h => (e8 h).ne (by decide), fun h => (e9 h).ne (by decide), fun h => (e10 h).ne (by decide), fun h => (e11 h).ne (by decide), fun h => (e12 h).ne (by decide)⟩)⟩
 · rintro L a' w' ⟨hA, _, _, _, _, _, _, _, hw, hv⟩ hall
   obtain ⟨v, ho, hb, _, _, _, _, _, e12⟩ := hv (hall 7 (by decide))
   exact HQ.out a' w' v hA (e12 (hall 12 (by decide))) ho ⟨hb.os, hb.tape, hb.output, hb.size, hb.block⟩
theorem right_vals (M : Nat) (r : Run) (nd : Bool) : Ln.right M r nd = 0 ∨ Ln.right M r nd = 90 ∨ Ln.right M r nd = 80 ∨ Ln.right M r nd = 91 := by
 unfold Ln.right
 repeat' split
 all_goals simp
theorem flatErr_vals {M : Nat} {nd : Bool} : ∀ {l : List Run} {i s : Nat} {a e : Int}, Ln.flatErr M nd i s l = some (a, e) → (e = 90 ∨ e = 80 ∨ e = 91 ∨ e = 93) ∧ ∃ k : Nat, k < l.length ∧ a = (i + k : Nat)
 | [], _, _, _, _, h => by simp [Ln.flatErr] at h
 | r :: l, i, s, a, e, h => by
  unfold Ln.flatErr at h
  split at h
  · split at h
    · simp at h
      obtain ⟨rfl, rfl⟩ := h
      exact ⟨by simp, 0, by simp, by simp⟩
    · obtain ⟨h1, k, hk, he⟩ := flatErr_vals h
      exact ⟨h1, k + 1, by simp; omega, by rw [he]; congr 1; omega⟩
  · rename_i hr
    simp at h
    obtain ⟨rfl, rfl⟩ := h
    refine ⟨?_, 0, by simp, by simp⟩
    rcases right_vals M r nd with h | h | h | h
    · exact absurd h hr
    · exact .inl h
    · exact .inr (.inl h)
    · exact .inr (.inr (.inl h))
theorem flat_vals {M : Nat} {y : Lane} (h : ¬ (M < 1 ∨ 65536 < M)) : (flatL M y).2.2 = 0 ∨ ((flatL M y).2.2 = 90 ∨ (flatL M y).2.2 = 80 ∨ (flatL M y).2.2 = 91 ∨ (flatL M y).2.2 = 93) ∧ (∃ k : Nat, k < y.runs.length ∧ (flatL M y).2.1 = k) ∨ (flatL M y).2.2 = 4 ∧ (flatL M y).2.1 = -1 := by
 unfold flatL Ln.flatAny
 simp only [if_neg h]
 cases hq : Ln.flatErr M y.needs 0 0 y.runs with
 | none =>
  simp only
  unfold Ln.capped
  split
  · exact .inr (.inr ⟨rfl, rfl⟩)
  · exact .inl rfl
 | some q =>
  obtain ⟨a, e⟩ := q
  obtain ⟨h1, k, hk, he⟩ := flatErr_vals hq
  exact .inr (.inl ⟨h1, k, hk, by simpa using he⟩)
theorem why_rank {e : Int} (h : e = 90 ∨ e = 80 ∨ e = 91 ∨ e = 93 ∨ e = 4) : why7 (laneRank e) = e := by
 rcases h with rfl | rfl | rfl | rfl | rfl <;> rfl
def errsL : List Int := [90, 80, 91, 93]
theorem rank_at {e : Int} {k : Nat} {x : Int} (hx : errsL[k]? = some x) (he : e = x) (hn : ∀ z ∈ errsL.take k, e ≠ z) : laneRank e = 4 + k := by
 subst he
 match k, hx with
 | 0, hx => obtain rfl : _ = e := Option.some.inj hx; rfl
 | 1, hx => obtain rfl : _ = e := Option.some.inj hx; rfl
 | 2, hx => obtain rfl : _ = e := Option.some.inj hx; rfl
 | 3, hx => obtain rfl : _ = e := Option.some.inj hx; rfl
 | k + 4, hx => simp [errsL] at hx
theorem rank_none {e : Int} (hn : ∀ z ∈ errsL, e ≠ z) : laneRank e = 8 := by
 have h1 := hn 90 (by simp [errsL])
 have h2 := hn 80 (by simp [errsL])
 have h3 := hn 91 (by simp [errsL])
 have h4 := hn 93 (by simp [errsL])
 unfold laneRank
 rw [if_neg h1, if_neg h2, if_neg h3, if_neg h4]
theorem lane_any {B : Nat} {w : World} {pb : Nat} {v : PolV} {P : Policy} {L : List Wr} (h : LookAt B w pb v P why7 L) {M : Nat} (hM : ¬ (M < 1 ∨ 65536 < M)) {y : Lane} {A_r : Option Addr} {c_r : Nat} (hs : SliceAt B 4 RunAt w (.slice A_r y.runs.length c_r) y.runs) :
 Calls Tryz.prog 105 #[.pointer (some ⟨pb, 0, none⟩), .int .u64 M, .agg #[.int .i64 y.pos, .int .u64 y.cpu, .bool y.needs, .slice A_r y.runs.length c_r]] w fun e w' => e = .returned (.tuple #[]) ∧ LookAt B w' pb v P why7 (laneW (fun M y => (flatL M y).2) M y ++ L) ∧ Keep (fun k => k = pb) w w' := by
 have hBp := h.base
 have hlt := h.lt
 have HL := Lib.hid h
 have hv := flat_vals (y := y) hM
 have hfl : ∀ w1, Keep (fun _ => False) w w1 → Calls Tryz.prog 66 #[.int .u64 M, .agg #[.int .i64 y.pos, .int .u64 y.cpu, .bool y.needs, .slice A_r y.runs.length c_r]] w1 (FlatPost w1 (Ln.flatAny M y.needs y.runs)) := fun w1 hk =>
  flat_any M y.needs A_r c_r y.runs y.pos y.cpu w1 (by omega) (runs_ok hs) (by obtain ⟨_, _, e2, _, h2, _⟩ := hs; unfold top at h2; omega) (runs_at (hs.below (flat_stays _ _ _) (hk.below (B := B) (by omega) (fun _ _ h => h))) (Nat.le_trans (by omega) hk.size))
 obtain ⟨R, hR⟩ : ∃ R, R = Ln.flatAny M y.needs y.runs := ⟨_, rfl⟩
 rw [← hR] at hfl
 obtain ⟨ix, hix⟩ : ∃ i : Int, i = R.2.1 := ⟨_, rfl⟩
 obtain ⟨er, her⟩ : ∃ i : Int, i = R.2.2 := ⟨_, rfl⟩
 have hf : flatL M y = (R.1.length, ix, er) := by rw [hix, her, hR]; rfl
 have HW : Hid (laneW (fun M y => (flatL M y).2) M y = if er = 0 then [] else [(if 0 ≤ ix then ((y.runs[ix.toNat]?).map Run.pos).getD 0 else y.pos, laneRank er)]) := Lib.hid (by unfold laneW; simp only [hf])
 rw [hf] at hv
 simp only at hv
 have HV := Lib.hid hv
 unfold FlatPost at hfl
 rw [← hix, ← her] at hfl
 have HFL := Lib.hid hfl
 obtain ⟨_, _, e, hnc, hn, hl⟩ := hs
 cases e
 unfold top at hn
 have HRL := Lib.hid hl
 clear hv hfl hR hix her hf hl h
 refine calls_abs Tryz.func105 Tryz.ntmps105 rfl (by show 3 ≤ 51; decide) fun a hsz hd h => ?_
 have h0 : At a 0 (.pointer (some ⟨pb, 0, none⟩)) := h 0 _ rfl
 have h1 : At a 1 (.int .u64 M) := h 1 _ rfl
 have h2 : At a 2 (.agg #[.int .i64 y.pos, .int .u64 y.cpu, .bool y.needs, .slice A_r y.runs.length c_r]) := h 2 _ rfl
 clear h
 conv => arg 2; whnf
 refine wp_seq (Code.wp_only (R := fun a1_ wa1_ => Agree (fun i => i == 5) a a1_ ∧ At a1_ 5 (.pointer (some ⟨w.heap.size, 0, none⟩)) ∧ wa1_ = w.alloc (.cells #[.int .i64 y.pos, .int .u64 y.cpu, .bool y.needs, .slice A_r y.runs.length c_r] 92)) ?_ ?_)
 · have hAr : Agree (fun i => i == 5) a a := Agree.refl _ _
   obtain ⟨T, d⟩ := a
   refine wp_region_lit ?_
   with_reducible refine st ?_
   refine wpList_nil ⟨rfl, ag, aq, rfl⟩
 rintro a1_ wa1_ ⟨hAa1_, h5, hwa1_⟩
 replace h0 := hAa1_.at_ h0 rfl
 replace h1 := hAa1_.at_ h1 rfl
 replace h2 := hAa1_.at_ h2 rfl
 have hsz_ := hAa1_.size.trans hsz
 have hd_ := hAa1_.defers.trans hd
 obtain ⟨z, hz⟩ : ∃ z, z = w.heap.size := ⟨_, rfl⟩
 rw [← hz] at h5
 have fz : wa1_.heap[z]? = some (.cells #[.int .i64 y.pos, .int .u64 y.cpu, .bool y.needs, .slice A_r y.runs.length c_r] 92 (0, 0)) := by rw [hwa1_, hz]; exact heap_alloc_new _ _
 have hk1 : Keep (fun _ => False) w wa1_ := by rw [hwa1_]; exact (Keep.refl _ _).alloc _
 have HK1 := Lib.hid hk1
 have FZ := Lib.hid fz
 have hzp : z ≠ pb := by omega
 have q0 : wa1_.cell? ⟨z, 0, none⟩ = some (.int .i64 y.pos) := by rw [cell_of_row _ _ _ _ _ _ fz]; rfl
 have q1 : wa1_.cell? ⟨z, 1, none⟩ = some (.int .u64 y.cpu) := by rw [cell_of_row _ _ _ _ _ _ fz]; rfl
 have q2 : wa1_.cell? ⟨z, 2, none⟩ = some (.bool y.needs) := by rw [cell_of_row _ _ _ _ _ _ fz]; rfl
 have q3 : wa1_.cell? ⟨z, 3, none⟩ = some (.slice A_r y.runs.length c_r) := by rw [cell_of_row _ _ _ _ _ _ fz]; rfl
 have HC := Lib.hid (HFL.out wa1_ hk1)
 clear hwa1_ hz fz h2 hk1 HFL
 refine wp_seq (Code.wp_only (R := fun a2_ wa2_ => Agree (fun i => i == 6 || i == 7 || i == 8 || (decide (13 ≤ i) && decide (i ≤ 19))) a1_ a2_ ∧ At a2_ 7 (.int .i64 ix) ∧ At a2_ 8 (.int .i64 er) ∧ Keep (fun _ => False) wa1_ wa2_) ?_ ?_)
 · have hAr : Agree (fun i => i == 6 || i == 7 || i == 8 || (decide (13 ≤ i) && decide (i ≤ 19))) a1_ a1_ := Agree.refl _ _
   obtain ⟨T, d⟩ := a1_
   refine wp_region_lit ?_
   iterate 2 with_reducible refine st ?_
   with_reducible refine wpList_step (fun K hK => ?_)
   go_simp
   refine HC.out.mono ?_
   rintro e w2 ⟨fv, rfl, _, hbel⟩
   with_reducible refine hK _ _ ?_
   clear hK K
   have hk2 := below_keepF hbel rfl
   clear hbel
   iterate 7 with_reducible refine st ?_
   refine wpList_nil ⟨rfl, ?_, ?_, ?_, ?_⟩
   · exact ag
   · exact aq
   · exact aq
   · exact hk2
 rintro a2_ wa2_ ⟨hAa2_, k_7, k_8, hk2⟩
 replace h0 := hAa2_.at_ h0 rfl
 replace h1 := hAa2_.at_ h1 rfl
 replace h5 := hAa2_.at_ h5 rfl
 have hsz__ := hAa2_.size.trans hsz_
 have hd__ := hAa2_.defers.trans hd_
 have HK2 : Hid (Keep (fun _ => False) w wa2_) := HK1.out.trans hk2 (fun _ _ h => h)
 replace q0 := (hk2.cell (p := ⟨z, 0, none⟩) (heap_lt FZ.out) (fun h => h)).trans q0
 replace q3 := (hk2.cell (p := ⟨z, 3, none⟩) (heap_lt FZ.out) (fun h => h)).trans q3
 clear hk2 q1 q2 HC h1
 obtain ⟨z0, hz0⟩ : ∃ b, b = decide (er = 0) := ⟨_, rfl⟩
 have w1z0 : (er == 0) = z0 := by rw [hz0]; exact int_eqb _ _
 have HZ0 := Lib.hid hz0
 clear hz0
 refine wp_seq (wp_seq (Code.wp_only (R := fun a3_ wa3_ => Agree (fun i => i == 20 || i == 21) a2_ a3_ ∧ At a3_ 21 (.bool z0) ∧ wa3_ = wa2_) ?_ ?_))
 · have hAr : Agree (fun i => i == 20 || i == 21) a2_ a2_ := Agree.refl _ _
   obtain ⟨T, d⟩ := a2_
   refine wp_region_lit ?_
   iterate 2 with_reducible refine st ?_
   refine wpList_nil ⟨rfl, ag, aq, rfl⟩
 rintro a3_ wa3_ ⟨hAa3_, k_21, rfl⟩
 replace h0 := hAa3_.at_ h0 rfl
 replace h5 := hAa3_.at_ h5 rfl
 replace k_7 := hAa3_.at_ k_7 rfl
 replace k_8 := hAa3_.at_ k_8 rfl
 have hsz___ := hAa3_.size.trans hsz__
 have hd___ := hAa3_.defers.trans hd__
 refine wp_cond_split (k_21.eval (by omega)) (fun hg => ?_) (fun hg => ?_)
 · have he0 : er = 0 := by have h1 := HZ0.out; rw [hg] at h1; exact of_decide_eq_true h1.symm
   refine wp_ret ?_
   repeat (first | with_reducible apply inbody_ret | with_reducible apply then_ret)
   refine bodyPost_ret (results_none rfl _ _ _) hd___ ⟨rfl, ?_, (HK2.out.mono fun _ _ h => h.elim : Keep (fun k => k = pb) w _)⟩
   rw [HW.out, if_pos he0]
   exact HL.out.new HK2.out
 have he0 : er ≠ 0 := by have h1 := HZ0.out; rw [hg] at h1; exact of_decide_eq_false h1.symm
 refine wp_skip ?_
 have hw0 := HW.out
 rw [if_neg he0] at hw0
 have HW0 := Lib.hid hw0
 clear hw0 HW w1z0 hg
 refine wp_seq (Code.wp_only (R := fun a4_ wa4_ => Agree (fun i => i == 9 || i == 22 || i == 23) a3_ a4_ ∧ At a4_ 9 (.int .i64 y.pos) ∧ wa4_ = wa3_) ?_ ?_)
 · have hAr : Agree (fun i => i == 9 || i == 22 || i == 23) a3_ a3_ := Agree.refl _ _
   obtain ⟨T, d⟩ := a3_
   refine wp_region_lit ?_
   iterate 3 with_reducible refine st ?_
   refine wpList_nil ⟨rfl, ag, aq, rfl⟩
 rintro a4_ wa4_ ⟨hAa4_, k_9, rfl⟩
 replace h0 := hAa4_.at_ h0 rfl
 replace h5 := hAa4_.at_ h5 rfl
 replace k_7 := hAa4_.at_ k_7 rfl
 replace k_8 := hAa4_.at_ k_8 rfl
 have hsz____ := hAa4_.size.trans hsz___
 have hd____ := hAa4_.defers.trans hd___
 obtain ⟨ge, hge⟩ : ∃ b, b = decide (0 ≤ ix) := ⟨_, rfl⟩
 have w1ge : decide ((0 : Int) ≤ ix) = ge := hge.symm
 have HGE := Lib.hid hge
 clear hge
 refine wp_seq (wp_seq (Code.wp_only (R := fun a5_ wa5_ => Agree (fun i => i == 24 || i == 25) a4_ a5_ ∧ At a5_ 25 (.bool ge) ∧ wa5_ = wa4_) ?_ ?_))
 · have hAr : Agree (fun i => i == 24 || i == 25) a4_ a4_ := Agree.refl _ _
   obtain ⟨T, d⟩ := a4_
   refine wp_region_lit ?_
   iterate 2 with_reducible refine st ?_
   refine wpList_nil ⟨rfl, ag, aq, rfl⟩
 rintro a5_ wa5_ ⟨hAa5_, k_25, rfl⟩
 replace h0 := hAa5_.at_ h0 rfl
 replace h5 := hAa5_.at_ h5 rfl
 replace k_7 := hAa5_.at_ k_7 rfl
 replace k_8 := hAa5_.at_ k_8 rfl
 replace k_9 := hAa5_.at_ k_9 rfl
 have hsz_____ := hAa5_.size.trans hsz____
 have hd_____ := hAa5_.defers.trans hd____
 obtain ⟨pl, hpl⟩ : ∃ p : Int, p = (if 0 ≤ ix then ((y.runs[ix.toNat]?).map Run.pos).getD 0 else y.pos) := ⟨_, rfl⟩
 rw [← hpl] at HW0
 have HPL := Lib.hid hpl
 clear hpl
 refine Code.wp_only (R := fun a6_ wa6_ => Agree (fun i => i == 9 || (decide (26 ≤ i) && decide (i ≤ 31))) a5_ a6_ ∧ At a6_ 9 (.int .i64 pl) ∧ wa6_ = wa5_) ?_ ?_
 · refine wp_cond_split (k_25.eval (by omega)) (fun hg => ?_) (fun hg => ?_)
   · have hx0 : 0 ≤ ix := by have h1 := HGE.out; rw [hg] at h1; exact of_decide_eq_true h1.symm
     obtain ⟨k, hk, hke⟩ : ∃ k : Nat, k < y.runs.length ∧ ix = k := by
      rcases HV.out with h | ⟨_, h⟩ | ⟨_, h⟩
      · exact absurd h he0
      · exact h
      · omega
     obtain ⟨r, hr⟩ : ∃ r, y.runs[k]? = some r := ⟨_, List.getElem?_eq_getElem hk⟩
     obtain ⟨bl, off, rfl, hbl, hcs⟩ := HRL.out (by omega)
     obtain ⟨hc, _⟩ := (flat_stays B _ _) _ _ _ _ _ (HK2.out.below (B := B) (by omega) (fun _ _ h => h)) hbl (hcs k r hr)
     have r0 := hc.c0
     have hple : pl = r.pos := by rw [HPL.out, if_pos hx0, hke]; simp [hr]
     have hkc : k ≤ c_r := by omega
     have k_7k : At a5_ 7 (.int .i64 k) := by rw [← hke]; exact k_7
     have hAr : Agree (fun i => i == 9 || (decide (26 ≤ i) && decide (i ≤ 31))) a5_ a5_ := Agree.refl _ _
     have HPE := Lib.hid hple
     clear hg hcs hc hr hple hke HPL HGE w1ge k_7 k_25
     obtain ⟨T, d⟩ := a5_
     refine wp_region_lit ?_
     iterate 7 with_reducible refine st ?_
     refine wpList_nil ⟨rfl, ?_, ?_, rfl⟩
     · exact ag
     · rw [HPE.out]; exact At.self
   · have hx0 : ¬ 0 ≤ ix := by have h1 := HGE.out; rw [hg] at h1; exact of_decide_eq_false h1.symm
     refine wp_skip ⟨rfl, Agree.refl _ _, ?_, rfl⟩
     rw [HPL.out, if_neg hx0]
     exact k_9
 rintro a6_ wa6_ ⟨hAa6_, k_9n, rfl⟩
 replace h0 := hAa6_.at_ h0 rfl
 replace h5 := hAa6_.at_ h5 rfl
 replace k_7 := hAa6_.at_ k_7 rfl
 replace k_8 := hAa6_.at_ k_8 rfl
 have hsz______ := hAa6_.size.trans hsz_____
 have hd______ := hAa6_.defers.trans hd_____
 refine wp_seq (Code.wp_only (R := fun a7_ wa7_ => Agree (fun i => i == 10) a6_ a7_ ∧ At a7_ 10 (.int .i64 (4 : Nat)) ∧ wa7_ = wa6_) ?_ ?_)
 · have hAr : Agree (fun i => i == 10) a6_ a6_ := Agree.refl _ _
   obtain ⟨T, d⟩ := a6_
   refine wp_region_lit ?_
   with_reducible refine st ?_
   refine wpList_nil ⟨rfl, ?_, ?_, rfl⟩
   · exact ag
   · exact At.self
 rintro a7_ wa7_ ⟨hAa7_, k_10, rfl⟩
 replace h0 := hAa7_.at_ h0 rfl
 replace h5 := hAa7_.at_ h5 rfl
 replace k_7 := hAa7_.at_ k_7 rfl
 replace k_8 := hAa7_.at_ k_8 rfl
 replace k_9n := hAa7_.at_ k_9n rfl
 have hsz_______ := hAa7_.size.trans hsz______
 have hd_______ := hAa7_.defers.trans hd______
 clear w1ge HPL
 refine wp_seq (wp_seq (Code.wp_only (R := fun a8_ wa8_ => Agree (fun i => (decide (32 ≤ i) && decide (i ≤ 34))) a7_ a8_ ∧ At a8_ 32 (.slice (some ⟨wa7_.heap.size, 0, none⟩) 4 4) ∧ At a8_ 33 (.int .i64 (4 : Nat)) ∧ At a8_ 34 (.int .i64 0) ∧ wa8_ = wa7_.alloc (.cells #[.int .i64 90, .int .i64 80, .int .i64 91, .int .i64 93] 72)) ?_ ?_))
 · have hAr : Agree (fun i => (decide (32 ≤ i) && decide (i ≤ 34))) a7_ a7_ := Agree.refl _ _
   obtain ⟨T, d⟩ := a7_
   refine wp_region_lit ?_
   iterate 3 with_reducible refine st ?_
   refine wpList_nil ⟨rfl, ?_, ?_, ?_, ?_, rfl⟩
   · exact ag
   · exact aq
   · exact At.ne At.self (by decide)
   · exact aq
 rintro a8_ wa8_ ⟨hAa8_, k_s, k_n, k_i, hwa8_⟩
 replace h0 := hAa8_.at_ h0 rfl
 replace h5 := hAa8_.at_ h5 rfl
 replace k_7 := hAa8_.at_ k_7 rfl
 replace k_8 := hAa8_.at_ k_8 rfl
 replace k_9n := hAa8_.at_ k_9n rfl
 replace k_10 := hAa8_.at_ k_10 rfl
 have hsz________ := hAa8_.size.trans hsz_______
 have hd________ := hAa8_.defers.trans hd_______
 obtain ⟨ze, hze⟩ : ∃ z, z = wa7_.heap.size := ⟨_, rfl⟩
 rw [← hze] at k_s
 have fe : wa8_.heap[ze]? = some (.cells #[.int .i64 90, .int .i64 80, .int .i64 91, .int .i64 93] 72 (0, 0)) := by rw [hwa8_, hze]; exact heap_alloc_new _ _
 have HK7 : Hid (Keep (fun _ => False) w wa8_) := Lib.hid (HK2.out.trans (by rw [hwa8_]; exact (Keep.refl _ _).alloc _) (fun _ _ h => h))
 have FE := Lib.hid fe
 clear hwa8_ hze fe q0 q3
 refine Code.wp_only (R := fun a9_ wa9_ => Agree (fun i => i == 10 || i == 12 || (decide (34 ≤ i) && decide (i ≤ 45))) a8_ a9_ ∧ At a9_ 10 (.int .i64 (laneRank er)) ∧ Keep (fun _ => False) wa8_ wa9_) ?_ ?_
 · refine wp_range 4 (fun i => i == 10 || i == 12 || (decide (34 ≤ i) && decide (i ≤ 45))) (fun i => i == 10 || i == 12 || (decide (36 ≤ i) && decide (i ≤ 44))) (fun k a' w' => At a' 10 (.int .i64 (4 + k : Nat)) ∧ (∀ z ∈ errsL.take k, er ≠ z) ∧ Keep (fun _ => False) wa8_ w') (by omega) k_i k_n (by decide) rfl
    (by intro j; simp; omega) (by omega) (by decide) (fun k a1 a2 w hA ⟨hI, hk⟩ => ⟨hA.at_ hI rfl, hk⟩) ⟨by simpa using k_10, by simp, Keep.refl _ _⟩ ?_ ?_
   · rintro n b wr hlt hA k_j ⟨k_10r, hno, hk⟩
     obtain ⟨x, hx⟩ : ∃ x, errsL[n]? = some x := ⟨_, List.getElem?_eq_getElem (show n < errsL.length from hlt)⟩
     have fr := (hk.block ze (heap_lt FE.out) (fun h => h)).trans FE.out
     have q0 : wr.cell? ⟨ze, n, none⟩ = some (.int .i64 x) := by
      rw [cell_of_row _ _ _ _ _ _ fr]
      match n, hlt, hx with
      | 0, _, hx => obtain rfl : _ = x := Option.some.inj hx; rfl
      | 1, _, hx => obtain rfl : _ = x := Option.some.inj hx; rfl
      | 2, _, hx => obtain rfl : _ = x := Option.some.inj hx; rfl
      | 3, _, hx => obtain rfl : _ = x := Option.some.inj hx; rfl
     have k_sl := hA.at_ k_s rfl
     replace k_8 := hA.at_ k_8 rfl
     have hszb := hA.size.trans hsz________
     have hdb := hA.defers.trans hd________
     have hzl := heap_lt fr
     have hn4 : (n : Int) < 4 := by omega
     have HX := Lib.hid hx
     have HNO := Lib.hid hno
     have HK := Lib.hid hk
     have HA := Lib.hid hA
     clear hx hno hk fr hA
     refine wp_seq (Code.wp_only (R := fun a10_ wa10_ => Agree (fun i => i == 12 || i == 36 || i == 37) b a10_ ∧ At a10_ 12 (.int .i64 x) ∧ wa10_ = wr) ?_ ?_)
     · have hAr : Agree (fun i => i == 12 || i == 36 || i == 37) b b := Agree.refl _ _
       obtain ⟨T, d⟩ := b
       refine wp_region_lit ?_
       iterate 3 with_reducible refine st ?_
       refine wpList_nil ⟨rfl, ag, aq, rfl⟩
     rintro a10_ wa10_ ⟨hAa10_, k_12, rfl⟩
     replace k_10r := hAa10_.at_ k_10r rfl
     replace k_8 := hAa10_.at_ k_8 rfl
     replace k_sl := hAa10_.at_ k_sl rfl
     replace k_j := hAa10_.at_ k_j rfl
     have hszb_ := hAa10_.size.trans hszb
     have hdb_ := hAa10_.defers.trans hdb
     obtain ⟨sm, hsm⟩ : ∃ b, b = (er == x) := ⟨_, rfl⟩
     have hcall := is_errno er x wa10_
     rw [← hsm] at hcall
     have HC := Lib.hid hcall
     have HSM := Lib.hid hsm
     clear hsm hcall k_sl k_j q0
     refine wp_seq (wp_seq (Code.wp_only (R := fun a11_ wa11_ => Agree (fun i => (decide (38 ≤ i) && decide (i ≤ 42))) a10_ a11_ ∧ At a11_ 42 (.bool sm) ∧ wa11_ = wa10_) ?_ ?_))
     · have hAr : Agree (fun i => (decide (38 ≤ i) && decide (i ≤ 42))) a10_ a10_ := Agree.refl _ _
       obtain ⟨T, d⟩ := a10_
       refine wp_region_lit ?_
       iterate 4 with_reducible refine st ?_
       with_reducible refine wpList_step (fun K hK => ?_)
       go_simp
       refine HC.out.mono ?_
       rintro e w2 ⟨rfl, rfl⟩
       with_reducible refine hK _ _ ?_
       clear hK K
       refine wpList_nil ⟨rfl, ag, aq, rfl⟩
     rintro a11_ wa11_ ⟨hAa11_, k_42, rfl⟩
     replace k_10r := hAa11_.at_ k_10r rfl
     replace k_8 := hAa11_.at_ k_8 rfl
     replace k_12 := hAa11_.at_ k_12 rfl
     have hszb__ := hAa11_.size.trans hszb_
     have hdb__ := hAa11_.defers.trans hdb_
     refine wp_cond_split (k_42.eval (by omega)) (fun hg => ?_) (fun hg => ?_)
     · have hex : er = x := by have h1 := HSM.out; rw [hg] at h1; exact eq_of_beq h1.symm
       refine wp_exit ?_
       repeat with_reducible apply then_exit
       simp only [InBody]
       rw [if_neg (by decide)]
       simp only [if_true]
       refine ⟨rfl, (Agree.trans HA.out (Agree.trans (Agree.trans (Agree.refl (fun i => i == 10 || i == 12 || (decide (36 ≤ i) && decide (i ≤ 44))) b) hAa10_ (by intro j; simp; omega)) hAa11_ (by intro j; simp; omega)) (by intro j; simp; omega)), ?_, HK.out⟩
       rw [rank_at HX.out hex HNO.out]
       exact k_10r
     · have hex : er ≠ x := by have h1 := HSM.out; rw [hg] at h1; exact fun e => by subst e; simp at h1
       refine wp_skip ?_
       have e1 : IntKind.i64.wrap (((4 + n : Nat) : Int) + 1) = ((4 + (n + 1) : Nat) : Int) := by rw [i64_in _ (by omega)]; omega
       obtain ⟨cu, hcu⟩ : ∃ c : Nat, c = 4 + n := ⟨_, rfl⟩
       obtain ⟨cu1, hcu1⟩ : ∃ c : Nat, c = 4 + (n + 1) := ⟨_, rfl⟩
       rw [← hcu, ← hcu1] at e1
       rw [← hcu] at k_10r
       have HCU := Lib.hid hcu1
       have HCF : Hid ((cu : Int) + 1 = (cu1 : Int)) := Lib.hid (by omega)
       clear hcu hcu1 HC hg
       refine Code.wp_only (R := fun a12_ wa12_ => Agree (fun i => i == 10 || i == 43 || i == 44) a11_ a12_ ∧ At a12_ 10 (.int .i64 cu1) ∧ wa12_ = wa11_) ?_ ?_
       · have hAr : Agree (fun i => i == 10 || i == 43 || i == 44) a11_ a11_ := Agree.refl _ _
         obtain ⟨T, d⟩ := a11_
         refine wp_region_lit ?_
         iterate 3 with_reducible refine st ?_
         refine wpList_nil ⟨rfl, ?_, ?_, rfl⟩
         · exact ag
         · first | exact At.self | (rw [← HCF.out]; exact At.self)
       rintro a12_ wa12_ ⟨hAa12_, k_10n, rfl⟩
       replace k_8 := hAa12_.at_ k_8 rfl
       replace k_12 := hAa12_.at_ k_12 rfl
       replace k_42 := hAa12_.at_ k_42 rfl
       have hszb___ := hAa12_.size.trans hszb__
       have hdb___ := hAa12_.defers.trans hdb__
       refine ⟨(Agree.trans (Agree.trans (Agree.trans (Agree.refl (fun i => i == 10 || i == 12 || (decide (36 ≤ i) && decide (i ≤ 44))) _) hAa10_ (by intro j; simp; omega)) hAa11_ (by intro j; simp; omega)) hAa12_ (by intro j; simp; omega)), by rw [← HCU.out]; exact k_10n, fun z hz => ?_, HK.out⟩
       rw [take_at HX.out] at hz
       rcases List.mem_append.1 hz with h | h
       · exact HNO.out z h
       · obtain rfl : z = x := by simpa using h
         exact hex
   · rintro b wr hA ⟨k_10r, hno, hk⟩
     refine ⟨rfl, hA, ?_, hk⟩
     rw [rank_none (by simpa [errsL] using hno)]
     exact k_10r
 rintro a9_ wa9_ ⟨hAa9_, k_10n, hk8⟩
 replace h0 := hAa9_.at_ h0 rfl
 replace k_8 := hAa9_.at_ k_8 rfl
 replace k_9n := hAa9_.at_ k_9n rfl
 have hsz_________ := hAa9_.size.trans hsz________
 have hd_________ := hAa9_.defers.trans hd________
 have hk9 : Keep (fun _ => False) w wa9_ := HK7.out.trans hk8 (fun _ _ h => h)
 have HL9 := Lib.hid (HL.out.new hk9)
 have HK9 := Lib.hid hk9
 have hwr : why7 (laneRank er) = er := why_rank (by rcases HV.out with h | ⟨h, _⟩ | ⟨h, _⟩; exact absurd h he0; rcases h with h | h | h | h <;> simp [h]; exact .inr (.inr (.inr (.inr h))))
 have HWR := Lib.hid hwr
 clear hk8 hk9 hwr
 obtain ⟨T, d⟩ := a9_
 refine wp_region_lit ?_
 iterate 4 with_reducible refine st ?_
 with_reducible refine wpList_step (fun K hK => ?_)
 go_simp
 refine (tell_any pl (laneRank er) er HL9.out HWR.out).mono ?_
 rintro e w2 ⟨rfl, hL2, hk2⟩
 with_reducible refine hK _ _ (wpList_nil ?_)
 refine post_none rfl hd_________ ⟨rfl, ?_, (HK9.out.mono fun _ _ h => h.elim : Keep (fun k => k = pb) w _).trans hk2 (fun _ _ h => h)⟩
 rw [HW0.out]
 exact hL2
def CpuMap (w : World) (b : Nat) (P : Policy) : Prop := ∃ n p, SMap w b n (.int .u64 0) (fun s => .int .u64 (cpuOf P s : Nat)) p
theorem zero39 (w : World) : (zeroValue 39).run Tryz.prog w = .ok (.int .u64 0) w := by kernel_rfl
theorem CpuMap.keep {S : Nat → Prop} {w w' : World} {b : Nat} {P : Policy} (h : CpuMap w b P) (hk : Keep S w w') (hS : ¬ S b) : CpuMap w' b P := by
 obtain ⟨n, p, h⟩ := h
 exact ⟨n, p, h.keep hk hS⟩
def runCpu (P : Policy) (y : Lane) (r : Run) : List Wr := say (decide (r.subj = ByteArray.empty) || decide (cpuOf P r.subj = y.cpu)) r.pos 3
def flat2 : Nat → Lane → Int × Int := fun M y => (flatL M y).2
def laneAll (P : Policy) (M : Nat) (y : Lane) : List Wr := laneCpus P y ++ laneW flat2 M y
theorem plans_runs {B : Nat} {w : World} {pb : Nat} {v : PolV} {P : Policy} {L : List Wr} (h : LookAt B w pb v P why7 L) {mc mb : Nat} (hmc : w.heap[mc]? = some (.cells #[.map (some mb)] 184 (0, 0))) (hcm : CpuMap w mb P) (hne : mc ≠ pb ∧ mb ≠ pb) {y : Lane} {A_r : Option Addr} {c_r : Nat} (hs : SliceAt B 4 RunAt w (.slice A_r y.runs.length c_r) y.runs) (hcpu : y.cpu < lim)
 {zy : Nat} (hzy : w.heap[zy]? = some (.cells #[.int .i64 y.pos, .int .u64 y.cpu, .bool y.needs, .slice A_r y.runs.length c_r] 92 (0, 0))) (hzp : zy ≠ pb) (a : Act) (hsz : a.tmps.size = 130) (h0 : At a 0 (.pointer (some ⟨pb, 0, none⟩))) (h2 : At a 2 (.pointer (some ⟨mc, 0, none⟩))) (h8 : At a 8 (.pointer (some ⟨zy, 0, none⟩))) (Q : Exit → Act → World → Prop)
 (hQ : ∀ a' w', Agree (fun i => i == 10 || (decide (99 ≤ i) && decide (i ≤ 122))) a a' → LookAt B w' pb v P why7 (y.runs.flatMap (runCpu P y) ++ L) → Keep (fun k => k = pb) w w' → Q .normal a' w') :
 (codeC Tryz.f55 [1,1,1,1,1,0,0,1,1,0,0,1,1,1,0,0,1,1,0,0,1,1,0]).wp Tryz.prog Q a w := by
 have hd : a.defers = a.defers := rfl
 have hlt := h.lt
 have hBp := h.base
 have HMC := Lib.hid hmc
 have HCM := Lib.hid hcm
 have HL := Lib.hid h
 have HZY := Lib.hid hzy
 obtain ⟨_, _, e, hnc, hn, hl⟩ := hs
 cases e
 unfold top at hn
 have HRL := Lib.hid hl
 have HQ := Lib.hid hQ
 have q3 : w.cell? ⟨zy, 3, none⟩ = some (.slice A_r y.runs.length c_r) := by rw [cell_of_row _ _ _ _ _ _ hzy]; rfl
 clear h hmc hcm hl hzy hQ
 conv => arg 2; whnf
 refine wp_seq (Code.wp_only (R := fun a1_ wa1_ => Agree (fun i => (decide (99 ≤ i) && decide (i ≤ 102))) a a1_ ∧ At a1_ 100 (.slice A_r y.runs.length c_r) ∧ At a1_ 101 (.int .i64 y.runs.length) ∧ At a1_ 102 (.int .i64 0) ∧ wa1_ = w) ?_ ?_)
 · have hAr : Agree (fun i => (decide (99 ≤ i) && decide (i ≤ 102))) a a := Agree.refl _ _
   obtain ⟨T, d⟩ := a
   refine wp_region_lit ?_
   iterate 4 with_reducible refine st ?_
   refine wpList_nil ⟨rfl, ag, aq, aq, aq, rfl⟩
 rintro a1_ wa1_ ⟨hAa1_, k_s, k_n, k_i, rfl⟩
 replace h0 := hAa1_.at_ h0 rfl
 replace h2 := hAa1_.at_ h2 rfl
 replace h8 := hAa1_.at_ h8 rfl
 have hsz_ := hAa1_.size.trans hsz
 have hd_ := hAa1_.defers.trans hd
 refine wp_range y.runs.length (fun i => i == 10 || (decide (102 ≤ i) && decide (i ≤ 122))) (fun i => i == 10 || (decide (104 ≤ i) && decide (i ≤ 121))) (fun k _ w' => LookAt B w' pb v P why7 ((y.runs.take k).flatMap (runCpu P y) ++ L) ∧ Keep (fun k => k = pb) wa1_ w') (by omega) k_i k_n (by decide) rfl
  (by intro j; simp; omega) (by omega) (by decide) (fun k a1 a2 w hA hI => hI) ⟨by simpa using HL.out, Keep.refl _ _⟩ ?_ ?_
 · rintro n b wr hlt2 hA k_j ⟨hL, hk⟩
   obtain ⟨bl, off, rfl, hbl, hcs⟩ := HRL.out (by omega)
   obtain ⟨x, hx⟩ : ∃ x, y.runs[n]? = some x := ⟨_, List.getElem?_eq_getElem hlt2⟩
   obtain ⟨hc, ok_x⟩ := (flat_stays B _ _) _ _ _ _ _ (hk.below (B := B) (by omega) (fun _ hi e => by omega)) hbl (hcs n x hx)
   have q0 := hc.c0
   have q1 := hc 1 _ rfl
   have q2 := hc 2 _ rfl
   have q3 := hc 3 _ rfl
   have k_0 := hA.at_ h0 rfl
   have k_2 := hA.at_ h2 rfl
   have k_8 := hA.at_ h8 rfl
   have k_sl := hA.at_ k_s rfl
   have hszb := hA.size.trans hsz_
   have hdb := hA.defers.trans hd_
   have hszw := hk.size
   have hblr : bl < wr.heap.size := by omega
   have hkc : n ≤ c_r := by omega
   have HX := Lib.hid hx
   have HLL := Lib.hid hL
   have HK := Lib.hid hk
   have HMR := Lib.hid ((hk.block mc (heap_lt HMC.out) (by exact hne.1)).trans HMC.out)
   have HCR := Lib.hid (HCM.out.keep hk (by exact hne.2))
   have HZR := Lib.hid ((hk.block zy (heap_lt HZY.out) hzp).trans HZY.out)
   have hpr := hL.lt
   clear hx hcs hc hA hk hL
   refine wp_seq (Code.wp_only (R := fun a2_ wa2_ => Agree (fun i => i == 10 || i == 104 || i == 105) b a2_ ∧ At a2_ 10 (.pointer (some ⟨wr.heap.size, 0, none⟩)) ∧ wa2_ = wr.alloc (.cells #[.int .i64 x.pos, .string x.subj, .int .u64 x.bud, .int .u64 x.per] 108)) ?_ ?_)
   · have hAr : Agree (fun i => i == 10 || i == 104 || i == 105) b b := Agree.refl _ _
     obtain ⟨T, d⟩ := b
     refine wp_region_lit ?_
     iterate 4 with_reducible refine st ?_
     refine wpList_nil ⟨rfl, ag, aq, rfl⟩
   rintro a2_ wa2_ ⟨hAa2_, k_10, hwa2_⟩
   replace k_0 := hAa2_.at_ k_0 rfl
   replace k_2 := hAa2_.at_ k_2 rfl
   replace k_8 := hAa2_.at_ k_8 rfl
   replace k_sl := hAa2_.at_ k_sl rfl
   replace k_j := hAa2_.at_ k_j rfl
   have hszb_ := hAa2_.size.trans hszb
   have hdb_ := hAa2_.defers.trans hdb
   obtain ⟨zr, hzr⟩ : ∃ z, z = wr.heap.size := ⟨_, rfl⟩
   rw [← hzr] at k_10
   have fr : wa2_.heap[zr]? = some (.cells #[.int .i64 x.pos, .string x.subj, .int .u64 x.bud, .int .u64 x.per] 108 (0, 0)) := by rw [hwa2_, hzr]; exact heap_alloc_new _ _
   have hkb : Keep (fun _ => False) wr wa2_ := by rw [hwa2_]; exact (Keep.refl _ _).alloc _
   have p0 : wa2_.cell? ⟨zr, 0, none⟩ = some (.int .i64 x.pos) := by rw [cell_of_row _ _ _ _ _ _ fr]; rfl
   have p1 : wa2_.cell? ⟨zr, 1, none⟩ = some (.string x.subj) := by rw [cell_of_row _ _ _ _ _ _ fr]; rfl
   have pm : wa2_.cell? ⟨mc, 0, none⟩ = some (.map (some mb)) := cell_of_one ((hkb.block mc (heap_lt HMR.out) (fun h => h)).trans HMR.out)
   have py : wa2_.cell? ⟨zy, 1, none⟩ = some (.int .u64 y.cpu) := by rw [cell_of_row _ _ _ _ _ _ ((hkb.block zy (heap_lt HZR.out) (fun h => h)).trans HZR.out)]; rfl
   have hlk : (Instr.lookup 184 (.map (some mb)) (.string x.subj) false).run Tryz.prog wa2_ = .ok (.int .u64 (cpuOf P x.subj : Nat)) wa2_ := by
    obtain ⟨nn, pp, hsm⟩ := HCR.out.keep hkb (fun h => h)
    exact hsm.run Tryz.underlying184 zero39 (Nat.le_trans ok_x.2.2.2 (by unfold maxLen; omega))
   have HL1 := Lib.hid (HLL.out.new hkb)
   have HK1 := Lib.hid (HK.out.trans hkb (fun _ _ h => h.elim))
   clear hwa2_ hzr fr hkb q0 q1 q2 q3 k_sl k_j
   obtain ⟨cp, hcp⟩ : ∃ n : Nat, n = cpuOf P x.subj := ⟨_, rfl⟩
   rw [← hcp] at hlk
   obtain ⟨be, hbe⟩ : ∃ b, b = decide (x.subj = ByteArray.empty) := ⟨_, rfl⟩
   have w1be : (x.subj.toList == ByteArray.toList { data := #[] }) = be := by rw [hbe]; exact bytes_beq _ _
   have w2be : (x.subj.toList == []) = be := by rw [← w1be, toList_nil]
   obtain ⟨bc, hbc⟩ : ∃ b, b = decide (cp = y.cpu) := ⟨_, rfl⟩
   have w1bc : ((cp : Int) == (y.cpu : Int)) = bc := by rw [hbc]; exact nat_eqb _ _
   have HS : Hid (runCpu P y x = say (be || bc) x.pos 3) := by rw [hbe, hbc, hcp]; rfl
   clear hbe hbc hcp
   have hun := undef_eq
   cases be
   · skip
     refine Code.wp_only (R := fun a3_ wa3_ => Agree (fun i => (decide (106 ≤ i) && decide (i ≤ 121))) a2_ a3_ ∧ LookAt B wa3_ pb v P why7 (say (false || bc) x.pos 3 ++ ((y.runs.take n).flatMap (runCpu P y) ++ L)) ∧ Keep (fun k => k = pb) wa2_ wa3_) ?_ ?_
     · have hAr : Agree (fun i => (decide (106 ≤ i) && decide (i ≤ 121))) a2_ a2_ := Agree.refl _ _
       obtain ⟨T, d⟩ := a2_
       refine wp_region_lit ?_
       iterate 15 with_reducible refine st ?_
       with_reducible refine wpList_step (fun K hK => ?_)
       go_simp
       refine (must_any bc x.pos 3 100 HL1.out rfl).mono ?_
       rintro e w2 ⟨rfl, hL2, hk2⟩
       with_reducible refine hK _ _ ?_
       clear hK K
       refine wpList_nil ⟨rfl, ?_, ?_, ?_⟩
       · exact ag
       · simpa using hL2
       · exact hk2
     rintro a3_ wa3_ ⟨hAa3_, hL2, hk2⟩
     replace k_0 := hAa3_.at_ k_0 rfl
     replace k_2 := hAa3_.at_ k_2 rfl
     replace k_8 := hAa3_.at_ k_8 rfl
     replace k_10 := hAa3_.at_ k_10 rfl
     have hszb__ := hAa3_.size.trans hszb_
     have hdb__ := hAa3_.defers.trans hdb_
     refine ⟨(Agree.trans (Agree.trans (Agree.refl (fun i => i == 10 || (decide (104 ≤ i) && decide (i ≤ 121))) _) hAa2_ (by intro j; simp; omega)) hAa3_ (by intro j; simp; omega)), hL2.congr fun p => ?_, HK1.out.trans hk2 (fun _ _ h => h)⟩
     rw [take_at HX.out, List.flatMap_append, List.flatMap_cons, List.flatMap_nil, List.append_nil, HS.out]
     simp only [List.mem_append, Bool.false_or, Bool.true_or]
     try simp only [or_assoc, or_comm, or_left_comm]
   · skip
     refine Code.wp_only (R := fun a4_ wa4_ => Agree (fun i => (decide (106 ≤ i) && decide (i ≤ 121))) a2_ a4_ ∧ LookAt B wa4_ pb v P why7 (say (true) x.pos 3 ++ ((y.runs.take n).flatMap (runCpu P y) ++ L)) ∧ Keep (fun k => k = pb) wa2_ wa4_) ?_ ?_
     · have hAr : Agree (fun i => (decide (106 ≤ i) && decide (i ≤ 121))) a2_ a2_ := Agree.refl _ _
       obtain ⟨T, d⟩ := a2_
       refine wp_region_lit ?_
       iterate 15 with_reducible refine st ?_
       with_reducible refine wpList_step (fun K hK => ?_)
       go_simp
       refine (must_any true x.pos 3 100 HL1.out rfl).mono ?_
       rintro e w2 ⟨rfl, hL2, hk2⟩
       with_reducible refine hK _ _ ?_
       clear hK K
       refine wpList_nil ⟨rfl, ?_, ?_, ?_⟩
       · exact ag
       · simpa using hL2
       · exact hk2
     rintro a4_ wa4_ ⟨hAa4_, hL2, hk2⟩
     replace k_0 := hAa4_.at_ k_0 rfl
     replace k_2 := hAa4_.at_ k_2 rfl
     replace k_8 := hAa4_.at_ k_8 rfl
     replace k_10 := hAa4_.at_ k_10 rfl
     have hszb__ := hAa4_.size.trans hszb_
     have hdb__ := hAa4_.defers.trans hdb_
     refine ⟨(Agree.trans (Agree.trans (Agree.refl (fun i => i == 10 || (decide (104 ≤ i) && decide (i ≤ 121))) _) hAa2_ (by intro j; simp; omega)) hAa4_ (by intro j; simp; omega)), hL2.congr fun p => ?_, HK1.out.trans hk2 (fun _ _ h => h)⟩
     rw [take_at HX.out, List.flatMap_append, List.flatMap_cons, List.flatMap_nil, List.append_nil, HS.out]
     simp only [List.mem_append, Bool.false_or, Bool.true_or]
     try simp only [or_assoc, or_comm, or_left_comm]
 · rintro b wr hA ⟨hL, hk⟩
   rw [List.take_length] at hL
   exact HQ.out _ _ (Agree.trans (hAa1_.mono (by intro j; simp; omega)) hA (by intro j; simp; omega)) hL hk
theorem plans_lanes {B : Nat} {w : World} {pb : Nat} {v : PolV} {P : Policy} {L : List Wr} (h : LookAt B w pb v P why7 L) {mc mb : Nat} (hmc : w.heap[mc]? = some (.cells #[.map (some mb)] 184 (0, 0))) (hcm : CpuMap w mb P) (hne : mc ≠ pb ∧ mb ≠ pb) {x : Plan} (hM : ¬ (x.major < 1 ∨ 65536 < x.major)) {A_l : Option Addr} {c_l : Nat} (hs : SliceAt B 4 (LaneAt B) w (.slice A_l x.lanes.length c_l) x.lanes)
 {zx : Nat} (hzx : w.heap[zx]? = some (.cells #[.int .i64 x.pos, .string x.name, .int .u64 x.major, .slice A_l x.lanes.length c_l] 62 (0, 0))) (hzp : zx ≠ pb) (a : Act) (hsz : a.tmps.size = 130) (h0 : At a 0 (.pointer (some ⟨pb, 0, none⟩))) (h2 : At a 2 (.pointer (some ⟨mc, 0, none⟩))) (h6 : At a 6 (.pointer (some ⟨zx, 0, none⟩))) (Q : Exit → Act → World → Prop)
 (hQ : ∀ a' w', Agree (fun i => i == 8 || i == 10 || (decide (85 ≤ i) && decide (i ≤ 128))) a a' → LookAt B w' pb v P why7 (x.lanes.flatMap (laneAll P x.major) ++ L) → Keep (fun k => k = pb) w w' → Q .normal a' w') :
 (codeC Tryz.f55 [1,1,1,1,1,0,0,1,1,0,0,1,1]).wp Tryz.prog Q a w := by
 have hd : a.defers = a.defers := rfl
 have hlt := h.lt
 have hBp := h.base
 have HMC := Lib.hid hmc
 have HCM := Lib.hid hcm
 have HL := Lib.hid h
 have HZX := Lib.hid hzx
 obtain ⟨_, _, e, hnc, hn, hl⟩ := hs
 cases e
 unfold top at hn
 have HRL := Lib.hid hl
 have HQ := Lib.hid hQ
 have q3 : w.cell? ⟨zx, 3, none⟩ = some (.slice A_l x.lanes.length c_l) := by rw [cell_of_row _ _ _ _ _ _ hzx]; rfl
 clear h hmc hcm hl hzx hQ
 conv => arg 2; whnf
 refine wp_seq (Code.wp_only (R := fun a1_ wa1_ => Agree (fun i => (decide (85 ≤ i) && decide (i ≤ 88))) a a1_ ∧ At a1_ 86 (.slice A_l x.lanes.length c_l) ∧ At a1_ 87 (.int .i64 x.lanes.length) ∧ At a1_ 88 (.int .i64 0) ∧ wa1_ = w) ?_ ?_)
 · have hAr : Agree (fun i => (decide (85 ≤ i) && decide (i ≤ 88))) a a := Agree.refl _ _
   obtain ⟨T, d⟩ := a
   refine wp_region_lit ?_
   iterate 4 with_reducible refine st ?_
   refine wpList_nil ⟨rfl, ag, aq, aq, aq, rfl⟩
 rintro a1_ wa1_ ⟨hAa1_, k_s, k_n, k_i, rfl⟩
 replace h0 := hAa1_.at_ h0 rfl
 replace h2 := hAa1_.at_ h2 rfl
 replace h6 := hAa1_.at_ h6 rfl
 have hsz_ := hAa1_.size.trans hsz
 have hd_ := hAa1_.defers.trans hd
 refine wp_range x.lanes.length (fun i => i == 8 || i == 10 || (decide (88 ≤ i) && decide (i ≤ 128))) (fun i => i == 8 || i == 10 || (decide (90 ≤ i) && decide (i ≤ 127))) (fun k _ w' => LookAt B w' pb v P why7 ((x.lanes.take k).flatMap (laneAll P x.major) ++ L) ∧ Keep (fun k => k = pb) wa1_ w') (by omega) k_i k_n (by decide) rfl
  (by intro j; simp; omega) (by omega) (by decide) (fun k a1 a2 w hA hI => hI) ⟨by simpa using HL.out, Keep.refl _ _⟩ ?_ ?_
 · rintro n b wr hlt2 hA k_j ⟨hL, hk⟩
   obtain ⟨bl, off, rfl, hbl, hcs⟩ := HRL.out (by omega)
   obtain ⟨y, hx⟩ : ∃ x_, x.lanes[n]? = some x_ := ⟨_, List.getElem?_eq_getElem hlt2⟩
   have hbw := hk.below (B := B) (by omega) (fun _ hi e => by omega)
   obtain ⟨rv, hc, hruns, _, hcpu⟩ := (lane_stays B) _ _ _ _ _ hbw hbl (hcs n y hx)
   obtain ⟨A_r, c_r, rfl, hruns⟩ := hruns
   have HRS : Hid (SliceAt B 4 RunAt wr (.slice A_r y.runs.length c_r) y.runs) := Lib.hid ⟨A_r, c_r, rfl, hruns⟩
   have q0 := hc.c0
   have q1 := hc 1 _ rfl
   have q2 := hc 2 _ rfl
   have q3 := hc 3 _ rfl
   have k_0 := hA.at_ h0 rfl
   have k_2 := hA.at_ h2 rfl
   have k_6 := hA.at_ h6 rfl
   have k_sl := hA.at_ k_s rfl
   have hszb := hA.size.trans hsz_
   have hdb := hA.defers.trans hd_
   have hszw := hk.size
   have hblr : bl < wr.heap.size := by omega
   have hkc : n ≤ c_l := by omega
   have HX := Lib.hid hx
   have HLL := Lib.hid hL
   have HK := Lib.hid hk
   have HMR := Lib.hid ((hk.block mc (heap_lt HMC.out) (by exact hne.1)).trans HMC.out)
   have HCR := Lib.hid (HCM.out.keep hk (by exact hne.2))
   have HZR := Lib.hid ((hk.block zx (heap_lt HZX.out) hzp).trans HZX.out)
   have hpr := hL.lt
   clear hx hcs hc hA hk hL hruns hbw
   refine wp_seq (Code.wp_only (R := fun a2_ wa2_ => Agree (fun i => i == 8 || i == 90 || i == 91) b a2_ ∧ At a2_ 8 (.pointer (some ⟨wr.heap.size, 0, none⟩)) ∧ wa2_ = wr.alloc (.cells #[.int .i64 y.pos, .int .u64 y.cpu, .bool y.needs, .slice A_r y.runs.length c_r] 92)) ?_ ?_)
   · have hAr : Agree (fun i => i == 8 || i == 90 || i == 91) b b := Agree.refl _ _
     obtain ⟨T, d⟩ := b
     refine wp_region_lit ?_
     iterate 4 with_reducible refine st ?_
     refine wpList_nil ⟨rfl, ag, aq, rfl⟩
   rintro a2_ wa2_ ⟨hAa2_, k_8, hwa2_⟩
   replace k_0 := hAa2_.at_ k_0 rfl
   replace k_2 := hAa2_.at_ k_2 rfl
   replace k_6 := hAa2_.at_ k_6 rfl
   replace k_sl := hAa2_.at_ k_sl rfl
   replace k_j := hAa2_.at_ k_j rfl
   have hszb_ := hAa2_.size.trans hszb
   have hdb_ := hAa2_.defers.trans hdb
   obtain ⟨zy, hzy⟩ : ∃ z, z = wr.heap.size := ⟨_, rfl⟩
   rw [← hzy] at k_8
   have fy : wa2_.heap[zy]? = some (.cells #[.int .i64 y.pos, .int .u64 y.cpu, .bool y.needs, .slice A_r y.runs.length c_r] 92 (0, 0)) := by rw [hwa2_, hzy]; exact heap_alloc_new _ _
   have hkb : Keep (fun _ => False) wr wa2_ := by rw [hwa2_]; exact (Keep.refl _ _).alloc _
   have p0 : wa2_.cell? ⟨zy, 0, none⟩ = some (.int .i64 y.pos) := by rw [cell_of_row _ _ _ _ _ _ fy]; rfl
   have p1 : wa2_.cell? ⟨zy, 1, none⟩ = some (.int .u64 y.cpu) := by rw [cell_of_row _ _ _ _ _ _ fy]; rfl
   have hzyp : zy ≠ pb := by omega
   have FY := Lib.hid fy
   have HMB := Lib.hid ((hkb.block mc (heap_lt HMR.out) (fun h => h)).trans HMR.out)
   have HCB := Lib.hid (HCR.out.keep hkb (fun h => h))
   have HZB := Lib.hid ((hkb.block zx (heap_lt HZR.out) (fun h => h)).trans HZR.out)
   have HRB := Lib.hid (HRS.out.below (flat_stays _ _ _) (hkb.below (B := B) (by omega) (fun _ _ h => h)))
   have HL1 := Lib.hid (HLL.out.new hkb)
   have HK1 := Lib.hid (HK.out.trans hkb (fun _ _ h => h.elim))
   have hszb2 := hkb.size
   clear hwa2_ hzy fy hkb q0 q1 q2 q3 k_sl k_j
   obtain ⟨b4, hb4⟩ : ∃ b, b = decide (y.cpu < 4) := ⟨_, rfl⟩
   have w1b4 : decide ((y.cpu : Int) < 4) = b4 := by rw [hb4]; exact decide_eq_decide.2 (by omega)
   have HB4 := Lib.hid hb4
   clear hb4
   refine wp_seq (Code.wp_only (R := fun a3_ wa3_ => Agree (fun i => (decide (92 ≤ i) && decide (i ≤ 98))) a2_ a3_ ∧ LookAt B wa3_ pb v P why7 (say b4 y.pos 3 ++ ((x.lanes.take n).flatMap (laneAll P x.major) ++ L)) ∧ Keep (fun k => k = pb) wa2_ wa3_) ?_ ?_)
   · have hAr : Agree (fun i => (decide (92 ≤ i) && decide (i ≤ 98))) a2_ a2_ := Agree.refl _ _
     obtain ⟨T, d⟩ := a2_
     refine wp_region_lit ?_
     iterate 6 with_reducible refine st ?_
     with_reducible refine wpList_step (fun K hK => ?_)
     go_simp
     refine (must_any b4 y.pos 3 100 HL1.out rfl).mono ?_
     rintro e w2 ⟨rfl, hL2, hk2⟩
     with_reducible refine hK _ _ ?_
     clear hK K
     refine wpList_nil ⟨rfl, ?_, ?_, ?_⟩
     · exact ag
     · exact hL2
     · exact hk2
   rintro a3_ wa3_ ⟨hAa3_, hL2, hk2⟩
   replace k_0 := hAa3_.at_ k_0 rfl
   replace k_2 := hAa3_.at_ k_2 rfl
   replace k_6 := hAa3_.at_ k_6 rfl
   replace k_8 := hAa3_.at_ k_8 rfl
   have hszb__ := hAa3_.size.trans hszb_
   have hdb__ := hAa3_.defers.trans hdb_
   have FY2 := (hk2.block zy (heap_lt FY.out) hzyp).trans FY.out
   refine wp_seq (plans_runs hL2 ((hk2.block mc (heap_lt HMB.out) hne.1).trans HMB.out) (HCB.out.keep hk2 hne.2) hne (HRB.out.below (flat_stays _ _ _) (hk2.below (B := B) (by omega) (fun _ hi e => by omega))) hcpu FY2 hzyp a3_ hszb__ k_0 k_2 k_8 _ ?_)
   intro c wc hAc hL3 hk3
   have hszc := hAc.size.trans hszb__
   have hdc := hAc.defers.trans hdb__
   replace k_0 := hAc.at_ k_0 rfl
   replace k_6 := hAc.at_ k_6 rfl
   replace k_8 := hAc.at_ k_8 rfl
   have FY3 := (hk3.block zy (heap_lt FY2) hzyp).trans FY2
   have hk13 : Keep (fun k => k = pb) wa2_ wc := hk2.trans hk3 (fun _ _ h => h)
   have FX3 := (hk13.block zx (heap_lt HZB.out) hzp).trans HZB.out
   have px : wc.cell? ⟨zx, 2, none⟩ = some (.int .u64 x.major) := by rw [cell_of_row _ _ _ _ _ _ FX3]; rfl
   have s0 : wc.cell? ⟨zy, 0, none⟩ = some (.int .i64 y.pos) := by rw [cell_of_row _ _ _ _ _ _ FY3]; rfl
   have s1 : wc.cell? ⟨zy, 1, none⟩ = some (.int .u64 y.cpu) := by rw [cell_of_row _ _ _ _ _ _ FY3]; rfl
   have s2 : wc.cell? ⟨zy, 2, none⟩ = some (.bool y.needs) := by rw [cell_of_row _ _ _ _ _ _ FY3]; rfl
   have s3 : wc.cell? ⟨zy, 3, none⟩ = some (.slice A_r y.runs.length c_r) := by rw [cell_of_row _ _ _ _ _ _ FY3]; rfl
   have HLN := Lib.hid (lane_any hL3 hM (HRB.out.below (flat_stays _ _ _) (hk13.below (B := B) (by omega) (fun _ hi e => by omega))))
   have HK13 := Lib.hid hk13
   have hszc3 := hk13.size
   clear FY2 FY3 FX3 hk2 hk3 hk13 hL2 hL3 p0 p1 w1b4
   refine Code.wp_only (R := fun a4_ wa4_ => Agree (fun i => (decide (123 ≤ i) && decide (i ≤ 127))) c a4_ ∧ LookAt B wa4_ pb v P why7 (laneW flat2 x.major y ++ (y.runs.flatMap (runCpu P y) ++ (say b4 y.pos 3 ++ ((x.lanes.take n).flatMap (laneAll P x.major) ++ L)))) ∧ Keep (fun k => k = pb) wc wa4_) ?_ ?_
   · have hAr : Agree (fun i => (decide (123 ≤ i) && decide (i ≤ 127))) c c := Agree.refl _ _
     obtain ⟨T, d⟩ := c
     refine wp_region_lit ?_
     iterate 4 with_reducible refine st ?_
     with_reducible refine wpList_step (fun K hK => ?_)
     go_simp
     refine HLN.out.mono ?_
     rintro e w2 ⟨rfl, hL2, hk2⟩
     with_reducible refine hK _ _ ?_
     clear hK K
     refine wpList_nil ⟨rfl, ?_, ?_, ?_⟩
     · exact ag
     · exact hL2
     · exact hk2
   rintro a4_ wa4_ ⟨hAa4_, hL4, hk4⟩
   replace k_0 := hAa4_.at_ k_0 rfl
   replace k_6 := hAa4_.at_ k_6 rfl
   replace k_8 := hAa4_.at_ k_8 rfl
   have hszc_ := hAa4_.size.trans hszc
   have hdc_ := hAa4_.defers.trans hdc
   have HS : laneAll P x.major y = (say b4 y.pos 3 ++ y.runs.flatMap (runCpu P y)) ++ laneW flat2 x.major y := by rw [HB4.out]; rfl
   refine ⟨(Agree.trans (Agree.trans (Agree.trans (Agree.trans (Agree.refl (fun i => i == 8 || i == 10 || (decide (90 ≤ i) && decide (i ≤ 127))) _) hAa2_ (by intro j; simp; omega)) hAa3_ (by intro j; simp; omega)) hAc (by intro j; simp; omega)) hAa4_ (by intro j; simp; omega)), hL4.congr fun p => ?_, (HK1.out.trans HK13.out (fun _ _ h => h)).trans hk4 (fun _ _ h => h)⟩
   rw [take_at HX.out, List.flatMap_append, List.flatMap_cons, List.flatMap_nil, List.append_nil, HS]
   simp only [List.mem_append]
   try simp only [or_assoc, or_comm, or_left_comm]
 · rintro b wr hA ⟨hL, hk⟩
   rw [List.take_length] at hL
   exact HQ.out _ _ (Agree.trans (hAa1_.mono (by intro j; simp; omega)) hA (by intro j; simp; omega)) hL hk
theorem plans_plans {B : Nat} {w : World} {pb : Nat} {v : PolV} {P : Policy} {L : List Wr} (h : LookAt B w pb v P why7 L) {mc mb : Nat} (hmc : w.heap[mc]? = some (.cells #[.map (some mb)] 184 (0, 0))) (hcm : CpuMap w mb P) (hne : mc ≠ pb ∧ mb ≠ pb) (a : Act) (hsz : a.tmps.size = 130) (h0 : At a 0 (.pointer (some ⟨pb, 0, none⟩))) (h2 : At a 2 (.pointer (some ⟨mc, 0, none⟩))) (Q : Exit → Act → World → Prop)
 (hQ : ∀ a' w', Agree (fun i => i == 6 || i == 8 || i == 10 || (decide (63 ≤ i) && decide (i ≤ 129))) a a' → LookAt B w' pb v P why7 (P.plans.flatMap (planW flat2 P) ++ L) → Keep (fun k => k = pb) w w' → Q .normal a' w') :
 (codeC Tryz.f55 [1,1,1,1]).wp Tryz.prog Q a w := by
 have hd : a.defers = a.defers := rfl
 have hlt := h.lt
 have hBp := h.base
 have HMC := Lib.hid hmc
 have HCM := Lib.hid hcm
 have HL := Lib.hid h
 obtain ⟨A_p, c_p, hvp, hnc, hn, hl⟩ := h.pol.plans
 unfold top at hn
 have HRL := Lib.hid hl
 have HQ := Lib.hid hQ
 have q9 : w.cell? ⟨pb, 9, none⟩ = some (.slice A_p P.plans.length c_p) := by rw [← hvp]; exact h.cell rfl
 clear h hmc hcm hl hQ hvp
 conv => arg 2; whnf
 refine wp_seq (Code.wp_only (R := fun a1_ wa1_ => Agree (fun i => (decide (63 ≤ i) && decide (i ≤ 69))) a a1_ ∧ At a1_ 67 (.slice A_p P.plans.length c_p) ∧ At a1_ 68 (.int .i64 P.plans.length) ∧ At a1_ 69 (.int .i64 0) ∧ wa1_ = w) ?_ ?_)
 · have hAr : Agree (fun i => (decide (63 ≤ i) && decide (i ≤ 69))) a a := Agree.refl _ _
   obtain ⟨T, d⟩ := a
   refine wp_region_lit ?_
   iterate 7 with_reducible refine st ?_
   refine wpList_nil ⟨rfl, ag, aq, aq, aq, rfl⟩
 rintro a1_ wa1_ ⟨hAa1_, k_s, k_n, k_i, rfl⟩
 replace h0 := hAa1_.at_ h0 rfl
 replace h2 := hAa1_.at_ h2 rfl
 have hsz_ := hAa1_.size.trans hsz
 have hd_ := hAa1_.defers.trans hd
 refine wp_range P.plans.length (fun i => i == 6 || i == 8 || i == 10 || (decide (69 ≤ i) && decide (i ≤ 129))) (fun i => i == 6 || i == 8 || i == 10 || (decide (71 ≤ i) && decide (i ≤ 128))) (fun k _ w' => LookAt B w' pb v P why7 ((P.plans.take k).flatMap (planW flat2 P) ++ L) ∧ Keep (fun k => k = pb) wa1_ w') (by omega) k_i k_n (by decide) rfl
  (by intro j; simp; omega) (by omega) (by decide) (fun k a1 a2 w hA hI => hI) ⟨by simpa using HL.out, Keep.refl _ _⟩ ?_ ?_
 · rintro n b wr hlt2 hA k_j ⟨hL, hk⟩
   obtain ⟨bl, off, rfl, hbl, hcs⟩ := HRL.out (by omega)
   obtain ⟨x, hx⟩ : ∃ x_, P.plans[n]? = some x_ := ⟨_, List.getElem?_eq_getElem hlt2⟩
   have hbw := hk.below (B := B) (by omega) (fun _ hi e => by omega)
   obtain ⟨lv, hc, hlanes, _, hmaj, _⟩ := (plan_stays B) _ _ _ _ _ hbw hbl (hcs n x hx)
   obtain ⟨A_l, c_l, rfl, hlanes⟩ := hlanes
   have HLS : Hid (SliceAt B 4 (LaneAt B) wr (.slice A_l x.lanes.length c_l) x.lanes) := Lib.hid ⟨A_l, c_l, rfl, hlanes⟩
   have q0 := hc.c0
   have q1 := hc 1 _ rfl
   have q2 := hc 2 _ rfl
   have q3 := hc 3 _ rfl
   have k_0 := hA.at_ h0 rfl
   have k_2 := hA.at_ h2 rfl
   have k_sl := hA.at_ k_s rfl
   have hszb := hA.size.trans hsz_
   have hdb := hA.defers.trans hd_
   have hszw := hk.size
   have hblr : bl < wr.heap.size := by omega
   have hkc : n ≤ c_p := by omega
   have HX := Lib.hid hx
   have HLL := Lib.hid hL
   have HK := Lib.hid hk
   have HMR := Lib.hid ((hk.block mc (heap_lt HMC.out) (by exact hne.1)).trans HMC.out)
   have HCR := Lib.hid (HCM.out.keep hk (by exact hne.2))
   have hpr := hL.lt
   clear hx hcs hc hA hk hL hlanes hbw q9
   refine wp_seq (Code.wp_only (R := fun a2_ wa2_ => Agree (fun i => i == 6 || i == 71 || i == 72) b a2_ ∧ At a2_ 6 (.pointer (some ⟨wr.heap.size, 0, none⟩)) ∧ wa2_ = wr.alloc (.cells #[.int .i64 x.pos, .string x.name, .int .u64 x.major, .slice A_l x.lanes.length c_l] 62)) ?_ ?_)
   · have hAr : Agree (fun i => i == 6 || i == 71 || i == 72) b b := Agree.refl _ _
     obtain ⟨T, d⟩ := b
     refine wp_region_lit ?_
     iterate 4 with_reducible refine st ?_
     refine wpList_nil ⟨rfl, ag, aq, rfl⟩
   rintro a2_ wa2_ ⟨hAa2_, k_6, hwa2_⟩
   replace k_0 := hAa2_.at_ k_0 rfl
   replace k_2 := hAa2_.at_ k_2 rfl
   replace k_sl := hAa2_.at_ k_sl rfl
   replace k_j := hAa2_.at_ k_j rfl
   have hszb_ := hAa2_.size.trans hszb
   have hdb_ := hAa2_.defers.trans hdb
   obtain ⟨zx, hzx⟩ : ∃ z, z = wr.heap.size := ⟨_, rfl⟩
   rw [← hzx] at k_6
   have fx : wa2_.heap[zx]? = some (.cells #[.int .i64 x.pos, .string x.name, .int .u64 x.major, .slice A_l x.lanes.length c_l] 62 (0, 0)) := by rw [hwa2_, hzx]; exact heap_alloc_new _ _
   have hkb : Keep (fun _ => False) wr wa2_ := by rw [hwa2_]; exact (Keep.refl _ _).alloc _
   have p0 : wa2_.cell? ⟨zx, 0, none⟩ = some (.int .i64 x.pos) := by rw [cell_of_row _ _ _ _ _ _ fx]; rfl
   have p2 : wa2_.cell? ⟨zx, 2, none⟩ = some (.int .u64 x.major) := by rw [cell_of_row _ _ _ _ _ _ fx]; rfl
   have hzxp : zx ≠ pb := by omega
   have FX := Lib.hid fx
   have HMB := Lib.hid ((hkb.block mc (heap_lt HMR.out) (fun h => h)).trans HMR.out)
   have HCB := Lib.hid (HCR.out.keep hkb (fun h => h))
   have HLB := Lib.hid (HLS.out.below (lane_stays _) (hkb.below (B := B) (by omega) (fun _ _ h => h)))
   have HL1 := Lib.hid (HLL.out.new hkb)
   have HK1 := Lib.hid (HK.out.trans hkb (fun _ _ h => h.elim))
   clear hwa2_ hzx fx hkb q0 q1 q2 q3 k_sl k_j
   obtain ⟨lo, hlo⟩ : ∃ b, b = decide (x.major < 1) := ⟨_, rfl⟩
   have w1lo : decide ((x.major : Int) < 1) = lo := by rw [hlo]; exact decide_eq_decide.2 (by omega)
   obtain ⟨hi, hhi⟩ : ∃ b, b = decide (65536 < x.major) := ⟨_, rfl⟩
   have w1hi : decide ((65536 : Int) < (x.major : Int)) = hi := by rw [hhi]; exact decide_eq_decide.2 (by omega)
   have w2lo : decide (x.major = 0) = lo := by rw [hlo]; exact decide_eq_decide.2 (by omega)
   have w3lo : decide ((x.major : Int) = 0) = lo := by rw [hlo]; exact decide_eq_decide.2 (by omega)
   have HBAD : Hid ((lo || hi) = decide (x.major < 1 ∨ 65536 < x.major)) := Lib.hid (by rw [hlo, hhi, Bool.decide_or])
   clear hlo hhi
   have hun := undef_eq
   refine wp_seq (wp_seq (Code.wp_only (R := fun a3_ wa3_ => Agree (fun i => (decide (73 ≤ i) && decide (i ≤ 80))) a2_ a3_ ∧ At a3_ 80 (.bool (lo || hi)) ∧ wa3_ = wa2_) ?_ ?_))
   · have hAr : Agree (fun i => (decide (73 ≤ i) && decide (i ≤ 80))) a2_ a2_ := Agree.refl _ _
     obtain ⟨T, d⟩ := a2_
     refine wp_region_lit ?_
     iterate 4 with_reducible refine st ?_
     cases lo
     · skip
       iterate 4 with_reducible refine st ?_
       refine wpList_nil ⟨rfl, ?_, ?_, rfl⟩
       · exact ag
       · simp only [Bool.false_or, Bool.true_or]; exact At.self
     · skip
       iterate 4 with_reducible refine st ?_
       refine wpList_nil ⟨rfl, ?_, ?_, rfl⟩
       · exact ag
       · simp only [Bool.false_or, Bool.true_or]; exact At.self
   rintro a3_ wa3_ ⟨hAa3_, k_80, rfl⟩
   replace k_0 := hAa3_.at_ k_0 rfl
   replace k_2 := hAa3_.at_ k_2 rfl
   replace k_6 := hAa3_.at_ k_6 rfl
   have hszb__ := hAa3_.size.trans hszb_
   have hdb__ := hAa3_.defers.trans hdb_
   refine wp_cond_split (k_80.eval (by omega)) (fun hg => ?_) (fun hg => ?_)
   · have hbad : x.major < 1 ∨ 65536 < x.major := by have h1 := HBAD.out; rw [hg] at h1; exact of_decide_eq_true h1.symm
     clear hg w1lo w1hi w2lo w3lo k_80
     refine wp_seq (Code.wp_only (R := fun a4_ wa4_ => Agree (fun i => (decide (81 ≤ i) && decide (i ≤ 84))) a3_ a4_ ∧ LookAt B wa4_ pb v P why7 ((x.pos, 2) :: ((P.plans.take n).flatMap (planW flat2 P) ++ L)) ∧ Keep (fun k => k = pb) wa3_ wa4_) ?_ ?_)
     · have hAr : Agree (fun i => (decide (81 ≤ i) && decide (i ≤ 84))) a3_ a3_ := Agree.refl _ _
       obtain ⟨T, d⟩ := a3_
       refine wp_region_lit ?_
       iterate 3 with_reducible refine st ?_
       with_reducible refine wpList_step (fun K hK => ?_)
       go_simp
       refine (tell_any x.pos 2 92 HL1.out rfl).mono ?_
       rintro e w2 ⟨rfl, hL2, hk2⟩
       with_reducible refine hK _ _ ?_
       clear hK K
       refine wpList_nil ⟨rfl, ?_, ?_, ?_⟩
       · exact ag
       · exact hL2
       · exact hk2
     rintro a4_ wa4_ ⟨hAa4_, hL2, hk2⟩
     replace k_0 := hAa4_.at_ k_0 rfl
     replace k_2 := hAa4_.at_ k_2 rfl
     replace k_6 := hAa4_.at_ k_6 rfl
     have hszb___ := hAa4_.size.trans hszb__
     have hdb___ := hAa4_.defers.trans hdb__
     refine wp_exit ?_
     repeat with_reducible apply then_exit
     simp only [InBody, if_true]
     refine ⟨(Agree.trans (Agree.trans (Agree.trans (Agree.refl (fun i => i == 6 || i == 8 || i == 10 || (decide (71 ≤ i) && decide (i ≤ 128))) _) hAa2_ (by intro j; simp; omega)) hAa3_ (by intro j; simp; omega)) hAa4_ (by intro j; simp; omega)), hL2.congr fun p => ?_, HK1.out.trans hk2 (fun _ _ h => h)⟩
     rw [take_at HX.out, List.flatMap_append, List.flatMap_cons, List.flatMap_nil, List.append_nil, show planW flat2 P x = [(x.pos, 2)] from by unfold planW; rw [if_pos hbad]]
     simp only [List.mem_append, List.mem_cons, List.mem_nil_iff, or_false]
     try simp only [or_assoc, or_comm, or_left_comm]
   · have hbad : ¬ (x.major < 1 ∨ 65536 < x.major) := by have h1 := HBAD.out; rw [hg] at h1; exact of_decide_eq_false h1.symm
     refine wp_skip ?_
     refine plans_lanes HL1.out HMB.out HCB.out hne hbad HLB.out FX.out hzxp a3_ hszb__ k_0 k_2 k_6 _ ?_
     intro c wc hAc hL3 hk3
     refine ⟨(Agree.trans (Agree.trans (Agree.trans (Agree.refl (fun i => i == 6 || i == 8 || i == 10 || (decide (71 ≤ i) && decide (i ≤ 128))) _) hAa2_ (by intro j; simp; omega)) hAa3_ (by intro j; simp; omega)) hAc (by intro j; simp; omega)), hL3.congr fun p => ?_, HK1.out.trans hk3 (fun _ _ h => h)⟩
     rw [take_at HX.out, List.flatMap_append, List.flatMap_cons, List.flatMap_nil, List.append_nil, show planW flat2 P x = x.lanes.flatMap (laneAll P x.major) from by unfold planW; rw [if_neg hbad]; rfl]
     simp only [List.mem_append]
     try simp only [or_assoc, or_comm, or_left_comm]
 · rintro b wr hA ⟨hL, hk⟩
   rw [List.take_length] at hL
   exact HQ.out _ _ (Agree.trans (hAa1_.mono (by intro j; simp; omega)) hA (by intro j; simp; omega)) hL hk
end Go.Proofs.YtpblcjipmoblnaaGreatDoor
