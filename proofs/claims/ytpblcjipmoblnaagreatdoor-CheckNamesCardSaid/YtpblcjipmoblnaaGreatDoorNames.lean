/- NamesC Names -/
import Derived.Test.YtpblcjipmoblnaaGreatDoorFor2
import Derived.Test.YtpblcjipmoblnaaGreatDoorNamesA
import Derived.Test.YtpblcjipmoblnaaGreatDoorRowsC
import Derived.Test.YtpblcjipmoblnaaGreatDoorNamesB
set_option maxRecDepth 100000
set_option maxHeartbeats 4000000
set_option linter.unusedVariables false
set_option linter.unusedSimpArgs false
namespace Go.Proofs.YtpblcjipmoblnaaGreatDoor
open Go.RowKit Go.IntWalk Ck
theorem SliceAt.take {α : Type} {B k : Nat} {R : World → Nat → Nat → α → Prop} {w : World} {A : Option Addr} {c : Nat} {xs : List α} (h : SliceAt B k R w (.slice A xs.length c) xs) {n : Nat} (hn : n ≤ xs.length) : SliceAt B k R w (.slice A (xs.take n).length c) (xs.take n) := by
 obtain ⟨_, _, e, h1, h2, h3⟩ := h
 cases e
 have hl : (xs.take n).length = n := by rw [List.length_take]; omega
 refine ⟨A, c, rfl, by omega, by omega, fun h0 => ?_⟩
 obtain ⟨b, off, e, hb, hc⟩ := h3 (by omega)
 exact ⟨b, off, e, hb, fun i x hx => hc i x (by rw [List.getElem?_take] at hx; split at hx; exact hx; cases hx)⟩
def rulesW (P : Policy) (l : List Ck.Rule) : List Wr := pairs (fun r s => [(max r.pos s.pos, 1)]) l ++ l.flatMap (ruleW P)
theorem mem_rulesW_snoc {P : Policy} {l : List Ck.Rule} {x : Ck.Rule} {p : Wr} : p ∈ rulesW P (l ++ [x]) ↔ p ∈ rulesW P l ∨ p ∈ l.flatMap (fun s => [(max x.pos s.pos, 1)]) ∨ p ∈ ruleW P x := by
 simp only [rulesW, List.mem_append, mem_pairs_snoc, List.flatMap_append, List.flatMap_cons, List.flatMap_nil, List.append_nil, List.mem_flatMap]
 constructor
 · rintro ((h | h) | (h | h))
   · exact .inl (.inl h)
   · exact .inr (.inl h)
   · exact .inl (.inr h)
   · exact .inr (.inr h)
 · rintro ((h | h) | (h | h))
   · exact .inl (.inl h)
   · exact .inr (.inl h)
   · exact .inl (.inr h)
   · exact .inr (.inr h)
theorem names_smaps {B : Nat} {w : World} {pb : Nat} {v : PolV} {P : Policy} {L : List Wr} (h : LookAt B w pb v P why1 L) {z0 zb : Nat} {D : Nat → DataW Value} {r : Nat → ByteArray → Value} (hF : FamsAt (z0 + 10) w (blocksOf z0) (famsOf P) D r)
 (hpb : pb < z0) (hzb : w.heap[zb]? = some (.cells (mapsOf z0) 137 (0, 0))) (hzp : zb ≠ pb) (a : Act) (hsz : a.tmps.size = 441)
 (h0 : At a 0 (.pointer (some ⟨pb, 0, none⟩))) (h2 : At a 2 (.pointer (some ⟨zb, 0, none⟩))) {zx : Nat} {A : Option Addr} {c : Nat} {l : List Ck.Map} (hx_ : At a 16 (.pointer (some ⟨zx, 0, none⟩))) (hq : w.cell? ⟨zx, 4, none⟩ = some (.slice A l.length c)) (hs : SliceAt B 5 MapAt w (.slice A l.length c) l) (Q : Exit → Act → World → Prop)
 (hQ : ∀ a' w', Agree (fun i => i == 18 || (decide (243 ≤ i) && decide (i ≤ 259))) a a' → LookAt B w' pb v P why1 (l.flatMap (mapW P.things) ++ L) → Keep (fun k => k = pb) w w' → Q .normal a' w') :
 (codeC Tryz.f49 [1,1,1,1,1,1,1,1,1,0,1,0,0,1,1,0,0,1,0]).wp Tryz.prog Q a w := by
 have hsl := hs
 obtain ⟨_, _, e, hnc, hn0, hl⟩ := hs
 cases e
 unfold top at hn0
 have hlt := h.lt
 have hBp := h.base
 conv => arg 2; whnf
 refine wp_seq (Code.wp_only (R := fun a1 w1 => Agree (fun i => i == 243 || i == 244 || i == 245 || i == 246) a a1 ∧ At a1 244 (.slice A l.length c) ∧ At a1 245 (.int .i64 l.length) ∧ At a1 246 (.int .i64 0) ∧ w1 = w) ?_ ?_)
 · clear hF hzb hl
   obtain ⟨T, d⟩ := a
   refine wp_region_lit ?_
   iterate 4 with_reducible refine st ?_
   with_reducible refine wpList_nil ?_
   refine ⟨rfl, ag, aq, aq, aq, rfl⟩
 rintro a0 w0 ⟨hA0, k_s, k_n, k_i, rfl⟩
 have hsz0 : a0.tmps.size = 441 := hA0.size.trans hsz
 replace h0 := hA0.at_ h0 rfl
 replace h2 := hA0.at_ h2 rfl
 refine wp_range l.length (fun i => i == 18 || (decide (246 ≤ i) && decide (i ≤ 259))) (fun i => i == 18 || (decide (248 ≤ i) && decide (i ≤ 258))) (fun k _ w' => LookAt B w' pb v P why1 ((l.take k).flatMap (mapW P.things) ++ L) ∧ Keep (fun k => k = pb) w0 w') (by omega) k_i k_n (by decide) rfl
  (by intro j; simp; omega) (by omega) (by decide) (fun k a1 a2 w hA hI => hI) ⟨by simpa [List.take_zero] using h, Keep.refl _ _⟩ ?_ ?_
 · rintro n a1 wr hlt2 hA k_j ⟨hL, hk⟩
   obtain ⟨bl, off, rfl, hbl, hcs⟩ := hl (by omega)
   obtain ⟨x, hx⟩ : ∃ x, l[n]? = some x := ⟨_, List.getElem?_eq_getElem hlt2⟩
   obtain ⟨hc, ok_x⟩ := (flat_stays B _ _) _ _ _ _ _ (hk.below (B := B) (by omega) (fun _ hi e => by omega)) hbl (hcs n x hx)
   have q0 := hc.c0
   have q1 := hc 1 _ rfl
   have q2 := hc 2 _ rfl
   have q3 := hc 3 _ rfl
   have q4 := hc 4 _ rfl
   have k_0 := hA.at_ h0 rfl
   have k_2 := hA.at_ h2 rfl
   have k_sl := hA.at_ k_s rfl
   have hsz1 : a1.tmps.size = 441 := hA.size.trans hsz0
   have hszw := hk.size
   have hblr : bl < wr.heap.size := by omega
   have HX := Lib.hid hx
   have HL := Lib.hid hL
   have HK := Lib.hid hk
   have hnc2 : n ≤ c := by omega
   have HA := Lib.hid hA
   clear hx hL hk hc hA hcs
   refine wp_seq (Code.wp_only (R := fun a2 w2 => Agree (fun i => i == 248 || i == 249 || i == 18) a1 a2 ∧ At a2 18 (.pointer (some ⟨wr.heap.size, 0, none⟩)) ∧ w2 = wr.alloc (Obj.cells #[.int .i64 x.pos, .string x.of, .int .u64 x.at_, .bool x.write, .bool x.exec] 71)) ?_ ?_)
   · clear hF hzb
     obtain ⟨T, d⟩ := a1
     refine wp_region_lit ?_
     iterate 4 with_reducible refine st ?_
     with_reducible refine wpList_nil ?_
     refine ⟨rfl, ag, aq, rfl⟩
   rintro a2 wo ⟨hA2, k_x, hwo⟩
   obtain ⟨z, hz⟩ : ∃ z, z = wr.heap.size := ⟨_, rfl⟩
   rw [← hz] at k_x
   have hx0 : CellsAt wo z 0 [.int .i64 x.pos, .string x.of, .int .u64 x.at_, .bool x.write, .bool x.exec] := by rw [hwo, hz]; exact cells_new _ _ _
   have hzo : z < wo.heap.size := by rw [hwo, hz]; simp
   have hzpb : z ≠ pb := by omega
   have hko : Keep (fun _ => False) wr wo := by rw [hwo]; exact (Keep.refl _ _).alloc _
   have HL1 := Lib.hid (HL.out.new hko)
   have HK1 := Lib.hid (HK.out.trans hko (fun _ _ h => h.elim))
   have HKr : Hid (Keep (fun k => k = pb) wr wo) := hko.mono (fun _ _ h => h.elim)
   have k_0 := hA2.at_ k_0 rfl
   have k_2 := hA2.at_ k_2 rfl
   have hsz2 := hA2.size.trans hsz1
   have HAg : Hid (Agree (fun i => i == 18 || (decide (248 ≤ i) && decide (i ≤ 258))) a1 a2) := hA2.mono (by intro j; simp; omega)
   clear hwo hz hko HL HK hA2 q0 q1 q2 q3 q4
   clear k_sl k_j hl
   refine Code.wp_only (R := fun a' w' => Agree (fun i => (decide (250 ≤ i) && decide (i ≤ 258))) a2 a' ∧ LookAt B w' pb v P why1 (mapW P.things x ++ ((l.take n).flatMap (mapW P.things) ++ L)) ∧ Keep (fun k => k = pb) wo w') ?_ ?_
   · skip
     clear HAg HX
     have q_x_pos := hx0.c0
     have q_x_of := hx0 1 _ rfl
     have q_x_at_ := hx0 2 _ rfl
     have q_x_write := hx0 3 _ rfl
     have q_x_exec := hx0 4 _ rfl
     have hzo2 := (HK1.out.block zb (heap_lt hzb) hzp).trans hzb
     have m0 : wo.cell? ⟨zb, 0, none⟩ = some (.map (some (z0 + 1))) := by rw [cell_of_row _ _ _ _ _ _ hzo2]; rfl
     clear hzo2
     clear hx0
     have sz_x_of : x.of.size ≤ maxLen := by have := ok_x; unfold Ck.Map.Ok Short at this; unfold maxLen; omega
     have hFo := hF.keep (HK1.out.drew) (fun k e _ => by subst e; exact ⟨by omega, by simp [blocksOf]; omega⟩)
     have gh0_x_of := flip_ (has_any hFo 0 (z0 + 1) P.things rfl rfl x.of sz_x_of)
     obtain ⟨h0_x_of, eh0_x_of⟩ : ∃ b, b = has P.things x.of := ⟨_, rfl⟩
     rw [← eh0_x_of] at gh0_x_of
     have HS : Hid (mapW P.things x = say (h0_x_of) x.pos 2) := by rw [eh0_x_of]; rfl
     clear hFo
     clear eh0_x_of
     have HLd := Lib.hid (HL1.out.new ((Keep.refl _ wo).drew))
     obtain ⟨T, d⟩ := a2
     refine wp_region_still_tail 8 (by kernel_rfl) (by kernel_rfl) ?_
     simp only [List.take_succ_cons, List.take_zero, List.drop_succ_cons, List.drop_zero]
     iterate 5
      with_reducible refine wpStill_step (fun K hK => ?_)
      go_simp
      with_reducible refine hK _ ?_
      clear hK K
     with_reducible refine wpStill_step (fun K hK => ?_)
     go_simp
     with_reducible refine ⟨_, gh0_x_of, hK _ ?_⟩
     clear hK K
     iterate 2
      with_reducible refine wpStill_step (fun K hK => ?_)
      go_simp
      with_reducible refine hK _ ?_
      clear hK K
     with_reducible refine wpStill_nil ?_
     with_reducible refine wpList_step (fun K hK => ?_)
     go_simp
     refine (must_any _ _ 2 80 HLd.out rfl).mono ?_
     rintro e w2 ⟨rfl, hL2, hk2⟩
     with_reducible refine hK _ _ (wpList_nil ?_)
     refine ⟨rfl, ?_, ?_, ?_⟩
     · exact ag
     · have hs := HS.out
       try simp only [bS] at hs
       rw [hs]
       exact hL2
     · exact ((Keep.refl _ _).drew).trans hk2 (fun _ _ e => e)
   rintro a3 w3 ⟨hA3, hL3, hk3⟩
   refine ⟨HAg.out.trans hA3 (by intro j; simp; omega), hL3.congr fun p => ?_, HK1.out.trans hk3 (fun _ _ e => e)⟩
   rw [take_at HX.out, List.flatMap_append, List.flatMap_cons, List.flatMap_nil, List.append_nil]
   simp only [List.mem_append, mapW]
   try simp only [or_assoc, or_comm, or_left_comm]
 · rintro a' w' hA ⟨hL, hk⟩
   rw [List.take_length] at hL
   exact hQ _ _ ((hA0.mono (by intro j; simp; omega)).trans hA (by intro j; simp; omega)) hL hk
theorem names_twins {B : Nat} {w : World} {pb : Nat} {v : PolV} {P : Policy} {L : List Wr} (h : LookAt B w pb v P why1 L) {z0 zb : Nat} {D : Nat → DataW Value} {r : Nat → ByteArray → Value} (hF : FamsAt (z0 + 10) w (blocksOf z0) (famsOf P) D r)
 (hpb : pb < z0) (hzb : w.heap[zb]? = some (.cells (mapsOf z0) 137 (0, 0))) (hzp : zb ≠ pb) (a : Act) (hsz : a.tmps.size = 441)
 (h0 : At a 0 (.pointer (some ⟨pb, 0, none⟩))) (h2 : At a 2 (.pointer (some ⟨zb, 0, none⟩))) {zx : Nat} {A : Option Addr} {c N : Nat} {l : List Ck.Rule} (hx_ : At a 16 (.pointer (some ⟨zx, 0, none⟩))) (hq : w.cell? ⟨zx, 5, none⟩ = some (.slice A N c)) (hcut : At a 19 (.int .i64 l.length)) (hNl : l.length ≤ N) (hNc : N ≤ c) (hs : SliceAt B 4 RuleAt w (.slice A l.length c) l) {zy : Nat} {y : Ck.Rule} (HO : Hid (∀ w0, Keep (fun k => k = pb) w w0 → CellsAt w0 zy 0 [.int .i64 y.pos, .int .i64 y.how, .string y.to, .int .u64 y.vector])) (hy : At a 20 (.pointer (some ⟨zy, 0, none⟩))) (Q : Exit → Act → World → Prop)
 (hQ : ∀ a' w', Agree (fun i => i == 22 || (decide (268 ≤ i) && decide (i ≤ 284))) a a' → LookAt B w' pb v P why1 (l.flatMap (fun s => [(max y.pos s.pos, 1)]) ++ L) → Keep (fun k => k = pb) w w' → Q .normal a' w') :
 (codeC Tryz.f49 [1,1,1,1,1,1,1,1,1,0,1,0,0,1,1,0,0,1,1,1,0,0,1,1,0,0,1,0]).wp Tryz.prog Q a w := by
 have hsl := hs
 obtain ⟨_, _, e, hnc, hn0, hl⟩ := hs
 cases e
 unfold top at hn0
 have hlt := h.lt
 have hBp := h.base
 conv => arg 2; whnf
 refine wp_seq (Code.wp_only (R := fun a1 w1 => Agree (fun i => i == 268 || i == 269 || i == 270 || i == 271 || i == 272 || i == 273) a a1 ∧ At a1 271 (.slice A l.length c) ∧ At a1 272 (.int .i64 l.length) ∧ At a1 273 (.int .i64 0) ∧ w1 = w) ?_ ?_)
 · clear hF hzb hl
   obtain ⟨T, d⟩ := a
   refine wp_region_lit ?_
   iterate 6 with_reducible refine st ?_
   with_reducible refine wpList_nil ?_
   refine ⟨rfl, ag, aq, aq, aq, rfl⟩
 rintro a0 w0 ⟨hA0, k_s, k_n, k_i, rfl⟩
 have hsz0 : a0.tmps.size = 441 := hA0.size.trans hsz
 replace h0 := hA0.at_ h0 rfl
 replace h2 := hA0.at_ h2 rfl
 replace hy := hA0.at_ hy rfl
 refine wp_range l.length (fun i => i == 22 || (decide (273 ≤ i) && decide (i ≤ 284))) (fun i => i == 22 || (decide (275 ≤ i) && decide (i ≤ 283))) (fun k _ w' => LookAt B w' pb v P why1 ((l.take k).flatMap (fun s => [(max y.pos s.pos, 1)]) ++ L) ∧ Keep (fun k => k = pb) w0 w') (by omega) k_i k_n (by decide) rfl
  (by intro j; simp; omega) (by omega) (by decide) (fun k a1 a2 w hA hI => hI) ⟨by simpa [List.take_zero] using h, Keep.refl _ _⟩ ?_ ?_
 · rintro n a1 wr hlt2 hA k_j ⟨hL, hk⟩
   obtain ⟨bl, off, rfl, hbl, hcs⟩ := hl (by omega)
   obtain ⟨x, hx⟩ : ∃ x, l[n]? = some x := ⟨_, List.getElem?_eq_getElem hlt2⟩
   obtain ⟨hc, ok_x⟩ := (flat_stays B _ _) _ _ _ _ _ (hk.below (B := B) (by omega) (fun _ hi e => by omega)) hbl (hcs n x hx)
   have q0 := hc.c0
   have q1 := hc 1 _ rfl
   have q2 := hc 2 _ rfl
   have q3 := hc 3 _ rfl
   have k_0 := hA.at_ h0 rfl
   have k_2 := hA.at_ h2 rfl
   have k_hy := hA.at_ hy rfl
   have k_sl := hA.at_ k_s rfl
   have hsz1 : a1.tmps.size = 441 := hA.size.trans hsz0
   have hszw := hk.size
   have hblr : bl < wr.heap.size := by omega
   have HX := Lib.hid hx
   have HL := Lib.hid hL
   have HK := Lib.hid hk
   have hnc2 : n ≤ c := by omega
   have HA := Lib.hid hA
   clear hx hL hk hc hA hcs
   refine wp_seq (Code.wp_only (R := fun a2 w2 => Agree (fun i => i == 275 || i == 276 || i == 22) a1 a2 ∧ At a2 22 (.pointer (some ⟨wr.heap.size, 0, none⟩)) ∧ w2 = wr.alloc (Obj.cells #[.int .i64 x.pos, .int .i64 x.how, .string x.to, .int .u64 x.vector] 85)) ?_ ?_)
   · clear hF hzb
     obtain ⟨T, d⟩ := a1
     refine wp_region_lit ?_
     iterate 4 with_reducible refine st ?_
     with_reducible refine wpList_nil ?_
     refine ⟨rfl, ag, aq, rfl⟩
   rintro a2 wo ⟨hA2, k_x, hwo⟩
   obtain ⟨z, hz⟩ : ∃ z, z = wr.heap.size := ⟨_, rfl⟩
   rw [← hz] at k_x
   have hx0 : CellsAt wo z 0 [.int .i64 x.pos, .int .i64 x.how, .string x.to, .int .u64 x.vector] := by rw [hwo, hz]; exact cells_new _ _ _
   have hzo : z < wo.heap.size := by rw [hwo, hz]; simp
   have hzpb : z ≠ pb := by omega
   have hko : Keep (fun _ => False) wr wo := by rw [hwo]; exact (Keep.refl _ _).alloc _
   have HL1 := Lib.hid (HL.out.new hko)
   have HK1 := Lib.hid (HK.out.trans hko (fun _ _ h => h.elim))
   have HKr : Hid (Keep (fun k => k = pb) wr wo) := hko.mono (fun _ _ h => h.elim)
   have k_0 := hA2.at_ k_0 rfl
   have k_2 := hA2.at_ k_2 rfl
   replace k_hy := hA2.at_ k_hy rfl
   have hsz2 := hA2.size.trans hsz1
   have HAg : Hid (Agree (fun i => i == 22 || (decide (275 ≤ i) && decide (i ≤ 283))) a1 a2) := hA2.mono (by intro j; simp; omega)
   clear hwo hz hko HL HK hA2 q0 q1 q2 q3
   clear k_sl k_j hl
   refine Code.wp_only (R := fun a' w' => Agree (fun i => (decide (277 ≤ i) && decide (i ≤ 283))) a2 a' ∧ LookAt B w' pb v P why1 ([(max y.pos x.pos, 1)] ++ ((l.take n).flatMap (fun s => [(max y.pos s.pos, 1)]) ++ L)) ∧ Keep (fun k => k = pb) wo w') ?_ ?_
   · skip
     clear HAg HX
     have q_x_pos := hx0.c0
     have q_x_how := hx0 1 _ rfl
     have q_x_to := hx0 2 _ rfl
     have q_x_vector := hx0 3 _ rfl
     have q_y_pos := (HO.out _ HK1.out).c0
     have q_y_how := (HO.out _ HK1.out) 1 _ rfl
     have q_y_to := (HO.out _ HK1.out) 2 _ rfl
     have q_y_vector := (HO.out _ HK1.out) 3 _ rfl
     clear hx0
     have HLd := HL1
     obtain ⟨T, d⟩ := a2
     refine wp_region_lit ?_
     iterate 6 with_reducible refine st ?_
     with_reducible refine wpList_step (fun K hK => ?_)
     go_simp
     refine (tell_any _ 1 81 HLd.out rfl).mono ?_
     rintro e w2 ⟨rfl, hL2, hk2⟩
     with_reducible refine hK _ _ (wpList_nil ?_)
     refine ⟨rfl, ?_, ?_, ?_⟩
     · exact ag
     · refine hL2.congr fun p => ?_
       rw [show (if y.pos < x.pos then x.pos else y.pos) = max y.pos x.pos from by split <;> omega]; exact Iff.rfl
     · exact hk2
   rintro a3 w3 ⟨hA3, hL3, hk3⟩
   refine ⟨HAg.out.trans hA3 (by intro j; simp; omega), hL3.congr fun p => ?_, HK1.out.trans hk3 (fun _ _ e => e)⟩
   rw [take_at HX.out, List.flatMap_append, List.flatMap_cons, List.flatMap_nil, List.append_nil]
   simp only [List.mem_append, List.mem_append]
   try simp only [or_assoc, or_comm, or_left_comm]
 · rintro a' w' hA ⟨hL, hk⟩
   rw [List.take_length] at hL
   exact hQ _ _ ((hA0.mono (by intro j; simp; omega)).trans hA (by intro j; simp; omega)) hL hk
theorem names_rules {B : Nat} {w : World} {pb : Nat} {v : PolV} {P : Policy} {L : List Wr} (h : LookAt B w pb v P why1 L) {z0 zb : Nat} {D : Nat → DataW Value} {r : Nat → ByteArray → Value} (hF : FamsAt (z0 + 10) w (blocksOf z0) (famsOf P) D r)
 (hpb : pb < z0) (hzb : w.heap[zb]? = some (.cells (mapsOf z0) 137 (0, 0))) (hzp : zb ≠ pb) (a : Act) (hsz : a.tmps.size = 441)
 (h0 : At a 0 (.pointer (some ⟨pb, 0, none⟩))) (h2 : At a 2 (.pointer (some ⟨zb, 0, none⟩))) {zx : Nat} {A : Option Addr} {c : Nat} {l : List Ck.Rule} (hx_ : At a 16 (.pointer (some ⟨zx, 0, none⟩))) (hq : w.cell? ⟨zx, 5, none⟩ = some (.slice A l.length c)) (hs : SliceAt B 4 RuleAt w (.slice A l.length c) l) (HB : Hid (∀ w0, Keep (fun k => k = pb) w w0 → w0.cell? ⟨zx, 5, none⟩ = some (.slice A l.length c))) (Q : Exit → Act → World → Prop)
 (hQ : ∀ a' w', Agree (fun i => i == 19 || i == 20 || i == 22 || i == 23 || (decide (260 ≤ i) && decide (i ≤ 326))) a a' → LookAt B w' pb v P why1 (rulesW P l ++ L) → Keep (fun k => k = pb) w w' → Q .normal a' w') :
 (codeC Tryz.f49 [1,1,1,1,1,1,1,1,1,0,1,0,0,1,1,0,0,1,1]).wp Tryz.prog Q a w := by
 have hsl := hs
 obtain ⟨_, _, e, hnc, hn0, hl⟩ := hs
 cases e
 unfold top at hn0
 have hlt := h.lt
 have hBp := h.base
 conv => arg 2; whnf
 refine wp_seq (Code.wp_only (R := fun a1 w1 => Agree (fun i => i == 260 || i == 261 || i == 262 || i == 263) a a1 ∧ At a1 261 (.slice A l.length c) ∧ At a1 262 (.int .i64 l.length) ∧ At a1 263 (.int .i64 0) ∧ w1 = w) ?_ ?_)
 · clear hF hzb hl
   obtain ⟨T, d⟩ := a
   refine wp_region_lit ?_
   iterate 4 with_reducible refine st ?_
   with_reducible refine wpList_nil ?_
   refine ⟨rfl, ag, aq, aq, aq, rfl⟩
 rintro a0 w0 ⟨hA0, k_s, k_n, k_i, rfl⟩
 have hsz0 : a0.tmps.size = 441 := hA0.size.trans hsz
 replace h0 := hA0.at_ h0 rfl
 replace h2 := hA0.at_ h2 rfl
 replace hx_ := hA0.at_ hx_ rfl
 refine wp_range l.length (fun i => i == 19 || i == 20 || i == 22 || i == 23 || (decide (263 ≤ i) && decide (i ≤ 326))) (fun i => i == 19 || i == 20 || i == 22 || i == 23 || (decide (265 ≤ i) && decide (i ≤ 325))) (fun k _ w' => LookAt B w' pb v P why1 (rulesW P (l.take k) ++ L) ∧ Keep (fun k => k = pb) w0 w') (by omega) k_i k_n (by decide) rfl
  (by intro j; simp; omega) (by omega) (by decide) (fun k a1 a2 w hA hI => hI) ⟨by simpa [rulesW, pairs] using h, Keep.refl _ _⟩ ?_ ?_
 · rintro n a1 wr hlt2 hA k_j ⟨hL, hk⟩
   obtain ⟨bl, off, rfl, hbl, hcs⟩ := hl (by omega)
   obtain ⟨x, hx⟩ : ∃ x, l[n]? = some x := ⟨_, List.getElem?_eq_getElem hlt2⟩
   obtain ⟨hc, ok_x⟩ := (flat_stays B _ _) _ _ _ _ _ (hk.below (B := B) (by omega) (fun _ hi e => by omega)) hbl (hcs n x hx)
   have q0 := hc.c0
   have q1 := hc 1 _ rfl
   have q2 := hc 2 _ rfl
   have q3 := hc 3 _ rfl
   have k_0 := hA.at_ h0 rfl
   have k_2 := hA.at_ h2 rfl
   have k_hx_ := hA.at_ hx_ rfl
   have k_sl := hA.at_ k_s rfl
   have hsz1 : a1.tmps.size = 441 := hA.size.trans hsz0
   have hszw := hk.size
   have hblr : bl < wr.heap.size := by omega
   have HX := Lib.hid hx
   have HL := Lib.hid hL
   have HK := Lib.hid hk
   have hnc2 : n ≤ c := by omega
   have HA := Lib.hid hA
   clear hx hL hk hc hA hcs
   refine wp_seq (Code.wp_only (R := fun a2 w2 => Agree (fun i => i == 265 || i == 266 || i == 267 || i == 20 || i == 19) a1 a2 ∧ At a2 20 (.pointer (some ⟨wr.heap.size, 0, none⟩)) ∧ At a2 19 (.int .i64 n) ∧ w2 = wr.alloc (Obj.cells #[.int .i64 x.pos, .int .i64 x.how, .string x.to, .int .u64 x.vector] 85)) ?_ ?_)
   · clear hF hzb
     obtain ⟨T, d⟩ := a1
     refine wp_region_lit ?_
     iterate 6 with_reducible refine st ?_
     with_reducible refine wpList_nil ?_
     refine ⟨rfl, ag, aq, aq, rfl⟩
   rintro a2 wo ⟨hA2, k_x, k_y, hwo⟩
   obtain ⟨z, hz⟩ : ∃ z, z = wr.heap.size := ⟨_, rfl⟩
   rw [← hz] at k_x
   have hx0 : CellsAt wo z 0 [.int .i64 x.pos, .int .i64 x.how, .string x.to, .int .u64 x.vector] := by rw [hwo, hz]; exact cells_new _ _ _
   have hzo : z < wo.heap.size := by rw [hwo, hz]; simp
   have hzpb : z ≠ pb := by omega
   have hko : Keep (fun _ => False) wr wo := by rw [hwo]; exact (Keep.refl _ _).alloc _
   have HL1 := Lib.hid (HL.out.new hko)
   have HK1 := Lib.hid (HK.out.trans hko (fun _ _ h => h.elim))
   have HKr : Hid (Keep (fun k => k = pb) wr wo) := hko.mono (fun _ _ h => h.elim)
   have k_0 := hA2.at_ k_0 rfl
   have k_2 := hA2.at_ k_2 rfl
   replace k_hx_ := hA2.at_ k_hx_ rfl
   have hsz2 := hA2.size.trans hsz1
   have HAg : Hid (Agree (fun i => i == 19 || i == 20 || i == 22 || i == 23 || (decide (265 ≤ i) && decide (i ≤ 325))) a1 a2) := hA2.mono (by intro j; simp; omega)
   clear hwo hz hko HL HK hA2 q0 q1 q2 q3
   clear k_sl k_j hl
   have hnl : (l.take n).length = n := by rw [List.length_take]; omega
   have HSL := Lib.hid (SliceAt.take hsl (n := n) (by omega))
   refine wp_seq (names_twins HL1.out (hF.keep HK1.out (fun k e _ => by subst e; exact ⟨by omega, by simp [blocksOf]; omega⟩)) hpb ((HK1.out.block zb (heap_lt hzb) hzp).trans hzb) hzp a2 hsz2 k_0 k_2 k_hx_ (HB.out _ HK1.out) (by rw [hnl]; exact k_y) (by omega) (by omega) (HSL.out.below (flat_stays _ _ _) (HK1.out.below (B := B) (by omega) (fun _ hi e => by omega))) (Lib.hid fun w4 hk4 => hx0.keep hk4 hzo hzpb) k_x _ (fun a3 w3 hA3 hL3 hk3 => ?_))
   with_reducible apply then_normal
   clear hnl HSL
   replace hx0 := hx0.keep hk3 hzo hzpb
   replace hzo : z < w3.heap.size := Nat.lt_of_lt_of_le hzo hk3.size
   replace HL1 := Lib.hid hL3
   replace HK1 := Lib.hid (HK1.out.trans hk3 (fun _ _ e => e))
   replace HKr := Lib.hid (HKr.out.trans hk3 (fun _ _ e => e))
   replace k_0 := hA3.at_ k_0 rfl
   replace k_x := hA3.at_ k_x rfl
   replace k_2 := hA3.at_ k_2 rfl
   replace k_y := hA3.at_ k_y rfl
   replace k_hx_ := hA3.at_ k_hx_ rfl
   replace hsz2 := hA3.size.trans hsz2
   replace HAg : Hid (Agree (fun i => i == 19 || i == 20 || i == 22 || i == 23 || (decide (265 ≤ i) && decide (i ≤ 325))) a1 a3) := HAg.out.trans hA3 (by intro j; simp; omega)
   clear hA3 hL3 hk3
   refine wp_seq (Code.wp_only (R := fun a' w' => Agree (fun i => i == 23 || (decide (285 ≤ i) && decide (i ≤ 287))) a3 a' ∧ At a' 23 (.bool (decide (x.how = 1))) ∧ w' = w3) ?_ ?_)
   · have q_x_how := hx0 1 _ rfl
     have w1 : (x.how == 1) = decide (x.how = 1) := rfl
     obtain ⟨T, d⟩ := a3
     refine wp_region_lit ?_
     iterate 4 with_reducible refine st ?_
     with_reducible refine wpList_nil ?_
     refine ⟨rfl, ag, aq, rfl⟩
   rintro a4 w4 ⟨hA3, k_t, hw3⟩
   subst hw3
   have hL3 := HL1.out
   have hk3 := Keep.refl (fun k => k = pb) w4
   replace hx0 := hx0.keep hk3 hzo hzpb
   replace hzo : z < w4.heap.size := Nat.lt_of_lt_of_le hzo hk3.size
   replace HL1 := Lib.hid hL3
   replace HK1 := Lib.hid (HK1.out.trans hk3 (fun _ _ e => e))
   replace HKr := Lib.hid (HKr.out.trans hk3 (fun _ _ e => e))
   replace k_0 := hA3.at_ k_0 rfl
   replace k_x := hA3.at_ k_x rfl
   replace k_2 := hA3.at_ k_2 rfl
   replace k_y := hA3.at_ k_y rfl
   replace k_hx_ := hA3.at_ k_hx_ rfl
   replace hsz2 := hA3.size.trans hsz2
   replace HAg : Hid (Agree (fun i => i == 19 || i == 20 || i == 22 || i == 23 || (decide (265 ≤ i) && decide (i ≤ 325))) a1 a4) := HAg.out.trans hA3 (by intro j; simp; omega)
   clear hA3 hL3 hk3
   refine wp_seq (Code.wp_only (R := fun a' w' => Agree (fun i => (decide (288 ≤ i) && decide (i ≤ 312))) a4 a' ∧ LookAt B w' pb v P why1 (say (decide (1 ≤ x.how) && decide (x.how ≤ 3) && (decide (x.how = 1) || decide (x.to = ByteArray.empty) && decide (x.vector = 0))) x.pos 0 ++ ((l.take n).flatMap (fun s => [(max x.pos s.pos, 1)]) ++ (rulesW P (l.take n) ++ L))) ∧ Keep (fun k => k = pb) w4 w') ?_ ?_)
   · skip
     clear HAg HX
     have q_x_pos := hx0.c0
     have q_x_how := hx0 1 _ rfl
     have q_x_to := hx0 2 _ rfl
     have q_x_vector := hx0 3 _ rfl
     clear hx0
     obtain ⟨b_tells, eb_tells⟩ : ∃ b, b = decide (x.how = 1) := ⟨_, rfl⟩
     rw [← eb_tells] at k_t
     obtain ⟨b_x_how_ge1, eb_x_how_ge1⟩ : ∃ b, b = decide (1 ≤ x.how) := ⟨_, rfl⟩
     have w1b_x_how_ge1 := eb_x_how_ge1.symm
     obtain ⟨b_x_how_le3, eb_x_how_le3⟩ : ∃ b, b = decide (x.how ≤ 3) := ⟨_, rfl⟩
     have w1b_x_how_le3 := eb_x_how_le3.symm
     obtain ⟨b_x_to_empty, eb_x_to_empty⟩ : ∃ b, b = decide (x.to = ByteArray.empty) := ⟨_, rfl⟩
     have w1b_x_to_empty : (x.to.toList == ByteArray.toList { data := #[] }) = b_x_to_empty := by rw [eb_x_to_empty]; exact bytes_beq _ _
     have w2b_x_to_empty : (x.to.toList == []) = b_x_to_empty := by rw [← w1b_x_to_empty, toList_nil]
     obtain ⟨b_x_vector_eq0, eb_x_vector_eq0⟩ : ∃ b, b = decide (x.vector = 0) := ⟨_, rfl⟩
     have w1b_x_vector_eq0 : ((x.vector : Int) == 0) = b_x_vector_eq0 := by rw [eb_x_vector_eq0]; exact nat_eqb _ _
     have w2b_x_vector_eq0 : ((x.vector : Int) != 0) = !b_x_vector_eq0 := by rw [eb_x_vector_eq0]; exact nat_neb _ _
     have HS : Hid (say (decide (1 ≤ x.how) && decide (x.how ≤ 3) && (decide (x.how = 1) || decide (x.to = ByteArray.empty) && decide (x.vector = 0))) x.pos 0 = say (((b_x_how_ge1 && b_x_how_le3) && (b_tells || (b_x_to_empty && b_x_vector_eq0)))) x.pos 0) := by rw [eb_tells, eb_x_how_ge1, eb_x_how_le3, eb_x_to_empty, eb_x_vector_eq0]; rfl
     clear eb_tells
     clear eb_x_how_ge1
     clear eb_x_how_le3
     clear eb_x_to_empty
     clear eb_x_vector_eq0
     have HLd := HL1
     have hun := undef_eq
     obtain ⟨T, d⟩ := a4
     refine wp_region_lit ?_
     iterate 5 with_reducible refine st ?_
     cases b_x_how_ge1
     · iterate 19
        with_reducible refine st ?_
       with_reducible refine wpList_step (fun K hK => ?_)
       go_simp
       refine (must_any _ _ 0 5 HLd.out rfl).mono ?_
       rintro e w2 ⟨rfl, hL2, hk2⟩
       with_reducible refine hK _ _ (wpList_nil ?_)
       refine ⟨rfl, ?_, ?_, ?_⟩
       · exact ag
       · have hs := HS.out
         try simp only [bS] at hs
         rw [hs]
         exact hL2
       · exact hk2
     · iterate 5
        with_reducible refine st ?_
       cases b_x_how_le3
       · iterate 14
          with_reducible refine st ?_
         with_reducible refine wpList_step (fun K hK => ?_)
         go_simp
         refine (must_any _ _ 0 5 HLd.out rfl).mono ?_
         rintro e w2 ⟨rfl, hL2, hk2⟩
         with_reducible refine hK _ _ (wpList_nil ?_)
         refine ⟨rfl, ?_, ?_, ?_⟩
         · exact ag
         · have hs := HS.out
           try simp only [bS] at hs
           rw [hs]
           exact hL2
         · exact hk2
       · iterate 2
          with_reducible refine st ?_
         cases b_tells
         · iterate 4
            with_reducible refine st ?_
           cases b_x_to_empty
           · iterate 8
              with_reducible refine st ?_
             with_reducible refine wpList_step (fun K hK => ?_)
             go_simp
             refine (must_any _ _ 0 5 HLd.out rfl).mono ?_
             rintro e w2 ⟨rfl, hL2, hk2⟩
             with_reducible refine hK _ _ (wpList_nil ?_)
             refine ⟨rfl, ?_, ?_, ?_⟩
             · exact ag
             · have hs := HS.out
               try simp only [bS] at hs
               rw [hs]
               exact hL2
             · exact hk2
           · iterate 8
              with_reducible refine st ?_
             with_reducible refine wpList_step (fun K hK => ?_)
             go_simp
             refine (must_any _ _ 0 5 HLd.out rfl).mono ?_
             rintro e w2 ⟨rfl, hL2, hk2⟩
             with_reducible refine hK _ _ (wpList_nil ?_)
             refine ⟨rfl, ?_, ?_, ?_⟩
             · exact ag
             · have hs := HS.out
               try simp only [bS] at hs
               rw [hs]
               exact hL2
             · exact hk2
         · iterate 12
            with_reducible refine st ?_
           with_reducible refine wpList_step (fun K hK => ?_)
           go_simp
           refine (must_any _ _ 0 5 HLd.out rfl).mono ?_
           rintro e w2 ⟨rfl, hL2, hk2⟩
           with_reducible refine hK _ _ (wpList_nil ?_)
           refine ⟨rfl, ?_, ?_, ?_⟩
           · exact ag
           · have hs := HS.out
             try simp only [bS] at hs
             rw [hs]
             exact hL2
           · exact hk2
   rintro a5 w5 ⟨hA3, hL3, hk3⟩
   replace hx0 := hx0.keep hk3 hzo hzpb
   replace hzo : z < w5.heap.size := Nat.lt_of_lt_of_le hzo hk3.size
   replace HL1 := Lib.hid hL3
   replace HK1 := Lib.hid (HK1.out.trans hk3 (fun _ _ e => e))
   replace HKr := Lib.hid (HKr.out.trans hk3 (fun _ _ e => e))
   replace k_0 := hA3.at_ k_0 rfl
   replace k_x := hA3.at_ k_x rfl
   replace k_2 := hA3.at_ k_2 rfl
   replace k_y := hA3.at_ k_y rfl
   replace k_t := hA3.at_ k_t rfl
   replace k_hx_ := hA3.at_ k_hx_ rfl
   replace hsz2 := hA3.size.trans hsz2
   replace HAg : Hid (Agree (fun i => i == 19 || i == 20 || i == 22 || i == 23 || (decide (265 ≤ i) && decide (i ≤ 325))) a1 a5) := HAg.out.trans hA3 (by intro j; simp; omega)
   clear hA3 hL3 hk3
   refine Code.wp_only (R := fun a' w' => Agree (fun i => (decide (313 ≤ i) && decide (i ≤ 325))) a5 a' ∧ LookAt B w' pb v P why1 (say (!decide (x.how = 1) || has P.subs x.to) x.pos 2 ++ (say (decide (1 ≤ x.how) && decide (x.how ≤ 3) && (decide (x.how = 1) || decide (x.to = ByteArray.empty) && decide (x.vector = 0))) x.pos 0 ++ ((l.take n).flatMap (fun s => [(max x.pos s.pos, 1)]) ++ (rulesW P (l.take n) ++ L)))) ∧ Keep (fun k => k = pb) w5 w') ?_ ?_
   · skip
     clear HAg HX
     have q_x_pos := hx0.c0
     have q_x_how := hx0 1 _ rfl
     have q_x_to := hx0 2 _ rfl
     have q_x_vector := hx0 3 _ rfl
     have hzo2 := (HK1.out.block zb (heap_lt hzb) hzp).trans hzb
     have m3 : w5.cell? ⟨zb, 3, none⟩ = some (.map (some (z0 + 4))) := by rw [cell_of_row _ _ _ _ _ _ hzo2]; rfl
     clear hzo2
     clear hx0
     have sz_x_to : x.to.size ≤ maxLen := by have := ok_x; unfold Ck.Rule.Ok Short at this; unfold maxLen; omega
     have hFo := hF.keep (HK1.out.drew) (fun k e _ => by subst e; exact ⟨by omega, by simp [blocksOf]; omega⟩)
     obtain ⟨b_tells, eb_tells⟩ : ∃ b, b = decide (x.how = 1) := ⟨_, rfl⟩
     rw [← eb_tells] at k_t
     have gh3_x_to := flip_ (has_any hFo 3 (z0 + 4) P.subs rfl rfl x.to sz_x_to)
     obtain ⟨h3_x_to, eh3_x_to⟩ : ∃ b, b = has P.subs x.to := ⟨_, rfl⟩
     rw [← eh3_x_to] at gh3_x_to
     have HS : Hid (say (!decide (x.how = 1) || has P.subs x.to) x.pos 2 = say (((!b_tells) || h3_x_to)) x.pos 2) := by rw [eb_tells, eh3_x_to]; rfl
     clear hFo
     clear eb_tells
     clear eh3_x_to
     have HLd := Lib.hid (HL1.out.new ((Keep.refl _ w5).drew))
     have hun := undef_eq
     obtain ⟨T, d⟩ := a5
     refine wp_region_still_tail 12 (by kernel_rfl) (by kernel_rfl) ?_
     simp only [List.take_succ_cons, List.take_zero, List.drop_succ_cons, List.drop_zero]
     iterate 4
      with_reducible refine wpStill_step (fun K hK => ?_)
      go_simp
      with_reducible refine hK _ ?_
      clear hK K
     cases b_tells
     · iterate 8
        with_reducible refine wpStill_step (fun K hK => ?_)
        go_simp
        with_reducible refine hK _ ?_
        clear hK K
       with_reducible refine wpStill_nil ?_
       with_reducible refine wpList_step (fun K hK => ?_)
       go_simp
       refine (must_any _ _ 2 80 HLd.out rfl).mono ?_
       rintro e w2 ⟨rfl, hL2, hk2⟩
       with_reducible refine hK _ _ (wpList_nil ?_)
       refine ⟨rfl, ?_, ?_, ?_⟩
       · exact ag
       · have hs := HS.out
         try simp only [bS] at hs
         rw [hs]
         exact hL2
       · exact ((Keep.refl _ _).drew).trans hk2 (fun _ _ e => e)
     · iterate 4
        with_reducible refine wpStill_step (fun K hK => ?_)
        go_simp
        with_reducible refine hK _ ?_
        clear hK K
       with_reducible refine wpStill_step (fun K hK => ?_)
       go_simp
       with_reducible refine ⟨_, gh3_x_to, hK _ ?_⟩
       clear hK K
       iterate 3
        with_reducible refine wpStill_step (fun K hK => ?_)
        go_simp
        with_reducible refine hK _ ?_
        clear hK K
       with_reducible refine wpStill_nil ?_
       with_reducible refine wpList_step (fun K hK => ?_)
       go_simp
       refine (must_any _ _ 2 80 HLd.out rfl).mono ?_
       rintro e w2 ⟨rfl, hL2, hk2⟩
       with_reducible refine hK _ _ (wpList_nil ?_)
       refine ⟨rfl, ?_, ?_, ?_⟩
       · exact ag
       · have hs := HS.out
         try simp only [bS] at hs
         rw [hs]
         exact hL2
       · exact ((Keep.refl _ _).drew).trans hk2 (fun _ _ e => e)
   rintro a6 w6 ⟨hA3, hL3, hk3⟩
   refine ⟨HAg.out.trans hA3 (by intro j; simp; omega), hL3.congr fun p => ?_, HK1.out.trans hk3 (fun _ _ e => e)⟩
   rw [take_at HX.out]
   simp only [List.mem_append, mem_rulesW_snoc, ruleW]
   try simp only [or_assoc, or_comm, or_left_comm]
 · rintro a' w' hA ⟨hL, hk⟩
   rw [List.take_length] at hL
   exact hQ _ _ ((hA0.mono (by intro j; simp; omega)).trans hA (by intro j; simp; omega)) hL hk
theorem names_subjects {B : Nat} {w : World} {pb : Nat} {v : PolV} {P : Policy} {L : List Wr} (h : LookAt B w pb v P why1 L) {z0 zb : Nat} {D : Nat → DataW Value} {r : Nat → ByteArray → Value} (hF : FamsAt (z0 + 10) w (blocksOf z0) (famsOf P) D r)
 (hpb : pb < z0) (hzb : w.heap[zb]? = some (.cells (mapsOf z0) 137 (0, 0))) (hzp : zb ≠ pb) (a : Act) (hsz : a.tmps.size = 441)
 (h0 : At a 0 (.pointer (some ⟨pb, 0, none⟩))) (h2 : At a 2 (.pointer (some ⟨zb, 0, none⟩))) (Q : Exit → Act → World → Prop)
 (hQ : ∀ a' w', Agree (fun i => i == 16 || i == 18 || i == 19 || i == 20 || i == 22 || i == 23 || (decide (233 ≤ i) && decide (i ≤ 327))) a a' → LookAt B w' pb v P why1 (P.subjects.flatMap (subjectW P) ++ L) → Keep (fun k => k = pb) w w' → Q .normal a' w') :
 (codeC Tryz.f49 [1,1,1,1,1,1,1,1,1,0]).wp Tryz.prog Q a w := by
 have hs := h.pol.subjects
 obtain ⟨A, c, hu, hnc, hn0, hl⟩ := hs
 unfold top at hn0
 have hlt := h.lt
 have hBp := h.base
 have hq : w.cell? ⟨pb, 5, none⟩ = some v.subjects := h.cell rfl
 rw [hu] at hq
 clear hu
 conv => arg 2; whnf
 refine wp_seq (Code.wp_only (R := fun a1 w1 => Agree (fun i => i == 233 || i == 234 || i == 235 || i == 236 || i == 237 || i == 238 || i == 239) a a1 ∧ At a1 237 (.slice A P.subjects.length c) ∧ At a1 238 (.int .i64 P.subjects.length) ∧ At a1 239 (.int .i64 0) ∧ w1 = w) ?_ ?_)
 · clear hF hzb hl
   obtain ⟨T, d⟩ := a
   refine wp_region_lit ?_
   iterate 7 with_reducible refine st ?_
   with_reducible refine wpList_nil ?_
   refine ⟨rfl, ag, aq, aq, aq, rfl⟩
 rintro a0 w0 ⟨hA0, k_s, k_n, k_i, rfl⟩
 have hsz0 : a0.tmps.size = 441 := hA0.size.trans hsz
 replace h0 := hA0.at_ h0 rfl
 replace h2 := hA0.at_ h2 rfl
 refine wp_range P.subjects.length (fun i => i == 16 || i == 18 || i == 19 || i == 20 || i == 22 || i == 23 || (decide (239 ≤ i) && decide (i ≤ 327))) (fun i => i == 16 || i == 18 || i == 19 || i == 20 || i == 22 || i == 23 || (decide (241 ≤ i) && decide (i ≤ 326))) (fun k _ w' => LookAt B w' pb v P why1 ((P.subjects.take k).flatMap (subjectW P) ++ L) ∧ Keep (fun k => k = pb) w0 w') (by omega) k_i k_n (by decide) rfl
  (by intro j; simp; omega) (by omega) (by decide) (fun k a1 a2 w hA hI => hI) ⟨by simpa [List.take_zero] using h, Keep.refl _ _⟩ ?_ ?_
 · rintro n a1 wr hlt2 hA k_j ⟨hL, hk⟩
   obtain ⟨bl, off, rfl, hbl, hcs⟩ := hl (by omega)
   obtain ⟨x, hx⟩ : ∃ x, P.subjects[n]? = some x := ⟨_, List.getElem?_eq_getElem hlt2⟩
   obtain ⟨u_maps, u_rules, hc, hs_maps, hs_rules, ok_x⟩ := (subject_stays B) _ _ _ _ _ (hk.below (B := B) (by omega) (fun _ hi e => by omega)) hbl (hcs n x hx)
   have HS_maps := Lib.hid hs_maps
   obtain ⟨A_mapsx, c_mapsx, rfl, hnc_maps, hn_maps, _⟩ := hs_maps
   unfold top at hn_maps
   have HS_rules := Lib.hid hs_rules
   obtain ⟨A_rulesx, c_rulesx, rfl, hnc_rules, hn_rules, _⟩ := hs_rules
   unfold top at hn_rules
   have q0 := hc.c0
   have q1 := hc 1 _ rfl
   have q2 := hc 2 _ rfl
   have q3 := hc 3 _ rfl
   have q4 := hc 4 _ rfl
   have q5 := hc 5 _ rfl
   have k_0 := hA.at_ h0 rfl
   have k_2 := hA.at_ h2 rfl
   have k_sl := hA.at_ k_s rfl
   have hsz1 : a1.tmps.size = 441 := hA.size.trans hsz0
   have hszw := hk.size
   have hblr : bl < wr.heap.size := by omega
   have HX := Lib.hid hx
   have HL := Lib.hid hL
   have HK := Lib.hid hk
   have hnc2 : n ≤ c := by omega
   have HA := Lib.hid hA
   clear hx hL hk hc hA hcs
   refine wp_seq (Code.wp_only (R := fun a2 w2 => Agree (fun i => i == 241 || i == 242 || i == 16) a1 a2 ∧ At a2 16 (.pointer (some ⟨wr.heap.size, 0, none⟩)) ∧ w2 = wr.alloc (Obj.cells #[.int .i64 x.pos, .string x.name, .int .u64 x.cpu, .bool x.stopped, .slice A_mapsx x.maps.length c_mapsx, .slice A_rulesx x.rules.length c_rulesx] 52)) ?_ ?_)
   · clear hF hzb
     obtain ⟨T, d⟩ := a1
     refine wp_region_lit ?_
     iterate 4 with_reducible refine st ?_
     with_reducible refine wpList_nil ?_
     refine ⟨rfl, ag, aq, rfl⟩
   rintro a2 wo ⟨hA2, k_x, hwo⟩
   obtain ⟨z, hz⟩ : ∃ z, z = wr.heap.size := ⟨_, rfl⟩
   rw [← hz] at k_x
   have hx0 : CellsAt wo z 0 [.int .i64 x.pos, .string x.name, .int .u64 x.cpu, .bool x.stopped, .slice A_mapsx x.maps.length c_mapsx, .slice A_rulesx x.rules.length c_rulesx] := by rw [hwo, hz]; exact cells_new _ _ _
   have hzo : z < wo.heap.size := by rw [hwo, hz]; simp
   have hzpb : z ≠ pb := by omega
   have hko : Keep (fun _ => False) wr wo := by rw [hwo]; exact (Keep.refl _ _).alloc _
   have HL1 := Lib.hid (HL.out.new hko)
   have HK1 := Lib.hid (HK.out.trans hko (fun _ _ h => h.elim))
   have HKr : Hid (Keep (fun k => k = pb) wr wo) := hko.mono (fun _ _ h => h.elim)
   have k_0 := hA2.at_ k_0 rfl
   have k_2 := hA2.at_ k_2 rfl
   have hsz2 := hA2.size.trans hsz1
   have HAg : Hid (Agree (fun i => i == 16 || i == 18 || i == 19 || i == 20 || i == 22 || i == 23 || (decide (241 ≤ i) && decide (i ≤ 326))) a1 a2) := hA2.mono (by intro j; simp; omega)
   clear hwo hz hko HL HK hA2 q0 q1 q2 q3 q4 q5
   clear k_sl k_j hl
   refine wp_seq (names_smaps HL1.out (hF.keep HK1.out (fun k e _ => by subst e; exact ⟨by omega, by simp [blocksOf]; omega⟩)) hpb ((HK1.out.block zb (heap_lt hzb) hzp).trans hzb) hzp a2 hsz2 k_0 k_2 k_x (hx0 4 _ rfl) (HS_maps.out.below (flat_stays _ _ _) (HKr.out.below (B := B) (by omega) (fun _ hi e => by omega))) _ (fun a3 w3 hA3 hL3 hk3 => ?_))
   with_reducible apply then_normal
   replace hx0 := hx0.keep hk3 hzo hzpb
   replace hzo : z < w3.heap.size := Nat.lt_of_lt_of_le hzo hk3.size
   replace HL1 := Lib.hid hL3
   replace HK1 := Lib.hid (HK1.out.trans hk3 (fun _ _ e => e))
   replace HKr := Lib.hid (HKr.out.trans hk3 (fun _ _ e => e))
   replace k_0 := hA3.at_ k_0 rfl
   replace k_x := hA3.at_ k_x rfl
   replace k_2 := hA3.at_ k_2 rfl
   replace hsz2 := hA3.size.trans hsz2
   replace HAg : Hid (Agree (fun i => i == 16 || i == 18 || i == 19 || i == 20 || i == 22 || i == 23 || (decide (241 ≤ i) && decide (i ≤ 326))) a1 a3) := HAg.out.trans hA3 (by intro j; simp; omega)
   clear hA3 hL3 hk3
   refine names_rules HL1.out (hF.keep HK1.out (fun k e _ => by subst e; exact ⟨by omega, by simp [blocksOf]; omega⟩)) hpb ((HK1.out.block zb (heap_lt hzb) hzp).trans hzb) hzp a3 hsz2 k_0 k_2 k_x (hx0 5 _ rfl) (HS_rules.out.below (flat_stays _ _ _) (HKr.out.below (B := B) (by omega) (fun _ hi e => by omega))) (Lib.hid fun w4 hk4 => (hx0.keep hk4 hzo hzpb) 5 _ rfl) _ (fun a4 w4 hA3 hL3 hk3 => ?_)
   refine ⟨HAg.out.trans hA3 (by intro j; simp; omega), hL3.congr fun p => ?_, HK1.out.trans hk3 (fun _ _ e => e)⟩
   rw [take_at HX.out, List.flatMap_append, List.flatMap_cons, List.flatMap_nil, List.append_nil]
   simp only [List.mem_append, subjectW, rulesW]
   try simp only [or_assoc, or_comm, or_left_comm]
 · rintro a' w' hA ⟨hL, hk⟩
   rw [List.take_length] at hL
   exact hQ _ _ ((hA0.mono (by intro j; simp; omega)).trans hA (by intro j; simp; omega)) hL hk
theorem names_plans {B : Nat} {w : World} {pb : Nat} {v : PolV} {P : Policy} {L : List Wr} (h : LookAt B w pb v P why1 L) {z0 zb : Nat} {D : Nat → DataW Value} {r : Nat → ByteArray → Value} (hF : FamsAt (z0 + 10) w (blocksOf z0) (famsOf P) D r)
 (hpb : pb < z0) (hzb : w.heap[zb]? = some (.cells (mapsOf z0) 137 (0, 0))) (hzp : zb ≠ pb) (a : Act) (hsz : a.tmps.size = 441)
 (h0 : At a 0 (.pointer (some ⟨pb, 0, none⟩))) (h2 : At a 2 (.pointer (some ⟨zb, 0, none⟩))) (Q : Exit → Act → World → Prop)
 (hQ : ∀ a' w', Agree (fun i => i == 29 || (decide (425 ≤ i) && decide (i ≤ 440))) a a' → LookAt B w' pb v P why1 (P.plans.flatMap (fun x => rowsW P x.lanes) ++ L) → Keep (fun k => k = pb) w w' → Q .normal a' w') :
 (codeC Tryz.f49 [1,1,1,1,1,1,1,1,1,1,1,1]).wp Tryz.prog Q a w := by
 have hs := h.pol.plans
 obtain ⟨A, c, hu, hnc, hn0, hl⟩ := hs
 unfold top at hn0
 have hlt := h.lt
 have hBp := h.base
 have hq : w.cell? ⟨pb, 9, none⟩ = some v.plans := h.cell rfl
 rw [hu] at hq
 clear hu
 conv => arg 2; whnf
 refine wp_seq (Code.wp_only (R := fun a1 w1 => Agree (fun i => i == 425 || i == 426 || i == 427 || i == 428 || i == 429 || i == 430 || i == 431) a a1 ∧ At a1 429 (.slice A P.plans.length c) ∧ At a1 430 (.int .i64 P.plans.length) ∧ At a1 431 (.int .i64 0) ∧ w1 = w) ?_ ?_)
 · clear hF hzb hl
   obtain ⟨T, d⟩ := a
   refine wp_region_lit ?_
   iterate 7 with_reducible refine st ?_
   with_reducible refine wpList_nil ?_
   refine ⟨rfl, ag, aq, aq, aq, rfl⟩
 rintro a0 w0 ⟨hA0, k_s, k_n, k_i, rfl⟩
 have hsz0 : a0.tmps.size = 441 := hA0.size.trans hsz
 replace h0 := hA0.at_ h0 rfl
 replace h2 := hA0.at_ h2 rfl
 refine wp_range P.plans.length (fun i => i == 29 || (decide (431 ≤ i) && decide (i ≤ 440))) (fun i => i == 29 || (decide (433 ≤ i) && decide (i ≤ 439))) (fun k _ w' => LookAt B w' pb v P why1 ((P.plans.take k).flatMap (fun x => rowsW P x.lanes) ++ L) ∧ Keep (fun k => k = pb) w0 w') (by omega) k_i k_n (by decide) rfl
  (by intro j; simp; omega) (by omega) (by decide) (fun k a1 a2 w hA hI => hI) ⟨by simpa [List.take_zero] using h, Keep.refl _ _⟩ ?_ ?_
 · rintro n a1 wr hlt2 hA k_j ⟨hL, hk⟩
   obtain ⟨bl, off, rfl, hbl, hcs⟩ := hl (by omega)
   obtain ⟨x, hx⟩ : ∃ x, P.plans[n]? = some x := ⟨_, List.getElem?_eq_getElem hlt2⟩
   obtain ⟨u_lanes, hc, hs_lanes, ok_x⟩ := (plan_stays B) _ _ _ _ _ (hk.below (B := B) (by omega) (fun _ hi e => by omega)) hbl (hcs n x hx)
   have HS_lanes := Lib.hid hs_lanes
   obtain ⟨A_lanesx, c_lanesx, rfl, hnc_lanes, hn_lanes, _⟩ := hs_lanes
   unfold top at hn_lanes
   have q0 := hc.c0
   have q1 := hc 1 _ rfl
   have q2 := hc 2 _ rfl
   have q3 := hc 3 _ rfl
   have k_0 := hA.at_ h0 rfl
   have k_2 := hA.at_ h2 rfl
   have k_sl := hA.at_ k_s rfl
   have hsz1 : a1.tmps.size = 441 := hA.size.trans hsz0
   have hszw := hk.size
   have hblr : bl < wr.heap.size := by omega
   have HX := Lib.hid hx
   have HL := Lib.hid hL
   have HK := Lib.hid hk
   have hnc2 : n ≤ c := by omega
   have HA := Lib.hid hA
   clear hx hL hk hc hA hcs
   refine wp_seq (Code.wp_only (R := fun a2 w2 => Agree (fun i => i == 433 || i == 434 || i == 29) a1 a2 ∧ At a2 29 (.pointer (some ⟨wr.heap.size, 0, none⟩)) ∧ w2 = wr.alloc (Obj.cells #[.int .i64 x.pos, .string x.name, .int .u64 x.major, .slice A_lanesx x.lanes.length c_lanesx] 62)) ?_ ?_)
   · clear hF hzb
     obtain ⟨T, d⟩ := a1
     refine wp_region_lit ?_
     iterate 4 with_reducible refine st ?_
     with_reducible refine wpList_nil ?_
     refine ⟨rfl, ag, aq, rfl⟩
   rintro a2 wo ⟨hA2, k_x, hwo⟩
   obtain ⟨z, hz⟩ : ∃ z, z = wr.heap.size := ⟨_, rfl⟩
   rw [← hz] at k_x
   have hx0 : CellsAt wo z 0 [.int .i64 x.pos, .string x.name, .int .u64 x.major, .slice A_lanesx x.lanes.length c_lanesx] := by rw [hwo, hz]; exact cells_new _ _ _
   have hzo : z < wo.heap.size := by rw [hwo, hz]; simp
   have hzpb : z ≠ pb := by omega
   have hko : Keep (fun _ => False) wr wo := by rw [hwo]; exact (Keep.refl _ _).alloc _
   have HL1 := Lib.hid (HL.out.new hko)
   have HK1 := Lib.hid (HK.out.trans hko (fun _ _ h => h.elim))
   have HKr : Hid (Keep (fun k => k = pb) wr wo) := hko.mono (fun _ _ h => h.elim)
   have k_0 := hA2.at_ k_0 rfl
   have k_2 := hA2.at_ k_2 rfl
   have hsz2 := hA2.size.trans hsz1
   have HAg : Hid (Agree (fun i => i == 29 || (decide (433 ≤ i) && decide (i ≤ 439))) a1 a2) := hA2.mono (by intro j; simp; omega)
   clear hwo hz hko HL HK hA2 q0 q1 q2 q3
   clear k_sl k_j hl
   refine Code.wp_only (R := fun a' w' => Agree (fun i => (decide (435 ≤ i) && decide (i ≤ 439))) a2 a' ∧ LookAt B w' pb v P why1 (rowsW P x.lanes ++ ((P.plans.take n).flatMap (fun x => rowsW P x.lanes) ++ L)) ∧ Keep (fun k => k = pb) wo w') ?_ ?_
   · have q3 := hx0 3 _ rfl
     have hzo2 := (HK1.out.block zb (heap_lt hzb) hzp).trans hzb
     have m0 : wo.cell? ⟨zb, 0, none⟩ = some (.map (some (z0 + 1))) := by rw [cell_of_row _ _ _ _ _ _ hzo2]; rfl
     have m1 : wo.cell? ⟨zb, 1, none⟩ = some (.map (some (z0 + 2))) := by rw [cell_of_row _ _ _ _ _ _ hzo2]; rfl
     have m2 : wo.cell? ⟨zb, 2, none⟩ = some (.map (some (z0 + 3))) := by rw [cell_of_row _ _ _ _ _ _ hzo2]; rfl
     have m3 : wo.cell? ⟨zb, 3, none⟩ = some (.map (some (z0 + 4))) := by rw [cell_of_row _ _ _ _ _ _ hzo2]; rfl
     have m4 : wo.cell? ⟨zb, 4, none⟩ = some (.map (some (z0 + 5))) := by rw [cell_of_row _ _ _ _ _ _ hzo2]; rfl
     have m5 : wo.cell? ⟨zb, 5, none⟩ = some (.map (some (z0 + 6))) := by rw [cell_of_row _ _ _ _ _ _ hzo2]; rfl
     have m6 : wo.cell? ⟨zb, 6, none⟩ = some (.map (some (z0 + 7))) := by rw [cell_of_row _ _ _ _ _ _ hzo2]; rfl
     have m7 : wo.cell? ⟨zb, 7, none⟩ = some (.map (some (z0 + 8))) := by rw [cell_of_row _ _ _ _ _ _ hzo2]; rfl
     clear hzo2 hx0
     obtain ⟨T, d⟩ := a2
     refine wp_region_lit ?_
     iterate 4 with_reducible refine st ?_
     with_reducible refine wpList_step (fun K hK => ?_)
     go_simp
     have hFo := hF.keep HK1.out (fun k e _ => by subst e; exact ⟨by omega, by simp [blocksOf]; omega⟩)
     refine (rows_any HL1.out hFo hpb (HS_lanes.out.below (lane_stays B) (HKr.out.below (B := B) (by omega) (fun _ hi e => by omega)))).mono ?_
     rintro e w2 ⟨rfl, hL2, hk2⟩
     with_reducible refine hK _ _ (wpList_nil ?_)
     refine ⟨rfl, ag, hL2, hk2⟩
   rintro a3 w3 ⟨hA3, hL3, hk3⟩
   refine ⟨HAg.out.trans hA3 (by intro j; simp; omega), hL3.congr fun p => ?_, HK1.out.trans hk3 (fun _ _ e => e)⟩
   rw [take_at HX.out, List.flatMap_append, List.flatMap_cons, List.flatMap_nil, List.append_nil]
   simp only [List.mem_append, List.mem_append]
   try simp only [or_assoc, or_comm, or_left_comm]
 · rintro a' w' hA ⟨hL, hk⟩
   rw [List.take_length] at hL
   exact hQ _ _ ((hA0.mono (by intro j; simp; omega)).trans hA (by intro j; simp; omega)) hL hk
theorem slice_all {α : Type} {B k : Nat} {R : World → Nat → Nat → α → Prop} {w : World} {v : Value} {xs : List α} {Q : α → Prop} (h : SliceAt B k R w v xs) (hq : ∀ b o x, R w b o x → Q x) : ∀ x ∈ xs, Q x := by
 intro x hx
 obtain ⟨A, c, e, _, _, hl⟩ := h
 obtain ⟨i, hi⟩ := List.getElem?_of_mem hx
 obtain ⟨b, off, _, _, hc⟩ := hl (by have := (List.getElem?_eq_some_iff.1 hi).1; omega)
 exact hq _ _ _ (hc i x hi)
def NmOk (f : List Nm) : Prop := f.length ≤ 4194304 ∧ ∀ x ∈ f, Short x.1
theorem fams_ok {B : Nat} {w : World} {v : PolV} {P : Policy} (h : PolAt B w v P) : ∀ f ∈ famsOf P, NmOk f := by
 have s1 : ∀ x ∈ P.devices, Short x.name := slice_all h.devices fun b o x hx => by obtain ⟨_, _, _, _, _, _, h⟩ := hx; exact h
 have s2 : ∀ x ∈ P.regions, Short x.name := slice_all h.regions fun b o x hx => hx.2.2.2.2.2.1
 have s3 : ∀ x ∈ P.subjects, Short x.name := slice_all h.subjects fun b o x hx => by obtain ⟨_, _, _, _, _, _, _, h⟩ := hx; exact h
 have s4 : ∀ x ∈ P.channels, Short x.name := slice_all h.channels fun b o x hx => hx.2.2.2.2.1
 have s5 : ∀ x ∈ P.irqs, Short x.name := slice_all h.irqs fun b o x hx => hx.2.2.2.1
 have s6 : ∀ x ∈ P.queues, Short x.name := slice_all h.queues fun b o x hx => hx.2.2.2.2.1
 have s7 : ∀ x ∈ P.plans, Short x.name := slice_all h.plans fun b o x hx => by obtain ⟨_, _, _, _, _, h⟩ := hx; exact h
 have l1 : P.devices.length ≤ 2097152 := by obtain ⟨_, _, _, _, b, _⟩ := h.devices; exact b
 have l2 : P.regions.length ≤ 2097152 := by obtain ⟨_, _, _, _, b, _⟩ := h.regions; exact b
 have l3 : P.subjects.length ≤ 2097152 := by obtain ⟨_, _, _, _, b, _⟩ := h.subjects; exact b
 have l4 : P.channels.length ≤ 2097152 := by obtain ⟨_, _, _, _, b, _⟩ := h.channels; exact b
 have l5 : P.irqs.length ≤ 2097152 := by obtain ⟨_, _, _, _, b, _⟩ := h.irqs; exact b
 have l6 : P.queues.length ≤ 2097152 := by obtain ⟨_, _, _, _, b, _⟩ := h.queues; exact b
 have l7 : P.plans.length ≤ 2097152 := by obtain ⟨_, _, _, _, b, _⟩ := h.plans; exact b
 intro f hf
 simp only [famsOf, List.mem_cons, List.mem_nil_iff, or_false] at hf
 rcases hf with rfl | rfl | rfl | rfl | rfl | rfl | rfl | rfl
 · refine ⟨by simp [Policy.things, Policy.devs, Policy.regs]; omega, fun x hx => ?_⟩
   simp only [Policy.things, Policy.devs, Policy.regs, List.mem_append, List.mem_map] at hx
   rcases hx with ⟨y, hy, rfl⟩ | ⟨y, hy, rfl⟩
   · exact s1 y hy
   · exact s2 y hy
 · exact ⟨by simp [Policy.devs]; omega, fun x hx => by simp only [Policy.devs, List.mem_map] at hx; obtain ⟨y, hy, rfl⟩ := hx; exact s1 y hy⟩
 · exact ⟨by simp [Policy.regs]; omega, fun x hx => by simp only [Policy.regs, List.mem_map] at hx; obtain ⟨y, hy, rfl⟩ := hx; exact s2 y hy⟩
 · exact ⟨by simp [Policy.subs]; omega, fun x hx => by simp only [Policy.subs, List.mem_map] at hx; obtain ⟨y, hy, rfl⟩ := hx; exact s3 y hy⟩
 · exact ⟨by simp [Policy.chans]; omega, fun x hx => by simp only [Policy.chans, List.mem_map] at hx; obtain ⟨y, hy, rfl⟩ := hx; exact s4 y hy⟩
 · exact ⟨by simp [Policy.irqn]; omega, fun x hx => by simp only [Policy.irqn, List.mem_map] at hx; obtain ⟨y, hy, rfl⟩ := hx; exact s5 y hy⟩
 · exact ⟨by simp [Policy.ques]; omega, fun x hx => by simp only [Policy.ques, List.mem_map] at hx; obtain ⟨y, hy, rfl⟩ := hx; exact s6 y hy⟩
 · exact ⟨by simp [Policy.plns]; omega, fun x hx => by simp only [Policy.plns, List.mem_map] at hx; obtain ⟨y, hy, rfl⟩ := hx; exact s7 y hy⟩
def onceOf (named : ByteArray → Bool) (P : Policy) (is : List Nat) : List Wr := is.flatMap fun i => once named ((famsOf P).getD i [])
theorem names_starts {B : Nat} {w : World} {pb : Nat} {v : PolV} {P : Policy} {L : List Wr} (h : LookAt B w pb v P why1 L) {z0 zb : Nat} {D : Nat → DataW Value} {r : Nat → ByteArray → Value} (hF : FamsAt (z0 + 10) w (blocksOf z0) (famsOf P) D r)
 (hpb : pb < z0) (hzb : w.heap[zb]? = some (.cells (mapsOf z0) 137 (0, 0))) (hzp : zb ≠ pb) (a : Act) (hsz : a.tmps.size = 441)
 (h0 : At a 0 (.pointer (some ⟨pb, 0, none⟩))) (h2 : At a 2 (.pointer (some ⟨zb, 0, none⟩))) (Q : Exit → Act → World → Prop)
 (hQ : ∀ a' w', Agree (fun i => (decide (54 ≤ i) && decide (i ≤ 62))) a a' → LookAt B w' pb v P why1 (picks P.starts P.plns ++ L) → Keep (fun k => k = pb) w w' → Q .normal a' w') :
 (codeC Tryz.f49 [1,1,0]).wp Tryz.prog Q a w := by
 have hlt := h.lt
 obtain ⟨u, hu⟩ : ∃ u, u = v.starts := ⟨_, rfl⟩
 have hs := h.pol.starts
 rw [← hu] at hs
 have hq : w.cell? ⟨pb, 11, none⟩ = some u := by rw [hu]; exact h.cell rfl
 have m7 : w.cell? ⟨zb, 7, none⟩ = some (.map (some (z0 + 8))) := by rw [cell_of_row _ _ _ _ _ _ hzb]; rfl
 have hc := (picks_any (h.new ((Keep.refl _ w).drew)) (hF.keep ((Keep.refl (fun _ => False) w).drew) (fun _ h => h.elim)) 7 _ _ rfl rfl ⟨by omega, by simp [blocksOf]; omega⟩ (hs.below (flat_stays _ _ _) ((Keep.refl (fun _ => False) w).drew.below (B := B) (by have := h.base; omega) (fun _ _ e => e))))
 have HC := Lib.hid hc
 clear hc hu hs
 conv => arg 2; whnf
 obtain ⟨T, d⟩ := a
 refine wp_region_still_tail 8 (by kernel_rfl) (by kernel_rfl) ?_
 simp only [List.take_succ_cons, List.take_zero, List.drop_succ_cons, List.drop_zero]
 iterate 8
  with_reducible refine wpStill_step (fun K hK => ?_)
  go_simp
  with_reducible refine hK _ ?_
  clear hK K
 with_reducible refine wpStill_nil ?_
 with_reducible refine wpList_step (fun K hK => ?_)
 go_simp
 refine HC.out.mono ?_
 rintro e w2 ⟨rfl, hL2, hk2⟩
 with_reducible refine hK _ _ (wpList_nil ?_)
 refine hQ _ _ ?_ hL2 (((Keep.refl _ _).drew).trans hk2 (fun _ _ e => e))
 exact ag
theorem names_masters {B : Nat} {w : World} {pb : Nat} {v : PolV} {P : Policy} {L : List Wr} (h : LookAt B w pb v P why1 L) {z0 zb : Nat} {D : Nat → DataW Value} {r : Nat → ByteArray → Value} (hF : FamsAt (z0 + 10) w (blocksOf z0) (famsOf P) D r)
 (hpb : pb < z0) (hzb : w.heap[zb]? = some (.cells (mapsOf z0) 137 (0, 0))) (hzp : zb ≠ pb) (a : Act) (hsz : a.tmps.size = 441)
 (h0 : At a 0 (.pointer (some ⟨pb, 0, none⟩))) (h2 : At a 2 (.pointer (some ⟨zb, 0, none⟩))) (Q : Exit → Act → World → Prop)
 (hQ : ∀ a' w', Agree (fun i => (decide (63 ≤ i) && decide (i ≤ 71))) a a' → LookAt B w' pb v P why1 (picks P.masters P.subs ++ L) → Keep (fun k => k = pb) w w' → Q .normal a' w') :
 (codeC Tryz.f49 [1,1,1,0]).wp Tryz.prog Q a w := by
 have hlt := h.lt
 obtain ⟨u, hu⟩ : ∃ u, u = v.masters := ⟨_, rfl⟩
 have hs := h.pol.masters
 rw [← hu] at hs
 have hq : w.cell? ⟨pb, 10, none⟩ = some u := by rw [hu]; exact h.cell rfl
 have m3 : w.cell? ⟨zb, 3, none⟩ = some (.map (some (z0 + 4))) := by rw [cell_of_row _ _ _ _ _ _ hzb]; rfl
 have hc := (picks_any (h.new ((Keep.refl _ w).drew)) (hF.keep ((Keep.refl (fun _ => False) w).drew) (fun _ h => h.elim)) 3 _ _ rfl rfl ⟨by omega, by simp [blocksOf]; omega⟩ (hs.below (flat_stays _ _ _) ((Keep.refl (fun _ => False) w).drew.below (B := B) (by have := h.base; omega) (fun _ _ e => e))))
 have HC := Lib.hid hc
 clear hc hu hs
 conv => arg 2; whnf
 obtain ⟨T, d⟩ := a
 refine wp_region_still_tail 8 (by kernel_rfl) (by kernel_rfl) ?_
 simp only [List.take_succ_cons, List.take_zero, List.drop_succ_cons, List.drop_zero]
 iterate 8
  with_reducible refine wpStill_step (fun K hK => ?_)
  go_simp
  with_reducible refine hK _ ?_
  clear hK K
 with_reducible refine wpStill_nil ?_
 with_reducible refine wpList_step (fun K hK => ?_)
 go_simp
 refine HC.out.mono ?_
 rintro e w2 ⟨rfl, hL2, hk2⟩
 with_reducible refine hK _ _ (wpList_nil ?_)
 refine hQ _ _ ?_ hL2 (((Keep.refl _ _).drew).trans hk2 (fun _ _ e => e))
 exact ag
theorem names_monitors {B : Nat} {w : World} {pb : Nat} {v : PolV} {P : Policy} {L : List Wr} (h : LookAt B w pb v P why1 L) {z0 zb : Nat} {D : Nat → DataW Value} {r : Nat → ByteArray → Value} (hF : FamsAt (z0 + 10) w (blocksOf z0) (famsOf P) D r)
 (hpb : pb < z0) (hzb : w.heap[zb]? = some (.cells (mapsOf z0) 137 (0, 0))) (hzp : zb ≠ pb) (a : Act) (hsz : a.tmps.size = 441)
 (h0 : At a 0 (.pointer (some ⟨pb, 0, none⟩))) (h2 : At a 2 (.pointer (some ⟨zb, 0, none⟩))) (Q : Exit → Act → World → Prop)
 (hQ : ∀ a' w', Agree (fun i => (decide (72 ≤ i) && decide (i ≤ 80))) a a' → LookAt B w' pb v P why1 (picks P.monitors P.subs ++ L) → Keep (fun k => k = pb) w w' → Q .normal a' w') :
 (codeC Tryz.f49 [1,1,1,1,0]).wp Tryz.prog Q a w := by
 have hlt := h.lt
 obtain ⟨u, hu⟩ : ∃ u, u = v.monitors := ⟨_, rfl⟩
 have hs := h.pol.monitors
 rw [← hu] at hs
 have hq : w.cell? ⟨pb, 12, none⟩ = some u := by rw [hu]; exact h.cell rfl
 have m3 : w.cell? ⟨zb, 3, none⟩ = some (.map (some (z0 + 4))) := by rw [cell_of_row _ _ _ _ _ _ hzb]; rfl
 have hc := (picks_any (h.new ((Keep.refl _ w).drew)) (hF.keep ((Keep.refl (fun _ => False) w).drew) (fun _ h => h.elim)) 3 _ _ rfl rfl ⟨by omega, by simp [blocksOf]; omega⟩ (hs.below (flat_stays _ _ _) ((Keep.refl (fun _ => False) w).drew.below (B := B) (by have := h.base; omega) (fun _ _ e => e))))
 have HC := Lib.hid hc
 clear hc hu hs
 conv => arg 2; whnf
 obtain ⟨T, d⟩ := a
 refine wp_region_still_tail 8 (by kernel_rfl) (by kernel_rfl) ?_
 simp only [List.take_succ_cons, List.take_zero, List.drop_succ_cons, List.drop_zero]
 iterate 8
  with_reducible refine wpStill_step (fun K hK => ?_)
  go_simp
  with_reducible refine hK _ ?_
  clear hK K
 with_reducible refine wpStill_nil ?_
 with_reducible refine wpList_step (fun K hK => ?_)
 go_simp
 refine HC.out.mono ?_
 rintro e w2 ⟨rfl, hL2, hk2⟩
 with_reducible refine hK _ _ (wpList_nil ?_)
 refine hQ _ _ ?_ hL2 (((Keep.refl _ _).drew).trans hk2 (fun _ _ e => e))
 exact ag
theorem names_twices {B : Nat} {w : World} {pb : Nat} {v : PolV} {P : Policy} {L : List Wr} {named : ByteArray → Bool} (hN : NamedSpec B named) (h : LookAt B w pb v P why1 L) {z0 zb : Nat} {D : Nat → DataW Value} {r : Nat → ByteArray → Value} (hF : FamsAt (z0 + 10) w (blocksOf z0) (famsOf P) D r)
 (hpb : pb < z0) (hzb : w.heap[zb]? = some (.cells (mapsOf z0) 137 (0, 0))) (hzp : zb ≠ pb) (a : Act) (hsz : a.tmps.size = 441)
 (h0 : At a 0 (.pointer (some ⟨pb, 0, none⟩))) (h2 : At a 2 (.pointer (some ⟨zb, 0, none⟩))) (Q : Exit → Act → World → Prop)
 (hQ : ∀ a' w', Agree (fun i => i == 4 || (decide (32 ≤ i) && decide (i ≤ 53))) a a' → LookAt B w' pb v P why1 (onceOf named P [0, 3, 4, 5, 6, 7] ++ L) → Keep (fun k => k = pb) w w' → Q .normal a' w') :
 (codeC Tryz.f49 [1,0]).wp Tryz.prog Q a w := by
 have hlt := h.lt
 have hBp := h.base
 have hok := fams_ok h.pol
 have m0 : w.cell? ⟨zb, 0, none⟩ = some (.map (some (z0 + 1))) := by rw [cell_of_row _ _ _ _ _ _ hzb]; rfl
 have m3 : w.cell? ⟨zb, 3, none⟩ = some (.map (some (z0 + 4))) := by rw [cell_of_row _ _ _ _ _ _ hzb]; rfl
 have m4 : w.cell? ⟨zb, 4, none⟩ = some (.map (some (z0 + 5))) := by rw [cell_of_row _ _ _ _ _ _ hzb]; rfl
 have m5 : w.cell? ⟨zb, 5, none⟩ = some (.map (some (z0 + 6))) := by rw [cell_of_row _ _ _ _ _ _ hzb]; rfl
 have m6 : w.cell? ⟨zb, 6, none⟩ = some (.map (some (z0 + 7))) := by rw [cell_of_row _ _ _ _ _ _ hzb]; rfl
 have m7 : w.cell? ⟨zb, 7, none⟩ = some (.map (some (z0 + 8))) := by rw [cell_of_row _ _ _ _ _ _ hzb]; rfl
 conv => arg 2; whnf
 refine wp_seq (Code.wp_only (R := fun a1 w1 => Agree (fun i => (decide (32 ≤ i) && decide (i ≤ 46))) a a1 ∧ At a1 44 (.slice (some ⟨w.heap.size, 0, none⟩) 6 6) ∧ At a1 45 (.int .i64 (6 : Nat)) ∧ At a1 46 (.int .i64 0) ∧ w1 = w.alloc (.cells #[.map (some (z0 + 1)), .map (some (z0 + 4)), .map (some (z0 + 5)), .map (some (z0 + 6)), .map (some (z0 + 7)), .map (some (z0 + 8))] 135)) ?_ ?_)
 · clear hN hF hok hzb
   obtain ⟨T, d⟩ := a
   refine wp_region_lit ?_
   iterate 15 with_reducible refine st ?_
   with_reducible refine wpList_nil ?_
   refine ⟨rfl, ?_, ?_, ?_, ?_, ?_⟩
   · exact ag
   · exact aq
   · show At _ 45 (.int .i64 6)
     exact aq
   · exact aq
   · rfl
 rintro a0 w1 ⟨hA0, k_s, k_n, k_i, hw1⟩
 have hk1 : Keep (fun _ => False) w w1 := by rw [hw1]; exact (Keep.refl _ _).alloc _
 obtain ⟨z, hz⟩ : ∃ z, z = w.heap.size := ⟨_, rfl⟩
 rw [← hz] at k_s
 have hx0 : CellsAt w1 z 0 [.map (some (z0 + 1)), .map (some (z0 + 4)), .map (some (z0 + 5)), .map (some (z0 + 6)), .map (some (z0 + 7)), .map (some (z0 + 8))] := by rw [hw1, hz]; exact cells_new _ _ _
 have hz1 : z < w1.heap.size := by rw [hw1, hz]; simp
 have hzpb : z ≠ pb := by omega
 have hL1 := h.new hk1
 have hsz0 := hA0.size.trans hsz
 have k_0 := hA0.at_ h0 rfl
 clear hw1 hz m0 m3 m4 m5 m6 m7
 refine wp_range 6 (fun i => i == 4 || (decide (46 ≤ i) && decide (i ≤ 53))) (fun i => i == 4 || (decide (48 ≤ i) && decide (i ≤ 52))) (fun k _ w' => LookAt B w' pb v P why1 (onceOf named P (([0, 3, 4, 5, 6, 7] : List Nat).take k) ++ L) ∧ Keep (fun k => k = pb) w1 w') (by omega) k_i k_n (by decide) rfl
  (by intro j; simp; omega) (by omega) (by decide) (fun k a1 a2 w hA hI => hI) ⟨by simpa [onceOf] using hL1, Keep.refl _ _⟩ ?_ ?_
 · rintro n a1 wr hlt2 hA k_j ⟨hL, hk⟩
   have hkw : Keep (fun k => k = pb) w wr := (hk1.mono (fun _ _ h => h.elim)).trans hk (fun _ _ e => e)
   have hx1 := hx0.keep hk hz1 hzpb
   have hFr := hF.keep hkw (fun k e _ => by subst e; exact ⟨by omega, by simp [blocksOf]; omega⟩)
   have hsz1 := hA.size.trans hsz0
   have hzr : z < wr.heap.size := Nat.lt_of_lt_of_le hz1 hk.size
   have j_0 := hA.at_ k_0 rfl
   have j_s := hA.at_ k_s rfl
   have HL := Lib.hid hL
   have HK := Lib.hid hk
   have HN := Lib.hid hN
   have HF := Lib.hid hFr
   have HX := Lib.hid hx1
   have HOK := Lib.hid hok
   have HAg := Lib.hid hA
   clear hL hk hN hFr hF hx0 hx1 hok hA hkw hL1 h
   have hn6 : n = 0 ∨ n = 1 ∨ n = 2 ∨ n = 3 ∨ n = 4 ∨ n = 5 := by omega
   rcases hn6 with rfl | rfl | rfl | rfl | rfl | rfl
   · have q0 : wr.cell? ⟨z, 0, none⟩ = some (.map (some (z0 + 1))) := by have := HX.out 0 _ rfl; simpa using this
     refine wp_seq (Code.wp_only (R := fun a2 w2 => Agree (fun i => i == 48 || i == 49 || i == 4) a1 a2 ∧ At a2 4 (.map (some (z0 + 1))) ∧ w2 = wr) ?_ ?_)
     · obtain ⟨T, d⟩ := a1
       refine wp_region_lit ?_
       iterate 3 with_reducible refine st ?_
       with_reducible refine wpList_nil ?_
       refine ⟨rfl, ag, aq, rfl⟩
     rintro a2 w2 ⟨hA2, k_4, rfl⟩
     have i_0 := hA2.at_ j_0 rfl
     have hsz2 := hA2.size.trans hsz1
     refine Code.wp_only (R := fun a3 w3 => Agree (fun i => i == 50 || i == 51 || i == 52) a2 a3 ∧ LookAt B w3 pb v P why1 (once named ((famsOf P).getD 0 []) ++ (onceOf named P (([0, 3, 4, 5, 6, 7] : List Nat).take 0) ++ L)) ∧ Keep (fun k => k = pb) w2 w3) ?_ ?_
     · have hc := twice_any HN.out HL.out HF.out 0 (z0 + 1) _ rfl rfl ⟨by omega, by simp [blocksOf]; omega⟩ (HOK.out _ (by simp [famsOf])).1 (HOK.out _ (by simp [famsOf])).2
       have HC := Lib.hid hc
       clear hc hA2 q0 k_j j_s
       obtain ⟨T, d⟩ := a2
       refine wp_region_lit ?_
       iterate 2 with_reducible refine st ?_
       with_reducible refine wpList_step (fun K hK => ?_)
       go_simp
       refine HC.out.mono ?_
       rintro e w4 ⟨rfl, hL2, hk2⟩
       with_reducible refine hK _ _ (wpList_nil ?_)
       refine ⟨rfl, ?_, hL2, hk2⟩
       exact ag
     rintro a3 w3 ⟨hA3, hL3, hk3⟩
     refine ⟨(hA2.mono (by intro j; simp; omega)).trans hA3 (by intro j; simp; omega), hL3.congr fun p => ?_, HK.out.trans hk3 (fun _ _ e => e)⟩
     simp [onceOf, or_assoc, or_comm, or_left_comm]
   · have q0 : wr.cell? ⟨z, 1, none⟩ = some (.map (some (z0 + 4))) := by have := HX.out 1 _ rfl; simpa using this
     refine wp_seq (Code.wp_only (R := fun a2 w2 => Agree (fun i => i == 48 || i == 49 || i == 4) a1 a2 ∧ At a2 4 (.map (some (z0 + 4))) ∧ w2 = wr) ?_ ?_)
     · obtain ⟨T, d⟩ := a1
       refine wp_region_lit ?_
       iterate 3 with_reducible refine st ?_
       with_reducible refine wpList_nil ?_
       refine ⟨rfl, ag, aq, rfl⟩
     rintro a2 w2 ⟨hA2, k_4, rfl⟩
     have i_0 := hA2.at_ j_0 rfl
     have hsz2 := hA2.size.trans hsz1
     refine Code.wp_only (R := fun a3 w3 => Agree (fun i => i == 50 || i == 51 || i == 52) a2 a3 ∧ LookAt B w3 pb v P why1 (once named ((famsOf P).getD 3 []) ++ (onceOf named P (([0, 3, 4, 5, 6, 7] : List Nat).take 1) ++ L)) ∧ Keep (fun k => k = pb) w2 w3) ?_ ?_
     · have hc := twice_any HN.out HL.out HF.out 3 (z0 + 4) _ rfl rfl ⟨by omega, by simp [blocksOf]; omega⟩ (HOK.out _ (by simp [famsOf])).1 (HOK.out _ (by simp [famsOf])).2
       have HC := Lib.hid hc
       clear hc hA2 q0 k_j j_s
       obtain ⟨T, d⟩ := a2
       refine wp_region_lit ?_
       iterate 2 with_reducible refine st ?_
       with_reducible refine wpList_step (fun K hK => ?_)
       go_simp
       refine HC.out.mono ?_
       rintro e w4 ⟨rfl, hL2, hk2⟩
       with_reducible refine hK _ _ (wpList_nil ?_)
       refine ⟨rfl, ?_, hL2, hk2⟩
       exact ag
     rintro a3 w3 ⟨hA3, hL3, hk3⟩
     refine ⟨(hA2.mono (by intro j; simp; omega)).trans hA3 (by intro j; simp; omega), hL3.congr fun p => ?_, HK.out.trans hk3 (fun _ _ e => e)⟩
     simp [onceOf, or_assoc, or_comm, or_left_comm]
   · have q0 : wr.cell? ⟨z, 2, none⟩ = some (.map (some (z0 + 5))) := by have := HX.out 2 _ rfl; simpa using this
     refine wp_seq (Code.wp_only (R := fun a2 w2 => Agree (fun i => i == 48 || i == 49 || i == 4) a1 a2 ∧ At a2 4 (.map (some (z0 + 5))) ∧ w2 = wr) ?_ ?_)
     · obtain ⟨T, d⟩ := a1
       refine wp_region_lit ?_
       iterate 3 with_reducible refine st ?_
       with_reducible refine wpList_nil ?_
       refine ⟨rfl, ag, aq, rfl⟩
     rintro a2 w2 ⟨hA2, k_4, rfl⟩
     have i_0 := hA2.at_ j_0 rfl
     have hsz2 := hA2.size.trans hsz1
     refine Code.wp_only (R := fun a3 w3 => Agree (fun i => i == 50 || i == 51 || i == 52) a2 a3 ∧ LookAt B w3 pb v P why1 (once named ((famsOf P).getD 4 []) ++ (onceOf named P (([0, 3, 4, 5, 6, 7] : List Nat).take 2) ++ L)) ∧ Keep (fun k => k = pb) w2 w3) ?_ ?_
     · have hc := twice_any HN.out HL.out HF.out 4 (z0 + 5) _ rfl rfl ⟨by omega, by simp [blocksOf]; omega⟩ (HOK.out _ (by simp [famsOf])).1 (HOK.out _ (by simp [famsOf])).2
       have HC := Lib.hid hc
       clear hc hA2 q0 k_j j_s
       obtain ⟨T, d⟩ := a2
       refine wp_region_lit ?_
       iterate 2 with_reducible refine st ?_
       with_reducible refine wpList_step (fun K hK => ?_)
       go_simp
       refine HC.out.mono ?_
       rintro e w4 ⟨rfl, hL2, hk2⟩
       with_reducible refine hK _ _ (wpList_nil ?_)
       refine ⟨rfl, ?_, hL2, hk2⟩
       exact ag
     rintro a3 w3 ⟨hA3, hL3, hk3⟩
     refine ⟨(hA2.mono (by intro j; simp; omega)).trans hA3 (by intro j; simp; omega), hL3.congr fun p => ?_, HK.out.trans hk3 (fun _ _ e => e)⟩
     simp [onceOf, or_assoc, or_comm, or_left_comm]
   · have q0 : wr.cell? ⟨z, 3, none⟩ = some (.map (some (z0 + 6))) := by have := HX.out 3 _ rfl; simpa using this
     refine wp_seq (Code.wp_only (R := fun a2 w2 => Agree (fun i => i == 48 || i == 49 || i == 4) a1 a2 ∧ At a2 4 (.map (some (z0 + 6))) ∧ w2 = wr) ?_ ?_)
     · obtain ⟨T, d⟩ := a1
       refine wp_region_lit ?_
       iterate 3 with_reducible refine st ?_
       with_reducible refine wpList_nil ?_
       refine ⟨rfl, ag, aq, rfl⟩
     rintro a2 w2 ⟨hA2, k_4, rfl⟩
     have i_0 := hA2.at_ j_0 rfl
     have hsz2 := hA2.size.trans hsz1
     refine Code.wp_only (R := fun a3 w3 => Agree (fun i => i == 50 || i == 51 || i == 52) a2 a3 ∧ LookAt B w3 pb v P why1 (once named ((famsOf P).getD 5 []) ++ (onceOf named P (([0, 3, 4, 5, 6, 7] : List Nat).take 3) ++ L)) ∧ Keep (fun k => k = pb) w2 w3) ?_ ?_
     · have hc := twice_any HN.out HL.out HF.out 5 (z0 + 6) _ rfl rfl ⟨by omega, by simp [blocksOf]; omega⟩ (HOK.out _ (by simp [famsOf])).1 (HOK.out _ (by simp [famsOf])).2
       have HC := Lib.hid hc
       clear hc hA2 q0 k_j j_s
       obtain ⟨T, d⟩ := a2
       refine wp_region_lit ?_
       iterate 2 with_reducible refine st ?_
       with_reducible refine wpList_step (fun K hK => ?_)
       go_simp
       refine HC.out.mono ?_
       rintro e w4 ⟨rfl, hL2, hk2⟩
       with_reducible refine hK _ _ (wpList_nil ?_)
       refine ⟨rfl, ?_, hL2, hk2⟩
       exact ag
     rintro a3 w3 ⟨hA3, hL3, hk3⟩
     refine ⟨(hA2.mono (by intro j; simp; omega)).trans hA3 (by intro j; simp; omega), hL3.congr fun p => ?_, HK.out.trans hk3 (fun _ _ e => e)⟩
     simp [onceOf, or_assoc, or_comm, or_left_comm]
   · have q0 : wr.cell? ⟨z, 4, none⟩ = some (.map (some (z0 + 7))) := by have := HX.out 4 _ rfl; simpa using this
     refine wp_seq (Code.wp_only (R := fun a2 w2 => Agree (fun i => i == 48 || i == 49 || i == 4) a1 a2 ∧ At a2 4 (.map (some (z0 + 7))) ∧ w2 = wr) ?_ ?_)
     · obtain ⟨T, d⟩ := a1
       refine wp_region_lit ?_
       iterate 3 with_reducible refine st ?_
       with_reducible refine wpList_nil ?_
       refine ⟨rfl, ag, aq, rfl⟩
     rintro a2 w2 ⟨hA2, k_4, rfl⟩
     have i_0 := hA2.at_ j_0 rfl
     have hsz2 := hA2.size.trans hsz1
     refine Code.wp_only (R := fun a3 w3 => Agree (fun i => i == 50 || i == 51 || i == 52) a2 a3 ∧ LookAt B w3 pb v P why1 (once named ((famsOf P).getD 6 []) ++ (onceOf named P (([0, 3, 4, 5, 6, 7] : List Nat).take 4) ++ L)) ∧ Keep (fun k => k = pb) w2 w3) ?_ ?_
     · have hc := twice_any HN.out HL.out HF.out 6 (z0 + 7) _ rfl rfl ⟨by omega, by simp [blocksOf]; omega⟩ (HOK.out _ (by simp [famsOf])).1 (HOK.out _ (by simp [famsOf])).2
       have HC := Lib.hid hc
       clear hc hA2 q0 k_j j_s
       obtain ⟨T, d⟩ := a2
       refine wp_region_lit ?_
       iterate 2 with_reducible refine st ?_
       with_reducible refine wpList_step (fun K hK => ?_)
       go_simp
       refine HC.out.mono ?_
       rintro e w4 ⟨rfl, hL2, hk2⟩
       with_reducible refine hK _ _ (wpList_nil ?_)
       refine ⟨rfl, ?_, hL2, hk2⟩
       exact ag
     rintro a3 w3 ⟨hA3, hL3, hk3⟩
     refine ⟨(hA2.mono (by intro j; simp; omega)).trans hA3 (by intro j; simp; omega), hL3.congr fun p => ?_, HK.out.trans hk3 (fun _ _ e => e)⟩
     simp [onceOf, or_assoc, or_comm, or_left_comm]
   · have q0 : wr.cell? ⟨z, 5, none⟩ = some (.map (some (z0 + 8))) := by have := HX.out 5 _ rfl; simpa using this
     refine wp_seq (Code.wp_only (R := fun a2 w2 => Agree (fun i => i == 48 || i == 49 || i == 4) a1 a2 ∧ At a2 4 (.map (some (z0 + 8))) ∧ w2 = wr) ?_ ?_)
     · obtain ⟨T, d⟩ := a1
       refine wp_region_lit ?_
       iterate 3 with_reducible refine st ?_
       with_reducible refine wpList_nil ?_
       refine ⟨rfl, ag, aq, rfl⟩
     rintro a2 w2 ⟨hA2, k_4, rfl⟩
     have i_0 := hA2.at_ j_0 rfl
     have hsz2 := hA2.size.trans hsz1
     refine Code.wp_only (R := fun a3 w3 => Agree (fun i => i == 50 || i == 51 || i == 52) a2 a3 ∧ LookAt B w3 pb v P why1 (once named ((famsOf P).getD 7 []) ++ (onceOf named P (([0, 3, 4, 5, 6, 7] : List Nat).take 5) ++ L)) ∧ Keep (fun k => k = pb) w2 w3) ?_ ?_
     · have hc := twice_any HN.out HL.out HF.out 7 (z0 + 8) _ rfl rfl ⟨by omega, by simp [blocksOf]; omega⟩ (HOK.out _ (by simp [famsOf])).1 (HOK.out _ (by simp [famsOf])).2
       have HC := Lib.hid hc
       clear hc hA2 q0 k_j j_s
       obtain ⟨T, d⟩ := a2
       refine wp_region_lit ?_
       iterate 2 with_reducible refine st ?_
       with_reducible refine wpList_step (fun K hK => ?_)
       go_simp
       refine HC.out.mono ?_
       rintro e w4 ⟨rfl, hL2, hk2⟩
       with_reducible refine hK _ _ (wpList_nil ?_)
       refine ⟨rfl, ?_, hL2, hk2⟩
       exact ag
     rintro a3 w3 ⟨hA3, hL3, hk3⟩
     refine ⟨(hA2.mono (by intro j; simp; omega)).trans hA3 (by intro j; simp; omega), hL3.congr fun p => ?_, HK.out.trans hk3 (fun _ _ e => e)⟩
     simp [onceOf, or_assoc, or_comm, or_left_comm]
 · rintro a' w' hA ⟨hL, hk⟩
   exact hQ _ _ ((hA0.mono (by intro j; simp; omega)).trans hA (by intro j; simp; omega)) hL ((hk1.mono (fun _ _ h => h.elim)).trans hk (fun _ _ e => e))
theorem names_any {B : Nat} {w : World} {pb : Nat} {v : PolV} {P : Policy} {named : ByteArray → Bool} (hN : NamedSpec B named) (h : LookAt B w pb v P why1 []) :
 Calls Tryz.prog 49 #[.pointer (some ⟨pb, 0, none⟩)] w fun e w' => e = .returned (.tuple #[]) ∧ LookAt B w' pb v P why1 (namesW named P) ∧ Keep (fun k => k = pb) w w' := by
 have hlt := h.lt
 have hBp := h.base
 refine calls_abs Tryz.func49 Tryz.ntmps49 rfl (by simp) fun a hsz hdf hargs => ?_
 have h0 : At a 0 (.pointer (some ⟨pb, 0, none⟩)) := hargs 0 _ rfl
 clear hargs
 conv => arg 2; whnf
 refine wp_seq (Code.wp_only (R := fun a1 w1 => Agree (fun i => i == 2 || i == 30 || i == 31) a a1 ∧ (∃ zb, At a1 2 (.pointer (some ⟨zb, 0, none⟩)) ∧ w1.heap[zb]? = some (.cells (mapsOf w.heap.size) 137 (0, 0)) ∧ zb ≠ pb) ∧ (∃ D r, FamsAt (w.heap.size + 10) w1 (blocksOf w.heap.size) (famsOf P) D r) ∧ Keep (fun _ => False) w w1) ?_ ?_)
 · have hc := known_any h
   unfold mapsOf at hc
   have HC := Lib.hid hc
   clear hc
   obtain ⟨T, d⟩ := a
   refine wp_region_lit ?_
   with_reducible refine st ?_
   with_reducible refine wpList_step (fun K hK => ?_)
   go_simp
   refine HC.out.mono ?_
   rintro e w2 ⟨rfl, hk2, D, r, hF⟩
   with_reducible refine hK _ _ ?_
   clear hK K
   have HF := Lib.hid hF
   have HK2 := Lib.hid hk2
   have hsz2 := hk2.size
   clear hF hk2
   iterate 2 with_reducible refine st ?_
   with_reducible refine wpList_nil ?_
   refine ⟨rfl, ag, ⟨w2.heap.size, aq, heap_alloc_new _ _, by omega⟩, ⟨D, r, HF.out.keep ((Keep.refl (fun _ => False) _).alloc _) (fun _ h => h.elim)⟩, HK2.out.alloc _⟩
 rintro a1 w1 ⟨hA, ⟨zb, h2, hzb, hzp⟩, ⟨D, r, hF⟩, hk0⟩
 replace h0 := hA.at_ h0 rfl
 have hsz1 := hA.size.trans hsz
 have hd1 := hA.defers.trans hdf
 have HL1 := Lib.hid (h.new hk0)
 have HK1 : Hid (Keep (fun k => k = pb) w w1) := hk0.mono (fun _ _ h => h.elim)
 have HF1 := Lib.hid hF
 have HZ1 := Lib.hid hzb
 clear hA h hk0 hF hzb
 refine wp_seq (names_twices hN HL1.out HF1.out (by omega) HZ1.out hzp a1 hsz1 h0 h2 _ (fun a2 w2 hA hL hk => ?_))
 with_reducible apply then_normal
 replace h0 := hA.at_ h0 rfl
 replace h2 := hA.at_ h2 rfl
 have hsz2 := hA.size.trans hsz1
 have hd2 := hA.defers.trans hd1
 have HL2 := Lib.hid hL
 have HK2 := Lib.hid (HK1.out.trans hk (fun _ _ e => e))
 have HF2 := Lib.hid (HF1.out.keep hk (fun k e _ => by subst e; exact ⟨by omega, by simp [blocksOf]; omega⟩))
 have HZ2 := Lib.hid ((hk.block zb (heap_lt HZ1.out) hzp).trans HZ1.out)
 clear hA hL hk HL1 HK1 HF1 HZ1 hsz1 hd1
 refine wp_seq (names_starts HL2.out HF2.out (by omega) HZ2.out hzp a2 hsz2 h0 h2 _ (fun a3 w3 hA hL hk => ?_))
 with_reducible apply then_normal
 replace h0 := hA.at_ h0 rfl
 replace h2 := hA.at_ h2 rfl
 have hsz3 := hA.size.trans hsz2
 have hd3 := hA.defers.trans hd2
 have HL3 := Lib.hid hL
 have HK3 := Lib.hid (HK2.out.trans hk (fun _ _ e => e))
 have HF3 := Lib.hid (HF2.out.keep hk (fun k e _ => by subst e; exact ⟨by omega, by simp [blocksOf]; omega⟩))
 have HZ3 := Lib.hid ((hk.block zb (heap_lt HZ2.out) hzp).trans HZ2.out)
 clear hA hL hk HL2 HK2 HF2 HZ2 hsz2 hd2
 refine wp_seq (names_masters HL3.out HF3.out (by omega) HZ3.out hzp a3 hsz3 h0 h2 _ (fun a4 w4 hA hL hk => ?_))
 with_reducible apply then_normal
 replace h0 := hA.at_ h0 rfl
 replace h2 := hA.at_ h2 rfl
 have hsz4 := hA.size.trans hsz3
 have hd4 := hA.defers.trans hd3
 have HL4 := Lib.hid hL
 have HK4 := Lib.hid (HK3.out.trans hk (fun _ _ e => e))
 have HF4 := Lib.hid (HF3.out.keep hk (fun k e _ => by subst e; exact ⟨by omega, by simp [blocksOf]; omega⟩))
 have HZ4 := Lib.hid ((hk.block zb (heap_lt HZ3.out) hzp).trans HZ3.out)
 clear hA hL hk HL3 HK3 HF3 HZ3 hsz3 hd3
 refine wp_seq (names_monitors HL4.out HF4.out (by omega) HZ4.out hzp a4 hsz4 h0 h2 _ (fun a5 w5 hA hL hk => ?_))
 with_reducible apply then_normal
 replace h0 := hA.at_ h0 rfl
 replace h2 := hA.at_ h2 rfl
 have hsz5 := hA.size.trans hsz4
 have hd5 := hA.defers.trans hd4
 have HL5 := Lib.hid hL
 have HK5 := Lib.hid (HK4.out.trans hk (fun _ _ e => e))
 have HF5 := Lib.hid (HF4.out.keep hk (fun k e _ => by subst e; exact ⟨by omega, by simp [blocksOf]; omega⟩))
 have HZ5 := Lib.hid ((hk.block zb (heap_lt HZ4.out) hzp).trans HZ4.out)
 clear hA hL hk HL4 HK4 HF4 HZ4 hsz4 hd4
 refine wp_seq (names_forbids HL5.out HF5.out (by omega) HZ5.out hzp a5 hsz5 h0 h2 _ (fun a6 w6 hA hL hk => ?_))
 with_reducible apply then_normal
 replace h0 := hA.at_ h0 rfl
 replace h2 := hA.at_ h2 rfl
 have hsz6 := hA.size.trans hsz5
 have hd6 := hA.defers.trans hd5
 have HL6 := Lib.hid hL
 have HK6 := Lib.hid (HK5.out.trans hk (fun _ _ e => e))
 have HF6 := Lib.hid (HF5.out.keep hk (fun k e _ => by subst e; exact ⟨by omega, by simp [blocksOf]; omega⟩))
 have HZ6 := Lib.hid ((hk.block zb (heap_lt HZ5.out) hzp).trans HZ5.out)
 clear hA hL hk HL5 HK5 HF5 HZ5 hsz5 hd5
 refine wp_seq (names_queues HL6.out HF6.out (by omega) HZ6.out hzp a6 hsz6 h0 h2 _ (fun a7 w7 hA hL hk => ?_))
 with_reducible apply then_normal
 replace h0 := hA.at_ h0 rfl
 replace h2 := hA.at_ h2 rfl
 have hsz7 := hA.size.trans hsz6
 have hd7 := hA.defers.trans hd6
 have HL7 := Lib.hid hL
 have HK7 := Lib.hid (HK6.out.trans hk (fun _ _ e => e))
 have HF7 := Lib.hid (HF6.out.keep hk (fun k e _ => by subst e; exact ⟨by omega, by simp [blocksOf]; omega⟩))
 have HZ7 := Lib.hid ((hk.block zb (heap_lt HZ6.out) hzp).trans HZ6.out)
 clear hA hL hk HL6 HK6 HF6 HZ6 hsz6 hd6
 refine wp_seq (names_devices HL7.out HF7.out (by omega) HZ7.out hzp a7 hsz7 h0 h2 _ (fun a8 w8 hA hL hk => ?_))
 with_reducible apply then_normal
 replace h0 := hA.at_ h0 rfl
 replace h2 := hA.at_ h2 rfl
 have hsz8 := hA.size.trans hsz7
 have hd8 := hA.defers.trans hd7
 have HL8 := Lib.hid hL
 have HK8 := Lib.hid (HK7.out.trans hk (fun _ _ e => e))
 have HF8 := Lib.hid (HF7.out.keep hk (fun k e _ => by subst e; exact ⟨by omega, by simp [blocksOf]; omega⟩))
 have HZ8 := Lib.hid ((hk.block zb (heap_lt HZ7.out) hzp).trans HZ7.out)
 clear hA hL hk HL7 HK7 HF7 HZ7 hsz7 hd7
 refine wp_seq (names_regions HL8.out HF8.out (by omega) HZ8.out hzp a8 hsz8 h0 h2 _ (fun a9 w9 hA hL hk => ?_))
 with_reducible apply then_normal
 replace h0 := hA.at_ h0 rfl
 replace h2 := hA.at_ h2 rfl
 have hsz9 := hA.size.trans hsz8
 have hd9 := hA.defers.trans hd8
 have HL9 := Lib.hid hL
 have HK9 := Lib.hid (HK8.out.trans hk (fun _ _ e => e))
 have HF9 := Lib.hid (HF8.out.keep hk (fun k e _ => by subst e; exact ⟨by omega, by simp [blocksOf]; omega⟩))
 have HZ9 := Lib.hid ((hk.block zb (heap_lt HZ8.out) hzp).trans HZ8.out)
 clear hA hL hk HL8 HK8 HF8 HZ8 hsz8 hd8
 refine wp_seq (names_subjects HL9.out HF9.out (by omega) HZ9.out hzp a9 hsz9 h0 h2 _ (fun a10 w10 hA hL hk => ?_))
 with_reducible apply then_normal
 replace h0 := hA.at_ h0 rfl
 replace h2 := hA.at_ h2 rfl
 have hsz10 := hA.size.trans hsz9
 have hd10 := hA.defers.trans hd9
 have HL10 := Lib.hid hL
 have HK10 := Lib.hid (HK9.out.trans hk (fun _ _ e => e))
 have HF10 := Lib.hid (HF9.out.keep hk (fun k e _ => by subst e; exact ⟨by omega, by simp [blocksOf]; omega⟩))
 have HZ10 := Lib.hid ((hk.block zb (heap_lt HZ9.out) hzp).trans HZ9.out)
 clear hA hL hk HL9 HK9 HF9 HZ9 hsz9 hd9
 refine wp_seq (names_channels HL10.out HF10.out (by omega) HZ10.out hzp a10 hsz10 h0 h2 _ (fun a11 w11 hA hL hk => ?_))
 with_reducible apply then_normal
 replace h0 := hA.at_ h0 rfl
 replace h2 := hA.at_ h2 rfl
 have hsz11 := hA.size.trans hsz10
 have hd11 := hA.defers.trans hd10
 have HL11 := Lib.hid hL
 have HK11 := Lib.hid (HK10.out.trans hk (fun _ _ e => e))
 have HF11 := Lib.hid (HF10.out.keep hk (fun k e _ => by subst e; exact ⟨by omega, by simp [blocksOf]; omega⟩))
 have HZ11 := Lib.hid ((hk.block zb (heap_lt HZ10.out) hzp).trans HZ10.out)
 clear hA hL hk HL10 HK10 HF10 HZ10 hsz10 hd10
 refine wp_seq (names_irqs HL11.out HF11.out (by omega) HZ11.out hzp a11 hsz11 h0 h2 _ (fun a12 w12 hA hL hk => ?_))
 with_reducible apply then_normal
 replace h0 := hA.at_ h0 rfl
 replace h2 := hA.at_ h2 rfl
 have hsz12 := hA.size.trans hsz11
 have hd12 := hA.defers.trans hd11
 have HL12 := Lib.hid hL
 have HK12 := Lib.hid (HK11.out.trans hk (fun _ _ e => e))
 have HF12 := Lib.hid (HF11.out.keep hk (fun k e _ => by subst e; exact ⟨by omega, by simp [blocksOf]; omega⟩))
 have HZ12 := Lib.hid ((hk.block zb (heap_lt HZ11.out) hzp).trans HZ11.out)
 clear hA hL hk HL11 HK11 HF11 HZ11 hsz11 hd11
 refine names_plans HL12.out HF12.out (by omega) HZ12.out hzp a12 hsz12 h0 h2 _ (fun a13 w13 hA hL hk => ?_)
 have hsz13 := hA.size.trans hsz12
 have hd13 := hA.defers.trans hd12
 have HL13 := Lib.hid hL
 have HK13 := Lib.hid (HK12.out.trans hk (fun _ _ e => e))
 have HF13 := Lib.hid (HF12.out.keep hk (fun k e _ => by subst e; exact ⟨by omega, by simp [blocksOf]; omega⟩))
 have HZ13 := Lib.hid ((hk.block zb (heap_lt HZ12.out) hzp).trans HZ12.out)
 clear hA hL hk HL12 HK12 HF12 HZ12 hsz12 hd12
 refine post_none rfl hd13 ⟨rfl, HL13.out.congr fun p => ?_, HK13.out⟩
 simp only [namesW, onceOf, famsOf, List.flatMap_cons, List.flatMap_nil, List.append_nil, List.getD_cons_zero, List.getD_cons_succ, List.mem_append]
 simp only [or_assoc, or_comm, or_left_comm]
end Go.Proofs.YtpblcjipmoblnaaGreatDoor
