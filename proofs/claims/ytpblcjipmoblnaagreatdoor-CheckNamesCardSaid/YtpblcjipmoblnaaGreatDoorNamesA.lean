/- Picks NamesA -/
import Derived.Test.YtpblcjipmoblnaaGreatDoorKnown
import Derived.StillTailTactics
import Derived.Deep.CutRange
import Derived.Test.YtpblcjipmoblnaaGreatDoorFor2
set_option maxRecDepth 100000
set_option maxHeartbeats 4000000
set_option linter.unusedVariables false
set_option linter.unusedSimpArgs false
namespace Go.Proofs.YtpblcjipmoblnaaGreatDoor
open Go.RowKit Go.IntWalk Ck
theorem mem_picks_snoc {l : List Pick} {x : Pick} {of : List Nm} {p : Wr} : p ∈ picks (l ++ [x]) of ↔ p ∈ picks l of ∨ (∃ y ∈ l, p = (max x.pos y.pos, 1)) ∨ p ∈ say (has of x.name) x.pos 2 := by
 simp only [picks, List.mem_append, mem_pairs_snoc, List.flatMap_append, List.flatMap_cons, List.flatMap_nil, List.append_nil, List.mem_singleton]
 constructor
 · rintro ((h | h) | (h | h))
   · exact .inl (.inl h)
   · exact .inr (.inl h)
   · exact .inl (.inr h)
   · exact .inr (.inr h)
 · rintro ((h | h) | (h | h))
   · exact .inl (.inl h)
   · exact .inr (.inl h)
   · exact .inl (.inr h)
   · exact .inr (.inr h)
theorem picks_any {B : Nat} {w : World} {pb : Nat} {v : PolV} {P : Policy} {L : List Wr} (h : LookAt B w pb v P why1 L) {Bf : Nat} {bs : List Nat} {fs : List (List Nm)} {D : Nat → DataW Value} {r : Nat → ByteArray → Value} (hF : FamsAt Bf w bs fs D r)
 (i b : Nat) (f : List Nm) (hb : bs[i]? = some b) (hf : fs[i]? = some f) (hpb : pb < Bf ∧ pb ∉ bs) {u : Value} {xs : List Pick} (hs : SliceAt B 2 PickAt w u xs) :
 Calls Tryz.prog 72 #[.pointer (some ⟨pb, 0, none⟩), u, .map (some b)] w fun e w' => e = .returned (.tuple #[]) ∧ LookAt B w' pb v P why1 (picks xs f ++ L) ∧ Keep (fun k => k = pb) w w' := by
 obtain ⟨A, c, rfl, hnc, hn0, hl⟩ := hs
 unfold top at hn0
 have hlt := h.lt
 have hBp := h.base
 go_enter Tryz.func72, Tryz.ntmps72
 go_wp2
 go_loopw [12] (fun i wr => ∃ n : Nat, n ≤ xs.length ∧ i = .int .i64 n ∧ LookAt B wr pb v P why1 (picks (xs.take n) f ++ L) ∧ Keep (fun k => k = pb) w wr) (fun i _ => xs.length - (intOf i).toNat)
 case atStart => exact ⟨0, Nat.zero_le _, rfl, by simpa [picks, pairs] using h, Keep.refl _ _⟩
 case round =>
 obtain ⟨n, hn, rfl, hL, hk⟩ := hrel
 by_cases hlt2 : n < xs.length
 · obtain ⟨bl, off, rfl, hbl, hcs⟩ := hl (by omega)
   obtain ⟨x, hx⟩ : ∃ x, xs[n]? = some x := ⟨_, List.getElem?_eq_getElem hlt2⟩
   obtain ⟨hc, hok⟩ := (flat_stays B _ _) _ _ _ _ _ (hk.below (B := B) (by omega) (fun _ hi e => by omega)) hbl (hcs n x hx)
   have q0 := hc.c0
   have q1 := hc 1 _ rfl
   have hsz := hk.size
   have hblr : bl < wr.heap.size := by omega
   have hsm : x.name.size ≤ maxLen := by have := hok.2; unfold Short at this; unfold maxLen; omega
   have HX := Lib.hid hx
   have HL := Lib.hid hL
   have HK := Lib.hid hk
   have hnc2 : n ≤ c := by omega
   clear hx hL hk hc hok
   go_wp2
   obtain ⟨wo, hwo⟩ : ∃ wo : World, wo = wr.alloc (Obj.cells #[.int .i64 x.pos, .string x.name] 78) := ⟨_, rfl⟩
   rw [← hwo]
   obtain ⟨z, hz⟩ : ∃ z, z = wr.heap.size := ⟨_, rfl⟩
   rw [← hz]
   have hx0 : wo.heap[z]? = some (.cells #[.int .i64 x.pos, .string x.name] 78 (0, 0)) := by rw [hwo, hz]; exact heap_alloc_new _ _
   have hLo : LookAt B wo pb v P why1 (picks (xs.take n) f ++ L) := by rw [hwo]; exact HL.out.new ((Keep.refl _ _).alloc _)
   have hKo : Keep (fun k => k = pb) w wo := by rw [hwo]; exact HK.out.alloc _
   have hzp : z ≠ pb := by omega
   have HX0 := Lib.hid hx0
   have HKo := Lib.hid hKo
   have HLo := Lib.hid hLo
   clear hwo hz hx0 hKo hLo q0 q1 HL HK
   go_loopw [21] (fun j wq => ∃ k : Nat, k ≤ n ∧ j = .int .i64 k ∧ LookAt B wq pb v P why1 ((xs.take k).map (fun y => (max x.pos y.pos, 1)) ++ (picks (xs.take n) f ++ L)) ∧ Keep (fun i => i = pb) wo wq) (fun j _ => n - (intOf j).toNat)
   case atStart => exact ⟨0, Nat.zero_le _, rfl, HLo.out, Keep.refl _ _⟩
   case round =>
   obtain ⟨k, hkn, rfl, hL2, hk2⟩ := hrel
   have hx2 := (hk2.block z (heap_lt HX0.out) hzp).trans HX0.out
   have x0 : wr.cell? ⟨z, 0, none⟩ = some (.int .i64 x.pos) := by rw [cell_of_row _ _ _ _ _ _ hx2]; rfl
   have x1 : wr.cell? ⟨z, 1, none⟩ = some (.string x.name) := by rw [cell_of_row _ _ _ _ _ _ hx2]; rfl
   have hzr : z < wr.heap.size := heap_lt hx2
   by_cases hlt3 : k < n
   · obtain ⟨y, hy⟩ : ∃ y, xs[k]? = some y := ⟨_, List.getElem?_eq_getElem (by omega)⟩
     have hkw := HKo.out.trans hk2 (fun _ _ e => e)
     have hsz2 := hkw.size
     obtain ⟨hc, hok⟩ := (flat_stays B _ _) _ _ _ _ _ (hkw.below (B := B) (by omega) (fun _ hi e => by omega)) hbl (hcs k y hy)
     have y0 := hc.c0
     have y1 := hc 1 _ rfl
     have hbl2 : bl < wr.heap.size := by omega
     have HL2 := Lib.hid hL2
     have HK2 := Lib.hid hk2
     have HY := Lib.hid hy
     clear hL2 hk2 hkw hc hok hy hx2
     go_wp2_with fail
     all_goals
      refine (tell_any _ 1 81 (HL2.out.new ((Keep.refl _ _).alloc _)) rfl).mono ?_
      rintro e w2 ⟨rfl, hL3, hk3⟩
      have HL3 := Lib.hid hL3
      have HK3 := Lib.hid hk3
      clear hL3 hk3
      go_wp2
      go_roundw
      case rel =>
       refine ⟨k + 1, by omega, by go_num, HL3.out.congr fun p => ?_, HK2.out.trans (((Keep.refl _ _).alloc _).trans HK3.out (fun _ _ e => e)) (fun _ _ e => e)⟩
       rw [take_at HY.out]
       first
        | (simp [or_assoc, or_comm, or_left_comm]; done)
        | (have hm : max x.pos y.pos = y.pos := by omega
           simp [hm, or_assoc, or_comm, or_left_comm])
        | (have hm : max x.pos y.pos = x.pos := by omega
           simp [hm, or_assoc, or_comm, or_left_comm])
      case measure => simp [intOf]; omega
   · obtain rfl : k = n := by omega
     have HL2 := Lib.hid hL2
     have HK2 := Lib.hid hk2
     clear hL2 hk2 hx2
     have hasq : ∀ w', Keep (fun _ => False) wr w' → Calls Tryz.prog 74 #[.map (some b), .string x.name] w' fun e w2 => e = .returned (.bool (has f x.name)) ∧ w' = w2 := fun w' hk => by
      have hk3 : Keep (fun i => i = pb) w w' := (HKo.out.trans HK2.out (fun _ _ e => e)).trans hk (fun _ _ e => e.elim)
      exact has_any (hF.keep hk3 (fun k e _ => by subst e; exact hpb)) i b f hb hf x.name hsm
     have HH := Lib.hid hasq
     have HC : Hid (∀ w', Keep (fun i => i = pb) wr w' → w'.cell? ⟨z, 0, none⟩ = some (.int .i64 x.pos) ∧ w'.cell? ⟨z, 1, none⟩ = some (.string x.name)) := fun w' hk =>
      ⟨(hk.cell (p := ⟨z, 0, none⟩) hzr hzp).trans x0, (hk.cell (p := ⟨z, 1, none⟩) hzr hzp).trans x1⟩
     have HLd := Lib.hid (HL2.out.new ((Keep.refl _ wr).drew))
     clear hasq
     go_wp2_with fail
     go_region_held3 (fun w' => w'.cell? ⟨z, 0, none⟩ = some (.int .i64 x.pos) ∧ w'.cell? ⟨z, 1, none⟩ = some (.string x.name))
      (first | exact HC.out _ ((Keep.refl _ wr).drew) | exact HC.out _ (((Keep.refl _ wr).drew).trans (by assumption) (fun _ _ e => e)))
      (first
        | (go_at_call 74; refine (HH.out _ ((Keep.refl _ wr).drew)).mono ?_; rintro e w2 ⟨rfl, rfl⟩)
        | (go_at_call 73; refine (must_any _ _ 2 80 HLd.out rfl).mono ?_; rintro e w2 ⟨rfl, hL3, hk3⟩))
     have HL3 := Lib.hid hL3
     have HK3 := Lib.hid hk3
     clear hL3 hk3
     go_wp2
     go_roundw
     case rel =>
      refine ⟨k + 1, by omega, by go_num, HL3.out.congr fun p => ?_, (HKo.out.trans HK2.out (fun _ _ e => e)).trans (((Keep.refl _ _).drew).trans HK3.out (fun _ _ e => e)) (fun _ _ e => e)⟩
      rw [take_at HX.out]
      simp only [List.mem_append, mem_picks_snoc, List.mem_map]
      constructor
      · rintro (h | ⟨y, h1, rfl⟩ | h | h)
        · exact .inl (.inr (.inr h))
        · exact .inl (.inr (.inl ⟨y, h1, rfl⟩))
        · exact .inl (.inl h)
        · exact .inr h
      · rintro ((h | ⟨y, h1, rfl⟩ | h) | h)
        · exact .inr (.inr (.inl h))
        · exact .inr (.inl ⟨y, h1, rfl⟩)
        · exact .inl h
        · exact .inr (.inr (.inr h))
     case measure => simp [intOf]; omega
 · obtain rfl : n = xs.length := by omega
   rw [List.take_length] at hL
   have HL := Lib.hid hL
   have HK := Lib.hid hk
   clear hL hk
   go_wp2
   go_end0
   exact ⟨rfl, HL.out, HK.out⟩
theorem names_forbids {B : Nat} {w : World} {pb : Nat} {v : PolV} {P : Policy} {L : List Wr} (h : LookAt B w pb v P why1 L) {z0 zb : Nat} {D : Nat → DataW Value} {r : Nat → ByteArray → Value} (hF : FamsAt (z0 + 10) w (blocksOf z0) (famsOf P) D r)
 (hpb : pb < z0) (hzb : w.heap[zb]? = some (.cells (mapsOf z0) 137 (0, 0))) (hzp : zb ≠ pb) (a : Act) (hsz : a.tmps.size = 441)
 (h0 : At a 0 (.pointer (some ⟨pb, 0, none⟩))) (h2 : At a 2 (.pointer (some ⟨zb, 0, none⟩))) (Q : Exit → Act → World → Prop)
 (hQ : ∀ a' w', Agree (fun i => i == 6 || (decide (81 ≤ i) && decide (i ≤ 114))) a a' → LookAt B w' pb v P why1 (P.forbids.flatMap (banW P) ++ L) → Keep (fun k => k = pb) w w' → Q .normal a' w') :
 (codeC Tryz.f49 [1,1,1,1,1,0]).wp Tryz.prog Q a w := by
 have hs := h.pol.forbids
 obtain ⟨A, c, hu, hnc, hn0, hl⟩ := hs
 unfold top at hn0
 have hlt := h.lt
 have hBp := h.base
 have hq : w.cell? ⟨pb, 13, none⟩ = some v.forbids := h.cell rfl
 rw [hu] at hq
 clear hu
 conv => arg 2; whnf
 refine wp_seq (Code.wp_only (R := fun a1 w1 => Agree (fun i => i == 81 || i == 82 || i == 83 || i == 84 || i == 85 || i == 86 || i == 87) a a1 ∧ At a1 85 (.slice A P.forbids.length c) ∧ At a1 86 (.int .i64 P.forbids.length) ∧ At a1 87 (.int .i64 0) ∧ w1 = w) ?_ ?_)
 · obtain ⟨T, d⟩ := a
   refine wp_region_lit ?_
   iterate 7 with_reducible refine st ?_
   with_reducible refine wpList_nil ?_
   refine ⟨rfl, ag, aq, aq, aq, rfl⟩
 rintro a0 w0 ⟨hA0, k_s, k_n, k_i, rfl⟩
 have hsz0 : a0.tmps.size = 441 := hA0.size.trans hsz
 replace h0 := hA0.at_ h0 rfl
 replace h2 := hA0.at_ h2 rfl
 refine wp_range P.forbids.length (fun i => i == 6 || (decide (87 ≤ i) && decide (i ≤ 114))) (fun i => i == 6 || (decide (89 ≤ i) && decide (i ≤ 113))) (fun k _ w' => LookAt B w' pb v P why1 ((P.forbids.take k).flatMap (banW P) ++ L) ∧ Keep (fun k => k = pb) w0 w') (by omega) k_i k_n (by decide) rfl
  (by intro j; simp; omega) (by omega) (by decide) (fun k a1 a2 w hA hI => hI) ⟨by simpa using h, Keep.refl _ _⟩ ?_ ?_
 · rintro n a1 wr hlt2 hA k_j ⟨hL, hk⟩
   obtain ⟨bl, off, rfl, hbl, hcs⟩ := hl (by omega)
   obtain ⟨x, hx⟩ : ∃ x, P.forbids[n]? = some x := ⟨_, List.getElem?_eq_getElem hlt2⟩
   obtain ⟨hc, ok_x⟩ := (flat_stays B _ _) _ _ _ _ _ (hk.below (B := B) (by omega) (fun _ hi e => by omega)) hbl (hcs n x hx)
   have q0 := hc.c0
   have q1 := hc 1 _ rfl
   have q2 := hc 2 _ rfl
   have k_0 := hA.at_ h0 rfl
   have k_2 := hA.at_ h2 rfl
   have k_sl := hA.at_ k_s rfl
   have hsz1 : a1.tmps.size = 441 := hA.size.trans hsz0
   have hszw := hk.size
   have hblr : bl < wr.heap.size := by omega
   have HX := Lib.hid hx
   have HL := Lib.hid hL
   have HK := Lib.hid hk
   have hnc2 : n ≤ c := by omega
   have HA := Lib.hid hA
   clear hx hL hk hc hA hcs
   refine wp_seq (Code.wp_only (R := fun a2 w2 => Agree (fun i => i == 89 || i == 90 || i == 6) a1 a2 ∧ At a2 6 (.pointer (some ⟨wr.heap.size, 0, none⟩)) ∧ w2 = wr.alloc (Obj.cells #[.int .i64 x.pos, .string x.from_, .string x.to] 68)) ?_ ?_)
   · clear hF hzb
     obtain ⟨T, d⟩ := a1
     refine wp_region_lit ?_
     iterate 4 with_reducible refine st ?_
     with_reducible refine wpList_nil ?_
     refine ⟨rfl, ag, aq, rfl⟩
   rintro a2 wo ⟨hA2, k_x, hwo⟩
   obtain ⟨z, hz⟩ : ∃ z, z = wr.heap.size := ⟨_, rfl⟩
   rw [← hz] at k_x
   have hx0 : CellsAt wo z 0 [.int .i64 x.pos, .string x.from_, .string x.to] := by rw [hwo, hz]; exact cells_new _ _ _
   have hzo : z < wo.heap.size := by rw [hwo, hz]; simp
   have hzpb : z ≠ pb := by omega
   have hko : Keep (fun _ => False) wr wo := by rw [hwo]; exact (Keep.refl _ _).alloc _
   have HL1 := Lib.hid (HL.out.new hko)
   have HK1 := Lib.hid (HK.out.trans hko (fun _ _ h => h.elim))
   have k_0 := hA2.at_ k_0 rfl
   have k_2 := hA2.at_ k_2 rfl
   have hsz2 := hA2.size.trans hsz1
   have HAg : Hid (Agree (fun i => i == 6 || (decide (89 ≤ i) && decide (i ≤ 113))) a1 a2) := hA2.mono (by intro j; simp; omega)
   clear hwo hz hko HL HK hA2 q0 q1 q2
   clear k_sl k_j hlt2 hnc2 hnc hl
   refine Code.wp_only (R := fun a' w' => Agree (fun i => (decide (91 ≤ i) && decide (i ≤ 113))) a2 a' ∧ LookAt B w' pb v P why1 (banW P x ++ ((P.forbids.take n).flatMap (banW P) ++ L)) ∧ Keep (fun k => k = pb) wo w') ?_ ?_
   · skip
     clear HAg HX
     have q_x_pos := hx0.c0
     have q_x_from_ := hx0 1 _ rfl
     have q_x_to := hx0 2 _ rfl
     have hzo2 := (HK1.out.block zb (heap_lt hzb) hzp).trans hzb
     have m1 : wo.cell? ⟨zb, 1, none⟩ = some (.map (some (z0 + 2))) := by rw [cell_of_row _ _ _ _ _ _ hzo2]; rfl
     have m3 : wo.cell? ⟨zb, 3, none⟩ = some (.map (some (z0 + 4))) := by rw [cell_of_row _ _ _ _ _ _ hzo2]; rfl
     clear hzo2
     clear hx0
     have sz_x_from_ : x.from_.size ≤ maxLen := by have := ok_x; unfold Ban.Ok Short at this; unfold maxLen; omega
     have sz_x_to : x.to.size ≤ maxLen := by have := ok_x; unfold Ban.Ok Short at this; unfold maxLen; omega
     have hFo := hF.keep (HK1.out.drew) (fun k e _ => by subst e; exact ⟨by omega, by simp [blocksOf]; omega⟩)
     have gh3_x_from_ := flip_ (has_any hFo 3 (z0 + 4) P.subs rfl rfl x.from_ sz_x_from_)
     obtain ⟨h3_x_from_, eh3_x_from_⟩ : ∃ b, b = has P.subs x.from_ := ⟨_, rfl⟩
     rw [← eh3_x_from_] at gh3_x_from_
     have gh1_x_from_ := flip_ (has_any hFo 1 (z0 + 2) P.devs rfl rfl x.from_ sz_x_from_)
     obtain ⟨h1_x_from_, eh1_x_from_⟩ : ∃ b, b = has P.devs x.from_ := ⟨_, rfl⟩
     rw [← eh1_x_from_] at gh1_x_from_
     have gh3_x_to := flip_ (has_any hFo 3 (z0 + 4) P.subs rfl rfl x.to sz_x_to)
     obtain ⟨h3_x_to, eh3_x_to⟩ : ∃ b, b = has P.subs x.to := ⟨_, rfl⟩
     rw [← eh3_x_to] at gh3_x_to
     have HS : Hid (banW P x = say (((h3_x_from_ || h1_x_from_) && h3_x_to)) x.pos 2) := by rw [eh3_x_from_, eh1_x_from_, eh3_x_to]; rfl
     clear hFo
     clear eh3_x_from_
     clear eh1_x_from_
     clear eh3_x_to
     have HLd := Lib.hid (HL1.out.new ((Keep.refl _ wo).drew))
     have hun := undef_eq
     obtain ⟨T, d⟩ := a2
     refine wp_region_still_tail 22 (by kernel_rfl) (by kernel_rfl) ?_
     simp only [List.take_succ_cons, List.take_zero, List.drop_succ_cons, List.drop_zero]
     iterate 5
      with_reducible refine wpStill_step (fun K hK => ?_)
      go_simp
      with_reducible refine hK _ ?_
      clear hK K
     with_reducible refine wpStill_step (fun K hK => ?_)
     go_simp
     with_reducible refine ⟨_, gh3_x_from_, hK _ ?_⟩
     clear hK K
     with_reducible refine wpStill_step (fun K hK => ?_)
     go_simp
     with_reducible refine hK _ ?_
     clear hK K
     cases h3_x_from_
     · iterate 4
        with_reducible refine wpStill_step (fun K hK => ?_)
        go_simp
        with_reducible refine hK _ ?_
        clear hK K
       with_reducible refine wpStill_step (fun K hK => ?_)
       go_simp
       with_reducible refine ⟨_, gh1_x_from_, hK _ ?_⟩
       clear hK K
       iterate 2
        with_reducible refine wpStill_step (fun K hK => ?_)
        go_simp
        with_reducible refine hK _ ?_
        clear hK K
       cases h1_x_from_
       · iterate 8
          with_reducible refine wpStill_step (fun K hK => ?_)
          go_simp
          with_reducible refine hK _ ?_
          clear hK K
         with_reducible refine wpStill_nil ?_
         with_reducible refine wpList_step (fun K hK => ?_)
         go_simp
         refine (must_any _ _ 2 80 HLd.out rfl).mono ?_
         rintro e w2 ⟨rfl, hL2, hk2⟩
         with_reducible refine hK _ _ (wpList_nil ?_)
         refine ⟨rfl, ?_, ?_, ?_⟩
         · exact ag
         · have hs := HS.out
           simp only [bS] at hs
           rw [hs]
           exact hL2
         · exact ((Keep.refl _ _).drew).trans hk2 (fun _ _ e => e)
       · iterate 4
          with_reducible refine wpStill_step (fun K hK => ?_)
          go_simp
          with_reducible refine hK _ ?_
          clear hK K
         with_reducible refine wpStill_step (fun K hK => ?_)
         go_simp
         with_reducible refine ⟨_, gh3_x_to, hK _ ?_⟩
         clear hK K
         iterate 3
          with_reducible refine wpStill_step (fun K hK => ?_)
          go_simp
          with_reducible refine hK _ ?_
          clear hK K
         with_reducible refine wpStill_nil ?_
         with_reducible refine wpList_step (fun K hK => ?_)
         go_simp
         refine (must_any _ _ 2 80 HLd.out rfl).mono ?_
         rintro e w2 ⟨rfl, hL2, hk2⟩
         with_reducible refine hK _ _ (wpList_nil ?_)
         refine ⟨rfl, ?_, ?_, ?_⟩
         · exact ag
         · have hs := HS.out
           simp only [bS] at hs
           rw [hs]
           exact hL2
         · exact ((Keep.refl _ _).drew).trans hk2 (fun _ _ e => e)
     · iterate 11
        with_reducible refine wpStill_step (fun K hK => ?_)
        go_simp
        with_reducible refine hK _ ?_
        clear hK K
       with_reducible refine wpStill_step (fun K hK => ?_)
       go_simp
       with_reducible refine ⟨_, gh3_x_to, hK _ ?_⟩
       clear hK K
       iterate 3
        with_reducible refine wpStill_step (fun K hK => ?_)
        go_simp
        with_reducible refine hK _ ?_
        clear hK K
       with_reducible refine wpStill_nil ?_
       with_reducible refine wpList_step (fun K hK => ?_)
       go_simp
       refine (must_any _ _ 2 80 HLd.out rfl).mono ?_
       rintro e w2 ⟨rfl, hL2, hk2⟩
       with_reducible refine hK _ _ (wpList_nil ?_)
       refine ⟨rfl, ?_, ?_, ?_⟩
       · exact ag
       · have hs := HS.out
         simp only [bS] at hs
         rw [hs]
         exact hL2
       · exact ((Keep.refl _ _).drew).trans hk2 (fun _ _ e => e)
   rintro a3 w3 ⟨hA3, hL3, hk3⟩
   refine ⟨HAg.out.trans hA3 (by intro j; simp; omega), hL3.congr fun p => ?_, HK1.out.trans hk3 (fun _ _ e => e)⟩
   rw [take_at HX.out, List.flatMap_append, List.flatMap_cons, List.flatMap_nil, List.append_nil]
   simp only [List.mem_append, banW]
   simp only [or_assoc, or_comm, or_left_comm]
 · rintro a' w' hA ⟨hL, hk⟩
   rw [List.take_length] at hL
   exact hQ _ _ ((hA0.mono (by intro j; simp; omega)).trans hA (by intro j; simp; omega)) hL hk
theorem names_queues {B : Nat} {w : World} {pb : Nat} {v : PolV} {P : Policy} {L : List Wr} (h : LookAt B w pb v P why1 L) {z0 zb : Nat} {D : Nat → DataW Value} {r : Nat → ByteArray → Value} (hF : FamsAt (z0 + 10) w (blocksOf z0) (famsOf P) D r)
 (hpb : pb < z0) (hzb : w.heap[zb]? = some (.cells (mapsOf z0) 137 (0, 0))) (hzp : zb ≠ pb) (a : Act) (hsz : a.tmps.size = 441)
 (h0 : At a 0 (.pointer (some ⟨pb, 0, none⟩))) (h2 : At a 2 (.pointer (some ⟨zb, 0, none⟩))) (Q : Exit → Act → World → Prop)
 (hQ : ∀ a' w', Agree (fun i => i == 8 || (decide (115 ≤ i) && decide (i ≤ 163))) a a' → LookAt B w' pb v P why1 (P.queues.flatMap (queueW P) ++ L) → Keep (fun k => k = pb) w w' → Q .normal a' w') :
 (codeC Tryz.f49 [1,1,1,1,1,1,0]).wp Tryz.prog Q a w := by
 have hs := h.pol.queues
 obtain ⟨A, c, hu, hnc, hn0, hl⟩ := hs
 unfold top at hn0
 have hlt := h.lt
 have hBp := h.base
 have hq : w.cell? ⟨pb, 8, none⟩ = some v.queues := h.cell rfl
 rw [hu] at hq
 clear hu
 conv => arg 2; whnf
 refine wp_seq (Code.wp_only (R := fun a1 w1 => Agree (fun i => i == 115 || i == 116 || i == 117 || i == 118 || i == 119 || i == 120 || i == 121) a a1 ∧ At a1 119 (.slice A P.queues.length c) ∧ At a1 120 (.int .i64 P.queues.length) ∧ At a1 121 (.int .i64 0) ∧ w1 = w) ?_ ?_)
 · obtain ⟨T, d⟩ := a
   refine wp_region_lit ?_
   iterate 7 with_reducible refine st ?_
   with_reducible refine wpList_nil ?_
   refine ⟨rfl, ag, aq, aq, aq, rfl⟩
 rintro a0 w0 ⟨hA0, k_s, k_n, k_i, rfl⟩
 have hsz0 : a0.tmps.size = 441 := hA0.size.trans hsz
 replace h0 := hA0.at_ h0 rfl
 replace h2 := hA0.at_ h2 rfl
 refine wp_range P.queues.length (fun i => i == 8 || (decide (121 ≤ i) && decide (i ≤ 163))) (fun i => i == 8 || (decide (123 ≤ i) && decide (i ≤ 162))) (fun k _ w' => LookAt B w' pb v P why1 ((P.queues.take k).flatMap (queueW P) ++ L) ∧ Keep (fun k => k = pb) w0 w') (by omega) k_i k_n (by decide) rfl
  (by intro j; simp; omega) (by omega) (by decide) (fun k a1 a2 w hA hI => hI) ⟨by simpa using h, Keep.refl _ _⟩ ?_ ?_
 · rintro n a1 wr hlt2 hA k_j ⟨hL, hk⟩
   obtain ⟨bl, off, rfl, hbl, hcs⟩ := hl (by omega)
   obtain ⟨x, hx⟩ : ∃ x, P.queues[n]? = some x := ⟨_, List.getElem?_eq_getElem hlt2⟩
   obtain ⟨hc, ok_x⟩ := (flat_stays B _ _) _ _ _ _ _ (hk.below (B := B) (by omega) (fun _ hi e => by omega)) hbl (hcs n x hx)
   have q0 := hc.c0
   have q1 := hc 1 _ rfl
   have q2 := hc 2 _ rfl
   have q3 := hc 3 _ rfl
   have q4 := hc 4 _ rfl
   have q5 := hc 5 _ rfl
   have k_0 := hA.at_ h0 rfl
   have k_2 := hA.at_ h2 rfl
   have k_sl := hA.at_ k_s rfl
   have hsz1 : a1.tmps.size = 441 := hA.size.trans hsz0
   have hszw := hk.size
   have hblr : bl < wr.heap.size := by omega
   have HX := Lib.hid hx
   have HL := Lib.hid hL
   have HK := Lib.hid hk
   have hnc2 : n ≤ c := by omega
   have HA := Lib.hid hA
   clear hx hL hk hc hA hcs
   refine wp_seq (Code.wp_only (R := fun a2 w2 => Agree (fun i => i == 123 || i == 124 || i == 8) a1 a2 ∧ At a2 8 (.pointer (some ⟨wr.heap.size, 0, none⟩)) ∧ w2 = wr.alloc (Obj.cells #[.int .i64 x.pos, .string x.name, .string x.from_, .string x.to, .int .i64 x.how, .int .u64 x.depth] 65)) ?_ ?_)
   · clear hF hzb
     obtain ⟨T, d⟩ := a1
     refine wp_region_lit ?_
     iterate 4 with_reducible refine st ?_
     with_reducible refine wpList_nil ?_
     refine ⟨rfl, ag, aq, rfl⟩
   rintro a2 wo ⟨hA2, k_x, hwo⟩
   obtain ⟨z, hz⟩ : ∃ z, z = wr.heap.size := ⟨_, rfl⟩
   rw [← hz] at k_x
   have hx0 : CellsAt wo z 0 [.int .i64 x.pos, .string x.name, .string x.from_, .string x.to, .int .i64 x.how, .int .u64 x.depth] := by rw [hwo, hz]; exact cells_new _ _ _
   have hzo : z < wo.heap.size := by rw [hwo, hz]; simp
   have hzpb : z ≠ pb := by omega
   have hko : Keep (fun _ => False) wr wo := by rw [hwo]; exact (Keep.refl _ _).alloc _
   have HL1 := Lib.hid (HL.out.new hko)
   have HK1 := Lib.hid (HK.out.trans hko (fun _ _ h => h.elim))
   have k_0 := hA2.at_ k_0 rfl
   have k_2 := hA2.at_ k_2 rfl
   have hsz2 := hA2.size.trans hsz1
   have HAg : Hid (Agree (fun i => i == 8 || (decide (123 ≤ i) && decide (i ≤ 162))) a1 a2) := hA2.mono (by intro j; simp; omega)
   clear hwo hz hko HL HK hA2 q0 q1 q2 q3 q4 q5
   clear k_sl k_j hlt2 hnc2 hnc hl
   refine wp_seq (Code.wp_only (R := fun a' w' => Agree (fun i => (decide (125 ≤ i) && decide (i ≤ 146))) a2 a' ∧ LookAt B w' pb v P why1 (say (decide (1 ≤ x.how) && decide (x.how ≤ 3) && (!decide (x.how = 3) || decide (x.depth = 0))) x.pos 0 ++ ((P.queues.take n).flatMap (queueW P) ++ L)) ∧ Keep (fun k => k = pb) wo w') ?_ ?_)
   · skip
     clear HAg HX
     have q_x_pos := hx0.c0
     have q_x_name := hx0 1 _ rfl
     have q_x_from_ := hx0 2 _ rfl
     have q_x_to := hx0 3 _ rfl
     have q_x_how := hx0 4 _ rfl
     have q_x_depth := hx0 5 _ rfl
     clear hx0
     obtain ⟨b_x_how_ge1, eb_x_how_ge1⟩ : ∃ b, b = decide (1 ≤ x.how) := ⟨_, rfl⟩
     have w1b_x_how_ge1 := eb_x_how_ge1.symm
     obtain ⟨b_x_how_le3, eb_x_how_le3⟩ : ∃ b, b = decide (x.how ≤ 3) := ⟨_, rfl⟩
     have w1b_x_how_le3 := eb_x_how_le3.symm
     obtain ⟨b_x_how_eq3, eb_x_how_eq3⟩ : ∃ b, b = decide (x.how = 3) := ⟨_, rfl⟩
     have w1b_x_how_eq3 : ((x.how : Int) == 3) = b_x_how_eq3 := by rw [eb_x_how_eq3]; exact int_eqb _ _
     have w2b_x_how_eq3 : ((x.how : Int) != 3) = !b_x_how_eq3 := by rw [eb_x_how_eq3]; exact int_neb _ _
     obtain ⟨b_x_depth_eq0, eb_x_depth_eq0⟩ : ∃ b, b = decide (x.depth = 0) := ⟨_, rfl⟩
     have w1b_x_depth_eq0 : ((x.depth : Int) == 0) = b_x_depth_eq0 := by rw [eb_x_depth_eq0]; exact nat_eqb _ _
     have w2b_x_depth_eq0 : ((x.depth : Int) != 0) = !b_x_depth_eq0 := by rw [eb_x_depth_eq0]; exact nat_neb _ _
     have HS : Hid (say (decide (1 ≤ x.how) && decide (x.how ≤ 3) && (!decide (x.how = 3) || decide (x.depth = 0))) x.pos 0 = say (((b_x_how_ge1 && b_x_how_le3) && (!b_x_how_eq3 || b_x_depth_eq0))) x.pos 0) := by rw [eb_x_how_ge1, eb_x_how_le3, eb_x_how_eq3, eb_x_depth_eq0]; rfl
     clear eb_x_how_ge1
     clear eb_x_how_le3
     clear eb_x_how_eq3
     clear eb_x_depth_eq0
     have HLd := HL1
     have hun := undef_eq
     obtain ⟨T, d⟩ := a2
     refine wp_region_lit ?_
     iterate 5 with_reducible refine st ?_
     cases b_x_how_ge1
     · iterate 16
        with_reducible refine st ?_
       with_reducible refine wpList_step (fun K hK => ?_)
       go_simp
       refine (must_any _ _ 0 5 HLd.out rfl).mono ?_
       rintro e w2 ⟨rfl, hL2, hk2⟩
       with_reducible refine hK _ _ (wpList_nil ?_)
       refine ⟨rfl, ?_, ?_, ?_⟩
       · exact ag
       · have hs := HS.out
         simp only [bS] at hs
         rw [hs]
         exact hL2
       · exact hk2
     · iterate 5
        with_reducible refine st ?_
       cases b_x_how_le3
       · iterate 11
          with_reducible refine st ?_
         with_reducible refine wpList_step (fun K hK => ?_)
         go_simp
         refine (must_any _ _ 0 5 HLd.out rfl).mono ?_
         rintro e w2 ⟨rfl, hL2, hk2⟩
         with_reducible refine hK _ _ (wpList_nil ?_)
         refine ⟨rfl, ?_, ?_, ?_⟩
         · exact ag
         · have hs := HS.out
           simp only [bS] at hs
           rw [hs]
           exact hL2
         · exact hk2
       · iterate 4
          with_reducible refine st ?_
         cases b_x_how_eq3
         · iterate 7
            with_reducible refine st ?_
           with_reducible refine wpList_step (fun K hK => ?_)
           go_simp
           refine (must_any _ _ 0 5 HLd.out rfl).mono ?_
           rintro e w2 ⟨rfl, hL2, hk2⟩
           with_reducible refine hK _ _ (wpList_nil ?_)
           refine ⟨rfl, ?_, ?_, ?_⟩
           · exact ag
           · have hs := HS.out
             simp only [bS] at hs
             rw [hs]
             exact hL2
           · exact hk2
         · iterate 7
            with_reducible refine st ?_
           with_reducible refine wpList_step (fun K hK => ?_)
           go_simp
           refine (must_any _ _ 0 5 HLd.out rfl).mono ?_
           rintro e w2 ⟨rfl, hL2, hk2⟩
           with_reducible refine hK _ _ (wpList_nil ?_)
           refine ⟨rfl, ?_, ?_, ?_⟩
           · exact ag
           · have hs := HS.out
             simp only [bS] at hs
             rw [hs]
             exact hL2
           · exact hk2
   rintro a3 w3 ⟨hA3, hL3, hk3⟩
   replace hx0 := hx0.keep hk3 hzo hzpb
   replace hzo : z < w3.heap.size := Nat.lt_of_lt_of_le hzo hk3.size
   replace HL1 := Lib.hid hL3
   replace HK1 := Lib.hid (HK1.out.trans hk3 (fun _ _ e => e))
   replace k_0 := hA3.at_ k_0 rfl
   replace k_x := hA3.at_ k_x rfl
   replace k_2 := hA3.at_ k_2 rfl
   replace hsz2 := hA3.size.trans hsz2
   replace HAg : Hid (Agree (fun i => i == 8 || (decide (123 ≤ i) && decide (i ≤ 162))) a1 a3) := HAg.out.trans hA3 (by intro j; simp; omega)
   clear hA3 hL3 hk3
   refine Code.wp_only (R := fun a' w' => Agree (fun i => (decide (147 ≤ i) && decide (i ≤ 162))) a3 a' ∧ LookAt B w' pb v P why1 (say (has P.subs x.from_ && has P.subs x.to) x.pos 2 ++ (say (decide (1 ≤ x.how) && decide (x.how ≤ 3) && (!decide (x.how = 3) || decide (x.depth = 0))) x.pos 0 ++ ((P.queues.take n).flatMap (queueW P) ++ L))) ∧ Keep (fun k => k = pb) w3 w') ?_ ?_
   · skip
     clear HAg HX
     have q_x_pos := hx0.c0
     have q_x_name := hx0 1 _ rfl
     have q_x_from_ := hx0 2 _ rfl
     have q_x_to := hx0 3 _ rfl
     have q_x_how := hx0 4 _ rfl
     have q_x_depth := hx0 5 _ rfl
     have hzo2 := (HK1.out.block zb (heap_lt hzb) hzp).trans hzb
     have m3 : w3.cell? ⟨zb, 3, none⟩ = some (.map (some (z0 + 4))) := by rw [cell_of_row _ _ _ _ _ _ hzo2]; rfl
     clear hzo2
     clear hx0
     have sz_x_from_ : x.from_.size ≤ maxLen := by have := ok_x; unfold Ck.Queue.Ok Short at this; unfold maxLen; omega
     have sz_x_to : x.to.size ≤ maxLen := by have := ok_x; unfold Ck.Queue.Ok Short at this; unfold maxLen; omega
     have hFo := hF.keep (HK1.out.drew) (fun k e _ => by subst e; exact ⟨by omega, by simp [blocksOf]; omega⟩)
     have gh3_x_from_ := flip_ (has_any hFo 3 (z0 + 4) P.subs rfl rfl x.from_ sz_x_from_)
     obtain ⟨h3_x_from_, eh3_x_from_⟩ : ∃ b, b = has P.subs x.from_ := ⟨_, rfl⟩
     rw [← eh3_x_from_] at gh3_x_from_
     have gh3_x_to := flip_ (has_any hFo 3 (z0 + 4) P.subs rfl rfl x.to sz_x_to)
     obtain ⟨h3_x_to, eh3_x_to⟩ : ∃ b, b = has P.subs x.to := ⟨_, rfl⟩
     rw [← eh3_x_to] at gh3_x_to
     have HS : Hid (say (has P.subs x.from_ && has P.subs x.to) x.pos 2 = say ((h3_x_from_ && h3_x_to)) x.pos 2) := by rw [eh3_x_from_, eh3_x_to]; rfl
     clear hFo
     clear eh3_x_from_
     clear eh3_x_to
     have HLd := Lib.hid (HL1.out.new ((Keep.refl _ w3).drew))
     have hun := undef_eq
     obtain ⟨T, d⟩ := a3
     refine wp_region_still_tail 15 (by kernel_rfl) (by kernel_rfl) ?_
     simp only [List.take_succ_cons, List.take_zero, List.drop_succ_cons, List.drop_zero]
     iterate 5
      with_reducible refine wpStill_step (fun K hK => ?_)
      go_simp
      with_reducible refine hK _ ?_
      clear hK K
     with_reducible refine wpStill_step (fun K hK => ?_)
     go_simp
     with_reducible refine ⟨_, gh3_x_from_, hK _ ?_⟩
     clear hK K
     with_reducible refine wpStill_step (fun K hK => ?_)
     go_simp
     with_reducible refine hK _ ?_
     clear hK K
     cases h3_x_from_
     · iterate 8
        with_reducible refine wpStill_step (fun K hK => ?_)
        go_simp
        with_reducible refine hK _ ?_
        clear hK K
       with_reducible refine wpStill_nil ?_
       with_reducible refine wpList_step (fun K hK => ?_)
       go_simp
       refine (must_any _ _ 2 80 HLd.out rfl).mono ?_
       rintro e w2 ⟨rfl, hL2, hk2⟩
       with_reducible refine hK _ _ (wpList_nil ?_)
       refine ⟨rfl, ?_, ?_, ?_⟩
       · exact ag
       · have hs := HS.out
         simp only [bS] at hs
         rw [hs]
         exact hL2
       · exact ((Keep.refl _ _).drew).trans hk2 (fun _ _ e => e)
     · iterate 4
        with_reducible refine wpStill_step (fun K hK => ?_)
        go_simp
        with_reducible refine hK _ ?_
        clear hK K
       with_reducible refine wpStill_step (fun K hK => ?_)
       go_simp
       with_reducible refine ⟨_, gh3_x_to, hK _ ?_⟩
       clear hK K
       iterate 3
        with_reducible refine wpStill_step (fun K hK => ?_)
        go_simp
        with_reducible refine hK _ ?_
        clear hK K
       with_reducible refine wpStill_nil ?_
       with_reducible refine wpList_step (fun K hK => ?_)
       go_simp
       refine (must_any _ _ 2 80 HLd.out rfl).mono ?_
       rintro e w2 ⟨rfl, hL2, hk2⟩
       with_reducible refine hK _ _ (wpList_nil ?_)
       refine ⟨rfl, ?_, ?_, ?_⟩
       · exact ag
       · have hs := HS.out
         simp only [bS] at hs
         rw [hs]
         exact hL2
       · exact ((Keep.refl _ _).drew).trans hk2 (fun _ _ e => e)
   rintro a4 w4 ⟨hA3, hL3, hk3⟩
   refine ⟨HAg.out.trans hA3 (by intro j; simp; omega), hL3.congr fun p => ?_, HK1.out.trans hk3 (fun _ _ e => e)⟩
   rw [take_at HX.out, List.flatMap_append, List.flatMap_cons, List.flatMap_nil, List.append_nil]
   simp only [List.mem_append, queueW]
   simp only [or_assoc, or_comm, or_left_comm]
 · rintro a' w' hA ⟨hL, hk⟩
   rw [List.take_length] at hL
   exact hQ _ _ ((hA0.mono (by intro j; simp; omega)).trans hA (by intro j; simp; omega)) hL hk
theorem names_regions {B : Nat} {w : World} {pb : Nat} {v : PolV} {P : Policy} {L : List Wr} (h : LookAt B w pb v P why1 L) {z0 zb : Nat} {D : Nat → DataW Value} {r : Nat → ByteArray → Value} (hF : FamsAt (z0 + 10) w (blocksOf z0) (famsOf P) D r)
 (hpb : pb < z0) (hzb : w.heap[zb]? = some (.cells (mapsOf z0) 137 (0, 0))) (hzp : zb ≠ pb) (a : Act) (hsz : a.tmps.size = 441)
 (h0 : At a 0 (.pointer (some ⟨pb, 0, none⟩))) (h2 : At a 2 (.pointer (some ⟨zb, 0, none⟩))) (Q : Exit → Act → World → Prop)
 (hQ : ∀ a' w', Agree (fun i => i == 14 || (decide (192 ≤ i) && decide (i ≤ 232))) a a' → LookAt B w' pb v P why1 (P.regions.flatMap regionW ++ L) → Keep (fun k => k = pb) w w' → Q .normal a' w') :
 (codeC Tryz.f49 [1,1,1,1,1,1,1,1,0]).wp Tryz.prog Q a w := by
 have hs := h.pol.regions
 obtain ⟨A, c, hu, hnc, hn0, hl⟩ := hs
 unfold top at hn0
 have hlt := h.lt
 have hBp := h.base
 have hq : w.cell? ⟨pb, 4, none⟩ = some v.regions := h.cell rfl
 rw [hu] at hq
 clear hu
 conv => arg 2; whnf
 refine wp_seq (Code.wp_only (R := fun a1 w1 => Agree (fun i => i == 192 || i == 193 || i == 194 || i == 195 || i == 196 || i == 197 || i == 198) a a1 ∧ At a1 196 (.slice A P.regions.length c) ∧ At a1 197 (.int .i64 P.regions.length) ∧ At a1 198 (.int .i64 0) ∧ w1 = w) ?_ ?_)
 · obtain ⟨T, d⟩ := a
   refine wp_region_lit ?_
   iterate 7 with_reducible refine st ?_
   with_reducible refine wpList_nil ?_
   refine ⟨rfl, ag, aq, aq, aq, rfl⟩
 rintro a0 w0 ⟨hA0, k_s, k_n, k_i, rfl⟩
 have hsz0 : a0.tmps.size = 441 := hA0.size.trans hsz
 replace h0 := hA0.at_ h0 rfl
 replace h2 := hA0.at_ h2 rfl
 refine wp_range P.regions.length (fun i => i == 14 || (decide (198 ≤ i) && decide (i ≤ 232))) (fun i => i == 14 || (decide (200 ≤ i) && decide (i ≤ 231))) (fun k _ w' => LookAt B w' pb v P why1 ((P.regions.take k).flatMap regionW ++ L) ∧ Keep (fun k => k = pb) w0 w') (by omega) k_i k_n (by decide) rfl
  (by intro j; simp; omega) (by omega) (by decide) (fun k a1 a2 w hA hI => hI) ⟨by simpa using h, Keep.refl _ _⟩ ?_ ?_
 · rintro n a1 wr hlt2 hA k_j ⟨hL, hk⟩
   obtain ⟨bl, off, rfl, hbl, hcs⟩ := hl (by omega)
   obtain ⟨x, hx⟩ : ∃ x, P.regions[n]? = some x := ⟨_, List.getElem?_eq_getElem hlt2⟩
   obtain ⟨hc, ok_x⟩ := (flat_stays B _ _) _ _ _ _ _ (hk.below (B := B) (by omega) (fun _ hi e => by omega)) hbl (hcs n x hx)
   have q0 := hc.c0
   have q1 := hc 1 _ rfl
   have q2 := hc 2 _ rfl
   have q3 := hc 3 _ rfl
   have q4 := hc 4 _ rfl
   have q5 := hc 5 _ rfl
   have q6 := hc 6 _ rfl
   have q7 := hc 7 _ rfl
   have q8 := hc 8 _ rfl
   have q9 := hc 9 _ rfl
   have k_0 := hA.at_ h0 rfl
   have k_2 := hA.at_ h2 rfl
   have k_sl := hA.at_ k_s rfl
   have hsz1 : a1.tmps.size = 441 := hA.size.trans hsz0
   have hszw := hk.size
   have hblr : bl < wr.heap.size := by omega
   have HX := Lib.hid hx
   have HL := Lib.hid hL
   have HK := Lib.hid hk
   have hnc2 : n ≤ c := by omega
   have HA := Lib.hid hA
   clear hx hL hk hc hA hcs
   refine wp_seq (Code.wp_only (R := fun a2 w2 => Agree (fun i => i == 200 || i == 201 || i == 14) a1 a2 ∧ At a2 14 (.pointer (some ⟨wr.heap.size, 0, none⟩)) ∧ w2 = wr.alloc (Obj.cells #[.int .i64 x.pos, .string x.name, .int .u64 x.size, .bool x.fixed, .int .u64 x.at_, .bool x.big, .bool x.wx, .int .u64 x.fill, .bool x.texted, .string x.text] 48)) ?_ ?_)
   · clear hF hzb
     obtain ⟨T, d⟩ := a1
     refine wp_region_lit ?_
     iterate 4 with_reducible refine st ?_
     with_reducible refine wpList_nil ?_
     refine ⟨rfl, ag, aq, rfl⟩
   rintro a2 wo ⟨hA2, k_x, hwo⟩
   obtain ⟨z, hz⟩ : ∃ z, z = wr.heap.size := ⟨_, rfl⟩
   rw [← hz] at k_x
   have hx0 : CellsAt wo z 0 [.int .i64 x.pos, .string x.name, .int .u64 x.size, .bool x.fixed, .int .u64 x.at_, .bool x.big, .bool x.wx, .int .u64 x.fill, .bool x.texted, .string x.text] := by rw [hwo, hz]; exact cells_new _ _ _
   have hzo : z < wo.heap.size := by rw [hwo, hz]; simp
   have hzpb : z ≠ pb := by omega
   have hko : Keep (fun _ => False) wr wo := by rw [hwo]; exact (Keep.refl _ _).alloc _
   have HL1 := Lib.hid (HL.out.new hko)
   have HK1 := Lib.hid (HK.out.trans hko (fun _ _ h => h.elim))
   have k_0 := hA2.at_ k_0 rfl
   have k_2 := hA2.at_ k_2 rfl
   have hsz2 := hA2.size.trans hsz1
   have HAg : Hid (Agree (fun i => i == 14 || (decide (200 ≤ i) && decide (i ≤ 231))) a1 a2) := hA2.mono (by intro j; simp; omega)
   clear hwo hz hko HL HK hA2 q0 q1 q2 q3 q4 q5 q6 q7 q8 q9
   clear k_sl k_j hlt2 hnc2 hnc hl
   refine Code.wp_only (R := fun a' w' => Agree (fun i => (decide (202 ≤ i) && decide (i ≤ 231))) a2 a' ∧ LookAt B w' pb v P why1 (regionW x ++ ((P.regions.take n).flatMap regionW ++ L)) ∧ Keep (fun k => k = pb) wo w') ?_ ?_
   · skip
     clear HAg HX
     have q_x_pos := hx0.c0
     have q_x_name := hx0 1 _ rfl
     have q_x_size := hx0 2 _ rfl
     have q_x_fixed := hx0 3 _ rfl
     have q_x_at_ := hx0 4 _ rfl
     have q_x_big := hx0 5 _ rfl
     have q_x_wx := hx0 6 _ rfl
     have q_x_fill := hx0 7 _ rfl
     have q_x_texted := hx0 8 _ rfl
     have q_x_text := hx0 9 _ rfl
     clear hx0
     obtain ⟨b_x_fixed, eb_x_fixed⟩ : ∃ b, b = x.fixed := ⟨_, rfl⟩
     rw [← eb_x_fixed] at q_x_fixed
     obtain ⟨b_x_at__eq0, eb_x_at__eq0⟩ : ∃ b, b = decide (x.at_ = 0) := ⟨_, rfl⟩
     have w1b_x_at__eq0 : ((x.at_ : Int) == 0) = b_x_at__eq0 := by rw [eb_x_at__eq0]; exact nat_eqb _ _
     have w2b_x_at__eq0 : ((x.at_ : Int) != 0) = !b_x_at__eq0 := by rw [eb_x_at__eq0]; exact nat_neb _ _
     obtain ⟨b_x_texted, eb_x_texted⟩ : ∃ b, b = x.texted := ⟨_, rfl⟩
     rw [← eb_x_texted] at q_x_texted
     obtain ⟨b_x_text_empty, eb_x_text_empty⟩ : ∃ b, b = decide (x.text = ByteArray.empty) := ⟨_, rfl⟩
     have w1b_x_text_empty : (x.text.toList == ByteArray.toList { data := #[] }) = b_x_text_empty := by rw [eb_x_text_empty]; exact bytes_beq _ _
     have w2b_x_text_empty : (x.text.toList == []) = b_x_text_empty := by rw [← w1b_x_text_empty, toList_nil]
     obtain ⟨b_x_fill_eq0, eb_x_fill_eq0⟩ : ∃ b, b = decide (x.fill = 0) := ⟨_, rfl⟩
     have w1b_x_fill_eq0 : ((x.fill : Int) == 0) = b_x_fill_eq0 := by rw [eb_x_fill_eq0]; exact nat_eqb _ _
     have w2b_x_fill_eq0 : ((x.fill : Int) != 0) = !b_x_fill_eq0 := by rw [eb_x_fill_eq0]; exact nat_neb _ _
     have HS : Hid (regionW x = say ((((b_x_fixed || b_x_at__eq0) && (b_x_texted || b_x_text_empty)) && ((!b_x_texted) || b_x_fill_eq0))) x.pos 0) := by rw [eb_x_fixed, eb_x_at__eq0, eb_x_texted, eb_x_text_empty, eb_x_fill_eq0]; rfl
     clear eb_x_fixed
     clear eb_x_at__eq0
     clear eb_x_texted
     clear eb_x_text_empty
     clear eb_x_fill_eq0
     have HLd := HL1
     have hun := undef_eq
     obtain ⟨T, d⟩ := a2
     refine wp_region_lit ?_
     iterate 4 with_reducible refine st ?_
     cases b_x_fixed
     · iterate 5
        with_reducible refine st ?_
       cases b_x_at__eq0
       · iterate 20
          with_reducible refine st ?_
         with_reducible refine wpList_step (fun K hK => ?_)
         go_simp
         refine (must_any _ _ 0 5 HLd.out rfl).mono ?_
         rintro e w2 ⟨rfl, hL2, hk2⟩
         with_reducible refine hK _ _ (wpList_nil ?_)
         refine ⟨rfl, ?_, ?_, ?_⟩
         · exact ag
         · have hs := HS.out
           simp only [bS] at hs
           rw [hs]
           exact hL2
         · exact hk2
       · iterate 3
          with_reducible refine st ?_
         cases b_x_texted
         · iterate 6
            with_reducible refine st ?_
           cases b_x_text_empty
           · iterate 11
              with_reducible refine st ?_
             with_reducible refine wpList_step (fun K hK => ?_)
             go_simp
             refine (must_any _ _ 0 5 HLd.out rfl).mono ?_
             rintro e w2 ⟨rfl, hL2, hk2⟩
             with_reducible refine hK _ _ (wpList_nil ?_)
             refine ⟨rfl, ?_, ?_, ?_⟩
             · exact ag
             · have hs := HS.out
               simp only [bS] at hs
               rw [hs]
               exact hL2
             · exact hk2
           · iterate 11
              with_reducible refine st ?_
             with_reducible refine wpList_step (fun K hK => ?_)
             go_simp
             refine (must_any _ _ 0 5 HLd.out rfl).mono ?_
             rintro e w2 ⟨rfl, hL2, hk2⟩
             with_reducible refine hK _ _ (wpList_nil ?_)
             refine ⟨rfl, ?_, ?_, ?_⟩
             · exact ag
             · have hs := HS.out
               simp only [bS] at hs
               rw [hs]
               exact hL2
             · exact hk2
         · iterate 17
            with_reducible refine st ?_
           with_reducible refine wpList_step (fun K hK => ?_)
           go_simp
           refine (must_any _ _ 0 5 HLd.out rfl).mono ?_
           rintro e w2 ⟨rfl, hL2, hk2⟩
           with_reducible refine hK _ _ (wpList_nil ?_)
           refine ⟨rfl, ?_, ?_, ?_⟩
           · exact ag
           · have hs := HS.out
             simp only [bS] at hs
             rw [hs]
             exact hL2
           · exact hk2
     · iterate 8
        with_reducible refine st ?_
       cases b_x_texted
       · iterate 6
          with_reducible refine st ?_
         cases b_x_text_empty
         · iterate 11
            with_reducible refine st ?_
           with_reducible refine wpList_step (fun K hK => ?_)
           go_simp
           refine (must_any _ _ 0 5 HLd.out rfl).mono ?_
           rintro e w2 ⟨rfl, hL2, hk2⟩
           with_reducible refine hK _ _ (wpList_nil ?_)
           refine ⟨rfl, ?_, ?_, ?_⟩
           · exact ag
           · have hs := HS.out
             simp only [bS] at hs
             rw [hs]
             exact hL2
           · exact hk2
         · iterate 11
            with_reducible refine st ?_
           with_reducible refine wpList_step (fun K hK => ?_)
           go_simp
           refine (must_any _ _ 0 5 HLd.out rfl).mono ?_
           rintro e w2 ⟨rfl, hL2, hk2⟩
           with_reducible refine hK _ _ (wpList_nil ?_)
           refine ⟨rfl, ?_, ?_, ?_⟩
           · exact ag
           · have hs := HS.out
             simp only [bS] at hs
             rw [hs]
             exact hL2
           · exact hk2
       · iterate 17
          with_reducible refine st ?_
         with_reducible refine wpList_step (fun K hK => ?_)
         go_simp
         refine (must_any _ _ 0 5 HLd.out rfl).mono ?_
         rintro e w2 ⟨rfl, hL2, hk2⟩
         with_reducible refine hK _ _ (wpList_nil ?_)
         refine ⟨rfl, ?_, ?_, ?_⟩
         · exact ag
         · have hs := HS.out
           simp only [bS] at hs
           rw [hs]
           exact hL2
         · exact hk2
   rintro a3 w3 ⟨hA3, hL3, hk3⟩
   refine ⟨HAg.out.trans hA3 (by intro j; simp; omega), hL3.congr fun p => ?_, HK1.out.trans hk3 (fun _ _ e => e)⟩
   rw [take_at HX.out, List.flatMap_append, List.flatMap_cons, List.flatMap_nil, List.append_nil]
   simp only [List.mem_append, regionW]
   simp only [or_assoc, or_comm, or_left_comm]
 · rintro a' w' hA ⟨hL, hk⟩
   rw [List.take_length] at hL
   exact hQ _ _ ((hA0.mono (by intro j; simp; omega)).trans hA (by intro j; simp; omega)) hL hk
theorem names_channels {B : Nat} {w : World} {pb : Nat} {v : PolV} {P : Policy} {L : List Wr} (h : LookAt B w pb v P why1 L) {z0 zb : Nat} {D : Nat → DataW Value} {r : Nat → ByteArray → Value} (hF : FamsAt (z0 + 10) w (blocksOf z0) (famsOf P) D r)
 (hpb : pb < z0) (hzb : w.heap[zb]? = some (.cells (mapsOf z0) 137 (0, 0))) (hzp : zb ≠ pb) (a : Act) (hsz : a.tmps.size = 441)
 (h0 : At a 0 (.pointer (some ⟨pb, 0, none⟩))) (h2 : At a 2 (.pointer (some ⟨zb, 0, none⟩))) (Q : Exit → Act → World → Prop)
 (hQ : ∀ a' w', Agree (fun i => i == 25 || (decide (328 ≤ i) && decide (i ≤ 397))) a a' → LookAt B w' pb v P why1 (P.channels.flatMap (channelW P) ++ L) → Keep (fun k => k = pb) w w' → Q .normal a' w') :
 (codeC Tryz.f49 [1,1,1,1,1,1,1,1,1,1,0]).wp Tryz.prog Q a w := by
 have hs := h.pol.channels
 obtain ⟨A, c, hu, hnc, hn0, hl⟩ := hs
 unfold top at hn0
 have hlt := h.lt
 have hBp := h.base
 have hq : w.cell? ⟨pb, 6, none⟩ = some v.channels := h.cell rfl
 rw [hu] at hq
 clear hu
 conv => arg 2; whnf
 refine wp_seq (Code.wp_only (R := fun a1 w1 => Agree (fun i => i == 328 || i == 329 || i == 330 || i == 331 || i == 332 || i == 333 || i == 334) a a1 ∧ At a1 332 (.slice A P.channels.length c) ∧ At a1 333 (.int .i64 P.channels.length) ∧ At a1 334 (.int .i64 0) ∧ w1 = w) ?_ ?_)
 · obtain ⟨T, d⟩ := a
   refine wp_region_lit ?_
   iterate 7 with_reducible refine st ?_
   with_reducible refine wpList_nil ?_
   refine ⟨rfl, ag, aq, aq, aq, rfl⟩
 rintro a0 w0 ⟨hA0, k_s, k_n, k_i, rfl⟩
 have hsz0 : a0.tmps.size = 441 := hA0.size.trans hsz
 replace h0 := hA0.at_ h0 rfl
 replace h2 := hA0.at_ h2 rfl
 refine wp_range P.channels.length (fun i => i == 25 || (decide (334 ≤ i) && decide (i ≤ 397))) (fun i => i == 25 || (decide (336 ≤ i) && decide (i ≤ 396))) (fun k _ w' => LookAt B w' pb v P why1 ((P.channels.take k).flatMap (channelW P) ++ L) ∧ Keep (fun k => k = pb) w0 w') (by omega) k_i k_n (by decide) rfl
  (by intro j; simp; omega) (by omega) (by decide) (fun k a1 a2 w hA hI => hI) ⟨by simpa using h, Keep.refl _ _⟩ ?_ ?_
 · rintro n a1 wr hlt2 hA k_j ⟨hL, hk⟩
   obtain ⟨bl, off, rfl, hbl, hcs⟩ := hl (by omega)
   obtain ⟨x, hx⟩ : ∃ x, P.channels[n]? = some x := ⟨_, List.getElem?_eq_getElem hlt2⟩
   obtain ⟨hc, ok_x⟩ := (flat_stays B _ _) _ _ _ _ _ (hk.below (B := B) (by omega) (fun _ hi e => by omega)) hbl (hcs n x hx)
   have q0 := hc.c0
   have q1 := hc 1 _ rfl
   have q2 := hc 2 _ rfl
   have q3 := hc 3 _ rfl
   have q4 := hc 4 _ rfl
   have q5 := hc 5 _ rfl
   have q6 := hc 6 _ rfl
   have q7 := hc 7 _ rfl
   have k_0 := hA.at_ h0 rfl
   have k_2 := hA.at_ h2 rfl
   have k_sl := hA.at_ k_s rfl
   have hsz1 : a1.tmps.size = 441 := hA.size.trans hsz0
   have hszw := hk.size
   have hblr : bl < wr.heap.size := by omega
   have HX := Lib.hid hx
   have HL := Lib.hid hL
   have HK := Lib.hid hk
   have hnc2 : n ≤ c := by omega
   have HA := Lib.hid hA
   clear hx hL hk hc hA hcs
   refine wp_seq (Code.wp_only (R := fun a2 w2 => Agree (fun i => i == 336 || i == 337 || i == 25) a1 a2 ∧ At a2 25 (.pointer (some ⟨wr.heap.size, 0, none⟩)) ∧ w2 = wr.alloc (Obj.cells #[.int .i64 x.pos, .string x.name, .string x.from_, .string x.to, .bool x.shared, .string x.over, .int .i64 x.how, .int .u64 x.vector] 55)) ?_ ?_)
   · clear hF hzb
     obtain ⟨T, d⟩ := a1
     refine wp_region_lit ?_
     iterate 4 with_reducible refine st ?_
     with_reducible refine wpList_nil ?_
     refine ⟨rfl, ag, aq, rfl⟩
   rintro a2 wo ⟨hA2, k_x, hwo⟩
   obtain ⟨z, hz⟩ : ∃ z, z = wr.heap.size := ⟨_, rfl⟩
   rw [← hz] at k_x
   have hx0 : CellsAt wo z 0 [.int .i64 x.pos, .string x.name, .string x.from_, .string x.to, .bool x.shared, .string x.over, .int .i64 x.how, .int .u64 x.vector] := by rw [hwo, hz]; exact cells_new _ _ _
   have hzo : z < wo.heap.size := by rw [hwo, hz]; simp
   have hzpb : z ≠ pb := by omega
   have hko : Keep (fun _ => False) wr wo := by rw [hwo]; exact (Keep.refl _ _).alloc _
   have HL1 := Lib.hid (HL.out.new hko)
   have HK1 := Lib.hid (HK.out.trans hko (fun _ _ h => h.elim))
   have k_0 := hA2.at_ k_0 rfl
   have k_2 := hA2.at_ k_2 rfl
   have hsz2 := hA2.size.trans hsz1
   have HAg : Hid (Agree (fun i => i == 25 || (decide (336 ≤ i) && decide (i ≤ 396))) a1 a2) := hA2.mono (by intro j; simp; omega)
   clear hwo hz hko HL HK hA2 q0 q1 q2 q3 q4 q5 q6 q7
   clear k_sl k_j hlt2 hnc2 hnc hl
   refine wp_seq (Code.wp_only (R := fun a' w' => Agree (fun i => (decide (338 ≤ i) && decide (i ≤ 368))) a2 a' ∧ LookAt B w' pb v P why1 (say (decide (1 ≤ x.how) && decide (x.how ≤ 4) && (x.shared || decide (x.over = ByteArray.empty)) && (decide (x.how = 1) || decide (x.vector = 0))) x.pos 0 ++ ((P.channels.take n).flatMap (channelW P) ++ L)) ∧ Keep (fun k => k = pb) wo w') ?_ ?_)
   · skip
     clear HAg HX
     have q_x_pos := hx0.c0
     have q_x_name := hx0 1 _ rfl
     have q_x_from_ := hx0 2 _ rfl
     have q_x_to := hx0 3 _ rfl
     have q_x_shared := hx0 4 _ rfl
     have q_x_over := hx0 5 _ rfl
     have q_x_how := hx0 6 _ rfl
     have q_x_vector := hx0 7 _ rfl
     clear hx0
     obtain ⟨b_x_how_ge1, eb_x_how_ge1⟩ : ∃ b, b = decide (1 ≤ x.how) := ⟨_, rfl⟩
     have w1b_x_how_ge1 := eb_x_how_ge1.symm
     obtain ⟨b_x_how_le4, eb_x_how_le4⟩ : ∃ b, b = decide (x.how ≤ 4) := ⟨_, rfl⟩
     have w1b_x_how_le4 := eb_x_how_le4.symm
     obtain ⟨b_x_shared, eb_x_shared⟩ : ∃ b, b = x.shared := ⟨_, rfl⟩
     rw [← eb_x_shared] at q_x_shared
     obtain ⟨b_x_over_empty, eb_x_over_empty⟩ : ∃ b, b = decide (x.over = ByteArray.empty) := ⟨_, rfl⟩
     have w1b_x_over_empty : (x.over.toList == ByteArray.toList { data := #[] }) = b_x_over_empty := by rw [eb_x_over_empty]; exact bytes_beq _ _
     have w2b_x_over_empty : (x.over.toList == []) = b_x_over_empty := by rw [← w1b_x_over_empty, toList_nil]
     obtain ⟨b_x_how_eq1, eb_x_how_eq1⟩ : ∃ b, b = decide (x.how = 1) := ⟨_, rfl⟩
     have w1b_x_how_eq1 : ((x.how : Int) == 1) = b_x_how_eq1 := by rw [eb_x_how_eq1]; exact int_eqb _ _
     have w2b_x_how_eq1 : ((x.how : Int) != 1) = !b_x_how_eq1 := by rw [eb_x_how_eq1]; exact int_neb _ _
     obtain ⟨b_x_vector_eq0, eb_x_vector_eq0⟩ : ∃ b, b = decide (x.vector = 0) := ⟨_, rfl⟩
     have w1b_x_vector_eq0 : ((x.vector : Int) == 0) = b_x_vector_eq0 := by rw [eb_x_vector_eq0]; exact nat_eqb _ _
     have w2b_x_vector_eq0 : ((x.vector : Int) != 0) = !b_x_vector_eq0 := by rw [eb_x_vector_eq0]; exact nat_neb _ _
     have HS : Hid (say (decide (1 ≤ x.how) && decide (x.how ≤ 4) && (x.shared || decide (x.over = ByteArray.empty)) && (decide (x.how = 1) || decide (x.vector = 0))) x.pos 0 = say ((((b_x_how_ge1 && b_x_how_le4) && (b_x_shared || b_x_over_empty)) && (b_x_how_eq1 || b_x_vector_eq0))) x.pos 0) := by rw [eb_x_how_ge1, eb_x_how_le4, eb_x_shared, eb_x_over_empty, eb_x_how_eq1, eb_x_vector_eq0]; rfl
     clear eb_x_how_ge1
     clear eb_x_how_le4
     clear eb_x_shared
     clear eb_x_over_empty
     clear eb_x_how_eq1
     clear eb_x_vector_eq0
     have HLd := HL1
     have hun := undef_eq
     obtain ⟨T, d⟩ := a2
     refine wp_region_lit ?_
     iterate 5 with_reducible refine st ?_
     cases b_x_how_ge1
     · iterate 25
        with_reducible refine st ?_
       with_reducible refine wpList_step (fun K hK => ?_)
       go_simp
       refine (must_any _ _ 0 5 HLd.out rfl).mono ?_
       rintro e w2 ⟨rfl, hL2, hk2⟩
       with_reducible refine hK _ _ (wpList_nil ?_)
       refine ⟨rfl, ?_, ?_, ?_⟩
       · exact ag
       · have hs := HS.out
         simp only [bS] at hs
         rw [hs]
         exact hL2
       · exact hk2
     · iterate 5
        with_reducible refine st ?_
       cases b_x_how_le4
       · iterate 20
          with_reducible refine st ?_
         with_reducible refine wpList_step (fun K hK => ?_)
         go_simp
         refine (must_any _ _ 0 5 HLd.out rfl).mono ?_
         rintro e w2 ⟨rfl, hL2, hk2⟩
         with_reducible refine hK _ _ (wpList_nil ?_)
         refine ⟨rfl, ?_, ?_, ?_⟩
         · exact ag
         · have hs := HS.out
           simp only [bS] at hs
           rw [hs]
           exact hL2
         · exact hk2
       · iterate 3
          with_reducible refine st ?_
         cases b_x_shared
         · iterate 6
            with_reducible refine st ?_
           cases b_x_over_empty
           · iterate 11
              with_reducible refine st ?_
             with_reducible refine wpList_step (fun K hK => ?_)
             go_simp
             refine (must_any _ _ 0 5 HLd.out rfl).mono ?_
             rintro e w2 ⟨rfl, hL2, hk2⟩
             with_reducible refine hK _ _ (wpList_nil ?_)
             refine ⟨rfl, ?_, ?_, ?_⟩
             · exact ag
             · have hs := HS.out
               simp only [bS] at hs
               rw [hs]
               exact hL2
             · exact hk2
           · iterate 4
              with_reducible refine st ?_
             cases b_x_how_eq1
             · iterate 7
                with_reducible refine st ?_
               with_reducible refine wpList_step (fun K hK => ?_)
               go_simp
               refine (must_any _ _ 0 5 HLd.out rfl).mono ?_
               rintro e w2 ⟨rfl, hL2, hk2⟩
               with_reducible refine hK _ _ (wpList_nil ?_)
               refine ⟨rfl, ?_, ?_, ?_⟩
               · exact ag
               · have hs := HS.out
                 simp only [bS] at hs
                 rw [hs]
                 exact hL2
               · exact hk2
             · iterate 7
                with_reducible refine st ?_
               with_reducible refine wpList_step (fun K hK => ?_)
               go_simp
               refine (must_any _ _ 0 5 HLd.out rfl).mono ?_
               rintro e w2 ⟨rfl, hL2, hk2⟩
               with_reducible refine hK _ _ (wpList_nil ?_)
               refine ⟨rfl, ?_, ?_, ?_⟩
               · exact ag
               · have hs := HS.out
                 simp only [bS] at hs
                 rw [hs]
                 exact hL2
               · exact hk2
         · iterate 10
            with_reducible refine st ?_
           cases b_x_how_eq1
           · iterate 7
              with_reducible refine st ?_
             with_reducible refine wpList_step (fun K hK => ?_)
             go_simp
             refine (must_any _ _ 0 5 HLd.out rfl).mono ?_
             rintro e w2 ⟨rfl, hL2, hk2⟩
             with_reducible refine hK _ _ (wpList_nil ?_)
             refine ⟨rfl, ?_, ?_, ?_⟩
             · exact ag
             · have hs := HS.out
               simp only [bS] at hs
               rw [hs]
               exact hL2
             · exact hk2
           · iterate 7
              with_reducible refine st ?_
             with_reducible refine wpList_step (fun K hK => ?_)
             go_simp
             refine (must_any _ _ 0 5 HLd.out rfl).mono ?_
             rintro e w2 ⟨rfl, hL2, hk2⟩
             with_reducible refine hK _ _ (wpList_nil ?_)
             refine ⟨rfl, ?_, ?_, ?_⟩
             · exact ag
             · have hs := HS.out
               simp only [bS] at hs
               rw [hs]
               exact hL2
             · exact hk2
   rintro a3 w3 ⟨hA3, hL3, hk3⟩
   replace hx0 := hx0.keep hk3 hzo hzpb
   replace hzo : z < w3.heap.size := Nat.lt_of_lt_of_le hzo hk3.size
   replace HL1 := Lib.hid hL3
   replace HK1 := Lib.hid (HK1.out.trans hk3 (fun _ _ e => e))
   replace k_0 := hA3.at_ k_0 rfl
   replace k_x := hA3.at_ k_x rfl
   replace k_2 := hA3.at_ k_2 rfl
   replace hsz2 := hA3.size.trans hsz2
   replace HAg : Hid (Agree (fun i => i == 25 || (decide (336 ≤ i) && decide (i ≤ 396))) a1 a3) := HAg.out.trans hA3 (by intro j; simp; omega)
   clear hA3 hL3 hk3
   refine Code.wp_only (R := fun a' w' => Agree (fun i => (decide (369 ≤ i) && decide (i ≤ 396))) a3 a' ∧ LookAt B w' pb v P why1 (say (has P.subs x.from_ && has P.subs x.to && (!x.shared || has P.regs x.over)) x.pos 2 ++ (say (decide (1 ≤ x.how) && decide (x.how ≤ 4) && (x.shared || decide (x.over = ByteArray.empty)) && (decide (x.how = 1) || decide (x.vector = 0))) x.pos 0 ++ ((P.channels.take n).flatMap (channelW P) ++ L))) ∧ Keep (fun k => k = pb) w3 w') ?_ ?_
   · skip
     clear HAg HX
     have q_x_pos := hx0.c0
     have q_x_name := hx0 1 _ rfl
     have q_x_from_ := hx0 2 _ rfl
     have q_x_to := hx0 3 _ rfl
     have q_x_shared := hx0 4 _ rfl
     have q_x_over := hx0 5 _ rfl
     have q_x_how := hx0 6 _ rfl
     have q_x_vector := hx0 7 _ rfl
     have hzo2 := (HK1.out.block zb (heap_lt hzb) hzp).trans hzb
     have m2 : w3.cell? ⟨zb, 2, none⟩ = some (.map (some (z0 + 3))) := by rw [cell_of_row _ _ _ _ _ _ hzo2]; rfl
     have m3 : w3.cell? ⟨zb, 3, none⟩ = some (.map (some (z0 + 4))) := by rw [cell_of_row _ _ _ _ _ _ hzo2]; rfl
     clear hzo2
     clear hx0
     have sz_x_from_ : x.from_.size ≤ maxLen := by have := ok_x; unfold Ck.Channel.Ok Short at this; unfold maxLen; omega
     have sz_x_over : x.over.size ≤ maxLen := by have := ok_x; unfold Ck.Channel.Ok Short at this; unfold maxLen; omega
     have sz_x_to : x.to.size ≤ maxLen := by have := ok_x; unfold Ck.Channel.Ok Short at this; unfold maxLen; omega
     have hFo := hF.keep (HK1.out.drew) (fun k e _ => by subst e; exact ⟨by omega, by simp [blocksOf]; omega⟩)
     have gh3_x_from_ := flip_ (has_any hFo 3 (z0 + 4) P.subs rfl rfl x.from_ sz_x_from_)
     obtain ⟨h3_x_from_, eh3_x_from_⟩ : ∃ b, b = has P.subs x.from_ := ⟨_, rfl⟩
     rw [← eh3_x_from_] at gh3_x_from_
     have gh3_x_to := flip_ (has_any hFo 3 (z0 + 4) P.subs rfl rfl x.to sz_x_to)
     obtain ⟨h3_x_to, eh3_x_to⟩ : ∃ b, b = has P.subs x.to := ⟨_, rfl⟩
     rw [← eh3_x_to] at gh3_x_to
     obtain ⟨b_x_shared, eb_x_shared⟩ : ∃ b, b = x.shared := ⟨_, rfl⟩
     rw [← eb_x_shared] at q_x_shared
     have gh2_x_over := flip_ (has_any hFo 2 (z0 + 3) P.regs rfl rfl x.over sz_x_over)
     obtain ⟨h2_x_over, eh2_x_over⟩ : ∃ b, b = has P.regs x.over := ⟨_, rfl⟩
     rw [← eh2_x_over] at gh2_x_over
     have HS : Hid (say (has P.subs x.from_ && has P.subs x.to && (!x.shared || has P.regs x.over)) x.pos 2 = say (((h3_x_from_ && h3_x_to) && ((!b_x_shared) || h2_x_over))) x.pos 2) := by rw [eh3_x_from_, eh3_x_to, eb_x_shared, eh2_x_over]; rfl
     clear hFo
     clear eh3_x_from_
     clear eh3_x_to
     clear eb_x_shared
     clear eh2_x_over
     have HLd := Lib.hid (HL1.out.new ((Keep.refl _ w3).drew))
     have hun := undef_eq
     obtain ⟨T, d⟩ := a3
     refine wp_region_still_tail 27 (by kernel_rfl) (by kernel_rfl) ?_
     simp only [List.take_succ_cons, List.take_zero, List.drop_succ_cons, List.drop_zero]
     iterate 5
      with_reducible refine wpStill_step (fun K hK => ?_)
      go_simp
      with_reducible refine hK _ ?_
      clear hK K
     with_reducible refine wpStill_step (fun K hK => ?_)
     go_simp
     with_reducible refine ⟨_, gh3_x_from_, hK _ ?_⟩
     clear hK K
     with_reducible refine wpStill_step (fun K hK => ?_)
     go_simp
     with_reducible refine hK _ ?_
     clear hK K
     cases h3_x_from_
     · iterate 20
        with_reducible refine wpStill_step (fun K hK => ?_)
        go_simp
        with_reducible refine hK _ ?_
        clear hK K
       with_reducible refine wpStill_nil ?_
       with_reducible refine wpList_step (fun K hK => ?_)
       go_simp
       refine (must_any _ _ 2 80 HLd.out rfl).mono ?_
       rintro e w2 ⟨rfl, hL2, hk2⟩
       with_reducible refine hK _ _ (wpList_nil ?_)
       refine ⟨rfl, ?_, ?_, ?_⟩
       · exact ag
       · have hs := HS.out
         simp only [bS] at hs
         rw [hs]
         exact hL2
       · exact ((Keep.refl _ _).drew).trans hk2 (fun _ _ e => e)
     · iterate 4
        with_reducible refine wpStill_step (fun K hK => ?_)
        go_simp
        with_reducible refine hK _ ?_
        clear hK K
       with_reducible refine wpStill_step (fun K hK => ?_)
       go_simp
       with_reducible refine ⟨_, gh3_x_to, hK _ ?_⟩
       clear hK K
       iterate 2
        with_reducible refine wpStill_step (fun K hK => ?_)
        go_simp
        with_reducible refine hK _ ?_
        clear hK K
       cases h3_x_to
       · iterate 13
          with_reducible refine wpStill_step (fun K hK => ?_)
          go_simp
          with_reducible refine hK _ ?_
          clear hK K
         with_reducible refine wpStill_nil ?_
         with_reducible refine wpList_step (fun K hK => ?_)
         go_simp
         refine (must_any _ _ 2 80 HLd.out rfl).mono ?_
         rintro e w2 ⟨rfl, hL2, hk2⟩
         with_reducible refine hK _ _ (wpList_nil ?_)
         refine ⟨rfl, ?_, ?_, ?_⟩
         · exact ag
         · have hs := HS.out
           simp only [bS] at hs
           rw [hs]
           exact hL2
         · exact ((Keep.refl _ _).drew).trans hk2 (fun _ _ e => e)
       · iterate 4
          with_reducible refine wpStill_step (fun K hK => ?_)
          go_simp
          with_reducible refine hK _ ?_
          clear hK K
         cases b_x_shared
         · iterate 9
            with_reducible refine wpStill_step (fun K hK => ?_)
            go_simp
            with_reducible refine hK _ ?_
            clear hK K
           with_reducible refine wpStill_nil ?_
           with_reducible refine wpList_step (fun K hK => ?_)
           go_simp
           refine (must_any _ _ 2 80 HLd.out rfl).mono ?_
           rintro e w2 ⟨rfl, hL2, hk2⟩
           with_reducible refine hK _ _ (wpList_nil ?_)
           refine ⟨rfl, ?_, ?_, ?_⟩
           · exact ag
           · have hs := HS.out
             simp only [bS] at hs
             rw [hs]
             exact hL2
           · exact ((Keep.refl _ _).drew).trans hk2 (fun _ _ e => e)
         · iterate 4
            with_reducible refine wpStill_step (fun K hK => ?_)
            go_simp
            with_reducible refine hK _ ?_
            clear hK K
           with_reducible refine wpStill_step (fun K hK => ?_)
           go_simp
           with_reducible refine ⟨_, gh2_x_over, hK _ ?_⟩
           clear hK K
           iterate 4
            with_reducible refine wpStill_step (fun K hK => ?_)
            go_simp
            with_reducible refine hK _ ?_
            clear hK K
           with_reducible refine wpStill_nil ?_
           with_reducible refine wpList_step (fun K hK => ?_)
           go_simp
           refine (must_any _ _ 2 80 HLd.out rfl).mono ?_
           rintro e w2 ⟨rfl, hL2, hk2⟩
           with_reducible refine hK _ _ (wpList_nil ?_)
           refine ⟨rfl, ?_, ?_, ?_⟩
           · exact ag
           · have hs := HS.out
             simp only [bS] at hs
             rw [hs]
             exact hL2
           · exact ((Keep.refl _ _).drew).trans hk2 (fun _ _ e => e)
   rintro a4 w4 ⟨hA3, hL3, hk3⟩
   refine ⟨HAg.out.trans hA3 (by intro j; simp; omega), hL3.congr fun p => ?_, HK1.out.trans hk3 (fun _ _ e => e)⟩
   rw [take_at HX.out, List.flatMap_append, List.flatMap_cons, List.flatMap_nil, List.append_nil]
   simp only [List.mem_append, channelW]
   simp only [or_assoc, or_comm, or_left_comm]
 · rintro a' w' hA ⟨hL, hk⟩
   rw [List.take_length] at hL
   exact hQ _ _ ((hA0.mono (by intro j; simp; omega)).trans hA (by intro j; simp; omega)) hL hk
theorem names_irqs {B : Nat} {w : World} {pb : Nat} {v : PolV} {P : Policy} {L : List Wr} (h : LookAt B w pb v P why1 L) {z0 zb : Nat} {D : Nat → DataW Value} {r : Nat → ByteArray → Value} (hF : FamsAt (z0 + 10) w (blocksOf z0) (famsOf P) D r)
 (hpb : pb < z0) (hzb : w.heap[zb]? = some (.cells (mapsOf z0) 137 (0, 0))) (hzp : zb ≠ pb) (a : Act) (hsz : a.tmps.size = 441)
 (h0 : At a 0 (.pointer (some ⟨pb, 0, none⟩))) (h2 : At a 2 (.pointer (some ⟨zb, 0, none⟩))) (Q : Exit → Act → World → Prop)
 (hQ : ∀ a' w', Agree (fun i => i == 27 || (decide (398 ≤ i) && decide (i ≤ 424))) a a' → LookAt B w' pb v P why1 (P.irqs.flatMap (irqW P) ++ L) → Keep (fun k => k = pb) w w' → Q .normal a' w') :
 (codeC Tryz.f49 [1,1,1,1,1,1,1,1,1,1,1,0]).wp Tryz.prog Q a w := by
 have hs := h.pol.irqs
 obtain ⟨A, c, hu, hnc, hn0, hl⟩ := hs
 unfold top at hn0
 have hlt := h.lt
 have hBp := h.base
 have hq : w.cell? ⟨pb, 7, none⟩ = some v.irqs := h.cell rfl
 rw [hu] at hq
 clear hu
 conv => arg 2; whnf
 refine wp_seq (Code.wp_only (R := fun a1 w1 => Agree (fun i => i == 398 || i == 399 || i == 400 || i == 401 || i == 402 || i == 403 || i == 404) a a1 ∧ At a1 402 (.slice A P.irqs.length c) ∧ At a1 403 (.int .i64 P.irqs.length) ∧ At a1 404 (.int .i64 0) ∧ w1 = w) ?_ ?_)
 · obtain ⟨T, d⟩ := a
   refine wp_region_lit ?_
   iterate 7 with_reducible refine st ?_
   with_reducible refine wpList_nil ?_
   refine ⟨rfl, ag, aq, aq, aq, rfl⟩
 rintro a0 w0 ⟨hA0, k_s, k_n, k_i, rfl⟩
 have hsz0 : a0.tmps.size = 441 := hA0.size.trans hsz
 replace h0 := hA0.at_ h0 rfl
 replace h2 := hA0.at_ h2 rfl
 refine wp_range P.irqs.length (fun i => i == 27 || (decide (404 ≤ i) && decide (i ≤ 424))) (fun i => i == 27 || (decide (406 ≤ i) && decide (i ≤ 423))) (fun k _ w' => LookAt B w' pb v P why1 ((P.irqs.take k).flatMap (irqW P) ++ L) ∧ Keep (fun k => k = pb) w0 w') (by omega) k_i k_n (by decide) rfl
  (by intro j; simp; omega) (by omega) (by decide) (fun k a1 a2 w hA hI => hI) ⟨by simpa using h, Keep.refl _ _⟩ ?_ ?_
 · rintro n a1 wr hlt2 hA k_j ⟨hL, hk⟩
   obtain ⟨bl, off, rfl, hbl, hcs⟩ := hl (by omega)
   obtain ⟨x, hx⟩ : ∃ x, P.irqs[n]? = some x := ⟨_, List.getElem?_eq_getElem hlt2⟩
   obtain ⟨hc, ok_x⟩ := (flat_stays B _ _) _ _ _ _ _ (hk.below (B := B) (by omega) (fun _ hi e => by omega)) hbl (hcs n x hx)
   have q0 := hc.c0
   have q1 := hc 1 _ rfl
   have q2 := hc 2 _ rfl
   have q3 := hc 3 _ rfl
   have q4 := hc 4 _ rfl
   have q5 := hc 5 _ rfl
   have k_0 := hA.at_ h0 rfl
   have k_2 := hA.at_ h2 rfl
   have k_sl := hA.at_ k_s rfl
   have hsz1 : a1.tmps.size = 441 := hA.size.trans hsz0
   have hszw := hk.size
   have hblr : bl < wr.heap.size := by omega
   have HX := Lib.hid hx
   have HL := Lib.hid hL
   have HK := Lib.hid hk
   have hnc2 : n ≤ c := by omega
   have HA := Lib.hid hA
   clear hx hL hk hc hA hcs
   refine wp_seq (Code.wp_only (R := fun a2 w2 => Agree (fun i => i == 406 || i == 407 || i == 27) a1 a2 ∧ At a2 27 (.pointer (some ⟨wr.heap.size, 0, none⟩)) ∧ w2 = wr.alloc (Obj.cells #[.int .i64 x.pos, .string x.name, .string x.from_, .string x.to, .int .u64 x.vector, .bool x.masked] 58)) ?_ ?_)
   · clear hF hzb
     obtain ⟨T, d⟩ := a1
     refine wp_region_lit ?_
     iterate 4 with_reducible refine st ?_
     with_reducible refine wpList_nil ?_
     refine ⟨rfl, ag, aq, rfl⟩
   rintro a2 wo ⟨hA2, k_x, hwo⟩
   obtain ⟨z, hz⟩ : ∃ z, z = wr.heap.size := ⟨_, rfl⟩
   rw [← hz] at k_x
   have hx0 : CellsAt wo z 0 [.int .i64 x.pos, .string x.name, .string x.from_, .string x.to, .int .u64 x.vector, .bool x.masked] := by rw [hwo, hz]; exact cells_new _ _ _
   have hzo : z < wo.heap.size := by rw [hwo, hz]; simp
   have hzpb : z ≠ pb := by omega
   have hko : Keep (fun _ => False) wr wo := by rw [hwo]; exact (Keep.refl _ _).alloc _
   have HL1 := Lib.hid (HL.out.new hko)
   have HK1 := Lib.hid (HK.out.trans hko (fun _ _ h => h.elim))
   have k_0 := hA2.at_ k_0 rfl
   have k_2 := hA2.at_ k_2 rfl
   have hsz2 := hA2.size.trans hsz1
   have HAg : Hid (Agree (fun i => i == 27 || (decide (406 ≤ i) && decide (i ≤ 423))) a1 a2) := hA2.mono (by intro j; simp; omega)
   clear hwo hz hko HL HK hA2 q0 q1 q2 q3 q4 q5
   clear k_sl k_j hlt2 hnc2 hnc hl
   refine Code.wp_only (R := fun a' w' => Agree (fun i => (decide (408 ≤ i) && decide (i ≤ 423))) a2 a' ∧ LookAt B w' pb v P why1 (irqW P x ++ ((P.irqs.take n).flatMap (irqW P) ++ L)) ∧ Keep (fun k => k = pb) wo w') ?_ ?_
   · skip
     clear HAg HX
     have q_x_pos := hx0.c0
     have q_x_name := hx0 1 _ rfl
     have q_x_from_ := hx0 2 _ rfl
     have q_x_to := hx0 3 _ rfl
     have q_x_vector := hx0 4 _ rfl
     have q_x_masked := hx0 5 _ rfl
     have hzo2 := (HK1.out.block zb (heap_lt hzb) hzp).trans hzb
     have m1 : wo.cell? ⟨zb, 1, none⟩ = some (.map (some (z0 + 2))) := by rw [cell_of_row _ _ _ _ _ _ hzo2]; rfl
     have m3 : wo.cell? ⟨zb, 3, none⟩ = some (.map (some (z0 + 4))) := by rw [cell_of_row _ _ _ _ _ _ hzo2]; rfl
     clear hzo2
     clear hx0
     have sz_x_from_ : x.from_.size ≤ maxLen := by have := ok_x; unfold Ck.Irq.Ok Short at this; unfold maxLen; omega
     have sz_x_to : x.to.size ≤ maxLen := by have := ok_x; unfold Ck.Irq.Ok Short at this; unfold maxLen; omega
     have hFo := hF.keep (HK1.out.drew) (fun k e _ => by subst e; exact ⟨by omega, by simp [blocksOf]; omega⟩)
     have gh1_x_from_ := flip_ (has_any hFo 1 (z0 + 2) P.devs rfl rfl x.from_ sz_x_from_)
     obtain ⟨h1_x_from_, eh1_x_from_⟩ : ∃ b, b = has P.devs x.from_ := ⟨_, rfl⟩
     rw [← eh1_x_from_] at gh1_x_from_
     have gh3_x_to := flip_ (has_any hFo 3 (z0 + 4) P.subs rfl rfl x.to sz_x_to)
     obtain ⟨h3_x_to, eh3_x_to⟩ : ∃ b, b = has P.subs x.to := ⟨_, rfl⟩
     rw [← eh3_x_to] at gh3_x_to
     have HS : Hid (irqW P x = say ((h1_x_from_ && h3_x_to)) x.pos 2) := by rw [eh1_x_from_, eh3_x_to]; rfl
     clear hFo
     clear eh1_x_from_
     clear eh3_x_to
     have HLd := Lib.hid (HL1.out.new ((Keep.refl _ wo).drew))
     have hun := undef_eq
     obtain ⟨T, d⟩ := a2
     refine wp_region_still_tail 15 (by kernel_rfl) (by kernel_rfl) ?_
     simp only [List.take_succ_cons, List.take_zero, List.drop_succ_cons, List.drop_zero]
     iterate 5
      with_reducible refine wpStill_step (fun K hK => ?_)
      go_simp
      with_reducible refine hK _ ?_
      clear hK K
     with_reducible refine wpStill_step (fun K hK => ?_)
     go_simp
     with_reducible refine ⟨_, gh1_x_from_, hK _ ?_⟩
     clear hK K
     with_reducible refine wpStill_step (fun K hK => ?_)
     go_simp
     with_reducible refine hK _ ?_
     clear hK K
     cases h1_x_from_
     · iterate 8
        with_reducible refine wpStill_step (fun K hK => ?_)
        go_simp
        with_reducible refine hK _ ?_
        clear hK K
       with_reducible refine wpStill_nil ?_
       with_reducible refine wpList_step (fun K hK => ?_)
       go_simp
       refine (must_any _ _ 2 80 HLd.out rfl).mono ?_
       rintro e w2 ⟨rfl, hL2, hk2⟩
       with_reducible refine hK _ _ (wpList_nil ?_)
       refine ⟨rfl, ?_, ?_, ?_⟩
       · exact ag
       · have hs := HS.out
         simp only [bS] at hs
         rw [hs]
         exact hL2
       · exact ((Keep.refl _ _).drew).trans hk2 (fun _ _ e => e)
     · iterate 4
        with_reducible refine wpStill_step (fun K hK => ?_)
        go_simp
        with_reducible refine hK _ ?_
        clear hK K
       with_reducible refine wpStill_step (fun K hK => ?_)
       go_simp
       with_reducible refine ⟨_, gh3_x_to, hK _ ?_⟩
       clear hK K
       iterate 3
        with_reducible refine wpStill_step (fun K hK => ?_)
        go_simp
        with_reducible refine hK _ ?_
        clear hK K
       with_reducible refine wpStill_nil ?_
       with_reducible refine wpList_step (fun K hK => ?_)
       go_simp
       refine (must_any _ _ 2 80 HLd.out rfl).mono ?_
       rintro e w2 ⟨rfl, hL2, hk2⟩
       with_reducible refine hK _ _ (wpList_nil ?_)
       refine ⟨rfl, ?_, ?_, ?_⟩
       · exact ag
       · have hs := HS.out
         simp only [bS] at hs
         rw [hs]
         exact hL2
       · exact ((Keep.refl _ _).drew).trans hk2 (fun _ _ e => e)
   rintro a3 w3 ⟨hA3, hL3, hk3⟩
   refine ⟨HAg.out.trans hA3 (by intro j; simp; omega), hL3.congr fun p => ?_, HK1.out.trans hk3 (fun _ _ e => e)⟩
   rw [take_at HX.out, List.flatMap_append, List.flatMap_cons, List.flatMap_nil, List.append_nil]
   simp only [List.mem_append, irqW]
   simp only [or_assoc, or_comm, or_left_comm]
 · rintro a' w' hA ⟨hL, hk⟩
   rw [List.take_length] at hL
   exact hQ _ _ ((hA0.mono (by intro j; simp; omega)).trans hA (by intro j; simp; omega)) hL hk
end Go.Proofs.YtpblcjipmoblnaaGreatDoor
