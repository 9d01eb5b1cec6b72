/- Tables Things2 -/
import Derived.Test.YtpblcjipmoblnaaGreatDoorNamesB
import Derived.Test.YtpblcjipmoblnaaGreatDoorSmall
import Derived.Test.YtpblcjipmoblnaaGreatDoorIdxF
import Derived.Test.YtpblcjipmoblnaaGreatDoorFor2
import Derived.Test.YtpblcjipmoblnaaGreatDoorSpanP
set_option maxRecDepth 100000
set_option maxHeartbeats 4000000
set_option linter.unusedVariables false
set_option linter.unusedSimpArgs false
namespace Go.Proofs.YtpblcjipmoblnaaGreatDoor
open Go.RowKit Go.IntWalk Ck
theorem Tryz.lawU : Go.Maps.Keyed Tryz.prog 39 := Go.Maps.int_keyed Tryz.underlying39
def upN (m : Ck.Map) (s : Nat) : Nat := (m.at_ + s - 1) / 2097152 + 1 - m.at_ / 2097152
def PUp (m : Ck.Map) (y j : Nat) : Prop := ∃ i, i < j ∧ y = (m.at_ / 2097152 + i) / 512
def PLow (m : Ck.Map) (big : Bool) (y j : Nat) : Prop := big = false ∧ ∃ i, i < j ∧ y = m.at_ / 2097152 + i
theorem tables_inner {w : World} {m : Ck.Map} {x : Thing} (hb : below m.at_ x.size 549755813888 = true) (hp : 0 < x.size) (hle : x.size ≤ 67108864) {u lo nu nl : Nat} {Su Sl : List Nat} (hu : USet 39 w u nu Su) (hl : USet 39 w lo nl Sl) (hnu : nu ≤ 140737488355000) (hnl : nl ≤ 140737488355000) (hul : u ≠ lo)
 {zm zx : Nat} (hzm : w.heap[zm]? = some (.cells (Ck.Map.cells m).toArray 71 (0, 0))) (hzx : w.heap[zx]? = some (.cells #[.int .u64 x.size, .bool x.big, .bool x.wx] 182 (0, 0))) (hzu : zm ≠ u ∧ zm ≠ lo ∧ zx ≠ u ∧ zx ≠ lo) (a : Act) (hsz : a.tmps.size = 76)
 (h5 : At a 5 (.map (some u))) (h6 : At a 6 (.map (some lo))) (h8 : At a 8 (.pointer (some ⟨zm, 0, none⟩))) (h9 : At a 9 (.pointer (some ⟨zx, 0, none⟩))) (h11 : At a 11 (.int .u64 (m.at_ / 2097152 : Nat))) (Q : Exit → Act → World → Prop)
 (hQ : ∀ a' w' Su' Sl', Agree (fun i => i == 11 || (decide (48 ≤ i) && decide (i ≤ 68))) a a' → USet 39 w' u (nu + upN m x.size) Su' → USet 39 w' lo (nl + upN m x.size) Sl' → (∀ y, y ∈ Su' ↔ y ∈ Su ∨ PUp m y (upN m x.size)) → (∀ y, y ∈ Sl' ↔ y ∈ Sl ∨ PLow m x.big y (upN m x.size)) → Keep (fun k => k = u ∨ k = lo) w w' → Q .normal a' w') :
 (codeC Tryz.f59 [1,1,0,1,0,0,1,1,0,0,1,1,1,1,1]).wp Tryz.prog Q a w := by
 obtain ⟨hb1, hb2⟩ : m.at_ ≤ 549755813888 ∧ x.size ≤ 549755813888 - m.at_ := by
  unfold below at hb
  simpa using hb
 have hpos : m.at_ / 2097152 ≤ (m.at_ + x.size - 1) / 2097152 := by omega
 have hun : upN m x.size ≤ 34 := by unfold upN; omega
 conv => arg 2; whnf
 refine wp_for2 (upN m x.size) (fun j a' w' => Agree (fun i => i == 11 || (decide (48 ≤ i) && decide (i ≤ 68))) a a' ∧ At a' 11 (.int .u64 ((m.at_ / 2097152 + j : Nat) : Int)) ∧ ∃ Su' Sl', USet 39 w' u (nu + j) Su' ∧ USet 39 w' lo (nl + j) Sl' ∧ (∀ y, y ∈ Su' ↔ y ∈ Su ∨ PUp m y j) ∧ (∀ y, y ∈ Sl' ↔ y ∈ Sl ∨ PLow m x.big y j) ∧ Keep (fun k => k = u ∨ k = lo) w w')
  (fun j a' w' => Agree (fun i => i == 11 || (decide (48 ≤ i) && decide (i ≤ 68))) a a' ∧ At a' 11 (.int .u64 ((m.at_ / 2097152 + j : Nat) : Int)) ∧ ∃ Su' Sl', USet 39 w' u (nu + (j + 1)) Su' ∧ USet 39 w' lo (nl + (j + 1)) Sl' ∧ (∀ y, y ∈ Su' ↔ y ∈ Su ∨ PUp m y (j + 1)) ∧ (∀ y, y ∈ Sl' ↔ y ∈ Sl ∨ PLow m x.big y (j + 1)) ∧ Keep (fun k => k = u ∨ k = lo) w w')
  (fun a => match a.eval (.tmp 11) with | .int _ x => x.toNat - m.at_ / 2097152 | _ => 0) ⟨Agree.refl _ _, h11, Su, Sl, hu, hl, fun y => ⟨.inl, fun h => h.elim id fun ⟨i, hi, _⟩ => by omega⟩, fun y => ⟨.inl, fun h => h.elim id fun ⟨_, i, hi, _⟩ => by omega⟩, Keep.refl _ _⟩ ?_ ?_ ?_ ?_ ?_
 · rintro k a' w' ⟨hA, hk, _⟩
   rw [hk.eval (by rw [hA.size, hsz]; decide)]
   show ((m.at_ / 2097152 + k : Nat) : Int).toNat - m.at_ / 2097152 = k
   omega
 · rintro k a' w' hkn ⟨hA, hk, hrest⟩
   have HREST := Lib.hid hrest
   obtain ⟨Su', Sl', _, _, _, _, hK⟩ := hrest
   have k8 := hA.at_ h8 rfl
   have k9 := hA.at_ h9 rfl
   have hszz := hA.size.trans hsz
   have q2 : w'.cell? ⟨zm, 2, none⟩ = some (.int .u64 m.at_) := by rw [cell_of_row _ _ _ _ _ _ ((hK.block zm (heap_lt hzm) (by omega)).trans hzm)]; rfl
   have p0 : w'.cell? ⟨zx, 0, none⟩ = some (.int .u64 x.size) := by rw [cell_of_row _ _ _ _ _ _ ((hK.block zx (heap_lt hzx) (by omega)).trans hzx)]; rfl
   obtain ⟨vv, hvv⟩ : ∃ vv, vv = m.at_ / 2097152 + k := ⟨_, rfl⟩
   obtain ⟨s, hs⟩ : ∃ s, s = m.at_ + x.size := ⟨_, rfl⟩
   obtain ⟨s1, hs1⟩ : ∃ s1, s1 = m.at_ + x.size - 1 := ⟨_, rfl⟩
   rw [← hvv] at hk
   have e1 : IntKind.u64.wrap ((m.at_ : Int) + (x.size : Int)) = (s : Int) := by rw [hs, u64_in _ (by omega)]; omega
   have e2 : IntKind.u64.wrap ((s : Int) - 1) = (s1 : Int) := by rw [hs1, hs, u64_in _ (by omega)]; omega
   have HVV := Lib.hid hvv
   have HS := Lib.hid hs
   have HS1 := Lib.hid hs1
   clear hvv hs hs1
   obtain ⟨T, d⟩ := a'
   refine wp_region_lit ?_
   iterate 9 with_reducible refine st ?_
   with_reducible refine wpList_nil ?_
   refine ⟨rfl, ⟨?_, ?_, ?_⟩, ?_⟩
   · exact ag
   · rw [← HVV.out]
     (repeat (first | with_reducible exact At.self | with_reducible apply At.ne)); all_goals first | decide | with_reducible exact hk
   · exact HREST.out
   · refine (At.eval At.self (by have := hszz; simp at this ⊢; omega)).trans ?_
     have h1 := HVV.out
     have h3 := HS1.out
     congr 1
     exact decide_eq_decide.2 (by unfold upN; omega)
 · rintro k a' w' hkn ⟨hA, hk, Su', Sl', hu', hl', hm', hn', hK⟩
   have k5 := hA.at_ h5 rfl
   have k6 := hA.at_ h6 rfl
   have k9 := hA.at_ h9 rfl
   have hszz := hA.size.trans hsz
   have hx' := (hK.block zx (heap_lt hzx) (by omega)).trans hzx
   obtain ⟨vv, hvv⟩ : ∃ vv, vv = m.at_ / 2097152 + k := ⟨_, rfl⟩
   obtain ⟨q, hq⟩ : ∃ q, q = vv / 512 := ⟨_, rfl⟩
   rw [← hvv] at hk
   have hvl : vv < 2097152 := by omega
   have eq_ : (vv : Int) / 512 = (q : Int) := by omega
   have hql : q < lim := by unfold lim; omega
   have hvl2 : vv < lim := by unfold lim; omega
   have HVV := Lib.hid hvv
   have HQ := Lib.hid hq
   clear hvv hq
   refine wp_seq (Code.wp_only (R := fun a1 w1 => Agree (fun i => (decide (48 ≤ i) && decide (i ≤ 68))) a' a1 ∧ USet 39 w1 u (nu + (k + 1)) (USet.add Su' q) ∧ Keep (fun k => k = u) w' w1) ?_ ?_)
   · have HU := Lib.hid hu'
     clear hu' hl' hm' hn' hK hx'
     have hAr : Agree (fun i => (decide (48 ≤ i) && decide (i ≤ 68))) a' a' := Agree.refl _ _
     obtain ⟨T, d⟩ := a'
     refine wp_region_lit ?_
     iterate 4 with_reducible refine st ?_
     refine USet.update rfl HU.out Tryz.lawU Tryz.underlying39 (by unfold maxLen; omega) rfl rfl Tryz.underlying207 (At.eval (by (repeat (first | with_reducible exact At.self | with_reducible apply At.ne)); all_goals first | decide | with_reducible assumption) (by have := hszz; simp at this ⊢; omega)) (y := q) (At.eval (by (repeat (first | with_reducible exact At.self | with_reducible apply At.ne)); all_goals first | decide | with_reducible assumption) (by have := hszz; simp at this ⊢; omega)) hql (At.eval (by (repeat (first | with_reducible exact At.self | with_reducible apply At.ne)); all_goals first | decide | with_reducible assumption) (by have := hszz; simp at this ⊢; omega)) ?_
     intro w2 hu2 hk2
     refine wpList_nil ⟨rfl, ?_, hu2, hk2⟩
     simp only [Act.put]
     exact ag
   rintro a1 w1 ⟨hA1, hu1, hk1⟩
   replace k6 := hA1.at_ k6 rfl
   replace k9 := hA1.at_ k9 rfl
   replace hk := hA1.at_ hk rfl
   have hsz1 := hA1.size.trans hszz
   have hl1 := hl'.keep hk1 (by show ¬ lo = u; omega)
   have hx1 := (hk1.block zx (heap_lt hx') (by show zx ≠ u; omega)).trans hx'
   have p1 : w1.cell? ⟨zx, 1, none⟩ = some (.bool x.big) := by rw [cell_of_row _ _ _ _ _ _ hx1]; rfl
   have hK1 : Keep (fun k => k = u ∨ k = lo) w w1 := hK.trans hk1 (fun _ _ h => .inl h)
   have hup : ∀ y, y ∈ USet.add Su' q ↔ y ∈ Su ∨ PUp m y (k + 1) := fun y => by
    rw [USet.mem_add, hm' y]
    have h1 := HVV.out
    have h2 := HQ.out
    constructor
    · rintro (e | h | ⟨i, hi, e⟩)
      · exact .inr ⟨k, by omega, by rw [e, h2, h1]⟩
      · exact .inl h
      · exact .inr ⟨i, by omega, e⟩
    · rintro (h | ⟨i, hi, e⟩)
      · exact .inr (.inl h)
      · rcases Nat.lt_or_ge i k with h | h
        · exact .inr (.inr ⟨i, h, e⟩)
        · obtain rfl : i = k := by omega
          exact .inl (by rw [e, h2, h1])
   have hlow : ∀ y, (x.big = false → (y ∈ USet.add Sl' vv ↔ y ∈ Sl ∨ PLow m x.big y (k + 1))) ∧ (x.big = true → (y ∈ Sl' ↔ y ∈ Sl ∨ PLow m x.big y (k + 1))) := fun y => by
    have h1 := HVV.out
    constructor
    · intro hbg
      rw [USet.mem_add, hn' y]
      constructor
      · rintro (e | h | ⟨hb', i, hi, e⟩)
        · exact .inr ⟨hbg, k, by omega, by rw [e, h1]⟩
        · exact .inl h
        · exact .inr ⟨hbg, i, by omega, e⟩
      · rintro (h | ⟨hb', i, hi, e⟩)
        · exact .inr (.inl h)
        · rcases Nat.lt_or_ge i k with h | h
          · exact .inr (.inr ⟨hbg, i, h, e⟩)
          · obtain rfl : i = k := by omega
            exact .inl (by rw [e, h1])
    · intro hbg
      rw [hn' y]
      unfold PLow
      rw [hbg]
      simp
   have HUP := Lib.hid hup
   have HLOW := Lib.hid hlow
   have HU1 := Lib.hid hu1
   have HL1 := Lib.hid hl1
   have HKK := Lib.hid hK1
   have HAA : Hid (Agree (fun i => i == 11 || (decide (48 ≤ i) && decide (i ≤ 68))) a a1) := hA.trans hA1 (by intro j; simp; omega)
   clear hup hlow hu1 hl1 hK1 hu' hl' hm' hn' hK hx' hA hA1 hk1 hx1
   refine wp_seq (Code.wp_only (R := fun a2 w2 => Agree (fun i => (decide (48 ≤ i) && decide (i ≤ 68))) a1 a2 ∧ At a2 65 (.bool !x.big) ∧ w2 = w1) ?_ ?_)
   · have hAr : Agree (fun i => (decide (48 ≤ i) && decide (i ≤ 68))) a1 a1 := Agree.refl _ _
     obtain ⟨T, d⟩ := a1
     refine wp_region_lit ?_
     iterate 3 with_reducible refine st ?_
     refine wpList_nil ⟨rfl, ag, aq, rfl⟩
   rintro a2 w2 ⟨hA2, k65, rfl⟩
   have hsz2 := hA2.size.trans hsz1
   replace k6 := hA2.at_ k6 rfl
   replace hk := hA2.at_ hk rfl
   have hkv : At a2 11 (.int .u64 ((m.at_ / 2097152 + k : Nat) : Int)) := by rw [← HVV.out]; exact hk
   have HA2 : Hid (Agree (fun i => i == 11 || (decide (48 ≤ i) && decide (i ≤ 68))) a a2) := HAA.out.trans hA2 (by intro j; simp; omega)
   clear hA2
   refine wp_cond_split (k65.eval (by omega)) (fun hbg => ?_) (fun hbg => ?_)
   · have hbg' : x.big = false := by simpa using hbg
     have hAr : Agree (fun i => i == 11 || (decide (48 ≤ i) && decide (i ≤ 68))) a a2 := HA2.out
     clear hbg k65
     obtain ⟨T, d⟩ := a2
     refine wp_region_lit ?_
     iterate 3 with_reducible refine st ?_
     refine USet.update rfl HL1.out Tryz.lawU Tryz.underlying39 (by unfold maxLen; omega) rfl rfl Tryz.underlying207 (At.eval (by (repeat (first | with_reducible exact At.self | with_reducible apply At.ne)); all_goals first | decide | with_reducible assumption) (by have := hsz2; simp at this ⊢; omega)) (y := vv) (At.eval (by (repeat (first | with_reducible exact At.self | with_reducible apply At.ne)); all_goals first | decide | with_reducible assumption) (by have := hsz2; simp at this ⊢; omega)) hvl2 (At.eval (by (repeat (first | with_reducible exact At.self | with_reducible apply At.ne)); all_goals first | decide | with_reducible assumption) (by have := hsz2; simp at this ⊢; omega)) ?_
     intro w3 hl3 hk3
     refine wpList_nil ?_
     simp only [Act.put]
     refine ⟨?_, ?_, _, _, HU1.out.keep hk3 (by show ¬ u = lo; omega), hl3, HUP.out, fun y => (HLOW.out y).1 hbg', HKK.out.trans hk3 (fun _ _ h => .inr h)⟩
     · exact ag
     · (repeat (first | with_reducible exact At.self | with_reducible apply At.ne)); all_goals first | decide | with_reducible exact hkv
   · have hbg' : x.big = true := by simpa using hbg
     refine wp_skip ?_
     exact ⟨HA2.out, hkv, _, _, HU1.out, HL1.out.mono (by omega), HUP.out, fun y => (HLOW.out y).2 hbg', HKK.out⟩
 · rintro k a' w' hkn ⟨hA, hk, hrest⟩
   have hszz := hA.size.trans hsz
   obtain ⟨vv, hvv⟩ : ∃ vv, vv = m.at_ / 2097152 + k := ⟨_, rfl⟩
   have e0 : m.at_ / 2097152 + (k + 1) = vv + 1 := by omega
   rw [← hvv] at hk
   have e1 : IntKind.u64.wrap ((vv : Int) + 1) = (vv : Int) + 1 := u64_in _ (by omega)
   have HR := Lib.hid hrest
   clear hrest hvv
   rw [e0]
   obtain ⟨T, d⟩ := a'
   refine wp_region_lit ?_
   iterate 3 with_reducible refine st ?_
   refine wpList_nil ⟨rfl, ?_, ?_, HR.out⟩
   · exact ag
   · have e2 : ((vv + 1 : Nat) : Int) = (vv : Int) + 1 := by omega
     rw [e2]
     exact aq
 · rintro a' w' ⟨hA, _, Su', Sl', h1, h2, h3, h4, h5⟩
   exact hQ a' w' Su' Sl' hA h1 h2 h3 h4 h5
theorem tableOk_eq (P : Policy) (m : Ck.Map) : tableOk P m = ((thing P m.of).isSome && (decide ((thing0 P m.of).size ≤ 67108864) && below m.at_ (thing0 P m.of).size 549755813888)) := by
 unfold tableOk thing0
 cases thing P m.of <;> simp
theorem len_dups {S L : List Nat} (hn : S.Nodup) (h : ∀ y, y ∈ S ↔ y ∈ L) : S.length = L.eraseDups.length := by
 have h1 := dups_le hn (m := L.eraseDups) (fun x hx => List.mem_eraseDups.2 ((h x).1 hx))
 have h2 := dups_le (dups_nodup L) (m := S) (fun x hx => (h x).2 (List.mem_eraseDups.1 hx))
 omega
theorem upper_snoc (P : Policy) (l : List Ck.Map) (m : Ck.Map) (y : Nat) : y ∈ uppers P (l ++ [m]) ↔ y ∈ uppers P l ∨ (0 < (thing0 P m.of).size ∧ PUp m y (upN m (thing0 P m.of).size)) := by
 unfold uppers PUp upN ups
 rw [List.flatMap_append, List.mem_append]
 refine or_congr Iff.rfl ?_
 simp only [List.flatMap_cons, List.flatMap_nil, List.append_nil]
 split
 · rename_i h; simp; omega
 · rename_i h
   simp only [List.mem_map, List.mem_range]
   constructor
   · rintro ⟨z, ⟨i, hi, rfl⟩, rfl⟩; exact ⟨by omega, i, hi, by rw [Nat.add_comm]⟩
   · rintro ⟨_, i, hi, rfl⟩; exact ⟨_, ⟨i, hi, rfl⟩, by rw [Nat.add_comm]⟩
theorem lower_snoc (P : Policy) (l : List Ck.Map) (m : Ck.Map) (y : Nat) : y ∈ lowers P (l ++ [m]) ↔ y ∈ lowers P l ∨ (0 < (thing0 P m.of).size ∧ PLow m (thing0 P m.of).big y (upN m (thing0 P m.of).size)) := by
 unfold lowers PLow upN ups
 rw [List.flatMap_append, List.mem_append]
 refine or_congr Iff.rfl ?_
 simp only [List.flatMap_cons, List.flatMap_nil, List.append_nil]
 split
 · rename_i h
   rcases h with h | h
   · simp; omega
   · simp [h]
 · rename_i h
   have h1 : (thing0 P m.of).big = false := by cases hb : (thing0 P m.of).big <;> simp_all
   have h2 : ¬ (thing0 P m.of).size = 0 := fun e => h (.inl e)
   simp only [List.mem_map, List.mem_range]
   constructor
   · rintro ⟨i, hi, rfl⟩; exact ⟨by omega, h1, i, hi, by rw [Nat.add_comm]⟩
   · rintro ⟨_, _, i, hi, rfl⟩; exact ⟨i, hi, by rw [Nat.add_comm]⟩
theorem tables_any {B : Nat} {w : World} {P : Policy} {A : Option Addr} {c : Nat} {l : List Ck.Map} (hs : SliceAt B 5 MapAt w (.slice A l.length c) l) (hB : B ≤ w.heap.size) {mb : Nat} (hm : ThingMap w mb P) (hmb : mb < w.heap.size) (hth : ∀ s, (thing0 P s).size < lim) :
 Calls Tryz.prog 59 #[.slice A l.length c, .map (some mb)] w fun e w' => e = .returned (.int .i64 (tables P l)) ∧ Keep (fun _ => False) w w' := by
 obtain ⟨_, _, e, hnc, hn, hl⟩ := hs
 cases e
 unfold top at hn
 have HM := Lib.hid hm
 have HTH := Lib.hid hth
 have HLS := Lib.hid hl
 clear hm hth hl
 refine calls_abs Tryz.func59 Tryz.ntmps59 rfl (by show 2 ≤ 76; decide) fun a hsz hd h => ?_
 have h0 : At a 0 (.slice A l.length c) := h 0 _ rfl
 have h1 : At a 1 (.map (some mb)) := h 1 _ rfl
 clear h
 conv => arg 2; whnf
 refine wp_seq (Code.wp_only (R := fun a1 w1 => Agree (fun i => i == 4) a a1 ∧ At a1 4 (.int .i64 (0 : Nat)) ∧ w1 = w) ?_ ?_)
 · obtain ⟨T, d⟩ := a
   refine wp_region_lit ?_
   with_reducible refine st ?_
   refine wpList_nil ⟨rfl, ?_, ?_, rfl⟩
   · exact ag
   · exact At.self
 rintro a1 w1 ⟨hA1, h4, rfl⟩
 replace h0 := hA1.at_ h0 rfl
 replace h1 := hA1.at_ h1 rfl
 have hsz1 := hA1.size.trans hsz
 have hd1 := hA1.defers.trans hd
 clear hA1 hsz hd
 refine wp_seq (Code.wp_only (R := fun a2 w2 => Agree (fun i => i == 5 || i == 6 || i == 12 || i == 13) a1 a2 ∧ At a2 5 (.map (some w1.heap.size)) ∧ At a2 6 (.map (some (w1.heap.size + 1))) ∧ w2 = (w1.alloc (.map #[] 0)).alloc (.map #[] 0)) ?_ ?_)
 · have hmm := @run_makeMap Tryz.prog
   have hAr : Agree (fun i => i == 5 || i == 6 || i == 12 || i == 13) a1 a1 := Agree.refl _ _
   obtain ⟨T, d⟩ := a1
   refine wp_region_lit ?_
   iterate 4 with_reducible refine st ?_
   refine wpList_nil ⟨rfl, ag, aq, aq, rfl⟩
 rintro a2 w2 ⟨hA2, h5, h6, hw2⟩
 replace h0 := hA2.at_ h0 rfl
 replace h1 := hA2.at_ h1 rfl
 replace h4 := hA2.at_ h4 rfl
 have hsz2 := hA2.size.trans hsz1
 have hd2 := hA2.defers.trans hd1
 obtain ⟨u, hu⟩ : ∃ u, u = w1.heap.size := ⟨_, rfl⟩
 have s2 : w2.heap.size = u + 2 := by rw [hw2, hu]; simp
 have f1 : w2.heap[u]? = some (.map #[] 0) := by rw [hw2, hu, Below.heap_alloc _ _ _ (by simp)]; exact heap_alloc_new _ _
 have f2 : w2.heap[u + 1]? = some (.map #[] 0) := by
  rw [hw2, hu]
  have := heap_alloc_new (w1.alloc (.map #[] 0)) (.map #[] 0)
  rwa [World.size_alloc] at this
 have hk2 : Keep (fun _ => False) w1 w2 := by rw [hw2]; exact ((Keep.refl _ _).alloc _).alloc _
 rw [← hu] at h5 h6
 have hmu : mb < u := by omega
 have hBu : B ≤ u := by omega
 have HU := Lib.hid hu
 clear hw2 hA2 hsz1 hd1 hu
 refine wp_seq (wp_seq (Code.wp_only (R := fun a3 w3 => Agree (fun i => i == 14 || i == 15 || i == 16) a2 a3 ∧ At a3 14 (.slice A l.length c) ∧ At a3 15 (.int .i64 l.length) ∧ At a3 16 (.int .i64 0) ∧ w3 = w2) ?_ ?_))
 · have hAr : Agree (fun i => i == 14 || i == 15 || i == 16) a2 a2 := Agree.refl _ _
   obtain ⟨T, d⟩ := a2
   refine wp_region_lit ?_
   iterate 3 with_reducible refine st ?_
   refine wpList_nil ⟨rfl, ag, aq, aq, aq, rfl⟩
 rintro a3 w3 ⟨hA3, k_s, k_n, k_i, rfl⟩
 replace h1 := hA3.at_ h1 rfl
 replace h4 := hA3.at_ h4 rfl
 replace h5 := hA3.at_ h5 rfl
 replace h6 := hA3.at_ h6 rfl
 have hsz3 := hA3.size.trans hsz2
 have hd3 := hA3.defers.trans hd2
 clear hA3 hsz2 hd2 h0
 have HK2 := Lib.hid hk2
 clear hk2
 refine wp_range l.length (fun i => (decide (8 ≤ i) && decide (i ≤ 11)) || (decide (16 ≤ i) && decide (i ≤ 69))) (fun i => (decide (8 ≤ i) && decide (i ≤ 11)) || (decide (18 ≤ i) && decide (i ≤ 68)))
  (fun k _ w' => ∃ nu nl Su Sl, USet 39 w' u nu Su ∧ USet 39 w' (u + 1) nl Sl ∧ nu ≤ 34 * k ∧ nl ≤ 34 * k ∧ (∀ y, y ∈ Su ↔ y ∈ uppers P (l.take k)) ∧ (∀ y, y ∈ Sl ↔ y ∈ lowers P (l.take k)) ∧ (∀ m ∈ l.take k, tableOk P m = true) ∧ Keep (fun k => k = u ∨ k = u + 1) w3 w') (by omega) k_i k_n (by decide) rfl
  (by intro j; simp; omega) (by omega) (by decide) (fun k a1 a2 w hA hI => hI) ⟨0, 0, [], [], USet.new _ _ _ f1, USet.new _ _ _ f2, Nat.zero_le _, Nat.zero_le _, by simp [uppers], by simp [lowers], by simp, Keep.refl _ _⟩ ?_ ?_
 · rintro n a4 wr hlt hA k_j ⟨nu, nl, Su, Sl, hu, hl, hnu, hnl, hsu, hsl, hok, hk⟩
   obtain ⟨bl, off, rfl, hbl, hcs⟩ := HLS.out (by omega)
   obtain ⟨m, hx⟩ : ∃ x, l[n]? = some x := ⟨_, List.getElem?_eq_getElem hlt⟩
   have hKw : Keep (fun k => k = u ∨ k = u + 1) w1 wr := (HK2.out.mono fun _ _ h => h.elim : Keep (fun k => k = u ∨ k = u + 1) w1 w3).trans hk (fun _ _ h => h)
   obtain ⟨hc, ok_m⟩ := (flat_stays B _ _) _ _ _ _ _ (hKw.below (B := B) (by omega) (fun _ hi e => by omega)) hbl (hcs n m hx)
   have q0 := hc.c0
   have q1 := hc 1 _ rfl
   have q2 := hc 2 _ rfl
   have q3 := hc 3 _ rfl
   have q4 := hc 4 _ rfl
   have k_1 := hA.at_ h1 rfl
   have k_4 := hA.at_ h4 rfl
   have k_5 := hA.at_ h5 rfl
   have k_6 := hA.at_ h6 rfl
   have k_sl := hA.at_ k_s rfl
   have hsz4 := hA.size.trans hsz3
   have hd4 := hA.defers.trans hd3
   have hszw := hk.size
   have hblr : bl < wr.heap.size := by omega
   have hkc : n ≤ c := by omega
   obtain ⟨x, hxx⟩ : ∃ x, x = thing0 P m.of := ⟨_, rfl⟩
   have hxl : x.size < lim := by rw [hxx]; exact HTH.out _
   obtain ⟨ok, hokk⟩ : ∃ b, b = (thing P m.of).isSome := ⟨_, rfl⟩
   have htk := take_at hx
   have HTO : Hid (tableOk P m = (ok && (decide (x.size ≤ 67108864) && below m.at_ x.size 549755813888))) := by rw [hokk, hxx]; exact tableOk_eq P m
   have HUP : Hid (∀ y, y ∈ uppers P (l.take (n + 1)) ↔ y ∈ uppers P (l.take n) ∨ (0 < x.size ∧ PUp m y (upN m x.size))) := Lib.hid fun y => by rw [htk, hxx]; exact upper_snoc P _ m y
   have HLO : Hid (∀ y, y ∈ lowers P (l.take (n + 1)) ↔ y ∈ lowers P (l.take n) ∨ (0 < x.size ∧ PLow m x.big y (upN m x.size))) := Lib.hid fun y => by rw [htk, hxx]; exact lower_snoc P _ m y
   have HTK : Hid (∀ m' ∈ l.take (n + 1), m' ∈ l.take n ∨ m' = m) := Lib.hid fun m' hm' => by rw [htk] at hm'; simpa using hm'
   have HME : Hid (m ∈ l) := Lib.hid (List.mem_of_getElem? hx)
   have HSM : Hid (∃ nn, SMap wr mb nn (.agg #[.int .u64 0, .bool false, .bool false]) (fun s => encT (thing0 P s)) (fun s => (thing P s).isSome)) := by
    obtain ⟨nn, hsm⟩ := HM.out
    exact ⟨nn, hsm.keep hKw (by show ¬ (mb = u ∨ mb = u + 1); omega)⟩
   have HHU := Lib.hid hu
   have HHL := Lib.hid hl
   have HSU := Lib.hid hsu
   have HSL := Lib.hid hsl
   have HOK := Lib.hid hok
   have HK := Lib.hid hk
   have HXX := Lib.hid hxx
   have HOO := Lib.hid hokk
   have hul := hu.lt
   have hll := hl.lt
   clear hx hcs hc hA hu hl hsu hsl hok hk hxx hokk htk hKw
   refine wp_seq (Code.wp_only (R := fun a5 w5 => Agree (fun i => i == 18 || i == 19 || i == 8) a4 a5 ∧ At a5 8 (.pointer (some ⟨wr.heap.size, 0, none⟩)) ∧ w5 = wr.alloc (.cells #[.int .i64 m.pos, .string m.of, .int .u64 m.at_, .bool m.write, .bool m.exec] 71)) ?_ ?_)
   · have hAr : Agree (fun i => i == 18 || i == 19 || i == 8) a4 a4 := Agree.refl _ _
     obtain ⟨T, d⟩ := a4
     refine wp_region_lit ?_
     iterate 4 with_reducible refine st ?_
     refine wpList_nil ⟨rfl, ag, aq, rfl⟩
   rintro a5 w5 ⟨hA5, k_8, hw5⟩
   obtain ⟨zm, hzm⟩ : ∃ z, z = wr.heap.size := ⟨_, rfl⟩
   rw [← hzm] at k_8
   have fm : w5.heap[zm]? = some (.cells #[.int .i64 m.pos, .string m.of, .int .u64 m.at_, .bool m.write, .bool m.exec] 71 (0, 0)) := by rw [hw5, hzm]; exact heap_alloc_new _ _
   have HS5 : Hid (w5.heap.size = wr.heap.size + 1) := Lib.hid (by rw [hw5]; simp)
   have hk5 : Keep (fun _ => False) wr w5 := by rw [hw5]; exact (Keep.refl _ _).alloc _
   have q1 : w5.cell? ⟨zm, 1, none⟩ = some (.string m.of) := by rw [cell_of_row _ _ _ _ _ _ fm]; rfl
   replace k_1 := hA5.at_ k_1 rfl
   replace k_4 := hA5.at_ k_4 rfl
   replace k_5 := hA5.at_ k_5 rfl
   replace k_6 := hA5.at_ k_6 rfl
   have hsz5 := hA5.size.trans hsz4
   have hd5 := hA5.defers.trans hd4
   have HZM := Lib.hid hzm
   have HK5 := Lib.hid hk5
   have HA5 : Hid (Agree (fun i => (decide (8 ≤ i) && decide (i ≤ 11)) || (decide (18 ≤ i) && decide (i ≤ 68))) a4 a5) := hA5.mono (by intro j; simp; omega)
   have FM := Lib.hid fm
   clear hw5 hA5 hzm hk5 q0 q2 q3 q4 k_j k_sl fm
   -- r5
   refine wp_seq (Code.wp_only (R := fun a6 w6 => Agree (fun i => i == 9 || i == 10 || (decide (20 ≤ i) && decide (i ≤ 26))) a5 a6 ∧ At a6 9 (.pointer (some ⟨w5.heap.size, 0, none⟩)) ∧ At a6 10 (.bool ok) ∧ w6 = w5.alloc (.cells #[.int .u64 x.size, .bool x.big, .bool x.wx] 182)) ?_ ?_)
   · have hAr : Agree (fun i => i == 9 || i == 10 || (decide (20 ≤ i) && decide (i ≤ 26))) a5 a5 := Agree.refl _ _
     obtain ⟨nn, hsm⟩ := HSM.out
     have HSM5 := Lib.hid (hsm.keep HK5.out (fun h => h))
     clear hsm
     have hmsz : m.of.size ≤ maxLen := Nat.le_trans ok_m.2.2 (by unfold maxLen; omega)
     obtain ⟨T, d⟩ := a5
     refine wp_region_lit ?_
     iterate 3 with_reducible refine st ?_
     refine SMap.lookup_ok rfl HSM5.out rfl rfl Tryz.underlying121 zero182 (At.eval (by (repeat (first | with_reducible exact At.self | with_reducible apply At.ne)); all_goals first | decide | with_reducible assumption) (by have := hsz5; simp at this ⊢; omega)) (At.eval (by (repeat (first | with_reducible exact At.self | with_reducible apply At.ne)); all_goals first | decide | with_reducible assumption) (by have := hsz5; simp at this ⊢; omega)) hmsz ?_
     rw [← HXX.out, ← HOO.out]
     simp only [Act.put, encT]
     iterate 6 with_reducible refine st ?_
     refine wpList_nil ⟨rfl, ag, aq, aq, rfl⟩
   rintro a6 w6 ⟨hA6, k_9, k_10, hw6⟩
   obtain ⟨zx, hzx⟩ : ∃ z, z = w5.heap.size := ⟨_, rfl⟩
   rw [← hzx] at k_9
   have fx : w6.heap[zx]? = some (.cells #[.int .u64 x.size, .bool x.big, .bool x.wx] 182 (0, 0)) := by rw [hw6, hzx]; exact heap_alloc_new _ _
   have hk6 : Keep (fun _ => False) w5 w6 := by rw [hw6]; exact (Keep.refl _ _).alloc _
   have fm6 := (hk6.block zm (heap_lt FM.out) (fun h => h)).trans FM.out
   have hk06 : Keep (fun _ => False) wr w6 := HK5.out.trans hk6 (fun _ _ h => h)
   have q2 : w6.cell? ⟨zm, 2, none⟩ = some (.int .u64 m.at_) := by rw [cell_of_row _ _ _ _ _ _ fm6]; rfl
   have p0 : w6.cell? ⟨zx, 0, none⟩ = some (.int .u64 x.size) := by rw [cell_of_row _ _ _ _ _ _ fx]; rfl
   have HZ : Hid (zm ≠ u ∧ zm ≠ u + 1 ∧ zx ≠ u ∧ zx ≠ u + 1) := Lib.hid (by have := HZM.out; have := HS5.out; omega)
   replace k_4 := hA6.at_ k_4 rfl
   replace k_5 := hA6.at_ k_5 rfl
   replace k_6 := hA6.at_ k_6 rfl
   replace k_8 := hA6.at_ k_8 rfl
   have hsz6 := hA6.size.trans hsz5
   have hd6 := hA6.defers.trans hd5
   have HA6 : Hid (Agree (fun i => (decide (8 ≤ i) && decide (i ≤ 11)) || (decide (18 ≤ i) && decide (i ≤ 68))) a4 a6) := HA5.out.trans hA6 (by intro j; simp; omega)
   have HK6 := Lib.hid hk06
   have FX := Lib.hid fx
   have FM6 := Lib.hid fm6
   have HU6 := Lib.hid (HHU.out.keep hk06 (fun h => h))
   have HL6 := Lib.hid (HHL.out.keep hk06 (fun h => h))
   have HKK6 : Hid (Keep (fun k => k = u ∨ k = u + 1) w3 w6) := HK.out.trans hk06 (fun _ _ h => h.elim)
   clear hw6 hA6 hzx hk6 fx fm6 q1 hk06 k_1 HSM
   obtain ⟨gt, hgt⟩ : ∃ b, b = decide (67108864 < x.size) := ⟨_, rfl⟩
   obtain ⟨bl2, hbl2⟩ : ∃ b, b = below m.at_ x.size 549755813888 := ⟨_, rfl⟩
   have w1gt : decide ((67108864 : Int) < (x.size : Int)) = gt := by rw [hgt]; exact decide_eq_decide.2 (by omega)
   have hbc := below_any m.at_ x.size 549755813888 w6 (by have := ok_m.2.1; unfold lim at this; omega) (by unfold lim at hxl; omega) (by decide)
   rw [← hbl2] at hbc
   have HBC := Lib.hid hbc
   have HTO2 : Hid (tableOk P m = (ok && (!gt && bl2))) := Lib.hid (by rw [HTO.out, hgt, hbl2]; congr 2; rw [← decide_not]; exact decide_eq_decide.2 (by omega))
   have HGT := Lib.hid hgt
   have HBL := Lib.hid hbl2
   clear hgt hbl2 hbc
   refine wp_seq (wp_seq (Code.wp_only (R := fun a7 w7 => Agree (fun i => (decide (27 ≤ i) && decide (i ≤ 41))) a6 a7 ∧ At a7 41 (.bool (!tableOk P m)) ∧ w7 = w6) ?_ ?_))
   · have hAr : Agree (fun i => (decide (27 ≤ i) && decide (i ≤ 41))) a6 a6 := Agree.refl _ _
     have hun := undef_eq
     rw [HTO2.out]
     obtain ⟨T, d⟩ := a6
     refine wp_region_lit ?_
     iterate 3 with_reducible refine st ?_
     cases ok
     · iterate 12
        with_reducible refine st ?_
       refine wpList_nil ⟨rfl, ?_, ?_, rfl⟩
       · exact ag
       · first | (simp only [Bool.false_and, Bool.true_and, Bool.not_false, Bool.not_true, Bool.and_false]; exact At.self) | (exact aq)
     · iterate 5
        with_reducible refine st ?_
       cases gt
       · iterate 4
          with_reducible refine st ?_
         with_reducible refine wpList_step (fun K hK => ?_)
         go_simp
         refine HBC.out.mono ?_
         rintro e w7 ⟨rfl, rfl⟩
         with_reducible refine hK _ _ ?_
         clear hK K
         iterate 2 with_reducible refine st ?_
         refine wpList_nil ⟨rfl, ?_, ?_, rfl⟩
         · exact ag
         · first | (simp only [Bool.false_and, Bool.true_and, Bool.not_false, Bool.not_true, Bool.and_false]; exact At.self) | (exact aq)
       · iterate 7
          with_reducible refine st ?_
         refine wpList_nil ⟨rfl, ?_, ?_, rfl⟩
         · exact ag
         · first | (simp only [Bool.false_and, Bool.true_and, Bool.not_false, Bool.not_true, Bool.and_false]; exact At.self) | (exact aq)
   rintro a7 w7 ⟨hA7, k41, rfl⟩
   replace k_4 := hA7.at_ k_4 rfl
   replace k_5 := hA7.at_ k_5 rfl
   replace k_6 := hA7.at_ k_6 rfl
   replace k_8 := hA7.at_ k_8 rfl
   replace k_9 := hA7.at_ k_9 rfl
   have hsz7 := hA7.size.trans hsz6
   have hd7 := hA7.defers.trans hd6
   have HA7 : Hid (Agree (fun i => (decide (8 ≤ i) && decide (i ≤ 11)) || (decide (18 ≤ i) && decide (i ≤ 68))) a4 a7) := HA6.out.trans hA7 (by intro j; simp; omega)
   clear hA7
   refine wp_cond_split (k41.eval (by omega)) (fun hbad => ?_) (fun hgood => ?_)
   · -- it ends with 0
     have ht0 : tables P l = 0 := by
      unfold tables
      rw [if_neg]
      intro h
      have := List.all_eq_true.1 h m HME.out
      rw [this] at hbad
      cases hbad
     refine wp_seq (Code.wp_only (R := fun a8 w8 => a8.tmps.size = 76 ∧ a8.defers = [] ∧ At a8 4 (.int .i64 (0 : Nat)) ∧ w8 = w7) ?_ ?_)
     · obtain ⟨T, d⟩ := a7
       refine wp_region_lit ?_
       with_reducible refine st ?_
       refine wpList_nil ⟨rfl, ?_, hd7, ?_, rfl⟩
       · have := hsz7; simp at this ⊢; omega
       · exact At.self
     rintro a8 w8 ⟨hsz8, hd8, k4, rfl⟩
     refine wp_ret ?_
     repeat (first | with_reducible apply inbody_ret | with_reducible apply then_ret)
     refine post_tmp (t := 4) rfl k4 (by rw [hsz8]; decide) hd8 ?_
     exact ⟨by rw [ht0], (HK2.out.trans HKK6.out (fun i hi h => by have := HU.out; omega))⟩
   · have hok1 : tableOk P m = true := by simpa using hgood
     refine wp_skip ?_
     have hob : (ok && (!gt && bl2)) = true := by rw [← HTO2.out]; exact hok1
     simp only [Bool.and_eq_true, Bool.not_eq_true'] at hob
     obtain ⟨ho1, ho2, ho3⟩ := hob
     have hxs : x.size ≤ 67108864 := by have h1 := HGT.out; rw [ho2] at h1; have := of_decide_eq_false h1.symm; omega
     have hbel : below m.at_ x.size 549755813888 = true := by rw [← HBL.out]; exact ho3
     have HOK1 : Hid (∀ m' ∈ l.take (n + 1), tableOk P m' = true) := Lib.hid fun m' hm' => by
      rcases HTK.out m' hm' with h | rfl
      · exact HOK.out m' h
      · exact hok1
     clear hgood ho1 ho2 ho3 HBL HGT w1gt k41 hok1 HOK HTK HBC
     obtain ⟨ze, hze⟩ : ∃ b, b = decide (x.size = 0) := ⟨_, rfl⟩
     have w1ze : ((x.size : Int) == 0) = ze := by rw [hze]; exact nat_eqb _ 0
     have HZE := Lib.hid hze
     clear hze
     refine wp_seq (wp_seq (Code.wp_only (R := fun a8 w8 => Agree (fun i => (decide (42 ≤ i) && decide (i ≤ 44))) a7 a8 ∧ At a8 44 (.bool ze) ∧ w8 = w7) ?_ ?_))
     · have hAr : Agree (fun i => (decide (42 ≤ i) && decide (i ≤ 44))) a7 a7 := Agree.refl _ _
       obtain ⟨T, d⟩ := a7
       refine wp_region_lit ?_
       iterate 3 with_reducible refine st ?_
       refine wpList_nil ⟨rfl, ag, aq, rfl⟩
     rintro a8 w8 ⟨hA8, k44, rfl⟩
     replace k_5 := hA8.at_ k_5 rfl
     replace k_6 := hA8.at_ k_6 rfl
     replace k_8 := hA8.at_ k_8 rfl
     replace k_9 := hA8.at_ k_9 rfl
     have hsz8 := hA8.size.trans hsz7
     have HA8 : Hid (Agree (fun i => (decide (8 ≤ i) && decide (i ≤ 11)) || (decide (18 ≤ i) && decide (i ≤ 68))) a4 a8) := HA7.out.trans hA8 (by intro j; simp; omega)
     clear hA8 hsz7 HA7 k_4
     refine wp_cond_split (k44.eval (by omega)) (fun hz => ?_) (fun hz => ?_)
     · refine wp_exit ?_
       have hx0 : ¬ 0 < x.size := by have h1 := HZE.out; rw [hz] at h1; have := of_decide_eq_true h1.symm; omega
       repeat with_reducible apply then_exit
       simp only [InBody, if_true]
       exact ⟨HA8.out, nu, nl, Su, Sl, HU6.out, HL6.out, by omega, by omega, fun y => by rw [HUP.out y, HSU.out y]; exact ⟨.inl, fun h => h.elim id fun h => absurd h.1 hx0⟩, fun y => by rw [HLO.out y, HSL.out y]; exact ⟨.inl, fun h => h.elim id fun h => absurd h.1 hx0⟩, HOK1.out, HKK6.out⟩
     · have hxp : 0 < x.size := by have h1 := HZE.out; rw [hz] at h1; have := of_decide_eq_false h1.symm; omega
       refine wp_skip ?_
       have hun34 : upN m x.size ≤ 34 := by
        obtain ⟨hb1, hb2⟩ : m.at_ ≤ 549755813888 ∧ x.size ≤ 549755813888 - m.at_ := by
         unfold below at hbel
         simpa using hbel
        unfold upN
        omega
       obtain ⟨q, hq⟩ : ∃ q, q = m.at_ / 2097152 := ⟨_, rfl⟩
       have eq_ : (m.at_ : Int) / 2097152 = (q : Int) := by omega
       have HQ := Lib.hid hq
       clear hz hq k44 HZE w1ze
       refine wp_seq (Code.wp_only (R := fun a9 w9 => Agree (fun i => i == 11 || (decide (45 ≤ i) && decide (i ≤ 47))) a8 a9 ∧ At a9 11 (.int .u64 q) ∧ w9 = w8) ?_ ?_)
       · have hAr : Agree (fun i => i == 11 || (decide (45 ≤ i) && decide (i ≤ 47))) a8 a8 := Agree.refl _ _
         obtain ⟨T, d⟩ := a8
         refine wp_region_lit ?_
         iterate 4 with_reducible refine st ?_
         refine wpList_nil ⟨rfl, ?_, ?_, rfl⟩
         · exact ag
         · first | (simp only [Bool.false_and, Bool.true_and, Bool.not_false, Bool.not_true, Bool.and_false]; exact At.self) | (exact aq)
       rintro a9 w9 ⟨hA9, k_11, rfl⟩
       replace k_5 := hA9.at_ k_5 rfl
       replace k_6 := hA9.at_ k_6 rfl
       replace k_8 := hA9.at_ k_8 rfl
       replace k_9 := hA9.at_ k_9 rfl
       have hsz9 := hA9.size.trans hsz8
       have HA9 : Hid (Agree (fun i => (decide (8 ≤ i) && decide (i ≤ 11)) || (decide (18 ≤ i) && decide (i ≤ 68))) a4 a9) := HA8.out.trans hA9 (by intro j; simp; omega)
       rw [HQ.out] at k_11
       obtain ⟨z1, z2, z3, z4⟩ := HZ.out
       refine tables_inner hbel hxp hxs HU6.out HL6.out (by omega) (by omega) (by omega) (zm := zm) (zx := zx) FM6.out FX.out ⟨z1, z2, z3, z4⟩ a9 hsz9 k_5 k_6 k_8 k_9 k_11 _ ?_
       intro a10 w10 Su' Sl' hA10 hu' hl' hsu' hsl' hk'
       refine ⟨HA9.out.trans hA10 (by intro j; simp; omega), _, _, Su', Sl', hu', hl', by omega, by omega, fun y => ?_, fun y => ?_, HOK1.out, HKK6.out.trans hk' (fun _ _ h => h)⟩
       · rw [hsu' y, HUP.out y, HSU.out y]; exact or_congr Iff.rfl ⟨fun h => ⟨hxp, h⟩, fun h => h.2⟩
       · rw [hsl' y, HLO.out y, HSL.out y]; exact or_congr Iff.rfl ⟨fun h => ⟨hxp, h⟩, fun h => h.2⟩
 · rintro a4 w4 hA ⟨nu, nl, Su, Sl, hu, hl, hnu, hnl, hsu, hsl, hok, hk⟩
   rw [List.take_length] at hsu hsl hok
   replace h5 := hA.at_ h5 rfl
   replace h6 := hA.at_ h6 rfl
   have hsz4 := hA.size.trans hsz3
   have hd4 := hA.defers.trans hd3
   have HHU := Lib.hid hu
   have HHL := Lib.hid hl
   have hSu := Nat.le_trans (by obtain ⟨D, o1, _, o3, _⟩ := hu; rw [← o3]; exact o1.size_le : Su.length ≤ nu) hnu
   have hSl := Nat.le_trans (by obtain ⟨D, o1, _, o3, _⟩ := hl; rw [← o3]; exact o1.size_le : Sl.length ≤ nl) hnl
   have hval : tables P l = 1 + Su.length + Sl.length := by
    unfold tables
    rw [if_pos (List.all_eq_true.2 hok), len_dups (by obtain ⟨D, _, o2, _⟩ := hu; exact o2) hsu, len_dups (by obtain ⟨D, _, o2, _⟩ := hl; exact o2) hsl]
   have e1 : IntKind.i64.wrap ((1 : Int) + (Su.length : Int)) = ((1 + Su.length : Nat) : Int) := by rw [i64_in _ (by omega)]; omega
   obtain ⟨s1, hs1⟩ : ∃ s, s = 1 + Su.length := ⟨_, rfl⟩
   rw [← hs1] at e1 hval
   have e2 : IntKind.i64.wrap ((s1 : Int) + (Sl.length : Int)) = ((tables P l : Nat) : Int) := by rw [hval, i64_in _ (by omega)]; omega
   obtain ⟨tt, htt⟩ : ∃ t, t = tables P l := ⟨_, rfl⟩
   rw [← htt] at e2
   have HTT := Lib.hid htt
   have HKF : Hid (Keep (fun _ => False) w1 w4) := Lib.hid (HK2.out.trans hk (fun i hi h => by have := HU.out; omega))
   clear hval hs1 htt hu hl hsu hsl hok hk hA
   refine wp_seq (Code.wp_only (R := fun a8 w8 => a8.tmps.size = 76 ∧ a8.defers = [] ∧ At a8 4 (.int .i64 tt) ∧ w8 = w4) ?_ ?_)
   · obtain ⟨T, d⟩ := a4
     refine wp_region_lit ?_
     with_reducible refine st ?_
     refine USet.len rfl HHU.out rfl rfl Tryz.underlying207 (At.eval (by (repeat (first | with_reducible exact At.self | with_reducible apply At.ne)); all_goals first | decide | with_reducible assumption) (by have := hsz4; simp at this ⊢; omega)) ?_
     simp only [Act.put]
     iterate 2 with_reducible refine st ?_
     refine USet.len rfl HHL.out rfl rfl Tryz.underlying207 (At.eval (by (repeat (first | with_reducible exact At.self | with_reducible apply At.ne)); all_goals first | decide | with_reducible assumption) (by have := hsz4; simp at this ⊢; omega)) ?_
     simp only [Act.put]
     iterate 2 with_reducible refine st ?_
     refine wpList_nil ⟨rfl, ?_, hd4, ?_, rfl⟩
     · have := hsz4; simp at this ⊢; omega
     · exact At.self
   rintro a8 w8 ⟨hsz8, hd8, k4, rfl⟩
   refine wp_ret ?_
   repeat (first | with_reducible apply inbody_ret | with_reducible apply then_ret)
   refine post_tmp (t := 4) rfl k4 (by rw [hsz8]; decide) hd8 ?_
   exact ⟨by rw [HTT.out], HKF.out⟩
end Go.Proofs.YtpblcjipmoblnaaGreatDoor
namespace Go.Proofs.YtpblcjipmoblnaaGreatDoor
open Go.RowKit Go.IntWalk Go.Shelf Ck
attribute [local go_sem] Oper.semAt_some
abbrev zT : Value := .agg #[.int .u64 0, .bool false, .bool false]
def devF (P : Policy) (l : List (Fin P.devices.length)) : ByteArray → Value := lastF (fun i => P.devices[i].name) (fun i => .agg #[.int .u64 (P.devices[i].size : Nat), .bool false, .bool false]) (fun _ => zT) l
def devP (P : Policy) (l : List (Fin P.devices.length)) : ByteArray → Bool := lastP (fun i => P.devices[i].name) (fun _ => false) l
def regF (P : Policy) (l : List (Fin P.regions.length)) : ByteArray → Value := lastF (fun i => P.regions[i].name) (fun i => .agg #[.int .u64 (P.regions[i].size : Nat), .bool P.regions[i].big, .bool P.regions[i].wx]) (devF P (List.finRange _)) l
def regP (P : Policy) (l : List (Fin P.regions.length)) : ByteArray → Bool := lastP (fun i => P.regions[i].name) (devP P (List.finRange _)) l
theorem devF_all (P : Policy) (s : ByteArray) : devF P (List.finRange _) s = match P.devices.find? (fun x => decide (x.name = s)) with | some x => .agg #[.int .u64 (x.size : Nat), .bool false, .bool false] | none => zT := by
 unfold devF
 rw [lastF_find, find_fin P.devices]
 cases (List.finRange P.devices.length).find? fun i => decide (P.devices[i].name = s) <;> rfl
theorem devP_all (P : Policy) (s : ByteArray) : devP P (List.finRange _) s = (P.devices.find? (fun x => decide (x.name = s))).isSome := by
 unfold devP
 rw [lastP_find, find_fin P.devices]
 cases (List.finRange P.devices.length).find? fun i => decide (P.devices[i].name = s) <;> rfl
theorem regF_all (P : Policy) (s : ByteArray) : regF P (List.finRange _) s = encT (thing0 P s) := by
 unfold regF thing0 thing
 rw [lastF_find, find_fin P.regions, devF_all]
 cases (List.finRange P.regions.length).find? fun i => decide (P.regions[i].name = s) with
 | some i => rfl
 | none =>
  simp only [Option.map_none]
  cases P.devices.find? fun x => decide (x.name = s) <;> rfl
theorem regP_all (P : Policy) (s : ByteArray) : regP P (List.finRange _) s = (thing P s).isSome := by
 unfold regP thing
 rw [lastP_find, find_fin P.regions, devP_all]
 cases (List.finRange P.regions.length).find? fun i => decide (P.regions[i].name = s) with
 | some i => rfl
 | none =>
  simp only [Option.map_none]
  cases P.devices.find? fun x => decide (x.name = s) <;> rfl
theorem things_any : ThingsSpec := by
 intro B w v P hp hB
 obtain ⟨A_rams, c_rams, hv_rams, hc_rams, hn_rams, hl_rams⟩ := hp.rams
 obtain ⟨A_devices, c_devices, hv_devices, hc_devices, hn_devices, hl_devices⟩ := hp.devices
 obtain ⟨A_regions, c_regions, hv_regions, hc_regions, hn_regions, hl_regions⟩ := hp.regions
 obtain ⟨A_subjects, c_subjects, hv_subjects, hc_subjects, hn_subjects, hl_subjects⟩ := hp.subjects
 obtain ⟨A_channels, c_channels, hv_channels, hc_channels, hn_channels, hl_channels⟩ := hp.channels
 obtain ⟨A_irqs, c_irqs, hv_irqs, hc_irqs, hn_irqs, hl_irqs⟩ := hp.irqs
 obtain ⟨A_queues, c_queues, hv_queues, hc_queues, hn_queues, hl_queues⟩ := hp.queues
 obtain ⟨A_plans, c_plans, hv_plans, hc_plans, hn_plans, hl_plans⟩ := hp.plans
 obtain ⟨A_masters, c_masters, hv_masters, hc_masters, hn_masters, hl_masters⟩ := hp.masters
 obtain ⟨A_starts, c_starts, hv_starts, hc_starts, hn_starts, hl_starts⟩ := hp.starts
 obtain ⟨A_monitors, c_monitors, hv_monitors, hc_monitors, hn_monitors, hl_monitors⟩ := hp.monitors
 obtain ⟨A_forbids, c_forbids, hv_forbids, hc_forbids, hn_forbids, hl_forbids⟩ := hp.forbids
 have e0 : (v.cells P).toArray = #[.int .i64 P.pos, .string P.name, .slice A_rams P.rams.length c_rams, .slice A_devices P.devices.length c_devices, .slice A_regions P.regions.length c_regions, .slice A_subjects P.subjects.length c_subjects, .slice A_channels P.channels.length c_channels, .slice A_irqs P.irqs.length c_irqs, .slice A_queues P.queues.length c_queues, .slice A_plans P.plans.length c_plans, .slice A_masters P.masters.length c_masters, .slice A_starts P.starts.length c_starts, .slice A_monitors P.monitors.length c_monitors, .slice A_forbids P.forbids.length c_forbids] := by
  rw [← hv_rams, ← hv_devices, ← hv_regions, ← hv_subjects, ← hv_channels, ← hv_irqs, ← hv_queues, ← hv_plans, ← hv_masters, ← hv_starts, ← hv_monitors, ← hv_forbids]
  rfl
 rw [e0]
 unfold top at hn_devices hn_regions
 have HLD := Lib.hid hl_devices
 have HLR := Lib.hid hl_regions
 clear e0 hp hv_rams hv_devices hv_regions hv_subjects hv_channels hv_irqs hv_queues hv_plans hv_masters hv_starts hv_monitors hv_forbids hl_rams hl_devices hl_regions hl_subjects hl_channels hl_irqs hl_queues hl_plans hl_masters hl_starts hl_monitors hl_forbids hc_rams hc_subjects hc_channels hc_irqs hc_queues hc_plans hc_masters hc_starts hc_monitors hc_forbids hn_rams hn_subjects hn_channels hn_irqs hn_queues hn_plans hn_masters hn_starts hn_monitors hn_forbids
 refine (callsIn_wide (n := 9)).1 ?_
 refine callsIn_of_wp_marks Tryz.func58 rfl trivial ?_
 simp only [Tryz.ntmps58, List.size_toArray, List.length_cons, List.length_nil, Nat.reduceAdd, Nat.reduceSub, Array.replicate_succ, Array.replicate_zero, List.push_toArray, List.append_toArray, List.nil_append, List.cons_append]
 have hmm := @run_makeMap Tryz.prog
 gi_wp2
 refine ⟨trivial, ?_⟩
 refine (backward110_in Fence.wide 8 trivial rfl _ _ _ _).mono ?_
 rintro e w' ⟨rfl, rfl⟩
 gi_wp2
 obtain ⟨W0, hW0⟩ : ∃ W0, W0 = (((w.alloc (.cells #[.int .i64 P.pos, .string P.name, .slice A_rams P.rams.length c_rams, .slice A_devices P.devices.length c_devices, .slice A_regions P.regions.length c_regions, .slice A_subjects P.subjects.length c_subjects, .slice A_channels P.channels.length c_channels, .slice A_irqs P.irqs.length c_irqs, .slice A_queues P.queues.length c_queues, .slice A_plans P.plans.length c_plans, .slice A_masters P.masters.length c_masters, .slice A_starts P.starts.length c_starts, .slice A_monitors P.monitors.length c_monitors, .slice A_forbids P.forbids.length c_forbids] 34)).alloc (.map #[] 0)).alloc (.cells #[.map (some (w.heap.size + 1))] 121)).alloc (.cells #[.slice A_devices P.devices.length c_devices] 24) := ⟨_, rfl⟩
 have hf := four_allocs w (.cells #[.int .i64 P.pos, .string P.name, .slice A_rams P.rams.length c_rams, .slice A_devices P.devices.length c_devices, .slice A_regions P.regions.length c_regions, .slice A_subjects P.subjects.length c_subjects, .slice A_channels P.channels.length c_channels, .slice A_irqs P.irqs.length c_irqs, .slice A_queues P.queues.length c_queues, .slice A_plans P.plans.length c_plans, .slice A_masters P.masters.length c_masters, .slice A_starts P.starts.length c_starts, .slice A_monitors P.monitors.length c_monitors, .slice A_forbids P.forbids.length c_forbids] 34) (.map #[] 0) (.cells #[.map (some (w.heap.size + 1))] 121) (.cells #[.slice A_devices P.devices.length c_devices] 24)
 rw [← hW0] at hf ⊢
 obtain ⟨s0, b0, m0, b2, b3, hb⟩ := hf
 clear hW0
 obtain ⟨sf, hsf, hphi⟩ := list_rows (σ := Option Addr × Nat) (fun (x : Ck.Device) s => [.int .i64 x.pos, .string x.name, .int .u64 x.at_, .int .u64 x.size, .slice s.1 x.maps.length s.2]) (fun x _ => Short x.name) (fun b o x hx => by
  obtain ⟨u, hc, ⟨Am, cm, rfl, _⟩, _, _, _, hs⟩ := hx
  exact ⟨(Am, cm), hc, hs⟩) HLD.out
 obtain ⟨vs, hvs⟩ : ∃ vs : Nat → Nat → Value, vs = fun j c => if h : j < P.devices.length then ([.int .i64 P.devices[j].pos, .string P.devices[j].name, .int .u64 P.devices[j].at_, .int .u64 P.devices[j].size, .slice (sf j).1 P.devices[j].maps.length (sf j).2] : List Value).getD c undef else undef := ⟨_, rfl⟩
 have hA : 0 < P.devices.length → ∃ b off, A_devices = some ⟨b, off, none⟩ ∧ b < w.heap.size + 4 ∧ b ≠ w.heap.size + 1 ∧ ∀ j c, j < P.devices.length → c < 5 → W0.cell? ⟨b, off + j * 5 + c, none⟩ = some (vs j c) := fun hpos => by
  obtain ⟨b, off, h1, h2, h3⟩ := hsf hpos
  refine ⟨b, off, h1, by omega, by omega, fun j c hj hc => ?_⟩
  rw [hvs]
  simp only [dif_pos hj]
  refine (h3 j hj).below hb (by omega) c _ ?_
  match c, hc with
  | 0, _ => rfl
  | 1, _ => rfl
  | 2, _ => rfl
  | 3, _ => rfl
  | 4, _ => rfl
 have hst := back134_stops Fence.wide 8 trivial rfl (by decide) (w.heap.size + 1 + 1 + 1) (w.heap.size + 1) (w.heap.size + 4) P.devices.length c_devices A_devices vs (by omega) hc_devices ⟨by omega, by omega⟩ W0 (by omega) (cell_of_one b3) hA
 rw [show (fun x : Fin P.devices.length => (#[.int .i64 (x.val : Int), .agg #[vs x.val 0, vs x.val 1, vs x.val 2, vs x.val 3, vs x.val 4]] : Array Value)) = fun x => #[.int .i64 (x.val : Int), .agg #[.int .i64 P.devices[x.val].pos, .string P.devices[x.val].name, .int .u64 P.devices[x.val].at_, .int .u64 P.devices[x.val].size, .slice (sf x.val).1 P.devices[x.val].maps.length (sf x.val).2]] from by
  funext x
  rw [hvs]
  simp only [dif_pos x.isLt]
  rfl] at hst
 refine wpIn_rangeFunc_ownH (F := Fence.wide) (n := 9) rfl (by decide) (gf := 134) (lb := #[.pointer (some ⟨w.heap.size + 1 + 1 + 1, 0, none⟩)]) rfl trivial (enters_of Tryz.func134 (by kernel_rfl) rfl)
  hst kpM_t (kpM_b (by omega)) (Below.refl _ _) (fun _ => rfl)
  (fun pre W => (SMap W (w.heap.size + 1) pre.length zT (devF P pre.reverse) (devP P pre.reverse) ∧ W.heap[w.heap.size + 1 + 1]? = some (.cells #[.map (some (w.heap.size + 1))] 121 (0, 0)) ∧ W.heap[w.heap.size]? = some (.cells #[.int .i64 P.pos, .string P.name, .slice A_rams P.rams.length c_rams, .slice A_devices P.devices.length c_devices, .slice A_regions P.regions.length c_regions, .slice A_subjects P.subjects.length c_subjects, .slice A_channels P.channels.length c_channels, .slice A_irqs P.irqs.length c_irqs, .slice A_queues P.queues.length c_queues, .slice A_plans P.plans.length c_plans, .slice A_masters P.masters.length c_masters, .slice A_starts P.starts.length c_starts, .slice A_monitors P.monitors.length c_monitors, .slice A_forbids P.forbids.length c_forbids] 34 (0, 0))) ∧ Below w.heap.size w W)
  (fun _ _ _ => False)
  (OwnFrom.and (OwnFrom.and (fun s A B row hs hg hr => SMap.own hs hg (fun r e => (hr r e).1) (by omega)) (OwnFrom.and (Own.from (ownI_cells _ _ _ _) _) (Own.from (ownI_cells _ _ _ _) _))) (ownFrom_below (Nat.le_refl _) (by omega)))
  (fun _ _ _ _ _ hs _ _ => hs)
  ⟨⟨SMap.new _ _ _ m0, b2, b0⟩, hb⟩
  (fun x (a' : Act) (W : World) => ∃ Bx : Nat, W.heap[Bx]? = some (Obj.cells #[.int .i64 P.devices[x.val].pos, .string P.devices[x.val].name, .int .u64 P.devices[x.val].at_, .int .u64 P.devices[x.val].size, .slice (sf x.val).1 P.devices[x.val].maps.length (sf x.val).2] 45 (0, 0)) ∧ a'.tmps.size = 36 ∧ At a' 3 (.pointer (some ⟨w.heap.size + 1 + 1, 0, none⟩)) ∧ At a' 5 (.pointer (some ⟨Bx, 0, none⟩)))
  (fun x a' s A B row hs hg hr => by
    obtain ⟨Bx, h2, h3⟩ := hs
    exact ⟨Bx, heap_own h2 hg (fun r e => (hr r e).2), h3⟩)
  ?assign ?body ?done ?stop
 case assign =>
  rintro l pre x W K ⟨⟨hS, h2, h0⟩, hB⟩ hK
  have hlt2 := heap_lt h2
  clear hst hA hphi hsf hvs HLD HLR
  gi_wp2
  exact hK _ _ ((KeepsOthers.alloc _ _).from _) ((Keep.refl _ _).alloc _) ⟨⟨hS.keep (((Keep.refl (fun _ => False) _).alloc _)) (fun h => h), (Below.heap_alloc _ _ _ hlt2).trans h2, (Below.heap_alloc _ _ _ (heap_lt h0)).trans h0⟩, hB.alloc hB.size _⟩ ⟨W.heap.size, heap_alloc_new _ _, rfl, fun _ => rfl, fun _ => rfl⟩
 case body =>
  rintro l pre x a' W hl _ ⟨⟨hS, h2, h0⟩, hB⟩ ⟨Bx, hX, hsz, k3, k5⟩ hlt
  have q1 : W.cell? ⟨Bx, 1, none⟩ = some (.string P.devices[x.val].name) := by rw [cell_of_row _ _ _ _ _ _ hX]; rfl
  have q3 : W.cell? ⟨Bx, 3, none⟩ = some (.int .u64 P.devices[x.val].size) := by rw [cell_of_row _ _ _ _ _ _ hX]; rfl
  have qm := cell_of_one h2
  have hsh := hphi x.val x.isLt
  have HS := Lib.hid hS
  have H2 := Lib.hid h2
  have H0 := Lib.hid h0
  have HB := Lib.hid hB
  have HSH : Hid (Short P.devices[x.val].name) := Lib.hid hsh
  clear hS h2 h0 hB hX hst hA hphi hsf hvs HLD HLR hsh
  obtain ⟨T, d⟩ := a'
  refine wpIn_block (wpIn_region_lit ?_)
  iterate 6
   with_reducible refine wpListIn_step (fun K hK => ?_)
   go_simp
   with_reducible refine hK _ _ ?_
   clear hK K
  refine SMap.updateIn rfl HS.out (by unfold maxLen; omega) rfl rfl Tryz.underlying121 (At.eval (by exact aq) (by have := hsz; simp at this ⊢; omega)) (At.eval (by exact aq) (by have := hsz; simp at this ⊢; omega)) (Nat.le_trans HSH.out (by unfold maxLen; omega)) (At.eval (by exact aq) (by have := hsz; simp at this ⊢; omega)) ?_
  intro w2 hS2 hk2
  refine wpListIn_nil ?_
  have e1 : (pre ++ [x]).reverse = x :: pre.reverse := by simp
  have e2 : (pre ++ [x]).length = pre.length + 1 := by simp
  refine ⟨keepsFrom_of hk2 (by omega), hk2.mono fun _ _ h => .inl h, ⟨?_, (hk2.block _ (heap_lt H2.out) (by show _ ≠ _; omega)).trans H2.out, (hk2.block _ (heap_lt H0.out) (by show _ ≠ _; omega)).trans H0.out⟩, HB.out.trans (hk2.below HB.out.size fun i hi e => by omega)⟩
  rw [e1, e2]
  exact hS2
 case done =>
  rintro D ys W hD rfl ⟨⟨hS, h2, h0⟩, hB⟩ hK
  rw [backTo_all, backTo_len (Nat.le_refl _)] at hS
  have q4 : W.cell? ⟨w.heap.size, 4, none⟩ = some (.slice A_regions P.regions.length c_regions) := by rw [cell_of_row _ _ _ _ _ _ h0]; rfl
  have HS := Lib.hid hS
  have H2 := Lib.hid h2
  have H0 := Lib.hid h0
  have HB := Lib.hid hB
  have HKD := Lib.hid hK
  have hDl := heap_lt hK
  clear hS h2 h0 hB hst hA hphi hsf hvs HLD hK
  gi_wp2
  refine ⟨trivial, ?_⟩
  refine (backward111_in Fence.wide 8 trivial rfl _ _ _ _).mono ?_
  rintro e w' ⟨rfl, rfl⟩
  gi_wp2
  have HKF : Hid (KeepsFrom 0 W W) := Lib.hid (KeepsFrom.refl _ _)
  obtain ⟨W1, hW1⟩ : ∃ W1, W1 = W.alloc (.cells #[.slice A_regions P.regions.length c_regions] 25) := ⟨_, rfl⟩
  have s1 : W1.heap.size = W.heap.size + 1 := by rw [hW1]; simp
  have hbx : W1.heap[W.heap.size]? = some (.cells #[.slice A_regions P.regions.length c_regions] 25 (0, 0)) := by rw [hW1]; exact heap_alloc_new _ _
  have hk1 : Keep (fun _ => False) W W1 := by rw [hW1]; exact (Keep.refl _ _).alloc _
  rw [← hW1]
  clear hW1 HKF
  have hB1 : Below w.heap.size w W1 := HB.out.trans (hk1.below HB.out.size fun _ _ h => h)
  have hszW := HB.out.size
  have hS1 := HS.out.keep hk1 (fun h => h)
  have h21 := (hk1.block _ (heap_lt H2.out) (fun h => h)).trans H2.out
  have hD1 := (hk1.block _ hDl (fun h => h)).trans HKD.out
  have hmb1 := HS.out.lt
  have h2l := heap_lt H2.out
  clear hk1
  obtain ⟨sf, hsf, hphi⟩ := list_rows (σ := Unit) (fun (x : Ck.Region) _ => Ck.Region.cells x) (fun x _ => Short x.name) (fun b o x hx => ⟨(), hx.1, hx.2.2.2.2.2.1⟩) HLR.out
  obtain ⟨vs, hvs⟩ : ∃ vs : Nat → Nat → Value, vs = fun j c => if h : j < P.regions.length then (Ck.Region.cells P.regions[j]).getD c undef else undef := ⟨_, rfl⟩
  have hA : 0 < P.regions.length → ∃ b off, A_regions = some ⟨b, off, none⟩ ∧ b < W.heap.size + 1 ∧ b ≠ w.heap.size + 1 ∧ ∀ j c, j < P.regions.length → c < 10 → W1.cell? ⟨b, off + j * 10 + c, none⟩ = some (vs j c) := fun hpos => by
   obtain ⟨b, off, h1, h2, h3⟩ := hsf hpos
   refine ⟨b, off, h1, by omega, by omega, fun j c hj hc => ?_⟩
   rw [hvs]
   simp only [dif_pos hj]
   refine (h3 j hj).below hB1 (by omega) c _ ?_
   match c, hc with
   | 0, _ => rfl
   | 1, _ => rfl
   | 2, _ => rfl
   | 3, _ => rfl
   | 4, _ => rfl
   | 5, _ => rfl
   | 6, _ => rfl
   | 7, _ => rfl
   | 8, _ => rfl
   | 9, _ => rfl
  have hst := back135_stops Fence.wide 8 trivial rfl (by decide) W.heap.size (w.heap.size + 1) (W.heap.size + 1) P.regions.length c_regions A_regions vs (by omega) hc_regions ⟨by omega, by omega⟩ W1 (by omega) (cell_of_one hbx) hA
  rw [show (fun x : Fin P.regions.length => (#[.int .i64 (x.val : Int), .agg #[vs x.val 0, vs x.val 1, vs x.val 2, vs x.val 3, vs x.val 4, vs x.val 5, vs x.val 6, vs x.val 7, vs x.val 8, vs x.val 9]] : Array Value)) = fun x => #[.int .i64 (x.val : Int), .agg #[.int .i64 P.regions[x.val].pos, .string P.regions[x.val].name, .int .u64 P.regions[x.val].size, .bool P.regions[x.val].fixed, .int .u64 P.regions[x.val].at_, .bool P.regions[x.val].big, .bool P.regions[x.val].wx, .int .u64 P.regions[x.val].fill, .bool P.regions[x.val].texted, .string P.regions[x.val].text]] from by
   funext x
   rw [hvs]
   simp only [dif_pos x.isLt]
   rfl] at hst
  refine wpIn_rangeFunc_ownH (F := Fence.wide) (n := 9) rfl (by decide) (gf := 135) (lb := #[.pointer (some ⟨W.heap.size, 0, none⟩)]) rfl trivial (enters_of Tryz.func135 (by kernel_rfl) rfl)
   hst kpM_t (kpM_b (by omega)) (Below.refl _ _) (fun _ => rfl)
   (fun pre W => (SMap W (w.heap.size + 1) (P.devices.length + pre.length) zT (regF P pre.reverse) (regP P pre.reverse) ∧ W.heap[w.heap.size + 1 + 1]? = some (.cells #[.map (some (w.heap.size + 1))] 121 (0, 0)) ∧ W.heap[D]? = some (.deferred (some []))) ∧ Below w.heap.size w W)
   (fun _ _ _ => False)
   (OwnFrom.and (OwnFrom.and (fun s A B row hs hg hr => SMap.own hs hg (fun r e => (hr r e).1) (by omega)) (OwnFrom.and (Own.from (ownI_cells _ _ _ _) _) (fun s A B row hs hg hr => (hg.block D (heap_lt hs) (fun e => by have := (hr D e.symm).1; omega)).trans hs))) (ownFrom_below (Nat.le_refl _) (by omega)))
   (fun _ _ _ _ _ hs _ _ => hs)
   ⟨⟨hS1, h21, hD1⟩, hB1⟩
   (fun x (a' : Act) (W : World) => ∃ Bx : Nat, W.heap[Bx]? = some (Obj.cells #[.int .i64 P.regions[x.val].pos, .string P.regions[x.val].name, .int .u64 P.regions[x.val].size, .bool P.regions[x.val].fixed, .int .u64 P.regions[x.val].at_, .bool P.regions[x.val].big, .bool P.regions[x.val].wx, .int .u64 P.regions[x.val].fill, .bool P.regions[x.val].texted, .string P.regions[x.val].text] 48 (0, 0)) ∧ a'.tmps.size = 36 ∧ At a' 3 (.pointer (some ⟨w.heap.size + 1 + 1, 0, none⟩)) ∧ At a' 7 (.pointer (some ⟨Bx, 0, none⟩)))
   (fun x a' s A B row hs hg hr => by
     obtain ⟨Bx, h2, h3⟩ := hs
     exact ⟨Bx, heap_own h2 hg (fun r e => (hr r e).2), h3⟩)
   ?assign2 ?body2 ?done2 ?stop2
  case assign2 =>
   rintro l pre x W K ⟨⟨hS, h2, h0⟩, hB⟩ hK
   have hlt2 := heap_lt h2
   clear hst hA hphi hsf hvs HLR HS H2 H0 HB HKD
   gi_wp2
   exact hK _ _ ((KeepsOthers.alloc _ _).from _) ((Keep.refl _ _).alloc _) ⟨⟨hS.keep (((Keep.refl (fun _ => False) _).alloc _)) (fun h => h), (Below.heap_alloc _ _ _ hlt2).trans h2, (Below.heap_alloc _ _ _ (heap_lt h0)).trans h0⟩, hB.alloc hB.size _⟩ ⟨W.heap.size, heap_alloc_new _ _, rfl, fun _ => rfl, fun _ => rfl⟩
  case body2 =>
   rintro l pre x a' W hl _ ⟨⟨hS, h2, h0⟩, hB⟩ ⟨Bx, hX, hsz, k3, k7⟩ hlt
   have q1 : W.cell? ⟨Bx, 1, none⟩ = some (.string P.regions[x.val].name) := by rw [cell_of_row _ _ _ _ _ _ hX]; rfl
   have q2 : W.cell? ⟨Bx, 2, none⟩ = some (.int .u64 P.regions[x.val].size) := by rw [cell_of_row _ _ _ _ _ _ hX]; rfl
   have q5 : W.cell? ⟨Bx, 5, none⟩ = some (.bool P.regions[x.val].big) := by rw [cell_of_row _ _ _ _ _ _ hX]; rfl
   have q6 : W.cell? ⟨Bx, 6, none⟩ = some (.bool P.regions[x.val].wx) := by rw [cell_of_row _ _ _ _ _ _ hX]; rfl
   have qm := cell_of_one h2
   have hsh := hphi x.val x.isLt
   have HS2 := Lib.hid hS
   have H22 := Lib.hid h2
   have H02 := Lib.hid h0
   have HB2 := Lib.hid hB
   have HSH : Hid (Short P.regions[x.val].name) := Lib.hid hsh
   clear hS h2 h0 hB hX hst hA hphi hsf hvs HLR hsh HS H2 H0 HB HKD
   obtain ⟨T, d⟩ := a'
   refine wpIn_block (wpIn_region_lit ?_)
   iterate 10
    with_reducible refine wpListIn_step (fun K hK => ?_)
    go_simp
    with_reducible refine hK _ _ ?_
    clear hK K
   refine SMap.updateIn rfl HS2.out (by unfold maxLen; omega) rfl rfl Tryz.underlying121 (At.eval (by exact aq) (by have := hsz; simp at this ⊢; omega)) (At.eval (by exact aq) (by have := hsz; simp at this ⊢; omega)) (Nat.le_trans HSH.out (by unfold maxLen; omega)) (At.eval (by exact aq) (by have := hsz; simp at this ⊢; omega)) ?_
   intro w2 hS2 hk2
   refine wpListIn_nil ?_
   have e1 : (pre ++ [x]).reverse = x :: pre.reverse := by simp
   have e2 : P.devices.length + (pre ++ [x]).length = P.devices.length + pre.length + 1 := by simp; omega
   refine ⟨keepsFrom_of hk2 (by omega), hk2.mono fun _ _ h => .inl h, ⟨?_, (hk2.block _ (heap_lt H22.out) (by show _ ≠ _; omega)).trans H22.out, (hk2.block _ (heap_lt H02.out) (by show _ ≠ _; omega)).trans H02.out⟩, HB2.out.trans (hk2.below HB2.out.size fun i hi e => by omega)⟩
   rw [e1, e2]
   exact hS2
  case done2 =>
   rintro D2 ys W2 hD2 rfl ⟨⟨hS, h2, hDD⟩, hB⟩ hK
   rw [backTo_all] at hS
   have qm := cell_of_one h2
   have HS2 := Lib.hid hS
   have HB2 := Lib.hid hB
   have HDD := Lib.hid hDD
   have HK2 := Lib.hid hK
   clear hS h2 hDD hB hK hst hA hphi hsf hvs HLR HS H2 H0 HB HKD
   gi_wp2
   have e2 : D2 ≠ D := by omega
   have hDD2 : (W2.putObj D2 (.deferred none)).heap[D]? = some (.deferred (some [])) := ((grownBy_putObj' W2 D2 (.deferred none)).block D (heap_lt HDD.out) (fun e => e2 (by cases e; rfl))).trans HDD.out
   refine ⟨by simp, .inl ⟨_, _, rfl, run_takeDeferred HK2.out, ?_⟩⟩
   refine ⟨by simp, .inl ⟨_, _, rfl, run_takeDeferred hDD2, ?_⟩⟩
   have hBe : Below w.heap.size w ((W2.putObj D2 (.deferred none)).putObj D (.deferred none)) := (HB2.out.trans (belowK_b (w := w) (Nat.le_refl _) W2 D2 _ (.deferred none) (by omega) HK2.out rfl rfl)).trans (belowK_b (w := w) (Nat.le_refl _) _ D _ (.deferred none) (by omega) hDD2 rfl rfl)
   have hSe := (HS2.out.own (N := w.heap.size + 2) (grownBy_putObj' W2 D2 (.deferred none)) (fun r e => by cases e; omega) (by omega)).own (N := w.heap.size + 2) (grownBy_putObj' _ D (.deferred none)) (fun r e => by cases e; omega) (by omega)
   have f1 : regF P (List.finRange _) = fun s => encT (thing0 P s) := funext fun s => regF_all P s
   have f2 : regP P (List.finRange _) = fun s => (thing P s).isSome := funext fun s => regP_all P s
   rw [f1, f2] at hSe
   exact ⟨_, results_tmp rfl _ _ _, w.heap.size + 1, rfl, by omega, hSe.lt, ⟨_, hSe⟩, Keep.of_below hBe fun i h1 h2 => by omega⟩
  case stop2 =>
   rintro D c pre W _ _ h _
   exact h.elim
 case stop =>
  rintro D c pre W _ _ h _
  exact h.elim
end Go.Proofs.YtpblcjipmoblnaaGreatDoor
