/- Twice Smap ThingD Scan Scan2 Uset NamesB -/
import Derived.Test.YtpblcjipmoblnaaGreatDoorFor2
import Derived.Test.YtpblcjipmoblnaaGreatDoorNamesA
import Derived.Test.YtpblcjipmoblnaaGreatDoorSmall
import Derived.Maps.Views
set_option maxRecDepth 100000
set_option maxHeartbeats 4000000
set_option linter.unusedVariables false
set_option linter.unusedSimpArgs false
namespace Go.Proofs.YtpblcjipmoblnaaGreatDoor
open Go.RowKit Go.IntWalk Ck
def NamedSpec (B : Nat) (named : ByteArray → Bool) : Prop := ∀ (w : World) (s : ByteArray), Laid B w → B ≤ w.heap.size → Short s → Calls Tryz.prog 121 #[.string s] w fun e w' => e = .returned (.bool (named s)) ∧ Keep (fun _ => False) w w'
def toldOf (named : ByteArray → Bool) (s : ByteArray) (l : List Int) : List Wr := l.flatMap (fun at_ => say (named s) at_ 0) ++ pairs (fun a b => [(max a b, 1)]) l
theorem mem_toldOf_snoc {named : ByteArray → Bool} {s : ByteArray} {l : List Int} {x : Int} {p : Wr} : p ∈ toldOf named s (l ++ [x]) ↔ p ∈ toldOf named s l ∨ p ∈ say (named s) x 0 ∨ p ∈ l.flatMap (fun y => [(max x y, 1)]) := by
 simp only [toldOf, List.mem_append, mem_pairs_snoc, List.flatMap_append, List.flatMap_cons, List.flatMap_nil, List.append_nil, List.mem_flatMap]
 constructor
 · rintro ((h | h) | (h | h))
   · exact .inl (.inl h)
   · exact .inr (.inl h)
   · exact .inl (.inr h)
   · exact .inr (.inr h)
 · rintro ((h | h) | (h | h))
   · exact .inl (.inl h)
   · exact .inr (.inl h)
   · exact .inl (.inr h)
   · exact .inr (.inr h)
theorem places_cons (x : Nm) (t : List Nm) (s : ByteArray) : places (x :: t) s = if x.1 = s then x.2 :: places t s else places t s := by
 unfold places
 by_cases h : x.1 = s <;> simp [h]
theorem mem_places {t : List Nm} {s : ByteArray} {q : Int} : q ∈ places t s ↔ (s, q) ∈ t := by
 unfold places
 simp only [List.mem_map, List.mem_filter, decide_eq_true_eq]
 constructor
 · rintro ⟨⟨a, b⟩, ⟨h1, h2⟩, h3⟩
   simp only at h2 h3
   subst h2; subst h3; exact h1
 · intro h
   exact ⟨(s, q), ⟨h, rfl⟩, rfl⟩
theorem mem_once {named : ByteArray → Bool} {p : Wr} : ∀ {f : List Nm}, p ∈ once named f ↔ ∃ s, p ∈ toldOf named s (places f s)
 | [] => by simp [once, toldOf, places, pairs]
 | x :: t => by
  have ih := mem_once (named := named) (p := p) (f := t)
  have h1 : p ∈ once named (x :: t) ↔ p ∈ say (named x.1) x.2 0 ∨ (∃ q, (x.1, q) ∈ t ∧ p = (max q x.2, 1)) ∨ p ∈ once named t := by
   simp only [once, List.flatMap_cons, pairs, List.mem_append, List.mem_flatMap]
   constructor
   · rintro ((h | h) | (⟨y, hy, h⟩ | h))
     · exact .inl h
     · exact .inr (.inr (.inl h))
     · by_cases e : y.1 = x.1
       · simp only [e, if_true, List.mem_singleton] at h
         exact .inr (.inl ⟨y.2, by rw [← e]; exact hy, h⟩)
       · simp [e] at h
     · exact .inr (.inr (.inr h))
   · rintro (h | ⟨q, hq, h⟩ | (h | h))
     · exact .inl (.inl h)
     · exact .inr (.inl ⟨(x.1, q), hq, by simp [h]⟩)
     · exact .inl (.inr h)
     · exact .inr (.inr h)
  have h2 : (∃ s, p ∈ toldOf named s (places (x :: t) s)) ↔ p ∈ say (named x.1) x.2 0 ∨ (∃ q, (x.1, q) ∈ t ∧ p = (max q x.2, 1)) ∨ ∃ s, p ∈ toldOf named s (places t s) := by
   constructor
   · rintro ⟨s, h⟩
     rw [places_cons] at h
     by_cases e : x.1 = s
     · rw [if_pos e] at h
       simp only [toldOf, List.flatMap_cons, pairs, List.mem_append, List.mem_flatMap] at h
       subst e
       rcases h with (h | h) | (⟨y, hy, h⟩ | h)
       · exact .inl h
       · exact .inr (.inr ⟨x.1, by simp only [toldOf, List.mem_append, List.mem_flatMap]; exact .inl h⟩)
       · exact .inr (.inl ⟨y, mem_places.1 hy, by simpa using h⟩)
       · exact .inr (.inr ⟨x.1, by simp only [toldOf, List.mem_append]; exact .inr h⟩)
     · rw [if_neg e] at h
       exact .inr (.inr ⟨s, h⟩)
   · have up : ∀ s, p ∈ toldOf named s (places t s) → p ∈ toldOf named s (places (x :: t) s) := fun s h => by
      rw [places_cons]
      by_cases e : x.1 = s
      · rw [if_pos e]
        simp only [toldOf, List.flatMap_cons, pairs, List.mem_append] at h ⊢
        rcases h with h | h
        · exact .inl (.inr h)
        · exact .inr (.inr h)
      · rw [if_neg e]; exact h
     rintro (h | ⟨q, hq, h⟩ | ⟨s, h⟩)
     · exact ⟨x.1, by rw [places_cons, if_pos rfl]; simp only [toldOf, List.flatMap_cons, List.mem_append]; exact .inl (.inl h)⟩
     · exact ⟨x.1, by rw [places_cons, if_pos rfl]; simp only [toldOf, pairs, List.mem_append, List.mem_flatMap]; exact .inr (.inl ⟨q, mem_places.2 hq, by simp [h]⟩)⟩
     · exact ⟨s, up s h⟩
  rw [h1, h2, ih]
theorem ranges_keep {w w' : World} {b r n cnt : Nat} {D : DataW Value} {left : Lit → Bool} {pb : Nat} (h : w.ranges Tryz.prog 9 heldR b r n D left cnt) (hk : Keep (fun k => k = pb) w w') (hb : b ≠ pb) (hr : r ≠ pb) : w'.ranges Tryz.prog 9 heldR b r n D left cnt :=
 h.kept (row := some pb) ⟨hk.os, hk.tape, hk.output, hk.size, fun i hi hne => hk.block i hi (fun e => hne (by rw [e]))⟩ (fun e => hb (Option.some.inj e)) (fun e => hr (Option.some.inj e))
theorem twice_in {B : Nat} {w : World} {pb : Nat} {v : PolV} {P : Policy} {L : List Wr} (h : LookAt B w pb v P why1 L) (a : Act) (hsz : a.tmps.size = 44) (h0 : At a 0 (.pointer (some ⟨pb, 0, none⟩)))
 {A : Option Addr} {c N : Nat} {zs : List Int} {x : Int} (h5 : At a 5 (.slice A N c)) (h6 : At a 6 (.int .i64 zs.length)) (h7 : At a 7 (.int .i64 x)) (hNl : zs.length ≤ N) (hNc : N ≤ c) (hnl : zs.length ≤ 4194304)
 (hcell : 0 < zs.length → ∃ g, A = some ⟨g, 0, none⟩ ∧ g < w.heap.size ∧ g ≠ pb ∧ ∀ (i : Nat) (y : Int), zs[i]? = some y → w.cell? ⟨g, i, none⟩ = some (.int .i64 y)) (Q : Exit → Act → World → Prop)
 (hQ : ∀ a' w', Agree (fun i => i == 9 || (decide (29 ≤ i) && decide (i ≤ 42))) a a' → LookAt B w' pb v P why1 (zs.flatMap (fun y => [(max x y, 1)]) ++ L) → Keep (fun k => k = pb) w w' → Q .normal a' w') :
 (codeC Tryz.f71 [1,0,0,1,1,0,1,1,0,0,1,1,0,0,1,1]).wp Tryz.prog Q a w := by
 have hlt := h.lt
 have hzc : zs.length ≤ c := by omega
 conv => arg 2; whnf
 refine wp_seq (Code.wp_only (R := fun a1 w1 => Agree (fun i => i == 29 || i == 30 || i == 31 || i == 32 || i == 33) a a1 ∧ At a1 31 (.slice A zs.length c) ∧ At a1 32 (.int .i64 zs.length) ∧ At a1 33 (.int .i64 0) ∧ w1 = w) ?_ ?_)
 · clear hcell
   obtain ⟨T, d⟩ := a
   refine wp_region_lit ?_
   iterate 5 with_reducible refine st ?_
   with_reducible refine wpList_nil ?_
   refine ⟨rfl, ag, aq, aq, aq, rfl⟩
 rintro a0 w0 ⟨hA0, k_s, k_n, k_i, rfl⟩
 have hsz0 : a0.tmps.size = 44 := hA0.size.trans hsz
 replace h0 := hA0.at_ h0 rfl
 replace h7 := hA0.at_ h7 rfl
 refine wp_range zs.length (fun i => i == 9 || (decide (33 ≤ i) && decide (i ≤ 42))) (fun i => i == 9 || (decide (35 ≤ i) && decide (i ≤ 41))) (fun k _ w' => LookAt B w' pb v P why1 ((zs.take k).flatMap (fun y => [(max x y, 1)]) ++ L) ∧ Keep (fun k => k = pb) w0 w') (by omega) k_i k_n (by decide) rfl
  (by intro j; simp; omega) (by omega) (by decide) (fun k a1 a2 w hA hI => hI) ⟨by simpa using h, Keep.refl _ _⟩ ?_ ?_
 · rintro n a1 wr hlt2 hA k_j ⟨hL, hk⟩
   obtain ⟨g, rfl, hg1, hg2, hgc⟩ := hcell (by omega)
   obtain ⟨y, hy⟩ : ∃ y, zs[n]? = some y := ⟨_, List.getElem?_eq_getElem hlt2⟩
   have q0 : wr.cell? ⟨g, n, none⟩ = some (.int .i64 y) := (hk.cell (p := ⟨g, n, none⟩) hg1 hg2).trans (hgc n y hy)
   have k_0 := hA.at_ h0 rfl
   have k_7 := hA.at_ h7 rfl
   have k_sl := hA.at_ k_s rfl
   have hsz1 : a1.tmps.size = 44 := hA.size.trans hsz0
   have hszw := hk.size
   have hgr : g < wr.heap.size := by omega
   have HY := Lib.hid hy
   have HL := Lib.hid hL
   have HK := Lib.hid hk
   have hnc2 : n ≤ c := by omega
   clear hy hL hk hA hgc hcell
   refine wp_seq (Code.wp_only (R := fun a2 w2 => Agree (fun i => i == 35 || i == 36 || i == 9) a1 a2 ∧ At a2 9 (.int .i64 y) ∧ w2 = wr) ?_ ?_)
   · obtain ⟨T, d⟩ := a1
     refine wp_region_lit ?_
     iterate 3 with_reducible refine st ?_
     with_reducible refine wpList_nil ?_
     refine ⟨rfl, ag, aq, rfl⟩
   rintro a2 w2 ⟨hA2, k_9, rfl⟩
   replace k_0 := hA2.at_ k_0 rfl
   replace k_7 := hA2.at_ k_7 rfl
   have hsz2 := hA2.size.trans hsz1
   refine Code.wp_only (R := fun a3 w3 => Agree (fun i => decide (37 ≤ i) && decide (i ≤ 41)) a2 a3 ∧ LookAt B w3 pb v P why1 ([(max x y, 1)] ++ ((zs.take n).flatMap (fun y => [(max x y, 1)]) ++ L)) ∧ Keep (fun k => k = pb) w2 w3) ?_ ?_
   · clear hA2 k_sl k_j q0
     obtain ⟨T, d⟩ := a2
     refine wp_region_lit ?_
     iterate 4 with_reducible refine st ?_
     with_reducible refine wpList_step (fun K hK => ?_)
     go_simp
     refine (tell_any _ 1 81 HL.out rfl).mono ?_
     rintro e w4 ⟨rfl, hL2, hk2⟩
     with_reducible refine hK _ _ (wpList_nil ?_)
     refine ⟨rfl, ?_, ?_, hk2⟩
     · exact ag
     · refine hL2.congr fun p => ?_
       rw [show (if x < y then y else x) = max x y from by split <;> omega]; exact Iff.rfl
   rintro a3 w3 ⟨hA3, hL3, hk3⟩
   refine ⟨(hA2.mono (by intro j; simp; omega)).trans hA3 (by intro j; simp; omega), hL3.congr fun p => ?_, HK.out.trans hk3 (fun _ _ e => e)⟩
   rw [take_at HY.out, List.flatMap_append, List.flatMap_cons, List.flatMap_nil, List.append_nil]
   simp only [List.mem_append]
   simp only [or_assoc, or_comm, or_left_comm]
 · rintro a' w' hA ⟨hL, hk⟩
   rw [List.take_length] at hL
   exact hQ _ _ ((hA0.mono (by intro j; simp; omega)).trans hA (by intro j; simp; omega)) hL hk
theorem twice_mid {B : Nat} {w : World} {pb : Nat} {v : PolV} {P : Policy} {L : List Wr} {named : ByteArray → Bool} (hN : NamedSpec B named) (h : LookAt B w pb v P why1 L) (a : Act) (hsz : a.tmps.size = 44) (h0 : At a 0 (.pointer (some ⟨pb, 0, none⟩)))
 {A : Option Addr} {c : Nat} {zs : List Int} {s : ByteArray} (hs : Short s) (h4 : At a 4 (.string s)) (h5 : At a 5 (.slice A zs.length c)) (hNc : zs.length ≤ c) (hnl : zs.length ≤ 4194304)
 (hcell : 0 < zs.length → ∃ g, A = some ⟨g, 0, none⟩ ∧ g < w.heap.size ∧ g ≠ pb ∧ ∀ (i : Nat) (y : Int), zs[i]? = some y → w.cell? ⟨g, i, none⟩ = some (.int .i64 y)) (Q : Exit → Act → World → Prop)
 (hQ : ∀ a' w', Agree (fun i => i == 6 || i == 7 || i == 9 || (decide (17 ≤ i) && decide (i ≤ 43))) a a' → LookAt B w' pb v P why1 (toldOf named s zs ++ L) → Keep (fun k => k = pb) w w' → Q .normal a' w') :
 (codeC Tryz.f71 [1,0,0,1,1,0,1]).wp Tryz.prog Q a w := by
 have hlt := h.lt
 have hBp := h.base
 conv => arg 2; whnf
 refine wp_seq (Code.wp_only (R := fun a1 w1 => Agree (fun i => i == 17 || i == 18 || i == 19) a a1 ∧ At a1 17 (.slice A zs.length c) ∧ At a1 18 (.int .i64 zs.length) ∧ At a1 19 (.int .i64 0) ∧ w1 = w) ?_ ?_)
 · clear hcell hN
   obtain ⟨T, d⟩ := a
   refine wp_region_lit ?_
   iterate 3 with_reducible refine st ?_
   with_reducible refine wpList_nil ?_
   refine ⟨rfl, ag, aq, aq, aq, rfl⟩
 rintro a0 w0 ⟨hA0, k_s, k_n, k_i, rfl⟩
 have hsz0 : a0.tmps.size = 44 := hA0.size.trans hsz
 replace h0 := hA0.at_ h0 rfl
 replace h4 := hA0.at_ h4 rfl
 replace h5 := hA0.at_ h5 rfl
 refine wp_range zs.length (fun i => i == 6 || i == 7 || i == 9 || (decide (19 ≤ i) && decide (i ≤ 43))) (fun i => i == 6 || i == 7 || i == 9 || (decide (21 ≤ i) && decide (i ≤ 42))) (fun k _ w' => LookAt B w' pb v P why1 (toldOf named s (zs.take k) ++ L) ∧ Keep (fun k => k = pb) w0 w') (by omega) k_i k_n (by decide) rfl
  (by intro j; simp; omega) (by omega) (by decide) (fun k a1 a2 w hA hI => hI) ⟨by simpa [toldOf, pairs] using h, Keep.refl _ _⟩ ?_ ?_
 · rintro n a1 wr hlt2 hA k_j ⟨hL, hk⟩
   obtain ⟨g, rfl, hg1, hg2, hgc⟩ := hcell (by omega)
   obtain ⟨y, hy⟩ : ∃ y, zs[n]? = some y := ⟨_, List.getElem?_eq_getElem hlt2⟩
   have q0 : wr.cell? ⟨g, n, none⟩ = some (.int .i64 y) := (hk.cell (p := ⟨g, n, none⟩) hg1 hg2).trans (hgc n y hy)
   have k_0 := hA.at_ h0 rfl
   have k_4 := hA.at_ h4 rfl
   have k_5 := hA.at_ h5 rfl
   have k_sl := hA.at_ k_s rfl
   have hsz1 : a1.tmps.size = 44 := hA.size.trans hsz0
   have hszw := hk.size
   have hgr : g < wr.heap.size := by omega
   have HY := Lib.hid hy
   have HL := Lib.hid hL
   have HK := Lib.hid hk
   have HG := Lib.hid hgc
   have hnc2 : n ≤ c := by omega
   clear hy hL hk hA hgc hcell
   refine wp_seq (Code.wp_only (R := fun a2 w2 => Agree (fun i => i == 21 || i == 22 || i == 23 || i == 6 || i == 7) a1 a2 ∧ At a2 6 (.int .i64 n) ∧ At a2 7 (.int .i64 y) ∧ w2 = wr) ?_ ?_)
   · clear hN
     obtain ⟨T, d⟩ := a1
     refine wp_region_lit ?_
     iterate 5 with_reducible refine st ?_
     with_reducible refine wpList_nil ?_
     refine ⟨rfl, ag, aq, aq, rfl⟩
   rintro a2 w2 ⟨hA2, k_6, k_7, rfl⟩
   replace k_0 := hA2.at_ k_0 rfl
   replace k_4 := hA2.at_ k_4 rfl
   replace k_5 := hA2.at_ k_5 rfl
   have hsz2 := hA2.size.trans hsz1
   clear k_sl k_j q0
   refine wp_seq (Code.wp_only (R := fun a3 w3 => Agree (fun i => decide (24 ≤ i) && decide (i ≤ 28)) a2 a3 ∧ LookAt B w3 pb v P why1 (say (named s) y 0 ++ (toldOf named s (zs.take n) ++ L)) ∧ Keep (fun k => k = pb) w2 w3) ?_ ?_)
   · have HN := Lib.hid (hN w2 s HL.out.laid (by omega) hs)
     clear hA2 hN
     obtain ⟨T, d⟩ := a2
     refine wp_region_lit ?_
     iterate 2 with_reducible refine st ?_
     with_reducible refine wpList_step (fun K hK => ?_)
     go_simp
     refine HN.out.mono ?_
     rintro e w4 ⟨rfl, hk4⟩
     with_reducible refine hK _ _ ?_
     clear hK K
     have HL4 := Lib.hid (HL.out.new hk4)
     have HK4 := Lib.hid hk4
     clear hk4
     with_reducible refine st ?_
     with_reducible refine wpList_step (fun K hK => ?_)
     go_simp
     refine (must_any _ _ 0 5 HL4.out rfl).mono ?_
     rintro e w5 ⟨rfl, hL2, hk2⟩
     with_reducible refine hK _ _ (wpList_nil ?_)
     refine ⟨rfl, ag, hL2, (HK4.out.mono (fun _ _ h => h.elim)).trans hk2 (fun _ _ e => e)⟩
   rintro a3 w3 ⟨hA3, hL3, hk3⟩
   have hsz3 := hA3.size.trans hsz2
   have hnl2 : (zs.take n).length = n := by rw [List.length_take]; omega
   refine twice_in hL3 a3 hsz3 (hA3.at_ k_0 rfl) (hA3.at_ k_5 rfl) (by rw [hnl2]; exact hA3.at_ k_6 rfl) (hA3.at_ k_7 rfl) (by omega) (by omega) (by omega) (fun _ => ⟨g, rfl, Nat.lt_of_lt_of_le hgr hk3.size, hg2, fun i z hz => ?_⟩) _ (fun a4 w4 hA4 hL4 hk4 => ?_)
   · have hz2 : zs[i]? = some z := by rw [List.getElem?_take] at hz; split at hz; exact hz; cases hz
     exact ((HK.out.trans hk3 (fun _ _ e => e)).cell (p := ⟨g, i, none⟩) hg1 hg2).trans (HG.out i z hz2)
   refine ⟨((hA2.mono (by intro j; simp; omega)).trans hA3 (by intro j; simp; omega)).trans hA4 (by intro j; simp; omega), hL4.congr fun p => ?_, (HK.out.trans hk3 (fun _ _ e => e)).trans hk4 (fun _ _ e => e)⟩
   rw [take_at HY.out]
   simp only [List.mem_append, mem_toldOf_snoc]
   simp only [or_assoc, or_comm, or_left_comm]
 · rintro a' w' hA ⟨hL, hk⟩
   rw [List.take_length] at hL
   exact hQ _ _ ((hA0.mono (by intro j; simp; omega)).trans hA (by intro j; simp; omega)) hL hk
theorem places_len (f : List Nm) (s : ByteArray) : (places f s).length ≤ f.length := by
 unfold places; rw [List.length_map]; exact List.length_filter_le _ _
theorem keyOf_string_inv {k : Value} {kl : Lit} (h : keyOf Tryz.prog 9 k = some kl) : ∃ s : ByteArray, k = .string s ∧ kl = key s ∧ s.size ≤ maxLen := by
 cases k <;> simp [keyOf, Tryz.underlying9, mapKey] at h
 exact ⟨_, rfl, h.2.symm, h.1⟩
theorem own_slice2 {w : World} {z : Nat} {e : TypeId} {u : Value} {vals : List Value} (h : w.ownsRow z e 1 u vals.length vals) : ∃ A c, u = .slice A vals.length c ∧ vals.length ≤ c := by
 rcases h.2 with ⟨e1, e2⟩ | ⟨g, cap, cur, e1, _, _, hc, _⟩
 · exact ⟨none, 0, by rw [e1, e2], by omega⟩
 · exact ⟨_, _, e1, hc⟩
theorem twice_any {B : Nat} {w : World} {pb : Nat} {v : PolV} {P : Policy} {L : List Wr} {named : ByteArray → Bool} (hN : NamedSpec B named) (h : LookAt B w pb v P why1 L) {Bf : Nat} {bs : List Nat} {fs : List (List Nm)} {D : Nat → DataW Value} {r : Nat → ByteArray → Value} (hF : FamsAt Bf w bs fs D r)
 (i b : Nat) (f : List Nm) (hb : bs[i]? = some b) (hf : fs[i]? = some f) (hpb : pb < Bf ∧ pb ∉ bs) (hfl : f.length ≤ 4194304) (hsm : ∀ x ∈ f, Short x.1) :
 Calls Tryz.prog 71 #[.pointer (some ⟨pb, 0, none⟩), .map (some b)] w fun e w' => e = .returned (.tuple #[]) ∧ LookAt B w' pb v P why1 (once named f ++ L) ∧ Keep (fun k => k = pb) w w' := by
 have hlt := h.lt
 have hBp := h.base
 obtain ⟨m1, m3⟩ := hF.map i b f hb hf
 have hbp : b ≠ pb := fun e => hpb.2 (by rw [← e]; exact List.mem_of_getElem? hb)
 have hblt := m1.lt
 refine calls_abs Tryz.func71 Tryz.ntmps71 rfl (by simp) fun a hsz hdf hargs => ?_
 have h0 : At a 0 (.pointer (some ⟨pb, 0, none⟩)) := hargs 0 _ rfl
 have h1 : At a 1 (.map (some b)) := hargs 1 _ rfl
 clear hargs
 conv => arg 2; whnf
 refine wp_seq (Code.wp_only (R := fun a1 w1 => Agree (fun i => i == 10 || i == 11) a a1 ∧ At a1 11 (.pointer (some ⟨w.heap.size, 0, none⟩)) ∧ w1.ranges Tryz.prog 9 heldR b w.heap.size f.length (D i) (Go.Maps.has (D i)) (Go.Maps.size (D i)) ∧ w.grownBy w1 none) ?_ ?_)
 · clear hN hF m3
   obtain ⟨T, d⟩ := a
   refine wp_region_lit ?_
   with_reducible refine st ?_
   refine wpList_range_own _ rfl _ 135 rfl 9 35 Tryz.law9 Tryz.underlying135 _ b f.length (D i) (by simp [Act.eval, hsz]) m1 ?_
   intro w0 hrg0 hg0 hs0
   with_reducible refine wpList_nil ?_
   refine ⟨rfl, ?_, ?_, hrg0, hg0⟩
   · (repeat (first | with_reducible apply Agree.put | with_reducible apply Agree.set)) <;> first | with_reducible exact Agree.refl _ _ | rfl
   · exact At.put_self
 rintro a0 w1 ⟨hA0, k_it, hrg, hg⟩
 have hk1 : Keep (fun _ => False) w w1 := Keep.of_grown hg (fun _ e => by cases e)
 have hsz0 := hA0.size.trans hsz
 replace h0 := hA0.at_ h0 rfl
 have hL1 := h.new hk1
 have hsz1 : w.heap.size < w1.heap.size := hrg.lt
 have hrp : w.heap.size ≠ pb := by omega
 have HN := Lib.hid hN
 have M3 := Lib.hid m3
 have HF := Lib.hid hF
 have HK1 := Lib.hid hk1
 have hFk : ∀ s : ByteArray, s.size ≤ maxLen → Go.Maps.has (D i) (key s) = has f s := fun s hs => (m3 s hs).2.2
 clear hN hF m3 hk1 hg
 refine wp_while (t := 13)
  (fun a' w' => Agree (fun i => i == 4 || i == 5 || i == 6 || i == 7 || i == 9 || (decide (12 ≤ i) && decide (i ≤ 43))) a0 a' ∧ ∃ left cnt Lc, w'.ranges Tryz.prog 9 heldR b w.heap.size f.length (D i) left cnt ∧ LookAt B w' pb v P why1 (Lc ++ L) ∧ Keep (fun k => k = pb) w w' ∧
    (∀ kl, left kl = true → Go.Maps.has (D i) kl = true) ∧ ∀ p, p ∈ Lc ↔ ∃ s : ByteArray, s.size ≤ maxLen ∧ left (key s) = false ∧ p ∈ toldOf named s (places f s))
  (fun _ w' => w'.rangeLeft b w.heap.size)
  (fun m a' w' => Agree (fun i => i == 4 || i == 5 || i == 6 || i == 7 || i == 9 || (decide (12 ≤ i) && decide (i ≤ 43))) a0 a' ∧ ∃ (s : ByteArray) (left : Lit → Bool) (cnt : Nat) (Lc : List Wr), s.size ≤ maxLen ∧ has f s = true ∧ cnt < m ∧ (Instr.entry (.pointer (some ⟨w.heap.size, 0, none⟩))).run Tryz.prog w' = .ok (.tuple #[.string s, r i s]) w' ∧
    w'.ranges Tryz.prog 9 heldR b w.heap.size f.length (D i) (fun z => left z && !z.sameKey (key s)) cnt ∧ LookAt B w' pb v P why1 (Lc ++ L) ∧ Keep (fun k => k = pb) w w' ∧
    (∀ kl, left kl = true → Go.Maps.has (D i) kl = true) ∧ ∀ p, p ∈ Lc ↔ ∃ s : ByteArray, s.size ≤ maxLen ∧ left (key s) = false ∧ p ∈ toldOf named s (places f s))
  (fun a' w' => a'.defers = [] ∧ ∃ Lc, LookAt B w' pb v P why1 (Lc ++ L) ∧ Keep (fun k => k = pb) w w' ∧ ∀ p, p ∈ Lc ↔ ∃ s : ByteArray, s.size ≤ maxLen ∧ p ∈ toldOf named s (places f s)) ?_ ?_ ?_ ?_
 · refine ⟨Agree.refl _ _, _, _, [], hrg, by simpa using hL1, HK1.out.mono (fun _ _ h => h.elim), fun _ h => h, fun p => ⟨fun h => by simp at h, fun ⟨s, hs, hn, hp⟩ => ?_⟩⟩
   rw [hFk s hs] at hn
   have : places f s = [] := by
    have := has_places f s
    rw [hn] at this
    have h2 : ¬ 0 < (places f s).length := of_decide_eq_false this.symm
    exact List.length_eq_zero_iff.1 (by omega)
   rw [this] at hp
   simp [toldOf, pairs] at hp
 · rintro a1 w2 ⟨hA, left, cnt, Lc, hrg2, hL2, hk2, hle, hlc⟩
   have k_it1 := hA.at_ k_it rfl
   have hsza : a1.tmps.size = 44 := hA.size.trans hsz0
   have hdf1 : a1.defers = [] := hA.defers.trans (hA0.defers.trans hdf)
   have HR := Lib.hid hrg2
   have HL2 := Lib.hid hL2
   have HK2 := Lib.hid hk2
   have HLE := Lib.hid hle
   have HLC := Lib.hid hlc
   have HAg := Lib.hid hA
   have hrs := hrg2.lt
   clear hL2 hk2 hle hlc hA hrg2 hrg hL1 hFk h h0 m1 hA0
   refine wp_region_lit ?_
   refine wpList_next_ranges _ rfl _ rfl 9 Tryz.law9 heldR (Value.string) (fun v : Value => v) (fun ky kl hk => by obtain ⟨s, e, _⟩ := keyOf_string_inv hk; exact ⟨s, e⟩) (fun v y _ => ⟨v, rfl⟩) b w.heap.size f.length (D i) left cnt (k_it1.eval (by omega)) HR.out ?_ ?_
   · intro hc0 hl0
     obtain ⟨T, d⟩ := a1
     simp only [Act.put]
     with_reducible refine st ?_
     with_reducible refine wpList_nil ?_
     refine ⟨rfl, .inr ⟨?_, ?_⟩⟩
     · exact At.eval At.self (by simp; exact hsza ▸ (by decide : 13 < 44))
     · exact ⟨hdf1, Lc, HL2.out, HK2.out, fun p => by rw [HLC.out]; exact ⟨fun ⟨s, h1, _, h3⟩ => ⟨s, h1, h3⟩, fun ⟨s, h1, h3⟩ => ⟨s, h1, hl0 _, h3⟩⟩⟩
   · intro s c kl y w3 cnt' hkey hlk hR hat hrg3 hcl hg3 hs3 hen
     obtain ⟨s', e, rfl, hs⟩ := keyOf_string_inv hkey
     cases e
     simp only [heldR, Option.some.injEq] at hR
     subst hR
     have hcr : c = r i s := by
      have e1 := (M3.out s hs).1
      rw [hat] at e1
      exact DataW.held.inj e1
     subst hcr
     have hhas : has f s = true := by rw [← (M3.out s hs).2.2]; exact HLE.out _ hlk
     have hk3 : Keep (fun k => k = w.heap.size) w2 w3 := Keep.of_grown hg3 (fun k e => by cases e; rfl)
     have hty : tyOf w2 w.heap.size = none := by
      obtain ⟨es, clock, since, seen, c0, _, _, _, _, e5, _⟩ := HR.out
      unfold tyOf; rw [e5]
     have hL3 := HL2.out.keep hk3 (fun k hk _ => by subst hk; rw [hty]; exact ⟨by omega, by simp, by simp⟩)
     have hkw : Keep (fun k => k = pb) w w3 := HK2.out.trans hk3 (fun k hk e => by omega)
     have hlt3 : cnt' < w2.rangeLeft b w.heap.size := by rw [HR.out.left_eq]; exact hcl
     clear hat hkey hg3 hs3 hk3 hty hlk
     have HEN := Lib.hid hen
     have HRG := Lib.hid hrg3
     clear hen hrg3
     obtain ⟨T, d⟩ := a1
     simp only [Act.put]
     with_reducible refine st ?_
     with_reducible refine wpList_nil ?_
     refine ⟨rfl, .inl ⟨?_, ?_, s, left, cnt', Lc, hs, hhas, hlt3, HEN.out, HRG.out, hL3, hkw, HLE.out, HLC.out⟩⟩
     · exact At.eval At.self (by simp; exact hsza ▸ (by decide : 13 < 44))
     · refine HAg.out.trans (vs := fun i => i == 12 || i == 13) ?_ (by intro j; simp; omega)
       (repeat (first | with_reducible apply Agree.put | with_reducible apply Agree.set)) <;> first | with_reducible exact Agree.refl _ _ | rfl
 · rintro m a1 w2 ⟨hA, s, left, cnt, Lc, hs, hhas, hcm, hen, hrg2, hL2, hk2, hle, hlc⟩
   have hsh : Short s := by
    have h1 := has_places f s
    rw [hhas] at h1
    obtain ⟨q, hq⟩ := List.exists_mem_of_length_pos (of_decide_eq_true h1.symm)
    exact hsm _ (mem_places.1 hq)
   obtain ⟨A, c, hv, hnc⟩ := own_slice2 (by rw [List.length_map]; exact (M3.out s hs).2.1)
   rw [List.length_map] at hv hnc
   have hrow := (M3.out s hs).2.1
   have hrow2 := hrow.keep hk2 (fun k hk e => by subst e; have := (hrow.lt _ hk).1; omega)
   have hlen : (places f s).length ≤ 4194304 := by have := places_len f s; omega
   have k_it1 := hA.at_ k_it rfl
   have k_0 := hA.at_ h0 rfl
   have hsza : a1.tmps.size = 44 := hA.size.trans hsz0
   rw [hv] at hen hrow2
   have HRW := Lib.hid hrow2
   have HR := Lib.hid hrg2
   have HL2 := Lib.hid hL2
   have HK2 := Lib.hid hk2
   have HLE := Lib.hid hle
   have HLC := Lib.hid hlc
   have HAg := Lib.hid hA
   clear hL2 hk2 hle hlc hA hrg2 hrg hL1 hFk h h0 m1 hA0 hrow hrow2 hv k_it
   obtain ⟨N, hN2⟩ : ∃ n, n = (places f s).length := ⟨_, rfl⟩
   rw [← hN2] at hen hnc hlen
   have HN2 := Lib.hid hN2
   clear hN2
   refine wp_seq (Code.wp_only (R := fun a2 w3 => Agree (fun i => i == 14 || i == 15 || i == 16 || i == 4 || i == 5) a1 a2 ∧ At a2 4 (.string s) ∧ At a2 5 (.slice A N c) ∧ w3 = w2) ?_ ?_)
   · obtain ⟨T, d⟩ := a1
     refine wp_region_lit ?_
     iterate 5 with_reducible refine st ?_
     with_reducible refine wpList_nil ?_
     refine ⟨rfl, ag, aq, aq, rfl⟩
   rintro a2 w3 ⟨hA2, k_4, k_5, rfl⟩
   have hNp := HN2.out
   subst hNp
   refine twice_mid HN.out HL2.out a2 (hA2.size.trans hsza) (hA2.at_ k_0 rfl) hsh k_4 k_5 hnc hlen (fun hpos => ?_) _ (fun a3 w4 hA3 hL4 hk4 => ?_)
   · rcases HRW.out.2 with ⟨e1, e2⟩ | ⟨g, cap, cur, e1, hg, hh, hcap, _, hcs, htk⟩
     · omega
     · cases e1
       refine ⟨g, rfl, heap_lt hh, by omega, fun j y hy => ?_⟩
       have h3 : cur.toList[j]? = some (.int .i64 y) := by
        have h4 : ((places f s).map (Value.int .i64))[j]? = some (.int .i64 y) := by rw [List.getElem?_map, hy]; rfl
        rw [← htk, List.getElem?_take] at h4
        split at h4
        · exact h4
        · cases h4
       rw [cell_of_row _ _ _ _ _ _ hh]
       simpa using h3
   refine ⟨⟨(HAg.out.trans hA2 (by intro j; simp; omega)).trans hA3 (by intro j; simp; omega), _, cnt, toldOf named s (places f s) ++ Lc, ranges_keep HR.out hk4 hbp hrp, by rw [List.append_assoc]; exact hL4, HK2.out.trans hk4 (fun _ _ e => e), fun kl hkl => HLE.out kl (by simp at hkl; exact hkl.1), fun p => ?_⟩, ?_⟩
   · simp only [List.mem_append, HLC.out]
     constructor
     · rintro (h1 | ⟨u, h1, h2, h3⟩)
       · exact ⟨s, hs, by rw [WideAt.sameKey_self (key_ok s)]; simp, h1⟩
       · exact ⟨u, h1, by simp [h2], h3⟩
     · rintro ⟨u, h1, h2, h3⟩
       by_cases hus : u = s
       · subst hus; exact .inl h3
       · refine .inr ⟨u, h1, ?_, h3⟩
         have hne : (key u).sameKey (key s) = false := by
          rw [Bool.eq_false_iff]
          exact fun e => hus (key_inj (WideAt.sameKey_eq e))
         simpa [hne] using h2
   · have h5 := (ranges_keep HR.out hk4 hbp hrp).left_eq
     show w4.rangeLeft b w.heap.size < m
     rw [h5]; exact hcm
 · rintro a1 w2 ⟨hd, Lc, hL2, hk2, hlc⟩
   refine post_none rfl hd ⟨rfl, hL2.congr fun p => ?_, hk2⟩
   simp only [List.mem_append, hlc, mem_once]
   constructor
   · rintro (⟨s, _, h⟩ | h)
     · exact .inl ⟨s, h⟩
     · exact .inr h
   · rintro (⟨s, h⟩ | h)
     · refine .inl ⟨s, ?_, h⟩
       by_cases hz : places f s = []
       · rw [hz] at h; simp [toldOf, pairs] at h
       · obtain ⟨q, hq⟩ := List.exists_mem_of_ne_nil _ hz
         have := hsm _ (mem_places.1 hq)
         unfold Short at this
         unfold maxLen
         show s.size ≤ _
         have e : ((s, q) : Nm).1 = s := rfl
         rw [e] at this
         omega
     · exact .inr h
def SMap (w : World) (b n : Nat) (z : Value) (F : ByteArray → Value) (p : ByteArray → Bool) : Prop :=
 ∃ D, w.ownsMap Tryz.prog 9 heldR b n D ∧ ∀ s : ByteArray, s.size ≤ maxLen → D.atKey (key s) (.held z) = .held (F s) ∧ Go.Maps.has D (key s) = p s
namespace SMap
variable {w w' : World} {b n : Nat} {z : Value} {F : ByteArray → Value} {p : ByteArray → Bool}
theorem lt (h : SMap w b n z F p) : b < w.heap.size := by obtain ⟨D, h1, _⟩ := h; exact h1.lt
theorem keep {S : Nat → Prop} (h : SMap w b n z F p) (hk : Keep S w w') (hS : ¬ S b) : SMap w' b n z F p := by
 obtain ⟨D, h1, h2⟩ := h
 exact ⟨D, own_keep h1 hk hS, h2⟩
theorem new (w : World) (b : Nat) (z : Value) (h : w.heap[b]? = some (.map #[] 0)) : SMap w b 0 z (fun _ => z) (fun _ => false) := by
 exact ⟨.map [], ⟨#[], 0, h, ⟨by simp, Go.MapKept.stamped_empty 0, by simp⟩, Nat.le_refl _, rfl⟩, fun s _ => ⟨rfl, rfl⟩⟩
theorem run (h : SMap w b n z F p) {t e : TypeId} (ht : Tryz.prog.underlying t = some (.map 9 e)) (hz : ∀ w, (zeroValue e).run Tryz.prog w = .ok z w) {s : ByteArray} (hs : s.size ≤ maxLen) :
 (Instr.lookup t (.map (some b)) (.string s) false).run Tryz.prog w = .ok (F s) w := by
 obtain ⟨D, h1, h2⟩ := h
 obtain ⟨v, ps, hrun, hv⟩ := h1.lookup Tryz.law9 ht (hz w) (zd := .held z) (zp := []) rfl (Go.WideMaps.keyOf_string_mk Tryz.underlying9 hs)
 have e1 : (DataW.held v : DataW Value) = .held (F s) := by
  simp only [heldR, Option.some.injEq, Prod.mk.injEq] at hv
  rw [← (h2 s hs).1]; exact hv.1
 rw [hrun, DataW.held.inj e1]
theorem lookup {P : Program} (hP : P = Tryz.prog) (h : SMap w b n z F p) {ops : Array Oper} {rest : List Oper} {o : Oper} {a : Act} {Q : Exit → Act → World → Prop}
 (hg : o.guard = none) {m x : Operand} {t e : TypeId} (hop : o.op = Op.lookup t m x false) (ht : P.underlying t = some (.map 9 e)) (hz : ∀ w, (zeroValue e).run P w = .ok z w)
 (hm : a.eval m = .map (some b)) {s : ByteArray} (hx : a.eval x = .string s) (hs : s.size ≤ maxLen) (hK : wpList P ops Q rest (a.put o.dst (F s)) w) : wpList P ops Q (o :: rest) a w := by
 subst hP
 obtain ⟨D, h1, h2⟩ := h
 refine wpList_lookup_held _ hg m x t hop 9 e Tryz.law9 ht z (hz w) b n D hm h1 _ (key s) hx (Go.WideMaps.keyOf_string_mk Tryz.underlying9 hs) fun v hv => ?_
 rw [(h2 s hs).1] at hv
 rw [← DataW.held.inj hv]
 exact hK
theorem update {P : Program} (hP : P = Tryz.prog) (h : SMap w b n z F p) (hn : n < maxLen) {ops : Array Oper} {rest : List Oper} {o : Oper} {a : Act} {Q : Exit → Act → World → Prop}
 (hg : o.guard = none) {m x u : Operand} {t e : TypeId} (hop : o.op = Op.mapUpdate t m x u) (ht : P.underlying t = some (.map 9 e))
 (hm : a.eval m = .map (some b)) {s : ByteArray} (hx : a.eval x = .string s) (hs : s.size ≤ maxLen) {v : Value} (hv : a.eval u = v)
 (hK : ∀ w', SMap w' b (n + 1) z (fun t => if t = s then v else F t) (fun t => decide (t = s) || p t) → Keep (fun k => k = b) w w' → wpList P ops Q rest (a.put o.dst undef) w') : wpList P ops Q (o :: rest) a w := by
 subst hP
 obtain ⟨D, h1, h2⟩ := h
 refine wpList_mapUpdate_own _ hg m x u t hop 9 e Tryz.law9 ht heldR b n D hm h1 hn _ _ (key s) hx hv (Go.WideMaps.keyOf_string_mk Tryz.underlying9 hs) _ [] rfl fun w' hown hg' => hK w' ⟨_, hown, fun t ht => ?_⟩ (Keep.of_grown hg' (fun k e => by cases e; rfl))
 obtain ⟨q1, q2⟩ := h2 t ht
 by_cases hts : t = s
 · subst hts
   exact ⟨by show _ = DataW.held (if t = t then v else F t); rw [if_pos rfl]; exact Go.Maps.atKey_put_same h1.isMap (key_ok t) _ _, by rw [Go.Maps.has_put_same h1.isMap (key_ok t)]; simp⟩
 · have hkn : key t ≠ key s := fun e => hts (key_inj e)
   exact ⟨by show _ = DataW.held (if t = s then v else F t); rw [if_neg hts]; exact (Go.Maps.atKey_put_other hkn _ _).trans q1, by rw [Go.Maps.has_put_other hkn, q2]; simp [hts]⟩
theorem lookup_ok {P : Program} (hP : P = Tryz.prog) (h : SMap w b n z F p) {ops : Array Oper} {rest : List Oper} {o : Oper} {a : Act} {Q : Exit → Act → World → Prop}
 (hg : o.guard = none) {m x : Operand} {t e : TypeId} (hop : o.op = Op.lookup t m x true) (ht : P.underlying t = some (.map 9 e)) (hz : ∀ w, (zeroValue e).run P w = .ok z w)
 (hm : a.eval m = .map (some b)) {s : ByteArray} (hx : a.eval x = .string s) (hs : s.size ≤ maxLen) (hK : wpList P ops Q rest (a.put o.dst (.tuple #[F s, .bool (p s)])) w) : wpList P ops Q (o :: rest) a w := by
 subst hP
 obtain ⟨D, h1, h2⟩ := h
 refine wpList_lookup_own_ok _ hg m x t hop 9 e Tryz.law9 ht heldR (hz w) (.held z) [] rfl b n D hm h1 _ (key s) hx (Go.WideMaps.keyOf_string_mk Tryz.underlying9 hs) fun v ps hv => ?_
 have e1 : (DataW.held v : DataW Value) = .held (F s) := by
  simp only [heldR, Option.some.injEq, Prod.mk.injEq] at hv
  rw [← (h2 s hs).1]; exact hv.1
 rw [DataW.held.inj e1, (h2 s hs).2]
 exact hK
end SMap
def encT (t : Thing) : Value := .agg #[.int .u64 t.size, .bool t.big, .bool t.wx]
theorem zero182 (w : World) : (zeroValue 182).run Tryz.prog w = .ok (.agg #[.int .u64 0, .bool false, .bool false]) w := by kernel_rfl
def ThingMap (w : World) (b : Nat) (P : Policy) : Prop := ∃ n, SMap w b n (.agg #[.int .u64 0, .bool false, .bool false]) (fun s => encT (thing0 P s)) (fun s => (thing P s).isSome)
def ThingsSpec : Prop := ∀ {B : Nat} {w : World} {v : PolV} {P : Policy}, PolAt B w v P → B ≤ w.heap.size → Calls Tryz.prog 58 #[.agg (v.cells P).toArray] w fun e w' => ∃ mb, e = .returned (.map (some mb)) ∧ w.heap.size ≤ mb ∧ mb < w'.heap.size ∧ ThingMap w' mb P ∧ Keep (fun _ => False) w w'
theorem thing_lt {B : Nat} {w : World} {v : PolV} {P : Policy} (h : PolAt B w v P) (s : ByteArray) : (thing0 P s).size < lim := by
 unfold thing0 thing
 split
 · rename_i x hx
   have hx := List.mem_of_find?_eq_some hx
   obtain ⟨A, c, _, _, _, hl⟩ := h.regions
   obtain ⟨bl, off, _, _, hcs⟩ := hl (List.length_pos_of_mem hx)
   obtain ⟨k, hk⟩ := List.getElem?_of_mem hx
   exact (hcs k x hk).2.2.1
 · cases hd : P.devices.find? (fun x => decide (x.name = s)) with
   | none => simp
   | some x =>
    have hx := List.mem_of_find?_eq_some hd
    obtain ⟨A, c, _, _, _, hl⟩ := h.devices
    obtain ⟨bl, off, _, _, hcs⟩ := hl (List.length_pos_of_mem hx)
    obtain ⟨k, hk⟩ := List.getElem?_of_mem hx
    obtain ⟨um, hc, _, hw1, hat, hsi, _⟩ := hcs k x hk
    exact hsi
theorem map_ok {B : Nat} {w : World} {u : Value} {l : List Ck.Map} (h : SliceAt B 5 MapAt w u l) : ∀ x ∈ l, x.Ok := by
 intro x hx
 obtain ⟨A, c, _, _, _, hl⟩ := h
 obtain ⟨bl, off, _, _, hcs⟩ := hl (List.length_pos_of_mem hx)
 obtain ⟨k, hk⟩ := List.getElem?_of_mem hx
 exact (hcs k x hk).2
end Go.Proofs.YtpblcjipmoblnaaGreatDoor
namespace Go.Proofs.YtpblcjipmoblnaaGreatDoor
open Go.RowKit Go.IntWalk
def classOf (cls : Nat → Nat) (b : Nat) : Nat := if 127 < b then 0 else cls b
theorem class_any {cls : Nat → Nat} {w : World} (h : ClassT cls w) (b : Nat) (hb : b < 256) :
 Calls Tryz.prog 152 #[.int .u8 b] w fun e w' => e = .returned (.int .u8 (classOf cls b)) ∧ w' = w := by
 unfold classOf
 by_cases h1 : 127 < b
 · have h2 : decide ((127 : Int) < (b : Int)) = true := by simp; omega
   go_enter Tryz.func152, Tryz.ntmps152
   go_wp2
   go_ret
   exact ⟨by simp [h1], rfl⟩
 · have h2 : decide ((127 : Int) < (b : Int)) = false := by simp; omega
   have h3 : (b : Int) < 128 := by omega
   have h4 : b < 128 := by omega
   have hc := h b h4
   have h5 : ¬ ((127 : Int) < (b : Int)) := by omega
   obtain ⟨cb, hcb⟩ : ∃ n, n = cls b := ⟨_, rfl⟩
   rw [← hcb] at hc
   have HB := Lib.hid hcb
   have H1 := Lib.hid h1
   clear h hcb h1 h2
   go_enter Tryz.func152, Tryz.ntmps152
   go_wp2
   go_ret
   exact ⟨by rw [← HB.out]; rfl, rfl⟩
def wordOf (cls : Nat → Nat) (b : Nat) : Bool := decide (classOf cls b = 3) || decide (classOf cls b = 4)
theorem word_any {cls : Nat → Nat} {w : World} (h : ClassT cls w) (b : Nat) (hb : b < 256) :
 Calls Tryz.prog 156 #[.int .u8 b] w fun e w' => e = .returned (.bool (wordOf cls b)) ∧ w' = w := by
 have hcon := class_any h b hb
 unfold wordOf
 generalize classOf cls b = c at hcon ⊢
 clear h
 by_cases h3 : c = 3
 · subst h3
   go_enter Tryz.func156, Tryz.ntmps156
   go_wp2_with (go_at_call 152; refine hcon.mono ?_; rintro e w' ⟨rfl, rfl⟩)
   go_ret
   exact ⟨by simp, rfl⟩
 · obtain ⟨t, ht⟩ : ∃ t, decide (c = 4) = t := ⟨_, rfl⟩
   have e3 : ((c : Int) == 3) = false := by simp; omega
   have e4 : ((c : Int) == 4) = t := by rw [← ht]; exact nat_eqb c 4
   have H3 : Hid (decide (c = 3) = false) := Lib.hid (decide_eq_false h3)
   have HT := Lib.hid ht
   clear h3 ht
   go_enter Tryz.func156, Tryz.ntmps156
   go_wp2_with (go_at_call 152; refine hcon.mono ?_; rintro e w' ⟨rfl, rfl⟩)
   go_ret
   exact ⟨by rw [HT.out, H3.out]; rfl, rfl⟩
def strange (cls : Nat → Nat) (x : Nat) : Bool := decide (127 < x) || !wordOf cls x
theorem strange_any {cls : Nat → Nat} {w : World} (h : ClassT cls w) (x : Nat) (hx : x ≤ 1114111) :
 Calls Tryz.prog 155 #[.int .i32 x] w fun e w' => e = .returned (.bool (strange cls x)) ∧ w' = w := by
 unfold strange
 by_cases h1 : 127 < x
 · have h2 : (127 : Int) < (x : Int) := by omega
   have H : Hid ((decide (127 < x) || !wordOf cls x) = true) := Lib.hid (by simp [h1])
   clear h
   go_enter Tryz.func155, Tryz.ntmps155
   go_wp2
   go_ret
   exact ⟨by rw [H.out]; rfl, rfl⟩
 · have h2 : ¬ ((127 : Int) < (x : Int)) := by omega
   have hcon := word_any h x (by omega)
   have H : Hid ((decide (127 < x) || !wordOf cls x) = !wordOf cls x) := Lib.hid (by simp [h1])
   have hw : IntKind.u8.wrap (x : Int) = (x : Int) := u8_in _ (by omega)
   rw [H.out]
   generalize wordOf cls x = b at hcon ⊢
   clear h h1
   go_enter Tryz.func155, Tryz.ntmps155
   go_wp2_with (go_at_call 156; refine hcon.mono ?_; rintro e w' ⟨rfl, rfl⟩)
   go_ret
   exact ⟨rfl, rfl⟩
end Go.Proofs.YtpblcjipmoblnaaGreatDoor
namespace Go.Proofs.YtpblcjipmoblnaaGreatDoor
open Go.RowKit Go.IntWalk Ck
def ukey (x : Nat) : Lit := .int .u64 x
def USet (k : TypeId) (w : World) (b n : Nat) (S : List Nat) : Prop :=
 ∃ D, w.ownsMap (H := Value) Tryz.prog k unitElem b n D ∧ S.Nodup ∧ Go.Maps.size D = S.length ∧ ∀ x, x < lim → (Go.Maps.has D (ukey x) = true ↔ x ∈ S)
namespace USet
variable {k : TypeId} {w w' : World} {b n : Nat} {S : List Nat}
theorem lt (h : USet k w b n S) : b < w.heap.size := by obtain ⟨D, h1, _⟩ := h; exact h1.lt
theorem keep {T : Nat → Prop} (h : USet k w b n S) (hk : Keep T w w') (hT : ¬ T b) : USet k w' b n S := by
 obtain ⟨D, ⟨es, c, h1, h2⟩, h3⟩ := h
 exact ⟨D, ⟨es, c, (hk.block b (heap_lt h1) hT).trans h1, h2⟩, h3⟩
theorem mono {n' : Nat} (h : USet k w b n S) (hn : n ≤ n') : USet k w b n' S := by
 obtain ⟨D, ⟨es, c, h1, h2, h3, h4⟩, h5⟩ := h
 exact ⟨D, ⟨es, c, h1, h2, Nat.le_trans h3 hn, h4⟩, h5⟩
theorem new (k : TypeId) (w : World) (b : Nat) (h : w.heap[b]? = some (.map #[] 0)) : USet k w b 0 [] :=
 ⟨.map [], ⟨#[], 0, h, ⟨by simp, Go.MapKept.stamped_empty 0, by simp⟩, Nat.le_refl _, rfl⟩, List.nodup_nil, rfl, fun x _ => by simp [Go.Maps.has]⟩
theorem ukey_ok (x : Nat) : WideAt.IsKeyLit (ukey x) := by unfold ukey; trivial
theorem ukey_inj {x y : Nat} (h : ukey x = ukey y) : x = y := by
 unfold ukey at h
 injection h with _ h
 omega
def add (S : List Nat) (x : Nat) : List Nat := if x ∈ S then S else x :: S
theorem mem_add {S : List Nat} {x y : Nat} : y ∈ add S x ↔ y = x ∨ y ∈ S := by
 unfold add
 split
 · rename_i h
   exact ⟨.inr, fun e => e.elim (fun e => e ▸ h) id⟩
 · simp
theorem update {P : Program} (hP : P = Tryz.prog) (h : USet k w b n S) (K : Go.Maps.Keyed Tryz.prog k) (hq : Tryz.prog.underlying k = some (.int .u64)) (hn : n < maxLen) {ops : Array Oper} {rest : List Oper} {o : Oper} {a : Act} {Q : Exit → Act → World → Prop}
 (hg : o.guard = none) {m x u : Operand} {t e : TypeId} (hop : o.op = Op.mapUpdate t m x u) (ht : P.underlying t = some (.map k e))
 (hm : a.eval m = .map (some b)) {y : Nat} (hx : a.eval x = .int .u64 y) (hy : y < lim) (hv : a.eval u = .agg #[])
 (hK : ∀ w', USet k w' b (n + 1) (add S y) → Keep (fun k => k = b) w w' → wpList P ops Q rest (a.put o.dst undef) w') : wpList P ops Q (o :: rest) a w := by
 subst hP
 obtain ⟨D, h1, hnd, hs, h2⟩ := h
 have hwf : (Lit.int .u64 (y : Int)).wf = true := by
  have e1 : IntKind.u64.min = 0 := rfl
  have e2 : IntKind.u64.max = 18446744073709551615 := rfl
  unfold lim at hy
  simp only [Lit.wf, Bool.and_eq_true, decide_eq_true_eq]
  omega
 refine wpList_mapUpdate_own _ hg m x u t hop k e K ht unitElem b n D hm h1 hn _ _ (ukey y) hx hv (Go.Maps.keyOf_int_mk hq hwf) _ [] unitElem_mk fun w' hown hg' => hK w' ⟨_, hown, ?_, ?_, fun z hz => ?_⟩ (Keep.of_grown hg' (fun k e => by cases e; rfl))
 · unfold add
   split
   · exact hnd
   · rename_i hn; exact List.nodup_cons.2 ⟨hn, hnd⟩
 · rw [Go.Maps.size_put (h1.tidy K), hs]
   unfold add
   by_cases hm : y ∈ S
   · rw [if_pos ((h2 y hy).2 hm), if_pos hm]
   · rw [if_neg (fun e => hm ((h2 y hy).1 e)), if_neg hm]; rfl
 · rw [mem_add]
   by_cases hzy : z = y
   · subst hzy
     rw [Go.Maps.has_put_same h1.isMap (ukey_ok z)]; simp
   · rw [Go.Maps.has_put_other (fun e => hzy (ukey_inj e)), h2 z hz]
     simp [hzy]
theorem len {P : Program} (hP : P = Tryz.prog) (h : USet k w b n S) {ops : Array Oper} {rest : List Oper} {o : Oper} {a : Act} {Q : Exit → Act → World → Prop} (hg : o.guard = none) {m : Operand} {t e : TypeId}
 (hop : o.op = Op.call { callee := Callee.builtin Builtin.len, args := #[m], argTypes := #[t] }) (ht : P.underlying t = some (.map k e)) (hm : a.eval m = .map (some b))
 (hK : wpList P ops Q rest (a.put o.dst (.int .i64 S.length)) w) : wpList P ops Q (o :: rest) a w := by
 subst hP
 obtain ⟨D, h1, _, hs, _⟩ := h
 exact wpList_len_own _ hg m t hop k e ht unitElem b n D hm h1 (by rw [hs]; exact hK)
end USet
theorem names_dmaps {B : Nat} {w : World} {pb : Nat} {v : PolV} {P : Policy} {L : List Wr} (h : LookAt B w pb v P why1 L) {z0 zb : Nat} {D : Nat → DataW Value} {r : Nat → ByteArray → Value} (hF : FamsAt (z0 + 10) w (blocksOf z0) (famsOf P) D r)
 (hpb : pb < z0) (hzb : w.heap[zb]? = some (.cells (mapsOf z0) 137 (0, 0))) (hzp : zb ≠ pb) (a : Act) (hsz : a.tmps.size = 441)
 (h0 : At a 0 (.pointer (some ⟨pb, 0, none⟩))) (h2 : At a 2 (.pointer (some ⟨zb, 0, none⟩))) {zx : Nat} {A : Option Addr} {c : Nat} {l : List Ck.Map} (hx_ : At a 10 (.pointer (some ⟨zx, 0, none⟩))) (hq : w.cell? ⟨zx, 4, none⟩ = some (.slice A l.length c)) (hs : SliceAt B 5 MapAt w (.slice A l.length c) l) (Q : Exit → Act → World → Prop)
 (hQ : ∀ a' w', Agree (fun i => i == 12 || (decide (174 ≤ i) && decide (i ≤ 190))) a a' → LookAt B w' pb v P why1 (l.flatMap (mapW P.regs) ++ L) → Keep (fun k => k = pb) w w' → Q .normal a' w') :
 (codeC Tryz.f49 [1,1,1,1,1,1,1,0,1,0,0,1,1,0,0,1]).wp Tryz.prog Q a w := by
 obtain ⟨_, _, e, hnc, hn0, hl⟩ := hs
 cases e
 unfold top at hn0
 have hlt := h.lt
 have hBp := h.base
 conv => arg 2; whnf
 refine wp_seq (Code.wp_only (R := fun a1 w1 => Agree (fun i => i == 174 || i == 175 || i == 176 || i == 177) a a1 ∧ At a1 175 (.slice A l.length c) ∧ At a1 176 (.int .i64 l.length) ∧ At a1 177 (.int .i64 0) ∧ w1 = w) ?_ ?_)
 · clear hF hzb hl
   obtain ⟨T, d⟩ := a
   refine wp_region_lit ?_
   iterate 4 with_reducible refine st ?_
   with_reducible refine wpList_nil ?_
   refine ⟨rfl, ag, aq, aq, aq, rfl⟩
 rintro a0 w0 ⟨hA0, k_s, k_n, k_i, rfl⟩
 have hsz0 : a0.tmps.size = 441 := hA0.size.trans hsz
 replace h0 := hA0.at_ h0 rfl
 replace h2 := hA0.at_ h2 rfl
 refine wp_range l.length (fun i => i == 12 || (decide (177 ≤ i) && decide (i ≤ 190))) (fun i => i == 12 || (decide (179 ≤ i) && decide (i ≤ 189))) (fun k _ w' => LookAt B w' pb v P why1 ((l.take k).flatMap (mapW P.regs) ++ L) ∧ Keep (fun k => k = pb) w0 w') (by omega) k_i k_n (by decide) rfl
  (by intro j; simp; omega) (by omega) (by decide) (fun k a1 a2 w hA hI => hI) ⟨by simpa using h, Keep.refl _ _⟩ ?_ ?_
 · rintro n a1 wr hlt2 hA k_j ⟨hL, hk⟩
   obtain ⟨bl, off, rfl, hbl, hcs⟩ := hl (by omega)
   obtain ⟨x, hx⟩ : ∃ x, l[n]? = some x := ⟨_, List.getElem?_eq_getElem hlt2⟩
   obtain ⟨hc, ok_x⟩ := (flat_stays B _ _) _ _ _ _ _ (hk.below (B := B) (by omega) (fun _ hi e => by omega)) hbl (hcs n x hx)
   have q0 := hc.c0
   have q1 := hc 1 _ rfl
   have q2 := hc 2 _ rfl
   have q3 := hc 3 _ rfl
   have q4 := hc 4 _ rfl
   have k_0 := hA.at_ h0 rfl
   have k_2 := hA.at_ h2 rfl
   have k_sl := hA.at_ k_s rfl
   have hsz1 : a1.tmps.size = 441 := hA.size.trans hsz0
   have hszw := hk.size
   have hblr : bl < wr.heap.size := by omega
   have HX := Lib.hid hx
   have HL := Lib.hid hL
   have HK := Lib.hid hk
   have hnc2 : n ≤ c := by omega
   have HA := Lib.hid hA
   clear hx hL hk hc hA hcs
   refine wp_seq (Code.wp_only (R := fun a2 w2 => Agree (fun i => i == 179 || i == 180 || i == 12) a1 a2 ∧ At a2 12 (.pointer (some ⟨wr.heap.size, 0, none⟩)) ∧ w2 = wr.alloc (Obj.cells #[.int .i64 x.pos, .string x.of, .int .u64 x.at_, .bool x.write, .bool x.exec] 71)) ?_ ?_)
   · clear hF hzb
     obtain ⟨T, d⟩ := a1
     refine wp_region_lit ?_
     iterate 4 with_reducible refine st ?_
     with_reducible refine wpList_nil ?_
     refine ⟨rfl, ag, aq, rfl⟩
   rintro a2 wo ⟨hA2, k_x, hwo⟩
   obtain ⟨z, hz⟩ : ∃ z, z = wr.heap.size := ⟨_, rfl⟩
   rw [← hz] at k_x
   have hx0 : CellsAt wo z 0 [.int .i64 x.pos, .string x.of, .int .u64 x.at_, .bool x.write, .bool x.exec] := by rw [hwo, hz]; exact cells_new _ _ _
   have hzo : z < wo.heap.size := by rw [hwo, hz]; simp
   have hzpb : z ≠ pb := by omega
   have hko : Keep (fun _ => False) wr wo := by rw [hwo]; exact (Keep.refl _ _).alloc _
   have HL1 := Lib.hid (HL.out.new hko)
   have HK1 := Lib.hid (HK.out.trans hko (fun _ _ h => h.elim))
   have HKr : Hid (Keep (fun k => k = pb) wr wo) := hko.mono (fun _ _ h => h.elim)
   have k_0 := hA2.at_ k_0 rfl
   have k_2 := hA2.at_ k_2 rfl
   have hsz2 := hA2.size.trans hsz1
   have HAg : Hid (Agree (fun i => i == 12 || (decide (179 ≤ i) && decide (i ≤ 189))) a1 a2) := hA2.mono (by intro j; simp; omega)
   clear hwo hz hko HL HK hA2 q0 q1 q2 q3 q4
   clear k_sl k_j hnc hl
   refine Code.wp_only (R := fun a' w' => Agree (fun i => (decide (181 ≤ i) && decide (i ≤ 189))) a2 a' ∧ LookAt B w' pb v P why1 (mapW P.regs x ++ ((l.take n).flatMap (mapW P.regs) ++ L)) ∧ Keep (fun k => k = pb) wo w') ?_ ?_
   · skip
     clear HAg HX
     have q_x_pos := hx0.c0
     have q_x_of := hx0 1 _ rfl
     have q_x_at_ := hx0 2 _ rfl
     have q_x_write := hx0 3 _ rfl
     have q_x_exec := hx0 4 _ rfl
     have hzo2 := (HK1.out.block zb (heap_lt hzb) hzp).trans hzb
     have m2 : wo.cell? ⟨zb, 2, none⟩ = some (.map (some (z0 + 3))) := by rw [cell_of_row _ _ _ _ _ _ hzo2]; rfl
     clear hzo2
     clear hx0
     have sz_x_of : x.of.size ≤ maxLen := by have := ok_x; unfold Ck.Map.Ok Short at this; unfold maxLen; omega
     have hFo := hF.keep (HK1.out.drew) (fun k e _ => by subst e; exact ⟨by omega, by simp [blocksOf]; omega⟩)
     have gh2_x_of := flip_ (has_any hFo 2 (z0 + 3) P.regs rfl rfl x.of sz_x_of)
     obtain ⟨h2_x_of, eh2_x_of⟩ : ∃ b, b = has P.regs x.of := ⟨_, rfl⟩
     rw [← eh2_x_of] at gh2_x_of
     have HS : Hid (mapW P.regs x = say (h2_x_of) x.pos 2) := by rw [eh2_x_of]; rfl
     clear hFo
     clear eh2_x_of
     have HLd := Lib.hid (HL1.out.new ((Keep.refl _ wo).drew))
     obtain ⟨T, d⟩ := a2
     refine wp_region_still_tail 8 (by kernel_rfl) (by kernel_rfl) ?_
     simp only [List.take_succ_cons, List.take_zero, List.drop_succ_cons, List.drop_zero]
     iterate 5
      with_reducible refine wpStill_step (fun K hK => ?_)
      go_simp
      with_reducible refine hK _ ?_
      clear hK K
     with_reducible refine wpStill_step (fun K hK => ?_)
     go_simp
     with_reducible refine ⟨_, gh2_x_of, hK _ ?_⟩
     clear hK K
     iterate 2
      with_reducible refine wpStill_step (fun K hK => ?_)
      go_simp
      with_reducible refine hK _ ?_
      clear hK K
     with_reducible refine wpStill_nil ?_
     with_reducible refine wpList_step (fun K hK => ?_)
     go_simp
     refine (must_any _ _ 2 80 HLd.out rfl).mono ?_
     rintro e w2 ⟨rfl, hL2, hk2⟩
     with_reducible refine hK _ _ (wpList_nil ?_)
     refine ⟨rfl, ?_, ?_, ?_⟩
     · exact ag
     · have hs := HS.out
       try simp only [bS] at hs
       rw [hs]
       exact hL2
     · exact ((Keep.refl _ _).drew).trans hk2 (fun _ _ e => e)
   rintro a3 w3 ⟨hA3, hL3, hk3⟩
   refine ⟨HAg.out.trans hA3 (by intro j; simp; omega), hL3.congr fun p => ?_, HK1.out.trans hk3 (fun _ _ e => e)⟩
   rw [take_at HX.out, List.flatMap_append, List.flatMap_cons, List.flatMap_nil, List.append_nil]
   simp only [List.mem_append, mapW]
   try simp only [or_assoc, or_comm, or_left_comm]
 · rintro a' w' hA ⟨hL, hk⟩
   rw [List.take_length] at hL
   exact hQ _ _ ((hA0.mono (by intro j; simp; omega)).trans hA (by intro j; simp; omega)) hL hk
theorem names_devices {B : Nat} {w : World} {pb : Nat} {v : PolV} {P : Policy} {L : List Wr} (h : LookAt B w pb v P why1 L) {z0 zb : Nat} {D : Nat → DataW Value} {r : Nat → ByteArray → Value} (hF : FamsAt (z0 + 10) w (blocksOf z0) (famsOf P) D r)
 (hpb : pb < z0) (hzb : w.heap[zb]? = some (.cells (mapsOf z0) 137 (0, 0))) (hzp : zb ≠ pb) (a : Act) (hsz : a.tmps.size = 441)
 (h0 : At a 0 (.pointer (some ⟨pb, 0, none⟩))) (h2 : At a 2 (.pointer (some ⟨zb, 0, none⟩))) (Q : Exit → Act → World → Prop)
 (hQ : ∀ a' w', Agree (fun i => i == 10 || i == 12 || (decide (164 ≤ i) && decide (i ≤ 191))) a a' → LookAt B w' pb v P why1 (P.devices.flatMap (fun x => x.maps.flatMap (mapW P.regs)) ++ L) → Keep (fun k => k = pb) w w' → Q .normal a' w') :
 (codeC Tryz.f49 [1,1,1,1,1,1,1,0]).wp Tryz.prog Q a w := by
 have hs := h.pol.devices
 obtain ⟨A, c, hu, hnc, hn0, hl⟩ := hs
 unfold top at hn0
 have hlt := h.lt
 have hBp := h.base
 have hq : w.cell? ⟨pb, 3, none⟩ = some v.devices := h.cell rfl
 rw [hu] at hq
 clear hu
 conv => arg 2; whnf
 refine wp_seq (Code.wp_only (R := fun a1 w1 => Agree (fun i => i == 164 || i == 165 || i == 166 || i == 167 || i == 168 || i == 169 || i == 170) a a1 ∧ At a1 168 (.slice A P.devices.length c) ∧ At a1 169 (.int .i64 P.devices.length) ∧ At a1 170 (.int .i64 0) ∧ w1 = w) ?_ ?_)
 · clear hF hzb hl
   obtain ⟨T, d⟩ := a
   refine wp_region_lit ?_
   iterate 7 with_reducible refine st ?_
   with_reducible refine wpList_nil ?_
   refine ⟨rfl, ag, aq, aq, aq, rfl⟩
 rintro a0 w0 ⟨hA0, k_s, k_n, k_i, rfl⟩
 have hsz0 : a0.tmps.size = 441 := hA0.size.trans hsz
 replace h0 := hA0.at_ h0 rfl
 replace h2 := hA0.at_ h2 rfl
 refine wp_range P.devices.length (fun i => i == 10 || i == 12 || (decide (170 ≤ i) && decide (i ≤ 191))) (fun i => i == 10 || i == 12 || (decide (172 ≤ i) && decide (i ≤ 190))) (fun k _ w' => LookAt B w' pb v P why1 ((P.devices.take k).flatMap (fun x => x.maps.flatMap (mapW P.regs)) ++ L) ∧ Keep (fun k => k = pb) w0 w') (by omega) k_i k_n (by decide) rfl
  (by intro j; simp; omega) (by omega) (by decide) (fun k a1 a2 w hA hI => hI) ⟨by simpa using h, Keep.refl _ _⟩ ?_ ?_
 · rintro n a1 wr hlt2 hA k_j ⟨hL, hk⟩
   obtain ⟨bl, off, rfl, hbl, hcs⟩ := hl (by omega)
   obtain ⟨x, hx⟩ : ∃ x, P.devices[n]? = some x := ⟨_, List.getElem?_eq_getElem hlt2⟩
   obtain ⟨u_maps, hc, hs_maps, ok_x⟩ := (device_stays B) _ _ _ _ _ (hk.below (B := B) (by omega) (fun _ hi e => by omega)) hbl (hcs n x hx)
   have HS_maps := Lib.hid hs_maps
   obtain ⟨A_mapsx, c_mapsx, rfl, hnc_maps, hn_maps, _⟩ := hs_maps
   unfold top at hn_maps
   have q0 := hc.c0
   have q1 := hc 1 _ rfl
   have q2 := hc 2 _ rfl
   have q3 := hc 3 _ rfl
   have q4 := hc 4 _ rfl
   have k_0 := hA.at_ h0 rfl
   have k_2 := hA.at_ h2 rfl
   have k_sl := hA.at_ k_s rfl
   have hsz1 : a1.tmps.size = 441 := hA.size.trans hsz0
   have hszw := hk.size
   have hblr : bl < wr.heap.size := by omega
   have HX := Lib.hid hx
   have HL := Lib.hid hL
   have HK := Lib.hid hk
   have hnc2 : n ≤ c := by omega
   have HA := Lib.hid hA
   clear hx hL hk hc hA hcs
   refine wp_seq (Code.wp_only (R := fun a2 w2 => Agree (fun i => i == 172 || i == 173 || i == 10) a1 a2 ∧ At a2 10 (.pointer (some ⟨wr.heap.size, 0, none⟩)) ∧ w2 = wr.alloc (Obj.cells #[.int .i64 x.pos, .string x.name, .int .u64 x.at_, .int .u64 x.size, .slice A_mapsx x.maps.length c_mapsx] 45)) ?_ ?_)
   · clear hF hzb
     obtain ⟨T, d⟩ := a1
     refine wp_region_lit ?_
     iterate 4 with_reducible refine st ?_
     with_reducible refine wpList_nil ?_
     refine ⟨rfl, ag, aq, rfl⟩
   rintro a2 wo ⟨hA2, k_x, hwo⟩
   obtain ⟨z, hz⟩ : ∃ z, z = wr.heap.size := ⟨_, rfl⟩
   rw [← hz] at k_x
   have hx0 : CellsAt wo z 0 [.int .i64 x.pos, .string x.name, .int .u64 x.at_, .int .u64 x.size, .slice A_mapsx x.maps.length c_mapsx] := by rw [hwo, hz]; exact cells_new _ _ _
   have hzo : z < wo.heap.size := by rw [hwo, hz]; simp
   have hzpb : z ≠ pb := by omega
   have hko : Keep (fun _ => False) wr wo := by rw [hwo]; exact (Keep.refl _ _).alloc _
   have HL1 := Lib.hid (HL.out.new hko)
   have HK1 := Lib.hid (HK.out.trans hko (fun _ _ h => h.elim))
   have HKr : Hid (Keep (fun k => k = pb) wr wo) := hko.mono (fun _ _ h => h.elim)
   have k_0 := hA2.at_ k_0 rfl
   have k_2 := hA2.at_ k_2 rfl
   have hsz2 := hA2.size.trans hsz1
   have HAg : Hid (Agree (fun i => i == 10 || i == 12 || (decide (172 ≤ i) && decide (i ≤ 190))) a1 a2) := hA2.mono (by intro j; simp; omega)
   clear hwo hz hko HL HK hA2 q0 q1 q2 q3 q4
   clear k_sl k_j hnc hl
   refine names_dmaps HL1.out (hF.keep HK1.out (fun k e _ => by subst e; exact ⟨by omega, by simp [blocksOf]; omega⟩)) hpb ((HK1.out.block zb (heap_lt hzb) hzp).trans hzb) hzp a2 hsz2 k_0 k_2 k_x (hx0 4 _ rfl) (HS_maps.out.below (flat_stays _ _ _) (HKr.out.below (B := B) (by omega) (fun _ hi e => by omega))) _ (fun a3 w3 hA3 hL3 hk3 => ?_)
   refine ⟨HAg.out.trans hA3 (by intro j; simp; omega), hL3.congr fun p => ?_, HK1.out.trans hk3 (fun _ _ e => e)⟩
   rw [take_at HX.out, List.flatMap_append, List.flatMap_cons, List.flatMap_nil, List.append_nil]
   simp only [List.mem_append, List.mem_append]
   try simp only [or_assoc, or_comm, or_left_comm]
 · rintro a' w' hA ⟨hL, hk⟩
   rw [List.take_length] at hL
   exact hQ _ _ ((hA0.mono (by intro j; simp; omega)).trans hA (by intro j; simp; omega)) hL hk
end Go.Proofs.YtpblcjipmoblnaaGreatDoor
