/- Bus RowsC -/
import Derived.Test.YtpblcjipmoblnaaGreatDoorApart
import Derived.Test.YtpblcjipmoblnaaGreatDoorSmall
import Derived.StillTailTactics
import Derived.Test.YtpblcjipmoblnaaGreatDoorKnown
import Derived.Test.YtpblcjipmoblnaaGreatDoorNamesA
import Derived.Test.YtpblcjipmoblnaaGreatDoorFor2
set_option maxRecDepth 100000
set_option maxHeartbeats 4000000
set_option linter.unusedVariables false
set_option linter.unusedSimpArgs false
namespace Go.Proofs.YtpblcjipmoblnaaGreatDoor
open Go.RowKit Go.IntWalk Ck
theorem rowOwn_keep {S : Nat → Prop} {w w' : World} {B : Nat} {e : TypeId} {size : Nat} {v : Value} {n : Nat} {xs : List Value} (h : w.ownsRow B e size v n xs) (hk : Keep S w w') (hS : ∀ k, v.ownBlock = some k → ¬ S k) : w'.ownsRow B e size v n xs := by
 refine ⟨h.1, ?_⟩
 rcases h.2 with h1 | ⟨g, cap, cur, rfl, hB, hh, h3⟩
 · exact .inl h1
 · exact .inr ⟨g, cap, cur, rfl, hB, by rw [hk.block g (Array.getElem?_eq_some_iff.1 hh).1 (hS g rfl)]; exact hh, h3⟩
theorem rowOwn_ty {w : World} {B : Nat} {e : TypeId} {size : Nat} {v : Value} {n : Nat} {xs : List Value} (h : w.ownsRow B e size v n xs) {k : Nat} (hk : v.ownBlock = some k) : tyOf w k = some e ∧ B ≤ k ∧ k < w.heap.size := by
 refine ⟨?_, h.lt k hk⟩
 rcases h.2 with ⟨h1, _⟩ | ⟨g, cap, cur, rfl, hB, hh, h3⟩
 · subst h1; cases hk
 · have : g = k := by simpa [Value.ownBlock] using hk
   subst this
   unfold tyOf
   rw [hh]
theorem LookAt.grown {B : Nat} {w w' : World} {pb : Nat} {v : PolV} {P : Policy} {W : Int → Int} {L : List Wr} {z : Nat} {e : TypeId} {size : Nat} {u : Value} {n : Nat} {xs : List Value} (h : LookAt B w pb v P W L) (hown : w.ownsRow z e size u n xs) (hz : B ≤ z) (he : e ≠ 113 ∧ e ≠ 120) (hk : Keep (fun k => u.ownBlock = some k) w w') : LookAt B w' pb v P W L :=
 h.keep hk fun k hs _ => by
  obtain ⟨h1, h2, _⟩ := rowOwn_ty hown hs
  refine ⟨by omega, ?_, ?_⟩ <;> rw [h1] <;> simp [he.1, he.2]
def partCells (xs : List Part) : List Value := xs.flatMap Ck.Part.cells
def ramPart (x : Ram) : Part := ⟨x.at_, x.size, x.pos⟩
def devPart (x : Ck.Device) : Part := ⟨x.at_, x.size, x.pos⟩
def sumOf (l : List Ram) : Nat := l.foldl (fun s x => min (s + min x.size 67108865) 67108865) 0
theorem sumOf_snoc (l : List Ram) (x : Ram) : sumOf (l ++ [x]) = min (sumOf l + min x.size 67108865) 67108865 := by simp [sumOf]
theorem sumOf_le (l : List Ram) : sumOf l ≤ 67108865 := by
 unfold sumOf
 suffices h : ∀ (l : List Ram) (s : Nat), s ≤ 67108865 → l.foldl (fun s x => min (s + min x.size 67108865) 67108865) s ≤ 67108865 from h l 0 (by omega)
 intro l
 induction l with
 | nil => intro s h; exact h
 | cons x t ih => intro s h; exact ih _ (Nat.min_le_right _ _)
theorem ramSums_snoc (x : Ram) : ∀ (l : List Ram) (s : Nat), ramSums s (l ++ [x]) = ramSums s l ++ say (decide (min (l.foldl (fun s x => min (s + min x.size 67108865) 67108865) s + min x.size 67108865) 67108865 ≤ 67108864)) x.pos 4
 | [], s => by simp only [List.nil_append, ramSums, List.append_nil, List.foldl_nil]; congr
 | y :: t, s => by simp only [List.cons_append, ramSums, ramSums_snoc x t, List.foldl_cons, List.append_assoc]; congr
theorem ramSums_snoc0 (x : Ram) (l : List Ram) : ramSums 0 (l ++ [x]) = ramSums 0 l ++ say (decide (sumOf (l ++ [x]) ≤ 67108864)) x.pos 4 := by rw [ramSums_snoc, sumOf_snoc]; rfl
theorem partCells_snoc (l : List Part) (x : Part) : partCells (l ++ [x]) = partCells l ++ x.cells := by simp [partCells]
theorem Tryz.info170 : (Tryz.prog.info? 170).map (fun i => (i.zero, i.size, i.bytes)) = some (some (.agg #[.int .u64 0, .int .u64 0, .int .i64 0]), 3, 24) := by kernel_rfl
theorem part_news {a b c : Int} : ∀ u ∈ [Value.int .u64 a, .int .u64 b, .int .i64 c], u.oneCell' = true := by
 intro u hu; simp at hu; rcases hu with rfl | rfl | rfl <;> rfl
theorem partCells_at : ∀ (xs : List Part) (i j : Nat) (x : Part) (c : Value), xs[i]? = some x → x.cells[j]? = some c → (partCells xs)[i * 3 + j]? = some c
 | [], i, j, x, c, h, _ => by simp at h
 | y :: t, 0, j, x, c, h, hc => by
  obtain rfl : y = x := by simpa using h
  have hj : j < y.cells.length := (List.getElem?_eq_some_iff.1 hc).1
  simp only [partCells, List.flatMap_cons, Nat.zero_mul, Nat.zero_add]
  rw [List.getElem?_append_left hj]
  exact hc
 | y :: t, i + 1, j, x, c, h, hc => by
  have h2 : t[i]? = some x := by simpa using h
  have hl : y.cells.length = 3 := rfl
  have := partCells_at t i j x c h2 hc
  have e : partCells (y :: t) = y.cells ++ partCells t := by simp [partCells]
  rw [e, List.getElem?_append_right (by omega), hl, show (i + 1) * 3 + j - 3 = i * 3 + j by omega]
  exact this
theorem parts_of_own {w : World} {z pb : Nat} {u : Value} {xs : List Part} (h : w.ownsRow z 170 3 u xs.length (partCells xs)) (hok : ∀ x ∈ xs, x.Ok) (hl : xs.length ≤ 8388608) (hpb : pb < z) : PartsAt w pb u xs := by
 rcases Nat.eq_zero_or_pos xs.length with h0 | h0
 · rcases h.2 with ⟨e1, e2⟩ | ⟨g, cap, cur, e1, _, _, hcap, _⟩
   · exact ⟨none, 0, by rw [e1, h0], by omega, hl, fun h => by omega⟩
   · exact ⟨some ⟨g, 0, none⟩, cap, e1, by omega, hl, fun h => by omega⟩
 · have hcap := h.2
   obtain ⟨g, cap, hv, hB, hlt⟩ := h.form h0
   subst hv
   refine ⟨_, cap, rfl, ?_, hl, fun _ => ⟨g, 0, rfl, hlt, by omega, fun i x hx => ⟨fun j c hc => ?_, hok x (List.mem_of_getElem? hx)⟩⟩⟩
   · rcases hcap with ⟨e1, e2⟩ | ⟨g', cap', cur, e1, _, _, hc, _⟩
     · cases e1
     · cases e1; omega
   · have := h.cells (g := g) rfl _ _ (partCells_at xs i j x c hx hc)
     have hadd : ∀ j, (⟨g, 0, none⟩ : Addr).add j = ⟨g, j, none⟩ := fun j => by unfold Addr.add; split <;> simp_all
     rw [hadd] at this
     rw [Nat.zero_add]
     exact this
theorem PartsAt.keep {w w' : World} {pb : Nat} {u : Value} {xs : List Part} (h : PartsAt w pb u xs) (hk : Keep (fun k => k = pb) w w') : PartsAt w' pb u xs := by
 obtain ⟨A, c, rfl, h1, h2, h3⟩ := h
 refine ⟨A, c, rfl, h1, h2, fun h0 => ?_⟩
 obtain ⟨g, off, e, hlt, hne, hcs⟩ := h3 h0
 exact ⟨g, off, e, Nat.lt_of_lt_of_le hlt hk.size, hne, fun i x hx => ⟨(hcs i x hx).1.keep hk hlt hne, (hcs i x hx).2⟩⟩
theorem parts_ok {B : Nat} {w : World} {v : PolV} {P : Policy} (h : PolAt B w v P) : ∀ x ∈ P.parts, x.Ok := by
 intro x hx
 simp only [Policy.parts, List.mem_append, List.mem_map] at hx
 rcases hx with ⟨y, hy, rfl⟩ | ⟨y, hy, rfl⟩
 · obtain ⟨A, c, _, _, _, hl⟩ := h.rams
   obtain ⟨i, hi⟩ := List.getElem?_of_mem hy
   obtain ⟨bl, off, _, _, hcs⟩ := hl (List.length_pos_of_mem hy)
   obtain ⟨_, h1, h2, h3⟩ := hcs i y hi
   exact ⟨h2, h3, h1⟩
 · obtain ⟨A, c, _, _, _, hl⟩ := h.devices
   obtain ⟨i, hi⟩ := List.getElem?_of_mem hy
   obtain ⟨bl, off, _, _, hcs⟩ := hl (List.length_pos_of_mem hy)
   obtain ⟨_, _, _, h1, h2, h3, _⟩ := hcs i y hi
   exact ⟨h2, h3, h1⟩
theorem or_bits {a s : Nat} (ha : a < 18446744073709551616) (hs : s < 18446744073709551616) : bits .or .u64 (a : Int) (s : Int) = ((a ||| s : Nat) : Int) := by
 have h1 : a ||| s < 2 ^ 64 := Nat.or_lt_two_pow ha hs
 have hk : IntKind.u64.bits = 64 := rfl
 unfold bits
 simp only [hk, BitVec.ofInt_natCast, BitVec.toNat_or, BitVec.toNat_ofNat, Nat.mod_eq_of_lt (show a < 2 ^ 64 from ha), Nat.mod_eq_of_lt (show s < 2 ^ 64 from hs)]
 have h2 : (((a ||| s : Nat) : Int)) < 18446744073709551616 := by omega
 have h3 : (0 : Int) ≤ ((a ||| s : Nat) : Int) := Int.natCast_nonneg _
 generalize ((a ||| s : Nat) : Int) = q at h2 h3
 simp [IntKind.wrap, IntKind.bits, IntKind.signed]
 omega
theorem or_page {a s : Nat} (ha : a < 18446744073709551616) (hs : s < 18446744073709551616) : ((bits .or .u64 (a : Int) (s : Int)).tmod 4096 == 0) = decide ((a ||| s) % 4096 = 0) := by
 rw [or_bits ha hs]
 have e : (((a ||| s : Nat) : Int)).tmod 4096 = (((a ||| s) % 4096 : Nat) : Int) := by
  rw [Int.tmod_eq_emod_of_nonneg (by omega)]; omega
 rw [e]
 by_cases h : (a ||| s) % 4096 = 0
 · simp [h]
 · have : ¬ (((a ||| s) % 4096 : Nat) : Int) = 0 := by omega
   simp only [h, decide_false]
   exact beq_eq_false_iff_ne.2 this
theorem bus_any {B : Nat} {w : World} {pb : Nat} {v : PolV} {P : Policy} (h : LookAt B w pb v P why3 []) :
 Calls Tryz.prog 51 #[.pointer (some ⟨pb, 0, none⟩)] w fun e w' => e = .returned (.tuple #[]) ∧ LookAt B w' pb v P why3 (busW P) ∧ Keep (fun k => k = pb) w w' := by
 obtain ⟨i0, hi, hz0, hz1, hz2⟩ := info_parts Tryz.info170
 obtain ⟨z, hz⟩ : ∃ z, z = w.heap.size := ⟨_, rfl⟩
 have HZ := Lib.hid hz
 have hlt := h.lt
 have hBp := h.base
 obtain ⟨A0, c0, hv0, _, hn0, hl0⟩ := h.pol.rams
 obtain ⟨A1, c1, hv1, _, hn1, hl1⟩ := h.pol.devices
 have HV1 := Lib.hid hv1
 have hp0 : w.cell? ⟨pb, 2, none⟩ = some v.rams := h.cell rfl
 rw [hv0] at hp0
 unfold top at hn0 hn1
 have hpz : pb < z := by omega
 clear hv0 hv1 hz
 go_enter Tryz.func51, Tryz.ntmps51
 go_wp2
 go_loopw [2, 3, 16] (fun u s i wr => ∃ n : Nat, n ≤ P.rams.length ∧ i = .int .i64 n ∧ s = .int .u64 (sumOf (P.rams.take n) : Nat) ∧ wr.ownsRow z 170 3 u n (partCells ((P.rams.take n).map ramPart)) ∧ LookAt B wr pb v P why3 (ramSums 0 (P.rams.take n)) ∧ Keep (fun k => k = pb) w wr) (fun _ _ i _ => P.rams.length - (intOf i).toNat)
 case atStart => exact ⟨0, Nat.zero_le _, rfl, rfl, World.ownsRow_nil _ _ _ _, by simpa [ramSums] using h, Keep.refl _ _⟩
 case round =>
 obtain ⟨n, hn, rfl, rfl, hown, hL, hk⟩ := hrel
 by_cases hlt2 : n < P.rams.length
 · obtain ⟨bl, off, rfl, hbl, hcs⟩ := hl0 (by omega)
   obtain ⟨x, hx⟩ : ∃ x, P.rams[n]? = some x := ⟨_, List.getElem?_eq_getElem hlt2⟩
   obtain ⟨hc, hok⟩ := (flat_stays B _ _) _ _ _ _ _ (hk.below (B := B) (by omega) (fun _ hi e => by omega)) hbl (hcs n x hx)
   have q0 := hc.c0
   have q1 := hc 1 _ rfl
   have q2 := hc 2 _ rfl
   have hsz := hk.size
   have hblr : bl < wr.heap.size := by omega
   obtain ⟨hw1, hat, hsi⟩ := hok
   unfold lim at hat hsi
   have hso := sumOf_le (P.rams.take n)
   have hsn := sumOf_snoc (P.rams.take n) x
   obtain ⟨s, hs⟩ : ∃ s, s = sumOf (P.rams.take n) := ⟨_, rfl⟩
   rw [← hs] at hso hsn ⊢
   have HSN := Lib.hid hsn
   have HX := Lib.hid hx
   have HL := Lib.hid hL
   have HK := Lib.hid hk
   have HCS := Lib.hid hcs
   have hzr : z ≤ wr.heap.size := by have := HZ.out; omega
   clear hx hc hL hk hcs hs hsn
   go_wp2_with (at_builtin; refine wpList_append_lies _ rfl _ _ 168 rfl z 170 i0 (.agg #[.int .u64 0, .int .u64 0, .int .i64 0]) 3 24 Tryz.underlying168 hi hz0 hz1 hz2 rfl (by omega) _ n _ rfl ((hown.alloc _).alloc _) ⟨wr.heap.size + 1, 0, none⟩ 1 1 [.int .u64 x.at_, .int .u64 x.size, .int .i64 x.pos] rfl rfl ?c1 part_news (by omega) (by unfold maxLen; omega) (by omega) ?c2 (wr.heap.size + 2) (by simp) ?_)
   case c1 => have := World.news_of_block (cs := #[.int .u64 x.at_, .int .u64 x.size, .int .i64 x.pos]) (heap_alloc_new (wr.alloc (.cells #[.int .i64 x.pos, .int .u64 x.at_, .int .u64 x.size] 41)) (.cells #[.int .u64 x.at_, .int .u64 x.size, .int .i64 x.pos] 170)); simpa using this
   case c2 => simp; omega
   intro g cap w1 hown1 hgrow hat hlt3
   have hkA : Keep (fun k => u2.ownBlock = some k) wr w1 := (((Keep.refl _ _).alloc _).alloc _).trans (Keep.of_grown hgrow (S := fun k => u2.ownBlock = some k) (fun k h => h)) (fun _ _ h => h)
   have hlo := hown.lt
   have hLn : LookAt B w1 pb v P why3 (ramSums 0 (P.rams.take n)) := HL.out.grown hown (by omega) (by decide) hkA
   have hKn : Keep (fun k => k = pb) w w1 := HK.out.trans hkA (fun i hi h => by have := (hlo i h).1; have := HZ.out; omega)
   have hbx : w1.heap[wr.heap.size]? = some (.cells #[.int .i64 x.pos, .int .u64 x.at_, .int .u64 x.size] 41 (0, 0)) := by
    have e1 := (Keep.of_grown hgrow (S := fun k => u2.ownBlock = some k) (fun k h => h)).block wr.heap.size (by simp; omega) (fun h => by have := (hlo _ h).2; omega)
    refine e1.trans (((((Keep.refl (fun _ => False) _).alloc _).block wr.heap.size (by simp) (fun h => h))).trans (heap_alloc_new _ _))
   have r0 : w1.cell? ⟨wr.heap.size, 0, none⟩ = some (.int .i64 x.pos) := by rw [cell_of_row _ _ _ _ _ _ hbx]; rfl
   have r2 : w1.cell? ⟨wr.heap.size, 2, none⟩ = some (.int .u64 x.size) := by rw [cell_of_row _ _ _ _ _ _ hbx]; rfl
   have HLN := Lib.hid hLn
   have HKN := Lib.hid hKn
   have HO1 := Lib.hid hown1
   clear hLn hKn hbx hkA hgrow hown hown1 q0 q1 q2
   go_upto_region 7 with fail
   have hm2 : (if (67108865 : Int) < (x.size : Int) then (67108865 : Int) else (x.size : Int)) = ((min x.size 67108865 : Nat) : Int) := by split <;> omega
   have hm3 : (if (67108865 : Int) < (s : Int) + ((min x.size 67108865 : Nat) : Int) then (67108865 : Int) else (s : Int) + ((min x.size 67108865 : Nat) : Int)) = ((sumOf (P.rams.take n ++ [x]) : Nat) : Int) := by rw [HSN.out]; split <;> omega
   rw [hm2, hm3]
   obtain ⟨m, hm⟩ : ∃ m, m = min x.size 67108865 := ⟨_, rfl⟩
   obtain ⟨s2, hs2⟩ : ∃ s2, s2 = sumOf (P.rams.take n ++ [x]) := ⟨_, rfl⟩
   rw [← hm, ← hs2]
   have hs3 : s2 ≤ 67108865 := by rw [hs2]; exact sumOf_le _
   have HS2 := Lib.hid hs2
   clear hs2 hm hm2 hm3
   go_wp2_with fail
   all_goals
    refine (must_any _ x.pos 4 36 HLN.out rfl).mono ?_
    rintro e w2 ⟨rfl, hL3, hk3⟩
    have HL3 := Lib.hid hL3
    have HK3 := Lib.hid hk3
    clear hL3 hk3
    go_wp2
    go_roundw
    case rel =>
     refine ⟨n + 1, by omega, by go_num, ?_, ?_, ?_, HKN.out.trans HK3.out (fun _ _ e => e)⟩
     · rw [take_at HX.out, ← HS2.out]
     · rw [take_at HX.out, List.map_append]
       refine rowOwn_keep (by rw [List.map_cons, List.map_nil, partCells_snoc]; have := HO1.out; rw [← List.map_take] at this; exact this) HK3.out (fun k hk e => ?_)
       subst e
       have := (HO1.out.lt _ hk).1
       omega
     · refine HL3.out.congr fun p => ?_
       rw [take_at HX.out, ramSums_snoc0, ← HS2.out]
       have hd : decide ((s2 : Int) ≤ 67108864) = decide (s2 ≤ 67108864) := decide_eq_decide.2 (by omega)
       simp only [hd, List.mem_append, or_comm]
    case measure => simp [intOf]; omega
 obtain rfl : n = P.rams.length := by omega
 rw [List.take_length] at hown hL
 obtain ⟨wo, hwo⟩ : ∃ u : World, u = wr := ⟨_, rfl⟩
 rw [← hwo] at hk hown hL ⊢
 obtain ⟨s0, hs0⟩ : ∃ u : Nat, u = sumOf (P.rams.take P.rams.length) := ⟨_, rfl⟩
 rw [← hs0]
 clear hwo wr hlt2 hn hl0 hp0 hs0
 have hp1 : wo.cell? ⟨pb, 3, none⟩ = some v.devices := hL.cell rfl
 rw [HV1.out] at hp1
 have HOWN := Lib.hid hown
 have HL := Lib.hid hL
 have HK := Lib.hid hk
 have hrl : P.rams.length ≤ 2097152 := by omega
 clear hown hL hk
 go_wp2
 clear hp1
 go_loopw [2, 49] (fun u i wr => ∃ n : Nat, n ≤ P.devices.length ∧ i = .int .i64 n ∧ wr.ownsRow z 170 3 u (P.rams.length + n) (partCells (P.rams.map ramPart ++ (P.devices.take n).map devPart)) ∧ LookAt B wr pb v P why3 (ramSums 0 P.rams ++ (P.devices.take n).flatMap fun x => say (decide (x.size ≤ 1048576)) x.pos 1) ∧ Keep (fun k => k = pb) w wr) (fun _ i _ => P.devices.length - (intOf i).toNat)
 case atStart => exact ⟨0, Nat.zero_le _, rfl, by simpa using HOWN.out, by simpa using HL.out, HK.out⟩
 case round =>
 clear HOWN HL HK
 obtain ⟨n, hn, rfl, hown, hL, hk⟩ := hrel
 by_cases hlt2 : n < P.devices.length
 · obtain ⟨bl, off, rfl, hbl, hcs⟩ := hl1 (by omega)
   obtain ⟨x, hx⟩ : ∃ x, P.devices[n]? = some x := ⟨_, List.getElem?_eq_getElem hlt2⟩
   obtain ⟨um, hc, ⟨Am, cm, rfl, _⟩, hw1, hat, hsi, _⟩ := hcs n x hx
   unfold lim at hat hsi
   have hc := hc.below (hk.below (B := B) (by omega) (fun _ hi e => by omega)) hbl
   have q0 := hc.c0
   have q1 := hc 1 _ rfl
   have q2 := hc 2 _ rfl
   have q3 := hc 3 _ rfl
   have q4 := hc 4 _ rfl
   have hsz := hk.size
   have hblr : bl < wr.heap.size := by omega
   have HX := Lib.hid hx
   have HL := Lib.hid hL
   have HK := Lib.hid hk
   have HCS := Lib.hid hcs
   have hzr : z ≤ wr.heap.size := by have := HZ.out; omega
   clear hx hc hL hk hcs
   go_wp2_with (at_builtin; refine wpList_append_lies _ rfl _ _ 168 rfl z 170 i0 (.agg #[.int .u64 0, .int .u64 0, .int .i64 0]) 3 24 Tryz.underlying168 hi hz0 hz1 hz2 rfl (by omega) _ (P.rams.length + n) _ rfl ((hown.alloc _).alloc _) ⟨wr.heap.size + 1, 0, none⟩ 1 1 [.int .u64 x.at_, .int .u64 x.size, .int .i64 x.pos] rfl rfl ?c1 part_news (by omega) (by unfold maxLen; omega) (by omega) ?c2 (wr.heap.size + 2) (by simp) ?_)
   case c1 => have := World.news_of_block (cs := #[.int .u64 x.at_, .int .u64 x.size, .int .i64 x.pos]) (heap_alloc_new (wr.alloc (.cells #[.int .i64 x.pos, .string x.name, .int .u64 x.at_, .int .u64 x.size, .slice Am x.maps.length cm] 45)) (.cells #[.int .u64 x.at_, .int .u64 x.size, .int .i64 x.pos] 170)); simpa using this
   case c2 => simp; omega
   intro g cap w1 hown1 hgrow hat hlt3
   have hkA : Keep (fun k => u2.ownBlock = some k) wr w1 := (((Keep.refl _ _).alloc _).alloc _).trans (Keep.of_grown hgrow (S := fun k => u2.ownBlock = some k) (fun k h => h)) (fun _ _ h => h)
   have hlo := hown.lt
   have hLn := HL.out.grown hown (by omega) (by decide) hkA
   have hKn : Keep (fun k => k = pb) w w1 := HK.out.trans hkA (fun i hi h => by have := (hlo i h).1; have := HZ.out; omega)
   have hbx : w1.heap[wr.heap.size]? = some (.cells #[.int .i64 x.pos, .string x.name, .int .u64 x.at_, .int .u64 x.size, .slice Am x.maps.length cm] 45 (0, 0)) := by
    have e1 := (Keep.of_grown hgrow (S := fun k => u2.ownBlock = some k) (fun k h => h)).block wr.heap.size (by simp; omega) (fun h => by have := (hlo _ h).2; omega)
    refine e1.trans (((((Keep.refl (fun _ => False) _).alloc _).block wr.heap.size (by simp) (fun h => h))).trans (heap_alloc_new _ _))
   have r0 : w1.cell? ⟨wr.heap.size, 0, none⟩ = some (.int .i64 x.pos) := by rw [cell_of_row _ _ _ _ _ _ hbx]; rfl
   have r3 : w1.cell? ⟨wr.heap.size, 3, none⟩ = some (.int .u64 x.size) := by rw [cell_of_row _ _ _ _ _ _ hbx]; rfl
   have HLN := Lib.hid hLn
   have HKN := Lib.hid hKn
   have HO1 := Lib.hid hown1
   clear hLn hKn hbx hkA hgrow hown hown1 q0 q1 q2 q3 q4
   go_wp2_with fail
   all_goals
    refine (must_any _ x.pos 1 32 HLN.out rfl).mono ?_
    rintro e w2 ⟨rfl, hL3, hk3⟩
    have HL3 := Lib.hid hL3
    have HK3 := Lib.hid hk3
    clear hL3 hk3
    go_wp2
    go_roundw
    case rel =>
     refine ⟨n + 1, by omega, by go_num, ?_, ?_, HKN.out.trans HK3.out (fun _ _ e => e)⟩
     · rw [take_at HX.out, List.map_append, ← List.append_assoc]
       refine rowOwn_keep (by rw [List.map_cons, List.map_nil, partCells_snoc]; have := HO1.out; simp only [← List.map_take] at this; exact this) HK3.out (fun k hk e => ?_)
       subst e
       have := (HO1.out.lt _ hk).1
       omega
     · refine HL3.out.congr fun p => ?_
       rw [take_at HX.out]
       have hd : decide ((x.size : Int) ≤ 1048576) = decide (x.size ≤ 1048576) := decide_eq_decide.2 (by omega)
       simp only [hd, List.mem_append, List.flatMap_append, List.flatMap_cons, List.flatMap_nil, List.append_nil]
       constructor
       · rintro (h | h | h)
         · exact .inr (.inr h)
         · exact .inl h
         · exact .inr (.inl h)
       · rintro (h | h | h)
         · exact .inr (.inl h)
         · exact .inr (.inr h)
         · exact .inl h
    case measure => simp [intOf]; omega
 obtain rfl : n = P.devices.length := by omega
 rw [List.take_length] at hown hL
 have hpl : P.rams.length + P.devices.length = P.parts.length := by simp [Policy.parts]
 have hpe : P.rams.map ramPart ++ P.devices.map devPart = P.parts := rfl
 rw [hpl, hpe] at hown
 obtain ⟨wo, hwo⟩ : ∃ u : World, u = wr := ⟨_, rfl⟩
 rw [← hwo] at hk hown hL ⊢
 have hlen : P.parts.length ≤ 8388608 := by rw [← hpl]; omega
 have hpz2 : pb < z := hpz
 have hPa : PartsAt wo pb u2 P.parts := parts_of_own hown (parts_ok h.pol) hlen hpz
 obtain ⟨Au, cu, rfl, hcu, _, hlu⟩ := hPa
 have HPa : Hid (PartsAt wo pb (.slice Au P.parts.length cu) P.parts) := parts_of_own hown (parts_ok h.pol) hlen hpz
 have HL := Lib.hid hL
 have HK := Lib.hid hk
 clear hwo wr hlt2 hn hl1 hown hL hk hpe hpl
 go_wp2
 go_loopw [73] (fun i wr => ∃ n : Nat, n ≤ P.parts.length ∧ i = .int .i64 n ∧ LookAt B wr pb v P why3 ((P.parts.take n).flatMap partW ++ (ramSums 0 P.rams ++ P.devices.flatMap fun x => say (decide (x.size ≤ 1048576)) x.pos 1)) ∧ Keep (fun k => k = pb) wo wr) (fun i _ => P.parts.length - (intOf i).toNat)
 case atStart => exact ⟨0, Nat.zero_le _, rfl, by simpa using HL.out, Keep.refl _ _⟩
 case round =>
 clear HL
 obtain ⟨n, hn, rfl, hL, hk⟩ := hrel
 by_cases hlt2 : n < P.parts.length
 · obtain ⟨bl, off, rfl, hbl, hbp, hcs⟩ := hlu (by omega)
   obtain ⟨x, hx⟩ : ∃ x, P.parts[n]? = some x := ⟨_, List.getElem?_eq_getElem hlt2⟩
   obtain ⟨hc, hok⟩ := hcs n x hx
   have hc := hc.keep hk hbl hbp
   have q0 := hc.c0
   have q1 := hc 1 _ rfl
   have q2 := hc 2 _ rfl
   have hsz := hk.size
   have hblr : bl < wr.heap.size := by omega
   have hnc2 : n ≤ cu := by omega
   obtain ⟨hxa, hxs, _⟩ := hok
   unfold lim at hxa hxs
   have HX := Lib.hid hx
   have HL := Lib.hid hL
   have HKr := Lib.hid hk
   clear hx hL hk hc hcs
   go_upto_region 18 with fail
   obtain ⟨wb, hwb⟩ : ∃ u : World, u = wr.alloc (Obj.cells #[.int .u64 x.at_, .int .u64 x.size, .int .i64 x.pos] 170) := ⟨_, rfl⟩
   rw [← hwb]
   obtain ⟨zb, hzb⟩ : ∃ u, u = wr.heap.size := ⟨_, rfl⟩
   rw [← hzb]
   have hb0 : wb.heap[zb]? = some (.cells #[.int .u64 x.at_, .int .u64 x.size, .int .i64 x.pos] 170 (0, 0)) := by rw [hwb, hzb]; exact heap_alloc_new _ _
   have hLb := HL.out.new (w' := wb) (by rw [hwb]; exact (Keep.refl _ _).alloc _)
   have hKb : Keep (fun k => k = pb) wo wb := by rw [hwb]; exact HKr.out.alloc _
   have hzp : zb ≠ pb := by have := HKr.out.size; have := HK.out.size; omega
   have b0 : wb.cell? ⟨zb, 0, none⟩ = some (.int .u64 x.at_) := by rw [cell_of_row _ _ _ _ _ _ hb0]; rfl
   have b1 : wb.cell? ⟨zb, 1, none⟩ = some (.int .u64 x.size) := by rw [cell_of_row _ _ _ _ _ _ hb0]; rfl
   have b2 : wb.cell? ⟨zb, 2, none⟩ = some (.int .i64 x.pos) := by rw [cell_of_row _ _ _ _ _ _ hb0]; rfl
   have HB0 := Lib.hid hb0
   have HLB := Lib.hid hLb
   have HKB := Lib.hid hKb
   clear hwb hzb hb0 hLb hKb HL HKr q0 q1 q2
   have HPG := Lib.hid (or_page hxa hxs)
   go_wp2_with fail
   rw [HPG.out]
   refine (must_any _ x.pos 0 33 HLB.out rfl).mono ?_
   rintro e w3 ⟨rfl, hL3, hk3⟩
   have hb3 := (hk3.block zb (heap_lt HB0.out) hzp).trans HB0.out
   have c1 : w3.cell? ⟨zb, 1, none⟩ = some (.int .u64 x.size) := by rw [cell_of_row _ _ _ _ _ _ hb3]; rfl
   have c2 : w3.cell? ⟨zb, 2, none⟩ = some (.int .i64 x.pos) := by rw [cell_of_row _ _ _ _ _ _ hb3]; rfl
   have HL3 := Lib.hid hL3
   have HK3 := Lib.hid (HKB.out.trans hk3 (fun _ _ e => e))
   have HB3 := Lib.hid hb3
   clear hL3 hk3 hb3 b0 b1 b2 HLB HKB HB0 HPG
   go_wp2_with fail
   refine (must_any _ x.pos 1 32 HL3.out rfl).mono ?_
   rintro e w4 ⟨rfl, hL4, hk4⟩
   have hb4 := (hk4.block zb (heap_lt HB3.out) hzp).trans HB3.out
   have d0 : w4.cell? ⟨zb, 0, none⟩ = some (.int .u64 x.at_) := by rw [cell_of_row _ _ _ _ _ _ hb4]; rfl
   have d1 : w4.cell? ⟨zb, 1, none⟩ = some (.int .u64 x.size) := by rw [cell_of_row _ _ _ _ _ _ hb4]; rfl
   have d2 : w4.cell? ⟨zb, 2, none⟩ = some (.int .i64 x.pos) := by rw [cell_of_row _ _ _ _ _ _ hb4]; rfl
   have HL4 := Lib.hid hL4
   have HK4 := Lib.hid (HK3.out.trans hk4 (fun _ _ e => e))
   have hzr := heap_lt hb4
   have HC : Hid (∀ w', Keep (fun i => i = pb) w4 w' → w'.cell? ⟨zb, 0, none⟩ = some (.int .u64 x.at_) ∧ w'.cell? ⟨zb, 1, none⟩ = some (.int .u64 x.size) ∧ w'.cell? ⟨zb, 2, none⟩ = some (.int .i64 x.pos)) := fun w' hk =>
    ⟨(hk.cell (p := ⟨zb, 0, none⟩) hzr hzp).trans d0, (hk.cell (p := ⟨zb, 1, none⟩) hzr hzp).trans d1, (hk.cell (p := ⟨zb, 2, none⟩) hzr hzp).trans d2⟩
   have HLd := Lib.hid (hL4.new ((Keep.refl _ w4).drew))
   clear hL4 hk4 hb4 c1 c2 HL3 HK3 HB3
   go_wp2_with fail
   go_region_held3 (fun w' => w'.cell? ⟨zb, 0, none⟩ = some (.int .u64 x.at_) ∧ w'.cell? ⟨zb, 1, none⟩ = some (.int .u64 x.size) ∧ w'.cell? ⟨zb, 2, none⟩ = some (.int .i64 x.pos))
    (first | exact HC.out _ ((Keep.refl _ w4).drew) | exact HC.out _ (((Keep.refl _ w4).drew).trans (by assumption) (fun _ _ e => e)))
    (first
      | (go_at_call 98; refine (below_any x.at_ x.size 4294967296 _ hxa hxs (by omega)).mono ?_; rintro e w2 ⟨rfl, rfl⟩)
      | (go_at_call 73; refine (must_any _ _ 2 34 HLd.out rfl).mono ?_; rintro e w2 ⟨rfl, hL5, hk5⟩))
   have HL5 := Lib.hid hL5
   have HK5 := Lib.hid hk5
   clear hL5 hk5
   go_wp2
   go_roundw
   case rel =>
    refine ⟨n + 1, by omega, by go_num, HL5.out.congr fun p => ?_, HK4.out.trans (((Keep.refl _ _).drew).trans HK5.out (fun _ _ e => e)) (fun _ _ e => e)⟩
    rw [take_at HX.out]
    have hd : decide ((0 : Int) < (x.size : Int)) = decide (0 < x.size) := decide_eq_decide.2 (by omega)
    simp only [hd, partW, List.mem_append, List.flatMap_append, List.flatMap_cons, List.flatMap_nil, List.append_nil]
    constructor
    · rintro (h | h | h | h)
      · exact .inl (.inr (.inr h))
      · exact .inl (.inr (.inl (.inr h)))
      · exact .inl (.inr (.inl (.inl h)))
      · rcases h with h | h
        · exact .inl (.inl h)
        · exact .inr h
    · rintro ((h | (h | h) | h) | h)
      · exact .inr (.inr (.inr (.inl h)))
      · exact .inr (.inr (.inl h))
      · exact .inr (.inl h)
      · exact .inl h
      · exact .inr (.inr (.inr (.inr h)))
   case measure => simp [intOf]; omega
 · obtain rfl : n = P.parts.length := by omega
   rw [List.take_length] at hL
   have HL2 := Lib.hid hL
   have HK2 := Lib.hid hk
   clear hL
   have hP2 : PartsAt wr pb (.slice Au P.parts.length cu) P.parts := HPa.out.keep hk
   clear hk
   go_wp2_with fail
   refine (apart_any HL2.out hP2 3 rfl).mono ?_
   rintro e w2 ⟨rfl, hL3, hk3⟩
   have HL3 := Lib.hid hL3
   have HK3 := Lib.hid hk3
   clear hL3 hk3
   go_wp2
   go_end0
   refine ⟨rfl, HL3.out.congr fun p => ?_, (HK.out.trans HK2.out (fun _ _ e => e)).trans HK3.out (fun _ _ e => e)⟩
   simp only [busW, List.mem_append]
   constructor
   · rintro (h | h | h | h)
     · exact .inr h
     · exact .inl (.inr h)
     · exact .inl (.inl (.inl h))
     · exact .inl (.inl (.inr h))
   · rintro (((h | h) | h) | h)
     · exact .inr (.inr (.inl h))
     · exact .inr (.inr (.inr h))
     · exact .inr (.inl h)
     · exact .inl h
theorem mem_rowsW_snoc {P : Policy} {l : List Lane} {x : Lane} {p : Wr} : p ∈ rowsW P (l ++ [x]) ↔ p ∈ rowsW P l ∨ (∃ y ∈ l, p ∈ say (!decide (x.cpu = y.cpu)) (max x.pos y.pos) 1) ∨ p ∈ x.runs.flatMap (runW P x.needs) := by
 simp only [rowsW, List.mem_append, mem_pairs_snoc, List.flatMap_append, List.flatMap_cons, List.flatMap_nil, List.append_nil]
 constructor
 · rintro ((h | h) | (h | h))
   · exact .inl (.inl h)
   · exact .inr (.inl h)
   · exact .inl (.inr h)
   · exact .inr (.inr h)
 · rintro ((h | h) | (h | h))
   · exact .inl (.inl h)
   · exact .inr (.inl h)
   · exact .inl (.inr h)
   · exact .inr (.inr h)
theorem rows_any {B : Nat} {w : World} {pb : Nat} {v : PolV} {P : Policy} {L : List Wr} (h : LookAt B w pb v P why1 L) {z0 : Nat} {D : Nat → DataW Value} {r : Nat → ByteArray → Value} (hF : FamsAt (z0 + 10) w (blocksOf z0) (famsOf P) D r)
 (hpb : pb < z0) {u : Value} {xs : List Lane} (hs : SliceAt B 4 (LaneAt B) w u xs) :
 Calls Tryz.prog 76 #[.pointer (some ⟨pb, 0, none⟩), u, .agg (mapsOf z0)] w fun e w' => e = .returned (.tuple #[]) ∧ LookAt B w' pb v P why1 (rowsW P xs ++ L) ∧ Keep (fun k => k = pb) w w' := by
 obtain ⟨A, c, rfl, hnc, hn0, hl⟩ := hs
 unfold top at hn0
 have hlt := h.lt
 have hBp := h.base
 unfold mapsOf
 have HF := Lib.hid hF
 clear hF
 go_enter Tryz.func76, Tryz.ntmps76
 go_wp2
 obtain ⟨wb, hwb⟩ : ∃ u : World, u = w.alloc (Obj.cells (mapsOf z0) 137) := ⟨_, rfl⟩
 unfold mapsOf at hwb
 rw [← hwb]
 obtain ⟨zb, hzb⟩ : ∃ u : Nat, u = w.heap.size := ⟨_, rfl⟩
 rw [← hzb]
 have hb0 : wb.heap[zb]? = some (.cells (mapsOf z0) 137 (0, 0)) := by rw [hwb, hzb]; exact heap_alloc_new _ _
 have hkb : Keep (fun k => k = pb) w wb := by rw [hwb]; exact (Keep.refl _ _).alloc _
 have hLb : LookAt B wb pb v P why1 L := by rw [hwb]; exact h.new ((Keep.refl _ _).alloc _)
 have hzp : zb ≠ pb := by omega
 have HKb := Lib.hid hkb
 have HLb := Lib.hid hLb
 have HB0 := Lib.hid hb0
 clear hwb hzb hb0 hkb hLb
 go_loopw [14] (fun i wr => ∃ n : Nat, n ≤ xs.length ∧ i = .int .i64 n ∧ LookAt B wr pb v P why1 (rowsW P (xs.take n) ++ L) ∧ Keep (fun k => k = pb) wb wr) (fun i _ => xs.length - (intOf i).toNat)
 case atStart => exact ⟨0, Nat.zero_le _, rfl, by simpa [rowsW, pairs] using HLb.out, Keep.refl _ _⟩
 case round =>
 obtain ⟨n, hn, rfl, hL, hk⟩ := hrel
 by_cases hlt2 : n < xs.length
 · obtain ⟨bl, off, rfl, hbl, hcs⟩ := hl (by omega)
   obtain ⟨x, hx⟩ : ∃ x, xs[n]? = some x := ⟨_, List.getElem?_eq_getElem hlt2⟩
   have hkw := HKb.out.trans hk (fun _ _ e => e)
   obtain ⟨ur, hc, hs1, hpos, hcpu⟩ := (lane_stays B) _ _ _ _ _ (hkw.below (B := B) (by omega) (fun _ hi e => by omega)) hbl (hcs n x hx)
   have hs2 := hs1
   obtain ⟨Ar, cr, rfl, hrc, hrn, _⟩ := hs1
   have q0 := hc.c0
   have q1 := hc 1 _ rfl
   have q2 := hc 2 _ rfl
   have q3 := hc 3 _ rfl
   have hsz := hkw.size
   have hblr : bl < wr.heap.size := by omega
   unfold lim at hcpu
   unfold top at hrn
   have HX := Lib.hid hx
   have HL := Lib.hid hL
   have HK := Lib.hid hk
   have HCS := Lib.hid hcs
   have HS2 := Lib.hid hs2
   have hnc2 : n ≤ c := by omega
   clear hx hL hk hkw hc hs2
   go_wp2
   obtain ⟨wo, hwo⟩ : ∃ wo : World, wo = wr.alloc (Obj.cells #[.int .i64 x.pos, .int .u64 x.cpu, .bool x.needs, .slice Ar x.runs.length cr] 92) := ⟨_, rfl⟩
   rw [← hwo]
   obtain ⟨z, hz⟩ : ∃ z, z = wr.heap.size := ⟨_, rfl⟩
   rw [← hz]
   have hx0 : wo.heap[z]? = some (.cells #[.int .i64 x.pos, .int .u64 x.cpu, .bool x.needs, .slice Ar x.runs.length cr] 92 (0, 0)) := by rw [hwo, hz]; exact heap_alloc_new _ _
   have hLo : LookAt B wo pb v P why1 (rowsW P (xs.take n) ++ L) := by rw [hwo]; exact HL.out.new ((Keep.refl _ _).alloc _)
   have hKo : Keep (fun k => k = pb) wb wo := by rw [hwo]; exact HK.out.alloc _
   have hsro : SliceAt B 4 RunAt wo (.slice Ar x.runs.length cr) x.runs := HS2.out.below (flat_stays _ _ _) (by rw [hwo]; exact ((Keep.refl (fun _ => False) _).alloc _).below (by omega) (fun _ _ h => h))
   have HSR := Lib.hid hsro
   have hzp2 : z ≠ pb := by omega
   have HX0 := Lib.hid hx0
   have HKo := Lib.hid hKo
   have HLo := Lib.hid hLo
   clear hwo hz hx0 hKo hLo q0 q1 q2 q3 HL HK hsro HS2
   go_loopw [23] (fun j wq => ∃ k : Nat, k ≤ n ∧ j = .int .i64 k ∧ LookAt B wq pb v P why1 ((xs.take k).flatMap (fun y => say (!decide (x.cpu = y.cpu)) (max x.pos y.pos) 1) ++ (rowsW P (xs.take n) ++ L)) ∧ Keep (fun i => i = pb) wo wq) (fun j _ => n - (intOf j).toNat)
   case atStart => exact ⟨0, Nat.zero_le _, rfl, HLo.out, Keep.refl _ _⟩
   case round =>
   obtain ⟨k, hkn, rfl, hL2, hk2⟩ := hrel
   have hx2 := (hk2.block z (heap_lt HX0.out) hzp2).trans HX0.out
   have x0 : wr.cell? ⟨z, 0, none⟩ = some (.int .i64 x.pos) := by rw [cell_of_row _ _ _ _ _ _ hx2]; rfl
   have x1 : wr.cell? ⟨z, 1, none⟩ = some (.int .u64 x.cpu) := by rw [cell_of_row _ _ _ _ _ _ hx2]; rfl
   have x3 : wr.cell? ⟨z, 3, none⟩ = some (.slice Ar x.runs.length cr) := by rw [cell_of_row _ _ _ _ _ _ hx2]; rfl
   have hzr : z < wr.heap.size := heap_lt hx2
   by_cases hlt3 : k < n
   · obtain ⟨y, hy⟩ : ∃ y, xs[k]? = some y := ⟨_, List.getElem?_eq_getElem (by omega)⟩
     have hkw := (HKb.out.trans HKo.out (fun _ _ e => e)).trans hk2 (fun _ _ e => e)
     have hsz2 := hkw.size
     obtain ⟨uy, hc, ⟨Ay, cy, rfl, _⟩, hpy, hcy⟩ := (lane_stays B) _ _ _ _ _ (hkw.below (B := B) (by omega) (fun _ hi e => by omega)) hbl (HCS.out k y hy)
     have y0 := hc.c0
     have y1 := hc 1 _ rfl
     have y2 := hc 2 _ rfl
     have y3 := hc 3 _ rfl
     unfold lim at hcy
     have hbl2 : bl < wr.heap.size := by omega
     have HL2 := Lib.hid hL2
     have HK2 := Lib.hid hk2
     have HY := Lib.hid hy
     have HV := Lib.hid (show ((x.cpu : Int) != (y.cpu : Int)) = !decide (x.cpu = y.cpu) by
      by_cases he : x.cpu = y.cpu
      · simp [he]
      · have : ¬ (x.cpu : Int) = y.cpu := by omega
        simp [he, this])
     clear hL2 hk2 hkw hc hy hx2
     go_wp2_with fail
     all_goals
      rw [HV.out]
      refine (must_any _ _ 1 81 (HL2.out.new ((Keep.refl _ _).alloc _)) rfl).mono ?_
      rintro e w2 ⟨rfl, hL3, hk3⟩
      have HL3 := Lib.hid hL3
      have HK3 := Lib.hid hk3
      clear hL3 hk3
      go_wp2
      go_roundw
      case rel =>
       refine ⟨k + 1, by omega, by go_num, HL3.out.congr fun p => ?_, HK2.out.trans (((Keep.refl _ _).alloc _).trans HK3.out (fun _ _ e => e)) (fun _ _ e => e)⟩
       rw [take_at HY.out]
       first
        | (have hm : max x.pos y.pos = y.pos := by omega
           simp [hm, or_assoc, or_comm, or_left_comm])
        | (have hm : max x.pos y.pos = x.pos := by omega
           simp [hm, or_assoc, or_comm, or_left_comm])
      case measure => simp [intOf]; omega
   · obtain rfl : k = n := by omega
     obtain ⟨wm, hwm⟩ : ∃ u : World, u = wr := ⟨_, rfl⟩
     rw [← hwm] at hL2 hk2 hx2 x0 x1 x3 hzr ⊢
     have HL2 := Lib.hid hL2
     have HK2 := Lib.hid hk2
     have HX2 := Lib.hid hx2
     clear hwm wr hL2 hk2 hx2 HX0 HLo
     go_wp2
     clear x0 x1 x3
     go_loopw [43] (fun j wq => ∃ m : Nat, m ≤ x.runs.length ∧ j = .int .i64 m ∧ LookAt B wq pb v P why1 ((x.runs.take m).flatMap (runW P x.needs) ++ ((xs.take k).flatMap (fun y => say (!decide (x.cpu = y.cpu)) (max x.pos y.pos) 1) ++ (rowsW P (xs.take k) ++ L))) ∧ Keep (fun i => i = pb) wm wq) (fun j _ => x.runs.length - (intOf j).toNat)
     case atStart => exact ⟨0, Nat.zero_le _, rfl, HL2.out, Keep.refl _ _⟩
     case round =>
     obtain ⟨m, hm, rfl, hL3, hk3⟩ := hrel
     by_cases hlt4 : m < x.runs.length
     · obtain ⟨Ar', cr', e, _, _, hlr⟩ := HSR.out
       cases e
       obtain ⟨gl, go_, rfl, hgl, hgs⟩ := hlr (by omega)
       obtain ⟨rr, hrr⟩ : ∃ rr, x.runs[m]? = some rr := ⟨_, List.getElem?_eq_getElem hlt4⟩
       have hk4 := HK2.out.trans hk3 (fun _ _ e => e)
       have hbo : B ≤ wo.heap.size := by have := HKb.out.size; have := HKo.out.size; omega
       have hsz3 := hk4.size
       obtain ⟨hc, hok⟩ := (flat_stays B _ _) _ _ _ _ _ (hk4.below (B := B) hbo (fun _ hi e => by omega)) hgl (hgs m rr hrr)
       have q0 := hc.c0
       have q1 := hc 1 _ rfl
       have q2 := hc 2 _ rfl
       have q3 := hc 3 _ rfl
       obtain ⟨hrp, hrb, hrpe, hrs⟩ := hok
       unfold lim at hrpe hrb
       have hgr : gl < wr.heap.size := by omega
       have hsm : rr.subj.size ≤ maxLen := by unfold Short at hrs; unfold maxLen; omega
       have HR := Lib.hid hrr
       have HL3 := Lib.hid hL3
       have HK3 := Lib.hid hk3
       have HX3 := Lib.hid ((hk3.block z (heap_lt HX2.out) hzp2).trans HX2.out)
       have HB3 := Lib.hid ((((HKo.out.trans HK2.out (fun _ _ e => e)).trans hk3 (fun _ _ e => e)).block zb (heap_lt HB0.out) hzp).trans HB0.out)
       have x2 : wr.cell? ⟨z, 2, none⟩ = some (.bool x.needs) := by rw [cell_of_row _ _ _ _ _ _ HX3.out]; rfl
       have hzr3 : z < wr.heap.size := heap_lt HX3.out
       have hzr4 : z < wr.heap.size + 1 := by omega
       have hbr3 : zb < wr.heap.size := heap_lt HB3.out
       clear hL3 hk3 hk4 hc hrr hgs hlr
       have HPE := Lib.hid (show ((rr.per : Int) == 0) = decide (rr.per = 0) by
        by_cases he : rr.per = 0
        · simp [he]
        · have : ¬ (rr.per : Int) = 0 := by omega
          simp [he])
       obtain ⟨nd, hnd⟩ : ∃ nd, nd = x.needs := ⟨_, rfl⟩
       rw [← hnd] at x2
       have HND := Lib.hid hnd
       clear hnd
       have HOK := Lib.hid (show (nd || decide (rr.per = 0)) = (x.needs || decide (rr.per = 0)) by rw [HND.out])
       cases nd
       · go_wp2_with fail
         rw [HPE.out]
         obtain ⟨wc, hwc⟩ : ∃ u : World, u = wr.alloc (Obj.cells #[.int .i64 rr.pos, .string rr.subj, .int .u64 rr.bud, .int .u64 rr.per] 108) := ⟨_, rfl⟩
         rw [← hwc]
         obtain ⟨zr, hzr5⟩ : ∃ u, u = wr.heap.size := ⟨_, rfl⟩
         rw [← hzr5]
         have hr0 : wc.heap[zr]? = some (.cells #[.int .i64 rr.pos, .string rr.subj, .int .u64 rr.bud, .int .u64 rr.per] 108 (0, 0)) := by rw [hwc, hzr5]; exact heap_alloc_new _ _
         have hkc : Keep (fun _ => False) wr wc := by rw [hwc]; exact (Keep.refl _ _).alloc _
         have hLc := HL3.out.new hkc
         have hrp2 : zr ≠ pb := by have := HKb.out.size; have := HKo.out.size; omega
         refine (must_any _ rr.pos 0 5 hLc rfl).mono ?_
         rintro e w3 ⟨rfl, hL4, hk4⟩
         have hkwx : Keep (fun i => i = pb) wr w3 := (hkc.mono (T := fun i => i = pb) (fun i _ h => h.elim)).trans hk4 (fun _ _ e => e)
         have hr4 := (hk4.block zr (heap_lt hr0) hrp2).trans hr0
         have hb4 := (hkwx.block zb hbr3 hzp).trans HB3.out
         have r0 : w3.cell? ⟨zr, 0, none⟩ = some (.int .i64 rr.pos) := by rw [cell_of_row _ _ _ _ _ _ hr4]; rfl
         have r1 : w3.cell? ⟨zr, 1, none⟩ = some (.string rr.subj) := by rw [cell_of_row _ _ _ _ _ _ hr4]; rfl
         have b3 : w3.cell? ⟨zb, 3, none⟩ = some (.map (some (z0 + 4))) := by rw [cell_of_row _ _ _ _ _ _ hb4]; rfl
         have hzr6 : zr < w3.heap.size := heap_lt hr4
         have hzb6 : zb < w3.heap.size := heap_lt hb4
         have hkall : Keep (fun i => i = pb) w w3 := (HKb.out.trans HKo.out (fun _ _ e => e)).trans ((HK2.out.trans HK3.out (fun _ _ e => e)).trans hkwx (fun _ _ e => e)) (fun _ _ e => e)
         have hasq : ∀ w', Keep (fun _ => False) w3 w' → Calls Tryz.prog 74 #[.map (some (z0 + 4)), .string rr.subj] w' fun e w2 => e = .returned (.bool (has P.subs rr.subj)) ∧ w' = w2 := fun w' hk => by
          have hk5 : Keep (fun i => i = pb) w w' := hkall.trans hk (fun _ _ e => e.elim)
          exact has_any (HF.out.keep hk5 (fun k e _ => by subst e; exact ⟨by omega, by simp [blocksOf]; omega⟩)) 3 (z0 + 4) P.subs rfl rfl rr.subj hsm
         have HH := Lib.hid hasq
         have HC : Hid (∀ w', Keep (fun i => i = pb) w3 w' → w'.cell? ⟨zr, 0, none⟩ = some (.int .i64 rr.pos) ∧ w'.cell? ⟨zr, 1, none⟩ = some (.string rr.subj) ∧ w'.cell? ⟨zb, 3, none⟩ = some (.map (some (z0 + 4)))) := fun w' hk =>
          ⟨(hk.cell (p := ⟨zr, 0, none⟩) hzr6 hrp2).trans r0, (hk.cell (p := ⟨zr, 1, none⟩) hzr6 hrp2).trans r1, (hk.cell (p := ⟨zb, 3, none⟩) hzb6 hzp).trans b3⟩
         have HLd := Lib.hid (hL4.new ((Keep.refl _ w3).drew))
         have HKW := Lib.hid hkwx
         clear hwc hzr5 hr0 hkc hLc hL4 hk4 hkwx hr4 hb4 hkall hasq q0 q1 q2 q3 x2
         by_cases hse : rr.subj = ByteArray.empty
         · have hd1 : (rr.subj.toList == ByteArray.toList { data := #[] }) = true := by rw [bytes_beq]; exact decide_eq_true hse
           have hd2 : (rr.subj.toList == []) = true := by rw [toList_nil] at hd1; exact hd1
           have HSE := Lib.hid hse
           clear hse
           go_upto_region 13 with fail
           refine wp_region_still_tail 13 (by kernel_rfl) (by kernel_rfl) ?_
           simp only [List.take_succ_cons, List.take_zero, List.drop_succ_cons, List.drop_zero]
           iterate 13
            with_reducible refine wpStill_step (fun K hK => ?_)
            go_simp
            with_reducible refine hK _ ?_
            clear hK K
           with_reducible refine wpStill_nil ?_
           with_reducible refine wpList_step (fun K hK => ?_)
           go_simp
           refine (must_any _ _ 2 80 HLd.out rfl).mono ?_
           rintro e w2 ⟨rfl, hL5, hk5⟩
           with_reducible refine hK _ _ (wpList_nil ?_)
           clear hK K
           with_reducible apply inblock_normal
           have HL5 := Lib.hid hL5
           have HK5 := Lib.hid hk5
           clear hL5 hk5
           go_wp2
           go_roundw
           case rel =>
            refine ⟨m + 1, by omega, by go_num, HL5.out.congr fun p => ?_, (HK3.out.trans HKW.out (fun _ _ e => e)).trans (((Keep.refl _ _).drew).trans HK5.out (fun _ _ e => e)) (fun _ _ e => e)⟩
            rw [take_at HR.out]
            have hse2 : decide (rr.subj = ByteArray.empty) = true := decide_eq_true HSE.out
            have hok2 := HOK.out
            simp only [Bool.false_or, Bool.true_or] at hok2
            simp only [runW, ← hok2, hse2, Bool.true_or, List.mem_append, List.flatMap_append, List.flatMap_cons, List.flatMap_nil, List.append_nil]
            constructor
            · rintro (h | h | h | h)
              · exact .inl (.inr (.inr h))
              · exact .inl (.inr (.inl h))
              · exact .inl (.inl h)
              · exact .inr h
            · rintro ((h | h | h) | h)
              · exact .inr (.inr (.inl h))
              · exact .inr (.inl h)
              · exact .inl h
              · exact .inr (.inr (.inr h))
           case measure => simp [intOf]; omega
         · have hd1 : (rr.subj.toList == ByteArray.toList { data := #[] }) = false := by rw [bytes_beq]; exact decide_eq_false hse
           have hd2 : (rr.subj.toList == []) = false := by rw [toList_nil] at hd1; exact hd1
           have HSE := Lib.hid hse
           clear hse
           go_upto_region 13 with fail
           go_region_held3 (fun w' => w'.cell? ⟨zr, 0, none⟩ = some (.int .i64 rr.pos) ∧ w'.cell? ⟨zr, 1, none⟩ = some (.string rr.subj) ∧ w'.cell? ⟨zb, 3, none⟩ = some (.map (some (z0 + 4))))
            (first | exact HC.out _ ((Keep.refl _ w3).drew) | exact HC.out _ (((Keep.refl _ w3).drew).trans (by assumption) (fun _ _ e => e)))
            (first
              | (go_at_call 74; refine (HH.out _ ((Keep.refl _ w3).drew)).mono ?_; rintro e w2 ⟨rfl, rfl⟩)
              | (go_at_call 73; refine (must_any _ _ 2 80 HLd.out rfl).mono ?_; rintro e w2 ⟨rfl, hL5, hk5⟩))
           have HL5 := Lib.hid hL5
           have HK5 := Lib.hid hk5
           clear hL5 hk5
           go_wp2
           go_roundw
           case rel =>
            refine ⟨m + 1, by omega, by go_num, HL5.out.congr fun p => ?_, (HK3.out.trans HKW.out (fun _ _ e => e)).trans (((Keep.refl _ _).drew).trans HK5.out (fun _ _ e => e)) (fun _ _ e => e)⟩
            rw [take_at HR.out]
            have hse2 : decide (rr.subj = ByteArray.empty) = false := decide_eq_false HSE.out
            have hok2 := HOK.out
            simp only [Bool.false_or, Bool.true_or] at hok2
            simp only [runW, ← hok2, hse2, Bool.false_or, List.mem_append, List.flatMap_append, List.flatMap_cons, List.flatMap_nil, List.append_nil]
            constructor
            · rintro (h | h | h | h)
              · exact .inl (.inr (.inr h))
              · exact .inl (.inr (.inl h))
              · exact .inl (.inl h)
              · exact .inr h
            · rintro ((h | h | h) | h)
              · exact .inr (.inr (.inl h))
              · exact .inr (.inl h)
              · exact .inl h
              · exact .inr (.inr (.inr h))
           case measure => simp [intOf]; omega
       · go_wp2_with fail
         obtain ⟨wc, hwc⟩ : ∃ u : World, u = wr.alloc (Obj.cells #[.int .i64 rr.pos, .string rr.subj, .int .u64 rr.bud, .int .u64 rr.per] 108) := ⟨_, rfl⟩
         rw [← hwc]
         obtain ⟨zr, hzr5⟩ : ∃ u, u = wr.heap.size := ⟨_, rfl⟩
         rw [← hzr5]
         have hr0 : wc.heap[zr]? = some (.cells #[.int .i64 rr.pos, .string rr.subj, .int .u64 rr.bud, .int .u64 rr.per] 108 (0, 0)) := by rw [hwc, hzr5]; exact heap_alloc_new _ _
         have hkc : Keep (fun _ => False) wr wc := by rw [hwc]; exact (Keep.refl _ _).alloc _
         have hLc := HL3.out.new hkc
         have hrp2 : zr ≠ pb := by have := HKb.out.size; have := HKo.out.size; omega
         refine (must_any _ rr.pos 0 5 hLc rfl).mono ?_
         rintro e w3 ⟨rfl, hL4, hk4⟩
         have hkwx : Keep (fun i => i = pb) wr w3 := (hkc.mono (T := fun i => i = pb) (fun i _ h => h.elim)).trans hk4 (fun _ _ e => e)
         have hr4 := (hk4.block zr (heap_lt hr0) hrp2).trans hr0
         have hb4 := (hkwx.block zb hbr3 hzp).trans HB3.out
         have r0 : w3.cell? ⟨zr, 0, none⟩ = some (.int .i64 rr.pos) := by rw [cell_of_row _ _ _ _ _ _ hr4]; rfl
         have r1 : w3.cell? ⟨zr, 1, none⟩ = some (.string rr.subj) := by rw [cell_of_row _ _ _ _ _ _ hr4]; rfl
         have b3 : w3.cell? ⟨zb, 3, none⟩ = some (.map (some (z0 + 4))) := by rw [cell_of_row _ _ _ _ _ _ hb4]; rfl
         have hzr6 : zr < w3.heap.size := heap_lt hr4
         have hzb6 : zb < w3.heap.size := heap_lt hb4
         have hkall : Keep (fun i => i = pb) w w3 := (HKb.out.trans HKo.out (fun _ _ e => e)).trans ((HK2.out.trans HK3.out (fun _ _ e => e)).trans hkwx (fun _ _ e => e)) (fun _ _ e => e)
         have hasq : ∀ w', Keep (fun _ => False) w3 w' → Calls Tryz.prog 74 #[.map (some (z0 + 4)), .string rr.subj] w' fun e w2 => e = .returned (.bool (has P.subs rr.subj)) ∧ w' = w2 := fun w' hk => by
          have hk5 : Keep (fun i => i = pb) w w' := hkall.trans hk (fun _ _ e => e.elim)
          exact has_any (HF.out.keep hk5 (fun k e _ => by subst e; exact ⟨by omega, by simp [blocksOf]; omega⟩)) 3 (z0 + 4) P.subs rfl rfl rr.subj hsm
         have HH := Lib.hid hasq
         have HC : Hid (∀ w', Keep (fun i => i = pb) w3 w' → w'.cell? ⟨zr, 0, none⟩ = some (.int .i64 rr.pos) ∧ w'.cell? ⟨zr, 1, none⟩ = some (.string rr.subj) ∧ w'.cell? ⟨zb, 3, none⟩ = some (.map (some (z0 + 4)))) := fun w' hk =>
          ⟨(hk.cell (p := ⟨zr, 0, none⟩) hzr6 hrp2).trans r0, (hk.cell (p := ⟨zr, 1, none⟩) hzr6 hrp2).trans r1, (hk.cell (p := ⟨zb, 3, none⟩) hzb6 hzp).trans b3⟩
         have HLd := Lib.hid (hL4.new ((Keep.refl _ w3).drew))
         have HKW := Lib.hid hkwx
         clear hwc hzr5 hr0 hkc hLc hL4 hk4 hkwx hr4 hb4 hkall hasq q0 q1 q2 q3 x2
         by_cases hse : rr.subj = ByteArray.empty
         · have hd1 : (rr.subj.toList == ByteArray.toList { data := #[] }) = true := by rw [bytes_beq]; exact decide_eq_true hse
           have hd2 : (rr.subj.toList == []) = true := by rw [toList_nil] at hd1; exact hd1
           have HSE := Lib.hid hse
           clear hse
           go_upto_region 13 with fail
           refine wp_region_still_tail 13 (by kernel_rfl) (by kernel_rfl) ?_
           simp only [List.take_succ_cons, List.take_zero, List.drop_succ_cons, List.drop_zero]
           iterate 13
            with_reducible refine wpStill_step (fun K hK => ?_)
            go_simp
            with_reducible refine hK _ ?_
            clear hK K
           with_reducible refine wpStill_nil ?_
           with_reducible refine wpList_step (fun K hK => ?_)
           go_simp
           refine (must_any _ _ 2 80 HLd.out rfl).mono ?_
           rintro e w2 ⟨rfl, hL5, hk5⟩
           with_reducible refine hK _ _ (wpList_nil ?_)
           clear hK K
           with_reducible apply inblock_normal
           have HL5 := Lib.hid hL5
           have HK5 := Lib.hid hk5
           clear hL5 hk5
           go_wp2
           go_roundw
           case rel =>
            refine ⟨m + 1, by omega, by go_num, HL5.out.congr fun p => ?_, (HK3.out.trans HKW.out (fun _ _ e => e)).trans (((Keep.refl _ _).drew).trans HK5.out (fun _ _ e => e)) (fun _ _ e => e)⟩
            rw [take_at HR.out]
            have hse2 : decide (rr.subj = ByteArray.empty) = true := decide_eq_true HSE.out
            have hok2 := HOK.out
            simp only [Bool.false_or, Bool.true_or] at hok2
            simp only [runW, ← hok2, hse2, Bool.true_or, List.mem_append, List.flatMap_append, List.flatMap_cons, List.flatMap_nil, List.append_nil]
            constructor
            · rintro (h | h | h | h)
              · exact .inl (.inr (.inr h))
              · exact .inl (.inr (.inl h))
              · exact .inl (.inl h)
              · exact .inr h
            · rintro ((h | h | h) | h)
              · exact .inr (.inr (.inl h))
              · exact .inr (.inl h)
              · exact .inl h
              · exact .inr (.inr (.inr h))
           case measure => simp [intOf]; omega
         · have hd1 : (rr.subj.toList == ByteArray.toList { data := #[] }) = false := by rw [bytes_beq]; exact decide_eq_false hse
           have hd2 : (rr.subj.toList == []) = false := by rw [toList_nil] at hd1; exact hd1
           have HSE := Lib.hid hse
           clear hse
           go_upto_region 13 with fail
           go_region_held3 (fun w' => w'.cell? ⟨zr, 0, none⟩ = some (.int .i64 rr.pos) ∧ w'.cell? ⟨zr, 1, none⟩ = some (.string rr.subj) ∧ w'.cell? ⟨zb, 3, none⟩ = some (.map (some (z0 + 4))))
            (first | exact HC.out _ ((Keep.refl _ w3).drew) | exact HC.out _ (((Keep.refl _ w3).drew).trans (by assumption) (fun _ _ e => e)))
            (first
              | (go_at_call 74; refine (HH.out _ ((Keep.refl _ w3).drew)).mono ?_; rintro e w2 ⟨rfl, rfl⟩)
              | (go_at_call 73; refine (must_any _ _ 2 80 HLd.out rfl).mono ?_; rintro e w2 ⟨rfl, hL5, hk5⟩))
           have HL5 := Lib.hid hL5
           have HK5 := Lib.hid hk5
           clear hL5 hk5
           go_wp2
           go_roundw
           case rel =>
            refine ⟨m + 1, by omega, by go_num, HL5.out.congr fun p => ?_, (HK3.out.trans HKW.out (fun _ _ e => e)).trans (((Keep.refl _ _).drew).trans HK5.out (fun _ _ e => e)) (fun _ _ e => e)⟩
            rw [take_at HR.out]
            have hse2 : decide (rr.subj = ByteArray.empty) = false := decide_eq_false HSE.out
            have hok2 := HOK.out
            simp only [Bool.false_or, Bool.true_or] at hok2
            simp only [runW, ← hok2, hse2, Bool.false_or, List.mem_append, List.flatMap_append, List.flatMap_cons, List.flatMap_nil, List.append_nil]
            constructor
            · rintro (h | h | h | h)
              · exact .inl (.inr (.inr h))
              · exact .inl (.inr (.inl h))
              · exact .inl (.inl h)
              · exact .inr h
            · rintro ((h | h | h) | h)
              · exact .inr (.inr (.inl h))
              · exact .inr (.inl h)
              · exact .inl h
              · exact .inr (.inr (.inr h))
           case measure => simp [intOf]; omega
     · obtain rfl : m = x.runs.length := by omega
       rw [List.take_length] at hL3
       have HL3 := Lib.hid hL3
       have HK3 := Lib.hid hk3
       clear hL3 hk3
       go_wp2
       go_roundw
       case rel =>
        refine ⟨k + 1, by omega, by go_num, HL3.out.congr fun p => ?_, (HKo.out.trans HK2.out (fun _ _ e => e)).trans HK3.out (fun _ _ e => e)⟩
        rw [take_at HX.out]
        simp only [List.mem_append, mem_rowsW_snoc]
        rw [show (p ∈ (xs.take k).flatMap (fun y => say (!decide (x.cpu = y.cpu)) (max x.pos y.pos) 1)) ↔ ∃ y ∈ xs.take k, p ∈ say (!decide (x.cpu = y.cpu)) (max x.pos y.pos) 1 from List.mem_flatMap]
        constructor
        · rintro (h | h | h | h)
          · exact .inl (.inr (.inr h))
          · exact .inl (.inr (.inl h))
          · exact .inl (.inl h)
          · exact .inr h
        · rintro ((h | h | h) | h)
          · exact .inr (.inr (.inl h))
          · exact .inr (.inl h)
          · exact .inl h
          · exact .inr (.inr (.inr h))
       case measure => simp [intOf]; omega
 · obtain rfl : n = xs.length := by omega
   rw [List.take_length] at hL
   have HL := Lib.hid hL
   have HK := Lib.hid hk
   clear hL hk
   go_wp2
   go_end0
   exact ⟨rfl, HL.out, HKb.out.trans HK.out (fun _ _ e => e)⟩
end Go.Proofs.YtpblcjipmoblnaaGreatDoor
