/- NamedP NamedW NamedS -/
import Derived.Test.YtpblcjipmoblnaaGreatDoorParse
import Derived.Test.YtpblcjipmoblnaaGreatDoorFormatU
import Derived.Test.YtpblcjipmoblnaaGreatDoorLegal
set_option maxRecDepth 100000
set_option maxHeartbeats 4000000
set_option linter.unusedVariables false
set_option linter.unusedSimpArgs false
namespace Go.Proofs.YtpblcjipmoblnaaGreatDoor
open Go.RowKit Go.IntWalk Go.Lib Go.Sort
def numeralOf (p : ByteArray) : Bool := match parseUintB 64 p.data.toList with
 | .ok u => decide ((⟨(decDigits u).toArray⟩ : ByteArray) = p)
 | _ => false
theorem named_parse {cls : Nat → Nat} {w : World} {p : ByteArray} (hT : ScanT cls w) (hp : p.size ≤ 281474976710656) (a : Act) (hsz : a.tmps.size = 41) (h5 : At a 5 (.string p)) (Q : Exit → Act → World → Prop)
 (hQ : ∀ a' w' (u : Nat) er, Agree (fun i => i == 6 || i == 7 || (decide (27 ≤ i) && decide (i ≤ 31))) a a' → At a' 6 (.int .u64 u) → At a' 7 er → u < 18446744073709551616 → ((er = .nilIface ∧ parseUintB 64 p.data.toList = .ok u) ∨ ((∃ N, er = .iface 293 (.pointer (some ⟨N, 0, none⟩))) ∧ ∀ u, parseUintB 64 p.data.toList ≠ .ok u)) → Below w.heap.size w w' → Q .normal a' w') :
 (codeC Tryz.f121 [1, 1, 1, 0, 1, 0, 0, 1, 1, 0, 0, 1, 0]).wp Tryz.prog Q a w := by
 obtain ⟨e3, h3, h3v⟩ := hT.e3
 obtain ⟨e4, h4, h4v⟩ := hT.e4
 have HC := Lib.hid (parse_any p hp w h3 h3v h4 h4v)
 clear h3 h4 h3v h4v hT
 conv => arg 2; whnf
 refine Code.wp_only (R := fun a' w' => Agree (fun i => i == 6 || i == 7 || (decide (27 ≤ i) && decide (i ≤ 31))) a a' ∧ ∃ (u : Nat) (er : Value), At a' 6 (.int .u64 u) ∧ At a' 7 er ∧ u < 18446744073709551616 ∧ ((er = .nilIface ∧ parseUintB 64 p.data.toList = .ok u) ∨ ((∃ N, er = .iface 293 (.pointer (some ⟨N, 0, none⟩))) ∧ ∀ u, parseUintB 64 p.data.toList ≠ .ok u)) ∧ Below w.heap.size w w') ?_ (fun a4 w4 ⟨h1, u, er, h2, h3, h4, h5, h6⟩ => hQ a4 w4 u er h1 h2 h3 h4 h5 h6)
 clear hQ
 obtain ⟨T, d⟩ := a
 refine wp_region_lit ?_
 with_reducible refine st ?_
 with_reducible refine wpList_step (fun K hK => ?_)
 go_simp
 refine HC.out.mono ?_
 rintro e w2 ⟨u, er, rfl, hu, hcase, hb⟩
 have HCA := Lib.hid hcase
 have HB := Lib.hid hb
 have HU := Lib.hid hu
 clear hcase hb hu
 with_reducible refine hK _ _ ?_
 clear hK K
 iterate 5 with_reducible refine st ?_
 with_reducible refine wpList_nil ?_
 refine ⟨rfl, ag, u, er, aq, aq, HU.out, HCA.out, HB.out⟩
theorem named_same {cls : Nat → Nat} {w : World} {p : ByteArray} (hT : ScanT cls w) (a : Act) (hsz : a.tmps.size = 41) (h5 : At a 5 (.string p)) {u : Nat} {er : Value} (h6 : At a 6 (.int .u64 u)) (h7 : At a 7 er) (hu : u < 18446744073709551616) (hc : (er = .nilIface ∧ parseUintB 64 p.data.toList = .ok u) ∨ ((∃ N, er = .iface 293 (.pointer (some ⟨N, 0, none⟩))) ∧ ∀ u, parseUintB 64 p.data.toList ≠ .ok u)) (Q : Exit → Act → World → Prop)
 (hQ : ∀ a' w', Agree (fun i => (decide (32 ≤ i) && decide (i ≤ 39))) a a' → At a' 39 (.bool (!numeralOf p)) → Below w.heap.size w w' → Q .normal a' w') :
 (codeC Tryz.f121 [1, 1, 1, 0, 1, 0, 0, 1, 1, 0, 0, 1, 1, 0]).wp Tryz.prog Q a w := by
 have HF := Lib.hid (formatUint_any u hu w hT.pow)
 clear hT
 conv => arg 2; whnf
 refine Code.wp_only (R := fun a' w' => Agree (fun i => (decide (32 ≤ i) && decide (i ≤ 39))) a a' ∧ At a' 39 (.bool (!numeralOf p)) ∧ Below w.heap.size w w') ?_ (fun a4 w4 h => hQ a4 w4 h.1 h.2.1 h.2.2)
 clear hQ
 have hun := undef_eq
 rcases hc with ⟨rfl, hok⟩ | ⟨⟨N, rfl⟩, hno⟩
 · obtain ⟨x, hx⟩ : ∃ x, x = (⟨(decDigits u).toArray⟩ : ByteArray) := ⟨_, rfl⟩
   obtain ⟨b, hb⟩ : ∃ b, b = decide (x = p) := ⟨_, rfl⟩
   have HN : Hid (numeralOf p = b) := Lib.hid (by unfold numeralOf; rw [hok, hb, hx])
   have w1 : (x.toList == p.toList) = b := by rw [hb]; exact bytes_beq _ _
   have w2 : (x.toList != p.toList) = !b := by rw [← w1]; rfl
   rw [← hx] at HF
   clear hx hb hok
   obtain ⟨T, d⟩ := a
   refine wp_region_lit ?_
   iterate 4 with_reducible refine st ?_
   with_reducible refine wpList_step (fun K hK => ?_)
   go_simp
   refine HF.out.mono ?_
   rintro e w2 ⟨rfl, k, os, rfl⟩
   have HB : Hid (Below w.heap.size w (grow (w.drewN k) os)) := Lib.hid ⟨rfl, rfl, rfl, by show _ ≤ (w.heap ++ os).size; simp, fun j hj => by show (w.heap ++ os)[j]? = _; exact Array.getElem?_append_left hj⟩
   with_reducible refine hK _ _ ?_
   clear hK K
   iterate 3 with_reducible refine st ?_
   with_reducible refine wpList_nil ?_
   refine ⟨rfl, ?_, ?_, ?_⟩
   · exact ag
   · rw [HN.out]
     exact aq
   · exact HB.out
 · have HN : Hid (numeralOf p = false) := Lib.hid (by unfold numeralOf; cases hq : parseUintB 64 p.data.toList with | ok u => exact absurd hq (hno u) | _ => rfl)
   clear hno HF
   obtain ⟨T, d⟩ := a
   refine wp_region_lit ?_
   iterate 8 with_reducible refine st ?_
   with_reducible refine wpList_nil ?_
   refine ⟨rfl, ?_, ?_, ?_⟩
   · exact ag
   · rw [HN.out, Bool.not_false]
     exact aq
   · exact Below.refl _ _
theorem white_tab {w : World} (h : WhiteG w) : WhiteTab 7 w := by
 obtain ⟨p, q, h1, h2, h5⟩ := h
 exact ⟨p.1, p.2, q.1, q.2, h1, h2 0 _ rfl, h2 1 _ rfl, h2 2 _ rfl, h5⟩
def dot : ByteArray := ⟨#[46]⟩
def partsOf (s : ByteArray) : List ByteArray := splitB dot 0 (countB s dot) s
theorem parts_len (s : ByteArray) : (partsOf s).length = countB s dot + 1 := splitB_all dot (by decide) 0 _ s rfl
noncomputable def namedOf (cls : Nat → Nat) (s : ByteArray) : Bool := !(decide (64 < s.size) || !legalOf cls ((partsOf s).getD 0 ByteArray.empty)) && (partsOf s).tail.all numeralOf
theorem named_split {s : ByteArray} {w : World} (hs : s.size < 4294967281) {m : Int} (h6 : w.cell? ⟨6, 0, none⟩ = some (.int .i64 m)) (a : Act) (hsz : a.tmps.size = 41) (h0 : At a 0 (.string s)) (Q : Exit → Act → World → Prop)
 (hQ : ∀ a', Agree (fun i => i == 3 || i == 8 || i == 9) a a' → At a' 3 (.slice (some ⟨w.heap.size, 0, none⟩) (partsOf s).length (partsOf s).length) → Q .normal a' (w.alloc (.cells ((partsOf s).map Value.string).toArray 9))) :
 (codeC Tryz.f121 [1, 0]).wp Tryz.prog Q a w := by
 have hc := Tryz.strings_Split s dot m w hs h6 (by decide)
 rw [← parts_len] at hc
 have HC := Lib.hid hc
 clear hc h6
 conv => arg 2; whnf
 refine Code.wp_only (R := fun a' w' => Agree (fun i => i == 3 || i == 8 || i == 9) a a' ∧ At a' 3 (.slice (some ⟨w.heap.size, 0, none⟩) (partsOf s).length (partsOf s).length) ∧ w' = w.alloc (.cells ((partsOf s).map Value.string).toArray 9)) ?_ (fun a4 w4 h => by obtain ⟨h1, h2, rfl⟩ := h; exact hQ a4 h1 h2)
 clear hQ
 obtain ⟨n, hn⟩ : ∃ n, n = (partsOf s).length := ⟨_, rfl⟩
 rw [← hn] at HC ⊢
 clear hn
 obtain ⟨T, d⟩ := a
 refine wp_region_lit ?_
 with_reducible refine st ?_
 with_reducible refine wpList_step (fun K hK => ?_)
 go_simp
 refine (show Calls Tryz.prog 140 #[.string s, .string dot] w _ from HC.out).mono ?_
 rintro e w2 ⟨rfl, hw2⟩
 have HW := Lib.hid hw2
 clear hw2
 with_reducible refine hK _ _ ?_
 clear hK K
 with_reducible refine st ?_
 with_reducible refine wpList_nil ?_
 refine ⟨rfl, ag, aq, HW.out⟩
theorem named_head {cls : Nat → Nat} {s p : ByteArray} {w : World} (hS : ∀ w', Below w.heap.size w w' → ScanT cls w') (a : Act) (hsz : a.tmps.size = 41) (h0 : At a 0 (.string s)) {Z n : Nat} (hn : 1 ≤ n) (h3 : At a 3 (.slice (some ⟨Z, 0, none⟩) n n)) (q0 : w.cell? ⟨Z, 0, none⟩ = some (.string p)) (Q : Exit → Act → World → Prop)
 (hQ : ∀ a' w', Agree (fun i => decide (10 ≤ i) && decide (i ≤ 19)) a a' → At a' 19 (.bool (decide (64 < s.size) || !legalOf cls p)) → Below w.heap.size w w' → Q .normal a' w') :
 (codeC Tryz.f121 [1, 1, 0, 0]).wp Tryz.prog Q a w := by
 have HC := Lib.hid (legal_any (s := p) (fun w' hb => (hS w' hb).cls) (hS w (Below.refl _ _)).space (white_tab (hS w (Below.refl _ _)).white))
 clear hS
 conv => arg 2; whnf
 refine Code.wp_only (R := fun a' w' => Agree (fun i => decide (10 ≤ i) && decide (i ≤ 19)) a a' ∧ At a' 19 (.bool (decide (64 < s.size) || !legalOf cls p)) ∧ Below w.heap.size w w') ?_ (fun a4 w4 h => hQ a4 w4 h.1 h.2.1 h.2.2)
 clear hQ
 have hun := undef_eq
 obtain ⟨l, hl⟩ : ∃ l, l = legalOf cls p := ⟨_, rfl⟩
 rw [← hl] at HC ⊢
 clear hl
 by_cases b1 : 64 < s.size
 · have HB : Hid ((decide (64 < s.size) || !l) = true) := Lib.hid (by simp [b1])
   have b1i : (64 : Int) < (s.size : Int) := by omega
   clear HC
   obtain ⟨T, d⟩ := a
   refine wp_region_lit ?_
   iterate 10 with_reducible refine st ?_
   with_reducible refine wpList_nil ?_
   refine ⟨rfl, ?_, ?_, Below.refl _ _⟩
   · exact ag
   · rw [HB.out]
     exact aq
 · have HB : Hid ((decide (64 < s.size) || !l) = !l) := Lib.hid (by simp [b1])
   have b1i : ¬ (64 : Int) < (s.size : Int) := by omega
   have hn0 : 0 < n := hn
   have hn1 : (0 : Int) < (n : Int) := by omega
   obtain ⟨T, d⟩ := a
   refine wp_region_lit ?_
   iterate 7 with_reducible refine st ?_
   with_reducible refine wpList_step (fun K hK => ?_)
   go_simp
   refine HC.out.mono ?_
   rintro e w2 ⟨rfl, hb2⟩
   have HBL := Lib.hid hb2
   clear hb2
   with_reducible refine hK _ _ ?_
   clear hK K
   iterate 2 with_reducible refine st ?_
   with_reducible refine wpList_nil ?_
   refine ⟨rfl, ?_, ?_, HBL.out⟩
   · exact ag
   · rw [HB.out]
     exact aq
theorem named_scan {cls : Nat → Nat} {s : ByteArray} {w : World} (hS : ∀ w', Below w.heap.size w w' → ScanT cls w') (hs : s.size < 4294967281) (hsz2 : ∀ p ∈ partsOf s, p.size ≤ 281474976710656) :
 Calls Tryz.prog 121 #[.string s] w fun e w' => e = .returned (.bool (namedOf cls s)) ∧ Below w.heap.size w w' := by
 obtain ⟨m6, h6⟩ := (hS w (Below.refl _ _)).max
 obtain ⟨p0, tl, hpt⟩ : ∃ p0 tl, partsOf s = p0 :: tl := by
  cases h : partsOf s with
  | nil => have := parts_len s; rw [h] at this; simp at this
  | cons a b => exact ⟨a, b, rfl⟩
 have htl : tl.length ≤ 4294967296 := by have h1 := parts_len s; rw [hpt, List.length_cons] at h1; have := countB_le dot (by decide) s.size s (Nat.le_refl _); omega
 refine calls_abs Tryz.func121 Tryz.ntmps121 rfl (by simp) fun a hsz hdf hargs => ?_
 have h0 : At a 0 (.string s) := hargs 0 _ rfl
 clear hargs
 conv => arg 2; whnf
 refine wp_seq (Code.wp_only (R := fun a1 w1 => Agree (fun i => i == 2) a a1 ∧ w1 = w) ?_ ?_)
 · obtain ⟨T, d⟩ := a
   refine wp_region_lit ?_
   with_reducible refine st ?_
   with_reducible refine wpList_nil ?_
   refine ⟨rfl, ?_, rfl⟩
   exact ag
 rintro a1 w1 ⟨hA1, rfl⟩
 have hsz1 := hA1.size.trans hsz
 have j0 := hA1.at_ h0 rfl
 refine wp_seq (named_split hs h6 a1 hsz1 j0 _ (fun a2 hA2 k3 => ?_))
 rw [hpt] at k3 hsz2 ⊢
 obtain ⟨wo, hwo⟩ : ∃ x, x = w1.alloc (.cells ((p0 :: tl).map Value.string).toArray 9) := ⟨_, rfl⟩
 rw [← hwo]
 have hk : Keep (fun _ => False) w1 wo := by rw [hwo]; exact (Keep.refl _ _).alloc _
 have hb1 : Below w1.heap.size w1 wo := hk.below (Nat.le_refl _) (fun _ _ h => h)
 have hrow : ∀ j p, (p0 :: tl)[j]? = some p → wo.cell? ⟨w1.heap.size, j, none⟩ = some (.string p) := fun j p hj => by
  have hoo : wo.heap[w1.heap.size]? = some (.cells ((p0 :: tl).map Value.string).toArray 9) := by rw [hwo]; exact Array.getElem?_push_size
  rw [cell_of_row _ _ _ _ _ _ hoo, List.getElem?_toArray, List.getElem?_map, hj]; rfl
 have hzo : w1.heap.size < wo.heap.size := by rw [hwo]; simp
 obtain ⟨Z, hZ⟩ : ∃ z, z = w1.heap.size := ⟨_, rfl⟩
 rw [← hZ] at k3 hrow hzo
 clear hZ
 have hSo : ∀ w', Below wo.heap.size wo w' → ScanT cls w' := fun w' hb => hS w' (hb1.trans (hb.mono hk.size))
 have hsz2' := hA2.size.trans hsz1
 have j0 := hA2.at_ j0 rfl
 refine wp_seq (wp_seq (named_head hSo a2 hsz2' j0 (by simp) k3 (hrow 0 p0 rfl) _ (fun a3 w3 hA3 k19 hb3 => ?_)))
 have hdf3 : a3.defers = [] := hA3.defers.trans (hA2.defers.trans (hA1.defers.trans hdf))
 have hsz3 := hA3.size.trans hsz2'
 have e19 := k19.eval (by omega)
 obtain ⟨b, hb⟩ : ∃ b, b = (decide (64 < s.size) || !legalOf cls p0) := ⟨_, rfl⟩
 rw [← hb] at e19
 have HNM : Hid (namedOf cls s = (!b && tl.all numeralOf)) := Lib.hid (by unfold namedOf; rw [hpt, hb]; rfl)
 have hbw : Below w1.heap.size w1 w3 := hb1.trans (hb3.mono hk.size)
 clear hb k19 hwo
 cases b
 rotate_left
 · refine wp_cond_true e19 ?_
   refine wp_seq (Code.wp_only (R := fun a4 w4 => At a4 2 (.bool false) ∧ a4.tmps.size = 41 ∧ a4.defers = [] ∧ w4 = w3) ?_ ?_)
   · obtain ⟨T, d⟩ := a3
     refine wp_region_lit ?_
     with_reducible refine st ?_
     with_reducible refine wpList_nil ?_
     refine ⟨rfl, ?_, by simpa using hsz3, hdf3, rfl⟩
     exact aq
   rintro a4 w4 ⟨k2, hs4, hd4, rfl⟩
   refine wp_ret ?_
   repeat with_reducible apply then_ret
   exact post_tmp (t := 2) rfl k2 (by rw [hs4]; decide) hd4 ⟨by rw [HNM.out]; rfl, hbw⟩
 refine wp_cond_false e19 (wp_skip ?_)
 repeat with_reducible apply then_normal
 have k3 := hA3.at_ k3 rfl
 have hzo3 : Z < w3.heap.size := Nat.lt_of_lt_of_le hzo hb3.size
 have hcell : ∀ w4, Below wo.heap.size wo w4 → ∀ j p, tl[j]? = some p → w4.cell? ⟨Z, 1 + j, none⟩ = some (.string p) := fun w4 hb j p hj => (hb.cell (p := ⟨Z, 1 + j, none⟩) hzo).trans (hrow (1 + j) p (by rw [Nat.add_comm]; simpa using hj))
 clear hA3 hA2 hA1 hrow h6
 refine wp_seq (wp_seq (Code.wp_only (R := fun a4 w4 => Agree (fun i => i == 20 || i == 21 || i == 22 || i == 23) a3 a4 ∧ (∃ o, At a4 21 (.slice (some ⟨Z, o, none⟩) tl.length tl.length) ∧ (0 < tl.length → o = 1)) ∧ At a4 22 (.int .i64 tl.length) ∧ At a4 23 (.int .i64 0) ∧ w4 = w3) ?_ ?_))
 · obtain ⟨n, hn⟩ : ∃ n, n = tl.length := ⟨_, rfl⟩
   rw [← hn] at htl ⊢
   rw [List.length_cons, ← hn] at k3
   have hn1 : (1 : Int) ≤ (n : Int) + 1 := by omega
   clear hn hcell
   obtain ⟨T, d⟩ := a3
   refine wp_region_lit ?_
   iterate 4 with_reducible refine st ?_
   with_reducible refine wpList_nil ?_
   refine ⟨rfl, ?_, ⟨if n = 0 then 0 else 1, ?_, fun h => if_neg (by omega)⟩, ?_, ?_, rfl⟩
   · exact ag
   · have e : (Value.slice (if n = 0 then some ⟨Z, 0, none⟩ else some ⟨Z, 1, none⟩) n n) = .slice (some ⟨Z, if n = 0 then 0 else 1, none⟩) n n := by split <;> rfl
     rw [← e]
     exact At.ne (At.ne At.self (by decide)) (by decide)
   · (repeat (first | with_reducible exact At.self | with_reducible apply At.ne)); all_goals first | decide | exact At.self
   · (repeat (first | with_reducible exact At.self | with_reducible apply At.ne)); all_goals first | decide | exact At.self
 rintro a4 w4 ⟨hA4, ⟨o, k21, ho⟩, k22, k23, rfl⟩
 have hsz4 := hA4.size.trans hsz3
 refine wp_range tl.length (fun i => i == 5 || i == 6 || i == 7 || (decide (23 ≤ i) && decide (i ≤ 40))) (fun i => i == 5 || i == 6 || i == 7 || (decide (25 ≤ i) && decide (i ≤ 39))) (fun k a' w' => (tl.take k).all numeralOf = true ∧ Below wo.heap.size wo w') (by omega) k23 k22 (by decide) rfl
  (by intro j; simp; omega) (by omega) (by decide) (fun k a1 a2 w hA hI => hI) ⟨rfl, hb3⟩ ?_ ?_
 · rintro k a5 w5 hlt hA5 k_j ⟨hall, hb5⟩
   obtain rfl : o = 1 := ho (by omega)
   obtain ⟨p, hp⟩ : ∃ x, tl[k]? = some x := ⟨_, List.getElem?_eq_getElem hlt⟩
   have q0 := hcell w5 hb5 k p hp
   have k_s := hA5.at_ k21 rfl
   have hsz5 := hA5.size.trans hsz4
   have hdf5 : a5.defers = [] := hA5.defers.trans (hA4.defers.trans hdf3)
   have hk1 : (k : Int) < (tl.length : Int) := by omega
   have hps := hsz2 p (List.mem_cons_of_mem _ (List.mem_of_getElem? hp))
   have HP := Lib.hid hp
   have HALL := Lib.hid hall
   clear hp hall hcell
   refine wp_seq (Code.wp_only (R := fun a6 w6 => Agree (fun i => i == 5 || i == 25 || i == 26) a5 a6 ∧ At a6 5 (.string p) ∧ w6 = w5) ?_ ?_)
   · obtain ⟨T, d⟩ := a5
     refine wp_region_lit ?_
     iterate 3 with_reducible refine st ?_
     with_reducible refine wpList_nil ?_
     refine ⟨rfl, ag, aq, rfl⟩
   rintro a6 w6 ⟨hA6, k_5, rfl⟩
   have hsz6 := hA6.size.trans hsz5
   refine wp_seq (named_parse (hSo _ hb5) hps a6 hsz6 k_5 _ (fun a7 w7 u er hA7 k6 k7 hu hc hb7 => ?_))
   have hb7' : Below wo.heap.size wo w7 := hb5.trans (hb7.mono hb5.size)
   have hsz7 := hA7.size.trans hsz6
   refine wp_seq (named_same (hSo _ hb7') a7 hsz7 (hA7.at_ k_5 rfl) k6 k7 hu hc _ (fun a8 w8 hA8 k39 hb8 => ?_))
   have hb8' : Below wo.heap.size wo w8 := hb7'.trans (hb8.mono hb7'.size)
   have hsz8 := hA8.size.trans hsz7
   have hdf8 : a8.defers = [] := hA8.defers.trans (hA7.defers.trans (hA6.defers.trans hdf5))
   have e39 := k39.eval (by omega)
   cases hnu : numeralOf p with
   | true =>
    rw [hnu] at e39
    refine wp_cond_false e39 (wp_skip ?_)
    refine ⟨((hA6.mono (by intro j; simp; omega)).trans hA7 (by intro j; simp; omega)).trans hA8 (by intro j; simp; omega), ?_, hb8'⟩
    rw [take_at HP.out, List.all_append, HALL.out]
    simp [hnu]
   | false =>
    rw [hnu] at e39
    refine wp_cond_true e39 ?_
    refine wp_seq (Code.wp_only (R := fun a9 w9 => At a9 2 (.bool false) ∧ a9.tmps.size = 41 ∧ a9.defers = [] ∧ w9 = w8) ?_ ?_)
    · clear hnu
      obtain ⟨T, d⟩ := a8
      refine wp_region_lit ?_
      with_reducible refine st ?_
      with_reducible refine wpList_nil ?_
      refine ⟨rfl, ?_, by simpa using hsz8, hdf8, rfl⟩
      exact aq
    rintro a9 w9 ⟨k2, hs9, hd9, rfl⟩
    refine wp_ret ?_
    repeat (first | with_reducible apply inbody_ret | with_reducible apply then_ret)
    refine post_tmp (t := 2) rfl k2 (by rw [hs9]; decide) hd9 ⟨?_, hb1.trans (hb8'.mono hk.size)⟩
    have e : tl.all numeralOf = false := by
     rw [Bool.eq_false_iff]
     intro h
     have := List.all_eq_true.1 h p (List.mem_of_getElem? HP.out)
     rw [hnu] at this
     cases this
    rw [HNM.out, e]; rfl
 · rintro a5 w5 hA5 ⟨hall, hb5⟩
   rw [List.take_length] at hall
   have hsz5 := hA5.size.trans hsz4
   have hdf5 : a5.defers = [] := hA5.defers.trans (hA4.defers.trans hdf3)
   repeat with_reducible apply then_normal
   refine wp_seq (Code.wp_only (R := fun a9 w9 => At a9 2 (.bool true) ∧ a9.tmps.size = 41 ∧ a9.defers = [] ∧ w9 = w5) ?_ ?_)
   · obtain ⟨T, d⟩ := a5
     refine wp_region_lit ?_
     with_reducible refine st ?_
     with_reducible refine wpList_nil ?_
     refine ⟨rfl, ?_, by simpa using hsz5, hdf5, rfl⟩
     exact aq
   rintro a9 w9 ⟨k2, hs9, hd9, rfl⟩
   refine wp_ret ?_
   exact post_tmp (t := 2) rfl k2 (by rw [hs9]; decide) hd9 ⟨by rw [HNM.out, hall]; rfl, hb1.trans (hb5.mono hk.size)⟩
theorem parts_size (sep : ByteArray) (save : Nat) : ∀ (k : Nat) (s : ByteArray), ∀ p ∈ splitB sep save k s, p.size ≤ s.size
 | 0, s, p, h => by
  have : p = s := by simpa [splitB] using h
  rw [this]; exact Nat.le_refl _
 | k + 1, s, p, h => by
  unfold splitB at h
  split at h
  · have : p = s := by simpa using h
    rw [this]; exact Nat.le_refl _
  · rcases List.mem_cons.1 h with h | h
    · rw [h, ByteArray.size_extract]; omega
    · have := parts_size sep save k _ p h
      rw [ByteArray.size_extract] at this
      omega
theorem named_spec {B : Nat} : NamedSpec B (namedOf clsG) := by
 have hS : ∀ w, Laid B w → ScanT clsG w := fun w h => h.scan w (Below.refl _ _)
 intro w s hL hB hs
 unfold Short at hs
 refine (named_scan (cls := clsG) (fun w' hb => hS w' (hL.below (hb.mono hB))) (by omega) (fun p hp => ?_)).mono fun e w' h => ⟨h.1, Keep.of_below h.2 (fun i h1 h2 => by omega)⟩
 have := parts_size dot 0 _ s p hp
 omega
end Go.Proofs.YtpblcjipmoblnaaGreatDoor
