/- OfB Of Ground RegA RegB RegC Regions -/
import Derived.Test.YtpblcjipmoblnaaGreatDoorSortL
import Derived.Test.YtpblcjipmoblnaaGreatDoorOfD
import Derived.Test.YtpblcjipmoblnaaGreatDoorTheirs
set_option maxRecDepth 100000
set_option maxHeartbeats 4000000
set_option linter.unusedVariables false
set_option linter.unusedSimpArgs false
namespace Go.Proofs.YtpblcjipmoblnaaGreatDoor
open Go.Shelf Go.RowKit Go.Lib Go.Sort Go.IntWalk Ck
def cmpSp (x y : Sp) : Int := if x.1 < y.1 then -1 else if y.1 < x.1 then 1 else 0
theorem ltSp (x y : Sp) : ltOf cmpSp x y = decide (x.1 < y.1) := by
 unfold ltOf cmpSp
 by_cases h1 : x.1 < y.1
 · simp [h1]
 · by_cases h2 : y.1 < x.1 <;> simp [h1, h2]
theorem swoSp : SWO (ltOf cmpSp) := {
 irrefl := fun x => by rw [ltSp]; simp
 trans := fun x y z h1 h2 => by rw [ltSp] at *; simp at *; omega
 ntrans := fun x y z h1 h2 => by rw [ltSp] at *; simp at *; omega }
theorem cmp_sp (x y : Sp) (W : World) : Calls Tryz.prog 146 #[.agg #[.int .u64 x.1, .int .u64 x.2], .agg #[.int .u64 y.1, .int .u64 y.2]] W fun e w' => e = .returned (.int .i64 (cmpSp x y)) ∧ ∃ q os', w' = grow (W.drewN q) os' := by
 unfold cmpSp
 obtain ⟨p, q⟩ := x
 obtain ⟨r, s⟩ := y
 by_cases h1 : p < r
 · go_enter Tryz.func146, Tryz.ntmps146
   go_wp2
   go_ret
   exact ⟨by simp [h1], 0, _, by rw [alloc_eq_grow, alloc_eq_grow, grow_grow]; rfl⟩
 · by_cases h2 : r < p
   · go_enter Tryz.func146, Tryz.ntmps146
     go_wp2
     go_ret
     exact ⟨by simp [h1, h2], 0, _, by rw [alloc_eq_grow, alloc_eq_grow, grow_grow]; rfl⟩
   · go_enter Tryz.func146, Tryz.ntmps146
     go_wp2
     go_ret
     exact ⟨by simp [h1, h2], 0, _, by rw [alloc_eq_grow, alloc_eq_grow, grow_grow]; rfl⟩
def Sorted (l l' : List Sp) : Prop := l'.Perm l ∧ l'.Pairwise fun a b => a.1 ≤ b.1
theorem flat_list (d : Array Sp) : (flatK encSp 2 d).toList = spC d.toList := by
 apply List.ext_getElem?
 intro t
 by_cases ht : t < d.size * 2
 · have e1 : (flatK encSp 2 d).toList[t]? = some (flatK encSp 2 d)[t]! := by
    have h : t < (flatK encSp 2 d).size := by rw [size_flatK]; exact ht
    rw [Array.getElem?_toList, getElem!_pos _ t h, Array.getElem?_eq_getElem h]
   rw [e1, get_flatK _ _ _ _ ht]
   have hi : t / 2 < d.size := by omega
   obtain ⟨s, hs⟩ : ∃ s, d.toList[t / 2]? = some s := ⟨_, List.getElem?_eq_getElem (by simpa using hi)⟩
   obtain ⟨h1, h2⟩ := spC_at _ _ _ hs
   have hd : d[t / 2]! = s := by
    rw [getElem!_pos d _ hi]
    have := hs
    rw [Array.getElem?_toList, Array.getElem?_eq_getElem hi] at this
    exact Option.some.inj this
   rw [hd]
   rcases Nat.mod_two_eq_zero_or_one t with h | h
   · rw [h]
     have : t = t / 2 * 2 := by omega
     conv => rhs; rw [this]
     exact h1.symm
   · rw [h]
     have : t = t / 2 * 2 + 1 := by omega
     conv => rhs; rw [this]
     exact h2.symm
 · rw [List.getElem?_eq_none (by simp [size_flatK]; omega), List.getElem?_eq_none (by rw [spC_len]; simp; omega)]
theorem holds_own {w : World} {Z g cap : Nat} {l : List Sp} (h : w.ownsRow Z 180 2 (.slice (some ⟨g, 0, none⟩) l.length cap) l.length (spC l)) : HoldsK encSp 2 w g 0 l.toArray := by
 intro j hj
 have hj' : j < l.length * 2 := by simpa [size_flatK] using hj
 refine ⟨?_, ?_⟩
 · rw [Nat.zero_add, h.cellAt j hj', getElem!_pos _ j hj]
   have := flat_list l.toArray
   have e : (flatK encSp 2 l.toArray)[j]? = (spC l)[j]? := by rw [← Array.getElem?_toList, this]
   rw [← e, Array.getElem?_eq_getElem hj]; rfl
 · rw [Nat.zero_add]; exact h.frozenAt j
theorem own_put {w : World} {Z g cap n : Nat} {l : List Sp} {d : Array Sp} {os : Array Obj} (h : w.ownsRow Z 180 2 (.slice (some ⟨g, 0, none⟩) l.length cap) l.length (spC l)) (hd : d.size = l.length) :
 (sortWorldK encSp 2 w g 0 n d os).ownsRow Z 180 2 (.slice (some ⟨g, 0, none⟩) l.length cap) l.length (spC d.toList) := by
 rcases h.2 with ⟨h', _⟩ | ⟨g', cap', cur, h', hb, hg, hnc, hcm, hcs, htake⟩
 · simp at h'
 simp only [Value.slice.injEq, Option.some.injEq, Addr.mk.injEq, and_true, true_and] at h'
 obtain ⟨rfl, rfl⟩ := h'
 have hlt : g < w.heap.size := (Array.getElem?_eq_some_iff.1 hg).1
 refine ⟨by rw [spC_len]; simp [hd], .inr ⟨g, cap, putCells id 0 (flatK encSp 2 d) cur, rfl, hb, ?_, hnc, hcm, by simp [putCells, hcs], ?_⟩⟩
 · show ((putRowK encSp 2 (Sort.ahead w n) g 0 d).heap ++ os)[g]? = _
   rw [Array.getElem?_append_left (by simpa [putRowK, putRow, mapBlock, Sort.ahead] using hlt)]
   simp only [putRowK, putRow, mapBlock, Sort.ahead, Array.getElem?_modify, if_true, hg, Option.map_some, onCells]
 · rw [← flat_list]
   apply List.ext_getElem?
   intro t
   rw [List.getElem?_take]
   by_cases ht : t < l.length * 2
   · have hf : t < (flatK encSp 2 d).size := by rw [size_flatK, hd]; exact ht
     have hc : t < cur.size := by rw [hcs]; omega
     rw [if_pos ht, Array.getElem?_toList, Array.getElem?_toList]
     simp only [putCells, Array.getElem?_mapIdx, Array.getElem?_eq_getElem hc, Option.map_some]
     rw [if_pos ⟨Nat.zero_le _, by omega⟩, Nat.sub_zero, getElem!_pos _ t hf, Array.getElem?_eq_getElem hf]; rfl
   · rw [if_neg ht, List.getElem?_eq_none (by simp [size_flatK, hd]; omega)]
theorem keep_put {w : World} {g n : Nat} {d : Array Sp} {os : Array Obj} : Keep (fun k => k = g) w (sortWorldK encSp 2 w g 0 n d os) := by
 refine ⟨rfl, rfl, rfl, ?_, fun k hk hne => ?_⟩
 · show _ ≤ ((putRowK encSp 2 (Sort.ahead w n) g 0 d).heap ++ os).size
   simp [putRowK, putRow, mapBlock, Sort.ahead]
 · show ((putRowK encSp 2 (Sort.ahead w n) g 0 d).heap ++ os)[k]? = _
   rw [Array.getElem?_append_left (by simpa [putRowK, putRow, mapBlock, Sort.ahead] using hk)]
   simp only [putRowK, putRow, mapBlock, Sort.ahead, Array.getElem?_modify]
   rw [if_neg (fun e => hne e.symm)]
theorem sort_sp {w : World} {Z : Nat} {u : Value} {l : List Sp} (h : w.ownsRow Z 180 2 u l.length (spC l)) (hl : l.length ≤ 4194304) :
 Calls Tryz.prog 145 #[u, .func (.func 146) #[] #[]] w fun e w' => e = .returned (.tuple #[]) ∧ ∃ l', Sorted l l' ∧ w'.ownsRow Z 180 2 u l'.length (spC l') ∧ Keep (fun k => u.ownBlock = some k) w w' := by
 rcases Nat.eq_zero_or_pos l.length with h0 | h0
 · have hnil : l = [] := List.length_eq_zero_iff.1 h0
   subst hnil
   obtain ⟨p, cap, hu⟩ : ∃ p cap, u = .slice p 0 cap := by
    rcases h.2 with ⟨e1, _⟩ | ⟨g, cap, cur, e1, _⟩
    · exact ⟨_, _, e1⟩
    · exact ⟨_, _, e1⟩
   subst hu
   refine (AnyF.slices_SortFunc_none Tryz.sortSp p cap (.func (.func 146) #[] #[]) w).mono ?_
   rintro e w' ⟨rfl, rfl⟩
   exact ⟨rfl, [], ⟨.refl _, .nil⟩, h, Keep.refl _ _⟩
 · obtain ⟨g, cap, hv, hB, hlt⟩ := h.form h0
   subst hv
   have eg : ∀ args w, (callFunc 146 args).run Tryz.prog w = .ok (.enter 146 args) w := enters_of Tryz.func146 (by kernel_rfl) rfl
   have hcon := AnyQ.slices_SortFunc Tryz.sortSp 2 Tryz.isAgg180 Tryz.sizeOf180 encSp (fun _ => rfl) (fun x v hv => by simp [encSp] at hv; rcases hv with rfl | rfl <;> rfl) cmpSp swoSp 146 #[] g 0 cap l.toArray w eg
    (fun m os dk _ x y => cmp_sp x y _) (holds_own h) hlt (by simp; omega)
   rw [show (l.toArray).size = l.length by simp] at hcon
   refine hcon.mono ?_
   rintro e w' ⟨rfl, d', n, os, hp, hs, rfl⟩
   have hd : d'.size = l.length := by simpa using hp.1
   refine ⟨rfl, d'.toList, ⟨?_, ?_⟩, ?_, keep_put.mono fun i _ e => by rw [e]; rfl⟩
   · have := hp.2.2
     rw [show d'.extract 0 l.length = d' by rw [← hd]; simp, show l.toArray.extract 0 l.length = l.toArray by simp] at this
     simpa using this
   · rw [List.pairwise_iff_getElem]
     intro i j hi hj hij
     have := hs i j (Nat.zero_le _) hij (by simpa [hd] using hj)
     rw [ltSp] at this
     rw [getElem!_pos d' j (by simpa using hj), getElem!_pos d' i (by simpa using hi)] at this
     simp only [Array.getElem_toList]
     simp at this
     omega
   · have := own_put (n := n) (os := os) h hd
     rw [show d'.toList.length = l.length by simpa using hd]
     exact this
end Go.Proofs.YtpblcjipmoblnaaGreatDoor
namespace Go.Proofs.YtpblcjipmoblnaaGreatDoor
open Go.RowKit Go.IntWalk Ck
theorem post_set {fn : Func} {R : Ending → World → Prop} {a : Act} {w : World} {t z : Nat} {u : Value} (h : fn.results = #[.cell t 175]) (ht : At a t (.pointer (some ⟨z, 0, none⟩))) (hs : t < a.tmps.size) (hc : w.cell? ⟨z, 0, none⟩ = some u) (hd : a.defers = []) (hR : R (.returned (.agg #[u])) w) : bodyPost Tryz.prog fn R .ret a w := by
 refine bodyPost_ret (v := .agg #[u]) ?_ hd hR
 have e : a.tmps.getD t undef = .pointer (some ⟨z, 0, none⟩) := ht.eval hs
 unfold results
 simp only [h]
 go_simp
theorem sorted_in {l l' : List Sp} (h : Sorted l l') (p : Nat) : inSp l' p ↔ inSp l p := by
 unfold inSp
 constructor
 · rintro ⟨s, hs, h1⟩
   exact ⟨s, h.1.mem_iff.1 hs, h1⟩
 · rintro ⟨s, hs, h1⟩
   exact ⟨s, h.1.mem_iff.2 hs, h1⟩
theorem keep_in (l : List Sp) (p : Nat) : inSp (keepSp l) p ↔ inSp l p := by
 unfold inSp keepSp
 constructor
 · rintro ⟨s, hs, h1⟩
   exact ⟨s, (List.mem_filter.1 hs).1, h1⟩
 · rintro ⟨s, hs, h1⟩
   exact ⟨s, List.mem_filter.2 ⟨hs, by simp; omega⟩, h1⟩
theorem of_any {w : World} {pb : Nat} {u : Value} {xs : List Sp} (hu : SpansAt w pb u xs) (hpw : pb < w.heap.size) (hlim : ∀ s ∈ xs, s.1 < lim ∧ s.2 < lim) :
 Calls Tryz.prog 124 #[u] w fun e w' => ∃ u' l, e = .returned (.agg #[u']) ∧ SetOk l ∧ (∀ p, inSp l p ↔ inSp xs p) ∧ (∀ q, q < w.heap.size → SpansAt w' q u' l) ∧ Keep (fun _ => False) w w' := by
 obtain ⟨A, c, rfl, hr⟩ := hu
 have hu : SpansAt w pb (.slice A xs.length c) xs := ⟨A, c, rfl, hr⟩
 have hlen := hr.2.1
 have HU := Lib.hid hu
 have HL := Lib.hid hlim
 clear hu hr hlim
 refine calls_abs Tryz.func124 Tryz.ntmps124 rfl (by simp) fun a hsz hdf hargs => ?_
 have h0 : At a 0 (.slice A xs.length c) := hargs 0 _ rfl
 clear hargs
 conv => arg 2; whnf
 refine wp_seq (Code.wp_only (R := fun a1 w1 => Agree (fun i => i == 2) a a1 ∧ At a1 2 (.pointer (some ⟨w.heap.size, 0, none⟩)) ∧ w1 = w.alloc (.cells #[.slice none 0 0] 175)) ?_ ?_)
 · obtain ⟨T, d⟩ := a
   refine wp_region_lit ?_
   with_reducible refine st ?_
   with_reducible refine wpList_nil ?_
   refine ⟨rfl, ag, aq, rfl⟩
 rintro a1 w1 ⟨hA1, k2, hw1⟩
 have hk1 : Keep (fun _ => False) w w1 := by rw [hw1]; exact (Keep.refl _ _).alloc _
 obtain ⟨z, hz⟩ : ∃ z, z = w.heap.size := ⟨_, rfl⟩
 rw [← hz] at k2
 have hx1 : w1.cell? ⟨z, 0, none⟩ = some (.slice none 0 0) := by rw [hw1, hz]; exact cells_new w [.slice none 0 0] 175 0 _ rfl
 have hf1 : w1.frozen? ⟨z, 0, none⟩ = false := by
  have hoo : w1.heap[z]? = some (.cells #[.slice none 0 0] 175) := by rw [hw1, hz]; exact Array.getElem?_push_size
  simp [World.frozen?, hoo]
 have hz1 : z < w1.heap.size := by rw [hw1, hz]; simp
 have HZ : Hid (z = w.heap.size) := hz
 have hsz1 := hA1.size.trans hsz
 have hdf1 := hA1.defers.trans hdf
 have j0 := hA1.at_ h0 rfl
 clear hw1 hz
 refine wp_seq (Code.wp_only (R := fun a2 w2 => Agree (fun i => i == 3) a1 a2 ∧ At a2 3 (.slice none 0 0) ∧ w2 = w1) ?_ ?_)
 · obtain ⟨T, d⟩ := a1
   refine wp_region_lit ?_
   with_reducible refine st ?_
   with_reducible refine wpList_nil ?_
   refine ⟨rfl, ag, aq, rfl⟩
 rintro a2 w2 ⟨hA2, k3, rfl⟩
 have hsz2 := hA2.size.trans hsz1
 have hpw2 : pb < w2.heap.size := by have := hk1.size; omega
 refine wp_seq (of_filter (HU.out.keep (hk1.mono fun _ _ h => h.elim)) hpw2 a2 hsz2 (hA2.at_ j0 rfl) k3 _ (fun a3 w3 u3 hA3 l3 hown3 hk3 => ?_))
 have hsz3 := hA3.size.trans hsz2
 have m2 := hA3.at_ (hA2.at_ k2 rfl) rfl
 have hdf3 := hA3.defers.trans (hA2.defers.trans hdf1)
 obtain ⟨l, hl⟩ : ∃ l, l = keepSp xs := ⟨_, rfl⟩
 rw [← hl] at hown3
 have hll : l.length ≤ 4194304 := by have := keepSp_len xs; rw [← hl] at this; omega
 have HKS := Lib.hid hl
 have HO3 := Lib.hid hown3
 have HS := Lib.hid (sort_sp hown3 hll)
 clear hown3 hl
 refine wp_seq (Code.wp_only (R := fun a4 w4 => Agree (fun i => i == 24 || i == 25) a3 a4 ∧ ∃ l', Sorted l l' ∧ At a4 3 u3 ∧ w4.ownsRow w2.heap.size 180 2 u3 l'.length (spC l') ∧ Keep (fun k => u3.ownBlock = some k) w3 w4) ?_ ?_)
 · obtain ⟨T, d⟩ := a3
   refine wp_region_lit ?_
   with_reducible refine st ?_
   with_reducible refine wpList_step (fun K hK => ?_)
   go_simp
   refine HS.out.mono ?_
   rintro e w4 ⟨rfl, l', h1, h2, h3⟩
   have H1 := Lib.hid h1
   have H2 := Lib.hid h2
   have H3 := Lib.hid h3
   clear h1 h2 h3
   with_reducible refine hK _ _ ?_
   clear hK K
   with_reducible refine wpList_nil ?_
   refine ⟨rfl, ?_, l', H1.out, ?_, H2.out, H3.out⟩
   · exact ag
   · exact At.ne (At.ne l3 (by decide)) (by decide)
 rintro a4 w4 ⟨hA4, l', hS, l3', hown4, hk4⟩
 have hsz4 := hA4.size.trans hsz3
 have hB : ∀ k, u3.ownBlock = some k → w2.heap.size ≤ k := fun k hk => (HO3.out.lt k hk).1
 have hk24 : Keep (fun _ => False) w2 w4 := hk3.trans hk4 (fun i hi h => by have := hB i h; omega)
 clear HS HO3
 have hlen' : l'.length ≤ 4194304 := by rw [hS.1.length_eq]; exact hll
 have hlim' : ∀ s ∈ l', s.1 < lim ∧ s.2 < lim := fun s hs => by
  have := hS.1.mem_iff.1 hs
  rw [HKS.out] at this
  exact HL.out s (List.mem_filter.1 this).1
 have hle' : ∀ s ∈ l', s.1 ≤ s.2 := fun s hs => by
  have := hS.1.mem_iff.1 hs
  rw [HKS.out] at this
  simpa using (List.mem_filter.1 this).2
 have hsp4 : SpansAt w4 pb u3 l' := spans_of_own hown4 hlen' (by omega) hlim'
 obtain ⟨A4, c4, e4, _⟩ := hsp4
 subst e4
 have hsp4 : SpansAt w4 pb (.slice A4 l'.length c4) l' := spans_of_own hown4 hlen' (by omega) hlim'
 have HSP := Lib.hid hsp4
 have HS := Lib.hid hS
 have HLI := Lib.hid hlim'
 have HLE := Lib.hid hle'
 have hmdf := hA4.defers.trans hdf3
 clear hS hsp4 hlim' hle' hown4 hB
 refine wp_seq (Code.wp_only (R := fun a5 w5 => Agree (fun i => i == 6) a4 a5 ∧ At a5 6 (.slice none 0 0) ∧ w5 = w4) ?_ ?_)
 · obtain ⟨T, d⟩ := a4
   refine wp_region_lit ?_
   with_reducible refine st ?_
   with_reducible refine wpList_nil ?_
   refine ⟨rfl, ag, aq, rfl⟩
 rintro a5 w5 ⟨hA5, k6, rfl⟩
 have hsz5 := hA5.size.trans hsz4
 have hpw5 : pb < w5.heap.size := by have := hk24.size; omega
 refine wp_seq (of_merge HSP.out hpw5 HLI.out a5 hsz5 (hA5.at_ l3' rfl) k6 _ (fun a6 w6 u6 hA6 l6 hown6 hk6 => ?_))
 have hsz6 := hA6.size.trans hsz5
 have n2 := hA6.at_ (hA5.at_ (hA4.at_ m2 rfl) rfl) rfl
 have hdf6 := hA6.defers.trans (hA5.defers.trans hmdf)
 have hk26 : Keep (fun _ => False) w2 w6 := hk24.trans hk6 (fun _ _ h => h)
 have x6 := (hk26.cell (p := ⟨z, 0, none⟩) hz1 (fun h => h)).trans hx1
 have f6 := (hk26.frozen (p := ⟨z, 0, none⟩) hz1 (fun h => h)).trans hf1
 have hz6 : z < w6.heap.size := Nat.lt_of_lt_of_le hz1 hk26.size
 have hmok := mergeAll_ok _ l' rfl HLE.out HS.out.2
 have hml := mergeAll_len l' l'.length (Nat.le_refl _)
 rw [List.take_length] at hml
 have hmi := mergeAll_lim _ l' rfl HLI.out
 obtain ⟨A6, c6, e6, _⟩ : SpansAt w6 pb u6 (mergeAll l') := spans_of_own hown6 (by omega) hpw5 hmi
 obtain ⟨n6, hn6⟩ : ∃ n, n = (mergeAll l').length := ⟨_, rfl⟩
 rw [← hn6] at e6
 have HN6 := Lib.hid hn6
 clear hn6
 subst e6
 have hzk : w5.heap.size ≤ z → False := fun h => by have := hk24.size; omega
 have hob : ∀ k, (Value.slice A6 n6 c6).ownBlock = some k → k ≠ z := fun k h e => hzk (by rw [← e]; exact (hown6.lt k h).1)
 have hset : ∀ v q, q < w5.heap.size → SpansAt (w6.setCell ⟨z, 0, none⟩ v) q (.slice A6 n6 c6) (mergeAll l') := fun v q hq => by
  exact spans_of_own (rowOwn_keep hown6 (Keep.setCell (S := fun k => k = z) (Keep.refl _ _) (fun _ => rfl) v) (fun k h e => hob k h e)) (by omega) hq hmi
 have HSET := Lib.hid hset
 have HMOK := Lib.hid hmok
 have HK := Lib.hid (hk1.trans hk26 (fun _ _ h => h))
 clear hset hmok hmi hob hown6 hk1 hk26 hA6 hA5 hA4 hA3 hA2 hA1
 refine wp_seq (Code.wp_only (R := fun a7 w7 => At a7 2 (.pointer (some ⟨z, 0, none⟩)) ∧ a7.tmps.size = 80 ∧ a7.defers = [] ∧ w7 = w6.setCell ⟨z, 0, none⟩ (.slice A6 n6 c6)) ?_ ?_)
 · obtain ⟨T, d⟩ := a6
   refine wp_region_lit ?_
   iterate 3 with_reducible refine st ?_
   with_reducible refine wpList_nil ?_
   refine ⟨rfl, ?_, by simpa using hsz6, hdf6, rfl⟩
   exact At.ne (At.ne n2 (by decide)) (by decide)
 rintro a7 w7 ⟨h2, hs7, hd7, hw7⟩
 refine wp_ret ?_
 refine post_set (u := .slice A6 n6 c6) rfl h2 (by rw [hs7]; decide) ?_ hd7 ⟨.slice A6 n6 c6, mergeAll l', rfl, HMOK.out.1, fun p => ?_, fun q hq => ?_, ?_⟩
 · rw [hw7]; exact World.cell?_setCell_same _ _ _ x6
 · rw [HMOK.out.2.1, sorted_in HS.out, HKS.out, keep_in]
 · rw [hw7]; exact HSET.out _ q (by have h1 := hk24.size; have h2 := HZ.out; omega)
 · rw [hw7]; exact HK.out.setCell (fun h => by have := HZ.out; have h : z < w.heap.size := h; omega) _
theorem lastOf_wrap (a s : Nat) : IntKind.u64.wrap (IntKind.u64.wrap ((a : Int) + (s : Int)) - 1) = (lastOf a s : Int) := by
 rw [IntKind.wrap_u64, IntKind.wrap_u64]
 show _ = (((a + s + (18446744073709551616 - 1)) % 18446744073709551616 : Nat) : Int)
 omega
def ramS (l : List Ck.Ram) : List Sp := l.map fun x => (x.at_, lastOf x.at_ x.size)
def ramSp (P : Policy) : List Sp := ramS P.rams
theorem SpansAt.set {w : World} {pb z : Nat} {u v : Value} {l : List Sp} (h : SpansAt w pb u l) (h2 : SpansAt w z u l) : SpansAt (w.setCell ⟨z, 0, none⟩ v) pb u l := by
 obtain ⟨A, c, rfl, h3, h4, h5⟩ := h
 obtain ⟨_, _, e, _, _, h6⟩ := h2
 cases e
 refine ⟨A, c, rfl, h3, h4, fun h0 => ?_⟩
 obtain ⟨g, rfl, hg, hp, hc⟩ := h5 h0
 obtain ⟨_, e, _, hz, _⟩ := h6 h0
 cases e
 have hk : Keep (fun k => k = z) w (w.setCell ⟨z, 0, none⟩ v) := Keep.setCell (S := fun k => k = z) (Keep.refl _ _) (fun _ => rfl) v
 refine ⟨g, rfl, Nat.lt_of_lt_of_le hg hk.size, hp, fun i s hs => ?_⟩
 obtain ⟨c1, c2, c3⟩ := hc i s hs
 exact ⟨(hk.cell (p := ⟨g, i * 2, none⟩) hg hz).trans c1, (hk.cell (p := ⟨g, i * 2 + 1, none⟩) hg hz).trans c2, c3⟩
theorem ground_rows {B : Nat} {w : World} {pb : Nat} {v : PolV} {P : Policy} {W : Int → Int} {L : List Wr} (h : LookAt B w pb v P W L) (a : Act) (hsz : a.tmps.size = 31) (h0 : At a 0 (.pointer (some ⟨pb, 0, none⟩))) (h3 : At a 3 (.slice none 0 0)) (Q : Exit → Act → World → Prop)
 (hQ : ∀ a' w' u', Agree (fun i => i == 3 || (decide (5 ≤ i) && decide (i ≤ 28))) a a' → At a' 3 u' → w'.ownsRow w.heap.size 180 2 u' (ramSp P).length (spC (ramSp P)) → P.rams.length ≤ 4194304 → Keep (fun _ => False) w w' → Q .normal a' w') :
 (codeC Tryz.f100 [1,1,0]).wp Tryz.prog Q a w := by
 have hs := h.pol.rams
 obtain ⟨A, c, hu, hnc, hn0, hl⟩ := hs
 unfold top at hn0
 have hlt := h.lt
 have hBp := h.base
 have hq : w.cell? ⟨pb, 2, none⟩ = some v.rams := h.cell rfl
 rw [hu] at hq
 clear hu
 conv => arg 2; whnf
 refine wp_seq (Code.wp_only (R := fun a1 w1 => Agree (fun i => (decide (6 ≤ i) && decide (i ≤ 12))) a a1 ∧ At a1 10 (.slice A P.rams.length c) ∧ At a1 11 (.int .i64 P.rams.length) ∧ At a1 12 (.int .i64 0) ∧ w1 = w) ?_ ?_)
 · clear hl
   obtain ⟨T, d⟩ := a
   refine wp_region_lit ?_
   iterate 7 with_reducible refine st ?_
   with_reducible refine wpList_nil ?_
   refine ⟨rfl, ag, aq, aq, aq, rfl⟩
 rintro a0 w0 ⟨hA0, k_s, k_n, k_i, rfl⟩
 have hsz0 := hA0.size.trans hsz
 replace h3 := hA0.at_ h3 rfl
 obtain ⟨Z, hZ⟩ : ∃ z, z = w0.heap.size := ⟨_, rfl⟩
 rw [← hZ] at hQ
 have HZ := Lib.hid hZ
 clear hZ
 refine wp_range P.rams.length (fun i => i == 3 || i == 5 || (decide (12 ≤ i) && decide (i ≤ 28))) (fun i => i == 3 || i == 5 || (decide (14 ≤ i) && decide (i ≤ 27))) (fun k a' w' => ∃ u, At a' 3 u ∧ w'.ownsRow Z 180 2 u (ramS (P.rams.take k)).length (spC (ramS (P.rams.take k))) ∧ Keep (fun _ => False) w0 w') (by omega) k_i k_n (by decide) rfl
  (by intro j; simp; omega) (by omega) (by decide) (fun k a1 a2 w hA ⟨u, h1, h2⟩ => ⟨u, hA.at_ h1 rfl, h2⟩) ⟨_, h3, by simpa [spC, ramS] using World.ownsRow_nil _ _ _ _, Keep.refl _ _⟩ ?_ ?_
 · rintro k a1 wr hlt3 hA k_j ⟨u, k_3, hown, hk⟩
   obtain ⟨bl, off, rfl, hbl, hcs⟩ := hl (by omega)
   obtain ⟨x, hx⟩ : ∃ x, P.rams[k]? = some x := ⟨_, List.getElem?_eq_getElem hlt3⟩
   obtain ⟨hc, ok_x⟩ := (flat_stays B _ _) _ _ _ _ _ (hk.below (B := B) (by omega) (fun _ hi e => e)) hbl (hcs k x hx)
   have q0 := hc.c0
   have q1 := hc 1 _ rfl
   have q2 := hc 2 _ rfl
   have k_sl := hA.at_ k_s rfl
   have hsz1 := hA.size.trans hsz0
   have hszw := hk.size
   have hblr : bl < wr.heap.size := by omega
   have hkc : k ≤ c := by omega
   obtain ⟨rs, hrs⟩ : ∃ l, l = ramS (P.rams.take k) := ⟨_, rfl⟩
   rw [← hrs] at hown
   have hrl : rs.length = k := by rw [hrs]; simp [ramS]; omega
   have HR : Hid (ramS (P.rams.take (k + 1)) = rs ++ [(x.at_, lastOf x.at_ x.size)]) := by
    refine Lib.hid ?_
    rw [take_at hx, hrs]
    simp [ramS]
   have HO := Lib.hid hown
   have HK := Lib.hid hk
   have HA := Lib.hid hA
   clear hx hown hk hA hcs hc hrs hl
   refine wp_seq (Code.wp_only (R := fun a2 w2 => Agree (fun i => i == 14 || i == 15 || i == 5) a1 a2 ∧ At a2 5 (.pointer (some ⟨wr.heap.size, 0, none⟩)) ∧ w2 = wr.alloc (.cells #[.int .i64 x.pos, .int .u64 x.at_, .int .u64 x.size] 41)) ?_ ?_)
   · obtain ⟨T, d⟩ := a1
     refine wp_region_lit ?_
     iterate 4 with_reducible refine st ?_
     with_reducible refine wpList_nil ?_
     refine ⟨rfl, ag, aq, rfl⟩
   rintro a2 wo ⟨hA2, k_5, hwo⟩
   obtain ⟨z, hz⟩ : ∃ z, z = wr.heap.size := ⟨_, rfl⟩
   rw [← hz] at k_5
   have hx0 : CellsAt wo z 0 [.int .i64 x.pos, .int .u64 x.at_, .int .u64 x.size] := by rw [hwo, hz]; exact cells_new _ _ _
   have hzo : z < wo.heap.size := by rw [hwo, hz]; simp
   have hko : Keep (fun _ => False) wr wo := by rw [hwo]; exact (Keep.refl _ _).alloc _
   have hsz2 := hA2.size.trans hsz1
   have j_3 := hA2.at_ k_3 rfl
   have HO3 := Lib.hid (rowOwn_keep HO.out hko (fun _ _ h => h))
   have HK3 := Lib.hid (HK.out.trans hko (fun _ _ h => h))
   have HAg : Hid (Agree (fun i => i == 3 || i == 5 || (decide (14 ≤ i) && decide (i ≤ 27))) a1 a2) := hA2.mono (by intro j; simp; omega)
   clear hwo hz hko HO HK hA2 q0 q1 q2 k_sl k_3 k_j hszw hblr
   have q1 := hx0 1 _ rfl
   have q2 := hx0 2 _ rfl
   obtain ⟨p, hp⟩ : ∃ p, p = lastOf x.at_ x.size := ⟨_, rfl⟩
   have hw := lastOf_wrap x.at_ x.size
   rw [← hp] at hw HR
   have HP := Lib.hid hp
   clear hp
   refine Code.wp_only (R := fun a4 w4 => Agree (fun i => i == 3 || (decide (16 ≤ i) && decide (i ≤ 27))) a2 a4 ∧ (∃ u', At a4 3 u' ∧ w4.ownsRow Z 180 2 u' (rs.length + 1) (spC (rs ++ [(x.at_, p)]))) ∧ Keep (fun _ => False) w0 w4) ?_ ?_
   · obtain ⟨T, d⟩ := a2
     refine wp_region_lit ?_
     iterate 11 with_reducible refine st ?_
     have hb := cells_new wo [.int .u64 x.at_, .int .u64 p] 180
     have hka : Keep (fun _ => False) wo (wo.alloc (.cells #[.int .u64 x.at_, .int .u64 p] 180)) := (Keep.refl _ _).alloc _
     have HOA := Lib.hid (rowOwn_keep HO3.out hka (fun _ _ h => h))
     refine append_sp (p := (x.at_, p)) rfl rfl rfl (At.eval (by exact aq) (by have := hsz2; simp at this ⊢; omega)) HOA.out (by omega) (At.eval (by exact aq) (by have := hsz2; simp at this ⊢; omega)) hb.c0 (hb 1 _ rfl) (by have := HZ.out; have := hka.size; have := HK3.out.size; omega) ?_
     intro u2 w4 hown4 hk4
     have HU4 := Lib.hid hown4
     have HKA : Hid (Keep (fun _ => False) w0 w4) := (HK3.out.trans hka (fun _ _ h => h)).trans hk4 (fun i hi h => by have := (HO3.out.lt i h).1; have := HZ.out; omega)
     clear hown4 hk4 hb hka
     simp only [Act.put]
     with_reducible refine st ?_
     with_reducible refine wpList_nil ?_
     refine ⟨rfl, ag, ⟨u2, aq, HU4.out⟩, HKA.out⟩
   rintro a4 w4 ⟨hA4, ⟨u', k3', hown'⟩, hk4⟩
   refine ⟨HAg.out.trans hA4 (by intro j; simp; omega), u', k3', ?_, hk4⟩
   rw [HR.out, List.length_append]
   exact hown'
 · rintro a' w' hA ⟨u, k_3, hown, hk⟩
   rw [List.take_length] at hown
   exact hQ _ _ _ ((hA0.mono (by intro j; simp; omega)).trans hA (by intro j; simp; omega)) k_3 hown (by omega) hk
theorem ground_any {B : Nat} {w : World} {pb : Nat} {v : PolV} {P : Policy} {W : Int → Int} {L : List Wr} (h : LookAt B w pb v P W L) :
 Calls Tryz.prog 100 #[.pointer (some ⟨pb, 0, none⟩)] w fun e w' => ∃ u' l, e = .returned (.agg #[u']) ∧ SetOk l ∧ (∀ p, inSp l p ↔ inSp (ramSp P) p) ∧ (∀ q, q < w.heap.size → SpansAt w' q u' l) ∧ Keep (fun _ => False) w w' := by
 have HH := Lib.hid h
 have hlt := h.lt
 have hrok : ∀ s ∈ ramSp P, s.1 < lim ∧ s.2 < lim := by
  intro s hs
  obtain ⟨x, hx, rfl⟩ := List.mem_map.1 hs
  obtain ⟨A, c, _, _, _, hl⟩ := h.pol.rams
  obtain ⟨bl, off, _, _, hcs⟩ := hl (List.length_pos_of_mem hx)
  obtain ⟨k, hk⟩ := List.getElem?_of_mem hx
  have ok := (hcs k x hk).2
  exact ⟨ok.2.1, Nat.mod_lt _ (by decide)⟩
 have HRO := Lib.hid hrok
 clear h hrok
 refine calls_abs Tryz.func100 Tryz.ntmps100 rfl (by simp) fun a hsz hdf hargs => ?_
 have h0 : At a 0 (.pointer (some ⟨pb, 0, none⟩)) := hargs 0 _ rfl
 clear hargs
 conv => arg 2; whnf
 refine wp_seq (Code.wp_only (R := fun a1 w1 => Agree (fun i => i == 2) a a1 ∧ At a1 2 (.pointer (some ⟨w.heap.size, 0, none⟩)) ∧ w1 = w.alloc (.cells #[.slice none 0 0] 175)) ?_ ?_)
 · obtain ⟨T, d⟩ := a
   refine wp_region_lit ?_
   with_reducible refine st ?_
   with_reducible refine wpList_nil ?_
   refine ⟨rfl, ag, aq, rfl⟩
 rintro a1 w1 ⟨hA1, k2, hw1⟩
 have hk1 : Keep (fun _ => False) w w1 := by rw [hw1]; exact (Keep.refl _ _).alloc _
 obtain ⟨z, hz⟩ : ∃ z, z = w.heap.size := ⟨_, rfl⟩
 rw [← hz] at k2
 have hx1 : w1.cell? ⟨z, 0, none⟩ = some (.slice none 0 0) := by rw [hw1, hz]; exact cells_new w [.slice none 0 0] 175 0 _ rfl
 have hf1 : w1.frozen? ⟨z, 0, none⟩ = false := by
  have hoo : w1.heap[z]? = some (.cells #[.slice none 0 0] 175) := by rw [hw1, hz]; exact Array.getElem?_push_size
  simp [World.frozen?, hoo]
 have hz1 : z < w1.heap.size := by rw [hw1, hz]; simp
 have HZ : Hid (z = w.heap.size) := hz
 have hsz1 := hA1.size.trans hsz
 have hdf1 := hA1.defers.trans hdf
 have j0 := hA1.at_ h0 rfl
 clear hw1 hz
 refine wp_seq (Code.wp_only (R := fun a2 w2 => Agree (fun i => i == 3) a1 a2 ∧ At a2 3 (.slice none 0 0) ∧ w2 = w1) ?_ ?_)
 · obtain ⟨T, d⟩ := a1
   refine wp_region_lit ?_
   with_reducible refine st ?_
   with_reducible refine wpList_nil ?_
   refine ⟨rfl, ag, aq, rfl⟩
 rintro a2 w2 ⟨hA2, k3, rfl⟩
 have hsz2 := hA2.size.trans hsz1
 have hpw2 : pb < w2.heap.size := by have := hk1.size; omega
 refine wp_seq (ground_rows (HH.out.new hk1) a2 hsz2 (hA2.at_ j0 rfl) k3 _ (fun a3 w3 u3 hA3 l3 hown3 hrl hk3 => ?_))
 have hsz3 := hA3.size.trans hsz2
 have m2 := hA3.at_ (hA2.at_ k2 rfl) rfl
 have hdf3 := hA3.defers.trans (hA2.defers.trans hdf1)
 have hrl2 : (ramSp P).length ≤ 4194304 := by unfold ramSp ramS; rw [List.length_map]; exact hrl
 have hpw3 : pb < w3.heap.size := by have := hk3.size; omega
 have HC := Lib.hid (of_any (spans_of_own hown3 hrl2 hpw2 HRO.out) hpw3 HRO.out)
 have x3 := (hk3.cell (p := ⟨z, 0, none⟩) hz1 (fun h => h)).trans hx1
 have f3 := (hk3.frozen (p := ⟨z, 0, none⟩) hz1 (fun h => h)).trans hf1
 have hz3 : z < w3.heap.size := Nat.lt_of_lt_of_le hz1 hk3.size
 have HK3 := Lib.hid (hk1.trans hk3 (fun _ _ h => h))
 have hzp : pb ≠ z := by have := HZ.out; omega
 clear hown3 hk3 hA3 hA2 hA1 hk1
 refine wp_seq (Code.wp_only (R := fun a7 w7 => At a7 2 (.pointer (some ⟨z, 0, none⟩)) ∧ a7.tmps.size = 31 ∧ a7.defers = [] ∧ ∃ u' l w6, w7 = w6.setCell ⟨z, 0, none⟩ u' ∧ SetOk l ∧ (∀ p, inSp l p ↔ inSp (ramSp P) p) ∧ (∀ q, q < w3.heap.size → SpansAt w6 q u' l) ∧ Keep (fun _ => False) w3 w6) ?_ ?_)
 · obtain ⟨T, d⟩ := a3
   refine wp_region_lit ?_
   with_reducible refine st ?_
   with_reducible refine wpList_step (fun K hK => ?_)
   go_simp
   refine HC.out.mono ?_
   rintro e w6 ⟨u6, l6, rfl, hk1, hk2, hk3, hk4⟩
   have H1 := Lib.hid hk1
   have H2 := Lib.hid hk2
   have H3 := Lib.hid hk3
   have H4 := Lib.hid hk4
   obtain ⟨A6, c6, rfl, _⟩ := hk3 pb hpw3
   have x6 := (hk4.cell (p := ⟨z, 0, none⟩) hz3 (fun h => h)).trans x3
   have f6 := (hk4.frozen (p := ⟨z, 0, none⟩) hz3 (fun h => h)).trans f3
   clear hk1 hk2 hk4 x3 f3
   with_reducible refine hK _ _ ?_
   clear hK K
   with_reducible refine st ?_
   with_reducible refine wpList_nil ?_
   refine ⟨rfl, ?_, by simpa using hsz3, hdf3, _, l6, w6, rfl, H1.out, H2.out, H3.out, H4.out⟩
   exact At.ne (At.ne m2 (by decide)) (by decide)
 rintro a7 w7 ⟨h2, hs7, hd7, u6, l6, w6, hw7, hok, hin, hsp, hk6⟩
 refine wp_ret ?_
 have x6 := (hk6.cell (p := ⟨z, 0, none⟩) hz3 (fun h => h)).trans x3
 refine post_set (u := u6) rfl h2 (by rw [hs7]; decide) ?_ hd7 ⟨u6, l6, rfl, hok, hin, fun q hq => ?_, ?_⟩
 · rw [hw7]; exact World.cell?_setCell_same _ _ _ x6
 · rw [hw7]; exact SpansAt.set (hsp q (by have := HK3.out.size; omega)) (hsp z hz3)
 · rw [hw7]; exact ((HK3.out.trans hk6 (fun _ _ h => h))).setCell (fun h => by have := HZ.out; have h : z < w.heap.size := h; omega) _
theorem reg_unit {B : Nat} {w : World} {pb : Nat} {v : PolV} {P : Policy} {L : List Wr} (h : LookAt B w pb v P why4 L) {z : Nat} {x : Ck.Region} (hx0 : CellsAt w z 0 [.int .i64 x.pos, .string x.name, .int .u64 x.size, .bool x.fixed, .int .u64 x.at_, .bool x.big, .bool x.wx, .int .u64 x.fill, .bool x.texted, .string x.text]) (ok : x.Ok) (a : Act) (hsz : a.tmps.size = 119) (h0 : At a 0 (.pointer (some ⟨pb, 0, none⟩))) (h5 : At a 5 (.pointer (some ⟨z, 0, none⟩))) (Q : Exit → Act → World → Prop)
 (hQ : ∀ a' w', Agree (fun i => (decide (19 ≤ i) && decide (i ≤ 32))) a a' → LookAt B w' pb v P why4 (say (decide ((x.size ||| x.at_) % unit x.big = 0)) x.pos 0 ++ L) → Keep (fun k => k = pb) w w' → Q .normal a' w') :
 (codeC Tryz.f52 [1, 1, 0, 1, 0, 0, 1, 1, 0, 0, 1, 0]).wp Tryz.prog Q a w := by
 obtain ⟨ok1, ok2, ok3, ok4, ok5, ok6⟩ := ok
 unfold lim at ok2 ok3 ok4
 unfold Short at ok5 ok6
 refine Code.wp_only (R := fun a' w' => Agree (fun i => (decide (19 ≤ i) && decide (i ≤ 32))) a a' ∧ LookAt B w' pb v P why4 (say (decide ((x.size ||| x.at_) % unit x.big = 0)) x.pos 0 ++ L) ∧ Keep (fun k => k = pb) w w') ?_ (fun a4 w4 h => hQ a4 w4 h.1 h.2.1 h.2.2)
 clear hQ
 conv => arg 2; whnf
 have q0 := hx0.c0
 have q1 := hx0 1 _ rfl
 have q2 := hx0 2 _ rfl
 have q3 := hx0 3 _ rfl
 have q4 := hx0 4 _ rfl
 have q5 := hx0 5 _ rfl
 have q6 := hx0 6 _ rfl
 have q7 := hx0 7 _ rfl
 have q8 := hx0 8 _ rfl
 have q9 := hx0 9 _ rfl
 obtain ⟨U, hU⟩ : ∃ u, u = unit x.big := ⟨_, rfl⟩
 have hun := fun w0 => flip_ (unit_any x.big w0)
 rw [← hU] at hun
 have hU0 : 0 < U := by rw [hU]; unfold unit; split <;> omega
 have hU1 : ¬ (U = 0) := by omega
 have hU2 : ((U : Int) == 0) = false := by simp; omega
 obtain ⟨b, hb⟩ : ∃ b, ((bits .or .u64 (x.size : Int) (x.at_ : Int)).tmod (U : Int) == 0) = b := ⟨_, rfl⟩
 have HS : Hid (say (decide ((x.size ||| x.at_) % unit x.big = 0)) x.pos 0 = say b x.pos 0) := by
  refine Lib.hid ?_
  rw [← hb, or_bits ok2 ok3, ← hU, show (((x.size ||| x.at_ : Nat) : Int).tmod (U : Int)) = (((x.size ||| x.at_) % U : Nat) : Int) from rfl]
  congr 1
  rw [int_eqb]
  exact decide_eq_decide.2 (by omega)
 have HLd := Lib.hid (h.new ((Keep.refl _ w).drew))
 clear h hx0 hU hU0
 obtain ⟨T, d⟩ := a
 refine wp_region_still_tail 13 (by kernel_rfl) (by kernel_rfl) ?_
 simp only [List.take_succ_cons, List.take_zero, List.drop_succ_cons, List.drop_zero]
 iterate 8
  with_reducible refine wpStill_step (fun K hK => ?_)
  go_simp
  with_reducible refine hK _ ?_
  clear hK K
 with_reducible refine wpStill_step (fun K hK => ?_)
 go_simp
 with_reducible refine ⟨_, hun _, hK _ ?_⟩
 clear hK K
 iterate 4
  with_reducible refine wpStill_step (fun K hK => ?_)
  go_simp
  with_reducible refine hK _ ?_
  clear hK K
 with_reducible refine wpStill_nil ?_
 with_reducible refine wpList_step (fun K hK => ?_)
 go_simp
 refine (must_any _ _ 0 33 HLd.out rfl).mono ?_
 rintro e w2 ⟨rfl, hL2, hk2⟩
 with_reducible refine hK _ _ (wpList_nil ?_)
 refine ⟨rfl, ?_, ?_, ?_⟩
 · exact ag
 · rw [HS.out]
   exact hL2
 · exact ((Keep.refl _ _).drew).trans hk2 (fun _ _ e => e)
theorem reg_size {B : Nat} {w : World} {pb : Nat} {v : PolV} {P : Policy} {L : List Wr} (h : LookAt B w pb v P why4 L) {z : Nat} {x : Ck.Region} (hx0 : CellsAt w z 0 [.int .i64 x.pos, .string x.name, .int .u64 x.size, .bool x.fixed, .int .u64 x.at_, .bool x.big, .bool x.wx, .int .u64 x.fill, .bool x.texted, .string x.text]) (ok : x.Ok) (a : Act) (hsz : a.tmps.size = 119) (h0 : At a 0 (.pointer (some ⟨pb, 0, none⟩))) (h5 : At a 5 (.pointer (some ⟨z, 0, none⟩))) (Q : Exit → Act → World → Prop)
 (hQ : ∀ a' w', Agree (fun i => (decide (33 ≤ i) && decide (i ≤ 44))) a a' → LookAt B w' pb v P why4 (say (decide (0 < x.size) && decide (x.size ≤ 67108864)) x.pos 1 ++ L) → Keep (fun k => k = pb) w w' → Q .normal a' w') :
 (codeC Tryz.f52 [1, 1, 0, 1, 0, 0, 1, 1, 0, 0, 1, 1, 0]).wp Tryz.prog Q a w := by
 obtain ⟨ok1, ok2, ok3, ok4, ok5, ok6⟩ := ok
 unfold lim at ok2 ok3 ok4
 unfold Short at ok5 ok6
 refine Code.wp_only (R := fun a' w' => Agree (fun i => (decide (33 ≤ i) && decide (i ≤ 44))) a a' ∧ LookAt B w' pb v P why4 (say (decide (0 < x.size) && decide (x.size ≤ 67108864)) x.pos 1 ++ L) ∧ Keep (fun k => k = pb) w w') ?_ (fun a4 w4 h => hQ a4 w4 h.1 h.2.1 h.2.2)
 clear hQ
 conv => arg 2; whnf
 have q0 := hx0.c0
 have q1 := hx0 1 _ rfl
 have q2 := hx0 2 _ rfl
 have q3 := hx0 3 _ rfl
 have q4 := hx0 4 _ rfl
 have q5 := hx0 5 _ rfl
 have q6 := hx0 6 _ rfl
 have q7 := hx0 7 _ rfl
 have q8 := hx0 8 _ rfl
 have q9 := hx0 9 _ rfl
 obtain ⟨b1, e1⟩ : ∃ b, decide (0 < x.size) = b := ⟨_, rfl⟩
 obtain ⟨b2, e2⟩ : ∃ b, decide (x.size ≤ 67108864) = b := ⟨_, rfl⟩
 have HS : Hid (say (decide (0 < x.size) && decide (x.size ≤ 67108864)) x.pos 1 = say (b1 && b2) x.pos 1) := by rw [e1, e2]; exact Lib.hid rfl
 have e3 : decide ((0 : Int) < (x.size : Int)) = b1 := by rw [← e1]; exact decide_eq_decide.2 (by omega)
 have e4 : decide ((x.size : Int) ≤ 67108864) = b2 := by rw [← e2]; exact decide_eq_decide.2 (by omega)
 have HLd := Lib.hid h
 have hun := undef_eq
 clear h hx0
 obtain ⟨T, d⟩ := a
 refine wp_region_lit ?_
 cases b1
 · skip
   iterate 11 with_reducible refine st ?_
   with_reducible refine wpList_step (fun K hK => ?_)
   go_simp
   refine (must_any _ _ 1 32 HLd.out rfl).mono ?_
   rintro e w2 ⟨rfl, hL2, hk2⟩
   with_reducible refine hK _ _ (wpList_nil ?_)
   refine ⟨rfl, ?_, ?_, ?_⟩
   · exact ag
   · rw [HS.out]
     exact hL2
   · exact hk2
 · skip
   iterate 11 with_reducible refine st ?_
   with_reducible refine wpList_step (fun K hK => ?_)
   go_simp
   refine (must_any _ _ 1 32 HLd.out rfl).mono ?_
   rintro e w2 ⟨rfl, hL2, hk2⟩
   with_reducible refine hK _ _ (wpList_nil ?_)
   refine ⟨rfl, ?_, ?_, ?_⟩
   · exact ag
   · rw [HS.out]
     exact hL2
   · exact hk2
theorem reg_fill {B : Nat} {w : World} {pb : Nat} {v : PolV} {P : Policy} {L : List Wr} (h : LookAt B w pb v P why4 L) {z : Nat} {x : Ck.Region} (hx0 : CellsAt w z 0 [.int .i64 x.pos, .string x.name, .int .u64 x.size, .bool x.fixed, .int .u64 x.at_, .bool x.big, .bool x.wx, .int .u64 x.fill, .bool x.texted, .string x.text]) (ok : x.Ok) (a : Act) (hsz : a.tmps.size = 119) (h0 : At a 0 (.pointer (some ⟨pb, 0, none⟩))) (h5 : At a 5 (.pointer (some ⟨z, 0, none⟩))) (h6 : At a 6 (.int .u64 x.text.size)) (Q : Exit → Act → World → Prop)
 (hQ : ∀ a' w', Agree (fun i => (decide (88 ≤ i) && decide (i ≤ 114))) a a' → LookAt B w' pb v P why4 (fillW x ++ L) → Keep (fun k => k = pb) w w' → Q .normal a' w') :
 (codeC Tryz.f52 [1, 1, 0, 1, 0, 0, 1, 1, 0, 0, 1, 1, 1, 1, 1]).wp Tryz.prog Q a w := by
 obtain ⟨ok1, ok2, ok3, ok4, ok5, ok6⟩ := ok
 unfold lim at ok2 ok3 ok4
 unfold Short at ok5 ok6
 refine Code.wp_only (R := fun a' w' => Agree (fun i => (decide (88 ≤ i) && decide (i ≤ 114))) a a' ∧ LookAt B w' pb v P why4 (fillW x ++ L) ∧ Keep (fun k => k = pb) w w') ?_ (fun a4 w4 h => hQ a4 w4 h.1 h.2.1 h.2.2)
 clear hQ
 conv => arg 2; whnf
 have q0 := hx0.c0
 have q1 := hx0 1 _ rfl
 have q2 := hx0 2 _ rfl
 have q3 := hx0 3 _ rfl
 have q4 := hx0 4 _ rfl
 have q5 := hx0 5 _ rfl
 have q6 := hx0 6 _ rfl
 have q7 := hx0 7 _ rfl
 have q8 := hx0 8 _ rfl
 have q9 := hx0 9 _ rfl
 obtain ⟨b1, e1⟩ : ∃ b, decide (x.fill < 256) = b := ⟨_, rfl⟩
 obtain ⟨b2, e2⟩ : ∃ b, decide (x.text.size ≤ x.size) = b := ⟨_, rfl⟩
 obtain ⟨b3, e3⟩ : ∃ b, decide (x.text.size ≤ 1048576) = b := ⟨_, rfl⟩
 obtain ⟨b4, e4⟩ : ∃ b, decide (x.fill = 0) = b := ⟨_, rfl⟩
 obtain ⟨b5, e5⟩ : ∃ b, decide (x.size ≤ 1048576) = b := ⟨_, rfl⟩
 have HS : Hid (fillW x = say (b1 && b2 && b3 && (b4 || b5)) x.pos 4) := by
  refine Lib.hid ?_
  unfold fillW
  rw [e1, e2, e3, e4, e5]
 have f1 : decide ((x.fill : Int) < 256) = b1 := by rw [← e1]; exact decide_eq_decide.2 (by omega)
 have f2 : decide ((x.text.size : Int) ≤ (x.size : Int)) = b2 := by rw [← e2]; exact decide_eq_decide.2 (by omega)
 have f3 : decide ((x.text.size : Int) ≤ 1048576) = b3 := by rw [← e3]; exact decide_eq_decide.2 (by omega)
 have f4 : ((x.fill : Int) == 0) = b4 := by rw [← e4]; exact nat_eqb _ 0
 have f5 : decide ((x.size : Int) ≤ 1048576) = b5 := by rw [← e5]; exact decide_eq_decide.2 (by omega)
 have HLd := Lib.hid h
 have hun := undef_eq
 clear h hx0 e4
 obtain ⟨T, d⟩ := a
 refine wp_region_lit ?_
 have hss := HS.out
 cases b1
 · clear hss
   iterate 26 with_reducible refine st ?_
   with_reducible refine wpList_step (fun K hK => ?_)
   go_simp
   refine (must_any _ _ 4 105 HLd.out rfl).mono ?_
   rintro e w2 ⟨rfl, hL2, hk2⟩
   with_reducible refine hK _ _ (wpList_nil ?_)
   refine ⟨rfl, ?_, ?_, ?_⟩
   · exact ag
   · rw [HS.out]
     exact hL2
   · exact hk2
 · cases b2
   · clear hss
     iterate 26 with_reducible refine st ?_
     with_reducible refine wpList_step (fun K hK => ?_)
     go_simp
     refine (must_any _ _ 4 105 HLd.out rfl).mono ?_
     rintro e w2 ⟨rfl, hL2, hk2⟩
     with_reducible refine hK _ _ (wpList_nil ?_)
     refine ⟨rfl, ?_, ?_, ?_⟩
     · exact ag
     · rw [HS.out]
       exact hL2
     · exact hk2
   · cases b3
     · clear hss
       iterate 26 with_reducible refine st ?_
       with_reducible refine wpList_step (fun K hK => ?_)
       go_simp
       refine (must_any _ _ 4 105 HLd.out rfl).mono ?_
       rintro e w2 ⟨rfl, hL2, hk2⟩
       with_reducible refine hK _ _ (wpList_nil ?_)
       refine ⟨rfl, ?_, ?_, ?_⟩
       · exact ag
       · rw [HS.out]
         exact hL2
       · exact hk2
     · clear hss
       cases b4
       · skip
         iterate 26 with_reducible refine st ?_
         with_reducible refine wpList_step (fun K hK => ?_)
         go_simp
         refine (must_any _ _ 4 105 HLd.out rfl).mono ?_
         rintro e w2 ⟨rfl, hL2, hk2⟩
         with_reducible refine hK _ _ (wpList_nil ?_)
         refine ⟨rfl, ?_, ?_, ?_⟩
         · exact ag
         · rw [HS.out]
           exact hL2
         · exact hk2
       · skip
         iterate 26 with_reducible refine st ?_
         with_reducible refine wpList_step (fun K hK => ?_)
         go_simp
         refine (must_any _ _ 4 105 HLd.out rfl).mono ?_
         rintro e w2 ⟨rfl, hL2, hk2⟩
         with_reducible refine hK _ _ (wpList_nil ?_)
         refine ⟨rfl, ?_, ?_, ?_⟩
         · exact ag
         · rw [HS.out]
           exact hL2
         · exact hk2
theorem append_part {w : World} {P : Program} (hP : P = Tryz.prog) {ops : Array Oper} {rest : List Oper} {o : Oper} {a : Act} {Q : Exit → Act → World → Prop} (hgd : o.guard = none) {s x : Operand}
 (ho : o.op = .call { callee := .builtin .append, args := #[s, x], argTypes := #[168, 168] }) {Z : Nat} {u : Value} {l : List Part} (hs : a.eval s = u) (hown : w.ownsRow Z 170 3 u l.length (partCells l)) (hn : l.length ≤ 8388608)
 {blk : Nat} {p : Part} (hx : a.eval x = .slice (some ⟨blk, 0, none⟩) 1 1) (c0 : CellsAt w blk 0 p.cells) (hZ : Z ≤ w.heap.size)
 (h : ∀ u' w', w'.ownsRow Z 170 3 u' (l.length + 1) (partCells (l ++ [p])) → Keep (fun k => u.ownBlock = some k) w w' → wpList P ops Q rest (a.put o.dst u') w') : wpList P ops Q (o :: rest) a w := by
 subst hP
 obtain ⟨i0, hi, hz0, hz1, hz2⟩ := info_parts Tryz.info170
 have hadd : ∀ j, (⟨blk, 0, none⟩ : Addr).add j = ⟨blk, j, none⟩ := fun j => by unfold Addr.add; split <;> simp_all
 refine wpList_append_lies w hgd s x 168 ho Z 170 i0 (.agg #[.int .u64 0, .int .u64 0, .int .i64 0]) 3 24 Tryz.underlying168 hi hz0 hz1 hz2 rfl (by omega) u l.length (partCells l) hs hown ⟨blk, 0, none⟩ 1 1 p.cells hx rfl (fun j v hv => ?_) part_news (by omega) (by unfold maxLen; omega) (by omega) hZ w.heap.size rfl ?_
 · rw [hadd]
   have := c0 j v hv
   rwa [Nat.zero_add] at this
 · intro g cap w' h1 h2 h3 h4
   refine h _ w' ?_ (Keep.of_grown h2 (fun k e => e))
   rw [partCells_snoc]
   exact h1
theorem reg_put {B : Nat} {w : World} {pb : Nat} {v : PolV} {P : Policy} {L : List Wr} (h : LookAt B w pb v P why4 L) {z : Nat} {x : Ck.Region} (hx0 : CellsAt w z 0 [.int .i64 x.pos, .string x.name, .int .u64 x.size, .bool x.fixed, .int .u64 x.at_, .bool x.big, .bool x.wx, .int .u64 x.fill, .bool x.texted, .string x.text]) (a : Act) (hsz : a.tmps.size = 119) (h5 : At a 5 (.pointer (some ⟨z, 0, none⟩))) {Z : Nat} {u : Value} {l : List Part} (h2 : At a 2 u) (HO : Hid (w.ownsRow Z 170 3 u l.length (partCells l))) (hl : l.length ≤ 8388608) (hZ : Z ≤ w.heap.size) (hBZ : B ≤ Z) (Q : Exit → Act → World → Prop)
 (hQ : ∀ a' w' u', Agree (fun i => i == 2 || (decide (74 ≤ i) && decide (i ≤ 83))) a a' → At a' 2 u' → w'.ownsRow Z 170 3 u' (l.length + 1) (partCells (l ++ [⟨x.at_, x.size, x.pos⟩])) → LookAt B w' pb v P why4 L → Keep (fun k => u.ownBlock = some k) w w' → Q .normal a' w') :
 (codeC Tryz.f52 [1, 1, 0, 1, 0, 0, 1, 1, 0, 0, 1, 1, 1, 0, 1, 0, 1]).wp Tryz.prog Q a w := by
 conv => arg 2; whnf
 refine Code.wp_only (R := fun a4 w4 => Agree (fun i => i == 2 || (decide (74 ≤ i) && decide (i ≤ 83))) a a4 ∧ (∃ u', At a4 2 u' ∧ w4.ownsRow Z 170 3 u' (l.length + 1) (partCells (l ++ [⟨x.at_, x.size, x.pos⟩]))) ∧ LookAt B w4 pb v P why4 L ∧ Keep (fun k => u.ownBlock = some k) w w4) ?_ (fun a4 w4 h => hQ a4 w4 h.2.1.choose h.1 h.2.1.choose_spec.1 h.2.1.choose_spec.2 h.2.2.1 h.2.2.2)
 clear hQ
 have q0 := hx0.c0
 have q1 := hx0 1 _ rfl
 have q2 := hx0 2 _ rfl
 have q3 := hx0 3 _ rfl
 have q4 := hx0 4 _ rfl
 have q5 := hx0 5 _ rfl
 have q6 := hx0 6 _ rfl
 have q7 := hx0 7 _ rfl
 have q8 := hx0 8 _ rfl
 have q9 := hx0 9 _ rfl
 have HL := Lib.hid h
 clear h hx0
 obtain ⟨T, d⟩ := a
 refine wp_region_lit ?_
 iterate 9 with_reducible refine st ?_
 have hb := cells_new w [.int .u64 x.at_, .int .u64 x.size, .int .i64 x.pos] 170
 have hka : Keep (fun _ => False) w (w.alloc (.cells #[.int .u64 x.at_, .int .u64 x.size, .int .i64 x.pos] 170)) := (Keep.refl _ _).alloc _
 have HOA := Lib.hid (rowOwn_keep HO.out hka (fun _ _ h => h))
 refine append_part (p := ⟨x.at_, x.size, x.pos⟩) rfl rfl rfl (At.eval (by exact aq) (by have := hsz; simp at this ⊢; omega)) HOA.out (by omega) (At.eval (by exact aq) (by have := hsz; simp at this ⊢; omega)) hb (by have := hka.size; omega) ?_
 intro u2 w4 hown4 hk4
 have HU4 := Lib.hid hown4
 have HKA : Hid (Keep (fun k => u.ownBlock = some k) w w4) := (hka.mono fun _ _ h => h.elim).trans hk4 (fun i hi h => h)
 have HLG := Lib.hid ((HL.out.new hka).grown HOA.out hBZ (by decide) hk4)
 clear hown4 hk4 hb hka HOA
 simp only [Act.put]
 with_reducible refine st ?_
 with_reducible refine wpList_nil ?_
 refine ⟨rfl, ag, ⟨u2, aq, HU4.out⟩, HLG.out, HKA.out⟩
theorem covers_rams {l : List Sp} {P : Policy} (h : ∀ p, inSp l p ↔ inSp (ramSp P) p) (a b : Nat) : coversL l a b = covers P.rams a b := by
 unfold coversL covers
 have e : ∀ p, inSp l p ↔ ∃ r ∈ P.rams, r.at_ ≤ p ∧ p ≤ lastOf r.at_ r.size := fun p => by
  rw [h]
  unfold inSp ramSp ramS
  simp only [List.mem_map]
  constructor
  · rintro ⟨s, ⟨r, hr, rfl⟩, h1⟩
    exact ⟨r, hr, h1⟩
  · rintro ⟨r, hr, h1⟩
    exact ⟨_, ⟨r, hr, rfl⟩, h1⟩
 rw [Bool.eq_iff_iff]
 simp only [decide_eq_true_eq, e]
theorem reg_cover {B : Nat} {w : World} {pb : Nat} {v : PolV} {P : Policy} {L : List Wr} (h : LookAt B w pb v P why4 L) {z : Nat} {x : Ck.Region} (hx0 : CellsAt w z 0 [.int .i64 x.pos, .string x.name, .int .u64 x.size, .bool x.fixed, .int .u64 x.at_, .bool x.big, .bool x.wx, .int .u64 x.fill, .bool x.texted, .string x.text]) (ok : x.Ok) (a : Act) (hsz : a.tmps.size = 119) (h0 : At a 0 (.pointer (some ⟨pb, 0, none⟩))) (h5 : At a 5 (.pointer (some ⟨z, 0, none⟩))) (hzl : z < w.heap.size) (hzp : z ≠ pb) {zs : Nat} {us : Value} {lsp : List Sp} (h3 : At a 3 (.pointer (some ⟨zs, 0, none⟩))) (hzs : w.cell? ⟨zs, 0, none⟩ = some us) (hzsl : zs < w.heap.size) (hzsp : zs ≠ pb) (hsp : SpansAt w pb us lsp) (hset : SetOk lsp) (hin : ∀ p, inSp lsp p ↔ inSp (ramSp P) p) (Q : Exit → Act → World → Prop)
 (hQ : ∀ a' w', Agree (fun i => (decide (47 ≤ i) && decide (i ≤ 73))) a a' → LookAt B w' pb v P why4 (say (decide (x.size = 0) || below x.at_ x.size 4294967296 && covers P.rams x.at_ (lastOf x.at_ x.size)) x.pos 2 ++ L) → Keep (fun k => k = pb) w w' → Q .normal a' w') :
 (codeC Tryz.f52 [1, 1, 0, 1, 0, 0, 1, 1, 0, 0, 1, 1, 1, 0, 1, 0, 0]).wp Tryz.prog Q a w := by
 obtain ⟨ok1, ok2, ok3, ok4, ok5, ok6⟩ := ok
 unfold lim at ok2 ok3 ok4
 unfold Short at ok5 ok6
 refine Code.wp_only (R := fun a' w' => Agree (fun i => (decide (47 ≤ i) && decide (i ≤ 73))) a a' ∧ LookAt B w' pb v P why4 (say (decide (x.size = 0) || below x.at_ x.size 4294967296 && covers P.rams x.at_ (lastOf x.at_ x.size)) x.pos 2 ++ L) ∧ Keep (fun k => k = pb) w w') ?_ (fun a4 w4 h => hQ a4 w4 h.1 h.2.1 h.2.2)
 clear hQ
 conv => arg 2; whnf
 have hlt := h.lt
 have HLd := Lib.hid (h.new ((Keep.refl _ w).drew))
 by_cases hs0 : x.size = 0
 · have HS : Hid (say (decide (x.size = 0) || below x.at_ x.size 4294967296 && covers P.rams x.at_ (lastOf x.at_ x.size)) x.pos 2 = say true x.pos 2) := by rw [decide_eq_true hs0, Bool.true_or]; exact Lib.hid rfl
   have q0 := hx0.c0
   have q2 := hx0 2 _ rfl
   rw [hs0] at q2
   have hun := undef_eq
   clear h hx0 hsp hin
   obtain ⟨T, d⟩ := a
   refine wp_region_still_tail 26 (by kernel_rfl) (by kernel_rfl) ?_
   simp only [List.take_succ_cons, List.take_zero, List.drop_succ_cons, List.drop_zero]
   iterate 26
    with_reducible refine wpStill_step (fun K hK => ?_)
    go_simp
    with_reducible refine hK _ ?_
    clear hK K
   with_reducible refine wpStill_nil ?_
   with_reducible refine wpList_step (fun K hK => ?_)
   go_simp
   refine (must_any _ _ 2 109 HLd.out rfl).mono ?_
   rintro e w2 ⟨rfl, hL2, hk2⟩
   with_reducible refine hK _ _ (wpList_nil ?_)
   refine ⟨rfl, ?_, ?_, ?_⟩
   · exact ag
   · rw [HS.out]
     exact hL2
   · exact ((Keep.refl _ _).drew).trans hk2 (fun _ _ e => e)
 have hs1 : decide (x.size = 0) = false := decide_eq_false hs0
 have hs2 : ((x.size : Int) == 0) = false := by rw [int_eqb]; exact decide_eq_false (by omega)
 obtain ⟨bb, hbb⟩ : ∃ b, b = below x.at_ x.size 4294967296 := ⟨_, rfl⟩
 have hbc := fun w0 => below_any x.at_ x.size 4294967296 w0 ok3 ok2 (by decide)
 rw [← hbb] at hbc
 cases bb
 · have HS : Hid (say (decide (x.size = 0) || below x.at_ x.size 4294967296 && covers P.rams x.at_ (lastOf x.at_ x.size)) x.pos 2 = say false x.pos 2) := by rw [← hbb, hs1]; exact Lib.hid rfl
   have q0 := hx0.c0
   have q2 := hx0 2 _ rfl
   have q4 := hx0 4 _ rfl
   have hbd := fun w0 => flip_ (hbc w0)
   have hun := undef_eq
   clear h hx0 hsp hin hbb hs1 hbc
   obtain ⟨T, d⟩ := a
   refine wp_region_still_tail 26 (by kernel_rfl) (by kernel_rfl) ?_
   simp only [List.take_succ_cons, List.take_zero, List.drop_succ_cons, List.drop_zero]
   iterate 9
    with_reducible refine wpStill_step (fun K hK => ?_)
    go_simp
    with_reducible refine hK _ ?_
    clear hK K
   with_reducible refine wpStill_step (fun K hK => ?_)
   go_simp
   with_reducible refine ⟨_, hbd _, hK _ ?_⟩
   clear hK K
   iterate 16
    with_reducible refine wpStill_step (fun K hK => ?_)
    go_simp
    with_reducible refine hK _ ?_
    clear hK K
   with_reducible refine wpStill_nil ?_
   with_reducible refine wpList_step (fun K hK => ?_)
   go_simp
   refine (must_any _ _ 2 109 HLd.out rfl).mono ?_
   rintro e w2 ⟨rfl, hL2, hk2⟩
   with_reducible refine hK _ _ (wpList_nil ?_)
   refine ⟨rfl, ?_, ?_, ?_⟩
   · exact ag
   · rw [HS.out]
     exact hL2
   · exact ((Keep.refl _ _).drew).trans hk2 (fun _ _ e => e)
 · obtain ⟨cv, hcv⟩ : ∃ b, b = coversL lsp x.at_ (lastOf x.at_ x.size) := ⟨_, rfl⟩
   have HS : Hid (say (decide (x.size = 0) || below x.at_ x.size 4294967296 && covers P.rams x.at_ (lastOf x.at_ x.size)) x.pos 2 = say cv x.pos 2) := by rw [← hbb, hs1, hcv, covers_rams hin]; exact Lib.hid rfl
   have hlw := lastOf_wrap x.at_ x.size
   obtain ⟨la, hla⟩ : ∃ n, n = lastOf x.at_ x.size := ⟨_, rfl⟩
   rw [← hla] at hlw hcv
   have hlal : la < lim := by rw [hla]; exact Nat.mod_lt _ (by decide)
   have HC : Hid (∀ w', Keep (fun _ => False) w.drew w' → (w'.cell? ⟨z, 0, none⟩ = some (.int .i64 x.pos) ∧ w'.cell? ⟨z, 2, none⟩ = some (.int .u64 x.size) ∧ w'.cell? ⟨z, 4, none⟩ = some (.int .u64 x.at_) ∧ w'.cell? ⟨zs, 0, none⟩ = some us)) := fun w' hk => by
    have hk2 : Keep (fun _ => False) w w' := ((Keep.refl _ w).drew).trans hk (fun _ _ h => h)
    have hx2 := hx0.keep hk2 hzl (fun h => h)
    exact ⟨hx2.c0, hx2 2 _ rfl, hx2 4 _ rfl, (hk2.cell (p := ⟨zs, 0, none⟩) hzsl (fun h => h)).trans hzs⟩
   have HCV : Hid (∀ w', Keep (fun _ => False) w.drew w' → Calls Tryz.prog 102 #[.agg #[us], .agg #[.int .u64 x.at_, .int .u64 la]] w' fun e w2 => e = .returned (.bool cv) ∧ Keep (fun _ => False) w' w2) := fun w' hk => by
    have hk2 : Keep (fun _ => False) w w' := ((Keep.refl _ w).drew).trans hk (fun _ _ h => h)
    rw [hcv]
    exact covers_any (hsp.keep (hk2.mono fun _ _ h => h.elim)) hset _ _ ok3 hlal (by have := hk2.size; omega)
   have hux : ∃ A n c, us = .slice A n c := by obtain ⟨A, c, e, _⟩ := hsp; exact ⟨A, _, c, e⟩
   obtain ⟨A, n, c, rfl⟩ := hux
   clear h hx0 hsp hin hbb hs1 hcv hla hzs
   refine wp_region_calm 26 (fun i => ([.pointer (some ⟨pb, 0, none⟩), .pointer (some ⟨z, 2, none⟩), .int .u64 x.size, .bool false, .bool false, .pointer (some ⟨z, 4, none⟩), .int .u64 x.at_, .pointer (some ⟨z, 2, none⟩), .int .u64 x.size, .bool true, .bool true, .agg #[.slice A n c], .pointer (some ⟨z, 4, none⟩), .int .u64 x.at_, .pointer (some ⟨z, 4, none⟩), .int .u64 x.at_, .pointer (some ⟨z, 2, none⟩), .int .u64 x.size, .int .u64 (IntKind.u64.wrap ((x.at_ : Int) + (x.size : Int))), .int .u64 la, .agg #[.int .u64 x.at_, .int .u64 la], .bool cv, .bool cv, .bool cv, .pointer (some ⟨z, 0, none⟩), .int .i64 x.pos] : List Value).getD i undef) (fun w' => Keep (fun _ => False) w.drew w') (by kernel_rfl) (by kernel_rfl) ?_ ?_ ?_
   · first | exact hWd | exact Keep.refl _ _
   · intro i o hi ho a' w' K hW hb hd hK
     have hszq : a'.tmps.size = 119 := hb.size.trans (by first | assumption | (simp only [Array.size_setIfInBounds]; assumption))
     have z_h0 := hb.at_ h0 rfl
     have z_h5 := hb.at_ h5 rfl
     have z_h3 := hb.at_ h3 rfl
     match i, hi, ho, hd, hK with
     | 0, _, ho, hd, hK =>
      obtain rfl : _ = o := Option.some.inj ho
      obtain ⟨T, d⟩ := a'
      go_simp
      exact hK _ hW
     | 1, _, ho, hd, hK =>
      obtain rfl : _ = o := Option.some.inj ho
      obtain ⟨T, d⟩ := a'
      go_simp
      exact hK _ hW
     | 2, _, ho, hd, hK =>
      obtain rfl : _ = o := Option.some.inj ho
      have d_1 : At a' 48 (.pointer (some ⟨z, 2, none⟩)) := hd 1 (by kernel_rfl) (by decide) 48 rfl
      obtain ⟨c0, c2, c4, c9⟩ := HC.out _ hW
      obtain ⟨T, d⟩ := a'
      go_simp
      exact hK _ hW
     | 3, _, ho, hd, hK =>
      obtain rfl : _ = o := Option.some.inj ho
      have d_2 : At a' 49 (.int .u64 x.size) := hd 2 (by kernel_rfl) (by decide) 49 rfl
      obtain ⟨T, d⟩ := a'
      go_simp
      exact hK _ hW
     | 4, _, ho, hd, hK =>
      obtain rfl : _ = o := Option.some.inj ho
      have d_3 : At a' 50 (.bool false) := hd 3 (by kernel_rfl) (by decide) 50 rfl
      obtain ⟨T, d⟩ := a'
      go_simp
      exact hK _ hW
     | 5, _, ho, hd, hK =>
      obtain rfl : _ = o := Option.some.inj ho
      have d_4 : At a' 51 (.bool false) := hd 4 (by kernel_rfl) (by decide) 51 rfl
      have hun := undef_eq
      obtain ⟨T, d⟩ := a'
      go_simp
      exact hK _ hW
     | 6, _, ho, hd, hK =>
      obtain rfl : _ = o := Option.some.inj ho
      have d_5 : At a' 52 (.pointer (some ⟨z, 4, none⟩)) := hd 5 (by kernel_rfl) (by decide) 52 rfl
      have d_4 : At a' 51 (.bool false) := hd 4 (by kernel_rfl) (by decide) 51 rfl
      obtain ⟨c0, c2, c4, c9⟩ := HC.out _ hW
      have hun := undef_eq
      obtain ⟨T, d⟩ := a'
      go_simp
      exact hK _ hW
     | 7, _, ho, hd, hK =>
      obtain rfl : _ = o := Option.some.inj ho
      have d_4 : At a' 51 (.bool false) := hd 4 (by kernel_rfl) (by decide) 51 rfl
      have hun := undef_eq
      obtain ⟨T, d⟩ := a'
      go_simp
      exact hK _ hW
     | 8, _, ho, hd, hK =>
      obtain rfl : _ = o := Option.some.inj ho
      have d_7 : At a' 54 (.pointer (some ⟨z, 2, none⟩)) := hd 7 (by kernel_rfl) (by decide) 54 rfl
      have d_4 : At a' 51 (.bool false) := hd 4 (by kernel_rfl) (by decide) 51 rfl
      obtain ⟨c0, c2, c4, c9⟩ := HC.out _ hW
      have hun := undef_eq
      obtain ⟨T, d⟩ := a'
      go_simp
      exact hK _ hW
     | 9, _, ho, hd, hK =>
      obtain rfl : _ = o := Option.some.inj ho
      have d_6 : At a' 53 (.int .u64 x.at_) := hd 6 (by kernel_rfl) (by decide) 53 rfl
      have d_8 : At a' 55 (.int .u64 x.size) := hd 8 (by kernel_rfl) (by decide) 55 rfl
      have d_4 : At a' 51 (.bool false) := hd 4 (by kernel_rfl) (by decide) 51 rfl
      obtain ⟨c0, c2, c4, c9⟩ := HC.out _ hW
      have hun := undef_eq
      obtain ⟨T, d⟩ := a'
      go_simp
      refine (hbc _).mono ?_
      rintro e w2 ⟨rfl, rfl⟩
      exact hK _ hW
     | 10, _, ho, hd, hK =>
      obtain rfl : _ = o := Option.some.inj ho
      have d_9 : At a' 56 (.bool true) := hd 9 (by kernel_rfl) (by decide) 56 rfl
      have d_4 : At a' 51 (.bool false) := hd 4 (by kernel_rfl) (by decide) 51 rfl
      have hun := undef_eq
      obtain ⟨T, d⟩ := a'
      go_simp
      exact hK _ hW
     | 11, _, ho, hd, hK =>
      obtain rfl : _ = o := Option.some.inj ho
      have d_10 : At a' 57 (.bool true) := hd 10 (by kernel_rfl) (by decide) 57 rfl
      obtain ⟨c0, c2, c4, c9⟩ := HC.out _ hW
      have hun := undef_eq
      obtain ⟨T, d⟩ := a'
      go_simp
      exact hK _ hW
     | 12, _, ho, hd, hK =>
      obtain rfl : _ = o := Option.some.inj ho
      have d_10 : At a' 57 (.bool true) := hd 10 (by kernel_rfl) (by decide) 57 rfl
      have hun := undef_eq
      obtain ⟨T, d⟩ := a'
      go_simp
      exact hK _ hW
     | 13, _, ho, hd, hK =>
      obtain rfl : _ = o := Option.some.inj ho
      have d_12 : At a' 59 (.pointer (some ⟨z, 4, none⟩)) := hd 12 (by kernel_rfl) (by decide) 59 rfl
      have d_10 : At a' 57 (.bool true) := hd 10 (by kernel_rfl) (by decide) 57 rfl
      obtain ⟨c0, c2, c4, c9⟩ := HC.out _ hW
      have hun := undef_eq
      obtain ⟨T, d⟩ := a'
      go_simp
      exact hK _ hW
     | 14, _, ho, hd, hK =>
      obtain rfl : _ = o := Option.some.inj ho
      have d_10 : At a' 57 (.bool true) := hd 10 (by kernel_rfl) (by decide) 57 rfl
      have hun := undef_eq
      obtain ⟨T, d⟩ := a'
      go_simp
      exact hK _ hW
     | 15, _, ho, hd, hK =>
      obtain rfl : _ = o := Option.some.inj ho
      have d_14 : At a' 61 (.pointer (some ⟨z, 4, none⟩)) := hd 14 (by kernel_rfl) (by decide) 61 rfl
      have d_10 : At a' 57 (.bool true) := hd 10 (by kernel_rfl) (by decide) 57 rfl
      obtain ⟨c0, c2, c4, c9⟩ := HC.out _ hW
      have hun := undef_eq
      obtain ⟨T, d⟩ := a'
      go_simp
      exact hK _ hW
     | 16, _, ho, hd, hK =>
      obtain rfl : _ = o := Option.some.inj ho
      have d_10 : At a' 57 (.bool true) := hd 10 (by kernel_rfl) (by decide) 57 rfl
      have hun := undef_eq
      obtain ⟨T, d⟩ := a'
      go_simp
      exact hK _ hW
     | 17, _, ho, hd, hK =>
      obtain rfl : _ = o := Option.some.inj ho
      have d_16 : At a' 63 (.pointer (some ⟨z, 2, none⟩)) := hd 16 (by kernel_rfl) (by decide) 63 rfl
      have d_10 : At a' 57 (.bool true) := hd 10 (by kernel_rfl) (by decide) 57 rfl
      obtain ⟨c0, c2, c4, c9⟩ := HC.out _ hW
      have hun := undef_eq
      obtain ⟨T, d⟩ := a'
      go_simp
      exact hK _ hW
     | 18, _, ho, hd, hK =>
      obtain rfl : _ = o := Option.some.inj ho
      have d_15 : At a' 62 (.int .u64 x.at_) := hd 15 (by kernel_rfl) (by decide) 62 rfl
      have d_17 : At a' 64 (.int .u64 x.size) := hd 17 (by kernel_rfl) (by decide) 64 rfl
      have d_10 : At a' 57 (.bool true) := hd 10 (by kernel_rfl) (by decide) 57 rfl
      have hun := undef_eq
      obtain ⟨T, d⟩ := a'
      go_simp
      exact hK _ hW
     | 19, _, ho, hd, hK =>
      obtain rfl : _ = o := Option.some.inj ho
      have d_18 : At a' 65 (.int .u64 (IntKind.u64.wrap ((x.at_ : Int) + (x.size : Int)))) := hd 18 (by kernel_rfl) (by decide) 65 rfl
      have d_10 : At a' 57 (.bool true) := hd 10 (by kernel_rfl) (by decide) 57 rfl
      have hun := undef_eq
      obtain ⟨T, d⟩ := a'
      go_simp
      exact hK _ hW
     | 20, _, ho, hd, hK =>
      obtain rfl : _ = o := Option.some.inj ho
      have d_13 : At a' 60 (.int .u64 x.at_) := hd 13 (by kernel_rfl) (by decide) 60 rfl
      have d_19 : At a' 66 (.int .u64 la) := hd 19 (by kernel_rfl) (by decide) 66 rfl
      have d_10 : At a' 57 (.bool true) := hd 10 (by kernel_rfl) (by decide) 57 rfl
      have hun := undef_eq
      obtain ⟨T, d⟩ := a'
      go_simp
      exact hK _ hW
     | 21, _, ho, hd, hK =>
      obtain rfl : _ = o := Option.some.inj ho
      have d_11 : At a' 58 (.agg #[.slice A n c]) := hd 11 (by kernel_rfl) (by decide) 58 rfl
      have d_20 : At a' 67 (.agg #[.int .u64 x.at_, .int .u64 la]) := hd 20 (by kernel_rfl) (by decide) 67 rfl
      have d_10 : At a' 57 (.bool true) := hd 10 (by kernel_rfl) (by decide) 57 rfl
      obtain ⟨c0, c2, c4, c9⟩ := HC.out _ hW
      have hun := undef_eq
      obtain ⟨T, d⟩ := a'
      go_simp
      refine (HCV.out _ hW).mono ?_
      rintro e w2 ⟨rfl, hk2⟩
      exact hK _ (hW.trans hk2 (fun _ _ h => h))
     | 22, _, ho, hd, hK =>
      obtain rfl : _ = o := Option.some.inj ho
      have d_10 : At a' 57 (.bool true) := hd 10 (by kernel_rfl) (by decide) 57 rfl
      have d_21 : At a' 68 (.bool cv) := hd 21 (by kernel_rfl) (by decide) 68 rfl
      have d_4 : At a' 51 (.bool false) := hd 4 (by kernel_rfl) (by decide) 51 rfl
      have hun := undef_eq
      obtain ⟨T, d⟩ := a'
      go_simp
      exact hK _ hW
     | 23, _, ho, hd, hK =>
      obtain rfl : _ = o := Option.some.inj ho
      have d_4 : At a' 51 (.bool false) := hd 4 (by kernel_rfl) (by decide) 51 rfl
      have d_22 : At a' 69 (.bool cv) := hd 22 (by kernel_rfl) (by decide) 69 rfl
      obtain ⟨T, d⟩ := a'
      go_simp
      exact hK _ hW
     | 24, _, ho, hd, hK =>
      obtain rfl : _ = o := Option.some.inj ho
      obtain ⟨T, d⟩ := a'
      go_simp
      exact hK _ hW
     | 25, _, ho, hd, hK =>
      obtain rfl : _ = o := Option.some.inj ho
      have d_24 : At a' 71 (.pointer (some ⟨z, 0, none⟩)) := hd 24 (by kernel_rfl) (by decide) 71 rfl
      obtain ⟨c0, c2, c4, c9⟩ := HC.out _ hW
      obtain ⟨T, d⟩ := a'
      go_simp
      exact hK _ hW
     | i + 26, hi, _, _, _ => omega
   · intro o ho a' w' hW hb hd
     obtain rfl : _ = o := Option.some.inj ho
     have hszq : a'.tmps.size = 119 := hb.size.trans (by first | assumption | (simp only [Array.size_setIfInBounds]; assumption))
     have z_h0 := hb.at_ h0 rfl
     have z_h5 := hb.at_ h5 rfl
     have z_h3 := hb.at_ h3 rfl
     have d_0 : At a' 47 (.pointer (some ⟨pb, 0, none⟩)) := hd 0 (by decide) 47 rfl
     have d_23 : At a' 70 (.bool cv) := hd 23 (by decide) 70 rfl
     have d_25 : At a' 72 (.int .i64 x.pos) := hd 25 (by decide) 72 rfl
     have HLw := Lib.hid (HLd.out.new hW)
     have HKw : Hid (Keep (fun k => k = pb) w w') := ((Keep.refl (fun k => k = pb) w).drew).trans hW (fun _ _ h => h.elim)
     have HB := Lib.hid hb
     clear hW hb hd
     obtain ⟨T, d⟩ := a'
     with_reducible refine wpList_step (fun K hK => ?_)
     go_simp
     refine (must_any _ _ 2 109 HLw.out rfl).mono ?_
     rintro e w2 ⟨rfl, hL2, hk2⟩
     with_reducible refine hK _ _ (wpList_nil ?_)
     refine ⟨rfl, (HB.out.agree (ws := fun i => decide (47 ≤ i) && decide (i ≤ 73)) (by kernel_rfl)).trans (vs := fun i => i == 73) ?_ (by intro j; simp; omega), ?_, HKw.out.trans hk2 (fun _ _ e => e)⟩
     · exact ag
     · rw [HS.out]; exact hL2
def fixL (l : List Ck.Region) : List Part := (l.filter Ck.Region.fixed).map fun x => ⟨x.at_, x.size, x.pos⟩
theorem fixL_snoc (l : List Ck.Region) (x : Ck.Region) : fixL (l ++ [x]) = if x.fixed then fixL l ++ [⟨x.at_, x.size, x.pos⟩] else fixL l := by
 unfold fixL
 rw [List.filter_append]
 by_cases h : x.fixed <;> simp [h]
theorem fixL_len (l : List Ck.Region) : (fixL l).length ≤ l.length := by unfold fixL; rw [List.length_map]; exact List.length_filter_le _ _
theorem reg_loop {B : Nat} {w : World} {pb : Nat} {v : PolV} {P : Policy} (h : LookAt B w pb v P why4 []) (a : Act) (hsz : a.tmps.size = 119) (h0 : At a 0 (.pointer (some ⟨pb, 0, none⟩))) (h2 : At a 2 (.slice none 0 0)) {zs : Nat} {us : Value} {lsp : List Sp} (h3 : At a 3 (.pointer (some ⟨zs, 0, none⟩))) (hzs : w.cell? ⟨zs, 0, none⟩ = some us) (hzsl : zs < w.heap.size) (hzsp : zs ≠ pb) (hsp : SpansAt w pb us lsp) (hset : SetOk lsp) (hin : ∀ p, inSp lsp p ↔ inSp (ramSp P) p) (Q : Exit → Act → World → Prop)
 (hQ : ∀ a' w' u', Agree (fun i => i == 2 || i == 5 || i == 6 || (decide (9 ≤ i) && decide (i ≤ 115))) a a' → At a' 2 u' → w'.ownsRow w.heap.size 170 3 u' (fixL P.regions).length (partCells (fixL P.regions)) → P.regions.length ≤ 8388608 → LookAt B w' pb v P why4 (P.regions.flatMap (regW P)) → Keep (fun k => k = pb) w w' → Q .normal a' w') :
 (codeC Tryz.f52 [1,1,0]).wp Tryz.prog Q a w := by
 have hs := h.pol.regions
 obtain ⟨A, c, hu, hnc, hn0, hl⟩ := hs
 unfold top at hn0
 have hlt := h.lt
 have hBp := h.base
 have hq : w.cell? ⟨pb, 4, none⟩ = some v.regions := h.cell rfl
 rw [hu] at hq
 clear hu
 conv => arg 2; whnf
 refine wp_seq (Code.wp_only (R := fun a1 w1 => Agree (fun i => (decide (9 ≤ i) && decide (i ≤ 15))) a a1 ∧ At a1 13 (.slice A P.regions.length c) ∧ At a1 14 (.int .i64 P.regions.length) ∧ At a1 15 (.int .i64 0) ∧ w1 = w) ?_ ?_)
 · clear hl hsp hin
   obtain ⟨T, d⟩ := a
   refine wp_region_lit ?_
   iterate 7 with_reducible refine st ?_
   with_reducible refine wpList_nil ?_
   refine ⟨rfl, ag, aq, aq, aq, rfl⟩
 rintro a0 w0 ⟨hA0, k_s, k_n, k_i, rfl⟩
 have hsz0 := hA0.size.trans hsz
 replace h0 := hA0.at_ h0 rfl
 replace h2 := hA0.at_ h2 rfl
 replace h3 := hA0.at_ h3 rfl
 obtain ⟨Z, hZ⟩ : ∃ z, z = w0.heap.size := ⟨_, rfl⟩
 rw [← hZ] at hQ
 have HZ := Lib.hid hZ
 clear hZ
 have HSP := Lib.hid hsp
 have HIN := Lib.hid hin
 have HSET := Lib.hid hset
 clear hsp hin hset
 refine wp_range P.regions.length (fun i => i == 2 || i == 5 || i == 6 || (decide (15 ≤ i) && decide (i ≤ 115))) (fun i => i == 2 || i == 5 || i == 6 || (decide (17 ≤ i) && decide (i ≤ 114))) (fun k a' w' => ∃ u, At a' 2 u ∧ w'.ownsRow Z 170 3 u (fixL (P.regions.take k)).length (partCells (fixL (P.regions.take k))) ∧ LookAt B w' pb v P why4 ((P.regions.take k).flatMap (regW P)) ∧ Keep (fun k => k = pb) w0 w') (by omega) k_i k_n (by decide) rfl
  (by intro j; simp; omega) (by omega) (by decide) (fun k a1 a2 w hA ⟨u, h1, h2⟩ => ⟨u, hA.at_ h1 rfl, h2⟩) ⟨_, h2, by simpa [fixL, partCells] using World.ownsRow_nil _ _ _ _, by simpa using h, Keep.refl _ _⟩ ?_ ?_
 · rintro k a1 wr hlt3 hA k_j ⟨u, k_2, hown, hL, hk⟩
   obtain ⟨bl, off, rfl, hbl, hcs⟩ := hl (by omega)
   obtain ⟨x, hx⟩ : ∃ x, P.regions[k]? = some x := ⟨_, List.getElem?_eq_getElem hlt3⟩
   obtain ⟨hc, ok_x⟩ := (flat_stays B _ _) _ _ _ _ _ (hk.below (B := B) (by omega) (fun _ hi e => by omega)) hbl (hcs k x hx)
   have q0 := hc.c0
   have q1 := hc 1 _ rfl
   have q2 := hc 2 _ rfl
   have q3 := hc 3 _ rfl
   have q4 := hc 4 _ rfl
   have q5 := hc 5 _ rfl
   have q6 := hc 6 _ rfl
   have q7 := hc 7 _ rfl
   have q8 := hc 8 _ rfl
   have q9 := hc 9 _ rfl
   have k_0 := hA.at_ h0 rfl
   have k_3 := hA.at_ h3 rfl
   have k_sl := hA.at_ k_s rfl
   have hsz1 := hA.size.trans hsz0
   have hszw := hk.size
   have hblr : bl < wr.heap.size := by omega
   have hkc : k ≤ c := by omega
   obtain ⟨fs, hfs⟩ : ∃ l, l = fixL (P.regions.take k) := ⟨_, rfl⟩
   rw [← hfs] at hown
   have hrl : fs.length ≤ k := by have := fixL_len (P.regions.take k); rw [← hfs, List.length_take] at this; omega
   have HR : Hid (fixL (P.regions.take (k + 1)) = if x.fixed then fs ++ [⟨x.at_, x.size, x.pos⟩] else fs) := by
    refine Lib.hid ?_
    rw [take_at hx, fixL_snoc, hfs]
   have HX := Lib.hid hx
   have HO := Lib.hid hown
   have HL := Lib.hid hL
   have HK := Lib.hid hk
   have HA := Lib.hid hA
   clear hx hown hk hA hcs hc hfs hl hL
   refine wp_seq (Code.wp_only (R := fun a2 w2 => Agree (fun i => i == 17 || i == 18 || i == 5) a1 a2 ∧ At a2 5 (.pointer (some ⟨wr.heap.size, 0, none⟩)) ∧ w2 = wr.alloc (.cells #[.int .i64 x.pos, .string x.name, .int .u64 x.size, .bool x.fixed, .int .u64 x.at_, .bool x.big, .bool x.wx, .int .u64 x.fill, .bool x.texted, .string x.text] 48)) ?_ ?_)
   · obtain ⟨T, d⟩ := a1
     refine wp_region_lit ?_
     iterate 4 with_reducible refine st ?_
     with_reducible refine wpList_nil ?_
     refine ⟨rfl, ag, aq, rfl⟩
   rintro a2 wo ⟨hA2, k_5, hwo⟩
   obtain ⟨z, hz⟩ : ∃ z, z = wr.heap.size := ⟨_, rfl⟩
   rw [← hz] at k_5
   have hx0 : CellsAt wo z 0 [.int .i64 x.pos, .string x.name, .int .u64 x.size, .bool x.fixed, .int .u64 x.at_, .bool x.big, .bool x.wx, .int .u64 x.fill, .bool x.texted, .string x.text] := by rw [hwo, hz]; exact cells_new _ _ _
   have hzo : z < wo.heap.size := by rw [hwo, hz]; simp
   have hko : Keep (fun _ => False) wr wo := by rw [hwo]; exact (Keep.refl _ _).alloc _
   have hzpb : z ≠ pb := by omega
   have hsz2 := hA2.size.trans hsz1
   have k_0 := hA2.at_ k_0 rfl
   have k_3 := hA2.at_ k_3 rfl
   have k_2 := hA2.at_ k_2 rfl
   have HOz : Hid (∀ k, u.ownBlock = some k → k < z ∧ k ≠ pb) := fun k hk => by have h1 := (HO.out.lt k hk); have := HZ.out; omega
   have HO := Lib.hid (rowOwn_keep HO.out hko (fun _ _ h => h))
   have HL1 := Lib.hid (HL.out.new hko)
   have HK1 := Lib.hid (HK.out.trans hko (fun _ _ h => h.elim))
   have HAg : Hid (Agree (fun i => i == 2 || i == 5 || i == 6 || (decide (17 ≤ i) && decide (i ≤ 114))) a1 a2) := hA2.mono (by intro j; simp; omega)
   clear hwo hz hko HL HK hA2 k_sl k_j hszw hblr q0 q1 q2 q3 q4 q5 q6 q7 q8 q9
   refine wp_seq (reg_unit HL1.out hx0 ok_x a2 hsz2 k_0 k_5 _ (fun a3 w3 hA3 hL3 hk3 => ?_))
   have hx0 := hx0.keep hk3 hzo hzpb
   have hzo : z < w3.heap.size := Nat.lt_of_lt_of_le hzo hk3.size
   have HO := Lib.hid (rowOwn_keep HO.out hk3 (fun j hj e => (HOz.out j hj).2 e))
   have HL1 := Lib.hid hL3
   have HK1 := Lib.hid (HK1.out.trans hk3 (fun _ _ e => e))
   have k_0 := hA3.at_ k_0 rfl
   have k_2 := hA3.at_ k_2 rfl
   have k_3 := hA3.at_ k_3 rfl
   have k_5 := hA3.at_ k_5 rfl
   have hsz2 := hA3.size.trans hsz2
   have HAg : Hid (Agree (fun i => i == 2 || i == 5 || i == 6 || (decide (17 ≤ i) && decide (i ≤ 114))) a1 a3) := HAg.out.trans hA3 (by intro j; simp; omega)
   clear hA3 hL3 hk3
   refine wp_seq (reg_size HL1.out hx0 ok_x a3 hsz2 k_0 k_5 _ (fun a4 w4 hA4 hL4 hk4 => ?_))
   have hx0 := hx0.keep hk4 hzo hzpb
   have hzo : z < w4.heap.size := Nat.lt_of_lt_of_le hzo hk4.size
   have HO := Lib.hid (rowOwn_keep HO.out hk4 (fun j hj e => (HOz.out j hj).2 e))
   have HL1 := Lib.hid hL4
   have HK1 := Lib.hid (HK1.out.trans hk4 (fun _ _ e => e))
   have k_0 := hA4.at_ k_0 rfl
   have k_2 := hA4.at_ k_2 rfl
   have k_3 := hA4.at_ k_3 rfl
   have k_5 := hA4.at_ k_5 rfl
   have hsz2 := hA4.size.trans hsz2
   have HAg : Hid (Agree (fun i => i == 2 || i == 5 || i == 6 || (decide (17 ≤ i) && decide (i ≤ 114))) a1 a4) := HAg.out.trans hA4 (by intro j; simp; omega)
   clear hA4 hL4 hk4
   refine wp_seq (Code.wp_only (R := fun a' w' => Agree (fun i => i == 2 || (decide (45 ≤ i) && decide (i ≤ 83))) a4 a' ∧ (∃ u', At a' 2 u' ∧ w'.ownsRow Z 170 3 u' (fixL (P.regions.take (k + 1))).length (partCells (fixL (P.regions.take (k + 1))))) ∧ LookAt B w' pb v P why4 (fixedW P x ++ (say (decide (0 < x.size) && decide (x.size ≤ 67108864)) x.pos 1 ++ (say (decide ((x.size ||| x.at_) % unit x.big = 0)) x.pos 0 ++ (P.regions.take k).flatMap (regW P)))) ∧ Keep (fun k => k = pb) w0 w' ∧ CellsAt w' z 0 [.int .i64 x.pos, .string x.name, .int .u64 x.size, .bool x.fixed, .int .u64 x.at_, .bool x.big, .bool x.wx, .int .u64 x.fill, .bool x.texted, .string x.text]) ?_ ?_)
   · refine wp_seq (Code.wp_only (R := fun a5 w5 => Agree (fun i => i == 45 || i == 46) a4 a5 ∧ At a5 46 (.bool x.fixed) ∧ w5 = w4) ?_ ?_)
     · have q3 := hx0 3 _ rfl
       clear hx0
       obtain ⟨T, d⟩ := a4
       refine wp_region_lit ?_
       iterate 2 with_reducible refine st ?_
       with_reducible refine wpList_nil ?_
       refine ⟨rfl, ag, aq, rfl⟩
     rintro a5 w5 ⟨hA5, k46, rfl⟩
     have hsz5 := hA5.size.trans hsz2
     have e46 := k46.eval (by omega)
     obtain ⟨bf, hfx⟩ : ∃ b, x.fixed = b := ⟨_, rfl⟩
     rw [hfx] at e46
     cases bf
     · refine wp_cond_false e46 (wp_skip ?_)
       repeat with_reducible apply then_normal
       refine ⟨rfl, hA5.mono (by intro j; simp; omega), ⟨u, hA5.at_ k_2 rfl, ?_⟩, ?_, HK1.out, hx0⟩
       · rw [HR.out, hfx]; exact HO.out
       · unfold fixedW; rw [hfx]; simpa using HL1.out
     · refine wp_cond_true e46 ?_
       have hzs5 := (HK1.out.cell (p := ⟨zs, 0, none⟩) hzsl hzsp).trans hzs
       have hzsl5 : zs < w5.heap.size := Nat.lt_of_lt_of_le hzsl HK1.out.size
       refine wp_seq (reg_cover HL1.out hx0 ok_x a5 hsz5 (hA5.at_ k_0 rfl) (hA5.at_ k_5 rfl) hzo hzpb (hA5.at_ k_3 rfl) hzs5 hzsl5 hzsp (HSP.out.keep HK1.out) HSET.out HIN.out _ (fun a6 w6 hA6 hL6 hk6 => ?_))
       repeat with_reducible apply then_normal
       have hx6 := hx0.keep hk6 hzo hzpb
       have hzo6 : z < w6.heap.size := Nat.lt_of_lt_of_le hzo hk6.size
       have HO6 := Lib.hid (rowOwn_keep HO.out hk6 (fun j hj e => (HOz.out j hj).2 e))
       have HK6 := Lib.hid (HK1.out.trans hk6 (fun _ _ e => e))
       have hsz6 := hA6.size.trans hsz5
       refine reg_put hL6 hx6 a6 hsz6 (hA6.at_ (hA5.at_ k_5 rfl) rfl) (hA6.at_ (hA5.at_ k_2 rfl) rfl) HO6 (by omega) (by have := HK6.out.size; have := HZ.out; omega) (by have := HZ.out; omega) _ (fun a7 w7 u7 hA7 k2 hown7 hL7 hk7 => ?_)
       refine ⟨rfl, ((hA5.mono (by intro j; simp; omega)).trans hA6 (by intro j; simp; omega)).trans hA7 (by intro j; simp; omega), ⟨u7, k2, ?_⟩, ?_, HK6.out.trans hk7 (fun j hj e => ?_), hx6.keep hk7 hzo6 (fun e => ?_)⟩
       · rw [HR.out, hfx]; simp only [if_true, List.length_append]; exact hown7
       · unfold fixedW; rw [hfx]; simpa using hL7
       · have := (HO6.out.lt j e).1; have := HZ.out; omega
       · have := (HOz.out z e).1; omega
   rintro a8 w8 ⟨hA8, ⟨u8, k2', hown8⟩, hL8, hk8, hx8⟩
   have HO8 := Lib.hid hown8
   have HL8 := Lib.hid hL8
   have HK8 := Lib.hid hk8
   have k_0 := hA8.at_ k_0 rfl
   have k_5 := hA8.at_ k_5 rfl
   have hsz8 := hA8.size.trans hsz2
   have HAg8 : Hid (Agree (fun i => i == 2 || i == 5 || i == 6 || (decide (17 ≤ i) && decide (i ≤ 114))) a1 a8) := HAg.out.trans hA8 (by intro j; simp; omega)
   clear hown8 hL8 hk8 hA8 HAg hx0 hzo HO HL1 HK1 k_2 k_3
   refine wp_seq (Code.wp_only (R := fun a9 w9 => Agree (fun i => i == 6 || (decide (84 ≤ i) && decide (i ≤ 87))) a8 a9 ∧ At a9 6 (.int .u64 x.text.size) ∧ w9 = w8) ?_ ?_)
   · have q9 := hx8 9 _ rfl
     have hts : IntKind.u64.wrap (x.text.size : Int) = (x.text.size : Int) := u64_in _ (by have := ok_x.2.2.2.2.2; unfold Short at this; omega)
     clear hx8
     obtain ⟨T, d⟩ := a8
     refine wp_region_lit ?_
     iterate 5 with_reducible refine st ?_
     with_reducible refine wpList_nil ?_
     refine ⟨rfl, ag, aq, rfl⟩
   rintro a9 w9 ⟨hA9, k_6, rfl⟩
   refine reg_fill HL8.out hx8 ok_x a9 (hA9.size.trans hsz8) (hA9.at_ k_0 rfl) (hA9.at_ k_5 rfl) k_6 _ (fun a10 w10 hA10 hL10 hk10 => ?_)
   refine ⟨(HAg8.out.trans hA9 (by intro j; simp; omega)).trans hA10 (by intro j; simp; omega), u8, hA10.at_ (hA9.at_ k2' rfl) rfl, rowOwn_keep HO8.out hk10 (fun j hj e => ?_), hL10.congr fun p => ?_, HK8.out.trans hk10 (fun _ _ e => e)⟩
   · have := (HO8.out.lt j hj).1; have := HZ.out; omega
   · rw [take_at HX.out, List.flatMap_append, List.flatMap_cons, List.flatMap_nil, List.append_nil]
     simp only [List.mem_append, regW]
     try simp only [or_assoc, or_comm, or_left_comm]
 · rintro a' w' hA ⟨u, k_2, hown, hL, hk⟩
   rw [List.take_length] at hown hL
   exact hQ _ _ _ ((hA0.mono (by intro j; simp; omega)).trans hA (by intro j; simp; omega)) k_2 hown (by omega) hL hk
theorem fix_ok {B : Nat} {w : World} {v : PolV} {P : Policy} (h : PolAt B w v P) : ∀ x ∈ fixL P.regions, x.Ok := by
 intro s hs
 obtain ⟨x, hx, rfl⟩ := List.mem_map.1 hs
 have hx := (List.mem_filter.1 hx).1
 obtain ⟨A, c, _, _, _, hl⟩ := h.regions
 obtain ⟨bl, off, _, _, hcs⟩ := hl (List.length_pos_of_mem hx)
 obtain ⟨k, hk⟩ := List.getElem?_of_mem hx
 have ok := (hcs k x hk).2
 exact ⟨ok.2.2.1, ok.2.1, ok.1⟩
theorem regions_any {B : Nat} {w : World} {pb : Nat} {v : PolV} {P : Policy} (h : LookAt B w pb v P why4 []) :
 Calls Tryz.prog 52 #[.pointer (some ⟨pb, 0, none⟩)] w fun e w' => e = .returned (.tuple #[]) ∧ LookAt B w' pb v P why4 (regionsW P) ∧ Keep (fun k => k = pb) w w' := by
 have hlt := h.lt
 have HH := Lib.hid h
 have HG := Lib.hid (ground_any h)
 clear h
 refine calls_abs Tryz.func52 Tryz.ntmps52 rfl (by simp) fun a hsz hdf hargs => ?_
 have h0 : At a 0 (.pointer (some ⟨pb, 0, none⟩)) := hargs 0 _ rfl
 clear hargs
 conv => arg 2; whnf
 refine wp_seq (Code.wp_only (R := fun a1 w1 => Agree (fun i => i == 2) a a1 ∧ At a1 2 (.slice none 0 0) ∧ w1 = w) ?_ ?_)
 · obtain ⟨T, d⟩ := a
   refine wp_region_lit ?_
   with_reducible refine st ?_
   with_reducible refine wpList_nil ?_
   refine ⟨rfl, ag, aq, rfl⟩
 rintro a1 w1 ⟨hA1, k2, rfl⟩
 have hsz1 := hA1.size.trans hsz
 have hdf1 := hA1.defers.trans hdf
 have j0 := hA1.at_ h0 rfl
 refine wp_seq (Code.wp_only (R := fun a2 w2 => Agree (fun i => i == 3 || i == 7 || i == 8) a1 a2 ∧ ∃ wg us l, At a2 3 (.pointer (some ⟨wg.heap.size, 0, none⟩)) ∧ SetOk l ∧ (∀ p, inSp l p ↔ inSp (ramSp P) p) ∧ SpansAt wg pb us l ∧ Keep (fun _ => False) w1 wg ∧ w2 = wg.alloc (.cells #[us] 175)) ?_ ?_)
 · obtain ⟨T, d⟩ := a1
   refine wp_region_lit ?_
   with_reducible refine st ?_
   with_reducible refine wpList_step (fun K hK => ?_)
   go_simp
   refine HG.out.mono ?_
   rintro e wg ⟨us, l, rfl, h1, h2, h3, h4⟩
   have h3 := h3 pb hlt
   have H1 := Lib.hid h1
   have H2 := Lib.hid h2
   have H3 := Lib.hid h3
   have H4 := Lib.hid h4
   obtain ⟨A, c, rfl, _⟩ := h3
   clear h1 h2 h4
   with_reducible refine hK _ _ ?_
   clear hK K
   iterate 2 with_reducible refine st ?_
   with_reducible refine wpList_nil ?_
   refine ⟨rfl, ag, wg, _, l, aq, H1.out, H2.out, H3.out, H4.out, rfl⟩
 rintro a2 w2 ⟨hA2, wg, us, l, k3, hset, hin, hsp, hkg, rfl⟩
 have hsz2 := hA2.size.trans hsz1
 have hdf2 := hA2.defers.trans hdf1
 have hka : Keep (fun _ => False) wg (wg.alloc (.cells #[us] 175)) := (Keep.refl _ _).alloc _
 have hk2 := hkg.trans hka (fun _ _ h => h)
 have hsp2 : SpansAt (wg.alloc (.cells #[us] 175)) pb us l := hsp.keep (hka.mono fun _ _ h => h.elim)
 have hzs := cells_new wg [us] 175 0 us rfl
 have hgs := hkg.size
 refine wp_seq (reg_loop (HH.out.new hk2) a2 hsz2 (hA2.at_ j0 rfl) (hA2.at_ k2 rfl) k3 hzs (by simp) (by omega) hsp2 hset hin _ (fun a3 w3 u3 hA3 l2 hown3 hrl hL3 hk3 => ?_))
 have hsz3 := hA3.size.trans hsz2
 have hdf3 := hA3.defers.trans hdf2
 have l0 := hA3.at_ (hA2.at_ j0 rfl) rfl
 have hfl := fixL_len P.regions
 have hpt : PartsAt w3 pb u3 (fixL P.regions) := parts_of_own hown3 (fix_ok hL3.pol) (by omega) (by simp; omega)
 have HC := Lib.hid (apart_any hL3 hpt 3 rfl)
 have HK := Lib.hid ((hk2.mono fun _ _ h => h.elim : Keep (fun k => k = pb) w1 _).trans hk3 (fun _ _ e => e))
 clear hpt hown3 hL3 hk3 hsp2 hsp hka hk2 hkg hset hin hzs hA3 hA2 hA1
 refine Code.wp_only (R := fun a9 w9 => a9.defers = [] ∧ LookAt B w9 pb v P why4 (apartW 3 (fixL P.regions) ++ P.regions.flatMap (regW P)) ∧ Keep (fun k => k = pb) w3 w9) ?_ ?_
 · obtain ⟨T, d⟩ := a3
   refine wp_region_lit ?_
   iterate 2 with_reducible refine st ?_
   with_reducible refine wpList_step (fun K hK => ?_)
   go_simp
   refine HC.out.mono ?_
   rintro e w9 ⟨rfl, hL9, hk9⟩
   with_reducible refine hK _ _ (wpList_nil ?_)
   exact ⟨rfl, hdf3, hL9, hk9⟩
 rintro a9 w9 ⟨hd9, hL9, hk9⟩
 refine post_none rfl hd9 ⟨rfl, hL9.congr fun p => ?_, HK.out.trans hk9 (fun _ _ e => e)⟩
 unfold regionsW
 rw [show P.fixed = fixL P.regions from rfl]
 simp only [List.mem_append, or_comm]
end Go.Proofs.YtpblcjipmoblnaaGreatDoor
