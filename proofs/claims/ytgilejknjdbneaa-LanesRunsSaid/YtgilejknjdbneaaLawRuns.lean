/- The walk of the law LanesRuns. -/
import Derived.Test.YtgilejknjdbneaaV1
import Derived.Test.YtgilejknjdbneaaPlain6
namespace Go.Proofs.Ytgilejknjdbneaa
open Go.RowKit Go.IntWalk

/-- Flatten's answer where the runs are taken by themselves. -/
theorem flatRuns_cases {M : Nat} {xs : List Run} (h : ∀ r ∈ xs, 1 ≤ r.bud ∧ r.bud ≤ M) :
    (M < Ln.sumBud xs ∧ (Ln.flatRuns M xs).1 = [] ∧ (Ln.flatRuns M xs).2.2 = 93) ∨
    (Ln.sumBud xs ≤ M ∧ (Ln.flatRuns M xs).1 = [] ∧ (Ln.flatRuns M xs).2.2 = 4) ∨
    (Ln.sumBud xs ≤ M ∧ ∃ F, Ln.flatRuns M xs = (F, 0, 0) ∧ F.length ≤ 4096 ∧ Ln.Good F (Ln.runTicks M xs)) := by
  have := Ln.flatErr_runs h 0 0 (by omega)
  unfold Ln.flatRuns
  rcases Nat.lt_or_ge M (Ln.sumBud xs) with hs | hs
  · obtain ⟨j, hj⟩ := this.2 (by omega)
    rw [hj]
    exact .inl ⟨hs, rfl, rfl⟩
  · rw [this.1 (by omega), Ln.runs_row (fun r hr => (h r hr).1)]
    simp only [Ln.capped]
    by_cases hc : 4096 < (Ln.rowFrom [] (Ln.runTicks M xs)).length
    · rw [if_pos hc]; exact .inr (.inl ⟨hs, rfl, rfl⟩)
    · rw [if_neg hc]; exact .inr (.inr ⟨hs, _, rfl, by omega, Ln.good_rowFrom _⟩)

theorem own_slice {w : World} {base : Nat} {e : TypeId} {size : Nat} {v : Value} {n : Nat} {xs : List Value} (h : w.ownsRow base e size v n xs) : ∃ A c, v = .slice A n c := by
  rcases h.2 with ⟨h1, h2⟩ | ⟨g, cap, cur, h1, _⟩
  · exact ⟨none, 0, by rw [h1, h2]⟩
  · exact ⟨_, _, h1⟩

theorem slotsAt_own {w : World} {B : Nat} {A : Option Addr} {c : Nat} {l : List Slot} (hown : w.ownsRow B 33 3 (.slice A l.length c) l.length (slotCells l)) : SlotsAt w A l := by
  intro h0
  obtain ⟨g, cap, hv, hBg, hlt⟩ := hown.form h0
  injection hv with e1 e2 e3
  subst e1
  exact slotsAt_of_own hown hlt h0

set_option maxRecDepth 100000 in
set_option maxHeartbeats 2000000 in
theorem lawRuns_any (M : Nat) (A : Option Addr) (c : Nat) (xs : List Run) (lp : Int) (cpu : Nat) (nd : Bool) (w : World) (hM : M < 18446744073709551616)
    (hx : ∀ r ∈ xs, r.bud < 18446744073709551616 ∧ r.per < 18446744073709551616) (hl : xs.length ≤ 140737488351232) (hr : RunsAt w A xs) :
    Calls Try.prog 9 #[.int .u64 M, .agg #[.int .i64 lp, .int .u64 cpu, .bool nd, .slice A xs.length c]] w fun e w' => e = .returned (.bool true) ∧ Below w.heap.size w w' := by
  obtain ⟨W, hW⟩ : ∃ W, W = w.alloc (.cells #[.int .i64 lp, .int .u64 cpu, .bool false, .slice A xs.length c] 31) := ⟨_, rfl⟩
  have hB : Below w.heap.size w W := by subst hW; exact (Below.refl _ _).alloc (Nat.le_refl _) _
  have hWs : W.heap.size = w.heap.size + 1 := by subst hW; simp
  have hWv : W.heap[w.heap.size]? = some (.cells #[.int .i64 lp, .int .u64 cpu, .bool false, .slice A xs.length c] 31 (0, 0)) := by
    subst hW; exact heap_alloc_new _ _
  have c0 : W.cell? ⟨w.heap.size, 0, none⟩ = some (.int .i64 lp) := cell_of_row _ _ _ _ _ _ hWv
  have c1 : W.cell? ⟨w.heap.size, 1, none⟩ = some (.int .u64 cpu) := cell_of_row _ _ _ _ _ _ hWv
  have c2 : W.cell? ⟨w.heap.size, 2, none⟩ = some (.bool false) := cell_of_row _ _ _ _ _ _ hWv
  have c3 : W.cell? ⟨w.heap.size, 3, none⟩ = some (.slice A xs.length c) := cell_of_row _ _ _ _ _ _ hWv
  clear hWv
  have hR : RunsAt W A xs := hr.below hB (Nat.le_refl _)
  have HS := Lib.hid hWs
  have HW := Lib.hid hW
  have HX := Lib.hid hx
  clear hWs hx
  by_cases hbig : 65536 < M
  · go_enter Try.func9, Try.ntmps9
    go_wp2_with fail
    rw [← hW]
    refine (known_any W).mono ?_
    rintro e w1 ⟨rfl, hb1⟩
    go_wp2
    go_ret
    exact ⟨rfl, hB.trans (hb1.mono (by simp [HS.out]))⟩
  by_cases hbig2 : 5000 < xs.length
  · go_enter Try.func9, Try.ntmps9
    go_wp2_with fail
    rw [← hW]
    refine (known_any W).mono ?_
    rintro e w1 ⟨rfl, hb1⟩
    go_wp2
    go_ret
    exact ⟨rfl, hB.trans (hb1.mono (by simp [HS.out]))⟩
  go_enter Try.func9, Try.ntmps9
  go_wp2_with fail
  rw [← hW]
  clear hW
  go_loopw [5, 6] (fun s i wr => ∃ k d : Nat, k ≤ xs.length ∧ i = .int .i64 k ∧ d ≤ k * 65536 ∧ s = .int .u64 d ∧ d + Ln.sumBud (xs.drop k) = Ln.sumBud xs ∧ Hid (∀ j r, j < k → xs[j]? = some r → 1 ≤ r.bud ∧ r.bud ≤ M) ∧ Below W.heap.size W wr) (fun _ i _ => xs.length - (intOf i).toNat)
  case atStart => exact ⟨0, 0, by omega, rfl, by omega, rfl, by simp, Lib.hid (fun j r h => by omega), Below.refl _ _⟩
  case round =>
    obtain ⟨k, d, hk, rfl, hd, rfl, hsum, HA, hbw⟩ := hrel
    have hsz := hbw.size
    have hlt0 : w.heap.size < wr.heap.size := by have := HS.out; omega
    have hcell : ∀ o, wr.cell? ⟨w.heap.size, o, none⟩ = W.cell? ⟨w.heap.size, o, none⟩ := fun o => hbw.cell (p := ⟨w.heap.size, o, none⟩) (by simp [HS.out])
    have c0' := (hcell 0).trans c0
    have c1' := (hcell 1).trans c1
    have c2' := (hcell 2).trans c2
    have c3' := (hcell 3).trans c3
    clear hcell
    have hB1 : Below w.heap.size w wr := hB.trans (hbw.mono (by simp [HS.out]))
    by_cases hlt : k < xs.length
    · obtain ⟨b, off, rfl, hbl, hcs⟩ := hR (by omega)
      obtain ⟨r, hrk⟩ : ∃ r, xs[k]? = some r := ⟨xs[k], List.getElem?_eq_getElem hlt⟩
      obtain ⟨q0, q1, q2, q3⟩ := hcs k r hrk
      rw [← hbw.cell (p := ⟨b, _, none⟩) (by exact hbl)] at q0 q1 q2 q3
      have hbud := (HX.out r (List.mem_of_getElem? hrk)).1
      have hlt1 : b < wr.heap.size := by omega
      have hsb : Ln.sumBud (xs.drop k) = r.bud + Ln.sumBud (xs.drop (k + 1)) := by
        obtain ⟨h1, h2⟩ := List.getElem?_eq_some_iff.1 hrk
        rw [List.drop_eq_getElem_cons h1, h2]; rfl
      have HK := Lib.hid hrk
      clear hrk hcs c0 c1 c2 c3
      by_cases hb1 : r.bud < 1
      · go_wp2_with fail
        refine (known_any wr).mono ?_
        rintro e w1 ⟨rfl, hb2⟩
        go_wp2
        go_ret
        exact ⟨rfl, hB1.trans (hb2.mono hB1.size)⟩
      by_cases hb2 : M < r.bud
      · go_wp2_with fail
        refine (known_any wr).mono ?_
        rintro e w1 ⟨rfl, hb2⟩
        go_wp2
        go_ret
        exact ⟨rfl, hB1.trans (hb2.mono hB1.size)⟩
      go_wp2
      go_roundw
      case rel =>
        refine ⟨k + 1, d + r.bud, by omega, by go_num, by omega, by go_num, by omega, Lib.hid (fun j x hj hx => ?_), hbw⟩
        rcases Nat.lt_or_ge j k with h | h
        · exact HA.out j x h hx
        · obtain rfl : j = k := by omega
          rw [HK.out] at hx
          obtain rfl := Option.some.inj hx
          omega
      case measure => simp [intOf]; omega
    · obtain rfl : k = xs.length := by omega
      have hd' : d = Ln.sumBud xs := by rw [List.drop_length] at hsum; simpa [Ln.sumBud] using hsum
      have hall : ∀ r ∈ xs, 1 ≤ r.bud ∧ r.bud ≤ M := fun r hr => by
        obtain ⟨j, hj⟩ := List.getElem?_of_mem hr
        exact HA.out j r (List.getElem?_eq_some_iff.1 hj).1 hj
      have HAll := Lib.hid hall
      have hRw : RunsAt wr A xs := hR.below hbw (Nat.le_refl _)
      clear hsum hall HA hR c0 c1 c2 c3
      by_cases hM0 : M < 1
      · have h0 : d = 0 := by
          rw [hd']
          rcases hxs : xs with _ | ⟨r, rs⟩
          · rfl
          · have := HAll.out r (by rw [hxs]; simp)
            omega
        clear hd'
        subst h0
        go_wp2_with fail
        refine (flat_bad M wr (.inl hM0) hM lp cpu false _ rfl).mono ?_
        rintro e w1 ⟨v, rfl, hown, hb1⟩
        obtain ⟨A2, c2, rfl⟩ := own_slice hown
        have hB2 := hB1.trans (hb1.mono hB1.size)
        clear hown hb1 hRw
        go_wp2_with fail
        refine (known_any w1).mono ?_
        rintro e w2 ⟨rfl, hb2⟩
        go_wp2
        go_ret
        exact ⟨rfl, hB2.trans (hb2.mono hB2.size)⟩
      rcases flatRuns_cases HAll.out with ⟨h1, h2, h3⟩ | ⟨h1, h2, h3⟩ | ⟨h1, F, hF, hFl, hG⟩
      · obtain ⟨a, ha⟩ : ∃ a, a = (Ln.flatRuns M xs).2.1 := ⟨_, rfl⟩
        have hR : Ln.flatRuns M xs = ([], a, 93) := by rw [ha, ← h2, ← h3]
        rw [← hd'] at h1
        clear h2 h3 ha hd'
        go_wp2_with fail
        refine (flat_runs M A c xs lp cpu wr (by omega) (by omega) HX.out hl hRw).mono ?_
        rw [hR]
        rintro e w1 ⟨v, rfl, hown, hb1⟩
        obtain ⟨A2, c2, rfl⟩ := own_slice hown
        have hB2 := hB1.trans (hb1.mono hB1.size)
        clear hown hb1 hRw hR
        go_wp2_with fail
        refine (known_any w1).mono ?_
        rintro e w2 ⟨rfl, hb2⟩
        go_wp2
        go_ret
        exact ⟨rfl, hB2.trans (hb2.mono hB2.size)⟩
      · obtain ⟨a, ha⟩ : ∃ a, a = (Ln.flatRuns M xs).2.1 := ⟨_, rfl⟩
        have hR : Ln.flatRuns M xs = ([], a, 4) := by rw [ha, ← h2, ← h3]
        rw [← hd'] at h1
        clear h2 h3 ha hd'
        go_wp2_with fail
        refine (flat_runs M A c xs lp cpu wr (by omega) (by omega) HX.out hl hRw).mono ?_
        rw [hR]
        rintro e w1 ⟨v, rfl, hown, hb1⟩
        obtain ⟨A2, c2, rfl⟩ := own_slice hown
        have hB2 := hB1.trans (hb1.mono hB1.size)
        clear hown hb1 hRw hR
        go_wp2_with fail
        refine (known_any w1).mono ?_
        rintro e w2 ⟨rfl, hb2⟩
        go_wp2
        go_ret
        exact ⟨by rw [decide_eq_false (by omega : ¬ M < d)]; rfl, hB2.trans (hb2.mono hB2.size)⟩
      · have h1' : d ≤ M := by omega
        have HG := Lib.hid hG
        have HD := Lib.hid hd'
        clear hG hd'
        go_wp2_with fail
        refine (flat_runs M A c xs lp cpu wr (by omega) (by omega) HX.out hl hRw).mono ?_
        rw [hF]
        rintro e w1 ⟨v, rfl, hown, hb1⟩
        obtain ⟨A2, c2, rfl⟩ := own_slice hown
        have hB2 := hB1.trans (hb1.mono hB1.size)
        have hRw1 := hRw.below hb1 (Nat.le_refl _)
        have hso : SlotsAt w1 A2 F := slotsAt_own hown
        have hm0 : (0 : Int) ≤ (M : Int) * (F.length : Int) := Int.mul_nonneg (by omega) (by omega)
        have hm1 : (M : Int) * (F.length : Int) ≤ 268435456 := by
          have h2 : M * F.length ≤ 268435456 := Nat.le_trans (Nat.mul_le_mul (show M ≤ 65536 by omega) hFl) (by decide)
          have h3 := Int.ofNat_le.2 h2
          rwa [Int.natCast_mul] at h3
        clear hF
        obtain ⟨st, hst⟩ : ∃ st : Int, st = 1 + (M : Int) * (F.length : Int) / 2000000 := ⟨_, rfl⟩
        have hst1 : 1 ≤ st ∧ st ≤ 1000 := by omega
        obtain ⟨ts, hts⟩ : ∃ ts, ts = Ln.runTicks M xs := ⟨_, rfl⟩
        have htl : ts.length = M := by rw [hts]; exact Ln.runTicks_length h1
        have HT := Lib.hid hts
        have HST := Lib.hid hst
        have hcell : ∀ o, w1.cell? ⟨w.heap.size, o, none⟩ = wr.cell? ⟨w.heap.size, o, none⟩ := fun o => hb1.cell (p := ⟨w.heap.size, o, none⟩) (by simp; omega)
        have c0'' := (hcell 0).trans c0'
        have c1'' := (hcell 1).trans c1'
        have c2'' := (hcell 2).trans c2'
        have c3'' := (hcell 3).trans c3'
        have hs1 := hb1.size
        rw [← hts] at HG
        clear hts hcell c0' c1' c2' c3' hb1 hown hRw hbw hsz hB1
        go_wp2_with fail
        rw [← hst, decide_eq_false (by omega : ¬ M < d)]
        clear hst hm0 hm1
        have hF0 : ∀ s ∈ F, s.to ≤ 9223372036854775807 := fun s hs => by
          obtain ⟨j, hj⟩ := List.getElem?_of_mem hs
          have := (HG.out.chain.chain.at_ hj).2.2
          rw [HG.out.last, htl] at this
          omega
        have HF0 := Lib.hid hF0
        clear hF0
        go_loopw [10, 12, 13, 14] (fun t who left i wr => ∃ (k T : Nat) (wh : ByteArray) (lf : Int), k ≤ xs.length + 1 ∧ i = .int .i64 k ∧ t = .int .i64 T ∧ T ≤ M ∧ who = .string wh ∧ left = .int .i64 lf ∧ (0 ≤ lf ∧ lf ≤ 65536) ∧
            ts.drop T = (if k ≤ xs.length then Ln.expand (xs.drop k) ++ List.replicate (M - d) ByteArray.empty else []) ∧ Hid (st = 1 → (T = 0 ∧ lf = 0) ∨ (∃ T', T = T' + 1 ∧ Ln.sched F T' = (wh, lf))) ∧ Below w1.heap.size w1 wr) (fun _ _ _ i _ => xs.length + 1 - (intOf i).toNat)
        case atStart => exact ⟨0, 0, _, _, by omega, rfl, rfl, by omega, rfl, rfl, by omega, by rw [if_pos (by omega), HT.out, HD.out]; rfl, Lib.hid (fun _ => .inl ⟨rfl, rfl⟩), Below.refl _ _⟩
        case round =>
          obtain ⟨k, T, wh, lf, hk, rfl, rfl, hTM, rfl, rfl, hlf, hdrop, HL, hbx⟩ := hrel
          have hsz := hbx.size
          have hcell : ∀ o, wr.cell? ⟨w.heap.size, o, none⟩ = w1.cell? ⟨w.heap.size, o, none⟩ := fun o => hbx.cell (p := ⟨w.heap.size, o, none⟩) (by simp; omega)
          have d0 := (hcell 0).trans c0''
          have d1 := (hcell 1).trans c1''
          have d2 := (hcell 2).trans c2''
          have d3 := (hcell 3).trans c3''
          clear hcell
          by_cases hk1 : k < xs.length
          · rw [if_pos (by omega)] at hdrop
            obtain ⟨b, off, rfl, hbl, hcs⟩ := hRw1 (by omega)
            obtain ⟨r, hrk⟩ : ∃ r, xs[k]? = some r := ⟨xs[k], List.getElem?_eq_getElem hk1⟩
            obtain ⟨q0, q1, q2, q3⟩ := hcs k r hrk
            rw [← hbx.cell (p := ⟨b, _, none⟩) (by exact hbl)] at q0 q1 q2 q3
            obtain ⟨hbud1, hbud2⟩ := HAll.out r (List.mem_of_getElem? hrk)
            have hlt1 : b < wr.heap.size := by omega
            obtain ⟨REST, hREST⟩ : ∃ R, R = Ln.expand (xs.drop (k + 1)) ++ List.replicate (M - d) ByteArray.empty := ⟨_, rfl⟩
            have HRest0 : ts.drop T = List.replicate r.bud r.subj ++ REST := by
              obtain ⟨h1, h2⟩ := List.getElem?_eq_some_iff.1 hrk
              rw [hdrop, List.drop_eq_getElem_cons h1, h2, hREST, ← List.append_assoc]; rfl
            have HRest := Lib.hid HRest0
            have HR2 := Lib.hid hREST
            clear hREST HRest0 hdrop hrk hcs c0'' c1'' c2'' c3''
            obtain ⟨sb, hsb⟩ : ∃ sb, sb = r.subj := ⟨_, rfl⟩
            obtain ⟨n, hn⟩ : ∃ n, n = r.bud := ⟨_, rfl⟩
            rw [← hsb, ← hn] at HRest
            rw [← hsb] at q1
            rw [← hn] at q2 hbud1 hbud2
            clear hsb hn
            go_wp2_with fail
            rw [decide_eq_true (by omega : k ≤ xs.length)]
            go_loopw [10, 12, 13, 17] (fun t who left j wq => ∃ (jn T' : Nat) (wh : ByteArray) (lf : Int), jn ≤ n ∧ j = .int .i64 jn ∧ t = .int .i64 T' ∧ T' ≤ M ∧ who = .string wh ∧ left = .int .i64 lf ∧ (0 ≤ lf ∧ lf ≤ 65536) ∧
                Hid (ts.drop T' = List.replicate (n - jn) sb ++ REST) ∧ Hid (st = 1 → (T' = 0 ∧ lf = 0) ∨ (∃ T'', T' = T'' + 1 ∧ Ln.sched F T'' = (wh, lf))) ∧ Below w1.heap.size w1 wq) (fun _ _ _ j _ => n - (intOf j).toNat)
            case atStart => exact ⟨0, T, wh, lf, by omega, rfl, rfl, hTM, rfl, rfl, hlf, HRest, HL, hbx⟩
            case round =>
              clear HRest HL hlf hbx hTM
              obtain ⟨jn, T', wh, lf, hjn, rfl, rfl, hTM, rfl, rfl, hlf, HRest, HL, hbx⟩ := hrel
              by_cases hj : jn < n
              · have hd1 : ts[T']? = some sb ∧ ts.drop (T' + 1) = List.replicate (n - (jn + 1)) sb ++ REST := by
                  have h := HRest.out
                  rw [show n - jn = (n - (jn + 1)) + 1 by omega, List.replicate_succ, List.cons_append] at h
                  have h2 : T' < ts.length := by
                    rcases Nat.lt_or_ge T' ts.length with h3 | h3
                    · exact h3
                    · rw [List.drop_eq_nil_of_le h3] at h; simp at h
                  rw [List.drop_eq_getElem_cons h2] at h
                  injection h with h3 h4
                  exact ⟨by rw [List.getElem?_eq_getElem h2, h3], h4⟩
                obtain ⟨hd1, hd2⟩ := hd1
                have hTl : T' < M := by rw [← htl]; exact (List.getElem?_eq_some_iff.1 hd1).1
                have HD2 := Lib.hid hd2
                have HD1 := Lib.hid hd1
                clear hd1 hd2
                have hsq := hbx.size
                by_cases hmod : (T' : Int) % st = 0
                · obtain ⟨g1, g2, g3, g4⟩ := HG.out.sched_at HD1.out
                  obtain ⟨mo, hmo⟩ : ∃ mo, Ln.sched F (T' : Int) = (sb, mo) := ⟨_, by rw [← g1]⟩
                  rw [hmo] at g2 g3
                  simp only at g2 g3
                  rw [htl] at g3
                  have hsoq : SlotsAt wr A2 F := hso.below hbx (Nat.le_refl _)
                  have e1 : (sb.toList == sb.toList) = true := by simp
                  have HMO := Lib.hid hmo
                  have hm2 : 1 ≤ mo ∧ mo ≤ 65536 := by omega
                  clear hmo g1 g4 g2 g3
                  by_cases hstep : st = 1
                  · have hstb : (st == 1) = true := by simp [hstep]
                    have HST1 := Lib.hid hstep
                    clear hstep
                    by_cases hleft : 1 < lf
                    · have hcont : wh = sb ∧ lf = mo + 1 := by
                        rcases HL.out HST1.out with ⟨_, h⟩ | ⟨T'', rfl, h⟩
                        · omega
                        · obtain ⟨s'', hs''⟩ : ∃ s'', ts[T'']? = some s'' := ⟨ts[T'']'(by omega), List.getElem?_eq_getElem (by omega)⟩
                          obtain ⟨_, _, _, g4⟩ := HG.out.sched_at hs''
                          rw [h, HMO.out] at g4
                          have := g4 hleft
                          injection this with h1 h2
                          exact ⟨h1.symm, by simp only at h2; omega⟩
                      obtain ⟨rfl, rfl⟩ := hcont
                      go_wp2_with fail
                      refine (sched_any A2 c2 F T' wr (by omega) (by omega) HF0.out hsoq).mono ?_
                      rw [HMO.out]
                      rintro e w3 ⟨rfl, hb3⟩
                      go_wp2
                      go_roundw
                      case rel => exact ⟨jn + 1, T' + 1, _, _, by omega, by go_num, by go_num, by omega, rfl, rfl, by omega, HD2, Lib.hid (fun _ => .inr ⟨T', rfl, HMO.out⟩), hbx.trans (hb3.mono hbx.size)⟩
                      case measure => simp [intOf]; omega
                    · go_wp2_with fail
                      refine (sched_any A2 c2 F T' wr (by omega) (by omega) HF0.out hsoq).mono ?_
                      rw [HMO.out]
                      rintro e w3 ⟨rfl, hb3⟩
                      go_wp2
                      go_roundw
                      case rel => exact ⟨jn + 1, T' + 1, _, _, by omega, by go_num, by go_num, by omega, rfl, rfl, by omega, HD2, Lib.hid (fun _ => .inr ⟨T', rfl, HMO.out⟩), hbx.trans (hb3.mono hbx.size)⟩
                      case measure => simp [intOf]; omega
                  · go_wp2_with fail
                    refine (sched_any A2 c2 F T' wr (by omega) (by omega) HF0.out hsoq).mono ?_
                    rw [HMO.out]
                    rintro e w3 ⟨rfl, hb3⟩
                    go_wp2
                    go_roundw
                    case rel => exact ⟨jn + 1, T' + 1, _, _, by omega, by go_num, by go_num, by omega, rfl, rfl, by omega, HD2, Lib.hid (fun _ => .inr ⟨T', rfl, HMO.out⟩), hbx.trans (hb3.mono hbx.size)⟩
                    case measure => simp [intOf]; omega
                · have hstep : st ≠ 1 := by rintro rfl; exact hmod (Int.emod_one _)
                  go_wp2
                  go_roundw
                  case rel => exact ⟨jn + 1, T' + 1, _, _, by omega, by go_num, by go_num, by omega, rfl, rfl, by omega, HD2, Lib.hid (fun h => absurd h hstep), hbx⟩
                  case measure => simp [intOf]; omega
              · obtain rfl : jn = n := by omega
                have hfin : ts.drop T' = REST := by have := HRest.out; rwa [Nat.sub_self, List.replicate_zero, List.nil_append] at this
                clear HRest
                go_wp2
                go_roundw
                case rel => exact ⟨k + 1, T', wh, lf, by omega, by go_num, rfl, hTM, rfl, rfl, hlf, by rw [hfin, HR2.out, if_pos (by omega)], HL, hbx⟩
                case measure => simp [intOf]; omega
          · by_cases hk2 : k = xs.length
            · rw [if_pos (by omega), hk2, List.drop_length] at hdrop
              have hMd : M - d = M - T := by
                have := congrArg List.length hdrop
                rw [List.length_drop, htl] at this
                simp [Ln.expand] at this
                omega
              obtain ⟨n, hn⟩ : ∃ n, n = M - T := ⟨_, rfl⟩
              obtain ⟨sb, hsb⟩ : ∃ sb : ByteArray, sb = ByteArray.empty := ⟨_, rfl⟩
              obtain ⟨REST, hREST⟩ : ∃ R : List ByteArray, R = [] := ⟨_, rfl⟩
              have HRest : Hid (ts.drop T = List.replicate n sb ++ REST) := Lib.hid (by rw [hdrop, hMd, hREST, hn, hsb]; simp [Ln.expand])
              have HR2 := Lib.hid hREST
              have HSB := Lib.hid hsb
              have hk3 : k ≤ xs.length := by omega
              have hn2 : M - T = n := hn.symm
              have hn9 : n ≤ 65536 := by omega
              clear hREST hdrop c0'' c1'' c2'' c3'' hk2
              go_wp2_with fail
              try rw [hn2]
              try rw [show (M : Int) - (T : Int) = (n : Int) by omega]
              try rw [decide_eq_true hk3]
              rw [show (Value.string { data := #[] }) = .string sb by rw [HSB.out]; rfl]
              clear hsb hn hn2 hMd
              go_loopw [10, 12, 13, 17] (fun t who left j wq => ∃ (jn T' : Nat) (wh : ByteArray) (lf : Int), jn ≤ n ∧ j = .int .i64 jn ∧ t = .int .i64 T' ∧ T' ≤ M ∧ who = .string wh ∧ left = .int .i64 lf ∧ (0 ≤ lf ∧ lf ≤ 65536) ∧
                  Hid (ts.drop T' = List.replicate (n - jn) sb ++ REST) ∧ Hid (st = 1 → (T' = 0 ∧ lf = 0) ∨ (∃ T'', T' = T'' + 1 ∧ Ln.sched F T'' = (wh, lf))) ∧ Below w1.heap.size w1 wq) (fun _ _ _ j _ => n - (intOf j).toNat)
              case atStart => exact ⟨0, T, wh, lf, by omega, rfl, rfl, hTM, rfl, rfl, hlf, HRest, HL, hbx⟩
              case round =>
                clear HRest HL hlf hbx hTM
                obtain ⟨jn, T', wh, lf, hjn, rfl, rfl, hTM, rfl, rfl, hlf, HRest, HL, hbx⟩ := hrel
                by_cases hj : jn < n
                · have hd1 : ts[T']? = some sb ∧ ts.drop (T' + 1) = List.replicate (n - (jn + 1)) sb ++ REST := by
                    have h := HRest.out
                    rw [show n - jn = (n - (jn + 1)) + 1 by omega, List.replicate_succ, List.cons_append] at h
                    have h2 : T' < ts.length := by
                      rcases Nat.lt_or_ge T' ts.length with h3 | h3
                      · exact h3
                      · rw [List.drop_eq_nil_of_le h3] at h; simp at h
                    rw [List.drop_eq_getElem_cons h2] at h
                    injection h with h3 h4
                    exact ⟨by rw [List.getElem?_eq_getElem h2, h3], h4⟩
                  obtain ⟨hd1, hd2⟩ := hd1
                  have hTl : T' < M := by rw [← htl]; exact (List.getElem?_eq_some_iff.1 hd1).1
                  have HD2 := Lib.hid hd2
                  have HD1 := Lib.hid hd1
                  clear hd1 hd2
                  have hsq := hbx.size
                  by_cases hmod : (T' : Int) % st = 0
                  · obtain ⟨g1, g2, g3, g4⟩ := HG.out.sched_at HD1.out
                    obtain ⟨mo, hmo⟩ : ∃ mo, Ln.sched F (T' : Int) = (sb, mo) := ⟨_, by rw [← g1]⟩
                    rw [hmo] at g2 g3
                    simp only at g2 g3
                    rw [htl] at g3
                    have hsoq : SlotsAt wr A2 F := hso.below hbx (Nat.le_refl _)
                    have e1 : (sb.toList == sb.toList) = true := by simp
                    have HMO := Lib.hid hmo
                    have hm2 : 1 ≤ mo ∧ mo ≤ 65536 := by omega
                    clear hmo g1 g4 g2 g3
                    by_cases hstep : st = 1
                    · have hstb : (st == 1) = true := by simp [hstep]
                      have HST1 := Lib.hid hstep
                      clear hstep
                      by_cases hleft : 1 < lf
                      · have hcont : wh = sb ∧ lf = mo + 1 := by
                          rcases HL.out HST1.out with ⟨_, h⟩ | ⟨T'', rfl, h⟩
                          · omega
                          · obtain ⟨s'', hs''⟩ : ∃ s'', ts[T'']? = some s'' := ⟨ts[T'']'(by omega), List.getElem?_eq_getElem (by omega)⟩
                            obtain ⟨_, _, _, g4⟩ := HG.out.sched_at hs''
                            rw [h, HMO.out] at g4
                            have := g4 hleft
                            injection this with h1 h2
                            exact ⟨h1.symm, by simp only at h2; omega⟩
                        obtain ⟨rfl, rfl⟩ := hcont
                        go_wp2_with fail
                        refine (sched_any A2 c2 F T' wr (by omega) (by omega) HF0.out hsoq).mono ?_
                        rw [HMO.out]
                        rintro e w3 ⟨rfl, hb3⟩
                        go_wp2
                        go_roundw
                        case rel => exact ⟨jn + 1, T' + 1, _, _, by omega, by go_num, by go_num, by omega, rfl, rfl, by omega, HD2, Lib.hid (fun _ => .inr ⟨T', rfl, HMO.out⟩), hbx.trans (hb3.mono hbx.size)⟩
                        case measure => simp [intOf]; omega
                      · go_wp2_with fail
                        refine (sched_any A2 c2 F T' wr (by omega) (by omega) HF0.out hsoq).mono ?_
                        rw [HMO.out]
                        rintro e w3 ⟨rfl, hb3⟩
                        go_wp2
                        go_roundw
                        case rel => exact ⟨jn + 1, T' + 1, _, _, by omega, by go_num, by go_num, by omega, rfl, rfl, by omega, HD2, Lib.hid (fun _ => .inr ⟨T', rfl, HMO.out⟩), hbx.trans (hb3.mono hbx.size)⟩
                        case measure => simp [intOf]; omega
                    · go_wp2_with fail
                      refine (sched_any A2 c2 F T' wr (by omega) (by omega) HF0.out hsoq).mono ?_
                      rw [HMO.out]
                      rintro e w3 ⟨rfl, hb3⟩
                      go_wp2
                      go_roundw
                      case rel => exact ⟨jn + 1, T' + 1, _, _, by omega, by go_num, by go_num, by omega, rfl, rfl, by omega, HD2, Lib.hid (fun _ => .inr ⟨T', rfl, HMO.out⟩), hbx.trans (hb3.mono hbx.size)⟩
                      case measure => simp [intOf]; omega
                  · have hstep : st ≠ 1 := by rintro rfl; exact hmod (Int.emod_one _)
                    go_wp2
                    go_roundw
                    case rel => exact ⟨jn + 1, T' + 1, _, _, by omega, by go_num, by go_num, by omega, rfl, rfl, by omega, HD2, Lib.hid (fun h => absurd h hstep), hbx⟩
                    case measure => simp [intOf]; omega
                · obtain rfl : jn = n := by omega
                  have hfin : ts.drop T' = REST := by have := HRest.out; rwa [Nat.sub_self, List.replicate_zero, List.nil_append] at this
                  clear HRest
                  go_wp2
                  go_roundw
                  case rel => exact ⟨k + 1, T', wh, lf, by omega, by go_num, rfl, hTM, rfl, rfl, hlf, by rw [hfin, HR2.out, if_neg (by omega)], HL, hbx⟩
                  case measure => simp [intOf]; omega
            · rw [if_neg (by omega)] at hdrop
              have hT : T = M := by
                have := congrArg List.length hdrop
                rw [List.length_drop, htl] at this
                simp at this
                omega
              clear hdrop c0'' c1'' c2'' c3''
              go_wp2_with fail
              refine (known_any wr).mono ?_
              rintro e w2 ⟨rfl, hb2⟩
              go_wp2
              go_ret
              exact ⟨rfl, (hB2.trans (hbx.mono hB2.size)).trans (hb2.mono (by omega))⟩

end Go.Proofs.Ytgilejknjdbneaa
