/- The contract of lanes.Flatten for a lane without needs. -/
import Derived.Test.YtgilejknjdbneaaT2
import Derived.Test.YtgilejknjdbneaaT3
import Derived.Test.YtgilejknjdbneaaPlain4
namespace Go.Proofs.Ytgilejknjdbneaa
open Go.RowKit Go.IntWalk

/-- What Flatten leaves: a row in new memory, a number, a refusal. -/
def FlatPost (w : World) (R : List Slot × Int × Int) (e : Ending) (w' : World) : Prop :=
  ∃ v, e = .returned (.tuple #[v, .int .i64 R.2.1, .int .i64 R.2.2]) ∧ w'.ownsRow w.heap.size 33 3 v R.1.length (slotCells R.1) ∧ Below w.heap.size w w'

theorem FlatPost.nil {w w' : World} {a b : Int} (hb : Below w.heap.size w w') : FlatPost w ([], a, b) (.returned (.tuple #[.slice none 0 0, .int .i64 a, .int .i64 b])) w' :=
  ⟨_, rfl, World.ownsRow_nil _ _ _ _, hb⟩

theorem own_base_le {w : World} {base base' : Nat} {e : TypeId} {size : Nat} {v : Value} {n : Nat} {xs : List Value} (h : w.ownsRow base e size v n xs) (hb : base' ≤ base) : w.ownsRow base' e size v n xs := by
  refine ⟨h.1, ?_⟩
  rcases h.2 with h1 | ⟨g, cap, cur, h1, h2, h3⟩
  · exact .inl h1
  · exact .inr ⟨g, cap, cur, h1, Nat.le_trans hb h2, h3⟩

/-- Flatten's answer of a lane without needs. -/
def Ln.flatRuns (M : Nat) (xs : List Run) : List Slot × Int × Int :=
  match Ln.flatErr M false 0 0 xs with
  | some (i, e) => ([], i, e)
  | none => Ln.capped (Ln.fill M (Ln.rowRuns [] xs))

theorem end_own (w : World) (B : Nat) (v : Value) (l : List Slot) (hn : l.length ≤ 1000000000) (hown : w.ownsRow B 33 3 v l.length (slotCells l)) :
    Calls Try.prog 39 #[v] w fun e w' => e = .returned (.int .i64 (Ln.endOf l)) ∧ w = w' := by
  rcases Nat.eq_zero_or_pos l.length with h0 | h0
  · obtain rfl := List.eq_nil_of_length_eq_zero h0
    have hv : ∃ A c, v = .slice A 0 c := by
      rcases hown.2 with ⟨rfl, _⟩ | ⟨g, cap, cur, rfl, _⟩
      · exact ⟨_, _, rfl⟩
      · exact ⟨_, _, rfl⟩
    obtain ⟨A, c, rfl⟩ := hv
    exact end_none w c A
  · obtain ⟨g, cap, rfl, hBg, hlt⟩ := hown.form h0
    obtain ⟨n, hl⟩ : ∃ n, l.length = n + 1 := ⟨l.length - 1, by omega⟩
    obtain ⟨x, hlast⟩ : ∃ x, l[n]? = some x := ⟨l[n]'(by omega), List.getElem?_eq_getElem (by omega)⟩
    have hlast' : l.getLast? = some x := by rw [List.getLast?_eq_getElem?, hl]; exact hlast
    have he : Ln.endOf l = x.to := by unfold Ln.endOf; rw [hlast']
    obtain ⟨q0, q1, q2⟩ := slotCells_at hlast
    have c2 := hown.cells (g := g) rfl _ _ q2
    have hadd : ∀ j, (⟨g, 0, none⟩ : Addr).add j = ⟨g, j, none⟩ := fun j => by unfold Addr.add; split <;> simp_all
    rw [hadd] at c2
    rw [he, hl]
    exact end_some w g 0 n cap x.to (by omega) (by simpa using c2)

set_option maxHeartbeats 400000 in
theorem flat_bad (M : Nat) (w : World) (h : M < 1 ∨ 65536 < M) (hM : M < 18446744073709551616) (lp : Int) (cpu : Nat) (nd : Bool) (s : Value) (hs : s.cells = #[s]) :
    Calls Try.prog 12 #[.int .u64 M, .agg #[.int .i64 lp, .int .u64 cpu, .bool nd, s]] w (FlatPost w ([], -1, 92)) := by
  by_cases h0 : M < 1
  · clear h
    go_enter Try.func12, Try.ntmps12
    go_wp2
    go_ret3
    exact FlatPost.nil ((Below.refl _ _).alloc (Nat.le_refl _) _)
  · have h1 : 65536 < M := by omega
    clear h
    go_enter Try.func12, Try.ntmps12
    go_wp2
    go_ret3
    exact FlatPost.nil ((Below.refl _ _).alloc (Nat.le_refl _) _)

set_option maxRecDepth 100000 in
set_option maxHeartbeats 2000000 in
theorem flat_runs (M : Nat) (A : Option Addr) (c : Nat) (xs : List Run) (lp : Int) (cpu : Nat) (w : World) (hM : 1 ≤ M) (hM2 : M ≤ 65536)
    (hx : ∀ r ∈ xs, r.bud < 18446744073709551616 ∧ r.per < 18446744073709551616) (hl : xs.length ≤ 140737488351232) (hr : RunsAt w A xs) :
    Calls Try.prog 12 #[.int .u64 M, .agg #[.int .i64 lp, .int .u64 cpu, .bool false, .slice A xs.length c]] w (FlatPost w (Ln.flatRuns M xs)) := by
  obtain ⟨W, hW⟩ : ∃ W, W = w.alloc (.cells #[.int .i64 lp, .int .u64 cpu, .bool false, .slice A xs.length c] 31) := ⟨_, rfl⟩
  have hB : Below w.heap.size w W := by subst hW; exact (Below.refl _ _).alloc (Nat.le_refl _) _
  have hWs : W.heap.size = w.heap.size + 1 := by subst hW; simp
  have c2 : W.cell? ⟨w.heap.size, 2, none⟩ = some (.bool false) := by subst hW; rw [World.cell?_alloc_at _ _ _ _ rfl]; rfl
  have c3 : W.cell? ⟨w.heap.size, 3, none⟩ = some (.slice A xs.length c) := by subst hW; rw [World.cell?_alloc_at _ _ _ _ rfl]; rfl
  have hR : RunsAt W A xs := hr.below hB (Nat.le_refl _)
  obtain ⟨R, hRes⟩ : ∃ R, R = Ln.flatRuns M xs := ⟨_, rfl⟩
  rw [← hRes]
  have HR := Lib.hid hRes
  have HS := Lib.hid hWs
  have HW := Lib.hid hW
  clear hWs hRes
  go_enter Try.func12, Try.ntmps12
  have h0 : ¬ M < 1 := by omega
  have h1 : ¬ 65536 < M := by omega
  go_wp2
  rw [← hW]
  clear hW
  go_loopw [7, 24] (fun s i wr => ∃ k d : Nat, k ≤ xs.length ∧ i = .int .i64 k ∧ d ≤ M ∧ s = .int .u64 d ∧ Ln.flatErr M false k d (xs.drop k) = Ln.flatErr M false 0 0 xs ∧ Below W.heap.size W wr) (fun _ i _ => xs.length - (intOf i).toNat)
  case atStart => exact ⟨0, 0, by omega, rfl, by omega, rfl, rfl, Below.refl _ _⟩
  case round =>
    obtain ⟨k, d, hk, rfl, hd, rfl, hdem0, hbw⟩ := hrel
    have hdem := Lib.hid hdem0
    clear hdem0
    have hsz := hbw.size
    have hlt0 : w.heap.size < wr.heap.size := by have := HS.out; omega
    have c2' : wr.cell? ⟨w.heap.size, 2, none⟩ = some (.bool false) := by
      rw [hbw.cell (p := ⟨w.heap.size, 2, none⟩) (by simp [HS.out])]; exact c2
    have c3' : wr.cell? ⟨w.heap.size, 3, none⟩ = some (.slice A xs.length c) := by
      rw [hbw.cell (p := ⟨w.heap.size, 3, none⟩) (by simp [HS.out])]; exact c3
    by_cases hlt : k < xs.length
    · obtain ⟨b, off, rfl, hbl, hcs⟩ := hR (by omega)
      obtain ⟨r, hrk⟩ : ∃ r, xs[k]? = some r := ⟨xs[k], List.getElem?_eq_getElem hlt⟩
      have hmem : r ∈ xs := List.mem_of_getElem? hrk
      obtain ⟨q0, q1, q2, q3⟩ := hcs k r hrk
      rw [← hbw.cell (p := ⟨b, _, none⟩) (by exact hbl)] at q0 q1 q2 q3
      have hbud := (hx r hmem).1
      have hper := (hx r hmem).2
      have hlt1 : b < wr.heap.size := by omega
      have hz : Ln.flatErr M false 0 0 xs = if Ln.right M r false = 0 then (if M < d + Ln.wants M r false then some ((k : Int), 93) else Ln.flatErr M false (k + 1) (d + Ln.wants M r false) (xs.drop (k + 1))) else some ((k : Int), Ln.right M r false) := by
        obtain ⟨h1, h2⟩ := List.getElem?_eq_some_iff.1 hrk
        rw [← hdem.out, List.drop_eq_getElem_cons h1, h2]; rfl
      have HZ := Lib.hid hz
      clear hrk hcs c2 c3 hz
      go_wp2_with fail
      refine (right_any _ r _ _ (by omega) hbud hper).mono ?_
      rintro e w1 ⟨rfl, hb1⟩
      have hz1 := hb1.size
      simp at hz1
      obtain ⟨hc1, hf1⟩ := bcell hb1
      have hbw1 : Below W.heap.size W w1 := (hbw.alloc hbw.size _).trans (hb1.mono (by simp; omega))
      clear hb1
      by_cases hr : Ln.right M r false = 0
      · have hr' : (Ln.right M r false != 0) = false := by simp [hr]
        have hw := Ln.wants_le hr
        obtain ⟨o1, o2, o3⟩ := Ln.right_ok hr
        have Hr := Lib.hid hr
        clear hr o3
        go_wp2_with fail
        refine (wants_any _ r _ _ hM2 o2 (fun h => by simp at h)).mono ?_
        rintro e w2 ⟨rfl, hb2⟩
        have hbw2 : Below W.heap.size W w2 := hbw1.trans (hb2.mono (by omega))
        clear hb2 hc1 hf1
        by_cases ho : M < d + Ln.wants M r false
        · go_wp2
          go_ret3
          rw [HR.out, Ln.flatRuns, HZ.out, if_pos Hr.out, if_pos ho]
          exact FlatPost.nil (hB.trans (hbw2.mono (by simp [HS.out])))
        · go_wp2
          go_roundw
          case rel =>
            exact ⟨k + 1, d + Ln.wants M r false, by omega, by go_num, by omega, by go_num, by rw [HZ.out, if_pos Hr.out, if_neg (by omega)], hbw2⟩
          case measure => simp [intOf]; omega
      · have hr' : (Ln.right M r false != 0) = true := by simp [hr]
        go_wp2
        go_ret3
        rw [HR.out, Ln.flatRuns, HZ.out, if_neg hr]
        exact FlatPost.nil (hB.trans (hbw1.mono (by simp [HS.out])))
    · have hk' : k = xs.length := by omega
      have hnone : Ln.flatErr M false 0 0 xs = none := by rw [← hdem.out, hk', List.drop_length]; rfl
      obtain ⟨hall, hsum⟩ := Ln.flatErr_none hnone
      have hsum' := hsum rfl (by omega)
      have HN := Lib.hid hnone
      have HA := Lib.hid hall
      have hB1 : Below w.heap.size w wr := hB.trans (hbw.mono (by simp [HS.out]))
      have hR1 : RunsAt wr A xs := hR.below hbw (by omega)
      clear hnone hall hsum hk' hR c2 c3 hbw hsz hB
      have hb1 : ∀ r ∈ xs, 1 ≤ r.bud ∧ r.bud ≤ 65536 := fun r hr => by
        obtain ⟨o1, o2, _⟩ := Ln.right_ok (HA.out r hr)
        exact ⟨o1, by omega⟩
      have hlen := Ln.sumBud_len (fun r hr => (hb1 r hr).1)
      have hfin : R = Ln.capped (Ln.fill M (Ln.rowRuns [] xs)) := by rw [HR.out, Ln.flatRuns, HN.out]
      have HF := Lib.hid hfin
      have HB1 := Lib.hid hB1
      clear hfin hB1
      go_wp2
      obtain ⟨wo, hwo⟩ : ∃ wo, wo = wr.alloc (.cells #[.slice none 0 0] 74) := ⟨_, rfl⟩
      obtain ⟨p, hp⟩ : ∃ p, p = wr.heap.size := ⟨_, rfl⟩
      have hwp : w.heap.size < p := by omega
      have hv0 : Var wo p 74 (.slice none 0 0) := by subst hwo hp; exact heap_alloc_new _ _
      have hBo : Below w.heap.size w wo := by subst hwo; exact HB1.out.alloc HB1.out.size _
      have hso : p + 1 ≤ wo.heap.size := by subst hwo hp; simp
      rw [← hwo, ← hp]
      clear hwo hp hR1 c2' c3'
      go_loopw [60] (fun i wq => ∃ (k T : Nat) (rows : List Slot) (v : Value), k ≤ xs.length ∧ i = .int .i64 k ∧ Ln.rowRuns rows (xs.drop k) = Ln.rowRuns [] xs ∧ Var wq p 74 v ∧ wq.ownsRow (p + 1) 33 3 v rows.length (slotCells rows) ∧
          Ln.UpTo T rows ∧ T + Ln.sumBud (xs.drop k) ≤ M ∧ rows.length ≤ k ∧ Below w.heap.size w wq ∧ p + 1 ≤ wq.heap.size) (fun i _ => xs.length - (intOf i).toNat)
      case atStart => exact ⟨0, 0, [], _, by omega, rfl, rfl, hv0, World.ownsRow_nil _ _ _ _, Ln.upTo_nil _, by simpa using hsum', by simp, hBo, hso⟩
      case round =>
        obtain ⟨k, T, rows, v, hk, rfl, hrows, hv, hown, hup, hT, hrl, hbq, hsq⟩ := hrel
        have Hrows := Lib.hid hrows
        have Hup := Lib.hid hup
        clear hrows hup
        by_cases hlt : k < xs.length
        · obtain ⟨b, off, rfl, hbl, hcs⟩ := hr (by omega)
          obtain ⟨r, hrk⟩ : ∃ r, xs[k]? = some r := ⟨xs[k], List.getElem?_eq_getElem hlt⟩
          have hmem : r ∈ xs := List.mem_of_getElem? hrk
          obtain ⟨q0, q1, q2, q3⟩ := hcs k r hrk
          obtain ⟨e1, e2⟩ := hb1 r hmem
          obtain ⟨h1, h2⟩ := List.getElem?_eq_some_iff.1 hrk
          have hd2 : xs.drop k = r :: xs.drop (k + 1) := by rw [List.drop_eq_getElem_cons h1, h2]
          have hsb : Ln.sumBud (xs.drop k) = r.bud + Ln.sumBud (xs.drop (k + 1)) := by rw [hd2]; rfl
          have hrr : Ln.rowRuns (Ln.run rows r.subj r.bud) (xs.drop (k + 1)) = Ln.rowRuns [] xs := by rw [← Hrows.out, hd2]; rfl
          rw [hsb] at hT
          have HRR := Lib.hid hrr
          clear hd2 hsb hrr hrk hcs h1 h2
          rw [← hbq.cell (p := ⟨b, _, none⟩) (by exact hbl)] at q0 q1 q2 q3
          have hlt1 : b < wr.heap.size := by omega
          go_wp2_with fail
          have hkk : Keep (fun _ => False) wr (wr.alloc (.cells #[.int .i64 r.pos, .string r.subj, .int .u64 r.bud, .int .u64 r.per] 28)) := (Keep.refl _ _).alloc _
          refine (run_any _ p (p + 1) v rows r.subj r.bud ⟨by omega, by omega⟩ (fun x hx => by have := Hup.out x hx; omega) (by omega) (hv.keep hkk (by simp)) (by omega) (by simp; omega) (hown.alloc _)).mono ?_
          rintro e w1 ⟨rfl, v', hv', hown', hk'⟩
          have hb2 : Below w.heap.size w w1 := (hbq.alloc (by omega) _).trans (hk'.below (by simp; omega) (fun i hi h => by
            rcases h with h | h
            · omega
            · have := (hown.lt _ h).1; omega))
          have hs2 := hk'.size
          simp at hs2
          have hup' := Ln.UpTo.run Hup.out (by omega) r.subj (t := (r.bud : Int)) (by omega)
          have HU := Lib.hid hup'
          have hlr := Ln.run_length rows r.subj r.bud
          clear hk' hkk hup'
          go_wp2
          go_roundw
          case rel => exact ⟨k + 1, T + r.bud, Ln.run rows r.subj r.bud, v', by omega, by go_num, HRR.out, hv', hown', by simpa using HU.out, by omega, by omega, hb2, by omega⟩
          case measure => simp [intOf]; omega
        · have hk' : k = xs.length := by omega
          have hrr : rows = Ln.rowRuns [] xs := by rw [← Hrows.out, hk', List.drop_length]; rfl
          have hT' : T ≤ M := by omega
          have hrl' : rows.length ≤ 65536 := by omega
          rw [← hrr] at HF
          obtain ⟨he0, he1⟩ := Ln.UpTo.end_ Hup.out (by omega)
          obtain ⟨E, hE⟩ : ∃ E, E = Ln.endOf rows := ⟨_, rfl⟩
          rw [← hE] at he0 he1
          have HE := Lib.hid hE
          have hvc := hv.cell
          clear hk' hrr hE hT hrl
          go_wp2_with fail
          refine (end_own _ (p + 1) v rows (by omega) hown).mono ?_
          rw [← HE.out]
          rintro e w1 ⟨rfl, rfl⟩
          by_cases hleft : 0 < (M : Int) - E
          · have hl2 : E < (M : Int) := by omega
            go_wp2_with fail
            refine (run_any _ p (p + 1) v rows ByteArray.empty (M - E) ⟨by omega, by omega⟩ (fun x hx => by have := Hup.out x hx; omega) (by omega) hv (by omega) (by omega) hown).mono ?_
            rintro e w2 ⟨rfl, v', hv', hown', hk'⟩
            have hb2 : Below w.heap.size w w2 := hbq.trans (hk'.below (by omega) (fun i hi h => by
              rcases h with h | h
              · omega
              · have := (hown.lt _ h).1; omega))
            have hff : Ln.fill M rows = Ln.run rows ByteArray.empty (M - E) := by unfold Ln.fill; rw [← HE.out, if_pos hleft]
            rw [hff] at HF
            obtain ⟨rows2, hrows2⟩ : ∃ x, x = Ln.run rows ByteArray.empty (M - E) := ⟨_, rfl⟩
            have hl3 := Ln.run_length rows ByteArray.empty (M - E)
            rw [← hrows2] at HF hown' hl3
            clear hk' hff hrows2
            have hvc' := hv'.cell
            have hsl : ∃ A cc, (if True then v' else v') = .slice A rows2.length cc := by
              rcases hown'.2 with ⟨h, h2⟩ | ⟨g, cap, cur, h, _⟩
              · exact ⟨none, 0, by rw [if_pos trivial, h, h2]⟩
              · exact ⟨_, _, by rw [if_pos trivial, h]⟩
            rw [if_pos trivial] at hsl
            obtain ⟨A2, cc, hsl⟩ := hsl
            subst hsl
            by_cases hcap : 4096 < rows2.length
            · go_wp2
              go_ret3
              rw [HF.out, Ln.capped, if_pos hcap]
              exact FlatPost.nil hb2
            · go_wp2
              go_ret3
              rw [HF.out, Ln.capped, if_neg hcap]
              exact ⟨_, rfl, own_base_le hown' (by omega), hb2⟩
          · have hff : Ln.fill M rows = rows := by unfold Ln.fill; rw [← HE.out, if_neg hleft]
            rw [hff] at HF
            obtain ⟨rows2, hrows2⟩ : ∃ x, x = rows := ⟨_, rfl⟩
            rw [← hrows2] at HF hown
            have hl3 : rows2.length ≤ rows.length + 1 := by rw [hrows2]; omega
            have hv' := hv
            have hown' := hown
            have hb2 := hbq
            clear hff hrows2 hv hown hbq
            have hvc' := hv'.cell
            have hsl : ∃ A cc, (if True then v else v) = .slice A rows2.length cc := by
              rcases hown'.2 with ⟨h, h2⟩ | ⟨g, cap, cur, h, _⟩
              · exact ⟨none, 0, by rw [if_pos trivial, h, h2]⟩
              · exact ⟨_, _, by rw [if_pos trivial, h]⟩
            rw [if_pos trivial] at hsl
            obtain ⟨A2, cc, hsl⟩ := hsl
            subst hsl
            by_cases hcap : 4096 < rows2.length
            · go_wp2
              go_ret3
              rw [HF.out, Ln.capped, if_pos hcap]
              exact FlatPost.nil hb2
            · go_wp2
              go_ret3
              rw [HF.out, Ln.capped, if_neg hcap]
              exact ⟨_, rfl, own_base_le hown' (by omega), hb2⟩

end Go.Proofs.Ytgilejknjdbneaa
