/- LH3 LH4 LH5 LH6 LH7 LE1 -/
import Derived.Test.YtpblcjipmoblnaaGreatDoorLH2
import Derived.Deep.RegionLaw
import Derived.Test.YtpblcjipmoblnaaGreatDoorFacts3
set_option maxRecDepth 100000
set_option maxHeartbeats 4000000
set_option linter.unusedVariables false
set_option linter.unusedSimpArgs false
namespace Go.Proofs.YtpblcjipmoblnaaGreatDoor
open Go.RowKit Go.IntWalk
def Job.val (s : Job) : Value := .agg #[.int .i64 s.need, .int .i64 s.due, .int .i64 s.left]
structure HeapAt (w : World) (P : Nat) (v : Value) (l : List Job) : Prop where
 var : Var w P 247 v
 own : w.ownsRow 0 250 3 v l.length (jobCells l)
theorem job_news {a b c : Int} : ∀ u ∈ [Value.int .i64 a, .int .i64 b, .int .i64 c], u.oneCell' = true := by
 intro u hu; simp at hu; rcases hu with rfl | rfl | rfl <;> rfl
theorem HeapAt.ne {w : World} {P : Nat} {v : Value} {l : List Job} (h : HeapAt w P v l) : ¬ v.ownBlock = some P := by
 rcases h.own.2 with ⟨rfl, _⟩ | ⟨g, cap, cur, rfl, _, hh, _⟩
 · simp [Value.ownBlock]
 · intro he
   have : g = P := by simpa [Value.ownBlock] using he
   subst this
   have := h.var
   unfold Var at this
   rw [hh] at this
   simp at this
theorem assert_job (x : Value) (w : World) : (Instr.typeAssert (.iface 250 x) 20 250 false).run Tryz.prog w = .ok x w := by kernel_rfl
theorem pushM_any (w : World) (P : Nat) (v : Value) (l : List Job) (x : Job) (hn : l.length ≤ 1000000000) (h : HeapAt w P v l) :
 Calls Tryz.prog 266 #[.pointer (some ⟨P, 0, none⟩), .iface 250 x.val] w fun e w' => e = .returned (.tuple #[]) ∧ ∃ v', HeapAt w' P v' (l ++ [x]) ∧ Keep (fun k => k = P ∨ v.ownBlock = some k) w w' ∧ (v'.ownBlock = v.ownBlock ∨ ∃ k, v'.ownBlock = some k ∧ w.heap.size ≤ k) := by
 have hc := h.var.cell
 have hf := h.var.frozen
 have hlt := h.var.lt
 have hown := h.own
 have hne := h.ne
 have hvar := h.var
 obtain ⟨i0, hi, hz0, hz1, hz2⟩ := info_parts Tryz.info250
 have hta := assert_job
 unfold Job.val
 go_enter Tryz.func266, Tryz.ntmps266
 go_wp2
 have hown0 : (w.alloc (.cells #[.int .i64 x.need, .int .i64 x.due, .int .i64 x.left] 250)).drew.ownsRow 0 250 3 v l.length (jobCells l) := (hown.alloc _).drew
 have hnews : ∀ j u, [Value.int .i64 x.need, .int .i64 x.due, .int .i64 x.left][j]? = some u → (w.alloc (.cells #[.int .i64 x.need, .int .i64 x.due, .int .i64 x.left] 250)).drew.cell? ((⟨w.heap.size, 0, none⟩ : Addr).add j) = some u := World.news_of_block (cs := #[.int .i64 x.need, .int .i64 x.due, .int .i64 x.left]) (heap_alloc_new w _)
 have HN := Lib.hid hnews
 clear hnews
 go_region_law ((refine step_append_lies ((w.alloc (.cells #[.int .i64 x.need, .int .i64 x.due, .int .i64 x.left] 250)).drew) rfl (.tmp 7) (.tmp 10) 247 rfl 0 250 i0 (.agg #[.int .i64 0, .int .i64 0, .int .i64 0]) 3 24 Tryz.underlying247 hi hz0 hz1 hz2 rfl (by omega) v l.length (jobCells l) rfl hown0 ⟨w.heap.size, 0, none⟩ 1 1 [.int .i64 x.need, .int .i64 x.due, .int .i64 x.left] rfl rfl HN.out job_news (by omega) (by unfold maxLen; omega) (by omega) (by omega) (w.heap.size + 1) (by simp) ?_; intro g cap w1 hown1 hgrow hat hlt2; have hk1 : Keep (fun k => v.ownBlock = some k) w w1 := ((Keep.refl _ w).alloc _).drew.trans (Keep.of_grown (S := fun k => v.ownBlock = some k) hgrow (fun k h => h)) (fun _ _ h => h); have hv1 := hvar.keep hk1 hne; have hc1 := hv1.cell; have hf1 := hv1.frozen))
 all_goals
  have hh1 : HeapAt w1 P v l ∨ True := .inr trivial
  have hgP : ¬ g = P := by
   intro he
   subst he
   rcases hown1.2 with ⟨h, _⟩ | ⟨g', cap', cur, h, _, h2, _⟩
   · simp at h
   · simp only [Value.slice.injEq, Option.some.injEq, Addr.mk.injEq, and_true, true_and] at h
     obtain ⟨rfl, rfl⟩ := h
     unfold Var at hv1
     rw [h2] at hv1
     simp at hv1
  have hset : ∀ u, (w1.setCell ⟨P, 0, none⟩ u).ownsRow 0 250 3 (.slice (some ⟨g, 0, none⟩) (l.length + 1) cap) (l.length + 1) (jobCells l ++ [.int .i64 x.need, .int .i64 x.due, .int .i64 x.left]) := fun u =>
   hown1.kept (row := some P) ⟨rfl, rfl, rfl, by simp [World.setCell], fun k hk hne => Below.heap_setCell w1 _ u k (by intro e; exact hne (by rw [e]))⟩ (.inr (by simp [Value.ownBlock]; exact hgP))
  have HSet := Lib.hid hset
  clear hset hown1 hgrow hh1
  go_wp2
  go_end0
  refine ⟨rfl, _, ⟨hv1.set_ _, ?_⟩, (hk1.mono fun i _ h => .inr h).setCell (fun _ => .inl rfl) _, ?_⟩
  · rw [jobCells_append, List.length_append]
    exact HSet.out _
  · rcases hat with h | h
    · exact .inl (by rw [h]; rfl)
    · exact .inr ⟨g, rfl, by omega⟩
theorem popM_any (w : World) (P : Nat) (v : Value) (l : List Job) (x : Job) (hn : l.length ≤ 1000000000) (h : HeapAt w P v (l ++ [x])) :
 Calls Tryz.prog 265 #[.pointer (some ⟨P, 0, none⟩)] w fun e w' => e = .returned (.iface 250 x.val) ∧ ∃ v', HeapAt w' P v' l ∧ Keep (fun k => k = P) w w' ∧ v'.ownBlock = v.ownBlock := by
 have hc := h.var.cell
 have hf := h.var.frozen
 have hlt := h.var.lt
 have hown := h.own
 have hne := h.ne
 have hvar := h.var
 obtain ⟨g, cap, hv, _, hg⟩ := hown.form (by simp)
 subst hv
 obtain ⟨q0, q1, q2⟩ := own_cells hown (i := l.length) (a := x) (by simp)
 rw [List.length_append, List.length_singleton] at hown hc hvar hne
 have hgP : ¬ g = P := by simpa [Value.ownBlock] using hne
 obtain ⟨n, hnl⟩ : ∃ n, n = l.length := ⟨_, rfl⟩
 rw [← hnl] at hown hc hvar q0 q1 q2 hn
 have hcap : n + 1 ≤ cap := by
  rcases hown.2 with ⟨h, _⟩ | ⟨g', cap', cur, h, _, _, h3, _⟩
  · simp at h
  · simp only [Value.slice.injEq] at h
    obtain ⟨_, _, rfl⟩ := h
    exact h3
 have hcap' : (n : Int) ≤ (cap : Int) := by omega
 have hpop : w.ownsRow 0 250 3 (.slice (some ⟨g, 0, none⟩) n cap) n (jobCells l) := by
  rcases hown.2 with ⟨h, _⟩ | ⟨g', cap', cur, h, hb, h2, h3, h4, h5, h6⟩
  · simp at h
  · simp only [Value.slice.injEq, Option.some.injEq, Addr.mk.injEq, and_true, true_and] at h
    obtain ⟨rfl, rfl⟩ := h
    refine ⟨by rw [jobCells_length, hnl], .inr ⟨g, cap, cur, rfl, hb, h2, by omega, h4, h5, ?_⟩⟩
    have h7 := congrArg (List.take (n * 3)) h6
    rw [List.take_take, Nat.min_eq_left (by omega)] at h7
    rw [h7, jobCells_append, List.take_left' (by rw [jobCells_length, hnl])]
 have Hnl := Lib.hid hnl
 clear hown hnl h
 unfold Job.val
 have hset := fun u => (ownsRow_setCell_other hpop (a := ⟨P, 0, none⟩) (by simp [Value.ownBlock]; exact hgP) u).alloc (.cells #[.int .i64 x.need, .int .i64 x.due, .int .i64 x.left] 250)
 have hvs : ∀ u, Var ((w.setCell ⟨P, 0, none⟩ u).alloc (.cells #[.int .i64 x.need, .int .i64 x.due, .int .i64 x.left] 250)) P 247 u := fun u => (Below.heap_alloc _ _ P (by simpa [World.setCell] using hlt)).trans (Var.set_ hvar u)
 have hks : ∀ u, Keep (fun k => k = P) w ((w.setCell ⟨P, 0, none⟩ u).alloc (.cells #[.int .i64 x.need, .int .i64 x.due, .int .i64 x.left] 250)) := fun u => ((Keep.refl (fun k => k = P) w).setCell (fun _ => rfl) u).alloc _
 have HSet := Lib.hid hset
 have HVs := Lib.hid hvs
 have HKs := Lib.hid hks
 clear hset hvs hpop hks
 go_enter Tryz.func265, Tryz.ntmps265
 go_wp2
 go_ret
 refine ⟨rfl, .slice (some ⟨g, 0, none⟩) n cap, ⟨HVs.out _, ?_⟩, HKs.out _, rfl⟩
 rw [← Hnl.out]
 exact HSet.out _
theorem HeapAt.drewN {w : World} {P : Nat} {v : Value} {l : List Job} (h : HeapAt w P v l) (n : Nat) : HeapAt (w.drewN n) P v l :=
 ⟨h.var.keep ((Keep.refl (fun _ => False) w).drewN n) (by simp), h.own⟩
theorem HeapAt.form {w : World} {P : Nat} {v : Value} {l : List Job} (h : HeapAt w P v l) (hl : 0 < l.length) : ∃ g c, v = .slice (some ⟨g, 0, none⟩) l.length c ∧ v.ownBlock = some g ∧ g < w.heap.size := by
 obtain ⟨g, cap, hv, _, hg⟩ := h.own.form hl
 exact ⟨g, cap, hv, by rw [hv]; rfl, hg⟩
theorem up_any (w : World) (P : Nat) (v : Value) (l : List Job) (j : Nat) (hn : l.length ≤ 1000000000) (hj : j < l.length) (h : HeapAt w P v l) (h1 : Ln.HeapBut l l.length j) (h2 : Ln.Over l l.length j) :
 Calls Tryz.prog 149 #[.iface 245 (.pointer (some ⟨P, 0, none⟩)), .int .i64 j] w fun e w' => e = .returned (.tuple #[]) ∧ ∃ l', l'.Perm l ∧ Ln.IsHeap l' l'.length ∧ HeapAt w' P v l' ∧ Keep (fun k => v.ownBlock = some k) w w' := by
 obtain ⟨g, c, hv, hob, hg⟩ := h.form (by omega)
 have hne := h.ne
 obtain ⟨N, hN⟩ : ∃ N, N = l.length := ⟨_, rfl⟩
 rw [← hN] at hv hn hj h1 h2
 subst hv
 have HNE := Lib.hid hne
 have H1 := Lib.hid h1
 have H2 := Lib.hid h2
 have HN := Lib.hid hN
 have HH := Lib.hid h
 have HOB := Lib.hid hob
 clear hne h1 h2 hN h hob
 go_enter Tryz.func149, Tryz.ntmps149
 go_wp2
 go_loopw [1] (fun x wr => ∃ (k : Nat) (m : List Job), k < N ∧ x = .int .i64 k ∧ Hid (m.Perm l) ∧ Hid (m.length = N) ∧ Hid (Ln.HeapBut m N k) ∧ Hid (Ln.Over m N k) ∧ HeapAt wr P (.slice (some ⟨g, 0, none⟩) N c) m ∧ Hid (Keep (fun k => (Value.slice (some ⟨g, 0, none⟩) N c).ownBlock = some k) w wr)) (fun x _ => (intOf x).toNat)
 case atStart => exact ⟨j, l, hj, rfl, List.Perm.refl _, HN.out.symm, H1.out, H2.out, HH.out, Keep.refl _ _⟩
 case round =>
  obtain ⟨k, m, hk, rfl, HP, HL, HB, HO, hat, HK⟩ := hrel
  have hc := hat.var.cell
  have e1 := m_less hc
  have e2 := m_swap hc
  have HAT := Lib.hid hat
  clear hc hat
  by_cases hk0 : k = 0
  · subst hk0
    go_wp2
    go_end0
    exact ⟨rfl, m, HP.out, by rw [HL.out]; exact Ln.up_done HB.out (.inl rfl), HAT.out, HK.out⟩
  · obtain ⟨p, hp⟩ : ∃ p, p = (k - 1) / 2 := ⟨_, rfl⟩
    have hpk : p < k := by omega
    have hpi : ((k : Int) - 1) / 2 = (p : Int) := by omega
    obtain ⟨a, ha⟩ : ∃ a, m[p]? = some a := ⟨_, List.getElem?_eq_getElem (by rw [HL.out]; omega)⟩
    obtain ⟨b, hb⟩ : ∃ b, m[k]? = some b := ⟨_, List.getElem?_eq_getElem (by rw [HL.out]; omega)⟩
    have HPP := Lib.hid hp
    have HA := Lib.hid ha
    have HBB := Lib.hid hb
    clear hp ha hb
    have hown := HAT.out.own
    rw [HL.out] at hown
    have HOwn := Lib.hid hown
    clear hown
    go_wp2_with fail
    refine (less_any wr g N c k p b a m HL.out HBB.out HA.out HOwn.out).mono ?_
    rintro e w1 ⟨rfl, nd, rfl⟩
    have hat1 := HAT.out.drewN nd
    have hc1 := hat1.var.cell
    have e2 := m_swap hc1
    have HAT1 := Lib.hid hat1
    clear hc1 hat1
    by_cases hlt : Ln.jlt b a
    · have hd : decide (Ln.jlt b a) = true := decide_eq_true hlt
      rw [hd]
      have HLT := Lib.hid hlt
      clear hd hlt
      have hown1 := HAT1.out.own
      rw [HL.out] at hown1
      have HOwn1 := Lib.hid hown1
      clear hown1
      go_wp2_with fail
      refine (swap_any (wr.drewN nd) g N c p k a b m HL.out HA.out HBB.out HOwn1.out).mono ?_
      rintro e w2 ⟨rfl, hown2, hk2⟩
      have hstep := Ln.up_step (by omega) hk (by rw [HL.out]; exact Nat.le_refl _) HB.out HO.out (by rw [← HPP.out]; exact HA.out) HBB.out HLT.out
      rw [← HPP.out] at hstep
      have HS := Lib.hid hstep
      have hlen : (Ln.swapped m p k a b).length = N := by rw [Ln.swapped_length, HL.out]
      have hvar2 := HAT1.out.var.keep hk2 (by have := HNE.out; simp [Value.ownBlock] at this; exact fun e => this e.symm)
      clear hstep
      go_wp2
      go_roundw
      case rel => exact ⟨p, Ln.swapped m p k a b, by omega, rfl, (Ln.swapped_perm HA.out HBB.out).trans HP.out, hlen, HS.out.1, HS.out.2, ⟨hvar2, by rw [hlen]; exact hown2⟩, (HK.out.drewN nd).trans hk2 (fun i _ hi => by rw [hi]; rfl)⟩
      case measure => simp [intOf]; omega
    · have hd : decide (Ln.jlt b a) = false := decide_eq_false hlt
      rw [hd]
      go_wp2
      go_end0
      exact ⟨rfl, m, HP.out, by rw [HL.out]; exact Ln.up_done HB.out (.inr ⟨a, b, by rw [← HPP.out]; exact HA.out, HBB.out, hlt⟩), HAT1.out, HK.out.drewN nd⟩
theorem min_one {m : List Job} {n k j1 : Nat} {b1 : Job} (h1 : m[j1]? = some b1) (hj : j1 = 2 * k + 1) (hn : ¬ j1 + 1 < n) : ∀ q x, 0 < q → q < n → (q - 1) / 2 = k → m[q]? = some x → ¬ Ln.jlt x b1 := by
 intro q x q0 q1 q2 hx
 obtain rfl : q = j1 := by omega
 rw [h1] at hx; injection hx with hx; subst hx; exact Ln.jlt_irrefl _
theorem min_two {m : List Job} {n k j1 j2 : Nat} {b b1 b2 : Job} (h1 : m[j1]? = some b1) (h2 : m[j2]? = some b2) (hj : j1 = 2 * k + 1) (hj2 : j2 = j1 + 1) (l1 : ¬ Ln.jlt b1 b) (l2 : ¬ Ln.jlt b2 b) : ∀ q x, 0 < q → q < n → (q - 1) / 2 = k → m[q]? = some x → ¬ Ln.jlt x b := by
 intro q x q0 q1 q2 hx
 rcases (by omega : q = j1 ∨ q = j2) with rfl | rfl
 · rw [h1] at hx; injection hx with hx; subst hx; exact l1
 · rw [h2] at hx; injection hx with hx; subst hx; exact l2
theorem down_any (w : World) (P : Nat) (g c N : Nat) (l : List Job) (j n : Nat) (hN : l.length = N) (hN2 : N ≤ 1000000000) (hn : n ≤ N) (hj : j = 0 ∨ j < n) (h : HeapAt w P (.slice (some ⟨g, 0, none⟩) N c) l) (h1 : Ln.HeapUnder l n j) :
 Calls Tryz.prog 150 #[.iface 245 (.pointer (some ⟨P, 0, none⟩)), .int .i64 j, .int .i64 n] w fun e w' => ∃ b l', e = .returned (.bool b) ∧ l'.Perm l ∧ Ln.IsHeap l' n ∧ (∀ q, n ≤ q → l'[q]? = l[q]?) ∧ HeapAt w' P (.slice (some ⟨g, 0, none⟩) N c) l' ∧ Keep (fun k => k = g) w w' := by
 have hne := h.ne
 have HNE := Lib.hid hne
 have H1 := Lib.hid h1
 have HN := Lib.hid hN
 have HH := Lib.hid h
 clear hne h1 hN h
 go_enter Tryz.func150, Tryz.ntmps150
 go_wp2
 go_loopw [7] (fun x wr => ∃ (k : Nat) (m : List Job), (k = j ∨ k < n) ∧ x = .int .i64 k ∧ Hid (m.Perm l) ∧ Hid (m.length = N) ∧ Hid (Ln.HeapUnder m n k) ∧ Hid (∀ q, n ≤ q → m[q]? = l[q]?) ∧ HeapAt wr P (.slice (some ⟨g, 0, none⟩) N c) m ∧ Hid (Keep (fun k => k = g) w wr)) (fun x _ => N + j - (intOf x).toNat)
 case atStart => exact ⟨j, l, .inl rfl, rfl, List.Perm.refl _, HN.out, H1.out, Lib.hid (fun _ _ => rfl), HH.out, Keep.refl _ _⟩
 case round =>
  obtain ⟨k, m, hk, rfl, HP, HL, HU, HF, hat, HK⟩ := hrel
  have hc := hat.var.cell
  have e1 := m_less hc
  have e2 := m_swap hc
  have HAT := Lib.hid hat
  clear hc hat
  obtain ⟨j1, hj1⟩ : ∃ j1, j1 = 2 * k + 1 := ⟨_, rfl⟩
  have hi1 : 2 * (k : Int) + 1 = (j1 : Int) := by omega
  have hk1 : k < j1 := by omega
  have hj1b : j1 ≤ 2 * N + 1 := by omega
  have HJ1 := Lib.hid hj1
  by_cases hc1 : n ≤ j1
  · clear hj1
    go_wp2
    go_ret
    refine ⟨_, m, rfl, HP.out, fun q x y q0 q1 hx hy => HU.out.1 q x y q0 q1 (by have := HJ1.out; omega) hx hy, HF.out, HAT.out, HK.out⟩
  · obtain ⟨a, ha⟩ : ∃ a, m[k]? = some a := ⟨_, List.getElem?_eq_getElem (by rw [HL.out]; omega)⟩
    obtain ⟨b1, hb1⟩ : ∃ b, m[j1]? = some b := ⟨_, List.getElem?_eq_getElem (by rw [HL.out]; omega)⟩
    have HA := Lib.hid ha
    have HB1 := Lib.hid hb1
    obtain ⟨j2, hj2⟩ : ∃ j2, j2 = j1 + 1 := ⟨_, rfl⟩
    have hi2 : (j1 : Int) + 1 = (j2 : Int) := by omega
    have HJ2 := Lib.hid hj2
    clear ha hb1
    by_cases hc2 : j2 < n
    · obtain ⟨b2, hb2⟩ : ∃ b, m[j2]? = some b := ⟨_, List.getElem?_eq_getElem (by rw [HL.out]; omega)⟩
      have HB2 := Lib.hid hb2
      have hown := HAT.out.own
      rw [HL.out] at hown
      have HOwn := Lib.hid hown
      clear hown hb2 hj1 hj2
      go_wp2_with fail
      refine (less_any wr g N c j2 j1 b2 b1 m HL.out HB2.out HB1.out HOwn.out).mono ?_
      rintro e w1 ⟨rfl, nd, hw1⟩
      have hat1 : HeapAt w1 P (.slice (some ⟨g, 0, none⟩) N c) m := by rw [hw1]; exact HAT.out.drewN nd
      have HK1 : Hid (Keep (fun k => k = g) w w1) := by rw [hw1]; exact HK.out.drewN nd
      clear hw1
      have hc3 := hat1.var.cell
      have e3 := m_swap hc3
      have e4 := m_less hc3
      have HAT1 := Lib.hid hat1
      have hj1 := HJ1.out
      have hj2 := HJ2.out
      clear hc3 hat1
      by_cases hlt2 : Ln.jlt b2 b1
      · have hd2 : decide (Ln.jlt b2 b1) = true := decide_eq_true hlt2
        rw [hd2]
        have HN2 := Lib.hid hlt2
        clear hd2 hlt2 hj1 hj2
        have hown1 := HAT1.out.own
        rw [HL.out] at hown1
        have HOwn1 := Lib.hid hown1
        clear hown1
        go_wp2_with fail
        refine (less_any w1 g N c j2 k b2 a m HL.out HB2.out HA.out HOwn1.out).mono ?_
        rintro e w9 ⟨rfl, nd2, hw9⟩
        have hat9 : HeapAt w9 P (.slice (some ⟨g, 0, none⟩) N c) m := by rw [hw9]; exact HAT1.out.drewN nd2
        have HK9 : Hid (Keep (fun k => k = g) w w9) := by rw [hw9]; exact HK1.out.drewN nd2
        clear hw9
        have hc9 := hat9.var.cell
        have e9 := m_swap hc9
        have HAT9 := Lib.hid hat9
        clear hc9 hat9
        by_cases hlt : Ln.jlt b2 a
        · have hd : decide (Ln.jlt b2 a) = true := decide_eq_true hlt
          rw [hd]
          have hstep := Ln.down_step (j := j2) (i := k) (by have := HJ1.out; have := HJ2.out; omega) (by omega) (by omega) (by rw [HL.out]; omega) HU.out HA.out HB2.out (min_two HB1.out HB2.out HJ1.out HJ2.out (Ln.jlt_asymm HN2.out) (Ln.jlt_irrefl _)) hlt
          have HS := Lib.hid hstep
          have hown9 := HAT9.out.own
          rw [HL.out] at hown9
          have HOwn9 := Lib.hid hown9
          clear hown9 hd hlt hstep
          go_wp2_with fail
          refine (swap_any w9 g N c k j2 a b2 m HL.out HA.out HB2.out HOwn9.out).mono ?_
          rintro e w2 ⟨rfl, hown2, hk2⟩
          have hlen : (Ln.swapped m k j2 a b2).length = N := by rw [Ln.swapped_length, HL.out]
          have hvar2 := HAT9.out.var.keep hk2 (by have := HNE.out; simp [Value.ownBlock] at this; exact fun e => this e.symm)
          go_wp2
          go_roundw
          case rel => exact ⟨j2, Ln.swapped m k j2 a b2, .inr (by omega), rfl, (Ln.swapped_perm HA.out HB2.out).trans HP.out, hlen, HS.out, Lib.hid (fun q hq => by rw [Ln.swapped_at HA.out HB2.out, if_neg (by have := HJ1.out; have := HJ2.out; omega), if_neg (by have := HJ1.out; have := HJ2.out; omega)]; exact HF.out q hq), ⟨hvar2, by rw [hlen]; exact hown2⟩, HK9.out.trans hk2 (fun i _ hi => hi)⟩
          case measure => simp [intOf]; omega
        · have hd : decide (Ln.jlt b2 a) = false := decide_eq_false hlt
          rw [hd]
          have HNL := Lib.hid hlt
          clear hd hlt
          go_wp2
          go_ret
          exact ⟨_, m, rfl, HP.out, Ln.down_done HU.out HA.out (fun q x q0 q1 q2 hx => Ln.jle_trans HNL.out ((min_two HB1.out HB2.out HJ1.out HJ2.out (Ln.jlt_asymm HN2.out) (Ln.jlt_irrefl _)) q x q0 q1 q2 hx)), HF.out, HAT9.out, HK9.out⟩
      · have hd2 : decide (Ln.jlt b2 b1) = false := decide_eq_false hlt2
        rw [hd2]
        have HN2 := Lib.hid hlt2
        clear hd2 hlt2 hj1 hj2
        have hown1 := HAT1.out.own
        rw [HL.out] at hown1
        have HOwn1 := Lib.hid hown1
        clear hown1
        go_wp2_with fail
        refine (less_any w1 g N c j1 k b1 a m HL.out HB1.out HA.out HOwn1.out).mono ?_
        rintro e w9 ⟨rfl, nd2, hw9⟩
        have hat9 : HeapAt w9 P (.slice (some ⟨g, 0, none⟩) N c) m := by rw [hw9]; exact HAT1.out.drewN nd2
        have HK9 : Hid (Keep (fun k => k = g) w w9) := by rw [hw9]; exact HK1.out.drewN nd2
        clear hw9
        have hc9 := hat9.var.cell
        have e9 := m_swap hc9
        have HAT9 := Lib.hid hat9
        clear hc9 hat9
        by_cases hlt : Ln.jlt b1 a
        · have hd : decide (Ln.jlt b1 a) = true := decide_eq_true hlt
          rw [hd]
          have hstep := Ln.down_step (j := j1) (i := k) (by have := HJ1.out; have := HJ2.out; omega) (by omega) (by omega) (by rw [HL.out]; omega) HU.out HA.out HB1.out (min_two HB1.out HB2.out HJ1.out HJ2.out (Ln.jlt_irrefl _) HN2.out) hlt
          have HS := Lib.hid hstep
          have hown9 := HAT9.out.own
          rw [HL.out] at hown9
          have HOwn9 := Lib.hid hown9
          clear hown9 hd hlt hstep
          go_wp2_with fail
          refine (swap_any w9 g N c k j1 a b1 m HL.out HA.out HB1.out HOwn9.out).mono ?_
          rintro e w2 ⟨rfl, hown2, hk2⟩
          have hlen : (Ln.swapped m k j1 a b1).length = N := by rw [Ln.swapped_length, HL.out]
          have hvar2 := HAT9.out.var.keep hk2 (by have := HNE.out; simp [Value.ownBlock] at this; exact fun e => this e.symm)
          go_wp2
          go_roundw
          case rel => exact ⟨j1, Ln.swapped m k j1 a b1, .inr (by omega), rfl, (Ln.swapped_perm HA.out HB1.out).trans HP.out, hlen, HS.out, Lib.hid (fun q hq => by rw [Ln.swapped_at HA.out HB1.out, if_neg (by have := HJ1.out; have := HJ2.out; omega), if_neg (by have := HJ1.out; have := HJ2.out; omega)]; exact HF.out q hq), ⟨hvar2, by rw [hlen]; exact hown2⟩, HK9.out.trans hk2 (fun i _ hi => hi)⟩
          case measure => simp [intOf]; omega
        · have hd : decide (Ln.jlt b1 a) = false := decide_eq_false hlt
          rw [hd]
          have HNL := Lib.hid hlt
          clear hd hlt
          go_wp2
          go_ret
          exact ⟨_, m, rfl, HP.out, Ln.down_done HU.out HA.out (fun q x q0 q1 q2 hx => Ln.jle_trans HNL.out ((min_two HB1.out HB2.out HJ1.out HJ2.out (Ln.jlt_irrefl _) HN2.out) q x q0 q1 q2 hx)), HF.out, HAT9.out, HK9.out⟩
    · clear hj1 hj2
      have HC2 := Lib.hid hc2
      have hown := HAT.out.own
      rw [HL.out] at hown
      have HOwn := Lib.hid hown
      clear hown
      go_wp2_with fail
      refine (less_any wr g N c j1 k b1 a m HL.out HB1.out HA.out HOwn.out).mono ?_
      rintro e w9 ⟨rfl, nd2, hw9⟩
      have hat9 : HeapAt w9 P (.slice (some ⟨g, 0, none⟩) N c) m := by rw [hw9]; exact HAT.out.drewN nd2
      have HK9 : Hid (Keep (fun k => k = g) w w9) := by rw [hw9]; exact HK.out.drewN nd2
      clear hw9
      have hc9 := hat9.var.cell
      have e9 := m_swap hc9
      have HAT9 := Lib.hid hat9
      clear hc9 hat9
      by_cases hlt : Ln.jlt b1 a
      · have hd : decide (Ln.jlt b1 a) = true := decide_eq_true hlt
        rw [hd]
        have hstep := Ln.down_step (j := j1) (i := k) (by have := HJ1.out; have := HJ2.out; omega) (by omega) (by omega) (by rw [HL.out]; omega) HU.out HA.out HB1.out (min_one HB1.out HJ1.out (by have := HC2.out; have := HJ2.out; omega)) hlt
        have HS := Lib.hid hstep
        have hown9 := HAT9.out.own
        rw [HL.out] at hown9
        have HOwn9 := Lib.hid hown9
        clear hown9 hd hlt hstep
        go_wp2_with fail
        refine (swap_any w9 g N c k j1 a b1 m HL.out HA.out HB1.out HOwn9.out).mono ?_
        rintro e w2 ⟨rfl, hown2, hk2⟩
        have hlen : (Ln.swapped m k j1 a b1).length = N := by rw [Ln.swapped_length, HL.out]
        have hvar2 := HAT9.out.var.keep hk2 (by have := HNE.out; simp [Value.ownBlock] at this; exact fun e => this e.symm)
        go_wp2
        go_roundw
        case rel => exact ⟨j1, Ln.swapped m k j1 a b1, .inr (by omega), rfl, (Ln.swapped_perm HA.out HB1.out).trans HP.out, hlen, HS.out, Lib.hid (fun q hq => by rw [Ln.swapped_at HA.out HB1.out, if_neg (by have := HJ1.out; have := HJ2.out; omega), if_neg (by have := HJ1.out; have := HJ2.out; omega)]; exact HF.out q hq), ⟨hvar2, by rw [hlen]; exact hown2⟩, HK9.out.trans hk2 (fun i _ hi => hi)⟩
        case measure => simp [intOf]; omega
      · have hd : decide (Ln.jlt b1 a) = false := decide_eq_false hlt
        rw [hd]
        have HNL := Lib.hid hlt
        clear hd hlt
        go_wp2
        go_ret
        exact ⟨_, m, rfl, HP.out, Ln.down_done HU.out HA.out (fun q x q0 q1 q2 hx => Ln.jle_trans HNL.out ((min_one HB1.out HJ1.out (by have := HC2.out; have := HJ2.out; omega)) q x q0 q1 q2 hx)), HF.out, HAT9.out, HK9.out⟩
namespace Ln
theorem IsHeap.but {l : List Job} {n : Nat} (h : IsHeap l n) (j : Nat) : HeapBut l n j := fun k x y h0 h1 _ hx hy => h k x y h0 h1 hx hy
theorem IsHeap.push {l : List Job} (h : IsHeap l l.length) (x : Job) : HeapBut (l ++ [x]) (l ++ [x]).length l.length := fun k a b h0 h1 h2 ha hb => by
 simp only [List.length_append, List.length_singleton] at h1
 rw [List.getElem?_append_left (by omega)] at ha
 rw [List.getElem?_append_left (by omega)] at hb
 exact h k a b h0 (by omega) ha hb
theorem over_last (l : List Job) (x : Job) : Over (l ++ [x]) (l ++ [x]).length l.length := fun k a b h0 h1 h2 _ _ _ => by
 simp only [List.length_append, List.length_singleton] at h1; omega
theorem over_zero (l : List Job) (n : Nat) : Over l n 0 := fun k a b _ _ _ h _ _ => by omega
theorem IsHeap.under_swap {l : List Job} {n : Nat} {a b : Job} (h : IsHeap l (n + 1)) (ha : l[0]? = some a) (hb : l[n]? = some b) : HeapUnder (swapped l 0 n a b) n 0 := by
 refine ⟨fun k x y h0 h1 h2 hx hy => ?_, over_zero _ _⟩
 rw [swapped_at ha hb, if_neg (by omega), if_neg (by omega)] at hx
 rw [swapped_at ha hb, if_neg (by omega), if_neg (by omega)] at hy
 exact h k x y h0 (by omega) hx hy
theorem IsHeap.take {l : List Job} {n : Nat} (h : IsHeap l n) (hn : n ≤ l.length) : IsHeap (l.take n) (l.take n).length := fun k x y h0 h1 hx hy => by
 rw [List.length_take, Nat.min_eq_left hn] at h1
 rw [List.getElem?_take_of_lt h1] at hx
 rw [List.getElem?_take_of_lt (by omega)] at hy
 exact h k x y h0 h1 hx hy
theorem take_last {l : List Job} {n : Nat} {a : Job} (hn : l.length = n + 1) (ha : l[n]? = some a) : l = l.take n ++ [a] := by
 obtain ⟨h1, h2⟩ := List.getElem?_eq_some_iff.1 ha
 rw [← h2, List.take_append_getElem]
 rw [← hn, List.take_length]
end Ln
theorem push_any (w : World) (P : Nat) (v : Value) (l : List Job) (x : Job) (hn : l.length ≤ 900000000) (h : HeapAt w P v l) (h1 : Ln.IsHeap l l.length) :
 Calls Tryz.prog 136 #[.iface 245 (.pointer (some ⟨P, 0, none⟩)), .iface 250 x.val] w fun e w' => e = .returned (.tuple #[]) ∧ ∃ v' l', l'.Perm (l ++ [x]) ∧ Ln.IsHeap l' l'.length ∧ HeapAt w' P v' l' ∧ Keep (fun k => k = P ∨ v.ownBlock = some k) w w' ∧ (v'.ownBlock = v.ownBlock ∨ ∃ k, v'.ownBlock = some k ∧ w.heap.size ≤ k) := by
 have e0 := m_push
 have HH := Lib.hid h
 have H1 := Lib.hid h1
 obtain ⟨X, hX⟩ : ∃ X, X = x.val := ⟨_, rfl⟩
 have HX := Lib.hid hX
 rw [← hX]
 clear h h1 hX
 go_enter Tryz.func136, Tryz.ntmps136
 go_wp2_with fail
 rw [HX.out]
 refine (pushM_any w P v l x (by omega) HH.out).mono ?_
 rintro e w1 ⟨rfl, v1, hat1, hk1, ho1⟩
 have hc := hat1.var.cell
 have e1 := m_len hc
 obtain ⟨m, hm⟩ : ∃ m, m = l ++ [x] := ⟨_, rfl⟩
 have hml : m.length = l.length + 1 := by rw [hm]; simp
 have hbut := Ln.IsHeap.push H1.out x
 have hov := Ln.over_last l x
 rw [← hm] at hat1 hbut hov
 obtain ⟨g, c, hv, hob, hg⟩ := hat1.form (by omega)
 subst hv
 have HAT := Lib.hid hat1
 have HB := Lib.hid hbut
 have HO := Lib.hid hov
 have HM := Lib.hid hm
 obtain ⟨n, hnn⟩ : ∃ n, n = l.length := ⟨_, rfl⟩
 rw [← hnn] at hml hn HB HO
 have hin : (m.length : Int) - 1 = n := by omega
 have HML := Lib.hid hml
 have hle : m.length ≤ 900000001 := by omega
 have hle2 : n < m.length := by omega
 have HNN := Lib.hid hnn
 clear hc hat1 hbut hov hm hml hnn
 go_wp2_with fail
 refine (len_any w1 (some ⟨g, 0, none⟩) m.length c).mono ?_
 rintro e w2 ⟨rfl, rfl⟩
 go_wp2_with fail
 refine (up_any w1 P _ m n (by omega) hle2 HAT.out HB.out HO.out).mono ?_
 rintro e w2 ⟨rfl, l', hp, hh, hat2, hk2⟩
 go_wp2
 go_end0
 refine ⟨rfl, _, l', by rw [← HM.out]; exact hp, hh, hat2, hk1.trans hk2 (fun i hi hs => ?_), ho1⟩
 rcases ho1 with h | ⟨k, h, hk⟩
 · exact .inr (by rw [← h]; exact hs)
 · rw [h] at hs; injection hs with hs; omega
theorem fix_any (w : World) (P g c N : Nat) (l : List Job) (hN : l.length = N) (hN0 : 0 < N) (hN2 : N ≤ 900000000) (h : HeapAt w P (.slice (some ⟨g, 0, none⟩) N c) l) (h1 : Ln.HeapUnder l N 0) :
 Calls Tryz.prog 138 #[.iface 245 (.pointer (some ⟨P, 0, none⟩)), .int .i64 0] w fun e w' => e = .returned (.tuple #[]) ∧ ∃ l', l'.Perm l ∧ Ln.IsHeap l' l'.length ∧ HeapAt w' P (.slice (some ⟨g, 0, none⟩) N c) l' ∧ Keep (fun k => k = g) w w' := by
 have hc := h.var.cell
 have e1 := m_len hc
 have HAT := Lib.hid h
 have H1 := Lib.hid h1
 have HN := Lib.hid hN
 clear h h1 hN hc
 go_enter Tryz.func138, Tryz.ntmps138
 go_wp2_with fail
 refine (len_any w (some ⟨g, 0, none⟩) N c).mono ?_
 rintro e w2 ⟨rfl, rfl⟩
 go_wp2_with fail
 refine (down_any w P g c N l 0 N HN.out (by omega) (Nat.le_refl _) (.inl rfl) HAT.out H1.out).mono ?_
 rintro e w2 ⟨b, l', rfl, hp, hh, _, hat2, hk2⟩
 have hl' : l'.length = N := by rw [hp.length_eq, HN.out]
 have hn' : l'.length ≤ 1000000000 := by omega
 have hp0 : 0 < l'.length := by omega
 have HL' := Lib.hid hl'
 have HAT2 := Lib.hid hat2
 clear hl' hat2
 cases b
 · go_wp2_with fail
   refine (up_any w2 P _ l' 0 hn' hp0 HAT2.out (by rw [HL'.out]; exact hh.but 0) (Ln.over_zero _ _)).mono ?_
   rintro e w3 ⟨rfl, l2, hp2, hh2, hat3, hk3⟩
   go_wp2
   go_end0
   exact ⟨rfl, l2, hp2.trans hp, hh2, hat3, hk2.trans hk3 (fun i _ hs => by simp [Value.ownBlock] at hs; exact hs.symm)⟩
 · go_wp2
   go_end0
   exact ⟨rfl, l', hp, by rw [HL'.out]; exact hh, HAT2.out, hk2⟩
theorem pop_any (w : World) (P g c N n : Nat) (l : List Job) (a : Job) (hN : l.length = N) (hn : N = n + 1) (hN2 : N ≤ 900000000) (ha : l[0]? = some a) (h : HeapAt w P (.slice (some ⟨g, 0, none⟩) N c) l) (h1 : Ln.IsHeap l N) :
 Calls Tryz.prog 139 #[.iface 245 (.pointer (some ⟨P, 0, none⟩))] w fun e w' => e = .returned (.iface 250 a.val) ∧ ∃ v' l', (l' ++ [a]).Perm l ∧ Ln.IsHeap l' l'.length ∧ HeapAt w' P v' l' ∧ Keep (fun k => k = P ∨ k = g) w w' ∧ v'.ownBlock = some g := by
 have hc := h.var.cell
 have e1 := m_len hc
 have e2 := m_swap hc
 have e3 := m_pop
 obtain ⟨b, hb⟩ : ∃ b, l[n]? = some b := ⟨_, List.getElem?_eq_getElem (by omega)⟩
 have hnP : ¬ P = g := by have := h.ne; simp [Value.ownBlock] at this; exact fun e => this e.symm
 have HAT := Lib.hid h
 have H1 := Lib.hid h1
 have HN := Lib.hid hN
 have HA := Lib.hid ha
 have HB := Lib.hid hb
 have Hn := Lib.hid hn
 have hin : (N : Int) - 1 = n := by omega
 have hlt : n < N := by omega
 clear h h1 hN hc ha hb hn
 go_enter Tryz.func139, Tryz.ntmps139
 go_wp2_with fail
 refine (len_any w (some ⟨g, 0, none⟩) N c).mono ?_
 rintro e w2 ⟨rfl, rfl⟩
 have hown := HAT.out.own
 rw [HN.out] at hown
 have HOwn := Lib.hid hown
 clear hown
 go_wp2_with fail
 refine (swap_any w g N c 0 n a b l HN.out HA.out HB.out HOwn.out).mono ?_
 rintro e w2 ⟨rfl, hown2, hk2⟩
 have hlen : (Ln.swapped l 0 n a b).length = N := by rw [Ln.swapped_length, HN.out]
 have hvar2 := HAT.out.var.keep hk2 hnP
 have hh1 := H1.out
 rw [Hn.out] at hh1
 have hund := hh1.under_swap HA.out HB.out
 have hat2 : HeapAt w2 P (.slice (some ⟨g, 0, none⟩) N c) (Ln.swapped l 0 n a b) := ⟨hvar2, by rw [hlen]; exact hown2⟩
 have HL2 := Lib.hid hlen
 have HAT2 := Lib.hid hat2
 clear hlen hown2 hvar2 hat2 hh1
 go_wp2_with fail
 refine (down_any w2 P g c N _ 0 n HL2.out (by omega) (by omega) (.inl rfl) HAT2.out hund).mono ?_
 rintro e w3 ⟨bb, l3, rfl, hp3, hh3, hf3, hat3, hk3⟩
 have hl3 : l3.length = n + 1 := by rw [hp3.length_eq, HL2.out, Hn.out]
 have hlast : l3[n]? = some a := by rw [hf3 n (Nat.le_refl _), Ln.swapped_at HA.out HB.out, if_pos rfl]
 have htk := Ln.take_last hl3 hlast
 have htl : (l3.take n).length = n := by rw [List.length_take, hl3]; omega
 obtain ⟨l4, hl4⟩ : ∃ l4, l4 = l3.take n := ⟨_, rfl⟩
 rw [← hl4] at htk htl
 have hperm : (l4 ++ [a]).Perm l := by rw [← htk]; exact hp3.trans (Ln.swapped_perm HA.out HB.out)
 have hheap : Ln.IsHeap l4 l4.length := by rw [hl4]; exact hh3.take (by omega)
 rw [htk] at hat3
 have HPerm := Lib.hid hperm
 have HHeap := Lib.hid hheap
 have hle4 : l4.length ≤ 1000000000 := by omega
 clear hl3 hlast htk htl hl4 hperm hheap hp3 hh3 hf3
 go_wp2_with fail
 refine (popM_any w3 P _ l4 a hle4 hat3).mono ?_
 rintro e w4 ⟨rfl, v4, hat4, hk4, ho4⟩
 go_wp2
 go_ret
 exact ⟨rfl, v4, l4, HPerm.out, HHeap.out, hat4, ((hk2.trans hk3 (fun i _ hs => hs)).mono (fun i _ hs => .inr hs)).trans hk4 (fun i _ hs => .inl hs), by rw [ho4]; rfl⟩
def tyAt (w : World) (k : Nat) : Option TypeId := match w.heap[k]? with | some (.cells _ t _) => some t | _ => none
theorem Var.ty {w : World} {b : Nat} {t : TypeId} {v : Value} (h : Var w b t v) : tyAt w b = some t := by unfold tyAt; unfold Var at h; rw [h]
theorem own_ty {w : World} {B : Nat} {e : TypeId} {size : Nat} {v : Value} {n : Nat} {xs : List Value} (h : w.ownsRow B e size v n xs) {k : Nat} (hk : v.ownBlock = some k) : tyAt w k = some e ∧ B ≤ k ∧ k < w.heap.size := by
 rcases h.2 with ⟨rfl, _⟩ | ⟨g, cap, cur, rfl, hB, hh, _⟩
 · simp [Value.ownBlock] at hk
 · have : g = k := by simpa [Value.ownBlock] using hk
   subst this
   exact ⟨by unfold tyAt; rw [hh], hB, (Array.getElem?_eq_some_iff.1 hh).1⟩
theorem lown_keep {S : Nat → Prop} {w w' : World} {B : Nat} {e : TypeId} {size : Nat} {v : Value} {n : Nat} {xs : List Value} (h : w.ownsRow B e size v n xs) (hk : Keep S w w') (hS : ∀ k, v.ownBlock = some k → ¬ S k) : w'.ownsRow B e size v n xs := by
 refine ⟨h.1, ?_⟩
 rcases h.2 with h1 | ⟨g, cap, cur, rfl, hB, hh, h3⟩
 · exact .inl h1
 · exact .inr ⟨g, cap, cur, rfl, hB, by rw [hk.block g (Array.getElem?_eq_some_iff.1 hh).1 (hS g rfl)]; exact hh, h3⟩
theorem HeapAt.keep {S : Nat → Prop} {w w' : World} {P : Nat} {v : Value} {l : List Job} (h : HeapAt w P v l) (hk : Keep S w w') (hP : ¬ S P) (hv : ∀ k, v.ownBlock = some k → ¬ S k) : HeapAt w' P v l :=
 ⟨h.var.keep hk hP, lown_keep h.own hk hv⟩
structure ESt (z : Nat) (w0 w : World) (p PW PN : Nat) (rv vw vn : Value) (rows : List Slot) (wl nl : List Job) : Prop where
 vp : Var w p 216 rv
 row : w.ownsRow (p + 1) 256 3 rv rows.length (slotCells rows)
 wait : HeapAt w PW vw wl
 next : HeapAt w PN vn nl
 nePP : PW ≠ PN
 ne : ∀ k, vw.ownBlock = some k → vn.ownBlock ≠ some k
 lowp : z ≤ p
 loww : z ≤ PW
 lown : z ≤ PN
 lww : ∀ k, vw.ownBlock = some k → z ≤ k
 lnn : ∀ k, vn.ownBlock = some k → z ≤ k
 below : Below z w0 w
namespace ESt
variable {z : Nat} {w0 w w' : World} {p PW PN : Nat} {rv vw vn rv' vw' vn' : Value} {rows rows' : List Slot} {wl nl wl' nl' : List Job}
theorem onNext (h : ESt z w0 w p PW PN rv vw vn rows wl nl) (hz : z ≤ w.heap.size) (hk : Keep (fun k => k = PN ∨ vn.ownBlock = some k) w w') (hn : HeapAt w' PN vn' nl') (ho : vn'.ownBlock = vn.ownBlock ∨ ∃ k, vn'.ownBlock = some k ∧ w.heap.size ≤ k) :
 ESt z w0 w' p PW PN rv vw vn' rows wl nl' := by
 have t1 := h.vp.ty
 have t2 := h.wait.var.ty
 have t3 := h.next.var.ty
 have t4 := fun k hk => (own_ty h.row (k := k) hk).1
 have t5 := fun k hk => (own_ty h.wait.own (k := k) hk)
 have t6 := fun k hk => (own_ty h.next.own (k := k) hk).1
 refine ⟨h.vp.keep hk ?_, lown_keep h.row hk ?_, h.wait.keep hk ?_ ?_, hn, h.nePP, ?_, h.lowp, h.loww, h.lown, h.lww, ?_, h.below.trans (hk.below hz ?_)⟩
 · rintro (e | e)
   · subst e; rw [t1] at t3; simp at t3
   · have := t6 _ e; rw [t1] at this; simp at this
 · rintro k hk' (e | e)
   · subst e; have := t4 _ hk'; rw [t3] at this; simp at this
   · have := t4 _ hk'; have h2 := t6 _ e; rw [this] at h2; simp at h2
 · rintro (e | e)
   · exact h.nePP e
   · have := t6 _ e; rw [t2] at this; simp at this
 · rintro k hk' (e | e)
   · subst e; have := (t5 _ hk').1; rw [t3] at this; simp at this
   · exact h.ne k hk' e
 · intro k hk'
   rcases ho with e | ⟨q, e, hq⟩
   · rw [e]; exact h.ne k hk'
   · rw [e]
     have := (t5 k hk').2.2
     intro h; injection h with h; omega
 · intro k hk'
   rcases ho with e | ⟨q, e, hq⟩
   · rw [e] at hk'; exact h.lnn k hk'
   · rw [e] at hk'; injection hk' with hk'; omega
 · rintro i hi (e | e)
   · have := h.lown; omega
   · have := h.lnn i e; omega
theorem onWait (h : ESt z w0 w p PW PN rv vw vn rows wl nl) (hz : z ≤ w.heap.size) (hk : Keep (fun k => k = PW ∨ vw.ownBlock = some k) w w') (hn : HeapAt w' PW vw' wl') (ho : vw'.ownBlock = vw.ownBlock ∨ ∃ k, vw'.ownBlock = some k ∧ w.heap.size ≤ k) :
 ESt z w0 w' p PW PN rv vw' vn rows wl' nl := by
 have t1 := h.vp.ty
 have t2 := h.wait.var.ty
 have t3 := h.next.var.ty
 have t4 := fun k hk => (own_ty h.row (k := k) hk).1
 have t5 := fun k hk => (own_ty h.wait.own (k := k) hk)
 have t6 := fun k hk => (own_ty h.next.own (k := k) hk)
 refine ⟨h.vp.keep hk ?_, lown_keep h.row hk ?_, hn, h.next.keep hk ?_ ?_, h.nePP, ?_, h.lowp, h.loww, h.lown, ?_, h.lnn, h.below.trans (hk.below hz ?_)⟩
 · rintro (e | e)
   · subst e; rw [t1] at t2; simp at t2
   · have := (t5 _ e).1; rw [t1] at this; simp at this
 · rintro k hk' (e | e)
   · subst e; have := t4 _ hk'; rw [t2] at this; simp at this
   · have := t4 _ hk'; have h2 := (t5 _ e).1; rw [this] at h2; simp at h2
 · rintro (e | e)
   · exact h.nePP e.symm
   · have := (t5 _ e).1; rw [t3] at this; simp at this
 · rintro k hk' (e | e)
   · subst e; have := (t6 _ hk').1; rw [t2] at this; simp at this
   · exact h.ne k e hk'
 · intro k hk' hk2
   rcases ho with e | ⟨q, e, hq⟩
   · rw [e] at hk'; exact h.ne k hk' hk2
   · rw [e] at hk'
     have := (t6 k hk2).2.2
     injection hk' with h; omega
 · intro k hk'
   rcases ho with e | ⟨q, e, hq⟩
   · rw [e] at hk'; exact h.lww k hk'
   · rw [e] at hk'; injection hk' with hk'; omega
 · rintro i hi (e | e)
   · have := h.loww; omega
   · have := h.lww i e; omega
theorem onRow (h : ESt z w0 w p PW PN rv vw vn rows wl nl) (hz : z ≤ w.heap.size) (hk : Keep (fun k => k = p ∨ rv.ownBlock = some k) w w') (hv : Var w' p 216 rv') (hr : w'.ownsRow (p + 1) 256 3 rv' rows'.length (slotCells rows')) :
 ESt z w0 w' p PW PN rv' vw vn rows' wl nl := by
 have t1 := h.vp.ty
 have t2 := h.wait.var.ty
 have t3 := h.next.var.ty
 have t4 := fun k hk => (own_ty h.row (k := k) hk)
 have t5 := fun k hk => (own_ty h.wait.own (k := k) hk)
 have t6 := fun k hk => (own_ty h.next.own (k := k) hk)
 refine ⟨hv, hr, h.wait.keep hk ?_ ?_, h.next.keep hk ?_ ?_, h.nePP, h.ne, h.lowp, h.loww, h.lown, h.lww, h.lnn, h.below.trans (hk.below hz ?_)⟩
 · rintro (e | e)
   · subst e; rw [t1] at t2; simp at t2
   · have := (t4 _ e).1; rw [t2] at this; simp at this
 · rintro k hk' (e | e)
   · subst e; have := (t5 _ hk').1; rw [t1] at this; simp at this
   · have := (t5 _ hk').1; have h2 := (t4 _ e).1; rw [this] at h2; simp at h2
 · rintro (e | e)
   · subst e; rw [t1] at t3; simp at t3
   · have := (t4 _ e).1; rw [t3] at this; simp at this
 · rintro k hk' (e | e)
   · subst e; have := (t6 _ hk').1; rw [t1] at this; simp at this
   · have := (t6 _ hk').1; have h2 := (t4 _ e).1; rw [this] at h2; simp at h2
 · rintro i hi (e | e)
   · have := h.lowp; omega
   · have := (t4 _ e).2.1; have := h.lowp; omega
theorem alloc (h : ESt z w0 w p PW PN rv vw vn rows wl nl) (hz : z ≤ w.heap.size) (o : Obj) : ESt z w0 (w.alloc o) p PW PN rv vw vn rows wl nl := by
 have hk : Keep (fun _ => False) w (w.alloc o) := (Keep.refl _ _).alloc _
 exact ⟨h.vp.keep hk (by simp), lown_keep h.row hk (by simp), h.wait.keep hk (by simp) (by simp), h.next.keep hk (by simp) (by simp), h.nePP, h.ne, h.lowp, h.loww, h.lown, h.lww, h.lnn, h.below.alloc hz _⟩
theorem keepN (h : ESt z w0 w p PW PN rv vw vn rows wl nl) (hz : z ≤ w.heap.size) (hk : Keep (fun _ => False) w w') : ESt z w0 w' p PW PN rv vw vn rows wl nl :=
 ⟨h.vp.keep hk (by simp), lown_keep h.row hk (by simp), h.wait.keep hk (by simp) (by simp), h.next.keep hk (by simp) (by simp), h.nePP, h.ne, h.lowp, h.loww, h.lown, h.lww, h.lnn, h.below.trans (hk.below hz (by simp))⟩
theorem size (h : ESt z w0 w p PW PN rv vw vn rows wl nl) : z ≤ w.heap.size := by have := h.vp.lt; have := h.lowp; omega
end ESt
theorem HeapAt.set_cell {w : World} {P g n c : Nat} {l : List Job} {r r' : Job} (h : HeapAt w P (.slice (some ⟨g, 0, none⟩) n c) l) (hr : l[0]? = some r) (hn : n = l.length) {i : Nat} {d : Int}
 (he : (i = 1 ∧ r' = ⟨r.need, d, r.left⟩) ∨ (i = 2 ∧ r' = ⟨r.need, r.due, d⟩)) :
 HeapAt (w.setCell ⟨g, i, none⟩ (.int .i64 d)) P (.slice (some ⟨g, 0, none⟩) n c) (l.set 0 r') ∧ Keep (fun k => k = g) w (w.setCell ⟨g, i, none⟩ (.int .i64 d)) := by
 have hk : Keep (fun k => k = g) w (w.setCell ⟨g, i, none⟩ (.int .i64 d)) := (Keep.refl (fun k => k = g) w).setCell (fun _ => rfl) _
 have hne : ¬ P = g := by have := h.ne; simp [Value.ownBlock] at this; exact fun e => this e.symm
 refine ⟨⟨h.var.keep hk hne, ?_⟩, hk⟩
 have ho := h.own
 rw [← hn] at ho
 have hs := (ho.stored i (.int .i64 d)).1
 obtain ⟨tl, h1, h2⟩ := Edf.set_root (r' := r') hr
 rw [List.length_set, ← hn, h2]
 rw [h1] at hs
 rcases he with ⟨rfl, rfl⟩ | ⟨rfl, rfl⟩ <;> simpa [jobCells, Job.cells] using hs
theorem ESt.start (w : World) (p PW PN gw gn : Nat) (wo : World) (hp : p = w.heap.size) (hgw : gw = p + 1) (hPW : PW = p + 2) (hgn : gn = p + 3) (hPN : PN = p + 4)
 (hwo : wo = (((((w.alloc (Obj.cells #[Value.slice none 0 0] 216)).alloc (Obj.cells #[] 250)).alloc (Obj.cells #[Value.slice (some ⟨gw, 0, none⟩) 0 0] 247)).alloc (Obj.cells #[] 250)).alloc (Obj.cells #[Value.slice (some ⟨gn, 0, none⟩) 0 0] 247))) :
 ESt w.heap.size w wo p PW PN (.slice none 0 0) (.slice (some ⟨gw, 0, none⟩) 0 0) (.slice (some ⟨gn, 0, none⟩) 0 0) [] [] [] := by
 subst hp hgw hPW hgn hPN
 have b0 : ∀ (w : World) (o : Obj), (w.alloc o).heap[w.heap.size]? = some o := fun w o => heap_alloc_new w o
 have keep : ∀ {w : World} {k : Nat} {o : Obj} (o' : Obj), w.heap[k]? = some o → (w.alloc o').heap[k]? = some o := fun {w k o} o' h => by
  have hk := (Array.getElem?_eq_some_iff.1 h).1
  rw [Below.heap_alloc w o' k hk]; exact h
 have s1 : ∀ (w : World) (o : Obj), (w.alloc o).heap.size = w.heap.size + 1 := fun w o => by simp
 have e0 : wo.heap[w.heap.size]? = some (Obj.cells #[Value.slice none 0 0] 216) := by subst hwo; exact keep _ (keep _ (keep _ (keep _ (b0 _ _))))
 have e1 : wo.heap[w.heap.size + 1]? = some (Obj.cells #[] 250) := by
  subst hwo; refine keep _ (keep _ (keep _ ?_)); have := b0 (w.alloc (Obj.cells #[Value.slice none 0 0] 216)) (Obj.cells #[] 250); rwa [s1] at this
 have e2 : wo.heap[w.heap.size + 2]? = some (Obj.cells #[Value.slice (some ⟨w.heap.size + 1, 0, none⟩) 0 0] 247) := by
  subst hwo; refine keep _ (keep _ ?_); have := b0 ((w.alloc (Obj.cells #[Value.slice none 0 0] 216)).alloc (Obj.cells #[] 250)) (Obj.cells #[Value.slice (some ⟨w.heap.size + 1, 0, none⟩) 0 0] 247); simpa only [s1] using this
 have e3 : wo.heap[w.heap.size + 3]? = some (Obj.cells #[] 250) := by
  subst hwo; refine keep _ ?_; have := b0 (((w.alloc (Obj.cells #[Value.slice none 0 0] 216)).alloc (Obj.cells #[] 250)).alloc (Obj.cells #[Value.slice (some ⟨w.heap.size + 1, 0, none⟩) 0 0] 247)) (Obj.cells #[] 250); simpa only [s1] using this
 have e4 : wo.heap[w.heap.size + 4]? = some (Obj.cells #[Value.slice (some ⟨w.heap.size + 3, 0, none⟩) 0 0] 247) := by
  subst hwo; have := b0 ((((w.alloc (Obj.cells #[Value.slice none 0 0] 216)).alloc (Obj.cells #[] 250)).alloc (Obj.cells #[Value.slice (some ⟨w.heap.size + 1, 0, none⟩) 0 0] 247)).alloc (Obj.cells #[] 250)) (Obj.cells #[Value.slice (some ⟨w.heap.size + 3, 0, none⟩) 0 0] 247); simpa only [s1] using this
 have hb : Below w.heap.size w wo := by
  subst hwo
  refine ((((((Below.refl _ _).alloc ?_ _).alloc ?_ _).alloc ?_ _).alloc ?_ _).alloc ?_ _) <;> simp <;> omega
 have ho : ∀ g, wo.heap[g]? = some (Obj.cells #[] 250) → wo.ownsRow 0 250 3 (.slice (some ⟨g, 0, none⟩) 0 0) 0 (jobCells []) := fun g hg =>
  ⟨rfl, .inr ⟨g, 0, #[], rfl, by omega, hg, by omega, by omega, rfl, rfl⟩⟩
 refine ⟨e0, World.ownsRow_nil _ _ _ _, ⟨e2, ho _ e1⟩, ⟨e4, ho _ e3⟩, by omega, ?_, by omega, by omega, by omega, ?_, ?_, hb⟩
 · intro k hk h; simp [Value.ownBlock] at hk h; omega
 · intro k hk; simp [Value.ownBlock] at hk; omega
 · intro k hk; simp [Value.ownBlock] at hk; omega
theorem HeapAt.slice {w : World} {P : Nat} {v : Value} {l : List Job} (h : HeapAt w P v l) : ∃ A c, v = .slice A l.length c := by
 rcases h.own.2 with ⟨h, h2⟩ | ⟨g, cap, cur, h, _⟩
 · exact ⟨none, 0, by rw [h, h2]⟩
 · exact ⟨_, _, h⟩
theorem HeapAt.root {w : World} {P g n c : Nat} {l : List Job} {r : Job} (h : HeapAt w P (.slice (some ⟨g, 0, none⟩) n c) l) (hn : l.length = n) (hr : l[0]? = some r) :
 w.cell? ⟨g, 0, none⟩ = some (.int .i64 r.need) ∧ w.cell? ⟨g, 1, none⟩ = some (.int .i64 r.due) ∧ w.cell? ⟨g, 2, none⟩ = some (.int .i64 r.left) := by
 have ho := h.own
 rw [hn] at ho
 have := own_cells ho hr
 simpa using this
theorem own_base_low {w : World} {base base' : Nat} {e : TypeId} {size : Nat} {v : Value} {n : Nat} {xs : List Value} (h : w.ownsRow base e size v n xs) (hb : base' ≤ base) : w.ownsRow base' e size v n xs := by
 refine ⟨h.1, ?_⟩
 rcases h.2 with h1 | ⟨g, cap, cur, h1, h2, h3⟩
 · exact .inl h1
 · exact .inr ⟨g, cap, cur, h1, Nat.le_trans hb h2, h3⟩
end Go.Proofs.YtpblcjipmoblnaaGreatDoor
