/- The heap of jobs: Push and Pop of the list itself. -/
import Derived.Test.YtgilejknjdbneaaH2
import Derived.Deep.RegionLaw
namespace Go.Proofs.Ytgilejknjdbneaa
open Go.RowKit Go.IntWalk

def Job.val (s : Job) : Value := .agg #[.int .i64 s.need, .int .i64 s.due, .int .i64 s.left]

/-- A variable that holds a list of jobs. -/
structure HeapAt (w : World) (P : Nat) (v : Value) (l : List Job) : Prop where
  var : Var w P 93 v
  own : w.ownsRow 0 96 3 v l.length (jobCells l)

theorem job_news {a b c : Int} : ∀ u ∈ [Value.int .i64 a, .int .i64 b, .int .i64 c], u.oneCell' = true := by
  intro u hu; simp at hu; rcases hu with rfl | rfl | rfl <;> rfl

theorem HeapAt.ne {w : World} {P : Nat} {v : Value} {l : List Job} (h : HeapAt w P v l) : ¬ v.ownBlock = some P := by
  rcases h.own.2 with ⟨rfl, _⟩ | ⟨g, cap, cur, rfl, _, hh, _⟩
  · simp [Value.ownBlock]
  · intro he
    have : g = P := by simpa [Value.ownBlock] using he
    subst this
    have := h.var
    unfold Var at this
    rw [hh] at this
    simp at this

theorem assert_job (x : Value) (w : World) : (Instr.typeAssert (.iface 96 x) 20 96 false).run Try.prog w = .ok x w := by kernel_rfl

set_option maxRecDepth 100000 in
set_option maxHeartbeats 1000000 in
theorem pushM_any (w : World) (P : Nat) (v : Value) (l : List Job) (x : Job) (hn : l.length ≤ 1000000000) (h : HeapAt w P v l) :
    Calls Try.prog 80 #[.pointer (some ⟨P, 0, none⟩), .iface 96 x.val] w fun e w' => e = .returned (.tuple #[]) ∧ ∃ v', HeapAt w' P v' (l ++ [x]) ∧ Keep (fun k => k = P ∨ v.ownBlock = some k) w w' ∧ (v'.ownBlock = v.ownBlock ∨ ∃ k, v'.ownBlock = some k ∧ w.heap.size ≤ k) := by
  have hc := h.var.cell
  have hf := h.var.frozen
  have hlt := h.var.lt
  have hown := h.own
  have hne := h.ne
  have hvar := h.var
  obtain ⟨i0, hi, hz0, hz1, hz2⟩ := info_parts Try.info96
  have hta := assert_job
  unfold Job.val
  go_enter Try.func80, Try.ntmps80
  go_wp2
  have hown0 : (w.alloc (.cells #[.int .i64 x.need, .int .i64 x.due, .int .i64 x.left] 96)).drew.ownsRow 0 96 3 v l.length (jobCells l) := (hown.alloc _).drew
  have hnews : ∀ j u, [Value.int .i64 x.need, .int .i64 x.due, .int .i64 x.left][j]? = some u → (w.alloc (.cells #[.int .i64 x.need, .int .i64 x.due, .int .i64 x.left] 96)).drew.cell? ((⟨w.heap.size, 0, none⟩ : Addr).add j) = some u := World.news_of_block (cs := #[.int .i64 x.need, .int .i64 x.due, .int .i64 x.left]) (heap_alloc_new w _)
  have HN := Lib.hid hnews
  clear hnews
  go_region_law ((refine step_append_lies ((w.alloc (.cells #[.int .i64 x.need, .int .i64 x.due, .int .i64 x.left] 96)).drew) rfl (.tmp 7) (.tmp 10) 93 rfl 0 96 i0 (.agg #[.int .i64 0, .int .i64 0, .int .i64 0]) 3 24 Try.underlying93 hi hz0 hz1 hz2 rfl (by omega) v l.length (jobCells l) rfl hown0 ⟨w.heap.size, 0, none⟩ 1 1 [.int .i64 x.need, .int .i64 x.due, .int .i64 x.left] rfl rfl HN.out job_news (by omega) (by unfold maxLen; omega) (by omega) (by omega) (w.heap.size + 1) (by simp) ?_; intro g cap w1 hown1 hgrow hat hlt2; have hk1 : Keep (fun k => v.ownBlock = some k) w w1 := ((Keep.refl _ w).alloc _).drew.trans (Keep.of_grown (S := fun k => v.ownBlock = some k) hgrow (fun k h => h)) (fun _ _ h => h); have hv1 := hvar.keep hk1 hne; have hc1 := hv1.cell; have hf1 := hv1.frozen))
  all_goals
    have hh1 : HeapAt w1 P v l ∨ True := .inr trivial
    have hgP : ¬ g = P := by
      intro he
      subst he
      rcases hown1.2 with ⟨h, _⟩ | ⟨g', cap', cur, h, _, h2, _⟩
      · simp at h
      · simp only [Value.slice.injEq, Option.some.injEq, Addr.mk.injEq, and_true, true_and] at h
        obtain ⟨rfl, rfl⟩ := h
        unfold Var at hv1
        rw [h2] at hv1
        simp at hv1
    have hset : ∀ u, (w1.setCell ⟨P, 0, none⟩ u).ownsRow 0 96 3 (.slice (some ⟨g, 0, none⟩) (l.length + 1) cap) (l.length + 1) (jobCells l ++ [.int .i64 x.need, .int .i64 x.due, .int .i64 x.left]) := fun u =>
      hown1.kept (row := some P) ⟨rfl, rfl, rfl, by simp [World.setCell], fun k hk hne => Below.heap_setCell w1 _ u k (by intro e; exact hne (by rw [e]))⟩ (.inr (by simp [Value.ownBlock]; exact hgP))
    have HSet := Lib.hid hset
    clear hset hown1 hgrow hh1
    go_wp2
    go_end0
    refine ⟨rfl, _, ⟨hv1.set_ _, ?_⟩, (hk1.mono fun i _ h => .inr h).setCell (fun _ => .inl rfl) _, ?_⟩
    · rw [jobCells_append, List.length_append]
      exact HSet.out _
    · rcases hat with h | h
      · exact .inl (by rw [h]; rfl)
      · exact .inr ⟨g, rfl, by omega⟩

set_option maxRecDepth 100000 in
set_option maxHeartbeats 1000000 in
theorem popM_any (w : World) (P : Nat) (v : Value) (l : List Job) (x : Job) (hn : l.length ≤ 1000000000) (h : HeapAt w P v (l ++ [x])) :
    Calls Try.prog 79 #[.pointer (some ⟨P, 0, none⟩)] w fun e w' => e = .returned (.iface 96 x.val) ∧ ∃ v', HeapAt w' P v' l ∧ Keep (fun k => k = P) w w' ∧ v'.ownBlock = v.ownBlock := by
  have hc := h.var.cell
  have hf := h.var.frozen
  have hlt := h.var.lt
  have hown := h.own
  have hne := h.ne
  have hvar := h.var
  obtain ⟨g, cap, hv, _, hg⟩ := hown.form (by simp)
  subst hv
  obtain ⟨q0, q1, q2⟩ := own_cells hown (i := l.length) (a := x) (by simp)
  rw [List.length_append, List.length_singleton] at hown hc hvar hne
  have hgP : ¬ g = P := by simpa [Value.ownBlock] using hne
  obtain ⟨n, hnl⟩ : ∃ n, n = l.length := ⟨_, rfl⟩
  rw [← hnl] at hown hc hvar q0 q1 q2 hn
  have hcap : n + 1 ≤ cap := by
    rcases hown.2 with ⟨h, _⟩ | ⟨g', cap', cur, h, _, _, h3, _⟩
    · simp at h
    · simp only [Value.slice.injEq] at h
      obtain ⟨_, _, rfl⟩ := h
      exact h3
  have hcap' : (n : Int) ≤ (cap : Int) := by omega
  have hpop : w.ownsRow 0 96 3 (.slice (some ⟨g, 0, none⟩) n cap) n (jobCells l) := by
    rcases hown.2 with ⟨h, _⟩ | ⟨g', cap', cur, h, hb, h2, h3, h4, h5, h6⟩
    · simp at h
    · simp only [Value.slice.injEq, Option.some.injEq, Addr.mk.injEq, and_true, true_and] at h
      obtain ⟨rfl, rfl⟩ := h
      refine ⟨by rw [jobCells_length, hnl], .inr ⟨g, cap, cur, rfl, hb, h2, by omega, h4, h5, ?_⟩⟩
      have h7 := congrArg (List.take (n * 3)) h6
      rw [List.take_take, Nat.min_eq_left (by omega)] at h7
      rw [h7, jobCells_append, List.take_left' (by rw [jobCells_length, hnl])]
  have Hnl := Lib.hid hnl
  clear hown hnl h
  unfold Job.val
  have hset := fun u => (ownsRow_setCell_other hpop (a := ⟨P, 0, none⟩) (by simp [Value.ownBlock]; exact hgP) u).alloc (.cells #[.int .i64 x.need, .int .i64 x.due, .int .i64 x.left] 96)
  have hvs : ∀ u, Var ((w.setCell ⟨P, 0, none⟩ u).alloc (.cells #[.int .i64 x.need, .int .i64 x.due, .int .i64 x.left] 96)) P 93 u := fun u => (Below.heap_alloc _ _ P (by simpa [World.setCell] using hlt)).trans (Var.set_ hvar u)
  have hks : ∀ u, Keep (fun k => k = P) w ((w.setCell ⟨P, 0, none⟩ u).alloc (.cells #[.int .i64 x.need, .int .i64 x.due, .int .i64 x.left] 96)) := fun u => ((Keep.refl (fun k => k = P) w).setCell (fun _ => rfl) u).alloc _
  have HSet := Lib.hid hset
  have HVs := Lib.hid hvs
  have HKs := Lib.hid hks
  clear hset hvs hpop hks
  go_enter Try.func79, Try.ntmps79
  go_wp2
  go_ret
  refine ⟨rfl, .slice (some ⟨g, 0, none⟩) n cap, ⟨HVs.out _, ?_⟩, HKs.out _, rfl⟩
  rw [← Hnl.out]
  exact HSet.out _

end Go.Proofs.Ytgilejknjdbneaa
