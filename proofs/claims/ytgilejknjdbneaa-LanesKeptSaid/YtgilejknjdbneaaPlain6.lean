/- Plain words of lanes: rows as lists of ticks. -/
import Derived.Test.YtgilejknjdbneaaPlain4
namespace Go.Proofs.Ytgilejknjdbneaa
open Go Go.RowKit
namespace Ln
theorem run_nil (s : ByteArray) (t : Int) : run [] s t = [⟨s, 0, t⟩] := rfl
theorem run_snoc (l : List Slot) (x : Slot) (s : ByteArray) (t : Int) : run (l ++ [x]) s t = if x.subj = s then l ++ [⟨x.subj, x.from_, x.to + t⟩] else l ++ [x] ++ [⟨s, x.to, x.to + t⟩] := by
  unfold run
  rw [List.getLast?_concat]
  simp only [List.dropLast_concat]
theorem snoc_of (l : List Slot) : l = [] ∨ ∃ m x, l = m ++ [x] := by
  rcases List.eq_nil_or_concat l with h | ⟨m, x, h⟩
  · exact .inl h
  · exact .inr ⟨m, x, by rw [h, List.concat_eq_append]⟩
theorem run_run (l : List Slot) (s : ByteArray) (a b : Int) : run (run l s a) s b = run l s (a + b) := by
  rcases snoc_of l with rfl | ⟨m, x, rfl⟩
  · rw [run_nil, show [(⟨s, 0, a⟩ : Slot)] = [] ++ [⟨s, 0, a⟩] from rfl, run_snoc, if_pos rfl, run_nil]
    simp
  · rw [run_snoc, run_snoc]
    by_cases h : x.subj = s
    · rw [if_pos h, if_pos h, run_snoc, if_pos h]; simp [Int.add_assoc]
    · rw [if_neg h, if_neg h, run_snoc, if_pos rfl]; simp [Int.add_assoc]
def rowFrom (l : List Slot) (ts : List ByteArray) : List Slot := ts.foldl (fun l s => run l s 1) l
theorem rowFrom_append (l : List Slot) (a b : List ByteArray) : rowFrom l (a ++ b) = rowFrom (rowFrom l a) b := by simp [rowFrom]
theorem run_ticks (l : List Slot) (s : ByteArray) (n : Nat) : run l s ((n + 1 : Nat) : Int) = rowFrom l (List.replicate (n + 1) s) := by
  induction n with
  | zero => rfl
  | succ n ih =>
    rw [List.replicate_succ', rowFrom_append, ← ih]
    show _ = run _ s 1
    rw [run_run]; congr 1
theorem run_tick (l : List Slot) (s : ByteArray) {n : Nat} (h : 0 < n) : run l s (n : Int) = rowFrom l (List.replicate n s) := by
  obtain ⟨k, rfl⟩ : ∃ k, n = k + 1 := ⟨n - 1, by omega⟩
  exact run_ticks l s k
def expand (xs : List Run) : List ByteArray := xs.flatMap fun r => List.replicate r.bud r.subj
theorem rowRuns_ticks {xs : List Run} (h : ∀ r ∈ xs, 1 ≤ r.bud) : ∀ (l : List Slot), rowRuns l xs = rowFrom l (expand xs) := by
  induction xs with
  | nil => intro l; rfl
  | cons r xs ih =>
    intro l
    have h1 := h r (by simp)
    show rowRuns (run l r.subj r.bud) xs = rowFrom l (List.replicate r.bud r.subj ++ expand xs)
    rw [ih (fun x hx => h x (List.mem_cons_of_mem _ hx)), rowFrom_append, run_tick _ _ (by omega)]
theorem expand_length (xs : List Run) : (expand xs).length = sumBud xs := by
  induction xs with
  | nil => rfl
  | cons r xs ih => simp only [expand, List.flatMap_cons, List.length_append, List.length_replicate, sumBud, List.foldr_cons] at ih ⊢; omega

/-- Slots one behind the other, neighbours of two subjects. -/
def ChainD : Int → Option ByteArray → List Slot → Prop
  | _, _, [] => True
  | e, p, s :: l => s.from_ = e ∧ s.from_ < s.to ∧ p ≠ some s.subj ∧ ChainD s.to (some s.subj) l
theorem ChainD.chain {l : List Slot} : ∀ {e p}, ChainD e p l → Chain e l := by
  induction l with
  | nil => intro e p _; trivial
  | cons s l ih => intro e p h; exact ⟨h.1, h.2.1, ih h.2.2.2⟩
theorem ChainD.len {l : List Slot} : ∀ {e p}, ChainD e p l → lenFrom e p l = lastTo e l := by
  induction l with
  | nil => intro e p _; rfl
  | cons s l ih =>
    intro e p h
    obtain ⟨h1, h2, h3, h4⟩ := h
    simp only [lenFrom, lastTo]
    rw [if_neg (by rintro (h | h | h); exact h h1; omega; exact h3 h)]
    exact ih h4
def lastSubj : Option ByteArray → List Slot → Option ByteArray
  | p, [] => p
  | _, s :: l => lastSubj (some s.subj) l
theorem lastSubj_snoc (l : List Slot) (x : Slot) : ∀ p, lastSubj p (l ++ [x]) = some x.subj := by
  induction l with
  | nil => intro p; rfl
  | cons s l ih => intro p; exact ih _
theorem lastTo_snoc (l : List Slot) (x : Slot) : ∀ e, lastTo e (l ++ [x]) = x.to := by
  induction l with
  | nil => intro e; rfl
  | cons s l ih => intro e; exact ih _
theorem chainD_snoc {l : List Slot} {x : Slot} : ∀ {e p}, ChainD e p (l ++ [x]) ↔ ChainD e p l ∧ x.from_ = lastTo e l ∧ x.from_ < x.to ∧ lastSubj p l ≠ some x.subj := by
  induction l with
  | nil => intro e p; simp [ChainD, lastTo, lastSubj]
  | cons s l ih =>
    intro e p
    simp only [List.cons_append, ChainD, lastTo, lastSubj, ih]
    constructor
    · rintro ⟨h1, h2, h3, h4, h5⟩; exact ⟨⟨h1, h2, h3, h4⟩, h5⟩
    · rintro ⟨⟨h1, h2, h3, h4⟩, h5⟩; exact ⟨h1, h2, h3, h4, h5⟩
theorem endOf_last (l : List Slot) : endOf l = lastTo 0 l := by
  rcases snoc_of l with rfl | ⟨m, x, rfl⟩
  · rfl
  · rw [lastTo_snoc]; unfold endOf; rw [List.getLast?_concat]

/-- The row says, tick by tick, what the list says. -/
structure Good (l : List Slot) (ts : List ByteArray) : Prop where
  chain : ChainD 0 none l
  last : lastTo 0 l = ts.length
  tick : ∀ (o : Nat) (s : ByteArray), ts[o]? = some s → ∃ x ∈ l, x.from_ ≤ (o : Int) ∧ (o : Int) < x.to ∧ x.subj = s
theorem good_nil : Good [] [] := ⟨trivial, rfl, fun o s h => by simp at h⟩
theorem Good.run {l : List Slot} {ts : List ByteArray} (h : Good l ts) (s : ByteArray) : Good (run l s 1) (ts ++ [s]) := by
  obtain ⟨h1, h2, h3⟩ := h
  rcases snoc_of l with rfl | ⟨m, x, rfl⟩
  · have h0 : ts = [] := by simpa [lastTo, eq_comm] using h2
    subst h0
    refine ⟨⟨rfl, by simp, by simp, trivial⟩, rfl, fun o y hy => ?_⟩
    have ho : o = 0 := by
      rcases Nat.eq_zero_or_pos o with h | h
      · exact h
      · rw [List.getElem?_eq_none (by simp; omega)] at hy; simp at hy
    subst ho
    simp at hy
    subst hy
    exact ⟨⟨s, 0, 1⟩, by simp [run_nil], by simp, by simp, rfl⟩
  · rw [lastTo_snoc] at h2
    obtain ⟨c1, c2, c3, c4⟩ := chainD_snoc.1 h1
    rw [run_snoc]
    have split_ : ∀ o y, (ts ++ [s])[o]? = some y → (ts[o]? = some y) ∨ (o = ts.length ∧ y = s) := fun o y hy => by
      rcases Nat.lt_or_ge o ts.length with h | h
      · rw [List.getElem?_append_left h] at hy; exact .inl hy
      · rw [List.getElem?_append_right h] at hy
        rcases Nat.eq_zero_or_pos (o - ts.length) with h' | h'
        · rw [h'] at hy; simp at hy; exact .inr ⟨by omega, hy.symm⟩
        · rw [List.getElem?_eq_none (by simp; omega)] at hy; simp at hy
    split
    · rename_i hx
      refine ⟨chainD_snoc.2 ⟨c1, c2, by simp; omega, c4⟩, by rw [lastTo_snoc]; simp; omega, fun o y hy => ?_⟩
      rcases split_ o y hy with h | ⟨rfl, rfl⟩
      · obtain ⟨z, hz, z1, z2, z3⟩ := h3 o y h
        rcases List.mem_append.1 hz with hz | hz
        · exact ⟨z, List.mem_append_left _ hz, z1, z2, z3⟩
        · simp at hz; subst hz
          exact ⟨⟨z.subj, z.from_, z.to + 1⟩, by simp, z1, by simp; omega, z3⟩
      · exact ⟨⟨x.subj, x.from_, x.to + 1⟩, by simp, by simp; omega, by simp; omega, hx⟩
    · rename_i hx
      refine ⟨chainD_snoc.2 ⟨h1, by rw [lastTo_snoc], by simp; omega, by rw [lastSubj_snoc]; simpa using hx⟩, by rw [lastTo_snoc]; simp; omega, fun o y hy => ?_⟩
      rcases split_ o y hy with h | ⟨rfl, rfl⟩
      · obtain ⟨z, hz, z1, z2, z3⟩ := h3 o y h
        exact ⟨z, List.mem_append_left _ hz, z1, z2, z3⟩
      · exact ⟨⟨y, x.to, x.to + 1⟩, by simp, by simp; omega, by simp; omega, rfl⟩
theorem Good.rows {ts : List ByteArray} : ∀ {l : List Slot} {us : List ByteArray}, Good l us → Good (rowFrom l ts) (us ++ ts) := by
  induction ts with
  | nil => intro l us h; simpa [rowFrom] using h
  | cons s ts ih =>
    intro l us h
    have := ih (h.run s)
    rwa [List.append_assoc] at this
theorem Good.len {l : List Slot} {ts : List ByteArray} (h : Good l ts) : lenFrom 0 none l = ts.length := h.chain.len.trans h.last
theorem chain_find {l : List Slot} : ∀ {e : Int} {o : Int} {x : Slot}, Chain e l → x ∈ l → x.from_ ≤ o → o < x.to → l.find? (fun s => decide (o < s.to)) = some x := by
  intro e o x hc hx h1 h2
  obtain ⟨k, hk⟩ := List.getElem?_of_mem hx
  refine find_at (k := k) (fun j y hj hy => ?_) hk (by simpa using h2)
  have := hc.mono hj hy hk
  simpa using (by omega : y.to ≤ o)
theorem Good.sched_eq {l : List Slot} {ts : List ByteArray} (h : Good l ts) {o : Nat} {s : ByteArray} (hs : ts[o]? = some s) : ∃ x ∈ l, x.from_ ≤ o ∧ (o : Int) < x.to ∧ x.subj = s ∧ x.to ≤ ts.length ∧ sched l o = (s, x.to - o) := by
  obtain ⟨x, hx, h1, h2, h3⟩ := h.tick o s hs
  have hlt : o < ts.length := (List.getElem?_eq_some_iff.1 hs).1
  obtain ⟨k, hk⟩ := List.getElem?_of_mem hx
  have hto := (h.chain.chain.at_ hk).2.2
  rw [h.last] at hto
  refine ⟨x, hx, h1, h2, h3, hto, ?_⟩
  unfold sched
  rw [h.len, if_neg (by omega)]
  have e : (max (o : Int) 0) % (ts.length : Int) = o := by rw [Int.max_eq_left (by omega)]; exact Int.emod_eq_of_lt (by omega) (by omega)
  rw [e]
  unfold schedOf
  rw [chain_find h.chain.chain hx h1 h2, ← h3]
theorem Good.sched_at {l : List Slot} {ts : List ByteArray} (h : Good l ts) {o : Nat} {s : ByteArray} (hs : ts[o]? = some s) :
    (sched l o).1 = s ∧ 1 ≤ (sched l o).2 ∧ (sched l o).2 ≤ ts.length ∧ (1 < (sched l o).2 → sched l ((o + 1 : Nat) : Int) = ((sched l o).1, (sched l o).2 - 1)) := by
  obtain ⟨x, hx, h1, h2, h3, h4, h5⟩ := h.sched_eq hs
  rw [h5]
  refine ⟨rfl, by simp; omega, by simp; omega, fun hm => ?_⟩
  simp only at hm
  have hlt : o + 1 < ts.length := by omega
  obtain ⟨s', hs'⟩ : ∃ s', ts[o + 1]? = some s' := ⟨ts[o + 1], List.getElem?_eq_getElem hlt⟩
  obtain ⟨y, hy, g1, g2, g3, g4, g5⟩ := h.sched_eq hs'
  have e1 := chain_find h.chain.chain hx (o := ((o + 1 : Nat) : Int)) (by omega) (by omega)
  have e2 := chain_find h.chain.chain hy (o := ((o + 1 : Nat) : Int)) g1 g2
  rw [e1] at e2
  obtain rfl := Option.some.inj e2
  rw [g5, ← g3, h3]
  congr 1
  omega
theorem fill_ticks {M : Nat} {l : List Slot} {ts : List ByteArray} (h : Good l ts) : fill M l = rowFrom l (List.replicate (M - ts.length) ByteArray.empty) := by
  unfold fill
  rw [endOf_last, h.last]
  split
  · rename_i h0
    rw [show (M : Int) - (ts.length : Int) = ((M - ts.length : Nat) : Int) by omega, run_tick _ _ (by omega)]
  · rw [show M - ts.length = 0 by omega]; rfl
/-- The ticks of a lane without needs. -/
def runTicks (M : Nat) (xs : List Run) : List ByteArray := expand xs ++ List.replicate (M - sumBud xs) ByteArray.empty
theorem runs_row {M : Nat} {xs : List Run} (h : ∀ r ∈ xs, 1 ≤ r.bud) : fill M (rowRuns [] xs) = rowFrom [] (runTicks M xs) := by
  rw [rowRuns_ticks h]
  have hg := Good.rows (ts := expand xs) good_nil
  rw [List.nil_append] at hg
  rw [fill_ticks hg, runTicks, rowFrom_append, expand_length]
theorem good_rowFrom (ts : List ByteArray) : Good (rowFrom [] ts) ts := by simpa using Good.rows (ts := ts) good_nil
theorem runTicks_length {M : Nat} {xs : List Run} (h : sumBud xs ≤ M) : (runTicks M xs).length = M := by
  simp only [runTicks, List.length_append, List.length_replicate, expand_length]; omega
theorem flatErr_runs {M : Nat} {xs : List Run} (h : ∀ r ∈ xs, 1 ≤ r.bud ∧ r.bud ≤ M) : ∀ (i s : Nat), s ≤ M → (s + sumBud xs ≤ M → flatErr M false i s xs = none) ∧ (M < s + sumBud xs → ∃ j, flatErr M false i s xs = some (j, 93)) := by
  induction xs with
  | nil => intro i s hs; exact ⟨fun _ => rfl, fun h => by simp [sumBud] at h; omega⟩
  | cons r xs ih =>
    intro i s hs
    obtain ⟨h1, h2⟩ := h r (by simp)
    have hr : right M r false = 0 := by unfold right; rw [if_neg (by omega), if_neg (by simp), if_neg (by simp)]
    have hb : sumBud (r :: xs) = r.bud + sumBud xs := rfl
    have hw : wants M r false = r.bud := rfl
    simp only [flatErr, hb, hw]
    rw [if_pos hr]
    by_cases ho : M < s + r.bud
    · rw [if_pos ho]
      exact ⟨fun h => by omega, fun _ => ⟨_, rfl⟩⟩
    · rw [if_neg ho]
      have := ih (fun x hx => h x (List.mem_cons_of_mem _ hx)) (i + 1) (s + r.bud) (by omega)
      rwa [← Nat.add_assoc]
end Ln
end Go.Proofs.Ytgilejknjdbneaa
