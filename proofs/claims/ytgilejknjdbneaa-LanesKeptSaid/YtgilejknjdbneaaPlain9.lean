/- Earliest due first with two heaps: the rounds of the loops. -/
import Derived.Test.YtgilejknjdbneaaPlain8
namespace Go.Proofs.Ytgilejknjdbneaa
open Go Go.RowKit
namespace Edf
open Ln
variable {n : Nat} {p b : Nat → Nat}

theorem due_gt {t i : Nat} (hp : 1 ≤ p i) : t < due p t i := by
  unfold due
  have h1 := Nat.div_add_mod t (p i)
  have h2 := Nat.mod_lt t hp
  rw [Nat.add_mul, Nat.one_mul, Nat.mul_comm]
  omega
theorem due_same {t t' i : Nat} (hp : 1 ≤ p i) (h1 : t ≤ t') (h2 : t' < due p t i) : due p t' i = due p t i := by
  have h3 : t / p i ≤ t' / p i := Nat.div_le_div_right h1
  have h4 : t' / p i < t / p i + 1 := (Nat.div_lt_iff_lt_mul hp).2 h2
  have h5 : t' / p i = t / p i := by omega
  unfold due; rw [h5]
theorem due_mult {t t' i : Nat} (hp : 1 ≤ p i) (h1 : t < t') (h2 : t' ≤ due p t i) (h3 : t' % p i = 0) : t' = due p t i := by
  rcases Nat.lt_or_ge t' (due p t i) with h | h
  · have h4 : t / p i ≤ t' / p i := Nat.div_le_div_right (by omega)
    have h5 : t' / p i < t / p i + 1 := (Nat.div_lt_iff_lt_mul hp).2 h
    have h6 : t' / p i = t / p i := by omega
    have h7 := Nat.div_add_mod t' (p i)
    have h8 := Nat.div_add_mod t (p i)
    rw [h6] at h7
    omega
  · omega
theorem due_at {t i : Nat} (h : t % p i = 0) : due p t i = t + p i := by
  unfold due
  have h1 := Nat.div_add_mod t (p i)
  rw [Nat.add_mul, Nat.one_mul, Nat.mul_comm]
  omega
/-- When need i is released next, at t or later. -/
def nx (p : Nat → Nat) (t i : Nat) : Nat := if t % p i = 0 then t else due p t i

structure HeadInv (n : Nat) (p b : Nat → Nat) (t : Nat) (wl nl : List Job) : Prop where
  wait : wl.Perm (jobsOf (st n p b t) (due p t) n)
  next : nl.Perm (nextOf (nx p t) n)
structure RelInv (n : Nat) (p b : Nat → Nat) (t : Nat) (L N : Nat → Nat) (wl nl : List Job) : Prop where
  wait : wl.Perm (jobsOf L (due p t) n)
  next : nl.Perm (nextOf N n)
  off : ∀ i, i < n → t % p i ≠ 0 → L i = st n p b t i ∧ N i = due p t i
  on : ∀ i, i < n → t % p i = 0 → (L i = 0 ∧ N i = t) ∨ (L i = b i ∧ N i = due p t i)
structure AfterInv (n : Nat) (p b : Nat → Nat) (t : Nat) (wl nl : List Job) : Prop where
  wait : wl.Perm (jobsOf (rel p b t (st n p b t)) (due p t) n)
  next : nl.Perm (nextOf (due p t) n)
/-- How many releases are to come at t. -/
def todo (n t : Nat) (N : Nat → Nat) : Nat := sumTo n fun i => if N i = t then 1 else 0

theorem headInv_zero {wl nl : List Job} (hw : wl = []) (hn : nl.Perm (nextOf (fun _ => 0) n)) : HeadInv n p b 0 wl nl := by
  refine ⟨?_, ?_⟩
  · have e : ∀ m, jobsOf (st n p b 0) (due p 0) m = [] := fun m => by
      induction m with
      | zero => rfl
      | succ m ih => simp only [jobsOf, ih]; rfl
    rw [hw, e]
  · rw [nextOf_congr (N' := fun _ => 0) (fun i _ => by unfold nx; rw [if_pos (Nat.zero_mod _)])]
    exact hn
theorem HeadInv.rel (hf : Fits n p b) (hp : ∀ i, i < n → 1 ≤ p i) {t : Nat} {wl nl : List Job} (h : HeadInv n p b t wl nl) : RelInv n p b t (st n p b t) (nx p t) wl nl :=
  ⟨h.wait, h.next, fun i _ ht => ⟨rfl, by unfold nx; rw [if_neg ht]⟩, fun i hi ht => .inl ⟨on_time hf hp hi ht, by unfold nx; rw [if_pos ht]⟩⟩

/-- One release. -/
theorem RelInv.step (hp : ∀ i, i < n → 1 ≤ p i ∧ 1 ≤ b i) {t : Nat} {L N : Nat → Nat} {wl nl : List Job} {r : Job} (h : RelInv n p b t L N wl nl) (hh : IsHeap nl nl.length) (hr : nl[0]? = some r) (hd : r.due = t) :
    ∃ k, k < n ∧ r.need = k ∧ ∀ wl' nl', wl'.Perm (wl ++ [⟨k, ((t + p k : Nat) : Int), b k⟩]) → nl'.Perm (nl.set 0 ⟨k, ((t + p k : Nat) : Int), 0⟩) →
      RelInv n p b t (set1 L k (b k)) (set1 N k (t + p k)) wl' nl' ∧ todo n t (set1 N k (t + p k)) < todo n t N := by
  obtain ⟨k, hk, hrk, hmin⟩ := next_root h.next hh hr
  have hNk : N k = t := by rw [hrk] at hd; simp only at hd; omega
  have hpk := (hp k hk).1
  have htk : t % p k = 0 := by
    rcases Nat.eq_zero_or_pos (t % p k) with h0 | h0
    · exact h0
    · have h1 := (h.off k hk (by omega)).2
      have := due_gt (p := p) (t := t) hpk
      omega
  have hLk : L k = 0 := by
    rcases h.on k hk htk with h0 | h0
    · exact h0.1
    · have := due_gt (p := p) (t := t) hpk
      omega
  have hdk := due_at (p := p) (i := k) htk
  refine ⟨k, hk, by rw [hrk], fun wl' nl' hw hn => ⟨⟨?_, ?_, ?_, ?_⟩, ?_⟩⟩
  · have h1 := jobsOf_add (L := L) (D := due p t) (v := b k) hLk (hp k hk).2 hk
    rw [hdk] at h1
    exact (hw.trans (List.perm_append_singleton _ _)).trans ((h.wait.cons _).trans h1.symm)
  · obtain ⟨tl, h1, h2⟩ := set_root (r' := ⟨k, ((t + p k : Nat) : Int), 0⟩) hr
    rw [h2] at hn
    have h3 : (r :: tl).Perm (⟨k, N k, 0⟩ :: othOf N k n) := by rw [← h1]; exact h.next.trans (nextOf_split hk)
    rw [hrk] at h3
    exact hn.trans (((List.perm_cons _).1 h3).cons _ |>.trans (nextOf_set hk).symm)
  · intro i hi ht
    have hik : i ≠ k := by rintro rfl; exact ht htk
    unfold set1
    rw [if_neg hik, if_neg hik]
    exact h.off i hi ht
  · intro i hi ht
    unfold set1
    by_cases hik : i = k
    · subst hik; rw [if_pos rfl, if_pos rfl]; exact .inr ⟨rfl, hdk.symm⟩
    · rw [if_neg hik, if_neg hik]; exact h.on i hi ht
  · refine sumTo_lt (fun i _ => ?_) hk ?_
    · unfold set1
      by_cases hik : i = k
      · subst hik; rw [if_pos rfl, if_neg (by omega)]; omega
      · rw [if_neg hik]; exact Nat.le_refl _
    · simp only [set1, if_pos hNk]; rw [if_pos trivial, if_neg (by omega)]; omega
/-- No release is left. -/
theorem RelInv.after (hp : ∀ i, i < n → 1 ≤ p i) {t : Nat} {L N : Nat → Nat} {wl nl : List Job} (h : RelInv n p b t L N wl nl) (hh : IsHeap nl nl.length) (hd : ∀ r : Job, nl[0]? = some r → r.due ≠ (t : Int)) : AfterInv n p b t wl nl := by
  have hN : ∀ i, i < n → N i ≠ t := by
    intro i hi
    have hl : nl.length = n := by rw [h.next.length_eq, nextOf_length]
    obtain ⟨r, hr⟩ : ∃ r, nl[0]? = some r := ⟨_, List.getElem?_eq_getElem (by omega)⟩
    obtain ⟨k, hk, hrk, hmin⟩ := next_root h.next hh hr
    have h1 := hd r hr
    rw [hrk] at h1
    simp only at h1
    have h2 := hmin i hi
    have h3 : t ≤ N k := by
      have h4 := due_gt (p := p) (t := t) (hp k hk)
      rcases Nat.eq_zero_or_pos (t % p k) with h0 | h0
      · rcases h.on k hk h0 with h5 | h5 <;> omega
      · have := (h.off k hk (by omega)).2; omega
    omega
  refine ⟨?_, ?_⟩
  · have e := jobsOf_congr (L := L) (L' := rel p b t (st n p b t)) (D := due p t) (D' := due p t) (n := n) (fun i hi => ?_) (fun i _ _ => rfl)
    · rw [← e]; exact h.wait
    · unfold rel
      split
      · rename_i h0
        rcases h.on i hi h0 with h5 | h5
        · exact absurd h5.2 (hN i hi)
        · exact h5.1
      · rename_i h0; exact (h.off i hi h0).1
  · have e := nextOf_congr (N := N) (N' := due p t) (n := n) (fun i hi => ?_)
    · rw [← e]; exact h.next
    · rcases Nat.eq_zero_or_pos (t % p i) with h0 | h0
      · rcases h.on i hi h0 with h5 | h5
        · exact absurd h5.2 (hN i hi)
        · exact h5.2
      · exact (h.off i hi (by omega)).2

/-- A batch: while nothing is released, the same need runs. -/
theorem batch (hp : ∀ i, i < n → 1 ≤ p i) {t k c : Nat} (hk : pick p t (rel p b t (st n p b t)) n = some k) (hc : c ≤ rel p b t (st n p b t) k) (hu : ∀ i, i < n → t + c ≤ due p t i) :
    ∀ s, s ≤ c → (1 ≤ s → ∀ i, i < n → st n p b (t + s) i = if i = k then rel p b t (st n p b t) k - s else rel p b t (st n p b t) i) ∧ (s < c → who n p b (t + s) = some k) := by
  obtain ⟨k1, k2, k3⟩ := pick_some hk
  intro s
  induction s with
  | zero => intro _; exact ⟨fun h => by omega, fun _ => hk⟩
  | succ s ih =>
    intro hs
    obtain ⟨i1, i2⟩ := ih (by omega)
    have hw := i2 (by omega)
    have hst : ∀ i, i < n → st n p b (t + (s + 1)) i = if i = k then rel p b t (st n p b t) k - (s + 1) else rel p b t (st n p b t) i := by
      intro i hi
      have h1 : st n p b (t + (s + 1)) i = dec (rel p b (t + s) (st n p b (t + s))) (who n p b (t + s)) i := rfl
      have h2 : rel p b (t + s) (st n p b (t + s)) i = if i = k then rel p b t (st n p b t) k - s else rel p b t (st n p b t) i := by
        rcases Nat.eq_zero_or_pos s with h0 | h0
        · subst h0
          rw [Nat.add_zero, Nat.sub_zero]
          split
          · rename_i h; rw [h]
          · rfl
        · rw [← i1 h0 i hi]
          have h4 : (t + s) % p i ≠ 0 := fun h => by
            have := due_mult (p := p) (hp i hi) (t := t) (t' := t + s) (by omega) (by have := hu i hi; omega) h
            have := hu i hi
            omega
          unfold rel
          rw [if_neg h4]
      rw [h1, hw]
      unfold dec
      rw [h2]
      by_cases hik : i = k
      · subst hik; rw [if_pos rfl, if_pos rfl, if_pos rfl]; omega
      · rw [if_neg (fun h => hik (Option.some.inj h).symm), if_neg hik, if_neg hik]
    refine ⟨fun _ => hst, fun hlt => ?_⟩
    have hrel : ∀ i, i < n → rel p b (t + (s + 1)) (st n p b (t + (s + 1))) i = if i = k then rel p b t (st n p b t) k - (s + 1) else rel p b t (st n p b t) i := fun i hi => by
      rw [← hst i hi]
      unfold rel
      rw [if_neg (fun h => by
        have := due_mult (p := p) (hp i hi) (t := t) (t' := t + (s + 1)) (by omega) (by have := hu i hi; omega) h
        have := hu i hi
        omega)]
    have hdue : ∀ i, i < n → due p (t + (s + 1)) i = due p t i := fun i hi => due_same (hp i hi) (by omega) (by have := hu i hi; omega)
    refine pick_eq k1 (by rw [hrel k k1, if_pos rfl]; omega) fun i hi h0 => ?_
    rw [hdue k k1, hdue i hi]
    by_cases hik : i = k
    · subst hik; exact .inr ⟨rfl, Nat.le_refl _⟩
    · rw [hrel i hi, if_neg hik] at h0
      exact k3 i hi h0
theorem idle (hp : ∀ i, i < n → 1 ≤ p i) {t c : Nat} (h0 : ∀ i, i < n → rel p b t (st n p b t) i = 0) (hu : ∀ i, i < n → t + c ≤ due p t i) :
    ∀ s, s ≤ c → (1 ≤ s → ∀ i, i < n → st n p b (t + s) i = 0) ∧ (s < c → who n p b (t + s) = none) := by
  intro s
  induction s with
  | zero => intro _; exact ⟨fun h => by omega, fun _ => pick_eq_none h0⟩
  | succ s ih =>
    intro hs
    obtain ⟨i1, i2⟩ := ih (by omega)
    have hw := i2 (by omega)
    have hst : ∀ i, i < n → st n p b (t + (s + 1)) i = 0 := by
      intro i hi
      have h1 : st n p b (t + (s + 1)) i = dec (rel p b (t + s) (st n p b (t + s))) (who n p b (t + s)) i := rfl
      rw [h1, hw]
      unfold dec
      rw [if_neg (by simp)]
      rcases Nat.eq_zero_or_pos s with h2 | h2
      · subst h2; exact h0 i hi
      · unfold rel
        rw [if_neg (fun h => by
          have := due_mult (p := p) (hp i hi) (t := t) (t' := t + s) (by omega) (by have := hu i hi; omega) h
          have := hu i hi
          omega)]
        exact i1 h2 i hi
    refine ⟨fun _ => hst, fun hlt => pick_eq_none fun i hi => ?_⟩
    unfold rel
    rw [if_neg (fun h => by
      have := due_mult (p := p) (hp i hi) (t := t) (t' := t + (s + 1)) (by omega) (by have := hu i hi; omega) h
      have := hu i hi
      omega)]
    exact hst i hi
/-- At the next head. -/
theorem head_next (hf : Fits n p b) (hp : ∀ i, i < n → 1 ≤ p i) {t t' : Nat} (ht : t < t') (hu : ∀ i, i < n → t' ≤ due p t i) {wl nl : List Job} (hw : wl.Perm (jobsOf (st n p b t') (due p t) n)) (hn : nl.Perm (nextOf (due p t) n)) : HeadInv n p b t' wl nl := by
  refine ⟨?_, ?_⟩
  · rw [jobsOf_congr (L' := st n p b t') (D' := due p t') (fun i _ => rfl) (fun i hi h0 => ?_)] at hw
    · exact hw
    · rcases Nat.lt_or_ge t' (due p t i) with h | h
      · exact (due_same (hp i hi) (by omega) h).symm
      · have h1 : t' = due p t i := by have := hu i hi; omega
        have h2 : t' % p i = 0 := by rw [h1]; unfold due; exact Nat.mul_mod_left _ _
        rw [on_time hf hp hi h2] at h0
        omega
  · rw [nextOf_congr (N' := nx p t') (fun i hi => ?_)] at hn
    · exact hn
    · unfold nx
      split
      · rename_i h0; exact (due_mult (hp i hi) ht (hu i hi) h0).symm
      · rename_i h0
        have h1 : t' ≠ due p t i := fun h => h0 (by rw [h]; unfold due; exact Nat.mul_mod_left _ _)
        exact (due_same (hp i hi) (by omega) (by have := hu i hi; omega)).symm

def nameOf (sub : Nat → ByteArray) : Option Nat → ByteArray
  | none => ByteArray.empty
  | some k => sub k
/-- Who runs, tick by tick. -/
def ticks (n : Nat) (p b : Nat → Nat) (sub : Nat → ByteArray) (t : Nat) : List ByteArray := (List.range t).map fun s => nameOf sub (who n p b s)
theorem ticks_more {sub : Nat → ByteArray} {t c : Nat} {o : Option Nat} (h : ∀ s, s < c → who n p b (t + s) = o) : ticks n p b sub (t + c) = ticks n p b sub t ++ List.replicate c (nameOf sub o) := by
  unfold ticks
  rw [List.range_add, List.map_append]
  congr 1
  rw [List.map_map]
  apply List.ext_getElem
  · simp
  · intro i h1 h2
    simp at h1
    simp [h i h1]
theorem rows_more {sub : Nat → ByteArray} {t c : Nat} {o : Option Nat} (h : ∀ s, s < c → who n p b (t + s) = o) (hc : 0 < c) : rowFrom [] (ticks n p b sub (t + c)) = run (rowFrom [] (ticks n p b sub t)) (nameOf sub o) (c : Int) := by
  rw [ticks_more h, rowFrom_append, run_tick _ _ hc]
theorem ticks_length {sub : Nat → ByteArray} (t : Nat) : (ticks n p b sub t).length = t := by simp [ticks]
end Edf
end Go.Proofs.Ytgilejknjdbneaa
