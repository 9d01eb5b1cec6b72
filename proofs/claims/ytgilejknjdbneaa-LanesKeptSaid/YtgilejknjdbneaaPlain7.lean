/- Earliest due first, tick by tick: no job is late where the demand is not more than the frame. -/
import GoSem.Core.World
namespace Go.Proofs.Ytgilejknjdbneaa
namespace Edf
def sumTo : Nat → (Nat → Nat) → Nat
  | 0, _ => 0
  | n + 1, f => sumTo n f + f n
theorem sumTo_le {n : Nat} {f g : Nat → Nat} (h : ∀ i, i < n → f i ≤ g i) : sumTo n f ≤ sumTo n g := by
  induction n with
  | zero => exact Nat.le_refl _
  | succ n ih => simp only [sumTo]; exact Nat.add_le_add (ih fun i hi => h i (by omega)) (h n (by omega))
theorem sumTo_lt {n : Nat} {f g : Nat → Nat} (h : ∀ i, i < n → f i ≤ g i) {k : Nat} (hk : k < n) (hlt : f k < g k) : sumTo n f < sumTo n g := by
  induction n with
  | zero => omega
  | succ n ih =>
    simp only [sumTo]
    rcases Nat.lt_or_ge k n with h1 | h1
    · have := ih (fun i hi => h i (by omega)) h1
      have := h n (by omega)
      omega
    · obtain rfl : k = n := by omega
      have := sumTo_le (n := k) (fun i hi => h i (by omega))
      omega
theorem le_sumTo {n : Nat} {f : Nat → Nat} {k : Nat} (hk : k < n) : f k ≤ sumTo n f := by
  induction n with
  | zero => omega
  | succ n ih =>
    simp only [sumTo]
    rcases Nat.lt_or_ge k n with h1 | h1
    · have := ih h1; omega
    · obtain rfl : k = n := by omega
      omega
theorem sumTo_mul {n : Nat} {f : Nat → Nat} {c : Nat} : sumTo n (fun i => f i * c) = sumTo n f * c := by
  induction n with
  | zero => simp [sumTo]
  | succ n ih => simp only [sumTo, ih, Nat.add_mul]

section
variable (n : Nat) (p b : Nat → Nat)
/-- When the job of need i that is there at tick t is due. -/
def due (t i : Nat) : Nat := (t / p i + 1) * p i
/-- What is left of each need's job behind the releases of tick t. -/
def rel (t : Nat) (L : Nat → Nat) (i : Nat) : Nat := if t % p i = 0 then b i else L i
def pick (t : Nat) (L : Nat → Nat) : Nat → Option Nat
  | 0 => none
  | m + 1 => match pick t L m with
    | none => if 0 < L m then some m else none
    | some k => if 0 < L m ∧ due p t m < due p t k then some m else some k
def dec (L : Nat → Nat) (o : Option Nat) (i : Nat) : Nat := if o = some i then L i - 1 else L i
/-- What is left of each need's job ahead of tick t. -/
def st : Nat → Nat → Nat
  | 0 => fun _ => 0
  | t + 1 => dec (rel p b t (st t)) (pick p t (rel p b t (st t)) n)
/-- Who runs at tick t. -/
def who (t : Nat) : Option Nat := pick p t (rel p b t (st n p b t)) n
end

variable {n : Nat} {p b : Nat → Nat}
theorem pick_none {t : Nat} {L : Nat → Nat} : ∀ {m : Nat}, pick p t L m = none → ∀ i, i < m → L i = 0 := by
  intro m
  induction m with
  | zero => intro _ i hi; omega
  | succ m ih =>
    intro h i hi
    simp only [pick] at h
    split at h
    · rename_i h0
      split at h
      · simp at h
      · rcases Nat.lt_or_ge i m with h1 | h1
        · exact ih h0 i h1
        · obtain rfl : i = m := by omega
          omega
    · split at h <;> simp at h
theorem pick_some {t : Nat} {L : Nat → Nat} : ∀ {m k : Nat}, pick p t L m = some k → k < m ∧ 0 < L k ∧ ∀ i, i < m → 0 < L i → due p t k < due p t i ∨ due p t k = due p t i ∧ k ≤ i := by
  intro m
  induction m with
  | zero => intro k h; simp [pick] at h
  | succ m ih =>
    intro k h
    simp only [pick] at h
    split at h
    · rename_i h0
      split at h
      · injection h with h
        subst h
        refine ⟨by omega, by assumption, fun i hi hl => ?_⟩
        rcases Nat.lt_or_ge i m with h1 | h1
        · have := pick_none h0 i h1; omega
        · obtain rfl : i = m := by omega
          exact .inr ⟨rfl, Nat.le_refl _⟩
      · simp at h
    · rename_i q h0
      obtain ⟨h1, h2, h3⟩ := ih h0
      split at h
      · rename_i hc
        injection h with h
        subst h
        refine ⟨by omega, hc.1, fun i hi hl => ?_⟩
        rcases Nat.lt_or_ge i m with h4 | h4
        · have := h3 i h4 hl; omega
        · obtain rfl : i = m := by omega
          exact .inr ⟨rfl, Nat.le_refl _⟩
      · rename_i hc
        injection h with h
        subst h
        refine ⟨by omega, h2, fun i hi hl => ?_⟩
        rcases Nat.lt_or_ge i m with h4 | h4
        · exact h3 i h4 hl
        · obtain rfl : i = m := by omega
          have : ¬ due p t i < due p t q := fun h => hc ⟨hl, h⟩
          omega
/-- The pick is known by what it is. -/
theorem pick_eq {t : Nat} {L : Nat → Nat} {m k : Nat} (hk : k < m) (h0 : 0 < L k) (h : ∀ i, i < m → 0 < L i → due p t k < due p t i ∨ due p t k = due p t i ∧ k ≤ i) : pick p t L m = some k := by
  rcases hp : pick p t L m with _ | q
  · have := pick_none hp k hk; omega
  · obtain ⟨h1, h2, h3⟩ := pick_some hp
    have a1 := h q h1 h2
    have a2 := h3 k hk h0
    have : k = q := by omega
    rw [this]
theorem pick_eq_none {t : Nat} {L : Nat → Nat} {m : Nat} (h : ∀ i, i < m → L i = 0) : pick p t L m = none := by
  rcases hp : pick p t L m with _ | q
  · rfl
  · obtain ⟨h1, h2, _⟩ := pick_some hp
    have := h q h1
    omega

/-- The work of need i that is due till d, from tick t on, with l left now. -/
def work (p b : Nat → Nat) (t d l i : Nat) : Nat := (if t / p i + 1 ≤ d / p i then l else 0) + b i * (d / p i - (t / p i + 1))

/-- The sum of the parts of the processor is at most one. -/
def Fits (n : Nat) (p b : Nat → Nat) : Prop := ∀ (c : Nat → Nat) (D : Nat), (∀ i, i < n → c i * p i ≤ D) → sumTo n (fun i => b i * c i) ≤ D

theorem fits_of {M : Nat} (hM : 0 < M) (hp : ∀ i, i < n → 1 ≤ p i ∧ M % p i = 0) (hs : sumTo n (fun i => b i * (M / p i)) ≤ M) : Fits n p b := by
  intro c D hc
  have h1 : sumTo n (fun i => b i * c i) * M ≤ D * M := by
    rw [← sumTo_mul]
    have h2 : sumTo n (fun i => b i * c i * M) ≤ sumTo n (fun i => b i * (M / p i) * D) := sumTo_le fun i hi => by
      obtain ⟨h3, h4⟩ := hp i hi
      have h5 : M = M / p i * p i := by have := Nat.div_add_mod M (p i); rw [h4, Nat.add_zero, Nat.mul_comm] at this; exact this.symm
      calc b i * c i * M = b i * c i * (M / p i * p i) := by rw [← h5]
        _ = b i * (M / p i) * (c i * p i) := by simp only [Nat.mul_assoc, Nat.mul_left_comm, Nat.mul_comm]
        _ ≤ b i * (M / p i) * D := Nat.mul_le_mul_left _ (hc i hi)
    refine Nat.le_trans h2 ?_
    rw [sumTo_mul, Nat.mul_comm]
    exact Nat.mul_le_mul_left _ hs
  exact Nat.le_of_mul_le_mul_right h1 hM

theorem work_next {t d l i : Nat} (hp : 1 ≤ p i) (hbl : True) : work p b (t + 1) d (if (t + 1) % p i = 0 then b i else l) i ≤ work p b t d l i := by
  unfold work
  by_cases h : (t + 1) % p i = 0
  · rw [if_pos h]
    have e : (t + 1) / p i = t / p i + 1 := by
      have h1 := Nat.succ_div (a := t) (b := p i)
      rw [if_pos (Nat.dvd_of_mod_eq_zero h)] at h1
      exact h1
    rw [e]
    split
    · have : d / p i - (t / p i + 1) = (d / p i - (t / p i + 1 + 1)) + 1 := by omega
      rw [this, Nat.mul_add]
      split <;> omega
    · have : d / p i - (t / p i + 1 + 1) = 0 := by omega
      rw [this]; simp
  · rw [if_neg h]
    have e : (t + 1) / p i = t / p i := by
      have h1 := Nat.succ_div (a := t) (b := p i)
      rw [if_neg (fun hd => h (Nat.mod_eq_zero_of_dvd hd))] at h1
      exact h1
    rw [e]; exact Nat.le_refl _

/-- Behind tick t what is left and due till d fits. -/
theorem after_tick (hf : Fits n p b) (hp : ∀ i, i < n → 1 ≤ p i) {t d : Nat} (htd : t < d) {L : Nat → Nat} (h : sumTo n (fun i => work p b t d (L i) i) ≤ d - t) :
    sumTo n (fun i => work p b t d (dec L (pick p t L n) i) i) ≤ d - (t + 1) := by
  have hdue : ∀ i, i < n → (due p t i ≤ d ↔ t / p i + 1 ≤ d / p i) := fun i hi => by
    unfold due
    exact (Nat.le_div_iff_mul_le (hp i hi)).symm
  have hle : ∀ i, i < n → work p b t d (dec L (pick p t L n) i) i ≤ work p b t d (L i) i := fun i _ => by
    unfold work dec
    split
    · split <;> omega
    · exact Nat.le_refl _
  by_cases hk : ∃ k, pick p t L n = some k ∧ due p t k ≤ d
  · obtain ⟨k, hk, hkd⟩ := hk
    obtain ⟨h1, h2, _⟩ := pick_some hk
    have := sumTo_lt hle h1 (by
      unfold work dec
      rw [if_pos hk, if_pos ((hdue k h1).1 hkd), if_pos ((hdue k h1).1 hkd)]
      omega)
    omega
  · have hz : ∀ i, i < n → t / p i + 1 ≤ d / p i → L i = 0 := fun i hi hd => by
      rcases Nat.eq_zero_or_pos (L i) with h0 | h0
      · exact h0
      · rcases hq : pick p t L n with _ | k
        · exact pick_none hq i hi
        · obtain ⟨h1, h2, h3⟩ := pick_some hq
          have h4 := h3 i hi h0
          have h5 := (hdue i hi).2 hd
          exact absurd ⟨k, hq, by omega⟩ hk
    have h6 : sumTo n (fun i => work p b t d (dec L (pick p t L n) i) i) ≤ sumTo n (fun i => b i * (d / p i - (t / p i + 1))) := sumTo_le fun i hi => by
      refine Nat.le_trans (hle i hi) ?_
      unfold work
      split
      · rename_i hd
        rw [hz i hi hd]; omega
      · omega
    refine Nat.le_trans h6 (hf _ _ fun i hi => ?_)
    have h7 := Nat.div_add_mod t (p i)
    have h8 := Nat.mod_lt t (hp i hi)
    have h9 := Nat.div_mul_le_self d (p i)
    rw [Nat.sub_mul, Nat.add_mul, Nat.one_mul]
    rw [Nat.mul_comm] at h7
    omega

theorem inv (hf : Fits n p b) (hp : ∀ i, i < n → 1 ≤ p i) : ∀ (t d : Nat), t ≤ d → sumTo n (fun i => work p b t d (rel p b t (st n p b t) i) i) ≤ d - t := by
  intro t
  induction t with
  | zero =>
    intro d _
    refine Nat.le_trans (sumTo_le fun i hi => ?_) (hf (fun i => d / p i) d fun i hi => Nat.div_mul_le_self d (p i))
    unfold work rel
    rw [if_pos (Nat.zero_mod _), Nat.zero_div]
    split
    · have : d / p i = (d / p i - (0 + 1)) + 1 := by omega
      rw [this, Nat.mul_add]
      simp only [Nat.add_sub_cancel]
      omega
    · rename_i hd
      have : d / p i = 0 := Nat.eq_zero_of_not_pos fun h => hd h
      rw [this]; simp
  | succ t ih =>
    intro d hd
    refine Nat.le_trans (sumTo_le fun i hi => ?_) (after_tick hf hp (t := t) (d := d) (by omega) (ih d (by omega)))
    exact work_next (hp i hi) trivial

/-- No job is late: at a release nothing is left of the one ahead. -/
theorem on_time (hf : Fits n p b) (hp : ∀ i, i < n → 1 ≤ p i) {t i : Nat} (hi : i < n) (hr : t % p i = 0) : st n p b t i = 0 := by
  cases t with
  | zero => rfl
  | succ t =>
    have h1 := after_tick hf hp (t := t) (d := t + 1) (by omega) (inv hf hp t (t + 1) (by omega))
    have h2 := le_sumTo (f := fun i => work p b t (t + 1) (dec (rel p b t (st n p b t)) (pick p t (rel p b t (st n p b t)) n) i) i) hi
    have e : (t + 1) / p i = t / p i + 1 := by
      have h1 := Nat.succ_div (a := t) (b := p i)
      rw [if_pos (Nat.dvd_of_mod_eq_zero hr)] at h1
      exact h1
    have h3 : work p b t (t + 1) (st n p b (t + 1) i) i = st n p b (t + 1) i + b i * (t / p i + 1 - (t / p i + 1)) := by
      unfold work; rw [e, if_pos (Nat.le_refl _)]
    have h4 : work p b t (t + 1) (st n p b (t + 1) i) i ≤ 0 := Nat.le_trans h2 (Nat.le_trans h1 (by omega))
    omega
end Edf
end Go.Proofs.Ytgilejknjdbneaa
