/- Earliest due first with two heaps, batch by batch: the same as tick by tick. -/
import Derived.Test.YtgilejknjdbneaaPlain5
import Derived.Test.YtgilejknjdbneaaPlain6
import Derived.Test.YtgilejknjdbneaaPlain7
namespace Go.Proofs.Ytgilejknjdbneaa
open Go Go.RowKit
namespace Edf
open Ln

def set1 (L : Nat → Nat) (k v : Nat) (i : Nat) : Nat := if i = k then v else L i
/-- The jobs that wait: of each need that has something left. -/
def jobsOf (L D : Nat → Nat) : Nat → List Job
  | 0 => []
  | m + 1 => jobsOf L D m ++ (if 0 < L m then [⟨m, D m, L m⟩] else [])
/-- What is released next. -/
def nextOf (N : Nat → Nat) : Nat → List Job
  | 0 => []
  | m + 1 => nextOf N m ++ [⟨m, N m, 0⟩]
def othOf (N : Nat → Nat) (k : Nat) : Nat → List Job
  | 0 => []
  | m + 1 => othOf N k m ++ (if m = k then [] else [⟨m, N m, 0⟩])

theorem jobsOf_mem {L D : Nat → Nat} {x : Job} : ∀ {n : Nat}, x ∈ jobsOf L D n ↔ ∃ i, i < n ∧ 0 < L i ∧ x = ⟨i, D i, L i⟩ := by
  intro n
  induction n with
  | zero => simp [jobsOf]
  | succ n ih =>
    simp only [jobsOf, List.mem_append, ih]
    constructor
    · rintro (⟨i, h1, h2, h3⟩ | h)
      · exact ⟨i, by omega, h2, h3⟩
      · split at h
        · simp at h; exact ⟨n, by omega, by assumption, h⟩
        · simp at h
    · rintro ⟨i, h1, h2, h3⟩
      rcases Nat.lt_or_ge i n with h | h
      · exact .inl ⟨i, h, h2, h3⟩
      · obtain rfl : i = n := by omega
        exact .inr (by rw [if_pos h2]; simp [h3])
theorem nextOf_mem {N : Nat → Nat} {x : Job} : ∀ {n : Nat}, x ∈ nextOf N n ↔ ∃ i, i < n ∧ x = ⟨i, N i, 0⟩ := by
  intro n
  induction n with
  | zero => simp [nextOf]
  | succ n ih =>
    simp only [nextOf, List.mem_append, ih, List.mem_singleton]
    constructor
    · rintro (⟨i, h1, h3⟩ | h)
      · exact ⟨i, by omega, h3⟩
      · exact ⟨n, by omega, h⟩
    · rintro ⟨i, h1, h3⟩
      rcases Nat.lt_or_ge i n with h | h
      · exact .inl ⟨i, h, h3⟩
      · obtain rfl : i = n := by omega
        exact .inr h3
theorem jobsOf_congr {L L' D D' : Nat → Nat} : ∀ {n : Nat}, (∀ i, i < n → L i = L' i) → (∀ i, i < n → 0 < L i → D i = D' i) → jobsOf L D n = jobsOf L' D' n := by
  intro n
  induction n with
  | zero => intro _ _; rfl
  | succ n ih =>
    intro h1 h2
    simp only [jobsOf]
    rw [ih (fun i hi => h1 i (by omega)) (fun i hi => h2 i (by omega)), ← h1 n (by omega)]
    split
    · rename_i h; rw [h2 n (by omega) h]
    · rfl
theorem nextOf_congr {N N' : Nat → Nat} : ∀ {n : Nat}, (∀ i, i < n → N i = N' i) → nextOf N n = nextOf N' n := by
  intro n
  induction n with
  | zero => intro _; rfl
  | succ n ih =>
    intro h1
    simp only [nextOf]
    rw [ih (fun i hi => h1 i (by omega)), h1 n (by omega)]
theorem othOf_congr {N N' : Nat → Nat} {k : Nat} : ∀ {n : Nat}, (∀ i, i < n → i ≠ k → N i = N' i) → othOf N k n = othOf N' k n := by
  intro n
  induction n with
  | zero => intro _; rfl
  | succ n ih =>
    intro h1
    simp only [othOf]
    rw [ih (fun i hi => h1 i (by omega))]
    split
    · rfl
    · rename_i h; rw [h1 n (by omega) h]
theorem nextOf_length (N : Nat → Nat) (n : Nat) : (nextOf N n).length = n := by
  induction n with
  | zero => rfl
  | succ n ih => simp [nextOf, ih]
theorem jobsOf_length (L D : Nat → Nat) (n : Nat) : (jobsOf L D n).length ≤ n := by
  induction n with
  | zero => simp [jobsOf]
  | succ n ih => simp only [jobsOf, List.length_append]; split <;> simp <;> omega
theorem jobsOf_add {L D : Nat → Nat} {k v : Nat} (h0 : L k = 0) (hv : 0 < v) : ∀ {n : Nat}, k < n → (jobsOf (set1 L k v) D n).Perm (⟨k, D k, v⟩ :: jobsOf L D n) := by
  intro n
  induction n with
  | zero => intro h; omega
  | succ n ih =>
    intro hk
    simp only [jobsOf]
    rcases Nat.lt_or_ge k n with h | h
    · have e : set1 L k v n = L n := by unfold set1; rw [if_neg (by omega)]
      rw [e]
      exact (ih h).append_right _
    · obtain rfl : k = n := by omega
      have e : jobsOf (set1 L k v) D k = jobsOf L D k := jobsOf_congr (fun i hi => by unfold set1; rw [if_neg (by omega)]) (fun i hi _ => rfl)
      have e2 : set1 L k v k = v := by unfold set1; rw [if_pos rfl]
      rw [e, e2, if_pos hv, if_neg (by omega), List.append_nil]
      exact List.perm_append_singleton _ _
theorem jobsOf_del {L D : Nat → Nat} {k n : Nat} (hk : k < n) (h0 : 0 < L k) : (jobsOf L D n).Perm (⟨k, D k, L k⟩ :: jobsOf (set1 L k 0) D n) := by
  have h := jobsOf_add (L := set1 L k 0) (D := D) (k := k) (v := L k) (by unfold set1; rw [if_pos rfl]) h0 hk
  rwa [jobsOf_congr (L := set1 (set1 L k 0) k (L k)) (L' := L) (fun i _ => by unfold set1; split <;> simp_all) (fun i _ _ => rfl)] at h
theorem nextOf_split {N : Nat → Nat} {k : Nat} : ∀ {n : Nat}, k < n → (nextOf N n).Perm (⟨k, N k, 0⟩ :: othOf N k n) := by
  intro n
  induction n with
  | zero => intro h; omega
  | succ n ih =>
    intro hk
    simp only [nextOf, othOf]
    rcases Nat.lt_or_ge k n with h | h
    · rw [if_neg (by omega)]
      exact (ih h).append_right _
    · obtain rfl : k = n := by omega
      have e : ∀ m, m ≤ k → othOf N k m = nextOf N m := by
        intro m
        induction m with
        | zero => intro _; rfl
        | succ m ihm =>
          intro hm
          simp only [othOf, nextOf]
          rw [ihm (by omega), if_neg (by omega)]
      rw [if_pos rfl, List.append_nil, e k (Nat.le_refl _)]
      exact List.perm_append_singleton _ _
theorem nextOf_set {N : Nat → Nat} {k v n : Nat} (hk : k < n) : (nextOf (set1 N k v) n).Perm (⟨k, v, 0⟩ :: othOf N k n) := by
  have h := nextOf_split (N := set1 N k v) hk
  rw [show set1 N k v k = v by unfold set1; rw [if_pos rfl]] at h
  rwa [othOf_congr (N := set1 N k v) (N' := N) (fun i _ hi => by unfold set1; rw [if_neg hi])] at h

theorem set_root {l : List Job} {r r' : Job} (h : l[0]? = some r) : ∃ tl, l = r :: tl ∧ l.set 0 r' = r' :: tl := by
  cases l with
  | nil => simp at h
  | cons x tl => simp at h; subst h; exact ⟨tl, rfl, rfl⟩

/-- The root of the heap of what is released next. -/
theorem next_root {N : Nat → Nat} {n : Nat} {l : List Job} {r : Job} (hp : l.Perm (nextOf N n)) (hh : IsHeap l l.length) (hr : l[0]? = some r) :
    ∃ k, k < n ∧ r = ⟨k, N k, 0⟩ ∧ ∀ i, i < n → N k ≤ N i := by
  obtain ⟨k, hk, hrk⟩ := nextOf_mem.1 (hp.mem_iff.1 (List.mem_of_getElem? hr))
  refine ⟨k, hk, hrk, fun i hi => ?_⟩
  obtain ⟨q, hq⟩ := List.getElem?_of_mem (hp.mem_iff.2 (nextOf_mem.2 ⟨i, hi, rfl⟩))
  have := hh.root (Nat.le_refl _) q _ r (List.getElem?_eq_some_iff.1 hq).1 hq hr
  subst hrk
  unfold jlt at this
  simp only at this
  omega
/-- The root of the heap of what waits: it runs. -/
theorem wait_root {p : Nat → Nat} {t : Nat} {L : Nat → Nat} {n : Nat} {l : List Job} {r : Job} (hp : l.Perm (jobsOf L (due p t) n)) (hh : IsHeap l l.length) (hr : l[0]? = some r) :
    ∃ k, k < n ∧ 0 < L k ∧ r = ⟨k, due p t k, L k⟩ ∧ pick p t L n = some k := by
  obtain ⟨k, hk, hk0, hrk⟩ := jobsOf_mem.1 (hp.mem_iff.1 (List.mem_of_getElem? hr))
  refine ⟨k, hk, hk0, hrk, pick_eq hk hk0 fun i hi hi0 => ?_⟩
  obtain ⟨q, hq⟩ := List.getElem?_of_mem (hp.mem_iff.2 (jobsOf_mem.2 ⟨i, hi, hi0, rfl⟩))
  have := hh.root (Nat.le_refl _) q _ r (List.getElem?_eq_some_iff.1 hq).1 hq hr
  subst hrk
  unfold jlt at this
  simp only at this
  omega
theorem heap_set_same {l : List Job} {n : Nat} {r : Job} {c : Int} (hh : IsHeap l n) (hr : l[0]? = some r) : IsHeap (l.set 0 ⟨r.need, r.due, c⟩) n := by
  intro k x y h0 h1 hx hy
  rw [List.getElem?_set_ne (by omega)] at hx
  rcases Nat.eq_zero_or_pos ((k - 1) / 2) with h | h
  · rw [h, List.getElem?_set_self (List.getElem?_eq_some_iff.1 hr).1] at hy
    injection hy with hy
    have := hh k x r h0 h1 hx (by rw [h]; exact hr)
    subst hy
    unfold jlt at *
    exact this
  · rw [List.getElem?_set_ne (by omega)] at hy
    exact hh k x y h0 h1 hx hy
theorem heap_set_under {l : List Job} {n : Nat} {r' : Job} (hh : IsHeap l n) : HeapUnder (l.set 0 r') n 0 := by
  refine ⟨fun k x y h0 h1 h2 hx hy => ?_, fun k a b _ _ _ h _ _ => by omega⟩
  rw [List.getElem?_set_ne (by omega)] at hx
  rw [List.getElem?_set_ne (by omega)] at hy
  exact hh k x y h0 h1 hx hy
end Edf
end Go.Proofs.Ytgilejknjdbneaa
