/- Turns SpanP -/
import Derived.Test.YtpblcjipmoblnaaGreatDoorFacts3
set_option maxRecDepth 100000
set_option maxHeartbeats 4000000
set_option linter.unusedVariables false
set_option linter.unusedSimpArgs false
namespace Go.Proofs.YtpblcjipmoblnaaGreatDoor.Ck
theorem dups_le {l m : List Nat} (hn : l.Nodup) (h : ∀ x ∈ l, x ∈ m) : l.length ≤ m.length := by
 induction l generalizing m with
 | nil => simp
 | cons a l ih =>
  obtain ⟨h1, h2⟩ := List.nodup_cons.1 hn
  have ha := h a List.mem_cons_self
  have := ih h2 (m := m.erase a) (fun x hx => (List.mem_erase_of_ne (by rintro rfl; exact h1 hx)).2 (h x (List.mem_cons_of_mem _ hx)))
  rw [List.length_erase_of_mem ha] at this
  have := List.length_pos_of_mem ha
  simp only [List.length_cons]
  omega
theorem dups_nodup (l : List Nat) : l.eraseDups.Nodup := by
 induction h : l.length using Nat.strongRecOn generalizing l with
 | ind n ih =>
  cases l with
  | nil => simp
  | cons a t =>
   rw [List.eraseDups_cons]
   refine List.nodup_cons.2 ⟨fun hm => ?_, ih _ ?_ _ rfl⟩
   · have := (List.mem_filter.1 (List.mem_eraseDups.1 hm)).2
     simp at this
   · have := List.length_filter_le (fun b => !b == a) t
     simp only [List.length_cons] at h
     omega
namespace Turned
variable {P Q : Policy}
end Turned
namespace Turned
variable {P Q : Policy}
end Turned
end Go.Proofs.YtpblcjipmoblnaaGreatDoor.Ck
namespace Go.Proofs.YtpblcjipmoblnaaGreatDoor.Ck
abbrev Sp := Nat × Nat
def inSp (l : List Sp) (p : Nat) : Prop := ∃ s ∈ l, s.1 ≤ p ∧ p ≤ s.2
structure SetOk (l : List Sp) : Prop where
 some_ : ∀ s ∈ l, s.1 ≤ s.2
 apart : l.Pairwise fun a b => a.2 + 1 < b.1
def mergeStep (out : List Sp) (x : Sp) : List Sp :=
 match out.getLast? with
 | none => [x]
 | some y => if x.1 ≤ y.2 + 1 then out.dropLast ++ [(y.1, max y.2 x.2)] else out ++ [x]
theorem last_split {l : List Sp} {y : Sp} (h : l.getLast? = some y) : ∃ t, l = t ++ [y] ∧ l.dropLast = t := by
 obtain ⟨t, ht⟩ := List.getLast?_eq_some_iff.1 h
 exact ⟨t, ht, by rw [ht]; simp⟩
theorem merge_ok {out : List Sp} {x : Sp} (h : SetOk out) (hx : x.1 ≤ x.2) (hb : ∀ s ∈ out, s.1 ≤ x.1) :
 SetOk (mergeStep out x) ∧ (∀ p, inSp (mergeStep out x) p ↔ inSp out p ∨ (x.1 ≤ p ∧ p ≤ x.2)) ∧ ∀ s ∈ mergeStep out x, s.1 ≤ x.1 := by
 unfold mergeStep
 cases hl : out.getLast? with
 | none =>
  have : out = [] := List.getLast?_eq_none_iff.1 hl
  subst this
  refine ⟨⟨by simpa using hx, by simp⟩, fun p => by simp [inSp], by simp⟩
 | some y =>
  obtain ⟨t, ht, hd⟩ := last_split hl
  subst ht
  have hp := List.pairwise_append.1 h.apart
  have hy := h.some_ y (by simp)
  have hyb := hb y (by simp)
  dsimp only
  split
  · rename_i hc
    rw [hd]
    refine ⟨⟨fun s hs => ?_, List.pairwise_append.2 ⟨hp.1, by simp, fun a ha b hb2 => ?_⟩⟩, fun p => ?_, fun s hs => ?_⟩
    · rcases List.mem_append.1 hs with hs | hs
      · exact h.some_ s (by simp [hs])
      · have : s = (y.1, max y.2 x.2) := by simpa using hs
        subst this; show y.1 ≤ max y.2 x.2; omega
    · have : b = (y.1, max y.2 x.2) := by simpa using hb2
      subst this
      exact hp.2.2 a ha y (by simp)
    · simp only [inSp, List.mem_append, List.mem_singleton]
      constructor
      · rintro ⟨s, hs | rfl, h1, h2⟩
        · exact .inl ⟨s, .inl hs, h1, h2⟩
        · dsimp only at h1 h2
          by_cases h3 : p ≤ y.2
          · exact .inl ⟨y, .inr rfl, h1, h3⟩
          · exact .inr ⟨by omega, by omega⟩
      · rintro (⟨s, hs | rfl, h1, h2⟩ | ⟨h1, h2⟩)
        · exact ⟨s, .inl hs, h1, h2⟩
        · exact ⟨_, .inr rfl, h1, by show p ≤ max s.2 x.2; omega⟩
        · exact ⟨_, .inr rfl, by show y.1 ≤ p; omega, by show p ≤ max y.2 x.2; omega⟩
    · rcases List.mem_append.1 hs with hs | hs
      · exact hb s (by simp [hs])
      · have : s = (y.1, max y.2 x.2) := by simpa using hs
        subst this; exact hyb
  · rename_i hc
    refine ⟨⟨fun s hs => ?_, List.pairwise_append.2 ⟨h.apart, by simp, fun a ha b hb2 => ?_⟩⟩, fun p => ?_, fun s hs => ?_⟩
    · rcases List.mem_append.1 hs with hs | hs
      · exact h.some_ s hs
      · have : s = x := by simpa using hs
        subst this; exact hx
    · have : b = x := by simpa using hb2
      subst this
      rcases List.mem_append.1 ha with ha | ha
      · have h1 := hp.2.2 a ha y (by simp)
        omega
      · have : a = y := by simpa using ha
        subst this; omega
    · simp only [inSp, List.mem_append, List.mem_singleton]
      constructor
      · rintro ⟨s, (hs | rfl) | rfl, h1, h2⟩
        · exact .inl ⟨s, .inl hs, h1, h2⟩
        · exact .inl ⟨s, .inr rfl, h1, h2⟩
        · exact .inr ⟨h1, h2⟩
      · rintro (⟨s, hs | rfl, h1, h2⟩ | ⟨h1, h2⟩)
        · exact ⟨s, .inl (.inl hs), h1, h2⟩
        · exact ⟨s, .inl (.inr rfl), h1, h2⟩
        · exact ⟨x, .inr rfl, h1, h2⟩
    · rcases List.mem_append.1 hs with hs | hs
      · exact hb s hs
      · have : s = x := by simpa using hs
        subst this; exact Nat.le_refl _
def mergeAll (l : List Sp) : List Sp := l.foldl mergeStep []
theorem mergeAll_snoc (l : List Sp) (x : Sp) : mergeAll (l ++ [x]) = mergeStep (mergeAll l) x := by simp [mergeAll]
theorem mergeAll_ok : ∀ (n : Nat) (l : List Sp), l.length = n → (∀ s ∈ l, s.1 ≤ s.2) → l.Pairwise (fun a b => a.1 ≤ b.1) → SetOk (mergeAll l) ∧ (∀ p, inSp (mergeAll l) p ↔ inSp l p) ∧ ∀ x, (∀ s ∈ l, s.1 ≤ x) → ∀ s ∈ mergeAll l, s.1 ≤ x
 | 0, l, hl, _, _ => by
  have : l = [] := List.length_eq_zero_iff.1 hl
  subst this
  exact ⟨⟨by simp [mergeAll], by simp [mergeAll]⟩, fun p => by simp [mergeAll, inSp], fun x _ s hs => by simp [mergeAll] at hs⟩
 | n + 1, l, hl, hs, hp => by
  obtain ⟨t, x, rfl⟩ : ∃ t x, l = t ++ [x] := by
   have hne : l ≠ [] := by intro e; rw [e] at hl; simp at hl
   exact ⟨l.dropLast, l.getLast hne, (List.dropLast_concat_getLast hne).symm⟩
  have hp2 := List.pairwise_append.1 hp
  obtain ⟨i1, i2, i3⟩ := mergeAll_ok n t (by simpa using hl) (fun s h => hs s (by simp [h])) hp2.1
  have hb : ∀ s ∈ mergeAll t, s.1 ≤ x.1 := i3 x.1 fun s h => hp2.2.2 s h x (by simp)
  obtain ⟨m1, m2, m3⟩ := merge_ok i1 (hs x (by simp)) hb
  rw [mergeAll_snoc]
  refine ⟨m1, fun p => ?_, fun z hz s hs2 => ?_⟩
  · rw [m2, i2]
    simp only [inSp, List.mem_append, List.mem_singleton]
    constructor
    · rintro (⟨s, h1, h2⟩ | h)
      · exact ⟨s, .inl h1, h2⟩
      · exact ⟨x, .inr rfl, h⟩
    · rintro ⟨s, h1 | rfl, h2⟩
      · exact .inl ⟨s, h1, h2⟩
      · exact .inr h2
  · exact Nat.le_trans (m3 s hs2) (hz x (by simp))
theorem covers_iff {l : List Sp} (h : SetOk l) {a b i : Nat} (hab : a ≤ b) (h1 : ∀ j s, j < i → l[j]? = some s → s.2 < a) (h2 : ∀ s, l[i]? = some s → a ≤ s.2) :
 (∀ p, a ≤ p → p ≤ b → inSp l p) ↔ ∃ s, l[i]? = some s ∧ s.1 ≤ a ∧ b ≤ s.2 := by
 constructor
 · intro hc
   obtain ⟨s, hs, hs1, hs2⟩ := hc a (Nat.le_refl _) hab
   obtain ⟨j, hj⟩ := List.getElem?_of_mem hs
   have hji : i ≤ j := by
    rcases Nat.lt_or_ge j i with h3 | h3
    · have := h1 j s h3 hj; omega
    · exact h3
   obtain ⟨si, hsi⟩ : ∃ s, l[i]? = some s := ⟨_, List.getElem?_eq_getElem (by have := (List.getElem?_eq_some_iff.1 hj).1; omega)⟩
   have hse : si = s ∧ i = j := by
    rcases Nat.lt_or_ge i j with h3 | h3
    · obtain ⟨hil, e1⟩ := List.getElem?_eq_some_iff.1 hsi
      obtain ⟨hjl, e2⟩ := List.getElem?_eq_some_iff.1 hj
      have := List.pairwise_iff_getElem.1 h.apart i j hil hjl h3
      rw [e1, e2] at this
      have := h2 si hsi
      omega
    · have : i = j := by omega
      subst this
      exact ⟨Option.some.inj (hsi.symm.trans hj), rfl⟩
   obtain ⟨e1, e2⟩ := hse
   subst e1; subst e2
   refine ⟨si, hsi, hs1, ?_⟩
   rcases Nat.lt_or_ge si.2 b with h3 | h3
   · exfalso
     -- the point behind the span is in none
     obtain ⟨u, hu, hu1, hu2⟩ := hc (si.2 + 1) (by omega) (by omega)
     obtain ⟨k, hk⟩ := List.getElem?_of_mem hu
     obtain ⟨hil, e1⟩ := List.getElem?_eq_some_iff.1 hsi
     obtain ⟨hkl, e2⟩ := List.getElem?_eq_some_iff.1 hk
     rcases Nat.lt_trichotomy i k with h4 | h4 | h4
     · have := List.pairwise_iff_getElem.1 h.apart i k hil hkl h4
       rw [e1, e2] at this; omega
     · subst h4
       have : si = u := by rw [← e1, ← e2]
       subst this; omega
     · have := List.pairwise_iff_getElem.1 h.apart k i hkl hil h4
       have h5 := h.some_ si hs
       rw [e1, e2] at this; omega
   · exact h3
 · rintro ⟨s, hs, h3, h4⟩ p hp1 hp2
   exact ⟨s, List.mem_of_getElem? hs, by omega, by omega⟩
end Go.Proofs.YtpblcjipmoblnaaGreatDoor.Ck
