/- LPlain Pol Facts Facts2 Facts3 -/
import GoSem.Core.World
import Derived.Below
set_option maxRecDepth 100000
set_option maxHeartbeats 4000000
set_option linter.unusedVariables false
set_option linter.unusedSimpArgs false
namespace Go.Proofs.YtpblcjipmoblnaaGreatDoor
open Go Go.RowKit
structure Run where
 pos : Int
 subj : ByteArray
 bud : Nat
 per : Nat
structure Slot where
 subj : ByteArray
 from_ : Int
 to : Int
namespace Ln
def run (l : List Slot) (s : ByteArray) (t : Int) : List Slot :=
 match l.getLast? with
 | none => [⟨s, 0, t⟩]
 | some x => if x.subj = s then l.dropLast ++ [⟨x.subj, x.from_, x.to + t⟩] else l ++ [⟨s, x.to, x.to + t⟩]
def lenFrom : Int → Option ByteArray → List Slot → Int
 | e, _, [] => e
 | e, p, s :: l => if s.from_ ≠ e ∨ s.to ≤ s.from_ ∨ p = some s.subj then 0 else lenFrom s.to (some s.subj) l
def part (s : ByteArray) (x : Slot) : Int := if x.subj = s ∧ 0 ≤ x.from_ ∧ x.from_ < x.to ∧ x.to ≤ 65536 then x.to - x.from_ else 0
def budget (s : ByteArray) : Int → List Slot → Int
 | n, [] => n
 | n, x :: l => budget s (n + part s x) l
def endOf (l : List Slot) : Int := match l.getLast? with | none => 0 | some x => x.to
def right (M : Nat) (r : Run) (nd : Bool) : Int :=
 if r.bud = 0 ∨ M < r.bud then 90
 else if nd = true ∧ r.subj.toList.isEmpty = true then 80
 else if nd = true ∧ (r.per < r.bud ∨ M < r.per ∨ ((M : Int) % (r.per : Int) != 0) = true) then 91
 else 0
def wants (M : Nat) (r : Run) (nd : Bool) : Nat := if nd then r.bud * (M / r.per) else r.bud
theorem right_ok {M : Nat} {r : Run} {nd : Bool} (h : right M r nd = 0) : 1 ≤ r.bud ∧ r.bud ≤ M ∧ (nd = true → r.subj.toList.isEmpty = false ∧ r.bud ≤ r.per ∧ 1 ≤ r.per ∧ r.per ≤ M ∧ M % r.per = 0) := by
 unfold right at h
 split at h
 · simp at h
 split at h
 · simp at h
 split at h
 · simp at h
 rename_i h1 h2 h3
 refine ⟨by omega, by omega, fun hn => ?_⟩
 subst hn
 simp only [true_and] at h2 h3
 have h4 : r.bud ≤ r.per := by
  rcases Nat.lt_or_ge r.per r.bud with h | h
  · exact absurd (.inl h) h3
  · exact h
 have h5 : r.per ≤ M := by
  rcases Nat.lt_or_ge M r.per with h | h
  · exact absurd (.inr (.inl h)) h3
  · exact h
 have h6 : ((M : Int) % (r.per : Int) != 0) = false := by
  rcases Bool.eq_false_or_eq_true ((M : Int) % (r.per : Int) != 0) with h | h
  · exact absurd (.inr (.inr h)) h3
  · exact h
 refine ⟨by simpa using h2, h4, by omega, h5, ?_⟩
 have h7 : (M : Int) % (r.per : Int) = 0 := by simpa using h6
 have h8 : ((M % r.per : Nat) : Int) = 0 := by simpa using h7
 omega
theorem wants_le {M : Nat} {r : Run} {nd : Bool} (h : right M r nd = 0) : wants M r nd ≤ M := by
 obtain ⟨h1, h2, h3⟩ := right_ok h
 unfold wants
 cases nd
 · simpa using h2
 · obtain ⟨_, h4, h5, h6, _⟩ := h3 rfl
   exact Nat.le_trans (Nat.mul_le_mul_right _ h4) (Nat.mul_div_le M r.per)
end Ln
end Go.Proofs.YtpblcjipmoblnaaGreatDoor
namespace Go.Proofs.YtpblcjipmoblnaaGreatDoor
open Go Go.RowKit
namespace Ln
def lastTo : Int → List Slot → Int
 | e, [] => e
 | _, s :: l => lastTo s.to l
end Ln
end Go.Proofs.YtpblcjipmoblnaaGreatDoor
namespace Go.Proofs.YtpblcjipmoblnaaGreatDoor
open Go Go.RowKit
structure Stint where
 subj : Int
 ticks : Int
namespace Ln
def take (M o e who left s t : Int) : Bool × Int × Int × Int :=
 let e' := e + min t (M - e)
 let s' := max s (-1)
 if e' ≤ o then (decide (e' < M), e', who, left)
 else if left = 0 then (decide (e' < M), e', s', e' - max e o)
 else if s' = who then (decide (e' < M), e', who, left + (e' - e))
 else (false, e', who, left)
def atGo (M o : Int) : Int → Int → Int → List Stint → Int × Int
 | e, who, left, [] => let r := take M o e who left (-1) M; (r.2.2.1, r.2.2.2)
 | e, who, left, x :: l =>
  if x.ticks ≤ 0 then atGo M o e who left l
  else
   let r := take M o e who left x.subj x.ticks
   if r.1 then atGo M o r.2.1 r.2.2.1 r.2.2.2 l else (r.2.2.1, r.2.2.2)
def at_ (l : List Stint) (M o : Int) : Int × Int := if o < 0 ∨ M ≤ o then (-1, 0) else atGo M o 0 (-1) 0 l
end Ln
end Go.Proofs.YtpblcjipmoblnaaGreatDoor
namespace Go.Proofs.YtpblcjipmoblnaaGreatDoor
open Go Go.RowKit
namespace Ln
def flatErr (M : Nat) (nd : Bool) : Nat → Nat → List Run → Option (Int × Int)
 | _, _, [] => none
 | i, sum, r :: l => if right M r nd = 0 then (if M < sum + wants M r nd then some (i, 93) else flatErr M nd (i + 1) (sum + wants M r nd) l) else some (i, right M r nd)
def rowRuns (l : List Slot) (rs : List Run) : List Slot := rs.foldl (fun acc r => run acc r.subj r.bud) l
def fill (M : Nat) (l : List Slot) : List Slot := if 0 < (M : Int) - endOf l then run l ByteArray.empty (M - endOf l) else l
def capped (l : List Slot) : List Slot × Int × Int := if 4096 < l.length then ([], -1, 4) else (l, 0, 0)
def UpTo (T : Int) (l : List Slot) : Prop := ∀ x ∈ l, 0 ≤ x.to ∧ x.to ≤ T
theorem upTo_nil (T : Int) : UpTo T [] := fun x h => by simp at h
theorem UpTo.run {T : Int} {l : List Slot} (h : UpTo T l) (h0 : 0 ≤ T) (s : ByteArray) {t : Int} (ht : 0 ≤ t) : UpTo (T + t) (run l s t) := by
 unfold Ln.run
 split
 · intro x hx
   simp at hx; subst hx
   exact ⟨ht, by simp; omega⟩
 · rename_i y hy
   have hm := List.mem_of_getLast? hy
   have h1 := h y hm
   split
   · intro x hx
     rcases List.mem_append.1 hx with hx | hx
     · have := h x ((List.dropLast_sublist l).subset hx)
       exact ⟨this.1, by omega⟩
     · simp at hx; subst hx
       exact ⟨by simp; omega, by simp; omega⟩
   · intro x hx
     rcases List.mem_append.1 hx with hx | hx
     · have := h x hx
       exact ⟨this.1, by omega⟩
     · simp at hx; subst hx
       exact ⟨by simp; omega, by simp; omega⟩
theorem run_length (l : List Slot) (s : ByteArray) (t : Int) : (run l s t).length ≤ l.length + 1 := by
 unfold Ln.run
 split
 · simp
 · split
   all_goals (simp only [List.length_append, List.length_dropLast, List.length_cons, List.length_nil]; omega)
theorem UpTo.end_ {T : Int} {l : List Slot} (h : UpTo T l) (h0 : 0 ≤ T) : 0 ≤ endOf l ∧ endOf l ≤ T := by
 unfold endOf
 split
 · exact ⟨by omega, h0⟩
 · rename_i y hy
   exact h y (List.mem_of_getLast? hy)
def sumBud (l : List Run) : Nat := l.foldr (fun r n => r.bud + n) 0
theorem flatErr_none {M : Nat} {nd : Bool} {l : List Run} : ∀ {i s : Nat}, flatErr M nd i s l = none → (∀ r ∈ l, right M r nd = 0) ∧ (nd = false → s ≤ M → s + sumBud l ≤ M) := by
 induction l with
 | nil => intro i s _; exact ⟨fun r h => by simp at h, fun _ h => by simpa [sumBud] using h⟩
 | cons r l ih =>
  intro i s h
  simp only [flatErr] at h
  split at h
  · rename_i hr
    split at h
    · simp at h
    · rename_i hs
      obtain ⟨h1, h2⟩ := ih h
      refine ⟨fun x hx => ?_, fun hn hm => ?_⟩
      · rcases List.mem_cons.1 hx with rfl | hx
        · exact hr
        · exact h1 x hx
      · have := h2 hn (by omega)
        subst hn
        simp only [sumBud, List.foldr_cons, wants, Bool.false_eq_true, if_false] at this ⊢
        omega
  · simp at h
theorem sumBud_len {l : List Run} (h : ∀ r ∈ l, 1 ≤ r.bud) : l.length ≤ sumBud l := by
 induction l with
 | nil => simp
 | cons r l ih =>
  have h1 := ih (fun x hx => h x (List.mem_cons_of_mem _ hx))
  have h2 := h r (by simp)
  simp only [sumBud, List.foldr_cons, List.length_cons] at h1 ⊢
  omega
end Ln
end Go.Proofs.YtpblcjipmoblnaaGreatDoor
namespace Go.Proofs.YtpblcjipmoblnaaGreatDoor
open Go Go.RowKit
structure Job where
 need : Int
 due : Int
 left : Int
namespace Ln
def jlt (a b : Job) : Prop := a.due < b.due ∨ a.due = b.due ∧ a.need < b.need
instance (a b : Job) : Decidable (jlt a b) := inferInstanceAs (Decidable (_ ∨ _ ∧ _))
theorem jlt_irrefl (a : Job) : ¬ jlt a a := by unfold jlt; omega
theorem jle_trans {a b c : Job} (h : ¬ jlt b a) (k : ¬ jlt c b) : ¬ jlt c a := by unfold jlt at *; omega
theorem jlt_asymm {a b : Job} (h : jlt a b) : ¬ jlt b a := by unfold jlt at *; omega
def swapped (l : List Job) (i j : Nat) (a b : Job) : List Job := (l.set i b).set j a
theorem swapped_length {l : List Job} {i j : Nat} {a b : Job} : (swapped l i j a b).length = l.length := by simp [swapped]
theorem swapped_perm {l : List Job} {i j : Nat} {a b : Job} (ha : l[i]? = some a) (hb : l[j]? = some b) : (swapped l i j a b).Perm l := by
 obtain ⟨h1, rfl⟩ := List.getElem?_eq_some_iff.1 ha
 obtain ⟨h2, rfl⟩ := List.getElem?_eq_some_iff.1 hb
 exact List.set_set_perm h1 h2
theorem swapped_at {l : List Job} {i j : Nat} {a b : Job} (ha : l[i]? = some a) (hb : l[j]? = some b) (k : Nat) : (swapped l i j a b)[k]? = if k = j then some a else if k = i then some b else l[k]? := by
 have h1 := (List.getElem?_eq_some_iff.1 ha).1
 have h2 := (List.getElem?_eq_some_iff.1 hb).1
 unfold swapped
 by_cases e1 : k = j
 · subst e1; rw [List.getElem?_set_self (by simpa using h2), if_pos rfl]
 · rw [List.getElem?_set_ne (by omega), if_neg e1]
   by_cases e2 : k = i
   · subst e2; rw [List.getElem?_set_self h1, if_pos rfl]
   · rw [List.getElem?_set_ne (by omega), if_neg e2]
def HeapBut (l : List Job) (n j : Nat) : Prop := ∀ k x y, 0 < k → k < n → k ≠ j → l[k]? = some x → l[(k - 1) / 2]? = some y → ¬ jlt x y
def Over (l : List Job) (n j : Nat) : Prop := ∀ k x y, 0 < k → k < n → (k - 1) / 2 = j → 0 < j → l[k]? = some x → l[(j - 1) / 2]? = some y → ¬ jlt x y
def IsHeap (l : List Job) (n : Nat) : Prop := ∀ k x y, 0 < k → k < n → l[k]? = some x → l[(k - 1) / 2]? = some y → ¬ jlt x y
theorem IsHeap.root {l : List Job} {n : Nat} (h : IsHeap l n) (hn : n ≤ l.length) : ∀ k x r, k < n → l[k]? = some x → l[0]? = some r → ¬ jlt x r := by
 intro k
 induction k using Nat.strongRecOn with
 | _ k ih =>
  intro x r hk hx hr
  rcases Nat.eq_zero_or_pos k with h0 | h0
  · subst h0; rw [hx] at hr; injection hr with hr; subst hr; exact jlt_irrefl _
  · obtain ⟨y, hy⟩ : ∃ y, l[(k - 1) / 2]? = some y := ⟨_, List.getElem?_eq_getElem (by omega)⟩
    exact jle_trans (ih ((k - 1) / 2) (by omega) y r (by omega) hy hr) (h k x y h0 hk hx hy)
theorem up_step {l : List Job} {n j : Nat} {a b : Job} (hj : 0 < j) (hjn : j < n) (hn : n ≤ l.length) (h1 : HeapBut l n j) (h2 : Over l n j) (ha : l[(j - 1) / 2]? = some a) (hb : l[j]? = some b) (hlt : jlt b a) :
 HeapBut (swapped l ((j - 1) / 2) j a b) n ((j - 1) / 2) ∧ Over (swapped l ((j - 1) / 2) j a b) n ((j - 1) / 2) := by
 have hat := swapped_at ha hb
 constructor
 · intro k x y hk0 hkn hki hx hy
   rw [hat] at hx hy
   by_cases e1 : k = j
   · subst e1
     rw [if_pos rfl] at hx
     rw [if_neg (by omega), if_pos rfl] at hy
     injection hx with hx; injection hy with hy
     subst hx hy
     exact jlt_asymm hlt
   · rw [if_neg e1, if_neg hki] at hx
     by_cases e2 : (k - 1) / 2 = j
     · rw [if_pos e2] at hy
       injection hy with hy
       subst hy
       exact h2 k x a hk0 hkn e2 hj hx ha
     · rw [if_neg e2] at hy
       by_cases e3 : (k - 1) / 2 = (j - 1) / 2
       · rw [if_pos e3] at hy
         injection hy with hy
         subst hy
         have := h1 k x a hk0 hkn e1 hx (by rw [e3]; exact ha)
         unfold jlt at *
         omega
       · rw [if_neg e3] at hy
         exact h1 k x y hk0 hkn e1 hx hy
 · intro k x y hk0 hkn hkp hi0 hx hy
   rw [hat] at hx hy
   have hpar : ∃ z, l[((j - 1) / 2 - 1) / 2]? = some z := ⟨_, List.getElem?_eq_getElem (by omega)⟩
   obtain ⟨z, hz⟩ := hpar
   rw [if_neg (by omega), if_neg (by omega), hz] at hy
   injection hy with hy
   subst hy
   have haz := h1 ((j - 1) / 2) a z hi0 (by omega) (by omega) ha hz
   by_cases e1 : k = j
   · rw [if_pos e1] at hx
     injection hx with hx
     subst hx
     exact haz
   · rw [if_neg e1, if_neg (by omega)] at hx
     have := h1 k x a hk0 hkn e1 hx (by rw [hkp]; exact ha)
     exact jle_trans haz this
theorem up_done {l : List Job} {n j : Nat} (h1 : HeapBut l n j) (h : j = 0 ∨ ∃ a b, l[(j - 1) / 2]? = some a ∧ l[j]? = some b ∧ ¬ jlt b a) : IsHeap l n := by
 intro k x y hk0 hkn hx hy
 by_cases e : k = j
 · rcases h with h | ⟨a, b, ha, hb, hab⟩
   · omega
   · subst e
     rw [hx] at hb; rw [hy] at ha
     injection hb with hb; injection ha with ha
     subst hb ha
     exact hab
 · exact h1 k x y hk0 hkn e hx hy
def HeapUnder (l : List Job) (n i : Nat) : Prop :=
 (∀ k x y, 0 < k → k < n → (k - 1) / 2 ≠ i → l[k]? = some x → l[(k - 1) / 2]? = some y → ¬ jlt x y) ∧ Over l n i
theorem down_step {l : List Job} {n i j : Nat} {a b : Job} (hi : (j - 1) / 2 = i) (hj0 : 0 < j) (hjn : j < n) (hn : n ≤ l.length) (h : HeapUnder l n i) (ha : l[i]? = some a) (hb : l[j]? = some b)
 (hmin : ∀ k x, 0 < k → k < n → (k - 1) / 2 = i → l[k]? = some x → ¬ jlt x b) (hlt : jlt b a) : HeapUnder (swapped l i j a b) n j := by
 obtain ⟨h1, h2⟩ := h
 have hat := swapped_at ha hb
 constructor
 · intro k x y hk0 hkn hkp hx hy
   rw [hat] at hx hy
   rw [if_neg hkp] at hy
   by_cases e1 : k = j
   · rw [if_pos e1] at hx
     injection hx with hx; subst hx
     rw [if_pos (by omega)] at hy
     injection hy with hy; subst hy
     exact jlt_asymm hlt
   · rw [if_neg e1] at hx
     by_cases e2 : k = i
     · rw [if_pos e2] at hx
       injection hx with hx; subst hx
       rw [if_neg (by omega)] at hy
       subst e2
       exact h2 j b y hj0 hjn hi hk0 hb hy
     · rw [if_neg e2] at hx
       by_cases e3 : (k - 1) / 2 = i
       · rw [if_pos e3] at hy
         injection hy with hy; subst hy
         exact hmin k x hk0 hkn e3 hx
       · rw [if_neg e3] at hy
         exact h1 k x y hk0 hkn e3 hx hy
 · intro k x y hk0 hkn hkp _ hx hy
   rw [hat] at hx hy
   rw [if_neg (by omega), if_neg (by omega)] at hx
   rw [if_neg (by omega), if_pos hi] at hy
   injection hy with hy; subst hy
   exact h1 k x b hk0 hkn (by omega) hx (by rw [hkp]; exact hb)
theorem down_done {l : List Job} {n i : Nat} {a : Job} (h : HeapUnder l n i) (ha : l[i]? = some a) (hc : ∀ k x, 0 < k → k < n → (k - 1) / 2 = i → l[k]? = some x → ¬ jlt x a) : IsHeap l n := by
 intro k x y hk0 hkn hx hy
 by_cases e : (k - 1) / 2 = i
 · rw [e, ha] at hy
   injection hy with hy; subst hy
   exact hc k x hk0 hkn e hx
 · exact h.1 k x y hk0 hkn e hx hy
end Ln
end Go.Proofs.YtpblcjipmoblnaaGreatDoor
namespace Go.Proofs.YtpblcjipmoblnaaGreatDoor
open Go Go.RowKit
namespace Ln
theorem run_nil (s : ByteArray) (t : Int) : run [] s t = [⟨s, 0, t⟩] := rfl
theorem run_snoc (l : List Slot) (x : Slot) (s : ByteArray) (t : Int) : run (l ++ [x]) s t = if x.subj = s then l ++ [⟨x.subj, x.from_, x.to + t⟩] else l ++ [x] ++ [⟨s, x.to, x.to + t⟩] := by
 unfold run
 rw [List.getLast?_concat]
 simp only [List.dropLast_concat]
theorem snoc_of (l : List Slot) : l = [] ∨ ∃ m x, l = m ++ [x] := by
 rcases List.eq_nil_or_concat l with h | ⟨m, x, h⟩
 · exact .inl h
 · exact .inr ⟨m, x, by rw [h, List.concat_eq_append]⟩
theorem run_run (l : List Slot) (s : ByteArray) (a b : Int) : run (run l s a) s b = run l s (a + b) := by
 rcases snoc_of l with rfl | ⟨m, x, rfl⟩
 · rw [run_nil, show [(⟨s, 0, a⟩ : Slot)] = [] ++ [⟨s, 0, a⟩] from rfl, run_snoc, if_pos rfl, run_nil]
   simp
 · rw [run_snoc, run_snoc]
   by_cases h : x.subj = s
   · rw [if_pos h, if_pos h, run_snoc, if_pos h]; simp [Int.add_assoc]
   · rw [if_neg h, if_neg h, run_snoc, if_pos rfl]; simp [Int.add_assoc]
def rowFrom (l : List Slot) (ts : List ByteArray) : List Slot := ts.foldl (fun l s => run l s 1) l
theorem rowFrom_append (l : List Slot) (a b : List ByteArray) : rowFrom l (a ++ b) = rowFrom (rowFrom l a) b := by simp [rowFrom]
theorem run_ticks (l : List Slot) (s : ByteArray) (n : Nat) : run l s ((n + 1 : Nat) : Int) = rowFrom l (List.replicate (n + 1) s) := by
 induction n with
 | zero => rfl
 | succ n ih =>
  rw [List.replicate_succ', rowFrom_append, ← ih]
  show _ = run _ s 1
  rw [run_run]; congr 1
theorem run_tick (l : List Slot) (s : ByteArray) {n : Nat} (h : 0 < n) : run l s (n : Int) = rowFrom l (List.replicate n s) := by
 obtain ⟨k, rfl⟩ : ∃ k, n = k + 1 := ⟨n - 1, by omega⟩
 exact run_ticks l s k
def expand (xs : List Run) : List ByteArray := xs.flatMap fun r => List.replicate r.bud r.subj
theorem rowRuns_ticks {xs : List Run} (h : ∀ r ∈ xs, 1 ≤ r.bud) : ∀ (l : List Slot), rowRuns l xs = rowFrom l (expand xs) := by
 induction xs with
 | nil => intro l; rfl
 | cons r xs ih =>
  intro l
  have h1 := h r (by simp)
  show rowRuns (run l r.subj r.bud) xs = rowFrom l (List.replicate r.bud r.subj ++ expand xs)
  rw [ih (fun x hx => h x (List.mem_cons_of_mem _ hx)), rowFrom_append, run_tick _ _ (by omega)]
theorem expand_length (xs : List Run) : (expand xs).length = sumBud xs := by
 induction xs with
 | nil => rfl
 | cons r xs ih => simp only [expand, List.flatMap_cons, List.length_append, List.length_replicate, sumBud, List.foldr_cons] at ih ⊢; omega
def ChainD : Int → Option ByteArray → List Slot → Prop
 | _, _, [] => True
 | e, p, s :: l => s.from_ = e ∧ s.from_ < s.to ∧ p ≠ some s.subj ∧ ChainD s.to (some s.subj) l
def lastSubj : Option ByteArray → List Slot → Option ByteArray
 | p, [] => p
 | _, s :: l => lastSubj (some s.subj) l
theorem lastSubj_snoc (l : List Slot) (x : Slot) : ∀ p, lastSubj p (l ++ [x]) = some x.subj := by
 induction l with
 | nil => intro p; rfl
 | cons s l ih => intro p; exact ih _
theorem lastTo_snoc (l : List Slot) (x : Slot) : ∀ e, lastTo e (l ++ [x]) = x.to := by
 induction l with
 | nil => intro e; rfl
 | cons s l ih => intro e; exact ih _
theorem chainD_snoc {l : List Slot} {x : Slot} : ∀ {e p}, ChainD e p (l ++ [x]) ↔ ChainD e p l ∧ x.from_ = lastTo e l ∧ x.from_ < x.to ∧ lastSubj p l ≠ some x.subj := by
 induction l with
 | nil => intro e p; simp [ChainD, lastTo, lastSubj]
 | cons s l ih =>
  intro e p
  simp only [List.cons_append, ChainD, lastTo, lastSubj, ih]
  constructor
  · rintro ⟨h1, h2, h3, h4, h5⟩; exact ⟨⟨h1, h2, h3, h4⟩, h5⟩
  · rintro ⟨⟨h1, h2, h3, h4⟩, h5⟩; exact ⟨h1, h2, h3, h4, h5⟩
theorem endOf_last (l : List Slot) : endOf l = lastTo 0 l := by
 rcases snoc_of l with rfl | ⟨m, x, rfl⟩
 · rfl
 · rw [lastTo_snoc]; unfold endOf; rw [List.getLast?_concat]
structure Good (l : List Slot) (ts : List ByteArray) : Prop where
 chain : ChainD 0 none l
 last : lastTo 0 l = ts.length
 tick : ∀ (o : Nat) (s : ByteArray), ts[o]? = some s → ∃ x ∈ l, x.from_ ≤ (o : Int) ∧ (o : Int) < x.to ∧ x.subj = s
theorem good_nil : Good [] [] := ⟨trivial, rfl, fun o s h => by simp at h⟩
theorem Good.run {l : List Slot} {ts : List ByteArray} (h : Good l ts) (s : ByteArray) : Good (run l s 1) (ts ++ [s]) := by
 obtain ⟨h1, h2, h3⟩ := h
 rcases snoc_of l with rfl | ⟨m, x, rfl⟩
 · have h0 : ts = [] := by simpa [lastTo, eq_comm] using h2
   subst h0
   refine ⟨⟨rfl, by simp, by simp, trivial⟩, rfl, fun o y hy => ?_⟩
   have ho : o = 0 := by
    rcases Nat.eq_zero_or_pos o with h | h
    · exact h
    · rw [List.getElem?_eq_none (by simp; omega)] at hy; simp at hy
   subst ho
   simp at hy
   subst hy
   exact ⟨⟨s, 0, 1⟩, by simp [run_nil], by simp, by simp, rfl⟩
 · rw [lastTo_snoc] at h2
   obtain ⟨c1, c2, c3, c4⟩ := chainD_snoc.1 h1
   rw [run_snoc]
   have split_ : ∀ o y, (ts ++ [s])[o]? = some y → (ts[o]? = some y) ∨ (o = ts.length ∧ y = s) := fun o y hy => by
    rcases Nat.lt_or_ge o ts.length with h | h
    · rw [List.getElem?_append_left h] at hy; exact .inl hy
    · rw [List.getElem?_append_right h] at hy
      rcases Nat.eq_zero_or_pos (o - ts.length) with h' | h'
      · rw [h'] at hy; simp at hy; exact .inr ⟨by omega, hy.symm⟩
      · rw [List.getElem?_eq_none (by simp; omega)] at hy; simp at hy
   split
   · rename_i hx
     refine ⟨chainD_snoc.2 ⟨c1, c2, by simp; omega, c4⟩, by rw [lastTo_snoc]; simp; omega, fun o y hy => ?_⟩
     rcases split_ o y hy with h | ⟨rfl, rfl⟩
     · obtain ⟨z, hz, z1, z2, z3⟩ := h3 o y h
       rcases List.mem_append.1 hz with hz | hz
       · exact ⟨z, List.mem_append_left _ hz, z1, z2, z3⟩
       · simp at hz; subst hz
         exact ⟨⟨z.subj, z.from_, z.to + 1⟩, by simp, z1, by simp; omega, z3⟩
     · exact ⟨⟨x.subj, x.from_, x.to + 1⟩, by simp, by simp; omega, by simp; omega, hx⟩
   · rename_i hx
     refine ⟨chainD_snoc.2 ⟨h1, by rw [lastTo_snoc], by simp; omega, by rw [lastSubj_snoc]; simpa using hx⟩, by rw [lastTo_snoc]; simp; omega, fun o y hy => ?_⟩
     rcases split_ o y hy with h | ⟨rfl, rfl⟩
     · obtain ⟨z, hz, z1, z2, z3⟩ := h3 o y h
       exact ⟨z, List.mem_append_left _ hz, z1, z2, z3⟩
     · exact ⟨⟨y, x.to, x.to + 1⟩, by simp, by simp; omega, by simp; omega, rfl⟩
theorem Good.rows {ts : List ByteArray} : ∀ {l : List Slot} {us : List ByteArray}, Good l us → Good (rowFrom l ts) (us ++ ts) := by
 induction ts with
 | nil => intro l us h; simpa [rowFrom] using h
 | cons s ts ih =>
  intro l us h
  have := ih (h.run s)
  rwa [List.append_assoc] at this
theorem fill_ticks {M : Nat} {l : List Slot} {ts : List ByteArray} (h : Good l ts) : fill M l = rowFrom l (List.replicate (M - ts.length) ByteArray.empty) := by
 unfold fill
 rw [endOf_last, h.last]
 split
 · rename_i h0
   rw [show (M : Int) - (ts.length : Int) = ((M - ts.length : Nat) : Int) by omega, run_tick _ _ (by omega)]
 · rw [show M - ts.length = 0 by omega]; rfl
def runTicks (M : Nat) (xs : List Run) : List ByteArray := expand xs ++ List.replicate (M - sumBud xs) ByteArray.empty
theorem runs_row {M : Nat} {xs : List Run} (h : ∀ r ∈ xs, 1 ≤ r.bud) : fill M (rowRuns [] xs) = rowFrom [] (runTicks M xs) := by
 rw [rowRuns_ticks h]
 have hg := Good.rows (ts := expand xs) good_nil
 rw [List.nil_append] at hg
 rw [fill_ticks hg, runTicks, rowFrom_append, expand_length]
end Ln
end Go.Proofs.YtpblcjipmoblnaaGreatDoor
namespace Go.Proofs.YtpblcjipmoblnaaGreatDoor
namespace Edf
def sumTo : Nat → (Nat → Nat) → Nat
 | 0, _ => 0
 | n + 1, f => sumTo n f + f n
theorem sumTo_le {n : Nat} {f g : Nat → Nat} (h : ∀ i, i < n → f i ≤ g i) : sumTo n f ≤ sumTo n g := by
 induction n with
 | zero => exact Nat.le_refl _
 | succ n ih => simp only [sumTo]; exact Nat.add_le_add (ih fun i hi => h i (by omega)) (h n (by omega))
theorem sumTo_lt {n : Nat} {f g : Nat → Nat} (h : ∀ i, i < n → f i ≤ g i) {k : Nat} (hk : k < n) (hlt : f k < g k) : sumTo n f < sumTo n g := by
 induction n with
 | zero => omega
 | succ n ih =>
  simp only [sumTo]
  rcases Nat.lt_or_ge k n with h1 | h1
  · have := ih (fun i hi => h i (by omega)) h1
    have := h n (by omega)
    omega
  · obtain rfl : k = n := by omega
    have := sumTo_le (n := k) (fun i hi => h i (by omega))
    omega
theorem le_sumTo {n : Nat} {f : Nat → Nat} {k : Nat} (hk : k < n) : f k ≤ sumTo n f := by
 induction n with
 | zero => omega
 | succ n ih =>
  simp only [sumTo]
  rcases Nat.lt_or_ge k n with h1 | h1
  · have := ih h1; omega
  · obtain rfl : k = n := by omega
    omega
theorem sumTo_mul {n : Nat} {f : Nat → Nat} {c : Nat} : sumTo n (fun i => f i * c) = sumTo n f * c := by
 induction n with
 | zero => simp [sumTo]
 | succ n ih => simp only [sumTo, ih, Nat.add_mul]
section
variable (n : Nat) (p b : Nat → Nat)
def due (t i : Nat) : Nat := (t / p i + 1) * p i
def rel (t : Nat) (L : Nat → Nat) (i : Nat) : Nat := if t % p i = 0 then b i else L i
def pick (t : Nat) (L : Nat → Nat) : Nat → Option Nat
 | 0 => none
 | m + 1 => match pick t L m with
  | none => if 0 < L m then some m else none
  | some k => if 0 < L m ∧ due p t m < due p t k then some m else some k
def dec (L : Nat → Nat) (o : Option Nat) (i : Nat) : Nat := if o = some i then L i - 1 else L i
def st : Nat → Nat → Nat
 | 0 => fun _ => 0
 | t + 1 => dec (rel p b t (st t)) (pick p t (rel p b t (st t)) n)
def who (t : Nat) : Option Nat := pick p t (rel p b t (st n p b t)) n
end
variable {n : Nat} {p b : Nat → Nat}
theorem pick_none {t : Nat} {L : Nat → Nat} : ∀ {m : Nat}, pick p t L m = none → ∀ i, i < m → L i = 0 := by
 intro m
 induction m with
 | zero => intro _ i hi; omega
 | succ m ih =>
  intro h i hi
  simp only [pick] at h
  split at h
  · rename_i h0
    split at h
    · simp at h
    · rcases Nat.lt_or_ge i m with h1 | h1
      · exact ih h0 i h1
      · obtain rfl : i = m := by omega
        omega
  · split at h <;> simp at h
theorem pick_some {t : Nat} {L : Nat → Nat} : ∀ {m k : Nat}, pick p t L m = some k → k < m ∧ 0 < L k ∧ ∀ i, i < m → 0 < L i → due p t k < due p t i ∨ due p t k = due p t i ∧ k ≤ i := by
 intro m
 induction m with
 | zero => intro k h; simp [pick] at h
 | succ m ih =>
  intro k h
  simp only [pick] at h
  split at h
  · rename_i h0
    split at h
    · injection h with h
      subst h
      refine ⟨by omega, by assumption, fun i hi hl => ?_⟩
      rcases Nat.lt_or_ge i m with h1 | h1
      · have := pick_none h0 i h1; omega
      · obtain rfl : i = m := by omega
        exact .inr ⟨rfl, Nat.le_refl _⟩
    · simp at h
  · rename_i q h0
    obtain ⟨h1, h2, h3⟩ := ih h0
    split at h
    · rename_i hc
      injection h with h
      subst h
      refine ⟨by omega, hc.1, fun i hi hl => ?_⟩
      rcases Nat.lt_or_ge i m with h4 | h4
      · have := h3 i h4 hl; omega
      · obtain rfl : i = m := by omega
        exact .inr ⟨rfl, Nat.le_refl _⟩
    · rename_i hc
      injection h with h
      subst h
      refine ⟨by omega, h2, fun i hi hl => ?_⟩
      rcases Nat.lt_or_ge i m with h4 | h4
      · exact h3 i h4 hl
      · obtain rfl : i = m := by omega
        have : ¬ due p t i < due p t q := fun h => hc ⟨hl, h⟩
        omega
theorem pick_eq {t : Nat} {L : Nat → Nat} {m k : Nat} (hk : k < m) (h0 : 0 < L k) (h : ∀ i, i < m → 0 < L i → due p t k < due p t i ∨ due p t k = due p t i ∧ k ≤ i) : pick p t L m = some k := by
 rcases hp : pick p t L m with _ | q
 · have := pick_none hp k hk; omega
 · obtain ⟨h1, h2, h3⟩ := pick_some hp
   have a1 := h q h1 h2
   have a2 := h3 k hk h0
   have : k = q := by omega
   rw [this]
theorem pick_eq_none {t : Nat} {L : Nat → Nat} {m : Nat} (h : ∀ i, i < m → L i = 0) : pick p t L m = none := by
 rcases hp : pick p t L m with _ | q
 · rfl
 · obtain ⟨h1, h2, _⟩ := pick_some hp
   have := h q h1
   omega
def work (p b : Nat → Nat) (t d l i : Nat) : Nat := (if t / p i + 1 ≤ d / p i then l else 0) + b i * (d / p i - (t / p i + 1))
def Fits (n : Nat) (p b : Nat → Nat) : Prop := ∀ (c : Nat → Nat) (D : Nat), (∀ i, i < n → c i * p i ≤ D) → sumTo n (fun i => b i * c i) ≤ D
theorem fits_of {M : Nat} (hM : 0 < M) (hp : ∀ i, i < n → 1 ≤ p i ∧ M % p i = 0) (hs : sumTo n (fun i => b i * (M / p i)) ≤ M) : Fits n p b := by
 intro c D hc
 have h1 : sumTo n (fun i => b i * c i) * M ≤ D * M := by
  rw [← sumTo_mul]
  have h2 : sumTo n (fun i => b i * c i * M) ≤ sumTo n (fun i => b i * (M / p i) * D) := sumTo_le fun i hi => by
   obtain ⟨h3, h4⟩ := hp i hi
   have h5 : M = M / p i * p i := by have := Nat.div_add_mod M (p i); rw [h4, Nat.add_zero, Nat.mul_comm] at this; exact this.symm
   calc b i * c i * M = b i * c i * (M / p i * p i) := by rw [← h5]
    _ = b i * (M / p i) * (c i * p i) := by simp only [Nat.mul_assoc, Nat.mul_left_comm, Nat.mul_comm]
    _ ≤ b i * (M / p i) * D := Nat.mul_le_mul_left _ (hc i hi)
  refine Nat.le_trans h2 ?_
  rw [sumTo_mul, Nat.mul_comm]
  exact Nat.mul_le_mul_left _ hs
 exact Nat.le_of_mul_le_mul_right h1 hM
theorem work_next {t d l i : Nat} (hp : 1 ≤ p i) (hbl : True) : work p b (t + 1) d (if (t + 1) % p i = 0 then b i else l) i ≤ work p b t d l i := by
 unfold work
 by_cases h : (t + 1) % p i = 0
 · rw [if_pos h]
   have e : (t + 1) / p i = t / p i + 1 := by
    have h1 := Nat.succ_div (a := t) (b := p i)
    rw [if_pos (Nat.dvd_of_mod_eq_zero h)] at h1
    exact h1
   rw [e]
   split
   · have : d / p i - (t / p i + 1) = (d / p i - (t / p i + 1 + 1)) + 1 := by omega
     rw [this, Nat.mul_add]
     split <;> omega
   · have : d / p i - (t / p i + 1 + 1) = 0 := by omega
     rw [this]; simp
 · rw [if_neg h]
   have e : (t + 1) / p i = t / p i := by
    have h1 := Nat.succ_div (a := t) (b := p i)
    rw [if_neg (fun hd => h (Nat.mod_eq_zero_of_dvd hd))] at h1
    exact h1
   rw [e]; exact Nat.le_refl _
theorem after_tick (hf : Fits n p b) (hp : ∀ i, i < n → 1 ≤ p i) {t d : Nat} (htd : t < d) {L : Nat → Nat} (h : sumTo n (fun i => work p b t d (L i) i) ≤ d - t) :
 sumTo n (fun i => work p b t d (dec L (pick p t L n) i) i) ≤ d - (t + 1) := by
 have hdue : ∀ i, i < n → (due p t i ≤ d ↔ t / p i + 1 ≤ d / p i) := fun i hi => by
  unfold due
  exact (Nat.le_div_iff_mul_le (hp i hi)).symm
 have hle : ∀ i, i < n → work p b t d (dec L (pick p t L n) i) i ≤ work p b t d (L i) i := fun i _ => by
  unfold work dec
  split
  · split <;> omega
  · exact Nat.le_refl _
 by_cases hk : ∃ k, pick p t L n = some k ∧ due p t k ≤ d
 · obtain ⟨k, hk, hkd⟩ := hk
   obtain ⟨h1, h2, _⟩ := pick_some hk
   have := sumTo_lt hle h1 (by
    unfold work dec
    rw [if_pos hk, if_pos ((hdue k h1).1 hkd), if_pos ((hdue k h1).1 hkd)]
    omega)
   omega
 · have hz : ∀ i, i < n → t / p i + 1 ≤ d / p i → L i = 0 := fun i hi hd => by
    rcases Nat.eq_zero_or_pos (L i) with h0 | h0
    · exact h0
    · rcases hq : pick p t L n with _ | k
      · exact pick_none hq i hi
      · obtain ⟨h1, h2, h3⟩ := pick_some hq
        have h4 := h3 i hi h0
        have h5 := (hdue i hi).2 hd
        exact absurd ⟨k, hq, by omega⟩ hk
   have h6 : sumTo n (fun i => work p b t d (dec L (pick p t L n) i) i) ≤ sumTo n (fun i => b i * (d / p i - (t / p i + 1))) := sumTo_le fun i hi => by
    refine Nat.le_trans (hle i hi) ?_
    unfold work
    split
    · rename_i hd
      rw [hz i hi hd]; omega
    · omega
   refine Nat.le_trans h6 (hf _ _ fun i hi => ?_)
   have h7 := Nat.div_add_mod t (p i)
   have h8 := Nat.mod_lt t (hp i hi)
   have h9 := Nat.div_mul_le_self d (p i)
   rw [Nat.sub_mul, Nat.add_mul, Nat.one_mul]
   rw [Nat.mul_comm] at h7
   omega
theorem inv (hf : Fits n p b) (hp : ∀ i, i < n → 1 ≤ p i) : ∀ (t d : Nat), t ≤ d → sumTo n (fun i => work p b t d (rel p b t (st n p b t) i) i) ≤ d - t := by
 intro t
 induction t with
 | zero =>
  intro d _
  refine Nat.le_trans (sumTo_le fun i hi => ?_) (hf (fun i => d / p i) d fun i hi => Nat.div_mul_le_self d (p i))
  unfold work rel
  rw [if_pos (Nat.zero_mod _), Nat.zero_div]
  split
  · have : d / p i = (d / p i - (0 + 1)) + 1 := by omega
    rw [this, Nat.mul_add]
    simp only [Nat.add_sub_cancel]
    omega
  · rename_i hd
    have : d / p i = 0 := Nat.eq_zero_of_not_pos fun h => hd h
    rw [this]; simp
 | succ t ih =>
  intro d hd
  refine Nat.le_trans (sumTo_le fun i hi => ?_) (after_tick hf hp (t := t) (d := d) (by omega) (ih d (by omega)))
  exact work_next (hp i hi) trivial
theorem on_time (hf : Fits n p b) (hp : ∀ i, i < n → 1 ≤ p i) {t i : Nat} (hi : i < n) (hr : t % p i = 0) : st n p b t i = 0 := by
 cases t with
 | zero => rfl
 | succ t =>
  have h1 := after_tick hf hp (t := t) (d := t + 1) (by omega) (inv hf hp t (t + 1) (by omega))
  have h2 := le_sumTo (f := fun i => work p b t (t + 1) (dec (rel p b t (st n p b t)) (pick p t (rel p b t (st n p b t)) n) i) i) hi
  have e : (t + 1) / p i = t / p i + 1 := by
   have h1 := Nat.succ_div (a := t) (b := p i)
   rw [if_pos (Nat.dvd_of_mod_eq_zero hr)] at h1
   exact h1
  have h3 : work p b t (t + 1) (st n p b (t + 1) i) i = st n p b (t + 1) i + b i * (t / p i + 1 - (t / p i + 1)) := by
   unfold work; rw [e, if_pos (Nat.le_refl _)]
  have h4 : work p b t (t + 1) (st n p b (t + 1) i) i ≤ 0 := Nat.le_trans h2 (Nat.le_trans h1 (by omega))
  omega
end Edf
end Go.Proofs.YtpblcjipmoblnaaGreatDoor
namespace Go.Proofs.YtpblcjipmoblnaaGreatDoor
open Go Go.RowKit
namespace Edf
open Ln
def set1 (L : Nat → Nat) (k v : Nat) (i : Nat) : Nat := if i = k then v else L i
def jobsOf (L D : Nat → Nat) : Nat → List Job
 | 0 => []
 | m + 1 => jobsOf L D m ++ (if 0 < L m then [⟨m, D m, L m⟩] else [])
def nextOf (N : Nat → Nat) : Nat → List Job
 | 0 => []
 | m + 1 => nextOf N m ++ [⟨m, N m, 0⟩]
def othOf (N : Nat → Nat) (k : Nat) : Nat → List Job
 | 0 => []
 | m + 1 => othOf N k m ++ (if m = k then [] else [⟨m, N m, 0⟩])
theorem jobsOf_mem {L D : Nat → Nat} {x : Job} : ∀ {n : Nat}, x ∈ jobsOf L D n ↔ ∃ i, i < n ∧ 0 < L i ∧ x = ⟨i, D i, L i⟩ := by
 intro n
 induction n with
 | zero => simp [jobsOf]
 | succ n ih =>
  simp only [jobsOf, List.mem_append, ih]
  constructor
  · rintro (⟨i, h1, h2, h3⟩ | h)
    · exact ⟨i, by omega, h2, h3⟩
    · split at h
      · simp at h; exact ⟨n, by omega, by assumption, h⟩
      · simp at h
  · rintro ⟨i, h1, h2, h3⟩
    rcases Nat.lt_or_ge i n with h | h
    · exact .inl ⟨i, h, h2, h3⟩
    · obtain rfl : i = n := by omega
      exact .inr (by rw [if_pos h2]; simp [h3])
theorem nextOf_mem {N : Nat → Nat} {x : Job} : ∀ {n : Nat}, x ∈ nextOf N n ↔ ∃ i, i < n ∧ x = ⟨i, N i, 0⟩ := by
 intro n
 induction n with
 | zero => simp [nextOf]
 | succ n ih =>
  simp only [nextOf, List.mem_append, ih, List.mem_singleton]
  constructor
  · rintro (⟨i, h1, h3⟩ | h)
    · exact ⟨i, by omega, h3⟩
    · exact ⟨n, by omega, h⟩
  · rintro ⟨i, h1, h3⟩
    rcases Nat.lt_or_ge i n with h | h
    · exact .inl ⟨i, h, h3⟩
    · obtain rfl : i = n := by omega
      exact .inr h3
theorem jobsOf_congr {L L' D D' : Nat → Nat} : ∀ {n : Nat}, (∀ i, i < n → L i = L' i) → (∀ i, i < n → 0 < L i → D i = D' i) → jobsOf L D n = jobsOf L' D' n := by
 intro n
 induction n with
 | zero => intro _ _; rfl
 | succ n ih =>
  intro h1 h2
  simp only [jobsOf]
  rw [ih (fun i hi => h1 i (by omega)) (fun i hi => h2 i (by omega)), ← h1 n (by omega)]
  split
  · rename_i h; rw [h2 n (by omega) h]
  · rfl
theorem nextOf_congr {N N' : Nat → Nat} : ∀ {n : Nat}, (∀ i, i < n → N i = N' i) → nextOf N n = nextOf N' n := by
 intro n
 induction n with
 | zero => intro _; rfl
 | succ n ih =>
  intro h1
  simp only [nextOf]
  rw [ih (fun i hi => h1 i (by omega)), h1 n (by omega)]
theorem othOf_congr {N N' : Nat → Nat} {k : Nat} : ∀ {n : Nat}, (∀ i, i < n → i ≠ k → N i = N' i) → othOf N k n = othOf N' k n := by
 intro n
 induction n with
 | zero => intro _; rfl
 | succ n ih =>
  intro h1
  simp only [othOf]
  rw [ih (fun i hi => h1 i (by omega))]
  split
  · rfl
  · rename_i h; rw [h1 n (by omega) h]
theorem nextOf_length (N : Nat → Nat) (n : Nat) : (nextOf N n).length = n := by
 induction n with
 | zero => rfl
 | succ n ih => simp [nextOf, ih]
theorem jobsOf_length (L D : Nat → Nat) (n : Nat) : (jobsOf L D n).length ≤ n := by
 induction n with
 | zero => simp [jobsOf]
 | succ n ih => simp only [jobsOf, List.length_append]; split <;> simp <;> omega
theorem jobsOf_add {L D : Nat → Nat} {k v : Nat} (h0 : L k = 0) (hv : 0 < v) : ∀ {n : Nat}, k < n → (jobsOf (set1 L k v) D n).Perm (⟨k, D k, v⟩ :: jobsOf L D n) := by
 intro n
 induction n with
 | zero => intro h; omega
 | succ n ih =>
  intro hk
  simp only [jobsOf]
  rcases Nat.lt_or_ge k n with h | h
  · have e : set1 L k v n = L n := by unfold set1; rw [if_neg (by omega)]
    rw [e]
    exact (ih h).append_right _
  · obtain rfl : k = n := by omega
    have e : jobsOf (set1 L k v) D k = jobsOf L D k := jobsOf_congr (fun i hi => by unfold set1; rw [if_neg (by omega)]) (fun i hi _ => rfl)
    have e2 : set1 L k v k = v := by unfold set1; rw [if_pos rfl]
    rw [e, e2, if_pos hv, if_neg (by omega), List.append_nil]
    exact List.perm_append_singleton _ _
theorem jobsOf_del {L D : Nat → Nat} {k n : Nat} (hk : k < n) (h0 : 0 < L k) : (jobsOf L D n).Perm (⟨k, D k, L k⟩ :: jobsOf (set1 L k 0) D n) := by
 have h := jobsOf_add (L := set1 L k 0) (D := D) (k := k) (v := L k) (by unfold set1; rw [if_pos rfl]) h0 hk
 rwa [jobsOf_congr (L := set1 (set1 L k 0) k (L k)) (L' := L) (fun i _ => by unfold set1; split <;> simp_all) (fun i _ _ => rfl)] at h
theorem nextOf_split {N : Nat → Nat} {k : Nat} : ∀ {n : Nat}, k < n → (nextOf N n).Perm (⟨k, N k, 0⟩ :: othOf N k n) := by
 intro n
 induction n with
 | zero => intro h; omega
 | succ n ih =>
  intro hk
  simp only [nextOf, othOf]
  rcases Nat.lt_or_ge k n with h | h
  · rw [if_neg (by omega)]
    exact (ih h).append_right _
  · obtain rfl : k = n := by omega
    have e : ∀ m, m ≤ k → othOf N k m = nextOf N m := by
     intro m
     induction m with
     | zero => intro _; rfl
     | succ m ihm =>
      intro hm
      simp only [othOf, nextOf]
      rw [ihm (by omega), if_neg (by omega)]
    rw [if_pos rfl, List.append_nil, e k (Nat.le_refl _)]
    exact List.perm_append_singleton _ _
theorem nextOf_set {N : Nat → Nat} {k v n : Nat} (hk : k < n) : (nextOf (set1 N k v) n).Perm (⟨k, v, 0⟩ :: othOf N k n) := by
 have h := nextOf_split (N := set1 N k v) hk
 rw [show set1 N k v k = v by unfold set1; rw [if_pos rfl]] at h
 rwa [othOf_congr (N := set1 N k v) (N' := N) (fun i _ hi => by unfold set1; rw [if_neg hi])] at h
theorem set_root {l : List Job} {r r' : Job} (h : l[0]? = some r) : ∃ tl, l = r :: tl ∧ l.set 0 r' = r' :: tl := by
 cases l with
 | nil => simp at h
 | cons x tl => simp at h; subst h; exact ⟨tl, rfl, rfl⟩
theorem next_root {N : Nat → Nat} {n : Nat} {l : List Job} {r : Job} (hp : l.Perm (nextOf N n)) (hh : IsHeap l l.length) (hr : l[0]? = some r) :
 ∃ k, k < n ∧ r = ⟨k, N k, 0⟩ ∧ ∀ i, i < n → N k ≤ N i := by
 obtain ⟨k, hk, hrk⟩ := nextOf_mem.1 (hp.mem_iff.1 (List.mem_of_getElem? hr))
 refine ⟨k, hk, hrk, fun i hi => ?_⟩
 obtain ⟨q, hq⟩ := List.getElem?_of_mem (hp.mem_iff.2 (nextOf_mem.2 ⟨i, hi, rfl⟩))
 have := hh.root (Nat.le_refl _) q _ r (List.getElem?_eq_some_iff.1 hq).1 hq hr
 subst hrk
 unfold jlt at this
 simp only at this
 omega
theorem wait_root {p : Nat → Nat} {t : Nat} {L : Nat → Nat} {n : Nat} {l : List Job} {r : Job} (hp : l.Perm (jobsOf L (due p t) n)) (hh : IsHeap l l.length) (hr : l[0]? = some r) :
 ∃ k, k < n ∧ 0 < L k ∧ r = ⟨k, due p t k, L k⟩ ∧ pick p t L n = some k := by
 obtain ⟨k, hk, hk0, hrk⟩ := jobsOf_mem.1 (hp.mem_iff.1 (List.mem_of_getElem? hr))
 refine ⟨k, hk, hk0, hrk, pick_eq hk hk0 fun i hi hi0 => ?_⟩
 obtain ⟨q, hq⟩ := List.getElem?_of_mem (hp.mem_iff.2 (jobsOf_mem.2 ⟨i, hi, hi0, rfl⟩))
 have := hh.root (Nat.le_refl _) q _ r (List.getElem?_eq_some_iff.1 hq).1 hq hr
 subst hrk
 unfold jlt at this
 simp only at this
 omega
theorem heap_set_same {l : List Job} {n : Nat} {r : Job} {c : Int} (hh : IsHeap l n) (hr : l[0]? = some r) : IsHeap (l.set 0 ⟨r.need, r.due, c⟩) n := by
 intro k x y h0 h1 hx hy
 rw [List.getElem?_set_ne (by omega)] at hx
 rcases Nat.eq_zero_or_pos ((k - 1) / 2) with h | h
 · rw [h, List.getElem?_set_self (List.getElem?_eq_some_iff.1 hr).1] at hy
   injection hy with hy
   have := hh k x r h0 h1 hx (by rw [h]; exact hr)
   subst hy
   unfold jlt at *
   exact this
 · rw [List.getElem?_set_ne (by omega)] at hy
   exact hh k x y h0 h1 hx hy
theorem heap_set_under {l : List Job} {n : Nat} {r' : Job} (hh : IsHeap l n) : HeapUnder (l.set 0 r') n 0 := by
 refine ⟨fun k x y h0 h1 h2 hx hy => ?_, fun k a b _ _ _ h _ _ => by omega⟩
 rw [List.getElem?_set_ne (by omega)] at hx
 rw [List.getElem?_set_ne (by omega)] at hy
 exact hh k x y h0 h1 hx hy
end Edf
end Go.Proofs.YtpblcjipmoblnaaGreatDoor
namespace Go.Proofs.YtpblcjipmoblnaaGreatDoor
open Go Go.RowKit
namespace Edf
open Ln
variable {n : Nat} {p b : Nat → Nat}
theorem due_gt {t i : Nat} (hp : 1 ≤ p i) : t < due p t i := by
 unfold due
 have h1 := Nat.div_add_mod t (p i)
 have h2 := Nat.mod_lt t hp
 rw [Nat.add_mul, Nat.one_mul, Nat.mul_comm]
 omega
theorem due_same {t t' i : Nat} (hp : 1 ≤ p i) (h1 : t ≤ t') (h2 : t' < due p t i) : due p t' i = due p t i := by
 have h3 : t / p i ≤ t' / p i := Nat.div_le_div_right h1
 have h4 : t' / p i < t / p i + 1 := (Nat.div_lt_iff_lt_mul hp).2 h2
 have h5 : t' / p i = t / p i := by omega
 unfold due; rw [h5]
theorem due_mult {t t' i : Nat} (hp : 1 ≤ p i) (h1 : t < t') (h2 : t' ≤ due p t i) (h3 : t' % p i = 0) : t' = due p t i := by
 rcases Nat.lt_or_ge t' (due p t i) with h | h
 · have h4 : t / p i ≤ t' / p i := Nat.div_le_div_right (by omega)
   have h5 : t' / p i < t / p i + 1 := (Nat.div_lt_iff_lt_mul hp).2 h
   have h6 : t' / p i = t / p i := by omega
   have h7 := Nat.div_add_mod t' (p i)
   have h8 := Nat.div_add_mod t (p i)
   rw [h6] at h7
   omega
 · omega
theorem due_at {t i : Nat} (h : t % p i = 0) : due p t i = t + p i := by
 unfold due
 have h1 := Nat.div_add_mod t (p i)
 rw [Nat.add_mul, Nat.one_mul, Nat.mul_comm]
 omega
def nx (p : Nat → Nat) (t i : Nat) : Nat := if t % p i = 0 then t else due p t i
structure HeadInv (n : Nat) (p b : Nat → Nat) (t : Nat) (wl nl : List Job) : Prop where
 wait : wl.Perm (jobsOf (st n p b t) (due p t) n)
 next : nl.Perm (nextOf (nx p t) n)
structure RelInv (n : Nat) (p b : Nat → Nat) (t : Nat) (L N : Nat → Nat) (wl nl : List Job) : Prop where
 wait : wl.Perm (jobsOf L (due p t) n)
 next : nl.Perm (nextOf N n)
 off : ∀ i, i < n → t % p i ≠ 0 → L i = st n p b t i ∧ N i = due p t i
 on : ∀ i, i < n → t % p i = 0 → (L i = 0 ∧ N i = t) ∨ (L i = b i ∧ N i = due p t i)
structure AfterInv (n : Nat) (p b : Nat → Nat) (t : Nat) (wl nl : List Job) : Prop where
 wait : wl.Perm (jobsOf (rel p b t (st n p b t)) (due p t) n)
 next : nl.Perm (nextOf (due p t) n)
def todo (n t : Nat) (N : Nat → Nat) : Nat := sumTo n fun i => if N i = t then 1 else 0
theorem headInv_zero {wl nl : List Job} (hw : wl = []) (hn : nl.Perm (nextOf (fun _ => 0) n)) : HeadInv n p b 0 wl nl := by
 refine ⟨?_, ?_⟩
 · have e : ∀ m, jobsOf (st n p b 0) (due p 0) m = [] := fun m => by
    induction m with
    | zero => rfl
    | succ m ih => simp only [jobsOf, ih]; rfl
   rw [hw, e]
 · rw [nextOf_congr (N' := fun _ => 0) (fun i _ => by unfold nx; rw [if_pos (Nat.zero_mod _)])]
   exact hn
theorem HeadInv.rel (hf : Fits n p b) (hp : ∀ i, i < n → 1 ≤ p i) {t : Nat} {wl nl : List Job} (h : HeadInv n p b t wl nl) : RelInv n p b t (st n p b t) (nx p t) wl nl :=
 ⟨h.wait, h.next, fun i _ ht => ⟨rfl, by unfold nx; rw [if_neg ht]⟩, fun i hi ht => .inl ⟨on_time hf hp hi ht, by unfold nx; rw [if_pos ht]⟩⟩
theorem RelInv.step (hp : ∀ i, i < n → 1 ≤ p i ∧ 1 ≤ b i) {t : Nat} {L N : Nat → Nat} {wl nl : List Job} {r : Job} (h : RelInv n p b t L N wl nl) (hh : IsHeap nl nl.length) (hr : nl[0]? = some r) (hd : r.due = t) :
 ∃ k, k < n ∧ r.need = k ∧ ∀ wl' nl', wl'.Perm (wl ++ [⟨k, ((t + p k : Nat) : Int), b k⟩]) → nl'.Perm (nl.set 0 ⟨k, ((t + p k : Nat) : Int), 0⟩) →
  RelInv n p b t (set1 L k (b k)) (set1 N k (t + p k)) wl' nl' ∧ todo n t (set1 N k (t + p k)) < todo n t N := by
 obtain ⟨k, hk, hrk, hmin⟩ := next_root h.next hh hr
 have hNk : N k = t := by rw [hrk] at hd; simp only at hd; omega
 have hpk := (hp k hk).1
 have htk : t % p k = 0 := by
  rcases Nat.eq_zero_or_pos (t % p k) with h0 | h0
  · exact h0
  · have h1 := (h.off k hk (by omega)).2
    have := due_gt (p := p) (t := t) hpk
    omega
 have hLk : L k = 0 := by
  rcases h.on k hk htk with h0 | h0
  · exact h0.1
  · have := due_gt (p := p) (t := t) hpk
    omega
 have hdk := due_at (p := p) (i := k) htk
 refine ⟨k, hk, by rw [hrk], fun wl' nl' hw hn => ⟨⟨?_, ?_, ?_, ?_⟩, ?_⟩⟩
 · have h1 := jobsOf_add (L := L) (D := due p t) (v := b k) hLk (hp k hk).2 hk
   rw [hdk] at h1
   exact (hw.trans (List.perm_append_singleton _ _)).trans ((h.wait.cons _).trans h1.symm)
 · obtain ⟨tl, h1, h2⟩ := set_root (r' := ⟨k, ((t + p k : Nat) : Int), 0⟩) hr
   rw [h2] at hn
   have h3 : (r :: tl).Perm (⟨k, N k, 0⟩ :: othOf N k n) := by rw [← h1]; exact h.next.trans (nextOf_split hk)
   rw [hrk] at h3
   exact hn.trans (((List.perm_cons _).1 h3).cons _ |>.trans (nextOf_set hk).symm)
 · intro i hi ht
   have hik : i ≠ k := by rintro rfl; exact ht htk
   unfold set1
   rw [if_neg hik, if_neg hik]
   exact h.off i hi ht
 · intro i hi ht
   unfold set1
   by_cases hik : i = k
   · subst hik; rw [if_pos rfl, if_pos rfl]; exact .inr ⟨rfl, hdk.symm⟩
   · rw [if_neg hik, if_neg hik]; exact h.on i hi ht
 · refine sumTo_lt (fun i _ => ?_) hk ?_
   · unfold set1
     by_cases hik : i = k
     · subst hik; rw [if_pos rfl, if_neg (by omega)]; omega
     · rw [if_neg hik]; exact Nat.le_refl _
   · simp only [set1, if_pos hNk]; rw [if_pos trivial, if_neg (by omega)]; omega
theorem RelInv.after (hp : ∀ i, i < n → 1 ≤ p i) {t : Nat} {L N : Nat → Nat} {wl nl : List Job} (h : RelInv n p b t L N wl nl) (hh : IsHeap nl nl.length) (hd : ∀ r : Job, nl[0]? = some r → r.due ≠ (t : Int)) : AfterInv n p b t wl nl := by
 have hN : ∀ i, i < n → N i ≠ t := by
  intro i hi
  have hl : nl.length = n := by rw [h.next.length_eq, nextOf_length]
  obtain ⟨r, hr⟩ : ∃ r, nl[0]? = some r := ⟨_, List.getElem?_eq_getElem (by omega)⟩
  obtain ⟨k, hk, hrk, hmin⟩ := next_root h.next hh hr
  have h1 := hd r hr
  rw [hrk] at h1
  simp only at h1
  have h2 := hmin i hi
  have h3 : t ≤ N k := by
   have h4 := due_gt (p := p) (t := t) (hp k hk)
   rcases Nat.eq_zero_or_pos (t % p k) with h0 | h0
   · rcases h.on k hk h0 with h5 | h5 <;> omega
   · have := (h.off k hk (by omega)).2; omega
  omega
 refine ⟨?_, ?_⟩
 · have e := jobsOf_congr (L := L) (L' := rel p b t (st n p b t)) (D := due p t) (D' := due p t) (n := n) (fun i hi => ?_) (fun i _ _ => rfl)
   · rw [← e]; exact h.wait
   · unfold rel
     split
     · rename_i h0
       rcases h.on i hi h0 with h5 | h5
       · exact absurd h5.2 (hN i hi)
       · exact h5.1
     · rename_i h0; exact (h.off i hi h0).1
 · have e := nextOf_congr (N := N) (N' := due p t) (n := n) (fun i hi => ?_)
   · rw [← e]; exact h.next
   · rcases Nat.eq_zero_or_pos (t % p i) with h0 | h0
     · rcases h.on i hi h0 with h5 | h5
       · exact absurd h5.2 (hN i hi)
       · exact h5.2
     · exact (h.off i hi (by omega)).2
theorem batch (hp : ∀ i, i < n → 1 ≤ p i) {t k c : Nat} (hk : pick p t (rel p b t (st n p b t)) n = some k) (hc : c ≤ rel p b t (st n p b t) k) (hu : ∀ i, i < n → t + c ≤ due p t i) :
 ∀ s, s ≤ c → (1 ≤ s → ∀ i, i < n → st n p b (t + s) i = if i = k then rel p b t (st n p b t) k - s else rel p b t (st n p b t) i) ∧ (s < c → who n p b (t + s) = some k) := by
 obtain ⟨k1, k2, k3⟩ := pick_some hk
 intro s
 induction s with
 | zero => intro _; exact ⟨fun h => by omega, fun _ => hk⟩
 | succ s ih =>
  intro hs
  obtain ⟨i1, i2⟩ := ih (by omega)
  have hw := i2 (by omega)
  have hst : ∀ i, i < n → st n p b (t + (s + 1)) i = if i = k then rel p b t (st n p b t) k - (s + 1) else rel p b t (st n p b t) i := by
   intro i hi
   have h1 : st n p b (t + (s + 1)) i = dec (rel p b (t + s) (st n p b (t + s))) (who n p b (t + s)) i := rfl
   have h2 : rel p b (t + s) (st n p b (t + s)) i = if i = k then rel p b t (st n p b t) k - s else rel p b t (st n p b t) i := by
    rcases Nat.eq_zero_or_pos s with h0 | h0
    · subst h0
      rw [Nat.add_zero, Nat.sub_zero]
      split
      · rename_i h; rw [h]
      · rfl
    · rw [← i1 h0 i hi]
      have h4 : (t + s) % p i ≠ 0 := fun h => by
       have := due_mult (p := p) (hp i hi) (t := t) (t' := t + s) (by omega) (by have := hu i hi; omega) h
       have := hu i hi
       omega
      unfold rel
      rw [if_neg h4]
   rw [h1, hw]
   unfold dec
   rw [h2]
   by_cases hik : i = k
   · subst hik; rw [if_pos rfl, if_pos rfl, if_pos rfl]; omega
   · rw [if_neg (fun h => hik (Option.some.inj h).symm), if_neg hik, if_neg hik]
  refine ⟨fun _ => hst, fun hlt => ?_⟩
  have hrel : ∀ i, i < n → rel p b (t + (s + 1)) (st n p b (t + (s + 1))) i = if i = k then rel p b t (st n p b t) k - (s + 1) else rel p b t (st n p b t) i := fun i hi => by
   rw [← hst i hi]
   unfold rel
   rw [if_neg (fun h => by
    have := due_mult (p := p) (hp i hi) (t := t) (t' := t + (s + 1)) (by omega) (by have := hu i hi; omega) h
    have := hu i hi
    omega)]
  have hdue : ∀ i, i < n → due p (t + (s + 1)) i = due p t i := fun i hi => due_same (hp i hi) (by omega) (by have := hu i hi; omega)
  refine pick_eq k1 (by rw [hrel k k1, if_pos rfl]; omega) fun i hi h0 => ?_
  rw [hdue k k1, hdue i hi]
  by_cases hik : i = k
  · subst hik; exact .inr ⟨rfl, Nat.le_refl _⟩
  · rw [hrel i hi, if_neg hik] at h0
    exact k3 i hi h0
theorem idle (hp : ∀ i, i < n → 1 ≤ p i) {t c : Nat} (h0 : ∀ i, i < n → rel p b t (st n p b t) i = 0) (hu : ∀ i, i < n → t + c ≤ due p t i) :
 ∀ s, s ≤ c → (1 ≤ s → ∀ i, i < n → st n p b (t + s) i = 0) ∧ (s < c → who n p b (t + s) = none) := by
 intro s
 induction s with
 | zero => intro _; exact ⟨fun h => by omega, fun _ => pick_eq_none h0⟩
 | succ s ih =>
  intro hs
  obtain ⟨i1, i2⟩ := ih (by omega)
  have hw := i2 (by omega)
  have hst : ∀ i, i < n → st n p b (t + (s + 1)) i = 0 := by
   intro i hi
   have h1 : st n p b (t + (s + 1)) i = dec (rel p b (t + s) (st n p b (t + s))) (who n p b (t + s)) i := rfl
   rw [h1, hw]
   unfold dec
   rw [if_neg (by simp)]
   rcases Nat.eq_zero_or_pos s with h2 | h2
   · subst h2; exact h0 i hi
   · unfold rel
     rw [if_neg (fun h => by
      have := due_mult (p := p) (hp i hi) (t := t) (t' := t + s) (by omega) (by have := hu i hi; omega) h
      have := hu i hi
      omega)]
     exact i1 h2 i hi
  refine ⟨fun _ => hst, fun hlt => pick_eq_none fun i hi => ?_⟩
  unfold rel
  rw [if_neg (fun h => by
   have := due_mult (p := p) (hp i hi) (t := t) (t' := t + (s + 1)) (by omega) (by have := hu i hi; omega) h
   have := hu i hi
   omega)]
  exact hst i hi
theorem head_next (hf : Fits n p b) (hp : ∀ i, i < n → 1 ≤ p i) {t t' : Nat} (ht : t < t') (hu : ∀ i, i < n → t' ≤ due p t i) {wl nl : List Job} (hw : wl.Perm (jobsOf (st n p b t') (due p t) n)) (hn : nl.Perm (nextOf (due p t) n)) : HeadInv n p b t' wl nl := by
 refine ⟨?_, ?_⟩
 · rw [jobsOf_congr (L' := st n p b t') (D' := due p t') (fun i _ => rfl) (fun i hi h0 => ?_)] at hw
   · exact hw
   · rcases Nat.lt_or_ge t' (due p t i) with h | h
     · exact (due_same (hp i hi) (by omega) h).symm
     · have h1 : t' = due p t i := by have := hu i hi; omega
       have h2 : t' % p i = 0 := by rw [h1]; unfold due; exact Nat.mul_mod_left _ _
       rw [on_time hf hp hi h2] at h0
       omega
 · rw [nextOf_congr (N' := nx p t') (fun i hi => ?_)] at hn
   · exact hn
   · unfold nx
     split
     · rename_i h0; exact (due_mult (hp i hi) ht (hu i hi) h0).symm
     · rename_i h0
       have h1 : t' ≠ due p t i := fun h => h0 (by rw [h]; unfold due; exact Nat.mul_mod_left _ _)
       exact (due_same (hp i hi) (by omega) (by have := hu i hi; omega)).symm
def nameOf (sub : Nat → ByteArray) : Option Nat → ByteArray
 | none => ByteArray.empty
 | some k => sub k
def ticks (n : Nat) (p b : Nat → Nat) (sub : Nat → ByteArray) (t : Nat) : List ByteArray := (List.range t).map fun s => nameOf sub (who n p b s)
theorem ticks_more {sub : Nat → ByteArray} {t c : Nat} {o : Option Nat} (h : ∀ s, s < c → who n p b (t + s) = o) : ticks n p b sub (t + c) = ticks n p b sub t ++ List.replicate c (nameOf sub o) := by
 unfold ticks
 rw [List.range_add, List.map_append]
 congr 1
 rw [List.map_map]
 apply List.ext_getElem
 · simp
 · intro i h1 h2
   simp at h1
   simp [h i h1]
theorem rows_more {sub : Nat → ByteArray} {t c : Nat} {o : Option Nat} (h : ∀ s, s < c → who n p b (t + s) = o) (hc : 0 < c) : rowFrom [] (ticks n p b sub (t + c)) = run (rowFrom [] (ticks n p b sub t)) (nameOf sub o) (c : Int) := by
 rw [ticks_more h, rowFrom_append, run_tick _ _ hc]
theorem ticks_length {sub : Nat → ByteArray} (t : Nat) : (ticks n p b sub t).length = t := by simp [ticks]
end Edf
end Go.Proofs.YtpblcjipmoblnaaGreatDoor
namespace Go.Proofs.YtpblcjipmoblnaaGreatDoor
open Go Go.RowKit
namespace Ln
def nP (xs : List Run) (i : Nat) : Nat := match xs[i]? with | some r => r.per | none => 1
def nB (xs : List Run) (i : Nat) : Nat := match xs[i]? with | some r => r.bud | none => 1
def nS (xs : List Run) (i : Nat) : ByteArray := match xs[i]? with | some r => r.subj | none => ByteArray.empty
theorem nP_at {xs : List Run} {i : Nat} {r : Run} (h : xs[i]? = some r) : nP xs i = r.per := by unfold nP; rw [h]
theorem nB_at {xs : List Run} {i : Nat} {r : Run} (h : xs[i]? = some r) : nB xs i = r.bud := by unfold nB; rw [h]
theorem nS_at {xs : List Run} {i : Nat} {r : Run} (h : xs[i]? = some r) : nS xs i = r.subj := by unfold nS; rw [h]
def edf (xs : List Run) (t : Nat) : List Slot := rowFrom [] (Edf.ticks xs.length (nP xs) (nB xs) (nS xs) t)
theorem upTo_ticks (ts : List ByteArray) : ∀ {l : List Slot} {T : Nat}, UpTo T l → UpTo (T + ts.length) (rowFrom l ts) ∧ (rowFrom l ts).length ≤ l.length + ts.length := by
 induction ts with
 | nil => intro l T h; exact ⟨h, Nat.le_refl _⟩
 | cons s ts ih =>
  intro l T h
  have h1 := h.run (by omega) s (t := 1) (by decide)
  obtain ⟨h2, h3⟩ := ih (T := T + 1) (by simpa using h1)
  have h4 := run_length l s 1
  refine ⟨?_, ?_⟩
  · have e : (T : Int) + ((s :: ts).length : Nat) = ((T + 1 : Nat) : Int) + (ts.length : Nat) := by simp; omega
    rw [e]; exact h2
  · have : (rowFrom l (s :: ts)) = rowFrom (run l s 1) ts := rfl
    rw [this]; simp; omega
end Ln
namespace Edf
open Ln
variable {n : Nat} {p b : Nat → Nat}
theorem st_le : ∀ (t i : Nat), st n p b t i ≤ b i := by
 intro t
 induction t with
 | zero => intro i; exact Nat.zero_le _
 | succ t ih =>
  intro i
  have h1 : rel p b t (st n p b t) i ≤ b i := by
   unfold rel
   split
   · exact Nat.le_refl _
   · exact ih i
  show dec (rel p b t (st n p b t)) _ i ≤ b i
  unfold dec
  split <;> omega
theorem rel_le (t i : Nat) : rel p b t (st n p b t) i ≤ b i := by
 unfold rel
 split
 · exact Nat.le_refl _
 · exact st_le t i
theorem AfterInv.busy (hf : Fits n p b) (hp : ∀ i, i < n → 1 ≤ p i) {t : Nat} {wl nl : List Job} {x : Job} (h : AfterInv n p b t wl nl) (hh : IsHeap wl wl.length) (hx : wl[0]? = some x) :
 ∃ k l : Nat, k < n ∧ 0 < l ∧ l ≤ b k ∧ x = ⟨k, due p t k, l⟩ ∧ ∀ c : Nat, 1 ≤ c → c ≤ l → (∀ i, i < n → t + c ≤ due p t i) → (∀ s, s < c → who n p b (t + s) = some k) ∧
  (c < l → HeadInv n p b (t + c) (wl.set 0 ⟨k, due p t k, l - c⟩) nl) ∧ (c = l → ∀ wl', (wl' ++ [⟨k, due p t k, 0⟩]).Perm (wl.set 0 ⟨k, due p t k, 0⟩) → HeadInv n p b (t + c) wl' nl) := by
 obtain ⟨k, hk, hk0, rfl, hpick⟩ := wait_root h.wait hh hx
 refine ⟨k, _, hk, hk0, rel_le t k, rfl, fun c hc1 hcl hu => ?_⟩
 have hb := batch hp hpick hcl hu
 obtain ⟨hst, _⟩ := hb c (Nat.le_refl _)
 have hst := hst hc1
 have hdel := jobsOf_del (L := rel p b t (st n p b t)) (D := due p t) hk hk0
 refine ⟨fun s hs => (hb s (by omega)).2 hs, fun hlt => ?_, fun heq wl' hw' => ?_⟩
 · obtain ⟨tl, h1, h2⟩ := set_root (r' := ⟨k, due p t k, ((rel p b t (st n p b t) k : Nat) : Int) - c⟩) hx
   rw [h2]
   refine head_next hf hp (by omega) hu ?_ h.next
   have h3 : tl.Perm (jobsOf (set1 (rel p b t (st n p b t)) k 0) (due p t) n) := by
    have := h.wait.trans hdel
    rw [h1] at this
    exact (List.perm_cons _).1 this
   have h4 := jobsOf_add (L := set1 (rel p b t (st n p b t)) k 0) (D := due p t) (k := k) (v := rel p b t (st n p b t) k - c) (by simp [set1]) (by omega) hk
   have e : (((rel p b t (st n p b t) k - c : Nat) : Int)) = ((rel p b t (st n p b t) k : Nat) : Int) - c := by omega
   rw [e] at h4
   rw [jobsOf_congr (L' := set1 (set1 (rel p b t (st n p b t)) k 0) k (rel p b t (st n p b t) k - c)) (D' := due p t) (fun i hi => ?_) (fun _ _ _ => rfl)]
   · exact (h3.cons _).trans h4.symm
   · rw [hst i hi]; unfold set1; split <;> rfl
 · obtain ⟨tl, h1, h2⟩ := set_root (r' := ⟨k, due p t k, 0⟩) hx
   rw [h2] at hw'
   refine head_next hf hp (by omega) hu ?_ h.next
   have h3 : tl.Perm (jobsOf (set1 (rel p b t (st n p b t)) k 0) (due p t) n) := by
    have := h.wait.trans hdel
    rw [h1] at this
    exact (List.perm_cons _).1 this
   have h4 : wl'.Perm tl := (List.perm_cons _).1 ((List.perm_append_singleton _ _).symm.trans hw')
   rw [jobsOf_congr (L' := set1 (rel p b t (st n p b t)) k 0) (D' := due p t) (fun i hi => ?_) (fun _ _ _ => rfl)]
   · exact h4.trans h3
   · rw [hst i hi]
     unfold set1
     split
     · omega
     · rfl
theorem AfterInv.idle (hf : Fits n p b) (hp : ∀ i, i < n → 1 ≤ p i) {t : Nat} {wl nl : List Job} (h : AfterInv n p b t wl nl) (hw : wl.length = 0) {c : Nat} (hc : 1 ≤ c) (hu : ∀ i, i < n → t + c ≤ due p t i) :
 (∀ s, s < c → who n p b (t + s) = none) ∧ HeadInv n p b (t + c) wl nl := by
 obtain rfl := List.eq_nil_of_length_eq_zero hw
 have h0 : ∀ i, i < n → rel p b t (st n p b t) i = 0 := fun i hi => by
  rcases Nat.eq_zero_or_pos (rel p b t (st n p b t) i) with h1 | h1
  · exact h1
  · have := h.wait.mem_iff.2 (jobsOf_mem.2 ⟨i, hi, h1, rfl⟩)
    simp at this
 have hi := Edf.idle hp h0 hu
 refine ⟨fun s hs => (hi s (by omega)).2 hs, head_next hf hp (by omega) hu ?_ h.next⟩
 have hst := (hi c (Nat.le_refl _)).1 hc
 have e : jobsOf (st n p b (t + c)) (due p t) n = [] := by
  rcases hj : jobsOf (st n p b (t + c)) (due p t) n with _ | ⟨x, l⟩
  · rfl
  · obtain ⟨i, hi, h1, _⟩ := jobsOf_mem.1 (show x ∈ jobsOf (st n p b (t + c)) (due p t) n by rw [hj]; simp)
    have := hst i hi
    omega
 rw [e]
theorem AfterInv.until (hp : ∀ i, i < n → 1 ≤ p i) {t : Nat} {wl nl : List Job} {r : Job} (h : AfterInv n p b t wl nl) (hh : IsHeap nl nl.length) (hr : nl[0]? = some r) :
 ∃ u : Nat, r.due = u ∧ t < u ∧ ∀ i, i < n → u ≤ due p t i := by
 obtain ⟨k, hk, rfl, hmin⟩ := next_root h.next hh hr
 exact ⟨due p t k, rfl, due_gt (hp k hk), hmin⟩
end Edf
end Go.Proofs.YtpblcjipmoblnaaGreatDoor
namespace Go.Proofs.YtpblcjipmoblnaaGreatDoor
open Go Go.RowKit
namespace Ln
def sumWants (M : Nat) (l : List Run) : Nat := l.foldr (fun r n => wants M r true + n) 0
theorem flatErr_wants {M : Nat} {l : List Run} : ∀ {i s : Nat}, flatErr M true i s l = none → s ≤ M → s + sumWants M l ≤ M := by
 induction l with
 | nil => intro i s _ h; simpa [sumWants] using h
 | cons r l ih =>
  intro i s h hm
  simp only [flatErr] at h
  split at h
  · split at h
    · simp at h
    · have := ih h (by omega)
      simp only [sumWants, List.foldr_cons] at this ⊢
      omega
  · simp at h
theorem sumWants_append (M : Nat) (l m : List Run) : sumWants M (l ++ m) = sumWants M l + sumWants M m := by
 induction l with
 | nil => simp [sumWants]
 | cons r l ih => simp only [sumWants, List.cons_append, List.foldr_cons] at ih ⊢; omega
theorem sumTo_wants (M : Nat) (xs : List Run) : ∀ n, n ≤ xs.length → Edf.sumTo n (fun i => nB xs i * (M / nP xs i)) = sumWants M (xs.take n) := by
 intro n
 induction n with
 | zero => intro _; simp [Edf.sumTo, sumWants]
 | succ n ih =>
  intro hn
  have h1 : xs[n]? = some xs[n] := List.getElem?_eq_getElem (by omega)
  rw [List.take_add_one, h1, sumWants_append, ← ih (by omega)]
  simp only [Edf.sumTo, nB_at h1, nP_at h1, Option.toList_some]
  simp [sumWants, wants]
structure NeedsOk (M : Nat) (xs : List Run) : Prop where
 each : ∀ r ∈ xs, 1 ≤ r.bud ∧ r.bud ≤ M ∧ r.bud ≤ r.per ∧ 1 ≤ r.per ∧ r.per ≤ M ∧ M % r.per = 0
 sum : sumWants M xs ≤ M
theorem needs_ok {M : Nat} {xs : List Run} (h : flatErr M true 0 0 xs = none) : NeedsOk M xs := by
 refine ⟨fun r hr => ?_, by simpa using flatErr_wants h (Nat.zero_le _)⟩
 obtain ⟨h1, h2, h3⟩ := right_ok ((flatErr_none h).1 r hr)
 obtain ⟨_, h4, h5, h6, h7⟩ := h3 rfl
 exact ⟨h1, h2, h4, h5, h6, h7⟩
theorem NeedsOk.pos {M : Nat} {xs : List Run} (h : NeedsOk M xs) : ∀ i, i < xs.length → 1 ≤ nP xs i ∧ 1 ≤ nB xs i ∧ nB xs i ≤ nP xs i ∧ M % nP xs i = 0 := fun i hi => by
 have h1 : xs[i]? = some xs[i] := List.getElem?_eq_getElem hi
 obtain ⟨a, b, c, d, e, f⟩ := h.each _ (List.mem_of_getElem? h1)
 rw [nP_at h1, nB_at h1]
 exact ⟨d, a, c, f⟩
theorem NeedsOk.fits {M : Nat} {xs : List Run} (hM : 0 < M) (h : NeedsOk M xs) : Edf.Fits xs.length (nP xs) (nB xs) := by
 refine Edf.fits_of hM (fun i hi => ⟨(h.pos i hi).1, (h.pos i hi).2.2.2⟩) ?_
 rw [sumTo_wants M xs _ (Nat.le_refl _), List.take_length]
 exact h.sum
theorem NeedsOk.len {M : Nat} {xs : List Run} (h : NeedsOk M xs) : xs.length ≤ M := by
 refine Nat.le_trans ?_ h.sum
 have : ∀ l : List Run, (∀ r ∈ l, 1 ≤ r.bud ∧ 1 ≤ r.per ∧ r.per ≤ M) → l.length ≤ sumWants M l := fun l => by
  induction l with
  | nil => intro _; simp
  | cons r l ih =>
   intro h
   have h1 := ih (fun x hx => h x (List.mem_cons_of_mem _ hx))
   obtain ⟨h2, h3, h4⟩ := h r (by simp)
   have h5 : 1 ≤ M / r.per := (Nat.le_div_iff_mul_le h3).2 (by omega)
   have h6 : 1 * 1 ≤ r.bud * (M / r.per) := Nat.mul_le_mul h2 h5
   simp only [sumWants, List.foldr_cons, wants, if_true, List.length_cons] at h1 ⊢
   omega
 exact this xs fun r hr => by obtain ⟨a, b, c, d, e, f⟩ := h.each r hr; exact ⟨a, d, e⟩
theorem edf_good (xs : List Run) (M : Nat) : Good (edf xs M) (Edf.ticks xs.length (nP xs) (nB xs) (nS xs) M) := by
 have := good_nil.rows (ts := Edf.ticks xs.length (nP xs) (nB xs) (nS xs) M)
 simpa [edf] using this
theorem edf_end (xs : List Run) (M : Nat) : endOf (edf xs M) = M := by
 rw [endOf_last, (edf_good xs M).last, Edf.ticks_length]
theorem edf_len (xs : List Run) (M : Nat) : (edf xs M).length ≤ M := by
 have := (upTo_ticks (Edf.ticks xs.length (nP xs) (nB xs) (nS xs) M) (upTo_nil (0 : Nat))).2
 rw [Edf.ticks_length] at this
 simpa [edf] using this
def flatNeeds (M : Nat) (xs : List Run) : List Slot × Int × Int :=
 match flatErr M true 0 0 xs with
 | some (i, e) => ([], i, e)
 | none => capped (edf xs M)
end Ln
end Go.Proofs.YtpblcjipmoblnaaGreatDoor
namespace Go.Proofs.YtpblcjipmoblnaaGreatDoor.Ck
structure Ram where
 pos : Int
 at_ : Nat
 size : Nat
structure Map where
 pos : Int
 of : ByteArray
 at_ : Nat
 write : Bool
 exec : Bool
structure Device where
 pos : Int
 name : ByteArray
 at_ : Nat
 size : Nat
 maps : List Map
structure Region where
 pos : Int
 name : ByteArray
 size : Nat
 fixed : Bool
 at_ : Nat
 big : Bool
 wx : Bool
 fill : Nat
 texted : Bool
 text : ByteArray
structure Rule where
 pos : Int
 how : Int
 to : ByteArray
 vector : Nat
structure Subject where
 pos : Int
 name : ByteArray
 cpu : Nat
 stopped : Bool
 maps : List Map
 rules : List Rule
structure Channel where
 pos : Int
 name : ByteArray
 from_ : ByteArray
 to : ByteArray
 shared : Bool
 over : ByteArray
 how : Int
 vector : Nat
structure Irq where
 pos : Int
 name : ByteArray
 from_ : ByteArray
 to : ByteArray
 vector : Nat
 masked : Bool
structure Queue where
 pos : Int
 name : ByteArray
 from_ : ByteArray
 to : ByteArray
 how : Int
 depth : Nat
structure Lane where
 pos : Int
 cpu : Nat
 needs : Bool
 runs : List Run
structure Plan where
 pos : Int
 name : ByteArray
 major : Nat
 lanes : List Lane
structure Pick where
 pos : Int
 name : ByteArray
structure Ban where
 pos : Int
 from_ : ByteArray
 to : ByteArray
structure Policy where
 pos : Int
 name : ByteArray
 rams : List Ram
 devices : List Device
 regions : List Region
 subjects : List Subject
 channels : List Channel
 irqs : List Irq
 queues : List Queue
 plans : List Plan
 masters : List Pick
 starts : List Pick
 monitors : List Pick
 forbids : List Ban
abbrev Wr := Int × Int
def say (ok : Bool) (at_ rank : Int) : List Wr := if ok then [] else [(at_, rank)]
def pairs {α : Type} (f : α → α → List Wr) : List α → List Wr
 | [] => []
 | x :: t => t.flatMap (fun y => f y x) ++ pairs f t
theorem mem_pairs_snoc {α : Type} {f : α → α → List Wr} {x : α} {p : Wr} : ∀ {l : List α}, p ∈ pairs f (l ++ [x]) ↔ p ∈ pairs f l ∨ ∃ y ∈ l, p ∈ f x y
 | [] => by simp [pairs]
 | a :: l => by
  simp only [pairs, List.cons_append, List.mem_append, List.mem_flatMap, mem_pairs_snoc (l := l), List.mem_cons, List.mem_singleton, List.mem_nil_iff, or_false]
  constructor
  · rintro (⟨y, h1 | rfl, h2⟩ | h | ⟨y, h1, h2⟩)
    · exact .inl (.inl ⟨y, h1, h2⟩)
    · exact .inr ⟨a, .inl rfl, h2⟩
    · exact .inl (.inr h)
    · exact .inr ⟨y, .inr h1, h2⟩
  · rintro ((⟨y, h1, h2⟩ | h) | ⟨y, rfl | h1, h2⟩)
    · exact .inl ⟨y, .inl h1, h2⟩
    · exact .inr (.inl h)
    · exact .inl ⟨x, .inr rfl, h2⟩
    · exact .inr (.inr ⟨y, h1, h2⟩)
abbrev Nm := ByteArray × Int
def has (l : List Nm) (s : ByteArray) : Bool := l.any fun x => decide (x.1 = s)
def once (named : ByteArray → Bool) (l : List Nm) : List Wr :=
 l.flatMap (fun x => say (named x.1) x.2 0) ++ pairs (fun x y => if x.1 = y.1 then [(max x.2 y.2, 1)] else []) l
def picks (l : List Pick) (of : List Nm) : List Wr :=
 pairs (fun x y => [(max x.pos y.pos, 1)]) l ++ l.flatMap fun x => say (has of x.name) x.pos 2
def Policy.devs (P : Policy) : List Nm := P.devices.map fun x => (x.name, x.pos)
def Policy.regs (P : Policy) : List Nm := P.regions.map fun x => (x.name, x.pos)
def Policy.subs (P : Policy) : List Nm := P.subjects.map fun x => (x.name, x.pos)
def Policy.chans (P : Policy) : List Nm := P.channels.map fun x => (x.name, x.pos)
def Policy.irqn (P : Policy) : List Nm := P.irqs.map fun x => (x.name, x.pos)
def Policy.ques (P : Policy) : List Nm := P.queues.map fun x => (x.name, x.pos)
def Policy.plns (P : Policy) : List Nm := P.plans.map fun x => (x.name, x.pos)
def Policy.things (P : Policy) : List Nm := P.devs ++ P.regs
def banW (P : Policy) (x : Ban) : List Wr := say ((has P.subs x.from_ || has P.devs x.from_) && has P.subs x.to) x.pos 2
def queueW (P : Policy) (x : Queue) : List Wr :=
 say (decide (1 ≤ x.how) && decide (x.how ≤ 3) && (!decide (x.how = 3) || decide (x.depth = 0))) x.pos 0 ++ say (has P.subs x.from_ && has P.subs x.to) x.pos 2
def mapW (of : List Nm) (m : Map) : List Wr := say (has of m.of) m.pos 2
def regionW (x : Region) : List Wr :=
 say ((x.fixed || decide (x.at_ = 0)) && (x.texted || decide (x.text = ByteArray.empty)) && (!x.texted || decide (x.fill = 0))) x.pos 0
def ruleW (P : Policy) (r : Rule) : List Wr :=
 say (decide (1 ≤ r.how) && decide (r.how ≤ 3) && (decide (r.how = 1) || decide (r.to = ByteArray.empty) && decide (r.vector = 0))) r.pos 0 ++
 say (!decide (r.how = 1) || has P.subs r.to) r.pos 2
def subjectW (P : Policy) (x : Subject) : List Wr :=
 x.maps.flatMap (mapW P.things) ++ (pairs (fun r s => [(max r.pos s.pos, 1)]) x.rules ++ x.rules.flatMap (ruleW P))
def channelW (P : Policy) (x : Channel) : List Wr :=
 say (decide (1 ≤ x.how) && decide (x.how ≤ 4) && (x.shared || decide (x.over = ByteArray.empty)) && (decide (x.how = 1) || decide (x.vector = 0))) x.pos 0 ++
 say (has P.subs x.from_ && has P.subs x.to && (!x.shared || has P.regs x.over)) x.pos 2
def irqW (P : Policy) (x : Irq) : List Wr := say (has P.devs x.from_ && has P.subs x.to) x.pos 2
def runW (P : Policy) (needs : Bool) (r : Run) : List Wr :=
 say (needs || decide (r.per = 0)) r.pos 0 ++ say (decide (r.subj = ByteArray.empty) || has P.subs r.subj) r.pos 2
def rowsW (P : Policy) (l : List Lane) : List Wr :=
 pairs (fun x y => say (!decide (x.cpu = y.cpu)) (max x.pos y.pos) 1) l ++ l.flatMap fun x => x.runs.flatMap (runW P x.needs)
def namesW (named : ByteArray → Bool) (P : Policy) : List Wr :=
 (once named P.things ++ once named P.subs ++ once named P.chans ++ once named P.irqn ++ once named P.ques ++ once named P.plns) ++
 (picks P.starts P.plns ++ picks P.masters P.subs ++ picks P.monitors P.subs) ++
 P.forbids.flatMap (banW P) ++ P.queues.flatMap (queueW P) ++ P.devices.flatMap (fun x => x.maps.flatMap (mapW P.regs)) ++ P.regions.flatMap regionW ++
 P.subjects.flatMap (subjectW P) ++ P.channels.flatMap (channelW P) ++ P.irqs.flatMap (irqW P) ++ P.plans.flatMap fun x => rowsW P x.lanes
def most {α : Type} (pos : α → Int) (n : Nat) (l : List α) : List Wr :=
 match l[n]? with
 | some x => [(pos x, 0)]
 | none => []
def Policy.spaces (P : Policy) : List (List Map) := P.subjects.map Subject.maps ++ P.devices.map Device.maps
def countsW (P : Policy) : List Wr :=
 most Ram.pos 8 P.rams ++ most Device.pos 32 P.devices ++ most Region.pos 256 P.regions ++ most Subject.pos 64 P.subjects ++ most Channel.pos 256 P.channels ++
 most Irq.pos 64 P.irqs ++ most Queue.pos 64 P.queues ++ most Ban.pos 256 P.forbids ++ most Plan.pos 16 P.plans ++ P.spaces.flatMap (most Map.pos 64)
structure Part where
 at_ : Nat
 size : Nat
 pos : Int
def clear (a b : Part) : Bool :=
 if b.at_ < a.at_ then decide (a.size = 0) || decide (b.size ≤ a.at_ - b.at_) else decide (b.size = 0) || decide (a.size ≤ b.at_ - a.at_)
def apartW (rank : Int) (l : List Part) : List Wr := pairs (fun a b => say (clear a b) (max a.pos b.pos) rank) l
def below (at_ size bound : Nat) : Bool := decide (at_ ≤ bound) && decide (size ≤ bound - at_)
def ramSums (s : Nat) : List Ram → List Wr
 | [] => []
 | x :: t => let s' := min (s + min x.size 67108865) 67108865; say (decide (s' ≤ 67108864)) x.pos 4 ++ ramSums s' t
def partW (x : Part) : List Wr :=
 say (decide ((x.at_ ||| x.size) % 4096 = 0)) x.pos 0 ++ say (decide (0 < x.size)) x.pos 1 ++ say (below x.at_ x.size 4294967296) x.pos 2
def Policy.parts (P : Policy) : List Part := P.rams.map (fun x => ⟨x.at_, x.size, x.pos⟩) ++ P.devices.map fun x => ⟨x.at_, x.size, x.pos⟩
def busW (P : Policy) : List Wr :=
 ramSums 0 P.rams ++ P.devices.flatMap (fun x => say (decide (x.size ≤ 1048576)) x.pos 1) ++ P.parts.flatMap partW ++ apartW 3 P.parts
def unit (big : Bool) : Nat := if big then 2097152 else 4096
abbrev M64 : Nat := 18446744073709551616
def lastOf (at_ size : Nat) : Nat := (at_ + size + (M64 - 1)) % M64
open Classical in
noncomputable def covers (rams : List Ram) (a b : Nat) : Bool := decide (∀ p, a ≤ p → p ≤ b → ∃ r ∈ rams, r.at_ ≤ p ∧ p ≤ lastOf r.at_ r.size)
noncomputable def fixedW (P : Policy) (x : Region) : List Wr :=
 if x.fixed then say (decide (x.size = 0) || below x.at_ x.size 4294967296 && covers P.rams x.at_ (lastOf x.at_ x.size)) x.pos 2 else []
def fillW (x : Region) : List Wr :=
 say (decide (x.fill < 256) && decide (x.text.size ≤ x.size) && decide (x.text.size ≤ 1048576) && (decide (x.fill = 0) || decide (x.size ≤ 1048576))) x.pos 4
noncomputable def regW (P : Policy) (x : Region) : List Wr :=
 say (decide ((x.size ||| x.at_) % unit x.big = 0)) x.pos 0 ++ say (decide (0 < x.size) && decide (x.size ≤ 67108864)) x.pos 1 ++ fixedW P x ++ fillW x
def Policy.fixed (P : Policy) : List Part := (P.regions.filter Region.fixed).map fun x => ⟨x.at_, x.size, x.pos⟩
noncomputable def regionsW (P : Policy) : List Wr := P.regions.flatMap (regW P) ++ apartW 3 P.fixed
structure Thing where
 size : Nat
 big : Bool
 wx : Bool
def thing (P : Policy) (s : ByteArray) : Option Thing :=
 match P.regions.find? (fun x => decide (x.name = s)) with
 | some x => some ⟨x.size, x.big, x.wx⟩
 | none => (P.devices.find? (fun x => decide (x.name = s))).map fun x => ⟨x.size, false, false⟩
def thing0 (P : Policy) (s : ByteArray) : Thing := (thing P s).getD ⟨0, false, false⟩
def spaceW (P : Policy) (device : Bool) (pages : Nat) : List Map → List Wr × Nat
 | [] => ([], pages)
 | m :: t =>
  let x := thing0 P m.of
  let n := (pages + x.size / 4096) % M64
  let r := spaceW P device n t
  (say (decide (m.at_ % unit x.big = 0)) m.pos 0 ++ say (below m.at_ x.size 549755813888) m.pos 1 ++ say (!m.exec || !device && (x.wx || !m.write)) m.pos 3 ++ say (decide (n ≤ 131072)) m.pos 4 ++ r.1, r.2)
def mapParts (P : Policy) (l : List Map) : List Part := l.map fun m => ⟨m.at_, (thing0 P m.of).size, m.pos⟩
def spacesW (P : Policy) (device : Bool) (pages : Nat) : List (List Map) → List Wr × Nat
 | [] => ([], pages)
 | l :: t =>
  let r := spaceW P device pages l
  let q := spacesW P device r.2 t
  (r.1 ++ apartW 2 (mapParts P l) ++ q.1, q.2)
def mapsW (P : Policy) : List Wr :=
 let a := spacesW P false 0 (P.subjects.map Subject.maps)
 a.1 ++ (spacesW P true a.2 (P.devices.map Device.maps)).1
def theirs (P : Policy) (c : Channel) : Bool :=
 (P.subjects.all fun x => x.maps.all fun m => !decide (m.of = c.over) || (decide (x.name = c.from_) || decide (x.name = c.to) && !m.write)) &&
 (P.devices.all fun x => x.maps.all fun m => !decide (m.of = c.over)) &&
 (P.subjects.any fun x => decide (x.name = c.from_) && x.maps.any fun m => decide (m.of = c.over)) &&
 (P.subjects.any fun x => decide (x.name = c.to) && x.maps.any fun m => decide (m.of = c.over))
def whoRule (x : Subject) (r : Rule) : List Wr :=
 say (!decide (r.how = 1) || decide (r.vector < 64)) r.pos 1 ++ say (!decide (r.how = 1) || !decide (r.to = x.name)) r.pos 3
def whoSubject (x : Subject) : List Wr := say (decide (x.cpu < 4)) x.pos 0 ++ x.rules.flatMap (whoRule x)
def whoChannel (P : Policy) (x : Channel) : List Wr :=
 say (!decide (x.how = 1) || decide (x.vector < 64)) x.pos 1 ++ say (!decide (x.from_ = x.to)) x.pos 3 ++ say (!x.shared || theirs P x) x.pos 4
def whoQueue (x : Queue) : List Wr :=
 say (decide (x.how = 3) || decide (1 ≤ x.depth) && decide (x.depth ≤ 64)) x.pos 2 ++ say (!decide (x.from_ = x.to)) x.pos 3
def whoW (P : Policy) : List Wr :=
 P.subjects.flatMap whoSubject ++ P.irqs.flatMap (fun x => say (decide (x.vector < 64)) x.pos 1) ++ P.channels.flatMap (whoChannel P) ++
 P.forbids.flatMap (fun x => say (!decide (x.from_ = x.to)) x.pos 3) ++ P.queues.flatMap whoQueue
def cpuOf (P : Policy) (s : ByteArray) : Nat :=
 match P.subjects.find? (fun x => decide (x.name = s)) with
 | some x => x.cpu
 | none => 0
def laneRank (e : Int) : Int := if e = 90 then 4 else if e = 80 then 5 else if e = 91 then 6 else if e = 93 then 7 else 8
def laneW (flat : Nat → Lane → Int × Int) (M : Nat) (y : Lane) : List Wr :=
 let r := flat M y
 if r.2 = 0 then [] else [(if 0 ≤ r.1 then ((y.runs[r.1.toNat]?).map Run.pos).getD 0 else y.pos, laneRank r.2)]
def laneCpus (P : Policy) (y : Lane) : List Wr :=
 say (decide (y.cpu < 4)) y.pos 3 ++ y.runs.flatMap fun r => say (decide (r.subj = ByteArray.empty) || decide (cpuOf P r.subj = y.cpu)) r.pos 3
def planW (flat : Nat → Lane → Int × Int) (P : Policy) (x : Plan) : List Wr :=
 if x.major < 1 ∨ 65536 < x.major then [(x.pos, 2)] else x.lanes.flatMap fun y => laneCpus P y ++ laneW flat x.major y
def plansW (flat : Nat → Lane → Int × Int) (P : Policy) : List Wr :=
 say (decide (0 < P.starts.length)) P.pos 0 ++
 (match P.plans[1]? with | some x => say (decide (0 < P.masters.length)) x.pos 1 | none => []) ++ P.plans.flatMap (planW flat P)
def why1 (r : Int) : Int := if r = 0 then 5 else if r = 1 then 81 else 80
def why2 (_ : Int) : Int := 4
def why3 (r : Int) : Int := if r = 0 then 33 else if r = 1 then 32 else if r = 2 then 34 else if r = 3 then 35 else 36
def why4 (r : Int) : Int := if r = 0 then 33 else if r = 1 then 32 else if r = 2 then 109 else if r = 3 then 35 else 105
def why5 (r : Int) : Int := if r = 0 then 33 else if r = 1 then 40 else if r = 2 then 35 else if r = 3 then 104 else 4
def why6 (r : Int) : Int := if r = 0 then 100 else if r = 1 then 101 else if r = 2 then 113 else if r = 3 then 102 else 103
def why7 (r : Int) : Int := if r = 0 then 107 else if r = 1 then 106 else if r = 2 then 92 else if r = 3 then 100 else if r = 4 then 90 else if r = 5 then 80 else if r = 6 then 91 else if r = 7 then 93 else 4
def why8 (_ : Int) : Int := 108
def Le (x y : Wr) : Prop := x.1 < y.1 ∨ x.1 = y.1 ∧ x.2 ≤ y.2
instance (x y : Wr) : Decidable (Le x y) := by unfold Le; exact inferInstance
def upd (o : Option Wr) (x : Wr) : Option Wr :=
 match o with
 | none => some x
 | some y => if Le y x then some y else some x
def IsMin (L : List Wr) : Option Wr → Prop
 | none => ∀ x, x ∉ L
 | some m => m ∈ L ∧ ∀ x ∈ L, Le m x
theorem Le.refl (x : Wr) : Le x x := .inr ⟨rfl, Int.le_refl _⟩
theorem Le.trans {x y z : Wr} (h : Le x y) (k : Le y z) : Le x z := by unfold Le at *; omega
theorem Le.of_not {x y : Wr} (h : ¬ Le x y) : Le y x := by unfold Le at *; omega
theorem IsMin.tell {L : List Wr} {o : Option Wr} (h : IsMin L o) (x : Wr) : IsMin (x :: L) (upd o x) := by
 cases o with
 | none => exact ⟨List.mem_cons_self, fun y hy => by rcases List.mem_cons.1 hy with rfl | hy; exact Le.refl _; exact absurd hy (h y)⟩
 | some m =>
  obtain ⟨h1, h2⟩ := h
  by_cases hle : Le m x
  · have : upd (some m) x = some m := by simp [upd, hle]
    rw [this]
    exact ⟨List.mem_cons_of_mem _ h1, fun y hy => by rcases List.mem_cons.1 hy with rfl | hy; exact hle; exact h2 y hy⟩
  · have : upd (some m) x = some x := by simp [upd, hle]
    rw [this]
    exact ⟨List.mem_cons_self, fun y hy => by rcases List.mem_cons.1 hy with rfl | hy; exact Le.refl _; exact (Le.of_not hle).trans (h2 y hy)⟩
theorem IsMin.congr {L L' : List Wr} {o : Option Wr} (h : IsMin L o) (he : ∀ p, p ∈ L ↔ p ∈ L') : IsMin L' o := by
 cases o with
 | none => exact fun x hx => h x ((he x).2 hx)
 | some m => exact ⟨(he m).1 h.1, fun x hx => h.2 x ((he x).2 hx)⟩
theorem isMin_nil : IsMin [] none := fun x hx => by simp at hx
theorem IsMin.none_iff {L : List Wr} (h : IsMin L none) : L = [] := List.eq_nil_iff_forall_not_mem.2 h
def ups (m : Map) (x : Thing) : List Nat := (List.range ((m.at_ + x.size - 1) / 2097152 + 1 - m.at_ / 2097152)).map (· + m.at_ / 2097152)
def tableOk (P : Policy) (m : Map) : Bool :=
 match thing P m.of with
 | none => false
 | some x => decide (x.size ≤ 67108864) && below m.at_ x.size 549755813888
def uppers (P : Policy) (l : List Map) : List Nat := l.flatMap fun m => if (thing0 P m.of).size = 0 then [] else (ups m (thing0 P m.of)).map (· / 512)
def lowers (P : Policy) (l : List Map) : List Nat := l.flatMap fun m => if (thing0 P m.of).size = 0 ∨ (thing0 P m.of).big = true then [] else ups m (thing0 P m.of)
def tables (P : Policy) (l : List Map) : Nat := if l.all (tableOk P) then 1 + (uppers P l).eraseDups.length + (lowers P l).eraseDups.length else 0
def slotsOf (flat : Nat → Lane → Nat × Int × Int) (x : Plan) (c : Nat) : Nat :=
 match x.lanes.find? (fun y => decide (y.cpu = c)) with
 | some y => (flat x.major y).1
 | none => 1
def aheadOf (flat : Nat → Lane → Nat × Int × Int) (P : Policy) : Nat :=
 248 + 16 * (P.rams.length + P.devices.length) + 8 * (P.subjects.length + P.devices.length + P.channels.length + P.irqs.length + P.queues.length + P.plans.length) +
 (P.regions.map fun x => 24 + (x.text.size + 7) / 8 * 8).sum +
 (P.plans.map fun x => 32 + 8 * (slotsOf flat x 0 + slotsOf flat x 1 + slotsOf flat x 2 + slotsOf flat x 3)).sum
def Policy.tabled (P : Policy) : List (List Map) := P.subjects.map Subject.maps ++ (P.devices.map Device.maps).filter fun l => decide (0 < l.length)
def pages (flat : Nat → Lane → Nat × Int × Int) (P : Policy) : Nat :=
 if P.tabled.all (fun l => decide (0 < tables P l)) then (P.tabled.map (tables P)).sum + (aheadOf flat P + 4095) / 4096 else 0
def imageW (flat : Nat → Lane → Nat × Int × Int) (P : Policy) : List Wr := say (decide (pages flat P ≤ 1024)) P.pos 0
def Tells : List (List Wr × (Int → Int)) → Int → Int → Prop
 | [], a, e => a = 0 ∧ e = 0
 | g :: t, a, e => (g.1 = [] ∧ Tells t a e) ∨ ∃ r, (a, r) ∈ g.1 ∧ (∀ x ∈ g.1, Le (a, r) x) ∧ e = g.2 r
noncomputable def groups (named : ByteArray → Bool) (flat : Nat → Lane → Nat × Int × Int) (P : Policy) : List (List Wr × (Int → Int)) :=
 [(namesW named P, why1), (countsW P, why2), (busW P, why3), (regionsW P, why4), (mapsW P, why5), (whoW P, why6), (plansW (fun M y => (flat M y).2) P, why7), (imageW flat P, why8)]
end Go.Proofs.YtpblcjipmoblnaaGreatDoor.Ck
namespace Go.Proofs.YtpblcjipmoblnaaGreatDoor.Ck
end Go.Proofs.YtpblcjipmoblnaaGreatDoor.Ck
namespace Go.Proofs.YtpblcjipmoblnaaGreatDoor.Ck
end Go.Proofs.YtpblcjipmoblnaaGreatDoor.Ck
namespace Go.Proofs.YtpblcjipmoblnaaGreatDoor.Ck
end Go.Proofs.YtpblcjipmoblnaaGreatDoor.Ck
