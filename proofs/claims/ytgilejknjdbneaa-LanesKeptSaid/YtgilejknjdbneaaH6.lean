/- The heap of jobs: container/heap's Push, Fix, Pop. -/
import Derived.Test.YtgilejknjdbneaaH5
namespace Go.Proofs.Ytgilejknjdbneaa
open Go.RowKit Go.IntWalk

namespace Ln
theorem IsHeap.but {l : List Job} {n : Nat} (h : IsHeap l n) (j : Nat) : HeapBut l n j := fun k x y h0 h1 _ hx hy => h k x y h0 h1 hx hy
theorem IsHeap.push {l : List Job} (h : IsHeap l l.length) (x : Job) : HeapBut (l ++ [x]) (l ++ [x]).length l.length := fun k a b h0 h1 h2 ha hb => by
  simp only [List.length_append, List.length_singleton] at h1
  rw [List.getElem?_append_left (by omega)] at ha
  rw [List.getElem?_append_left (by omega)] at hb
  exact h k a b h0 (by omega) ha hb
theorem over_last (l : List Job) (x : Job) : Over (l ++ [x]) (l ++ [x]).length l.length := fun k a b h0 h1 h2 _ _ _ => by
  simp only [List.length_append, List.length_singleton] at h1; omega
theorem over_zero (l : List Job) (n : Nat) : Over l n 0 := fun k a b _ _ _ h _ _ => by omega
theorem IsHeap.under_swap {l : List Job} {n : Nat} {a b : Job} (h : IsHeap l (n + 1)) (ha : l[0]? = some a) (hb : l[n]? = some b) : HeapUnder (swapped l 0 n a b) n 0 := by
  refine ⟨fun k x y h0 h1 h2 hx hy => ?_, over_zero _ _⟩
  rw [swapped_at ha hb, if_neg (by omega), if_neg (by omega)] at hx
  rw [swapped_at ha hb, if_neg (by omega), if_neg (by omega)] at hy
  exact h k x y h0 (by omega) hx hy
theorem IsHeap.take {l : List Job} {n : Nat} (h : IsHeap l n) (hn : n ≤ l.length) : IsHeap (l.take n) (l.take n).length := fun k x y h0 h1 hx hy => by
  rw [List.length_take, Nat.min_eq_left hn] at h1
  rw [List.getElem?_take_of_lt h1] at hx
  rw [List.getElem?_take_of_lt (by omega)] at hy
  exact h k x y h0 h1 hx hy
theorem take_last {l : List Job} {n : Nat} {a : Job} (hn : l.length = n + 1) (ha : l[n]? = some a) : l = l.take n ++ [a] := by
  obtain ⟨h1, h2⟩ := List.getElem?_eq_some_iff.1 ha
  rw [← h2, List.take_append_getElem]
  rw [← hn, List.take_length]
end Ln

set_option maxRecDepth 100000 in
set_option maxHeartbeats 1000000 in
theorem push_any (w : World) (P : Nat) (v : Value) (l : List Job) (x : Job) (hn : l.length ≤ 900000000) (h : HeapAt w P v l) (h1 : Ln.IsHeap l l.length) :
    Calls Try.prog 54 #[.iface 91 (.pointer (some ⟨P, 0, none⟩)), .iface 96 x.val] w fun e w' => e = .returned (.tuple #[]) ∧ ∃ v' l', l'.Perm (l ++ [x]) ∧ Ln.IsHeap l' l'.length ∧ HeapAt w' P v' l' ∧ Keep (fun k => k = P ∨ v.ownBlock = some k) w w' ∧ (v'.ownBlock = v.ownBlock ∨ ∃ k, v'.ownBlock = some k ∧ w.heap.size ≤ k) := by
  have e0 := m_push
  have HH := Lib.hid h
  have H1 := Lib.hid h1
  obtain ⟨X, hX⟩ : ∃ X, X = x.val := ⟨_, rfl⟩
  have HX := Lib.hid hX
  rw [← hX]
  clear h h1 hX
  go_enter Try.func54, Try.ntmps54
  go_wp2_with fail
  rw [HX.out]
  refine (pushM_any w P v l x (by omega) HH.out).mono ?_
  rintro e w1 ⟨rfl, v1, hat1, hk1, ho1⟩
  have hc := hat1.var.cell
  have e1 := m_len hc
  obtain ⟨m, hm⟩ : ∃ m, m = l ++ [x] := ⟨_, rfl⟩
  have hml : m.length = l.length + 1 := by rw [hm]; simp
  have hbut := Ln.IsHeap.push H1.out x
  have hov := Ln.over_last l x
  rw [← hm] at hat1 hbut hov
  obtain ⟨g, c, hv, hob, hg⟩ := hat1.form (by omega)
  subst hv
  have HAT := Lib.hid hat1
  have HB := Lib.hid hbut
  have HO := Lib.hid hov
  have HM := Lib.hid hm
  obtain ⟨n, hnn⟩ : ∃ n, n = l.length := ⟨_, rfl⟩
  rw [← hnn] at hml hn HB HO
  have hin : (m.length : Int) - 1 = n := by omega
  have HML := Lib.hid hml
  have hle : m.length ≤ 900000001 := by omega
  have hle2 : n < m.length := by omega
  have HNN := Lib.hid hnn
  clear hc hat1 hbut hov hm hml hnn
  go_wp2_with fail
  refine (len_any w1 (some ⟨g, 0, none⟩) m.length c).mono ?_
  rintro e w2 ⟨rfl, rfl⟩
  go_wp2_with fail
  refine (up_any w1 P _ m n (by omega) hle2 HAT.out HB.out HO.out).mono ?_
  rintro e w2 ⟨rfl, l', hp, hh, hat2, hk2⟩
  go_wp2
  go_end0
  refine ⟨rfl, _, l', by rw [← HM.out]; exact hp, hh, hat2, hk1.trans hk2 (fun i hi hs => ?_), ho1⟩
  rcases ho1 with h | ⟨k, h, hk⟩
  · exact .inr (by rw [← h]; exact hs)
  · rw [h] at hs; injection hs with hs; omega

set_option maxRecDepth 100000 in
set_option maxHeartbeats 1000000 in
theorem fix_any (w : World) (P g c N : Nat) (l : List Job) (hN : l.length = N) (hN0 : 0 < N) (hN2 : N ≤ 900000000) (h : HeapAt w P (.slice (some ⟨g, 0, none⟩) N c) l) (h1 : Ln.HeapUnder l N 0) :
    Calls Try.prog 56 #[.iface 91 (.pointer (some ⟨P, 0, none⟩)), .int .i64 0] w fun e w' => e = .returned (.tuple #[]) ∧ ∃ l', l'.Perm l ∧ Ln.IsHeap l' l'.length ∧ HeapAt w' P (.slice (some ⟨g, 0, none⟩) N c) l' ∧ Keep (fun k => k = g) w w' := by
  have hc := h.var.cell
  have e1 := m_len hc
  have HAT := Lib.hid h
  have H1 := Lib.hid h1
  have HN := Lib.hid hN
  clear h h1 hN hc
  go_enter Try.func56, Try.ntmps56
  go_wp2_with fail
  refine (len_any w (some ⟨g, 0, none⟩) N c).mono ?_
  rintro e w2 ⟨rfl, rfl⟩
  go_wp2_with fail
  refine (down_any w P g c N l 0 N HN.out (by omega) (Nat.le_refl _) (.inl rfl) HAT.out H1.out).mono ?_
  rintro e w2 ⟨b, l', rfl, hp, hh, _, hat2, hk2⟩
  have hl' : l'.length = N := by rw [hp.length_eq, HN.out]
  have hn' : l'.length ≤ 1000000000 := by omega
  have hp0 : 0 < l'.length := by omega
  have HL' := Lib.hid hl'
  have HAT2 := Lib.hid hat2
  clear hl' hat2
  cases b
  · go_wp2_with fail
    refine (up_any w2 P _ l' 0 hn' hp0 HAT2.out (by rw [HL'.out]; exact hh.but 0) (Ln.over_zero _ _)).mono ?_
    rintro e w3 ⟨rfl, l2, hp2, hh2, hat3, hk3⟩
    go_wp2
    go_end0
    exact ⟨rfl, l2, hp2.trans hp, hh2, hat3, hk2.trans hk3 (fun i _ hs => by simp [Value.ownBlock] at hs; exact hs.symm)⟩
  · go_wp2
    go_end0
    exact ⟨rfl, l', hp, by rw [HL'.out]; exact hh, HAT2.out, hk2⟩

set_option maxRecDepth 100000 in
set_option maxHeartbeats 1000000 in
theorem pop_any (w : World) (P g c N n : Nat) (l : List Job) (a : Job) (hN : l.length = N) (hn : N = n + 1) (hN2 : N ≤ 900000000) (ha : l[0]? = some a) (h : HeapAt w P (.slice (some ⟨g, 0, none⟩) N c) l) (h1 : Ln.IsHeap l N) :
    Calls Try.prog 57 #[.iface 91 (.pointer (some ⟨P, 0, none⟩))] w fun e w' => e = .returned (.iface 96 a.val) ∧ ∃ v' l', (l' ++ [a]).Perm l ∧ Ln.IsHeap l' l'.length ∧ HeapAt w' P v' l' ∧ Keep (fun k => k = P ∨ k = g) w w' ∧ v'.ownBlock = some g := by
  have hc := h.var.cell
  have e1 := m_len hc
  have e2 := m_swap hc
  have e3 := m_pop
  obtain ⟨b, hb⟩ : ∃ b, l[n]? = some b := ⟨_, List.getElem?_eq_getElem (by omega)⟩
  have hnP : ¬ P = g := by have := h.ne; simp [Value.ownBlock] at this; exact fun e => this e.symm
  have HAT := Lib.hid h
  have H1 := Lib.hid h1
  have HN := Lib.hid hN
  have HA := Lib.hid ha
  have HB := Lib.hid hb
  have Hn := Lib.hid hn
  have hin : (N : Int) - 1 = n := by omega
  have hlt : n < N := by omega
  clear h h1 hN hc ha hb hn
  go_enter Try.func57, Try.ntmps57
  go_wp2_with fail
  refine (len_any w (some ⟨g, 0, none⟩) N c).mono ?_
  rintro e w2 ⟨rfl, rfl⟩
  have hown := HAT.out.own
  rw [HN.out] at hown
  have HOwn := Lib.hid hown
  clear hown
  go_wp2_with fail
  refine (swap_any w g N c 0 n a b l HN.out HA.out HB.out HOwn.out).mono ?_
  rintro e w2 ⟨rfl, hown2, hk2⟩
  have hlen : (Ln.swapped l 0 n a b).length = N := by rw [Ln.swapped_length, HN.out]
  have hvar2 := HAT.out.var.keep hk2 hnP
  have hh1 := H1.out
  rw [Hn.out] at hh1
  have hund := hh1.under_swap HA.out HB.out
  have hat2 : HeapAt w2 P (.slice (some ⟨g, 0, none⟩) N c) (Ln.swapped l 0 n a b) := ⟨hvar2, by rw [hlen]; exact hown2⟩
  have HL2 := Lib.hid hlen
  have HAT2 := Lib.hid hat2
  clear hlen hown2 hvar2 hat2 hh1
  go_wp2_with fail
  refine (down_any w2 P g c N _ 0 n HL2.out (by omega) (by omega) (.inl rfl) HAT2.out hund).mono ?_
  rintro e w3 ⟨bb, l3, rfl, hp3, hh3, hf3, hat3, hk3⟩
  have hl3 : l3.length = n + 1 := by rw [hp3.length_eq, HL2.out, Hn.out]
  have hlast : l3[n]? = some a := by rw [hf3 n (Nat.le_refl _), Ln.swapped_at HA.out HB.out, if_pos rfl]
  have htk := Ln.take_last hl3 hlast
  have htl : (l3.take n).length = n := by rw [List.length_take, hl3]; omega
  obtain ⟨l4, hl4⟩ : ∃ l4, l4 = l3.take n := ⟨_, rfl⟩
  rw [← hl4] at htk htl
  have hperm : (l4 ++ [a]).Perm l := by rw [← htk]; exact hp3.trans (Ln.swapped_perm HA.out HB.out)
  have hheap : Ln.IsHeap l4 l4.length := by rw [hl4]; exact hh3.take (by omega)
  rw [htk] at hat3
  have HPerm := Lib.hid hperm
  have HHeap := Lib.hid hheap
  have hle4 : l4.length ≤ 1000000000 := by omega
  clear hl3 hlast htk htl hl4 hperm hheap hp3 hh3 hf3
  go_wp2_with fail
  refine (popM_any w3 P _ l4 a hle4 hat3).mono ?_
  rintro e w4 ⟨rfl, v4, hat4, hk4, ho4⟩
  go_wp2
  go_ret
  exact ⟨rfl, v4, l4, HPerm.out, HHeap.out, hat4, ((hk2.trans hk3 (fun i _ hs => hs)).mono (fun i _ hs => .inr hs)).trans hk4 (fun i _ hs => .inl hs), by rw [ho4]; rfl⟩

end Go.Proofs.Ytgilejknjdbneaa
