/- The contract of the document's Ticks of a lane with needs. -/
import Derived.Test.YtgilejknjdbneaaR3
import Derived.Test.YtgilejknjdbneaaArr
import Derived.Deep.CutRange
namespace Go.Proofs.Ytgilejknjdbneaa
open Go.RowKit Go.IntWalk

structure TSt (w1 w : World) (B g gl gd n M T : Nat) (l : List Int) (L D : Nat → Nat) : Prop where
  tick : w.ownsRow B 3 1 (.slice (some ⟨g, 0, none⟩) T M) T (intCells l)
  left : Arr w B 3 .i64 gl n L
  due : Arr w B 3 .i64 gd n D
  keep : Keep (fun k => k = g ∨ k = gl ∨ k = gd) w1 w
  n1 : g ≠ gl
  n2 : g ≠ gd
  n3 : gl ≠ gd
namespace TSt
variable {w1 w w' : World} {B g gl gd n M T : Nat} {l : List Int} {L D : Nat → Nat}
theorem setLeft (h : TSt w1 w B g gl gd n M T l L D) (i v : Nat) : TSt w1 (w.setCell ⟨gl, i, none⟩ (.int .i64 v)) B g gl gd n M T l (Edf.set1 L i v) D := by
  have hk : Keep (fun k => k = gl) w (w.setCell ⟨gl, i, none⟩ (.int .i64 v)) := (Keep.refl (fun k => k = gl) w).setCell (fun _ => rfl) _
  exact ⟨own_keep h.tick hk (fun k hk => by simp [Value.ownBlock] at hk; subst hk; exact h.n1), h.left.set i v, h.due.keep hk h.n3.symm, h.keep.trans hk (fun i _ e => .inr (.inl e)), h.n1, h.n2, h.n3⟩
theorem setDue (h : TSt w1 w B g gl gd n M T l L D) (i v : Nat) : TSt w1 (w.setCell ⟨gd, i, none⟩ (.int .i64 v)) B g gl gd n M T l L (Edf.set1 D i v) := by
  have hk : Keep (fun k => k = gd) w (w.setCell ⟨gd, i, none⟩ (.int .i64 v)) := (Keep.refl (fun k => k = gd) w).setCell (fun _ => rfl) _
  exact ⟨own_keep h.tick hk (fun k hk => by simp [Value.ownBlock] at hk; subst hk; exact h.n2), h.left.keep hk h.n3, h.due.set i v, h.keep.trans hk (fun i _ e => .inr (.inr e)), h.n1, h.n2, h.n3⟩
theorem keepN (h : TSt w1 w B g gl gd n M T l L D) (hk : Keep (fun _ => False) w w') : TSt w1 w' B g gl gd n M T l L D :=
  ⟨own_keep h.tick hk (fun _ _ => by simp), h.left.keep hk (by simp), h.due.keep hk (by simp), h.keep.trans hk (fun _ _ e => e.elim), h.n1, h.n2, h.n3⟩
theorem grow (h : TSt w1 w B g gl gd n M T l L D) {x : Int} (hk : Keep (fun k => k = g) w w') (ho : w'.ownsRow B 3 1 (.slice (some ⟨g, 0, none⟩) (T + 1) M) (T + 1) (intCells l ++ [.int .i64 x])) : TSt w1 w' B g gl gd n M (T + 1) (l ++ [x]) L D :=
  ⟨own_snoc ho, h.left.keep hk h.n1.symm, h.due.keep hk h.n2.symm, h.keep.trans hk (fun _ _ e => .inl e), h.n1, h.n2, h.n3⟩
theorem congr (h : TSt w1 w B g gl gd n M T l L D) {L' D' : Nat → Nat} (h1 : ∀ i, i < n → L i = L' i) (h2 : ∀ i, i < n → D i = D' i) : TSt w1 w B g gl gd n M T l L' D' :=
  ⟨h.tick, h.left.congr h1, h.due.congr h2, h.keep, h.n1, h.n2, h.n3⟩
end TSt
namespace Edf
/-- What is left, behind the releases of the needs ahead of i. -/
def relTo (p b : Nat → Nat) (t : Nat) (L : Nat → Nat) (i j : Nat) : Nat := if j < i then rel p b t L j else L j
def dueTo (p : Nat → Nat) (t : Nat) (D : Nat → Nat) (i j : Nat) : Nat := if j < i then due p t j else D j
theorem relTo_same {p b : Nat → Nat} {t i : Nat} {L : Nat → Nat} (h : t % p i ≠ 0) (j : Nat) : relTo p b t L i j = relTo p b t L (i + 1) j := by
  unfold relTo
  rcases Nat.lt_trichotomy j i with h1 | h1 | h1
  · rw [if_pos h1, if_pos (by omega)]
  · subst h1; rw [if_neg (by omega), if_pos (by omega)]; unfold rel; rw [if_neg h]
  · rw [if_neg (by omega), if_neg (by omega)]
theorem relTo_set {p b : Nat → Nat} {t i : Nat} {L : Nat → Nat} (h : t % p i = 0) (j : Nat) : set1 (relTo p b t L i) i (b i) j = relTo p b t L (i + 1) j := by
  unfold set1 relTo
  rcases Nat.lt_trichotomy j i with h1 | h1 | h1
  · rw [if_neg (by omega), if_pos h1, if_pos (by omega)]
  · subst h1; rw [if_pos rfl, if_pos (by omega)]; unfold rel; rw [if_pos h]
  · rw [if_neg (by omega), if_neg (by omega), if_neg (by omega)]
/-- The dues that the array holds at the head of a tick. -/
def DueOk (p : Nat → Nat) (n t : Nat) (D : Nat → Nat) : Prop := 0 < t → ∀ i, i < n → D i = due p (t - 1) i
theorem dueTo_same {p : Nat → Nat} {n t i : Nat} {D : Nat → Nat} (hp : 1 ≤ p i) (hi : i < n) (hd : DueOk p n t D) (h : t % p i ≠ 0) (j : Nat) : dueTo p t D i j = dueTo p t D (i + 1) j := by
  unfold dueTo
  rcases Nat.lt_trichotomy j i with h1 | h1 | h1
  · rw [if_pos h1, if_pos (by omega)]
  · subst h1
    have ht : 0 < t := Nat.pos_of_ne_zero fun e => h (by rw [e]; exact Nat.zero_mod _)
    rw [if_neg (by omega), if_pos (by omega), hd ht j hi]
    have h2 := due_gt (p := p) (t := t - 1) hp
    rcases Nat.lt_or_ge t (due p (t - 1) j) with h3 | h3
    · exact (due_same hp (by omega) h3).symm
    · have h4 : t = due p (t - 1) j := by omega
      exact absurd (by rw [h4]; unfold due; exact Nat.mul_mod_left _ _) h
  · rw [if_neg (by omega), if_neg (by omega)]
theorem dueTo_set {p : Nat → Nat} {t i : Nat} {D : Nat → Nat} (h : t % p i = 0) (j : Nat) : set1 (dueTo p t D i) i (t + p i) j = dueTo p t D (i + 1) j := by
  unfold set1 dueTo
  rcases Nat.lt_trichotomy j i with h1 | h1 | h1
  · rw [if_neg (by omega), if_pos h1, if_pos (by omega)]
  · subst h1; rw [if_pos rfl, if_pos (by omega), due_at h]
  · rw [if_neg (by omega), if_neg (by omega), if_neg (by omega)]
theorem pick_zero {p : Nat → Nat} {t j : Nat} {L : Nat → Nat} (h : L j = 0) : pick p t L (j + 1) = pick p t L j := by
  rcases hq : pick p t L j with _ | k <;> simp [pick, hq, h]
theorem pick_first {p : Nat → Nat} {t j : Nat} {L : Nat → Nat} (h : 0 < L j) (hq : pick p t L j = none) : pick p t L (j + 1) = some j := by
  simp [pick, hq, h]
theorem pick_next {p : Nat → Nat} {t j k : Nat} {L : Nat → Nat} (h : 0 < L j) (hq : pick p t L j = some k) : pick p t L (j + 1) = if due p t j < due p t k then some j else some k := by
  simp [pick, hq, h]
theorem who_lt {n : Nat} {p b : Nat → Nat} {t k : Nat} (h : who n p b t = some k) : k < n ∧ 0 < rel p b t (st n p b t) k := by
  obtain ⟨h1, h2, _⟩ := pick_some h
  exact ⟨h1, h2⟩
end Edf

set_option maxRecDepth 100000 in
set_option maxHeartbeats 2000000 in
theorem ticksR_needs (M n : Nat) (A : Option Addr) (c : Nat) (xs : List Run) (lp : Int) (cpu : Nat) (w : World) (hM2 : M ≤ 65536) (hxn : xs.length = n) (hn : n ≤ 65536)
    (hb : ∀ r ∈ xs, 1 ≤ r.bud ∧ r.bud ≤ 65536 ∧ 1 ≤ r.per ∧ r.per ≤ 65536) (hr : RunsAt w A xs) :
    Calls Try.prog 52 #[.int .i64 M, .agg #[.int .i64 lp, .int .u64 cpu, .bool true, .slice A n c]] w fun e w' =>
      ∃ g, e = .returned (.slice (some ⟨g, 0, none⟩) M M) ∧ w'.ownsRow w.heap.size 3 1 (.slice (some ⟨g, 0, none⟩) M M) M (intCells (Ln.numsNeeds M xs)) ∧ Below w.heap.size w w' := by
  obtain ⟨W, hW⟩ : ∃ W, W = w.alloc (.cells #[.int .i64 lp, .int .u64 cpu, .bool true, .slice A n c] 31) := ⟨_, rfl⟩
  have hB : Below w.heap.size w W := by subst hW; exact (Below.refl _ _).alloc (Nat.le_refl _) _
  have hWs : W.heap.size = w.heap.size + 1 := by subst hW; simp
  have c2 : W.cell? ⟨w.heap.size, 2, none⟩ = some (.bool true) := by subst hW; rw [World.cell?_alloc_at _ _ _ _ rfl]; rfl
  have c3 : W.cell? ⟨w.heap.size, 3, none⟩ = some (.slice A n c) := by subst hW; rw [World.cell?_alloc_at _ _ _ _ rfl]; rfl
  obtain ⟨i0, hi, hz0, hz1, hz2⟩ := info_parts Try.info3
  obtain ⟨P, hP⟩ : ∃ P, P = Ln.nP xs := ⟨_, rfl⟩
  obtain ⟨Bd, hBd⟩ : ∃ B, B = Ln.nB xs := ⟨_, rfl⟩
  have hcell : ∀ i, i < n → ∃ (b off bd pd : Nat), A = some ⟨b, off, none⟩ ∧ b < w.heap.size ∧ Hid (Bd i = bd ∧ P i = pd) ∧ 1 ≤ bd ∧ bd ≤ 65536 ∧ 1 ≤ pd ∧ pd ≤ 65536 ∧ w.cell? ⟨b, off + i * 4 + 2, none⟩ = some (.int .u64 bd) ∧ w.cell? ⟨b, off + i * 4 + 3, none⟩ = some (.int .u64 pd) := fun i hi => by
    obtain ⟨b, off, rfl, hbl, hcs⟩ := hr (by omega)
    have h1 := List.getElem?_eq_getElem (l := xs) (i := i) (by omega)
    obtain ⟨b1, b2, b3, b4⟩ := hb _ (List.mem_of_getElem? h1)
    obtain ⟨_, q1, q2, q3⟩ := hcs i _ h1
    exact ⟨_, _, _, _, rfl, hbl, ⟨by rw [hBd, Ln.nB_at h1], by rw [hP, Ln.nP_at h1]⟩, b1, b2, b3, b4, q2, q3⟩
  have hnums : Ln.numsNeeds M xs = (List.range M).map fun t => Ln.numOf (Edf.who n P Bd t) := by rw [hP, hBd, ← hxn]; rfl
  rw [hnums]
  have HS := Lib.hid hWs
  have HW := Lib.hid hW
  have HB := Lib.hid hB
  have HCell := Lib.hid hcell
  clear hWs hB hr hb hcell hP hBd hnums hxn
  go_enter Try.func52, Try.ntmps52
  go_wp2_with (at_make; refine wpList_make_own _ rfl (.const (.int .i64 0)) (.tmp 14) 54 rfl w.heap.size 3 i0 (.int .i64 0) 1 Try.underlying54 hi hz0 hz1 .i64 .i64 M M rfl rfl rfl ?h2 ?h3 ?h4 ?_)
  case h2 => rw [hz2]; omega
  case h3 => unfold maxLen; omega
  case h4 => simp
  intro w1 hown1 hgrow1
  rw [← hW] at hgrow1
  have hk1 : Keep (fun _ => False) W w1 := Keep.of_grown hgrow1 (by simp)
  obtain ⟨g, hg⟩ : ∃ g, g = w.heap.size + 1 := ⟨_, rfl⟩
  rw [← hg] at hown1 ⊢
  have c2' : w1.cell? ⟨w.heap.size, 2, none⟩ = some (.bool true) := (hk1.cell (p := ⟨w.heap.size, 2, none⟩) (by rw [HS.out]; simp) (by simp)).trans c2
  have c3' : w1.cell? ⟨w.heap.size, 3, none⟩ = some (.slice A n c) := (hk1.cell (p := ⟨w.heap.size, 3, none⟩) (by rw [HS.out]; simp) (by simp)).trans c3
  have hB1 : Below w.heap.size w w1 := HB.out.trans (hk1.below HB.out.size (by simp))
  have hg1 : g < w1.heap.size := (hown1.lt g rfl).2
  have hwz : w.heap.size < w1.heap.size := by omega
  have HB1 := Lib.hid hB1
  have HO1 := Lib.hid hown1
  have hgz : w.heap.size < g := by omega
  clear hk1 hgrow1 hB1 hown1 c2 c3 hW HW hg
  go_wp2_with (at_make; refine wpList_make_full _ rfl (.tmp 51) (.tmp 51) 54 rfl w.heap.size 3 i0 (.int .i64 0) 1 Try.underlying54 hi hz0 hz1 .i64 .i64 n n n rfl rfl rfl rfl ?k2 ?k3 ?k4 ?_)
  case k2 => rw [hz2]; omega
  case k3 => unfold maxLen; omega
  case k4 => omega
  intro w2 hown2 hgrow2
  obtain ⟨gl, hgl⟩ : ∃ gl, gl = w1.heap.size := ⟨_, rfl⟩
  rw [← hgl] at hown2 ⊢
  have hk2 : Keep (fun _ => False) w1 w2 := Keep.of_grown hgrow2 (by simp)
  have hl2 : Arr w2 w.heap.size 3 .i64 gl n (fun _ => 0) := by unfold Arr; rw [← kCells_zero]; exact hown2
  have hgl2 : gl < w2.heap.size := hl2.lt
  have hs2 := hk2.size
  have c3'' : w2.cell? ⟨w.heap.size, 3, none⟩ = some (.slice A n c) := (hk2.cell (p := ⟨w.heap.size, 3, none⟩) hwz (by simp)).trans c3'
  have ho2 := own_keep HO1.out hk2 (fun _ _ => by simp)
  have hB2 : Below w.heap.size w w2 := HB1.out.trans (hk2.below HB1.out.size (by simp))
  have hwz2 : w.heap.size < w2.heap.size := by omega
  have hggl : g < gl := by omega
  have HB2 := Lib.hid hB2
  have HO2 := Lib.hid ho2
  have HL2 := Lib.hid hl2
  clear hown2 hgrow2 hgl hk2 hl2 ho2 hB2 c2' c3' HB1 HO1
  go_wp2_with (at_make; refine wpList_make_full _ rfl (.tmp 55) (.tmp 55) 54 rfl w.heap.size 3 i0 (.int .i64 0) 1 Try.underlying54 hi hz0 hz1 .i64 .i64 n n n rfl rfl rfl rfl ?k2 ?k3 ?k4 ?_)
  case k2 => rw [hz2]; omega
  case k3 => unfold maxLen; omega
  case k4 => omega
  intro w3 hown3 hgrow3
  obtain ⟨gd, hgd⟩ : ∃ gd, gd = w2.heap.size := ⟨_, rfl⟩
  rw [← hgd] at hown3 ⊢
  have hk3 : Keep (fun _ => False) w2 w3 := Keep.of_grown hgrow3 (by simp)
  have hd3 : Arr w3 w.heap.size 3 .i64 gd n (fun _ => 0) := by unfold Arr; rw [← kCells_zero]; exact hown3
  have hgd3 : gd < w3.heap.size := hd3.lt
  have c3k : w3.cell? ⟨w.heap.size, 3, none⟩ = some (.slice A n c) := (hk3.cell (p := ⟨w.heap.size, 3, none⟩) hwz2 (by simp)).trans c3''
  have hst : TSt w3 w3 w.heap.size g gl gd n M 0 [] (fun _ => 0) (fun _ => 0) :=
    ⟨own_keep HO2.out hk3 (fun _ _ => by simp), HL2.out.keep hk3 (by simp), hd3, Keep.refl _ _, by omega, by omega, by omega⟩
  have hB3 : Below w.heap.size w w3 := HB2.out.trans (hk3.below HB2.out.size (by simp))
  have hwz3 : w.heap.size < w3.heap.size := by omega
  have hgld : gl < gd := by omega
  have HB3 := Lib.hid hB3
  have HSt := Lib.hid hst
  clear hown3 hgrow3 hgd hk3 hd3 hB3 hst c3'' HB2 HO2 HL2
  obtain ⟨NS, hNS⟩ : ∃ NS : Nat → List Int, NS = fun T => (List.range T).map fun t => Ln.numOf (Edf.who n P Bd t) := ⟨_, rfl⟩
  have hNS0 : NS 0 = [] := by rw [hNS]; rfl
  have hNSs : ∀ t, NS (t + 1) = NS t ++ [Ln.numOf (Edf.who n P Bd t)] := fun t => by rw [hNS]; simp [List.range_succ]
  have hNSM : NS M = (List.range M).map fun t => Ln.numOf (Edf.who n P Bd t) := by rw [hNS]
  have HNS0 := Lib.hid hNS0
  have HNSs := Lib.hid hNSs
  have HNSM := Lib.hid hNSM
  clear hNS hNS0 hNSs hNSM
  go_wp2
  go_loopg [5, 10] M (fun q s x wr => ∃ (t : Nat) (D : Nat → Nat), q + t = M ∧ x = .int .i64 t ∧ s = .slice (some ⟨g, 0, none⟩) t M ∧ Hid (TSt w3 wr w.heap.size g gl gd n M t (NS t) (Edf.st n P Bd t) D) ∧ Hid (Edf.DueOk P n t D))
  case atStart => exact ⟨0, _, rfl, rfl, rfl, by rw [HNS0.out]; exact HSt.out, fun h => by omega⟩
  case round =>
    obtain ⟨t, D, hqt, rfl, rfl, HT, HD⟩ := hrel
    have HQ := Lib.hid hqt
    have htM : t ≤ M := by omega
    clear hqt
    by_cases hlt : t < M
    · go_wp2
      go_loopg [11, 12] n (fun q s x wr => ∃ (j : Nat), q + j = n ∧ x = .int .i64 j ∧ s = .int .i64 (Ln.numOf (Edf.pick P t (Edf.rel P Bd t (Edf.st n P Bd t)) j)) ∧ Hid (TSt w3 wr w.heap.size g gl gd n M t (NS t) (Edf.relTo P Bd t (Edf.st n P Bd t) j) (Edf.dueTo P t D j)))
      case atStart => exact ⟨0, rfl, rfl, rfl, Lib.hid (HT.out.congr (fun i hi => by unfold Edf.relTo; rw [if_neg (by omega)]) (fun i hi => by unfold Edf.dueTo; rw [if_neg (by omega)]))⟩
      case round =>
        clear HT
        obtain ⟨j, hqj, rfl, rfl, HT⟩ := hrel
        have HQJ := Lib.hid hqj
        have hjn : j ≤ n := by omega
        have hsz := HT.out.keep.size
        have c3' : wr.cell? ⟨w.heap.size, 3, none⟩ = some (.slice A n c) := (HT.out.keep.cell (p := ⟨w.heap.size, 3, none⟩) (by exact hwz3) (by simp only; omega)).trans c3k
        have hwl : w.heap.size < wr.heap.size := by omega
        clear hqj
        by_cases hj : j < n
        · obtain ⟨b, off, bd, pd, rfl, hbl, HC, b1, b2, b3, b4, q2, q3⟩ := HCell.out j hj
          have hBw : Below w.heap.size w wr := HB3.out.trans (HT.out.keep.below HB3.out.size (fun i hi h => by omega))
          rw [← hBw.cell (p := ⟨b, _, none⟩) hbl] at q2 q3
          have hbw : b < wr.heap.size := by omega
          have hji : (j : Int) < n := by omega
          clear hBw
          obtain ⟨best, hbest⟩ : ∃ x, x = Edf.pick P t (Edf.rel P Bd t (Edf.st n P Bd t)) j := ⟨_, rfl⟩
          rw [← hbest]
          have HBest := Lib.hid hbest
          clear hbest
          go_upto_if 79 with fail
          go_cut [] from 62 to 116 (fun wx => TSt w3 wx w.heap.size g gl gd n M t (NS t) (Edf.relTo P Bd t (Edf.st n P Bd t) (j + 1)) (Edf.dueTo P t D (j + 1)))
          case first =>
            have l0 := HT.out.left.frozen j
            have d0 := HT.out.due.frozen j
            have l1 := HT.out.left.cell hj
            have d1 := HT.out.due.cell hj
            by_cases hm : t % pd = 0
            · have hmi : ((t : Int) % (pd : Int) == 0) = true := by simp; omega
              go_wp2
              go_meet
              have h1 := (HT.out.setLeft j bd).setDue j (t + pd)
              rw [Int.natCast_add] at h1
              refine h1.congr (fun i _ => ?_) (fun i _ => ?_)
              · rw [← HC.out.1]; exact Edf.relTo_set (by rw [HC.out.2]; exact hm) i
              · have h2 := Edf.dueTo_set (p := P) (t := t) (i := j) (D := D) (by rw [HC.out.2]; exact hm) i
                rw [HC.out.2] at h2
                exact h2
            · have hmi : ((t : Int) % (pd : Int) == 0) = false := by simp; omega
              go_wp2
              go_meet
              exact HT.out.congr (fun i _ => Edf.relTo_same (by rw [HC.out.2]; exact hm) i) (fun i _ => Edf.dueTo_same (by rw [HC.out.2]; exact b3) hj HD.out (by rw [HC.out.2]; exact hm) i)
          case rest =>
          have HTc := Lib.hid hcut
          have l1 := hcut.left.cell hj
          have d1 := hcut.due.cell hj
          rw [show Edf.relTo P Bd t (Edf.st n P Bd t) (j + 1) j = Edf.rel P Bd t (Edf.st n P Bd t) j from if_pos (by omega)] at l1
          rw [show Edf.dueTo P t D (j + 1) j = Edf.due P t j from if_pos (by omega)] at d1
          have hbk : ∀ k, best = some k → k < j := fun k hk => by rw [HBest.out] at hk; exact (Edf.pick_some hk).1
          obtain ⟨lv, hlv⟩ : ∃ lv, lv = Edf.rel P Bd t (Edf.st n P Bd t) j := ⟨_, rfl⟩
          obtain ⟨dv, hdv⟩ : ∃ dv, dv = Edf.due P t j := ⟨_, rfl⟩
          rw [← hlv] at l1
          rw [← hdv] at d1
          have HLv := Lib.hid hlv
          have HDv := Lib.hid hdv
          clear hcut hlv hdv q2 q3 c3' hbw hwl hsz HT HC b1 b2 b3 b4
          by_cases hl0 : lv = 0
          · have hd0 : decide ((0 : Int) < lv) = false := by simp; omega
            have hd1 : decide (0 < lv) = false := by simp; omega
            have hp2 : Edf.pick P t (Edf.rel P Bd t (Edf.st n P Bd t)) (j + 1) = best := by
              rw [Edf.pick_zero (by rw [← HLv.out]; exact hl0)]; exact HBest.out.symm
            have HP2 := Lib.hid hp2
            clear hl0 hp2
            go_wp2_with fail
            go_quiet (fail)
            go_wp2
            go_roundg (n - (j + 1))
            case measure => have := HQJ.out; omega
            case rel => exact ⟨j + 1, by omega, by go_num, by rw [HP2.out], Lib.hid (HTc.out.keepN ((Keep.refl _ _).drewN _))⟩
          · have hd0 : decide ((0 : Int) < lv) = true := by simp; omega
            have hd1 : decide (0 < lv) = true := by simp; omega
            rcases best with _ | k
            · have hp2 : Edf.pick P t (Edf.rel P Bd t (Edf.st n P Bd t)) (j + 1) = some j := by
                exact Edf.pick_first (by rw [← HLv.out]; omega) HBest.out.symm
              have HP2 := Lib.hid hp2
              clear hl0 hp2
              rw [show Ln.numOf none = -1 from rfl]
              go_wp2_with fail
              go_quiet (fail)
              go_wp2
              go_roundg (n - (j + 1))
              case measure => have := HQJ.out; omega
              case rel => exact ⟨j + 1, by omega, by go_num, by rw [HP2.out]; rfl, Lib.hid (HTc.out.keepN ((Keep.refl _ _).drewN _))⟩
            · have hkj := hbk k rfl
              have d2 := HTc.out.due.cell (i := k) (by omega)
              rw [show Edf.dueTo P t D (j + 1) k = Edf.due P t k from if_pos (by omega)] at d2
              obtain ⟨dk, hdk⟩ : ∃ dk, dk = Edf.due P t k := ⟨_, rfl⟩
              rw [← hdk] at d2
              have hp2 : Edf.pick P t (Edf.rel P Bd t (Edf.st n P Bd t)) (j + 1) = if dv < dk then some j else some k := by
                rw [HDv.out, hdk]
                exact Edf.pick_next (by rw [← HLv.out]; omega) HBest.out.symm
              have HP2 := Lib.hid hp2
              clear hl0 hp2 hdk
              rw [show Ln.numOf (some k) = (k : Int) from rfl]
              have hk0 : decide ((k : Int) < 0) = false := by simp
              have hkn : (k : Int) < n := by omega
              go_wp2_with fail
              go_quiet (fail)
              by_cases hc : dv < dk
              · have hci : decide ((dv : Int) < dk) = true := by simp; omega
                go_wp2
                go_roundg (n - (j + 1))
                case measure => have := HQJ.out; omega
                case rel => exact ⟨j + 1, by omega, by go_num, by rw [HP2.out, if_pos hc]; rfl, Lib.hid (HTc.out.keepN ((Keep.refl _ _).drewN _))⟩
              · have hci : decide ((dv : Int) < dk) = false := by simp; omega
                go_wp2
                go_roundg (n - (j + 1))
                case measure => have := HQJ.out; omega
                case rel => exact ⟨j + 1, by omega, by go_num, by rw [HP2.out, if_neg hc]; rfl, Lib.hid (HTc.out.keepN ((Keep.refl _ _).drewN _))⟩
        · have hje : j = n := by omega
          subst hje
          have hwho : Edf.pick P t (Edf.rel P Bd t (Edf.st j P Bd t)) j = Edf.who j P Bd t := rfl
          rw [hwho]
          obtain ⟨o, ho⟩ : ∃ o, o = Edf.who j P Bd t := ⟨_, rfl⟩
          rw [← ho]
          have hns := HNSs.out t
          rw [← ho] at hns
          have hdue : Edf.DueOk P j (t + 1) (Edf.dueTo P t D j) := fun _ i hi => if_pos hi
          have HNs := Lib.hid hns
          have HDue := Lib.hid hdue
          have HO := Lib.hid ho
          clear hwho ho hns hdue
          rcases o with _ | k
          · have hst : ∀ i, i < j → Edf.relTo P Bd t (Edf.st j P Bd t) j i = Edf.st j P Bd (t + 1) i := fun i hi => by
              have h1 : Edf.st j P Bd (t + 1) i = Edf.dec (Edf.rel P Bd t (Edf.st j P Bd t)) (Edf.who j P Bd t) i := rfl
              rw [h1, ← HO.out]
              exact if_pos hi
            have HSt2 := Lib.hid hst
            clear hst
            rw [show Ln.numOf none = -1 from rfl] at *
            go_wp2_with (at_builtin; refine wpList_append_fits _ rfl (.tmp 125) (.tmp 127) 54 rfl w.heap.size 3 i0 1 Try.underlying54 hi hz1 g t M (intCells (NS t)) rfl (HT.out.tick.alloc _) ⟨wr.heap.size, 0, none⟩ 1 1 [.int .i64 (-1)] rfl rfl (World.news_of_block (cs := #[.int .i64 (-1)]) (heap_alloc_new wr _)) int_news (by omega) ?_)
            intro w5 hown5 hgrow5
            have hk5 : Keep (fun k => k = g) wr w5 := ((Keep.refl _ _).alloc _).trans (Keep.of_grown hgrow5 (S := fun k => k = g) (fun k h => by injection h with h; exact h.symm)) (fun _ _ h => h)
            have ht5 := (HT.out.grow hk5 hown5).congr HSt2.out (fun _ _ => rfl)
            have HT5 := Lib.hid ht5
            clear hown5 hgrow5 hk5 ht5
            go_wp2
            go_roundg (M - (t + 1))
            case measure => have := HQ.out; omega
            case rel => exact ⟨t + 1, _, by omega, by go_num, rfl, by rw [HNs.out]; exact HT5.out, HDue.out⟩
          · obtain ⟨hk1, hk2⟩ := Edf.who_lt HO.out.symm
            have l1 := HT.out.left.cell hk1
            rw [show Edf.relTo P Bd t (Edf.st j P Bd t) j k = Edf.rel P Bd t (Edf.st j P Bd t) k from if_pos hk1] at l1
            have lf := HT.out.left.frozen k
            have hle : Edf.rel P Bd t (Edf.st j P Bd t) k ≤ 9000000000 := by
              have h1 := Edf.rel_le (n := j) (p := P) (b := Bd) t k
              obtain ⟨_, _, bd, pd, _, _, HC, _, b2, _⟩ := HCell.out k hk1
              rw [HC.out.1] at h1
              omega
            obtain ⟨lv, hlv⟩ : ∃ lv, lv = Edf.rel P Bd t (Edf.st j P Bd t) k := ⟨_, rfl⟩
            have hst : ∀ i, i < j → Edf.set1 (Edf.relTo P Bd t (Edf.st j P Bd t) j) k (lv - 1) i = Edf.st j P Bd (t + 1) i := fun i hi => by
              have h1 : Edf.st j P Bd (t + 1) i = Edf.dec (Edf.rel P Bd t (Edf.st j P Bd t)) (Edf.who j P Bd t) i := rfl
              rw [h1, ← HO.out]
              unfold Edf.set1 Edf.dec
              by_cases hik : i = k
              · subst hik; rw [if_pos rfl, if_pos rfl, hlv]
              · rw [if_neg hik, if_neg (fun e => hik (Option.some.inj e).symm)]; exact if_pos hi
            rw [← hlv] at l1 hk2 hle
            have hlv1 : (lv : Int) - 1 = ((lv - 1 : Nat) : Int) := by omega
            have HSt2 := Lib.hid hst
            have HLv1 := Lib.hid hlv1
            have hki : (k : Int) < j := by omega
            clear hst hlv hlv1
            rw [show Ln.numOf (some k) = (k : Int) from rfl] at *
            have ht4 := HT.out.setLeft k (lv - 1)
            rw [← HLv1.out] at ht4
            have HT4 := Lib.hid ht4
            clear ht4
            obtain ⟨w4, hw4⟩ : ∃ w4, w4 = wr.setCell ⟨gl, k, none⟩ (.int .i64 ((lv : Int) - 1)) := ⟨_, rfl⟩
            rw [← hw4] at HT4
            go_upto_region 30 with fail
            rw [← hw4]
            clear hw4 l1 lf
            go_wp2_with (at_builtin; refine wpList_append_fits _ rfl (.tmp 125) (.tmp 127) 54 rfl w.heap.size 3 i0 1 Try.underlying54 hi hz1 g t M (intCells (NS t)) rfl (HT4.out.tick.alloc _) ⟨w4.heap.size, 0, none⟩ 1 1 [.int .i64 k] rfl rfl (World.news_of_block (cs := #[.int .i64 k]) (heap_alloc_new w4 _)) int_news (by omega) ?_)
            intro w5 hown5 hgrow5
            have hk5 : Keep (fun k => k = g) w4 w5 := ((Keep.refl _ _).alloc _).trans (Keep.of_grown hgrow5 (S := fun k => k = g) (fun k h => by injection h with h; exact h.symm)) (fun _ _ h => h)
            have ht5 := (HT4.out.grow hk5 hown5).congr HSt2.out (fun _ _ => rfl)
            have HT5 := Lib.hid ht5
            clear hown5 hgrow5 hk5 ht5
            go_wp2
            go_roundg (M - (t + 1))
            case measure => have := HQ.out; omega
            case rel => exact ⟨t + 1, _, by omega, by go_num, rfl, by rw [HNs.out]; exact HT5.out, HDue.out⟩
    · have hte : t = M := by omega
      subst hte
      go_wp2
      go_ret
      refine ⟨g, rfl, ?_, HB3.out.trans (HT.out.keep.below HB3.out.size (fun i hi h => by omega))⟩
      rw [← HNSM.out]
      exact HT.out.tick
end Go.Proofs.Ytgilejknjdbneaa
