/- Earliest due first, where there are no needs; and both together. -/
import Derived.Test.YtgilejknjdbneaaE2
namespace Go.Proofs.Ytgilejknjdbneaa
open Go.RowKit Go.IntWalk
theorem Ln.edf_none {M : Nat} (hM : 0 < M) : Ln.edf [] M = Ln.run [] ByteArray.empty M := by
  have h := Edf.rows_more (n := 0) (p := Ln.nP []) (b := Ln.nB []) (sub := Ln.nS []) (t := 0) (c := M) (o := none) (fun s _ => rfl) hM
  rw [Nat.zero_add] at h
  exact h
set_option maxRecDepth 100000 in
set_option maxHeartbeats 2000000 in
theorem earliest_none (M : Nat) (A : Option Addr) (c : Nat) (w : World) (hM : 1 ≤ M) (hM2 : M ≤ 65536) :
    Calls Try.prog 37 #[.int .i64 M, .slice A 0 c] w fun e w' => ∃ v, e = .returned v ∧ w'.ownsRow w.heap.size 33 3 v (Ln.edf [] M).length (slotCells (Ln.edf [] M)) ∧ Below w.heap.size w w' := by
  rw [Ln.edf_none (by omega)]
  obtain ⟨rows1, hrows1⟩ : ∃ x, x = Ln.run [] ByteArray.empty M := ⟨_, rfl⟩
  rw [← hrows1]
  have HRows := Lib.hid hrows1
  clear hrows1
  go_enter Try.func37, Try.ntmps37
  go_wp2
  obtain ⟨p, hp⟩ : ∃ p, p = w.heap.size := ⟨_, rfl⟩
  obtain ⟨gw, hgw⟩ : ∃ gw, gw = p + 1 := ⟨_, rfl⟩
  obtain ⟨PW, hPW⟩ : ∃ PW, PW = p + 1 + 1 := ⟨_, rfl⟩
  obtain ⟨gn, hgn⟩ : ∃ gn, gn = p + 1 + 1 + 1 := ⟨_, rfl⟩
  obtain ⟨PN, hPN⟩ : ∃ PN, PN = p + 1 + 1 + 1 + 1 := ⟨_, rfl⟩
  rw [← hp, ← hPN, ← hgn, ← hPW, ← hgw]
  obtain ⟨wo, hwo⟩ : ∃ wo, wo = (((((w.alloc (Obj.cells #[Value.slice none 0 0] 74)).alloc (Obj.cells #[] 96)).alloc (Obj.cells #[Value.slice (some ⟨gw, 0, none⟩) 0 0] 93)).alloc (Obj.cells #[] 96)).alloc (Obj.cells #[Value.slice (some ⟨gn, 0, none⟩) 0 0] 93)) := ⟨_, rfl⟩
  rw [← hwo]
  have hst := ESt.start w p PW PN gw gn wo hp hgw hPW hgn hPN hwo
  have HSt := Lib.hid hst
  clear hst hwo hgw hPW hgn hPN hp
  go_loopg [21] 0 (fun k i wr => i = .int .i64 0 ∧ wr = wo)
  case atStart => exact ⟨rfl, rfl⟩
  case round =>
    obtain ⟨rfl, rfl⟩ := hrel
    go_wp2
    go_loopg [9] M (fun k i wr => ∃ (t : Nat) (rv : Value) (rows : List Slot), i = .int .i64 t ∧ k + t = M ∧ Hid (ESt w.heap.size w wr p PW PN rv (.slice (some ⟨gw, 0, none⟩) 0 0) (.slice (some ⟨gn, 0, none⟩) 0 0) rows [] []) ∧ (t = 0 ∧ rows = [] ∨ t = M ∧ Hid (rows = rows1)))
    case atStart => exact ⟨0, .slice none 0 0, [], rfl, rfl, HSt.out, .inl ⟨rfl, rfl⟩⟩
    case round =>
      obtain ⟨t, rv, rows, rfl, hkt, HE, hor⟩ := hrel
      have HKT := Lib.hid hkt
      clear hkt
      rcases hor with ⟨ht, hrw⟩ | ⟨ht, HRw⟩
      · subst ht
        subst hrw
        have hlt : 0 < M := by omega
        have hcw := HE.out.wait.var.cell
        have hcn := HE.out.next.var.cell
        go_wp2
        go_loopg [] 0 (fun k wq => wq = wr)
        case atStart => rfl
        case round =>
          obtain rfl := hrel
          go_wp2_with fail
          refine (len_any _ (some ⟨gn, 0, none⟩) 0 0).mono ?_
          rintro e w1 ⟨rfl, rfl⟩
          go_wp2_with fail
          refine (len_any _ (some ⟨gn, 0, none⟩) 0 0).mono ?_
          rintro e w1 ⟨rfl, rfl⟩
          go_wp2_with fail
          refine (len_any _ (some ⟨gw, 0, none⟩) 0 0).mono ?_
          rintro e w1 ⟨rfl, rfl⟩
          go_wp2_with fail
          refine (run_any _ p (p + 1) rv [] ByteArray.empty (M : Int) ⟨by omega, by omega⟩ (fun x hx => by simp at hx) (by simp) HE.out.vp (by omega) (by have := HE.out.vp.lt; omega) HE.out.row).mono ?_
          rintro e w2 ⟨rfl, rv', hv', hown', hk'⟩
          rw [← HRows.out] at hown'
          have he2 := HE.out.onRow HE.out.size hk' hv' hown'
          have HE2 := Lib.hid he2
          clear hv' hown' hk' he2
          go_wp2
          go_roundg 0
          case measure => have := HKT.out; omega
          case rel => exact ⟨M, rv', rows1, rfl, by omega, HE2.out, .inr ⟨rfl, rfl⟩⟩
      · subst ht
        have hcp := HE.out.vp.cell
        go_wp2
        go_ret
        refine ⟨rv, rfl, ?_, HE.out.below⟩
        rw [← HRw.out]
        exact own_base_low HE.out.row (by have := HE.out.lowp; omega)

/-- Earliest due first. -/
theorem earliest_any (M : Nat) (A : Option Addr) (c : Nat) (xs : List Run) (w : World) (hM : 1 ≤ M) (hM2 : M ≤ 65536) (hn : xs.length ≤ M)
    (hb : ∀ r ∈ xs, 1 ≤ r.bud ∧ r.bud ≤ 65536 ∧ 1 ≤ r.per ∧ r.per ≤ 65536) (hf : Edf.Fits xs.length (Ln.nP xs) (Ln.nB xs)) (hr : RunsAt w A xs) :
    Calls Try.prog 37 #[.int .i64 M, .slice A xs.length c] w fun e w' => ∃ v, e = .returned v ∧ w'.ownsRow w.heap.size 33 3 v (Ln.edf xs M).length (slotCells (Ln.edf xs M)) ∧ Below w.heap.size w w' := by
  rcases Nat.eq_zero_or_pos xs.length with h | h
  · obtain rfl := List.eq_nil_of_length_eq_zero h
    exact earliest_none M A c w hM hM2
  · exact earliest_some M xs.length A c xs w hM hM2 rfl hn h hb hf hr
end Go.Proofs.Ytgilejknjdbneaa
