/- LBase LT1 LT3 LU4 LH1 LH2 -/
import Derived.Test.YtpblcjipmoblnaaGreatDoorProg
import Derived.Test.YtpblcjipmoblnaaGreatDoorMem
import Derived.WalkKit
import Derived.WalkSpells
import Derived.WalkLawsBesides
import Derived.Deep.QuietTactic
import Derived.BigQuiet
import Derived.Lib.Hide
import Derived.Deep.AppendLies
import Derived.Deep.Draws
import Derived.Test.YtpblcjipmoblnaaGreatDoorFacts3
set_option maxRecDepth 100000
set_option maxHeartbeats 4000000
set_option linter.unusedVariables false
set_option linter.unusedSimpArgs false
namespace Go.Proofs.YtpblcjipmoblnaaGreatDoor
open Go.RowKit Go.IntWalk
def Run.val (r : Run) : Value := .agg #[.int .i64 r.pos, .string r.subj, .int .u64 r.bud, .int .u64 r.per]
def RunsAt (w : World) (A : Option Addr) (xs : List Run) : Prop :=
 0 < xs.length → ∃ b off, A = some ⟨b, off, none⟩ ∧ b < w.heap.size ∧ ∀ i r, xs[i]? = some r →
  w.cell? ⟨b, off + i * 4, none⟩ = some (.int .i64 r.pos) ∧ w.cell? ⟨b, off + i * 4 + 1, none⟩ = some (.string r.subj) ∧
  w.cell? ⟨b, off + i * 4 + 2, none⟩ = some (.int .u64 r.bud) ∧ w.cell? ⟨b, off + i * 4 + 3, none⟩ = some (.int .u64 r.per)
theorem RunsAt.below {w w' : World} {A : Option Addr} {xs : List Run} {B : Nat} (h : RunsAt w A xs) (hb : Below B w w') (hB : w.heap.size ≤ B) : RunsAt w' A xs := by
 intro hn
 obtain ⟨b, off, e, hlt, hc⟩ := h hn
 refine ⟨b, off, e, Nat.lt_of_lt_of_le hlt hb.size, fun i r hr => ?_⟩
 obtain ⟨c0, c1, c2, c3⟩ := hc i r hr
 have hk : ∀ o, w'.cell? ⟨b, o, none⟩ = w.cell? ⟨b, o, none⟩ := fun o => hb.cell (p := ⟨b, o, none⟩) (by simp; omega)
 exact ⟨(hk _).trans c0, (hk _).trans c1, (hk _).trans c2, (hk _).trans c3⟩
def Slot.cells (s : Slot) : List Value := [.string s.subj, .int .i64 s.from_, .int .i64 s.to]
def slotCells (l : List Slot) : List Value := l.flatMap Slot.cells
theorem slotCells_length (l : List Slot) : (slotCells l).length = l.length * 3 := by
 induction l with
 | nil => rfl
 | cons s l ih => simp only [slotCells, List.flatMap_cons, List.length_append, List.length_cons] at ih ⊢; rw [ih]; simp [Slot.cells]; omega
theorem slotCells_append (l m : List Slot) : slotCells (l ++ m) = slotCells l ++ slotCells m := by simp [slotCells]
theorem slotCells_at {l : List Slot} {i : Nat} {s : Slot} (h : l[i]? = some s) :
 (slotCells l)[i * 3]? = some (.string s.subj) ∧ (slotCells l)[i * 3 + 1]? = some (.int .i64 s.from_) ∧ (slotCells l)[i * 3 + 2]? = some (.int .i64 s.to) := by
 induction l generalizing i with
 | nil => simp at h
 | cons x l ih =>
  cases i with
  | zero => simp at h; subst h; simp [slotCells, Slot.cells]
  | succ i =>
   have := ih (i := i) (by simpa using h)
   have e : ∀ j, (slotCells (x :: l))[(i + 1) * 3 + j]? = (slotCells l)[i * 3 + j]? := fun j => by
    simp only [slotCells, List.flatMap_cons]
    rw [List.getElem?_append_right (by simp [Slot.cells]; omega)]
    congr 1
    simp [Slot.cells]; omega
   exact ⟨(e 0).trans this.1, (e 1).trans this.2.1, (e 2).trans this.2.2⟩
theorem Tryz.info256 : (Tryz.prog.info? 256).map (fun i => (i.zero, i.size, i.bytes)) = some (some (.agg #[.string ByteArray.empty, .int .i64 0, .int .i64 0]), 3, 32) := by kernel_rfl
theorem right_any (M : Nat) (r : Run) (nd : Bool) (w : World) (hM : M < 18446744073709551616) (hb : r.bud < 18446744073709551616) (hp : r.per < 18446744073709551616) :
 Calls Tryz.prog 115 #[.int .u64 M, r.val, .bool nd] w fun e w' => e = .returned (.int .i64 (Ln.right M r nd)) ∧ Below w.heap.size w w' := by
 obtain ⟨pos, s, bud, per⟩ := r
 simp only [Run.val] at *
 go_enter Tryz.func115, Tryz.ntmps115
 go_wp2
 all_goals go_ret
 all_goals refine ⟨ret_int ?_, (Below.refl _ _).alloc (Nat.le_refl _) _⟩
 all_goals (unfold Ln.right; simp_all)
 all_goals try omega
theorem wants_any (M : Nat) (r : Run) (nd : Bool) (w : World) (hM : M ≤ 65536) (hb : r.bud ≤ M) (hp : nd = true → r.bud ≤ r.per ∧ 1 ≤ r.per ∧ r.per ≤ M) :
 Calls Tryz.prog 116 #[.int .u64 M, r.val, .bool nd] w fun e w' => e = .returned (.int .u64 (Ln.wants M r nd)) ∧ Below w.heap.size w w' := by
 obtain ⟨pos, s, bud, per⟩ := r
 simp only [Run.val] at *
 go_enter Tryz.func116, Tryz.ntmps116
 cases nd
 · go_wp2
   go_ret
   exact ⟨rfl, (Below.refl _ _).alloc (Nat.le_refl _) _⟩
 · obtain ⟨h1, h2, h3⟩ := hp rfl
   clear hp
   have h4 : bud * (M / per) ≤ M := Nat.le_trans (Nat.mul_le_mul_right _ h1) (Nat.mul_div_le M per)
   have h5 : (bud : Int) * ((M : Int) / (per : Int)) = ((bud * (M / per) : Nat) : Int) := by simp
   have h6 : (0 : Int) ≤ (bud : Int) * ((M : Int) / (per : Int)) := by rw [h5]; omega
   have h7 : (bud : Int) * ((M : Int) / (per : Int)) ≤ 65536 := by rw [h5]; omega
   clear h5
   go_wp2
   go_quiet (fail)
   go_wp2
   go_ret
   refine ⟨ret_int ?_, below_drewN ((Below.refl _ _).alloc (Nat.le_refl _) _) _⟩
   simp only [Ln.wants, if_true]
   have h8 := tdiv_le M per (by omega) (by omega)
   rw [u64_in (↑M / ↑per) (by omega), u64_in _ (by omega)]
   simp
theorem end_none (w : World) (c : Nat) (A : Option Addr) : Calls Tryz.prog 119 #[.slice A 0 c] w fun e w' => e = .returned (.int .i64 0) ∧ w = w' := by
 go_enter Tryz.func119, Tryz.ntmps119
 go_wp2
 go_ret
 exact ⟨rfl, rfl⟩
theorem end_some (w : World) (b off n c : Nat) (to : Int) (hn : n < 140737488351232) (hc : w.cell? ⟨b, off + n * 3 + 2, none⟩ = some (.int .i64 to)) : Calls Tryz.prog 119 #[.slice (some ⟨b, off, none⟩) (n+1) c] w fun e w' => e = .returned (.int .i64 to) ∧ w = w' := by
 go_enter Tryz.func119, Tryz.ntmps119
 go_wp2
 go_ret
 exact ⟨rfl, rfl⟩
theorem slice_news {s : ByteArray} {a b : Int} : ∀ u ∈ [Value.string s, .int .i64 a, .int .i64 b], u.oneCell' = true := by
 intro u hu; simp at hu; rcases hu with rfl | rfl | rfl <;> rfl
theorem run_end {w w1 : World} {p B : Nat} {v v' : Value} {l : List Slot} {s : ByteArray} {a b : Int} (hp : Var w p 216 v) (hpB : p < B)
 (hown : w.ownsRow B 256 3 v l.length (slotCells l))
 (hown' : w1.ownsRow B 256 3 v' (l.length + 1) (slotCells l ++ [.string s, .int .i64 a, .int .i64 b]))
 (hgrow : (w.alloc (Obj.cells #[.string s, .int .i64 a, .int .i64 b] 256)).grownBy w1 v.ownBlock) :
 Var w1 p 216 v ∧ (Var w1 p 216 v → Var (w1.setCell ⟨p, 0, none⟩ v') p 216 v' ∧ (w1.setCell ⟨p, 0, none⟩ v').ownsRow B 256 3 v' (l ++ [Slot.mk s a b]).length (slotCells (l ++ [Slot.mk s a b])) ∧
  Keep (fun k => k = p ∨ v.ownBlock = some k) w (w1.setCell ⟨p, 0, none⟩ v')) := by
 have hlt := hp.lt
 have hk0 : Keep (fun k => v.ownBlock = some k) w w1 := ((Keep.refl _ w).alloc _).trans (Keep.of_grown hgrow (S := fun k => v.ownBlock = some k) (fun k h => h)) (fun _ _ h => h)
 have hne : ¬ v.ownBlock = some p := fun h => by have := (hown.lt p h).1; omega
 refine ⟨hp.keep hk0 hne, fun h1 => ⟨h1.set_ _, ?_, ?_⟩⟩
 · rw [slotCells_append]
   rw [List.length_append]
   exact ownsRow_setCell_below (a := ⟨p, 0, none⟩) hown' (by exact hpB) _
 · exact (hk0.mono fun i _ h => .inr h).setCell (fun _ => .inl rfl) _
theorem run_zero (w : World) (p B : Nat) (A : Option Addr) (c : Nat) (s : ByteArray) (t : Int) (ht : 0 ≤ t ∧ t ≤ 65536) (hp : Var w p 216 (.slice A 0 c)) (hpB : p < B) (hB : B ≤ w.heap.size)
 (hown : w.ownsRow B 256 3 (.slice A 0 c) 0 []) :
 Calls Tryz.prog 118 #[.pointer (some ⟨p, 0, none⟩), .string s, .int .i64 t] w fun e w' => e = .returned (.tuple #[]) ∧
  ∃ v', Var w' p 216 v' ∧ w'.ownsRow B 256 3 v' 1 (slotCells [⟨s, 0, t⟩]) ∧ Keep (fun k => k = p ∨ (Value.slice A 0 c).ownBlock = some k) w w' := by
 have hc := hp.cell
 have hf := hp.frozen
 have hlt := hp.lt
 obtain ⟨i0, hi, hz0, hz1, hz2⟩ := info_parts Tryz.info256
 go_enter Tryz.func118, Tryz.ntmps118
 go_wp2_with fail
 refine (end_none _ _ _).mono ?_
 rintro e w' ⟨rfl, rfl⟩
 go_wp2_with fail
 refine (end_none _ _ _).mono ?_
 rintro e w' ⟨rfl, rfl⟩
 go_wp2_with (at_builtin; refine wpList_append_lies _ rfl _ _ 216 rfl B 256 i0 (.agg #[.string ByteArray.empty, .int .i64 0, .int .i64 0]) 3 32 Tryz.underlying216 hi hz0 hz1 hz2 rfl (by omega) (.slice A 0 c) 0 [] rfl (hown.alloc _) ⟨w.heap.size, 0, none⟩ 1 1 [.string s, .int .i64 0, .int .i64 t] rfl rfl (World.news_of_block (cs := #[.string s, .int .i64 0, .int .i64 t]) (heap_alloc_new w _)) slice_news (by omega) (by unfold maxLen; omega) (by omega) ?c2 (w.heap.size + 1) (by simp) ?_)
 case c2 => simp; omega
 intro g cap w1 hown1 hgrow hat hlt2
 obtain ⟨hv, hfin⟩ := run_end (l := []) hp hpB hown hown1 hgrow
 have hc1 := hv.cell
 have hf1 := hv.frozen
 go_wp2
 go_end0
 exact ⟨rfl, _, hfin hv⟩
theorem run_more (w : World) (p B g n c : Nat) (l : List Slot) (x : Slot) (s : ByteArray) (t : Int) (ht : 0 ≤ t ∧ t ≤ 65536) (hx : 0 ≤ x.to ∧ x.to ≤ 4611686018427387904) (hn : n ≤ 1000000000)
 (hp : Var w p 216 (.slice (some ⟨g, 0, none⟩) (n + 1) c)) (hpB : p < B) (hB : B ≤ w.heap.size)
 (hl : l.length = n + 1) (hlast : l[n]? = some x) (hne : x.subj ≠ s)
 (hown : w.ownsRow B 256 3 (.slice (some ⟨g, 0, none⟩) (n + 1) c) (n + 1) (slotCells l)) :
 Calls Tryz.prog 118 #[.pointer (some ⟨p, 0, none⟩), .string s, .int .i64 t] w fun e w' => e = .returned (.tuple #[]) ∧
  ∃ v', Var w' p 216 v' ∧ w'.ownsRow B 256 3 v' (l ++ [Slot.mk s x.to (x.to + t)]).length (slotCells (l ++ [Slot.mk s x.to (x.to + t)])) ∧ Keep (fun k => k = p ∨ (Value.slice (some ⟨g, 0, none⟩) (n + 1) c).ownBlock = some k) w w' := by
 have hc := hp.cell
 have hf := hp.frozen
 have hlt := hp.lt
 obtain ⟨i0, hi, hz0, hz1, hz2⟩ := info_parts Tryz.info256
 obtain ⟨q0, q1, q2⟩ := slotCells_at hlast
 have hcs := hown.cells (g := g) rfl
 have hadd : ∀ j, (⟨g, 0, none⟩ : Addr).add j = ⟨g, j, none⟩ := fun j => by unfold Addr.add; split <;> simp_all
 have c0 := hcs _ _ q0
 have c2 := hcs _ _ q2
 rw [hadd] at c0 c2
 have hne' := bytes_ne hne
 have Hl := Lib.hid hl
 clear hcs hl hadd q0 q1 q2 hlast
 go_enter Tryz.func118, Tryz.ntmps118
 go_wp2_with fail
 refine (end_some _ g 0 n c x.to (by omega) (by simpa using c2)).mono ?_
 rintro e w' ⟨rfl, rfl⟩
 go_wp2_with fail
 refine (end_some _ g 0 n c x.to (by omega) (by simpa using c2)).mono ?_
 rintro e w' ⟨rfl, rfl⟩
 go_wp2_with (at_builtin; refine wpList_append_lies _ rfl _ _ 216 rfl B 256 i0 (.agg #[.string ByteArray.empty, .int .i64 0, .int .i64 0]) 3 32 Tryz.underlying216 hi hz0 hz1 hz2 rfl (by omega) (.slice (some ⟨g, 0, none⟩) (n + 1) c) (n + 1) (slotCells l) rfl (hown.alloc _) ⟨w.heap.size, 0, none⟩ 1 1 [.string s, .int .i64 x.to, .int .i64 (x.to + t)] rfl rfl (World.news_of_block (cs := #[.string s, .int .i64 x.to, .int .i64 (x.to + t)]) (heap_alloc_new w _)) slice_news (by omega) (by unfold maxLen; omega) (by omega) ?c2 (w.heap.size + 1) (by simp) ?_)
 case c2 => simp; omega
 intro g' cap w1 hown1 hgrow hat hlt2
 obtain ⟨hv, hfin⟩ := run_end (l := l) hp hpB (by rw [Hl.out]; exact hown) (by rw [Hl.out]; exact hown1) hgrow
 have hc1 := hv.cell
 have hf1 := hv.frozen
 go_wp2
 go_end0
 exact ⟨rfl, _, hfin hv⟩
theorem run_same (w : World) (p B g n c : Nat) (l : List Slot) (x : Slot) (t : Int) (ht : 0 ≤ t ∧ t ≤ 65536) (hx : 0 ≤ x.to ∧ x.to ≤ 4611686018427387904) (hn : n ≤ 1000000000)
 (hp : Var w p 216 (.slice (some ⟨g, 0, none⟩) (n + 1) c)) (hpB : p < B) (hB : B ≤ w.heap.size)
 (hl : l.length = n + 1) (hlast : l[n]? = some x)
 (hown : w.ownsRow B 256 3 (.slice (some ⟨g, 0, none⟩) (n + 1) c) (n + 1) (slotCells l)) :
 Calls Tryz.prog 118 #[.pointer (some ⟨p, 0, none⟩), .string x.subj, .int .i64 t] w fun e w' => e = .returned (.tuple #[]) ∧
  w' = w.setCell ⟨g, n * 3 + 2, none⟩ (.int .i64 (x.to + t)) := by
 have hc := hp.cell
 have hf := hp.frozen
 have hlt := hp.lt
 obtain ⟨q0, q1, q2⟩ := slotCells_at hlast
 have hcs := hown.cells (g := g) rfl
 have hadd : ∀ j, (⟨g, 0, none⟩ : Addr).add j = ⟨g, j, none⟩ := fun j => by unfold Addr.add; split <;> simp_all
 have c0 := hcs _ _ q0
 have c2 := hcs _ _ q2
 rw [hadd] at c0 c2
 have fz : w.frozen? ⟨g, n * 3 + 2, none⟩ = false := hown.frozenAt _
 clear hcs hl hadd q0 q1 q2 hlast
 go_enter Tryz.func118, Tryz.ntmps118
 go_wp2
 refine bodyPost_ret (results_none rfl _ _ _) rfl ?_
 exact ⟨rfl, rfl⟩
theorem run_any (w : World) (p B : Nat) (v : Value) (l : List Slot) (s : ByteArray) (t : Int) (ht : 0 ≤ t ∧ t ≤ 65536) (hx : ∀ x ∈ l, 0 ≤ x.to ∧ x.to ≤ 4611686018427387904) (hn : l.length ≤ 1000000000)
 (hp : Var w p 216 v) (hpB : p < B) (hB : B ≤ w.heap.size) (hown : w.ownsRow B 256 3 v l.length (slotCells l)) :
 Calls Tryz.prog 118 #[.pointer (some ⟨p, 0, none⟩), .string s, .int .i64 t] w fun e w' => e = .returned (.tuple #[]) ∧
  ∃ v', Var w' p 216 v' ∧ w'.ownsRow B 256 3 v' (Ln.run l s t).length (slotCells (Ln.run l s t)) ∧ Keep (fun k => k = p ∨ v.ownBlock = some k) w w' := by
 rcases Nat.eq_zero_or_pos l.length with h0 | h0
 · obtain rfl := List.eq_nil_of_length_eq_zero h0
   have hv : ∃ A c, v = .slice A 0 c := by
    rcases hown.2 with ⟨rfl, _⟩ | ⟨g, cap, cur, rfl, _⟩
    · exact ⟨_, _, rfl⟩
    · exact ⟨_, _, rfl⟩
   obtain ⟨A, c, rfl⟩ := hv
   exact run_zero w p B A c s t ht hp hpB hB hown
 · obtain ⟨g, cap, rfl, hBg, hlt⟩ := hown.form h0
   obtain ⟨n, hl⟩ : ∃ n, l.length = n + 1 := ⟨l.length - 1, by omega⟩
   obtain ⟨x, hlast⟩ : ∃ x, l[n]? = some x := ⟨l[n]'(by omega), List.getElem?_eq_getElem (by omega)⟩
   have hlast' : l.getLast? = some x := by rw [List.getLast?_eq_getElem?, hl]; exact hlast
   have hxx := hx x (List.mem_of_getElem? hlast)
   rw [hl] at hp hown
   rw [hl]
   by_cases hs : x.subj = s
   · subst hs
     refine (run_same w p B g n cap l x t ht hxx (by omega) hp hpB hB hl hlast hown).mono ?_
     rintro e w' ⟨rfl, rfl⟩
     have hst := (hown.stored (n * 3 + 2) (.int .i64 (x.to + t))).1
     have hne : ¬ g = p := by omega
     have hr : Ln.run l x.subj t = l.dropLast ++ [Slot.mk x.subj x.from_ (x.to + t)] := by simp [Ln.run, hlast']
     have hll : l = l.dropLast ++ [x] := by
      obtain ⟨ys, rfl⟩ := List.getLast?_eq_some_iff.1 hlast'
      simp
     have hdl : l.dropLast.length = n := by rw [List.length_dropLast, hl]; rfl
     refine ⟨rfl, _, hp.keep ((Keep.refl (fun k => k = g) w).setCell (fun _ => rfl) _) (fun h => hne h.symm), ?_, (Keep.refl _ w).setCell (fun _ => .inr rfl) _⟩
     rw [hr]
     have hlen : (l.dropLast ++ [Slot.mk x.subj x.from_ (x.to + t)]).length = n + 1 := by simp [hdl]
     rw [hlen]
     have hcs : slotCells (l.dropLast ++ [Slot.mk x.subj x.from_ (x.to + t)]) = (slotCells l).set (n * 3 + 2) (.int .i64 (x.to + t)) := by
      conv => rhs; rw [hll]
      rw [slotCells_append, slotCells_append, List.set_append_right _ _ (by rw [slotCells_length, hdl]; omega), slotCells_length, hdl]
      have : n * 3 + 2 - n * 3 = 2 := by omega
      rw [this]
      rfl
     rw [hcs]
     exact hst
   · refine (run_more w p B g n cap l x s t ht hxx (by omega) hp hpB hB hl hlast hs hown).mono ?_
     rintro e w' ⟨rfl, v', h1, h2, h3⟩
     have hr : Ln.run l s t = l ++ [Slot.mk s x.to (x.to + t)] := by simp [Ln.run, hlast', hs]
     rw [hr]
     exact ⟨rfl, v', h1, h2, h3⟩
def FlatPost (w : World) (R : List Slot × Int × Int) (e : Ending) (w' : World) : Prop :=
 ∃ v, e = .returned (.tuple #[v, .int .i64 R.2.1, .int .i64 R.2.2]) ∧ w'.ownsRow w.heap.size 256 3 v R.1.length (slotCells R.1) ∧ Below w.heap.size w w'
theorem FlatPost.nil {w w' : World} {a b : Int} (hb : Below w.heap.size w w') : FlatPost w ([], a, b) (.returned (.tuple #[.slice none 0 0, .int .i64 a, .int .i64 b])) w' :=
 ⟨_, rfl, World.ownsRow_nil _ _ _ _, hb⟩
theorem own_base_le {w : World} {base base' : Nat} {e : TypeId} {size : Nat} {v : Value} {n : Nat} {xs : List Value} (h : w.ownsRow base e size v n xs) (hb : base' ≤ base) : w.ownsRow base' e size v n xs := by
 refine ⟨h.1, ?_⟩
 rcases h.2 with h1 | ⟨g, cap, cur, h1, h2, h3⟩
 · exact .inl h1
 · exact .inr ⟨g, cap, cur, h1, Nat.le_trans hb h2, h3⟩
def Ln.flatRuns (M : Nat) (xs : List Run) : List Slot × Int × Int :=
 match Ln.flatErr M false 0 0 xs with
 | some (i, e) => ([], i, e)
 | none => Ln.capped (Ln.fill M (Ln.rowRuns [] xs))
theorem end_own (w : World) (B : Nat) (v : Value) (l : List Slot) (hn : l.length ≤ 1000000000) (hown : w.ownsRow B 256 3 v l.length (slotCells l)) :
 Calls Tryz.prog 119 #[v] w fun e w' => e = .returned (.int .i64 (Ln.endOf l)) ∧ w = w' := by
 rcases Nat.eq_zero_or_pos l.length with h0 | h0
 · obtain rfl := List.eq_nil_of_length_eq_zero h0
   have hv : ∃ A c, v = .slice A 0 c := by
    rcases hown.2 with ⟨rfl, _⟩ | ⟨g, cap, cur, rfl, _⟩
    · exact ⟨_, _, rfl⟩
    · exact ⟨_, _, rfl⟩
   obtain ⟨A, c, rfl⟩ := hv
   exact end_none w c A
 · obtain ⟨g, cap, rfl, hBg, hlt⟩ := hown.form h0
   obtain ⟨n, hl⟩ : ∃ n, l.length = n + 1 := ⟨l.length - 1, by omega⟩
   obtain ⟨x, hlast⟩ : ∃ x, l[n]? = some x := ⟨l[n]'(by omega), List.getElem?_eq_getElem (by omega)⟩
   have hlast' : l.getLast? = some x := by rw [List.getLast?_eq_getElem?, hl]; exact hlast
   have he : Ln.endOf l = x.to := by unfold Ln.endOf; rw [hlast']
   obtain ⟨q0, q1, q2⟩ := slotCells_at hlast
   have c2 := hown.cells (g := g) rfl _ _ q2
   have hadd : ∀ j, (⟨g, 0, none⟩ : Addr).add j = ⟨g, j, none⟩ := fun j => by unfold Addr.add; split <;> simp_all
   rw [hadd] at c2
   rw [he, hl]
   exact end_some w g 0 n cap x.to (by omega) (by simpa using c2)
theorem flat_bad (M : Nat) (w : World) (h : M < 1 ∨ 65536 < M) (hM : M < 18446744073709551616) (lp : Int) (cpu : Nat) (nd : Bool) (s : Value) (hs : s.cells = #[s]) :
 Calls Tryz.prog 66 #[.int .u64 M, .agg #[.int .i64 lp, .int .u64 cpu, .bool nd, s]] w (FlatPost w ([], -1, 92)) := by
 by_cases h0 : M < 1
 · clear h
   go_enter Tryz.func66, Tryz.ntmps66
   go_wp2
   go_ret3
   exact FlatPost.nil ((Below.refl _ _).alloc (Nat.le_refl _) _)
 · have h1 : 65536 < M := by omega
   clear h
   go_enter Tryz.func66, Tryz.ntmps66
   go_wp2
   go_ret3
   exact FlatPost.nil ((Below.refl _ _).alloc (Nat.le_refl _) _)
theorem flat_runs (M : Nat) (A : Option Addr) (c : Nat) (xs : List Run) (lp : Int) (cpu : Nat) (w : World) (hM : 1 ≤ M) (hM2 : M ≤ 65536)
 (hx : ∀ r ∈ xs, r.bud < 18446744073709551616 ∧ r.per < 18446744073709551616) (hl : xs.length ≤ 140737488351232) (hr : RunsAt w A xs) :
 Calls Tryz.prog 66 #[.int .u64 M, .agg #[.int .i64 lp, .int .u64 cpu, .bool false, .slice A xs.length c]] w (FlatPost w (Ln.flatRuns M xs)) := by
 obtain ⟨W, hW⟩ : ∃ W, W = w.alloc (.cells #[.int .i64 lp, .int .u64 cpu, .bool false, .slice A xs.length c] 92) := ⟨_, rfl⟩
 have hB : Below w.heap.size w W := by subst hW; exact (Below.refl _ _).alloc (Nat.le_refl _) _
 have hWs : W.heap.size = w.heap.size + 1 := by subst hW; simp
 have c2 : W.cell? ⟨w.heap.size, 2, none⟩ = some (.bool false) := by subst hW; rw [World.cell?_alloc_at _ _ _ _ rfl]; rfl
 have c3 : W.cell? ⟨w.heap.size, 3, none⟩ = some (.slice A xs.length c) := by subst hW; rw [World.cell?_alloc_at _ _ _ _ rfl]; rfl
 have hR : RunsAt W A xs := hr.below hB (Nat.le_refl _)
 obtain ⟨R, hRes⟩ : ∃ R, R = Ln.flatRuns M xs := ⟨_, rfl⟩
 rw [← hRes]
 have HR := Lib.hid hRes
 have HS := Lib.hid hWs
 have HW := Lib.hid hW
 clear hWs hRes
 go_enter Tryz.func66, Tryz.ntmps66
 have h0 : ¬ M < 1 := by omega
 have h1 : ¬ 65536 < M := by omega
 go_wp2
 rw [← hW]
 clear hW
 go_loopw [7, 24] (fun s i wr => ∃ k d : Nat, k ≤ xs.length ∧ i = .int .i64 k ∧ d ≤ M ∧ s = .int .u64 d ∧ Ln.flatErr M false k d (xs.drop k) = Ln.flatErr M false 0 0 xs ∧ Below W.heap.size W wr) (fun _ i _ => xs.length - (intOf i).toNat)
 case atStart => exact ⟨0, 0, by omega, rfl, by omega, rfl, rfl, Below.refl _ _⟩
 case round =>
  obtain ⟨k, d, hk, rfl, hd, rfl, hdem0, hbw⟩ := hrel
  have hdem := Lib.hid hdem0
  clear hdem0
  have hsz := hbw.size
  have hlt0 : w.heap.size < wr.heap.size := by have := HS.out; omega
  have c2' : wr.cell? ⟨w.heap.size, 2, none⟩ = some (.bool false) := by
   rw [hbw.cell (p := ⟨w.heap.size, 2, none⟩) (by simp [HS.out])]; exact c2
  have c3' : wr.cell? ⟨w.heap.size, 3, none⟩ = some (.slice A xs.length c) := by
   rw [hbw.cell (p := ⟨w.heap.size, 3, none⟩) (by simp [HS.out])]; exact c3
  by_cases hlt : k < xs.length
  · obtain ⟨b, off, rfl, hbl, hcs⟩ := hR (by omega)
    obtain ⟨r, hrk⟩ : ∃ r, xs[k]? = some r := ⟨xs[k], List.getElem?_eq_getElem hlt⟩
    have hmem : r ∈ xs := List.mem_of_getElem? hrk
    obtain ⟨q0, q1, q2, q3⟩ := hcs k r hrk
    rw [← hbw.cell (p := ⟨b, _, none⟩) (by exact hbl)] at q0 q1 q2 q3
    have hbud := (hx r hmem).1
    have hper := (hx r hmem).2
    have hlt1 : b < wr.heap.size := by omega
    have hz : Ln.flatErr M false 0 0 xs = if Ln.right M r false = 0 then (if M < d + Ln.wants M r false then some ((k : Int), 93) else Ln.flatErr M false (k + 1) (d + Ln.wants M r false) (xs.drop (k + 1))) else some ((k : Int), Ln.right M r false) := by
     obtain ⟨h1, h2⟩ := List.getElem?_eq_some_iff.1 hrk
     rw [← hdem.out, List.drop_eq_getElem_cons h1, h2]; rfl
    have HZ := Lib.hid hz
    clear hrk hcs c2 c3 hz
    go_wp2_with fail
    refine (right_any _ r _ _ (by omega) hbud hper).mono ?_
    rintro e w1 ⟨rfl, hb1⟩
    have hz1 := hb1.size
    simp at hz1
    obtain ⟨hc1, hf1⟩ := bcell hb1
    have hbw1 : Below W.heap.size W w1 := (hbw.alloc hbw.size _).trans (hb1.mono (by simp; omega))
    clear hb1
    by_cases hr : Ln.right M r false = 0
    · have hr' : (Ln.right M r false != 0) = false := by simp [hr]
      have hw := Ln.wants_le hr
      obtain ⟨o1, o2, o3⟩ := Ln.right_ok hr
      have Hr := Lib.hid hr
      clear hr o3
      go_wp2_with fail
      refine (wants_any _ r _ _ hM2 o2 (fun h => by simp at h)).mono ?_
      rintro e w2 ⟨rfl, hb2⟩
      have hbw2 : Below W.heap.size W w2 := hbw1.trans (hb2.mono (by omega))
      clear hb2 hc1 hf1
      by_cases ho : M < d + Ln.wants M r false
      · go_wp2
        go_ret3
        rw [HR.out, Ln.flatRuns, HZ.out, if_pos Hr.out, if_pos ho]
        exact FlatPost.nil (hB.trans (hbw2.mono (by simp [HS.out])))
      · go_wp2
        go_roundw
        case rel =>
         exact ⟨k + 1, d + Ln.wants M r false, by omega, by go_num, by omega, by go_num, by rw [HZ.out, if_pos Hr.out, if_neg (by omega)], hbw2⟩
        case measure => simp [intOf]; omega
    · have hr' : (Ln.right M r false != 0) = true := by simp [hr]
      go_wp2
      go_ret3
      rw [HR.out, Ln.flatRuns, HZ.out, if_neg hr]
      exact FlatPost.nil (hB.trans (hbw1.mono (by simp [HS.out])))
  · have hk' : k = xs.length := by omega
    have hnone : Ln.flatErr M false 0 0 xs = none := by rw [← hdem.out, hk', List.drop_length]; rfl
    obtain ⟨hall, hsum⟩ := Ln.flatErr_none hnone
    have hsum' := hsum rfl (by omega)
    have HN := Lib.hid hnone
    have HA := Lib.hid hall
    have hB1 : Below w.heap.size w wr := hB.trans (hbw.mono (by simp [HS.out]))
    have hR1 : RunsAt wr A xs := hR.below hbw (by omega)
    clear hnone hall hsum hk' hR c2 c3 hbw hsz hB
    have hb1 : ∀ r ∈ xs, 1 ≤ r.bud ∧ r.bud ≤ 65536 := fun r hr => by
     obtain ⟨o1, o2, _⟩ := Ln.right_ok (HA.out r hr)
     exact ⟨o1, by omega⟩
    have hlen := Ln.sumBud_len (fun r hr => (hb1 r hr).1)
    have hfin : R = Ln.capped (Ln.fill M (Ln.rowRuns [] xs)) := by rw [HR.out, Ln.flatRuns, HN.out]
    have HF := Lib.hid hfin
    have HB1 := Lib.hid hB1
    clear hfin hB1
    go_wp2
    obtain ⟨wo, hwo⟩ : ∃ wo, wo = wr.alloc (.cells #[.slice none 0 0] 216) := ⟨_, rfl⟩
    obtain ⟨p, hp⟩ : ∃ p, p = wr.heap.size := ⟨_, rfl⟩
    have hwp : w.heap.size < p := by omega
    have hv0 : Var wo p 216 (.slice none 0 0) := by subst hwo hp; exact heap_alloc_new _ _
    have hBo : Below w.heap.size w wo := by subst hwo; exact HB1.out.alloc HB1.out.size _
    have hso : p + 1 ≤ wo.heap.size := by subst hwo hp; simp
    rw [← hwo, ← hp]
    clear hwo hp hR1 c2' c3'
    go_loopw [60] (fun i wq => ∃ (k T : Nat) (rows : List Slot) (v : Value), k ≤ xs.length ∧ i = .int .i64 k ∧ Ln.rowRuns rows (xs.drop k) = Ln.rowRuns [] xs ∧ Var wq p 216 v ∧ wq.ownsRow (p + 1) 256 3 v rows.length (slotCells rows) ∧
     Ln.UpTo T rows ∧ T + Ln.sumBud (xs.drop k) ≤ M ∧ rows.length ≤ k ∧ Below w.heap.size w wq ∧ p + 1 ≤ wq.heap.size) (fun i _ => xs.length - (intOf i).toNat)
    case atStart => exact ⟨0, 0, [], _, by omega, rfl, rfl, hv0, World.ownsRow_nil _ _ _ _, Ln.upTo_nil _, by simpa using hsum', by simp, hBo, hso⟩
    case round =>
     obtain ⟨k, T, rows, v, hk, rfl, hrows, hv, hown, hup, hT, hrl, hbq, hsq⟩ := hrel
     have Hrows := Lib.hid hrows
     have Hup := Lib.hid hup
     clear hrows hup
     by_cases hlt : k < xs.length
     · obtain ⟨b, off, rfl, hbl, hcs⟩ := hr (by omega)
       obtain ⟨r, hrk⟩ : ∃ r, xs[k]? = some r := ⟨xs[k], List.getElem?_eq_getElem hlt⟩
       have hmem : r ∈ xs := List.mem_of_getElem? hrk
       obtain ⟨q0, q1, q2, q3⟩ := hcs k r hrk
       obtain ⟨e1, e2⟩ := hb1 r hmem
       obtain ⟨h1, h2⟩ := List.getElem?_eq_some_iff.1 hrk
       have hd2 : xs.drop k = r :: xs.drop (k + 1) := by rw [List.drop_eq_getElem_cons h1, h2]
       have hsb : Ln.sumBud (xs.drop k) = r.bud + Ln.sumBud (xs.drop (k + 1)) := by rw [hd2]; rfl
       have hrr : Ln.rowRuns (Ln.run rows r.subj r.bud) (xs.drop (k + 1)) = Ln.rowRuns [] xs := by rw [← Hrows.out, hd2]; rfl
       rw [hsb] at hT
       have HRR := Lib.hid hrr
       clear hd2 hsb hrr hrk hcs h1 h2
       rw [← hbq.cell (p := ⟨b, _, none⟩) (by exact hbl)] at q0 q1 q2 q3
       have hlt1 : b < wr.heap.size := by omega
       go_wp2_with fail
       have hkk : Keep (fun _ => False) wr (wr.alloc (.cells #[.int .i64 r.pos, .string r.subj, .int .u64 r.bud, .int .u64 r.per] 108)) := (Keep.refl _ _).alloc _
       refine (run_any _ p (p + 1) v rows r.subj r.bud ⟨by omega, by omega⟩ (fun x hx => by have := Hup.out x hx; omega) (by omega) (hv.keep hkk (by simp)) (by omega) (by simp; omega) (hown.alloc _)).mono ?_
       rintro e w1 ⟨rfl, v', hv', hown', hk'⟩
       have hb2 : Below w.heap.size w w1 := (hbq.alloc (by omega) _).trans (hk'.below (by simp; omega) (fun i hi h => by
        rcases h with h | h
        · omega
        · have := (hown.lt _ h).1; omega))
       have hs2 := hk'.size
       simp at hs2
       have hup' := Ln.UpTo.run Hup.out (by omega) r.subj (t := (r.bud : Int)) (by omega)
       have HU := Lib.hid hup'
       have hlr := Ln.run_length rows r.subj r.bud
       clear hk' hkk hup'
       go_wp2
       go_roundw
       case rel => exact ⟨k + 1, T + r.bud, Ln.run rows r.subj r.bud, v', by omega, by go_num, HRR.out, hv', hown', by simpa using HU.out, by omega, by omega, hb2, by omega⟩
       case measure => simp [intOf]; omega
     · have hk' : k = xs.length := by omega
       have hrr : rows = Ln.rowRuns [] xs := by rw [← Hrows.out, hk', List.drop_length]; rfl
       have hT' : T ≤ M := by omega
       have hrl' : rows.length ≤ 65536 := by omega
       rw [← hrr] at HF
       obtain ⟨he0, he1⟩ := Ln.UpTo.end_ Hup.out (by omega)
       obtain ⟨E, hE⟩ : ∃ E, E = Ln.endOf rows := ⟨_, rfl⟩
       rw [← hE] at he0 he1
       have HE := Lib.hid hE
       have hvc := hv.cell
       clear hk' hrr hE hT hrl
       go_wp2_with fail
       refine (end_own _ (p + 1) v rows (by omega) hown).mono ?_
       rw [← HE.out]
       rintro e w1 ⟨rfl, rfl⟩
       by_cases hleft : 0 < (M : Int) - E
       · have hl2 : E < (M : Int) := by omega
         go_wp2_with fail
         refine (run_any _ p (p + 1) v rows ByteArray.empty (M - E) ⟨by omega, by omega⟩ (fun x hx => by have := Hup.out x hx; omega) (by omega) hv (by omega) (by omega) hown).mono ?_
         rintro e w2 ⟨rfl, v', hv', hown', hk'⟩
         have hb2 : Below w.heap.size w w2 := hbq.trans (hk'.below (by omega) (fun i hi h => by
          rcases h with h | h
          · omega
          · have := (hown.lt _ h).1; omega))
         have hff : Ln.fill M rows = Ln.run rows ByteArray.empty (M - E) := by unfold Ln.fill; rw [← HE.out, if_pos hleft]
         rw [hff] at HF
         obtain ⟨rows2, hrows2⟩ : ∃ x, x = Ln.run rows ByteArray.empty (M - E) := ⟨_, rfl⟩
         have hl3 := Ln.run_length rows ByteArray.empty (M - E)
         rw [← hrows2] at HF hown' hl3
         clear hk' hff hrows2
         have hvc' := hv'.cell
         have hsl : ∃ A cc, (if True then v' else v') = .slice A rows2.length cc := by
          rcases hown'.2 with ⟨h, h2⟩ | ⟨g, cap, cur, h, _⟩
          · exact ⟨none, 0, by rw [if_pos trivial, h, h2]⟩
          · exact ⟨_, _, by rw [if_pos trivial, h]⟩
         rw [if_pos trivial] at hsl
         obtain ⟨A2, cc, hsl⟩ := hsl
         subst hsl
         by_cases hcap : 4096 < rows2.length
         · go_wp2
           go_ret3
           rw [HF.out, Ln.capped, if_pos hcap]
           exact FlatPost.nil hb2
         · go_wp2
           go_ret3
           rw [HF.out, Ln.capped, if_neg hcap]
           exact ⟨_, rfl, own_base_le hown' (by omega), hb2⟩
       · have hff : Ln.fill M rows = rows := by unfold Ln.fill; rw [← HE.out, if_neg hleft]
         rw [hff] at HF
         obtain ⟨rows2, hrows2⟩ : ∃ x, x = rows := ⟨_, rfl⟩
         rw [← hrows2] at HF hown
         have hl3 : rows2.length ≤ rows.length + 1 := by rw [hrows2]; omega
         have hv' := hv
         have hown' := hown
         have hb2 := hbq
         clear hff hrows2 hv hown hbq
         have hvc' := hv'.cell
         have hsl : ∃ A cc, (if True then v else v) = .slice A rows2.length cc := by
          rcases hown'.2 with ⟨h, h2⟩ | ⟨g, cap, cur, h, _⟩
          · exact ⟨none, 0, by rw [if_pos trivial, h, h2]⟩
          · exact ⟨_, _, by rw [if_pos trivial, h]⟩
         rw [if_pos trivial] at hsl
         obtain ⟨A2, cc, hsl⟩ := hsl
         subst hsl
         by_cases hcap : 4096 < rows2.length
         · go_wp2
           go_ret3
           rw [HF.out, Ln.capped, if_pos hcap]
           exact FlatPost.nil hb2
         · go_wp2
           go_ret3
           rw [HF.out, Ln.capped, if_neg hcap]
           exact ⟨_, rfl, own_base_le hown' (by omega), hb2⟩
theorem m_push (a : Addr) (w : World) : (method 498 245 (.pointer (some a)) "Push").run Tryz.prog w = .ok (266, .pointer (some a)) w := by kernel_rfl
theorem m_pop (a : Addr) (w : World) : (method 498 245 (.pointer (some a)) "Pop").run Tryz.prog w = .ok (265, .pointer (some a)) w := by kernel_rfl
theorem m_len0 (a : Addr) (w : World) : (method 498 245 (.pointer (some a)) "Len").run Tryz.prog w = (match w.cell? a with | some v => .ok (137, v) w | none => (match w.farLoad Tryz.prog a (Mode.plain == Mode.atomic) with | .ok (v, _) => .ok (137, v) w | .error h => .halt h w)) := by kernel_rfl
theorem m_len {a : Addr} {w : World} {v : Value} (h : w.cell? a = some v) : (method 498 245 (.pointer (some a)) "Len").run Tryz.prog w = .ok (137, v) w := by rw [m_len0, h]
theorem m_less0 (a : Addr) (w : World) : (method 498 245 (.pointer (some a)) "Less").run Tryz.prog w = (match w.cell? a with | some v => .ok (264, v) w | none => (match w.farLoad Tryz.prog a (Mode.plain == Mode.atomic) with | .ok (v, _) => .ok (264, v) w | .error h => .halt h w)) := by kernel_rfl
theorem m_less {a : Addr} {w : World} {v : Value} (h : w.cell? a = some v) : (method 498 245 (.pointer (some a)) "Less").run Tryz.prog w = .ok (264, v) w := by rw [m_less0, h]
theorem m_swap0 (a : Addr) (w : World) : (method 498 245 (.pointer (some a)) "Swap").run Tryz.prog w = (match w.cell? a with | some v => .ok (267, v) w | none => (match w.farLoad Tryz.prog a (Mode.plain == Mode.atomic) with | .ok (v, _) => .ok (267, v) w | .error h => .halt h w)) := by kernel_rfl
theorem m_swap {a : Addr} {w : World} {v : Value} (h : w.cell? a = some v) : (method 498 245 (.pointer (some a)) "Swap").run Tryz.prog w = .ok (267, v) w := by rw [m_swap0, h]
def Job.cells (s : Job) : List Value := [.int .i64 s.need, .int .i64 s.due, .int .i64 s.left]
def jobCells (l : List Job) : List Value := l.flatMap Job.cells
theorem jobCells_length (l : List Job) : (jobCells l).length = l.length * 3 := by
 induction l with
 | nil => rfl
 | cons s l ih => simp only [jobCells, List.flatMap_cons, List.length_append, List.length_cons] at ih ⊢; rw [ih]; simp [Job.cells]; omega
theorem jobCells_append (l m : List Job) : jobCells (l ++ m) = jobCells l ++ jobCells m := by simp [jobCells]
theorem jobCells_at {l : List Job} {i : Nat} {s : Job} (h : l[i]? = some s) :
 (jobCells l)[i * 3]? = some (.int .i64 s.need) ∧ (jobCells l)[i * 3 + 1]? = some (.int .i64 s.due) ∧ (jobCells l)[i * 3 + 2]? = some (.int .i64 s.left) := by
 induction l generalizing i with
 | nil => simp at h
 | cons x l ih =>
  cases i with
  | zero => simp at h; subst h; simp [jobCells, Job.cells]
  | succ i =>
   have := ih (i := i) (by simpa using h)
   have e : ∀ j, (jobCells (x :: l))[(i + 1) * 3 + j]? = (jobCells l)[i * 3 + j]? := fun j => by
    simp only [jobCells, List.flatMap_cons]
    rw [List.getElem?_append_right (by simp [Job.cells]; omega)]
    congr 1
    simp [Job.cells]; omega
   exact ⟨(e 0).trans this.1, (e 1).trans this.2.1, (e 2).trans this.2.2⟩
theorem jobCells_set (l : List Job) (i : Nat) (b : Job) (h : i < l.length) : jobCells (l.set i b) = (((jobCells l).set (i * 3) (.int .i64 b.need)).set (i * 3 + 1) (.int .i64 b.due)).set (i * 3 + 2) (.int .i64 b.left) := by
 induction l generalizing i with
 | nil => simp at h
 | cons x l ih =>
  cases i with
  | zero => simp [jobCells, Job.cells]
  | succ i =>
   have := ih i (by simpa using h)
   have e : ∀ (l : List Value) (j : Nat) (u : Value), (x.cells ++ l).set ((i + 1) * 3 + j) u = x.cells ++ l.set (i * 3 + j) u := fun l j u => by
    rw [List.set_append_right _ _ (by simp [Job.cells]; omega)]
    congr 2
    simp [Job.cells]; omega
   have e0 := fun l u => e l 0 u
   simp only [Nat.add_zero] at e0
   simp only [List.set_cons_succ, jobCells, List.flatMap_cons] at this ⊢
   rw [this, e0, e, e]
theorem Tryz.info250 : (Tryz.prog.info? 250).map (fun i => (i.zero, i.size, i.bytes)) = some (some (.agg #[.int .i64 0, .int .i64 0, .int .i64 0]), 3, 24) := by kernel_rfl
theorem len_any (w : World) (A : Option Addr) (n c : Nat) : Calls Tryz.prog 137 #[.slice A n c] w fun e w' => e = .returned (.int .i64 n) ∧ w = w' := by
 go_enter Tryz.func137, Tryz.ntmps137
 go_wp2
 go_ret
 exact ⟨rfl, rfl⟩
theorem own_cells {w : World} {B g n c i : Nat} {l : List Job} {a : Job} (hown : w.ownsRow B 250 3 (.slice (some ⟨g, 0, none⟩) n c) n (jobCells l)) (ha : l[i]? = some a) :
 w.cell? ⟨g, i * 3, none⟩ = some (.int .i64 a.need) ∧ w.cell? ⟨g, i * 3 + 1, none⟩ = some (.int .i64 a.due) ∧ w.cell? ⟨g, i * 3 + 2, none⟩ = some (.int .i64 a.left) := by
 have hadd : ∀ j, (⟨g, 0, none⟩ : Addr).add j = ⟨g, j, none⟩ := fun j => by unfold Addr.add; split <;> simp_all
 obtain ⟨q0, q1, q2⟩ := jobCells_at ha
 have hcs := hown.cells (g := g) rfl
 have c0 := hcs _ _ q0
 have c1 := hcs _ _ q1
 have c2 := hcs _ _ q2
 rw [hadd] at c0 c1 c2
 exact ⟨c0, c1, c2⟩
theorem less_any (w : World) (g n c i j : Nat) (a b : Job) (l : List Job) (hn : l.length = n) (ha : l[i]? = some a) (hb : l[j]? = some b) (hown : w.ownsRow 0 250 3 (.slice (some ⟨g, 0, none⟩) n c) n (jobCells l)) :
 Calls Tryz.prog 264 #[.slice (some ⟨g, 0, none⟩) n c, .int .i64 i, .int .i64 j] w fun e w' => e = .returned (.bool (decide (Ln.jlt a b))) ∧ ∃ n, w' = w.drewN n := by
 obtain ⟨a0, a1, a2⟩ := own_cells hown ha
 obtain ⟨b0, b1, b2⟩ := own_cells hown hb
 have h1 := (List.getElem?_eq_some_iff.1 ha).1
 have h2 := (List.getElem?_eq_some_iff.1 hb).1
 have h1' : (i : Int) < n := by omega
 have h2' : (j : Int) < n := by omega
 clear hown ha hb hn
 by_cases g1 : a.due < b.due
 · have hr : decide (Ln.jlt a b) = true := by simp; exact .inl g1
   rw [hr]
   have g1' : decide (a.due < b.due) = true := by simpa using g1
   clear hr g1
   go_enter Tryz.func264, Tryz.ntmps264
   go_wp2
   go_big_quiet (fail)
   go_wp2
   go_ret
   exact ⟨rfl, nq, rfl⟩
 · have g1' : decide (a.due < b.due) = false := by simpa using g1
   by_cases g2 : a.due = b.due
   · have g2' : (a.due == b.due) = true := by simpa using g2
     have hr : decide (Ln.jlt a b) = decide (a.need < b.need) := by simp [Ln.jlt, g2]
     rw [hr]
     clear hr g1 g2
     go_enter Tryz.func264, Tryz.ntmps264
     go_wp2
     go_big_quiet (fail)
     go_wp2
     go_ret
     exact ⟨rfl, nq, rfl⟩
   · have g2' : (a.due == b.due) = false := by simpa using g2
     have hr : decide (Ln.jlt a b) = false := by rw [decide_eq_false_iff_not]; unfold Ln.jlt; omega
     rw [hr]
     clear hr g1 g2
     go_enter Tryz.func264, Tryz.ntmps264
     go_wp2
     go_big_quiet (fail)
     go_wp2
     go_ret
     exact ⟨rfl, nq, rfl⟩
theorem swap_any (w : World) (g n c i j : Nat) (a b : Job) (l : List Job) (hn : l.length = n) (ha : l[i]? = some a) (hb : l[j]? = some b) (hown : w.ownsRow 0 250 3 (.slice (some ⟨g, 0, none⟩) n c) n (jobCells l)) :
 Calls Tryz.prog 267 #[.slice (some ⟨g, 0, none⟩) n c, .int .i64 i, .int .i64 j] w fun e w' => e = .returned (.tuple #[]) ∧ w'.ownsRow 0 250 3 (.slice (some ⟨g, 0, none⟩) n c) n (jobCells (Ln.swapped l i j a b)) ∧ Keep (fun k => k = g) w w' := by
 obtain ⟨a0, a1, a2⟩ := own_cells hown ha
 obtain ⟨b0, b1, b2⟩ := own_cells hown hb
 have fz : ∀ k, w.frozen? ⟨g, k, none⟩ = false := fun k => hown.frozenAt k
 have f0 := fz (i * 3)
 have f1 := fz (i * 3 + 1)
 have f2 := fz (i * 3 + 2)
 have f3 := fz (j * 3)
 have f4 := fz (j * 3 + 1)
 have f5 := fz (j * 3 + 2)
 have h1 := (List.getElem?_eq_some_iff.1 ha).1
 have h2 := (List.getElem?_eq_some_iff.1 hb).1
 have h1' : (i : Int) < n := by omega
 have h2' : (j : Int) < n := by omega
 have HA := Lib.hid ha
 have HB := Lib.hid hb
 clear ha hb hn fz
 have hres : ((((((w.setCell ⟨g, i * 3, none⟩ (.int .i64 b.need)).setCell ⟨g, i * 3 + 1, none⟩ (.int .i64 b.due)).setCell ⟨g, i * 3 + 2, none⟩ (.int .i64 b.left)).setCell ⟨g, j * 3, none⟩ (.int .i64 a.need)).setCell ⟨g, j * 3 + 1, none⟩ (.int .i64 a.due)).setCell ⟨g, j * 3 + 2, none⟩ (.int .i64 a.left)).drew.ownsRow 0 250 3 (.slice (some ⟨g, 0, none⟩) n c) n (jobCells (Ln.swapped l i j a b)) := by
  have s1 := (hown.stored (i * 3) (.int .i64 b.need)).1
  have s2 := (s1.stored (i * 3 + 1) (.int .i64 b.due)).1
  have s3 := (s2.stored (i * 3 + 2) (.int .i64 b.left)).1
  rw [← jobCells_set l i b h1] at s3
  have s4 := (s3.stored (j * 3) (.int .i64 a.need)).1
  have s5 := (s4.stored (j * 3 + 1) (.int .i64 a.due)).1
  have s6 := (s5.stored (j * 3 + 2) (.int .i64 a.left)).1
  rw [← jobCells_set (l.set i b) j a (by simpa using h2)] at s6
  exact s6.drew
 have hkeep : Keep (fun k => k = g) w ((((((w.setCell ⟨g, i * 3, none⟩ (.int .i64 b.need)).setCell ⟨g, i * 3 + 1, none⟩ (.int .i64 b.due)).setCell ⟨g, i * 3 + 2, none⟩ (.int .i64 b.left)).setCell ⟨g, j * 3, none⟩ (.int .i64 a.need)).setCell ⟨g, j * 3 + 1, none⟩ (.int .i64 a.due)).setCell ⟨g, j * 3 + 2, none⟩ (.int .i64 a.left)).drew :=
  (((((((Keep.refl (fun k => k = g) w).setCell (fun _ => rfl) _).setCell (fun _ => rfl) _).setCell (fun _ => rfl) _).setCell (fun _ => rfl) _).setCell (fun _ => rfl) _).setCell (fun _ => rfl) _).drew
 have HRes := Lib.hid hres
 have HKeep := Lib.hid hkeep
 clear hres hkeep hown
 rcases Nat.lt_trichotomy i j with hij | hij | hij
 · go_enter Tryz.func267, Tryz.ntmps267
   go_wp2
   go_region
   go_wp2
   go_end0
   exact ⟨rfl, HRes.out, HKeep.out⟩
 · subst hij
   have hab : a = b := by have h1 := HA.out; have h2 := HB.out; rw [h1] at h2; injection h2
   subst hab
   go_enter Tryz.func267, Tryz.ntmps267
   go_wp2
   go_region
   go_wp2
   go_end0
   exact ⟨rfl, HRes.out, HKeep.out⟩
 · go_enter Tryz.func267, Tryz.ntmps267
   go_wp2
   go_region
   go_wp2
   go_end0
   exact ⟨rfl, HRes.out, HKeep.out⟩
end Go.Proofs.YtpblcjipmoblnaaGreatDoor
