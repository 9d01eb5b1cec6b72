/- Tell Fam Known -/
import Derived.Test.YtpblcjipmoblnaaGreatDoorIsEr
import Derived.Test.YtpblcjipmoblnaaGreatDoorScanD
import Derived.Deep.RegionWith
import Derived.Deep.CutRange
import Derived.Deep.RegionHeld3
import Derived.Deep.QuietTactic
import Derived.BigQuiet
import Derived.Outline
import Derived.Maps.OwnOps
import Derived.Maps.AppendAt
import Derived.Maps.OwnSet
import Derived.Maps.RangeWalk
import Derived.Maps.Views
set_option maxRecDepth 100000
set_option maxHeartbeats 4000000
set_option linter.unusedVariables false
set_option linter.unusedSimpArgs false
namespace Go.Proofs.YtpblcjipmoblnaaGreatDoor
open Go.RowKit Go.IntWalk Ck
theorem flip_ {P : Program} {f : FuncId} {args : Array Value} {w : World} {v : Ending} (h : Calls P f args w fun e w' => e = v ∧ w = w') : Calls P f args w fun e w' => e = v ∧ w' = w := h.mono fun _ _ h => ⟨h.1, h.2.symm⟩
theorem nan_any (n : Int) (w : World) : Calls Tryz.prog 144 #[.int .i64 n] w fun e w' => e = .returned (.bool false) ∧ w = w' := by
 go_enter Tryz.func144, Tryz.ntmps144
 go_wp2
 go_ret
 exact ⟨by simp, rfl⟩
def cmpI (a b : Int) : Int := if a < b then -1 else if b < a then 1 else 0
theorem cmp_any (a b : Int) (w : World) : Calls Tryz.prog 123 #[.int .i64 a, .int .i64 b] w fun e w' => e = .returned (.int .i64 (cmpI a b)) ∧ w = w' := by
 unfold cmpI
 by_cases h1 : a < b
 · go_enter Tryz.func123, Tryz.ntmps123
   go_wp2_with (go_at_call 144; refine (nan_any _ _).mono ?_; rintro e w' ⟨rfl, rfl⟩)
   go_ret
   exact ⟨by simp [h1], rfl⟩
 · by_cases h2 : b < a
   · go_enter Tryz.func123, Tryz.ntmps123
     go_wp2_with (go_at_call 144; refine (nan_any _ _).mono ?_; rintro e w' ⟨rfl, rfl⟩)
     go_ret
     exact ⟨by simp [h1, h2], rfl⟩
   · go_enter Tryz.func123, Tryz.ntmps123
     go_wp2_with (go_at_call 144; refine (nan_any _ _).mono ?_; rintro e w' ⟨rfl, rfl⟩)
     go_ret
     exact ⟨by simp [h1, h2], rfl⟩
def orI (a b : Int) : Int := if a = 0 then b else a
theorem or_any (b : Nat) (x y : Int) (w : World) (h0 : w.cell? ⟨b, 0, none⟩ = some (.int .i64 x)) (h1 : w.cell? ⟨b, 1, none⟩ = some (.int .i64 y)) :
 Calls Tryz.prog 122 #[.slice (some ⟨b, 0, none⟩) 2 2] w fun e w' => e = .returned (.int .i64 (orI x y)) ∧ w = w' := by
 unfold orI
 by_cases hx : x = 0
 · subst hx
   by_cases hy : y = 0
   · subst hy
     go_enter Tryz.func122, Tryz.ntmps122
     go_wp2
     refine wp_loop_rounds 3 ?_
     rw [rounds_succ]
     go_wp2
     rw [rounds_succ]
     go_wp2
     rw [rounds_succ]
     go_wp2
     go_ret
     exact ⟨rfl, rfl⟩
   · have hy' : (y != 0) = true := by simp [hy]
     go_enter Tryz.func122, Tryz.ntmps122
     go_wp2
     refine wp_loop_rounds 2 ?_
     rw [rounds_succ]
     go_wp2
     rw [rounds_succ]
     go_wp2
     go_ret
     exact ⟨rfl, rfl⟩
 · have hx' : (x != 0) = true := by simp [hx]
   go_enter Tryz.func122, Tryz.ntmps122
   go_wp2
   refine wp_loop_rounds 2 ?_
   rw [rounds_succ]
   go_wp2
   go_ret
   exact ⟨by simp [hx], rfl⟩
theorem or_new (w : World) (x y : Int) : Calls Tryz.prog 122 #[.slice (some ⟨w.heap.size, 0, none⟩) 2 2] (w.alloc (.cells #[.int .i64 x, .int .i64 y] 3)) fun e w' => e = .returned (.int .i64 (orI x y)) ∧ w.alloc (.cells #[.int .i64 x, .int .i64 y] 3) = w' :=
 or_any _ x y _ (by rw [World.cell?_alloc_at _ _ _ _ rfl]; rfl) (by rw [World.cell?_alloc_at _ _ _ _ rfl]; rfl)
theorem or_le (x y : Wr) : orI (cmpI x.1 y.1) (cmpI x.2 y.2) ≤ 0 ↔ Le x y := by
 unfold orI cmpI Le
 repeat' split
 all_goals omega
structure Laid (B : Nat) (w : World) : Prop where
 pos : 13 < B
 err : ErrT w
 scan : ∀ w', Below B w w' → ScanT clsG w'
theorem Laid.below {B : Nat} {w w' : World} (h : Laid B w) (hb : Below B w w') : Laid B w' :=
 ⟨h.pos, (hb.cell (p := ⟨0, 0, none⟩) (by have := h.pos; show 0 < B; omega)).trans h.err, fun w' hb' => h.scan w' (hb.trans hb')⟩
def FoundAt (w : World) (pb : Nat) (f : Value) (W : Int → Int) : Option Wr → Prop
 | none => f = .nilIface
 | some m => ∃ b, f = .iface 115 (.pointer (some ⟨b, 0, none⟩)) ∧ b ≠ pb ∧ w.heap[b]? = some (.cells #[.int .i64 m.1, .int .i64 m.2, .iface 72 (.int .i64 (W m.2))] 120 (0, 0))
structure LookAt (B : Nat) (w : World) (pb : Nat) (v : PolV) (P : Policy) (W : Int → Int) (L : List Wr) : Prop where
 laid : Laid B w
 base : B ≤ pb
 pol : PolAt B w v P
 look : ∃ f o, w.heap[pb]? = some (.cells (v.cells P ++ [f]).toArray 113 (0, 0)) ∧ FoundAt w pb f W o ∧ IsMin L o
def tyOf (w : World) (k : Nat) : Option TypeId := match w.heap[k]? with | some (.cells _ t _) => some t | _ => none
theorem heap_lt {w : World} {b : Nat} {o : Obj} (h : w.heap[b]? = some o) : b < w.heap.size := (Array.getElem?_eq_some_iff.1 h).1
theorem FoundAt.keep {S : Nat → Prop} {w w' : World} {pb : Nat} {f : Value} {W : Int → Int} {o : Option Wr} (h : FoundAt w pb f W o) (hk : Keep S w w') (hS : ∀ k, S k → k < w.heap.size → k = pb ∨ tyOf w k ≠ some 120) : FoundAt w' pb f W o := by
 cases o with
 | none => exact h
 | some m =>
  obtain ⟨b, h1, h2, h3⟩ := h
  refine ⟨b, h1, h2, (hk.block b (heap_lt h3) fun hs => ?_).trans h3⟩
  rcases hS b hs (heap_lt h3) with h | h
  · exact h2 h
  · apply h; unfold tyOf; rw [h3]
namespace LookAt
variable {B : Nat} {w w' : World} {pb : Nat} {v : PolV} {P : Policy} {W : Int → Int} {L L' : List Wr}
theorem lt (h : LookAt B w pb v P W L) : pb < w.heap.size := by obtain ⟨f, o, h1, _⟩ := h.look; exact heap_lt h1
theorem ty (h : LookAt B w pb v P W L) : tyOf w pb = some 113 := by obtain ⟨f, o, h1, _⟩ := h.look; unfold tyOf; rw [h1]
theorem keep {S : Nat → Prop} (h : LookAt B w pb v P W L) (hk : Keep S w w') (hS : ∀ k, S k → k < w.heap.size → B ≤ k ∧ tyOf w k ≠ some 113 ∧ tyOf w k ≠ some 120) : LookAt B w' pb v P W L := by
 have hB : B ≤ w.heap.size := Nat.le_trans h.base (Nat.le_of_lt h.lt)
 have hb : Below B w w' := hk.below hB (fun i hi hs => by have := (hS i hs (by omega)).1; omega)
 obtain ⟨f, o, h1, h2, h3⟩ := h.look
 exact ⟨h.laid.below hb, h.base, h.pol.below hb, f, o, (hk.block pb h.lt fun hs => (hS pb hs h.lt).2.1 h.ty).trans h1, h2.keep hk (fun k hs hl => .inr (hS k hs hl).2.2), h3⟩
theorem new (h : LookAt B w pb v P W L) (hk : Keep (fun _ => False) w w') : LookAt B w' pb v P W L := h.keep hk (fun _ h => h.elim)
theorem congr (h : LookAt B w pb v P W L) (he : ∀ p, p ∈ L ↔ p ∈ L') : LookAt B w pb v P W L' := by
 obtain ⟨f, o, h1, h2, h3⟩ := h.look
 exact ⟨h.laid, h.base, h.pol, f, o, h1, h2, h3.congr he⟩
theorem cell (h : LookAt B w pb v P W L) {j : Nat} {x : Value} (hj : (v.cells P)[j]? = some x) : w.cell? ⟨pb, j, none⟩ = some x := by
 obtain ⟨f, o, h1, _⟩ := h.look
 rw [cell_of_row _ _ _ _ _ _ h1]
 simp only [List.getElem?_toArray]
 rw [List.getElem?_append_left (List.getElem?_eq_some_iff.1 hj).1]
 exact hj
end LookAt
theorem cells_len (v : PolV) (P : Policy) : (v.cells P).length = 14 := rfl
theorem look_store {B : Nat} {w w1 : World} {pb b : Nat} {v : PolV} {P : Policy} {W : Int → Int} {L : List Wr} {x : Wr} {f : Value} {o : Option Wr} (hl : Laid B w) (hb : B ≤ pb) (hp : PolAt B w v P)
 (h1 : w.heap[pb]? = some (.cells (v.cells P ++ [f]).toArray 113 (0, 0))) (h3 : IsMin L o) (hu : upd o x = some x) (hk : Keep (fun _ => False) w w1) (hbs : b = w1.heap.size) :
 LookAt B ((w1.setCell ⟨pb, 14, none⟩ (.iface 115 (.pointer (some ⟨b, 0, none⟩)))).alloc (.cells #[.int .i64 x.1, .int .i64 x.2, .iface 72 (.int .i64 (W x.2))] 120)) pb v P W (x :: L) ∧
  Keep (fun k => k = pb) w ((w1.setCell ⟨pb, 14, none⟩ (.iface 115 (.pointer (some ⟨b, 0, none⟩)))).alloc (.cells #[.int .i64 x.1, .int .i64 x.2, .iface 72 (.int .i64 (W x.2))] 120)) := by
 have hlt := heap_lt h1
 have hsz := hk.size
 have hss : (w1.setCell ⟨pb, 14, none⟩ (.iface 115 (.pointer (some ⟨b, 0, none⟩)))).heap.size = w1.heap.size := by simp [World.setCell]
 have hkk := ((hk.mono (T := fun k => k = pb) fun _ _ h => h.elim).setCell (p := ⟨pb, 14, none⟩) (fun _ => rfl) (.iface 115 (.pointer (some ⟨b, 0, none⟩)))).alloc (.cells #[.int .i64 x.1, .int .i64 x.2, .iface 72 (.int .i64 (W x.2))] 120)
 have hbel := hkk.below (B := B) (by omega) (fun i hi h => by subst h; omega)
 have h1' : w1.heap[pb]? = some (.cells (v.cells P ++ [f]).toArray 113 (0, 0)) := (hk.block pb hlt (fun h => h)).trans h1
 refine ⟨⟨hl.below hbel, hb, hp.below hbel, .iface 115 (.pointer (some ⟨b, 0, none⟩)), some x, ?_, ⟨b, rfl, by omega, ?_⟩, ?_⟩, hkk⟩
 · rw [Below.heap_alloc _ _ _ (by rw [hss]; omega)]
   simp [World.setCell, Array.getElem?_modify, h1']
   have e := cells_len v P
   generalize v.cells P = l at e
   match l, e with
   | [_, _, _, _, _, _, _, _, _, _, _, _, _, _], _ => rfl
 · have hz := heap_alloc_new (w1.setCell ⟨pb, 14, none⟩ (.iface 115 (.pointer (some ⟨b, 0, none⟩)))) (.cells #[.int .i64 x.1, .int .i64 x.2, .iface 72 (.int .i64 (W x.2))] 120)
   rw [hss, ← hbs] at hz
   exact hz
 · rw [← hu]; exact h3.tell x
theorem tell_none (B : Nat) (w : World) (pb : Nat) (v : PolV) (P : Policy) (W : Int → Int) (L : List Wr) (at_ rank : Int) (hl : Laid B w) (hb : B ≤ pb) (hp : PolAt B w v P)
 (h1 : w.heap[pb]? = some (.cells (v.cells P ++ [Value.nilIface]).toArray 113 (0, 0))) (h3 : IsMin L none) :
 Calls Tryz.prog 75 #[.pointer (some ⟨pb, 0, none⟩), .int .i64 at_, .int .i64 rank, .int .i64 (W rank)] w fun e w' => e = .returned (.tuple #[]) ∧ LookAt B w' pb v P W ((at_, rank) :: L) ∧ Keep (fun k => k = pb) w w' := by
 have hlt := heap_lt h1
 have c : w.cell? ⟨pb, 14, none⟩ = some .nilIface := by
  rw [cell_of_row _ _ _ _ _ _ h1]; rfl
 have fz : w.frozen? ⟨pb, 14, none⟩ = false := by simp [World.frozen?, h1]
 have c1 : (w.alloc (Obj.cells #[Value.pointer none] 115)).drew.cell? ⟨pb, 14, none⟩ = some .nilIface := (World.cell?_alloc_lt w _ ⟨pb, 14, none⟩ hlt).trans c
 go_enter Tryz.func75, Tryz.ntmps75
 go_wp2
 go_quiet ((go_at_call 57; exact Calls.quiet_of_same (flip_ (as_nil _ _))))
 go_wp2
 go_end0
 refine ⟨rfl, look_store (x := (at_, rank)) (o := none) hl hb hp h1 h3 rfl ?hk ?hbs⟩
 case hk => exact ((Keep.refl _ w).alloc _).drewN _
 case hbs => simp
theorem as_wrong (e : Addr) (tb : Nat) (w : World) (hg : ErrT w) (ht : Var w tb 115 (.pointer none)) :
 Calls Tryz.prog 57 #[.iface 115 (.pointer (some e)), .iface 117 (.pointer (some ⟨tb, 0, none⟩))] w fun ev w' => ev = .returned (.bool true) ∧ Var w' tb 115 (.pointer (some e)) ∧ Keep (fun k => k = tb) w w' := by
 refine (as_wrong0 e ⟨tb, 0, none⟩ _ w hg ht.cell ht.frozen).mono ?_
 rintro ev w' ⟨rfl, rfl⟩
 have hk : Keep (fun _ => False) w ((((w.alloc (.cells #[.pointer (some ⟨tb, 0, none⟩)] 117)).alloc (.cells #[.pointer (some ⟨13, 117, none⟩), .pointer (some ⟨w.heap.size, 0, none⟩), .int .u64 150] 192)).alloc (.cells #[.pointer (some ⟨13, 117, none⟩), .pointer (some ⟨w.heap.size, 0, none⟩), .int .u64 150] 192)).alloc (.cells #[.pointer (some e)] 115)) := ((((Keep.refl _ w).alloc _).alloc _).alloc _).alloc _
 exact ⟨rfl, (ht.keep hk (fun h => h)).set_ _, (hk.mono (T := fun k => k = tb) fun _ _ h => h.elim).setCell (p := ⟨tb, 0, none⟩) (fun _ => rfl) _⟩
theorem tell_some (B : Nat) (w : World) (pb b : Nat) (v : PolV) (P : Policy) (W : Int → Int) (L : List Wr) (at_ rank : Int) (m : Wr) (hl : Laid B w) (hb : B ≤ pb) (hp : PolAt B w v P)
 (h1 : w.heap[pb]? = some (.cells (v.cells P ++ [Value.iface 115 (.pointer (some ⟨b, 0, none⟩))]).toArray 113 (0, 0))) (hbp : b ≠ pb)
 (h2 : w.heap[b]? = some (.cells #[.int .i64 m.1, .int .i64 m.2, .iface 72 (.int .i64 (W m.2))] 120 (0, 0))) (h3 : IsMin L (some m)) :
 Calls Tryz.prog 75 #[.pointer (some ⟨pb, 0, none⟩), .int .i64 at_, .int .i64 rank, .int .i64 (W rank)] w fun e w' => e = .returned (.tuple #[]) ∧ LookAt B w' pb v P W ((at_, rank) :: L) ∧ Keep (fun k => k = pb) w w' := by
 have hlt := heap_lt h1
 have hlb := heap_lt h2
 have c : w.cell? ⟨pb, 14, none⟩ = some (.iface 115 (.pointer (some ⟨b, 0, none⟩))) := by
  rw [cell_of_row _ _ _ _ _ _ h1]; rfl
 have fz : w.frozen? ⟨pb, 14, none⟩ = false := by simp [World.frozen?, h1]
 obtain ⟨W0, hW0⟩ : ∃ W0, W0 = w.alloc (Obj.cells #[Value.pointer none] 115) := ⟨_, rfl⟩
 have hk0 : Keep (fun _ => False) w W0 := by rw [hW0]; exact (Keep.refl _ w).alloc _
 have hv0 : Var W0 w.heap.size 115 (.pointer none) := by rw [hW0]; exact heap_alloc_new _ _
 have hs0 : W0.heap.size = w.heap.size + 1 := by rw [hW0]; simp
 have HK0 := Lib.hid hk0
 have HV0 := Lib.hid hv0
 have c1 : W0.drew.cell? ⟨pb, 14, none⟩ = some (.iface 115 (.pointer (some ⟨b, 0, none⟩))) := (hk0.cell (p := ⟨pb, 14, none⟩) hlt (fun h => h)).trans c
 have HE : Hid (ErrT W0.drew) := (hk0.cell (p := ⟨0, 0, none⟩) (by have := hl.pos; show 0 < w.heap.size; omega) (fun h => h)).trans hl.err
 have HAs : Hid (∀ w', Keep (fun k => k = w.heap.size) W0.drew w' → w'.cell? ⟨b, 0, none⟩ = some (.int .i64 m.1) ∧ w'.cell? ⟨b, 1, none⟩ = some (.int .i64 m.2)) := fun w' hk => by
  have h2' : w'.heap[b]? = _ := (((hk0.drew.mono (T := fun k => k = w.heap.size) fun _ _ h => h.elim).trans hk (fun _ _ h => h)).block b hlb (by omega)).trans h2
  exact ⟨by rw [cell_of_row _ _ _ _ _ _ h2']; rfl, by rw [cell_of_row _ _ _ _ _ _ h2']; rfl⟩
 clear hk0 hv0 c fz hs0
 go_enter Tryz.func75, Tryz.ntmps75
 go_wp2_with fail
 rw [← hW0]
 clear hW0
 go_upto_region 1 with fail
 go_cut [31] from 9 to 31 (fun u wx => u = .bool (decide (orI (cmpI m.1 at_) (cmpI m.2 rank) ≤ 0)) ∧ Keep (fun _ => False) w wx)
 case first =>
  go_region_with (first
   | (go_at_call 57; refine (as_wrong _ _ _ HE.out HV0.out).mono ?_; rintro e w1 ⟨rfl, hv1, hk1⟩; have hc1 := hv1.cell; obtain ⟨hm1, hm2⟩ := HAs.out _ hk1; have HK1 := Lib.hid hk1; clear hv1 hk1)
   | (go_at_call 123; refine (cmp_any _ _ _).mono ?_; rintro e w2 ⟨rfl, rfl⟩)
   | (go_at_call 122; refine (or_new _ _ _).mono ?_; rintro e w2 ⟨rfl, rfl⟩))
  all_goals (try go_wp2_with fail)
  all_goals go_meet
  all_goals exact ⟨rfl, ((HK0.out.drew).trans HK1.out (fun i hi h => by omega)).alloc _⟩
 case rest =>
 obtain ⟨rfl, hk⟩ := hcut
 have hltc : pb < wc.heap.size := Nat.lt_of_lt_of_le hlt hk.size
 have hlc : wc.heap[pb]? = _ := (hk.block pb hlt (fun h => h)).trans h1
 have cc : wc.cell? ⟨pb, 14, none⟩ = some (.iface 115 (.pointer (some ⟨b, 0, none⟩))) := by
  rw [cell_of_row _ _ _ _ _ _ hlc]; rfl
 have fc : wc.frozen? ⟨pb, 14, none⟩ = false := by simp [World.frozen?, hlc]
 have HK := Lib.hid hk
 clear hk c1 hlc
 by_cases hle : Le m (at_, rank)
 · have ht : decide (orI (cmpI m.1 at_) (cmpI m.2 rank) ≤ 0) = true := decide_eq_true ((or_le m (at_, rank)).2 hle)
   rw [ht]
   have hu : upd (some m) (at_, rank) = some m := by simp [upd, hle]
   have hq := h3.tell (at_, rank)
   rw [hu] at hq
   have HQ := Lib.hid hq
   clear hu hq
   go_wp2
   refine bodyPost_ret (results_none rfl _ _ _) rfl ?_
   have hn := (⟨hl, hb, hp, _, some m, h1, ⟨b, rfl, hbp, h2⟩, HQ.out⟩ : LookAt B w pb v P W ((at_, rank) :: L))
   exact ⟨rfl, hn.new HK.out, HK.out.mono (fun _ _ h => h.elim)⟩
 · have ht : decide (orI (cmpI m.1 at_) (cmpI m.2 rank) ≤ 0) = false := decide_eq_false fun h => hle ((or_le m (at_, rank)).1 h)
   rw [ht]
   have hu : upd (some m) (at_, rank) = some (at_, rank) := by simp [upd, hle]
   have HU := Lib.hid hu
   clear hu
   go_wp2
   go_end0
   exact ⟨rfl, look_store (x := (at_, rank)) hl hb hp h1 h3 HU.out HK.out rfl⟩
theorem tell_any {B : Nat} {w : World} {pb : Nat} {v : PolV} {P : Policy} {W : Int → Int} {L : List Wr} (at_ rank why : Int) (h : LookAt B w pb v P W L) (hw : W rank = why) :
 Calls Tryz.prog 75 #[.pointer (some ⟨pb, 0, none⟩), .int .i64 at_, .int .i64 rank, .int .i64 why] w fun e w' => e = .returned (.tuple #[]) ∧ LookAt B w' pb v P W ((at_, rank) :: L) ∧ Keep (fun k => k = pb) w w' := by
 subst hw
 obtain ⟨f, o, h1, h2, h3⟩ := h.look
 cases o with
 | none =>
  obtain rfl : f = .nilIface := h2
  exact tell_none B w pb v P W L at_ rank h.laid h.base h.pol h1 h3
 | some m =>
  obtain ⟨b, rfl, hbp, h2⟩ := h2
  exact tell_some B w pb b v P W L at_ rank m h.laid h.base h.pol h1 hbp h2 h3
theorem must_any {B : Nat} {w : World} {pb : Nat} {v : PolV} {P : Policy} {W : Int → Int} {L : List Wr} (ok : Bool) (at_ rank why : Int) (h : LookAt B w pb v P W L) (hw : W rank = why) :
 Calls Tryz.prog 73 #[.pointer (some ⟨pb, 0, none⟩), .bool ok, .int .i64 at_, .int .i64 rank, .int .i64 why] w fun e w' => e = .returned (.tuple #[]) ∧ LookAt B w' pb v P W (say ok at_ rank ++ L) ∧ Keep (fun k => k = pb) w w' := by
 have Hw := Lib.hid hw
 clear hw
 cases ok with
 | true =>
  go_enter Tryz.func73, Tryz.ntmps73
  go_wp2
  go_end0
  exact ⟨rfl, h, Keep.refl _ _⟩
 | false =>
  go_enter Tryz.func73, Tryz.ntmps73
  go_wp2_with fail
  refine (tell_any at_ rank why h Hw.out).mono ?_
  rintro e w' ⟨rfl, h1, h2⟩
  go_wp2
  go_end0
  exact ⟨rfl, h1, h2⟩
end Go.Proofs.YtpblcjipmoblnaaGreatDoor
namespace Go.Proofs.YtpblcjipmoblnaaGreatDoor
open Go.RowKit Go.IntWalk Ck
open Go.Maps (Keyed string_keyed)
def heldR (v : Value) : Option (DataW Value × List MemPlace) := some (.held v, [])
def key (s : ByteArray) : Lit := .string s.data.toList
theorem Tryz.law9 : Keyed Tryz.prog 9 := string_keyed Tryz.underlying9
theorem wpList_lookup_held {P : Program} (w : World) {ops : Array Oper} {rest : List Oper} {o : Oper} {a : Act} {Q : Exit → Act → World → Prop}
 (hg : o.guard = none) (m x : Operand) (t : TypeId) (hop : o.op = Op.lookup t m x false)
 (k e : TypeId) (K : Keyed P k) (ht : P.underlying t = some (.map k e)) (z : Value) (hz : (zeroValue e).run P w = .ok z w) (b n : Nat) (D : DataW Value)
 (hm : a.eval m = .map (some b)) (hown : w.ownsMap P k heldR b n D) (ky : Value) (kl : Lit) (hx : a.eval x = ky) (hkey : keyOf P k ky = some kl)
 (hK : ∀ v : Value, D.atKey kl (.held z) = .held v → wpList P ops Q rest (a.put o.dst v) w) :
 wpList P ops Q (o :: rest) a w := by
 refine wpList_plain hg fun K' hK' => ?_
 obtain ⟨v, ps, hrun, hv⟩ := hown.lookup K ht hz (zd := .held z) (zp := []) rfl hkey
 unfold Oper.wp
 simp [execOp, hop, hm, hx, hrun, Result.andThen]
 refine hK' _ _ (hK v ?_)
 simp only [heldR, Option.some.injEq, Prod.mk.injEq] at hv
 exact hv.1.symm
def RowAt (B : Nat) (w : World) (v : Value) (zs : List Int) : Prop := w.ownsRow B 3 1 v zs.length (zs.map (Value.int .i64))
def places (f : List Nm) (s : ByteArray) : List Int := (f.filter fun x => decide (x.1 = s)).map (·.2)
theorem has_places (f : List Nm) (s : ByteArray) : has f s = decide (0 < (places f s).length) := by
 unfold has places
 rw [Bool.eq_iff_iff, List.any_eq_true, decide_eq_true_eq, List.length_map, List.length_pos_iff_exists_mem]
 simp only [List.mem_filter]
structure FamsAt (B : Nat) (w : World) (bs : List Nat) (fs : List (List Nm)) (D : Nat → DataW Value) (r : Nat → ByteArray → Value) : Prop where
 len : bs.length = fs.length
 map : ∀ (i b : Nat) (f : List Nm), bs[i]? = some b → fs[i]? = some f → w.ownsMap Tryz.prog 9 heldR b f.length (D i) ∧
  ∀ s : ByteArray, s.size ≤ maxLen → (D i).atKey (key s) (.held (.slice none 0 0)) = .held (r i s) ∧ RowAt B w (r i s) (places f s) ∧ (Go.Maps.has (D i) (key s) = has f s)
 apart : ∀ (i j : Nat) (s t : ByteArray) (k : Nat), i < bs.length → j < bs.length → s.size ≤ maxLen → t.size ≤ maxLen → (r i s).ownBlock = some k → (r j t).ownBlock = some k → i = j ∧ s = t
 nodup : ∀ (i j b : Nat), bs[i]? = some b → bs[j]? = some b → i = j
theorem RowAt.keep {B : Nat} {S : Nat → Prop} {w w' : World} {v : Value} {zs : List Int} (h : RowAt B w v zs) (hk : Keep S w w') (hS : ∀ k, v.ownBlock = some k → ¬ S k) : RowAt B w' v zs := by
 unfold RowAt at *
 refine ⟨h.1, ?_⟩
 rcases h.2 with h1 | ⟨g, cap, cur, h1, h2, h3, h4⟩
 · exact .inl h1
 · exact .inr ⟨g, cap, cur, h1, h2, (hk.block g (heap_lt h3) (hS g (by rw [h1]; rfl))).trans h3, h4⟩
theorem RowAt.ty {B : Nat} {w : World} {v : Value} {zs : List Int} (h : RowAt B w v zs) {k : Nat} (hk : v.ownBlock = some k) : tyOf w k = some 3 := by
 unfold RowAt at h
 rcases h.2 with ⟨e, _⟩ | ⟨g, cap, cur, e, _, hh, _⟩
 · rw [e] at hk; cases hk
 · rw [e] at hk
   simp only [Value.ownBlock, Option.some.injEq] at hk
   subst hk
   unfold tyOf
   rw [hh]
theorem own_keep {S : Nat → Prop} {w w' : World} {b n : Nat} {D : DataW Value} (h : w.ownsMap Tryz.prog 9 heldR b n D) (hk : Keep S w w') (hS : ¬ S b) : w'.ownsMap Tryz.prog 9 heldR b n D := by
 obtain ⟨es, c, h1, h2⟩ := h
 exact ⟨es, c, (hk.block b (heap_lt h1) hS).trans h1, h2⟩
theorem FamsAt.keep {B : Nat} {S : Nat → Prop} {w w' : World} {bs : List Nat} {fs : List (List Nm)} {D : Nat → DataW Value} {r : Nat → ByteArray → Value} (h : FamsAt B w bs fs D r) (hk : Keep S w w') (hS : ∀ k, S k → k < w.heap.size → k < B ∧ k ∉ bs) : FamsAt B w' bs fs D r := by
 refine ⟨h.len, fun i b f hb hf => ?_, h.apart, h.nodup⟩
 obtain ⟨h1, h3⟩ := h.map i b f hb hf
 refine ⟨own_keep h1 hk (fun hs => (hS b hs h1.lt).2 (List.mem_of_getElem? hb)), fun s hs => ?_⟩
 obtain ⟨h4, h5, h6⟩ := h3 s hs
 exact ⟨h4, h5.keep hk (fun k hk' hs => by have := h5.lt k hk'; have := (hS k hs this.2).1; omega), h6⟩
theorem key_inj {s t : ByteArray} (h : key s = key t) : s = t := by
 simp only [key, Lit.string.injEq] at h
 exact bytes_ext (by rw [ByteArray.toList_eq, ByteArray.toList_eq]; exact h)
theorem zero35 (w : World) : (zeroValue 35).run Tryz.prog w = .ok (.slice none 0 0) w := by kernel_rfl
theorem has_any {B : Nat} {w : World} {bs : List Nat} {fs : List (List Nm)} {D : Nat → DataW Value} {r : Nat → ByteArray → Value} (h : FamsAt B w bs fs D r) (i b : Nat) (f : List Nm) (hb : bs[i]? = some b) (hf : fs[i]? = some f) (s : ByteArray) (hs : s.size ≤ maxLen) :
 Calls Tryz.prog 74 #[.map (some b), .string s] w fun e w' => e = .returned (.bool (has f s)) ∧ w = w' := by
 obtain ⟨h1, h3⟩ := h.map i b f hb hf
 obtain ⟨h4, h5, h6⟩ := h3 s hs
 have hp := has_places f s
 have HP := Lib.hid hp
 have H4 := Lib.hid h4
 clear hp h3 h6 h4
 have hl : ∃ A n c, r i s = .slice A n c ∧ n = (places f s).length := by
  rcases h5.2 with ⟨e, h0⟩ | ⟨g, cap, cur, e, _⟩
  · exact ⟨_, _, _, e, by rw [h0]⟩
  · exact ⟨_, _, _, e, rfl⟩
 obtain ⟨A, n, c, hv, hn⟩ := hl
 rw [hv] at H4
 rw [← hn] at HP
 clear h5 hv hn
 have hbn : 0 < n ∨ n = 0 := by omega
 go_enter Tryz.func74, Tryz.ntmps74
 go_wp2_with (at_lookup; refine wpList_lookup_held _ rfl _ _ 135 rfl 9 35 Tryz.law9 Tryz.underlying135 (.slice none 0 0) (zero35 _) b _ (D i) rfl h1 _ (key s) rfl (Go.WideMaps.keyOf_string_mk Tryz.underlying9 hs) ?_; intro u hu; obtain rfl : Value.slice A n c = u := by (rw [H4.out] at hu; exact DataW.held.inj hu))
 go_ret
 exact ⟨by rw [HP.out]; simp, rfl⟩
theorem Tryz.info3 : (Tryz.prog.info? 3).map (fun i => (i.zero, i.size, i.bytes)) = some (some (.int .i64 0), 1, 8) := by kernel_rfl
theorem places_add (f : List Nm) (s t : ByteArray) (p : Int) : places (f ++ [(s, p)]) t = if s = t then places f t ++ [p] else places f t := by
 unfold places
 rw [List.filter_append, List.map_append]
 by_cases h : s = t <;> simp [h]
theorem has_add (f : List Nm) (s t : ByteArray) (p : Int) : has (f ++ [(s, p)]) t = (has f t || decide (s = t)) := by
 unfold has; simp
theorem key_ok (s : ByteArray) : WideAt.IsKeyLit (key s) := by unfold key; trivial
theorem FamsAt.rowne {B : Nat} {w : World} {bs : List Nat} {fs : List (List Nm)} {D : Nat → DataW Value} {r : Nat → ByteArray → Value} (h : FamsAt B w bs fs D r) {j : Nat} {t : ByteArray} {k : Nat} (hj : j < bs.length) (ht : t.size ≤ maxLen) (hr : (r j t).ownBlock = some k) (c : Nat) (hc : c ∈ bs) : k ≠ c := by
 intro e
 subst e
 obtain ⟨q, hq⟩ := List.getElem?_of_mem hc
 have hql := (List.getElem?_eq_some_iff.1 hq).1
 obtain ⟨g, hg'⟩ : ∃ g, fs[q]? = some g := ⟨_, List.getElem?_eq_getElem (by rw [← h.len]; exact hql)⟩
 obtain ⟨es, cl, hes, _⟩ := (h.map q k g hq hg').1
 obtain ⟨c2, hc2⟩ : ∃ c, bs[j]? = some c := ⟨_, List.getElem?_eq_getElem hj⟩
 obtain ⟨g2, hg2⟩ : ∃ g, fs[j]? = some g := ⟨_, List.getElem?_eq_getElem (by rw [← h.len]; exact hj)⟩
 have h5 := ((h.map j c2 g2 hc2 hg2).2 t ht).2.1
 rcases h5.2 with ⟨e1, _⟩ | ⟨g', cap, cur, e1, _, hh, _⟩
 · rw [e1] at hr; cases hr
 · rw [e1] at hr
   simp only [Value.ownBlock, Option.some.injEq] at hr
   subst hr
   rw [hes] at hh
   cases hh
theorem fams_add {B : Nat} {w w1 w2 : World} {bs : List Nat} {fs : List (List Nm)} {D : Nat → DataW Value} {r : Nat → ByteArray → Value} (h : FamsAt B w bs fs D r) {i b : Nat} {f : List Nm} (hb : bs[i]? = some b) (hf : fs[i]? = some f)
 {s : ByteArray} (hs : s.size ≤ maxLen) {p : Int} {v' : Value} (hB : B ≤ w.heap.size) (hk : Keep (fun k => (r i s).ownBlock = some k) w w1) (hown : RowAt B w1 v' (places f s ++ [p]))
 (hloc : ∀ k, v'.ownBlock = some k → (r i s).ownBlock = some k ∨ w.heap.size ≤ k) (hm : w2.ownsMap Tryz.prog 9 heldR b (f.length + 1) ((D i).put (key s) (.held v'))) (hg : w1.grownBy w2 (some b)) :
 FamsAt B w2 bs (fs.set i (f ++ [(s, p)])) (fun j => if j = i then (D i).put (key s) (.held v') else D j) (fun j t => if j = i ∧ t = s then v' else r j t) ∧ Keep (fun k => k ∈ bs ∨ B ≤ k ∧ tyOf w k = some 3) w w2 := by
 have hil : i < bs.length := (List.getElem?_eq_some_iff.1 hb).1
 obtain ⟨m1, m3⟩ := h.map i b f hb hf
 have hbl : b < w.heap.size := m1.lt
 have hk2 : Keep (fun k => k = b) w1 w2 := Keep.of_grown hg (fun k e => by cases e; rfl)
 have rowlt : ∀ j t k, j < bs.length → t.size ≤ maxLen → (r j t).ownBlock = some k → B ≤ k ∧ k < w.heap.size := fun j t k hj ht hr => by
  obtain ⟨c, hc⟩ : ∃ c, bs[j]? = some c := ⟨_, List.getElem?_eq_getElem hj⟩
  obtain ⟨g, hg'⟩ : ∃ g, fs[j]? = some g := ⟨_, List.getElem?_eq_getElem (by rw [← h.len]; exact hj)⟩
  have h5 := ((h.map j c g hc hg').2 t ht).2.1
  exact ⟨(h5.lt k hr).1, (h5.lt k hr).2⟩
 have mapne := fun j t k => h.rowne (j := j) (t := t) (k := k)
 refine ⟨⟨by rw [List.length_set]; exact h.len, fun j c g hc hg' => ?_, fun j q t u k hj hq ht hu hr1 hr2 => ?_, h.nodup⟩, ?_⟩
 · have hjl : j < bs.length := (List.getElem?_eq_some_iff.1 hc).1
   by_cases hji : j = i
   · subst hji
     rw [List.getElem?_set_self (by rw [← h.len]; exact hjl)] at hg'
     obtain rfl := Option.some.inj hg'
     obtain rfl : b = c := Option.some.inj (hb.symm.trans hc)
     simp only [if_true, true_and]
     refine ⟨by rw [List.length_append]; exact hm, fun t ht => ?_⟩
     obtain ⟨q1, q2, q3⟩ := m3 t ht
     by_cases hts : t = s
     · subst hts
       rw [if_pos rfl, places_add, if_pos rfl]
       refine ⟨Go.Maps.atKey_put_same m1.isMap (key_ok t) _ _, hown.keep hk2 (fun k hk' e => ?_), ?_⟩
       · subst e
         rcases hloc k hk' with e2 | e2
         · exact mapne j t k hjl ht e2 k (List.mem_of_getElem? hb) rfl
         · omega
       · rw [Go.Maps.has_put_same m1.isMap (key_ok t), has_add]; simp
     · have hkn : key t ≠ key s := fun e => hts (key_inj e)
       rw [if_neg hts, places_add, if_neg (fun e => hts e.symm)]
       refine ⟨(Go.Maps.atKey_put_other hkn _ _).trans q1, (q2.keep hk (fun k hk' e => ?_)).keep hk2 (fun k hk' e => ?_), ?_⟩
       · exact hts ((h.apart j j t s k hjl hjl ht hs hk' e).2)
       · subst e
         exact mapne j t k hjl ht hk' k (List.mem_of_getElem? hb) rfl
       · rw [Go.Maps.has_put_other hkn, q3, has_add]
         simp [show ¬ s = t from fun e => hts e.symm]
   · rw [List.getElem?_set_ne (fun e => hji e.symm)] at hg'
     obtain ⟨n1, n3⟩ := h.map j c g hc hg'
     have hcb : c ≠ b := fun e => by subst e; exact hji (h.nodup j i c hc hb)
     simp only [hji, if_false, false_and]
     refine ⟨own_keep (own_keep n1 hk (fun e => mapne i s c hil hs e c (List.mem_of_getElem? hc) rfl)) hk2 hcb, fun t ht => ?_⟩
     obtain ⟨q1, q2, q3⟩ := n3 t ht
     refine ⟨q1, (q2.keep hk (fun k hk' e => hji ((h.apart j i t s k hjl hil ht hs hk' e).1))).keep hk2 (fun k hk' e => ?_), q3⟩
     subst e
     exact mapne j t k hjl ht hk' k (List.mem_of_getElem? hb) rfl
 · by_cases h1 : j = i ∧ t = s
   · rw [if_pos h1] at hr1
     by_cases h2 : q = i ∧ u = s
     · exact ⟨h1.1.trans h2.1.symm, h1.2.trans h2.2.symm⟩
     · rw [if_neg h2] at hr2
       exfalso
       rcases hloc k hr1 with e | e
       · have := h.apart q i u s k hq hil hu hs hr2 e
         exact h2 this
       · have := (rowlt q u k hq hu hr2).2
         omega
   · rw [if_neg h1] at hr1
     by_cases h2 : q = i ∧ u = s
     · rw [if_pos h2] at hr2
       exfalso
       rcases hloc k hr2 with e | e
       · have := h.apart j i t s k hj hil ht hs hr1 e
         exact h1 this
       · have := (rowlt j t k hj ht hr1).2
         omega
     · rw [if_neg h2] at hr2
       exact h.apart j q t u k hj hq ht hu hr1 hr2
 · exact (hk.mono (T := fun k => k ∈ bs ∨ B ≤ k ∧ tyOf w k = some 3) (fun k _ e => .inr ⟨(rowlt i s k hil hs e).1, ((m3 s hs).2.1).ty e⟩)).trans hk2 (fun k _ e => .inl (by subst e; exact List.mem_of_getElem? hb))
theorem add_any {B : Nat} {w : World} {bs : List Nat} {fs : List (List Nm)} {D : Nat → DataW Value} {r : Nat → ByteArray → Value} (h : FamsAt B w bs fs D r) (i b : Nat) (f : List Nm) (hb : bs[i]? = some b) (hf : fs[i]? = some f) (s : ByteArray) (hs : s.size ≤ maxLen) (p : Int)
 (hB : B ≤ w.heap.size) (hl : f.length ≤ 16777216) :
 Calls Tryz.prog 120 #[.map (some b), .string s, .int .i64 p] w fun e w' => e = .returned (.tuple #[]) ∧ Keep (fun k => k ∈ bs ∨ B ≤ k ∧ tyOf w k = some 3) w w' ∧ ∃ D' r', FamsAt B w' bs (fs.set i (f ++ [(s, p)])) D' r' := by
 obtain ⟨h1, h3⟩ := h.map i b f hb hf
 obtain ⟨h4, h5, h6⟩ := h3 s hs
 have hpl : (places f s).length ≤ f.length := by
  unfold places; rw [List.length_map]; exact List.length_filter_le _ _
 have H4 := Lib.hid h4
 obtain ⟨i0, hi, hz0, hz1, hz2⟩ := info_parts Tryz.info3
 obtain ⟨V, hV⟩ : ∃ V, V = r i s := ⟨_, rfl⟩
 rw [← hV] at H4 h5
 have HN : Hid (∀ k, V.ownBlock = some k → k ≠ b) := fun k hk => h.rowne (List.getElem?_eq_some_iff.1 hb).1 hs (by rw [← hV]; exact hk) b (List.mem_of_getElem? hb)
 have HV := Lib.hid hV
 clear h3 h6 h4 hV
 go_enter Tryz.func120, Tryz.ntmps120
 go_wp2_with (first
  | (at_lookup; refine wpList_lookup_held _ rfl _ _ 135 rfl 9 35 Tryz.law9 Tryz.underlying135 (.slice none 0 0) (zero35 _) b _ (D i) rfl h1 _ (key s) rfl (Go.WideMaps.keyOf_string_mk Tryz.underlying9 hs) ?_; intro u hu; obtain rfl : V = u := by (rw [H4.out] at hu; exact DataW.held.inj hu))
  | (at_builtin; refine wpList_append_lies _ rfl _ _ 35 rfl B 3 i0 (.int .i64 0) 1 8 Tryz.underlying35 hi hz0 hz1 hz2 rfl (by omega) V (places f s).length ((places f s).map (Value.int .i64)) rfl (World.ownsRow.alloc h5 _) ⟨w.heap.size, 0, none⟩ 1 1 [.int .i64 p] rfl rfl (cell_one_new _ _ _) (by simp [Value.oneCell']) (by omega) (by unfold maxLen; omega) (by omega) (by simp; omega) (w.heap.size + 1) (by simp) ?_; intro g cap w1 hown1 hgrow hat hlt2; have hmm1 := (h1.alloc (Obj.cells #[Value.int IntKind.i64 p] 3)).kept hgrow (fun e => HN.out b e.symm rfl))
  | (at_mapUpdate; refine wpList_mapUpdate_own _ rfl _ _ _ 135 rfl 9 35 Tryz.law9 Tryz.underlying135 heldR b _ (D i) rfl hmm1 (by unfold maxLen; omega) _ _ (key s) rfl rfl (Go.WideMaps.keyOf_string_mk Tryz.underlying9 hs) _ [] rfl ?_; intro w2 hown2 hgrow2))
 go_end0
 have hk : Keep (fun k => (r i s).ownBlock = some k) w w1 := by
  rw [← HV.out]
  exact ((Keep.refl _ w).alloc _).trans (Keep.of_grown hgrow (S := fun k => V.ownBlock = some k) (fun k e => e)) (fun _ _ e => e)
 have hown' : RowAt B w1 (.slice (some ⟨g, 0, none⟩) ((places f s).length + 1) cap) (places f s ++ [p]) := by
  unfold RowAt
  rw [List.length_append, List.map_append]
  exact hown1
 obtain ⟨a1, a2⟩ := fams_add h hb hf hs hB hk hown' (fun k e => by
  rw [← HV.out]
  simp only [Value.ownBlock, Option.some.injEq] at e
  subst e
  rcases hat with e | e
  · exact .inl e
  · exact .inr (by omega)) hown2 hgrow2
 exact ⟨rfl, a2, _, _, a1⟩
end Go.Proofs.YtpblcjipmoblnaaGreatDoor
namespace Go.Proofs.YtpblcjipmoblnaaGreatDoor
open Go.RowKit Go.IntWalk Ck
theorem CellsAt.c0 {w : World} {b o : Nat} {v : Value} {vs : List Value} (h : CellsAt w b o (v :: vs)) : w.cell? ⟨b, o, none⟩ = some v := h 0 v rfl
theorem cells_new (w : World) (cs : List Value) (t : TypeId) : CellsAt (w.alloc (.cells cs.toArray t)) w.heap.size 0 cs := fun j v hv => by
 rw [Nat.zero_add, World.cell?_alloc_at _ _ _ _ rfl]
 simpa using hv
def mapsOf (z : Nat) : Array Value := #[.map (some (z + 1)), .map (some (z + 2)), .map (some (z + 3)), .map (some (z + 4)), .map (some (z + 5)), .map (some (z + 6)), .map (some (z + 7)), .map (some (z + 8))]
def blocksOf (z : Nat) : List Nat := [z + 1, z + 2, z + 3, z + 4, z + 5, z + 6, z + 7, z + 8]
structure KSt (w wr : World) (z : Nat) (fs : List (List Nm)) : Prop where
 fam : ∃ D r, FamsAt (z + 10) wr (blocksOf z) fs D r
 k : wr.heap[z + 9]? = some (.cells (mapsOf z) 137 (0, 0))
 o : wr.heap[z]? = some (.cells #[.map none, .map none, .map none, .map none, .map none, .map none, .map none, .map none] 137 (0, 0))
 keep : Keep (fun _ => False) w wr
 z : z = w.heap.size
theorem mem_blocks {z k : Nat} (h : k ∈ blocksOf z) : z + 1 ≤ k ∧ k ≤ z + 8 := by
 simp only [blocksOf, List.mem_cons, List.mem_nil_iff, or_false] at h
 omega
theorem KSt.size {w wr : World} {z : Nat} {fs : List (List Nm)} (h : KSt w wr z fs) : z + 10 ≤ wr.heap.size := by
 have := heap_lt h.k; omega
theorem KSt.alloc {w wr : World} {z : Nat} {fs : List (List Nm)} (h : KSt w wr z fs) (o : Obj) : KSt w (wr.alloc o) z fs := by
 have hk : Keep (fun _ => False) wr (wr.alloc o) := (Keep.refl _ _).alloc _
 obtain ⟨D, r, hf⟩ := h.fam
 exact ⟨⟨D, r, hf.keep hk (fun _ h => h.elim)⟩, (hk.block _ (heap_lt h.k) (fun h => h)).trans h.k, (hk.block _ (heap_lt h.o) (fun h => h)).trans h.o, h.keep.alloc _, h.z⟩
theorem KSt.add {w wr w' : World} {z : Nat} {fs fs' : List (List Nm)} (h : KSt w wr z fs) (hk : Keep (fun k => k ∈ blocksOf z ∨ z + 10 ≤ k ∧ tyOf wr k = some 3) wr w') (hf : ∃ D r, FamsAt (z + 10) w' (blocksOf z) fs' D r) : KSt w w' z fs' :=
 ⟨hf, (hk.block _ (heap_lt h.k) (fun e => by rcases e with e | e; (have := mem_blocks e; omega); omega)).trans h.k, (hk.block _ (heap_lt h.o) (fun e => by rcases e with e | e; (have := mem_blocks e; omega); omega)).trans h.o,
  h.keep.trans hk (fun i hi e => by have := h.z; rcases e with e | e; (have := mem_blocks e; omega); omega), h.z⟩
theorem KSt.cell {w wr : World} {z : Nat} {fs : List (List Nm)} (h : KSt w wr z fs) : CellsAt wr (z + 9) 0 (mapsOf z).toList := fun j v hv => by
 rw [Nat.zero_add, cell_of_row _ _ _ _ _ _ h.k]
 simpa using hv
theorem take_at {α : Type} {l : List α} {k : Nat} {x : α} (h : l[k]? = some x) : l.take (k + 1) = l.take k ++ [x] := by
 obtain ⟨h1, rfl⟩ := List.getElem?_eq_some_iff.1 h
 rw [List.take_succ_eq_append_getElem h1]
def famsOf (P : Policy) : List (List Nm) := [P.things, P.devs, P.regs, P.subs, P.chans, P.irqn, P.ques, P.plns]
theorem made_fams (w : World) (z : Nat) (hz : z + 10 = w.heap.size) (h : ∀ i, i < 8 → w.heap[z + 1 + i]? = some (.map #[] 0)) :
 FamsAt (z + 10) w (blocksOf z) [[], [], [], [], [], [], [], []] (fun _ => .map []) (fun _ _ => .slice none 0 0) := by
 refine ⟨rfl, fun i b f hb hf => ?_, fun i j s t k hi hj _ _ h1 _ => by simp [Value.ownBlock] at h1, fun i j b hi hj => ?_⟩
 · have hi8 : i < 8 := (List.getElem?_eq_some_iff.1 hb).1
   have hf0 : f = [] := by
    match i, hi8, hf with
    | 0, _, h | 1, _, h | 2, _, h | 3, _, h | 4, _, h | 5, _, h | 6, _, h | 7, _, h => exact (Option.some.inj h).symm
   have hb0 : b = z + 1 + i := by
    match i, hi8, hb with
    | 0, _, h | 1, _, h | 2, _, h | 3, _, h | 4, _, h | 5, _, h | 6, _, h | 7, _, h => simp only [blocksOf] at h; have := (Option.some.inj h).symm; omega
   subst hf0 hb0
   exact ⟨⟨#[], 0, h i hi8, ⟨by simp, Go.MapKept.stamped_empty 0, by simp⟩, Nat.le_refl _, rfl⟩, fun s _ => ⟨rfl, World.ownsRow_nil _ _ _ _, rfl⟩⟩
 · have hi8 : i < 8 := (List.getElem?_eq_some_iff.1 hi).1
   have hj8 : j < 8 := (List.getElem?_eq_some_iff.1 hj).1
   have hbi : b = z + 1 + i := by
    match i, hi8, hi with
    | 0, _, h | 1, _, h | 2, _, h | 3, _, h | 4, _, h | 5, _, h | 6, _, h | 7, _, h => simp only [blocksOf] at h; have := (Option.some.inj h).symm; omega
   have hbj : b = z + 1 + j := by
    match j, hj8, hj with
    | 0, _, h | 1, _, h | 2, _, h | 3, _, h | 4, _, h | 5, _, h | 6, _, h | 7, _, h => simp only [blocksOf] at h; have := (Option.some.inj h).symm; omega
   omega
theorem kst_made (w : World) : KSt w ((((((((((w.alloc (.cells #[.map none, .map none, .map none, .map none, .map none, .map none, .map none, .map none] 137)).alloc (.map #[] 0)).alloc (.map #[] 0)).alloc (.map #[] 0)).alloc (.map #[] 0)).alloc (.map #[] 0)).alloc (.map #[] 0)).alloc (.map #[] 0)).alloc (.map #[] 0)).alloc (.cells (mapsOf w.heap.size) 137)) w.heap.size [[], [], [], [], [], [], [], []] := by
 have e : ∀ (u : World) (o : Obj) (k : Nat), k < u.heap.size → (u.alloc o).heap[k]? = u.heap[k]? := fun u o k hk => Below.heap_alloc u o k hk
 have n : ∀ (u : World) (o : Obj) (k : Nat), k = u.heap.size → (u.alloc o).heap[k]? = some o := fun u o k hk => by subst hk; exact heap_alloc_new _ _
 refine ⟨⟨_, _, made_fams _ _ (by simp) fun i hi => ?_⟩, ?_, ?_, ?_, rfl⟩
 · rw [e _ _ _ (by simp; omega)]
   match i, hi with
   | 7, _ => exact n _ _ _ (by simp)
   | 6, _ => rw [e _ _ _ (by simp)]; exact n _ _ _ (by simp)
   | 5, _ => rw [e _ _ _ (by simp), e _ _ _ (by simp)]; exact n _ _ _ (by simp)
   | 4, _ => rw [e _ _ _ (by simp), e _ _ _ (by simp), e _ _ _ (by simp)]; exact n _ _ _ (by simp)
   | 3, _ => rw [e _ _ _ (by simp), e _ _ _ (by simp), e _ _ _ (by simp), e _ _ _ (by simp)]; exact n _ _ _ (by simp)
   | 2, _ => rw [e _ _ _ (by simp), e _ _ _ (by simp), e _ _ _ (by simp), e _ _ _ (by simp), e _ _ _ (by simp)]; exact n _ _ _ (by simp)
   | 1, _ => rw [e _ _ _ (by simp), e _ _ _ (by simp), e _ _ _ (by simp), e _ _ _ (by simp), e _ _ _ (by simp), e _ _ _ (by simp)]; exact n _ _ _ (by simp)
   | 0, _ => rw [e _ _ _ (by simp), e _ _ _ (by simp), e _ _ _ (by simp), e _ _ _ (by simp), e _ _ _ (by simp), e _ _ _ (by simp), e _ _ _ (by simp)]; exact n _ _ _ (by simp)
 · exact n _ _ _ (by simp)
 · rw [e _ _ _ (by simp; omega), e _ _ _ (by simp; omega), e _ _ _ (by simp; omega), e _ _ _ (by simp; omega), e _ _ _ (by simp; omega), e _ _ _ (by simp; omega), e _ _ _ (by simp; omega), e _ _ _ (by simp; omega), e _ _ _ (by simp)]
   exact n _ _ _ rfl
 · exact (((((((((Keep.refl _ w).alloc _).alloc _).alloc _).alloc _).alloc _).alloc _).alloc _).alloc _).alloc _ |>.alloc _
theorem known_any {B : Nat} {w : World} {pb : Nat} {v : PolV} {P : Policy} {W : Int → Int} {L : List Wr} (h : LookAt B w pb v P W L) :
 Calls Tryz.prog 70 #[.pointer (some ⟨pb, 0, none⟩)] w fun e w' => e = .returned (.agg (mapsOf w.heap.size)) ∧ Keep (fun _ => False) w w' ∧ ∃ D r, FamsAt (w.heap.size + 10) w' (blocksOf w.heap.size) (famsOf P) D r := by
 have hmm := @run_makeMap Tryz.prog
 obtain ⟨z, hz⟩ : ∃ z, z = w.heap.size := ⟨_, rfl⟩
 have HZ := Lib.hid hz
 clear hz
 go_enter Tryz.func70, Tryz.ntmps70
 go_upto_region 1 with fail
 go_cut [3] from 3 to 26 (fun k wx => k = .pointer (some ⟨z + 9, 0, none⟩) ∧ KSt w wx z [[], [], [], [], [], [], [], []])
 case first =>
  go_wp2
  go_meet
  have hz := HZ.out
  subst hz
  exact ⟨rfl, kst_made w⟩
 case rest =>
 obtain ⟨rfl, hS⟩ := hcut
 obtain ⟨w1, hw1⟩ : ∃ w1 : World, w1 = wc := ⟨_, rfl⟩
 rw [← hw1] at hS ⊢
 clear hw1
 have HL0 := (h.new hS.keep)
 have hp0 : w1.cell? ⟨pb, 3, none⟩ = some v.devices := HL0.cell rfl
 obtain ⟨A0, c0, hv0, _, hn0, hl0⟩ := h.pol.devices
 rw [hv0] at hp0
 have HS0 := Lib.hid hS
 clear hS HL0 hv0
 unfold top at hn0
 go_wp2
 clear hp0
 go_loopw [33] (fun i wr => ∃ n : Nat, n ≤ P.devices.length ∧ i = .int .i64 n ∧ KSt w wr z [((P.devices.take n).map fun x => (x.name, x.pos)), ((P.devices.take n).map fun x => (x.name, x.pos)), ([] : List Nm), ([] : List Nm), ([] : List Nm), ([] : List Nm), ([] : List Nm), ([] : List Nm)]) (fun i _ => P.devices.length - (intOf i).toNat)
 case atStart => exact ⟨0, Nat.zero_le _, rfl, by simpa using HS0.out⟩
 case round =>
 obtain ⟨n, hn, rfl, hS⟩ := hrel
 by_cases hlt : n < P.devices.length
 · obtain ⟨b, off, rfl, hbl, hcs⟩ := hl0 (by omega)
   obtain ⟨x, hx⟩ : ∃ x, P.devices[n]? = some x := ⟨_, List.getElem?_eq_getElem hlt⟩
   have hwr := (hcs n x hx)
   have hr := device_stays B _ _ _ _ _ (hS.keep.below (B := B) (by have := h.base; have := h.lt; omega) (fun _ _ h => h)) hbl hwr
   obtain ⟨u1, hc, ⟨Am, cm, rfl, _, _⟩, _, _, _, hsn⟩ := hr
   have q0 := hc.c0
   have q1 := hc 1 _ rfl
   have q2 := hc 2 _ rfl
   have q3 := hc 3 _ rfl
   have q4 := hc 4 _ rfl
   have hblr : b < wr.heap.size := by have := hS.keep.size; have := h.base; have := h.lt; omega
   have hsz := hS.size
   have hz9 : z + 9 < wr.heap.size := by omega
   have hm := hS.cell
   have m0 : wr.cell? ⟨z + 9, 0, none⟩ = some (.map (some (z + 1))) := by simpa using hm 0 _ rfl
   have m1 : wr.cell? ⟨z + 9, 1, none⟩ = some (.map (some (z + 2))) := by simpa using hm 1 _ rfl
   have hsm : x.name.size ≤ maxLen := by unfold Short at hsn; unfold maxLen; omega
   have HX := Lib.hid hx
   have HS := Lib.hid hS
   clear hx hS hcs hc hwr hm hsn
   go_wp2_with fail
   have hS1 := HS.out.alloc (.cells #[.int .i64 x.pos, .string x.name, .int .u64 x.at_, .int .u64 x.size, .slice Am x.maps.length cm] 45)
   have hx1 : (wr.alloc (.cells #[.int .i64 x.pos, .string x.name, .int .u64 x.at_, .int .u64 x.size, .slice Am x.maps.length cm] 45)).heap[wr.heap.size]? = _ := heap_alloc_new _ _
   obtain ⟨D0, r0, hf0⟩ := hS1.fam
   have hz1 := hS1.size
   refine (add_any hf0 0 (z + 1) _ rfl rfl x.name hsm x.pos (by omega) (by simp; omega)).mono ?_
   rintro e w3' ⟨rfl, hk0, hf0'⟩
   have hS2 := hS1.add hk0 hf0'
   have hm2 := hS2.cell
   have m1' : w3'.cell? ⟨z + 9, 1, none⟩ = some (.map (some (z + 2))) := by simpa using hm2 1 _ rfl
   have hx2 : w3'.heap[wr.heap.size]? = _ := (hk0.block _ (heap_lt hx1) (fun e => by rcases e with e | e; (have := mem_blocks e; omega); (have := e.2; unfold tyOf at this; rw [hx1] at this; cases this))).trans hx1
   have y0 : w3'.cell? ⟨wr.heap.size, 0, none⟩ = _ := (cell_of_row _ _ _ _ _ _ hx2).trans rfl
   have y1 : w3'.cell? ⟨wr.heap.size, 1, none⟩ = _ := (cell_of_row _ _ _ _ _ _ hx2).trans rfl
   clear hm2 hx2 hx1
   have HS2 := Lib.hid hS2
   go_wp2_with fail
   have hS2 := HS2.out
   obtain ⟨D1, r1, hf1⟩ := hS2.fam
   have hz2 := hS2.size
   refine (add_any hf1 1 (z + 2) _ rfl rfl x.name hsm x.pos (by omega) (by simp; omega)).mono ?_
   rintro e w4' ⟨rfl, hk1, hf1'⟩
   have hS3 := hS2.add hk1 hf1'
   have HE := Lib.hid hS3
   clear hS3
   go_wp2
   go_roundw
   case rel => exact ⟨n + 1, by omega, by go_num, by have := HE.out; simpa [take_at HX.out] using this⟩
   case measure => simp [intOf]; omega
 obtain rfl : n = P.devices.length := by omega
 clear hlt hn
 rw [List.take_length] at hS
 have hS1' : KSt w wr z [(P.devices.map fun x => (x.name, x.pos)), (P.devices.map fun x => (x.name, x.pos)), ([] : List Nm), ([] : List Nm), ([] : List Nm), ([] : List Nm), ([] : List Nm), ([] : List Nm)] := hS
 clear hS
 obtain ⟨w2, hw2⟩ : ∃ u : World, u = wr := ⟨_, rfl⟩
 rw [← hw2] at hS1' ⊢
 clear hw2 wr HS0 hl0
 have hS := hS1'
 clear hS1'
 have HL1 := (h.new hS.keep)
 have hp1 : w2.cell? ⟨pb, 4, none⟩ = some v.regions := HL1.cell rfl
 obtain ⟨A1, c1, hv1, _, hn1, hl1⟩ := h.pol.regions
 rw [hv1] at hp1
 have HS1 := Lib.hid hS
 clear hS HL1 hv1
 unfold top at hn1
 go_wp2
 clear hp1
 go_loopw [58] (fun i wr => ∃ n : Nat, n ≤ P.regions.length ∧ i = .int .i64 n ∧ KSt w wr z [(P.devices.map fun x => (x.name, x.pos)) ++ ((P.regions.take n).map fun x => (x.name, x.pos)), (P.devices.map fun x => (x.name, x.pos)), ((P.regions.take n).map fun x => (x.name, x.pos)), ([] : List Nm), ([] : List Nm), ([] : List Nm), ([] : List Nm), ([] : List Nm)]) (fun i _ => P.regions.length - (intOf i).toNat)
 case atStart => exact ⟨0, Nat.zero_le _, rfl, by simpa using HS1.out⟩
 case round =>
 obtain ⟨n, hn, rfl, hS⟩ := hrel
 by_cases hlt : n < P.regions.length
 · obtain ⟨b, off, rfl, hbl, hcs⟩ := hl1 (by omega)
   obtain ⟨x, hx⟩ : ∃ x, P.regions[n]? = some x := ⟨_, List.getElem?_eq_getElem hlt⟩
   have hwr := (hcs n x hx)
   have hr := (flat_stays B _ _) _ _ _ _ _ (hS.keep.below (B := B) (by have := h.base; have := h.lt; omega) (fun _ _ h => h)) hbl hwr
   obtain ⟨hc, hok⟩ := hr
   obtain ⟨_, _, _, _, hsn, _⟩ := hok
   have q0 := hc.c0
   have q1 := hc 1 _ rfl
   have q2 := hc 2 _ rfl
   have q3 := hc 3 _ rfl
   have q4 := hc 4 _ rfl
   have q5 := hc 5 _ rfl
   have q6 := hc 6 _ rfl
   have q7 := hc 7 _ rfl
   have q8 := hc 8 _ rfl
   have q9 := hc 9 _ rfl
   have hblr : b < wr.heap.size := by have := hS.keep.size; have := h.base; have := h.lt; omega
   have hsz := hS.size
   have hz9 : z + 9 < wr.heap.size := by omega
   have hm := hS.cell
   have m0 : wr.cell? ⟨z + 9, 0, none⟩ = some (.map (some (z + 1))) := by simpa using hm 0 _ rfl
   have m2 : wr.cell? ⟨z + 9, 2, none⟩ = some (.map (some (z + 3))) := by simpa using hm 2 _ rfl
   have hsm : x.name.size ≤ maxLen := by unfold Short at hsn; unfold maxLen; omega
   have HX := Lib.hid hx
   have HS := Lib.hid hS
   clear hx hS hcs hc hwr hm hsn
   go_wp2_with fail
   have hS1 := HS.out.alloc (.cells #[.int .i64 x.pos, .string x.name, .int .u64 x.size, .bool x.fixed, .int .u64 x.at_, .bool x.big, .bool x.wx, .int .u64 x.fill, .bool x.texted, .string x.text] 48)
   have hx1 : (wr.alloc (.cells #[.int .i64 x.pos, .string x.name, .int .u64 x.size, .bool x.fixed, .int .u64 x.at_, .bool x.big, .bool x.wx, .int .u64 x.fill, .bool x.texted, .string x.text] 48)).heap[wr.heap.size]? = _ := heap_alloc_new _ _
   obtain ⟨D0, r0, hf0⟩ := hS1.fam
   have hz1 := hS1.size
   refine (add_any hf0 0 (z + 1) _ rfl rfl x.name hsm x.pos (by omega) (by simp; omega)).mono ?_
   rintro e w3' ⟨rfl, hk0, hf0'⟩
   have hS2 := hS1.add hk0 hf0'
   have hm2 := hS2.cell
   have m2' : w3'.cell? ⟨z + 9, 2, none⟩ = some (.map (some (z + 3))) := by simpa using hm2 2 _ rfl
   have hx2 : w3'.heap[wr.heap.size]? = _ := (hk0.block _ (heap_lt hx1) (fun e => by rcases e with e | e; (have := mem_blocks e; omega); (have := e.2; unfold tyOf at this; rw [hx1] at this; cases this))).trans hx1
   have y0 : w3'.cell? ⟨wr.heap.size, 0, none⟩ = _ := (cell_of_row _ _ _ _ _ _ hx2).trans rfl
   have y1 : w3'.cell? ⟨wr.heap.size, 1, none⟩ = _ := (cell_of_row _ _ _ _ _ _ hx2).trans rfl
   clear hm2 hx2 hx1
   have HS2 := Lib.hid hS2
   go_wp2_with fail
   have hS2 := HS2.out
   obtain ⟨D1, r1, hf1⟩ := hS2.fam
   have hz2 := hS2.size
   refine (add_any hf1 2 (z + 3) _ rfl rfl x.name hsm x.pos (by omega) (by simp; omega)).mono ?_
   rintro e w4' ⟨rfl, hk1, hf1'⟩
   have hS3 := hS2.add hk1 hf1'
   have HE := Lib.hid hS3
   clear hS3
   go_wp2
   go_roundw
   case rel => exact ⟨n + 1, by omega, by go_num, by have := HE.out; simpa [take_at HX.out] using this⟩
   case measure => simp [intOf]; omega
 obtain rfl : n = P.regions.length := by omega
 clear hlt hn
 rw [List.take_length] at hS
 have hS2' : KSt w wr z [(P.devices.map fun x => (x.name, x.pos)) ++ (P.regions.map fun x => (x.name, x.pos)), (P.devices.map fun x => (x.name, x.pos)), (P.regions.map fun x => (x.name, x.pos)), ([] : List Nm), ([] : List Nm), ([] : List Nm), ([] : List Nm), ([] : List Nm)] := hS
 clear hS
 obtain ⟨w3, hw3⟩ : ∃ u : World, u = wr := ⟨_, rfl⟩
 rw [← hw3] at hS2' ⊢
 clear hw3 wr HS1 hl1
 have hS := hS2'
 clear hS2'
 have HL2 := (h.new hS.keep)
 have hp2 : w3.cell? ⟨pb, 5, none⟩ = some v.subjects := HL2.cell rfl
 obtain ⟨A2, c2, hv2, _, hn2, hl2⟩ := h.pol.subjects
 rw [hv2] at hp2
 have HS2 := Lib.hid hS
 clear hS HL2 hv2
 unfold top at hn2
 go_wp2
 clear hp2
 go_loopw [83] (fun i wr => ∃ n : Nat, n ≤ P.subjects.length ∧ i = .int .i64 n ∧ KSt w wr z [(P.devices.map fun x => (x.name, x.pos)) ++ (P.regions.map fun x => (x.name, x.pos)), (P.devices.map fun x => (x.name, x.pos)), (P.regions.map fun x => (x.name, x.pos)), ((P.subjects.take n).map fun x => (x.name, x.pos)), ([] : List Nm), ([] : List Nm), ([] : List Nm), ([] : List Nm)]) (fun i _ => P.subjects.length - (intOf i).toNat)
 case atStart => exact ⟨0, Nat.zero_le _, rfl, by simpa using HS2.out⟩
 case round =>
 obtain ⟨n, hn, rfl, hS⟩ := hrel
 by_cases hlt : n < P.subjects.length
 · obtain ⟨b, off, rfl, hbl, hcs⟩ := hl2 (by omega)
   obtain ⟨x, hx⟩ : ∃ x, P.subjects[n]? = some x := ⟨_, List.getElem?_eq_getElem hlt⟩
   have hwr := (hcs n x hx)
   have hr := subject_stays B _ _ _ _ _ (hS.keep.below (B := B) (by have := h.base; have := h.lt; omega) (fun _ _ h => h)) hbl hwr
   obtain ⟨u1, u2, hc, ⟨Am, cm, rfl, _, _⟩, ⟨Am2, cm2, rfl, _, _⟩, _, _, hsn⟩ := hr
   have q0 := hc.c0
   have q1 := hc 1 _ rfl
   have q2 := hc 2 _ rfl
   have q3 := hc 3 _ rfl
   have q4 := hc 4 _ rfl
   have q5 := hc 5 _ rfl
   have hblr : b < wr.heap.size := by have := hS.keep.size; have := h.base; have := h.lt; omega
   have hsz := hS.size
   have hz9 : z + 9 < wr.heap.size := by omega
   have hm := hS.cell
   have m3 : wr.cell? ⟨z + 9, 3, none⟩ = some (.map (some (z + 4))) := by simpa using hm 3 _ rfl
   have hsm : x.name.size ≤ maxLen := by unfold Short at hsn; unfold maxLen; omega
   have HX := Lib.hid hx
   have HS := Lib.hid hS
   clear hx hS hcs hc hwr hm hsn
   go_wp2_with fail
   have hS1 := HS.out.alloc (.cells #[.int .i64 x.pos, .string x.name, .int .u64 x.cpu, .bool x.stopped, .slice Am x.maps.length cm, .slice Am2 x.rules.length cm2] 52)
   have hx1 : (wr.alloc (.cells #[.int .i64 x.pos, .string x.name, .int .u64 x.cpu, .bool x.stopped, .slice Am x.maps.length cm, .slice Am2 x.rules.length cm2] 52)).heap[wr.heap.size]? = _ := heap_alloc_new _ _
   obtain ⟨D0, r0, hf0⟩ := hS1.fam
   have hz1 := hS1.size
   refine (add_any hf0 3 (z + 4) _ rfl rfl x.name hsm x.pos (by omega) (by simp; omega)).mono ?_
   rintro e w3' ⟨rfl, hk0, hf0'⟩
   have hS2 := hS1.add hk0 hf0'
   have HE := Lib.hid hS2
   clear hS2
   go_wp2
   go_roundw
   case rel => exact ⟨n + 1, by omega, by go_num, by have := HE.out; simpa [take_at HX.out] using this⟩
   case measure => simp [intOf]; omega
 obtain rfl : n = P.subjects.length := by omega
 clear hlt hn
 rw [List.take_length] at hS
 have hS3' : KSt w wr z [(P.devices.map fun x => (x.name, x.pos)) ++ (P.regions.map fun x => (x.name, x.pos)), (P.devices.map fun x => (x.name, x.pos)), (P.regions.map fun x => (x.name, x.pos)), (P.subjects.map fun x => (x.name, x.pos)), ([] : List Nm), ([] : List Nm), ([] : List Nm), ([] : List Nm)] := hS
 clear hS
 obtain ⟨w4, hw4⟩ : ∃ u : World, u = wr := ⟨_, rfl⟩
 rw [← hw4] at hS3' ⊢
 clear hw4 wr HS2 hl2
 have hS := hS3'
 clear hS3'
 have HL3 := (h.new hS.keep)
 have hp3 : w4.cell? ⟨pb, 6, none⟩ = some v.channels := HL3.cell rfl
 obtain ⟨A3, c3, hv3, _, hn3, hl3⟩ := h.pol.channels
 rw [hv3] at hp3
 have HS3 := Lib.hid hS
 clear hS HL3 hv3
 unfold top at hn3
 go_wp2
 clear hp3
 go_loopw [101] (fun i wr => ∃ n : Nat, n ≤ P.channels.length ∧ i = .int .i64 n ∧ KSt w wr z [(P.devices.map fun x => (x.name, x.pos)) ++ (P.regions.map fun x => (x.name, x.pos)), (P.devices.map fun x => (x.name, x.pos)), (P.regions.map fun x => (x.name, x.pos)), (P.subjects.map fun x => (x.name, x.pos)), ((P.channels.take n).map fun x => (x.name, x.pos)), ([] : List Nm), ([] : List Nm), ([] : List Nm)]) (fun i _ => P.channels.length - (intOf i).toNat)
 case atStart => exact ⟨0, Nat.zero_le _, rfl, by simpa using HS3.out⟩
 case round =>
 obtain ⟨n, hn, rfl, hS⟩ := hrel
 by_cases hlt : n < P.channels.length
 · obtain ⟨b, off, rfl, hbl, hcs⟩ := hl3 (by omega)
   obtain ⟨x, hx⟩ : ∃ x, P.channels[n]? = some x := ⟨_, List.getElem?_eq_getElem hlt⟩
   have hwr := (hcs n x hx)
   have hr := (flat_stays B _ _) _ _ _ _ _ (hS.keep.below (B := B) (by have := h.base; have := h.lt; omega) (fun _ _ h => h)) hbl hwr
   obtain ⟨hc, hok⟩ := hr
   obtain ⟨_, _, _, hsn, _⟩ := hok
   have q0 := hc.c0
   have q1 := hc 1 _ rfl
   have q2 := hc 2 _ rfl
   have q3 := hc 3 _ rfl
   have q4 := hc 4 _ rfl
   have q5 := hc 5 _ rfl
   have q6 := hc 6 _ rfl
   have q7 := hc 7 _ rfl
   have hblr : b < wr.heap.size := by have := hS.keep.size; have := h.base; have := h.lt; omega
   have hsz := hS.size
   have hz9 : z + 9 < wr.heap.size := by omega
   have hm := hS.cell
   have m4 : wr.cell? ⟨z + 9, 4, none⟩ = some (.map (some (z + 5))) := by simpa using hm 4 _ rfl
   have hsm : x.name.size ≤ maxLen := by unfold Short at hsn; unfold maxLen; omega
   have HX := Lib.hid hx
   have HS := Lib.hid hS
   clear hx hS hcs hc hwr hm hsn
   go_wp2_with fail
   have hS1 := HS.out.alloc (.cells #[.int .i64 x.pos, .string x.name, .string x.from_, .string x.to, .bool x.shared, .string x.over, .int .i64 x.how, .int .u64 x.vector] 55)
   have hx1 : (wr.alloc (.cells #[.int .i64 x.pos, .string x.name, .string x.from_, .string x.to, .bool x.shared, .string x.over, .int .i64 x.how, .int .u64 x.vector] 55)).heap[wr.heap.size]? = _ := heap_alloc_new _ _
   obtain ⟨D0, r0, hf0⟩ := hS1.fam
   have hz1 := hS1.size
   refine (add_any hf0 4 (z + 5) _ rfl rfl x.name hsm x.pos (by omega) (by simp; omega)).mono ?_
   rintro e w3' ⟨rfl, hk0, hf0'⟩
   have hS2 := hS1.add hk0 hf0'
   have HE := Lib.hid hS2
   clear hS2
   go_wp2
   go_roundw
   case rel => exact ⟨n + 1, by omega, by go_num, by have := HE.out; simpa [take_at HX.out] using this⟩
   case measure => simp [intOf]; omega
 obtain rfl : n = P.channels.length := by omega
 clear hlt hn
 rw [List.take_length] at hS
 have hS4' : KSt w wr z [(P.devices.map fun x => (x.name, x.pos)) ++ (P.regions.map fun x => (x.name, x.pos)), (P.devices.map fun x => (x.name, x.pos)), (P.regions.map fun x => (x.name, x.pos)), (P.subjects.map fun x => (x.name, x.pos)), (P.channels.map fun x => (x.name, x.pos)), ([] : List Nm), ([] : List Nm), ([] : List Nm)] := hS
 clear hS
 obtain ⟨w5, hw5⟩ : ∃ u : World, u = wr := ⟨_, rfl⟩
 rw [← hw5] at hS4' ⊢
 clear hw5 wr HS3 hl3
 have hS := hS4'
 clear hS4'
 have HL4 := (h.new hS.keep)
 have hp4 : w5.cell? ⟨pb, 7, none⟩ = some v.irqs := HL4.cell rfl
 obtain ⟨A4, c4, hv4, _, hn4, hl4⟩ := h.pol.irqs
 rw [hv4] at hp4
 have HS4 := Lib.hid hS
 clear hS HL4 hv4
 unfold top at hn4
 go_wp2
 clear hp4
 go_loopw [119] (fun i wr => ∃ n : Nat, n ≤ P.irqs.length ∧ i = .int .i64 n ∧ KSt w wr z [(P.devices.map fun x => (x.name, x.pos)) ++ (P.regions.map fun x => (x.name, x.pos)), (P.devices.map fun x => (x.name, x.pos)), (P.regions.map fun x => (x.name, x.pos)), (P.subjects.map fun x => (x.name, x.pos)), (P.channels.map fun x => (x.name, x.pos)), ((P.irqs.take n).map fun x => (x.name, x.pos)), ([] : List Nm), ([] : List Nm)]) (fun i _ => P.irqs.length - (intOf i).toNat)
 case atStart => exact ⟨0, Nat.zero_le _, rfl, by simpa using HS4.out⟩
 case round =>
 obtain ⟨n, hn, rfl, hS⟩ := hrel
 by_cases hlt : n < P.irqs.length
 · obtain ⟨b, off, rfl, hbl, hcs⟩ := hl4 (by omega)
   obtain ⟨x, hx⟩ : ∃ x, P.irqs[n]? = some x := ⟨_, List.getElem?_eq_getElem hlt⟩
   have hwr := (hcs n x hx)
   have hr := (flat_stays B _ _) _ _ _ _ _ (hS.keep.below (B := B) (by have := h.base; have := h.lt; omega) (fun _ _ h => h)) hbl hwr
   obtain ⟨hc, hok⟩ := hr
   obtain ⟨_, _, hsn, _⟩ := hok
   have q0 := hc.c0
   have q1 := hc 1 _ rfl
   have q2 := hc 2 _ rfl
   have q3 := hc 3 _ rfl
   have q4 := hc 4 _ rfl
   have q5 := hc 5 _ rfl
   have hblr : b < wr.heap.size := by have := hS.keep.size; have := h.base; have := h.lt; omega
   have hsz := hS.size
   have hz9 : z + 9 < wr.heap.size := by omega
   have hm := hS.cell
   have m5 : wr.cell? ⟨z + 9, 5, none⟩ = some (.map (some (z + 6))) := by simpa using hm 5 _ rfl
   have hsm : x.name.size ≤ maxLen := by unfold Short at hsn; unfold maxLen; omega
   have HX := Lib.hid hx
   have HS := Lib.hid hS
   clear hx hS hcs hc hwr hm hsn
   go_wp2_with fail
   have hS1 := HS.out.alloc (.cells #[.int .i64 x.pos, .string x.name, .string x.from_, .string x.to, .int .u64 x.vector, .bool x.masked] 58)
   have hx1 : (wr.alloc (.cells #[.int .i64 x.pos, .string x.name, .string x.from_, .string x.to, .int .u64 x.vector, .bool x.masked] 58)).heap[wr.heap.size]? = _ := heap_alloc_new _ _
   obtain ⟨D0, r0, hf0⟩ := hS1.fam
   have hz1 := hS1.size
   refine (add_any hf0 5 (z + 6) _ rfl rfl x.name hsm x.pos (by omega) (by simp; omega)).mono ?_
   rintro e w3' ⟨rfl, hk0, hf0'⟩
   have hS2 := hS1.add hk0 hf0'
   have HE := Lib.hid hS2
   clear hS2
   go_wp2
   go_roundw
   case rel => exact ⟨n + 1, by omega, by go_num, by have := HE.out; simpa [take_at HX.out] using this⟩
   case measure => simp [intOf]; omega
 obtain rfl : n = P.irqs.length := by omega
 clear hlt hn
 rw [List.take_length] at hS
 have hS5' : KSt w wr z [(P.devices.map fun x => (x.name, x.pos)) ++ (P.regions.map fun x => (x.name, x.pos)), (P.devices.map fun x => (x.name, x.pos)), (P.regions.map fun x => (x.name, x.pos)), (P.subjects.map fun x => (x.name, x.pos)), (P.channels.map fun x => (x.name, x.pos)), (P.irqs.map fun x => (x.name, x.pos)), ([] : List Nm), ([] : List Nm)] := hS
 clear hS
 obtain ⟨w6, hw6⟩ : ∃ u : World, u = wr := ⟨_, rfl⟩
 rw [← hw6] at hS5' ⊢
 clear hw6 wr HS4 hl4
 have hS := hS5'
 clear hS5'
 have HL5 := (h.new hS.keep)
 have hp5 : w6.cell? ⟨pb, 8, none⟩ = some v.queues := HL5.cell rfl
 obtain ⟨A5, c5, hv5, _, hn5, hl5⟩ := h.pol.queues
 rw [hv5] at hp5
 have HS5 := Lib.hid hS
 clear hS HL5 hv5
 unfold top at hn5
 go_wp2
 clear hp5
 go_loopw [137] (fun i wr => ∃ n : Nat, n ≤ P.queues.length ∧ i = .int .i64 n ∧ KSt w wr z [(P.devices.map fun x => (x.name, x.pos)) ++ (P.regions.map fun x => (x.name, x.pos)), (P.devices.map fun x => (x.name, x.pos)), (P.regions.map fun x => (x.name, x.pos)), (P.subjects.map fun x => (x.name, x.pos)), (P.channels.map fun x => (x.name, x.pos)), (P.irqs.map fun x => (x.name, x.pos)), ((P.queues.take n).map fun x => (x.name, x.pos)), ([] : List Nm)]) (fun i _ => P.queues.length - (intOf i).toNat)
 case atStart => exact ⟨0, Nat.zero_le _, rfl, by simpa using HS5.out⟩
 case round =>
 obtain ⟨n, hn, rfl, hS⟩ := hrel
 by_cases hlt : n < P.queues.length
 · obtain ⟨b, off, rfl, hbl, hcs⟩ := hl5 (by omega)
   obtain ⟨x, hx⟩ : ∃ x, P.queues[n]? = some x := ⟨_, List.getElem?_eq_getElem hlt⟩
   have hwr := (hcs n x hx)
   have hr := (flat_stays B _ _) _ _ _ _ _ (hS.keep.below (B := B) (by have := h.base; have := h.lt; omega) (fun _ _ h => h)) hbl hwr
   obtain ⟨hc, hok⟩ := hr
   obtain ⟨_, _, _, hsn, _⟩ := hok
   have q0 := hc.c0
   have q1 := hc 1 _ rfl
   have q2 := hc 2 _ rfl
   have q3 := hc 3 _ rfl
   have q4 := hc 4 _ rfl
   have q5 := hc 5 _ rfl
   have hblr : b < wr.heap.size := by have := hS.keep.size; have := h.base; have := h.lt; omega
   have hsz := hS.size
   have hz9 : z + 9 < wr.heap.size := by omega
   have hm := hS.cell
   have m6 : wr.cell? ⟨z + 9, 6, none⟩ = some (.map (some (z + 7))) := by simpa using hm 6 _ rfl
   have hsm : x.name.size ≤ maxLen := by unfold Short at hsn; unfold maxLen; omega
   have HX := Lib.hid hx
   have HS := Lib.hid hS
   clear hx hS hcs hc hwr hm hsn
   go_wp2_with fail
   have hS1 := HS.out.alloc (.cells #[.int .i64 x.pos, .string x.name, .string x.from_, .string x.to, .int .i64 x.how, .int .u64 x.depth] 65)
   have hx1 : (wr.alloc (.cells #[.int .i64 x.pos, .string x.name, .string x.from_, .string x.to, .int .i64 x.how, .int .u64 x.depth] 65)).heap[wr.heap.size]? = _ := heap_alloc_new _ _
   obtain ⟨D0, r0, hf0⟩ := hS1.fam
   have hz1 := hS1.size
   refine (add_any hf0 6 (z + 7) _ rfl rfl x.name hsm x.pos (by omega) (by simp; omega)).mono ?_
   rintro e w3' ⟨rfl, hk0, hf0'⟩
   have hS2 := hS1.add hk0 hf0'
   have HE := Lib.hid hS2
   clear hS2
   go_wp2
   go_roundw
   case rel => exact ⟨n + 1, by omega, by go_num, by have := HE.out; simpa [take_at HX.out] using this⟩
   case measure => simp [intOf]; omega
 obtain rfl : n = P.queues.length := by omega
 clear hlt hn
 rw [List.take_length] at hS
 have hS6' : KSt w wr z [(P.devices.map fun x => (x.name, x.pos)) ++ (P.regions.map fun x => (x.name, x.pos)), (P.devices.map fun x => (x.name, x.pos)), (P.regions.map fun x => (x.name, x.pos)), (P.subjects.map fun x => (x.name, x.pos)), (P.channels.map fun x => (x.name, x.pos)), (P.irqs.map fun x => (x.name, x.pos)), (P.queues.map fun x => (x.name, x.pos)), ([] : List Nm)] := hS
 clear hS
 obtain ⟨w7, hw7⟩ : ∃ u : World, u = wr := ⟨_, rfl⟩
 rw [← hw7] at hS6' ⊢
 clear hw7 wr HS5 hl5
 have hS := hS6'
 clear hS6'
 have HL6 := (h.new hS.keep)
 have hp6 : w7.cell? ⟨pb, 9, none⟩ = some v.plans := HL6.cell rfl
 obtain ⟨A6, c6, hv6, _, hn6, hl6⟩ := h.pol.plans
 rw [hv6] at hp6
 have HS6 := Lib.hid hS
 clear hS HL6 hv6
 unfold top at hn6
 go_wp2
 clear hp6
 go_loopw [155] (fun i wr => ∃ n : Nat, n ≤ P.plans.length ∧ i = .int .i64 n ∧ KSt w wr z [(P.devices.map fun x => (x.name, x.pos)) ++ (P.regions.map fun x => (x.name, x.pos)), (P.devices.map fun x => (x.name, x.pos)), (P.regions.map fun x => (x.name, x.pos)), (P.subjects.map fun x => (x.name, x.pos)), (P.channels.map fun x => (x.name, x.pos)), (P.irqs.map fun x => (x.name, x.pos)), (P.queues.map fun x => (x.name, x.pos)), ((P.plans.take n).map fun x => (x.name, x.pos))]) (fun i _ => P.plans.length - (intOf i).toNat)
 case atStart => exact ⟨0, Nat.zero_le _, rfl, by simpa using HS6.out⟩
 case round =>
 obtain ⟨n, hn, rfl, hS⟩ := hrel
 by_cases hlt : n < P.plans.length
 · obtain ⟨b, off, rfl, hbl, hcs⟩ := hl6 (by omega)
   obtain ⟨x, hx⟩ : ∃ x, P.plans[n]? = some x := ⟨_, List.getElem?_eq_getElem hlt⟩
   have hwr := (hcs n x hx)
   have hr := plan_stays B _ _ _ _ _ (hS.keep.below (B := B) (by have := h.base; have := h.lt; omega) (fun _ _ h => h)) hbl hwr
   obtain ⟨u1, hc, ⟨Am, cm, rfl, _, _⟩, _, _, hsn⟩ := hr
   have q0 := hc.c0
   have q1 := hc 1 _ rfl
   have q2 := hc 2 _ rfl
   have q3 := hc 3 _ rfl
   have hblr : b < wr.heap.size := by have := hS.keep.size; have := h.base; have := h.lt; omega
   have hsz := hS.size
   have hz9 : z + 9 < wr.heap.size := by omega
   have hm := hS.cell
   have m7 : wr.cell? ⟨z + 9, 7, none⟩ = some (.map (some (z + 8))) := by simpa using hm 7 _ rfl
   have hsm : x.name.size ≤ maxLen := by unfold Short at hsn; unfold maxLen; omega
   have HX := Lib.hid hx
   have HS := Lib.hid hS
   clear hx hS hcs hc hwr hm hsn
   go_wp2_with fail
   have hS1 := HS.out.alloc (.cells #[.int .i64 x.pos, .string x.name, .int .u64 x.major, .slice Am x.lanes.length cm] 62)
   have hx1 : (wr.alloc (.cells #[.int .i64 x.pos, .string x.name, .int .u64 x.major, .slice Am x.lanes.length cm] 62)).heap[wr.heap.size]? = _ := heap_alloc_new _ _
   obtain ⟨D0, r0, hf0⟩ := hS1.fam
   have hz1 := hS1.size
   refine (add_any hf0 7 (z + 8) _ rfl rfl x.name hsm x.pos (by omega) (by simp; omega)).mono ?_
   rintro e w3' ⟨rfl, hk0, hf0'⟩
   have hS2 := hS1.add hk0 hf0'
   have HE := Lib.hid hS2
   clear hS2
   go_wp2
   go_roundw
   case rel => exact ⟨n + 1, by omega, by go_num, by have := HE.out; simpa [take_at HX.out] using this⟩
   case measure => simp [intOf]; omega
 obtain rfl : n = P.plans.length := by omega
 clear hlt hn
 rw [List.take_length] at hS
 have hS7' : KSt w wr z [(P.devices.map fun x => (x.name, x.pos)) ++ (P.regions.map fun x => (x.name, x.pos)), (P.devices.map fun x => (x.name, x.pos)), (P.regions.map fun x => (x.name, x.pos)), (P.subjects.map fun x => (x.name, x.pos)), (P.channels.map fun x => (x.name, x.pos)), (P.irqs.map fun x => (x.name, x.pos)), (P.queues.map fun x => (x.name, x.pos)), (P.plans.map fun x => (x.name, x.pos))] := hS
 clear hS
 obtain ⟨w8, hw8⟩ : ∃ u : World, u = wr := ⟨_, rfl⟩
 rw [← hw8] at hS7' ⊢
 clear hw8 wr HS6 hl6
 have hS := hS7'
 clear hS7'
 have hm := hS.cell
 have hkk := hS.k
 have hoo := hS.o
 have hsz := hS.size
 have HS := Lib.hid hS
 have m0 : w8.cell? ⟨z + 9, 0, none⟩ = some (.map (some (z + 1))) := by simpa using hm 0 _ rfl
 have m1 : w8.cell? ⟨z + 9, 1, none⟩ = some (.map (some (z + 2))) := by simpa using hm 1 _ rfl
 have m2 : w8.cell? ⟨z + 9, 2, none⟩ = some (.map (some (z + 3))) := by simpa using hm 2 _ rfl
 have m3 : w8.cell? ⟨z + 9, 3, none⟩ = some (.map (some (z + 4))) := by simpa using hm 3 _ rfl
 have m4 : w8.cell? ⟨z + 9, 4, none⟩ = some (.map (some (z + 5))) := by simpa using hm 4 _ rfl
 have m5 : w8.cell? ⟨z + 9, 5, none⟩ = some (.map (some (z + 6))) := by simpa using hm 5 _ rfl
 have m6 : w8.cell? ⟨z + 9, 6, none⟩ = some (.map (some (z + 7))) := by simpa using hm 6 _ rfl
 have m7 : w8.cell? ⟨z + 9, 7, none⟩ = some (.map (some (z + 8))) := by simpa using hm 7 _ rfl
 have o0 : w8.cell? ⟨z, 0, none⟩ = some (.map none) := by rw [cell_of_row _ _ _ _ _ _ hoo]; rfl
 have f0 : w8.frozen? ⟨z, 0, none⟩ = false := by simp [World.frozen?, hoo]
 have o1 : w8.cell? ⟨z, 1, none⟩ = some (.map none) := by rw [cell_of_row _ _ _ _ _ _ hoo]; rfl
 have f1 : w8.frozen? ⟨z, 1, none⟩ = false := by simp [World.frozen?, hoo]
 have o2 : w8.cell? ⟨z, 2, none⟩ = some (.map none) := by rw [cell_of_row _ _ _ _ _ _ hoo]; rfl
 have f2 : w8.frozen? ⟨z, 2, none⟩ = false := by simp [World.frozen?, hoo]
 have o3 : w8.cell? ⟨z, 3, none⟩ = some (.map none) := by rw [cell_of_row _ _ _ _ _ _ hoo]; rfl
 have f3 : w8.frozen? ⟨z, 3, none⟩ = false := by simp [World.frozen?, hoo]
 have o4 : w8.cell? ⟨z, 4, none⟩ = some (.map none) := by rw [cell_of_row _ _ _ _ _ _ hoo]; rfl
 have f4 : w8.frozen? ⟨z, 4, none⟩ = false := by simp [World.frozen?, hoo]
 have o5 : w8.cell? ⟨z, 5, none⟩ = some (.map none) := by rw [cell_of_row _ _ _ _ _ _ hoo]; rfl
 have f5 : w8.frozen? ⟨z, 5, none⟩ = false := by simp [World.frozen?, hoo]
 have o6 : w8.cell? ⟨z, 6, none⟩ = some (.map none) := by rw [cell_of_row _ _ _ _ _ _ hoo]; rfl
 have f6 : w8.frozen? ⟨z, 6, none⟩ = false := by simp [World.frozen?, hoo]
 have o7 : w8.cell? ⟨z, 7, none⟩ = some (.map none) := by rw [cell_of_row _ _ _ _ _ _ hoo]; rfl
 have f7 : w8.frozen? ⟨z, 7, none⟩ = false := by simp [World.frozen?, hoo]
 clear hS hm hkk hoo
 rw [← HZ.out]
 go_wp2
 have hS := HS.out
 obtain ⟨D, r, hF⟩ := hS.fam
 have hk2 : Keep (fun k => k = z) w8 ((((((((w8.setCell ⟨z, 0, none⟩ (.map (some (z + 1)))).setCell ⟨z, 1, none⟩ (.map (some (z + 2)))).setCell ⟨z, 2, none⟩ (.map (some (z + 3)))).setCell ⟨z, 3, none⟩ (.map (some (z + 4)))).setCell ⟨z, 4, none⟩ (.map (some (z + 5)))).setCell ⟨z, 5, none⟩ (.map (some (z + 6)))).setCell ⟨z, 6, none⟩ (.map (some (z + 7)))).setCell ⟨z, 7, none⟩ (.map (some (z + 8)))) :=
  ((((((((Keep.refl (fun k => k = z) w8).setCell (p := ⟨z, 0, none⟩) (fun _ => rfl) _).setCell (p := ⟨z, 1, none⟩) (fun _ => rfl) _).setCell (p := ⟨z, 2, none⟩) (fun _ => rfl) _).setCell (p := ⟨z, 3, none⟩) (fun _ => rfl) _).setCell (p := ⟨z, 4, none⟩) (fun _ => rfl) _).setCell (p := ⟨z, 5, none⟩) (fun _ => rfl) _).setCell (p := ⟨z, 6, none⟩) (fun _ => rfl) _).setCell (p := ⟨z, 7, none⟩) (fun _ => rfl) _
 refine bodyPost_ret (v := .agg (mapsOf z)) (by simp [results, Tryz.results70, go_sem, mapsOf, o0, o1, o2, o3, o4, o5, o6, o7]) rfl ?_
 rw [← HZ.out]
 exact ⟨rfl, hS.keep.trans hk2 (fun i hi e => by have := HZ.out; omega), D, r, hF.keep hk2 (fun k e _ => ⟨by omega, fun hm => by have := mem_blocks hm; omega⟩)⟩
end Go.Proofs.YtpblcjipmoblnaaGreatDoor
