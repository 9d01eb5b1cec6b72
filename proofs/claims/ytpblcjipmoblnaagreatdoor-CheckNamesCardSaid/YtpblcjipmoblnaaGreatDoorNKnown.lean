/- NLaw NKnown -/
import Derived.Test.YtpblcjipmoblnaaGreatDoorNums
import Derived.Test.YtpblcjipmoblnaaGreatDoorNamedS
import Derived.Test.YtpblcjipmoblnaaGreatDoorCheckB
import Derived.Test.YtpblcjipmoblnaaGreatDoorImage
import Derived.Test.YtpblcjipmoblnaaGreatDoorFor2
set_option maxRecDepth 100000
set_option maxHeartbeats 4000000
set_option linter.unusedVariables false
set_option linter.unusedSimpArgs false
namespace Go.Proofs.YtpblcjipmoblnaaGreatDoor
open Go.RowKit Ck
theorem g2 : countsW pol0 = [] := by kernel_rfl
theorem g3 : busW pol0 = [] := by kernel_rfl
theorem g4 : regionsW pol0 = [] := by kernel_rfl
theorem g5 : mapsW pol0 = [] := by kernel_rfl
theorem g6 : whoW pol0 = [] := by kernel_rfl
theorem g7 : plansW (fun M y => (flatL M y).2) pol0 = [] := by kernel_rfl
theorem pg0 : pages flatL pol0 = 4 := by kernel_rfl
theorem g8 : imageW flatL pol0 = [] := by kernel_rfl
theorem tb0 : tables pol0 [⟨4, bs [114], 4096, true, false⟩] = 3 := by kernel_rfl
theorem g1 : namesW (namedOf clsG) pol0 = [] := by kernel_rfl
theorem tells_pol0 {a x : Int} (h : Tells (groups (namedOf clsG) flatL pol0) a x) : a = 0 ∧ x = 0 := by
 unfold groups at h
 rw [g1, g2, g3, g4, g5, g6, g7, g8] at h
 simpa [Tells] using h
theorem z1 : namesW (namedOf clsG) polZ = [] := by kernel_rfl
theorem z2 : countsW polZ = [] := by kernel_rfl
theorem z3 : busW polZ = [] := by kernel_rfl
theorem z4 : regionsW polZ = [] := by kernel_rfl
theorem z5 : mapsW polZ = [] := by kernel_rfl
theorem z6 : whoW polZ = [] := by kernel_rfl
theorem z7 : plansW (fun M y => (flatL M y).2) polZ = [(3, 0)] := by kernel_rfl
theorem tells_polZ {a x : Int} (h : Tells (groups (namedOf clsG) flatL polZ) a x) : a = 3 ∧ x = 107 := by
 unfold groups at h
 rw [z1, z2, z3, z4, z5, z6, z7] at h
 simp only [Tells] at h
 rcases h with ⟨_, h⟩ | ⟨r, h, _⟩
 rcases h with ⟨_, h⟩ | ⟨r, h, _⟩
 rcases h with ⟨_, h⟩ | ⟨r, h, _⟩
 rcases h with ⟨_, h⟩ | ⟨r, h, _⟩
 rcases h with ⟨_, h⟩ | ⟨r, h, _⟩
 rcases h with ⟨_, h⟩ | ⟨r, h, _⟩
 rcases h with ⟨h, _⟩ | ⟨r, h, _, h2⟩
 · cases h
 · simp only [List.mem_singleton, Prod.mk.injEq] at h
   obtain ⟨rfl, rfl⟩ := h
   exact ⟨rfl, h2⟩
 all_goals cases h
end Go.Proofs.YtpblcjipmoblnaaGreatDoor
namespace Go.Proofs.YtpblcjipmoblnaaGreatDoor
open Go.RowKit Go.IntWalk Ck
theorem Laid.mono {B B' : Nat} {w : World} (h : Laid B w) (hB : B ≤ B') : Laid B' w := ⟨by have := h.pos; omega, h.err, fun w' hb => h.scan w' (hb.mono hB)⟩
theorem Keep.below0 {w w' : World} (h : Keep (fun _ => False) w w') {B : Nat} (hB : B ≤ w.heap.size) : Below B w w' := h.below hB (fun _ _ e => e)
def map0 : Ck.Map := ⟨4, bs [114], 4096, true, false⟩
def kz (w : World) (z : Nat) : Prop := z + 9 ≤ w.heap.size ∧ ∀ i o, (plainObjs z)[i]? = some o → w.heap[z + i]? = some o
theorem kz.keep {w w' : World} {z : Nat} (h : kz w z) (hk : Keep (fun _ => False) w w') : kz w' z :=
 ⟨Nat.le_trans h.1 hk.size, fun i o ho => (hk.block _ (heap_lt (h.2 i o ho)) (fun e => e)).trans (h.2 i o ho)⟩
def dstK (i : Nat) : Nat := if i = 29 then 0 else i + 15
def ZAt (a : Act) (w : World) (s : Nat) (v : Nat → Value) : Prop := ∃ z, At a s (v z) ∧ kz w z
def factK (i : Nat) (a : Act) (w : World) : Prop := match i with
 | 0 => At a 15 (.int .i64 0)
 | 1 => At a 16 (.bool true)
 | 2 => At a 17 (.bool true)
 | 3 => At a 18 (.int .i64 0)
 | 4 => At a 19 (.bool true)
 | 5 => At a 20 (.bool true)
 | 6 => At a 21 (.bool true)
 | 7 => At a 22 (.int .i64 3)
 | 8 => At a 23 (.bool true)
 | 9 => At a 24 (.bool true)
 | 10 => At a 25 (.bool true)
 | 11 => At a 26 (.int .i64 107)
 | 12 => At a 27 (.bool true)
 | 13 => At a 28 (.bool true)
 | 14 => At a 29 (.bool true)
 | 15 => ZAt a w 30 (fun z => .agg ((v0 z).cells pol0).toArray)
 | 16 => At a 31 (.int .i64 4)
 | 17 => At a 32 (.bool true)
 | 18 => At a 33 (.bool true)
 | 19 => At a 34 (.bool true)
 | 20 => ZAt a w 35 (fun z => .agg ((v0 z).cells pol0).toArray)
 | 21 => ZAt a w 36 (fun z => .slice (some ⟨z + 1 + 1 + 1 + 1, 0, none⟩) 1 1)
 | 22 => ZAt a w 37 (fun z => .pointer (some ⟨z + 1 + 1 + 1 + 1, 0, none⟩))
 | 23 => ZAt a w 38 (fun z => .pointer (some ⟨z + 1 + 1 + 1 + 1, 4, none⟩))
 | 24 => ZAt a w 39 (fun z => .slice (some ⟨z + 1 + 1 + 1, 0, none⟩) 1 1)
 | 25 => ZAt a w 40 (fun z => .agg ((v0 z).cells pol0).toArray)
 | 26 => At a 41 (.int .i64 3)
 | 27 => At a 42 (.bool true)
 | 28 => At a 43 (.bool true)
 | 29 => At a 0 (.bool true)
 | _ => True
theorem factK_set {T : Array Value} {d : List Deferred} {w w' : World} {s : Nat} {v : Value} : ∀ {j : Nat}, factK j ⟨T, d⟩ w → s ≠ dstK j → Keep (fun _ => False) w w' → factK j ⟨T.setIfInBounds s v, d⟩ w'
 | 0, h, hs, _ => At.ne h hs
 | 1, h, hs, _ => At.ne h hs
 | 2, h, hs, _ => At.ne h hs
 | 3, h, hs, _ => At.ne h hs
 | 4, h, hs, _ => At.ne h hs
 | 5, h, hs, _ => At.ne h hs
 | 6, h, hs, _ => At.ne h hs
 | 7, h, hs, _ => At.ne h hs
 | 8, h, hs, _ => At.ne h hs
 | 9, h, hs, _ => At.ne h hs
 | 10, h, hs, _ => At.ne h hs
 | 11, h, hs, _ => At.ne h hs
 | 12, h, hs, _ => At.ne h hs
 | 13, h, hs, _ => At.ne h hs
 | 14, h, hs, _ => At.ne h hs
 | 15, ⟨z, h, hz⟩, hs, hk => ⟨z, At.ne h hs, hz.keep hk⟩
 | 16, h, hs, _ => At.ne h hs
 | 17, h, hs, _ => At.ne h hs
 | 18, h, hs, _ => At.ne h hs
 | 19, h, hs, _ => At.ne h hs
 | 20, ⟨z, h, hz⟩, hs, hk => ⟨z, At.ne h hs, hz.keep hk⟩
 | 21, ⟨z, h, hz⟩, hs, hk => ⟨z, At.ne h hs, hz.keep hk⟩
 | 22, ⟨z, h, hz⟩, hs, hk => ⟨z, At.ne h hs, hz.keep hk⟩
 | 23, ⟨z, h, hz⟩, hs, hk => ⟨z, At.ne h hs, hz.keep hk⟩
 | 24, ⟨z, h, hz⟩, hs, hk => ⟨z, At.ne h hs, hz.keep hk⟩
 | 25, ⟨z, h, hz⟩, hs, hk => ⟨z, At.ne h hs, hz.keep hk⟩
 | 26, h, hs, _ => At.ne h hs
 | 27, h, hs, _ => At.ne h hs
 | 28, h, hs, _ => At.ne h hs
 | 29, h, hs, _ => At.ne h hs
 | _ + 30, _, _, _ => trivial
def wsK (i : Nat) : Bool := i == 0 || (decide (15 ≤ i) && decide (i ≤ 43))
structure InvK (a : Act) (w : World) (L : Nat → Bool) (a' : Act) (w' : World) : Prop where
 agree : Agree wsK a a'
 keep : Keep (fun _ => False) w w'
 fact : ∀ j, j < 30 → L j = true → factK j a' w'
theorem wsK_dst {i : Nat} (h : i < 30) : wsK (dstK i) = true := by
 unfold wsK dstK
 split
 · rfl
 · simp; omega
theorem InvK.put {a : Act} {w : World} {L : Nat → Bool} {T : Array Value} {d : List Deferred} {w' w'' : World} (i : Nat) {v : Value} (h : InvK a w L ⟨T, d⟩ w') (hi : i < 30) (hk : Keep (fun _ => False) w' w'') (hf : factK i ⟨T.setIfInBounds (dstK i) v, d⟩ w'') :
 InvK a w (fun j => j == i || L j) ⟨T.setIfInBounds (dstK i) v, d⟩ w'' := by
 refine ⟨h.agree.set (wsK_dst hi) v, h.keep.trans hk (fun _ _ e => e), fun j hj hL => ?_⟩
 by_cases e : j = i
 · rw [e]; exact hf
 · have hL2 : L j = true := by simpa [e] using hL
   exact factK_set (h.fact j hj hL2) (by unfold dstK; split <;> split <;> omega) hk
theorem call33 {w : World} : Calls Tryz.prog 33 #[] w fun e w' => ∃ z, e = .returned (.agg ((v0 z).cells pol0).toArray) ∧ kz w' z ∧ Keep (fun _ => False) w w' :=
 (plain_any w).mono fun e w' ⟨z, h1, _, h3, h4, h5⟩ => ⟨z, h1, ⟨h3, h4⟩, h5⟩
theorem call22 {w : World} {z : Nat} (h : kz w z) : Calls Tryz.prog 22 #[.agg ((v0 z).cells pol0).toArray] w fun e w' => e = .returned (.int .i64 4) ∧ Keep (fun _ => False) w w' :=
 (pages_any (plain_at (B := w.heap.size) h.2 h.1) (Nat.le_refl _)).mono fun e w' hh => ⟨by rw [hh.1, pg0]; rfl, hh.2⟩
theorem call34 {w : World} {z y : Nat} (h : kz w z) (hy : kz w y) : Calls Tryz.prog 34 #[.slice (some ⟨y + 1 + 1 + 1, 0, none⟩) 1 1, .agg ((v0 z).cells pol0).toArray] w fun e w' => e = .returned (.int .i64 3) ∧ Keep (fun _ => False) w w' :=
 (tablesP_any (l := [map0]) (plain_at (B := w.heap.size) h.2 h.1) (Nat.le_refl _) (slice_one (b := y + 1 + 1 + 1) (by have := hy.1; omega) ⟨cells_row (hy.2 3 _ rfl), by simp [map0, Ck.Map.Ok, Wide, Short, bs, lim, ByteArray.size]⟩)).mono
   fun e w' hh => ⟨by rw [hh.1]; exact congrArg (fun n : Nat => Ending.returned (.int .i64 (n : Int))) tb0, hh.2⟩
theorem known_region {w : World} (a : Act) (hsz : a.tmps.size = 44) (h1 : At a 1 (.int .i64 0)) (h2 : At a 2 (.int .i64 0)) (h3 : At a 3 (.int .i64 3)) (h4 : At a 4 (.int .i64 107)) (Q : Exit → Act → World → Prop)
 (hQ : ∀ a' w', Agree wsK a a' → At a' 0 (.bool true) → Keep (fun _ => False) w w' → Q .normal a' w') : (codeC Tryz.f8 [1, 1, 1, 0]).wp Tryz.prog Q a w := by
 have HQ := Lib.hid hQ
 clear hQ
 conv => arg 2; whnf
 refine wp_region_inv (InvK a w) (by kernel_rfl) (by kernel_rfl) ⟨Agree.refl _ _, (Keep.refl _ _).drew, fun j _ h => by cases h⟩ ?_ ?_
 · rintro L a' w' i op hI ho hL he K hK
   have k1 := hI.agree.at_ h1 rfl
   have k2 := hI.agree.at_ h2 rfl
   have k3 := hI.agree.at_ h3 rfl
   have k4 := hI.agree.at_ h4 rfl
   have hszz := hI.agree.size.trans hsz
   clear h1 h2 h3 h4 hsz HQ
   have hi : i < 30 := by
    have := (List.getElem?_eq_some_iff.1 ho).1
    simpa using this
   rcases (by omega : i = 0 ∨ i = 1 ∨ i = 2 ∨ i = 3 ∨ i = 4 ∨ i = 5 ∨ i = 6 ∨ i = 7 ∨ i = 8 ∨ i = 9 ∨ i = 10 ∨ i = 11 ∨ i = 12 ∨ i = 13 ∨ i = 14 ∨ i = 15 ∨ i = 16 ∨ i = 17 ∨ i = 18 ∨ i = 19 ∨ i = 20 ∨ i = 21 ∨ i = 22 ∨ i = 23 ∨ i = 24 ∨ i = 25 ∨ i = 26 ∨ i = 27 ∨ i = 28 ∨ i = 29) with rfl | rfl | rfl | rfl | rfl | rfl | rfl | rfl | rfl | rfl | rfl | rfl | rfl | rfl | rfl | rfl | rfl | rfl | rfl | rfl | rfl | rfl | rfl | rfl | rfl | rfl | rfl | rfl | rfl | rfl
   · obtain rfl := Option.some.inj (ho : some _ = some op)
     clear ho hi hL
     clear he
     clear k2 k3 k4
     have HI := Lib.hid hI
     clear hI
     obtain ⟨T, d⟩ := a'
     go_simp
     refine hK _ _ ?_
     exact HI.out.put 0 (by decide) (Keep.refl _ _) At.self
   · obtain rfl := Option.some.inj (ho : some _ = some op)
     clear ho hi hL
     have hd : L 0 = true := by have := he; simp [Region.binds] at this; simp [this]
     have d0 := hd
     clear he
     have c0 : At a' 15 (.int .i64 0) := hI.fact 0 (by decide) d0
     clear d0 hd
     clear k1 k2 k3 k4
     have HI := Lib.hid hI
     clear hI
     obtain ⟨T, d⟩ := a'
     go_simp
     refine hK _ _ ?_
     exact HI.out.put 1 (by decide) (Keep.refl _ _) At.self
   · obtain rfl := Option.some.inj (ho : some _ = some op)
     clear ho hi hL
     have hd : L 1 = true := by have := he; simp [Region.binds] at this; simp [this]
     have d1 := hd
     clear he
     have c1 : At a' 16 (.bool true) := hI.fact 1 (by decide) d1
     clear d1 hd
     clear k1 k2 k3 k4
     have HI := Lib.hid hI
     clear hI
     obtain ⟨T, d⟩ := a'
     go_simp
     refine hK _ _ ?_
     exact HI.out.put 2 (by decide) (Keep.refl _ _) At.self
   · obtain rfl := Option.some.inj (ho : some _ = some op)
     clear ho hi hL
     have hd : L 2 = true := by have := he; simp [Region.binds] at this; simp [this]
     have d2 := hd
     clear he
     have c2 : At a' 17 (.bool true) := hI.fact 2 (by decide) d2
     clear d2 hd
     clear k1 k3 k4
     have HI := Lib.hid hI
     clear hI
     obtain ⟨T, d⟩ := a'
     go_simp
     refine hK _ _ ?_
     exact HI.out.put 3 (by decide) (Keep.refl _ _) At.self
   · obtain rfl := Option.some.inj (ho : some _ = some op)
     clear ho hi hL
     have hd : L 3 = true ∧ L 2 = true := by have := he; simp [Region.binds] at this; simp [this]
     obtain ⟨d3, d2⟩ := hd
     clear he
     have c3 : At a' 18 (.int .i64 0) := hI.fact 3 (by decide) d3
     have c2 : At a' 17 (.bool true) := hI.fact 2 (by decide) d2
     clear d3 d2
     clear k1 k2 k3 k4
     have HI := Lib.hid hI
     clear hI
     obtain ⟨T, d⟩ := a'
     go_simp
     refine hK _ _ ?_
     exact HI.out.put 4 (by decide) (Keep.refl _ _) At.self
   · obtain rfl := Option.some.inj (ho : some _ = some op)
     clear ho hi hL
     have hd : L 2 = true ∧ L 4 = true := by have := he; simp [Region.binds] at this; simp [this]
     obtain ⟨d2, d4⟩ := hd
     clear he
     have c2 : At a' 17 (.bool true) := hI.fact 2 (by decide) d2
     have c4 : At a' 19 (.bool true) := hI.fact 4 (by decide) d4
     clear d2 d4
     clear k1 k2 k3 k4
     have HI := Lib.hid hI
     clear hI
     obtain ⟨T, d⟩ := a'
     go_simp
     refine hK _ _ ?_
     exact HI.out.put 5 (by decide) (Keep.refl _ _) At.self
   · obtain rfl := Option.some.inj (ho : some _ = some op)
     clear ho hi hL
     have hd : L 5 = true ∧ L 2 = true := by have := he; simp [Region.binds] at this; simp [this]
     obtain ⟨d5, d2⟩ := hd
     clear he
     have c5 : At a' 20 (.bool true) := hI.fact 5 (by decide) d5
     have c2 : At a' 17 (.bool true) := hI.fact 2 (by decide) d2
     clear d5 d2
     clear k1 k2 k3 k4
     have HI := Lib.hid hI
     clear hI
     obtain ⟨T, d⟩ := a'
     go_simp
     refine hK _ _ ?_
     exact HI.out.put 6 (by decide) (Keep.refl _ _) At.self
   · obtain rfl := Option.some.inj (ho : some _ = some op)
     clear ho hi hL
     have hd : L 6 = true := by have := he; simp [Region.binds] at this; simp [this]
     have d6 := hd
     clear he
     have c6 : At a' 21 (.bool true) := hI.fact 6 (by decide) d6
     clear d6 hd
     clear k1 k2 k4
     have HI := Lib.hid hI
     clear hI
     obtain ⟨T, d⟩ := a'
     go_simp
     refine hK _ _ ?_
     exact HI.out.put 7 (by decide) (Keep.refl _ _) At.self
   · obtain rfl := Option.some.inj (ho : some _ = some op)
     clear ho hi hL
     have hd : L 7 = true ∧ L 6 = true := by have := he; simp [Region.binds] at this; simp [this]
     obtain ⟨d7, d6⟩ := hd
     clear he
     have c7 : At a' 22 (.int .i64 3) := hI.fact 7 (by decide) d7
     have c6 : At a' 21 (.bool true) := hI.fact 6 (by decide) d6
     clear d7 d6
     clear k1 k2 k3 k4
     have HI := Lib.hid hI
     clear hI
     obtain ⟨T, d⟩ := a'
     go_simp
     refine hK _ _ ?_
     exact HI.out.put 8 (by decide) (Keep.refl _ _) At.self
   · obtain rfl := Option.some.inj (ho : some _ = some op)
     clear ho hi hL
     have hd : L 6 = true ∧ L 8 = true := by have := he; simp [Region.binds] at this; simp [this]
     obtain ⟨d6, d8⟩ := hd
     clear he
     have c6 : At a' 21 (.bool true) := hI.fact 6 (by decide) d6
     have c8 : At a' 23 (.bool true) := hI.fact 8 (by decide) d8
     clear d6 d8
     clear k1 k2 k3 k4
     have HI := Lib.hid hI
     clear hI
     obtain ⟨T, d⟩ := a'
     go_simp
     refine hK _ _ ?_
     exact HI.out.put 9 (by decide) (Keep.refl _ _) At.self
   · obtain rfl := Option.some.inj (ho : some _ = some op)
     clear ho hi hL
     have hd : L 9 = true ∧ L 6 = true := by have := he; simp [Region.binds] at this; simp [this]
     obtain ⟨d9, d6⟩ := hd
     clear he
     have c9 : At a' 24 (.bool true) := hI.fact 9 (by decide) d9
     have c6 : At a' 21 (.bool true) := hI.fact 6 (by decide) d6
     clear d9 d6
     clear k1 k2 k3 k4
     have HI := Lib.hid hI
     clear hI
     obtain ⟨T, d⟩ := a'
     go_simp
     refine hK _ _ ?_
     exact HI.out.put 10 (by decide) (Keep.refl _ _) At.self
   · obtain rfl := Option.some.inj (ho : some _ = some op)
     clear ho hi hL
     have hd : L 10 = true := by have := he; simp [Region.binds] at this; simp [this]
     have d10 := hd
     clear he
     have c10 : At a' 25 (.bool true) := hI.fact 10 (by decide) d10
     clear d10 hd
     clear k1 k2 k3
     have HI := Lib.hid hI
     clear hI
     obtain ⟨T, d⟩ := a'
     go_simp
     refine hK _ _ ?_
     exact HI.out.put 11 (by decide) (Keep.refl _ _) At.self
   · obtain rfl := Option.some.inj (ho : some _ = some op)
     clear ho hi hL
     have hd : L 11 = true ∧ L 10 = true := by have := he; simp [Region.binds] at this; simp [this]
     obtain ⟨d11, d10⟩ := hd
     clear he
     have c11 : At a' 26 (.int .i64 107) := hI.fact 11 (by decide) d11
     have c10 : At a' 25 (.bool true) := hI.fact 10 (by decide) d10
     clear d11 d10
     clear k1 k2 k3 k4
     have HI := Lib.hid hI
     clear hI
     obtain ⟨T, d⟩ := a'
     go_simp
     refine hK _ _ ?_
     exact HI.out.put 12 (by decide) (Keep.refl _ _) At.self
   · obtain rfl := Option.some.inj (ho : some _ = some op)
     clear ho hi hL
     have hd : L 10 = true ∧ L 12 = true := by have := he; simp [Region.binds] at this; simp [this]
     obtain ⟨d10, d12⟩ := hd
     clear he
     have c10 : At a' 25 (.bool true) := hI.fact 10 (by decide) d10
     have c12 : At a' 27 (.bool true) := hI.fact 12 (by decide) d12
     clear d10 d12
     clear k1 k2 k3 k4
     have HI := Lib.hid hI
     clear hI
     obtain ⟨T, d⟩ := a'
     go_simp
     refine hK _ _ ?_
     exact HI.out.put 13 (by decide) (Keep.refl _ _) At.self
   · obtain rfl := Option.some.inj (ho : some _ = some op)
     clear ho hi hL
     have hd : L 13 = true ∧ L 10 = true := by have := he; simp [Region.binds] at this; simp [this]
     obtain ⟨d13, d10⟩ := hd
     clear he
     have c13 : At a' 28 (.bool true) := hI.fact 13 (by decide) d13
     have c10 : At a' 25 (.bool true) := hI.fact 10 (by decide) d10
     clear d13 d10
     clear k1 k2 k3 k4
     have HI := Lib.hid hI
     clear hI
     obtain ⟨T, d⟩ := a'
     go_simp
     refine hK _ _ ?_
     exact HI.out.put 14 (by decide) (Keep.refl _ _) At.self
   · obtain rfl := Option.some.inj (ho : some _ = some op)
     clear ho hi hL
     have hd : L 14 = true := by have := he; simp [Region.binds] at this; simp [this]
     have d14 := hd
     clear he
     have c14 : At a' 29 (.bool true) := hI.fact 14 (by decide) d14
     clear d14 hd
     clear k1 k2 k3 k4
     have HC := Lib.hid (fun w : World => @call33 w)
     have HI := Lib.hid hI
     clear hI
     obtain ⟨T, d⟩ := a'
     go_simp
     refine call33.mono ?_
     rintro e w2 ⟨z, rfl, hz, hk⟩
     refine hK _ _ ?_
     exact HI.out.put 15 (by decide) hk ⟨z, At.self, hz⟩
   · obtain rfl := Option.some.inj (ho : some _ = some op)
     clear ho hi hL
     have hd : L 15 = true ∧ L 14 = true := by have := he; simp [Region.binds] at this; simp [this]
     obtain ⟨d15, d14⟩ := hd
     clear he
     obtain ⟨z15, c15, e15⟩ : ZAt a' w' 30 (fun z => .agg ((v0 z).cells pol0).toArray) := hI.fact 15 (by decide) d15
     have E15 := Lib.hid e15
     have c14 : At a' 29 (.bool true) := hI.fact 14 (by decide) d14
     clear e15
     clear d15 d14
     clear k1 k2 k3 k4
     have HI := Lib.hid hI
     clear hI
     obtain ⟨T, d⟩ := a'
     go_simp
     refine (call22 E15.out).mono ?_
     rintro e w2 ⟨rfl, hk⟩
     refine hK _ _ ?_
     exact HI.out.put 16 (by decide) hk At.self
   · obtain rfl := Option.some.inj (ho : some _ = some op)
     clear ho hi hL
     have hd : L 16 = true ∧ L 14 = true := by have := he; simp [Region.binds] at this; simp [this]
     obtain ⟨d16, d14⟩ := hd
     clear he
     have c16 : At a' 31 (.int .i64 4) := hI.fact 16 (by decide) d16
     have c14 : At a' 29 (.bool true) := hI.fact 14 (by decide) d14
     clear d16 d14
     clear k1 k2 k3 k4
     have HI := Lib.hid hI
     clear hI
     obtain ⟨T, d⟩ := a'
     go_simp
     refine hK _ _ ?_
     exact HI.out.put 17 (by decide) (Keep.refl _ _) At.self
   · obtain rfl := Option.some.inj (ho : some _ = some op)
     clear ho hi hL
     have hd : L 14 = true ∧ L 17 = true := by have := he; simp [Region.binds] at this; simp [this]
     obtain ⟨d14, d17⟩ := hd
     clear he
     have c14 : At a' 29 (.bool true) := hI.fact 14 (by decide) d14
     have c17 : At a' 32 (.bool true) := hI.fact 17 (by decide) d17
     clear d14 d17
     clear k1 k2 k3 k4
     have HI := Lib.hid hI
     clear hI
     obtain ⟨T, d⟩ := a'
     go_simp
     refine hK _ _ ?_
     exact HI.out.put 18 (by decide) (Keep.refl _ _) At.self
   · obtain rfl := Option.some.inj (ho : some _ = some op)
     clear ho hi hL
     have hd : L 18 = true ∧ L 16 = true := by have := he; simp [Region.binds] at this; simp [this]
     obtain ⟨d18, d16⟩ := hd
     clear he
     have c18 : At a' 33 (.bool true) := hI.fact 18 (by decide) d18
     have c16 : At a' 31 (.int .i64 4) := hI.fact 16 (by decide) d16
     clear d18 d16
     clear k1 k2 k3 k4
     have HI := Lib.hid hI
     clear hI
     obtain ⟨T, d⟩ := a'
     go_simp
     refine hK _ _ ?_
     exact HI.out.put 19 (by decide) (Keep.refl _ _) At.self
   · obtain rfl := Option.some.inj (ho : some _ = some op)
     clear ho hi hL
     have hd : L 19 = true := by have := he; simp [Region.binds] at this; simp [this]
     have d19 := hd
     clear he
     have c19 : At a' 34 (.bool true) := hI.fact 19 (by decide) d19
     clear d19 hd
     clear k1 k2 k3 k4
     have HC := Lib.hid (fun w : World => @call33 w)
     have HI := Lib.hid hI
     clear hI
     obtain ⟨T, d⟩ := a'
     go_simp
     refine call33.mono ?_
     rintro e w2 ⟨z, rfl, hz, hk⟩
     refine hK _ _ ?_
     exact HI.out.put 20 (by decide) hk ⟨z, At.self, hz⟩
   · obtain rfl := Option.some.inj (ho : some _ = some op)
     clear ho hi hL
     have hd : L 20 = true ∧ L 19 = true := by have := he; simp [Region.binds] at this; simp [this]
     obtain ⟨d20, d19⟩ := hd
     clear he
     obtain ⟨z20, c20, e20⟩ : ZAt a' w' 35 (fun z => .agg ((v0 z).cells pol0).toArray) := hI.fact 20 (by decide) d20
     have E20 := Lib.hid e20
     have c19 : At a' 34 (.bool true) := hI.fact 19 (by decide) d19
     clear e20
     clear d20 d19
     clear k1 k2 k3 k4
     have HI := Lib.hid hI
     clear hI
     obtain ⟨T, d⟩ := a'
     go_simp
     refine hK _ _ ?_
     exact HI.out.put 21 (by decide) (Keep.refl _ _) ⟨_, At.self, E20.out⟩
   · obtain rfl := Option.some.inj (ho : some _ = some op)
     clear ho hi hL
     have hd : L 21 = true ∧ L 19 = true := by have := he; simp [Region.binds] at this; simp [this]
     obtain ⟨d21, d19⟩ := hd
     clear he
     obtain ⟨z21, c21, e21⟩ : ZAt a' w' 36 (fun z => .slice (some ⟨z + 1 + 1 + 1 + 1, 0, none⟩) 1 1) := hI.fact 21 (by decide) d21
     have E21 := Lib.hid e21
     have c19 : At a' 34 (.bool true) := hI.fact 19 (by decide) d19
     clear e21
     clear d21 d19
     clear k1 k2 k3 k4
     have HI := Lib.hid hI
     clear hI
     obtain ⟨T, d⟩ := a'
     go_simp
     refine hK _ _ ?_
     exact HI.out.put 22 (by decide) (Keep.refl _ _) ⟨_, At.self, E21.out⟩
   · obtain rfl := Option.some.inj (ho : some _ = some op)
     clear ho hi hL
     have hd : L 22 = true ∧ L 19 = true := by have := he; simp [Region.binds] at this; simp [this]
     obtain ⟨d22, d19⟩ := hd
     clear he
     obtain ⟨z22, c22, e22⟩ : ZAt a' w' 37 (fun z => .pointer (some ⟨z + 1 + 1 + 1 + 1, 0, none⟩)) := hI.fact 22 (by decide) d22
     have E22 := Lib.hid e22
     have c19 : At a' 34 (.bool true) := hI.fact 19 (by decide) d19
     clear e22
     clear d22 d19
     clear k1 k2 k3 k4
     have HI := Lib.hid hI
     clear hI
     obtain ⟨T, d⟩ := a'
     go_simp
     refine hK _ _ ?_
     exact HI.out.put 23 (by decide) (Keep.refl _ _) ⟨_, At.self, E22.out⟩
   · obtain rfl := Option.some.inj (ho : some _ = some op)
     clear ho hi hL
     have hd : L 23 = true ∧ L 19 = true := by have := he; simp [Region.binds] at this; simp [this]
     obtain ⟨d23, d19⟩ := hd
     clear he
     obtain ⟨z23, c23, e23⟩ : ZAt a' w' 38 (fun z => .pointer (some ⟨z + 1 + 1 + 1 + 1, 4, none⟩)) := hI.fact 23 (by decide) d23
     have E23 := Lib.hid e23
     have c19 : At a' 34 (.bool true) := hI.fact 19 (by decide) d19
     have q4 : w'.cell? ⟨z23 + 1 + 1 + 1 + 1, 4, none⟩ = some (.slice (some ⟨z23 + 1 + 1 + 1, 0, none⟩) 1 1) := by rw [cell_of_row _ _ _ _ _ _ (e23.2 4 _ rfl)]; rfl
     clear e23
     clear d23 d19
     clear k1 k2 k3 k4
     have HI := Lib.hid hI
     clear hI
     obtain ⟨T, d⟩ := a'
     go_simp
     refine hK _ _ ?_
     exact HI.out.put 24 (by decide) (Keep.refl _ _) ⟨_, At.self, E23.out⟩
   · obtain rfl := Option.some.inj (ho : some _ = some op)
     clear ho hi hL
     have hd : L 20 = true ∧ L 19 = true := by have := he; simp [Region.binds] at this; simp [this]
     obtain ⟨d20, d19⟩ := hd
     clear he
     obtain ⟨z20, c20, e20⟩ : ZAt a' w' 35 (fun z => .agg ((v0 z).cells pol0).toArray) := hI.fact 20 (by decide) d20
     have E20 := Lib.hid e20
     have c19 : At a' 34 (.bool true) := hI.fact 19 (by decide) d19
     clear e20
     clear d20 d19
     clear k1 k2 k3 k4
     have HC := Lib.hid (fun w : World => @call33 w)
     have HI := Lib.hid hI
     clear hI
     obtain ⟨T, d⟩ := a'
     go_simp
     refine call33.mono ?_
     rintro e w2 ⟨z, rfl, hz, hk⟩
     refine hK _ _ ?_
     exact HI.out.put 25 (by decide) hk ⟨z, At.self, hz⟩
   · obtain rfl := Option.some.inj (ho : some _ = some op)
     clear ho hi hL
     have hd : L 24 = true ∧ L 25 = true ∧ L 19 = true := by have := he; simp [Region.binds] at this; simp [this]
     obtain ⟨d24, d25, d19⟩ := hd
     clear he
     obtain ⟨z24, c24, e24⟩ : ZAt a' w' 39 (fun z => .slice (some ⟨z + 1 + 1 + 1, 0, none⟩) 1 1) := hI.fact 24 (by decide) d24
     have E24 := Lib.hid e24
     obtain ⟨z25, c25, e25⟩ : ZAt a' w' 40 (fun z => .agg ((v0 z).cells pol0).toArray) := hI.fact 25 (by decide) d25
     have E25 := Lib.hid e25
     have c19 : At a' 34 (.bool true) := hI.fact 19 (by decide) d19
     clear e24 e25
     clear d24 d25 d19
     clear k1 k2 k3 k4
     have HI := Lib.hid hI
     clear hI
     obtain ⟨T, d⟩ := a'
     go_simp
     refine (call34 E25.out E24.out).mono ?_
     rintro e w2 ⟨rfl, hk⟩
     refine hK _ _ ?_
     exact HI.out.put 26 (by decide) hk At.self
   · obtain rfl := Option.some.inj (ho : some _ = some op)
     clear ho hi hL
     have hd : L 26 = true ∧ L 19 = true := by have := he; simp [Region.binds] at this; simp [this]
     obtain ⟨d26, d19⟩ := hd
     clear he
     have c26 : At a' 41 (.int .i64 3) := hI.fact 26 (by decide) d26
     have c19 : At a' 34 (.bool true) := hI.fact 19 (by decide) d19
     clear d26 d19
     clear k1 k2 k3 k4
     have HI := Lib.hid hI
     clear hI
     obtain ⟨T, d⟩ := a'
     go_simp
     refine hK _ _ ?_
     exact HI.out.put 27 (by decide) (Keep.refl _ _) At.self
   · obtain rfl := Option.some.inj (ho : some _ = some op)
     clear ho hi hL
     have hd : L 19 = true ∧ L 27 = true := by have := he; simp [Region.binds] at this; simp [this]
     obtain ⟨d19, d27⟩ := hd
     clear he
     have c19 : At a' 34 (.bool true) := hI.fact 19 (by decide) d19
     have c27 : At a' 42 (.bool true) := hI.fact 27 (by decide) d27
     clear d19 d27
     clear k1 k2 k3 k4
     have HI := Lib.hid hI
     clear hI
     obtain ⟨T, d⟩ := a'
     go_simp
     refine hK _ _ ?_
     exact HI.out.put 28 (by decide) (Keep.refl _ _) At.self
   · obtain rfl := Option.some.inj (ho : some _ = some op)
     clear ho hi hL
     have d28 : L 28 = true := by have := he; simp [Region.binds] at this; exact this.1
     clear he
     have c28 : At a' 43 (.bool true) := hI.fact 28 (by decide) d28
     clear d28
     clear k1 k2 k3 k4
     have HI := Lib.hid hI
     clear hI
     obtain ⟨T, d⟩ := a'
     go_simp
     refine hK _ _ ?_
     exact HI.out.put 29 (by decide) (Keep.refl _ _) At.self
 · rintro L a' w' hI hall
   exact HQ.out a' w' hI.agree (hI.fact 29 (by decide) (hall 29 (by decide))) hI.keep
theorem knownL_any {w : World} (hl : Laid w.heap.size w) : Calls Tryz.prog 8 #[] w fun e w' => e = .returned (.bool true) ∧ Keep (fun _ => False) w w' := by
 go_enter Tryz.func8, Tryz.ntmps8
 go_wp2_with fail
 refine (plain_any w).mono ?_
 rintro e w1 ⟨z, rfl, hz, hs, ho, hk⟩
 have hl1 : Laid w.heap.size w1 := hl.below (hk.below0 (Nat.le_refl _))
 have HL1 := Lib.hid hl1
 have HP := Lib.hid (plain_at (B := w1.heap.size) ho hs)
 have HK := Lib.hid hk
 clear hl hl1 ho hk hz hs
 go_wp2_with fail
 refine (check_any named_spec HP.out (HL1.out.mono HK.out.size) (Nat.le_refl _)).mono ?_
 rintro e w2 ⟨⟨a, x, rfl, hT⟩, hk2⟩
 obtain ⟨rfl, rfl⟩ := tells_pol0 hT
 have HK2 := Lib.hid hk2
 clear hT hk2
 go_wp2_with fail
 refine (check_any (v := vZ) (P := polZ) named_spec (polZ_at _ _) ((HL1.out.below (HK2.out.below0 HK.out.size)).mono (Nat.le_trans HK.out.size HK2.out.size)) (Nat.le_refl _)).mono ?_
 rintro e w3 ⟨⟨a, x, rfl, hT⟩, hk3⟩
 obtain ⟨rfl, rfl⟩ := tells_polZ hT
 have HK3 := Lib.hid hk3
 clear hT hk3
 go_wp2_with fail
 refine known_region _ rfl (fun _ => rfl) (fun _ => rfl) (fun _ => rfl) (fun _ => rfl) _ (fun a4 w4 hA h0 hk4 => ?_)
 refine ‹∀ (a : Act) (w : World), Code.wp _ Code.ret _ a w → _› a4 w4 ?_
 refine wp_ret ?_
 refine post_tmp rfl h0 (by rw [hA.size]; exact (show (0 : Nat) < 44 by decide)) hA.defers ⟨rfl, ((HK.out.trans HK2.out (fun _ _ e => e)).trans HK3.out (fun _ _ e => e)).trans hk4 (fun _ _ e => e)⟩
end Go.Proofs.YtpblcjipmoblnaaGreatDoor
