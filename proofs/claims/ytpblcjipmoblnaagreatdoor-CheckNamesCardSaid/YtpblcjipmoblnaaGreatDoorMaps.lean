/- MapsA MapsB MapsC Maps -/
import Derived.Test.YtpblcjipmoblnaaGreatDoorRegions
import Derived.Test.YtpblcjipmoblnaaGreatDoorNamesB
set_option maxRecDepth 100000
set_option maxHeartbeats 4000000
set_option linter.unusedVariables false
set_option linter.unusedSimpArgs false
namespace Go.Proofs.YtpblcjipmoblnaaGreatDoor
open Go.RowKit Go.IntWalk Ck
theorem map_unit {B : Nat} {w : World} {pb : Nat} {v : PolV} {P : Policy} {L : List Wr} (h : LookAt B w pb v P why5 L) {z y : Nat} {x : Ck.Map} {t : Thing} (hx0 : CellsAt w z 0 [.int .i64 x.pos, .string x.of, .int .u64 x.at_, .bool x.write, .bool x.exec]) (hy0 : CellsAt w y 0 [.int .u64 t.size, .bool t.big, .bool t.wx]) (hxa : x.at_ < lim) (hts : t.size < lim) (a : Act) (hsz : a.tmps.size = 108) (h0 : At a 0 (.pointer (some ⟨pb, 0, none⟩))) (h9 : At a 9 (.pointer (some ⟨z, 0, none⟩))) (h10 : At a 10 (.pointer (some ⟨y, 0, none⟩))) (Q : Exit → Act → World → Prop)
 (hQ : ∀ a' w', Agree (fun i => (decide (42 ≤ i) && decide (i ≤ 52))) a a' → LookAt B w' pb v P why5 (say (decide (x.at_ % unit t.big = 0)) x.pos 0 ++ L) → Keep (fun k => k = pb) w w' → Q .normal a' w') :
 (codeC Tryz.f53 [1, 1, 1, 0, 0, 1, 1, 0, 0, 1, 1, 1, 0, 1, 0, 0, 1, 1, 0, 0, 1, 1, 0]).wp Tryz.prog Q a w := by
 unfold lim at hxa hts
 refine Code.wp_only (R := fun a' w' => Agree (fun i => (decide (42 ≤ i) && decide (i ≤ 52))) a a' ∧ LookAt B w' pb v P why5 (say (decide (x.at_ % unit t.big = 0)) x.pos 0 ++ L) ∧ Keep (fun k => k = pb) w w') ?_ (fun a4 w4 h => hQ a4 w4 h.1 h.2.1 h.2.2)
 clear hQ
 conv => arg 2; whnf
 have q0 := hx0.c0
 have q1 := hx0 1 _ rfl
 have q2 := hx0 2 _ rfl
 have q3 := hx0 3 _ rfl
 have q4 := hx0 4 _ rfl
 have y0 := hy0.c0
 have y1 := hy0 1 _ rfl
 have y2 := hy0 2 _ rfl
 obtain ⟨U, hU⟩ : ∃ u, u = unit t.big := ⟨_, rfl⟩
 have hun := fun w0 => flip_ (unit_any t.big w0)
 rw [← hU] at hun
 have hU0 : 0 < U := by rw [hU]; unfold unit; split <;> omega
 have hU1 : ¬ (U = 0) := by omega
 have hU2 : ((U : Int) == 0) = false := by simp; omega
 obtain ⟨b, hb⟩ : ∃ b, ((x.at_ : Int).tmod (U : Int) == 0) = b := ⟨_, rfl⟩
 have HS : Hid (say (decide (x.at_ % unit t.big = 0)) x.pos 0 = say b x.pos 0) := by
  refine Lib.hid ?_
  rw [← hb, ← hU, show ((x.at_ : Int).tmod (U : Int)) = ((x.at_ % U : Nat) : Int) from rfl]
  congr 1
  rw [int_eqb]
  exact decide_eq_decide.2 (by omega)
 have HLd := Lib.hid (h.new ((Keep.refl _ w).drew))
 clear h hx0 hy0 hU hU0
 obtain ⟨T, d⟩ := a
 refine wp_region_still_tail 10 (by kernel_rfl) (by kernel_rfl) ?_
 simp only [List.take_succ_cons, List.take_zero, List.drop_succ_cons, List.drop_zero]
 iterate 5
  with_reducible refine wpStill_step (fun K hK => ?_)
  go_simp
  with_reducible refine hK _ ?_
  clear hK K
 with_reducible refine wpStill_step (fun K hK => ?_)
 go_simp
 with_reducible refine ⟨_, hun _, hK _ ?_⟩
 clear hK K
 iterate 4
  with_reducible refine wpStill_step (fun K hK => ?_)
  go_simp
  with_reducible refine hK _ ?_
  clear hK K
 with_reducible refine wpStill_nil ?_
 with_reducible refine wpList_step (fun K hK => ?_)
 go_simp
 refine (must_any _ _ 0 33 HLd.out rfl).mono ?_
 rintro e w2 ⟨rfl, hL2, hk2⟩
 with_reducible refine hK _ _ (wpList_nil ?_)
 refine ⟨rfl, ?_, ?_, ?_⟩
 · exact ag
 · rw [HS.out]
   exact hL2
 · exact ((Keep.refl _ _).drew).trans hk2 (fun _ _ e => e)
theorem map_below {B : Nat} {w : World} {pb : Nat} {v : PolV} {P : Policy} {L : List Wr} (h : LookAt B w pb v P why5 L) {z y : Nat} {x : Ck.Map} {t : Thing} (hx0 : CellsAt w z 0 [.int .i64 x.pos, .string x.of, .int .u64 x.at_, .bool x.write, .bool x.exec]) (hy0 : CellsAt w y 0 [.int .u64 t.size, .bool t.big, .bool t.wx]) (hxa : x.at_ < lim) (hts : t.size < lim) (a : Act) (hsz : a.tmps.size = 108) (h0 : At a 0 (.pointer (some ⟨pb, 0, none⟩))) (h9 : At a 9 (.pointer (some ⟨z, 0, none⟩))) (h10 : At a 10 (.pointer (some ⟨y, 0, none⟩))) (Q : Exit → Act → World → Prop)
 (hQ : ∀ a' w', Agree (fun i => (decide (53 ≤ i) && decide (i ≤ 61))) a a' → LookAt B w' pb v P why5 (say (below x.at_ t.size 549755813888) x.pos 1 ++ L) → Keep (fun k => k = pb) w w' → Q .normal a' w') :
 (codeC Tryz.f53 [1, 1, 1, 0, 0, 1, 1, 0, 0, 1, 1, 1, 0, 1, 0, 0, 1, 1, 0, 0, 1, 1, 1, 0]).wp Tryz.prog Q a w := by
 unfold lim at hxa hts
 refine Code.wp_only (R := fun a' w' => Agree (fun i => (decide (53 ≤ i) && decide (i ≤ 61))) a a' ∧ LookAt B w' pb v P why5 (say (below x.at_ t.size 549755813888) x.pos 1 ++ L) ∧ Keep (fun k => k = pb) w w') ?_ (fun a4 w4 h => hQ a4 w4 h.1 h.2.1 h.2.2)
 clear hQ
 conv => arg 2; whnf
 have q0 := hx0.c0
 have q1 := hx0 1 _ rfl
 have q2 := hx0 2 _ rfl
 have q3 := hx0 3 _ rfl
 have q4 := hx0 4 _ rfl
 have y0 := hy0.c0
 have y1 := hy0 1 _ rfl
 have y2 := hy0 2 _ rfl
 obtain ⟨b, hb⟩ : ∃ b, b = below x.at_ t.size 549755813888 := ⟨_, rfl⟩
 have hbd := fun w0 => flip_ (below_any x.at_ t.size 549755813888 w0 hxa hts (by decide))
 rw [← hb] at hbd
 have HS : Hid (say (below x.at_ t.size 549755813888) x.pos 1 = say b x.pos 1) := by rw [← hb]; exact Lib.hid rfl
 have HLd := Lib.hid (h.new ((Keep.refl _ w).drew))
 clear h hx0 hy0 hb
 obtain ⟨T, d⟩ := a
 refine wp_region_still_tail 8 (by kernel_rfl) (by kernel_rfl) ?_
 simp only [List.take_succ_cons, List.take_zero, List.drop_succ_cons, List.drop_zero]
 iterate 5
  with_reducible refine wpStill_step (fun K hK => ?_)
  go_simp
  with_reducible refine hK _ ?_
  clear hK K
 with_reducible refine wpStill_step (fun K hK => ?_)
 go_simp
 with_reducible refine ⟨_, hbd _, hK _ ?_⟩
 clear hK K
 iterate 2
  with_reducible refine wpStill_step (fun K hK => ?_)
  go_simp
  with_reducible refine hK _ ?_
  clear hK K
 with_reducible refine wpStill_nil ?_
 with_reducible refine wpList_step (fun K hK => ?_)
 go_simp
 refine (must_any _ _ 1 40 HLd.out rfl).mono ?_
 rintro e w2 ⟨rfl, hL2, hk2⟩
 with_reducible refine hK _ _ (wpList_nil ?_)
 refine ⟨rfl, ?_, ?_, ?_⟩
 · exact ag
 · rw [HS.out]
   exact hL2
 · exact ((Keep.refl _ _).drew).trans hk2 (fun _ _ e => e)
theorem map_exec {B : Nat} {w : World} {pb : Nat} {v : PolV} {P : Policy} {L : List Wr} (h : LookAt B w pb v P why5 L) {z y : Nat} {x : Ck.Map} {t : Thing} (hx0 : CellsAt w z 0 [.int .i64 x.pos, .string x.of, .int .u64 x.at_, .bool x.write, .bool x.exec]) (hy0 : CellsAt w y 0 [.int .u64 t.size, .bool t.big, .bool t.wx]) (hxa : x.at_ < lim) (hts : t.size < lim) (a : Act) (hsz : a.tmps.size = 108) (h0 : At a 0 (.pointer (some ⟨pb, 0, none⟩))) (h9 : At a 9 (.pointer (some ⟨z, 0, none⟩))) (h10 : At a 10 (.pointer (some ⟨y, 0, none⟩))) {dv : Bool} (h6 : At a 6 (.bool dv)) (Q : Exit → Act → World → Prop)
 (hQ : ∀ a' w', Agree (fun i => (decide (62 ≤ i) && decide (i ≤ 81))) a a' → LookAt B w' pb v P why5 (say (!x.exec || !dv && (t.wx || !x.write)) x.pos 3 ++ L) → Keep (fun k => k = pb) w w' → Q .normal a' w') :
 (codeC Tryz.f53 [1, 1, 1, 0, 0, 1, 1, 0, 0, 1, 1, 1, 0, 1, 0, 0, 1, 1, 0, 0, 1, 1, 1, 1, 0]).wp Tryz.prog Q a w := by
 unfold lim at hxa hts
 refine Code.wp_only (R := fun a' w' => Agree (fun i => (decide (62 ≤ i) && decide (i ≤ 81))) a a' ∧ LookAt B w' pb v P why5 (say (!x.exec || !dv && (t.wx || !x.write)) x.pos 3 ++ L) ∧ Keep (fun k => k = pb) w w') ?_ (fun a4 w4 h => hQ a4 w4 h.1 h.2.1 h.2.2)
 clear hQ
 conv => arg 2; whnf
 have q0 := hx0.c0
 have q1 := hx0 1 _ rfl
 have q2 := hx0 2 _ rfl
 have q3 := hx0 3 _ rfl
 have q4 := hx0 4 _ rfl
 have y0 := hy0.c0
 have y1 := hy0 1 _ rfl
 have y2 := hy0 2 _ rfl
 obtain ⟨b1, e1⟩ : ∃ b, x.exec = b := ⟨_, rfl⟩
 obtain ⟨b2, e2⟩ : ∃ b, t.wx = b := ⟨_, rfl⟩
 obtain ⟨b3, e3⟩ : ∃ b, x.write = b := ⟨_, rfl⟩
 rw [e1] at q4
 rw [e2] at y2
 rw [e3] at q3
 have HS : Hid (say (!x.exec || !dv && (t.wx || !x.write)) x.pos 3 = say (!b1 || !dv && (b2 || !b3)) x.pos 3) := by rw [e1, e2, e3]; exact Lib.hid rfl
 have HLd := Lib.hid h
 have hun := undef_eq
 clear h hx0 hy0 e1 e2 e3
 obtain ⟨T, d⟩ := a
 refine wp_region_lit ?_
 cases b1
 · skip
   iterate 19 with_reducible refine st ?_
   with_reducible refine wpList_step (fun K hK => ?_)
   go_simp
   refine (must_any _ _ 3 104 HLd.out rfl).mono ?_
   rintro e w2 ⟨rfl, hL2, hk2⟩
   with_reducible refine hK _ _ (wpList_nil ?_)
   refine ⟨rfl, ?_, ?_, ?_⟩
   · exact ag
   · rw [HS.out]
     exact hL2
   · exact hk2
 · cases dv
   · cases b2
     · skip
       iterate 19 with_reducible refine st ?_
       with_reducible refine wpList_step (fun K hK => ?_)
       go_simp
       refine (must_any _ _ 3 104 HLd.out rfl).mono ?_
       rintro e w2 ⟨rfl, hL2, hk2⟩
       with_reducible refine hK _ _ (wpList_nil ?_)
       refine ⟨rfl, ?_, ?_, ?_⟩
       · exact ag
       · rw [HS.out]
         simpa using hL2
       · exact hk2
     · skip
       iterate 19 with_reducible refine st ?_
       with_reducible refine wpList_step (fun K hK => ?_)
       go_simp
       refine (must_any _ _ 3 104 HLd.out rfl).mono ?_
       rintro e w2 ⟨rfl, hL2, hk2⟩
       with_reducible refine hK _ _ (wpList_nil ?_)
       refine ⟨rfl, ?_, ?_, ?_⟩
       · exact ag
       · rw [HS.out]
         simpa using hL2
       · exact hk2
   · skip
     iterate 19 with_reducible refine st ?_
     with_reducible refine wpList_step (fun K hK => ?_)
     go_simp
     refine (must_any _ _ 3 104 HLd.out rfl).mono ?_
     rintro e w2 ⟨rfl, hL2, hk2⟩
     with_reducible refine hK _ _ (wpList_nil ?_)
     refine ⟨rfl, ?_, ?_, ?_⟩
     · exact ag
     · rw [HS.out]
       exact hL2
     · exact hk2
theorem map_pages {B : Nat} {w : World} {pb : Nat} {v : PolV} {P : Policy} {L : List Wr} (h : LookAt B w pb v P why5 L) {z y : Nat} {x : Ck.Map} {t : Thing} (hx0 : CellsAt w z 0 [.int .i64 x.pos, .string x.of, .int .u64 x.at_, .bool x.write, .bool x.exec]) (hy0 : CellsAt w y 0 [.int .u64 t.size, .bool t.big, .bool t.wx]) (hxa : x.at_ < lim) (hts : t.size < lim) (a : Act) (hsz : a.tmps.size = 108) (h0 : At a 0 (.pointer (some ⟨pb, 0, none⟩))) (h9 : At a 9 (.pointer (some ⟨z, 0, none⟩))) (h10 : At a 10 (.pointer (some ⟨y, 0, none⟩))) {n : Nat} (h3 : At a 3 (.int .u64 n)) (Q : Exit → Act → World → Prop)
 (hQ : ∀ a' w', Agree (fun i => (decide (87 ≤ i) && decide (i ≤ 92))) a a' → LookAt B w' pb v P why5 (say (decide (n ≤ 131072)) x.pos 4 ++ L) → Keep (fun k => k = pb) w w' → Q .normal a' w') :
 (codeC Tryz.f53 [1, 1, 1, 0, 0, 1, 1, 0, 0, 1, 1, 1, 0, 1, 0, 0, 1, 1, 0, 0, 1, 1, 1, 1, 1, 1, 0]).wp Tryz.prog Q a w := by
 unfold lim at hxa hts
 refine Code.wp_only (R := fun a' w' => Agree (fun i => (decide (87 ≤ i) && decide (i ≤ 92))) a a' ∧ LookAt B w' pb v P why5 (say (decide (n ≤ 131072)) x.pos 4 ++ L) ∧ Keep (fun k => k = pb) w w') ?_ (fun a4 w4 h => hQ a4 w4 h.1 h.2.1 h.2.2)
 clear hQ
 conv => arg 2; whnf
 have q0 := hx0.c0
 have q1 := hx0 1 _ rfl
 have q2 := hx0 2 _ rfl
 have q3 := hx0 3 _ rfl
 have q4 := hx0 4 _ rfl
 have y0 := hy0.c0
 have y1 := hy0 1 _ rfl
 have y2 := hy0 2 _ rfl
 obtain ⟨b1, e1⟩ : ∃ b, decide (n ≤ 131072) = b := ⟨_, rfl⟩
 have HS : Hid (say (decide (n ≤ 131072)) x.pos 4 = say b1 x.pos 4) := by rw [e1]; exact Lib.hid rfl
 have e2 : decide ((n : Int) ≤ 131072) = b1 := by rw [← e1]; exact decide_eq_decide.2 (by omega)
 have HLd := Lib.hid h
 clear h hx0 hy0
 obtain ⟨T, d⟩ := a
 refine wp_region_lit ?_
 iterate 5 with_reducible refine st ?_
 with_reducible refine wpList_step (fun K hK => ?_)
 go_simp
 refine (must_any _ _ 4 4 HLd.out rfl).mono ?_
 rintro e w2 ⟨rfl, hL2, hk2⟩
 with_reducible refine hK _ _ (wpList_nil ?_)
 refine ⟨rfl, ?_, ?_, ?_⟩
 · exact ag
 · rw [HS.out]
   exact hL2
 · exact hk2
theorem map_put {B : Nat} {w : World} {pb : Nat} {v : PolV} {P : Policy} {L : List Wr} (h : LookAt B w pb v P why5 L) {z y : Nat} {x : Ck.Map} {t : Thing} (hx0 : CellsAt w z 0 [.int .i64 x.pos, .string x.of, .int .u64 x.at_, .bool x.write, .bool x.exec]) (hy0 : CellsAt w y 0 [.int .u64 t.size, .bool t.big, .bool t.wx]) (a : Act) (hsz : a.tmps.size = 108) (h9 : At a 9 (.pointer (some ⟨z, 0, none⟩))) (h10 : At a 10 (.pointer (some ⟨y, 0, none⟩))) {Z : Nat} {u : Value} {l : List Part} (h7 : At a 7 u) (HO : Hid (w.ownsRow Z 170 3 u l.length (partCells l))) (hl : l.length ≤ 8388608) (hZ : Z ≤ w.heap.size) (hBZ : B ≤ Z) (Q : Exit → Act → World → Prop)
 (hQ : ∀ a' w' u', Agree (fun i => i == 7 || (decide (93 ≤ i) && decide (i ≤ 102))) a a' → At a' 7 u' → w'.ownsRow Z 170 3 u' (l.length + 1) (partCells (l ++ [⟨x.at_, t.size, x.pos⟩])) → LookAt B w' pb v P why5 L → Keep (fun k => u.ownBlock = some k) w w' → Q .normal a' w') :
 (codeC Tryz.f53 [1, 1, 1, 0, 0, 1, 1, 0, 0, 1, 1, 1, 0, 1, 0, 0, 1, 1, 0, 0, 1, 1, 1, 1, 1, 1, 1]).wp Tryz.prog Q a w := by
 conv => arg 2; whnf
 refine Code.wp_only (R := fun a4 w4 => Agree (fun i => i == 7 || (decide (93 ≤ i) && decide (i ≤ 102))) a a4 ∧ (∃ u', At a4 7 u' ∧ w4.ownsRow Z 170 3 u' (l.length + 1) (partCells (l ++ [⟨x.at_, t.size, x.pos⟩]))) ∧ LookAt B w4 pb v P why5 L ∧ Keep (fun k => u.ownBlock = some k) w w4) ?_ (fun a4 w4 h => hQ a4 w4 h.2.1.choose h.1 h.2.1.choose_spec.1 h.2.1.choose_spec.2 h.2.2.1 h.2.2.2)
 clear hQ
 have q0 := hx0.c0
 have q2 := hx0 2 _ rfl
 have y0 := hy0.c0
 have HL := Lib.hid h
 clear h hx0 hy0
 obtain ⟨T, d⟩ := a
 refine wp_region_lit ?_
 iterate 9 with_reducible refine st ?_
 have hb := cells_new w [.int .u64 x.at_, .int .u64 t.size, .int .i64 x.pos] 170
 have hka : Keep (fun _ => False) w (w.alloc (.cells #[.int .u64 x.at_, .int .u64 t.size, .int .i64 x.pos] 170)) := (Keep.refl _ _).alloc _
 have HOA := Lib.hid (rowOwn_keep HO.out hka (fun _ _ h => h))
 refine append_part (p := ⟨x.at_, t.size, x.pos⟩) rfl rfl rfl (At.eval (by exact aq) (by have := hsz; simp at this ⊢; omega)) HOA.out (by omega) (At.eval (by exact aq) (by have := hsz; simp at this ⊢; omega)) hb (by have := hka.size; omega) ?_
 intro u2 w4 hown4 hk4
 have HU4 := Lib.hid hown4
 have HKA : Hid (Keep (fun k => u.ownBlock = some k) w w4) := (hka.mono fun _ _ h => h.elim).trans hk4 (fun i hi h => h)
 have HLG := Lib.hid ((HL.out.new hka).grown HOA.out hBZ (by decide) hk4)
 clear hown4 hk4 hb hka HOA
 simp only [Act.put]
 with_reducible refine st ?_
 with_reducible refine wpList_nil ?_
 refine ⟨rfl, ag, ⟨u2, aq, HU4.out⟩, HLG.out, HKA.out⟩
def mapSay (P : Policy) (dv : Bool) (n : Nat) (x : Ck.Map) : List Wr :=
 say (decide (x.at_ % unit (thing0 P x.of).big = 0)) x.pos 0 ++ say (below x.at_ (thing0 P x.of).size 549755813888) x.pos 1 ++ say (!x.exec || !dv && ((thing0 P x.of).wx || !x.write)) x.pos 3 ++ say (decide ((n + (thing0 P x.of).size / 4096) % M64 ≤ 131072)) x.pos 4
theorem spaceW_snoc (P : Policy) (dv : Bool) (x : Ck.Map) : ∀ (l : List Ck.Map) (n : Nat), spaceW P dv n (l ++ [x]) = ((spaceW P dv n l).1 ++ mapSay P dv (spaceW P dv n l).2 x, ((spaceW P dv n l).2 + (thing0 P x.of).size / 4096) % M64)
 | [], n => by simp [spaceW, mapSay]; rfl
 | m :: t, n => by
  have ih := spaceW_snoc P dv x t ((n + (thing0 P m.of).size / 4096) % M64)
  simp only [List.cons_append, spaceW, ih, List.append_assoc]
theorem spaceW_lt (P : Policy) (dv : Bool) : ∀ (l : List Ck.Map) (n : Nat), n < lim → (spaceW P dv n l).2 < lim
 | [], n, h => h
 | m :: t, n, h => spaceW_lt P dv t _ (Nat.mod_lt _ (by decide))
theorem mapParts_snoc (P : Policy) (l : List Ck.Map) (x : Ck.Map) : mapParts P (l ++ [x]) = mapParts P l ++ [⟨x.at_, (thing0 P x.of).size, x.pos⟩] := by simp [mapParts]
theorem maps_space {B : Nat} {w : World} {pb : Nat} {v : PolV} {P : Policy} {L : List Wr} (h : LookAt B w pb v P why5 L) {mb : Nat} (hm : ThingMap w mb P) (hmb : mb < w.heap.size) (hmp : mb ≠ pb) (hth : ∀ s, (thing0 P s).size < lim) {A : Option Addr} {c : Nat} {l : List Ck.Map} (hs : SliceAt B 5 MapAt w (.slice A l.length c) l) {n0 : Nat} (hn0 : n0 < lim) {dv : Bool} (a : Act) (hsz : a.tmps.size = 108) (h0 : At a 0 (.pointer (some ⟨pb, 0, none⟩))) (h2 : At a 2 (.map (some mb))) (h3 : At a 3 (.int .u64 n0)) (h5 : At a 5 (.slice A l.length c)) (h6 : At a 6 (.bool dv)) (h7 : At a 7 (.slice none 0 0)) (Q : Exit → Act → World → Prop)
 (hQ : ∀ a' w' u', Agree (fun i => i == 3 || i == 7 || i == 9 || i == 10 || (decide (32 ≤ i) && decide (i ≤ 103))) a a' → At a' 7 u' → w'.ownsRow w.heap.size 170 3 u' (mapParts P l).length (partCells (mapParts P l)) → l.length ≤ 8388608 → At a' 3 (.int .u64 (spaceW P dv n0 l).2) → LookAt B w' pb v P why5 ((spaceW P dv n0 l).1 ++ L) → Keep (fun k => k = pb) w w' → Q .normal a' w') :
 (codeC Tryz.f53 [1, 1, 1, 0, 0, 1, 1, 0, 0, 1, 1, 1, 0]).wp Tryz.prog Q a w := by
 obtain ⟨_, _, e, hnc, hn, hl⟩ := hs
 cases e
 unfold top at hn
 have hlt := h.lt
 have hBp := h.base
 have HM := Lib.hid hm
 have HTH := Lib.hid hth
 clear hm hth
 conv => arg 2; whnf
 refine wp_seq (Code.wp_only (R := fun a1 w1 => Agree (fun i => (decide (32 ≤ i) && decide (i ≤ 34))) a a1 ∧ At a1 32 (.slice A l.length c) ∧ At a1 33 (.int .i64 l.length) ∧ At a1 34 (.int .i64 0) ∧ w1 = w) ?_ ?_)
 · clear hl
   obtain ⟨T, d⟩ := a
   refine wp_region_lit ?_
   iterate 3 with_reducible refine st ?_
   with_reducible refine wpList_nil ?_
   refine ⟨rfl, ag, aq, aq, aq, rfl⟩
 rintro a0 w0 ⟨hA0, k_s, k_n, k_i, rfl⟩
 have hsz0 := hA0.size.trans hsz
 replace h0 := hA0.at_ h0 rfl
 replace h2 := hA0.at_ h2 rfl
 replace h3 := hA0.at_ h3 rfl
 replace h6 := hA0.at_ h6 rfl
 replace h7 := hA0.at_ h7 rfl
 obtain ⟨Z, hZ⟩ : ∃ z, z = w0.heap.size := ⟨_, rfl⟩
 rw [← hZ] at hQ
 have HZ := Lib.hid hZ
 clear hZ
 refine wp_range l.length (fun i => i == 3 || i == 7 || i == 9 || i == 10 || (decide (34 ≤ i) && decide (i ≤ 103))) (fun i => i == 3 || i == 7 || i == 9 || i == 10 || (decide (36 ≤ i) && decide (i ≤ 102))) (fun k a' w' => ∃ u, At a' 7 u ∧ w'.ownsRow Z 170 3 u (mapParts P (l.take k)).length (partCells (mapParts P (l.take k))) ∧ At a' 3 (.int .u64 (spaceW P dv n0 (l.take k)).2) ∧ LookAt B w' pb v P why5 ((spaceW P dv n0 (l.take k)).1 ++ L) ∧ Keep (fun k => k = pb) w0 w') (by omega) k_i k_n (by decide) rfl
  (by intro j; simp; omega) (by omega) (by decide) (fun k a1 a2 w hA ⟨u, h1, h2, h3, h4⟩ => ⟨u, hA.at_ h1 rfl, h2, hA.at_ h3 rfl, h4⟩) ⟨_, h7, by simpa [mapParts, partCells] using World.ownsRow_nil _ _ _ _, by simpa [spaceW] using h3, by simpa [spaceW] using h, Keep.refl _ _⟩ ?_ ?_
 · rintro k a1 wr hlt3 hA k_j ⟨u, k_7, hown, k_3, hL, hk⟩
   obtain ⟨bl, off, rfl, hbl, hcs⟩ := hl (by omega)
   obtain ⟨x, hx⟩ : ∃ x, l[k]? = some x := ⟨_, List.getElem?_eq_getElem hlt3⟩
   obtain ⟨hc, ok_x⟩ := (flat_stays B _ _) _ _ _ _ _ (hk.below (B := B) (by omega) (fun _ hi e => by omega)) hbl (hcs k x hx)
   have q0 := hc.c0
   have q1 := hc 1 _ rfl
   have q2 := hc 2 _ rfl
   have q3 := hc 3 _ rfl
   have q4 := hc 4 _ rfl
   have k_0 := hA.at_ h0 rfl
   have k_2 := hA.at_ h2 rfl
   have k_6 := hA.at_ h6 rfl
   have k_sl := hA.at_ k_s rfl
   have hsz1 := hA.size.trans hsz0
   have hszw := hk.size
   have hblr : bl < wr.heap.size := by omega
   have hkc : k ≤ c := by omega
   have HSX : Hid (spaceW P dv n0 (l.take (k + 1)) = ((spaceW P dv n0 (l.take k)).1 ++ mapSay P dv (spaceW P dv n0 (l.take k)).2 x, ((spaceW P dv n0 (l.take k)).2 + (thing0 P x.of).size / 4096) % M64)) := by
    refine Lib.hid ?_
    rw [take_at hx, spaceW_snoc]
   have HR : Hid (mapParts P (l.take (k + 1)) = mapParts P (l.take k) ++ [⟨x.at_, (thing0 P x.of).size, x.pos⟩]) := by
    refine Lib.hid ?_
    rw [take_at hx, mapParts_snoc]
   have hrl : (mapParts P (l.take k)).length ≤ k := by simp [mapParts]; omega
   have hnl := spaceW_lt P dv (l.take k) n0 hn0
   obtain ⟨fs, hfs⟩ : ∃ q, q = mapParts P (l.take k) := ⟨_, rfl⟩
   rw [← hfs] at hown HR hrl
   clear hfs
   obtain ⟨⟨S, n⟩, hsn⟩ : ∃ q, q = spaceW P dv n0 (l.take k) := ⟨_, rfl⟩
   rw [← hsn] at k_3 hL HSX hnl
   clear hsn
   dsimp only at k_3 hL HSX hnl
   obtain ⟨t, ht⟩ : ∃ t, t = thing0 P x.of := ⟨_, rfl⟩
   have htl : t.size < lim := by rw [ht]; exact HTH.out _
   rw [← ht] at HR HSX
   have HT := Lib.hid ht
   have HO := Lib.hid hown
   have HL := Lib.hid hL
   have HK := Lib.hid hk
   have HA := Lib.hid hA
   clear hx hown hk hA hcs hc hl hL ht
   refine wp_seq (Code.wp_only (R := fun a2 w2 => Agree (fun i => i == 36 || i == 37 || i == 9) a1 a2 ∧ At a2 9 (.pointer (some ⟨wr.heap.size, 0, none⟩)) ∧ w2 = wr.alloc (.cells #[.int .i64 x.pos, .string x.of, .int .u64 x.at_, .bool x.write, .bool x.exec] 71)) ?_ ?_)
   · obtain ⟨T, d⟩ := a1
     refine wp_region_lit ?_
     iterate 4 with_reducible refine st ?_
     with_reducible refine wpList_nil ?_
     refine ⟨rfl, ag, aq, rfl⟩
   rintro a2 wo ⟨hA2, k_9, hwo⟩
   obtain ⟨z, hz⟩ : ∃ z, z = wr.heap.size := ⟨_, rfl⟩
   rw [← hz] at k_9
   have hx0 : CellsAt wo z 0 [.int .i64 x.pos, .string x.of, .int .u64 x.at_, .bool x.write, .bool x.exec] := by rw [hwo, hz]; exact cells_new _ _ _
   have hzo : z < wo.heap.size := by rw [hwo, hz]; simp
   have hko : Keep (fun _ => False) wr wo := by rw [hwo]; exact (Keep.refl _ _).alloc _
   have hzpb : z ≠ pb := by omega
   have hpbz : pb < z := by omega
   have hsz2 := hA2.size.trans hsz1
   have k_0 := hA2.at_ k_0 rfl
   have k_2 := hA2.at_ k_2 rfl
   have k_3 := hA2.at_ k_3 rfl
   have k_6 := hA2.at_ k_6 rfl
   have k_7 := hA2.at_ k_7 rfl
   have HOz : Hid (∀ k, u.ownBlock = some k → k < z ∧ k ≠ pb) := fun k hk => by have h1 := (HO.out.lt k hk); have := HZ.out; omega
   have HO := Lib.hid (rowOwn_keep HO.out hko (fun _ _ h => h))
   have HL1 := Lib.hid (HL.out.new hko)
   have HK1 := Lib.hid (HK.out.trans hko (fun _ _ h => h.elim))
   have HAg : Hid (Agree (fun i => i == 3 || i == 7 || i == 9 || i == 10 || (decide (36 ≤ i) && decide (i ≤ 102))) a1 a2) := hA2.mono (by intro j; simp; omega)
   clear hwo hz hko HL HK hA2 k_sl k_j hszw hblr q0 q1 q2 q3 q4
   obtain ⟨nm, hsm⟩ := HM.out
   have HSM := Lib.hid (hsm.keep HK1.out hmp)
   clear hsm
   refine wp_seq (Code.wp_only (R := fun a3 w3 => Agree (fun i => i == 10 || (decide (38 ≤ i) && decide (i ≤ 41))) a2 a3 ∧ At a3 10 (.pointer (some ⟨wo.heap.size, 0, none⟩)) ∧ w3 = wo.alloc (.cells #[.int .u64 t.size, .bool t.big, .bool t.wx] 182)) ?_ ?_)
   · have q1 := hx0 1 _ rfl
     clear hx0
     obtain ⟨T, d⟩ := a2
     refine wp_region_lit ?_
     iterate 3 with_reducible refine st ?_
     refine SMap.lookup rfl HSM.out rfl rfl Tryz.underlying121 zero182 (At.eval (by exact aq) (by have := hsz2; simp at this ⊢; omega)) (At.eval (by exact aq) (by have := hsz2; simp at this ⊢; omega)) (by have := ok_x.2.2; unfold Short at this; unfold maxLen; omega) ?_
     rw [← HT.out]
     simp only [Act.put, encT]
     iterate 2 with_reducible refine st ?_
     with_reducible refine wpList_nil ?_
     refine ⟨rfl, ag, aq, rfl⟩
   rintro a3 w3 ⟨hA3, k_10, hw3⟩
   obtain ⟨y, hy⟩ : ∃ y, y = wo.heap.size := ⟨_, rfl⟩
   rw [← hy] at k_10
   have hy0 : CellsAt w3 y 0 [.int .u64 t.size, .bool t.big, .bool t.wx] := by rw [hw3, hy]; exact cells_new _ _ _
   have hyo : y < w3.heap.size := by rw [hw3, hy]; simp
   have hk3 : Keep (fun _ => False) wo w3 := by rw [hw3]; exact (Keep.refl _ _).alloc _
   have hypb : y ≠ pb := by omega
   have hzy : z < y := by omega
   have hx0 := hx0.keep hk3 hzo (fun h => h)
   have hzo : z < w3.heap.size := Nat.lt_of_lt_of_le hzo hk3.size
   have HO := Lib.hid (rowOwn_keep HO.out hk3 (fun _ _ h => h))
   have HL1 := Lib.hid (HL1.out.new hk3)
   have HK1 := Lib.hid (HK1.out.trans hk3 (fun _ _ h => h.elim))
   have hL3 : True := trivial
   clear hw3 hy
   have k_0 := hA3.at_ k_0 rfl
   have k_2 := hA3.at_ k_2 rfl
   have k_3 := hA3.at_ k_3 rfl
   have k_6 := hA3.at_ k_6 rfl
   have k_7 := hA3.at_ k_7 rfl
   have k_9 := hA3.at_ k_9 rfl
   have hsz2 := hA3.size.trans hsz2
   have HAg : Hid (Agree (fun i => i == 3 || i == 7 || i == 9 || i == 10 || (decide (36 ≤ i) && decide (i ≤ 102))) a1 a3) := HAg.out.trans hA3 (by intro j; simp; omega)
   clear hA3 hk3 HSM hL3
   refine wp_seq (map_unit HL1.out hx0 hy0 ok_x.2.1 htl a3 hsz2 k_0 k_9 k_10 _ (fun a4 w4 hA4 hL4 hk4 => ?_))
   have hx0 := hx0.keep hk4 hzo hzpb
   have hzo : z < w4.heap.size := Nat.lt_of_lt_of_le hzo hk4.size
   have hy0 := hy0.keep hk4 hyo hypb
   have hyo : y < w4.heap.size := Nat.lt_of_lt_of_le hyo hk4.size
   have HO := Lib.hid (rowOwn_keep HO.out hk4 (fun j hj e => (HOz.out j hj).2 e))
   have HL1 := Lib.hid hL4
   have HK1 := Lib.hid (HK1.out.trans hk4 (fun _ _ e => e))
   have k_0 := hA4.at_ k_0 rfl
   have k_2 := hA4.at_ k_2 rfl
   have k_3 := hA4.at_ k_3 rfl
   have k_6 := hA4.at_ k_6 rfl
   have k_7 := hA4.at_ k_7 rfl
   have k_9 := hA4.at_ k_9 rfl
   have k_10 := hA4.at_ k_10 rfl
   have hsz2 := hA4.size.trans hsz2
   have HAg : Hid (Agree (fun i => i == 3 || i == 7 || i == 9 || i == 10 || (decide (36 ≤ i) && decide (i ≤ 102))) a1 a4) := HAg.out.trans hA4 (by intro j; simp; omega)
   clear hA4 hL4 hk4
   refine wp_seq (map_below HL1.out hx0 hy0 ok_x.2.1 htl a4 hsz2 k_0 k_9 k_10 _ (fun a5 w5 hA5 hL5 hk5 => ?_))
   have hx0 := hx0.keep hk5 hzo hzpb
   have hzo : z < w5.heap.size := Nat.lt_of_lt_of_le hzo hk5.size
   have hy0 := hy0.keep hk5 hyo hypb
   have hyo : y < w5.heap.size := Nat.lt_of_lt_of_le hyo hk5.size
   have HO := Lib.hid (rowOwn_keep HO.out hk5 (fun j hj e => (HOz.out j hj).2 e))
   have HL1 := Lib.hid hL5
   have HK1 := Lib.hid (HK1.out.trans hk5 (fun _ _ e => e))
   have k_0 := hA5.at_ k_0 rfl
   have k_2 := hA5.at_ k_2 rfl
   have k_3 := hA5.at_ k_3 rfl
   have k_6 := hA5.at_ k_6 rfl
   have k_7 := hA5.at_ k_7 rfl
   have k_9 := hA5.at_ k_9 rfl
   have k_10 := hA5.at_ k_10 rfl
   have hsz2 := hA5.size.trans hsz2
   have HAg : Hid (Agree (fun i => i == 3 || i == 7 || i == 9 || i == 10 || (decide (36 ≤ i) && decide (i ≤ 102))) a1 a5) := HAg.out.trans hA5 (by intro j; simp; omega)
   clear hA5 hL5 hk5
   refine wp_seq (map_exec HL1.out hx0 hy0 ok_x.2.1 htl a5 hsz2 k_0 k_9 k_10 k_6 _ (fun a6 w6 hA6 hL6 hk6 => ?_))
   have hx0 := hx0.keep hk6 hzo hzpb
   have hzo : z < w6.heap.size := Nat.lt_of_lt_of_le hzo hk6.size
   have hy0 := hy0.keep hk6 hyo hypb
   have hyo : y < w6.heap.size := Nat.lt_of_lt_of_le hyo hk6.size
   have HO := Lib.hid (rowOwn_keep HO.out hk6 (fun j hj e => (HOz.out j hj).2 e))
   have HL1 := Lib.hid hL6
   have HK1 := Lib.hid (HK1.out.trans hk6 (fun _ _ e => e))
   have k_0 := hA6.at_ k_0 rfl
   have k_2 := hA6.at_ k_2 rfl
   have k_3 := hA6.at_ k_3 rfl
   have k_6 := hA6.at_ k_6 rfl
   have k_7 := hA6.at_ k_7 rfl
   have k_9 := hA6.at_ k_9 rfl
   have k_10 := hA6.at_ k_10 rfl
   have hsz2 := hA6.size.trans hsz2
   have HAg : Hid (Agree (fun i => i == 3 || i == 7 || i == 9 || i == 10 || (decide (36 ≤ i) && decide (i ≤ 102))) a1 a6) := HAg.out.trans hA6 (by intro j; simp; omega)
   clear hA6 hL6 hk6
   obtain ⟨n2, hn2⟩ : ∃ m, m = (n + t.size / 4096) % M64 := ⟨_, rfl⟩
   have hwq : IntKind.u64.wrap ((n : Int) + IntKind.u64.wrap ((t.size : Int) / 4096)) = (n2 : Int) := by
    unfold lim at htl
    rw [hn2, IntKind.wrap_u64, IntKind.wrap_u64]
    show _ = (((n + t.size / 4096) % 18446744073709551616 : Nat) : Int)
    omega
   rw [← hn2] at HSX
   have HN2 := Lib.hid hn2
   clear hn2
   refine wp_seq (Code.wp_only (R := fun a7 w7 => Agree (fun i => i == 3 || (decide (82 ≤ i) && decide (i ≤ 86))) a6 a7 ∧ At a7 3 (.int .u64 n2) ∧ w7 = w6) ?_ ?_)
   · have y0 := hy0.c0
     clear hx0 hy0
     obtain ⟨T, d⟩ := a6
     refine wp_region_lit ?_
     iterate 6 with_reducible refine st ?_
     with_reducible refine wpList_nil ?_
     refine ⟨rfl, ag, aq, rfl⟩
   rintro a7 w7 ⟨hA7, k_3, rfl⟩
   have k_0 := hA7.at_ k_0 rfl
   have k_2 := hA7.at_ k_2 rfl
   have k_6 := hA7.at_ k_6 rfl
   have k_7 := hA7.at_ k_7 rfl
   have k_9 := hA7.at_ k_9 rfl
   have k_10 := hA7.at_ k_10 rfl
   have hsz2 := hA7.size.trans hsz2
   have HAg : Hid (Agree (fun i => i == 3 || i == 7 || i == 9 || i == 10 || (decide (36 ≤ i) && decide (i ≤ 102))) a1 a7) := HAg.out.trans hA7 (by intro j; simp; omega)
   clear hA7 hwq
   refine wp_seq (map_pages HL1.out hx0 hy0 ok_x.2.1 htl a7 hsz2 k_0 k_9 k_10 k_3 _ (fun a8 w8 hA8 hL8 hk8 => ?_))
   have hx0 := hx0.keep hk8 hzo hzpb
   have hzo : z < w8.heap.size := Nat.lt_of_lt_of_le hzo hk8.size
   have hy0 := hy0.keep hk8 hyo hypb
   have hyo : y < w8.heap.size := Nat.lt_of_lt_of_le hyo hk8.size
   have HO := Lib.hid (rowOwn_keep HO.out hk8 (fun j hj e => (HOz.out j hj).2 e))
   have HL1 := Lib.hid hL8
   have HK1 := Lib.hid (HK1.out.trans hk8 (fun _ _ e => e))
   have k_0 := hA8.at_ k_0 rfl
   have k_2 := hA8.at_ k_2 rfl
   have k_3 := hA8.at_ k_3 rfl
   have k_6 := hA8.at_ k_6 rfl
   have k_7 := hA8.at_ k_7 rfl
   have k_9 := hA8.at_ k_9 rfl
   have k_10 := hA8.at_ k_10 rfl
   have hsz2 := hA8.size.trans hsz2
   have HAg : Hid (Agree (fun i => i == 3 || i == 7 || i == 9 || i == 10 || (decide (36 ≤ i) && decide (i ≤ 102))) a1 a8) := HAg.out.trans hA8 (by intro j; simp; omega)
   clear hA8 hL8 hk8
   refine map_put HL1.out hx0 hy0 a8 hsz2 k_9 k_10 k_7 HO (by omega) (by have := HK1.out.size; have := HZ.out; omega) (by have := HZ.out; omega) _ (fun a9 w9 u9 hA9 k7 hown9 hL9 hk9 => ?_)
   refine ⟨HAg.out.trans hA9 (by intro j; simp; omega), u9, k7, ?_, ?_, hL9.congr fun p => ?_, HK1.out.trans hk9 (fun j hj e => ?_)⟩
   · rw [HR.out, List.length_append]; exact hown9
   · rw [HSX.out]; exact hA9.at_ k_3 rfl
   · rw [HSX.out]
     simp only [List.mem_append, mapSay, ← HT.out, ← HN2.out]
     try simp only [or_assoc, or_comm, or_left_comm]
   · have := (HO.out.lt j e).1; have := HZ.out; omega
 · rintro a' w' hA ⟨u, k_7, hown, k_3, hL, hk⟩
   rw [List.take_length] at hown hL k_3
   exact hQ _ _ _ ((hA0.mono (by intro j; simp; omega)).trans hA (by intro j; simp; omega)) k_7 hown (by omega) k_3 hL hk
def spTo (P : Policy) : Nat → List Wr × Nat
 | 0 => ([], 0)
 | k + 1 => match P.spaces[k]? with
  | some l => (apartW 2 (mapParts P l) ++ ((spaceW P (decide (P.subjects.length ≤ k)) (spTo P k).2 l).1 ++ (spTo P k).1), (spaceW P (decide (P.subjects.length ≤ k)) (spTo P k).2 l).2)
  | none => spTo P k
theorem spTo_lt (P : Policy) : ∀ k, (spTo P k).2 < lim
 | 0 => by simp [spTo]
 | k + 1 => by
  unfold spTo
  split
  · exact spaceW_lt P _ _ _ (spTo_lt P k)
  · exact spTo_lt P k
theorem spacesW_snoc (P : Policy) (dv : Bool) (l : List Ck.Map) : ∀ (t : List (List Ck.Map)) (n : Nat), spacesW P dv n (t ++ [l]) = ((spacesW P dv n t).1 ++ ((spaceW P dv (spacesW P dv n t).2 l).1 ++ apartW 2 (mapParts P l)), (spaceW P dv (spacesW P dv n t).2 l).2)
 | [], n => by simp [spacesW]
 | m :: t, n => by
  have ih := spacesW_snoc P dv l t (spaceW P dv n m).2
  simp only [List.cons_append, spacesW, ih, List.append_assoc]
theorem spTo_subs (P : Policy) : ∀ k, k ≤ P.subjects.length → (spTo P k).2 = (spacesW P false 0 ((P.subjects.map Subject.maps).take k)).2 ∧ ∀ p, p ∈ (spTo P k).1 ↔ p ∈ (spacesW P false 0 ((P.subjects.map Subject.maps).take k)).1
 | 0, _ => by simp [spTo, spacesW]
 | k + 1, h => by
  obtain ⟨i1, i2⟩ := spTo_subs P k (by omega)
  have hk : k < (P.subjects.map Subject.maps).length := by rw [List.length_map]; omega
  have e1 : P.spaces[k]? = some (P.subjects.map Subject.maps)[k] := by unfold Policy.spaces; rw [List.getElem?_append_left hk, List.getElem?_eq_getElem hk]
  have e2 : (P.subjects.map Subject.maps).take (k + 1) = (P.subjects.map Subject.maps).take k ++ [(P.subjects.map Subject.maps)[k]] := List.take_succ_eq_append_getElem hk
  have e3 : decide (P.subjects.length ≤ k) = false := by simp; omega
  rw [e2, spacesW_snoc]
  unfold spTo
  rw [e1, e3]
  dsimp only
  rw [i1]
  refine ⟨rfl, fun p => ?_⟩
  simp only [List.mem_append, i2]
  constructor
  · rintro (h | h | h)
    · exact .inr (.inr h)
    · exact .inr (.inl h)
    · exact .inl h
  · rintro (h | h | h)
    · exact .inr (.inr h)
    · exact .inr (.inl h)
    · exact .inl h
theorem spTo_devs (P : Policy) : ∀ k, k ≤ P.devices.length → (spTo P (P.subjects.length + k)).2 = (spacesW P true (spacesW P false 0 (P.subjects.map Subject.maps)).2 ((P.devices.map Device.maps).take k)).2 ∧ ∀ p, p ∈ (spTo P (P.subjects.length + k)).1 ↔ p ∈ (spacesW P false 0 (P.subjects.map Subject.maps)).1 ++ (spacesW P true (spacesW P false 0 (P.subjects.map Subject.maps)).2 ((P.devices.map Device.maps).take k)).1
 | 0, _ => by
  obtain ⟨i1, i2⟩ := spTo_subs P P.subjects.length (Nat.le_refl _)
  rw [List.take_of_length_le (by rw [List.length_map]; exact Nat.le_refl _)] at i1 i2
  refine ⟨by simpa [spacesW] using i1, fun p => ?_⟩
  simpa [spacesW] using i2 p
 | k + 1, h => by
  obtain ⟨i1, i2⟩ := spTo_devs P k (by omega)
  have hk : k < (P.devices.map Device.maps).length := by rw [List.length_map]; omega
  have e1 : P.spaces[P.subjects.length + k]? = some (P.devices.map Device.maps)[k] := by
   unfold Policy.spaces
   rw [List.getElem?_append_right (by simp), List.length_map, Nat.add_sub_cancel_left, List.getElem?_eq_getElem hk]
  have e2 : (P.devices.map Device.maps).take (k + 1) = (P.devices.map Device.maps).take k ++ [(P.devices.map Device.maps)[k]] := List.take_succ_eq_append_getElem hk
  have e3 : decide (P.subjects.length ≤ P.subjects.length + k) = true := by simp
  rw [e2, spacesW_snoc, ← Nat.add_assoc]
  unfold spTo
  rw [e1, e3]
  dsimp only
  rw [i1]
  refine ⟨rfl, fun p => ?_⟩
  have := i2 p
  simp only [List.mem_append] at this ⊢
  rw [this]
  constructor
  · rintro (h | h | h | h)
    · exact .inr (.inr (.inr h))
    · exact .inr (.inr (.inl h))
    · exact .inl h
    · exact .inr (.inl h)
  · rintro (h | h | h | h)
    · exact .inr (.inr (.inl h))
    · exact .inr (.inr (.inr h))
    · exact .inr (.inl h)
    · exact .inl h
theorem spTo_all (P : Policy) (p : Wr) : p ∈ (spTo P P.spaces.length).1 ↔ p ∈ mapsW P := by
 have h := (spTo_devs P P.devices.length (Nat.le_refl _)).2 p
 rw [List.take_of_length_le (by rw [List.length_map]; exact Nat.le_refl _)] at h
 have e : P.spaces.length = P.subjects.length + P.devices.length := by simp [Policy.spaces]
 rw [e, h]
 rfl
theorem maps_loop {B : Nat} {w : World} {pb : Nat} {v : PolV} {P : Policy} (h : LookAt B w pb v P why5 []) {mb : Nat} (hm : ThingMap w mb P) (hmb : mb < w.heap.size) (hmp : mb ≠ pb) (a : Act) (hsz : a.tmps.size = 108) (h0 : At a 0 (.pointer (some ⟨pb, 0, none⟩))) (h2 : At a 2 (.map (some mb))) (h3 : At a 3 (.int .u64 (0 : Nat))) (Q : Exit → Act → World → Prop)
 (hQ : ∀ a' w', Agree (fun i => i == 3 || i == 4 || i == 5 || i == 6 || i == 7 || i == 9 || i == 10 || (decide (16 ≤ i) && decide (i ≤ 107))) a a' → LookAt B w' pb v P why5 (mapsW P) → Keep (fun k => k = pb) w w' → Q .normal a' w') :
 (codeC Tryz.f53 [1,1]).wp Tryz.prog Q a w := by
 have hlt := h.lt
 have hBp := h.base
 have hth := fun s => thing_lt h.pol s
 have HSP := Lib.hid (spaces_any h)
 have HH := Lib.hid h
 have HM := Lib.hid hm
 have HTH := Lib.hid hth
 clear h hm hth
 conv => arg 2; whnf
 refine wp_seq (Code.wp_only (R := fun a1 w1 => Agree (fun i => (decide (16 ≤ i) && decide (i ≤ 19))) a a1 ∧ ∃ A c vals, At a1 17 (.slice A P.spaces.length c) ∧ At a1 18 (.int .i64 P.spaces.length) ∧ At a1 19 (.int .i64 0) ∧ w1.ownsRow w.heap.size 43 1 (.slice A P.spaces.length c) P.spaces.length vals ∧ SpV B w vals P.spaces ∧ Keep (fun _ => False) w w1) ?_ ?_)
 · obtain ⟨T, d⟩ := a
   refine wp_region_lit ?_
   with_reducible refine st ?_
   with_reducible refine wpList_step (fun K hK => ?_)
   go_simp
   refine HSP.out.mono ?_
   rintro e w1 ⟨u, vals, rfl, hown, hsv, hbel⟩
   have HV := Lib.hid hsv
   rw [hsv.1] at hown
   have HO := Lib.hid hown
   have HKK := Lib.hid (below_keepF hbel rfl)
   obtain ⟨A, c, rfl⟩ : ∃ A c, u = .slice A P.spaces.length c := by
    rcases hown.2 with ⟨e1, e2⟩ | ⟨g, cap, cur, e1, _⟩
    · exact ⟨_, _, by rw [e1, e2]⟩
    · exact ⟨_, _, e1⟩
   clear hown hsv hbel
   with_reducible refine hK _ _ ?_
   clear hK K
   iterate 2 with_reducible refine st ?_
   with_reducible refine wpList_nil ?_
   refine ⟨rfl, ag, A, c, vals, aq, aq, aq, HO.out, HV.out, HKK.out⟩
 rintro a0 w0 ⟨hA0, A, c, vals, k_s, k_n, k_i, hown, hsv, hk0⟩
 have hsz0 := hA0.size.trans hsz
 replace h0 := hA0.at_ h0 rfl
 replace h2 := hA0.at_ h2 rfl
 replace h3 := hA0.at_ h3 rfl
 have HL0 := Lib.hid (HH.out.new hk0)
 have HOW := Lib.hid hown
 have HSV := Lib.hid hsv
 have hsz00 := hk0.size
 have HK00 := Lib.hid hk0
 have hspl : P.spaces.length ≤ 4194304 := by
  obtain ⟨_, _, _, _, hn1, _⟩ := HH.out.pol.subjects
  obtain ⟨_, _, _, _, hn2, _⟩ := HH.out.pol.devices
  unfold top at hn1 hn2
  simp only [Policy.spaces, List.length_append, List.length_map]
  omega
 clear hown hsv hk0
 refine wp_range P.spaces.length (fun i => i == 3 || i == 4 || i == 5 || i == 6 || i == 7 || i == 9 || i == 10 || (decide (19 ≤ i) && decide (i ≤ 107))) (fun i => i == 3 || i == 4 || i == 5 || i == 6 || i == 7 || i == 9 || i == 10 || (decide (21 ≤ i) && decide (i ≤ 106))) (fun k a' w' => At a' 3 (.int .u64 (spTo P k).2) ∧ LookAt B w' pb v P why5 (spTo P k).1 ∧ Keep (fun k => k = pb) w0 w') (by omega) k_i k_n (by decide) rfl
  (by intro j; simp; omega) (by omega) (by decide) (fun k a1 a2 w hA ⟨h1, h2⟩ => ⟨hA.at_ h1 rfl, h2⟩) ⟨by simpa [spTo] using h3, by simpa [spTo] using HL0.out, Keep.refl _ _⟩ ?_ ?_
 · rintro k a1 wr hlt3 hA k_j ⟨k_3, hL, hk⟩
   have k_0 := hA.at_ h0 rfl
   have k_2 := hA.at_ h2 rfl
   have k_sl := hA.at_ k_s rfl
   have hsz1 := hA.size.trans hsz0
   have hszw := hk.size
   obtain ⟨g, cap, hv, hB, hglt⟩ := HOW.out.form (by omega)
   cases hv
   have hcap : P.spaces.length ≤ c := by
    rcases HOW.out.2 with ⟨e1, _⟩ | ⟨g1, cap1, cur, e1, _, _, hc1, _⟩
    · cases e1
    · cases e1; exact hc1
   obtain ⟨ls, hls⟩ : ∃ x, P.spaces[k]? = some x := ⟨_, List.getElem?_eq_getElem hlt3⟩
   obtain ⟨uv, huv⟩ : ∃ x, vals[k]? = some x := ⟨_, List.getElem?_eq_getElem (by rw [HSV.out.1]; exact hlt3)⟩
   have hsl := (HSV.out.2 k uv ls huv hls).below (flat_stays _ _ _) (((HK00.out.mono fun _ _ h => h.elim : Keep (fun k => k = pb) w w0).trans hk (fun _ _ e => e)).below (B := B) (by omega) (fun _ hi e => by omega))
   have q0 : wr.cell? ⟨g, k, none⟩ = some uv := (hk.cell (p := ⟨g, k, none⟩) hglt (by show g ≠ pb; omega)).trans ((HOW.out.cellAt k (by omega)).trans huv)
   have hmok := map_ok hsl
   obtain ⟨A5, c5, rfl, hr5⟩ := hsl
   have hsl : SliceAt B 5 MapAt wr (.slice A5 ls.length c5) ls := ⟨A5, c5, rfl, hr5⟩
   have hSX : spTo P (k + 1) = (apartW 2 (mapParts P ls) ++ ((spaceW P (decide (P.subjects.length ≤ k)) (spTo P k).2 ls).1 ++ (spTo P k).1), (spaceW P (decide (P.subjects.length ≤ k)) (spTo P k).2 ls).2) := by
    show (match P.spaces[k]? with | some l => _ | none => _) = _
    rw [hls]
   have hnl := spTo_lt P k
   obtain ⟨⟨S, n⟩, hsn⟩ : ∃ q, q = spTo P k := ⟨_, rfl⟩
   rw [← hsn] at k_3 hL hSX hnl
   clear hsn
   dsimp only at k_3 hL hSX hnl
   obtain ⟨dv, hdv⟩ : ∃ b, b = decide (P.subjects.length ≤ k) := ⟨_, rfl⟩
   rw [← hdv] at hSX
   have HSX := Lib.hid hSX
   have HSL := Lib.hid hsl
   have HMOK := Lib.hid hmok
   have HL := Lib.hid hL
   have HK := Lib.hid hk
   have HA := Lib.hid hA
   have hdv2 : decide ((P.subjects.length : Int) ≤ (k : Int)) = dv := by rw [hdv]; exact decide_eq_decide.2 (by omega)
   have hdv3 : decide (P.subjects.length ≤ k) = dv := hdv.symm
   obtain ⟨As, cs, hus, _, _, _⟩ := hL.pol.subjects
   have q5 : wr.cell? ⟨pb, 5, none⟩ = some v.subjects := hL.cell rfl
   rw [hus] at q5
   have hltr : pb < wr.heap.size := hL.lt
   clear hSX hsl hr5 hmok hL hk hA hdv hus hls huv
   refine wp_seq (Code.wp_only (R := fun a2 w2 => Agree (fun i => i == 4 || i == 5 || (decide (21 ≤ i) && decide (i ≤ 23))) a1 a2 ∧ At a2 4 (.int .i64 k) ∧ At a2 5 (.slice A5 ls.length c5) ∧ w2 = wr) ?_ ?_)
   · obtain ⟨T, d⟩ := a1
     refine wp_region_lit ?_
     iterate 5 with_reducible refine st ?_
     with_reducible refine wpList_nil ?_
     refine ⟨rfl, ag, aq, aq, rfl⟩
   rintro a2 w2 ⟨hA2, k_4, k_5, rfl⟩
   have hsz2 := hA2.size.trans hsz1
   have k_0 := hA2.at_ k_0 rfl
   have k_2 := hA2.at_ k_2 rfl
   have k_3 := hA2.at_ k_3 rfl
   have HAg : Hid (Agree (fun i => i == 3 || i == 4 || i == 5 || i == 6 || i == 7 || i == 9 || i == 10 || (decide (21 ≤ i) && decide (i ≤ 106))) a1 a2) := hA2.mono (by intro j; simp; omega)
   clear hA2 k_sl k_j q0
   refine wp_seq (Code.wp_only (R := fun a3 w3 => Agree (fun i => i == 6 || (decide (24 ≤ i) && decide (i ≤ 31))) a2 a3 ∧ At a3 6 (.bool dv) ∧ w3 = w2) ?_ ?_)
   · obtain ⟨T, d⟩ := a2
     refine wp_region_lit ?_
     iterate 9 with_reducible refine st ?_
     with_reducible refine wpList_nil ?_
     refine ⟨rfl, ?_, ?_, rfl⟩
     · exact ag
     · first | done | (repeat (first | with_reducible exact At.self | with_reducible apply At.ne))
       all_goals first | decide | (rw [← hdv3]; exact At.self)
   rintro a3 w3 ⟨hA3, k_6, rfl⟩
   refine wp_seq (Code.wp_only (R := fun a4 w4 => Agree (fun i => i == 7) a3 a4 ∧ At a4 7 (.slice none 0 0) ∧ w4 = w3) ?_ ?_)
   · obtain ⟨T, d⟩ := a3
     refine wp_region_lit ?_
     with_reducible refine st ?_
     with_reducible refine wpList_nil ?_
     refine ⟨rfl, ag, aq, rfl⟩
   rintro a4 w4 ⟨hA4, k_7, rfl⟩
   have hsz4 := hA4.size.trans (hA3.size.trans hsz2)
   obtain ⟨nm, hsm⟩ := HM.out
   have hm4 : ThingMap w4 mb P := ⟨nm, hsm.keep ((HK00.out.mono fun _ _ h => h.elim : Keep (fun k => k = pb) w w0).trans HK.out (fun _ _ e => e)) hmp⟩
   have hm4l : mb < w4.heap.size := by omega
   have hm4l : mb < w4.heap.size := by omega
   refine wp_seq (maps_space HL.out hm4 hm4l hmp HTH.out HSL.out hnl a4 hsz4 (hA4.at_ (hA3.at_ k_0 rfl) rfl) (hA4.at_ (hA3.at_ k_2 rfl) rfl) (hA4.at_ (hA3.at_ k_3 rfl) rfl) (hA4.at_ (hA3.at_ k_5 rfl) rfl) (hA4.at_ k_6 rfl) k_7 _ (fun a5 w5 u5 hA5 k7 hown5 hll5 k3 hL5 hk5 => ?_))
   have hsz5 := hA5.size.trans hsz4
   have l_0 := hA5.at_ (hA4.at_ (hA3.at_ k_0 rfl) rfl) rfl
   have hpt : PartsAt w5 pb u5 (mapParts P ls) := parts_of_own hown5 (fun q hq => by
    obtain ⟨x, hx, rfl⟩ := List.mem_map.1 hq
    have ok := HMOK.out x hx
    exact ⟨ok.2.1, HTH.out _, ok.1⟩) (by simp [mapParts]; omega) (by omega)
   have HC := Lib.hid (apart_any hL5 hpt 2 rfl)
   have HAg5 : Hid (Agree (fun i => i == 3 || i == 4 || i == 5 || i == 6 || i == 7 || i == 9 || i == 10 || (decide (21 ≤ i) && decide (i ≤ 106))) a1 a5) := ((HAg.out.trans hA3 (by intro j; simp; omega)).trans hA4 (by intro j; simp; omega)).trans hA5 (by intro j; simp; omega)
   have HK5 := Lib.hid (HK.out.trans hk5 (fun _ _ e => e))
   clear hpt hown5 hL5 hk5 hA5 hA4 hA3 hm4 HSL
   refine Code.wp_only (R := fun a9 w9 => Agree (fun i => (decide (104 ≤ i) && decide (i ≤ 106))) a5 a9 ∧ LookAt B w9 pb v P why5 (apartW 2 (mapParts P ls) ++ ((spaceW P dv n ls).1 ++ S)) ∧ Keep (fun k => k = pb) w5 w9) ?_ ?_
   · obtain ⟨T, d⟩ := a5
     refine wp_region_lit ?_
     iterate 2 with_reducible refine st ?_
     with_reducible refine wpList_step (fun K hK => ?_)
     go_simp
     refine HC.out.mono ?_
     rintro e w9 ⟨rfl, hL9, hk9⟩
     with_reducible refine hK _ _ (wpList_nil ?_)
     refine ⟨rfl, ?_, hL9, hk9⟩
     exact ag
   rintro a9 w9 ⟨hA9, hL9, hk9⟩
   refine ⟨HAg5.out.trans hA9 (by intro j; simp; omega), ?_, ?_, HK5.out.trans hk9 (fun _ _ e => e)⟩
   · rw [HSX.out]; exact hA9.at_ k3 rfl
   · rw [HSX.out]; exact hL9
 · rintro a' w' hA ⟨k_3, hL, hk⟩
   exact hQ _ _ ((hA0.mono (by intro j; simp; omega)).trans hA (by intro j; simp; omega)) (hL.congr fun p => spTo_all P p) ((HK00.out.mono fun _ _ h => h.elim : Keep (fun k => k = pb) w w0).trans hk (fun _ _ e => e))
theorem maps_any (hT : ThingsSpec) {B : Nat} {w : World} {pb : Nat} {v : PolV} {P : Policy} (h : LookAt B w pb v P why5 []) :
 Calls Tryz.prog 53 #[.pointer (some ⟨pb, 0, none⟩)] w fun e w' => e = .returned (.tuple #[]) ∧ LookAt B w' pb v P why5 (mapsW P) ∧ Keep (fun k => k = pb) w w' := by
 have hlt := h.lt
 have hBp := h.base
 have HC := Lib.hid (hT h.pol (by omega))
 have HH := Lib.hid h
 have q0 := h.cell (j := 0) rfl
 have q1 := h.cell (j := 1) rfl
 have q2 := h.cell (j := 2) rfl
 have q3 := h.cell (j := 3) rfl
 have q4 := h.cell (j := 4) rfl
 have q5 := h.cell (j := 5) rfl
 have q6 := h.cell (j := 6) rfl
 have q7 := h.cell (j := 7) rfl
 have q8 := h.cell (j := 8) rfl
 have q9 := h.cell (j := 9) rfl
 have q10 := h.cell (j := 10) rfl
 have q11 := h.cell (j := 11) rfl
 have q12 := h.cell (j := 12) rfl
 have q13 := h.cell (j := 13) rfl
 clear h
 refine calls_abs Tryz.func53 Tryz.ntmps53 rfl (by simp) fun a hsz hdf hargs => ?_
 have h0 : At a 0 (.pointer (some ⟨pb, 0, none⟩)) := hargs 0 _ rfl
 clear hargs
 conv => arg 2; whnf
 refine wp_seq (Code.wp_only (R := fun a1 w1 => Agree (fun i => i == 2 || (decide (11 ≤ i) && decide (i ≤ 15))) a a1 ∧ ∃ mb, At a1 2 (.map (some mb)) ∧ w.heap.size ≤ mb ∧ mb < w1.heap.size ∧ ThingMap w1 mb P ∧ Keep (fun _ => False) w w1) ?_ ?_)
 · obtain ⟨T, d⟩ := a
   refine wp_region_lit ?_
   iterate 4 with_reducible refine st ?_
   with_reducible refine wpList_step (fun K hK => ?_)
   go_simp
   refine HC.out.mono ?_
   rintro e w1 ⟨mb, rfl, h1, h2, h3, h4⟩
   have H3 := Lib.hid h3
   have H4 := Lib.hid h4
   clear h3 h4
   with_reducible refine hK _ _ ?_
   clear hK K
   with_reducible refine st ?_
   with_reducible refine wpList_nil ?_
   refine ⟨rfl, ag, mb, aq, h1, h2, H3.out, H4.out⟩
 rintro a1 w1 ⟨hA1, mb, k2, hmb1, hmb2, hm, hk1⟩
 have hsz1 := hA1.size.trans hsz
 have hdf1 := hA1.defers.trans hdf
 clear q0 q1 q2 q3 q4 q5 q6 q7 q8 q9 q10 q11 q12 q13
 refine wp_seq (Code.wp_only (R := fun a2 w2 => Agree (fun i => i == 3) a1 a2 ∧ At a2 3 (.int .u64 0) ∧ w2 = w1) ?_ ?_)
 · obtain ⟨T, d⟩ := a1
   refine wp_region_lit ?_
   with_reducible refine st ?_
   with_reducible refine wpList_nil ?_
   refine ⟨rfl, ag, aq, rfl⟩
 rintro a2 w2 ⟨hA2, k3, rfl⟩
 refine maps_loop (HH.out.new hk1) hm hmb2 (by omega) a2 (hA2.size.trans hsz1) (hA2.at_ (hA1.at_ h0 rfl) rfl) (hA2.at_ k2 rfl) k3 _ (fun a3 w3 hA3 hL3 hk3 => ?_)
 exact post_none rfl (hA3.defers.trans (hA2.defers.trans hdf1)) ⟨rfl, hL3, (hk1.mono fun _ _ h => h.elim : Keep (fun k => k = pb) w w2).trans hk3 (fun _ _ e => e)⟩
end Go.Proofs.YtpblcjipmoblnaaGreatDoor
