/- Theirs2 Theirs3 WhoB Who -/
import Derived.Test.YtpblcjipmoblnaaGreatDoorTheirs
import Derived.Test.YtpblcjipmoblnaaGreatDoorFor2
set_option maxRecDepth 100000
set_option maxHeartbeats 4000000
set_option linter.unusedVariables false
set_option linter.unusedSimpArgs false
namespace Go.Proofs.YtpblcjipmoblnaaGreatDoor
open Go.RowKit Go.IntWalk Ck
theorem over_any (m : Ck.Map) (c : Ck.Channel) (zc : Nat) (w : World) (hz : zc < w.heap.size) (q : w.cell? ⟨zc, 5, none⟩ = some (.string c.over)) :
 Calls Tryz.prog 128 #[.agg #[.int .i64 m.pos, .string m.of, .int .u64 m.at_, .bool m.write, .bool m.exec], .pointer (some ⟨zc, 0, none⟩)] w fun e w' => e = .returned (.bool (decide (m.of = c.over))) ∧ Keep (fun _ => False) w w' := by
 have tt1 : (m.of.toList == c.over.toList) = decide (m.of = c.over) := bytes_beq _ _
 go_enter Tryz.func128, Tryz.ntmps128
 go_wp2
 go_ret
 exact ⟨rfl, (Keep.refl _ _).alloc _⟩
theorem index_over {B : Nat} {w : World} {A : Option Addr} {cc : Nat} {l : List Ck.Map} (hs : SliceAt B 5 MapAt w (.slice A l.length cc) l) (hB : B ≤ w.heap.size) (c : Ck.Channel) (zc : Nat) (hz : zc < w.heap.size) (q : w.cell? ⟨zc, 5, none⟩ = some (.string c.over)) :
 Calls Tryz.prog 147 #[.slice A l.length cc, .func (.func 128) #[] #[.pointer (some ⟨zc, 0, none⟩)]] w fun e w' => (∃ i : Int, e = .returned (.int .i64 i) ∧ (0 ≤ i ↔ ∃ m ∈ l, m.of = c.over)) ∧ Keep (fun _ => False) w w' := by
 obtain ⟨_, _, e, hnc, hn0, hl⟩ := hs
 cases e
 unfold top at hn0
 refine calls_abs Tryz.func147 Tryz.ntmps147 rfl (by simp) fun a hsz hdf hargs => ?_
 have h0 : At a 0 (.slice A l.length cc) := hargs 0 _ rfl
 have h1 : At a 1 (.func (.func 128) #[] #[.pointer (some ⟨zc, 0, none⟩)]) := hargs 1 _ rfl
 clear hargs
 conv => arg 2; whnf
 refine wp_seq (Code.wp_only (R := fun a1 w1 => Agree (fun i => i == 4) a a1 ∧ w1 = w) ?_ ?_)
 · clear hl
   obtain ⟨T, d⟩ := a
   refine wp_region_lit ?_
   with_reducible refine st ?_
   with_reducible refine wpList_nil ?_
   refine ⟨rfl, ag, rfl⟩
 rintro a1 w1 ⟨hA, rfl⟩
 replace h0 := hA.at_ h0 rfl
 replace h1 := hA.at_ h1 rfl
 replace hsz := hA.size.trans hsz
 replace hdf := hA.defers.trans hdf
 clear hA
 refine wp_seq (wp_seq (Code.wp_only (R := fun a2 w2 => Agree (fun i => i == 6 || i == 7 || i == 8) a1 a2 ∧ At a2 7 (.int .i64 l.length) ∧ At a2 8 (.int .i64 0) ∧ w2 = w1) ?_ ?_))
 · clear hl
   obtain ⟨T, d⟩ := a1
   refine wp_region_lit ?_
   iterate 3 with_reducible refine st ?_
   with_reducible refine wpList_nil ?_
   refine ⟨rfl, ag, aq, aq, rfl⟩
 rintro a2 w2 ⟨hA2, k_n, k_i, rfl⟩
 replace h0 := hA2.at_ h0 rfl
 replace h1 := hA2.at_ h1 rfl
 replace hsz := hA2.size.trans hsz
 replace hdf := hA2.defers.trans hdf
 clear hA2
 refine wp_range l.length (fun i => i == 4 || i == 5 || (decide (8 ≤ i) && decide (i ≤ 18))) (fun i => i == 4 || i == 5 || (decide (10 ≤ i) && decide (i ≤ 17))) (fun k _ w' => (∀ m ∈ l.take k, m.of ≠ c.over) ∧ Keep (fun _ => False) w2 w') (by omega) k_i k_n (by decide) rfl
  (by intro j; simp; omega) (by omega) (by decide) (fun k a1 a2 w hA hI => hI) ⟨by simp, Keep.refl _ _⟩ ?_ ?_
 · rintro k a3 wr hlt hA k_j ⟨hno, hk⟩
   obtain ⟨bl, off, rfl, hbl, hcs⟩ := hl (by omega)
   obtain ⟨m, hx⟩ : ∃ x, l[k]? = some x := ⟨_, List.getElem?_eq_getElem hlt⟩
   obtain ⟨hc, ok_m⟩ := (flat_stays B _ _) _ _ _ _ _ (hk.below (B := B) (by omega) (fun _ hi e => e)) hbl (hcs k m hx)
   have q0 := hc.c0
   have q1 := hc 1 _ rfl
   have q2 := hc 2 _ rfl
   have q3 := hc 3 _ rfl
   have q4 := hc 4 _ rfl
   have k_0 := hA.at_ h0 rfl
   have k_1 := hA.at_ h1 rfl
   have hsz3 := hA.size.trans hsz
   have hdf3 := hA.defers.trans hdf
   have hszw := hk.size
   have hblr : bl < wr.heap.size := by omega
   have hnc2 : k ≤ cc := by omega
   have hcall := Lib.hid (over_any m c zc wr (by omega) ((hk.cell (p := ⟨zc, 5, none⟩) hz (fun h => h)).trans q))
   have HX := Lib.hid hx
   have HNO := Lib.hid hno
   have HK := Lib.hid hk
   have HA := Lib.hid hA
   clear hx hno hk hA hc hcs hl
   refine wp_seq (Code.wp_only (R := fun a4 w4 => Agree (fun i => i == 10 || i == 5) a3 a4 ∧ At a4 5 (.int .i64 k) ∧ w4 = wr) ?_ ?_)
   · obtain ⟨T, d⟩ := a3
     refine wp_region_lit ?_
     iterate 2 with_reducible refine st ?_
     with_reducible refine wpList_nil ?_
     refine ⟨rfl, ag, aq, rfl⟩
   rintro a4 w4 ⟨hA4, k_5, rfl⟩
   have j_0 := hA4.at_ k_0 rfl
   have j_1 := hA4.at_ k_1 rfl
   have hsz4 := hA4.size.trans hsz3
   have hdf4 := hA4.defers.trans hdf3
   refine wp_seq (Code.wp_only (R := fun a5 w5 => Agree (fun i => (decide (11 ≤ i) && decide (i ≤ 16))) a4 a5 ∧ At a5 16 (.bool (decide (m.of = c.over))) ∧ Keep (fun _ => False) w4 w5) ?_ ?_)
   · clear k_0 k_1 k_j hA4
     obtain ⟨T, d⟩ := a4
     refine wp_region_lit ?_
     iterate 5 with_reducible refine st ?_
     with_reducible refine wpList_step (fun K hK => ?_)
     go_simp
     refine hcall.out.mono ?_
     rintro e w5 ⟨rfl, hk5⟩
     with_reducible refine hK _ _ (wpList_nil ?_)
     refine ⟨rfl, ag, aq, hk5⟩
   rintro a5 w5 ⟨hA5, k_16, hk5⟩
   have hsz5 := hA5.size.trans hsz4
   have e16 := k_16.eval (by omega)
   have i_5 := hA5.at_ k_5 rfl
   by_cases hov : m.of = c.over
   · rw [decide_eq_true hov] at e16
     refine wp_cond_true e16 ?_
     refine wp_seq (Code.wp_only (R := fun a6 w6 => At a6 4 (.int .i64 k) ∧ a6.tmps.size = 19 ∧ a6.defers = [] ∧ w6 = w5) ?_ ?_)
     · have hdf5 := hA5.defers.trans hdf4
       clear hA5
       obtain ⟨T, d⟩ := a5
       refine wp_region_lit ?_
       iterate 2 with_reducible refine st ?_
       with_reducible refine wpList_nil ?_
       refine ⟨rfl, ?_, by simpa using hsz5, hdf5, rfl⟩
       exact aq
     rintro a6 w6 ⟨h4, hs6, hd6, rfl⟩
     refine wp_ret ?_
     repeat (first | with_reducible apply inbody_ret | with_reducible apply then_ret)
     refine post_tmp (t := 4) rfl h4 (by rw [hs6]; decide) hd6 ⟨⟨_, rfl, ⟨fun _ => ⟨m, List.mem_of_getElem? HX.out, hov⟩, fun _ => by omega⟩⟩, HK.out.trans hk5 (fun _ _ e => e)⟩
   · rw [decide_eq_false hov] at e16
     refine wp_cond_false e16 (wp_skip ?_)
     refine ⟨(hA4.mono (by intro j; simp; omega)).trans hA5 (by intro j; simp; omega), fun x hx => ?_, HK.out.trans hk5 (fun _ _ e => e)⟩
     rw [take_at HX.out] at hx
     rcases List.mem_append.1 hx with hx | hx
     · exact HNO.out x hx
     · have e : x = m := by simpa using hx
       subst e; exact hov
 · rintro a3 w3 hA ⟨hno, hk⟩
   rw [List.take_length] at hno
   have hsz3 := hA.size.trans hsz
   have hdf3 := hA.defers.trans hdf
   clear hA h0 h1 k_i k_n hl
   show Code.wp _ _ _ _ _
   refine wp_seq (Code.wp_only (R := fun a6 w6 => At a6 4 (.int .i64 (-1)) ∧ a6.tmps.size = 19 ∧ a6.defers = [] ∧ w6 = w3) ?_ ?_)
   · obtain ⟨T, d⟩ := a3
     refine wp_region_lit ?_
     with_reducible refine st ?_
     with_reducible refine wpList_nil ?_
     refine ⟨rfl, ?_, by simpa using hsz3, hdf3, rfl⟩
     exact aq
   rintro a6 w6 ⟨h4, hs6, hd6, rfl⟩
   refine wp_ret (post_tmp (t := 4) rfl h4 (by rw [hs6]; decide) hd6 ⟨⟨_, rfl, ⟨fun h => by omega, fun ⟨m, h1, h2⟩ => absurd h2 (hno m h1)⟩⟩, hk⟩)
theorem contains_over {B : Nat} {w : World} {A : Option Addr} {cc : Nat} {l : List Ck.Map} (hs : SliceAt B 5 MapAt w (.slice A l.length cc) l) (hB : B ≤ w.heap.size) (c : Ck.Channel) (zc : Nat) (hz : zc < w.heap.size) (q : w.cell? ⟨zc, 5, none⟩ = some (.string c.over)) :
 Calls Tryz.prog 127 #[.slice A l.length cc, .func (.func 128) #[] #[.pointer (some ⟨zc, 0, none⟩)]] w fun e w' => e = .returned (.bool (l.any fun m => decide (m.of = c.over))) ∧ Keep (fun _ => False) w w' := by
 go_enter Tryz.func127, Tryz.ntmps127
 go_wp2_with fail
 refine (index_over hs hB c zc hz q).mono ?_
 rintro e w' ⟨⟨i, rfl, hi⟩, hk⟩
 have HI := Lib.hid hi
 have HK := Lib.hid hk
 clear hi hk
 go_wp2
 go_ret
 refine ⟨?_, HK.out⟩
 have e1 : decide (0 ≤ i) = l.any fun m => decide (m.of = c.over) := by
  rw [Bool.eq_iff_iff, decide_eq_true_eq, HI.out, List.any_eq_true]
  simp
 simp [← e1]
theorem theirs_eq {P : Policy} {c : Ck.Channel} : theirs P c = ((P.subjects.all fun x => x.maps.all fun m => okMap c x.name m) && (P.devices.all fun x => !x.maps.any fun m => decide (m.of = c.over)) && (P.subjects.any fun x => decide (x.name = c.from_) && x.maps.any fun m => decide (m.of = c.over)) && (P.subjects.any fun x => decide (x.name = c.to) && x.maps.any fun m => decide (m.of = c.over))) := by
 have e : (fun x : Ck.Device => x.maps.all fun m => !decide (m.of = c.over)) = fun x => !x.maps.any fun m => decide (m.of = c.over) := by
  funext x
  rw [List.not_any_eq_all_not]
 unfold theirs
 rw [e]
 rfl
def hitOf (l : List Subject) (c : Ck.Channel) (s : ByteArray) : Prop := ∃ x ∈ l, x.name = s ∧ ∃ m ∈ x.maps, m.of = c.over
theorem hit_any {l : List Subject} {c : Ck.Channel} {s : ByteArray} : hitOf l c s ↔ (l.any fun x => decide (x.name = s) && x.maps.any fun m => decide (m.of = c.over)) = true := by
 simp [hitOf, List.any_eq_true]
theorem theirs_any {B : Nat} {w : World} {pb : Nat} {v : PolV} {P : Policy} {W : Int → Int} {L : List Wr} (h : LookAt B w pb v P W L) {c : Ck.Channel} (hok : c.Ok) :
 Calls Tryz.prog 103 #[.pointer (some ⟨pb, 0, none⟩), .agg #[.int .i64 c.pos, .string c.name, .string c.from_, .string c.to, .bool c.shared, .string c.over, .int .i64 c.how, .int .u64 c.vector]] w fun e w' => e = .returned (.bool (theirs P c)) ∧ Keep (fun _ => False) w w' := by
 have hlt := h.lt
 have hBp := h.base
 have hmm := @run_makeMap Tryz.prog
 refine calls_abs Tryz.func103 Tryz.ntmps103 rfl (by simp) fun a hsz hdf hargs => ?_
 have h0 : At a 0 (.pointer (some ⟨pb, 0, none⟩)) := hargs 0 _ rfl
 have h1 : At a 1 (.agg #[.int .i64 c.pos, .string c.name, .string c.from_, .string c.to, .bool c.shared, .string c.over, .int .i64 c.how, .int .u64 c.vector]) := hargs 1 _ rfl
 clear hargs
 conv => arg 2; whnf
 refine wp_seq (Code.wp_only (R := fun a1 w1 => Agree (fun i => i == 3 || i == 4) a a1 ∧ At a1 3 (.pointer (some ⟨w.heap.size, 0, none⟩)) ∧ w1 = w.alloc (.cells #[.int .i64 c.pos, .string c.name, .string c.from_, .string c.to, .bool c.shared, .string c.over, .int .i64 c.how, .int .u64 c.vector] 55)) ?_ ?_)
 · clear hok
   obtain ⟨T, d⟩ := a
   refine wp_region_lit ?_
   iterate 2 with_reducible refine st ?_
   with_reducible refine wpList_nil ?_
   refine ⟨rfl, ag, aq, rfl⟩
 rintro a1 w1 ⟨hA1, h3, hw1⟩
 have hk1 : Keep (fun _ => False) w w1 := by rw [hw1]; exact (Keep.refl _ _).alloc _
 obtain ⟨zc, hzc⟩ : ∃ z, z = w.heap.size := ⟨_, rfl⟩
 rw [← hzc] at h3
 have hc1 : CellsAt w1 zc 0 [.int .i64 c.pos, .string c.name, .string c.from_, .string c.to, .bool c.shared, .string c.over, .int .i64 c.how, .int .u64 c.vector] := by rw [hw1, hzc]; exact cells_new _ _ _
 have hz1 : zc < w1.heap.size := by rw [hw1, hzc]; simp
 replace h0 := hA1.at_ h0 rfl
 replace hsz := hA1.size.trans hsz
 replace hdf := hA1.defers.trans hdf
 clear hA1 hw1 h1
 refine wp_seq (Code.wp_only (R := fun a2 w2 => Agree (fun i => i == 12 || i == 5) a1 a2 ∧ At a2 5 (.map (some w1.heap.size)) ∧ w2 = w1.alloc (.map #[] 0)) ?_ ?_)
 · clear hok hc1
   obtain ⟨T, d⟩ := a1
   refine wp_region_lit ?_
   iterate 2 with_reducible refine st ?_
   with_reducible refine wpList_nil ?_
   refine ⟨rfl, ag, aq, rfl⟩
 rintro a2 w2 ⟨hA2, h5, hw2⟩
 have hk2 : Keep (fun _ => False) w1 w2 := by rw [hw2]; exact (Keep.refl _ _).alloc _
 obtain ⟨M, hM⟩ : ∃ z, z = w1.heap.size := ⟨_, rfl⟩
 rw [← hM] at h5
 have hE0 : SMap w2 M 0 (.int .i64 0) (fun _ => .int .i64 0) (fun _ => false) := SMap.new _ _ _ (by rw [hw2, hM]; exact heap_alloc_new _ _)
 have hMz : M ≠ zc := by omega
 have hMw : w.heap.size ≤ M := by have := hk1.size; omega
 have hM2 : M < w2.heap.size := hE0.lt
 have hkw : Keep (fun _ => False) w w2 := hk1.trans hk2 (fun _ _ h => h)
 have HC : Hid (∀ w0, Keep (fun k => k = M) w2 w0 → CellsAt w0 zc 0 [.int .i64 c.pos, .string c.name, .string c.from_, .string c.to, .bool c.shared, .string c.over, .int .i64 c.how, .int .u64 c.vector]) := fun w0 hk => (hc1.keep hk2 hz1 (fun h => h)).keep hk (by have := hk2.size; omega) (fun e => hMz e.symm)
 have hL2 := h.new hkw
 replace h0 := hA2.at_ h0 rfl
 replace h3 := hA2.at_ h3 rfl
 replace hsz := hA2.size.trans hsz
 replace hdf := hA2.defers.trans hdf
 have HKW := Lib.hid hkw
 have hBM : B ≤ M := by omega
 have hB2 : B ≤ w2.heap.size := by omega
 have hzc2 : zc < w2.heap.size := by have := hk2.size; omega
 have hpM : pb ≠ M := by omega
 clear hA2 hw2 hM hmm hk1 hk2 hkw h hc1 hzc hz1 hMz
 obtain ⟨A, cc, hu, hnc, hn0, hl⟩ := hL2.pol.subjects
 unfold top at hn0
 have hq : w2.cell? ⟨pb, 5, none⟩ = some v.subjects := hL2.cell rfl
 rw [hu] at hq
 clear hu
 refine wp_seq (wp_seq (Code.wp_only (R := fun a3 w3 => Agree (fun i => (decide (13 ≤ i) && decide (i ≤ 19))) a2 a3 ∧ At a3 17 (.slice A P.subjects.length cc) ∧ At a3 18 (.int .i64 P.subjects.length) ∧ At a3 19 (.int .i64 0) ∧ w3 = w2) ?_ ?_))
 · clear hl hE0 HC hok
   obtain ⟨T, d⟩ := a2
   refine wp_region_lit ?_
   iterate 7 with_reducible refine st ?_
   with_reducible refine wpList_nil ?_
   refine ⟨rfl, ag, aq, aq, aq, rfl⟩
 rintro a3 w3 ⟨hA3, k_s, k_n, k_i, rfl⟩
 have i0 := hA3.at_ h0 rfl
 have i3 := hA3.at_ h3 rfl
 have i5 := hA3.at_ h5 rfl
 have hsz3 := hA3.size.trans hsz
 have hdf3 := hA3.defers.trans hdf
 clear hq
 refine wp_range P.subjects.length (fun i => i == 4 || i == 7 || i == 9 || (decide (19 ≤ i) && decide (i ≤ 57))) (fun i => i == 4 || i == 7 || i == 9 || (decide (21 ≤ i) && decide (i ≤ 56))) (fun k _ w' => ∃ (n : Nat) (cnt : ByteArray → Nat) (p : ByteArray → Bool), n ≤ k * 2097152 ∧ SMap w' M n (.int .i64 0) (fun s => .int .i64 (cnt s)) p ∧ (∀ s, cnt s ≤ n ∧ (0 < cnt s ↔ hitOf (P.subjects.take k) c s)) ∧ (∀ x ∈ P.subjects.take k, ∀ m ∈ x.maps, okMap c x.name m = true) ∧ Keep (fun k => k = M) w3 w') (by omega) k_i k_n (by decide) rfl
  (by intro j; simp; omega) (by omega) (by decide) (fun k a1 a2 w hA hI => hI) ⟨0, fun _ => 0, fun _ => false, by omega, hE0, fun s => ⟨Nat.le_refl _, by simp [hitOf]⟩, by simp, Keep.refl _ _⟩ ?_ ?_
 · rintro k a4 wr hlt2 hA k_j ⟨n, cnt, p, hn, hE, hcn, hgood, hk⟩
   obtain ⟨bl, off, rfl, hbl, hcs⟩ := hl (by omega)
   obtain ⟨x, hx⟩ : ∃ x, P.subjects[k]? = some x := ⟨_, List.getElem?_eq_getElem hlt2⟩
   obtain ⟨u1, u2, hc, hsm, hsr, ok_x⟩ := (subject_stays B) _ _ _ _ _ (hk.below (B := B) (by omega) (fun _ hi e => by omega)) hbl (hcs k x hx)
   have HSM := Lib.hid hsm
   obtain ⟨A_mapsx, c_mapsx, rfl, hnm, hlm, _⟩ := hsm
   obtain ⟨A_rulesx, c_rulesx, rfl, _, _, _⟩ := hsr
   unfold top at hlm
   have q0 := hc.c0
   have q1 := hc 1 _ rfl
   have q2 := hc 2 _ rfl
   have q3 := hc 3 _ rfl
   have q4 := hc 4 _ rfl
   have q5 := hc 5 _ rfl
   have k_0 := hA.at_ i0 rfl
   have k_3 := hA.at_ i3 rfl
   have k_5 := hA.at_ i5 rfl
   have k_sl := hA.at_ k_s rfl
   have hsz4 := hA.size.trans hsz3
   have hdf4 := hA.defers.trans hdf3
   have hszw := hk.size
   have hblr : bl < wr.heap.size := by omega
   have hnc2 : k ≤ cc := by omega
   have HX := Lib.hid hx
   have HK := Lib.hid hk
   have HA := Lib.hid hA
   have HE := Lib.hid hE
   have HCN := Lib.hid hcn
   have HG := Lib.hid hgood
   have hnk : n ≤ 4398046511104 := by omega
   clear hx hk hc hA hcs hE hcn hgood hl hE0
   refine wp_seq (Code.wp_only (R := fun a5 w5 => Agree (fun i => i == 21 || i == 22 || i == 7) a4 a5 ∧ At a5 7 (.pointer (some ⟨wr.heap.size, 0, none⟩)) ∧ w5 = wr.alloc (Obj.cells #[.int .i64 x.pos, .string x.name, .int .u64 x.cpu, .bool x.stopped, .slice A_mapsx x.maps.length c_mapsx, .slice A_rulesx x.rules.length c_rulesx] 52)) ?_ ?_)
   · clear HC hok
     obtain ⟨T, d⟩ := a4
     refine wp_region_lit ?_
     iterate 4 with_reducible refine st ?_
     with_reducible refine wpList_nil ?_
     refine ⟨rfl, ag, aq, rfl⟩
   rintro a5 wo ⟨hA5, k_7, hwo⟩
   obtain ⟨z, hz⟩ : ∃ z, z = wr.heap.size := ⟨_, rfl⟩
   rw [← hz] at k_7
   have hx0 : CellsAt wo z 0 [.int .i64 x.pos, .string x.name, .int .u64 x.cpu, .bool x.stopped, .slice A_mapsx x.maps.length c_mapsx, .slice A_rulesx x.rules.length c_rulesx] := by rw [hwo, hz]; exact cells_new _ _ _
   have hko : Keep (fun _ => False) wr wo := by rw [hwo]; exact (Keep.refl _ _).alloc _
   have hzM : z ≠ M := by have := HE.out.lt; omega
   have hzo : z < wo.heap.size := by rw [hwo, hz]; simp
   have hKo : Keep (fun k => k = M) w3 wo := HK.out.trans hko (fun _ _ h => h.elim)
   have hszo := hKo.size
   have hszr := hko.size
   have hsz5 := hA5.size.trans hsz4
   have hdf5 := hA5.defers.trans hdf4
   refine theirs_in (cnt0 := 0) (n0 := 0) hBM (by omega) a5 hsz5 (Lib.hid fun w0 hk0 => HC.out w0 (hKo.trans hk0 (fun _ _ e => e))) (hA5.at_ k_3 rfl) (hA5.at_ k_5 rfl) (Lib.hid fun w0 hk0 => hx0.keep hk0 hzo hzM) k_7 (by have := ok_x.2.2; unfold Short at this; unfold maxLen; omega) (HSM.out.below (flat_stays _ _ _) (hko.below (B := B) (by omega) (fun _ _ e => e))) (by omega) (HE.out.keep hko (fun e => e)) HCN.out _ (fun a6 w6 n6 cnt6 p6 hA6 hn6 hE6 hcn6 hg6 hk6 => ?_) (fun a6 w6 h4 hs6 hd6 hbad hk6 => ?_)
   · refine ⟨(hA5.mono (by intro j; simp; omega)).trans hA6 (by intro j; simp; omega), n6, cnt6, p6, by omega, hE6, fun s => ⟨(hcn6 s).1, ?_⟩, ?_, hKo.trans hk6 (fun _ _ e => e)⟩
     · rw [(hcn6 s).2, take_at HX.out]
       simp only [hitOf, List.mem_append, List.mem_singleton]
       constructor
       · rintro (⟨y, hy, h1, h2⟩ | ⟨rfl, h2⟩)
         · exact ⟨y, .inl hy, h1, h2⟩
         · exact ⟨x, .inr rfl, rfl, h2⟩
       · rintro ⟨y, hy | rfl, h1, h2⟩
         · exact .inl ⟨y, hy, h1, h2⟩
         · exact .inr ⟨h1.symm, h2⟩
     · rw [take_at HX.out]
       intro y hy
       rcases List.mem_append.1 hy with hy | hy
       · exact HG.out y hy
       · have e : y = x := by simpa using hy
         subst e; exact hg6
   · repeat (first | with_reducible apply inbody_ret | with_reducible apply then_ret)
     refine post_tmp (t := 4) rfl h4 (by rw [hs6]; decide) (hd6.trans hdf5) ⟨?_, HKW.out.trans (hKo.trans hk6 (fun _ _ e => e)) (fun i hi e => by omega)⟩
     obtain ⟨m, hm, hb⟩ := hbad
     have e : theirs P c = false := by
      rw [theirs_eq, Bool.eq_false_iff]
      intro hh
      simp only [Bool.and_eq_true, List.all_eq_true] at hh
      have := hh.1.1.1 x (List.mem_of_getElem? HX.out) m hm
      rw [hb] at this
      cases this
     rw [e]
 · rintro a4 w4 hA4 ⟨n, cnt, p, hn, hE, hcn, hgood, hk⟩
   rw [List.take_length] at hcn hgood
   have j0 := hA4.at_ i0 rfl
   have j3 := hA4.at_ i3 rfl
   have j5 := hA4.at_ i5 rfl
   have hsz4 := hA4.size.trans hsz3
   have hdf4 := hA4.defers.trans hdf3
   have hszw := hk.size
   have hKM : Keep (fun _ => False) w w4 := HKW.out.trans hk (fun i hi e => by omega)
   have HE := Lib.hid hE
   have HCN := Lib.hid hcn
   have HG := Lib.hid hgood
   have HK := Lib.hid hk
   have HKM := Lib.hid hKM
   have xc := (HC.out w4 hk) 5 _ rfl
   have x2 := (HC.out w4 hk) 2 _ rfl
   have x3 := (HC.out w4 hk) 3 _ rfl
   clear hE hcn hgood hA4 k_s k_n k_i i0 i3 i5 hl hE0 hnc hn0 A cc
   with_reducible apply then_normal
   obtain ⟨A, cc, hu, hnc, hn0, hl⟩ := hL2.pol.devices
   unfold top at hn0
   have hq : w4.cell? ⟨pb, 3, none⟩ = some v.devices := (hk.cell (p := ⟨pb, 3, none⟩) (by have := hL2.lt; omega) hpM).trans (hL2.cell rfl)
   rw [hu] at hq
   clear hu hk hKM
   refine wp_seq (wp_seq (Code.wp_only (R := fun a5 w5 => Agree (fun i => (decide (58 ≤ i) && decide (i ≤ 64))) a4 a5 ∧ At a5 62 (.slice A P.devices.length cc) ∧ At a5 63 (.int .i64 P.devices.length) ∧ At a5 64 (.int .i64 0) ∧ w5 = w4) ?_ ?_))
   · clear hl HC hok
     obtain ⟨T, d⟩ := a4
     refine wp_region_lit ?_
     iterate 7 with_reducible refine st ?_
     with_reducible refine wpList_nil ?_
     refine ⟨rfl, ag, aq, aq, aq, rfl⟩
   rintro a5 w5 ⟨hA5, k_s, k_n, k_i, rfl⟩
   have l0 := hA5.at_ j0 rfl
   have l3 := hA5.at_ j3 rfl
   have l5 := hA5.at_ j5 rfl
   have hsz5 := hA5.size.trans hsz4
   have hdf5 := hA5.defers.trans hdf4
   clear hq
   refine wp_range P.devices.length (fun i => i == 4 || i == 11 || (decide (64 ≤ i) && decide (i ≤ 72))) (fun i => i == 4 || i == 11 || (decide (66 ≤ i) && decide (i ≤ 71))) (fun k _ w' => (∀ x ∈ P.devices.take k, (x.maps.any fun m => decide (m.of = c.over)) = false) ∧ Keep (fun _ => False) w5 w') (by omega) k_i k_n (by decide) rfl
    (by intro j; simp; omega) (by omega) (by decide) (fun k a1 a2 w hA hI => hI) ⟨by simp, Keep.refl _ _⟩ ?_ ?_
   · rintro k a6 wr hlt2 hA k_j ⟨hno, hk⟩
     obtain ⟨bl, off, rfl, hbl, hcs⟩ := hl (by omega)
     obtain ⟨x, hx⟩ : ∃ x, P.devices[k]? = some x := ⟨_, List.getElem?_eq_getElem hlt2⟩
     obtain ⟨u1, hc, hsm, ok_x⟩ := (device_stays B) _ _ _ _ _ ((HK.out.trans hk (fun _ _ h => h.elim)).below (B := B) (by omega) (fun _ hi e => by omega)) hbl (hcs k x hx)
     have HSM := Lib.hid hsm
     obtain ⟨A_mapsx, c_mapsx, rfl, hnm, hlm, _⟩ := hsm
     unfold top at hlm
     have q0 := hc.c0
     have q1 := hc 1 _ rfl
     have q2 := hc 2 _ rfl
     have q3 := hc 3 _ rfl
     have q4 := hc 4 _ rfl
     have k_0 := hA.at_ l0 rfl
     have k_3 := hA.at_ l3 rfl
     have k_sl := hA.at_ k_s rfl
     have hsz6 := hA.size.trans hsz5
     have hdf6 := hA.defers.trans hdf5
     have hszr := hk.size
     have hblr : bl < wr.heap.size := by omega
     have hnc2 : k ≤ cc := by omega
     have hzr : zc < wr.heap.size := by omega
     have XC := Lib.hid ((hk.cell (p := ⟨zc, 5, none⟩) (by show zc < _; omega) (fun h => h)).trans xc)
     have HX := Lib.hid hx
     have HKr := Lib.hid hk
     have HNO := Lib.hid hno
     clear hx hk hc hcs hno hl xc x2 x3
     refine wp_seq (Code.wp_only (R := fun a7 w7 => Agree (fun i => i == 66 || i == 67 || i == 11) a6 a7 ∧ At a7 11 (.pointer (some ⟨wr.heap.size, 0, none⟩)) ∧ w7 = wr.alloc (Obj.cells #[.int .i64 x.pos, .string x.name, .int .u64 x.at_, .int .u64 x.size, .slice A_mapsx x.maps.length c_mapsx] 45)) ?_ ?_)
     · clear HC hok
       obtain ⟨T, d⟩ := a6
       refine wp_region_lit ?_
       iterate 4 with_reducible refine st ?_
       with_reducible refine wpList_nil ?_
       refine ⟨rfl, ag, aq, rfl⟩
     rintro a7 wo ⟨hA7, k_11, hwo⟩
     obtain ⟨z, hz⟩ : ∃ z, z = wr.heap.size := ⟨_, rfl⟩
     rw [← hz] at k_11
     have hx0 : CellsAt wo z 0 [.int .i64 x.pos, .string x.name, .int .u64 x.at_, .int .u64 x.size, .slice A_mapsx x.maps.length c_mapsx] := by rw [hwo, hz]; exact cells_new _ _ _
     have hko : Keep (fun _ => False) wr wo := by rw [hwo]; exact (Keep.refl _ _).alloc _
     have hszo := hko.size
     have q4 := hx0 4 _ rfl
     have hzo : z < wo.heap.size := by rw [hwo, hz]; simp
     have hsz7 := hA7.size.trans hsz6
     have hdf7 := hA7.defers.trans hdf6
     have m_3 := hA7.at_ k_3 rfl
     have hcall := Lib.hid (contains_over (HSM.out.below (flat_stays _ _ _) (hko.below (B := B) (by omega) (fun _ _ e => e))) (by omega) c zc (by omega) ((hko.cell (p := ⟨zc, 5, none⟩) hzr (fun h => h)).trans XC.out))
     have HKo := Lib.hid hko
     clear hko hwo hx0 q0 q1 q2 q3 k_sl k_j k_3 hz
     obtain ⟨bad, hbad⟩ : ∃ b, b = (x.maps.any fun m => decide (m.of = c.over)) := ⟨_, rfl⟩
     rw [← hbad] at hcall
     have HB := Lib.hid hbad
     clear hbad
     refine wp_seq (Code.wp_only (R := fun a8 w8 => Agree (fun i => (decide (68 ≤ i) && decide (i ≤ 71))) a7 a8 ∧ At a8 71 (.bool bad) ∧ Keep (fun _ => False) wo w8) ?_ ?_)
     · clear HC hok hA7
       obtain ⟨T, d⟩ := a7
       refine wp_region_lit ?_
       iterate 3 with_reducible refine st ?_
       with_reducible refine wpList_step (fun K hK => ?_)
       go_simp
       refine hcall.out.mono ?_
       rintro e w8 ⟨rfl, hk8⟩
       with_reducible refine hK _ _ (wpList_nil ?_)
       refine ⟨rfl, ag, aq, hk8⟩
     rintro a8 w8 ⟨hA8, k_71, hk8⟩
     have hsz8 := hA8.size.trans hsz7
     have hdf8 := hA8.defers.trans hdf7
     have e71 := k_71.eval (by omega)
     have hkr8 : Keep (fun _ => False) w5 w8 := (HKr.out.trans HKo.out (fun _ _ h => h)).trans hk8 (fun _ _ h => h)
     cases bad
     · refine wp_cond_false e71 (wp_skip ?_)
       refine ⟨(hA7.mono (by intro j; simp; omega)).trans hA8 (by intro j; simp; omega), fun y hy => ?_, hkr8⟩
       rw [take_at HX.out] at hy
       rcases List.mem_append.1 hy with hy | hy
       · exact HNO.out y hy
       · have e : y = x := by simpa using hy
         subst e; exact HB.out.symm
     · refine wp_cond_true e71 ?_
       refine wp_seq (Code.wp_only (R := fun a9 w9 => At a9 4 (.bool false) ∧ a9.tmps.size = 85 ∧ a9.defers = [] ∧ w9 = w8) ?_ ?_)
       · clear hA8
         obtain ⟨T, d⟩ := a8
         refine wp_region_lit ?_
         with_reducible refine st ?_
         with_reducible refine wpList_nil ?_
         refine ⟨rfl, ?_, by simpa using hsz8, hdf8, rfl⟩
         exact aq
       rintro a9 w9 ⟨h4, hs9, hd9, rfl⟩
       refine wp_ret ?_
       repeat (first | with_reducible apply inbody_ret | with_reducible apply then_ret)
       refine post_tmp (t := 4) rfl h4 (by rw [hs9]; decide) hd9 ⟨?_, HKM.out.trans hkr8 (fun _ _ h => h)⟩
       have e : theirs P c = false := by
        rw [theirs_eq, Bool.eq_false_iff]
        intro hh
        simp only [Bool.and_eq_true, List.all_eq_true] at hh
        have := hh.1.1.2 x (List.mem_of_getElem? HX.out)
        rw [← HB.out] at this
        cases this
       rw [e]
   · rintro a6 w6 hA6 ⟨hno, hk⟩
     rw [List.take_length] at hno
     have k3 := hA6.at_ l3 rfl
     have k5 := hA6.at_ l5 rfl
     have hsz6 := hA6.size.trans hsz5
     have hdf6 := hA6.defers.trans hdf5
     have y2 := (hk.cell (p := ⟨zc, 2, none⟩) (by show zc < _; omega) (fun h => h)).trans x2
     have y3 := (hk.cell (p := ⟨zc, 3, none⟩) (by show zc < _; omega) (fun h => h)).trans x3
     have HE6 := Lib.hid (HE.out.keep hk (fun h => h))
     have HK6 := Lib.hid hk
     have hsf : c.from_.size ≤ maxLen := by have := hok; unfold Ck.Channel.Ok Short at this; unfold maxLen; omega
     have hst : c.to.size ≤ maxLen := by have := hok; unfold Ck.Channel.Ok Short at this; unfold maxLen; omega
     obtain ⟨cf, hcf⟩ : ∃ n, n = cnt c.from_ := ⟨_, rfl⟩
     obtain ⟨ct, hct⟩ : ∃ n, n = cnt c.to := ⟨_, rfl⟩
     obtain ⟨bf, ebf⟩ : ∃ b, decide (0 < cf) = b := ⟨_, rfl⟩
     obtain ⟨bt, ebt⟩ : ∃ b, decide (0 < ct) = b := ⟨_, rfl⟩
     have hTf : bf = (P.subjects.any fun x => decide (x.name = c.from_) && x.maps.any fun m => decide (m.of = c.over)) := by
      rw [← ebf, Bool.eq_iff_iff, decide_eq_true_eq, ← hit_any, ← (HCN.out c.from_).2, hcf]
     have hTt : bt = (P.subjects.any fun x => decide (x.name = c.to) && x.maps.any fun m => decide (m.of = c.over)) := by
      rw [← ebt, Bool.eq_iff_iff, decide_eq_true_eq, ← hit_any, ← (HCN.out c.to).2, hct]
     have HT : Hid (theirs P c = (bf && bt)) := by
      have g1 : (P.subjects.all fun x => x.maps.all fun m => okMap c x.name m) = true := by simp only [List.all_eq_true]; exact HG.out
      have g2 : (P.devices.all fun x => !x.maps.any fun m => decide (m.of = c.over)) = true := by simp only [List.all_eq_true]; intro x hx; rw [hno x hx]; rfl
      show theirs P c = _
      rw [theirs_eq, g1, g2, ← hTf, ← hTt]; rfl
     have HCF := Lib.hid hcf
     have HCT := Lib.hid hct
     clear hTf hTt hcf hct hno hk hA6 HC hl xc x2 x3 l0 l3 l5 k_s k_n k_i j0 j3 j5 h0 h3 h5
     refine wp_seq (Code.wp_only (R := fun a9 w9 => At a9 4 (.bool (bf && bt)) ∧ a9.tmps.size = 85 ∧ a9.defers = [] ∧ w9 = w6) ?_ ?_)
     · have hl1 := HE6.out.run Tryz.underlying224 zero3 hsf
       have hl2 := HE6.out.run Tryz.underlying224 zero3 hst
       rw [← HCF.out] at hl1
       rw [← HCT.out] at hl2
       obtain ⟨T, d⟩ := a6
       have hun := undef_eq
       refine wp_region_lit ?_
       cases bf
       all_goals
        iterate 13 with_reducible refine st ?_
        with_reducible refine wpList_nil ?_
        refine ⟨rfl, ?_, by simpa using hsz6, hdf6, rfl⟩
        simp only [Bool.false_and, Bool.true_and]
        exact aq
     rintro a9 w9 ⟨h4, hs9, hd9, rfl⟩
     refine wp_ret ?_
     refine post_tmp (t := 4) rfl h4 (by rw [hs9]; decide) hd9 ⟨by rw [HT.out], HKM.out.trans HK6.out (fun _ _ h => h)⟩
theorem who_channels {B : Nat} {w : World} {pb : Nat} {v : PolV} {P : Policy} {L : List Wr} (h : LookAt B w pb v P why6 L) (a : Act) (hsz : a.tmps.size = 185)
 (h0 : At a 0 (.pointer (some ⟨pb, 0, none⟩))) (Q : Exit → Act → World → Prop)
 (hQ : ∀ a' w', Agree (fun i => i == 9 || (decide (84 ≤ i) && decide (i ≤ 127))) a a' → LookAt B w' pb v P why6 (P.channels.flatMap (whoChannel P) ++ L) → Keep (fun k => k = pb) w w' → Q .normal a' w') :
 (codeC Tryz.f54 [1,1,0]).wp Tryz.prog Q a w := by
 have hs := h.pol.channels
 obtain ⟨A, c, hu, hnc, hn0, hl⟩ := hs
 unfold top at hn0
 have hlt := h.lt
 have hBp := h.base
 have hq : w.cell? ⟨pb, 6, none⟩ = some v.channels := h.cell rfl
 rw [hu] at hq
 clear hu
 conv => arg 2; whnf
 refine wp_seq (Code.wp_only (R := fun a1 w1 => Agree (fun i => i == 84 || i == 85 || i == 86 || i == 87 || i == 88 || i == 89 || i == 90) a a1 ∧ At a1 88 (.slice A P.channels.length c) ∧ At a1 89 (.int .i64 P.channels.length) ∧ At a1 90 (.int .i64 0) ∧ w1 = w) ?_ ?_)
 · clear hl
   obtain ⟨T, d⟩ := a
   refine wp_region_lit ?_
   iterate 7 with_reducible refine st ?_
   with_reducible refine wpList_nil ?_
   refine ⟨rfl, ag, aq, aq, aq, rfl⟩
 rintro a0 w0 ⟨hA0, k_s, k_n, k_i, rfl⟩
 have hsz0 : a0.tmps.size = 185 := hA0.size.trans hsz
 replace h0 := hA0.at_ h0 rfl
 refine wp_range P.channels.length (fun i => i == 9 || (decide (90 ≤ i) && decide (i ≤ 127))) (fun i => i == 9 || (decide (92 ≤ i) && decide (i ≤ 126))) (fun k _ w' => LookAt B w' pb v P why6 ((P.channels.take k).flatMap (whoChannel P) ++ L) ∧ Keep (fun k => k = pb) w0 w') (by omega) k_i k_n (by decide) rfl
  (by intro j; simp; omega) (by omega) (by decide) (fun k a1 a2 w hA hI => hI) ⟨by simpa [List.take_zero] using h, Keep.refl _ _⟩ ?_ ?_
 · rintro n a1 wr hlt2 hA k_j ⟨hL, hk⟩
   obtain ⟨bl, off, rfl, hbl, hcs⟩ := hl (by omega)
   obtain ⟨x, hx⟩ : ∃ x, P.channels[n]? = some x := ⟨_, List.getElem?_eq_getElem hlt2⟩
   obtain ⟨hc, ok_x⟩ := (flat_stays B _ _) _ _ _ _ _ (hk.below (B := B) (by omega) (fun _ hi e => by omega)) hbl (hcs n x hx)
   have q0 := hc.c0
   have q1 := hc 1 _ rfl
   have q2 := hc 2 _ rfl
   have q3 := hc 3 _ rfl
   have q4 := hc 4 _ rfl
   have q5 := hc 5 _ rfl
   have q6 := hc 6 _ rfl
   have q7 := hc 7 _ rfl
   have k_0 := hA.at_ h0 rfl
   have k_sl := hA.at_ k_s rfl
   have hsz1 : a1.tmps.size = 185 := hA.size.trans hsz0
   have hszw := hk.size
   have hblr : bl < wr.heap.size := by omega
   have HX := Lib.hid hx
   have HL := Lib.hid hL
   have HK := Lib.hid hk
   have hnc2 : n ≤ c := by omega
   have HA := Lib.hid hA
   clear hx hL hk hc hA hcs
   refine wp_seq (Code.wp_only (R := fun a2 w2 => Agree (fun i => i == 92 || i == 93 || i == 9) a1 a2 ∧ At a2 9 (.pointer (some ⟨wr.heap.size, 0, none⟩)) ∧ w2 = wr.alloc (Obj.cells #[.int .i64 x.pos, .string x.name, .string x.from_, .string x.to, .bool x.shared, .string x.over, .int .i64 x.how, .int .u64 x.vector] 55)) ?_ ?_)
   · skip
     obtain ⟨T, d⟩ := a1
     refine wp_region_lit ?_
     iterate 4 with_reducible refine st ?_
     with_reducible refine wpList_nil ?_
     refine ⟨rfl, ag, aq, rfl⟩
   rintro a2 wo ⟨hA2, k_x, hwo⟩
   obtain ⟨z, hz⟩ : ∃ z, z = wr.heap.size := ⟨_, rfl⟩
   rw [← hz] at k_x
   have hx0 : CellsAt wo z 0 [.int .i64 x.pos, .string x.name, .string x.from_, .string x.to, .bool x.shared, .string x.over, .int .i64 x.how, .int .u64 x.vector] := by rw [hwo, hz]; exact cells_new _ _ _
   have hzo : z < wo.heap.size := by rw [hwo, hz]; simp
   have hzpb : z ≠ pb := by omega
   have hko : Keep (fun _ => False) wr wo := by rw [hwo]; exact (Keep.refl _ _).alloc _
   have HL1 := Lib.hid (HL.out.new hko)
   have HK1 := Lib.hid (HK.out.trans hko (fun _ _ h => h.elim))
   have HKr : Hid (Keep (fun k => k = pb) wr wo) := hko.mono (fun _ _ h => h.elim)
   have k_0 := hA2.at_ k_0 rfl
   have hsz2 := hA2.size.trans hsz1
   have HAg : Hid (Agree (fun i => i == 9 || (decide (92 ≤ i) && decide (i ≤ 126))) a1 a2) := hA2.mono (by intro j; simp; omega)
   clear hwo hz hko HL HK hA2 q0 q1 q2 q3 q4 q5 q6 q7
   clear k_sl k_j hl
   refine wp_seq (Code.wp_only (R := fun a' w' => Agree (fun i => (decide (94 ≤ i) && decide (i ≤ 105))) a2 a' ∧ LookAt B w' pb v P why6 (say (!decide (x.how = 1) || decide (x.vector < 64)) x.pos 1 ++ ((P.channels.take n).flatMap (whoChannel P) ++ L)) ∧ Keep (fun k => k = pb) wo w') ?_ ?_)
   · skip
     clear HAg HX
     have q_x_pos := hx0.c0
     have q_x_name := hx0 1 _ rfl
     have q_x_from_ := hx0 2 _ rfl
     have q_x_to := hx0 3 _ rfl
     have q_x_shared := hx0 4 _ rfl
     have q_x_over := hx0 5 _ rfl
     have q_x_how := hx0 6 _ rfl
     have q_x_vector := hx0 7 _ rfl
     clear hx0
     obtain ⟨b_x_how_eq1, eb_x_how_eq1⟩ : ∃ b, b = decide (x.how = 1) := ⟨_, rfl⟩
     have w1b_x_how_eq1 : ((x.how : Int) == 1) = b_x_how_eq1 := by rw [eb_x_how_eq1]; exact int_eqb _ _
     have w2b_x_how_eq1 : ((x.how : Int) != 1) = !b_x_how_eq1 := by rw [eb_x_how_eq1]; exact int_neb _ _
     obtain ⟨b_x_vector_lt64, eb_x_vector_lt64⟩ : ∃ b, b = decide (x.vector < 64) := ⟨_, rfl⟩
     have w1b_x_vector_lt64 : decide ((x.vector : Int) < 64) = b_x_vector_lt64 := by rw [eb_x_vector_lt64]; exact decide_eq_decide.2 (by omega)
     have HS : Hid (say (!decide (x.how = 1) || decide (x.vector < 64)) x.pos 1 = say ((!b_x_how_eq1 || b_x_vector_lt64)) x.pos 1) := by rw [eb_x_how_eq1, eb_x_vector_lt64]; rfl
     clear eb_x_how_eq1
     clear eb_x_vector_lt64
     have HLd := HL1
     have hun := undef_eq
     obtain ⟨T, d⟩ := a2
     refine wp_region_lit ?_
     iterate 5 with_reducible refine st ?_
     cases b_x_how_eq1
     · iterate 6
        with_reducible refine st ?_
       with_reducible refine wpList_step (fun K hK => ?_)
       go_simp
       refine (must_any _ _ 1 101 HLd.out rfl).mono ?_
       rintro e w2 ⟨rfl, hL2, hk2⟩
       with_reducible refine hK _ _ (wpList_nil ?_)
       refine ⟨rfl, ?_, ?_, ?_⟩
       · exact ag
       · have hs := HS.out
         try simp only [bS] at hs
         rw [hs]
         exact hL2
       · exact hk2
     · iterate 6
        with_reducible refine st ?_
       with_reducible refine wpList_step (fun K hK => ?_)
       go_simp
       refine (must_any _ _ 1 101 HLd.out rfl).mono ?_
       rintro e w2 ⟨rfl, hL2, hk2⟩
       with_reducible refine hK _ _ (wpList_nil ?_)
       refine ⟨rfl, ?_, ?_, ?_⟩
       · exact ag
       · have hs := HS.out
         try simp only [bS] at hs
         rw [hs]
         exact hL2
       · exact hk2
   rintro a3 w3 ⟨hA3, hL3, hk3⟩
   replace hx0 := hx0.keep hk3 hzo hzpb
   replace hzo : z < w3.heap.size := Nat.lt_of_lt_of_le hzo hk3.size
   replace HL1 := Lib.hid hL3
   replace HK1 := Lib.hid (HK1.out.trans hk3 (fun _ _ e => e))
   replace HKr := Lib.hid (HKr.out.trans hk3 (fun _ _ e => e))
   replace k_0 := hA3.at_ k_0 rfl
   replace k_x := hA3.at_ k_x rfl
   replace hsz2 := hA3.size.trans hsz2
   replace HAg : Hid (Agree (fun i => i == 9 || (decide (92 ≤ i) && decide (i ≤ 126))) a1 a3) := HAg.out.trans hA3 (by intro j; simp; omega)
   clear hA3 hL3 hk3
   refine wp_seq (Code.wp_only (R := fun a' w' => Agree (fun i => (decide (106 ≤ i) && decide (i ≤ 114))) a3 a' ∧ LookAt B w' pb v P why6 (say (!decide (x.from_ = x.to)) x.pos 3 ++ (say (!decide (x.how = 1) || decide (x.vector < 64)) x.pos 1 ++ ((P.channels.take n).flatMap (whoChannel P) ++ L))) ∧ Keep (fun k => k = pb) w3 w') ?_ ?_)
   · skip
     clear HAg HX
     have q_x_pos := hx0.c0
     have q_x_name := hx0 1 _ rfl
     have q_x_from_ := hx0 2 _ rfl
     have q_x_to := hx0 3 _ rfl
     have q_x_shared := hx0 4 _ rfl
     have q_x_over := hx0 5 _ rfl
     have q_x_how := hx0 6 _ rfl
     have q_x_vector := hx0 7 _ rfl
     clear hx0
     obtain ⟨b_x_from__is_x_to, eb_x_from__is_x_to⟩ : ∃ b, b = decide (x.from_ = x.to) := ⟨_, rfl⟩
     have w1b_x_from__is_x_to : (x.from_.toList == x.to.toList) = b_x_from__is_x_to := by rw [eb_x_from__is_x_to]; exact bytes_beq _ _
     have w2b_x_from__is_x_to : (x.from_.toList != x.to.toList) = !b_x_from__is_x_to := by rw [← w1b_x_from__is_x_to]; rfl
     have HS : Hid (say (!decide (x.from_ = x.to)) x.pos 3 = say (!b_x_from__is_x_to) x.pos 3) := by rw [eb_x_from__is_x_to]; rfl
     clear eb_x_from__is_x_to
     have HLd := HL1
     obtain ⟨T, d⟩ := a3
     refine wp_region_lit ?_
     iterate 8 with_reducible refine st ?_
     with_reducible refine wpList_step (fun K hK => ?_)
     go_simp
     refine (must_any _ _ 3 102 HLd.out rfl).mono ?_
     rintro e w2 ⟨rfl, hL2, hk2⟩
     with_reducible refine hK _ _ (wpList_nil ?_)
     refine ⟨rfl, ?_, ?_, ?_⟩
     · exact ag
     · have hs := HS.out
       try simp only [bS] at hs
       rw [hs]
       exact hL2
     · exact hk2
   rintro a4 w4 ⟨hA3, hL3, hk3⟩
   replace hx0 := hx0.keep hk3 hzo hzpb
   replace hzo : z < w4.heap.size := Nat.lt_of_lt_of_le hzo hk3.size
   replace HL1 := Lib.hid hL3
   replace HK1 := Lib.hid (HK1.out.trans hk3 (fun _ _ e => e))
   replace HKr := Lib.hid (HKr.out.trans hk3 (fun _ _ e => e))
   replace k_0 := hA3.at_ k_0 rfl
   replace k_x := hA3.at_ k_x rfl
   replace hsz2 := hA3.size.trans hsz2
   replace HAg : Hid (Agree (fun i => i == 9 || (decide (92 ≤ i) && decide (i ≤ 126))) a1 a4) := HAg.out.trans hA3 (by intro j; simp; omega)
   clear hA3 hL3 hk3
   refine Code.wp_only (R := fun a' w' => Agree (fun i => (decide (115 ≤ i) && decide (i ≤ 126))) a4 a' ∧ LookAt B w' pb v P why6 (say (!x.shared || theirs P x) x.pos 4 ++ (say (!decide (x.from_ = x.to)) x.pos 3 ++ (say (!decide (x.how = 1) || decide (x.vector < 64)) x.pos 1 ++ ((P.channels.take n).flatMap (whoChannel P) ++ L)))) ∧ Keep (fun k => k = pb) w4 w') ?_ ?_
   · obtain ⟨b, eb⟩ : ∃ b, b = x.shared := ⟨_, rfl⟩
     have HC : Hid (∀ w', Keep (fun k => k = pb) w4 w' → w'.cell? ⟨z, 0, none⟩ = some (.int .i64 x.pos) ∧ w'.cell? ⟨z, 1, none⟩ = some (.string x.name) ∧ w'.cell? ⟨z, 2, none⟩ = some (.string x.from_) ∧ w'.cell? ⟨z, 3, none⟩ = some (.string x.to) ∧ w'.cell? ⟨z, 4, none⟩ = some (.bool x.shared) ∧ w'.cell? ⟨z, 5, none⟩ = some (.string x.over) ∧ w'.cell? ⟨z, 6, none⟩ = some (.int .i64 x.how) ∧ w'.cell? ⟨z, 7, none⟩ = some (.int .u64 x.vector)) := fun w' hk => ⟨(hx0.keep hk hzo hzpb).c0, (hx0.keep hk hzo hzpb) 1 _ rfl, (hx0.keep hk hzo hzpb) 2 _ rfl, (hx0.keep hk hzo hzpb) 3 _ rfl, (hx0.keep hk hzo hzpb) 4 _ rfl, (hx0.keep hk hzo hzpb) 5 _ rfl, (hx0.keep hk hzo hzpb) 6 _ rfl, (hx0.keep hk hzo hzpb) 7 _ rfl⟩
     have HLd := Lib.hid (HL1.out.new ((Keep.refl _ w4).drew))
     have q0 := hx0.c0
     have q4 := hx0 4 _ rfl
     rw [← eb] at q4
     cases b
     · have HS : Hid (x.shared = false) := eb.symm
       clear eb hx0
       have hun := undef_eq
       obtain ⟨T, d⟩ := a4
       refine wp_region_still_tail 11 (by kernel_rfl) (by kernel_rfl) ?_
       simp only [List.take_succ_cons, List.take_zero, List.drop_succ_cons, List.drop_zero]
       iterate 11
        with_reducible refine wpStill_step (fun K hK => ?_)
        go_simp
        with_reducible refine hK _ ?_
        clear hK K
       with_reducible refine wpStill_nil ?_
       with_reducible refine wpList_step (fun K hK => ?_)
       go_simp
       refine (must_any _ _ 4 103 HLd.out rfl).mono ?_
       rintro e w2 ⟨rfl, hL2, hk2⟩
       with_reducible refine hK _ _ (wpList_nil ?_)
       refine ⟨rfl, ?_, ?_, ((Keep.refl _ _).drew).trans hk2 (fun _ _ e => e)⟩
       · exact ag
       · rw [HS.out]; exact hL2
     · have HS : Hid (x.shared = true) := eb.symm
       clear eb q0 q4
       refine wp_region_calm 11 (fun i => ([.pointer (some ⟨pb, 0, none⟩), .pointer (some ⟨z, 4, none⟩), .bool true, .bool false, .bool false, .pointer (some ⟨pb, 0, none⟩), .agg #[.int .i64 x.pos, .string x.name, .string x.from_, .string x.to, .bool x.shared, .string x.over, .int .i64 x.how, .int .u64 x.vector], .bool (theirs P x), .bool (theirs P x), .pointer (some ⟨z, 0, none⟩), .int .i64 x.pos] : List Value).getD i undef) (fun w' => Keep (fun _ => False) w4.drew w') (by kernel_rfl) (by kernel_rfl) ?_ ?_ ?_
       · first | exact hWd | exact Keep.refl _ _
       · intro i o hi ho a' w' K hW hb hd hK
         have hszq : a'.tmps.size = 185 := hb.size.trans (by first | assumption | (simp only [Array.size_setIfInBounds]; assumption))
         have z_k_0 := hb.at_ k_0 rfl
         have z_k_x := hb.at_ k_x rfl
         match i, hi, ho, hd, hK with
         | 0, _, ho, hd, hK =>
          obtain rfl : _ = o := Option.some.inj ho
          obtain ⟨T, d⟩ := a'
          go_simp
          exact hK _ hW
         | 1, _, ho, hd, hK =>
          obtain rfl : _ = o := Option.some.inj ho
          obtain ⟨T, d⟩ := a'
          go_simp
          exact hK _ hW
         | 2, _, ho, hd, hK =>
          obtain rfl : _ = o := Option.some.inj ho
          have d_1 : At a' 116 (.pointer (some ⟨z, 4, none⟩)) := hd 1 (by kernel_rfl) (by decide) 116 rfl
          have hkq : Keep (fun k => k = pb) w4 w' := ((Keep.refl (fun k => k = pb) w4).drew).trans hW (fun _ _ h => h.elim)
          obtain ⟨c0, c1, c2, c3, c4, c5, c6, c7⟩ := HC.out _ hkq
          obtain ⟨T, d⟩ := a'
          go_simp
          rw [HS.out]
          exact hK _ hW
         | 3, _, ho, hd, hK =>
          obtain rfl : _ = o := Option.some.inj ho
          have d_2 : At a' 117 (.bool true) := hd 2 (by kernel_rfl) (by decide) 117 rfl
          obtain ⟨T, d⟩ := a'
          go_simp
          exact hK _ hW
         | 4, _, ho, hd, hK =>
          obtain rfl : _ = o := Option.some.inj ho
          have d_3 : At a' 118 (.bool false) := hd 3 (by kernel_rfl) (by decide) 118 rfl
          obtain ⟨T, d⟩ := a'
          go_simp
          exact hK _ hW
         | 5, _, ho, hd, hK =>
          obtain rfl : _ = o := Option.some.inj ho
          have d_4 : At a' 119 (.bool false) := hd 4 (by kernel_rfl) (by decide) 119 rfl
          have hun := undef_eq
          obtain ⟨T, d⟩ := a'
          go_simp
          exact hK _ hW
         | 6, _, ho, hd, hK =>
          obtain rfl : _ = o := Option.some.inj ho
          have d_4 : At a' 119 (.bool false) := hd 4 (by kernel_rfl) (by decide) 119 rfl
          have hkq : Keep (fun k => k = pb) w4 w' := ((Keep.refl (fun k => k = pb) w4).drew).trans hW (fun _ _ h => h.elim)
          obtain ⟨c0, c1, c2, c3, c4, c5, c6, c7⟩ := HC.out _ hkq
          have hun := undef_eq
          obtain ⟨T, d⟩ := a'
          go_simp
          exact hK _ hW
         | 7, _, ho, hd, hK =>
          obtain rfl : _ = o := Option.some.inj ho
          have d_5 : At a' 120 (.pointer (some ⟨pb, 0, none⟩)) := hd 5 (by kernel_rfl) (by decide) 120 rfl
          have d_6 : At a' 121 (.agg #[.int .i64 x.pos, .string x.name, .string x.from_, .string x.to, .bool x.shared, .string x.over, .int .i64 x.how, .int .u64 x.vector]) := hd 6 (by kernel_rfl) (by decide) 121 rfl
          have d_4 : At a' 119 (.bool false) := hd 4 (by kernel_rfl) (by decide) 119 rfl
          have hkq : Keep (fun k => k = pb) w4 w' := ((Keep.refl (fun k => k = pb) w4).drew).trans hW (fun _ _ h => h.elim)
          obtain ⟨c0, c1, c2, c3, c4, c5, c6, c7⟩ := HC.out _ hkq
          have hun := undef_eq
          obtain ⟨T, d⟩ := a'
          go_simp
          refine (theirs_any (HLd.out.new hW) ok_x).mono ?_
          rintro e w2 ⟨rfl, hk2⟩
          exact hK _ (hW.trans hk2 (fun _ _ h => h))
         | 8, _, ho, hd, hK =>
          obtain rfl : _ = o := Option.some.inj ho
          have d_4 : At a' 119 (.bool false) := hd 4 (by kernel_rfl) (by decide) 119 rfl
          have d_7 : At a' 122 (.bool (theirs P x)) := hd 7 (by kernel_rfl) (by decide) 122 rfl
          obtain ⟨T, d⟩ := a'
          go_simp
          exact hK _ hW
         | 9, _, ho, hd, hK =>
          obtain rfl : _ = o := Option.some.inj ho
          obtain ⟨T, d⟩ := a'
          go_simp
          exact hK _ hW
         | 10, _, ho, hd, hK =>
          obtain rfl : _ = o := Option.some.inj ho
          have d_9 : At a' 124 (.pointer (some ⟨z, 0, none⟩)) := hd 9 (by kernel_rfl) (by decide) 124 rfl
          have hkq : Keep (fun k => k = pb) w4 w' := ((Keep.refl (fun k => k = pb) w4).drew).trans hW (fun _ _ h => h.elim)
          obtain ⟨c0, c1, c2, c3, c4, c5, c6, c7⟩ := HC.out _ hkq
          obtain ⟨T, d⟩ := a'
          go_simp
          exact hK _ hW
         | i + 11, hi, _, _, _ => omega
       · intro o ho a' w' hW hb hd
         obtain rfl : _ = o := Option.some.inj ho
         have hszq : a'.tmps.size = 185 := hb.size.trans (by first | assumption | (simp only [Array.size_setIfInBounds]; assumption))
         have z_k_0 := hb.at_ k_0 rfl
         have z_k_x := hb.at_ k_x rfl
         have d_0 : At a' 115 (.pointer (some ⟨pb, 0, none⟩)) := hd 0 (by decide) 115 rfl
         have d_8 : At a' 123 (.bool (theirs P x)) := hd 8 (by decide) 123 rfl
         have d_10 : At a' 125 (.int .i64 x.pos) := hd 10 (by decide) 125 rfl
         have HLw := Lib.hid (HLd.out.new hW)
         have HKw : Hid (Keep (fun k => k = pb) w4 w') := ((Keep.refl (fun k => k = pb) w4).drew).trans hW (fun _ _ h => h.elim)
         have HB := Lib.hid hb
         clear hW hb hd
         obtain ⟨T, d⟩ := a'
         with_reducible refine wpList_step (fun K hK => ?_)
         go_simp
         refine (must_any _ _ 4 103 HLw.out rfl).mono ?_
         rintro e w2 ⟨rfl, hL2, hk2⟩
         with_reducible refine hK _ _ (wpList_nil ?_)
         refine ⟨rfl, (HB.out.agree (ws := fun i => decide (115 ≤ i) && decide (i ≤ 126)) (by kernel_rfl)).trans (vs := fun i => i == 126) ?_ (by intro j; simp; omega), ?_, HKw.out.trans hk2 (fun _ _ e => e)⟩
         · exact ag
         · rw [HS.out]; exact hL2
   rintro a5 w5 ⟨hA3, hL3, hk3⟩
   refine ⟨HAg.out.trans hA3 (by intro j; simp; omega), hL3.congr fun p => ?_, HK1.out.trans hk3 (fun _ _ e => e)⟩
   rw [take_at HX.out, List.flatMap_append, List.flatMap_cons, List.flatMap_nil, List.append_nil]
   simp only [List.mem_append, whoChannel]
   try simp only [or_assoc, or_comm, or_left_comm]
 · rintro a' w' hA ⟨hL, hk⟩
   rw [List.take_length] at hL
   exact hQ _ _ ((hA0.mono (by intro j; simp; omega)).trans hA (by intro j; simp; omega)) hL hk
theorem who_any {B : Nat} {w : World} {pb : Nat} {v : PolV} {P : Policy} (h : LookAt B w pb v P why6 []) :
 Calls Tryz.prog 54 #[.pointer (some ⟨pb, 0, none⟩)] w fun e w' => e = .returned (.tuple #[]) ∧ LookAt B w' pb v P why6 (whoW P) ∧ Keep (fun k => k = pb) w w' := by
 refine calls_abs Tryz.func54 Tryz.ntmps54 rfl (by simp) fun a hsz hdf hargs => ?_
 have h0 : At a 0 (.pointer (some ⟨pb, 0, none⟩)) := hargs 0 _ rfl
 clear hargs
 conv => arg 2; whnf
 refine wp_seq (who_subjects h a hsz h0 _ (fun a1 w1 hA1 hL1 hk1 => ?_))
 with_reducible apply then_normal
 refine wp_seq (who_irqs hL1 a1 (hA1.size.trans hsz) (hA1.at_ h0 rfl) _ (fun a2 w2 hA2 hL2 hk2 => ?_))
 with_reducible apply then_normal
 refine wp_seq (who_channels hL2 a2 (hA2.size.trans (hA1.size.trans hsz)) (hA2.at_ (hA1.at_ h0 rfl) rfl) _ (fun a3 w3 hA3 hL3 hk3 => ?_))
 with_reducible apply then_normal
 refine wp_seq (who_forbids hL3 a3 (hA3.size.trans (hA2.size.trans (hA1.size.trans hsz))) (hA3.at_ (hA2.at_ (hA1.at_ h0 rfl) rfl) rfl) _ (fun a4 w4 hA4 hL4 hk4 => ?_))
 with_reducible apply then_normal
 refine who_queues hL4 a4 (hA4.size.trans (hA3.size.trans (hA2.size.trans (hA1.size.trans hsz)))) (hA4.at_ (hA3.at_ (hA2.at_ (hA1.at_ h0 rfl) rfl) rfl) rfl) _ (fun a5 w5 hA5 hL5 hk5 => ?_)
 refine post_none rfl (hA5.defers.trans (hA4.defers.trans (hA3.defers.trans (hA2.defers.trans (hA1.defers.trans hdf))))) ⟨rfl, hL5.congr fun p => ?_, (((hk1.trans hk2 (fun _ _ e => e)).trans hk3 (fun _ _ e => e)).trans hk4 (fun _ _ e => e)).trans hk5 (fun _ _ e => e)⟩
 simp only [whoW, List.mem_append, List.mem_nil_iff, or_false]
 simp only [or_assoc, or_comm, or_left_comm]
end Go.Proofs.YtpblcjipmoblnaaGreatDoor
