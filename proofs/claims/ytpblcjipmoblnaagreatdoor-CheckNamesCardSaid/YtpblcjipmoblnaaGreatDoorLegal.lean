/- Reserved Legal -/
import Derived.Test.YtpblcjipmoblnaaGreatDoorNamesB
import Derived.Test.YtpblcjipmoblnaaGreatDoorShelfL
set_option maxRecDepth 100000
set_option maxHeartbeats 4000000
set_option linter.unusedVariables false
set_option linter.unusedSimpArgs false
namespace Go.Proofs.YtpblcjipmoblnaaGreatDoor
open Go.RowKit Go.IntWalk Go.Lib
def litOpd : Operand → ByteArray
 | .const (.string s) => s
 | _ => .empty
def litOp : Op → ByteArray
 | .call c => ((c.args[0]?).map litOpd).getD .empty
 | _ => .empty
noncomputable def litOf : Code → ByteArray
 | .region _ ops _ => ((ops[0]?).map fun o => litOp o.op).getD .empty
 | _ => .empty
noncomputable def resLit : ByteArray := litOf (codeC Tryz.f153 [1,0,0])
theorem resLit_fits : decide (resLit.size < 4294967281) = true := by kernel_rfl
theorem resLit_size : resLit.size < 4294967281 := of_decide_eq_true resLit_fits
noncomputable def resWords : List ByteArray := (fieldsD resLit.data.toList).map fun x => ⟨x.toArray⟩
noncomputable def reservedOf (s : ByteArray) : Int := if 0 ≤ idxOfS resWords s then 30 + idxOfS resWords s else 0
theorem fields_lit (w : World) (hT : TabIs Tryz.prog w "strings.asciiSpace" IntKind.u8 asciiSpaceTab) (hW : WhiteTab 7 w) :
 Calls Tryz.prog 166 #[.string resLit] w fun e w' => ∃ A, e = .returned (.slice (some ⟨A, 0, none⟩) resWords.length resWords.length) ∧ A < w'.heap.size ∧
  (∀ j, j < resWords.length → w'.cell? ⟨A, 0 + j, none⟩ = some (.string (resWords.getD j ByteArray.empty))) ∧ Below w.heap.size w w' := by
 refine (Tryz.strings_Fields_any resLit w resLit_size hT hW).mono ?_
 rintro e w' ⟨A, rfl, hA, hown, hb⟩
 have el : (fieldsD resLit.data.toList).length = resWords.length := by unfold resWords; rw [List.length_map]
 refine ⟨A, by rw [el], ?_, fun j hj => ?_, hb⟩
 · rcases Nat.eq_zero_or_pos (fieldsD resLit.data.toList).length with h0 | h0
   · rcases hown.2 with ⟨e1, _⟩ | ⟨g, cap, cur, e1, _, hg, _⟩
     · cases e1
     · cases e1; exact (Array.getElem?_eq_some_iff.1 hg).1
   · obtain ⟨g, cap, e1, _, h2⟩ := hown.form h0
     cases e1; exact h2
 · rw [Nat.zero_add, hown.cellAt j (by rw [el]; omega), List.getElem?_map]
   rw [← el] at hj
   unfold resWords
   simp [List.getElem?_eq_getElem hj, List.getD]
theorem words_few : resWords.length ≤ 1000 := of_decide_eq_true (show decide (resWords.length ≤ 1000) = true from by kernel_rfl)
theorem idxFrom_le : ∀ (zs : List ByteArray) (x : ByteArray) (k : Nat), -1 ≤ idxFromS zs x k ∧ idxFromS zs x k ≤ k + zs.length
 | [], x, k => by simp [idxFromS] <;> omega
 | z :: t, x, k => by
  have ih := idxFrom_le t x (k + 1)
  simp only [idxFromS, List.length_cons]
  split <;> omega
theorem slices_idx {w : World} (A : Nat) (s : ByteArray) (hc : ∀ j, j < resWords.length → w.cell? ⟨A, 0 + j, none⟩ = some (.string (resWords.getD j ByteArray.empty))) :
 Calls Tryz.prog 165 #[.slice (some ⟨A, 0, none⟩) resWords.length resWords.length, .string s] w fun e w' => e = .returned (.int .i64 (idxOfS resWords s)) ∧ w' = w := by
 have h := Tryz.slices_Index_string A 0 resWords.length resWords.length resWords s w (Nat.le_refl _) (by have := words_few; omega) hc
 rwa [List.take_length] at h
theorem reserved_any {s : ByteArray} {w : World} (hT : TabIs Tryz.prog w "strings.asciiSpace" IntKind.u8 asciiSpaceTab) (hW : WhiteTab 7 w) :
 Calls Tryz.prog 153 #[.string s] w fun e w' => e = .returned (.int .i64 (reservedOf s)) ∧ Below w.heap.size w w' := by
 have hF := Lib.hid (fields_lit w hT hW)
 clear hT hW
 obtain ⟨i, hi⟩ : ∃ i, i = idxOfS resWords s := ⟨_, rfl⟩
 have hb1 := (idxFrom_le resWords s 0).1
 have hb2 := (idxFrom_le resWords s 0).2
 have hb3 := words_few
 rw [show idxFromS resWords s 0 = idxOfS resWords s from rfl, ← hi] at hb1 hb2
 have hR : reservedOf s = if 0 ≤ i then 30 + i else 0 := by rw [hi]; rfl
 have HI := Lib.hid hi
 have HR := Lib.hid hR
 clear hi hR
 refine calls_abs Tryz.func153 Tryz.ntmps153 rfl (by simp) fun a hsz hdf hargs => ?_
 have h0 : At a 0 (.string s) := hargs 0 _ rfl
 clear hargs
 conv => arg 2; whnf
 refine wp_seq (Code.wp_only (R := fun a1 w1 => Agree (fun i => i == 2) a a1 ∧ w1 = w) ?_ ?_)
 · obtain ⟨T, d⟩ := a
   refine wp_region_lit ?_
   with_reducible refine st ?_
   with_reducible refine wpList_nil ?_
   refine ⟨rfl, ?_, rfl⟩
   exact ag
 rintro a1 w1 ⟨hA1, rfl⟩
 have hsz1 := hA1.size.trans hsz
 have hdf1 := hA1.defers.trans hdf
 have j0 := hA1.at_ h0 rfl
 refine wp_seq (wp_seq (Code.wp_only (R := fun a2 w2 => Agree (fun i => i == 3 || i == 4 || i == 5 || i == 6) a1 a2 ∧ At a2 3 (.int .i64 i) ∧ Below w1.heap.size w1 w2) ?_ ?_))
 · obtain ⟨T, d⟩ := a1
   refine wp_region_lit ?_
   with_reducible refine wpList_step (fun K hK => ?_)
   go_simp
   refine (show Calls Tryz.prog 166 #[.string resLit] w1 _ from hF.out).mono ?_
   rintro e w2 ⟨A, rfl, hA, hc, hbel⟩
   have hX := slices_idx A s hc
   rw [← HI.out] at hX
   have HX := Lib.hid hX
   have HB := Lib.hid hbel
   clear hX hc hbel
   with_reducible refine hK _ _ ?_
   clear hK K
   with_reducible refine st ?_
   with_reducible refine wpList_step (fun K hK => ?_)
   go_simp
   refine HX.out.mono ?_
   rintro e w3 ⟨rfl, rfl⟩
   with_reducible refine hK _ _ ?_
   clear hK K
   with_reducible refine st ?_
   with_reducible refine wpList_nil ?_
   refine ⟨rfl, ag, aq, HB.out⟩
 rintro a2 w2 ⟨hA2, k3, hbel⟩
 have hsz2 := hA2.size.trans hsz1
 have hdf2 := hA2.defers.trans hdf1
 obtain ⟨b, hb⟩ : ∃ b, b = decide (0 ≤ i) := ⟨_, rfl⟩
 refine wp_seq (Code.wp_only (R := fun a3 w3 => Agree (fun i => i == 7 || i == 8) a2 a3 ∧ At a3 8 (.bool b) ∧ w3 = w2) ?_ ?_)
 · obtain ⟨T, d⟩ := a2
   refine wp_region_lit ?_
   iterate 2 with_reducible refine st ?_
   with_reducible refine wpList_nil ?_
   refine ⟨rfl, ?_, ?_, rfl⟩
   · exact ag
   · rw [hb]
     exact aq
 rintro a3 w3 ⟨hA3, k8, rfl⟩
 have hsz3 := hA3.size.trans hsz2
 have hdf3 := hA3.defers.trans hdf2
 have e8 := k8.eval (by omega)
 have j3 := hA3.at_ k3 rfl
 cases b
 · refine wp_cond_false e8 (wp_skip ?_)
   repeat with_reducible apply then_normal
   have hi0 : ¬ 0 ≤ i := of_decide_eq_false hb.symm
   refine wp_seq (Code.wp_only (R := fun a4 w4 => Agree (fun i => i == 2) a3 a4 ∧ At a4 2 (.int .i64 0) ∧ w4 = w3) ?_ ?_)
   · clear hb
     obtain ⟨T, d⟩ := a3
     refine wp_region_lit ?_
     with_reducible refine st ?_
     with_reducible refine wpList_nil ?_
     refine ⟨rfl, ag, aq, rfl⟩
   rintro a4 w4 ⟨hA4, k2, rfl⟩
   refine wp_ret ?_
   refine post_tmp (t := 2) rfl k2 (by rw [hA4.size, hsz3]; decide) (hA4.defers.trans hdf3) ⟨by rw [HR.out, if_neg hi0], hbel⟩
 · refine wp_cond_true e8 ?_
   have hi0 : 0 ≤ i := of_decide_eq_true hb.symm
   have hw : IntKind.i64.wrap (30 + i) = 30 + i := i64_in _ (by omega)
   refine wp_seq (Code.wp_only (R := fun a4 w4 => Agree (fun i => i == 2 || i == 9 || i == 10) a3 a4 ∧ At a4 2 (.int .i64 (30 + i)) ∧ w4 = w3) ?_ ?_)
   · clear hb hi0
     obtain ⟨T, d⟩ := a3
     refine wp_region_lit ?_
     iterate 3 with_reducible refine st ?_
     with_reducible refine wpList_nil ?_
     refine ⟨rfl, ag, aq, rfl⟩
   rintro a4 w4 ⟨hA4, k2, rfl⟩
   refine wp_ret ?_
   repeat with_reducible apply then_ret
   refine post_tmp (t := 2) rfl k2 (by rw [hA4.size, hsz3]; decide) (hA4.defers.trans hdf3) ⟨by rw [HR.out, if_pos hi0], hbel⟩
def firstOf (s : ByteArray) : Nat := (s.data[0]?.getD 0).toNat
noncomputable def badHead (cls : Nat → Nat) (s : ByteArray) : Bool := decide (s.size < 1) || decide (32 < s.size) || !decide (classOf cls (firstOf s) = 4) || !decide (reservedOf s = 0)
noncomputable def legalOf (cls : Nat → Nat) (s : ByteArray) : Bool := !badHead cls s && !decide (0 ≤ idxFunc (strange cls) true s)
theorem legal_any {cls : Nat → Nat} {s : ByteArray} {w : World} (hC : ∀ w', Below w.heap.size w w' → ClassT cls w') (hT : TabIs Tryz.prog w "strings.asciiSpace" IntKind.u8 asciiSpaceTab) (hW : WhiteTab 7 w) :
 Calls Tryz.prog 141 #[.string s] w fun e w' => e = .returned (.bool (legalOf cls s)) ∧ Below w.heap.size w w' := by
 have HRS := Lib.hid (reserved_any (s := s) hT hW)
 have HCT := Lib.hid (hC w (Below.refl _ _))
 have HCO := Lib.hid (fun W (hb : Below w.heap.size w W) => Tryz.strings_ContainsFunc_runes 155 #[] (enters_of Tryz.func155 (by kernel_rfl) rfl) (strange cls) s W (fun W' x hx hb' => (strange_any (hC W' (hb.trans (hb'.mono hb.size))) x hx).mono fun e w' h => ⟨h.1, 0, h.2⟩))
 clear hT hW hC
 refine calls_abs Tryz.func141 Tryz.ntmps141 rfl (by simp) fun a hsz hdf hargs => ?_
 have h0 : At a 0 (.string s) := hargs 0 _ rfl
 clear hargs
 conv => arg 2; whnf
 refine wp_seq (Code.wp_only (R := fun a1 w1 => Agree (fun i => i == 2) a a1 ∧ w1 = w) ?_ ?_)
 · obtain ⟨T, d⟩ := a
   refine wp_region_lit ?_
   with_reducible refine st ?_
   with_reducible refine wpList_nil ?_
   refine ⟨rfl, ?_, rfl⟩
   exact ag
 rintro a1 w1 ⟨hA1, rfl⟩
 have hsz1 := hA1.size.trans hsz
 have hdf1 := hA1.defers.trans hdf
 have j0 := hA1.at_ h0 rfl
 refine wp_seq (wp_seq (Code.wp_only (R := fun a2 w2 => Agree (fun i => decide (3 ≤ i) && decide (i ≤ 21)) a1 a2 ∧ At a2 21 (.bool (badHead cls s)) ∧ Below w1.heap.size w1 w2) ?_ ?_))
 · have hun := undef_eq
   by_cases b1 : s.size < 1
   · have HB : Hid (badHead cls s = true) := Lib.hid (by simp [badHead, b1])
     have b1i : (s.size : Int) < 1 := by omega
     clear HRS HCO
     obtain ⟨T, d⟩ := a1
     refine wp_region_lit ?_
     iterate 19 with_reducible refine st ?_
     with_reducible refine wpList_nil ?_
     refine ⟨rfl, ?_, ?_, Below.refl _ _⟩
     · exact ag
     · rw [HB.out]
       exact aq
   · have b1i : ¬ (s.size : Int) < 1 := by omega
     by_cases b2 : 32 < s.size
     · have HB : Hid (badHead cls s = true) := Lib.hid (by simp [badHead, b2])
       have b2i : (32 : Int) < (s.size : Int) := by omega
       clear HRS HCO
       obtain ⟨T, d⟩ := a1
       refine wp_region_lit ?_
       iterate 19 with_reducible refine st ?_
       with_reducible refine wpList_nil ?_
       refine ⟨rfl, ?_, ?_, Below.refl _ _⟩
       · exact ag
       · rw [HB.out]
         exact aq
     · have b2i : ¬ (32 : Int) < (s.size : Int) := by omega
       have hp : 0 < s.size := by omega
       have hf : (s[0]'hp).toNat = firstOf s := by
        unfold firstOf
        rw [show s[0]'hp = s.data[0]'hp from rfl, Array.getElem?_eq_getElem hp]
        rfl
       have hcl := class_any HCT.out (firstOf s) (by rw [← hf]; exact (s[0]'hp).toNat_lt)
       rw [← hf] at hcl
       obtain ⟨c, hc⟩ : ∃ c, c = classOf cls (s[0]'hp).toNat := ⟨_, rfl⟩
       rw [← hc] at hcl
       rw [hf] at hc
       have HCL := Lib.hid hcl
       have HCC := Lib.hid hc
       clear hcl hc hf
       obtain ⟨T, d⟩ := a1
       refine wp_region_lit ?_
       by_cases b3 : c = 4
       · obtain ⟨r, hr⟩ : ∃ r, r = reservedOf s := ⟨_, rfl⟩
         obtain ⟨b4, hb4⟩ : ∃ b, b = !decide (r = 0) := ⟨_, rfl⟩
         have HB : Hid (badHead cls s = b4) := Lib.hid (by rw [hb4, hr]; simp [badHead, b1, b2, ← HCC.out, b3])
         have e4 : (r != 0) = b4 := by rw [hb4]; exact int_neb _ _
         have HRS2 := HRS
         rw [← hr] at HRS2
         have HR2 := Lib.hid HRS2.out
         have b3i : ((c : Int) != 4) = false := by rw [b3]; rfl
         subst b3
         clear hb4 hr HRS HRS2
         iterate 11 with_reducible refine st ?_
         with_reducible refine wpList_step (fun K hK => ?_)
         go_simp
         refine HCL.out.mono ?_
         rintro e w2 ⟨rfl, rfl⟩
         with_reducible refine hK _ _ ?_
         clear hK K
         iterate 4 with_reducible refine st ?_
         with_reducible refine wpList_step (fun K hK => ?_)
         go_simp
         refine HR2.out.mono ?_
         rintro e w3 ⟨rfl, hb3⟩
         have HBL := Lib.hid hb3
         clear hb3
         with_reducible refine hK _ _ ?_
         clear hK K
         iterate 2 with_reducible refine st ?_
         with_reducible refine wpList_nil ?_
         refine ⟨rfl, ?_, ?_, HBL.out⟩
         · exact ag
         · rw [HB.out]
           exact aq
       · have HB : Hid (badHead cls s = true) := Lib.hid (by simp [badHead, b1, b2, ← HCC.out, b3])
         have b3i : ((c : Int) != 4) = true := by simp; omega
         clear HRS HCO b3
         iterate 11 with_reducible refine st ?_
         with_reducible refine wpList_step (fun K hK => ?_)
         go_simp
         refine HCL.out.mono ?_
         rintro e w2 ⟨rfl, rfl⟩
         with_reducible refine hK _ _ ?_
         clear hK K
         iterate 7 with_reducible refine st ?_
         with_reducible refine wpList_nil ?_
         refine ⟨rfl, ?_, ?_, Below.refl _ _⟩
         · exact ag
         · rw [HB.out]
           exact aq
 rintro a2 w2 ⟨hA2, k21, hb2⟩
 have hsz2 := hA2.size.trans hsz1
 have hdf2 := hA2.defers.trans hdf1
 have l0 := hA2.at_ j0 rfl
 obtain ⟨b, hb⟩ : ∃ b, b = badHead cls s := ⟨_, rfl⟩
 rw [← hb] at k21
 have HB := Lib.hid hb
 clear hb
 have e21 := k21.eval (by omega)
 cases b
 · refine wp_cond_false e21 (wp_skip ?_)
   repeat with_reducible apply then_normal
   have hco := HCO.out w2 hb2
   obtain ⟨q, hq⟩ : ∃ q, q = decide (0 ≤ idxFunc (strange cls) true s) := ⟨_, rfl⟩
   rw [← hq] at hco
   have HC := Lib.hid hco
   have HQ := Lib.hid hq
   have HB2 := Lib.hid hb2
   clear hco hq hb2
   refine wp_seq (Code.wp_only (R := fun a4 w4 => Agree (fun i => i == 2 || i == 22 || i == 23 || i == 24) a2 a4 ∧ At a4 2 (.bool (!q)) ∧ Below w1.heap.size w1 w4) ?_ ?_)
   · obtain ⟨T, d⟩ := a2
     refine wp_region_lit ?_
     with_reducible refine st ?_
     with_reducible refine wpList_step (fun K hK => ?_)
     go_simp
     refine HC.out.mono ?_
     rintro e w4 ⟨rfl, hb4⟩
     have HB4 := Lib.hid hb4
     clear hb4
     with_reducible refine hK _ _ ?_
     clear hK K
     iterate 2 with_reducible refine st ?_
     with_reducible refine wpList_nil ?_
     refine ⟨rfl, ag, aq, HB2.out.trans (HB4.out.mono HB2.out.size)⟩
   rintro a4 w4 ⟨hA4, k2, hb4⟩
   refine wp_ret ?_
   refine post_tmp (t := 2) rfl k2 (by rw [hA4.size, hsz2]; decide) (hA4.defers.trans hdf2) ⟨by unfold legalOf; rw [← HB.out, ← HQ.out]; rfl, hb4⟩
 · refine wp_cond_true e21 ?_
   refine wp_seq (Code.wp_only (R := fun a4 w4 => Agree (fun i => i == 2) a2 a4 ∧ At a4 2 (.bool false) ∧ w4 = w2) ?_ ?_)
   · obtain ⟨T, d⟩ := a2
     refine wp_region_lit ?_
     with_reducible refine st ?_
     with_reducible refine wpList_nil ?_
     refine ⟨rfl, ag, aq, rfl⟩
   rintro a4 w4 ⟨hA4, k2, rfl⟩
   refine wp_ret ?_
   repeat with_reducible apply then_ret
   refine post_tmp (t := 2) rfl k2 (by rw [hA4.size, hsz2]; decide) (hA4.defers.trans hdf2) ⟨by unfold legalOf; rw [← HB.out]; rfl, hb2⟩
end Go.Proofs.YtpblcjipmoblnaaGreatDoor
