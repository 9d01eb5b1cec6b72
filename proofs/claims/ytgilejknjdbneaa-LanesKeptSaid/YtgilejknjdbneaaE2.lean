/- Earliest due first: the walk. -/
import Derived.Test.YtgilejknjdbneaaE1
import Derived.Deep.LoopGhost
import Derived.StillTailTactics
import Derived.Deep.CutRange
namespace Go.Proofs.Ytgilejknjdbneaa
open Go.RowKit Go.IntWalk
set_option maxRecDepth 100000 in
set_option maxHeartbeats 2000000 in
theorem earliest_some (M n : Nat) (A : Option Addr) (c : Nat) (xs : List Run) (w : World) (hM : 1 ≤ M) (hM2 : M ≤ 65536) (hxn : xs.length = n) (hn : n ≤ M) (hn0 : 0 < n)
    (hb : ∀ r ∈ xs, 1 ≤ r.bud ∧ r.bud ≤ 65536 ∧ 1 ≤ r.per ∧ r.per ≤ 65536) (hf : Edf.Fits n (Ln.nP xs) (Ln.nB xs)) (hr : RunsAt w A xs) :
    Calls Try.prog 37 #[.int .i64 M, .slice A n c] w fun e w' => ∃ v, e = .returned v ∧ w'.ownsRow w.heap.size 33 3 v (Ln.edf xs M).length (slotCells (Ln.edf xs M)) ∧ Below w.heap.size w w' := by
  obtain ⟨b, off, rfl, hbl, hcs⟩ := hr (by omega)
  have hpb : ∀ i, i < n → 1 ≤ Ln.nP xs i ∧ 1 ≤ Ln.nB xs i := fun i hi => by
    have h1 := List.getElem?_eq_getElem (l := xs) (i := i) (by omega)
    have h2 := hb _ (List.mem_of_getElem? h1)
    rw [Ln.nP_at h1, Ln.nB_at h1]; omega
  have hp : ∀ i, i < n → 1 ≤ Ln.nP xs i := fun i hi => (hpb i hi).1
  obtain ⟨P, hP⟩ : ∃ P, P = Ln.nP xs := ⟨_, rfl⟩
  obtain ⟨B, hB⟩ : ∃ B, B = Ln.nB xs := ⟨_, rfl⟩
  have hcell : ∀ i, i < n → ∃ s bd pd : _, Hid (Ln.nS xs i = s ∧ B i = bd ∧ P i = pd) ∧ 1 ≤ bd ∧ bd ≤ 65536 ∧ 1 ≤ pd ∧ pd ≤ 65536 ∧ w.cell? ⟨b, off + i * 4 + 1, none⟩ = some (.string s) ∧ w.cell? ⟨b, off + i * 4 + 2, none⟩ = some (.int .u64 bd) ∧ w.cell? ⟨b, off + i * 4 + 3, none⟩ = some (.int .u64 pd) := fun i hi => by
    have h1 := List.getElem?_eq_getElem (l := xs) (i := i) (by omega)
    obtain ⟨b1, b2, b3, b4⟩ := hb _ (List.mem_of_getElem? h1)
    obtain ⟨_, q1, q2, q3⟩ := hcs i _ h1
    refine ⟨_, _, _, ⟨Ln.nS_at h1, ?_, ?_⟩, b1, b2, b3, b4, q1, q2, q3⟩
    · rw [hB, Ln.nB_at h1]
    · rw [hP, Ln.nP_at h1]
  rw [← hP, ← hB] at hf hpb
  rw [← hP] at hp
  obtain ⟨R, hR⟩ : ∃ R, R = Ln.edf xs := ⟨_, rfl⟩
  have hR0 : R 0 = [] := by rw [hR]; rfl
  have hRm : ∀ t c o, (∀ s, s < c → Edf.who n P B (t + s) = o) → 0 < c → R (t + c) = Ln.run (R t) (Edf.nameOf (Ln.nS xs) o) (c : Int) := fun t c o h1 h2 => by
    rw [hR, Ln.edf, Ln.edf, hxn]
    rw [hP, hB] at h1
    exact Edf.rows_more h1 h2
  have hRu : ∀ t : Nat, Ln.UpTo t (R t) ∧ (R t).length ≤ t := fun t => by
    have := Ln.upTo_ticks (Edf.ticks xs.length (Ln.nP xs) (Ln.nB xs) (Ln.nS xs) t) (Ln.upTo_nil (0 : Nat))
    rw [Edf.ticks_length] at this
    rw [hR]
    unfold Ln.edf
    simpa using this
  rw [← hR]
  clear hr hcs hb hxn hP hB hR
  have HCell := Lib.hid hcell
  have HF := Lib.hid hf
  have HPB := Lib.hid hpb
  have HP := Lib.hid hp
  have HR0 := Lib.hid hR0
  have HRm := Lib.hid hRm
  have HRu := Lib.hid hRu
  clear hcell hf hpb hp hR0 hRm hRu
  go_enter Try.func37, Try.ntmps37
  go_wp2
  obtain ⟨p, hp⟩ : ∃ p, p = w.heap.size := ⟨_, rfl⟩
  obtain ⟨gw, hgw⟩ : ∃ gw, gw = p + 1 := ⟨_, rfl⟩
  obtain ⟨PW, hPW⟩ : ∃ PW, PW = p + 1 + 1 := ⟨_, rfl⟩
  obtain ⟨gn, hgn⟩ : ∃ gn, gn = p + 1 + 1 + 1 := ⟨_, rfl⟩
  obtain ⟨PN, hPN⟩ : ∃ PN, PN = p + 1 + 1 + 1 + 1 := ⟨_, rfl⟩
  rw [← hp, ← hPN, ← hgn, ← hPW, ← hgw]
  obtain ⟨wo, hwo⟩ : ∃ wo, wo = (((((w.alloc (Obj.cells #[Value.slice none 0 0] 74)).alloc (Obj.cells #[] 96)).alloc (Obj.cells #[Value.slice (some ⟨gw, 0, none⟩) 0 0] 93)).alloc (Obj.cells #[] 96)).alloc (Obj.cells #[Value.slice (some ⟨gn, 0, none⟩) 0 0] 93)) := ⟨_, rfl⟩
  rw [← hwo]
  have hst := ESt.start w p PW PN gw gn wo hp hgw hPW hgn hPN hwo
  have HSt := Lib.hid hst
  have hbz : b < w.heap.size := hbl
  clear hst hwo hgw hPW hgn hPN hp hbl
  go_loopg [21] n (fun k i wr => ∃ (j : Nat) (vn : Value) (nl : List Job), i = .int .i64 j ∧ k + j = n ∧ Hid (ESt w.heap.size w wr p PW PN (.slice none 0 0) (.slice (some ⟨gw, 0, none⟩) 0 0) vn [] [] nl) ∧ Hid (nl.Perm (Edf.nextOf (fun _ => 0) j)) ∧ Hid (Ln.IsHeap nl nl.length))
  case atStart => exact ⟨0, _, [], rfl, rfl, HSt.out, List.Perm.refl _, fun k x y _ h1 => by simp at h1⟩
  case round =>
    obtain ⟨j, vn, nl, rfl, hkj, HE, HPm, HH⟩ := hrel
    have hnl : nl.length = j := by rw [HPm.out.length_eq, Edf.nextOf_length]
    have HNL := Lib.hid hnl
    have hnl2 : nl.length ≤ 900000000 := by omega
    have hjb : j ≤ n := by omega
    have HKJ := Lib.hid hkj
    clear hnl hkj
    by_cases hlt : j < n
    · go_wp2_with fail
      refine (push_any wr PN vn nl ⟨j, 0, 0⟩ hnl2 HE.out.next HH.out).mono ?_
      rintro e w1 ⟨rfl, v', l', hp', hh', hat', hk', ho'⟩
      have he := HE.out.onNext HE.out.size hk' hat' ho'
      have HE' := Lib.hid he
      have HPm' := Lib.hid hp'
      have HH' := Lib.hid hh'
      clear hp' hh' hat' hk' ho' he
      go_wp2
      go_roundg (n - (j + 1))
      case measure => have := HKJ.out; omega
      case rel => exact ⟨j + 1, v', l', by go_num, by omega, HE'.out, HPm'.out.trans ((HPm.out.append_right _)), HH'.out⟩
    · have hjn : n = j := by omega
      have hat := HE.out.next
      subst hjn
      have hnl3 : nl.length = n := HNL.out
      obtain ⟨t0, ht0⟩ : ∃ t0 : Nat, t0 = 0 := ⟨_, rfl⟩
      have Ht0 := Lib.hid ht0
      clear hlt hat hnl2 hnl3 ht0
      go_wp2
      go_loopg [9] M (fun k i wr => ∃ (t : Nat) (rv vw vn : Value) (wl nl : List Job), i = .int .i64 t ∧ k + t = M ∧ Hid (ESt w.heap.size w wr p PW PN rv vw vn (R t) wl nl) ∧ Hid (Edf.HeadInv n P B t wl nl) ∧ Hid (Ln.IsHeap wl wl.length) ∧ Hid (Ln.IsHeap nl nl.length))
      case atStart =>
        refine ⟨0, .slice none 0 0, .slice (some ⟨gw, 0, none⟩) 0 0, vn, [], nl, rfl, rfl, ?_, Edf.headInv_zero rfl HPm.out, fun k x y _ h1 => by simp at h1, HH.out⟩
        rw [HR0.out]; exact HE.out
      case round =>
        clear HE HPm HH HKJ HNL
        obtain ⟨t, rv, vw, vn, wl, nl, rfl, hkt, HE, HI, HW, HN⟩ := hrel
        have HKT := Lib.hid hkt
        have htM : t ≤ M := by omega
        clear hkt
        by_cases hlt : t < M
        · go_wp2
          go_loopg [] (Edf.todo n t (Edf.nx P t)) (fun k wr => ∃ (L N : Nat → Nat) (vw vn : Value) (wl nl : List Job), Hid (k = Edf.todo n t N) ∧ Hid (ESt w.heap.size w wr p PW PN rv vw vn (R t) wl nl) ∧ Hid (Edf.RelInv n P B t L N wl nl) ∧ Hid (Ln.IsHeap wl wl.length) ∧ Hid (Ln.IsHeap nl nl.length))
          case atStart => exact ⟨_, _, vw, vn, wl, nl, rfl, HE.out, HI.out.rel HF.out HP.out, HW.out, HN.out⟩
          case round =>
            clear HE HI HW HN vw vn wl nl
            obtain ⟨L, N, vw, vn, wl, nl, HK, HE, HI, HW, HN⟩ := hrel
            have hnl : nl.length = n := by rw [HI.out.next.length_eq, Edf.nextOf_length]
            obtain ⟨r, hr⟩ : ∃ r, nl[0]? = some r := ⟨_, List.getElem?_eq_getElem (by omega)⟩
            obtain ⟨gx, cx, hvn, hox, hgx⟩ := HE.out.next.form (by omega)
            rw [hnl] at hvn
            subst hvn
            have hcn := HE.out.next.var.cell
            obtain ⟨d0, d1, d2⟩ := HE.out.next.root hnl hr
            have HNL := Lib.hid hnl
            have HR := Lib.hid hr
            clear hnl hox hr
            by_cases hd : r.due = t
            · obtain ⟨k, hk, hrk, hstep⟩ := HI.out.step HPB.out HN.out HR.out hd
              obtain ⟨k0, _, hr0, _⟩ := Edf.next_root HI.out.next HN.out HR.out
              have hr1 : r = ⟨k, t, 0⟩ := by
                obtain ⟨a, b, c⟩ := r
                simp only at hd hrk
                injection hr0 with h1 h2 h3
                rw [hd, hrk, h3]
              obtain ⟨s, bd, pd, HC, b1, b2, b3, b4, q1, q2, q3⟩ := HCell.out k hk
              subst hr1
              have HStep := Lib.hid hstep
              have hki : (k : Int) < n := by omega
              clear hstep hr0 hrk hd
              simp only at d0 d1 d2
              rw [← HE.out.below.cell (p := ⟨b, _, none⟩) hbz] at q1 q2 q3
              have hbq : b < wr.heap.size := by have := HE.out.size; omega
              go_wp2_with fail
              refine (len_any wr (some ⟨gx, 0, none⟩) n cx).mono ?_
              rintro e w1 ⟨rfl, rfl⟩
              go_wp2_with fail
              obtain ⟨px, hpx⟩ : ∃ px, px = wr.heap.size := ⟨_, rfl⟩
              obtain ⟨wx, hwx⟩ : ∃ wx, wx = wr.alloc (Obj.cells #[Value.int IntKind.i64 ↑k, Value.int IntKind.i64 ↑t, Value.int IntKind.i64 0] 96) := ⟨_, rfl⟩
              rw [← hwx, ← hpx]
              have hex : ESt w.heap.size w wx p PW PN rv vw (.slice (some ⟨gx, 0, none⟩) n cx) (R t) wl nl := by rw [hwx]; exact HE.out.alloc HE.out.size _
              have x0 : wx.cell? ⟨px, 0, none⟩ = some (.int .i64 k) := by rw [hwx, World.cell?_alloc_at _ _ _ _ (by rw [hpx])]; rfl
              have hbq2 : b < wx.heap.size := by have := hex.size; omega
              have q2' : wx.cell? ⟨b, off + k * 4 + 2, none⟩ = some (.int .u64 bd) := by rw [hwx, World.cell?_alloc_past _ _ _ hbq]; exact q2
              have HEx := Lib.hid hex
              clear hex d0 d1 d2 hcn hwx hpx q1 q2 q3 hbq
              go_still_tail 16, (by kernel_rfl)
              change wpList _ _ _ _ _ wx.drew
              obtain ⟨wy, hwy⟩ : ∃ wy, wy = wx.drew := ⟨_, rfl⟩
              have hey : ESt w.heap.size w wy p PW PN rv vw (.slice (some ⟨gx, 0, none⟩) n cx) (R t) wl nl := by rw [hwy]; exact HEx.out.keepN HEx.out.size ((Keep.refl _ _).drew)
              rw [← hwy]
              have HEy := Lib.hid hey
              have hwl : wl.length ≤ 900000000 := by
                have h1 := HI.out.wait.length_eq
                have h2 := Edf.jobsOf_length L (Edf.due P t) n
                omega
              clear hwy x0 q2' hey
              go_wp2_with fail
              refine (push_any wy PW vw wl ⟨k, (t : Int) + pd, bd⟩ hwl HEy.out.wait HW.out).mono ?_
              rintro e w3 ⟨rfl, vw', wl', hpw, hhw, hat3, hk3, ho3⟩
              have he3 := HEy.out.onWait HEy.out.size hk3 hat3 ho3
              have hcn := he3.next.var.cell
              obtain ⟨d0, d1, d2⟩ := he3.next.root HNL.out HR.out
              have hf3 : w3.frozen? ⟨gx, 1, none⟩ = false := by have h := he3.next.own; rw [HNL.out] at h; exact h.frozenAt 1
              obtain ⟨hset, hkset⟩ := he3.next.set_cell HR.out HNL.out.symm (i := 1) (d := (t : Int) + pd) (r' := ⟨k, (t : Int) + pd, 0⟩) (.inl ⟨rfl, rfl⟩)
              obtain ⟨w4, hw4⟩ : ∃ w4, w4 = w3.setCell ⟨gx, 1, none⟩ (.int .i64 ((t : Int) + pd)) := ⟨_, rfl⟩
              rw [← hw4] at hset hkset
              have he4 := he3.onNext he3.size (hkset.mono (T := fun k => k = PN ∨ (Value.slice (some ⟨gx, 0, none⟩) n cx).ownBlock = some k) (fun i _ h => .inr (by rw [h]; rfl))) hset (.inl rfl)
              have HE4 := Lib.hid he4
              have HPW := Lib.hid hpw
              have HHW := Lib.hid hhw
              have HSet := Lib.hid hset
              simp only at d1
              clear hset hkset he4 he3 hat3 hk3 ho3 hpw hhw d0 d2
              go_wp2_with fail
              rw [← hw4]
              clear hw4 hcn d1 hf3
              have hls : (nl.set 0 ⟨k, (t : Int) + pd, 0⟩).length = n := by rw [List.length_set, HNL.out]
              have hun := Edf.heap_set_under (r' := ⟨k, (t : Int) + pd, 0⟩) HN.out
              rw [HNL.out] at hun
              refine (fix_any w4 PN gx cx n (nl.set 0 ⟨k, (t : Int) + pd, 0⟩) hls (by omega) (by omega) HSet.out hun).mono ?_
              rintro e w5 ⟨rfl, nl', hpn, hhn, hat5, hk5⟩
              have he5 := HE4.out.onNext HE4.out.size (hk5.mono (T := fun k => k = PN ∨ (Value.slice (some ⟨gx, 0, none⟩) n cx).ownBlock = some k) (fun i _ h => .inr (by rw [h]; rfl))) hat5 (.inl rfl)
              obtain ⟨hc1, hc2, hc3⟩ := HC.out
              have hfin := HStep.out wl' nl' (by rw [hc2, hc3]; have h := HPW.out; simpa using h) (by rw [hc3]; simpa using hpn)
              have HFin := Lib.hid hfin
              have HE5 := Lib.hid he5
              have HHN := Lib.hid hhn
              clear hfin he5 hhn hpn hat5 hk5 hc1 hc2 hc3 hls hun
              go_wp2
              go_roundg (Edf.todo n t (Edf.set1 N k (t + P k)))
              case measure => rw [HK.out]; exact HFin.out.2
              case rel => exact ⟨_, _, vw', _, wl', nl', rfl, HE5.out, HFin.out.1, HHW.out, HHN.out⟩
            · have haf := HI.out.after HP.out HN.out (fun r' hr' => by have h := HR.out; rw [h] at hr'; injection hr' with hr'; rw [← hr']; exact hd)
              obtain ⟨u, hu1, hu2, hu3⟩ := haf.until HP.out HN.out HR.out
              rw [hu1] at d1
              have hbf : ((u : Int) == (t : Int)) = false := by simp; omega
              obtain ⟨Aw, cw, hvw⟩ := HE.out.wait.slice
              obtain ⟨m, hm⟩ : ∃ m, m = wl.length := ⟨_, rfl⟩
              rw [← hm] at hvw
              subst hvw
              have hcw := HE.out.wait.var.cell
              have HAF := Lib.hid haf
              have HU3 := Lib.hid hu3
              have Hm := Lib.hid hm
              clear haf hu3 hm hu1 hd d0 d2 HI
              have HR : Hid True := trivial
              go_wp2_with fail
              refine (len_any wr (some ⟨gx, 0, none⟩) n cx).mono ?_
              rintro e w1 ⟨rfl, rfl⟩
              go_wp2_with fail
              refine (len_any wr (some ⟨gx, 0, none⟩) n cx).mono ?_
              rintro e w1 ⟨rfl, rfl⟩
              go_upto_region 19 with fail
              go_cut [12] from 31 to 155 (fun v wx => ∃ U : Nat, v = .int .i64 U ∧ U ≤ M ∧ U ≤ u ∧ t < U ∧ wx = wr)
              case first =>
                go_wp2_with fail
                all_goals go_meet
                · exact ⟨u, rfl, by omega, by omega, by omega, rfl⟩
                · exact ⟨M, rfl, by omega, by omega, by omega, rfl⟩
              case rest =>
              obtain ⟨U, rfl, hU1, hU2, hU3, rfl⟩ := hcut
              clear d1 hcn hbf
              go_wp2_with fail
              refine (len_any _ Aw m cw).mono ?_
              rintro e w1 ⟨rfl, rfl⟩
              by_cases hm0 : m = 0
              · subst hm0
                have hUt : (U : Int) - t = ((U - t : Nat) : Int) := by omega
                obtain ⟨hwho, hhead⟩ := HAF.out.idle HF.out HP.out Hm.out.symm (c := U - t) (by omega) (fun i hi => by have := HU3.out i hi; omega)
                have hru := HRm.out t (U - t) none hwho (by omega)
                have e2 : t + (U - t) = U := by omega
                rw [e2] at hhead hru
                obtain ⟨up1, up2⟩ := HRu.out t
                have hl2 : (R t).length ≤ 1000000000 := by omega
                have HUp := Lib.hid up1
                have HHead := Lib.hid hhead
                have HRun := Lib.hid hru
                have HUt := Lib.hid hUt
                clear hUt hwho hhead hru e2 up1 up2
                go_wp2_with fail
                refine (run_any wc p (p + 1) rv (R t) ByteArray.empty ((U : Int) - t) ⟨by omega, by omega⟩ (fun x hx => by have := HUp.out x hx; omega) hl2 HE.out.vp (by omega) (by have := HE.out.vp.lt; omega) HE.out.row).mono ?_
                rintro e w2 ⟨rfl, rv', hv', hown', hk'⟩
                have he2 := HE.out.onRow HE.out.size hk' hv' hown'
                rw [HUt.out] at he2
                have hrr : Ln.run (R t) ByteArray.empty ((U - t : Nat) : Int) = R U := HRun.out.symm
                rw [hrr] at he2
                have HE2 := Lib.hid he2
                clear hv' hown' hk' he2 hrr
                go_wp2
                go_roundg (M - U)
                case measure => have := HKT.out; omega
                case rel => exact ⟨U, rv', _, _, wl, nl, rfl, by omega, HE2.out, HHead.out, HW.out, HN.out⟩
              · obtain ⟨x, hx⟩ : ∃ x, wl[0]? = some x := ⟨_, List.getElem?_eq_getElem (by have := Hm.out; omega)⟩
                obtain ⟨k, l, hk, hl, hlb, hxe, hall⟩ := HAF.out.busy HF.out HP.out HW.out hx
                obtain ⟨gy, cy, hvy, hoy, hgy⟩ := HE.out.wait.form (by have := Hm.out; omega)
                injection hvy with hA hmm hcc
                subst hA
                subst hcc
                obtain ⟨d0, d1, d2⟩ := HE.out.wait.root Hm.out.symm hx
                rw [hxe] at d0 d1 d2
                simp only at d0 d1 d2
                obtain ⟨s, bd, pd, HC, _, _, _, _, q1, _, _⟩ := HCell.out k hk
                rw [HC.out.2.1] at hlb
                rw [← HE.out.below.cell (p := ⟨b, _, none⟩) hbz] at q1
                have hbq : b < wc.heap.size := by have := HE.out.size; omega
                have hm1 : (0 : Int) < m := by omega
                have hki : (k : Int) < n := by omega
                obtain ⟨dk, hdk⟩ : ∃ dk : Nat, dk = Edf.due P t k := ⟨_, rfl⟩
                rw [← hdk] at hxe hall
                have HAll := Lib.hid hall
                have HX : Hid (wl[0]? = some ⟨k, dk, l⟩) := by rw [hx, hxe]; rfl
                clear hall hx hxe hdk hoy hmm d1 hm0
                go_upto_region 24 with fail
                go_cut [14] from 31 to 155 (fun v wx => ∃ cc : Nat, v = .int .i64 cc ∧ 1 ≤ cc ∧ cc ≤ l ∧ t + cc ≤ U ∧ wx = wc)
                case first =>
                  go_wp2_with fail
                  all_goals go_meet
                  · exact ⟨U - t, by go_num, by omega, by omega, by omega, rfl⟩
                  · exact ⟨l, rfl, by omega, by omega, by omega, rfl⟩
                case rest =>
                obtain ⟨cc, rfl, hc1, hc2, hc3, rfl⟩ := hcut
                obtain ⟨hwho, hless, heq⟩ := HAll.out cc hc1 hc2 (fun i hi => by have := HU3.out i hi; omega)
                have hru := HRm.out t cc (some k) hwho (by omega)
                obtain ⟨up1, up2⟩ := HRu.out t
                have hl2 : (R t).length ≤ 1000000000 := by omega
                have HUp := Lib.hid up1
                have HLess := Lib.hid hless
                have HEq := Lib.hid heq
                have HRun := Lib.hid hru
                clear hwho hless heq hru up1 up2 d2
                go_wp2_with fail
                refine (run_any wc p (p + 1) rv (R t) s cc ⟨by omega, by omega⟩ (fun x hx => by have := HUp.out x hx; omega) hl2 HE.out.vp (by omega) (by have := HE.out.vp.lt; omega) HE.out.row).mono ?_
                rintro e w2 ⟨rfl, rv', hv', hown', hk'⟩
                have he2 := HE.out.onRow HE.out.size hk' hv' hown'
                have hrr : Ln.run (R t) s (cc : Int) = R (t + cc) := by rw [HRun.out, ← HC.out.1]; rfl
                rw [hrr] at he2
                have hcw2 := he2.wait.var.cell
                obtain ⟨d0', d1', d2'⟩ := he2.wait.root Hm.out.symm HX.out
                simp only at d0' d1' d2'
                have hf2 : w2.frozen? ⟨gy, 2, none⟩ = false := by have h := he2.wait.own; rw [← Hm.out] at h; exact h.frozenAt 2
                obtain ⟨hset, hkset⟩ := he2.wait.set_cell HX.out Hm.out (i := 2) (d := (l : Int) - cc) (r' := ⟨k, dk, (l : Int) - cc⟩) (.inr ⟨rfl, rfl⟩)
                obtain ⟨wz, hwz⟩ : ∃ wz, wz = w2.setCell ⟨gy, 2, none⟩ (.int .i64 ((l : Int) - cc)) := ⟨_, rfl⟩
                rw [← hwz] at hset hkset
                have hez := he2.onWait he2.size (hkset.mono (T := fun k => k = PW ∨ (Value.slice (some ⟨gy, 0, none⟩) m cw).ownBlock = some k) (fun i _ h => .inr (by rw [h]; rfl))) hset (.inl rfl)
                have hwlen : (wl.set 0 ⟨k, dk, (l : Int) - cc⟩).length = m := by rw [List.length_set]; exact Hm.out.symm
                have hroot : (wl.set 0 ⟨k, dk, (l : Int) - cc⟩)[0]? = some ⟨k, dk, (l : Int) - cc⟩ := by rw [List.getElem?_set_self]; have := Hm.out; omega
                obtain ⟨_, _, z2⟩ := hset.root hwlen hroot
                simp only at z2
                have hheap := Edf.heap_set_same (c := (l : Int) - cc) HW.out HX.out
                simp only at hheap
                have HEz := Lib.hid hez
                have HSet := Lib.hid hset
                have HLen := Lib.hid hwlen
                have HRoot := Lib.hid hroot
                have HHeap := Lib.hid hheap
                clear hset hkset hez he2 hv' hown' hk' hrr hwlen hroot hheap d0' d1' q1
                go_upto_region 28 with fail
                rw [← hwz]
                clear hwz hcw2 d2' hf2
                by_cases hcl : cc < l
                · have hz : ((l : Int) - cc == 0) = false := by simp; omega
                  go_wp2
                  go_roundg (M - (t + cc))
                  case measure => have := HKT.out; omega
                  case rel => exact ⟨t + cc, rv', _, _, wl.set 0 ⟨k, dk, (l : Int) - cc⟩, nl, by go_num, by omega, HEz.out, HLess.out hcl, by rw [HLen.out, Hm.out]; exact HHeap.out, HN.out⟩
                · have hcl2 : l = cc := by omega
                  have hz : ((l : Int) - cc == 0) = true := by simp; omega
                  have hl0 : (l : Int) - cc = 0 := by omega
                  obtain ⟨m', hm'⟩ : ∃ m', m = m' + 1 := ⟨m - 1, by omega⟩
                  have HL0 := Lib.hid hl0
                  have HM' := Lib.hid hm'
                  have hmle : m ≤ 900000000 := by
                    have h1 := HAF.out.wait.length_eq
                    have h2 := Edf.jobsOf_length (Edf.rel P B t (Edf.st n P B t)) (Edf.due P t) n
                    have h3 := Hm.out
                    omega
                  have hheap2 := HHeap.out
                  rw [← Hm.out] at hheap2
                  have HH2 := Lib.hid hheap2
                  have HCL := Lib.hid hcl2
                  clear hl0 hm' hheap2 hcl2
                  go_wp2_with fail
                  refine (pop_any wz PW gy cw m m' (wl.set 0 ⟨k, dk, (l : Int) - cc⟩) ⟨k, dk, (l : Int) - cc⟩ HLen.out HM'.out hmle HRoot.out HSet.out HH2.out).mono ?_
                  rintro e w3 ⟨rfl, vw', wl', hpw, hhw, hat3, hk3, ho3⟩
                  have he3 := HEz.out.onWait HEz.out.size (hk3.mono (T := fun k => k = PW ∨ (Value.slice (some ⟨gy, 0, none⟩) m cw).ownBlock = some k) (fun i _ h => by rcases h with h | h; exact .inl h; exact .inr (by rw [h]; rfl))) hat3 (.inl (by rw [ho3]; rfl))
                  have HE3 := Lib.hid he3
                  have HPW := Lib.hid hpw
                  have HHW := Lib.hid hhw
                  clear he3 hpw hhw hat3 hk3 ho3
                  go_wp2
                  go_roundg (M - (t + cc))
                  case measure => have := HKT.out; omega
                  case rel => exact ⟨t + cc, rv', vw', _, wl', nl, by go_num, by omega, HE3.out, HEq.out HCL.out.symm wl' (by have h := HPW.out; rw [HL0.out] at h; exact h), HHW.out, HN.out⟩
        · have htm : t = M := by omega
          have Htm := Lib.hid htm
          have hcp := HE.out.vp.cell
          clear htm
          go_wp2
          go_ret
          refine ⟨rv, rfl, ?_, HE.out.below⟩
          rw [← Htm.out]
          exact own_base_low HE.out.row (by have := HE.out.lowp; omega)
end Go.Proofs.Ytgilejknjdbneaa
