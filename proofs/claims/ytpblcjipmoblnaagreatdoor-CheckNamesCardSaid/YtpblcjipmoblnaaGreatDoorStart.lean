/- Start -/
import Derived.Test.YtpblcjipmoblnaaGreatDoorKnown
import Derived.Test.YtpblcjipmoblnaaGreatDoorShelfL
import Derived.Lib.LaidU8
import Derived.LaidHandle
import Derived.Shelf.Vars
set_option maxRecDepth 100000
set_option maxHeartbeats 4000000
set_option linter.unusedVariables false
set_option linter.unusedSimpArgs false
namespace Go.Proofs.YtpblcjipmoblnaaGreatDoor
open Go.RowKit Go.Lib
theorem laid_parts {W : World} (h : laidMetH Tryz.prog Rows.checkNamesRow.laid W) :
 laidMet Tryz.prog (Rows.checkNamesRow.laid.filter fun x => x.2.handleName?.isNone) W ∧ handlesMet Tryz.prog [("errors.errorType", Rows.laid_errors_errorType)] W := by
 have e : Rows.checkNamesRow.laid.filter (fun x => x.2.handleName?.isSome) = [("errors.errorType", Rows.laid_errors_errorType)] := by kernel_rfl
 unfold laidMetH at h
 simp only [e] at h
 exact h
theorem err_rows : ((List.range Tryz.prog.types.size).filter fun t => Tryz.prog.rowNamed t [101, 114, 114, 111, 114]) = [111] := by kernel_rfl
theorem err_start {W : World} (h : handlesMet Tryz.prog [("errors.errorType", Rows.laid_errors_errorType)] W) : ErrT W := by
 have het : Tryz.prog.globalNamed "errors.errorType" = some 0 := by kernel_rfl
 have hrt : (Tryz.prog.cutTypes.find? (·.1 == "internal/reflectlite.rtype")).map (·.2) = some 230 := by kernel_rfl
 obtain ⟨name, u, ty, e1, e2, e3, e4, e5⟩ := h _ (List.mem_singleton.2 rfl)
 have en : name = [101, 114, 114, 111, 114] := (Option.some.inj e1).symm
 subst en
 obtain rfl := Option.some.inj (hrt.symm.trans e2)
 have hm : ty ∈ (List.range Tryz.prog.types.size).filter fun t => Tryz.prog.rowNamed t [101, 114, 114, 111, 114] := List.mem_filter.2 ⟨List.mem_range.2 e3, e4⟩
 rw [err_rows] at hm
 obtain rfl := List.mem_singleton.1 hm
 have hh : typeHandle Tryz.prog 111 = .pointer (some ⟨13, 111, none⟩) := by kernel_rfl
 rw [hh] at e5
 unfold ErrT
 simpa using World.var?_cell het e5 0
theorem tab_start {W : World} {n : String} {k : IntKind} {zs : List Int} {m : Nat} {t e : TypeId} {g : Nat} (hg : Tryz.prog.globalNamed n = some g) (hty : (Tryz.prog.globals[g]?).map (·.type) = some t)
 (ht : Tryz.prog.underlying t = some (.array m e)) (he : Tryz.prog.underlying e = some (.int k)) (hce : Tryz.prog.cellsOf e = 1) (hct : Tryz.prog.cellsOf t = m) (h : VarReads Tryz.prog W n (tabData k zs)) : TabIs Tryz.prog W n k zs := by
 obtain ⟨g', t', cs, fuel, p, hg', hty', hvar, hd⟩ := h
 obtain rfl := Option.some.inj (hg.symm.trans hg')
 obtain rfl := Option.some.inj (hty.symm.trans hty')
 have hcs := cells_of_tab ht he hce hct hd
 unfold TabIs
 rw [hvar]
 exact congrArg some (Array.ext' hcs)
theorem iface_start {W : World} {n : String} {t : TypeId} {g : Nat} {ms : Array (String × TypeId)} {d : DataW Unit} (hg : Tryz.prog.globalNamed n = some g) (hty : (Tryz.prog.globals[g]?).map (·.type) = some t)
 (ht : Tryz.prog.underlying t = some (.interface ms)) (h : VarReads Tryz.prog W n d) : ∃ v, W.cell? ⟨g, 0, none⟩ = some v ∧ ErrV v := by
 obtain ⟨g', t', cs, fuel, p, hg', hty', hvar, hd⟩ := h
 obtain rfl := Option.some.inj (hg.symm.trans hg')
 obtain rfl := Option.some.inj (hty.symm.trans hty')
 have hc := World.var?_cell hg hvar 0
 cases fuel with
 | zero => simp [DataW.trod] at hd
 | succ fuel =>
  have : ∃ v, cs.toList = [v] ∧ ErrV v := by
   simp only [DataW.trod, ht] at hd
   split at hd <;> simp_all [ErrV]
  obtain ⟨v, hv, he⟩ := this
  have e : cs = #[v] := Array.ext' hv
  subst e
  exact ⟨v, hc, he⟩
theorem tab_below {n : String} {g : Nat} {k : IntKind} {zs : List Int} {w w' : World} (hg : Tryz.prog.globalNamed n = some g) (h : TabIs Tryz.prog w n k zs) (hb : Below w.heap.size w w') : TabIs Tryz.prog w' n k zs := by
 unfold TabIs World.var? at h ⊢
 rw [hg] at h ⊢
 simp only [Option.bind_some] at h ⊢
 have hlt : g < w.heap.size := by
  rcases Nat.lt_or_ge g w.heap.size with h' | h'
  · exact h'
  · rw [Array.getElem?_eq_none h'] at h; cases h
 rw [hb.block g hlt]
 exact h
theorem ScanT.below {w w' : World} (h : ScanT clsG w) (hb : Below w.heap.size w w') : ScanT clsG w' := by
 have lt : ∀ {a : Addr} {v : Value}, w.cell? a = some v → a.block < w.heap.size := fun {a v} hc => by
  rcases Nat.lt_or_ge a.block w.heap.size with h' | h'
  · exact h'
  · simp [World.cell?, Array.getElem?_eq_none h'] at hc
 have keep : ∀ {a : Addr} {v : Value}, w.cell? a = some v → w'.cell? a = some v := fun {a v} hc => (hb.cell (lt hc)).trans hc
 refine ⟨fun i hi => keep (h.cls i hi), tab_below (g := 2) (by kernel_rfl) h.space hb, ?_, tab_below (g := 5) (by kernel_rfl) h.pow hb, ?_, ?_, ?_⟩
 · obtain ⟨p, q, h1, h2, h5⟩ := h.white
   exact ⟨p, q, keep h1, fun j v hv => keep (h2 j v hv), fun i hi => keep (h5 i hi)⟩
 · obtain ⟨m, hm⟩ := h.max
   exact ⟨m, keep hm⟩
 · obtain ⟨v, hv, he⟩ := h.e3
   exact ⟨v, keep hv, he⟩
 · obtain ⟨v, hv, he⟩ := h.e4
   exact ⟨v, keep hv, he⟩
theorem laid_start {W : World} (h : laidMetH Tryz.prog Rows.checkNamesRow.laid W) (hsh : W.ShapedOpen Tryz.prog) : Laid W.heap.size W := by
 obtain ⟨hl, hh⟩ := laid_parts h
 have hmem : ∀ {n : String} {d : DataW Unit}, (n, d) ∈ Rows.checkNamesRow.laid → d.handleName?.isNone = true → VarReads Tryz.prog W n d := fun hm hn => laidMet.reads hl (List.mem_filter.2 ⟨hm, hn⟩)
 have hcls : TabIs Tryz.prog W "bulkhead/scan.classes" .u8 ((List.range 128).map fun i => (clsG i : Int)) :=
  tab_start (g := 1) (t := 287) (e := 5) (m := 128) (by kernel_rfl) (by kernel_rfl) (by kernel_rfl) (by kernel_rfl) (by kernel_rfl) (by kernel_rfl)
   ((show Rows.laid_bulkhead_scan_classes = tabData .u8 ((List.range 128).map fun i => (clsG i : Int)) by kernel_rfl) ▸ hmem (n := "bulkhead/scan.classes") (d := Rows.laid_bulkhead_scan_classes) (.tail _ (.tail _ (.tail _ (.tail _ (.tail _ (.tail _ (.tail _ (.tail _ (.tail _ (.head _)))))))))) (by kernel_rfl))
 have hpow : TabIs Tryz.prog W "internal/strconv.uint64pow10" .u64 pow10Tab :=
  tab_start (g := 5) (t := 323) (e := 39) (m := 20) (by kernel_rfl) (by kernel_rfl) (by kernel_rfl) (by kernel_rfl) (by kernel_rfl) (by kernel_rfl)
   ((show Rows.laid_internal_strconv_uint64pow10 = tabData .u64 pow10Tab by kernel_rfl) ▸ hmem (n := "internal/strconv.uint64pow10") (d := Rows.laid_internal_strconv_uint64pow10) (.tail _ (.tail _ (.head _))) (by kernel_rfl))
 have hspc : TabIs Tryz.prog W "strings.asciiSpace" .u8 asciiSpaceTab :=
  tab_start (g := 2) (t := 314) (e := 5) (m := 256) (by kernel_rfl) (by kernel_rfl) (by kernel_rfl) (by kernel_rfl) (by kernel_rfl) (by kernel_rfl)
   ((show Rows.laid_strings_asciiSpace = tabData .u8 asciiSpaceTab by kernel_rfl) ▸ hmem (n := "strings.asciiSpace") (d := Rows.laid_strings_asciiSpace) (.tail _ (.tail _ (.tail _ (.tail _ (.tail _ (.tail _ (.tail _ (.tail _ (.head _))))))))) (by kernel_rfl))
 have hwh : WhiteTab 7 W := whiteTab_of_reads Tryz.lays199 ⟨by kernel_rfl, by kernel_rfl, by kernel_rfl, by kernel_rfl, by kernel_rfl, by kernel_rfl, by kernel_rfl, by kernel_rfl⟩
  ((show Rows.laid_unicode_White_Space = whiteData by kernel_rfl) ▸ hmem (n := "unicode.White_Space") (d := Rows.laid_unicode_White_Space) (.tail _ (.tail _ (.tail _ (.tail _ (.tail _ (.tail _ (.tail _ (.head _)))))))) (by kernel_rfl))
 have hS : ScanT clsG W := {
  cls := fun i hi => by
   have := hcls.cell (g := 1) (by kernel_rfl) i (by simpa using hi)
   rw [this]
   simp [List.getD, hi]
  space := hspc
  white := by
   obtain ⟨T, oT, R, oR, h1, h2, h3, h4, h5⟩ := hwh
   refine ⟨(T, oT), (R, oR), h1, fun j v hv => ?_, h5⟩
   match j, hv with
   | 0, hv => obtain rfl := Option.some.inj hv; exact h2
   | 1, hv => obtain rfl := Option.some.inj hv; exact h3
   | 2, hv => obtain rfl := Option.some.inj hv; exact h4
   | j + 3, hv => simp at hv
  pow := hpow
  max := cell_of_shapedOpen_int (g := 6) (t := 3) (zero := #[.int .i64 0]) hsh (of_decide_eq_true (by kernel_rfl)) (by kernel_rfl) rfl (by kernel_rfl) (by kernel_rfl) Tryz.underlying3
  e3 := iface_start (g := 3) (t := 111) (ms := _) (by kernel_rfl) (by kernel_rfl) (Tryz.underlying111) (hmem (n := "strconv.ErrSyntax") (d := Rows.laid_strconv_ErrSyntax) (.tail _ (.tail _ (.tail _ (.tail _ (.tail _ (.tail _ (.head _))))))) (by kernel_rfl))
  e4 := iface_start (g := 4) (t := 111) (ms := _) (by kernel_rfl) (by kernel_rfl) (Tryz.underlying111) (hmem (n := "strconv.ErrRange") (d := Rows.laid_strconv_ErrRange) (.tail _ (.tail _ (.tail _ (.tail _ (.tail _ (.head _)))))) (by kernel_rfl)) }
 have h13 : 13 < W.heap.size := by
  obtain ⟨o, _, ho, _⟩ := hsh.2 13 (of_decide_eq_true (by kernel_rfl)) (of_decide_eq_true (by kernel_rfl))
  exact (Array.getElem?_eq_some_iff.1 ho).1
 exact ⟨h13, err_start hh, fun w' hb => hS.below hb⟩
end Go.Proofs.YtpblcjipmoblnaaGreatDoor
