/- Abs Calm Draw For2 -/
import Derived.WalkKit
import Derived.StillTailTactics
set_option maxRecDepth 100000
set_option maxHeartbeats 4000000
set_option linter.unusedVariables false
set_option linter.unusedSimpArgs false
namespace Go.Proofs.YtpblcjipmoblnaaGreatDoor
open Go.RowKit
def Code.part : List Nat → Code → Code
 | [], c => c
 | 0 :: p, .seq a _ => Code.part p a
 | 1 :: p, .seq _ b => Code.part p b
 | 0 :: p, .cond _ a _ => Code.part p a
 | 1 :: p, .cond _ _ b => Code.part p b
 | 0 :: p, .block _ b => Code.part p b
 | 0 :: p, .loop b => Code.part p b
 | 0 :: p, .scope b => Code.part p b
 | _, c => c
def codeC (f : Func) (p : List Nat) : Code := Code.part p (f.body.getD .skip)
theorem toList_nil : ByteArray.toList { data := #[] } = [] := by
 unfold ByteArray.toList
 rw [ByteArray.toList.loop]
 simp [ByteArray.size]
theorem int_eqb (n k : Int) : (n == k) = decide (n = k) := rfl
theorem int_neb (n k : Int) : (n != k) = !decide (n = k) := rfl
theorem nat_eqb (n k : Nat) : ((n : Int) == (k : Int)) = decide (n = k) := by rw [int_eqb]; exact decide_eq_decide.2 (by omega)
theorem nat_neb (n k : Nat) : ((n : Int) != (k : Int)) = !decide (n = k) := by rw [bne, nat_eqb]
theorem undef_eq : undef = Value.tuple #[] := rfl
abbrev At (a : Act) (i : Nat) (v : Value) : Prop := ∀ h, a.tmps[i]'h = v
structure Agree (ws : Nat → Bool) (a a' : Act) : Prop where
 size : a'.tmps.size = a.tmps.size
 defers : a'.defers = a.defers
 get : ∀ i, ws i = false → a'.tmps[i]? = a.tmps[i]?
namespace Agree
variable {ws vs us : Nat → Bool} {a b c : Act}
theorem refl (ws : Nat → Bool) (a : Act) : Agree ws a a := ⟨rfl, rfl, fun _ _ => rfl⟩
theorem trans (h : Agree ws a b) (k : Agree vs b c) (hv : ∀ i, vs i = true → ws i = true) : Agree ws a c :=
 ⟨k.size.trans h.size, k.defers.trans h.defers, fun i hi => (k.get i (by cases e : vs i with | false => rfl | true => rw [hv i e] at hi; cases hi)).trans (h.get i hi)⟩
theorem mono (h : Agree ws a b) (hv : ∀ i, ws i = true → vs i = true) : Agree vs a b :=
 ⟨h.size, h.defers, fun i hi => h.get i (by cases e : ws i with | false => rfl | true => rw [hv i e] at hi; cases hi)⟩
theorem put (h : Agree ws a b) {i : Nat} (hi : ws i = true) (v : Value) : Agree ws a (b.put (some i) v) :=
 ⟨by simpa [Act.put] using h.size, h.defers, fun j hj => by
  have hij : i ≠ j := by rintro rfl; rw [hi] at hj; cases hj
  simp only [Act.put, Array.getElem?_setIfInBounds_ne hij]; exact h.get j hj⟩
theorem set {T : Array Value} {d : List Deferred} (h : Agree ws a ⟨T, d⟩) {i : Nat} (hi : ws i = true) (v : Value) : Agree ws a ⟨T.setIfInBounds i v, d⟩ := h.put hi v
theorem at_ (h : Agree ws a b) {i : Nat} {v : Value} (hv : At a i v) (hi : ws i = false) : At b i v := fun hl => by
 have h1 : i < a.tmps.size := by rw [← h.size]; exact hl
 have h2 := h.get i hi
 rw [Array.getElem?_eq_getElem hl, Array.getElem?_eq_getElem h1] at h2
 exact (Option.some.inj h2).trans (hv h1)
end Agree
theorem At.put_self {a : Act} {i : Nat} {v : Value} : At (a.put (some i) v) i v := fun hl => by simp [Act.put]
theorem At.put_ne {a : Act} {i j : Nat} {v u : Value} (h : At a i v) (hij : j ≠ i) : At (a.put (some j) u) i v := fun hl => by
 have h1 : i < a.tmps.size := by simpa [Act.put] using hl
 exact (Array.getElem_setIfInBounds_ne h1 hij).trans (h h1)
theorem At.self {T : Array Value} {d : List Deferred} {i : Nat} {v : Value} : At ⟨T.setIfInBounds i v, d⟩ i v := At.put_self (a := ⟨T, d⟩)
theorem At.ne {T : Array Value} {d : List Deferred} {i j : Nat} {v u : Value} (h : At ⟨T, d⟩ i v) (hij : j ≠ i) : At ⟨T.setIfInBounds j u, d⟩ i v := At.put_ne (a := ⟨T, d⟩) h hij
theorem At.eval {a : Act} {i : Nat} {v : Value} (h : At a i v) (hi : i < a.tmps.size) : a.eval (.tmp i) = v := by
 show a.tmps.getD i undef = v
 rw [Array.getD_eq_getD_getElem?, Array.getElem?_eq_getElem hi]
 exact h hi
theorem calls_abs {P : Program} {f : FuncId} {fn : Func} {N : Nat} {args : Array Value} {w : World} {R : Ending → World → Prop} (hf : P.funcs[f]? = some fn) (hN : fn.ntmps = N) (hb : fn.body.isSome = true) (hle : args.size ≤ N)
 (h : ∀ a : Act, a.tmps.size = N → a.defers = [] → (∀ i v, args[i]? = some v → At a i v) → (codeC fn []).wp P (bodyPost P fn R) a w) : Calls P f args w R := by
 obtain ⟨c, hc⟩ := Option.isSome_iff_exists.1 hb
 have e : codeC fn [] = c := by unfold codeC; rw [hc]; rfl
 rw [e] at h
 refine calls_of_wp hf hc (h _ ?_ rfl fun i v hv => ?_)
 · simp [hN]; omega
 · intro hl
   have hi : i < args.size := (Array.getElem?_eq_some_iff.1 hv).1
   show (args ++ Array.replicate (fn.ntmps - args.size) undef)[i] = v
   rw [Array.getElem_append_left hi]
   exact (Array.getElem?_eq_some_iff.1 hv).2
theorem post_none {P : Program} {fn : Func} {R : Ending → World → Prop} {a : Act} {w : World} (h : fn.results = #[]) (hd : a.defers = []) (hR : R (.returned (.tuple #[])) w) : bodyPost P fn R .normal a w :=
 bodyPost_end (results_none h _ _ _) hd hR
theorem post_tmp {P : Program} {fn : Func} {R : Ending → World → Prop} {a : Act} {w : World} {t : Tmp} {v : Value} (h : fn.results = #[.tmp t]) (ht : At a t v) (hs : t < a.tmps.size) (hd : a.defers = []) (hR : R (.returned v) w) : bodyPost P fn R .ret a w :=
 bodyPost_ret (v := v) (by rw [results_tmp h, show a.tmps.getD t undef = v from ht.eval hs]) hd hR
def Only (R : Act → World → Prop) : Exit → Act → World → Prop := fun e a w => e = .normal ∧ R a w
theorem Code.wp_only {P : Program} {c : Code} {R : Act → World → Prop} {Q : Exit → Act → World → Prop} {a : Act} {w : World} (h : c.wp P (Only R) a w) (hq : ∀ a' w', R a' w' → Q .normal a' w') : c.wp P Q a w :=
 wp_mono h fun e a' w' ⟨he, hr⟩ => by subst he; exact hq a' w' hr
theorem then_normal {K : Act → World → Prop} {Q : Exit → Act → World → Prop} {a : Act} {w : World} (h : K a w) : Exit.then K Q .normal a w := h
theorem then_exit {K : Act → World → Prop} {Q : Exit → Act → World → Prop} {id : Nat} {a : Act} {w : World} (h : Q (.exit id) a w) : Exit.then K Q (.exit id) a w := h
theorem then_ret {K : Act → World → Prop} {Q : Exit → Act → World → Prop} {a : Act} {w : World} (h : Q .ret a w) : Exit.then K Q .ret a w := h
theorem inblock_normal {id : Nat} {K : Act → World → Prop} {Q : Exit → Act → World → Prop} {a : Act} {w : World} (h : K a w) : Exit.inBlock id (Exit.then K Q) .normal a w := h
def InBody (b b2 : Nat) (J : Act → World → Prop) (Q : Exit → Act → World → Prop) : Exit → Act → World → Prop
 | .normal, a, w => J a w
 | .exit id, a, w => if id = b2 then J a w else if id = b then Q .normal a w else Q (.exit id) a w
 | e, a, w => Q e a w
theorem inbody_ret {b b2 : Nat} {J : Act → World → Prop} {Q : Exit → Act → World → Prop} {a : Act} {w : World} (h : Q .ret a w) : InBody b b2 J Q .ret a w := h
theorem wp_for {P : Program} {b b2 t : Nat} {R1 R2 body : Code} {Q : Exit → Act → World → Prop} {a : Act} {w : World} (n : Nat) (I J : Nat → Act → World → Prop) (idx : Act → Nat) (h0 : I 0 a w)
 (hi : ∀ k a w, I k a w → idx a = k)
 (h1 : ∀ k a w, k ≤ n → I k a w → R1.wp P (Only fun a' w' => I k a' w' ∧ a'.eval (.tmp t) = .bool (decide (k < n))) a w)
 (hb : ∀ k a w, k < n → I k a w → body.wp P (InBody b b2 (J k) Q) a w)
 (h2 : ∀ k a w, k < n → J k a w → R2.wp P (Only (I (k + 1))) a w)
 (hq : ∀ a w, I n a w → Q .normal a w) :
 (Code.block b (Code.loop (Code.seq R1 (Code.seq (Code.cond (.tmp t) .skip (.exit b)) (Code.seq (Code.block b2 body) R2))))).wp P Q a w := by
 refine wp_block (wp_loop (fun a w => ∃ k, k ≤ n ∧ I k a w) (fun a _ => n - idx a) ⟨0, Nat.zero_le _, h0⟩ ?_)
 rintro a w ⟨k, hk, hI⟩
 refine wp_seq (Code.wp_only (h1 k a w hk hI) fun a1 w1 ⟨hI1, ht⟩ => ?_)
 refine wp_seq ?_
 refine wp_cond_split ht (fun h => wp_skip ?_) (fun h => wp_exit ?_)
 · have hlt : k < n := of_decide_eq_true h
   refine wp_seq (wp_block (wp_mono (hb k a1 w1 hlt hI1) fun e a2 w2 hh => ?_))
   have fin : ∀ a2 w2, J k a2 w2 → R2.wp P (Exit.then (fun a' w' => (∃ k, k ≤ n ∧ I k a' w') ∧ n - idx a' < n - idx a) (Exit.inBlock b Q)) a2 w2 := fun a2 w2 hJ =>
    Code.wp_only (h2 k a2 w2 hlt hJ) fun a3 w3 h3 => ⟨⟨k + 1, hlt, h3⟩, by rw [hi _ _ _ h3, hi _ _ _ hI]; omega⟩
   cases e with
   | normal => exact fin _ _ hh
   | exit id =>
    simp only [InBody] at hh
    simp only [Exit.inBlock, Exit.then]
    by_cases e2 : id = b2
    · simp only [e2, if_true] at hh ⊢; exact fin _ _ hh
    · simp only [e2, if_false] at hh ⊢
      by_cases e1 : id = b
      · simp only [e1, if_true] at hh ⊢; exact hh
      · simp only [e1, if_false] at hh ⊢; exact hh
   | goto l => exact hh
   | ret => exact hh
   | panic c => exact hh
   | outgrown => exact hh
 · have hge : ¬ k < n := of_decide_eq_false h
   have : k = n := by omega
   subst this
   show Exit.inBlock b Q (.exit b) a1 w1
   simp only [Exit.inBlock, if_true]
   exact hq _ _ hI1
theorem add_int (ty : TypeId) (x : Int) (h0 : -9223372036854775808 ≤ x) (h1 : x < 9223372036854775807) (P : Program) (w : World) : (binOp .add ty (.int .i64 x) (.int .i64 1)).run P w = .ok (.int .i64 (x + 1)) w := by
 simp [go_sem]
 exact IntWalk.i64_in _ (by omega)
theorem wpList_value {P : Program} {ops : Array Oper} {Q : Exit → Act → World → Prop} {a : Act} {w w' : World} {rest : List Oper} {o : Oper} {v : Value} (hg : o.guard = none) (hr : (execOp a.eval o).run P w = .ok (.value v) w')
 (h : wpList P ops Q rest (a.put o.dst v) w') : wpList P ops Q (o :: rest) a w :=
 wpList_plain hg fun K hK => by unfold Oper.wp; rw [hr]; exact hK _ _ h
theorem wp_test {P : Program} {id t i m : Nat} {ty ty2 ty3 : TypeId} {ps : String} {af : Array Edge} {Q : Exit → Act → World → Prop} {a : Act} {w : World} (x y : Int) (hi : a.eval (.tmp i) = .int .i64 x) (hm : a.eval (.tmp m) = .int .i64 y)
 (h : Q .normal (a.put (some t) (.bool (decide (x < y)))) w) :
 (Code.region id #[{ dst := some t, op := Op.binOp .lss ty (.tmp i) (.tmp m) ty2, type := ty3, pos := ps, after := af, guard := none }] false).wp P Q a w := by
 refine wp_region_lit (wpList_value rfl ?_ (wpList_nil h))
 unfold execOp
 simp only [hi, hm]
 simp [eqGuard, go_sem]
theorem wp_inc {P : Program} {id t i : Nat} {ty ty2 ty3 ty4 : TypeId} {ps ps2 : String} {af af2 : Array Edge} {Q : Exit → Act → World → Prop} {a : Act} {w : World} (x : Int) (hi : a.eval (.tmp i) = .int .i64 x) (h0 : 0 ≤ x) (h1 : x < 9223372036854775807) (ht : t < a.tmps.size)
 (h : Q .normal ((a.put (some t) (.int .i64 (x + 1))).put (some i) (.int .i64 (x + 1))) w) :
 (Code.region id #[{ dst := some t, op := Op.binOp .add ty (.tmp i) (.const (.int .i64 1)) ty2, type := ty3, pos := ps, after := af, guard := none }, { dst := some i, op := Op.move (.tmp t), type := ty4, pos := ps2, after := af2, guard := none }] false).wp P Q a w := by
 have e : (a.put (some t) (.int .i64 (x + 1))).eval (.tmp t) = .int .i64 (x + 1) := At.eval At.put_self (by simpa [Act.put] using ht)
 have e0 : a.eval (.const (.int .i64 1)) = .int .i64 1 := rfl
 refine wp_region_lit (wpList_value (v := .int .i64 (x + 1)) (w' := w) rfl ?_ (wpList_value (v := .int .i64 (x + 1)) (w' := w) rfl ?_ (wpList_nil h)))
 · unfold execOp
   simp only [hi, e0]
   have := add_int ty x (by omega) h1 P w
   simp [eqGuard, go_sem] at this ⊢
   exact this
 · unfold execOp
   simp only [e]
   rfl
theorem wp_range {P : Program} {b b2 id1 id2 t i m t2 : Nat} {ty1 ty2 ty3 ty4 ty5 ty6 ty7 : TypeId} {ps1 ps2 ps3 : String} {af1 af2 af3 : Array Edge} {body : Code} {Q : Exit → Act → World → Prop} {a : Act} {w : World} (n : Nat) (ws vs : Nat → Bool)
 (Inv : Nat → Act → World → Prop) (hn : n ≤ 4611686018427387904) (hi : At a i (.int .i64 0)) (hm : At a m (.int .i64 n)) (hws : ws t = true ∧ ws i = true ∧ ws t2 = true ∧ ws m = false) (hvi : vs i = false) (hvw : ∀ j, vs j = true → ws j = true)
 (hsz : t < a.tmps.size ∧ i < a.tmps.size ∧ t2 < a.tmps.size ∧ m < a.tmps.size) (hti : t ≠ i)
 (hst : ∀ k a1 a2 w, Agree (fun j => j == t || j == i || j == t2) a1 a2 → Inv k a1 w → Inv k a2 w) (h0 : Inv 0 a w)
 (hb : ∀ (k : Nat) a' w', k < n → Agree ws a a' → At a' i (.int .i64 k) → Inv k a' w' → body.wp P (InBody b b2 (fun a'' w'' => Agree vs a' a'' ∧ Inv (k + 1) a'' w'') Q) a' w')
 (hq : ∀ a' w', Agree ws a a' → Inv n a' w' → Q .normal a' w') :
 (Code.block b (Code.loop (Code.seq (Code.region id1 #[{ dst := some t, op := Op.binOp .lss ty1 (.tmp i) (.tmp m) ty2, type := ty3, pos := ps1, after := af1, guard := none }] false) (Code.seq (Code.cond (.tmp t) .skip (.exit b)) (Code.seq (Code.block b2 body)
   (Code.region id2 #[{ dst := some t2, op := Op.binOp .add ty4 (.tmp i) (.const (.int .i64 1)) ty5, type := ty6, pos := ps2, after := af2, guard := none }, { dst := some i, op := Op.move (.tmp t2), type := ty7, pos := ps3, after := af3, guard := none }] false)))))).wp P Q a w := by
 obtain ⟨w1, w2, w3, w4⟩ := hws
 obtain ⟨s1, s2, s3, s4⟩ := hsz
 refine wp_for n (fun k a' w' => Agree ws a a' ∧ At a' i (.int .i64 k) ∧ Inv k a' w') (fun k a' w' => Agree ws a a' ∧ At a' i (.int .i64 k) ∧ Inv (k + 1) a' w') (fun a => match a.eval (.tmp i) with | .int _ x => x.toNat | _ => 0) ⟨Agree.refl _ _, hi, h0⟩ ?_ ?_ ?_ ?_ ?_
 · rintro k a' w' ⟨hA, hk, _⟩
   rw [hk.eval (by rw [hA.size]; exact s2)]
   simp
 · rintro k a' w' hkn ⟨hA, hk, hI⟩
   have e1 := hk.eval (by rw [hA.size]; exact s2)
   have e2 := (hA.at_ hm w4).eval (by rw [hA.size]; exact s4)
   refine wp_test k n e1 e2 ⟨rfl, ⟨hA.put w1 _, hk.put_ne hti, hst _ _ _ _ ((Agree.refl _ _).put (by simp) _) hI⟩, ?_⟩
   rw [At.eval At.put_self (by simpa [Act.put] using (hA.size ▸ s1))]
   simp
 · rintro k a' w' hkn ⟨hA, hk, hI⟩
   refine wp_mono (hb k a' w' hkn hA hk hI) fun e a2 w2 hh => ?_
   have fin : ∀ a2 w2, (Agree vs a' a2 ∧ Inv (k + 1) a2 w2) → (Agree ws a a2 ∧ At a2 i (.int .i64 k) ∧ Inv (k + 1) a2 w2) := fun a2 w2 h => ⟨hA.trans h.1 hvw, h.1.at_ hk hvi, h.2⟩
   cases e with
   | normal => exact fin _ _ hh
   | exit id =>
    simp only [InBody] at hh ⊢
    by_cases e2 : id = b2
    · simp only [e2, if_true] at hh ⊢; exact fin _ _ hh
    · simp only [e2, if_false] at hh ⊢; exact hh
   | goto l => exact hh
   | ret => exact hh
   | panic c => exact hh
   | outgrown => exact hh
 · rintro k a' w' hkn ⟨hA, hk, hI⟩
   refine wp_inc k (hk.eval (by rw [hA.size]; exact s2)) (by omega) (by omega) (by rw [hA.size]; exact s3) ⟨rfl, (hA.put w3 _).put w2 _, ?_, hst _ _ _ _ (((Agree.refl _ _).put (by simp) _).put (by simp) _) hI⟩
   have : ((k : Int) + 1) = ((k + 1 : Nat) : Int) := by omega
   rw [this]
   exact At.put_self
 · rintro a' w' ⟨hA, _, hI⟩
   exact hq _ _ hA hI
theorem wp_while {P : Program} {b b2 t : Nat} {R1 body : Code} {Q : Exit → Act → World → Prop} {a : Act} {w : World} (I : Act → World → Prop) (μ : Act → World → Nat) (J : Nat → Act → World → Prop) (Done : Act → World → Prop) (h0 : I a w)
 (h1 : ∀ a w, I a w → R1.wp P (Only fun a' w' => (a'.eval (.tmp t) = .bool true ∧ J (μ a w) a' w') ∨ (a'.eval (.tmp t) = .bool false ∧ Done a' w')) a w)
 (hb : ∀ m a w, J m a w → body.wp P (InBody b b2 (fun a' w' => I a' w' ∧ μ a' w' < m) Q) a w)
 (hq : ∀ a w, Done a w → Q .normal a w) :
 (Code.block b (Code.loop (Code.seq R1 (Code.seq (Code.cond (.tmp t) .skip (.exit b)) (Code.block b2 body))))).wp P Q a w := by
 refine wp_block (wp_loop I μ h0 ?_)
 intro a w hI
 refine wp_seq (Code.wp_only (h1 a w hI) fun a1 w1 h => ?_)
 rcases h with ⟨ht, hJ⟩ | ⟨ht, hD⟩
 · refine wp_seq (wp_cond_true ht (wp_skip (wp_block (wp_mono (hb _ a1 w1 hJ) fun e a2 w2 hh => ?_))))
   cases e with
   | normal => exact hh
   | exit id =>
    simp only [InBody] at hh
    simp only [Exit.inBlock, Exit.then]
    by_cases e2 : id = b2
    · simp only [e2, if_true] at hh ⊢; exact hh
    · simp only [e2, if_false] at hh ⊢
      by_cases e1 : id = b
      · simp only [e1, if_true] at hh ⊢; exact hh
      · simp only [e1, if_false] at hh ⊢; exact hh
   | goto l => exact hh
   | ret => exact hh
   | panic c => exact hh
   | outgrown => exact hh
 · refine wp_seq (wp_cond_false ht (wp_exit ?_))
   show Exit.inBlock b Q (.exit b) a1 w1
   simp only [Exit.inBlock, if_true]
   exact hq _ _ hD
theorem st {P : Program} {l : Array Oper} {Q : Exit → Act → World → Prop} {o : Oper} {rest : List Oper} {a a' : Act} {w w' : World} (hn : wpList P l Q rest a' w')
 (h : ∀ K : Act → World → Prop, K a' w' → if Region.wanted o (yielded l a.tmps) then o.wp P a w K Q else K (a.put o.dst undef) w := by intro K hK; go_simp; with_reducible exact hK) : wpList P l Q (o :: rest) a w :=
 wpList_step fun K hK => h K (hK _ _ hn)
theorem sl {P : Program} {ops : Array Oper} {Q : Act → Prop} {o : Oper} {rest : List Oper} {a a' : Act} {w : World} (hn : wpStill P ops w Q rest a')
 (h : ∀ K : Act → Prop, K a' → if Region.wanted o (yielded ops a.tmps) then o.still P a w K else K (a.put o.dst undef) := by intro K hK; go_simp; with_reducible exact hK) : wpStill P ops w Q (o :: rest) a :=
 wpStill_step fun K hK => h K (hK _ hn)
theorem ag {p : Prop} (h : p := by (repeat with_reducible apply Agree.set) <;> first | with_reducible exact Agree.refl _ _ | with_reducible assumption | rfl) : p := h
theorem aq {a : Act} {i : Nat} {v : Value} (h : At a i v := by (repeat (first | (with_reducible exact At.self) | (with_reducible apply At.ne))); all_goals decide) : At a i v := h
theorem bS : (∀ b : Bool, (b || false) = b) ∧ (∀ b : Bool, (b || true) = true) ∧ (∀ b : Bool, (b && true) = b) ∧ (∀ b : Bool, (b && false) = false) ∧ (∀ b : Bool, (false || b) = b) ∧ (∀ b : Bool, (true || b) = true) ∧ (∀ b : Bool, (true && b) = b) ∧ (∀ b : Bool, (false && b) = false) ∧ (!true) = false ∧ (!false) = true :=
 ⟨Bool.or_false, Bool.or_true, Bool.and_true, Bool.and_false, Bool.false_or, Bool.true_or, Bool.true_and, Bool.false_and, rfl, rfl⟩
def openIn (l : List Bool) : Nat := (l.filter fun b => !b).length
theorem openIn_set : ∀ (l : List Bool) (i : Nat), l[i]? = some false → openIn (l.set i true) + 1 = openIn l
 | [], i, h => by simp at h
 | b :: l, 0, h => by
  have : b = false := by simpa using h
  subst this
  simp [openIn]
 | b :: l, i + 1, h => by
  have ih := openIn_set l i (by simpa using h)
  cases b <;> simp [openIn] at ih ⊢ <;> omega
section
variable {P : Program} {l : List Oper} {n : Nat}
def dstOf (l : List Oper) (i : Nat) : Option Nat := (l[i]?).bind (·.dst)
def calmB (l : List Oper) (n : Nat) : Bool :=
 decide (l.length = n + 1) && Region.sinkB .any l.toArray n && Region.chainB .any l.toArray n &&
 ((List.range n).all fun i => (dstOf l i).isSome && (List.range n).all fun j => i == j || dstOf l i != dstOf l j) &&
 (List.range (n + 1)).all fun i => ((l[i]?).map (·.after.all fun e => !Region.binds .any e || decide (e.on < i))).getD true
def Base (l : List Oper) (n : Nat) (a a' : Act) : Prop := Agree (fun s => (List.range n).any fun i => dstOf l i == some s) a a'
theorem Base.agree {a a' : Act} {ws : Nat → Bool} (h : Base l n a a') (hw : ((List.range n).all fun i => ((dstOf l i).map ws).getD true) = true) : Agree ws a a' := by
 refine Agree.mono h fun s hs => ?_
 obtain ⟨i, hi, hd⟩ := List.any_eq_true.1 hs
 have h1 := List.all_eq_true.1 hw i hi
 rw [eq_of_beq hd] at h1
 exact h1
structure CalmInv (l : List Oper) (n : Nat) (vs : Nat → Value) (a : Act) (listed : Array Bool) (a' : Act) : Prop where
 head : HeadInv .any l.toArray n listed
 base : Base l n a a'
 have_ : ∀ j d, j < n → listed.getD j false = true → dstOf l j = some d → At a' d (vs j)
theorem wp_region_calm {id : Nat} {Q : Exit → Act → World → Prop} {a : Act} {w : World} (n : Nat) (vs : Nat → Value) (W : World → Prop) (hm : P.follows .mixedOrders = true) (hB : calmB l n = true) (hw : W w.drew)
 (hop : ∀ i o, i < n → l[i]? = some o → ∀ a' w' K, W w' → Base l n a a' → (∀ j, (o.after.any fun e => Region.binds .any e && e.on == j) = true → j < n → ∀ d, dstOf l j = some d → At a' d (vs j)) →
   (∀ w'', W w'' → K (a'.put o.dst (vs i)) w'') → if Region.wanted o (yielded l.toArray a'.tmps) then o.wp P a' w' K Q else K (a'.put o.dst undef) w')
 (hlast : ∀ o, l[n]? = some o → ∀ a' w', W w' → Base l n a a' → (∀ j, j < n → ∀ d, dstOf l j = some d → At a' d (vs j)) → wpList P l.toArray Q [o] a' w') :
 (Code.region id l.toArray true).wp P Q a w := by
 simp only [calmB, Bool.and_eq_true, decide_eq_true_eq] at hB
 obtain ⟨⟨⟨⟨hlen, hs⟩, hc⟩, hds⟩, hed⟩ := hB
 have hdist : ∀ i j d, i < n → j < n → dstOf l i = some d → dstOf l j = some d → i = j := fun i j d hi hj h1 h2 => by
  have h3 := List.all_eq_true.1 hds i (List.mem_range.2 hi)
  simp only [Bool.and_eq_true] at h3
  have h4 := List.all_eq_true.1 h3.2 j (List.mem_range.2 hj)
  simp only [Bool.or_eq_true, beq_iff_eq, bne_iff_ne] at h4
  rcases h4 with h4 | h4
  · exact h4
  · exact absurd (h1.trans h2.symm) h4
 have hn : n < l.toArray.size := by simp [hlen]
 have key : ∀ (fuel : Nat) (listed : Array Bool) (a' : Act) (w' : World), openIn listed.toList ≤ fuel → CalmInv l n vs a listed a' → W w' → wpAny P .any l.toArray Q fuel listed a' w' := by
  intro fuel
  induction fuel with
  | zero =>
   intro listed a' w' ho inv hw'
   exfalso
   have h1 := inv.head.tail n (Nat.le_refl _) hn
   have h2 : n < listed.size := by rw [inv.head.size]; exact hn
   have h3 : listed.toList[n]? = some false := by
    have := getD_both h1
    simp [h2] at h1
    rw [Array.getElem?_toList, Array.getElem?_eq_getElem h2, h1]
   have := openIn_set _ _ h3
   omega
  | succ fuel ih =>
   intro listed a' w' ho inv hw'
   refine ⟨fun hr => ?_, fun i hi => ?_⟩
   · exfalso
     have : ∀ (k : Nat), k ≤ n → listed.getD k true = false → False := by
      intro k
      induction k using Nat.strongRecOn with
      | _ k ihk =>
       intro hk hun
       have hkl : k < l.length := by omega
       have hok : l.toArray[k]? = some l[k] := by simp [hkl]
       by_cases hall : ∀ e ∈ l[k].after, Region.binds .any e = true → listed.getD e.on false = true
       · have : k ∈ Region.ready .any l.toArray listed := mem_ready.2 ⟨hun, l[k], hok, hall⟩
         rw [hr] at this
         cases this
       · simp only [Classical.not_forall] at hall
         obtain ⟨e, he, hb, hne⟩ := hall
         have h3 := List.all_eq_true.1 hed k (List.mem_range.2 (by omega))
         rw [List.getElem?_eq_getElem hkl] at h3
         simp only [Option.map_some, Option.getD_some] at h3
         have h4 := Array.all_eq_true'.1 h3 e he
         rw [hb] at h4
         simp only [Bool.not_true, Bool.false_or, decide_eq_true_eq] at h4
         refine ihk e.on h4 (by omega) ?_
         have h5 : e.on < listed.size := by rw [inv.head.size]; simp; omega
         have h6 : listed.getD e.on false = false := by simpa using hne
         simp [h5] at h6 ⊢
         exact h6
     exact this n (Nat.le_refl _) (inv.head.tail n (Nat.le_refl _) hn)
   · obtain ⟨hun, o, hoi, hall⟩ := mem_ready.1 hi
     have hil : i < l.length := by have := (Array.getElem?_eq_some_iff.1 hoi).1; simpa using this
     have hoi2 : l[i]? = some o := by simpa using hoi
     have hdone : ∀ j, (o.after.any fun e => Region.binds .any e && e.on == j) = true → listed.getD j false = true := fun j hj => by
      obtain ⟨e, he, h2⟩ := Array.any_eq_true'.1 hj
      simp only [Bool.and_eq_true, beq_iff_eq] at h2
      rw [← h2.2]; exact hall e he h2.1
     have hopen : openIn (listed.setIfInBounds i true).toList ≤ fuel := by
      have h2 : i < listed.size := by rw [inv.head.size]; simpa using hil
      have h3 : listed.toList[i]? = some false := by
       simp [h2] at hun
       rw [Array.getElem?_toList, Array.getElem?_eq_getElem h2, hun]
      have := openIn_set _ _ h3
      rw [Array.toList_setIfInBounds]
      omega
     by_cases hin : i < n
     · obtain ⟨di, hdi⟩ : ∃ d, dstOf l i = some d := by
        have h3 := List.all_eq_true.1 hds i (List.mem_range.2 hin)
        simp only [Bool.and_eq_true] at h3
        exact Option.isSome_iff_exists.1 h3.1
       have hod : o.dst = some di := by unfold dstOf at hdi; rw [hoi2] at hdi; exact hdi
       have h := hop i o hin hoi2 a' w' (wpAny P .any l.toArray Q fuel (listed.setIfInBounds i true)) hw' inv.base (fun j hj hjn d hd => inv.have_ j d hjn (hdone j hj) hd)
        (fun w'' hw'' => ih _ _ _ hopen ⟨inv.head.set hi hin, by
          rw [hod]
          refine inv.base.put ?_ _
          simp only [List.any_eq_true, beq_iff_eq]
          exact ⟨i, List.mem_range.2 hin, hdi⟩, fun j d hj hl hd => by
          rw [hod]
          by_cases hji : i = j
          · subst hji
            have : d = di := Option.some.inj (hd.symm.trans hdi)
            subst this
            exact At.put_self
          · rw [getD_set_ne false hji] at hl
            refine (inv.have_ j d hj hl hd).put_ne ?_
            rintro rfl
            exact hji (hdist i j di hin hj hdi hd)⟩ hw'')
       unfold wpOp
       simp only [hoi]
       split
       · rename_i hwt
         rw [if_pos hwt] at h
         exact .inl h
       · rename_i hwt
         rw [if_neg hwt] at h
         exact h
     · have hin2 : i = n := by omega
       subst hin2
       have hall2 : ∀ j, j < i → listed.getD j false = true := fun j hj => by
        cases hlj : listed.getD j false with
        | true => rfl
        | false =>
         have h5 : j < listed.size := by rw [inv.head.size]; simp; omega
         exact absurd hi (tail_waits hs hc hn inv.head _ j rfl hj (getD_in h5 hlj) i (Nat.le_refl _))
       have h := hlast o hoi2 a' w' hw' inv.base (fun j hj d hd => inv.have_ j d hj (hall2 j hj) hd)
       have hr0 : Region.ready .any l.toArray (listed.setIfInBounds i true) = [] := by
        refine List.eq_nil_iff_forall_not_mem.2 fun j hj => ?_
        obtain ⟨h1, o', ho', _⟩ := mem_ready.1 hj
        have hjl : j < l.length := by have := (Array.getElem?_eq_some_iff.1 ho').1; simpa using this
        by_cases hji : i = j
        · subst hji
          have h5 : i < listed.size := by rw [inv.head.size]; simpa using hjl
          simp [h5] at h1
        · rw [getD_set_ne true hji] at h1
          have h6 := hall2 j (by omega)
          have h5 : j < listed.size := by rw [inv.head.size]; simpa using hjl
          simp [h5] at h1 h6
          rw [h6] at h1
          cases h1
       have hw2 : wpOp P l.toArray Q i (wpList P l.toArray Q []) a' w' := by
        unfold wpOp
        simp only [hoi]
        exact h
       refine wpOp_mono (fun a2 w2 h2 => ?_) hw2
       cases fuel with
       | zero => exact ⟨hr0, h2⟩
       | succ f => exact ⟨fun _ => h2, fun k hk => by rw [hr0] at hk; cases hk⟩
 refine wp_region_any hm (key _ _ a _ ?_ ⟨⟨by simp, fun j oj _ hl => (by rw [getD_replicate_false] at hl; cases hl), fun t _ ht => getD_in (by simpa using ht) (getD_replicate_false _ _)⟩, Agree.refl _ _, fun j d _ hl _ => by rw [getD_replicate_false] at hl; cases hl⟩ hw)
 simp only [Array.toList_replicate, openIn]
 exact Nat.le_trans (List.length_filter_le _ _) (by simp)
end
theorem wp_region_inv {P : Program} {l : List Oper} {id : Nat} {Q : Exit → Act → World → Prop} {a : Act} {w : World} (Inv : (Nat → Bool) → Act → World → Prop) (hm : P.follows .mixedOrders = true)
 (hed : ((List.range l.length).all fun i => ((l[i]?).map (·.after.all fun e => !Region.binds .any e || decide (e.on < i))).getD true) = true) (h0 : Inv (fun _ => false) a w.drew)
 (hop : ∀ L a' w' i o, Inv L a' w' → l[i]? = some o → L i = false → (o.after.all fun e => !Region.binds .any e || L e.on) = true → ∀ K : Act → World → Prop, (∀ a'' w'', Inv (fun j => j == i || L j) a'' w'' → K a'' w'') →
   if Region.wanted o (yielded l.toArray a'.tmps) then o.wp P a' w' K Q else K (a'.put o.dst undef) w')
 (hend : ∀ L a' w', Inv L a' w' → (∀ i, i < l.length → L i = true) → Q .normal a' w') :
 (Code.region id l.toArray true).wp P Q a w := by
 have key : ∀ (fuel : Nat) (listed : Array Bool) (a' : Act) (w' : World), listed.size = l.length → openIn listed.toList ≤ fuel → Inv (fun i => listed.getD i false) a' w' → wpAny P .any l.toArray Q fuel listed a' w' := by
  have hrdy : ∀ listed : Array Bool, listed.size = l.length → Region.ready .any l.toArray listed = [] → ∀ k, k < l.length → listed.getD k false = true := by
   intro listed hsz hr k
   induction k using Nat.strongRecOn with
   | _ k ihk =>
    intro hkl
    cases hun : listed.getD k false with
    | true => rfl
    | false =>
     exfalso
     have hun' : listed.getD k true = false := by
      have h2 : k < listed.size := by omega
      simp [h2] at hun ⊢
      exact hun
     have hok : l.toArray[k]? = some l[k] := by simp [hkl]
     have : k ∈ Region.ready .any l.toArray listed := mem_ready.2 ⟨hun', l[k], hok, fun e he hb => by
      have h3 := List.all_eq_true.1 hed k (List.mem_range.2 hkl)
      rw [List.getElem?_eq_getElem hkl] at h3
      simp only [Option.map_some, Option.getD_some] at h3
      have h4 := Array.all_eq_true'.1 h3 e he
      rw [hb] at h4
      simp only [Bool.not_true, Bool.false_or, decide_eq_true_eq] at h4
      exact ihk e.on h4 (by omega)⟩
     rw [hr] at this
     cases this
  intro fuel
  induction fuel with
  | zero =>
   intro listed a' w' hsz ho inv
   have hall : ∀ k, k < l.length → listed.getD k false = true := by
    intro k hk
    cases hun : listed.getD k false with
    | true => rfl
    | false =>
     exfalso
     have h2 : k < listed.size := by omega
     simp [h2] at hun
     have := openIn_set listed.toList k (by rw [Array.getElem?_toList, Array.getElem?_eq_getElem h2, hun])
     omega
   refine ⟨List.eq_nil_iff_forall_not_mem.2 fun j hj => ?_, hend _ _ _ inv hall⟩
   obtain ⟨h1, o', ho', _⟩ := mem_ready.1 hj
   have hjl : j < l.length := by have := (Array.getElem?_eq_some_iff.1 ho').1; simpa using this
   have h6 := hall j hjl
   have h5 : j < listed.size := by omega
   simp [h5] at h1 h6
   rw [h6] at h1
   cases h1
  | succ fuel ih =>
   intro listed a' w' hsz ho inv
   refine ⟨fun hr => hend _ _ _ inv (hrdy listed hsz hr), fun i hi => ?_⟩
   obtain ⟨hun, o, hoi, hall⟩ := mem_ready.1 hi
   have hil : i < l.length := by have := (Array.getElem?_eq_some_iff.1 hoi).1; simpa using this
   have hoi2 : l[i]? = some o := by simpa using hoi
   have h2 : i < listed.size := by omega
   have hunf : listed.getD i false = false := by simp [h2] at hun ⊢; exact hun
   have hopen : openIn (listed.setIfInBounds i true).toList ≤ fuel := by
    have h3 : listed.toList[i]? = some false := by
     simp [h2] at hun
     rw [Array.getElem?_toList, Array.getElem?_eq_getElem h2, hun]
    have := openIn_set _ _ h3
    rw [Array.toList_setIfInBounds]
    omega
   have hfun : (fun j => (listed.setIfInBounds i true).getD j false) = fun j => j == i || listed.getD j false := by
    funext j
    by_cases hji : j = i
    · subst hji
      simp [h2]
    · rw [getD_set_ne false (fun e => hji e.symm)]
      simp [hji]
   have h := hop (fun j => listed.getD j false) a' w' i o inv hoi2 hunf (Array.all_eq_true'.2 fun e he => by
    cases hb : Region.binds .any e with
    | false => rfl
    | true => simpa using hall e he hb) (wpAny P .any l.toArray Q fuel (listed.setIfInBounds i true)) (fun a'' w'' hI => ih _ _ _ (by simpa using hsz) hopen (by rw [hfun]; exact hI))
   unfold wpOp
   simp only [hoi]
   split
   · rename_i hwt
     rw [if_pos hwt] at h
     exact .inl h
   · rename_i hwt
     rw [if_neg hwt] at h
     exact h
 refine wp_region_any hm (key _ _ a _ (by simp) ?_ ?_)
 · simp only [Array.toList_replicate, openIn]
   exact Nat.le_trans (List.length_filter_le _ _) (by simp)
 · have : (fun i => (Array.replicate l.toArray.size false).getD i false) = fun _ => false := by funext i; exact getD_replicate_false _ _
   rw [this]
   exact h0
theorem wp_for3 {P : Program} {b b2 t : Nat} {R1 R2 body : Code} {Q : Exit → Act → World → Prop} {a : Act} {w : World} (n : Nat) (I I2 J : Nat → Act → World → Prop) (Done : Act → World → Prop) (idx : Act → Nat) (h0 : I 0 a w)
 (hi : ∀ k a w, I k a w → idx a = k)
 (h1 : ∀ k a w, I k a w → R1.wp P (Only fun a' w' => (a'.eval (.tmp t) = .bool true ∧ k < n ∧ I2 k a' w') ∨ (a'.eval (.tmp t) = .bool false ∧ Done a' w')) a w)
 (hb : ∀ k a w, k < n → I2 k a w → body.wp P (InBody b b2 (J k) Q) a w)
 (h2 : ∀ k a w, k < n → J k a w → R2.wp P (Only (I (k + 1))) a w)
 (hq : ∀ a w, Done a w → Q .normal a w) :
 (Code.block b (Code.loop (Code.seq (Code.seq R1 (Code.cond (.tmp t) .skip (.exit b))) (Code.seq (Code.block b2 body) R2)))).wp P Q a w := by
 refine wp_block (wp_loop (fun a w => ∃ k, I k a w) (fun a _ => n - idx a) ⟨0, h0⟩ ?_)
 rintro a w ⟨k, hI⟩
 refine wp_seq (wp_seq (Code.wp_only (h1 k a w hI) fun a1 w1 h => ?_))
 rcases h with ⟨ht, hlt, hI1⟩ | ⟨ht, hD⟩
 · refine wp_cond_true ht (wp_skip ?_)
   refine wp_seq (wp_block (wp_mono (hb k a1 w1 hlt hI1) fun e a2 w2 hh => ?_))
   have fin : ∀ a2 w2, J k a2 w2 → R2.wp P (Exit.then (fun a' w' => (∃ k, I k a' w') ∧ n - idx a' < n - idx a) (Exit.inBlock b Q)) a2 w2 := fun a2 w2 hJ =>
    Code.wp_only (h2 k a2 w2 hlt hJ) fun a3 w3 h3 => ⟨⟨k + 1, h3⟩, by rw [hi _ _ _ h3, hi _ _ _ hI]; omega⟩
   cases e with
   | normal => exact fin _ _ hh
   | exit id =>
    simp only [InBody] at hh
    simp only [Exit.inBlock, Exit.then]
    by_cases e2 : id = b2
    · simp only [e2, if_true] at hh ⊢; exact fin _ _ hh
    · simp only [e2, if_false] at hh ⊢
      by_cases e1 : id = b
      · simp only [e1, if_true] at hh ⊢; exact hh
      · simp only [e1, if_false] at hh ⊢; exact hh
   | goto l => exact hh
   | ret => exact hh
   | panic c => exact hh
   | outgrown => exact hh
 · refine wp_cond_false ht (wp_exit ?_)
   show Exit.inBlock b Q (.exit b) a1 w1
   simp only [Exit.inBlock, if_true]
   exact hq _ _ hD
theorem wp_for2 {P : Program} {b b2 t : Nat} {R1 R2 body : Code} {Q : Exit → Act → World → Prop} {a : Act} {w : World} (n : Nat) (I J : Nat → Act → World → Prop) (idx : Act → Nat) (h0 : I 0 a w)
 (hi : ∀ k a w, I k a w → idx a = k)
 (h1 : ∀ k a w, k ≤ n → I k a w → R1.wp P (Only fun a' w' => I k a' w' ∧ a'.eval (.tmp t) = .bool (decide (k < n))) a w)
 (hb : ∀ k a w, k < n → I k a w → body.wp P (InBody b b2 (J k) Q) a w)
 (h2 : ∀ k a w, k < n → J k a w → R2.wp P (Only (I (k + 1))) a w)
 (hq : ∀ a w, I n a w → Q .normal a w) :
 (Code.block b (Code.loop (Code.seq (Code.seq R1 (Code.cond (.tmp t) .skip (.exit b))) (Code.seq (Code.block b2 body) R2)))).wp P Q a w := by
 refine wp_for3 n (fun k a w => k ≤ n ∧ I k a w) (fun k a w => k ≤ n ∧ I k a w) J (fun a w => I n a w) idx ⟨Nat.zero_le _, h0⟩ (fun k a w h => hi k a w h.2) (fun k a w ⟨hk, h⟩ => Code.wp_only (h1 k a w hk h) fun a1 w1 ⟨hI1, ht⟩ => ⟨rfl, ?_⟩) (fun k a w hk h => hb k a w hk h.2)
  (fun k a w hk h => wp_mono (h2 k a w hk h) fun e a' w' ⟨he, h⟩ => ⟨he, hk, h⟩) hq
 by_cases hlt : k < n
 · exact .inl ⟨by rw [ht, decide_eq_true hlt], hlt, hk, hI1⟩
 · have : k = n := by omega
   subst this
   exact .inr ⟨by rw [ht, decide_eq_false hlt], hI1⟩
end Go.Proofs.YtpblcjipmoblnaaGreatDoor
