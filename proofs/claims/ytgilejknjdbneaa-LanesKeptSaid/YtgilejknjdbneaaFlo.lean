/- Floats: a quotient of two whole numbers, the second not 0, is no NaN, and is equal to itself. -/
import Derived.WalkKit
import Derived.WalkLawsBesides
namespace Go.Proofs.Ytgilejknjdbneaa
open Go Ieee

theorem nearest_nn (f : Format) (mag : Nat) (place : Int) : f.nearest false mag place ≤ f.infRung := by
  unfold Format.nearest Format.word
  split
  · simp
  · simp only [Bool.false_eq_true, if_false]
    exact Nat.min_le_right _ _

theorem read_nn {rung : Nat} (h : rung ≤ double.infRung) : (∃ m i, double.read rung = .number false m i) ∨ double.read rung = .infinity false := by
  have hb : double.binade = 4503599627370496 := by decide
  have hi : double.infRung = 9218868437227405312 := by decide
  have hs : double.signWeight = 9223372036854775808 := by decide
  rw [hi] at h
  unfold Format.read
  simp only [hb, hi, hs]
  have h1 : rung / 9223372036854775808 = 0 := Nat.div_eq_of_lt (by omega)
  have h2 : rung % 9223372036854775808 = rung := Nat.mod_eq_of_lt (by omega)
  rw [h1, h2]
  simp only [Nat.zero_mod]
  split
  · exact .inl ⟨_, _, rfl⟩
  · split
    · exact .inl ⟨_, _, rfl⟩
    · rw [if_pos (by omega)]; exact .inr rfl

theorem order_self {rung : Nat} (h : rung ≤ double.infRung) : double.order rung rung = some .eq := by
  unfold Format.order
  rcases read_nn h with ⟨m, i, h⟩ | h
  · rw [h]; simp [Datum.order]
  · rw [h]; simp [Datum.order]

theorem cut_le (neg : Bool) (n drop : Nat) : Toward.even.cut neg n drop ≤ n / (1 <<< min drop (n.log2 + 2)) + 1 := by
  unfold Toward.cut
  simp only
  have : ∀ b : Bool, b.toNat ≤ 1 := by intro b; cases b <;> simp
  exact Nat.add_le_add_left (this _) _

theorem cut_low {mag q : Nat} (hq : q = mag.log2) (h : q ≤ 52) : Toward.even.cut false (mag <<< (52 - q)) 0 ≤ 9007199254740992 := by
  have hlt : mag < 2 ^ (q + 1) := by rw [hq]; exact Nat.lt_log2_self
  refine Nat.le_trans (cut_le _ _ _) ?_
  rw [Nat.zero_min, Nat.shiftLeft_eq, Nat.shiftLeft_zero, Nat.div_one]
  have h1 := Nat.mul_lt_mul_of_pos_right hlt (Nat.two_pow_pos (52 - q))
  rw [← Nat.pow_add] at h1
  have h2 : q + 1 + (52 - q) = 53 := by omega
  rw [h2] at h1
  have h3 : (2 : Nat) ^ 53 = 9007199254740992 := by decide
  rw [h3] at h1
  omega
theorem cut_high {mag q : Nat} (hq : q = mag.log2) (h : 52 < q) : Toward.even.cut false mag (q - 52) ≤ 9007199254740992 := by
  have hlt : mag < 2 ^ (q + 1) := by rw [hq]; exact Nat.lt_log2_self
  refine Nat.le_trans (cut_le _ _ _) ?_
  rw [Nat.shiftLeft_eq, Nat.one_mul, ← hq, Nat.min_eq_left (by omega)]
  have h1 : mag / 2 ^ (q - 52) < 2 ^ 53 := by
    rw [Nat.div_lt_iff_lt_mul (Nat.two_pow_pos _), ← Nat.pow_add]
    have h2 : 53 + (q - 52) = q + 1 := by omega
    rw [h2]
    exact hlt
  have h3 : (2 : Nat) ^ 53 = 9007199254740992 := by decide
  rw [h3] at h1
  omega

theorem nearest_pos (f : Format) {mag : Nat} (h0 : 0 < mag) : f.nearest false mag 0 = min (((max ((0 : Int) + mag.log2 - f.fractionBits) f.leastPlace) - f.leastPlace).toNat * f.binade + Toward.even.cut false (mag <<< (0 - (max ((0 : Int) + mag.log2 - f.fractionBits) f.leastPlace)).toNat) ((max ((0 : Int) + mag.log2 - f.fractionBits) f.leastPlace) - 0).toNat) f.infRung := by
  unfold Format.nearest Format.word
  rw [if_neg (by omega)]
  simp only [Bool.false_eq_true, if_false]

theorem rung_arith {q x c B R : Nat} (hq : q < 63) (hc : c ≤ 2 * B) (hB : 0 < B) (hR : R = 2047 * B) (hx : x = q + 1022) : B ≤ min (x * B + c) R ∧ min (x * B + c) R < R := by
  subst hx hR
  have h1 : (q + 1022) * B ≤ 1084 * B := Nat.mul_le_mul_right _ (by omega)
  have h2 : 1022 * B ≤ (q + 1022) * B := Nat.mul_le_mul_right _ (by omega)
  omega

theorem rung_gen (f : Format) (hb : f.binade = 4503599627370496) (hi : f.infRung = 2047 * f.binade) (hl : f.leastPlace = -1074) (hf : f.fractionBits = 52) {mag : Nat} (h0 : 0 < mag) (h1 : mag < 9223372036854775808) :
    f.binade ≤ f.nearest false mag 0 ∧ f.nearest false mag 0 < f.infRung := by
  have hq : mag.log2 < 63 := (Nat.log2_lt (by omega)).2 (Nat.lt_of_lt_of_eq h1 (by decide))
  rw [nearest_pos f h0, hl, hf]
  have hmax : max ((0 : Int) + (mag.log2 : Int) - ((52 : Nat) : Int)) (-1074) = (mag.log2 : Int) - 52 := by omega
  rw [hmax]
  refine rung_arith hq ?_ (by rw [hb]; decide) hi (by omega)
  rw [hb]
  rcases Nat.lt_or_ge 52 mag.log2 with h | h
  · have e1 : (0 - ((mag.log2 : Int) - 52)).toNat = 0 := by omega
    have e2 : ((mag.log2 : Int) - 52 - 0).toNat = mag.log2 - 52 := by omega
    rw [e1, e2, Nat.shiftLeft_zero]
    exact Nat.le_trans (cut_high rfl h) (by decide)
  · have e1 : (0 - ((mag.log2 : Int) - 52)).toNat = 52 - mag.log2 := by omega
    have e2 : ((mag.log2 : Int) - 52 - 0).toNat = 0 := by omega
    rw [e1, e2]
    exact Nat.le_trans (cut_low rfl h) (by decide)

theorem rung_of {mag : Nat} (h0 : 0 < mag) (h1 : mag < 9223372036854775808) : double.binade ≤ double.nearest false mag 0 ∧ double.nearest false mag 0 < double.infRung :=
  rung_gen double (by decide) (by decide) (by decide) rfl h0 h1

theorem read_of {rung : Nat} (h0 : double.binade ≤ rung) (h1 : rung < double.infRung) : ∃ m i, double.read rung = .number false m i ∧ m ≠ 0 := by
  have hb : double.binade = 4503599627370496 := by decide
  have hi : double.infRung = 9218868437227405312 := by decide
  have hs : double.signWeight = 9223372036854775808 := by decide
  rw [hi] at h1
  rw [hb] at h0
  unfold Format.read
  simp only [hb, hi, hs]
  have e1 : rung / 9223372036854775808 = 0 := Nat.div_eq_of_lt (by omega)
  have e2 : rung % 9223372036854775808 = rung := Nat.mod_eq_of_lt (by omega)
  rw [e1, e2, if_neg (by omega), if_pos h1]
  exact ⟨_, _, rfl, by omega⟩

theorem float_num {a : Int} (h0 : 0 ≤ a) (h1 : a < 9223372036854775808) : ∃ m i, double.read (floatOfInt .f64 a) = .number false m i ∧ (0 < a → m ≠ 0) := by
  have e : floatOfInt .f64 a = double.nearest false a.natAbs 0 := by
    have : decide (a < 0) = false := by simp; omega
    unfold floatOfInt FloatKind.nearest FloatKind.encode FloatKind.format Format.write
    simp only [this]
  rw [e]
  rcases Nat.eq_zero_or_pos a.natAbs with h | h
  · rw [h]
    have : double.nearest false 0 0 = 0 := by unfold Format.nearest Format.word; simp
    rw [this]
    refine ⟨0, -1074, by decide, fun h => by omega⟩
  · obtain ⟨h2, h3⟩ := rung_of h (by omega)
    obtain ⟨m, i, h4, h5⟩ := read_of h2 h3
    exact ⟨m, i, h4, fun _ => h5⟩

/-- The quotient of two whole numbers. -/
def quoF (a b : Int) : Nat := (double.div (floatOfInt .f64 a) (floatOfInt .f64 b)).getD 0

theorem div_num {a b : Int} (h0 : 0 ≤ a) (h1 : a < 9223372036854775808) (h2 : 0 < b) (h3 : b < 9223372036854775808) :
    double.div (floatOfInt .f64 a) (floatOfInt .f64 b) = some (quoF a b) ∧ double.order (quoF a b) (quoF a b) = some .eq := by
  obtain ⟨m, i, e1, _⟩ := float_num h0 h1
  obtain ⟨n, j, e2, hn⟩ := float_num (Int.le_of_lt h2) h3
  have hn' := hn h2
  unfold quoF
  have : ∃ r, double.div (floatOfInt .f64 a) (floatOfInt .f64 b) = some r ∧ r ≤ double.infRung := by
    unfold Format.div
    rw [e1, e2]
    simp only [Datum.quotient, if_neg hn']
    exact ⟨_, rfl, nearest_nn _ _ _⟩
  obtain ⟨r, hr, hle⟩ := this
  rw [hr]
  exact ⟨rfl, order_self hle⟩

theorem run_quoF {P : Program} (t : TypeId) {a b : Int} (h0 : 0 ≤ a) (h1 : a < 9223372036854775808) (h2 : 0 < b) (h3 : b < 9223372036854775808) (w : World) :
    (binOp .quo t (.float .f64 (floatOfInt .f64 a)) (.float .f64 (floatOfInt .f64 b))).run P w = .ok (.float .f64 (quoF a b)) w := by
  have h := (div_num h0 h1 h2 h3).1
  simp only [binOp, Op.floatArith]
  have : FloatKind.f64.format = double := rfl
  simp [this, h]

end Go.Proofs.Ytgilejknjdbneaa
