/- The reference's truncation of a float, walked: it answers the number cut towards 0, held, or its trap, as the float's own digits say. -/
import Derived.Test.YtjolaegjdfajbaaFk
namespace Go.Proofs.Ytjolaegjdfajbaa.Fl
open Go.RowKit Go.Proofs.YtjolaegjdfajbaaW.PrintWords Go.Proofs.YtjolaegjdfajbaaW.PrintLast Go.Proofs.YtjolaegjdfajbaaW.PrintMore
open Ieee (Datum)
set_option linter.unusedVariables false
set_option linter.unusedSimpArgs false

/-- A float that is the integer v. -/
def IntAt (s : Bool) (m : Nat) (e : Int) (v : Int) : Prop :=
  ∃ X : Nat, v = (if s = true then -(X : Int) else (X : Int)) ∧ ((0 ≤ e ∧ X = m * 2 ^ e.toNat) ∨ (e < 0 ∧ m = X * 2 ^ (-e).toNat))
def NumInt (b : Nat) (v : Int) : Prop := ∃ s m e, Ieee.double.read b = .number s m e ∧ IntAt s m e v

theorem scaled {s : Bool} {m : Nat} {e v : Int} (h : IntAt s m e v) (base : Int) (h0 : base ≤ e) (h1 : base ≤ 0) : Ieee.signed s m (e - base).toNat = v * 2 ^ (-base).toNat := by
  obtain ⟨X, hv, hX⟩ := h
  have key : m <<< (e - base).toNat = X * 2 ^ (-base).toNat := by
    rw [Nat.shiftLeft_eq]
    rcases hX with ⟨he, rfl⟩ | ⟨he, rfl⟩
    · rw [Nat.mul_assoc, ← Nat.pow_add]
      congr 2
      omega
    · rw [Nat.mul_assoc, ← Nat.pow_add]
      congr 2
      omega
  unfold Ieee.signed
  rw [key, hv]
  cases s
  · simp only [Bool.false_eq_true, if_false]
    rw [Int.natCast_mul, Int.natCast_pow]; rfl
  · simp only [if_true]
    rw [Int.natCast_mul, Int.natCast_pow, Int.neg_mul]; rfl
theorem cmp_scale (x y : Int) (k : Nat) : compare (x * 2 ^ k) (y * 2 ^ k) = compare x y := by
  have hp : (0 : Int) < 2 ^ k := by exact_mod_cast Nat.two_pow_pos k
  have l : x * 2 ^ k < y * 2 ^ k ↔ x < y := Int.mul_lt_mul_right hp
  have e : x * 2 ^ k = y * 2 ^ k ↔ x = y := ⟨fun h => Int.eq_of_mul_eq_mul_right (by omega) h, fun h => by rw [h]⟩
  show (if x * 2 ^ k < y * 2 ^ k then Ordering.lt else if x * 2 ^ k = y * 2 ^ k then .eq else .gt) = (if x < y then Ordering.lt else if x = y then .eq else .gt)
  simp only [l, e]
theorem order_int {b c : Nat} {v n : Int} (hb : NumInt b v) (hc : NumInt c n) : FloatKind.f64.format.order b c = some (compare v n) := by
  obtain ⟨s, m, e, hr, hv⟩ := hb
  obtain ⟨t, k, j, hr2, hn⟩ := hc
  show Datum.order (Ieee.double.read b) (Ieee.double.read c) = _
  rw [hr, hr2]
  simp only [Datum.order]
  -- a base below both, and below 0
  have gen : ∀ base0 : Int, base0 = min e j → ∃ d : Nat, Ieee.signed s m (e - base0).toNat * 2 ^ d = v * 2 ^ (-(base0 - d)).toNat ∧ Ieee.signed t k (j - base0).toNat * 2 ^ d = n * 2 ^ (-(base0 - d)).toNat := by
    intro base0 hb0
    refine ⟨base0.toNat, ?_, ?_⟩
    · have h := scaled hv (base0 - base0.toNat) (by omega) (by omega)
      rw [← h]
      unfold Ieee.signed
      rw [show (e - (base0 - (base0.toNat : Int))).toNat = (e - base0).toNat + base0.toNat by omega, Nat.shiftLeft_add, Nat.shiftLeft_eq (m <<< (e - base0).toNat)]
      cases s
      · simp only [Bool.false_eq_true, if_false]
        rw [Int.natCast_mul, Int.natCast_pow]; rfl
      · simp only [if_true]
        rw [Int.natCast_mul, Int.natCast_pow, Int.neg_mul]; rfl
    · have h := scaled hn (base0 - base0.toNat) (by omega) (by omega)
      rw [← h]
      unfold Ieee.signed
      rw [show (j - (base0 - (base0.toNat : Int))).toNat = (j - base0).toNat + base0.toNat by omega, Nat.shiftLeft_add, Nat.shiftLeft_eq (k <<< (j - base0).toNat)]
      cases t
      · simp only [Bool.false_eq_true, if_false]
        rw [Int.natCast_mul, Int.natCast_pow]; rfl
      · simp only [if_true]
        rw [Int.natCast_mul, Int.natCast_pow, Int.neg_mul]; rfl
  obtain ⟨d, g1, g2⟩ := gen _ rfl
  rw [← cmp_scale _ _ d, g1, g2, cmp_scale]
theorem toInt_int {b : Nat} {v : Int} (h : NumInt b v) : (FloatKind.f64.decode b).toInt .zero = some v := by
  obtain ⟨s, m, e, hr, X, hv, hX⟩ := h
  show (Ieee.double.read b).toInt .zero = some v
  rw [hr]
  simp only [Datum.toInt, Datum.integral]
  have key : Ieee.Toward.zero.cut s (m <<< e.toNat) (-e).toNat = X := by
    rcases hX with ⟨he, rfl⟩ | ⟨he, rfl⟩
    · rw [show (-e).toNat = 0 by omega, Nat.shiftLeft_eq]
      unfold Ieee.Toward.cut
      simp
    · rw [show e.toNat = 0 by omega, Nat.shiftLeft_zero]
      unfold Ieee.Toward.cut
      simp only [Nat.one_shiftLeft, Bool.toNat_false, Nat.add_zero]
      generalize (-e).toNat = d
      by_cases hX0 : X = 0
      · subst hX0; simp
      · have hl : d ≤ (X * 2 ^ d).log2 := by
          apply (Nat.le_log2 (Nat.mul_ne_zero hX0 (Nat.pos_iff_ne_zero.1 (Nat.two_pow_pos d)))).2
          exact Nat.le_mul_of_pos_left _ (Nat.pos_of_ne_zero hX0)
        rw [Nat.min_eq_left (by omega), Nat.mul_div_cancel _ (Nat.two_pow_pos d)]
  rw [key, hv]
  unfold Ieee.signed
  simp
theorem intVal {b : Nat} {v : Int} (h : NumInt b v) (h0 : -9223372036854775808 ≤ v) (h1 : v < 9223372036854775808) : floatToIntVal .f64 b .i64 = some v := by
  unfold floatToIntVal
  rw [toInt_int h]
  dsimp only
  have m1 : IntKind.i64.min = -9223372036854775808 := by decide +kernel
  have m2 : IntKind.i64.max = 9223372036854775807 := by decide +kernel
  rw [if_pos (by rw [m1, m2]; omega)]

theorem d_least : Ieee.double.leastPlace = -1074 := by decide +kernel
theorem d_exp : (2 : Int) ^ Ieee.double.exponentBits = 2048 := by decide +kernel
theorem zero_at (s : Bool) (e : Int) : Ieee.double.read (Ieee.double.nearest s 0 e) = .number s 0 (-1074) := by
  have e1 : Ieee.double.nearest s 0 e = Ieee.double.word s 0 := by simp [Ieee.Format.nearest]
  rw [e1]
  cases s <;> decide +kernel
/-- A number of few digits times a power of 2, rounded: it is that integer. -/
theorem numInt_of (s : Bool) (Q k : Nat) (hQ : Q < 9007199254740992) (hk : k ≤ 971) : NumInt (Ieee.double.nearest s (Q * 2 ^ k) 0) (if s = true then -((Q * 2 ^ k : Nat) : Int) else ((Q * 2 ^ k : Nat) : Int)) := by
  have h1 : Ieee.double.nearest s (Q * 2 ^ k) 0 = Ieee.double.nearest s Q k := by
    have := Fp.nearest_pow Ieee.double s Q k k
    rw [Int.sub_self] at this
    exact this
  rw [h1]
  by_cases hz : Q = 0
  · subst hz
    refine ⟨s, 0, -1074, zero_at s k, 0, ?_, .inr ⟨by decide, (Nat.zero_mul _).symm⟩⟩
    simp
  · have hl : Q.log2 < 53 := (Nat.log2_lt hz).2 (by omega)
    obtain ⟨_, h3⟩ := Fp.nearest_few Ieee.double s Q k hz (by show Q.log2 ≤ 52; omega) (by rw [d_least]; show -1074 ≤ (k : Int) - ((52 - Q.log2 : Nat) : Int); omega) (by rw [d_least, d_exp]; show (k : Int) + (Q.log2 : Int) - 52 - -1074 + 2 < 2048; omega)
    refine ⟨s, _, _, h3, Q * 2 ^ k, rfl, ?_⟩
    show (0 ≤ (k : Int) - ((52 - Q.log2 : Nat) : Int) ∧ _) ∨ ((k : Int) - ((52 - Q.log2 : Nat) : Int) < 0 ∧ _)
    generalize ht : 52 - Q.log2 = t
    have h52 : Ieee.double.fractionBits - Q.log2 = t := ht
    rw [h52]
    by_cases hkt : t ≤ k
    · left
      refine ⟨by omega, ?_⟩
      rw [Nat.mul_assoc, ← Nat.pow_add]
      congr 2
      omega
    · right
      refine ⟨by omega, ?_⟩
      rw [Nat.mul_assoc, ← Nat.pow_add]
      congr 2
      omega
theorem double_few (b : Nat) (s : Bool) (m : Nat) (e : Int) (h : Ieee.double.read b = .number s m e) : m < 9007199254740992 ∧ -1074 ≤ e ∧ e ≤ 971 := by
  have c1 : Ieee.double.binade = 4503599627370496 := by decide +kernel
  have c2 : Ieee.double.infRung = 9218868437227405312 := by decide +kernel
  have c3 : Ieee.double.signWeight = 9223372036854775808 := by decide +kernel
  unfold Ieee.Format.read at h
  dsimp only at h
  rw [c1, c2, c3, d_least] at h
  have hm : b % 9223372036854775808 < 9223372036854775808 := Nat.mod_lt _ (by decide)
  generalize b % 9223372036854775808 = r at *
  split at h
  · injection h with x y z
    omega
  · split at h
    · injection h with x y z
      omega
    · split at h <;> cases h

/-- A number cut towards 0, without its sign. -/
def TV (m : Nat) (e : Int) : Nat := if 0 ≤ e then m * 2 ^ e.toNat else m / 2 ^ (-e).toNat
theorem TV_scale (m t : Nat) (e : Int) : TV (m * 2 ^ t) (e - t) = TV m e := by
  unfold TV
  by_cases h0 : 0 ≤ e
  · rw [if_pos h0]
    by_cases h1 : 0 ≤ e - t
    · rw [if_pos h1, Nat.mul_assoc, ← Nat.pow_add]
      congr 2
      omega
    · rw [if_neg h1, show t = e.toNat + (-(e - t)).toNat by omega, Nat.pow_add, ← Nat.mul_assoc]
      rw [show (-(e - ((e.toNat + (-(e - (t : Int))).toNat : Nat) : Int))).toNat = (-(e - (t : Int))).toNat by omega]
      exact Nat.mul_div_cancel _ (Nat.two_pow_pos _)
  · rw [if_neg h0, if_neg (by omega), show (-(e - (t : Int))).toNat = (-e).toNat + t by omega, Nat.pow_add]
    exact Nat.mul_div_mul_right _ _ (Nat.two_pow_pos t)
/-- The float cut towards 0. -/
def truncW (b : Nat) : Nat := Ieee.double.write ((Ieee.double.read b).integral .zero)
theorem cut_zero_way (s : Bool) (m : Nat) (e : Int) : Ieee.Toward.zero.cut s (m <<< e.toNat) (-e).toNat = TV m e := by
  unfold TV
  by_cases h0 : 0 ≤ e
  · rw [if_pos h0, show (-e).toNat = 0 by omega, Nat.shiftLeft_eq]
    unfold Ieee.Toward.cut
    simp
  · rw [if_neg h0, show e.toNat = 0 by omega, Nat.shiftLeft_zero]
    unfold Ieee.Toward.cut
    simp only [Nat.one_shiftLeft, Bool.toNat_false, Nat.add_zero]
    generalize (-e).toNat = d
    by_cases hd : d ≤ m.log2 + 2
    · rw [Nat.min_eq_left hd]
    · rw [Nat.min_eq_right (by omega)]
      have h1 : m < 2 ^ (m.log2 + 2) := Nat.lt_of_lt_of_le Nat.lt_log2_self (Nat.pow_le_pow_right (by decide) (by omega))
      have h2 : 2 ^ (m.log2 + 2) ≤ 2 ^ d := Nat.pow_le_pow_right (by decide) (by omega)
      rw [Nat.div_eq_of_lt h1, Nat.div_eq_of_lt (by omega)]
theorem truncW_int {b : Nat} {s : Bool} {m : Nat} {e : Int} (h : Ieee.double.read b = .number s m e) : NumInt (truncW b) (if s = true then -((TV m e : Nat) : Int) else ((TV m e : Nat) : Int)) := by
  obtain ⟨h1, h2, h3⟩ := double_few b s m e h
  have e1 : truncW b = Ieee.double.nearest s (TV m e) 0 := by
    unfold truncW
    rw [h]
    simp only [Datum.integral]
    rw [cut_zero_way]
    rfl
  rw [e1]
  by_cases h0 : 0 ≤ e
  · have e2 : TV m e = m * 2 ^ e.toNat := by unfold TV; rw [if_pos h0]
    rw [e2]
    exact numInt_of s m e.toNat h1 (by omega)
  · have e2 : TV m e = m / 2 ^ (-e).toNat * 2 ^ 0 := by unfold TV; rw [if_neg h0]; simp
    rw [e2]
    exact numInt_of s (m / 2 ^ (-e).toNat) 0 (Nat.lt_of_le_of_lt (Nat.div_le_self _ _) h1) (by decide)

/-- 2^63 less. -/
def lessW (b : Nat) : Nat := Ieee.double.write (((Ieee.double.read b).sum (Ieee.double.read 4890909195324358656).opposite).getD (.infinity false))
theorem read_c63 : Ieee.double.read 4890909195324358656 = .number false 4503599627370496 11 := by decide +kernel
theorem lessW_int {b : Nat} {v : Int} (h : NumInt b v) (h0 : 9223372036854775808 ≤ v) (h1 : v < 18446744073709551616) :
    floatBits .sub .f64 b 4890909195324358656 = some (lessW b) ∧ NumInt (lessW b) (v - 9223372036854775808) := by
  obtain ⟨s, m, e, hr, X, hv, hX⟩ := h
  obtain ⟨f1, f2, f3⟩ := double_few b s m e hr
  have hs : s = false := by cases s; · rfl
                            · rw [if_pos rfl] at hv; omega
  subst hs
  rw [if_neg (by decide)] at hv
  have he : 11 ≤ e ∧ X = m * 2 ^ e.toNat := by
    rcases hX with ⟨he, hX⟩ | ⟨he, hX⟩
    · refine ⟨?_, hX⟩
      apply Int.not_lt.1
      intro hlt
      have : (2 : Nat) ^ e.toNat ≤ 2 ^ 10 := Nat.pow_le_pow_right (by decide) (by omega)
      have h3 : m * 2 ^ e.toNat ≤ m * 2 ^ 10 := Nat.mul_le_mul_left _ this
      omega
    · exfalso
      have : X ≤ X * 2 ^ (-e).toNat := Nat.le_mul_of_pos_right _ (Nat.two_pow_pos _)
      omega
  obtain ⟨k, hk⟩ : ∃ k : Nat, e = 11 + k := ⟨(e - 11).toNat, by omega⟩
  subst hk
  have hX2 : X = m * 2 ^ k * 2048 := by
    rw [he.2, show ((11 : Int) + k).toNat = k + 11 by omega, Nat.pow_add, Nat.mul_assoc]
  have hmin : min ((11 : Int) + k) 11 = 11 := by omega
  have hsum : (Ieee.double.read b).sum (Ieee.double.read 4890909195324358656).opposite = some (.number false (m * 2 ^ k - 4503599627370496) 11) := by
    rw [hr, read_c63]
    simp only [Datum.opposite, Datum.sum]
    rw [hmin]
    have t1 : Ieee.signed false m ((11 : Int) + k - 11).toNat = ((m * 2 ^ k : Nat) : Int) := by
      unfold Ieee.signed
      rw [show ((11 : Int) + k - 11).toNat = k by omega, Nat.shiftLeft_eq]
      rfl
    have t2 : Ieee.signed (!false) 4503599627370496 ((11 : Int) - 11).toNat = -4503599627370496 := by decide +kernel
    rw [t1, t2]
    have h5 : 4503599627370496 ≤ m * 2 ^ k := by omega
    have h6 : (((m * 2 ^ k : Nat) : Int) + -4503599627370496).natAbs = m * 2 ^ k - 4503599627370496 := by omega
    rw [h6]
    congr 2
    by_cases hz : ((m * 2 ^ k : Nat) : Int) + -4503599627370496 = 0
    · rw [if_pos hz]; rfl
    · rw [if_neg hz]
      exact decide_eq_false (by omega)
  constructor
  · show ((Ieee.double.read b).sum (Ieee.double.read 4890909195324358656).opposite).map Ieee.double.write = some (lessW b)
    unfold lessW
    rw [hsum]
    rfl
  · unfold lessW
    rw [hsum]
    have hn : Ieee.double.write ((some (Datum.number false (m * 2 ^ k - 4503599627370496) 11)).getD (.infinity false)) = Ieee.double.nearest false ((m * 2 ^ k - 4503599627370496) * 2 ^ 11) 0 := by
      show Ieee.double.nearest false (m * 2 ^ k - 4503599627370496) 11 = _
      have := Fp.nearest_pow Ieee.double false (m * 2 ^ k - 4503599627370496) 11 11
      rw [← this]
      rfl
    rw [hn]
    have := numInt_of false (m * 2 ^ k - 4503599627370496) 11 (by omega) (by decide)
    rw [if_neg (by decide)] at this
    have e5 : (((m * 2 ^ k - 4503599627370496) * 2 ^ 11 : Nat) : Int) = v - 9223372036854775808 := by omega
    rw [e5] at this
    exact this

/-! ### the walks -/
theorem value_calls39 (n a : Int) (w : World) (hn : n = 32 ∨ n = 64) : Calls Try.prog 39 #[.int .i64 n, .int .u64 a] w fun e w' => (∃ b, e = .returned (.float .f64 b) ∧ VP (rdn n a) b) ∧ Drawn0 w w' := by
  rcases hn with rfl | rfl
  · cases hd : (Ieee.single.read (a % 4294967296).toNat).isNaN with
    | true =>
      obtain ⟨s, t, hd'⟩ : ∃ s t, Ieee.single.read (a % 4294967296).toNat = .nan s t := by
        cases hx : Ieee.single.read (a % 4294967296).toNat with
        | nan s t => exact ⟨s, t, rfl⟩
        | number s m e => rw [hx] at hd; cases hd
        | infinity s => rw [hx] at hd; cases hd
      have hrun := run_nanConv _ s t hd'
      have hx : ∀ W, VP (rdn 32 a) (nanOf (a % 4294967296).toNat W) := fun W => by
        unfold rdn; rw [if_pos rfl, hd']; exact nanOf_nan _ _
      have HX := Aside0.mk hx
      clear hx hd hd'
      go_enter Try.func39, Try.ntmps39
      go_wp2_with (go_at_call 37; refine (F32_calls a _).mono ?_; rintro e w' ⟨rfl, ⟨nd, rfl⟩⟩)
      go_ret
      exact ⟨⟨_, rfl, HX.out _⟩, by repeat (first | exact Drawn0.refl _ | exact Drawn0.step (n := 1) (by assumption) | apply Drawn0.step)⟩
    | false =>
      have hrun := run_fine _ hd
      have hx : VP (rdn 32 a) (Ieee.double.write (Ieee.single.read (a % 4294967296).toNat)) := by
        unfold rdn; rw [if_pos rfl]; exact (conv_fine _ hd).2
      have HX := Aside0.mk hx
      clear hx hd
      generalize Ieee.double.write (Ieee.single.read (a % 4294967296).toNat) = b at *
      go_enter Try.func39, Try.ntmps39
      go_wp2_with (go_at_call 37; refine (F32_calls a _).mono ?_; rintro e w' ⟨rfl, ⟨nd, rfl⟩⟩)
      go_ret
      exact ⟨⟨_, rfl, HX.out⟩, by repeat (first | exact Drawn0.refl _ | apply Drawn0.step)⟩
  · go_enter Try.func39, Try.ntmps39
    go_wp2_with (go_at_call 38; refine (F64_calls a _).mono ?_; rintro e w' ⟨rfl, ⟨nd, rfl⟩⟩)
    go_ret
    exact ⟨⟨_, rfl, VP_self _⟩, by repeat (first | exact Drawn0.refl _ | apply Drawn0.step)⟩
section
attribute [local irreducible] FloatKind.decode FloatKind.encode Ieee.Datum.integral
theorem integral_of (b : Nat) (d : Datum) (hd : FloatKind.f64.decode b = d) (h : d.isNaN = false) :
    Extern.MathFloor.toIntegral "math.archTrunc" .zero #[.float .f64 b] = pure (.float .f64 (FloatKind.f64.encode (d.integral .zero))) := by
  have key : ∀ x : Datum, x.isNaN = false → ∀ y : Datum → Sem Value, ∀ z : Bool → Nat → Sem Value,
      (match x with | .nan s t => z s t | d => y d) = y x := by
    intro x hx y z
    cases x with
    | nan s t => cases hx
    | number s m e => rfl
    | infinity s => rfl
  subst hd
  exact key _ h (fun d => pure (.float .f64 (FloatKind.f64.encode (d.integral .zero)))) _
end
theorem e54 (b : Nat) (h : (Ieee.double.read b).isNaN = false) (w : World) : (callFunc 54 #[.float .f64 b]).run Try.prog w = .ok (.value (.float .f64 (truncW b))) w := by
  rw [run_callFunc_extern Try.func54 (by kernel_rfl) (by kernel_rfl) (by kernel_rfl) (e := Extern.MathFloor.toIntegral "math.archTrunc" .zero) (by kernel_rfl), integral_of b (Ieee.double.read b) rfl h]
  rfl
theorem Trunc_calls40 (b : Nat) (h : (Ieee.double.read b).isNaN = false) (w : World) : Calls Try.prog 40 #[.float .f64 b] w fun e w' => e = .returned (.float .f64 (truncW b)) ∧ Drawn0 w w' := by
  have E := e54 b h
  clear h
  go_enter Try.func40, Try.ntmps40
  go_wp2
  go_ret
  exact ⟨rfl, Drawn0.refl _⟩
end Go.Proofs.Ytjolaegjdfajbaa.Fl
