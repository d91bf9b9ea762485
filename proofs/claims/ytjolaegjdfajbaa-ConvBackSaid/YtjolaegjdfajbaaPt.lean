/- Plain laws: what kind of number a float's bits are, and its sign, number and place, by the program, are what IEEE 754 says (the model's 'read'). -/
import Derived.Test.YtjolaegjdfajbaaPureConvWords
namespace Go.Proofs.Ytjolaegjdfajbaa.PA
open Go.RowKit Go.Proofs.YtjolaegjdfajbaaW.PrintWords Go.Proofs.YtjolaegjdfajbaaW.PrintLast Go.Proofs.YtjolaegjdfajbaaW.PrintMore
open Ieee (Format Datum)
open Fp (magOf placeOf)
set_option linter.unusedVariables false

/-- What a word stands for, by its rung and sign. -/
theorem read_cases {f : Format} (hf : f.binade ≤ f.infRung) (A : Nat) :
    (A % f.signWeight < f.infRung ∧ f.read A = .number (A / f.signWeight % 2 == 1) (magOf f (A % f.signWeight)) (placeOf f (A % f.signWeight))) ∨
    (A % f.signWeight = f.infRung ∧ f.read A = .infinity (A / f.signWeight % 2 == 1)) ∨
    (f.infRung < A % f.signWeight ∧ ∃ s t, f.read A = .nan s t) := by
  unfold Format.read magOf placeOf
  dsimp only
  by_cases h1 : A % f.signWeight < f.binade
  · rw [if_pos h1, if_pos h1, if_pos h1]
    exact .inl ⟨by omega, rfl⟩
  · rw [if_neg h1, if_neg h1, if_neg h1]
    by_cases h2 : A % f.signWeight < f.infRung
    · rw [if_pos h2]; exact .inl ⟨h2, rfl⟩
    · rw [if_neg h2]
      by_cases h3 : A % f.signWeight = f.infRung
      · rw [if_pos h3]; exact .inr (.inl ⟨h3, rfl⟩)
      · rw [if_neg h3]; exact .inr (.inr ⟨by omega, _, _, rfl⟩)

theorem fm_binade {p x : Nat} {f : Format} (h : Fm p x f) : f.binade ≤ f.infRung := by
  rcases h with ⟨_, _, rfl⟩ | ⟨_, _, rfl⟩
  · decide +kernel
  · decide +kernel
theorem nat_and_bit (A i : Nat) : A &&& 2 ^ i = (A / 2 ^ i % 2) * 2 ^ i := by
  have hm : A / 2 ^ i % 2 = 0 ∨ A / 2 ^ i % 2 = 1 := by omega
  have ht : A.testBit i = decide (A / 2 ^ i % 2 = 1) := Nat.testBit_eq_decide_div_mod_eq
  apply Nat.eq_of_testBit_eq
  intro j
  rw [Nat.testBit_and, Nat.testBit_two_pow]
  rcases hm with hm | hm
  · rw [hm] at ht ⊢
    rw [Nat.zero_mul, Nat.zero_testBit]
    by_cases hj : i = j
    · subst hj; rw [ht]; rfl
    · simp [hj]
  · rw [hm] at ht ⊢
    rw [Nat.one_mul, Nat.testBit_two_pow]
    by_cases hj : i = j
    · subst hj; rw [ht]; simp
    · simp [hj]
theorem and_bit (a : Int) (h0 : 0 ≤ a) (h1 : a < 18446744073709551616) (i : Nat) (hi : i < 64) : Go.bits .and .u64 a (2 ^ i) = (a / 2 ^ i % 2) * 2 ^ i := by
  obtain ⟨A, rfl⟩ := Int.eq_ofNat_of_zero_le h0
  have hp : 2 ^ i < 18446744073709551616 := by
    have := Nat.pow_lt_pow_right (a := 2) (by decide) hi
    exact this
  rw [show ((2 : Int) ^ i) = ((2 ^ i : Nat) : Int) by exact_mod_cast rfl, bits_and_u64_nat A (2 ^ i) (by omega) hp, nat_and_bit]
  exact_mod_cast rfl
/-- The bits of a size. -/
def lowA (n : Nat) (a : Int) : Nat := (a % 2 ^ n).toNat
theorem rdn_low {n : Nat} (h : W2 n) {a : Int} (h0 : 0 ≤ a) (h1 : a < 18446744073709551616) : Fl.rdn n a = (fk n).format.read (lowA n a) := by
  rcases h with rfl | rfl
  · rfl
  · unfold Fl.rdn fk lowA
    rw [if_neg (by decide), if_neg (by decide)]
    show Ieee.double.read _ = Ieee.double.read _
    congr 1
    omega
theorem size_eq {n : Nat} (h : W2 n) {a : Int} (h0 : 0 ≤ a) (h1 : a < 18446744073709551616) : ∃ p x : Nat, floats_of.f n = some (((p : Nat) : Int), ((x : Nat) : Int)) ∧ Fm p x (fk n).format ∧ floats_format_none.f p x = some false
    ∧ floats_format_size.f p x a = some ((lowA n a % (fk n).format.signWeight : Nat) : Int)
    ∧ floats_format_neg.f p x a = some (lowA n a / (fk n).format.signWeight % 2 == 1)
    ∧ (Go.bits .and .u64 (shr .u64 a (IntKind.u64.wrap (wrap64 ((n : Int) - 1)))) 1 == 1) = (lowA n a / (fk n).format.signWeight % 2 == 1) := by
  have m1 : ∀ y : Int, 0 ≤ y → y < 18446744073709551616 → Go.bits .and .u64 y 1 = y % 2 := fun y y0 y1 => and_m1 (n := 1) (by decide) y0 y1
  rcases h with rfl | rfl
  · have e := sign_eq Fm.single
    refine ⟨23, 8, rfl, Fm.single, by decide +kernel, ?_, ?_, ?_⟩
    · unfold floats_format_size.f
      rw [e]
      simp only [Option.bind_some, single_sign]
      have hm := and_m1 (n := 31) (by decide) h0 h1
      rw [wu, show (((2147483648 : Nat) : Int) - 1) % 18446744073709551616 = 2 ^ 31 - 1 by decide, hm]
      congr 1
      show _ = ((lowA 32 a % Ieee.single.signWeight : Nat) : Int)
      rw [single_sign]
      unfold lowA
      omega
    · unfold floats_format_neg.f
      rw [e]
      simp only [Option.bind_some, single_sign]
      have hb := and_bit a h0 h1 31 (by decide)
      rw [show ((2147483648 : Nat) : Int) = 2 ^ 31 by decide, hb]
      show some (_ != _) = some (lowA 32 a / Ieee.single.signWeight % 2 == 1)
      rw [single_sign]
      unfold lowA
      congr 1
      rw [Bool.eq_iff_iff]
      simp only [bne_iff_ne, beq_iff_eq, ne_eq]
      omega
    · have e2 : IntKind.u64.wrap (wrap64 (((32 : Nat) : Int) - 1)) = 31 := by decide +kernel
      rw [e2]
      have e3 : shr .u64 a 31 = a / 2 ^ 31 := by unfold shr; rfl
      rw [e3, m1 _ (by omega) (by omega)]
      show _ = (lowA 32 a / Ieee.single.signWeight % 2 == 1)
      rw [single_sign]
      unfold lowA
      rw [Bool.eq_iff_iff]
      simp only [beq_iff_eq]
      omega
  · have e := sign_eq Fm.double
    refine ⟨52, 11, rfl, Fm.double, by decide +kernel, ?_, ?_, ?_⟩
    · unfold floats_format_size.f
      rw [e]
      simp only [Option.bind_some, double_sign]
      have hm := and_m1 (n := 63) (by decide) h0 h1
      rw [wu, show (((9223372036854775808 : Nat) : Int) - 1) % 18446744073709551616 = 2 ^ 63 - 1 by decide, hm]
      congr 1
      show _ = ((lowA 64 a % Ieee.double.signWeight : Nat) : Int)
      rw [double_sign]
      unfold lowA
      omega
    · unfold floats_format_neg.f
      rw [e]
      simp only [Option.bind_some, double_sign]
      have hb := and_bit a h0 h1 63 (by decide)
      rw [show ((9223372036854775808 : Nat) : Int) = 2 ^ 63 by decide, hb]
      show some (_ != _) = some (lowA 64 a / Ieee.double.signWeight % 2 == 1)
      rw [double_sign]
      unfold lowA
      congr 1
      rw [Bool.eq_iff_iff]
      simp only [bne_iff_ne, beq_iff_eq, ne_eq]
      omega
    · have e2 : IntKind.u64.wrap (wrap64 (((64 : Nat) : Int) - 1)) = 63 := by decide +kernel
      rw [e2]
      have e3 : shr .u64 a 63 = a / 2 ^ 63 := by unfold shr; rfl
      rw [e3, m1 _ (by omega) (by omega)]
      show _ = (lowA 64 a / Ieee.double.signWeight % 2 == 1)
      rw [double_sign]
      unfold lowA
      rw [Bool.eq_iff_iff]
      simp only [beq_iff_eq]
      omega
end Go.Proofs.Ytjolaegjdfajbaa.PA
