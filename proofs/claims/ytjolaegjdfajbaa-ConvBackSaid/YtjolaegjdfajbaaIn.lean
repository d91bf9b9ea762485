/- Plain laws on whole numbers of 32 and 64 bits: cutting, one bit, a number with its sign, by the program and by the reference. -/
import Derived.Test.YtjolaegjdfajbaaFr
namespace Go.Proofs.Ytjolaegjdfajbaa.PA
open Go.RowKit Go.Proofs.YtjolaegjdfajbaaW.PrintWords Go.Proofs.YtjolaegjdfajbaaW.PrintLast Go.Proofs.YtjolaegjdfajbaaW.PrintMore
set_option linter.unusedVariables false

/-- The four sizes. -/
def Wd (n : Nat) : Prop := n = 8 ∨ n = 16 ∨ n = 32 ∨ n = 64
theorem Wd.le {n : Nat} (h : Wd n) : 8 ≤ n ∧ n ≤ 64 := by unfold Wd at h; omega

theorem right_yes {n : Nat} (h : Wd n) : ints_right.f (n : Int) = some true := by
  rcases h with rfl | rfl | rfl | rfl <;> rfl
theorem Right_yes {n : Nat} (h : Wd n) : bodkinref02_Right.f (n : Int) = some true := by
  rcases h with rfl | rfl | rfl | rfl <;> rfl
theorem right_no {a : Int} (h : ∀ n : Nat, Wd n → a ≠ n) : ints_right.f a = some false := by
  have h1 := h 8 (by unfold Wd; omega); have h2 := h 16 (by unfold Wd; omega); have h3 := h 32 (by unfold Wd; omega); have h4 := h 64 (by unfold Wd; omega)
  unfold ints_right.f
  rw [if_neg (by omega), if_neg (by omega), if_neg (by omega)]
  simp; omega
theorem Right_no {a : Int} (h : ∀ n : Nat, Wd n → a ≠ n) : bodkinref02_Right.f a = some false := right_no h

theorem u64_wraps (n : Int) (h₀ : 0 ≤ n) (h₁ : n < 2 ^ 64) : IntKind.u64.wrap n = n := by rw [wu]; omega
theorem and_m1 {n : Nat} (h : n ≤ 64) {x : Int} (h0 : 0 ≤ x) (h1 : x < 18446744073709551616) : Go.bits .and .u64 x ((2 : Int) ^ n - 1) = x % 2 ^ n :=
  bits_mask .u64 64 (by decide) u64_wraps n h x h0 h1

/-- A number of n bits with its sign. -/
def sg (n : Nat) (a : Int) : Int := if a % 2 ^ n < 2 ^ (n - 1) then a % 2 ^ n else a % 2 ^ n - 2 ^ n
theorem Signed_eq {n : Nat} (h : Wd n) {a : Int} (h0 : 0 ≤ a) (h1 : a < 18446744073709551616) : ints_Signed.f n a = some (sg n a) := by
  unfold ints_Signed.f
  rw [right_yes h]
  simp only [Option.bind_some, if_true]
  rcases h with rfl | rfl | rfl | rfl
  · have e : IntKind.u64.wrap (64 - IntKind.u64.wrap ((8 : Nat) : Int)) = 56 := by rfl
    rw [e, if_pos (by decide)]
    congr 1
    unfold sg shr shl
    simp only [wu]
    unfold wrap64
    simp only [show min (56 : Int).toNat IntKind.u64.bits = 56 from rfl, show min (56 : Int).toNat IntKind.i64.bits = 56 from rfl]
    split <;> omega
  · have e : IntKind.u64.wrap (64 - IntKind.u64.wrap ((16 : Nat) : Int)) = 48 := by rfl
    rw [e, if_pos (by decide)]
    congr 1
    unfold sg shr shl
    simp only [wu]
    unfold wrap64
    simp only [show min (48 : Int).toNat IntKind.u64.bits = 48 from rfl, show min (48 : Int).toNat IntKind.i64.bits = 48 from rfl]
    split <;> omega
  · have e : IntKind.u64.wrap (64 - IntKind.u64.wrap ((32 : Nat) : Int)) = 32 := by rfl
    rw [e, if_pos (by decide)]
    congr 1
    unfold sg shr shl
    simp only [wu]
    unfold wrap64
    simp only [show min (32 : Int).toNat IntKind.u64.bits = 32 from rfl, show min (32 : Int).toNat IntKind.i64.bits = 32 from rfl]
    split <;> omega
  · have e : IntKind.u64.wrap (64 - IntKind.u64.wrap ((64 : Nat) : Int)) = 0 := by rfl
    rw [e, if_pos (by decide)]
    congr 1
    unfold sg shr shl
    simp only [wu]
    unfold wrap64
    simp only [show min (0 : Int).toNat IntKind.u64.bits = 0 from rfl, show min (0 : Int).toNat IntKind.i64.bits = 0 from rfl]
    split <;> omega
theorem Signed_no {n a : Int} (h : ∀ m : Nat, Wd m → n ≠ m) : ints_Signed.f n a = some 0 := by
  unfold ints_Signed.f
  rw [right_no h]
  simp

/-! ### the reference: cutting, one bit -/
theorem two_pow_le {i j : Nat} (h : i ≤ j) : (2 : Int) ^ i ≤ 2 ^ j := by exact_mod_cast Nat.pow_le_pow_right (by decide) h
theorem two_pow_pos (i : Nat) : (0 : Int) < 2 ^ i := by exact_mod_cast Nat.two_pow_pos i
theorem Cut_l0 (n : Nat) (hn : n ≤ 62) (a : Int) (h0 : 0 ≤ a) : ∀ (d k i : Nat), i + d = n → d < k → bodkinref02_Cut.l0 k n a ((2 : Int) ^ i) i = some (a % 2 ^ n) := by
  intro d
  induction d with
  | zero =>
    intro k i hi hk
    obtain ⟨k, rfl⟩ : ∃ m, k = m + 1 := ⟨k - 1, by omega⟩
    obtain rfl : i = n := by omega
    simp only [bodkinref02_Cut.l0]
    have := two_pow_pos i
    rw [if_neg (by omega), if_neg (by omega), Int.tmod_eq_emod_of_nonneg h0]
  | succ d ih =>
    intro k i hi hk
    obtain ⟨k, rfl⟩ : ∃ m, k = m + 1 := ⟨k - 1, by omega⟩
    simp only [bodkinref02_Cut.l0]
    have e1 : IntKind.u64.wrap ((2 : Int) ^ i * 2) = 2 ^ (i + 1) := by
      have h1 := two_pow_le (show i + 1 ≤ 62 by omega)
      have h2 := two_pow_pos (i + 1)
      rw [wu, Int.pow_succ] at *
      omega
    have e2 : wrap64 ((i : Int) + 1) = ((i + 1 : Nat) : Int) := by rw [w64] <;> omega
    rw [if_pos (by omega), e1, e2]
    exact ih k (i + 1) (by omega) (by omega)
theorem Cut_eq {n : Nat} (h : Wd n) {a : Int} (h0 : 0 ≤ a) (h1 : a < 18446744073709551616) (k : Nat) (hk : 64 < k) : bodkinref02_Cut.f k n a = some (a % 2 ^ n) := by
  unfold bodkinref02_Cut.f
  by_cases e : n = 64
  · subst e
    rw [if_pos (by decide)]
    congr 1
    omega
  · have hl := h.le
    rw [if_neg (by omega)]
    exact Cut_l0 n (by unfold Wd at h; omega) a h0 n k 0 (by omega) (by omega)

theorem div2 {a : Int} (h0 : 0 ≤ a) : Int.tdiv a 2 = a / 2 := Int.tdiv_eq_ediv_of_nonneg h0
theorem mod2 {a : Int} (h0 : 0 ≤ a) : Int.tmod a 2 = a % 2 := Int.tmod_eq_emod_of_nonneg h0
theorem bit_l0 (j : Nat) (hj : j ≤ 64) : ∀ (d k i : Nat) (a : Int), 0 ≤ a → a < 18446744073709551616 → i + d = j → d < k → bodkinref02_bit.l0 k a j i = some (a / 2 ^ d % 2) := by
  intro d
  induction d with
  | zero =>
    intro k i a h0 h1 hi hk
    obtain ⟨k, rfl⟩ : ∃ m, k = m + 1 := ⟨k - 1, by omega⟩
    simp only [bodkinref02_bit.l0]
    rw [if_neg (by omega), mod2 h0]
    simp
  | succ d ih =>
    intro k i a h0 h1 hi hk
    obtain ⟨k, rfl⟩ : ∃ m, k = m + 1 := ⟨k - 1, by omega⟩
    simp only [bodkinref02_bit.l0]
    have e2 : wrap64 ((i : Int) + 1) = ((i + 1 : Nat) : Int) := by rw [w64] <;> omega
    rw [if_pos (by omega), div2 h0, wu, show a / 2 % 18446744073709551616 = a / 2 by omega, e2, ih k (i + 1) (a / 2) (by omega) (by omega) (by omega) (by omega)]
    rw [Int.ediv_ediv_of_nonneg (by decide), Int.pow_succ, Int.mul_comm]
theorem bit_eq {a : Int} (h0 : 0 ≤ a) (h1 : a < 18446744073709551616) (j : Nat) (hj : j ≤ 64) (k : Nat) (hk : j < k) : bodkinref02_bit.f k a j = some (a / 2 ^ j % 2) :=
  bit_l0 j hj j k 0 a h0 h1 (by omega) hk

theorem sg_low {n : Nat} (h : Wd n) (a : Int) : sg n (a % 2 ^ n) = sg n a := by unfold sg; rw [Int.emod_emod_of_dvd _ (Int.dvd_refl _)]
theorem sg_bounds {n : Nat} (h : Wd n) (a : Int) : -9223372036854775808 ≤ sg n a ∧ sg n a < 9223372036854775808 := by
  unfold sg
  rcases h with rfl | rfl | rfl | rfl <;> (split <;> omega)
theorem RSigned_eq {n : Nat} (h : Wd n) {a : Int} (h0 : 0 ≤ a) (h1 : a < 18446744073709551616) (k : Nat) (hk : 64 < k) : bodkinref02_Signed.f k n a = some (sg n a) := by
  unfold bodkinref02_Signed.f
  rw [Right_yes h]
  simp only [Option.bind_some, if_true]
  rw [Cut_eq h h0 h1 k hk]
  simp only [Option.bind_some]
  have hl := h.le
  have e : wrap64 ((n : Int) - 1) = ((n - 1 : Nat) : Int) := by rw [w64] <;> omega
  have b0 : 0 ≤ a % 2 ^ n := Int.emod_nonneg _ (by have := two_pow_pos n; omega)
  have b1 : a % 2 ^ n < 18446744073709551616 := by
    have h2 := Int.emod_lt_of_pos a (two_pow_pos n)
    have h3 := two_pow_le hl.2
    omega
  rw [e, bit_eq b0 b1 (n - 1) (by omega) k (by omega)]
  simp only [Option.bind_some]
  unfold sg
  rcases h with rfl | rfl | rfl | rfl
  · by_cases hs : a % 2 ^ 8 / 2 ^ (8 - 1) % 2 = 1
    · rw [if_pos hs, Cut_eq (by unfold Wd; omega) (by rw [wu]; omega) (by rw [wu]; omega) k hk]
      simp only [Option.bind_some, wu]
      rw [if_neg (by omega)]
      congr 1
      unfold wrap64
      omega
    · rw [if_neg hs, if_pos (by omega)]
      congr 1
      unfold wrap64
      omega
  · by_cases hs : a % 2 ^ 16 / 2 ^ (16 - 1) % 2 = 1
    · rw [if_pos hs, Cut_eq (by unfold Wd; omega) (by rw [wu]; omega) (by rw [wu]; omega) k hk]
      simp only [Option.bind_some, wu]
      rw [if_neg (by omega)]
      congr 1
      unfold wrap64
      omega
    · rw [if_neg hs, if_pos (by omega)]
      congr 1
      unfold wrap64
      omega
  · by_cases hs : a % 2 ^ 32 / 2 ^ (32 - 1) % 2 = 1
    · rw [if_pos hs, Cut_eq (by unfold Wd; omega) (by rw [wu]; omega) (by rw [wu]; omega) k hk]
      simp only [Option.bind_some, wu]
      rw [if_neg (by omega)]
      congr 1
      unfold wrap64
      omega
    · rw [if_neg hs, if_pos (by omega)]
      congr 1
      unfold wrap64
      omega
  · by_cases hs : a % 2 ^ 64 / 2 ^ (64 - 1) % 2 = 1
    · rw [if_pos hs, Cut_eq (by unfold Wd; omega) (by rw [wu]; omega) (by rw [wu]; omega) k hk]
      simp only [Option.bind_some, wu]
      rw [if_neg (by omega)]
      congr 1
      unfold wrap64
      omega
    · rw [if_neg hs, if_pos (by omega)]
      congr 1
      unfold wrap64
      omega
theorem RSigned_no {n a : Int} (h : ∀ m : Nat, Wd m → n ≠ m) (k : Nat) : bodkinref02_Signed.f k n a = some 0 := by
  unfold bodkinref02_Signed.f
  rw [Right_no h]
  simp

end Go.Proofs.Ytjolaegjdfajbaa.PA
