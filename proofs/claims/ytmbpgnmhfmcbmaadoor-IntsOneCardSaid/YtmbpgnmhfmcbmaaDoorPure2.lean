/- A plain law: the sum that math/bits.OnesCount64 makes, in parallel, is the number of a number's bits that are 1. -/
import Derived.Test.YtmbpgnmhfmcbmaaDoorPure1
namespace Go.Proofs.YtmbpgnmhfmcbmaaDoor.PA
open Go.RowKit Go.Proofs.YtmbpgnmhfmcbmaaDoorW.PrintWords Go.Proofs.YtmbpgnmhfmcbmaaDoorW.PrintLast Go.Proofs.YtmbpgnmhfmcbmaaDoorW.PrintMore
set_option linter.unusedVariables false

/-! ### popAux -/
theorem pop_mod : ∀ (m a : Nat), Lib.popAux m (a % 2 ^ m) = Lib.popAux m a
  | 0, _ => rfl
  | m + 1, a => by
    unfold Lib.popAux
    have e1 : a % 2 ^ (m + 1) % 2 = a % 2 := Nat.mod_mod_of_dvd a ⟨2 ^ m, by rw [Nat.pow_succ, Nat.mul_comm]⟩
    have e2 : a % 2 ^ (m + 1) / 2 = a / 2 % 2 ^ m := by
      rw [Nat.pow_succ, Nat.mul_comm, Nat.mod_mul_right_div_self]
    rw [e1, e2, pop_mod m (a / 2)]
theorem pop_add : ∀ (m n a : Nat), Lib.popAux (m + n) a = Lib.popAux m a + Lib.popAux n (a / 2 ^ m)
  | 0, n, a => by simp [Lib.popAux]
  | m + 1, n, a => by
    rw [Nat.add_right_comm]
    show a % 2 + Lib.popAux (m + n) (a / 2) = (a % 2 + Lib.popAux m (a / 2)) + _
    rw [pop_add m n (a / 2), Nat.div_div_eq_div_mul, ← Nat.pow_succ', Nat.add_assoc]
theorem pop_le : ∀ (m a : Nat), Lib.popAux m a ≤ m
  | 0, _ => Nat.le_refl _
  | m + 1, a => by
    have := pop_le m (a / 2)
    show a % 2 + Lib.popAux m (a / 2) ≤ m + 1
    omega
theorem pop_zero : ∀ m, Lib.popAux m 0 = 0
  | 0 => rfl
  | m + 1 => by show 0 % 2 + Lib.popAux m (0 / 2) = 0; simp [pop_zero m]

/-! ### masks by digits -/
theorem and_split (j x y : Nat) : x &&& y = (x % 2 ^ j &&& y % 2 ^ j) + 2 ^ j * (x / 2 ^ j &&& y / 2 ^ j) := by
  have h := Nat.div_add_mod (x &&& y) (2 ^ j)
  rw [Nat.and_div_two_pow, Nat.and_mod_two_pow] at h
  omega

/-- k digits of the base 2^j, each m. -/
def rep (j m : Nat) : Nat → Nat
  | 0 => 0
  | k + 1 => m + 2 ^ j * rep j m k
theorem and_rep (j h k x : Nat) (hh : h ≤ j) : x &&& rep j (2 ^ h - 1) (k + 1) = x % 2 ^ h + 2 ^ j * (x / 2 ^ j &&& rep j (2 ^ h - 1) k) := by
  have hp := Nat.two_pow_pos h
  have hpj := Nat.two_pow_pos j
  have hle := Nat.pow_le_pow_right (n := 2) (by decide) hh
  rw [and_split j]
  show (x % 2 ^ j &&& (2 ^ h - 1 + 2 ^ j * rep j (2 ^ h - 1) k) % 2 ^ j) + 2 ^ j * (x / 2 ^ j &&& (2 ^ h - 1 + 2 ^ j * rep j (2 ^ h - 1) k) / 2 ^ j) = _
  have e1 : (2 ^ h - 1 + 2 ^ j * rep j (2 ^ h - 1) k) % 2 ^ j = 2 ^ h - 1 := by
    rw [Nat.add_mul_mod_self_left, Nat.mod_eq_of_lt (by omega)]
  have e2 : (2 ^ h - 1 + 2 ^ j * rep j (2 ^ h - 1) k) / 2 ^ j = rep j (2 ^ h - 1) k := by
    rw [Nat.add_mul_div_left _ _ hpj, Nat.div_eq_of_lt (by omega), Nat.zero_add]
  rw [e1, e2, Nat.and_two_pow_sub_one_eq_mod, Nat.mod_mod_of_dvd _ (Nat.pow_dvd_pow 2 hh)]

/-- The bits' number of each group of g bits, as digits of the base 2^g. -/
def grp (g : Nat) : Nat → Nat → Nat
  | 0, _ => 0
  | k + 1, a => Lib.popAux g a + 2 ^ g * grp g k (a / 2 ^ g)

theorem st1 : ∀ (k a : Nat), (a / 2 &&& rep 2 1 k) + (a &&& rep 2 1 k) = grp 2 k a
  | 0, a => by simp [rep, grp]
  | k + 1, a => by
    have h1 := and_rep 2 1 k (a / 2) (by decide)
    have h2 := and_rep 2 1 k a (by decide)
    simp only [Nat.reducePow, Nat.reduceSub] at h1 h2
    rw [h1, h2]
    have ih := st1 k (a / 4)
    rw [show a / 2 / 4 = a / 4 / 2 by omega]
    show _ = Lib.popAux 2 a + 4 * grp 2 k (a / 4)
    rw [← ih]
    have : Lib.popAux 2 a = a % 2 + a / 2 % 2 := by simp [Lib.popAux]
    omega

theorem pop4 (a : Nat) : Lib.popAux 4 a = Lib.popAux 2 a + Lib.popAux 2 (a / 4) := pop_add 2 2 a
theorem pop8 (a : Nat) : Lib.popAux 8 a = Lib.popAux 4 a + Lib.popAux 4 (a / 16) := pop_add 4 4 a

theorem st2 : ∀ (k a : Nat), (grp 2 (k + k) a / 4 &&& rep 4 3 k) + (grp 2 (k + k) a &&& rep 4 3 k) = grp 4 k a
  | 0, a => by simp [rep, grp]
  | k + 1, a => by
    have h1 := and_rep 4 2 k (grp 2 (k + 1 + (k + 1)) a / 4) (by decide)
    have h2 := and_rep 4 2 k (grp 2 (k + 1 + (k + 1)) a) (by decide)
    simp only [Nat.reducePow, Nat.reduceSub] at h1 h2
    rw [h1, h2]
    have e : grp 2 (k + 1 + (k + 1)) a = Lib.popAux 2 a + 4 * (Lib.popAux 2 (a / 4) + 4 * grp 2 (k + k) (a / 16)) := by
      rw [show k + 1 + (k + 1) = (k + k + 1) + 1 by omega]
      show Lib.popAux 2 a + 4 * (Lib.popAux 2 (a / 4) + 4 * grp 2 (k + k) (a / 4 / 4)) = _
      rw [Nat.div_div_eq_div_mul]
    have l1 := pop_le 2 a
    have l2 := pop_le 2 (a / 4)
    have ih := st2 k (a / 16)
    show _ = Lib.popAux 4 a + 16 * grp 4 k (a / 16)
    rw [← ih, e, pop4]
    generalize grp 2 (k + k) (a / 16) = y at *
    generalize Lib.popAux 2 a = p at *
    generalize Lib.popAux 2 (a / 4) = q at *
    rw [show (p + 4 * (q + 4 * y)) / 4 / 16 = y / 4 by omega, show (p + 4 * (q + 4 * y)) / 16 = y by omega]
    omega

theorem grp_digit (k a : Nat) : grp 4 (k + k) a % 16 ≤ 4 := by
  cases k with
  | zero => simp [grp]
  | succ k =>
    rw [show k + 1 + (k + 1) = (k + k + 1) + 1 by omega]
    show (Lib.popAux 4 a + 16 * _) % 16 ≤ 4
    have := pop_le 4 a
    omega
theorem st3 : ∀ (k a : Nat), (grp 4 (k + k) a / 16 + grp 4 (k + k) a) &&& rep 8 15 k = grp 8 k a
  | 0, a => by simp [rep, grp]
  | k + 1, a => by
    have h1 := and_rep 8 4 k (grp 4 (k + 1 + (k + 1)) a / 16 + grp 4 (k + 1 + (k + 1)) a) (by decide)
    simp only [Nat.reducePow, Nat.reduceSub] at h1
    rw [h1]
    have e : grp 4 (k + 1 + (k + 1)) a = Lib.popAux 4 a + 16 * (Lib.popAux 4 (a / 16) + 16 * grp 4 (k + k) (a / 256)) := by
      rw [show k + 1 + (k + 1) = (k + k + 1) + 1 by omega]
      show Lib.popAux 4 a + 16 * (Lib.popAux 4 (a / 16) + 16 * grp 4 (k + k) (a / 16 / 16)) = _
      rw [Nat.div_div_eq_div_mul]
    have l1 := pop_le 4 a
    have l2 := pop_le 4 (a / 16)
    have l3 := grp_digit k (a / 256)
    have ih := st3 k (a / 256)
    show _ = Lib.popAux 8 a + 256 * grp 8 k (a / 256)
    rw [← ih, e, pop8]
    generalize grp 4 (k + k) (a / 256) = y at *
    generalize Lib.popAux 4 a = p at *
    generalize Lib.popAux 4 (a / 16) = q at *
    rw [show ((p + 16 * (q + 16 * y)) / 16 + (p + 16 * (q + 16 * y))) / 256 = y / 16 + y by omega]
    omega

theorem grp_lt (g k a : Nat) (hg : g < 2 ^ g) : grp g k a < 2 ^ (g * k) := by
  induction k generalizing a with
  | zero => simp [grp]
  | succ k ih =>
    show Lib.popAux g a + 2 ^ g * grp g k (a / 2 ^ g) < _
    have h1 := pop_le g a
    have h2 := ih (a / 2 ^ g)
    rw [Nat.mul_succ, Nat.pow_add, Nat.mul_comm (2 ^ (g * k))]
    have h3 : 2 ^ g * (grp g k (a / 2 ^ g) + 1) ≤ 2 ^ g * 2 ^ (g * k) := Nat.mul_le_mul_left _ h2
    rw [Nat.mul_succ] at h3
    omega

theorem rep0 : rep 2 1 32 = 6148914691236517205 := by decide +kernel
theorem rep1 : rep 4 3 16 = 3689348814741910323 := by decide +kernel
theorem rep2 : rep 8 15 8 = 1085102592571150095 := by decide +kernel

theorem last (c0 c1 c2 c3 c4 c5 c6 c7 x : Nat) (h0 : c0 ≤ 8) (h1 : c1 ≤ 8) (h2 : c2 ≤ 8) (h3 : c3 ≤ 8) (h4 : c4 ≤ 8) (h5 : c5 ≤ 8) (h6 : c6 ≤ 8) (h7 : c7 ≤ 8)
    (hx : x = c0 + 256 * (c1 + 256 * (c2 + 256 * (c3 + 256 * (c4 + 256 * (c5 + 256 * (c6 + 256 * c7))))))) :
    ∀ y z t : Nat, y = x + x / 256 → z = y + y / 65536 → t = z + z / 4294967296 → t < 9223372036854775808 ∧ t % 128 = c0 + c1 + c2 + c3 + c4 + c5 + c6 + c7 := by
  intro y z t hy hz ht
  have a1 : x / 256 = c1 + 256 * (c2 + 256 * (c3 + 256 * (c4 + 256 * (c5 + 256 * (c6 + 256 * c7))))) := by omega
  have a2 : y = (c0 + c1) + 256 * ((c1 + c2) + 256 * ((c2 + c3) + 256 * ((c3 + c4) + 256 * ((c4 + c5) + 256 * ((c5 + c6) + 256 * ((c6 + c7) + 256 * c7)))))) := by omega
  have a3 : y / 65536 = (c2 + c3) + 256 * ((c3 + c4) + 256 * ((c4 + c5) + 256 * ((c5 + c6) + 256 * ((c6 + c7) + 256 * c7)))) := by clear hy a1 hx; omega
  have a4 : z = (c0 + c1 + c2 + c3) + 256 * ((c1 + c2 + c3 + c4) + 256 * ((c2 + c3 + c4 + c5) + 256 * ((c3 + c4 + c5 + c6) + 256 * ((c4 + c5 + c6 + c7) + 256 * ((c5 + c6 + c7) + 256 * ((c6 + c7) + 256 * c7)))))) := by clear hy a1 hx; omega
  have a5 : z / 4294967296 = (c4 + c5 + c6 + c7) + 256 * ((c5 + c6 + c7) + 256 * ((c6 + c7) + 256 * c7)) := by clear hy a1 hx a2 a3 hz; omega
  clear hy a1 hx a2 a3 hz
  omega

theorem wadd1 (x : Nat) (h : x < 1152921504606846976) : IntKind.u64.wrap ((x : Int) + (x : Int) / 256) = ((x + x / 256 : Nat) : Int) := by rw [wu]; omega
theorem wadd2 (x : Nat) (h : x < 2305843009213693952) : IntKind.u64.wrap ((x : Int) + (x : Int) / 65536) = ((x + x / 65536 : Nat) : Int) := by rw [wu]; omega
theorem wadd3 (x : Nat) (h : x < 4611686018427387904) : IntKind.u64.wrap ((x : Int) + (x : Int) / 4294967296) = ((x + x / 4294967296 : Nat) : Int) := by rw [wu]; omega
theorem x3_lt (c0 c1 c2 c3 c4 c5 c6 c7 x : Nat) (h0 : c0 ≤ 8) (h1 : c1 ≤ 8) (h2 : c2 ≤ 8) (h3 : c3 ≤ 8) (h4 : c4 ≤ 8) (h5 : c5 ≤ 8) (h6 : c6 ≤ 8) (h7 : c7 ≤ 8)
    (hx : x = c0 + 256 * (c1 + 256 * (c2 + 256 * (c3 + 256 * (c4 + 256 * (c5 + 256 * (c6 + 256 * c7))))))) : x < 1152921504606846976 := by omega
theorem end_ (x : Nat) (h : x < 9223372036854775808) : Go.bits .and .i64 (wrap64 (x : Int)) 127 = ((x % 128 : Nat) : Int) := by
  rw [w64 (by omega) (by omega)]
  have := bits_mask .i64 63 (by decide) (fun n h0 h1 => by rw [IntKind.wrap_i64]; omega) 7 (by decide) (x : Int) (by omega) (by omega)
  simp only [Int.reducePow, Int.reduceSub] at this
  rw [this]
  omega
theorem pop8_add (n b : Nat) : Lib.popAux (8 + n) b = Lib.popAux 8 b + Lib.popAux n (b / 256) := pop_add 8 n b
theorem grp8_succ (k a : Nat) : grp 8 (k + 1) a = Lib.popAux 8 a + 256 * grp 8 k (a / 256) := rfl
theorem grp8_zero (a : Nat) : grp 8 0 a = 0 := rfl
theorem OnesCount_eq (a : Nat) (h : a < 18446744073709551616) : bits_OnesCount64.f (a : Int) = some (Lib.popAux 64 a : Int) := by
  have k1 : (a : Int) / 2 = ((a / 2 : Nat) : Int) := by omega
  have e1 : IntKind.u64.wrap (Go.bits .and .u64 ((a : Int) / 2) 6148914691236517205 + Go.bits .and .u64 (a : Int) 6148914691236517205) = ((grp 2 32 a : Nat) : Int) := by
    have b1 : Go.bits .and .u64 ((a / 2 : Nat) : Int) 6148914691236517205 = ((a / 2 &&& 6148914691236517205 : Nat) : Int) := bits_and_u64_nat (a / 2) 6148914691236517205 (by omega) (by omega)
    have b2 : Go.bits .and .u64 (a : Int) 6148914691236517205 = ((a &&& 6148914691236517205 : Nat) : Int) := bits_and_u64_nat a 6148914691236517205 h (by omega)
    have s := st1 32 a
    have l := grp_lt 2 32 a (by decide)
    rw [rep0] at s
    rw [k1, b1, b2, wu]
    omega
  generalize hx1 : grp 2 32 a = x1 at e1
  have l1 : x1 < 18446744073709551616 := by have := grp_lt 2 32 a (by decide); omega
  have k2 : (x1 : Int) / 4 = ((x1 / 4 : Nat) : Int) := by omega
  have e2 : IntKind.u64.wrap (Go.bits .and .u64 ((x1 : Int) / 4) 3689348814741910323 + Go.bits .and .u64 (x1 : Int) 3689348814741910323) = ((grp 4 16 a : Nat) : Int) := by
    have b1 : Go.bits .and .u64 ((x1 / 4 : Nat) : Int) 3689348814741910323 = ((x1 / 4 &&& 3689348814741910323 : Nat) : Int) := bits_and_u64_nat (x1 / 4) 3689348814741910323 (by omega) (by omega)
    have b2 : Go.bits .and .u64 (x1 : Int) 3689348814741910323 = ((x1 &&& 3689348814741910323 : Nat) : Int) := bits_and_u64_nat x1 3689348814741910323 l1 (by omega)
    have s : (grp 2 32 a / 4 &&& rep 4 3 16) + (grp 2 32 a &&& rep 4 3 16) = grp 4 16 a := st2 16 a
    have l := grp_lt 4 16 a (by decide)
    rw [rep1, hx1] at s
    rw [k2, b1, b2, wu]
    omega
  generalize hx2 : grp 4 16 a = x2 at e2
  have l2 : x2 < 18446744073709551616 := by have := grp_lt 4 16 a (by decide); omega
  have l2' : x2 / 16 + x2 < 18446744073709551616 := by
    have h1 : grp 4 16 a = Lib.popAux 4 a + 16 * grp 4 15 (a / 16) := rfl
    have h2 : grp 4 15 (a / 16) = Lib.popAux 4 (a / 16) + 16 * grp 4 14 (a / 16 / 16) := rfl
    have h3 := grp_lt 4 15 (a / 16) (by decide)
    have hh : ∀ k b, grp 4 k b * 15 ≤ 4 * (16 ^ k - 1) := by
      intro k
      induction k with
      | zero => intro b; simp [grp]
      | succ k ih =>
        intro b
        have := ih (b / 16)
        have hp := pop_le 4 b
        show (Lib.popAux 4 b + 16 * grp 4 k (b / 16)) * 15 ≤ _
        have e : (16 : Nat) ^ (k + 1) = 16 * 16 ^ k := by rw [Nat.pow_succ, Nat.mul_comm]
        have hpos : 0 < (16 : Nat) ^ k := Nat.pow_pos (by decide)
        rw [e]
        omega
    have h4 := hh 16 a
    rw [hx2] at h4
    have : (16 : Nat) ^ 16 = 18446744073709551616 := by decide
    omega
  have k3 : IntKind.u64.wrap ((x2 : Int) / 16 + (x2 : Int)) = ((x2 / 16 + x2 : Nat) : Int) := by rw [wu]; omega
  have e3 : Go.bits .and .u64 (IntKind.u64.wrap ((x2 : Int) / 16 + (x2 : Int))) 1085102592571150095 = ((grp 8 8 a : Nat) : Int) := by
    rw [k3]
    have b1 : Go.bits .and .u64 ((x2 / 16 + x2 : Nat) : Int) 1085102592571150095 = (((x2 / 16 + x2) &&& 1085102592571150095 : Nat) : Int) := bits_and_u64_nat (x2 / 16 + x2) 1085102592571150095 l2' (by omega)
    have s : (grp 4 16 a / 16 + grp 4 16 a) &&& rep 8 15 8 = grp 8 8 a := st3 8 a
    rw [rep2, hx2] at s
    rw [b1, s]
  have p8 : ∀ b, Lib.popAux 8 b ≤ 8 := pop_le 8
  obtain ⟨x3, hx3⟩ : ∃ x3, x3 = grp 8 8 a := ⟨_, rfl⟩
  have g3 : x3 = Lib.popAux 8 a + 256 * (Lib.popAux 8 (a / 256) + 256 * (Lib.popAux 8 (a / 256 / 256) + 256 * (Lib.popAux 8 (a / 256 / 256 / 256) + 256 * (Lib.popAux 8 (a / 256 / 256 / 256 / 256) + 256 * (Lib.popAux 8 (a / 256 / 256 / 256 / 256 / 256) + 256 * (Lib.popAux 8 (a / 256 / 256 / 256 / 256 / 256 / 256) + 256 * Lib.popAux 8 (a / 256 / 256 / 256 / 256 / 256 / 256 / 256))))))) := by
    rw [hx3, grp8_succ 7, grp8_succ 6, grp8_succ 5, grp8_succ 4, grp8_succ 3, grp8_succ 2, grp8_succ 1, grp8_succ 0, grp8_zero, Nat.mul_zero, Nat.add_zero]
  have hl := last _ _ _ _ _ _ _ _ x3 (p8 _) (p8 _) (p8 _) (p8 _) (p8 _) (p8 _) (p8 _) (p8 _) g3 _ _ _ rfl rfl rfl
  have hs : Lib.popAux 64 a = Lib.popAux 8 a + Lib.popAux 8 (a / 256) + Lib.popAux 8 (a / 256 / 256) + Lib.popAux 8 (a / 256 / 256 / 256) + Lib.popAux 8 (a / 256 / 256 / 256 / 256) + Lib.popAux 8 (a / 256 / 256 / 256 / 256 / 256) + Lib.popAux 8 (a / 256 / 256 / 256 / 256 / 256 / 256) + Lib.popAux 8 (a / 256 / 256 / 256 / 256 / 256 / 256 / 256) := by
    rw [show Lib.popAux 64 a = Lib.popAux (8 + (8 + (8 + (8 + (8 + (8 + (8 + 8))))))) a from rfl]
    simp only [pop8_add, Nat.add_assoc]
  rw [← hs] at hl
  rw [← hx3] at e3
  have b3 := x3_lt _ _ _ _ _ _ _ _ x3 (p8 _) (p8 _) (p8 _) (p8 _) (p8 _) (p8 _) (p8 _) (p8 _) g3
  clear g3 hs p8 hx3
  have e4 := wadd1 x3 b3
  have e5 := wadd2 (x3 + x3 / 256) (by omega)
  have e6 := wadd3 (x3 + x3 / 256 + (x3 + x3 / 256) / 65536) (by omega)
  have e7 := end_ _ hl.1
  unfold bits_OnesCount64.f
  rw [e1, e2, e3, e4, e5, e6, e7, hl.2]
end Go.Proofs.YtmbpgnmhfmcbmaaDoor.PA
