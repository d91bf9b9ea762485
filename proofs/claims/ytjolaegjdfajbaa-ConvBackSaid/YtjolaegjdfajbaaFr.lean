/- A plain law: the program's rounding of a number times a power of 2 (floats.round, nothing more behind it) is the word that IEEE 754 says (the model's 'nearest'), for either size. -/
import Derived.Test.YtjolaegjdfajbaaPAx
import Derived.Test.YtjolaegjdfajbaaFp
import Derived.Laws.Bits64b
namespace Go.Proofs.Ytjolaegjdfajbaa.PA
open Go.RowKit Go.Proofs.YtjolaegjdfajbaaW.PrintWords Go.Proofs.YtjolaegjdfajbaaW.PrintLast Go.Proofs.YtjolaegjdfajbaaW.PrintMore
open Ieee (Format)
set_option linter.unusedVariables false

theorem wu (n : Int) : IntKind.u64.wrap n = n % 18446744073709551616 := IntKind.wrap_u64 n
theorem w64 {n : Int} (h0 : -9223372036854775808 ≤ n) (h1 : n < 9223372036854775808) : wrap64 n = n := by unfold wrap64; omega

/-- The two formats. -/
def Fm (p x : Nat) (f : Format) : Prop := (p = 23 ∧ x = 8 ∧ f = Ieee.single) ∨ (p = 52 ∧ x = 11 ∧ f = Ieee.double)
theorem Fm.single : Fm 23 8 Ieee.single := .inl ⟨rfl, rfl, rfl⟩
theorem Fm.double : Fm 52 11 Ieee.double := .inr ⟨rfl, rfl, rfl⟩

theorem single_least : Ieee.single.leastPlace = -149 := by decide +kernel
theorem double_least : Ieee.double.leastPlace = -1074 := by decide +kernel
theorem single_inf : Ieee.single.infRung = 2139095040 := by decide +kernel
theorem double_inf : Ieee.double.infRung = 9218868437227405312 := by decide +kernel
theorem single_sign : Ieee.single.signWeight = 2147483648 := by decide +kernel
theorem double_sign : Ieee.double.signWeight = 9223372036854775808 := by decide +kernel
theorem single_bin : Ieee.single.binade = 8388608 := by decide +kernel
theorem double_bin : Ieee.double.binade = 4503599627370496 := by decide +kernel

theorem least_eq {p x : Nat} {f : Format} (h : Fm p x f) : floats_format_least.f p x = some f.leastPlace := by
  rcases h with ⟨rfl, rfl, rfl⟩ | ⟨rfl, rfl, rfl⟩ <;> decide +kernel
theorem infinity_eq {p x : Nat} {f : Format} (h : Fm p x f) : floats_format_infinity.f p x = some (f.infRung : Int) := by
  rcases h with ⟨rfl, rfl, rfl⟩ | ⟨rfl, rfl, rfl⟩ <;> decide +kernel
theorem sign_eq {p x : Nat} {f : Format} (h : Fm p x f) : floats_format_sign.f p x = some (f.signWeight : Int) := by
  rcases h with ⟨rfl, rfl, rfl⟩ | ⟨rfl, rfl, rfl⟩ <;> decide +kernel
theorem inf_lt {p x : Nat} {f : Format} (h : Fm p x f) : f.infRung < f.signWeight := f.infRung_lt
theorem or_high (a : Nat) (i : Nat) (hi : i < 64) (ha : a < 2 ^ i) : Go.bits .or .u64 (a : Int) ((2 ^ i : Nat) : Int) = ((2 ^ i + a : Nat) : Int) := by
  have hp : 2 ^ i < 18446744073709551616 := Nat.pow_lt_pow_right (by decide) hi
  rw [bits_or_u64_nat a (2 ^ i) (by omega) hp]
  congr 1
  rw [Nat.or_comm]
  have := Nat.two_pow_add_eq_or_of_lt ha 1
  rw [Nat.mul_one] at this
  exact this.symm
theorem signed_eq {p x : Nat} {f : Format} (h : Fm p x f) (neg : Bool) (a : Nat) (ha : a < f.signWeight) : floats_format_signed.f p x neg a = some (f.word neg a : Int) := by
  unfold floats_format_signed.f Format.word
  cases neg
  · rfl
  · rw [if_pos rfl, sign_eq h, if_pos rfl]
    simp only [Option.bind_some]
    congr 1
    rcases h with ⟨rfl, rfl, rfl⟩ | ⟨rfl, rfl, rfl⟩
    · exact or_high a 31 (by decide) ha
    · exact or_high a 63 (by decide) ha

theorem bitLen_log2 {m : Nat} (h0 : m ≠ 0) (h1 : m < 18446744073709551616) : Lib.bitLen m = m.log2 + 1 := by
  have hl : m.log2 < 64 := (Nat.log2_lt h0).2 (by omega)
  rw [Lib.bitLen_shift m.log2 m (Nat.log2_self_le h0) (by omega)]
  have e : m / 2 ^ m.log2 = 1 := by
    have a := Nat.log2_self_le h0
    have b : m < 2 ^ (m.log2 + 1) := Nat.lt_log2_self
    rw [Nat.pow_succ] at b
    exact Nat.div_eq_of_lt_le (by omega) (by omega)
  rw [e]
  rfl

theorem mn_end (T K I B : Nat) (X : Int) (hX : X = T) (hb : T * B + K < 18446744073709551616) : mn (IntKind.u64.wrap (X * B + K)) (I : Int) = ((min (T * B + K) I : Nat) : Int) := by
  subst hX
  have e : ((T : Int) * B + K) = ((T * B + K : Nat) : Int) := by rw [Int.natCast_add, Int.natCast_mul]
  rw [e]
  generalize T * B + K = Y at *
  rw [wu]
  unfold mn
  omega
theorem shl_X (X : Int) (c : Int) (n : Nat) (hc : c = n) (hn : n ≤ 64) (h0 : 0 ≤ X) (h1 : X < 4096) (h2 : X * 2 ^ n < 18446744073709551616) : shl .u64 (IntKind.u64.wrap X) c = X * ((2 ^ n : Nat) : Int) := by
  subst hc
  unfold shl
  rw [wu, wu, Int.toNat_natCast, show min n IntKind.u64.bits = n from Nat.min_eq_left hn, Int.emod_eq_of_lt h0 (by omega), Int.emod_eq_of_lt ?_ h2]
  · rw [Int.natCast_pow]; rfl
  · exact Int.mul_nonneg h0 (Int.le_of_lt (by exact_mod_cast Nat.two_pow_pos n))

/-- Behind the exponent: X of it, and the fraction that may run over. -/
theorem round_j1 {p x : Nat} {f : Format} (h : Fm p x f) (neg : Bool) (K : Nat) (T : Nat) (k : Nat) (hK : K ≤ 2 * f.binade) :
    floats_format_round.j1 (k + 1) neg (K : Int) (T : Int) p x = some (f.word neg (min (T * f.binade + K) f.infRung) : Int) := by
  have hi := inf_lt h
  have hinf := infinity_eq h
  have hsg := signed_eq h neg
  simp only [floats_format_round.j1]
  rw [hinf]
  simp only [Option.bind_some]
  have sx : (0 : Int) ≤ IntKind.u64.wrap (x : Int) ∧ shl .i64 1 (IntKind.u64.wrap (x : Int)) = ((2 ^ x : Nat) : Int) := by
    rcases h with ⟨rfl, rfl, rfl⟩ | ⟨rfl, rfl, rfl⟩ <;> decide +kernel
  have sp : (0 : Int) ≤ IntKind.u64.wrap (p : Int) ∧ IntKind.u64.wrap (p : Int) = p ∧ p ≤ 64 ∧ 2 ^ x ≤ 4096 ∧ f.infRung = (2 ^ x - 1) * f.binade ∧ 0 < 2 ^ x ∧ f.binade = 2 ^ p ∧ 2 ^ x * 2 ^ p + 2 * 2 ^ p < 18446744073709551616 := by
    rcases h with ⟨rfl, rfl, rfl⟩ | ⟨rfl, rfl, rfl⟩ <;> decide +kernel
  obtain ⟨p0, p1, p2, p3, p4, p5, p6, p7⟩ := sp
  rw [if_pos sx.1, sx.2, if_pos p0]
  generalize hQ : 2 ^ x = Q at *
  by_cases hX1 : (T : Int) ≥ (Q : Int)
  · rw [if_pos hX1, hsg _ hi]
    simp only [Option.bind_some]
    have : f.infRung ≤ T * f.binade := by
      rw [p4]
      exact Nat.mul_le_mul_right _ (by omega)
    rw [Nat.min_eq_right (by omega)]
  · rw [if_neg hX1]
    have hT : T + 1 ≤ Q := by omega
    have hm : T * 2 ^ p + 2 ^ p ≤ Q * 2 ^ p := by
      have := Nat.mul_le_mul_right (2 ^ p) hT
      rw [Nat.succ_mul] at this
      exact this
    have hlt : (T : Int) * 2 ^ p < 18446744073709551616 := by
      have h1 : ((T : Int) * 2 ^ p) = ((T * 2 ^ p : Nat) : Int) := by rw [Int.natCast_mul, Int.natCast_pow]; rfl
      rw [h1]
      omega
    have e1 : shl .u64 (IntKind.u64.wrap (T : Int)) (IntKind.u64.wrap (p : Int)) = (T : Int) * ((f.binade : Nat) : Int) := by
      rw [shl_X (T : Int) _ p p1 p2 (by omega) (by omega) hlt, p6]
    rw [e1, mn_end T K f.infRung f.binade T rfl (by rw [p6] at hK ⊢; omega), hsg _ (by omega)]
    rfl
theorem round_j0 {p x : Nat} {f : Format} (h : Fm p x f) (neg : Bool) (K : Nat) (e d : Int) (T : Nat) (k : Nat) (hk : 1 < k) (hK : K ≤ 2 * f.binade) (he : e + d = f.leastPlace + T)
    (hb : -10000 < e ∧ e < 10000 ∧ -10000 < d ∧ d < 20000) (hz : K < f.binade → T = 0) :
    floats_format_round.j0 k neg (K : Int) e d p x = some (f.word neg (min (T * f.binade + K) f.infRung) : Int) := by
  obtain ⟨k, rfl⟩ : ∃ m, k = m + 2 := ⟨k - 2, by omega⟩
  have hlst := least_eq h
  have sp : (0 : Int) ≤ IntKind.u64.wrap (p : Int) ∧ shl .u64 1 (IntKind.u64.wrap (p : Int)) = (f.binade : Int) ∧ -2000 < f.leastPlace ∧ f.leastPlace < 0 := by
    rcases h with ⟨rfl, rfl, rfl⟩ | ⟨rfl, rfl, rfl⟩ <;> decide +kernel
  simp only [floats_format_round.j0]
  rw [hlst]
  simp only [Option.bind_some]
  rw [if_pos sp.1, sp.2.1]
  by_cases hK1 : (K : Int) ≥ (f.binade : Int)
  · rw [if_pos hK1, w64 (n := e + d) (by omega) (by omega), w64 (by omega) (by omega), show e + d - f.leastPlace = (T : Int) by omega]
    exact round_j1 h neg K T k hK
  · rw [if_neg hK1]
    have hT := hz (by omega)
    subst hT
    exact round_j1 h neg K 0 k hK

theorem cut_full (neg : Bool) (m D : Nat) (hm : m ≠ 0) : Ieee.Toward.even.cut neg m D = m / 2 ^ D + (decide (2 ^ D < 2 * (m % 2 ^ D)) || (2 ^ D == 2 * (m % 2 ^ D) && m / 2 ^ D % 2 == 1)).toNat := by
  unfold Ieee.Toward.cut
  rw [Nat.one_shiftLeft]
  dsimp only
  by_cases hd : D ≤ m.log2 + 2
  · rw [Nat.min_eq_left hd]
  · rw [Nat.min_eq_right (by omega)]
    have b : m < 2 ^ (m.log2 + 1) := Nat.lt_log2_self
    have h1 : 2 * m < 2 ^ (m.log2 + 2) := by rw [Nat.pow_succ 2 (m.log2 + 1)]; omega
    have h2 : 2 ^ (m.log2 + 2) ≤ 2 ^ D := Nat.pow_le_pow_right (by decide) (by omega)
    have q1 : m / 2 ^ (m.log2 + 2) = 0 := Nat.div_eq_of_lt (by omega)
    have q2 : m / 2 ^ D = 0 := Nat.div_eq_of_lt (by omega)
    have r1 : m % 2 ^ (m.log2 + 2) = m := Nat.mod_eq_of_lt (by omega)
    have r2 : m % 2 ^ D = m := Nat.mod_eq_of_lt (by omega)
    have d1 : decide (2 ^ (m.log2 + 2) < 2 * m) = false := decide_eq_false (by omega)
    have d2 : decide (2 ^ D < 2 * m) = false := decide_eq_false (by omega)
    have d3 : (2 ^ (m.log2 + 2) == 2 * m) = false := beq_eq_false_iff_ne.mpr (by omega)
    have d4 : (2 ^ D == 2 * m) = false := beq_eq_false_iff_ne.mpr (by omega)
    rw [q1, q2, r1, r2, d1, d2, d3, d4]

/-- The program's rounding is the standard's. -/
theorem round_eq {p x : Nat} {f : Format} (h : Fm p x f) (neg : Bool) (m : Nat) (hm : m < 18446744073709551616) (e : Int) (he0 : -5000 ≤ e) (he1 : e ≤ 5000) (k : Nat) (hk : 1 < k) :
    floats_format_round.f k p x neg (m : Int) e false = some (f.nearest neg m e : Int) := by
  have hsg := signed_eq h neg
  have hlst := least_eq h
  have hi := inf_lt h
  have sp : 0 < f.signWeight ∧ -2000 < f.leastPlace ∧ f.leastPlace < 0 ∧ f.binade = 2 ^ p ∧ f.fractionBits = p ∧ p ≤ 52 := by
    rcases h with ⟨rfl, rfl, rfl⟩ | ⟨rfl, rfl, rfl⟩ <;> decide +kernel
  obtain ⟨p0, p1, p2, p3, p4, p5⟩ := sp
  unfold floats_format_round.f
  by_cases hm0 : m = 0
  · subst hm0
    have hsg0 := hsg 0 p0
    rw [if_pos (show ((0 : Nat) : Int) = 0 from rfl)]
    rw [show floats_format_signed.f (p : Int) (x : Int) neg 0 = some (f.word neg 0 : Int) from hsg0]
    simp [Format.nearest]
  rw [if_neg (by omega)]
  have hl : m.log2 < 64 := (Nat.log2_lt hm0).2 (by omega)
  have a := Nat.log2_self_le hm0
  have b : m < 2 ^ (m.log2 + 1) := Nat.lt_log2_self
  have hlen : bits_Len64.f (m : Int) = some ((m.log2 + 1 : Nat) : Int) := by
    unfold bits_Len64.f
    rw [if_pos (by omega), Int.toNat_natCast, bitLen_log2 hm0 hm]
  rw [hlen, hlst]
  simp only [Option.bind_some]
  have hE : mn (mx e (-5000)) 5000 = e := by unfold mn mx; split <;> split <;> omega
  rw [hE]
  obtain ⟨l, hll⟩ : ∃ l, l = m.log2 := ⟨_, rfl⟩
  rw [← hll] at hl a b ⊢
  obtain ⟨last, hlast⟩ : ∃ last, last = max (e + l - p) f.leastPlace := ⟨_, rfl⟩
  have hD : wrap64 (mx (wrap64 (wrap64 (wrap64 (((l + 1 : Nat) : Int) + e) - 1) - p)) f.leastPlace - e) = last - e := by
    rw [w64 (n := ((l + 1 : Nat) : Int) + e) (by omega) (by omega), w64 (n := ((l + 1 : Nat) : Int) + e - 1) (by omega) (by omega), w64 (n := ((l + 1 : Nat) : Int) + e - 1 - p) (by omega) (by omega)]
    have : mx (((l + 1 : Nat) : Int) + e - 1 - p) f.leastPlace = last := by unfold mx; split <;> omega
    rw [this, w64 (by omega) (by omega)]
  rw [hD]
  obtain ⟨d, hd⟩ : ∃ d, d = last - e := ⟨_, rfl⟩
  rw [← hd]
  obtain ⟨T, hT⟩ : ∃ T : Nat, last = f.leastPlace + T := ⟨(last - f.leastPlace).toNat, by omega⟩
  have hN : f.nearest neg m e = f.word neg (min (T * f.binade + Ieee.Toward.even.cut neg (m <<< (e - last).toNat) (last - e).toNat) f.infRung) := by
    unfold Format.nearest
    rw [if_neg hm0]
    dsimp only
    rw [← hll, p4, ← hlast, show (last - f.leastPlace).toNat = T by omega]
  rw [hN]
  by_cases d0 : d ≤ 0
  · -- nothing is dropped
    rw [if_pos d0]
    obtain ⟨u, hu⟩ : ∃ u : Nat, (u : Int) = -d := ⟨(-d).toNat, by omega⟩
    have hlu : l + u ≤ p := by omega
    have ew : IntKind.u64.wrap (wrap64 (-d)) = u := by rw [w64 (by omega) (by omega), wu]; omega
    have hpow : 2 ^ (l + 1) * 2 ^ u ≤ 2 * f.binade := by
      rw [p3, ← Nat.pow_add, ← Nat.pow_succ']
      exact Nat.pow_le_pow_right (by decide) (by omega)
    have hmu : m * 2 ^ u < 2 * f.binade := by
      have := (Nat.mul_lt_mul_right (Nat.two_pow_pos u)).2 b
      omega
    have hb52 : f.binade ≤ 4503599627370496 := by rw [p3]; exact Nat.pow_le_pow_right (by decide) p5
    have es : shl .u64 (m : Int) (u : Int) = ((m * 2 ^ u : Nat) : Int) := by
      unfold shl
      rw [Int.toNat_natCast, show min u IntKind.u64.bits = u from Nat.min_eq_left (by show u ≤ 64; omega), wu]
      have : (m : Int) * 2 ^ u = ((m * 2 ^ u : Nat) : Int) := by rw [Int.natCast_mul, Int.natCast_pow]; rfl
      rw [this]
      omega
    rw [ew, if_pos (by omega), es, show (e - last).toNat = u by omega, show (last - e).toNat = 0 by omega, Fp.cut_zero, Nat.shiftLeft_eq]
    refine round_j0 h neg (m * 2 ^ u) e d T k hk (by omega) (by omega) (by omega) ?_
    intro hlt
    rcases Nat.eq_zero_or_pos T with h0 | h0
    · exact h0
    · exfalso
      have hlp : l + u = p := by omega
      have : f.binade ≤ m * 2 ^ u := by
        rw [p3, ← hlp, Nat.pow_add]
        exact Nat.mul_le_mul_right _ a
      omega
  · rw [if_neg d0]
    have hsh : (e - last).toNat = 0 := by omega
    rw [hsh, Nat.shiftLeft_zero]
    obtain ⟨D, hD'⟩ : ∃ D : Nat, (D : Int) = d := ⟨d.toNat, by omega⟩
    rw [show (last - e).toNat = D by omega]
    by_cases d1 : d > 64
    · -- all is dropped
      rw [if_pos d1]
      have hcut : Ieee.Toward.even.cut neg m D = 0 := by
        unfold Ieee.Toward.cut
        rw [← hll, Nat.min_eq_right (by omega), Nat.one_shiftLeft]
        have : m < 2 ^ (l + 2) := by rw [Nat.pow_succ]; omega
        have h2 : 2 * m < 2 ^ (l + 2) := by rw [Nat.pow_succ 2 (l + 1)]; omega
        dsimp only
        rw [Nat.div_eq_of_lt this, Nat.mod_eq_of_lt this]
        have e1 : decide (2 ^ (l + 2) < 2 * m) = false := decide_eq_false (by omega)
        have e2 : (2 ^ (l + 2) == 2 * m) = false := beq_eq_false_iff_ne.mpr (by omega)
        rw [e1, e2]
        rfl
      rw [hcut]
      exact round_j0 h neg 0 e d T k hk (by omega) (by omega) (by omega) (fun _ => by omega)
    · rw [if_neg d1]
      have hD1 : 1 ≤ D := by omega
      have hD2 : D ≤ 64 := by omega
      have w1 : IntKind.u64.wrap (wrap64 (64 - d)) = ((64 - D : Nat) : Int) := by rw [w64 (by omega) (by omega), wu]; omega
      have w2 : IntKind.u64.wrap (wrap64 (d - 1)) = ((D - 1 : Nat) : Int) := by rw [w64 (by omega) (by omega), wu]; omega
      have e1 : shl .u64 (m : Int) ((64 - D : Nat) : Int) = ((m % 2 ^ D * 2 ^ (64 - D) : Nat) : Int) := by
        unfold shl
        rw [Int.toNat_natCast, show min (64 - D) IntKind.u64.bits = 64 - D from Nat.min_eq_left (by show 64 - D ≤ 64; omega), wu]
        have h1 : (m : Int) * 2 ^ (64 - D) = ((m * 2 ^ (64 - D) : Nat) : Int) := by rw [Int.natCast_mul, Int.natCast_pow]; rfl
        have h2 : (18446744073709551616 : Nat) = 2 ^ D * 2 ^ (64 - D) := by rw [← Nat.pow_add, show D + (64 - D) = 64 by omega]
        have h3 : m * 2 ^ (64 - D) % 18446744073709551616 = m % 2 ^ D * 2 ^ (64 - D) := by rw [h2, Nat.mul_mod_mul_right]
        rw [h1, ← h3]
        omega
      have e2 : shr .u64 ((m : Int) / 2) ((D - 1 : Nat) : Int) = ((m / 2 ^ D : Nat) : Int) := by
        unfold shr
        rw [Int.toNat_natCast, show min (D - 1) IntKind.u64.bits = D - 1 from Nat.min_eq_left (by show D - 1 ≤ 64; omega)]
        have h1 : (m : Int) / 2 / 2 ^ (D - 1) = ((m / 2 / 2 ^ (D - 1) : Nat) : Int) := by rw [Int.natCast_ediv, Int.natCast_ediv, Int.natCast_pow]; rfl
        rw [h1, Nat.div_div_eq_div_mul, ← Nat.pow_succ', show (D - 1).succ = D by omega]
      have hlow : m / 2 ^ D < 2 * f.binade := by
        rw [p3, ← Nat.pow_succ']
        apply Nat.div_lt_of_lt_mul
        rw [← Nat.pow_add]
        exact Nat.lt_of_lt_of_le b (Nat.pow_le_pow_right (by decide) (by omega))
      have hb52 : f.binade ≤ 4503599627370496 := by rw [p3]; exact Nat.pow_le_pow_right (by decide) p5
      have hz : m / 2 ^ D < f.binade → T = 0 := by
        intro hlt
        rcases Nat.eq_zero_or_pos T with h0 | h0
        · exact h0
        · exfalso
          have hlp : D + p = l := by omega
          have : f.binade ≤ m / 2 ^ D := by
            rw [p3]
            apply (Nat.le_div_iff_mul_le (Nat.two_pow_pos D)).2
            rw [← Nat.pow_add, show p + D = l by omega]
            exact a
          omega
      have e3 : Go.bits .and .u64 ((m / 2 ^ D : Nat) : Int) 1 = ((m / 2 ^ D % 2 : Nat) : Int) := by
        have := bits_and_u64_nat (m / 2 ^ D) 1 (by omega) (by decide)
        rw [Nat.and_one_is_mod] at this
        exact this
      rw [cut_full neg m D hm0]
      rw [w1, w2, if_pos (by omega), if_pos (by omega), e1, e2, e3]
      have hc : (9223372036854775808 : Nat) = 2 ^ (D - 1) * 2 ^ (64 - D) := by rw [← Nat.pow_add, show D - 1 + (64 - D) = 63 by omega]
      have hpos : 0 < 2 ^ (64 - D) := Nat.two_pow_pos _
      have h2D : 2 ^ D = 2 * 2 ^ (D - 1) := by rw [← Nat.pow_succ', show (D - 1).succ = D by omega]
      generalize hq : m / 2 ^ D = q at *
      generalize hr : m % 2 ^ D = r at *
      have e4 : IntKind.u64.wrap ((q : Int) + 1) = ((q + 1 : Nat) : Int) := by rw [wu]; omega
      rw [e4]
      have c1 : ((r * 2 ^ (64 - D) : Nat) : Int) > 9223372036854775808 ↔ 2 ^ D < 2 * r := by
        have : (9223372036854775808 : Nat) < r * 2 ^ (64 - D) ↔ 2 ^ (D - 1) < r := by rw [hc]; exact Nat.mul_lt_mul_right hpos
        omega
      have c2 : ((r * 2 ^ (64 - D) : Nat) : Int) = 9223372036854775808 ↔ 2 ^ D = 2 * r := by
        have : r * 2 ^ (64 - D) = (9223372036854775808 : Nat) ↔ r = 2 ^ (D - 1) := by rw [hc]; exact ⟨fun h => Nat.eq_of_mul_eq_mul_right hpos h, fun h => by rw [h]⟩
        omega
      have J1 := round_j0 h neg (q + 1) e d T k hk (by omega) (by omega) (by omega) (fun hh => hz (by omega))
      have J0 := round_j0 h neg q e d T k hk (by omega) (by omega) (by omega) hz
      by_cases x1 : 2 ^ D < 2 * r
      · rw [if_pos (c1.2 x1), J1, decide_eq_true x1]
        rfl
      · rw [if_neg (fun hh => x1 (c1.1 hh)), decide_eq_false x1]
        by_cases x2 : 2 ^ D = 2 * r
        · rw [if_pos (c2.2 x2), if_neg (by decide), beq_iff_eq.mpr x2]
          by_cases x3 : q % 2 = 1
          · rw [if_pos (by rw [x3]; rfl), J1, beq_iff_eq.mpr x3]
            rfl
          · rw [if_neg (by omega), J0, beq_eq_false_iff_ne.mpr x3]
            rfl
        · rw [if_neg (fun hh => x2 (c2.1 hh)), J0, beq_eq_false_iff_ne.mpr x2]
          rfl
end Go.Proofs.Ytjolaegjdfajbaa.PA
