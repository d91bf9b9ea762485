/- Plain laws on the model's floats: a number and a power of 2 doubled and halved is rounded to the same word; a word's own number is rounded to that word; a number with few digits is read back as it was. -/
import Derived.Laws.FloatBits
namespace Go.Proofs.Ytjolaegjdfajbaa.Fp
open Ieee
set_option linter.unusedVariables false

theorem log2_double {m : Nat} (h : m ≠ 0) : (2 * m).log2 = m.log2 + 1 := by
  rw [Nat.log2_def, if_pos (by omega)]
  congr 1
  rw [show 2 * m / 2 = m by omega]
theorem lt_log2 (m : Nat) : m < 2 ^ (m.log2 + 1) := Nat.lt_log2_self
theorem log2_le {m : Nat} (h : m ≠ 0) : 2 ^ m.log2 ≤ m := Nat.log2_self_le h

theorem cut_double (neg : Bool) (n d : Nat) (h : n ≠ 0) : Toward.even.cut neg (2 * n) (d + 1) = Toward.even.cut neg n d := by
  unfold Toward.cut
  have e : min (d + 1) ((2 * n).log2 + 2) = min d (n.log2 + 2) + 1 := by rw [log2_double h]; omega
  simp only [e, Nat.one_shiftLeft, Nat.pow_succ]
  generalize hg : 2 ^ min d (n.log2 + 2) = g
  have hg0 : 0 < g := by rw [← hg]; exact Nat.two_pow_pos _
  have e1 : 2 * n / (g * 2) = n / g := by rw [Nat.mul_comm g 2, Nat.mul_div_mul_left _ _ (by decide)]
  have e2 : 2 * n % (g * 2) = 2 * (n % g) := by rw [Nat.mul_comm g 2, Nat.mul_mod_mul_left]
  rw [e1, e2]
  congr 2
  have a1 : decide (g * 2 < 2 * (2 * (n % g))) = decide (g < 2 * (n % g)) := by
    apply decide_eq_decide.mpr; omega
  have a2 : (g * 2 == 2 * (2 * (n % g))) = (g == 2 * (n % g)) := by
    rw [Bool.eq_iff_iff]; simp only [beq_iff_eq]; omega
  rw [a1, a2]

theorem nearest_half (f : Format) (neg : Bool) (m : Nat) (e : Int) : f.nearest neg (2 * m) (e - 1) = f.nearest neg m e := by
  by_cases h : m = 0
  · subst h; simp [Format.nearest]
  unfold Format.nearest
  rw [if_neg (by omega), if_neg h]
  have el : e - 1 + ((2 * m).log2 : Int) - f.fractionBits = e + (m.log2 : Int) - f.fractionBits := by rw [log2_double h]; omega
  dsimp only
  rw [el]
  generalize max (e + (m.log2 : Int) - f.fractionBits) f.leastPlace = last
  have key : Toward.even.cut neg ((2 * m) <<< (e - 1 - last).toNat) (last - (e - 1)).toNat = Toward.even.cut neg (m <<< (e - last).toNat) (last - e).toNat := by
    by_cases h1 : last ≤ e - 1
    · have s : (e - last).toNat = (e - 1 - last).toNat + 1 := by omega
      have d1 : (last - (e - 1)).toNat = 0 := by omega
      have d2 : (last - e).toNat = 0 := by omega
      rw [s, d1, d2]
      congr 1
    · have s1 : (e - 1 - last).toNat = 0 := by omega
      have s2 : (e - last).toNat = 0 := by omega
      have d : (last - (e - 1)).toNat = (last - e).toNat + 1 := by omega
      rw [s1, s2, d, Nat.shiftLeft_zero, Nat.shiftLeft_zero]
      exact cut_double neg m _ h
  rw [key]
theorem nearest_pow (f : Format) (neg : Bool) (m : Nat) (e : Int) : ∀ k : Nat, f.nearest neg (m * 2 ^ k) (e - k) = f.nearest neg m e
  | 0 => by simp
  | k + 1 => by
    have := nearest_half f neg (m * 2 ^ k) (e - k)
    rw [nearest_pow f neg m e k] at this
    rw [← this]
    congr 1
    · rw [Nat.pow_succ]; generalize 2 ^ k = x; rw [← Nat.mul_assoc, Nat.mul_comm]
    · rw [Int.natCast_add]; omega

/-- The number and the place that a rung below infinity stands for. -/
def magOf (f : Format) (r : Nat) : Nat := if r < f.binade then r else f.binade + r % f.binade
def placeOf (f : Format) (r : Nat) : Int := if r < f.binade then f.leastPlace else f.leastPlace + (r / f.binade - 1 : Nat)

theorem cut_zero (neg : Bool) (n : Nat) : Toward.even.cut neg n 0 = n := by
  unfold Toward.cut
  simp [Nat.mod_one]
theorem log2_unique {m l : Nat} (h0 : 2 ^ l ≤ m) (h1 : m < 2 ^ (l + 1)) : m.log2 = l := by
  have hm : m ≠ 0 := by have := Nat.two_pow_pos l; omega
  have a := log2_le hm
  have b := lt_log2 m
  have c : m.log2 < l + 1 := by
    apply Nat.lt_of_not_le; intro hc
    have := Nat.pow_le_pow_right (n := 2) (by decide) hc
    omega
  have d : l < m.log2 + 1 := by
    apply Nat.lt_of_not_le; intro hc
    have := Nat.pow_le_pow_right (n := 2) (by decide) hc
    omega
  omega

theorem nearest_rung (f : Format) (neg : Bool) (r : Nat) (h : r < f.infRung) : f.nearest neg (magOf f r) (placeOf f r) = f.word neg r := by
  unfold magOf placeOf
  have hb : 0 < f.binade := Nat.two_pow_pos _
  by_cases h0 : r < f.binade
  · rw [if_pos h0, if_pos h0]
    by_cases hz : r = 0
    · subst hz; simp [Format.nearest]
    unfold Format.nearest
    rw [if_neg hz]
    have hl : r.log2 < f.fractionBits := (Nat.log2_lt hz).2 h0
    have el : max (f.leastPlace + (r.log2 : Int) - f.fractionBits) f.leastPlace = f.leastPlace := by omega
    dsimp only
    rw [el]
    simp only [Int.sub_self, Int.toNat_zero, Nat.shiftLeft_zero, Nat.zero_mul, Nat.zero_add, cut_zero]
    rw [Nat.min_eq_left (by omega)]
  · rw [if_neg h0, if_neg h0]
    have hm := Nat.mod_lt r hb
    have hd := Nat.div_add_mod r f.binade
    have hq : 0 < r / f.binade := Nat.div_pos (by omega) hb
    generalize hq' : r / f.binade = q at *
    generalize hm' : r % f.binade = x at *
    have hl : (f.binade + x).log2 = f.fractionBits := log2_unique (by unfold Format.binade at *; omega) (by unfold Format.binade at *; rw [Nat.pow_succ]; omega)
    unfold Format.nearest
    rw [if_neg (by omega), hl]
    have el : max (f.leastPlace + ((q - 1 : Nat) : Int) + (f.fractionBits : Int) - f.fractionBits) f.leastPlace = f.leastPlace + ((q - 1 : Nat) : Int) := by omega
    dsimp only
    rw [el]
    simp only [Int.sub_self, Int.toNat_zero, Nat.shiftLeft_zero, cut_zero]
    have e2 : (f.leastPlace + ((q - 1 : Nat) : Int) - f.leastPlace).toNat = q - 1 := by omega
    rw [e2]
    have e3 : (q - 1) * f.binade + (f.binade + x) = r := by
      obtain ⟨q0, rfl⟩ : ∃ q0, q = q0 + 1 := ⟨q - 1, by omega⟩
      rw [← hd, Nat.add_sub_cancel, Nat.mul_succ, Nat.mul_comm]
      omega
    rw [e3, Nat.min_eq_left (by omega)]

theorem read_word (f : Format) (neg : Bool) (r : Nat) (h : r < f.infRung) : f.read (f.word neg r) = .number neg (magOf f r) (placeOf f r) := by
  have hi := f.infRung_lt
  have hs : 0 < f.signWeight := by omega
  have e1 : f.word neg r % f.signWeight = r := by
    unfold Format.word
    split
    · rw [Nat.add_mod_left, Nat.mod_eq_of_lt (by omega)]
    · exact Nat.mod_eq_of_lt (by omega)
  have e2 : (f.word neg r / f.signWeight % 2 == 1) = neg := by
    unfold Format.word
    cases neg
    · rw [if_neg (by decide), Nat.div_eq_of_lt (by omega)]; rfl
    · rw [if_pos rfl, Nat.add_div_left _ hs, Nat.div_eq_of_lt (by omega)]; rfl
  unfold Format.read magOf placeOf
  dsimp only
  rw [e1, e2]
  by_cases h0 : r < f.binade
  · rw [if_pos h0, if_pos h0, if_pos h0]
  · rw [if_neg h0, if_neg h0, if_neg h0, if_pos h]

/-- A number with few digits is a word's: the word's digits and place. -/
theorem nearest_few (f : Format) (neg : Bool) (m : Nat) (e : Int) (hm : m ≠ 0) (hl : m.log2 ≤ f.fractionBits) (h0 : f.leastPlace ≤ e - (f.fractionBits - m.log2 : Nat))
    (h1 : e + m.log2 - f.fractionBits - f.leastPlace + 2 < 2 ^ f.exponentBits) :
    f.nearest neg m e < 2 ^ f.width ∧ f.read (f.nearest neg m e) = .number neg (m * 2 ^ (f.fractionBits - m.log2)) (e - (f.fractionBits - m.log2 : Nat)) := by
  refine ⟨f.nearest_lt neg m e, ?_⟩
  generalize ht : f.fractionBits - m.log2 = t at *
  have hb : 0 < f.binade := Nat.two_pow_pos _
  have hlo : f.binade ≤ m * 2 ^ t := by
    have := log2_le hm
    unfold Format.binade
    calc 2 ^ f.fractionBits = 2 ^ m.log2 * 2 ^ t := by rw [← Nat.pow_add]; congr 1; omega
      _ ≤ m * 2 ^ t := Nat.mul_le_mul_right _ this
  have hhi : m * 2 ^ t < 2 * f.binade := by
    have := lt_log2 m
    unfold Format.binade
    calc m * 2 ^ t < 2 ^ (m.log2 + 1) * 2 ^ t := (Nat.mul_lt_mul_right (Nat.two_pow_pos t)).2 this
      _ = 2 * 2 ^ f.fractionBits := by rw [← Nat.pow_add, ← Nat.pow_succ']; congr 1; omega
  obtain ⟨q, hq⟩ : ∃ q : Nat, (q : Int) = e - t - f.leastPlace := ⟨(e - t - f.leastPlace).toNat, by omega⟩
  have hr : (q + 1) * f.binade + (m * 2 ^ t - f.binade) < f.infRung := by
    unfold Format.infRung
    have hE : q + 2 + 1 ≤ 2 ^ f.exponentBits := by
      have : (q : Int) + 2 < 2 ^ f.exponentBits := by
        have e3 : e + (m.log2 : Int) - f.fractionBits - f.leastPlace = q := by omega
        rw [e3] at h1; exact h1
      exact_mod_cast this
    calc (q + 1) * f.binade + (m * 2 ^ t - f.binade) < (q + 1) * f.binade + f.binade := by omega
      _ = (q + 2) * f.binade := by rw [Nat.succ_mul (q + 1)]
      _ ≤ (2 ^ f.exponentBits - 1) * f.binade := Nat.mul_le_mul_right _ (by omega)
  have hmod : ((q + 1) * f.binade + (m * 2 ^ t - f.binade)) % f.binade = m * 2 ^ t - f.binade := by
    rw [Nat.mul_comm, Nat.mul_add_mod, Nat.mod_eq_of_lt (by omega)]
  have hdiv : ((q + 1) * f.binade + (m * 2 ^ t - f.binade)) / f.binade = q + 1 := by
    rw [Nat.mul_comm, Nat.mul_add_div hb, Nat.div_eq_of_lt (by omega), Nat.add_zero]
  have hge : ¬ (q + 1) * f.binade + (m * 2 ^ t - f.binade) < f.binade := by rw [Nat.succ_mul]; omega
  have hmag : magOf f ((q + 1) * f.binade + (m * 2 ^ t - f.binade)) = m * 2 ^ t := by
    unfold magOf; rw [if_neg hge, hmod]; omega
  have hpl : placeOf f ((q + 1) * f.binade + (m * 2 ^ t - f.binade)) = e - t := by
    unfold placeOf; rw [if_neg hge, hdiv]; omega
  have h2 := nearest_rung f neg _ hr
  rw [hmag, hpl, nearest_pow] at h2
  rw [h2, read_word f neg _ hr, hmag, hpl]

/-- What a word stands for: its rung. -/
theorem read_number {f : Format} (hf : f.binade ≤ f.infRung) {w : Nat} {s : Bool} {m : Nat} {e : Int} (h : f.read w = .number s m e) (hw : w < 2 * f.signWeight) :
    ∃ r, r < f.infRung ∧ w = f.word s r ∧ m = magOf f r ∧ e = placeOf f r := by
  have hi := f.infRung_lt
  have hs : 0 < f.signWeight := by omega
  have hm := Nat.mod_lt w hs
  refine ⟨w % f.signWeight, ?_⟩
  unfold Format.read at h
  dsimp only at h
  have hsign : w = f.word (w / f.signWeight % 2 == 1) (w % f.signWeight) := by
    have hd := Nat.div_add_mod w f.signWeight
    have hq : w / f.signWeight < 2 := Nat.div_lt_of_lt_mul (by rw [Nat.mul_comm]; omega)
    have hc : w / f.signWeight = 0 ∨ w / f.signWeight = 1 := by
      clear hd hm
      generalize w / f.signWeight = x at hq
      omega
    unfold Format.word
    rcases hc with hc | hc <;> rw [hc] at hd ⊢
    · rw [if_neg (by decide)]; omega
    · rw [if_pos (by decide)]; omega
  split at h
  · rename_i h1
    injection h with a b c
    subst a; subst b; subst c
    exact ⟨by omega, hsign, by unfold magOf; rw [if_pos h1], by unfold placeOf; rw [if_pos h1]⟩
  · split at h
    · rename_i h1 h2
      injection h with a b c
      subst a; subst b; subst c
      exact ⟨h2, hsign, by unfold magOf; rw [if_neg h1], by unfold placeOf; rw [if_neg h1]⟩
    · split at h <;> cases h
end Go.Proofs.Ytjolaegjdfajbaa.Fp
