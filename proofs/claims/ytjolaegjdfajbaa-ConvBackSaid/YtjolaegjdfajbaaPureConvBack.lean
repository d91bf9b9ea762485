/- ConvBack, as a Lean function, is true of all: promoted and demoted, a float is as it was; converted and truncated, a whole number is. -/
import Derived.Test.YtjolaegjdfajbaaPureConvTruncs
namespace Go.Proofs.Ytjolaegjdfajbaa.PA
open Go.RowKit Go.Proofs.YtjolaegjdfajbaaW.PrintWords Go.Proofs.YtjolaegjdfajbaaW.PrintLast Go.Proofs.YtjolaegjdfajbaaW.PrintMore
open Ieee (Format Datum)
open Fp (magOf placeOf)
set_option linter.unusedVariables false

/-- What a float comes to in the other size. -/
def rsz (t : Nat) : Datum → Nat
  | .number s m e => (fk t).format.nearest s m e
  | .infinity s => (fk t).format.nearest s 1 4000
  | .nan _ _ => if t = 32 then 2143289344 else 9221120237041090560
theorem Canon_eq {t : Nat} (h : W2 t) : floats_Canonical.f t = some ((if t = 32 then 2143289344 else 9221120237041090560 : Nat) : Int) := by
  rcases h with rfl | rfl <;> decide +kernel
theorem resized_eq {n t : Nat} (hn : W2 n) (ht : W2 t) {a : Int} (h0 : 0 ≤ a) (h1 : a < 18446744073709551616) (k : Nat) (hk : 9 < k) :
    conv_resized.f k n t a = some ((rsz t (Fl.rdn n a) : Nat) : Int) := by
  obtain ⟨p, x, e1, e2, e3, e4, e5, e6⟩ := size_eq hn h0 h1
  unfold conv_resized.f
  have hP := Parts_eq hn h0 h1 k (by omega)
  have hK := PKind_eq hn h0 h1
  have few := @read_few n hn a h0 h1
  cases hd : Fl.rdn n a with
  | number s m e =>
    obtain ⟨f1, f2, f3, f4⟩ := few hd
    rw [hd] at hP
    dsimp only at hP
    rw [hP]
    simp only [bindS]
    rw [if_pos trivial, Round_eq ht s m (by omega) e (by omega) (by omega) k (by omega)]
    rfl
  | infinity s =>
    rw [hd] at hP hK
    dsimp only at hP
    rw [hP, hK, cls_inf]
    simp only [bindS]
    rw [if_neg (by decide), if_neg (by decide), e6]
    have hw : 0 ≤ IntKind.u64.wrap (wrap64 ((n : Int) - 1)) := by rw [wu]; omega
    rw [if_pos hw]
    have hR := Round_eq ht (lowA n a / (fk n).format.signWeight % 2 == 1) 1 (by decide) 4000 (by decide) (by decide) k (by omega)
    rw [show (((1 : Nat) : Int)) = 1 from rfl] at hR
    rw [hR]
    have hbi := fm_binade e2
    rw [rdn_low hn h0 h1] at hd
    rcases read_cases hbi (lowA n a) with ⟨hr, e⟩ | ⟨hr, e⟩ | ⟨hr, s, q, e⟩
    · rw [e] at hd; cases hd
    · rw [e] at hd; injection hd with hs; rw [hs]; rfl
    · rw [e] at hd; cases hd
  | nan s q =>
    rw [hd] at hP hK
    dsimp only at hP
    rw [hP, hK, cls_nan]
    simp only [bindS]
    rw [if_neg (by decide), if_pos trivial, Canon_eq ht]
    rfl
theorem Promote_eq {a : Int} (h0 : 0 ≤ a) (h1 : a < 18446744073709551616) (k : Nat) (hk : 9 < k) : conv_Promote.f k a = some ((rsz 64 (Fl.rdn 32 a) : Nat) : Int) := by
  unfold conv_Promote.f
  have e := resized_eq (n := 32) (t := 64) (.inl rfl) (.inr rfl) h0 h1 k hk
  rw [show conv_resized.f k 32 64 a = conv_resized.f k ((32 : Nat) : Int) ((64 : Nat) : Int) a from rfl, e]
  rfl
theorem Demote_eq {a : Int} (h0 : 0 ≤ a) (h1 : a < 18446744073709551616) (k : Nat) (hk : 9 < k) : conv_Demote.f k a = some ((rsz 32 (Fl.rdn 64 a) : Nat) : Int) := by
  unfold conv_Demote.f
  have e := resized_eq (n := 64) (t := 32) (.inr rfl) (.inl rfl) h0 h1 k hk
  rw [show conv_resized.f k 64 32 a = conv_resized.f k ((64 : Nat) : Int) ((32 : Nat) : Int) a from rfl, e]
  rfl
theorem rsz_lt (t : Nat) (ht : W2 t) (d : Datum) : rsz t d < 18446744073709551616 := by
  cases d with
  | number s m e => exact nearest_lt64 _ _ _ _
  | infinity s => exact nearest_lt64 _ _ _ _
  | nan s q => unfold rsz; dsimp only; split <;> decide
theorem rdn64_nat (b : Nat) : Fl.rdn 64 (b : Int) = Ieee.double.read b := by
  unfold Fl.rdn
  rw [if_neg (by decide), Int.toNat_natCast]

theorem single_width : Ieee.single.width = 32 := by decide +kernel
/-- Back: what is demoted of what is promoted. -/
theorem back (a : Int) (h0 : 0 ≤ a) (h1 : a < 4294967296) :
    ((rsz 32 (Fl.rdn 64 ((rsz 64 (Fl.rdn 32 a) : Nat) : Int)) : Nat) : Int) = if Fl.clsD (Fl.rdn 32 a) = 4 then 2143289344 else a := by
  have h1' : a < 18446744073709551616 := by omega
  rw [rdn64_nat]
  have e0 := rdn_low (n := 32) (.inl rfl) h0 h1'
  have hl : lowA 32 a = a.toNat := by unfold lowA; omega
  rw [hl] at e0
  have e0' : Fl.rdn 32 a = Ieee.single.read a.toNat := e0
  have few := @read_few 32 (.inl rfl) a h0 h1'
  cases hd : Fl.rdn 32 a with
  | nan s q =>
    rw [cls_nan, if_pos rfl]
    have : ∃ s t, Ieee.double.read 9221120237041090560 = .nan s t := by
      have h := Fl.isNaN_iff 9221120237041090560 (by decide +kernel)
      cases hx : Ieee.double.read 9221120237041090560 with
      | nan s t => exact ⟨s, t, rfl⟩
      | number s m e => rw [hx] at h; cases h
      | infinity s => rw [hx] at h; cases h
    obtain ⟨s2, t2, h2⟩ := this
    have h3 : rsz 64 (.nan s q) = 9221120237041090560 := rfl
    rw [h3, h2]
    rfl
  | infinity s =>
    rw [cls_inf, if_neg (by decide)]
    have hA : a.toNat = Ieee.single.word s Ieee.single.infRung := by
      have hb : Ieee.single.binade ≤ Ieee.single.infRung := by decide +kernel
      rw [e0'] at hd
      rcases read_cases hb a.toNat with ⟨hr, e⟩ | ⟨hr, e⟩ | ⟨hr, s, q, e⟩
      · rw [e] at hd; cases hd
      · rw [e] at hd
        injection hd with hs
        unfold Ieee.Format.word
        rw [single_sign] at hs hr ⊢
        rw [single_inf] at hr ⊢
        cases s with
        | true =>
          rw [if_pos rfl]
          simp only [beq_iff_eq] at hs
          omega
        | false =>
          rw [if_neg (by decide)]
          simp only [beq_eq_false_iff_ne] at hs
          omega
      · rw [e] at hd; cases hd
    have key : ∀ s, rsz 32 (Ieee.double.read (rsz 64 (.infinity s))) = Ieee.single.word s Ieee.single.infRung := by
      intro s
      cases s <;> decide +kernel
    rw [key, ← hA]
    omega
  | number s m e =>
    obtain ⟨f1, f2, f3, f4⟩ := few hd
    rw [if_neg (by rw [cls_number]; split <;> decide)]
    rw [e0'] at hd
    obtain ⟨r, r1, r2, r3, r4⟩ := Fp.read_number (f := Ieee.single) (by decide +kernel) hd (by rw [single_sign]; omega)
    obtain ⟨s1, s2, s3⟩ := Fl.single_few _ _ _ _ hd
    have hback : ∀ d : Datum, (∃ t : Nat, d = .number s (m * 2 ^ t) (e - t)) → rsz 32 d = Ieee.single.word s r := by
      rintro d ⟨t, rfl⟩
      show Ieee.single.nearest s (m * 2 ^ t) (e - t) = _
      rw [Fp.nearest_pow, r3, r4, Fp.nearest_rung _ _ _ r1]
    have h64 : rsz 64 (.number s m e) = Ieee.double.nearest s m e := rfl
    rw [h64]
    by_cases hm : m = 0
    · have hz : Ieee.double.read (Ieee.double.nearest s m e) = .number s 0 (-1074) := by
        rw [hm]
        have : Ieee.double.nearest s 0 e = Ieee.double.word s 0 := by unfold Ieee.Format.nearest; rw [if_pos rfl]
        rw [this]
        cases s <;> decide +kernel
      rw [hz]
      have hr : r = 0 := (magOf_zero (f := Ieee.single) r).1 (by omega)
      have : rsz 32 (.number s 0 (-1074)) = Ieee.single.word s 0 := by
        show Ieee.single.nearest s 0 (-1074) = _
        unfold Ieee.Format.nearest; rw [if_pos rfl]
      rw [this, ← hr, ← r2]
      omega
    · have c4 : Ieee.double.leastPlace = -1074 := double_least
      have c5 : Ieee.double.fractionBits = 52 := rfl
      have c6 : (2 : Int) ^ Ieee.double.exponentBits = 2048 := by decide +kernel
      have hlg : m.log2 < 24 := (Nat.log2_lt hm).2 (by omega)
      have nf := (Fp.nearest_few Ieee.double s m e hm (by rw [c5]; omega) (by rw [c4, c5]; omega) (by rw [c4, c5, c6]; omega)).2
      rw [nf, hback _ ⟨_, rfl⟩, ← r2]
      omega

/-- A whole number as a float of 64 bits, read. -/
theorem TV_zero (t : Nat) : Fl.TV 0 t = 0 := by unfold Fl.TV; split <;> simp
theorem int_read (x : Int) (h0 : -2147483648 ≤ x) (h1 : x < 2147483648) : ∃ s m e, Ieee.double.read (floatOfInt .f64 x) = .number s m e ∧ cutV s m e = x := by
  rw [floatOfInt_nearest]
  by_cases hx : x = 0
  · subst hx
    exact ⟨false, 0, -1074, by decide +kernel, by decide +kernel⟩
  · have c4 : Ieee.double.leastPlace = -1074 := double_least
    have c5 : Ieee.double.fractionBits = 52 := rfl
    have c6 : (2 : Int) ^ Ieee.double.exponentBits = 2048 := by decide +kernel
    have hm : x.natAbs ≠ 0 := by omega
    have hlg : x.natAbs.log2 < 32 := (Nat.log2_lt hm).2 (by omega)
    have nf := (Fp.nearest_few Ieee.double (decide (x < 0)) x.natAbs 0 hm (by rw [c5]; omega) (by rw [c4, c5]; omega) (by rw [c4, c5, c6]; omega)).2
    refine ⟨_, _, _, nf, ?_⟩
    unfold cutV
    rw [Fl.TV_scale]
    have : Fl.TV x.natAbs 0 = x.natAbs := by unfold Fl.TV; simp
    rw [this]
    by_cases hn : x < 0
    · rw [decide_eq_true hn, if_pos rfl]; omega
    · rw [decide_eq_false hn, if_neg (by decide)]; omega

theorem ConvBack_f (a0 a1 : Int) (h0 : 0 ≤ a0) (h1 : a0 < 4294967296) (i0 : -2147483648 ≤ a1) (i1 : a1 < 2147483648) : bodkinlaw04_ConvBack.f 400 a0 a1 = some true := by
  unfold bodkinlaw04_ConvBack.f
  rw [awake_true 400 (by decide)]
  simp only [bindS]
  have ew : IntKind.u64.wrap a0 = a0 := by rw [wu]; omega
  have hP := Promote_eq h0 (show a0 < 18446744073709551616 by omega) 400 (by decide)
  have hlt := rsz_lt 64 (.inr rfl) (Fl.rdn 32 a0)
  have hD := Demote_eq (a := ((rsz 64 (Fl.rdn 32 a0) : Nat) : Int)) (by omega) (by omega) 400 (by decide)
  rw [if_pos trivial, ew, hP]
  simp only [bindS]
  rw [hD, back a0 h0 h1]
  simp only [bindS]
  have hK : bodkinref03_Kind.f 32 a0 = some (Fl.clsD (Fl.rdn 32 a0)) := by unfold bodkinref03_Kind.f; rw [if_pos (.inl rfl)]
  rw [hK]
  simp only [bindS]
  -- the second half
  have l0 : 0 ≤ a1 % 4294967296 ∧ a1 % 4294967296 < 4294967296 := by omega
  have hC := Convert_eq (n := 32) (t := 64) (.inl rfl) (.inr rfl) true (a := a1 % 4294967296) l0.1 (by omega) 400 (by decide)
  have hcvt : cvt 32 64 true (a1 % 4294967296) = (floatOfInt .f64 a1 : Int) := by
    unfold cvt
    rw [if_pos rfl]
    have hs : sg 32 (a1 % 4294967296) = a1 := by unfold sg; split <;> omega
    rw [hs]
    rfl
  rw [hcvt] at hC
  have hC' : conv_Convert.f 400 32 64 true (a1 % 4294967296) = some ((floatOfInt .f64 a1 : Int), 0) := hC
  have hf : floatOfInt .f64 a1 < 18446744073709551616 := nearest_lt64 .f64 _ _ _
  obtain ⟨s, m, e, hr, hv⟩ := int_read a1 i0 i1
  have hT32 : conv_Trunc.f 400 64 32 true false (floatOfInt .f64 a1 : Int) = some (a1 % 4294967296, 0) := by
    have := PTrunc_eq (n := 64) (t := 32) (.inr rfl) (.inl rfl) true false (a := (floatOfInt .f64 a1 : Int)) (by omega) (by omega) 400 (by decide)
    have h2 : conv_Trunc.f 400 64 32 true false (floatOfInt .f64 a1 : Int) = conv_Trunc.f 400 ((64 : Nat) : Int) ((32 : Nat) : Int) true false (floatOfInt .f64 a1 : Int) := rfl
    rw [h2, this]
    have h3 : Fl.rdn ((64 : Nat) : Int) (floatOfInt .f64 a1 : Int) = .number s m e := by rw [show ((64 : Nat) : Int) = 64 from rfl, rdn64_nat]; exact hr
    rw [h3]
    unfold bodkinref04_Trunc.d
    dsimp only
    rw [hv]
    have hl : Fl.leastI ((32 : Nat) : Int) true = -2147483648 := rfl
    have hm : Fl.mostI ((32 : Nat) : Int) true = 2147483648 := rfl
    rw [hl, hm, if_neg (by omega), if_neg (by omega)]
    by_cases hn : a1 < 0
    · rw [if_pos hn, Cut_eq (n := 32) (by unfold Wd; omega) (by rw [wu]; omega) (by rw [wu]; omega) 400 (by decide), wu]
      simp only [bindS]
      congr 2
      omega
    · rw [if_neg hn]
      congr 2
      omega
  have hT64 : ∃ c, conv_Trunc.f 400 64 64 true true (floatOfInt .f64 a1 : Int) = some (c, 0) ∧ wrap64 c = wrap64 a1 := by
    have := PTrunc_eq (n := 64) (t := 64) (.inr rfl) (.inr rfl) true true (a := (floatOfInt .f64 a1 : Int)) (by omega) (by omega) 400 (by decide)
    have h2 : conv_Trunc.f 400 64 64 true true (floatOfInt .f64 a1 : Int) = conv_Trunc.f 400 ((64 : Nat) : Int) ((64 : Nat) : Int) true true (floatOfInt .f64 a1 : Int) := rfl
    rw [h2, this]
    have h3 : Fl.rdn ((64 : Nat) : Int) (floatOfInt .f64 a1 : Int) = .number s m e := by rw [show ((64 : Nat) : Int) = 64 from rfl, rdn64_nat]; exact hr
    rw [h3]
    unfold bodkinref04_Trunc.d
    dsimp only
    rw [hv]
    have hl : Fl.leastI ((64 : Nat) : Int) true = -9223372036854775808 := rfl
    have hm : Fl.mostI ((64 : Nat) : Int) true = 9223372036854775808 := rfl
    rw [hl, hm, if_neg (by omega), if_neg (by omega)]
    by_cases hn : a1 < 0
    · rw [if_pos hn, Cut_eq (n := 64) (by unfold Wd; omega) (by rw [wu]; omega) (by rw [wu]; omega) 400 (by decide), wu]
      simp only [bindS]
      refine ⟨_, rfl, ?_⟩
      unfold wrap64
      omega
    · rw [if_neg hn]
      exact ⟨_, rfl, rfl⟩
  obtain ⟨c, hT64, hc⟩ := hT64
  have fin : ((conv_Convert.f 400 32 64 true ((a1) % 4294967296)).bind fun bt213 => ((conv_Trunc.f 400 64 32 true false bt213.1).bind fun bt215 => ((conv_Trunc.f 400 64 64 true true bt213.1).bind fun bt217 => (if bt213.2 = 0 then (if bt215.2 = 0 then (if bt215.1 = ((a1) % 4294967296) then (if bt217.2 = 0 then (some ((wrap64 (bt217.1)) == (wrap64 (a1)))) else (some false)) else (some false)) else (some false)) else (some false))))) = some true := by
    rw [hC']
    simp only [bindS]
    rw [hT32, hT64]
    simp only [bindS]
    rw [if_pos trivial, if_pos trivial, if_pos trivial, if_pos trivial, hc]
    simp
  by_cases h4 : Fl.clsD (Fl.rdn 32 a0) = 4
  · rw [if_pos h4, if_pos h4]
    have hcn : floats_Canonical.f 32 = some 2143289344 := by decide +kernel
    rw [hcn]
    simp only [bindS]
    rw [if_pos trivial]
    exact fin
  · rw [if_neg h4, if_neg h4, if_pos rfl]
    exact fin
theorem bd_u32 {a : Int} (h : (Lit.int .u32 a).wf = true) : 0 ≤ a ∧ a < 4294967296 := by
  have h1 : IntKind.u32.min ≤ a ∧ a ≤ IntKind.u32.max := by simpa [Lit.wf] using h
  have m : IntKind.u32.min = 0 := by decide +kernel
  have M : IntKind.u32.max = 4294967295 := by decide +kernel
  omega
theorem bd_i32 {a : Int} (h : (Lit.int .i32 a).wf = true) : -2147483648 ≤ a ∧ a < 2147483648 := by
  have h1 : IntKind.i32.min ≤ a ∧ a ≤ IntKind.i32.max := by simpa [Lit.wf] using h
  have m : IntKind.i32.min = -2147483648 := by decide +kernel
  have M : IntKind.i32.max = 2147483647 := by decide +kernel
  omega
end Go.Proofs.Ytjolaegjdfajbaa.PA
namespace Go.Proofs.Ytjolaegjdfajbaa.Pure
open Go.Proofs.Ytjolaegjdfajbaa.PA
theorem ConvBack : bodkinlaw04_ConvBack.Pure := fun a0 a1 h i => ⟨400, ConvBack_f a0 a1 (bd_u32 h).1 (bd_u32 h).2 (bd_i32 i).1 (bd_i32 i).2⟩
end Go.Proofs.Ytjolaegjdfajbaa.Pure
