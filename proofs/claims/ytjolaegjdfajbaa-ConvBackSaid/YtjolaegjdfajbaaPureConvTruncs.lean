/- ConvTruncs, as a Lean function, is true of all: the program's cutting of a float to an integer is the reference's. -/
import Derived.Test.YtjolaegjdfajbaaPu
namespace Go.Proofs.Ytjolaegjdfajbaa.PA
open Go.RowKit Go.Proofs.YtjolaegjdfajbaaW.PrintWords Go.Proofs.YtjolaegjdfajbaaW.PrintLast Go.Proofs.YtjolaegjdfajbaaW.PrintMore
open Ieee (Format Datum)
open Fp (magOf placeOf)
set_option linter.unusedVariables false

/-- The greatest number without its sign that is held. -/
def mst (t : Nat) (signed neg : Bool) : Int :=
  if signed = true then (if neg = true then -(Fl.leastI t true) else Fl.mostI t true - 1) else (if neg = true then 0 else Fl.mostI t false - 1)
theorem most_eq {t : Nat} (h : W2 t) (signed neg : Bool) (k : Nat) (hk : 0 < k) : conv_kind_most.f k t signed neg = some (mst t signed neg) := by
  obtain ⟨k, rfl⟩ : ∃ j, k = j + 1 := ⟨k - 1, by omega⟩
  rcases h with rfl | rfl
  · have e1 : IntKind.u64.wrap (wrap64 (64 - ((32 : Nat) : Int))) = 32 := by decide +kernel
    have e2 : shr .u64 18446744073709551615 32 = 4294967295 := by decide +kernel
    unfold conv_kind_most.f
    rw [e1, e2, if_pos (by decide)]
    cases signed <;> cases neg <;> (simp only [conv_kind_most.j0]; decide +kernel)
  · have e1 : IntKind.u64.wrap (wrap64 (64 - ((64 : Nat) : Int))) = 0 := by decide +kernel
    have e2 : shr .u64 18446744073709551615 0 = 18446744073709551615 := by decide +kernel
    unfold conv_kind_most.f
    rw [e1, e2, if_pos (by decide)]
    cases signed <;> cases neg <;> (simp only [conv_kind_most.j0]; decide +kernel)
theorem cut_eq {t : Nat} (h : W2 t) (signed neg : Bool) {x : Int} (h0 : 0 ≤ x) (h1 : x < 18446744073709551616) :
    conv_kind_cut.f t signed neg x = some ((if neg = true then -x else x) % 2 ^ t) := by
  unfold conv_kind_cut.f
  rcases h with rfl | rfl
  · have m := fun y (y0 : 0 ≤ y) (y1 : y < 18446744073709551616) => and_m1 (n := 32) (x := y) (by decide) y0 y1
    have c : (((32 : Nat) : Int) == 32) = true := rfl
    rw [c]
    cases neg with
    | true =>
      rw [if_pos rfl, if_pos rfl, if_pos rfl, wu]
      have := m (-x % 18446744073709551616) (by omega) (by omega)
      rw [show (4294967295 : Int) = 2 ^ 32 - 1 by decide, this]
      congr 1
      omega
    | false =>
      rw [if_neg (by decide), if_pos rfl, if_neg (by decide), show (4294967295 : Int) = 2 ^ 32 - 1 by decide, m x h0 h1]
  · have c : (((64 : Nat) : Int) == 32) = false := rfl
    rw [c]
    cases neg with
    | true =>
      rw [if_pos rfl, if_neg (by decide), if_pos rfl, wu]
      congr 1
    | false =>
      rw [if_neg (by decide), if_neg (by decide), if_neg (by decide)]
      congr 1
      omega
theorem over_eq {t : Nat} (h : W2 t) (signed sat neg : Bool) (k : Nat) (hk : 64 < k) : conv_kind_over.f k t signed sat neg = bodkinref04_Trunc.o k t signed sat neg := by
  unfold conv_kind_over.f bodkinref04_Trunc.o
  cases sat with
  | false => rfl
  | true =>
    rw [if_pos rfl, if_pos rfl, most_eq h signed neg k (by omega)]
    simp only [bindS]
    have hb : 0 ≤ mst t signed neg ∧ mst t signed neg < 18446744073709551616 := by
      rcases h with rfl | rfl <;> cases signed <;> cases neg <;> decide +kernel
    rw [cut_eq h signed neg hb.1 hb.2, Cut_eq h.wd (by decide) (by decide) k hk]
    simp only [bindS]
    rcases h with rfl | rfl <;> cases signed <;> cases neg <;> decide +kernel

theorem len_eq {m : Nat} (hm : m < 18446744073709551616) : bits_Len64.f (m : Int) = some ((if m = 0 then 0 else m.log2 + 1 : Nat) : Int) := by
  unfold bits_Len64.f
  rw [if_pos (by omega), Int.toNat_natCast]
  by_cases h : m = 0
  · subst h; rfl
  · rw [bitLen_log2 h hm, if_neg h]

/-- The end of the cutting, both. -/
theorem tail_eq {t : Nat} (h : W2 t) (signed sat s : Bool) (m : Nat) (e : Int) (k : Nat) (hk : 70 < k) (hT : Fl.TV m e < 18446744073709551616) :
    conv_Trunc.j2 k sat s (Fl.TV m e : Int) t signed = bodkinref04_Trunc.d k t signed sat (.number s m e) := by
  obtain ⟨k, rfl⟩ : ∃ j, k = j + 1 := ⟨k - 1, by omega⟩
  have ho : ∀ neg, bodkinref04_Trunc.o (k + 1) t signed sat neg = bodkinref04_Trunc.o k t signed sat neg := by
    intro neg
    unfold bodkinref04_Trunc.o
    rw [Cut_eq h.wd (by decide) (by decide) (k + 1) (by omega), Cut_eq h.wd (by decide) (by decide) k (by omega)]
  simp only [conv_Trunc.j2]
  rw [most_eq h signed s k (by omega)]
  simp only [bindS]
  rw [over_eq h signed sat s k (by omega), cut_eq h signed s (by omega) (by omega)]
  unfold bodkinref04_Trunc.d
  dsimp only
  unfold cutV
  generalize Fl.TV m e = T at *
  have hbd : ∀ x y : Int, ((bodkinref04_Trunc.o k t signed sat s).bind fun bt195 => some (bt195.1, bt195.2)) = bodkinref04_Trunc.o k t signed sat s := by
    intro x y
    cases bodkinref04_Trunc.o k t signed sat s <;> rfl
  rw [hbd 0 0]
  cases s with
  | true =>
    rw [if_pos rfl]
    have hlm : (-(T : Int) < Fl.leastI t signed) ↔ ((T : Int) > mst t signed true) := by
      unfold mst Fl.leastI
      cases signed with
      | true => simp only [if_true]; omega
      | false => simp only [if_true, if_false, Bool.false_eq_true]; omega
    have hmost : ¬ (Fl.mostI t signed ≤ -(T : Int)) := by
      have : 0 < Fl.mostI t signed := by rcases h with rfl | rfl <;> cases signed <;> decide
      omega
    by_cases hc : (T : Int) > mst t signed true
    · rw [if_pos hc, if_pos (hlm.2 hc), ho]
    · rw [if_neg hc, if_neg (fun c => hc (hlm.1 c)), if_neg hmost]
      simp only [bindS]
      by_cases hz : -(T : Int) < 0
      · rw [if_pos hz, Cut_eq h.wd (by rw [wu]; omega) (by rw [wu]; omega) (k + 1) (by omega)]
        simp only [bindS]
        rw [wu]
        congr 2
        rcases h with rfl | rfl <;> omega
      · rw [if_neg hz]
        have : T = 0 := by omega
        subst this
        congr 2
  | false =>
    rw [if_neg (show ¬ (false = true) by decide)]
    have hlm : ¬ ((T : Int) < Fl.leastI t signed) := by
      have : Fl.leastI t signed ≤ 0 := by rcases h with rfl | rfl <;> cases signed <;> decide
      omega
    have hmost : (Fl.mostI t signed ≤ (T : Int)) ↔ ((T : Int) > mst t signed false) := by
      unfold mst
      cases signed with
      | true => simp only [if_true, if_false, Bool.false_eq_true]; omega
      | false => simp only [if_false, Bool.false_eq_true]; omega
    rw [if_neg hlm]
    by_cases hc : (T : Int) > mst t signed false
    · rw [if_pos hc, if_pos (hmost.2 hc), ho]
    · rw [if_neg hc, if_neg (fun c => hc (hmost.1 c)), if_neg (by omega)]
      simp only [bindS]
      congr 2
      have hh : (T : Int) < 2 ^ t := by
        have : mst t signed false < 2 ^ t := by rcases h with rfl | rfl <;> cases signed <;> decide +kernel
        omega
      exact Int.emod_eq_of_lt (by omega) hh

theorem PTrunc_eq {n t : Nat} (hn : W2 n) (ht : W2 t) (signed sat : Bool) {a : Int} (h0 : 0 ≤ a) (h1 : a < 18446744073709551616) (k : Nat) (hk : 80 < k) :
    conv_Trunc.f k n t signed sat a = bodkinref04_Trunc.d k t signed sat (Fl.rdn n a) := by
  obtain ⟨k, rfl⟩ : ∃ j, k = j + 2 := ⟨k - 2, by omega⟩
  obtain ⟨p, x, e1, e2, e3, e4, e5, e6⟩ := size_eq hn h0 h1
  have hcut : ∀ j, 64 < j → bodkinref02_Cut.f (k + 2) t 18446744073709551615 = bodkinref02_Cut.f j t 18446744073709551615 := by
    intro j hj
    rw [Cut_eq ht.wd (by decide) (by decide) (k + 2) (by omega), Cut_eq ht.wd (by decide) (by decide) j hj]
  have ho : ∀ neg j, 64 < j → bodkinref04_Trunc.o (k + 2) t signed sat neg = bodkinref04_Trunc.o j t signed sat neg := by
    intro neg j hj
    unfold bodkinref04_Trunc.o
    rw [hcut j hj]
  have hbd : ∀ neg j, ((bodkinref04_Trunc.o j t signed sat neg).bind fun bt195 => some (bt195.1, bt195.2)) = bodkinref04_Trunc.o j t signed sat neg := by
    intro neg j
    cases bodkinref04_Trunc.o j t signed sat neg <;> rfl
  unfold conv_Trunc.f
  rw [right2 hn, right2 ht]
  simp only [bindS, if_true, conv_Trunc.j0, Bool.not_true]
  rw [if_neg (by decide), PKind_eq hn h0 h1]
  simp only [bindS]
  have hP := Parts_eq hn h0 h1 k (by omega)
  have few := @read_few n hn a h0 h1
  cases hd : Fl.rdn n a with
  | nan s q =>
    rw [cls_nan, if_pos rfl]
    simp only [conv_Trunc.j1, bodkinref04_Trunc.d]
    cases sat <;> rfl
  | infinity s =>
    rw [cls_inf, if_neg (by decide)]
    simp only [conv_Trunc.j1, bodkinref04_Trunc.d]
    rw [if_neg (by decide), if_neg (by decide), if_pos trivial, e6, over_eq ht signed sat _ k (by omega), hbd, ho s k (by omega)]
    have hw : 0 ≤ IntKind.u64.wrap (wrap64 ((n : Int) - 1)) := by rw [wu]; omega
    rw [if_pos hw]
    have hbi := fm_binade e2
    rw [rdn_low hn h0 h1] at hd
    rcases read_cases hbi (lowA n a) with ⟨hr, e⟩ | ⟨hr, e⟩ | ⟨hr, s, q, e⟩
    · rw [e] at hd; cases hd
    · rw [e] at hd; injection hd with hs; rw [hs]
    · rw [e] at hd; cases hd
  | number s m e =>
    obtain ⟨f1, f2, f3, f4⟩ := few hd
    rw [hd] at hP
    dsimp only at hP
    have hc : Fl.clsD (.number s m e) = 1 ∨ Fl.clsD (.number s m e) = 2 := by
      rw [cls_number]; split
      · exact .inl rfl
      · exact .inr rfl
    have hc4 : ¬ Fl.clsD (.number s m e) = 4 := by omega
    have hc3 : ¬ Fl.clsD (.number s m e) = 3 := by omega
    rw [if_neg hc4]
    simp only [conv_Trunc.j1]
    rw [if_neg (by decide), if_neg hc4, if_neg hc3, hP]
    simp only [bindS]
    have end_ : ∀ X : Int, X = (Fl.TV m e : Nat) → Fl.TV m e < 18446744073709551616 → conv_Trunc.j2 k sat s X t signed = bodkinref04_Trunc.d (k + 2) t signed sat (.number s m e) := by
      intro X hX hT
      rw [hX, tail_eq ht signed sat s m e k (by omega) hT]
      unfold bodkinref04_Trunc.d
      dsimp only
      rw [ho true k (by omega), ho false k (by omega)]
      by_cases hz : cutV s m e < 0
      · rw [if_pos hz, if_pos hz, Cut_eq ht.wd (by rw [wu]; omega) (by rw [wu]; omega) k (by omega), Cut_eq ht.wd (by rw [wu]; omega) (by rw [wu]; omega) (k + 2) (by omega)]
      · rw [if_neg hz, if_neg hz]
    by_cases g1 : e ≤ -64
    · rw [if_pos g1]
      have hT : Fl.TV m e = 0 := by
        unfold Fl.TV
        rw [if_neg (by omega)]
        apply Nat.div_eq_of_lt
        have := Nat.pow_le_pow_right (n := 2) (by decide) (show 64 ≤ (-e).toNat by omega)
        have h64 : 2 ^ 64 = 18446744073709551616 := by decide
        omega
      exact end_ 0 (by rw [hT]; rfl) (by rw [hT]; decide)
    · rw [if_neg g1]
      by_cases g2 : e < 0
      · rw [if_pos g2]
        obtain ⟨c, hce⟩ : ∃ c : Nat, (c : Int) = -e := ⟨(-e).toNat, by omega⟩
        have e7 : IntKind.u64.wrap (wrap64 (-e)) = (c : Int) := by rw [w64 (by omega) (by omega), wu]; omega
        rw [e7, if_pos (by omega)]
        have hT : Fl.TV m e = m / 2 ^ c := by
          unfold Fl.TV
          rw [if_neg (by omega), show (-e).toNat = c by omega]
        have hle : m / 2 ^ c ≤ m := Nat.div_le_self _ _
        refine end_ _ ?_ (by rw [hT]; omega)
        rw [hT]
        unfold shr
        have : min (c : Int).toNat IntKind.u64.bits = c := by
          have : IntKind.u64.bits = 64 := rfl
          omega
        rw [this, Int.natCast_ediv]
        congr 1
      · rw [if_neg g2, len_eq (by omega)]
        simp only [bindS]
        have hm : m ≠ 0 := fun c => by have := f4 c; omega
        rw [if_neg hm]
        obtain ⟨c, rfl⟩ := Int.eq_ofNat_of_zero_le (show 0 ≤ e by omega)
        have hl0 := Fp.log2_le hm
        have hl1 := Fp.lt_log2 m
        have hl2 : m.log2 < 64 := (Nat.log2_lt hm).2 (by omega)
        have e8 : wrap64 (((m.log2 + 1 : Nat) : Int) + (c : Int)) = ((m.log2 + 1 + c : Nat) : Int) := by rw [w64 (by omega) (by omega)]; omega
        rw [e8]
        have hT : Fl.TV m (c : Int) = m * 2 ^ c := by
          unfold Fl.TV
          rw [if_pos (by omega), Int.toNat_natCast]
        by_cases g3 : m.log2 + 1 + c > 64
        · rw [if_pos (by omega), over_eq ht signed sat s k (by omega), hbd]
          have hbig : 18446744073709551616 ≤ Fl.TV m (c : Int) := by
            rw [hT]
            have h2 := Nat.mul_le_mul_right (2 ^ c) hl0
            rw [← Nat.pow_add] at h2
            have h3 := Nat.pow_le_pow_right (n := 2) (by decide) (show 64 ≤ m.log2 + c by omega)
            have h64 : 2 ^ 64 = 18446744073709551616 := by decide
            omega
          unfold bodkinref04_Trunc.d cutV
          dsimp only
          have hle : Fl.leastI t signed ≤ 0 := by rcases ht with rfl | rfl <;> cases signed <;> decide
          have hge : -9223372036854775808 ≤ Fl.leastI t signed := by rcases ht with rfl | rfl <;> cases signed <;> decide
          have hmo : Fl.mostI t signed ≤ 18446744073709551616 := by rcases ht with rfl | rfl <;> cases signed <;> decide
          generalize Fl.TV m (c : Int) = T at *
          cases s with
          | true =>
            rw [if_pos rfl, if_pos (by omega), ho true k (by omega)]
          | false =>
            rw [if_neg (show ¬ (false = true) by decide), if_neg (by omega), if_pos (by omega), ho false k (by omega)]
        · have hsm : m * 2 ^ c < 18446744073709551616 := by
            have h2 : m * 2 ^ c < 2 ^ (m.log2 + 1) * 2 ^ c := (Nat.mul_lt_mul_right (Nat.two_pow_pos c)).2 hl1
            rw [← Nat.pow_add] at h2
            have h3 := Nat.pow_le_pow_right (n := 2) (by decide) (show m.log2 + 1 + c ≤ 64 by omega)
            have h64 : 2 ^ 64 = 18446744073709551616 := by decide
            omega
          have e9 : IntKind.u64.wrap (c : Int) = (c : Int) := by rw [wu]; omega
          rw [if_neg (by omega), e9, if_pos (by omega)]
          refine end_ _ ?_ (by rw [hT]; exact hsm)
          rw [hT]
          unfold shl
          have h5 : min (c : Int).toNat IntKind.u64.bits = c := by
            have : IntKind.u64.bits = 64 := rfl
            omega
          rw [h5, wu]
          have h6 : (m : Int) * 2 ^ c = ((m * 2 ^ c : Nat) : Int) := by exact_mod_cast rfl
          rw [h6]
          omega
theorem ConvTruncs_f (a0 a1 : Int) (a2 a3 : Bool) (a4 : Int) (h0 : 0 ≤ a4) (h1 : a4 < 18446744073709551616) : bodkinlaw04_ConvTruncs.f 400 a0 a1 a2 a3 a4 = some true := by
  unfold bodkinlaw04_ConvTruncs.f
  rw [awake_true 400 (by decide)]
  simp only [bindS, if_true]
  by_cases hc : (a0 = 32 ∨ a0 = 64) ∧ (a1 = 32 ∨ a1 = 64)
  · have hn : ∃ n : Nat, W2 n ∧ a0 = n := by
      rcases hc.1 with h | h
      · exact ⟨32, .inl rfl, h⟩
      · exact ⟨64, .inr rfl, h⟩
    have ht : ∃ t : Nat, W2 t ∧ a1 = t := by
      rcases hc.2 with h | h
      · exact ⟨32, .inl rfl, h⟩
      · exact ⟨64, .inr rfl, h⟩
    obtain ⟨n, hn, rfl⟩ := hn
    obtain ⟨t, ht, rfl⟩ := ht
    have e1 := PTrunc_eq hn ht a2 a3 h0 h1 400 (by decide)
    have e2 : bodkinref04_Trunc.f 400 n t a2 a3 a4 = bodkinref04_Trunc.d 400 t a2 a3 (Fl.rdn n a4) := by
      unfold bodkinref04_Trunc.f
      rw [if_pos hc]
    have e3 : ∃ r, bodkinref04_Trunc.d 400 t a2 a3 (Fl.rdn n a4) = some r := by
      have hout : ∀ s, ∃ r, bodkinref04_Trunc.o 400 t a2 a3 s = some r := by
        intro s
        unfold bodkinref04_Trunc.o
        rw [Cut_eq ht.wd (by decide) (by decide) 400 (by decide)]
        cases a3 <;> exact ⟨_, rfl⟩
      cases Fl.rdn n a4 with
      | nan s q => exact ⟨_, rfl⟩
      | infinity s => exact hout s
      | number s m e =>
        unfold bodkinref04_Trunc.d
        dsimp only
        by_cases g1 : cutV s m e < Fl.leastI t a2
        · rw [if_pos g1]; exact hout _
        · rw [if_neg g1]
          by_cases g2 : Fl.mostI t a2 ≤ cutV s m e
          · rw [if_pos g2]; exact hout _
          · rw [if_neg g2]
            by_cases g3 : cutV s m e < 0
            · rw [if_pos g3, Cut_eq ht.wd (by rw [wu]; omega) (by rw [wu]; omega) 400 (by decide)]; exact ⟨_, rfl⟩
            · rw [if_neg g3]; exact ⟨_, rfl⟩
    obtain ⟨r, hr⟩ := e3
    rw [e1, e2, hr]
    simp
  · have e1 : conv_Trunc.f 400 a0 a1 a2 a3 a4 = some (0, 1) := by
      unfold conv_Trunc.f conv_right.f
      by_cases g1 : a0 = 32 ∨ a0 = 64
      · have g2 : ¬ (a1 = 32 ∨ a1 = 64) := fun c => hc ⟨g1, c⟩
        have e : (a1 == 64) = false := by simp; omega
        rcases g1 with g1 | g1
        · rw [if_pos g1, if_neg (fun c => g2 (.inl c)), e]; simp [conv_Trunc.j0]
        · rw [if_neg (by omega), if_neg (fun c => g2 (.inl c)), e, show (a0 == 64) = true by simp [g1]]; simp [conv_Trunc.j0]
      · rw [if_neg (by omega), show (a0 == 64) = false by simp; omega]; simp [conv_Trunc.j0]
    have e2 : bodkinref04_Trunc.f 400 a0 a1 a2 a3 a4 = some (0, 1) := by
      unfold bodkinref04_Trunc.f
      rw [if_neg hc]
    rw [e1, e2]
    simp
end Go.Proofs.Ytjolaegjdfajbaa.PA
namespace Go.Proofs.Ytjolaegjdfajbaa.Pure
open Go.Proofs.Ytjolaegjdfajbaa.PA
theorem ConvTruncs : bodkinlaw04_ConvTruncs.Pure := fun a0 a1 a2 a3 a4 _ _ h => ⟨400, ConvTruncs_f a0 a1 a2 a3 a4 (bd_u64 h).1 (bd_u64 h).2⟩
end Go.Proofs.Ytjolaegjdfajbaa.Pure
