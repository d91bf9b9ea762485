/- ConvWords, as a Lean function, is true of every number: any integer as a float of either size is the reference's. -/
import Derived.Test.YtjolaegjdfajbaaIn
namespace Go.Proofs.Ytjolaegjdfajbaa.PA
open Go.RowKit Go.Proofs.YtjolaegjdfajbaaW.PrintWords Go.Proofs.YtjolaegjdfajbaaW.PrintLast Go.Proofs.YtjolaegjdfajbaaW.PrintMore
set_option linter.unusedVariables false

/-- The kind of floats of a size. -/
def fk (n : Nat) : FloatKind := if n = 32 then .f32 else .f64
def W2 (n : Nat) : Prop := n = 32 ∨ n = 64
theorem W2.wd {n : Nat} (h : W2 n) : Wd n := by unfold W2 at h; unfold Wd; omega
theorem of_eq {n : Nat} (h : W2 n) : ∃ p x : Nat, floats_of.f n = some (((p : Nat) : Int), ((x : Nat) : Int)) ∧ Fm p x (fk n).format ∧ floats_format_none.f p x = some false := by
  rcases h with rfl | rfl
  · exact ⟨23, 8, rfl, Fm.single, by decide +kernel⟩
  · exact ⟨52, 11, rfl, Fm.double, by decide +kernel⟩
theorem Round_eq {n : Nat} (h : W2 n) (neg : Bool) (m : Nat) (hm : m < 18446744073709551616) (e : Int) (he0 : -5000 ≤ e) (he1 : e ≤ 5000) (k : Nat) (hk : 2 < k) :
    floats_Round.f k n neg (m : Int) e false = some (((fk n).format.nearest neg m e : Int), 0) := by
  obtain ⟨k, rfl⟩ : ∃ j, k = j + 1 := ⟨k - 1, by omega⟩
  obtain ⟨p, x, h1, h2, h3⟩ := of_eq h
  unfold floats_Round.f
  rw [h1]
  simp only [Option.bind_some]
  rw [h3]
  simp only [Option.bind_some]
  rw [if_neg (by decide), if_neg (by decide)]
  simp only [floats_Round.j0]
  rw [if_neg (by decide), h1]
  simp only [Option.bind_some]
  rw [round_eq h2 neg m hm e he0 he1 k (by omega)]
  rfl
theorem right2 {n : Nat} (h : W2 n) : conv_right.f n = some true := by
  rcases h with rfl | rfl <;> rfl
theorem nearest_lt64 (k : FloatKind) (neg : Bool) (m : Nat) (e : Int) : k.format.nearest neg m e < 18446744073709551616 := by
  have h := k.format.nearest_lt neg m e
  cases k
  · have : (2 : Nat) ^ Ieee.single.width = 4294967296 := by decide +kernel
    simp only [FloatKind.format] at *
    omega
  · have : (2 : Nat) ^ Ieee.double.width = 18446744073709551616 := by decide +kernel
    simp only [FloatKind.format] at *
    omega

/-- What both come to. -/
def cvt (from_ tt : Nat) (signed : Bool) (a : Int) : Int :=
  if signed = true then (floatOfInt (fk tt) (sg from_ a) : Int) else (floatOfInt (fk tt) (a % 2 ^ from_) : Int)
theorem cut_low {n : Nat} (h : W2 n) {a : Int} (h0 : 0 ≤ a) (h1 : a < 18446744073709551616) : 0 ≤ a % 2 ^ n ∧ a % 2 ^ n < 18446744073709551616 := by
  rcases h with rfl | rfl <;> omega
theorem floatOfInt_nearest (k : FloatKind) (x : Int) : floatOfInt k x = k.format.nearest (decide (x < 0)) x.natAbs 0 := rfl

theorem Convert_eq {n t : Nat} (hn : W2 n) (ht : W2 t) (signed : Bool) {a : Int} (h0 : 0 ≤ a) (h1 : a < 18446744073709551616) (k : Nat) (hk : 5 < k) :
    conv_Convert.f k n t signed a = some (cvt n t signed a, 0) := by
  obtain ⟨k, rfl⟩ : ∃ j, k = j + 2 := ⟨k - 2, by omega⟩
  unfold conv_Convert.f
  rw [right2 hn]
  simp only [Option.bind_some, if_true]
  rw [right2 ht]
  simp only [Option.bind_some, conv_Convert.j0, Bool.not_true]
  rw [if_neg (by decide)]
  obtain ⟨l0, l1⟩ := cut_low hn h0 h1
  have key : ∀ c : Int, c = a % 2 ^ n → conv_Convert.j1 (k + 1) n t signed c false = some (cvt n t signed a, 0) := by
    intro c hc
    simp only [conv_Convert.j1]
    rw [← hc] at l0 l1
    rw [Signed_eq hn.wd l0 l1]
    simp only [Option.bind_some]
    have hs : sg n c = sg n a := by rw [hc]; exact sg_low hn.wd a
    rw [hs]
    obtain ⟨C, hC⟩ := Int.eq_ofNat_of_zero_le l0
    unfold cvt
    cases signed with
    | false =>
      rw [if_neg (by decide), if_neg (by decide), hC, Round_eq ht false C (by omega) 0 (by omega) (by omega) k (by omega), ← hc, hC, floatOfInt_nearest]
      have e1 : decide ((C : Int) < 0) = false := decide_eq_false (by omega)
      rw [e1, Int.natAbs_natCast]
      rfl
    | true =>
      rw [if_pos rfl, if_pos rfl]
      obtain ⟨b0, b1⟩ := sg_bounds hn.wd a
      by_cases hneg : sg n a < 0
      · rw [if_pos hneg]
        have e2 : IntKind.u64.wrap (-(IntKind.u64.wrap (sg n a))) = ((sg n a).natAbs : Int) := by rw [wu, wu]; omega
        rw [e2, Round_eq ht true _ (by omega) 0 (by omega) (by omega) k (by omega), floatOfInt_nearest, decide_eq_true hneg]
        rfl
      · rw [if_neg hneg, hC, Round_eq ht false C (by omega) 0 (by omega) (by omega) k (by omega), floatOfInt_nearest, decide_eq_false hneg]
        have e3 : (sg n a).natAbs = C := by
          rw [← hs]
          unfold sg at hneg hs ⊢
          rcases hn with rfl | rfl
          · split <;> omega
          · split <;> omega
        rw [e3]
        rfl
  rcases hn with rfl | rfl
  · rw [if_pos (by decide)]
    refine key _ ?_
    have := and_m1 (n := 32) (by decide) h0 h1
    exact this
  · rw [if_neg (by decide)]
    exact key _ (by omega)
theorem RConvert_eq {n t : Nat} (hn : W2 n) (ht : W2 t) (signed : Bool) {a : Int} (h0 : 0 ≤ a) (h1 : a < 18446744073709551616) (k : Nat) (hk : 64 < k) :
    bodkinref04_Convert.f k n t signed a = some (cvt n t signed a, 0) := by
  unfold bodkinref04_Convert.f
  obtain ⟨l0, l1⟩ := cut_low hn h0 h1
  have hw : ∀ x : Int, IntKind.u64.wrap (floatOfInt .f32 x : Int) = (floatOfInt .f32 x : Int) := fun x => by
    have h : floatOfInt .f32 x < 18446744073709551616 := nearest_lt64 .f32 _ _ _
    rw [wu]; omega
  have hc : ((n : Int) = 32 ∨ (n : Int) = 64) ∧ ((t : Int) = 32 ∨ (t : Int) = 64) := by unfold W2 at hn ht; omega
  rw [if_pos hc, Cut_eq hn.wd h0 h1 k hk]
  simp only [Option.bind_some]
  unfold cvt
  cases signed with
  | false =>
    rw [if_neg (show ¬ (false = true) by decide), if_neg (show ¬ (false = true) by decide), hw]
    rcases ht with rfl | rfl <;> rfl
  | true =>
    rw [if_pos rfl, if_pos rfl, RSigned_eq hn.wd l0 l1 k hk]
    simp only [Option.bind_some]
    rw [sg_low hn.wd, hw]
    rcases ht with rfl | rfl <;> rfl

theorem awake_true (k : Nat) (hk : 200 ≤ k) : bodkinlaw04_awake.f k = some true := by
  have h : bodkinlaw04_awake.f 200 = some true := by kernel_rfl
  obtain ⟨d, rfl⟩ : ∃ d, k = 200 + d := ⟨k - 200, by omega⟩
  induction d with
  | zero => exact h
  | succ d ih => exact bodkinlaw04_awake.mono _ _ (ih (by omega))
theorem bd_u64 {a : Int} (h : (Lit.int .u64 a).wf = true) : 0 ≤ a ∧ a < 18446744073709551616 := by
  have h1 : IntKind.u64.min ≤ a ∧ a ≤ IntKind.u64.max := by simpa [Lit.wf] using h
  have m : IntKind.u64.min = 0 := by decide +kernel
  have M : IntKind.u64.max = 18446744073709551615 := by decide +kernel
  omega
theorem words_l1 (a : Int) (h0 : 0 ≤ a) (h1 : a < 18446744073709551616) (n : Nat) (hn : W2 n) (k : Nat) (hk : 100 < k) : ∃ j, k = j + 3 ∧ bodkinlaw04_ConvWords.l1 k a n 32 = bodkinlaw04_ConvWords.l0 j a (wrap64 ((n : Int) + 32)) := by
  obtain ⟨k, rfl⟩ : ∃ j, k = j + 3 := ⟨k - 3, by omega⟩
  refine ⟨k, rfl, ?_⟩
  have step : ∀ (t : Nat) (j : Nat), W2 t → 66 < j → bodkinlaw04_ConvWords.l1 (j + 1) a n t = bodkinlaw04_ConvWords.l1 j a n (wrap64 ((t : Int) + 32)) := by
    intro t j ht hj
    simp only [bodkinlaw04_ConvWords.l1]
    rw [if_pos (by unfold W2 at ht; omega), Convert_eq hn ht false h0 h1 j (by omega), RConvert_eq hn ht false h0 h1 j (by omega), Convert_eq hn ht true h0 h1 j (by omega), RConvert_eq hn ht true h0 h1 j (by omega)]
    simp
  have s1 := step 32 (k + 2) (.inl rfl) (by omega)
  have s2 := step 64 (k + 1) (.inr rfl) (by omega)
  have e1 : wrap64 (((32 : Nat) : Int) + 32) = ((64 : Nat) : Int) := by decide +kernel
  have e2 : wrap64 (((64 : Nat) : Int) + 32) = 96 := by decide +kernel
  rw [e1] at s1
  rw [e2] at s2
  show bodkinlaw04_ConvWords.l1 (k + 2 + 1) a n ((32 : Nat) : Int) = _
  rw [s1, s2]
  simp only [bodkinlaw04_ConvWords.l1]
  rw [if_neg (by decide)]
theorem ConvWords_f (a : Int) (h0 : 0 ≤ a) (h1 : a < 18446744073709551616) : bodkinlaw04_ConvWords.f 400 a = some true := by
  unfold bodkinlaw04_ConvWords.f
  rw [awake_true 400 (by decide)]
  simp only [Option.bind_some, if_true]
  simp only [bodkinlaw04_ConvWords.l0]
  rw [if_pos (by decide)]
  obtain ⟨j, hj, e⟩ := words_l1 a h0 h1 32 (.inl rfl) 399 (by decide)
  obtain rfl : j = 396 := by omega
  have e' : bodkinlaw04_ConvWords.l1 399 a 32 32 = bodkinlaw04_ConvWords.l0 396 a (wrap64 (((32 : Nat) : Int) + 32)) := e
  rw [e', show wrap64 (((32 : Nat) : Int) + 32) = ((64 : Nat) : Int) by decide +kernel]
  simp only [bodkinlaw04_ConvWords.l0]
  rw [if_pos (by decide)]
  obtain ⟨j, hj, e⟩ := words_l1 a h0 h1 64 (.inr rfl) 395 (by decide)
  obtain rfl : j = 392 := by omega
  rw [e, show wrap64 (((64 : Nat) : Int) + 32) = 96 by decide +kernel]
  simp only [bodkinlaw04_ConvWords.l0]
  rw [if_neg (by decide)]
end Go.Proofs.Ytjolaegjdfajbaa.PA
namespace Go.Proofs.Ytjolaegjdfajbaa.Pure
open Go.Proofs.Ytjolaegjdfajbaa.PA
theorem ConvWords : bodkinlaw04_ConvWords.Pure := fun a h => ⟨400, ConvWords_f a (bd_u64 h).1 (bd_u64 h).2⟩
end Go.Proofs.Ytjolaegjdfajbaa.Pure
