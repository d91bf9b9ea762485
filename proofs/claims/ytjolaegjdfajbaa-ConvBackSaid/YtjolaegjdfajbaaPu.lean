/- Plain laws: the program's kind of float, its parts, and its cutting of a float to an integer are the reference's. -/
import Derived.Test.YtjolaegjdfajbaaPt
namespace Go.Proofs.Ytjolaegjdfajbaa.PA
open Go.RowKit Go.Proofs.YtjolaegjdfajbaaW.PrintWords Go.Proofs.YtjolaegjdfajbaaW.PrintLast Go.Proofs.YtjolaegjdfajbaaW.PrintMore
open Ieee (Format Datum)
open Fp (magOf placeOf)
set_option linter.unusedVariables false

/-- No definitional step: else the kernel unfolds what is bound. -/
theorem bindS {α β : Type} (x : α) (f : α → Option β) : (some x).bind f = f x := by rw [Option.bind_some]
theorem magOf_zero {f : Format} (r : Nat) : magOf f r = 0 ↔ r = 0 := by
  have : 0 < f.binade := Nat.two_pow_pos _
  unfold magOf
  by_cases h : r < f.binade
  · rw [if_pos h]
  · rw [if_neg h]; omega

theorem cls_number (s : Bool) (m : Nat) (e : Int) : Fl.clsD (.number s m e) = if m = 0 then 1 else 2 := rfl
theorem cls_inf (s : Bool) : Fl.clsD (.infinity s) = 3 := rfl
theorem cls_nan (s : Bool) (t : Nat) : Fl.clsD (.nan s t) = 4 := rfl
theorem PKind_eq {n : Nat} (h : W2 n) {a : Int} (h0 : 0 ≤ a) (h1 : a < 18446744073709551616) : floats_Kind.f n a = some (Fl.clsD (Fl.rdn n a)) := by
  obtain ⟨p, x, e1, e2, e3, e4, e5, e6⟩ := size_eq h h0 h1
  unfold floats_Kind.f
  rw [e1]
  simp only [bindS]
  rw [e4, e3]
  simp only [bindS]
  rw [if_neg (by decide), infinity_eq e2, rdn_low h h0 h1]
  simp only [bindS]
  have hb : 0 < (fk n).format.binade := Nat.two_pow_pos _
  have hbi := fm_binade e2
  have hc := read_cases hbi (lowA n a)
  generalize lowA n a % (fk n).format.signWeight = r at *
  generalize (fk n).format.infRung = I at *
  rcases hc with ⟨hr, e⟩ | ⟨hr, e⟩ | ⟨hr, s, t, e⟩
  · rw [e, cls_number]
    by_cases hz : r = 0
    · rw [if_pos (by omega), if_pos ((magOf_zero _).2 hz)]
    · rw [if_neg (by omega), if_neg (fun c => hz ((magOf_zero _).1 c)), if_pos (by omega)]
  · rw [e, cls_inf, if_neg (by omega), if_neg (by omega), if_pos (by omega)]
  · rw [e, cls_nan, if_neg (by omega), if_neg (by omega), if_neg (by omega)]

/-- The bounds of what is read. -/
theorem read_few {n : Nat} (h : W2 n) {a : Int} (h0 : 0 ≤ a) (h1 : a < 18446744073709551616) {s : Bool} {m : Nat} {e : Int} (hd : Fl.rdn n a = .number s m e) :
    m < 9007199254740992 ∧ -1074 ≤ e ∧ e ≤ 971 ∧ (m = 0 → e < 0) := by
  rw [rdn_low h h0 h1] at hd
  obtain ⟨p, x, e1, e2, e3, e4, e5, e6⟩ := size_eq h h0 h1
  have hbi := fm_binade e2
  rcases read_cases hbi (lowA n a) with ⟨hr, e⟩ | ⟨hr, e⟩ | ⟨hr, s, t, e⟩
  · rw [e] at hd
    injection hd with a1 a2 a3
    subst a2; subst a3
    generalize lowA n a % (fk n).format.signWeight = r at hr
    unfold magOf placeOf
    rcases h with rfl | rfl
    · have b1 : (fk 32).format.binade = 8388608 := single_bin
      have b2 : (fk 32).format.infRung = 2139095040 := single_inf
      have b3 : (fk 32).format.leastPlace = -149 := single_least
      rw [b1, b3]
      rw [b2] at hr
      split <;> omega
    · have b1 : (fk 64).format.binade = 4503599627370496 := double_bin
      have b2 : (fk 64).format.infRung = 9218868437227405312 := double_inf
      have b3 : (fk 64).format.leastPlace = -1074 := double_least
      rw [b1, b3]
      rw [b2] at hr
      split <;> omega
  · rw [e] at hd; cases hd
  · rw [e] at hd; cases hd

theorem parts_eq {p x : Nat} {f : Format} (h : Fm p x f) {a : Int} {r : Nat} (hr : r < f.infRung) (hs : floats_format_size.f p x a = some (r : Int)) :
    floats_format_parts.f p x a = some ((magOf f r : Int), placeOf f r) := by
  unfold floats_format_parts.f
  rw [hs]
  simp only [bindS]
  rcases h with ⟨rfl, rfl, rfl⟩ | ⟨rfl, rfl, rfl⟩
  · have b1 := single_bin
    have b2 := single_inf
    have b3 := single_least
    rw [b2] at hr
    have e0 : IntKind.u64.wrap ((23 : Nat) : Int) = 23 := by decide +kernel
    rw [e0, if_pos (by decide), least_eq Fm.single]
    simp only [bindS]
    have e1 : shr .u64 (r : Int) 23 = (r : Int) / 2 ^ 23 := by unfold shr; rfl
    have e2 : shl .u64 1 23 = 8388608 := by decide +kernel
    have e3 : IntKind.u64.wrap ((8388608 : Int) - 1) = 2 ^ 23 - 1 := by decide +kernel
    rw [e1, e2, e3, and_m1 (n := 23) (by decide) (by omega) (by omega), b3]
    unfold magOf placeOf
    rw [b1, b3]
    by_cases hl : r < 8388608
    · rw [if_pos (by rw [w64] <;> omega), if_pos hl, if_pos hl]
      congr 2
      omega
    · rw [if_neg (by rw [w64] <;> omega), if_neg hl, if_neg hl]
      have o := or_high (r % 8388608) 23 (by decide) (by omega)
      rw [show ((r : Int) % 2 ^ 23) = ((r % 8388608 : Nat) : Int) by omega, show (8388608 : Int) = ((2 ^ 23 : Nat) : Int) by decide, o]
      congr 2
      generalize hq : (r : Int) / 2 ^ 23 = q
      have : 0 ≤ q ∧ q < 256 := by omega
      rw [w64 (n := q) (by omega) (by omega), w64 (n := -149 + q) (by omega) (by omega), w64 (by omega) (by omega)]
      have : ((r / 8388608 - 1 : Nat) : Int) = q - 1 := by omega
      rw [this]; omega
  · have b1 := double_bin
    have b2 := double_inf
    have b3 := double_least
    rw [b2] at hr
    have e0 : IntKind.u64.wrap ((52 : Nat) : Int) = 52 := by decide +kernel
    rw [e0, if_pos (by decide), least_eq Fm.double]
    simp only [bindS]
    have e1 : shr .u64 (r : Int) 52 = (r : Int) / 2 ^ 52 := by unfold shr; rfl
    have e2 : shl .u64 1 52 = 4503599627370496 := by decide +kernel
    have e3 : IntKind.u64.wrap ((4503599627370496 : Int) - 1) = 2 ^ 52 - 1 := by decide +kernel
    rw [e1, e2, e3, and_m1 (n := 52) (by decide) (by omega) (by omega), b3]
    unfold magOf placeOf
    rw [b1, b3]
    by_cases hl : r < 4503599627370496
    · rw [if_pos (by rw [w64] <;> omega), if_pos hl, if_pos hl]
      congr 2
      omega
    · rw [if_neg (by rw [w64] <;> omega), if_neg hl, if_neg hl]
      have o := or_high (r % 4503599627370496) 52 (by decide) (by omega)
      rw [show ((r : Int) % 2 ^ 52) = ((r % 4503599627370496 : Nat) : Int) by omega, show (4503599627370496 : Int) = ((2 ^ 52 : Nat) : Int) by decide, o]
      congr 2
      generalize hq : (r : Int) / 2 ^ 52 = q
      have : 0 ≤ q ∧ q < 2048 := by omega
      rw [w64 (n := q) (by omega) (by omega), w64 (n := -1074 + q) (by omega) (by omega), w64 (by omega) (by omega)]
      have : ((r / 4503599627370496 - 1 : Nat) : Int) = q - 1 := by omega
      rw [this]; omega

theorem Parts_eq {n : Nat} (h : W2 n) {a : Int} (h0 : 0 ≤ a) (h1 : a < 18446744073709551616) (k : Nat) (hk : 0 < k) :
    floats_Parts.f k n a = some (match Fl.rdn n a with | .number s m e => (s, (m : Int), e, 0) | _ => (false, 0, 0, 1)) := by
  obtain ⟨k, rfl⟩ : ∃ j, k = j + 1 := ⟨k - 1, by omega⟩
  unfold floats_Parts.f
  rw [PKind_eq h h0 h1]
  simp only [bindS]
  have yes : ∀ s m e, Fl.rdn n a = .number s m e → floats_Parts.j0 (k + 1) n a false = some (s, (m : Int), e, 0) := by
    intro s m e hd
    obtain ⟨p, x, e1, e2, e3, e4, e5, e6⟩ := size_eq h h0 h1
    have hbi := fm_binade e2
    simp only [floats_Parts.j0]
    rw [if_neg (by decide), e1]
    simp only [bindS]
    rw [rdn_low h h0 h1] at hd
    rcases read_cases hbi (lowA n a) with ⟨hr, e⟩ | ⟨hr, e⟩ | ⟨hr, s, t, e⟩
    · rw [parts_eq e2 hr e4, e5]
      rw [e] at hd
      injection hd with a1 a2 a3
      subst a1; subst a2; subst a3
      rfl
    · rw [e] at hd; cases hd
    · rw [e] at hd; cases hd
  have no : floats_Parts.j0 (k + 1) n a true = some (false, 0, 0, 1) := by
    simp only [floats_Parts.j0]
    rw [if_pos trivial]
  cases hd : Fl.rdn n a with
  | number s m e =>
    have y := yes _ _ _ hd
    by_cases hm : m = 0
    · have hc : Fl.clsD (.number s m e) = 1 := by rw [cls_number, if_pos hm]
      rw [hc, if_pos rfl, y]
    · have hc : Fl.clsD (.number s m e) = 2 := by rw [cls_number, if_neg hm]
      rw [hc, if_neg (by decide)]
      exact y
  | infinity s =>
    rw [cls_inf, if_neg (by decide)]
    exact no
  | nan s t =>
    rw [cls_nan, if_neg (by decide)]
    exact no
end Go.Proofs.Ytjolaegjdfajbaa.PA
