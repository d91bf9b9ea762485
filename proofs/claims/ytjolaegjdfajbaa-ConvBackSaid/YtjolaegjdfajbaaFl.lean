/- The reference's small functions on floats, walked: what each call answers, as the floats' bits. -/
import Derived.Test.YtjolaegjdfajbaaProg
import Derived.Test.YtjolaegjdfajbaaWMore
import Derived.Test.YtjolaegjdfajbaaFp
import Derived.WalkLawsBesides
import Derived.Laws.FloatArith
import Derived.Laws.Externs
namespace Go.Proofs.Ytjolaegjdfajbaa.Fl
open Go.RowKit Go.Proofs.YtjolaegjdfajbaaW.PrintWords Go.Proofs.YtjolaegjdfajbaaW.PrintLast Go.Proofs.YtjolaegjdfajbaaW.PrintMore
set_option linter.unusedVariables false
set_option linter.unusedSimpArgs false

/-- A rounded number is no NaN. -/
theorem nearest_rungle (f : Ieee.Format) (neg : Bool) (m : Nat) (e : Int) : ∃ r, r ≤ f.infRung ∧ f.nearest neg m e = f.word neg r := by
  unfold Ieee.Format.nearest
  dsimp only
  split
  · exact ⟨0, Nat.zero_le _, rfl⟩
  · exact ⟨_, Nat.min_le_right _ _, rfl⟩
theorem order_self {d : Ieee.Datum} (h : d.isNaN = false) : Ieee.Datum.order d d = some .eq := by
  cases d with
  | number s m e => simp [Ieee.Datum.order]
  | infinity s => simp [Ieee.Datum.order]
  | nan s t => simp [Ieee.Datum.isNaN] at h
theorem read_inf (f : Ieee.Format) (hf : f.binade ≤ f.infRung) (neg : Bool) : f.read (f.word neg f.infRung) = .infinity neg := by
  have hi := f.infRung_lt
  have hs : 0 < f.signWeight := by omega
  have e1 : f.word neg f.infRung % f.signWeight = f.infRung := by
    unfold Ieee.Format.word
    split
    · rw [Nat.add_mod_left, Nat.mod_eq_of_lt (by omega)]
    · exact Nat.mod_eq_of_lt (by omega)
  have e2 : (f.word neg f.infRung / f.signWeight % 2 == 1) = neg := by
    unfold Ieee.Format.word
    cases neg
    · rw [if_neg (by decide), Nat.div_eq_of_lt (by omega)]; rfl
    · rw [if_pos rfl, Nat.add_div_left _ hs, Nat.div_eq_of_lt (by omega)]; rfl
  unfold Ieee.Format.read
  dsimp only
  rw [e1, e2, if_neg (by omega), if_neg (by omega), if_pos rfl]
theorem read_nearest (f : Ieee.Format) (hf : f.binade ≤ f.infRung) (neg : Bool) (m : Nat) (e : Int) : (f.read (f.nearest neg m e)).isNaN = false := by
  obtain ⟨r, hr, hw⟩ := nearest_rungle f neg m e
  rw [hw]
  rcases Nat.lt_or_eq_of_le hr with h | h
  · rw [Fp.read_word f neg r h]; rfl
  · rw [h, read_inf f hf]; rfl
theorem bin_le (k : FloatKind) : k.format.binade ≤ k.format.infRung := by cases k <;> decide +kernel
theorem ordInt (k : FloatKind) (n : Int) : (k.format.order (floatOfInt k n) (floatOfInt k n) != some .eq) = false := by
  have h : k.format.order (floatOfInt k n) (floatOfInt k n) = some .eq := order_self (read_nearest k.format (bin_le k) _ _ _)
  rw [h]; rfl

theorem e50 (b : Nat) (w : World) : (callFunc 50 #[.float .f32 b]).run Try.prog w = .ok (.value (.int .u32 (b : Int))) w := by
  rw [run_callFunc_extern Try.func50 (by kernel_rfl) (by kernel_rfl) (by kernel_rfl) (e := Extern.MathFloatBits.float32bits) (by kernel_rfl)]; rfl
theorem e51 (b : Nat) (w : World) : (callFunc 51 #[.float .f64 b]).run Try.prog w = .ok (.value (.int .u64 (b : Int))) w := by
  rw [run_callFunc_extern Try.func51 (by kernel_rfl) (by kernel_rfl) (by kernel_rfl) (e := Extern.MathFloatBits.float64bits) (by kernel_rfl)]; rfl
theorem e52 (n : Int) (w : World) : (callFunc 52 #[.int .u32 n]).run Try.prog w = .ok (.value (.float .f32 n.toNat)) w := by
  rw [run_callFunc_extern Try.func52 (by kernel_rfl) (by kernel_rfl) (by kernel_rfl) (e := Extern.MathFloatBits.float32frombits) (by kernel_rfl)]; rfl
theorem e53 (n : Int) (w : World) : (callFunc 53 #[.int .u64 n]).run Try.prog w = .ok (.value (.float .f64 n.toNat)) w := by
  rw [run_callFunc_extern Try.func53 (by kernel_rfl) (by kernel_rfl) (by kernel_rfl) (e := Extern.MathFloatBits.float64frombits) (by kernel_rfl)]; rfl

theorem F64_calls (a : Int) (w : World) : Calls Try.prog 38 #[.int .u64 a] w fun e w' => e = .returned (.float .f64 a.toNat) ∧ Drawn0 w w' := by
  have E := e53
  go_enter Try.func38, Try.ntmps38
  go_wp2
  go_ret
  exact ⟨rfl, Drawn0.refl _⟩
theorem F32_calls (a : Int) (w : World) : Calls Try.prog 37 #[.int .u64 a] w fun e w' => e = .returned (.float .f32 (a % 4294967296).toNat) ∧ Drawn0 w w' := by
  have E := e52
  go_enter Try.func37, Try.ntmps37
  go_wp2
  go_ret
  exact ⟨by first | rfl | simp [IntKind.wrap_u32], Drawn0.refl _⟩
/-- B32 of a float that is no NaN. -/
theorem B32_calls (b : Nat) (w : World) (h : (FloatKind.f32.format.order b b != some .eq) = false) : Calls Try.prog 35 #[.float .f32 b] w fun e w' => e = .returned (.int .u64 (IntKind.u64.wrap (b : Int))) ∧ Drawn0 w w' := by
  have E := e50
  go_enter Try.func35, Try.ntmps35
  go_wp2
  go_ret
  exact ⟨by first | rfl | simp, Drawn0.refl _⟩
theorem B64_calls (b : Nat) (w : World) (h : (FloatKind.f64.format.order b b != some .eq) = false) : Calls Try.prog 36 #[.float .f64 b] w fun e w' => e = .returned (.int .u64 (b : Int)) ∧ Drawn0 w w' := by
  have E := e51
  go_enter Try.func36, Try.ntmps36
  go_wp2
  go_ret
  exact ⟨by first | rfl | simp, Drawn0.refl _⟩
end Go.Proofs.Ytjolaegjdfajbaa.Fl
