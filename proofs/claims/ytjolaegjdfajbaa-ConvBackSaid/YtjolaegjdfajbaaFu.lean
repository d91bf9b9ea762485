/- The reference's truncation of a float (bodkinref04.Trunc), walked whole: what it answers at every float. -/
import Derived.Test.YtjolaegjdfajbaaFt
namespace Go.Proofs.Ytjolaegjdfajbaa.Fl
open Go.RowKit Go.Proofs.YtjolaegjdfajbaaW.PrintWords Go.Proofs.YtjolaegjdfajbaaW.PrintLast Go.Proofs.YtjolaegjdfajbaaW.PrintMore
open Ieee (Datum)
set_option linter.unusedVariables false
set_option linter.unusedSimpArgs false

/-- The words of the bounds: the half, the least, the first one that is too great. -/
def halfW (tt : Int) : Nat := if tt = 64 then 4890909195324358656 else 4746794007248502784
def leastW (tt : Int) (signed : Bool) : Nat := if signed = true then (if tt = 64 then 14114281232179134464 else 13970166044103278592) else 0
def mostW (tt : Int) (signed : Bool) : Nat := if signed = true then halfW tt else (if tt = 64 then 4895412794951729152 else 4751297606875873280)
def leastI (tt : Int) (signed : Bool) : Int := if signed = true then (if tt = 64 then -9223372036854775808 else -2147483648) else 0
def mostI (tt : Int) (signed : Bool) : Int := if signed = true then (if tt = 64 then 9223372036854775808 else 2147483648) else (if tt = 64 then 18446744073709551616 else 4294967296)

theorem num_c63 : NumInt 4890909195324358656 9223372036854775808 := ⟨false, 4503599627370496, 11, by decide +kernel, 9223372036854775808, by decide, .inl ⟨by decide, by decide +kernel⟩⟩
theorem num_c31 : NumInt 4746794007248502784 2147483648 := ⟨false, 4503599627370496, -21, by decide +kernel, 2147483648, by decide, .inr ⟨by decide, by decide +kernel⟩⟩
theorem num_c64 : NumInt 4895412794951729152 18446744073709551616 := ⟨false, 4503599627370496, 12, by decide +kernel, 18446744073709551616, by decide, .inl ⟨by decide, by decide +kernel⟩⟩
theorem num_c32 : NumInt 4751297606875873280 4294967296 := ⟨false, 4503599627370496, -20, by decide +kernel, 4294967296, by decide, .inr ⟨by decide, by decide +kernel⟩⟩
theorem num_n63 : NumInt 14114281232179134464 (-9223372036854775808) := ⟨true, 4503599627370496, 11, by decide +kernel, 9223372036854775808, by decide, .inl ⟨by decide, by decide +kernel⟩⟩
theorem num_n31 : NumInt 13970166044103278592 (-2147483648) := ⟨true, 4503599627370496, -21, by decide +kernel, 2147483648, by decide, .inr ⟨by decide, by decide +kernel⟩⟩
theorem num_0 : NumInt 0 0 := ⟨false, 0, -1074, read_zero, 0, by decide, .inr ⟨by decide, (Nat.zero_mul _).symm⟩⟩
def T2 (tt : Int) : Prop := tt = 32 ∨ tt = 64
theorem num_least {tt : Int} (h : T2 tt) (signed : Bool) : NumInt (leastW tt signed) (leastI tt signed) := by
  rcases h with rfl | rfl <;> cases signed
  · exact num_0
  · exact num_n31
  · exact num_0
  · exact num_n63
theorem num_most {tt : Int} (h : T2 tt) (signed : Bool) : NumInt (mostW tt signed) (mostI tt signed) := by
  rcases h with rfl | rfl <;> cases signed
  · exact num_c32
  · exact num_c31
  · exact num_c64
  · exact num_c63

theorem cmp_lt (v n : Int) : ((some (compare v n) : Option Ordering) == some .lt) = decide (v < n) := by
  show ((some (if v < n then Ordering.lt else if v = n then .eq else .gt) : Option Ordering) == some .lt) = _
  by_cases h : v < n
  · rw [if_pos h, decide_eq_true h]; rfl
  · rw [if_neg h, decide_eq_false h]; split <;> rfl
theorem cmp_ge (v n : Int) : (((some (compare v n) : Option Ordering) == some .gt) || ((some (compare v n) : Option Ordering) == some .eq)) = decide (n ≤ v) := by
  show (((some (if v < n then Ordering.lt else if v = n then .eq else .gt) : Option Ordering) == some .gt) || ((some (if v < n then Ordering.lt else if v = n then .eq else .gt) : Option Ordering) == some .eq)) = _
  by_cases h : v < n
  · rw [if_pos h, decide_eq_false (by omega)]; rfl
  · rw [if_neg h, decide_eq_true (by omega)]; split <;> rfl
theorem inf_lt {b c : Nat} {s : Bool} {n : Int} (h : Ieee.double.read b = .infinity s) (hc : NumInt c n) : (FloatKind.f64.format.order b c == some .lt) = s := by
  obtain ⟨t, m, e, hr, _⟩ := hc
  show (Datum.order (Ieee.double.read b) (Ieee.double.read c) == some .lt) = s
  rw [h, hr]
  cases s <;> rfl
theorem inf_ge {b c : Nat} {s : Bool} {n : Int} (h : Ieee.double.read b = .infinity s) (hc : NumInt c n) : (FloatKind.f64.format.order b c == some .gt || FloatKind.f64.format.order b c == some .eq) = !s := by
  obtain ⟨t, m, e, hr, _⟩ := hc
  show (Datum.order (Ieee.double.read b) (Ieee.double.read c) == some .gt || Datum.order (Ieee.double.read b) (Ieee.double.read c) == some .eq) = !s
  rw [h, hr]
  cases s <;> rfl
theorem truncW_inf {b : Nat} {s : Bool} (h : Ieee.double.read b = .infinity s) : Ieee.double.read (truncW b) = .infinity s := by
  unfold truncW
  rw [h]
  exact read_inf Ieee.double (by decide +kernel) s

theorem mul_c (tt : Int) (h : T2 tt) (W : World) : (binOp .mul 37 (.float .f64 4611686018427387904) (.float .f64 (halfW tt))).run Try.prog W = .ok (.float .f64 (mostW tt false)) W := by
  refine run_float_arith W .mul 37 .f64 _ _ _ ?_
  rcases h with rfl | rfl <;> decide +kernel
theorem neg_c (tt : Int) (h : T2 tt) (W : World) : (Op.unary .neg (.float .f64 (halfW tt))).run Try.prog W = .ok (.float .f64 (leastW tt true)) W := by
  rcases h with rfl | rfl <;> kernel_rfl
/-- What is known of a call of Cut. -/
def CutIs (tt x c : Int) : Prop := ∀ W : World, Calls Try.prog 33 #[.int .i64 tt, .int .u64 x] W fun e w' => e = .returned (.int .u64 c) ∧ Drawn0 W w'

/-- A number's float, cut towards 0, is the cut number. -/
theorem cut_int {s : Bool} {m : Nat} {e : Int} {b : Nat} (h : VP (.number s m e) b) : (Ieee.double.read b).isNaN = false ∧ (FloatKind.f64.format.order b b != some .eq) = false ∧ NumInt (truncW b) (if s = true then -((TV m e : Nat) : Int) else ((TV m e : Nat) : Int)) := by
  obtain ⟨t, m2, e2, hr, h2, h3⟩ := h
  refine ⟨by rw [hr]; rfl, ord_self_number hr, ?_⟩
  have := truncW_int hr
  have e1 : TV m2 e2 = TV m e := by
    rcases h3 with h3 | h3
    · subst h3
      have : m2 = 0 := by rw [h2, Nat.zero_mul]
      subst this
      unfold TV
      simp
    · rw [h2, h3, TV_scale]
  rw [e1] at this
  exact this
/-- What is known of the cut float: how it stands to the bounds, and its integer. -/
structure Facts (tt : Int) (signed : Bool) (b : Nat) (v : Int) : Prop where
  lt : (FloatKind.f64.format.order b (leastW tt signed) == some .lt) = decide (v < leastI tt signed)
  ge : (FloatKind.f64.format.order b (mostW tt signed) == some .gt || FloatKind.f64.format.order b (mostW tt signed) == some .eq) = decide (mostI tt signed ≤ v)
  neg : (FloatKind.f64.format.order b 0 == some .lt) = decide (v < 0)
  big : (FloatKind.f64.format.order b 4890909195324358656 == some .gt || FloatKind.f64.format.order b 4890909195324358656 == some .eq) = decide (9223372036854775808 ≤ v)
  num : NumInt b v
theorem facts_of {tt : Int} (h : T2 tt) (signed : Bool) {b : Nat} {v : Int} (hb : NumInt b v) : Facts tt signed b v := by
  refine ⟨?_, ?_, ?_, ?_, hb⟩
  · rw [order_int hb (num_least h signed), cmp_lt]
  · rw [order_int hb (num_most h signed), cmp_ge]
  · rw [order_int hb num_0, cmp_lt]
  · rw [order_int hb num_c63, cmp_ge]
theorem run_int {b : Nat} {v : Int} (h : NumInt b v) (h0 : -9223372036854775808 ≤ v) (h1 : v < 9223372036854775808) (W : World) : (convert 37 2 (.float .f64 b)).run Try.prog W = .ok (.int .i64 v) W :=
  run_convert_float_int W 37 2 .f64 .i64 b v (by kernel_rfl) Try.underlying2 (intVal h h0 h1)

set_option maxHeartbeats 4000000 in
/-- A negative number that is held. -/
theorem in_neg (n tt : Int) (sat : Bool) (a : Int) (w : World) (hn : n = 32 ∨ n = 64) (ht : T2 tt) {s : Bool} {m : Nat} {e : Int} (hd : rdn n a = .number s m e) (v : Int)
    (hv : (if s = true then -((TV m e : Nat) : Int) else ((TV m e : Nat) : Int)) = v) (h0 : leastI tt true ≤ v) (hneg : v < 0) (c : Int) (hc : CutIs tt (IntKind.u64.wrap v) c) :
    Calls Try.prog 18 #[.int .i64 n, .int .i64 tt, .bool true, .bool sat, .int .u64 a] w fun e w' => e = .returned (.tuple #[.int .u64 c, .int .i64 0]) ∧ Drawn0 w w' := by
  have HC := Aside0.mk (value_calls39 n a)
  have H := Aside0.mk hd
  have HV := Aside0.mk hv
  have HCut := Aside0.mk hc
  have hlow : -9223372036854775808 ≤ v ∧ leastI tt true ≤ v ∧ v < mostI tt true := by
    rcases ht with rfl | rfl <;> simp only [leastI, mostI, if_true] at h0 ⊢ <;> simp at h0 ⊢ <;> omega
  have HF := Aside0.mk (fun (b : Nat) (hb : NumInt b v) => facts_of ht true hb)
  have HL := Aside0.mk hlow
  have HN := Aside0.mk hneg
  have M := mul_c tt ht
  have N := neg_c tt ht
  clear hd hv hc h0 hneg hlow
  rcases ht with rfl | rfl <;> rcases hn with rfl | rfl
  all_goals
    simp only [halfW, mostW, leastW, if_true, Bool.false_eq_true, if_false, show ((32 : Int) = 64) = False by decide] at M N
    go_enter Try.func18, Try.ntmps18
    go_wp2_with fail
    refine (HC.out _ (by decide)).mono ?_
    rintro e w' ⟨⟨b, rfl, hb⟩, ⟨nd, rfl⟩⟩
    rw [H.out] at hb
    obtain ⟨hN, f1, hI⟩ := cut_int hb
    rw [HV.out] at hI
    have HNN := Aside0.mk hN
    have HI := Aside0.mk hI
    clear hb hN hI
    go_wp2_with fail
    refine (Trunc_calls40 b HNN.out _).mono ?_
    rintro e w' ⟨rfl, ⟨nd2, rfl⟩⟩
    clear f1
    generalize truncW b = b' at *
    have F := HF.out b' HI.out
    obtain ⟨F1, F2, F3, F4, _⟩ := F
    rw [decide_eq_false (by have := HL.out; omega)] at F1
    rw [decide_eq_false (by have := HL.out; omega)] at F2
    rw [decide_eq_true HN.out] at F3
    rw [decide_eq_false (by have := HN.out; omega)] at F4
    have R := run_int HI.out HL.out.1 (by have := HN.out; omega)
    simp only [halfW, mostW, leastW, if_true, Bool.false_eq_true, if_false, show ((32 : Int) = 64) = False by decide] at F1 F2
    go_wp2_with (go_at_call 33; refine (HCut.out _).mono ?_; rintro e w' ⟨rfl, ⟨nd3, rfl⟩⟩)
    go_ret2
    exact ⟨rfl, by repeat (first | exact Drawn0.refl _ | apply Drawn0.step)⟩
end Go.Proofs.Ytjolaegjdfajbaa.Fl
