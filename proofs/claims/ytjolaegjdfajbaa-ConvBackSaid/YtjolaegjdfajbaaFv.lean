/- The reference's truncation of a float (bodkinref04.Trunc), walked: held, not held, no number, no such size. -/
import Derived.Test.YtjolaegjdfajbaaFu
namespace Go.Proofs.Ytjolaegjdfajbaa.Fl
open Go.RowKit Go.Proofs.YtjolaegjdfajbaaW.PrintWords Go.Proofs.YtjolaegjdfajbaaW.PrintLast Go.Proofs.YtjolaegjdfajbaaW.PrintMore
open Ieee (Datum)
set_option linter.unusedVariables false
set_option linter.unusedSimpArgs false

set_option maxHeartbeats 4000000 in
/-- A number that is no less than 0, below 2^63, and held. -/
theorem in_mid (n tt : Int) (signed sat : Bool) (a : Int) (w : World) (hn : n = 32 ∨ n = 64) (ht : T2 tt) {s : Bool} {m : Nat} {e : Int} (hd : rdn n a = .number s m e) (v : Int)
    (hv : (if s = true then -((TV m e : Nat) : Int) else ((TV m e : Nat) : Int)) = v) (h0 : 0 ≤ v) (h1 : v < mostI tt signed) (h2 : v < 9223372036854775808) :
    Calls Try.prog 18 #[.int .i64 n, .int .i64 tt, .bool signed, .bool sat, .int .u64 a] w fun e w' => e = .returned (.tuple #[.int .u64 v, .int .i64 0]) ∧ Drawn0 w w' := by
  have HC := Aside0.mk (value_calls39 n a)
  have H := Aside0.mk hd
  have HV := Aside0.mk hv
  have hle : leastI tt signed ≤ v := by
    have : leastI tt signed ≤ 0 := by rcases ht with rfl | rfl <;> cases signed <;> decide
    omega
  have HF := Aside0.mk (fun (b : Nat) (hb : NumInt b v) => facts_of ht signed hb)
  have HL := Aside0.mk (And.intro h0 (And.intro h1 (And.intro h2 hle)))
  have M := mul_c tt ht
  have N := neg_c tt ht
  have wv : IntKind.u64.wrap v = v := by rw [IntKind.wrap_u64]; omega
  have WV := Aside0.mk wv
  clear hd hv h0 h1 h2 hle wv
  rcases ht with rfl | rfl <;> cases signed <;> rcases hn with rfl | rfl
  all_goals
    simp only [halfW, mostW, leastW, if_true, Bool.false_eq_true, if_false, show ((32 : Int) = 64) = False by decide] at M N
    go_enter Try.func18, Try.ntmps18
    go_wp2_with fail
    refine (HC.out _ (by decide)).mono ?_
    rintro e w' ⟨⟨b, rfl, hb⟩, ⟨nd, rfl⟩⟩
    rw [H.out] at hb
    obtain ⟨hN, f1, hI⟩ := cut_int hb
    rw [HV.out] at hI
    have HNN := Aside0.mk hN
    have HI := Aside0.mk hI
    clear hb hN hI
    go_wp2_with fail
    refine (Trunc_calls40 b HNN.out _).mono ?_
    rintro e w' ⟨rfl, ⟨nd2, rfl⟩⟩
    clear f1
    generalize truncW b = b' at *
    have F := HF.out b' HI.out
    obtain ⟨F1, F2, F3, F4, _⟩ := F
    rw [decide_eq_false (by have := HL.out; omega)] at F1
    rw [decide_eq_false (by have := HL.out; omega)] at F2
    rw [decide_eq_false (by have := HL.out; omega)] at F3
    rw [decide_eq_false (by have := HL.out; omega)] at F4
    have R := run_int HI.out (by have := HL.out; omega) HL.out.2.2.1
    simp only [halfW, mostW, leastW, if_true, Bool.false_eq_true, if_false, show ((32 : Int) = 64) = False by decide] at F1 F2
    go_wp2
    go_ret2
    exact ⟨by first | rfl | (rw [WV.out]; done) | (rw [WV.out]; rfl), by repeat (first | exact Drawn0.refl _ | apply Drawn0.step)⟩

set_option maxHeartbeats 4000000 in
/-- A number from 2^63 on that is held. -/
theorem in_big (n : Int) (sat : Bool) (a : Int) (w : World) (hn : n = 32 ∨ n = 64) {s : Bool} {m : Nat} {e : Int} (hd : rdn n a = .number s m e) (v : Int)
    (hv : (if s = true then -((TV m e : Nat) : Int) else ((TV m e : Nat) : Int)) = v) (h0 : 9223372036854775808 ≤ v) (h1 : v < 18446744073709551616) :
    Calls Try.prog 18 #[.int .i64 n, .int .i64 64, .bool false, .bool sat, .int .u64 a] w fun e w' => e = .returned (.tuple #[.int .u64 v, .int .i64 0]) ∧ Drawn0 w w' := by
  have HC := Aside0.mk (value_calls39 n a)
  have H := Aside0.mk hd
  have HV := Aside0.mk hv
  have ht : T2 64 := .inr rfl
  have HF := Aside0.mk (fun (b : Nat) (hb : NumInt b v) => facts_of ht false hb)
  have HL := Aside0.mk (And.intro h0 h1)
  have M := mul_c 64 ht
  have wv : IntKind.u64.wrap (IntKind.u64.wrap (v - 9223372036854775808) + 9223372036854775808) = v := by rw [IntKind.wrap_u64, IntKind.wrap_u64]; omega
  have WV := Aside0.mk wv
  clear hd hv h0 h1 wv ht
  rcases hn with rfl | rfl
  all_goals
    simp only [halfW, mostW, leastW, if_true, Bool.false_eq_true, if_false, show ((32 : Int) = 64) = False by decide] at M
    go_enter Try.func18, Try.ntmps18
    go_wp2_with fail
    refine (HC.out _ (by decide)).mono ?_
    rintro e w' ⟨⟨b, rfl, hb⟩, ⟨nd, rfl⟩⟩
    rw [H.out] at hb
    obtain ⟨hN, f1, hI⟩ := cut_int hb
    rw [HV.out] at hI
    have HNN := Aside0.mk hN
    have HI := Aside0.mk hI
    clear hb hN hI
    go_wp2_with fail
    refine (Trunc_calls40 b HNN.out _).mono ?_
    rintro e w' ⟨rfl, ⟨nd2, rfl⟩⟩
    clear f1
    generalize truncW b = b' at *
    have F := HF.out b' HI.out
    obtain ⟨F1, F2, F3, F4, _⟩ := F
    rw [decide_eq_false (by have := HL.out; show ¬ v < 0; omega)] at F1
    rw [decide_eq_false (by have := HL.out; show ¬ (18446744073709551616 : Int) ≤ v; omega)] at F2
    rw [decide_eq_false (by have := HL.out; omega)] at F3
    rw [decide_eq_true HL.out.1] at F4
    obtain ⟨hs, hl⟩ := lessW_int HI.out HL.out.1 HL.out.2
    have S : ∀ W : World, (binOp .sub 37 (.float .f64 b') (.float .f64 4890909195324358656)).run Try.prog W = .ok (.float .f64 (lessW b')) W := fun W => run_float_arith W .sub 37 .f64 _ _ _ hs
    have R := run_int hl (by have := HL.out; omega) (by have := HL.out; omega)
    clear hs hl
    simp only [halfW, mostW, leastW, if_true, Bool.false_eq_true, if_false, show ((32 : Int) = 64) = False by decide] at F1 F2
    go_wp2
    go_ret2
    exact ⟨by first | rfl | (rw [WV.out]; done) | (rw [WV.out]; rfl), by repeat (first | exact Drawn0.refl _ | apply Drawn0.step)⟩

/-- What a float that is not held comes to: below the least, or from the most on. -/
def OutAt (tt : Int) (signed below : Bool) (b : Nat) : Prop :=
  (Ieee.double.read b).isNaN = false ∧ (FloatKind.f64.format.order b b != some .eq) = false ∧
  (FloatKind.f64.format.order (truncW b) (leastW tt signed) == some .lt) = below ∧
  (below = false → (FloatKind.f64.format.order (truncW b) (mostW tt signed) == some .gt || FloatKind.f64.format.order (truncW b) (mostW tt signed) == some .eq) = true)
set_option maxHeartbeats 4000000 in
theorem out_trap (n tt : Int) (signed below : Bool) (a : Int) (w : World) (hn : n = 32 ∨ n = 64) (ht : T2 tt) (ho : ∀ b, VP (rdn n a) b → OutAt tt signed below b) :
    Calls Try.prog 18 #[.int .i64 n, .int .i64 tt, .bool signed, .bool false, .int .u64 a] w fun e w' => e = .returned (.tuple #[.int .u64 0, .int .i64 42]) ∧ Drawn0 w w' := by
  have HC := Aside0.mk (value_calls39 n a)
  have HO := Aside0.mk ho
  have M := mul_c tt ht
  have N := neg_c tt ht
  clear ho
  rcases ht with rfl | rfl <;> cases signed <;> rcases hn with rfl | rfl <;> cases below
  all_goals
    simp only [halfW, mostW, leastW, if_true, Bool.false_eq_true, if_false, show ((32 : Int) = 64) = False by decide] at M N
    go_enter Try.func18, Try.ntmps18
    go_wp2_with fail
    refine (HC.out _ (by decide)).mono ?_
    rintro e w' ⟨⟨b, rfl, hb⟩, ⟨nd, rfl⟩⟩
    obtain ⟨hN, f1, F1, F2⟩ := HO.out b hb
    have HNN := Aside0.mk hN
    have HF1 := Aside0.mk F1
    have HF2 := Aside0.mk F2
    clear hb hN F1 F2
    go_wp2_with fail
    refine (Trunc_calls40 b HNN.out _).mono ?_
    rintro e w' ⟨rfl, ⟨nd2, rfl⟩⟩
    clear f1
    generalize truncW b = b' at *
    have F1 := HF1.out
    have F2 := HF2.out
    simp only [halfW, mostW, leastW, if_true, Bool.false_eq_true, if_false, show ((32 : Int) = 64) = False by decide, forall_const, true_implies, false_implies, reduceCtorEq] at F1 F2
    go_wp2
    go_ret2
    exact ⟨rfl, by repeat (first | exact Drawn0.refl _ | apply Drawn0.step)⟩
/-- The end that it is held to. -/
def endOf (signed below : Bool) (en : Int) : Int :=
  if below = true then (if signed = true then IntKind.u64.wrap (IntKind.u64.wrap (Int.tdiv en 2) + 1) else 0) else (if signed = true then IntKind.u64.wrap (Int.tdiv en 2) else en)
set_option maxHeartbeats 8000000 in
theorem out_sat (n tt : Int) (signed below : Bool) (a : Int) (w : World) (hn : n = 32 ∨ n = 64) (ht : T2 tt) (ho : ∀ b, VP (rdn n a) b → OutAt tt signed below b) (en : Int) (hc : CutIs tt 18446744073709551615 en) :
    Calls Try.prog 18 #[.int .i64 n, .int .i64 tt, .bool signed, .bool true, .int .u64 a] w fun e w' => e = .returned (.tuple #[.int .u64 (endOf signed below en), .int .i64 0]) ∧ Drawn0 w w' := by
  have HC := Aside0.mk (value_calls39 n a)
  have HO := Aside0.mk ho
  have HCut := Aside0.mk hc
  have M := mul_c tt ht
  have N := neg_c tt ht
  clear ho hc
  rcases ht with rfl | rfl <;> cases signed <;> rcases hn with rfl | rfl <;> cases below
  all_goals
    simp only [halfW, mostW, leastW, if_true, Bool.false_eq_true, if_false, show ((32 : Int) = 64) = False by decide] at M N
    go_enter Try.func18, Try.ntmps18
    go_wp2_with fail
    refine (HC.out _ (by decide)).mono ?_
    rintro e w' ⟨⟨b, rfl, hb⟩, ⟨nd, rfl⟩⟩
    obtain ⟨hN, f1, F1, F2⟩ := HO.out b hb
    have HNN := Aside0.mk hN
    have HF1 := Aside0.mk F1
    have HF2 := Aside0.mk F2
    clear hb hN F1 F2
    go_wp2_with fail
    refine (Trunc_calls40 b HNN.out _).mono ?_
    rintro e w' ⟨rfl, ⟨nd2, rfl⟩⟩
    clear f1
    generalize truncW b = b' at *
    have F1 := HF1.out
    have F2 := HF2.out
    simp only [halfW, mostW, leastW, if_true, Bool.false_eq_true, if_false, show ((32 : Int) = 64) = False by decide, forall_const, true_implies, false_implies, reduceCtorEq] at F1 F2
    go_wp2_with (go_at_call 33; refine (HCut.out _).mono ?_; rintro e w' ⟨rfl, ⟨nd3, rfl⟩⟩)
    go_ret2
    exact ⟨rfl, by repeat (first | exact Drawn0.refl _ | apply Drawn0.step)⟩

set_option maxHeartbeats 4000000 in
theorem nan_case (n tt : Int) (signed sat : Bool) (a : Int) (w : World) (hn : n = 32 ∨ n = 64) (ht : T2 tt) {s : Bool} {t : Nat} (hd : rdn n a = .nan s t) :
    Calls Try.prog 18 #[.int .i64 n, .int .i64 tt, .bool signed, .bool sat, .int .u64 a] w fun e w' => e = .returned (.tuple #[.int .u64 0, .int .i64 (if sat = true then 0 else 43)]) ∧ Drawn0 w w' := by
  have HC := Aside0.mk (value_calls39 n a)
  have H := Aside0.mk hd
  clear hd
  rcases ht with rfl | rfl <;> rcases hn with rfl | rfl <;> cases sat
  all_goals
    go_enter Try.func18, Try.ntmps18
    go_wp2_with fail
    refine (HC.out _ (by decide)).mono ?_
    rintro e w' ⟨⟨b, rfl, hb⟩, ⟨nd, rfl⟩⟩
    rw [H.out] at hb
    have f1 : (FloatKind.f64.format.order b b != some .eq) = true := by rw [order_nan hb]; rfl
    clear hb
    go_wp2
    go_ret2
    exact ⟨rfl, by repeat (first | exact Drawn0.refl _ | apply Drawn0.step)⟩
theorem bad_size (n tt : Int) (signed sat : Bool) (a : Int) (w : World) (hb : ¬ ((n = 32 ∨ n = 64) ∧ (tt = 32 ∨ tt = 64))) :
    Calls Try.prog 18 #[.int .i64 n, .int .i64 tt, .bool signed, .bool sat, .int .u64 a] w fun e w' => e = .returned (.tuple #[.int .u64 0, .int .i64 1]) ∧ Drawn0 w w' := by
  by_cases h1 : n = 32
  · subst h1
    have g1 : (tt == 32) = false := beq_eq_false_iff_ne.mpr (by omega)
    have g2 : (tt != 32) = true := bne_iff_ne.mpr (by omega)
    have g3 : (tt != 64) = true := bne_iff_ne.mpr (by omega)
    clear hb
    go_enter Try.func18, Try.ntmps18
    go_wp2
    go_ret2
    exact ⟨rfl, by repeat (first | exact Drawn0.refl _ | apply Drawn0.step)⟩
  · by_cases h2 : n = 64
    · subst h2
      have g1 : (tt == 32) = false := beq_eq_false_iff_ne.mpr (by omega)
      have g2 : (tt != 32) = true := bne_iff_ne.mpr (by omega)
      have g3 : (tt != 64) = true := bne_iff_ne.mpr (by omega)
      clear hb h1
      go_enter Try.func18, Try.ntmps18
      go_wp2
      go_ret2
      exact ⟨rfl, by repeat (first | exact Drawn0.refl _ | apply Drawn0.step)⟩
    · have g2 : (n != 32) = true := bne_iff_ne.mpr h1
      have g3 : (n != 64) = true := bne_iff_ne.mpr h2
      clear hb h1 h2
      go_enter Try.func18, Try.ntmps18
      go_wp2
      go_ret2
      exact ⟨rfl, by repeat (first | exact Drawn0.refl _ | apply Drawn0.step)⟩
end Go.Proofs.Ytjolaegjdfajbaa.Fl
