/- Ytjolaegjdfajbaa: Go functions as plain Lean functions, and that the calls come to them; written by a program of this session (wip/tools/mkprint.py). -/
import Derived.Test.YtjolaegjdfajbaaPAx0
import Derived.Test.YtjolaegjdfajbaaPAx6
import Derived.Test.YtjolaegjdfajbaaPAx7
namespace Go.Proofs.Ytjolaegjdfajbaa.PA
open Go.RowKit Go.Proofs.YtjolaegjdfajbaaW.PrintWords Go.Proofs.YtjolaegjdfajbaaW.PrintLast Go.Proofs.YtjolaegjdfajbaaW.PrintMore
attribute [local go_sem] max2_int min2_int max_two min_two max_three min_three max_four min_four   -- for this text's walks alone
set_option linter.unusedVariables false
set_option linter.unusedSimpArgs false

/-! ### bodkinref02_Signed: function 34 -/
def bodkinref02_Signed.f (k : Nat) (a0 : Int) (a1 : Int) : Option (Int) := (bodkinref02_Right.f a0).bind fun t211 => (if t211 = true then ((bodkinref02_Cut.f k a0 a1).bind fun t212 => ((bodkinref02_bit.f k t212 (wrap64 (a0 - 1))).bind fun t213 => (if t213 = 1 then ((bodkinref02_Cut.f k a0 (IntKind.u64.wrap (-t212))).bind fun t214 => (some (wrap64 ((wrap64 (-(wrap64 (IntKind.u64.wrap (t214 - 1))))) - 1)))) else (some (wrap64 (t212)))))) else (some 0))
theorem bodkinref02_Signed.mono : ∀ a0 a1 k, LeO (bodkinref02_Signed.f k a0 a1) (bodkinref02_Signed.f (k + 1) a0 a1) := by
  intro a0 a1 k
  unfold bodkinref02_Signed.f
  repeat' first
      | (with_reducible exact bodkinref02_Cut.mono _ _ _)
      | (with_reducible exact bodkinref02_bit.mono _ _ _)
      | (with_reducible exact LeO.refl _)
      | (with_reducible exact LeO.none _)
      | (with_reducible refine LeO.ite ?_ ?_)
      | (with_reducible refine LeO.bind ?_ (fun _ => ?_))
      | exact bodkinref02_Cut.mono _ _ _
      | exact bodkinref02_bit.mono _ _ _
      | exact LeO.none _
      | refine LeO.ite ?_ ?_
      | refine LeO.bind ?_ (fun _ => ?_)
set_option maxHeartbeats 8000000 in
set_option maxRecDepth 100000 in
theorem bodkinref02_Signed.calls (k : Nat) (a0 : Int) (a1 : Int) (r : Int) (w : World) (h : bodkinref02_Signed.f k a0 a1 = some r) :
    Calls Try.prog 34 #[.int .i64 a0, .int .u64 a1] w fun e w' => e = .returned (.int .i64 r) ∧ Drawn0 w w' := by
  have H : ((bodkinref02_Right.f a0).bind fun t211 => (if t211 = true then ((bodkinref02_Cut.f k a0 a1).bind fun t212 => ((bodkinref02_bit.f k t212 (wrap64 (a0 - 1))).bind fun t213 => (if t213 = 1 then ((bodkinref02_Cut.f k a0 (IntKind.u64.wrap (-t212))).bind fun t214 => (some (wrap64 ((wrap64 (-(wrap64 (IntKind.u64.wrap (t214 - 1))))) - 1)))) else (some (wrap64 (t212)))))) else (some 0))) = some r := h
  clear h
  replace H := Option.bind_eq_some_iff.mp H
  obtain ⟨t211, A30, H⟩ := H
  replace H : (if t211 = true then ((bodkinref02_Cut.f k a0 a1).bind fun t212 => ((bodkinref02_bit.f k t212 (wrap64 (a0 - 1))).bind fun t213 => (if t213 = 1 then ((bodkinref02_Cut.f k a0 (IntKind.u64.wrap (-t212))).bind fun t214 => (some (wrap64 ((wrap64 (-(wrap64 (IntKind.u64.wrap (t214 - 1))))) - 1)))) else (some (wrap64 (t212)))))) else (some 0)) = some r := H
  have A3 := Aside0.mk A30
  clear A30
  by_cases c4 : t211 = true
  · subst c4
    have H1 : ((bodkinref02_Cut.f k a0 a1).bind fun t212 => ((bodkinref02_bit.f k t212 (wrap64 (a0 - 1))).bind fun t213 => (if t213 = 1 then ((bodkinref02_Cut.f k a0 (IntKind.u64.wrap (-t212))).bind fun t214 => (some (wrap64 ((wrap64 (-(wrap64 (IntKind.u64.wrap (t214 - 1))))) - 1)))) else (some (wrap64 (t212)))))) = some r := by rw [if_pos rfl] at H; exact H
    clear H
    have H := H1
    clear H1
    replace H := Option.bind_eq_some_iff.mp H
    obtain ⟨t212, A50, H⟩ := H
    replace H : ((bodkinref02_bit.f k t212 (wrap64 (a0 - 1))).bind fun t213 => (if t213 = 1 then ((bodkinref02_Cut.f k a0 (IntKind.u64.wrap (-t212))).bind fun t214 => (some (wrap64 ((wrap64 (-(wrap64 (IntKind.u64.wrap (t214 - 1))))) - 1)))) else (some (wrap64 (t212))))) = some r := H
    have A5 := Aside0.mk A50
    clear A50
    replace H := Option.bind_eq_some_iff.mp H
    obtain ⟨t213, A60, H⟩ := H
    replace H : (if t213 = 1 then ((bodkinref02_Cut.f k a0 (IntKind.u64.wrap (-t212))).bind fun t214 => (some (wrap64 ((wrap64 (-(wrap64 (IntKind.u64.wrap (t214 - 1))))) - 1)))) else (some (wrap64 (t212)))) = some r := H
    have A6 := Aside0.mk A60
    clear A60
    by_cases c7 : t213 = 1
    · rw [if_pos c7] at H
      have c7b0 : (t213 == 1) = true := beq_iff_eq.mpr c7
      have c7b1 : (t213 != 1) = false := bne_eq_false_iff_eq.mpr c7
      clear c7
      replace H := Option.bind_eq_some_iff.mp H
      obtain ⟨t214, A80, H⟩ := H
      replace H : (some (wrap64 ((wrap64 (-(wrap64 (IntKind.u64.wrap (t214 - 1))))) - 1))) = some r := H
      have A8 := Aside0.mk A80
      clear A80
      obtain rfl := Option.some.inj H
      go_enter Try.func34, Try.ntmps34
      go_wp2_with (first | ((with_reducible refine gate_callee (f := 47) rfl ?_); refine goesL_ (some 8) rfl rfl Try.func47 (by kernel_rfl) rfl #[.int .i64 a0] rfl (by (try simp only [List.map_toArray, List.map_cons, List.map_nil]); first | done | rfl | (simp only [List.length_drop, List.length_take]; rfl)) ?_; (with_reducible refine (bodkinref02_Right.calls a0 true _ A3.out).mono ?_); rintro e w' ⟨rfl, ⟨nd, rfl⟩⟩; refine ⟨_, rfl, ?_⟩) | ((with_reducible refine gate_callee (f := 33) rfl ?_); refine goesL_ (some 13) rfl rfl Try.func33 (by kernel_rfl) rfl #[.int .i64 a0, .int .u64 a1] rfl (by (try simp only [List.map_toArray, List.map_cons, List.map_nil]); first | done | rfl | (simp only [List.length_drop, List.length_take]; rfl)) ?_; (with_reducible refine (bodkinref02_Cut.calls k a0 a1 t212 _ A5.out).mono ?_); rintro e w' ⟨rfl, ⟨nd, rfl⟩⟩; refine ⟨_, rfl, ?_⟩) | ((with_reducible refine gate_callee (f := 48) rfl ?_); refine goesL_ (some 17) rfl rfl Try.func48 (by kernel_rfl) rfl #[.int .u64 t212, .int .i64 (wrap64 (a0 - 1))] rfl (by (try simp only [List.map_toArray, List.map_cons, List.map_nil]); first | done | rfl | (simp only [List.length_drop, List.length_take]; rfl)) ?_; (with_reducible refine (bodkinref02_bit.calls k t212 (wrap64 (a0 - 1)) t213 _ A6.out).mono ?_); rintro e w' ⟨rfl, ⟨nd, rfl⟩⟩; refine ⟨_, rfl, ?_⟩) | ((with_reducible refine gate_callee (f := 33) rfl ?_); refine goesL_ (some 22) rfl rfl Try.func33 (by kernel_rfl) rfl #[.int .i64 a0, .int .u64 (IntKind.u64.wrap (-t212))] rfl (by (try simp only [List.map_toArray, List.map_cons, List.map_nil]); first | done | rfl | (simp only [List.length_drop, List.length_take]; rfl)) ?_; (with_reducible refine (bodkinref02_Cut.calls k a0 (IntKind.u64.wrap (-t212)) t214 _ A8.out).mono ?_); rintro e w' ⟨rfl, ⟨nd, rfl⟩⟩; refine ⟨_, rfl, ?_⟩))
      go_ret
      exact ⟨by first | rfl | (simp; done) | (simp [*]; done), by repeat (first | exact Drawn0.refl _ | apply Drawn0.step)⟩
    · rw [if_neg c7] at H
      have c7b0 : (t213 == 1) = false := beq_eq_false_iff_ne.mpr c7
      have c7b1 : (t213 != 1) = true := bne_iff_ne.mpr c7
      obtain rfl := Option.some.inj H
      go_enter Try.func34, Try.ntmps34
      go_wp2_with (first | ((with_reducible refine gate_callee (f := 47) rfl ?_); refine goesL_ (some 8) rfl rfl Try.func47 (by kernel_rfl) rfl #[.int .i64 a0] rfl (by (try simp only [List.map_toArray, List.map_cons, List.map_nil]); first | done | rfl | (simp only [List.length_drop, List.length_take]; rfl)) ?_; (with_reducible refine (bodkinref02_Right.calls a0 true _ A3.out).mono ?_); rintro e w' ⟨rfl, ⟨nd, rfl⟩⟩; refine ⟨_, rfl, ?_⟩) | ((with_reducible refine gate_callee (f := 33) rfl ?_); refine goesL_ (some 13) rfl rfl Try.func33 (by kernel_rfl) rfl #[.int .i64 a0, .int .u64 a1] rfl (by (try simp only [List.map_toArray, List.map_cons, List.map_nil]); first | done | rfl | (simp only [List.length_drop, List.length_take]; rfl)) ?_; (with_reducible refine (bodkinref02_Cut.calls k a0 a1 t212 _ A5.out).mono ?_); rintro e w' ⟨rfl, ⟨nd, rfl⟩⟩; refine ⟨_, rfl, ?_⟩) | ((with_reducible refine gate_callee (f := 48) rfl ?_); refine goesL_ (some 17) rfl rfl Try.func48 (by kernel_rfl) rfl #[.int .u64 t212, .int .i64 (wrap64 (a0 - 1))] rfl (by (try simp only [List.map_toArray, List.map_cons, List.map_nil]); first | done | rfl | (simp only [List.length_drop, List.length_take]; rfl)) ?_; (with_reducible refine (bodkinref02_bit.calls k t212 (wrap64 (a0 - 1)) t213 _ A6.out).mono ?_); rintro e w' ⟨rfl, ⟨nd, rfl⟩⟩; refine ⟨_, rfl, ?_⟩))
      go_ret
      exact ⟨by first | rfl | (simp; done) | (simp [*]; done), by repeat (first | exact Drawn0.refl _ | apply Drawn0.step)⟩
  · replace c4 := Bool.eq_false_iff.mpr c4
    subst c4
    have H1 : (some 0) = some r := by rw [if_neg (show ¬ (false = true) by decide)] at H; exact H
    clear H
    have H := H1
    clear H1
    obtain rfl := Option.some.inj H
    go_enter Try.func34, Try.ntmps34
    go_wp2_with (first | ((with_reducible refine gate_callee (f := 47) rfl ?_); refine goesL_ (some 8) rfl rfl Try.func47 (by kernel_rfl) rfl #[.int .i64 a0] rfl (by (try simp only [List.map_toArray, List.map_cons, List.map_nil]); first | done | rfl | (simp only [List.length_drop, List.length_take]; rfl)) ?_; (with_reducible refine (bodkinref02_Right.calls a0 false _ A3.out).mono ?_); rintro e w' ⟨rfl, ⟨nd, rfl⟩⟩; refine ⟨_, rfl, ?_⟩))
    go_ret
    exact ⟨by first | rfl | (simp; done) | (simp [*]; done), by repeat (first | exact Drawn0.refl _ | apply Drawn0.step)⟩

/-! ### bodkinref03_Canonical: function 49 -/
def bodkinref03_Canonical.f (a0 : Int) : Option (Int) := if a0 = 32 then (some 2143289344) else (if a0 = 64 then (some 9221120237041090560) else (some 0))
set_option maxHeartbeats 8000000 in
set_option maxRecDepth 100000 in
theorem bodkinref03_Canonical.calls (a0 : Int) (r : Int) (w : World) (h : bodkinref03_Canonical.f a0 = some r) :
    Calls Try.prog 49 #[.int .i64 a0] w fun e w' => e = .returned (.int .u64 r) ∧ Drawn0 w w' := by
  have H : (if a0 = 32 then (some 2143289344) else (if a0 = 64 then (some 9221120237041090560) else (some 0))) = some r := h
  clear h
  by_cases c2 : a0 = 32
  · rw [if_pos c2] at H
    have c2b0 : (a0 == 32) = true := beq_iff_eq.mpr c2
    have c2b1 : (a0 != 32) = false := bne_eq_false_iff_eq.mpr c2
    clear c2
    obtain rfl := Option.some.inj H
    go_enter Try.func49, Try.ntmps49
    go_wp2
    go_ret
    exact ⟨by first | rfl | (simp; done) | (simp [*]; done), by repeat (first | exact Drawn0.refl _ | apply Drawn0.step)⟩
  · rw [if_neg c2] at H
    have c2b0 : (a0 == 32) = false := beq_eq_false_iff_ne.mpr c2
    have c2b1 : (a0 != 32) = true := bne_iff_ne.mpr c2
    by_cases c3 : a0 = 64
    · rw [if_pos c3] at H
      have c3b0 : (a0 == 64) = true := beq_iff_eq.mpr c3
      have c3b1 : (a0 != 64) = false := bne_eq_false_iff_eq.mpr c3
      clear c3
      obtain rfl := Option.some.inj H
      go_enter Try.func49, Try.ntmps49
      go_wp2
      go_ret
      exact ⟨by first | rfl | (simp; done) | (simp [*]; done), by repeat (first | exact Drawn0.refl _ | apply Drawn0.step)⟩
    · rw [if_neg c3] at H
      have c3b0 : (a0 == 64) = false := beq_eq_false_iff_ne.mpr c3
      have c3b1 : (a0 != 64) = true := bne_iff_ne.mpr c3
      obtain rfl := Option.some.inj H
      go_enter Try.func49, Try.ntmps49
      go_wp2
      go_ret
      exact ⟨by first | rfl | (simp; done) | (simp [*]; done), by repeat (first | exact Drawn0.refl _ | apply Drawn0.step)⟩

-- NOT PRINTED: function 50 (math_Float32bits)

-- NOT PRINTED: function 35 (bodkinref03_B32)

-- NOT PRINTED: function 51 (math_Float64bits)

-- NOT PRINTED: function 36 (bodkinref03_B64)

/-! ### bodkinref04_Convert: function 15 (by hand) -/
def bodkinref04_Convert.f (k : Nat) (a0 : Int) (a1 : Int) (a2 : Bool) (a3 : Int) : Option (Int × Int) :=
  if (a0 = 32 ∨ a0 = 64) ∧ (a1 = 32 ∨ a1 = 64) then
    (bodkinref02_Cut.f k a0 a3).bind fun c =>
      if a2 = true then (bodkinref02_Signed.f k a0 c).bind fun x => if a1 = 32 then some (IntKind.u64.wrap (floatOfInt .f32 x : Int), 0) else some ((floatOfInt .f64 x : Int), 0)
      else if a1 = 32 then some (IntKind.u64.wrap (floatOfInt .f32 c : Int), 0) else some ((floatOfInt .f64 c : Int), 0)
  else some (0, 1)
theorem bodkinref04_Convert.mono : ∀ a0 a1 a2 a3 k, LeO (bodkinref04_Convert.f k a0 a1 a2 a3) (bodkinref04_Convert.f (k + 1) a0 a1 a2 a3) := by
  intro a0 a1 a2 a3 k r h
  unfold bodkinref04_Convert.f at h ⊢
  split at h
  · rename_i hc
    rw [if_pos hc]
    obtain ⟨c, hc1, h'⟩ := Option.bind_eq_some_iff.mp h
    clear h
    have h := h'
    clear h'
    rw [bodkinref02_Cut.mono _ _ _ _ hc1]
    simp only [Option.bind_some]
    split at h
    · rename_i h2
      rw [if_pos h2]
      obtain ⟨x, hx, h'⟩ := Option.bind_eq_some_iff.mp h
      rw [bodkinref02_Signed.mono _ _ _ _ hx]
      exact h'
    · rename_i h2
      rw [if_neg h2]
      exact h
  · rename_i hc
    rw [if_neg hc]
    exact h
set_option maxHeartbeats 2000000 in
theorem bodkinref04_Convert.calls (k : Nat) (a0 : Int) (a1 : Int) (a2 : Bool) (a3 : Int) (r1 : Int) (r2 : Int) (w : World) (h : bodkinref04_Convert.f k a0 a1 a2 a3 = some (r1, r2)) :
    Calls Try.prog 15 #[.int .i64 a0, .int .i64 a1, .bool a2, .int .u64 a3] w fun e w' => e = .returned (.tuple #[.int .u64 r1, .int .i64 r2]) ∧ Drawn0 w w' := by
  unfold bodkinref04_Convert.f at h
  by_cases hc : (a0 = 32 ∨ a0 = 64) ∧ (a1 = 32 ∨ a1 = 64)
  · rw [if_pos hc] at h
    obtain ⟨c, hc1, h'⟩ := Option.bind_eq_some_iff.mp h
    clear h
    have C := Aside0.mk hc1
    clear hc1
    have u32 := Try.underlying57
    have u64 := Try.underlying37
    obtain ⟨ha0, ha1⟩ := hc
    have cv1 : ∀ (n : Int) (w : World), (convert 2 57 (.int .i64 n)).run Try.prog w = .ok (.float .f32 (floatOfInt .f32 n)) w := fun n w => run_convert_int_float w _ _ _ _ n (by kernel_rfl) u32
    have cv2 : ∀ (n : Int) (w : World), (convert 2 37 (.int .i64 n)).run Try.prog w = .ok (.float .f64 (floatOfInt .f64 n)) w := fun n w => run_convert_int_float w _ _ _ _ n (by kernel_rfl) u64
    have cv3 : ∀ (n : Int) (w : World), (convert 24 57 (.int .u64 n)).run Try.prog w = .ok (.float .f32 (floatOfInt .f32 n)) w := fun n w => run_convert_int_float w _ _ _ _ n (by kernel_rfl) u32
    have cv4 : ∀ (n : Int) (w : World), (convert 24 37 (.int .u64 n)).run Try.prog w = .ok (.float .f64 (floatOfInt .f64 n)) w := fun n w => run_convert_int_float w _ _ _ _ n (by kernel_rfl) u64
    clear u32 u64
    cases a2 with
    | true =>
      rw [if_pos rfl] at h'
      obtain ⟨x, hx, h⟩ := Option.bind_eq_some_iff.mp h'
      clear h'
      have X := Aside0.mk hx
      clear hx
      rcases ha0 with rfl | rfl <;> rcases ha1 with rfl | rfl <;> simp at h <;> (
        obtain ⟨rfl, rfl⟩ := h
        go_enter Try.func15, Try.ntmps15
        go_wp2_with (first | (go_at_call 33; refine (bodkinref02_Cut.calls k _ a3 c _ C.out).mono ?_; rintro e w' ⟨rfl, ⟨nd, rfl⟩⟩) | (go_at_call 34; refine (bodkinref02_Signed.calls k _ c x _ X.out).mono ?_; rintro e w' ⟨rfl, ⟨nd, rfl⟩⟩) | (go_at_call 35; refine (Fl.B32_calls _ _ (Fl.ordInt .f32 x)).mono ?_; rintro e w' ⟨rfl, ⟨nd, rfl⟩⟩) | (go_at_call 36; refine (Fl.B64_calls _ _ (Fl.ordInt .f64 x)).mono ?_; rintro e w' ⟨rfl, ⟨nd, rfl⟩⟩))
        go_ret2
        exact ⟨by first | rfl | simp, by repeat (first | exact Drawn0.refl _ | apply Drawn0.step)⟩)
    | false =>
      rw [if_neg (by decide)] at h'
      have h := h'
      clear h'
      rcases ha0 with rfl | rfl <;> rcases ha1 with rfl | rfl <;> simp at h <;> (
        obtain ⟨rfl, rfl⟩ := h
        go_enter Try.func15, Try.ntmps15
        go_wp2_with (first | (go_at_call 33; refine (bodkinref02_Cut.calls k _ a3 c _ C.out).mono ?_; rintro e w' ⟨rfl, ⟨nd, rfl⟩⟩) | (go_at_call 35; refine (Fl.B32_calls _ _ (Fl.ordInt .f32 c)).mono ?_; rintro e w' ⟨rfl, ⟨nd, rfl⟩⟩) | (go_at_call 36; refine (Fl.B64_calls _ _ (Fl.ordInt .f64 c)).mono ?_; rintro e w' ⟨rfl, ⟨nd, rfl⟩⟩))
        go_ret2
        exact ⟨by first | rfl | simp, by repeat (first | exact Drawn0.refl _ | apply Drawn0.step)⟩)
  · rw [if_neg hc] at h
    simp only [Option.some.injEq, Prod.mk.injEq] at h
    obtain ⟨rfl, rfl⟩ := h
    by_cases h1 : a0 = 32
    · subst h1
      have g1 : (a1 == 32) = false := beq_eq_false_iff_ne.mpr (by omega)
      have g2 : (a1 != 32) = true := bne_iff_ne.mpr (by omega)
      have g3 : (a1 != 64) = true := bne_iff_ne.mpr (by omega)
      clear hc
      go_enter Try.func15, Try.ntmps15
      go_wp2
      go_ret2
      exact ⟨rfl, by repeat (first | exact Drawn0.refl _ | apply Drawn0.step)⟩
    · by_cases h2 : a0 = 64
      · subst h2
        have g1 : (a1 == 32) = false := beq_eq_false_iff_ne.mpr (by omega)
        have g2 : (a1 != 32) = true := bne_iff_ne.mpr (by omega)
        have g3 : (a1 != 64) = true := bne_iff_ne.mpr (by omega)
        clear hc h1
        go_enter Try.func15, Try.ntmps15
        go_wp2
        go_ret2
        exact ⟨rfl, by repeat (first | exact Drawn0.refl _ | apply Drawn0.step)⟩
      · have g2 : (a0 != 32) = true := bne_iff_ne.mpr h1
        have g3 : (a0 != 64) = true := bne_iff_ne.mpr h2
        clear hc h1 h2
        go_enter Try.func15, Try.ntmps15
        go_wp2
        go_ret2
        exact ⟨rfl, by repeat (first | exact Drawn0.refl _ | apply Drawn0.step)⟩


/-! ### bodkinlaw04_ConvWords: function 4 -/
mutual
def bodkinlaw04_ConvWords.l0 : Nat → Int → Int → Option (Bool)
  | 0, _, _ => none
  | k + 1, x0, x4 => if x4 ≤ 64 then (bodkinlaw04_ConvWords.l1 k x0 x4 32) else (some true)
def bodkinlaw04_ConvWords.l1 : Nat → Int → Int → Int → Option (Bool)
  | 0, _, _, _ => none
  | k + 1, x0, x4, x5 => if x5 ≤ 64 then ((conv_Convert.f k x4 x5 false x0).bind fun bt216 => ((bodkinref04_Convert.f k x4 x5 false x0).bind fun bt218 => ((conv_Convert.f k x4 x5 true x0).bind fun bt220 => ((bodkinref04_Convert.f k x4 x5 true x0).bind fun bt222 => (if bt216.1 = bt218.1 then (if bt216.2 = bt218.2 then (if bt220.1 = bt222.1 then (if bt220.2 = bt222.2 then (bodkinlaw04_ConvWords.l1 k x0 x4 (wrap64 (x5 + 32))) else (some false)) else (some false)) else (some false)) else (some false)))))) else (bodkinlaw04_ConvWords.l0 k x0 (wrap64 (x4 + 32)))
end
def bodkinlaw04_ConvWords.f (k : Nat) (a0 : Int) : Option (Bool) := (bodkinlaw04_awake.f k).bind fun t215 => (if t215 = true then (bodkinlaw04_ConvWords.l0 k a0 32) else (some false))
theorem bodkinlaw04_ConvWords.mono_l : ∀ k, (∀ y0 y1, LeO (bodkinlaw04_ConvWords.l0 k y0 y1) (bodkinlaw04_ConvWords.l0 (k + 1) y0 y1)) ∧ (∀ y0 y1 y2, LeO (bodkinlaw04_ConvWords.l1 k y0 y1 y2) (bodkinlaw04_ConvWords.l1 (k + 1) y0 y1 y2))
  | 0 => ⟨fun _ _ r h => by simp [bodkinlaw04_ConvWords.l0] at h, fun _ _ _ r h => by simp [bodkinlaw04_ConvWords.l1] at h⟩
  | k + 1 => by
    obtain ⟨ih0, ih1⟩ := bodkinlaw04_ConvWords.mono_l k
    refine ⟨?_, ?_⟩
    · intro y0 y1
      unfold bodkinlaw04_ConvWords.l0
      repeat' first
      | (with_reducible exact ih0 _ _)
      | (with_reducible exact ih1 _ _ _)
      | (with_reducible exact bodkinlaw04_awake.mono _)
      | (with_reducible exact bodkinref04_Convert.mono _ _ _ _ _)
      | (with_reducible exact conv_Convert.mono _ _ _ _ _)
      | (with_reducible exact LeO.refl _)
      | (with_reducible exact LeO.none _)
      | (with_reducible refine LeO.ite ?_ ?_)
      | (with_reducible refine LeO.bind ?_ (fun _ => ?_))
      | exact ih0 _ _
      | exact ih1 _ _ _
      | exact bodkinlaw04_awake.mono _
      | exact bodkinref04_Convert.mono _ _ _ _ _
      | exact conv_Convert.mono _ _ _ _ _
      | exact LeO.none _
      | refine LeO.ite ?_ ?_
      | refine LeO.bind ?_ (fun _ => ?_)
    · intro y0 y1 y2
      unfold bodkinlaw04_ConvWords.l1
      repeat' first
      | (with_reducible exact ih0 _ _)
      | (with_reducible exact ih1 _ _ _)
      | (with_reducible exact bodkinlaw04_awake.mono _)
      | (with_reducible exact bodkinref04_Convert.mono _ _ _ _ _)
      | (with_reducible exact conv_Convert.mono _ _ _ _ _)
      | (with_reducible exact LeO.refl _)
      | (with_reducible exact LeO.none _)
      | (with_reducible refine LeO.ite ?_ ?_)
      | (with_reducible refine LeO.bind ?_ (fun _ => ?_))
      | exact ih0 _ _
      | exact ih1 _ _ _
      | exact bodkinlaw04_awake.mono _
      | exact bodkinref04_Convert.mono _ _ _ _ _
      | exact conv_Convert.mono _ _ _ _ _
      | exact LeO.none _
      | refine LeO.ite ?_ ?_
      | refine LeO.bind ?_ (fun _ => ?_)
theorem bodkinlaw04_ConvWords.mono : ∀ a0 k, LeO (bodkinlaw04_ConvWords.f k a0) (bodkinlaw04_ConvWords.f (k + 1) a0) := by
  intro a0 k
  obtain ⟨ih0, ih1⟩ := bodkinlaw04_ConvWords.mono_l k
  unfold bodkinlaw04_ConvWords.f
  repeat' first
      | (with_reducible exact ih0 _ _)
      | (with_reducible exact ih1 _ _ _)
      | (with_reducible exact bodkinlaw04_awake.mono _)
      | (with_reducible exact bodkinref04_Convert.mono _ _ _ _ _)
      | (with_reducible exact conv_Convert.mono _ _ _ _ _)
      | (with_reducible exact LeO.refl _)
      | (with_reducible exact LeO.none _)
      | (with_reducible refine LeO.ite ?_ ?_)
      | (with_reducible refine LeO.bind ?_ (fun _ => ?_))
      | exact ih0 _ _
      | exact ih1 _ _ _
      | exact bodkinlaw04_awake.mono _
      | exact bodkinref04_Convert.mono _ _ _ _ _
      | exact conv_Convert.mono _ _ _ _ _
      | exact LeO.none _
      | refine LeO.ite ?_ ?_
      | refine LeO.bind ?_ (fun _ => ?_)
set_option maxHeartbeats 8000000 in
set_option maxRecDepth 100000 in
theorem bodkinlaw04_ConvWords.calls (k : Nat) (a0 : Int) (r : Bool) (w : World) (h : bodkinlaw04_ConvWords.f k a0 = some r) :
    Calls Try.prog 4 #[.int .u64 a0] w fun e w' => e = .returned (.bool r) ∧ Below w.heap.size w w' := by
  have HB := Aside0.mk (Below.refl w.heap.size w)
  have H : ((bodkinlaw04_awake.f k).bind fun t215 => (if t215 = true then (bodkinlaw04_ConvWords.l0 k a0 32) else (some false))) = some r := h
  clear h
  replace H := Option.bind_eq_some_iff.mp H
  obtain ⟨t215, A20, H⟩ := H
  replace H : (if t215 = true then (bodkinlaw04_ConvWords.l0 k a0 32) else (some false)) = some r := H
  have A2 := Aside0.mk A20
  clear A20
  by_cases c3 : t215 = true
  · subst c3
    have H1 : (bodkinlaw04_ConvWords.l0 k a0 32) = some r := by rw [if_pos rfl] at H; exact H
    clear H
    have H := H1
    clear H1
    have H' := Aside0.mk H
    clear H
    go_enter Try.func4, Try.ntmps4
    go_wp2_with (first | ((with_reducible refine gate_callee (f := 8) rfl ?_); refine goesL_ (some 14) rfl rfl Try.func8 (by kernel_rfl) rfl #[] rfl (by (try simp only [List.map_toArray, List.map_cons, List.map_nil]); first | done | rfl | (simp only [List.length_drop, List.length_take]; rfl)) ?_; (with_reducible refine (bodkinlaw04_awake.calls k  true _ A2.out).mono ?_); rintro e w4 ⟨rfl, hb⟩; refine ⟨_, rfl, ?_⟩; have n0_ := Aside0.mk (below_step (by repeat (first | (with_reducible first | exact HB.out | apply below_alloc | apply pw_below_drewN | apply below_drew1) | exact HB.out)) hb); clear HB; have HB := n0_; clear n0_; (try clear hb); (try clear hb2); (try clear hk); (try clear hi)))
    go_loopg [4] k (fun kq v4 w' => ∃ (x4_1 : Int), v4 = .int .i64 x4_1 ∧ Aside0 (bodkinlaw04_ConvWords.l0 kq a0 x4_1 = some r) ∧ Aside0 (kq ≤ k) ∧ Aside0 (Below w.heap.size w w'))
    case atStart => exact ⟨(32), (by first | rfl | (simp; done) | (simp [*]; done)), H', ⟨Nat.le_refl _⟩, ⟨by repeat (first | (with_reducible first | exact HB.out | apply below_alloc | apply pw_below_drewN | apply below_drew1) | exact HB.out)⟩⟩
    case round =>
      clear H'
      try clear p2
      try clear c3
      try clear c4
      obtain ⟨x4_1, rfl, HA, HK1, HB⟩ := hrel
      cases gk with
      | zero => exact absurd HA.out (by simp [bodkinlaw04_ConvWords.l0])
      | succ k1 =>
        have H := HA.out
        clear HA
        simp only [bodkinlaw04_ConvWords.l0] at H
        by_cases c5 : x4_1 ≤ 64
        · rw [if_pos c5] at H
          have c5b0 : decide (x4_1 ≤ 64) = true := decide_eq_true c5
          clear c5
          have H' := Aside0.mk H
          clear H
          go_wp2
          go_loopg [5] k1 (fun kq v5 w' => ∃ (x5_2 : Int), v5 = .int .i64 x5_2 ∧ Aside0 (bodkinlaw04_ConvWords.l1 kq a0 x4_1 x5_2 = some r) ∧ Aside0 (kq ≤ k1) ∧ Aside0 (Below w.heap.size w w'))
          case atStart => exact ⟨(32), (by first | rfl | (simp; done) | (simp [*]; done)), H', ⟨Nat.le_refl _⟩, ⟨by repeat (first | (with_reducible first | exact HB.out | apply below_alloc | apply pw_below_drewN | apply below_drew1) | exact HB.out)⟩⟩
          case round =>
            clear H'
            try clear p2
            try clear c3
            try clear c4
            try clear c5
            try clear c5b0
            try clear p2
            obtain ⟨x5_2, rfl, HA, HK2, HB⟩ := hrel
            cases gk with
            | zero => exact absurd HA.out (by simp [bodkinlaw04_ConvWords.l1])
            | succ k2 =>
              have H := HA.out
              clear HA
              simp only [bodkinlaw04_ConvWords.l1] at H
              by_cases c6 : x5_2 ≤ 64
              · rw [if_pos c6] at H
                have c6b0 : decide (x5_2 ≤ 64) = true := decide_eq_true c6
                clear c6
                replace H := Option.bind_eq_some_iff.mp H
                obtain ⟨⟨t216, t217⟩, A70, H⟩ := H
                replace H : ((bodkinref04_Convert.f k2 x4_1 x5_2 false a0).bind fun bt218 => ((conv_Convert.f k2 x4_1 x5_2 true a0).bind fun bt220 => ((bodkinref04_Convert.f k2 x4_1 x5_2 true a0).bind fun bt222 => (if t216 = bt218.1 then (if t217 = bt218.2 then (if bt220.1 = bt222.1 then (if bt220.2 = bt222.2 then (bodkinlaw04_ConvWords.l1 k2 a0 x4_1 (wrap64 (x5_2 + 32))) else (some false)) else (some false)) else (some false)) else (some false))))) = some r := H
                have A7 := Aside0.mk A70
                clear A70
                replace H := Option.bind_eq_some_iff.mp H
                obtain ⟨⟨t218, t219⟩, A80, H⟩ := H
                replace H : ((conv_Convert.f k2 x4_1 x5_2 true a0).bind fun bt220 => ((bodkinref04_Convert.f k2 x4_1 x5_2 true a0).bind fun bt222 => (if t216 = t218 then (if t217 = t219 then (if bt220.1 = bt222.1 then (if bt220.2 = bt222.2 then (bodkinlaw04_ConvWords.l1 k2 a0 x4_1 (wrap64 (x5_2 + 32))) else (some false)) else (some false)) else (some false)) else (some false)))) = some r := H
                have A8 := Aside0.mk A80
                clear A80
                replace H := Option.bind_eq_some_iff.mp H
                obtain ⟨⟨t220, t221⟩, A90, H⟩ := H
                replace H : ((bodkinref04_Convert.f k2 x4_1 x5_2 true a0).bind fun bt222 => (if t216 = t218 then (if t217 = t219 then (if t220 = bt222.1 then (if t221 = bt222.2 then (bodkinlaw04_ConvWords.l1 k2 a0 x4_1 (wrap64 (x5_2 + 32))) else (some false)) else (some false)) else (some false)) else (some false))) = some r := H
                have A9 := Aside0.mk A90
                clear A90
                replace H := Option.bind_eq_some_iff.mp H
                obtain ⟨⟨t222, t223⟩, A100, H⟩ := H
                replace H : (if t216 = t218 then (if t217 = t219 then (if t220 = t222 then (if t221 = t223 then (bodkinlaw04_ConvWords.l1 k2 a0 x4_1 (wrap64 (x5_2 + 32))) else (some false)) else (some false)) else (some false)) else (some false)) = some r := H
                have A10 := Aside0.mk A100
                clear A100
                by_cases c11 : t216 = t218
                · rw [if_pos c11] at H
                  have c11b0 : (t216 == t218) = true := beq_iff_eq.mpr c11
                  have c11b1 : (t216 != t218) = false := bne_eq_false_iff_eq.mpr c11
                  clear c11
                  by_cases c12 : t217 = t219
                  · rw [if_pos c12] at H
                    have c12b0 : (t217 == t219) = true := beq_iff_eq.mpr c12
                    have c12b1 : (t217 != t219) = false := bne_eq_false_iff_eq.mpr c12
                    clear c12
                    by_cases c13 : t220 = t222
                    · rw [if_pos c13] at H
                      have c13b0 : (t220 == t222) = true := beq_iff_eq.mpr c13
                      have c13b1 : (t220 != t222) = false := bne_eq_false_iff_eq.mpr c13
                      clear c13
                      by_cases c14 : t221 = t223
                      · rw [if_pos c14] at H
                        have c14b0 : (t221 == t223) = true := beq_iff_eq.mpr c14
                        have c14b1 : (t221 != t223) = false := bne_eq_false_iff_eq.mpr c14
                        clear c14
                        have H' := Aside0.mk H
                        clear H
                        go_wp2_with (first | ((with_reducible refine gate_callee (f := 13) rfl ?_); refine goesL_ (some 29) rfl rfl Try.func13 (by kernel_rfl) rfl #[.int .i64 x4_1, .int .i64 x5_2, .bool false, .int .u64 a0] rfl (by (try simp only [List.map_toArray, List.map_cons, List.map_nil]); first | done | rfl | (simp only [List.length_drop, List.length_take]; rfl)) ?_; (with_reducible refine (conv_Convert.calls k2 x4_1 x5_2 false a0 t216 t217 _ A7.out).mono ?_); rintro e w15 ⟨rfl, hb⟩; refine ⟨_, rfl, ?_⟩; have n0_ := Aside0.mk (below_step (by repeat (first | (with_reducible first | exact HB.out | apply below_alloc | apply pw_below_drewN | apply below_drew1) | exact HB.out)) hb); clear HB; have HB := n0_; clear n0_; (try clear hb); (try clear hb2); (try clear hk); (try clear hi)) | ((with_reducible refine gate_callee (f := 15) rfl ?_); refine goesL_ (some 36) rfl rfl Try.func15 (by kernel_rfl) rfl #[.int .i64 x4_1, .int .i64 x5_2, .bool false, .int .u64 a0] rfl (by (try simp only [List.map_toArray, List.map_cons, List.map_nil]); first | done | rfl | (simp only [List.length_drop, List.length_take]; rfl)) ?_; (with_reducible refine (bodkinref04_Convert.calls k2 x4_1 x5_2 false a0 t218 t219 _ A8.out).mono ?_); rintro e w' ⟨rfl, ⟨nd, rfl⟩⟩; refine ⟨_, rfl, ?_⟩) | ((with_reducible refine gate_callee (f := 13) rfl ?_); refine goesL_ (some 43) rfl rfl Try.func13 (by kernel_rfl) rfl #[.int .i64 x4_1, .int .i64 x5_2, .bool true, .int .u64 a0] rfl (by (try simp only [List.map_toArray, List.map_cons, List.map_nil]); first | done | rfl | (simp only [List.length_drop, List.length_take]; rfl)) ?_; (with_reducible refine (conv_Convert.calls k2 x4_1 x5_2 true a0 t220 t221 _ A9.out).mono ?_); rintro e w16 ⟨rfl, hb⟩; refine ⟨_, rfl, ?_⟩; have n0_ := Aside0.mk (below_step (by repeat (first | (with_reducible first | exact HB.out | apply below_alloc | apply pw_below_drewN | apply below_drew1) | exact HB.out)) hb); clear HB; have HB := n0_; clear n0_; (try clear hb); (try clear hb2); (try clear hk); (try clear hi)) | ((with_reducible refine gate_callee (f := 15) rfl ?_); refine goesL_ (some 50) rfl rfl Try.func15 (by kernel_rfl) rfl #[.int .i64 x4_1, .int .i64 x5_2, .bool true, .int .u64 a0] rfl (by (try simp only [List.map_toArray, List.map_cons, List.map_nil]); first | done | rfl | (simp only [List.length_drop, List.length_take]; rfl)) ?_; (with_reducible refine (bodkinref04_Convert.calls k2 x4_1 x5_2 true a0 t222 t223 _ A10.out).mono ?_); rintro e w' ⟨rfl, ⟨nd, rfl⟩⟩; refine ⟨_, rfl, ?_⟩))
                        go_roundg k2
                        case measure => have := HK1.out; have := HK2.out; omega
                        case rel => exact ⟨(wrap64 (x5_2 + 32)), (by first | rfl | (simp; done) | (simp [*]; done)), H', ⟨by have := HK1.out; have := HK2.out; omega⟩, ⟨by repeat (first | (with_reducible first | exact HB.out | apply below_alloc | apply pw_below_drewN | apply below_drew1) | exact HB.out)⟩⟩
                      · rw [if_neg c14] at H
                        have c14b0 : (t221 == t223) = false := beq_eq_false_iff_ne.mpr c14
                        have c14b1 : (t221 != t223) = true := bne_iff_ne.mpr c14
                        obtain rfl := Option.some.inj H
                        go_wp2_with (first | ((with_reducible refine gate_callee (f := 13) rfl ?_); refine goesL_ (some 29) rfl rfl Try.func13 (by kernel_rfl) rfl #[.int .i64 x4_1, .int .i64 x5_2, .bool false, .int .u64 a0] rfl (by (try simp only [List.map_toArray, List.map_cons, List.map_nil]); first | done | rfl | (simp only [List.length_drop, List.length_take]; rfl)) ?_; (with_reducible refine (conv_Convert.calls k2 x4_1 x5_2 false a0 t216 t217 _ A7.out).mono ?_); rintro e w17 ⟨rfl, hb⟩; refine ⟨_, rfl, ?_⟩; have n0_ := Aside0.mk (below_step (by repeat (first | (with_reducible first | exact HB.out | apply below_alloc | apply pw_below_drewN | apply below_drew1) | exact HB.out)) hb); clear HB; have HB := n0_; clear n0_; (try clear hb); (try clear hb2); (try clear hk); (try clear hi)) | ((with_reducible refine gate_callee (f := 15) rfl ?_); refine goesL_ (some 36) rfl rfl Try.func15 (by kernel_rfl) rfl #[.int .i64 x4_1, .int .i64 x5_2, .bool false, .int .u64 a0] rfl (by (try simp only [List.map_toArray, List.map_cons, List.map_nil]); first | done | rfl | (simp only [List.length_drop, List.length_take]; rfl)) ?_; (with_reducible refine (bodkinref04_Convert.calls k2 x4_1 x5_2 false a0 t218 t219 _ A8.out).mono ?_); rintro e w' ⟨rfl, ⟨nd, rfl⟩⟩; refine ⟨_, rfl, ?_⟩) | ((with_reducible refine gate_callee (f := 13) rfl ?_); refine goesL_ (some 43) rfl rfl Try.func13 (by kernel_rfl) rfl #[.int .i64 x4_1, .int .i64 x5_2, .bool true, .int .u64 a0] rfl (by (try simp only [List.map_toArray, List.map_cons, List.map_nil]); first | done | rfl | (simp only [List.length_drop, List.length_take]; rfl)) ?_; (with_reducible refine (conv_Convert.calls k2 x4_1 x5_2 true a0 t220 t221 _ A9.out).mono ?_); rintro e w18 ⟨rfl, hb⟩; refine ⟨_, rfl, ?_⟩; have n0_ := Aside0.mk (below_step (by repeat (first | (with_reducible first | exact HB.out | apply below_alloc | apply pw_below_drewN | apply below_drew1) | exact HB.out)) hb); clear HB; have HB := n0_; clear n0_; (try clear hb); (try clear hb2); (try clear hk); (try clear hi)) | ((with_reducible refine gate_callee (f := 15) rfl ?_); refine goesL_ (some 50) rfl rfl Try.func15 (by kernel_rfl) rfl #[.int .i64 x4_1, .int .i64 x5_2, .bool true, .int .u64 a0] rfl (by (try simp only [List.map_toArray, List.map_cons, List.map_nil]); first | done | rfl | (simp only [List.length_drop, List.length_take]; rfl)) ?_; (with_reducible refine (bodkinref04_Convert.calls k2 x4_1 x5_2 true a0 t222 t223 _ A10.out).mono ?_); rintro e w' ⟨rfl, ⟨nd, rfl⟩⟩; refine ⟨_, rfl, ?_⟩))
                        go_ret
                        exact ⟨by first | rfl | (simp [errW_none, errW_some] <;> rfl) | (simp [*, errW_none, errW_some] <;> rfl), by repeat (first | (with_reducible first | exact HB.out | apply below_alloc | apply pw_below_drewN | apply below_drew1) | exact HB.out)⟩
                    · rw [if_neg c13] at H
                      have c13b0 : (t220 == t222) = false := beq_eq_false_iff_ne.mpr c13
                      have c13b1 : (t220 != t222) = true := bne_iff_ne.mpr c13
                      obtain rfl := Option.some.inj H
                      go_wp2_with (first | ((with_reducible refine gate_callee (f := 13) rfl ?_); refine goesL_ (some 29) rfl rfl Try.func13 (by kernel_rfl) rfl #[.int .i64 x4_1, .int .i64 x5_2, .bool false, .int .u64 a0] rfl (by (try simp only [List.map_toArray, List.map_cons, List.map_nil]); first | done | rfl | (simp only [List.length_drop, List.length_take]; rfl)) ?_; (with_reducible refine (conv_Convert.calls k2 x4_1 x5_2 false a0 t216 t217 _ A7.out).mono ?_); rintro e w19 ⟨rfl, hb⟩; refine ⟨_, rfl, ?_⟩; have n0_ := Aside0.mk (below_step (by repeat (first | (with_reducible first | exact HB.out | apply below_alloc | apply pw_below_drewN | apply below_drew1) | exact HB.out)) hb); clear HB; have HB := n0_; clear n0_; (try clear hb); (try clear hb2); (try clear hk); (try clear hi)) | ((with_reducible refine gate_callee (f := 15) rfl ?_); refine goesL_ (some 36) rfl rfl Try.func15 (by kernel_rfl) rfl #[.int .i64 x4_1, .int .i64 x5_2, .bool false, .int .u64 a0] rfl (by (try simp only [List.map_toArray, List.map_cons, List.map_nil]); first | done | rfl | (simp only [List.length_drop, List.length_take]; rfl)) ?_; (with_reducible refine (bodkinref04_Convert.calls k2 x4_1 x5_2 false a0 t218 t219 _ A8.out).mono ?_); rintro e w' ⟨rfl, ⟨nd, rfl⟩⟩; refine ⟨_, rfl, ?_⟩) | ((with_reducible refine gate_callee (f := 13) rfl ?_); refine goesL_ (some 43) rfl rfl Try.func13 (by kernel_rfl) rfl #[.int .i64 x4_1, .int .i64 x5_2, .bool true, .int .u64 a0] rfl (by (try simp only [List.map_toArray, List.map_cons, List.map_nil]); first | done | rfl | (simp only [List.length_drop, List.length_take]; rfl)) ?_; (with_reducible refine (conv_Convert.calls k2 x4_1 x5_2 true a0 t220 t221 _ A9.out).mono ?_); rintro e w20 ⟨rfl, hb⟩; refine ⟨_, rfl, ?_⟩; have n0_ := Aside0.mk (below_step (by repeat (first | (with_reducible first | exact HB.out | apply below_alloc | apply pw_below_drewN | apply below_drew1) | exact HB.out)) hb); clear HB; have HB := n0_; clear n0_; (try clear hb); (try clear hb2); (try clear hk); (try clear hi)) | ((with_reducible refine gate_callee (f := 15) rfl ?_); refine goesL_ (some 50) rfl rfl Try.func15 (by kernel_rfl) rfl #[.int .i64 x4_1, .int .i64 x5_2, .bool true, .int .u64 a0] rfl (by (try simp only [List.map_toArray, List.map_cons, List.map_nil]); first | done | rfl | (simp only [List.length_drop, List.length_take]; rfl)) ?_; (with_reducible refine (bodkinref04_Convert.calls k2 x4_1 x5_2 true a0 t222 t223 _ A10.out).mono ?_); rintro e w' ⟨rfl, ⟨nd, rfl⟩⟩; refine ⟨_, rfl, ?_⟩))
                      go_ret
                      exact ⟨by first | rfl | (simp [errW_none, errW_some] <;> rfl) | (simp [*, errW_none, errW_some] <;> rfl), by repeat (first | (with_reducible first | exact HB.out | apply below_alloc | apply pw_below_drewN | apply below_drew1) | exact HB.out)⟩
                  · rw [if_neg c12] at H
                    have c12b0 : (t217 == t219) = false := beq_eq_false_iff_ne.mpr c12
                    have c12b1 : (t217 != t219) = true := bne_iff_ne.mpr c12
                    obtain rfl := Option.some.inj H
                    go_wp2_with (first | ((with_reducible refine gate_callee (f := 13) rfl ?_); refine goesL_ (some 29) rfl rfl Try.func13 (by kernel_rfl) rfl #[.int .i64 x4_1, .int .i64 x5_2, .bool false, .int .u64 a0] rfl (by (try simp only [List.map_toArray, List.map_cons, List.map_nil]); first | done | rfl | (simp only [List.length_drop, List.length_take]; rfl)) ?_; (with_reducible refine (conv_Convert.calls k2 x4_1 x5_2 false a0 t216 t217 _ A7.out).mono ?_); rintro e w21 ⟨rfl, hb⟩; refine ⟨_, rfl, ?_⟩; have n0_ := Aside0.mk (below_step (by repeat (first | (with_reducible first | exact HB.out | apply below_alloc | apply pw_below_drewN | apply below_drew1) | exact HB.out)) hb); clear HB; have HB := n0_; clear n0_; (try clear hb); (try clear hb2); (try clear hk); (try clear hi)) | ((with_reducible refine gate_callee (f := 15) rfl ?_); refine goesL_ (some 36) rfl rfl Try.func15 (by kernel_rfl) rfl #[.int .i64 x4_1, .int .i64 x5_2, .bool false, .int .u64 a0] rfl (by (try simp only [List.map_toArray, List.map_cons, List.map_nil]); first | done | rfl | (simp only [List.length_drop, List.length_take]; rfl)) ?_; (with_reducible refine (bodkinref04_Convert.calls k2 x4_1 x5_2 false a0 t218 t219 _ A8.out).mono ?_); rintro e w' ⟨rfl, ⟨nd, rfl⟩⟩; refine ⟨_, rfl, ?_⟩) | ((with_reducible refine gate_callee (f := 13) rfl ?_); refine goesL_ (some 43) rfl rfl Try.func13 (by kernel_rfl) rfl #[.int .i64 x4_1, .int .i64 x5_2, .bool true, .int .u64 a0] rfl (by (try simp only [List.map_toArray, List.map_cons, List.map_nil]); first | done | rfl | (simp only [List.length_drop, List.length_take]; rfl)) ?_; (with_reducible refine (conv_Convert.calls k2 x4_1 x5_2 true a0 t220 t221 _ A9.out).mono ?_); rintro e w22 ⟨rfl, hb⟩; refine ⟨_, rfl, ?_⟩; have n0_ := Aside0.mk (below_step (by repeat (first | (with_reducible first | exact HB.out | apply below_alloc | apply pw_below_drewN | apply below_drew1) | exact HB.out)) hb); clear HB; have HB := n0_; clear n0_; (try clear hb); (try clear hb2); (try clear hk); (try clear hi)) | ((with_reducible refine gate_callee (f := 15) rfl ?_); refine goesL_ (some 50) rfl rfl Try.func15 (by kernel_rfl) rfl #[.int .i64 x4_1, .int .i64 x5_2, .bool true, .int .u64 a0] rfl (by (try simp only [List.map_toArray, List.map_cons, List.map_nil]); first | done | rfl | (simp only [List.length_drop, List.length_take]; rfl)) ?_; (with_reducible refine (bodkinref04_Convert.calls k2 x4_1 x5_2 true a0 t222 t223 _ A10.out).mono ?_); rintro e w' ⟨rfl, ⟨nd, rfl⟩⟩; refine ⟨_, rfl, ?_⟩))
                    go_ret
                    exact ⟨by first | rfl | (simp [errW_none, errW_some] <;> rfl) | (simp [*, errW_none, errW_some] <;> rfl), by repeat (first | (with_reducible first | exact HB.out | apply below_alloc | apply pw_below_drewN | apply below_drew1) | exact HB.out)⟩
                · rw [if_neg c11] at H
                  have c11b0 : (t216 == t218) = false := beq_eq_false_iff_ne.mpr c11
                  have c11b1 : (t216 != t218) = true := bne_iff_ne.mpr c11
                  obtain rfl := Option.some.inj H
                  go_wp2_with (first | ((with_reducible refine gate_callee (f := 13) rfl ?_); refine goesL_ (some 29) rfl rfl Try.func13 (by kernel_rfl) rfl #[.int .i64 x4_1, .int .i64 x5_2, .bool false, .int .u64 a0] rfl (by (try simp only [List.map_toArray, List.map_cons, List.map_nil]); first | done | rfl | (simp only [List.length_drop, List.length_take]; rfl)) ?_; (with_reducible refine (conv_Convert.calls k2 x4_1 x5_2 false a0 t216 t217 _ A7.out).mono ?_); rintro e w23 ⟨rfl, hb⟩; refine ⟨_, rfl, ?_⟩; have n0_ := Aside0.mk (below_step (by repeat (first | (with_reducible first | exact HB.out | apply below_alloc | apply pw_below_drewN | apply below_drew1) | exact HB.out)) hb); clear HB; have HB := n0_; clear n0_; (try clear hb); (try clear hb2); (try clear hk); (try clear hi)) | ((with_reducible refine gate_callee (f := 15) rfl ?_); refine goesL_ (some 36) rfl rfl Try.func15 (by kernel_rfl) rfl #[.int .i64 x4_1, .int .i64 x5_2, .bool false, .int .u64 a0] rfl (by (try simp only [List.map_toArray, List.map_cons, List.map_nil]); first | done | rfl | (simp only [List.length_drop, List.length_take]; rfl)) ?_; (with_reducible refine (bodkinref04_Convert.calls k2 x4_1 x5_2 false a0 t218 t219 _ A8.out).mono ?_); rintro e w' ⟨rfl, ⟨nd, rfl⟩⟩; refine ⟨_, rfl, ?_⟩) | ((with_reducible refine gate_callee (f := 13) rfl ?_); refine goesL_ (some 43) rfl rfl Try.func13 (by kernel_rfl) rfl #[.int .i64 x4_1, .int .i64 x5_2, .bool true, .int .u64 a0] rfl (by (try simp only [List.map_toArray, List.map_cons, List.map_nil]); first | done | rfl | (simp only [List.length_drop, List.length_take]; rfl)) ?_; (with_reducible refine (conv_Convert.calls k2 x4_1 x5_2 true a0 t220 t221 _ A9.out).mono ?_); rintro e w24 ⟨rfl, hb⟩; refine ⟨_, rfl, ?_⟩; have n0_ := Aside0.mk (below_step (by repeat (first | (with_reducible first | exact HB.out | apply below_alloc | apply pw_below_drewN | apply below_drew1) | exact HB.out)) hb); clear HB; have HB := n0_; clear n0_; (try clear hb); (try clear hb2); (try clear hk); (try clear hi)) | ((with_reducible refine gate_callee (f := 15) rfl ?_); refine goesL_ (some 50) rfl rfl Try.func15 (by kernel_rfl) rfl #[.int .i64 x4_1, .int .i64 x5_2, .bool true, .int .u64 a0] rfl (by (try simp only [List.map_toArray, List.map_cons, List.map_nil]); first | done | rfl | (simp only [List.length_drop, List.length_take]; rfl)) ?_; (with_reducible refine (bodkinref04_Convert.calls k2 x4_1 x5_2 true a0 t222 t223 _ A10.out).mono ?_); rintro e w' ⟨rfl, ⟨nd, rfl⟩⟩; refine ⟨_, rfl, ?_⟩))
                  go_ret
                  exact ⟨by first | rfl | (simp [errW_none, errW_some] <;> rfl) | (simp [*, errW_none, errW_some] <;> rfl), by repeat (first | (with_reducible first | exact HB.out | apply below_alloc | apply pw_below_drewN | apply below_drew1) | exact HB.out)⟩
              · rw [if_neg c6] at H
                have c6b0 : decide (x5_2 ≤ 64) = false := decide_eq_false c6
                clear c6
                have H' := Aside0.mk H
                clear H
                go_wp2
                go_roundg k2
                case measure => have := HK1.out; have := HK2.out; omega
                case rel => exact ⟨(wrap64 (x4_1 + 32)), (by first | rfl | (simp; done) | (simp [*]; done)), H', ⟨by have := HK1.out; have := HK2.out; omega⟩, ⟨by repeat (first | (with_reducible first | exact HB.out | apply below_alloc | apply pw_below_drewN | apply below_drew1) | exact HB.out)⟩⟩
        · rw [if_neg c5] at H
          have c5b0 : decide (x4_1 ≤ 64) = false := decide_eq_false c5
          clear c5
          obtain rfl := Option.some.inj H
          go_wp2
          go_ret
          exact ⟨by first | rfl | (simp [errW_none, errW_some] <;> rfl) | (simp [*, errW_none, errW_some] <;> rfl), by repeat (first | (with_reducible first | exact HB.out | apply below_alloc | apply pw_below_drewN | apply below_drew1) | exact HB.out)⟩
  · replace c3 := Bool.eq_false_iff.mpr c3
    subst c3
    have H1 : (some false) = some r := by rw [if_neg (show ¬ (false = true) by decide)] at H; exact H
    clear H
    have H := H1
    clear H1
    obtain rfl := Option.some.inj H
    go_enter Try.func4, Try.ntmps4
    go_wp2_with (first | ((with_reducible refine gate_callee (f := 8) rfl ?_); refine goesL_ (some 14) rfl rfl Try.func8 (by kernel_rfl) rfl #[] rfl (by (try simp only [List.map_toArray, List.map_cons, List.map_nil]); first | done | rfl | (simp only [List.length_drop, List.length_take]; rfl)) ?_; (with_reducible refine (bodkinlaw04_awake.calls k  false _ A2.out).mono ?_); rintro e w25 ⟨rfl, hb⟩; refine ⟨_, rfl, ?_⟩; have n0_ := Aside0.mk (below_step (by repeat (first | (with_reducible first | exact HB.out | apply below_alloc | apply pw_below_drewN | apply below_drew1) | exact HB.out)) hb); clear HB; have HB := n0_; clear n0_; (try clear hb); (try clear hb2); (try clear hk); (try clear hi)))
    go_ret
    exact ⟨by first | rfl | (simp [errW_none, errW_some] <;> rfl) | (simp [*, errW_none, errW_some] <;> rfl), by repeat (first | (with_reducible first | exact HB.out | apply below_alloc | apply pw_below_drewN | apply below_drew1) | exact HB.out)⟩

/-- THE ONE PURE STATEMENT of bodkinlaw04_ConvWords: yours. -/
def bodkinlaw04_ConvWords.Pure : Prop := ∀ (a0 : Int), (Lit.int .u64 a0).wf = true → ∃ k, bodkinlaw04_ConvWords.f k a0 = some true
theorem bodkinlaw04_ConvWords.walk (P : bodkinlaw04_ConvWords.Pure) (a0 : Int) (w : World) (w0 : (Lit.int .u64 a0).wf = true) :
    Calls Try.prog 4 #[.int .u64 a0] w fun e w' => e = .returned (.bool true) ∧ Below w.heap.size w w' := by
  obtain ⟨k, h⟩ := P a0 w0
  refine (bodkinlaw04_ConvWords.calls k a0 true w h).mono ?_
  rintro e w' ⟨rfl, hd⟩
  exact ⟨rfl, hd⟩

-- NOT PRINTED: function 16 (bodkinref04_Promote)

-- NOT PRINTED: function 17 (bodkinref04_Demote)

-- NOT PRINTED: function 5 (bodkinlaw04_ConvConverts)

-- NOT PRINTED: function 6 (bodkinlaw04_ConvSizes)

-- NOT PRINTED: function 39 (bodkinref04_value)

-- NOT PRINTED: function 54 (math_archTrunc)

-- NOT PRINTED: function 59 (math_Abs)

-- NOT PRINTED: function 60 (math_Copysign)

-- NOT PRINTED: function 55 (math_trunc)

-- NOT PRINTED: function 40 (math_Trunc)

-- NOT PRINTED: function 18 (bodkinref04_Trunc)

-- NOT PRINTED: function 7 (bodkinlaw04_ConvTruncs)

end Go.Proofs.Ytjolaegjdfajbaa.PA
