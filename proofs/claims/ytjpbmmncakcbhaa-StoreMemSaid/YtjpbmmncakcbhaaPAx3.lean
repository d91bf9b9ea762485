/- Ytjpbmmncakcbhaa: Go functions as plain Lean functions, and that the calls come to them; written by a program of this session (wip/tools/mkprint.py). -/
import Derived.Test.YtjpbmmncakcbhaaPAx0
import Derived.Test.YtjpbmmncakcbhaaPAx1
namespace Go.Proofs.Ytjpbmmncakcbhaa.PA
open Go.RowKit Go.Proofs.YtjpbmmncakcbhaaW.PrintWords Go.Proofs.YtjpbmmncakcbhaaW.PrintLast Go.Proofs.YtjpbmmncakcbhaaW.PrintMore
attribute [local go_sem] max2_int min2_int max_two min_two max_three min_three max_four min_four   -- for this text's walks alone
set_option linter.unusedVariables false
set_option linter.unusedSimpArgs false

attribute [local go_sem high] eqA26
/-! ### bodkinref13_Same: function 13 -/
def bodkinref13_Same.l0 : Nat → List (S26) → List (S26) → Int → Option (Bool)
  | 0, _, _, _ => none
  | k + 1, x0, x1, x5 => if x5 < (x0.length : Int) then (if 0 ≤ x5 then (if x5 < (x1.length : Int) then (if (!(((rd_T26 x0 x5).f0) == ((rd_T26 x1 x5).f0)) || (!(((rd_T26 x0 x5).f1) == ((rd_T26 x1 x5).f1)) || (!(((rd_T26 x0 x5).f2) == ((rd_T26 x1 x5).f2)) || (!(((rd_T26 x0 x5).f3) == ((rd_T26 x1 x5).f3)))))) = true then (some false) else (bodkinref13_Same.l0 k x0 x1 (wrap64 (x5 + 1)))) else (none)) else (none)) else (some true)
def bodkinref13_Same.f (k : Nat) (l0 : List (S26)) (l1 : List (S26)) : Option (Bool) := if (l0.length : Int) = (l1.length : Int) then (bodkinref13_Same.l0 k l0 l1 0) else (some false)
theorem bodkinref13_Same.mono_l : ∀ k, (∀ y0 y1 y2, LeO (bodkinref13_Same.l0 k y0 y1 y2) (bodkinref13_Same.l0 (k + 1) y0 y1 y2))
  | 0 => fun _ _ _ r h => by simp [bodkinref13_Same.l0] at h
  | k + 1 => by
    have ih0 := bodkinref13_Same.mono_l k
    · intro y0 y1 y2
      unfold bodkinref13_Same.l0
      repeat' first
      | (with_reducible exact ih0 _ _ _)
      | (with_reducible exact LeO.refl _)
      | (with_reducible exact LeO.none _)
      | (with_reducible refine LeO.ite ?_ ?_)
      | (with_reducible refine LeO.bind ?_ (fun _ => ?_))
      | exact ih0 _ _ _
      | exact LeO.none _
      | refine LeO.ite ?_ ?_
      | refine LeO.bind ?_ (fun _ => ?_)
theorem bodkinref13_Same.mono : ∀ a0 a1 k, LeO (bodkinref13_Same.f k a0 a1) (bodkinref13_Same.f (k + 1) a0 a1) := by
  intro a0 a1 k
  have ih0 := bodkinref13_Same.mono_l k
  unfold bodkinref13_Same.f
  repeat' first
      | (with_reducible exact ih0 _ _ _)
      | (with_reducible exact LeO.refl _)
      | (with_reducible exact LeO.none _)
      | (with_reducible refine LeO.ite ?_ ?_)
      | (with_reducible refine LeO.bind ?_ (fun _ => ?_))
      | exact ih0 _ _ _
      | exact LeO.none _
      | refine LeO.ite ?_ ?_
      | refine LeO.bind ?_ (fun _ => ?_)
set_option maxHeartbeats 8000000 in
set_option maxRecDepth 100000 in
theorem bodkinref13_Same.calls (k : Nat) (A0 : Option Addr) (c0 : Nat) (l0 : List (S26)) (A1 : Option Addr) (c1 : Nat) (l1 : List (S26)) (r : Bool) (w : World) (hr0 : Kd.C k26 w A0 l0.length l0) (hc0 : l0.length ≤ c0) (hr1 : Kd.C k26 w A1 l1.length l1) (hc1 : l1.length ≤ c1) (h : bodkinref13_Same.f k l0 l1 = some r) :
    Calls Try.prog 13 #[.slice A0 l0.length c0, .slice A1 l1.length c1] w fun e w' => e = .returned (.bool r) ∧ Drawn0 w w' := by
  have hu26 := Try.underlying26
  have HR0 := Aside0.mk hr0
  have HC0 := Aside0.mk hc0
  clear hr0 hc0
  have HR1 := Aside0.mk hr1
  have HC1 := Aside0.mk hc1
  clear hr1 hc1
  have H : (if (l0.length : Int) = (l1.length : Int) then (bodkinref13_Same.l0 k l0 l1 0) else (some false)) = some r := h
  clear h
  by_cases c3 : (l0.length : Int) = (l1.length : Int)
  · rw [if_pos c3] at H
    have c3b0 : ((l0.length : Int) == (l1.length : Int)) = true := beq_iff_eq.mpr c3
    have c3b1 : ((l0.length : Int) != (l1.length : Int)) = false := bne_eq_false_iff_eq.mpr c3
    have c3b2 : (l0.length == l1.length) = true := by first | simpa using c3 | (simp at c3 ⊢; omega)
    clear c3
    have H' := Aside0.mk H
    clear H
    go_enter Try.func13, Try.ntmps13
    go_wp2
    repeat (go_quiet (fail); try go_wp2)
    try simp only [Act.put, List.setIfInBounds_toArray, List.set_cons_zero, List.set_cons_succ]
    go_loopg [5] k (fun kq v5 w' => ∃ (x5_1 : Int), v5 = .int .i64 x5_1 ∧ Aside0 (bodkinref13_Same.l0 kq l0 l1 x5_1 = some r) ∧ Aside0 (kq ≤ k) ∧ Drawn0 w w')
    case atStart => exact ⟨(0), (by first | rfl | (simp; done) | (simp [*]; done)), H', ⟨Nat.le_refl _⟩, by repeat (first | exact Drawn0.refl _ | apply Drawn0.step)⟩
    case round =>
      clear H'
      try clear c1
      try clear p2
      try clear c3
      try clear c3b0
      try clear c3b1
      try clear c3b2
      obtain ⟨x5_1, rfl, HA, HK1, ⟨m1, rfl⟩⟩ := hrel
      cases gk with
      | zero => exact absurd HA.out (by simp [bodkinref13_Same.l0])
      | succ k1 =>
        have H := HA.out
        clear HA
        simp only [bodkinref13_Same.l0] at H
        by_cases c4 : x5_1 < (l0.length : Int)
        · rw [if_pos c4] at H
          have c4b0 : decide (x5_1 < (l0.length : Int)) = true := decide_eq_true c4
          clear c4
          by_cases c5 : 0 ≤ x5_1
          · rw [if_pos c5] at H
            have c5b0 : decide (0 ≤ x5_1) = true := decide_eq_true c5
            clear c5
            by_cases c6 : x5_1 < (l1.length : Int)
            · rw [if_pos c6] at H
              have c6b0 : decide (x5_1 < (l1.length : Int)) = true := decide_eq_true c6
              clear c6
              by_cases c7 : (!(((rd_T26 l0 x5_1).f0) == ((rd_T26 l1 x5_1).f0)) || (!(((rd_T26 l0 x5_1).f1) == ((rd_T26 l1 x5_1).f1)) || (!(((rd_T26 l0 x5_1).f2) == ((rd_T26 l1 x5_1).f2)) || (!(((rd_T26 l0 x5_1).f3) == ((rd_T26 l1 x5_1).f3)))))) = true
              · rw [if_pos c7] at H
                have c7b0 : (!(((rd_T26 l0 x5_1).f0) == ((rd_T26 l1 x5_1).f0)) || (!(((rd_T26 l0 x5_1).f1) == ((rd_T26 l1 x5_1).f1)) || (!(((rd_T26 l0 x5_1).f2) == ((rd_T26 l1 x5_1).f2)) || (!(((rd_T26 l0 x5_1).f3) == ((rd_T26 l1 x5_1).f3)))))) = true := c7
                clear c7
                obtain rfl := Option.some.inj H
                have p147 : 0 ≤ (x5_1 : Int) := of_decide_eq_true (by first | (with_reducible assumption) | assumption)
                have q147 : x5_1 < (l0.length : Int) := of_decide_eq_true (by first | (with_reducible assumption) | assumption)
                obtain ⟨ad147, e147, hx147_0, hx147_1, hx147_2, hx147_3⟩ := at_T26 HR0.out x5_1 p147 q147
                cases e147
                replace p147 := eq_true p147
                replace q147 := eq_true q147
                have p148 : 0 ≤ (x5_1 : Int) := of_decide_eq_true (by first | (with_reducible assumption) | assumption)
                have q148 : x5_1 < (l1.length : Int) := of_decide_eq_true (by first | (with_reducible assumption) | assumption)
                obtain ⟨ad148, e148, hx148_0, hx148_1, hx148_2, hx148_3⟩ := at_T26 HR1.out x5_1 p148 q148
                cases e148
                replace p148 := eq_true p148
                replace q148 := eq_true q148
                go_wp2
                repeat (go_quiet (fail); try go_wp2)
                go_ret
                exact ⟨by first | rfl | (simp; done) | (simp [*]; done), by repeat (first | exact Drawn0.refl _ | apply Drawn0.step)⟩
              · rw [if_neg c7] at H
                have c7b0 : (!(((rd_T26 l0 x5_1).f0) == ((rd_T26 l1 x5_1).f0)) || (!(((rd_T26 l0 x5_1).f1) == ((rd_T26 l1 x5_1).f1)) || (!(((rd_T26 l0 x5_1).f2) == ((rd_T26 l1 x5_1).f2)) || (!(((rd_T26 l0 x5_1).f3) == ((rd_T26 l1 x5_1).f3)))))) = false := by simpa using c7
                clear c7
                have H' := Aside0.mk H
                clear H
                have p147 : 0 ≤ (x5_1 : Int) := of_decide_eq_true (by first | (with_reducible assumption) | assumption)
                have q147 : x5_1 < (l0.length : Int) := of_decide_eq_true (by first | (with_reducible assumption) | assumption)
                obtain ⟨ad147, e147, hx147_0, hx147_1, hx147_2, hx147_3⟩ := at_T26 HR0.out x5_1 p147 q147
                cases e147
                replace p147 := eq_true p147
                replace q147 := eq_true q147
                have p148 : 0 ≤ (x5_1 : Int) := of_decide_eq_true (by first | (with_reducible assumption) | assumption)
                have q148 : x5_1 < (l1.length : Int) := of_decide_eq_true (by first | (with_reducible assumption) | assumption)
                obtain ⟨ad148, e148, hx148_0, hx148_1, hx148_2, hx148_3⟩ := at_T26 HR1.out x5_1 p148 q148
                cases e148
                replace p148 := eq_true p148
                replace q148 := eq_true q148
                go_wp2
                repeat (go_quiet (fail); try go_wp2)
                go_roundg k1
                case measure => have := HK1.out; omega
                case rel => exact ⟨(wrap64 (x5_1 + 1)), (by first | rfl | (simp; done) | (simp [*]; done)), H', ⟨by have := HK1.out; omega⟩, by repeat (first | exact Drawn0.refl _ | apply Drawn0.step)⟩
            · rw [if_neg c6] at H
              exact absurd H (by simp)
          · rw [if_neg c5] at H
            exact absurd H (by simp)
        · rw [if_neg c4] at H
          have c4b0 : decide (x5_1 < (l0.length : Int)) = false := decide_eq_false c4
          clear c4
          obtain rfl := Option.some.inj H
          go_wp2
          repeat (go_quiet (fail); try go_wp2)
          go_ret
          exact ⟨by first | rfl | (simp; done) | (simp [*]; done), by repeat (first | exact Drawn0.refl _ | apply Drawn0.step)⟩
  · rw [if_neg c3] at H
    have c3b0 : ((l0.length : Int) == (l1.length : Int)) = false := beq_eq_false_iff_ne.mpr c3
    have c3b1 : ((l0.length : Int) != (l1.length : Int)) = true := bne_iff_ne.mpr c3
    have c3b2 : (l0.length == l1.length) = false := by first | simpa using c3 | (simp at c3 ⊢; omega)
    obtain rfl := Option.some.inj H
    go_enter Try.func13, Try.ntmps13
    go_wp2
    repeat (go_quiet (fail); try go_wp2)
    go_ret
    exact ⟨by first | rfl | (simp; done) | (simp [*]; done), by repeat (first | exact Drawn0.refl _ | apply Drawn0.step)⟩

-- NOT PRINTED: function 3 (bodkinlaw13_StoreGrows)

/-! ### bodkinref13_In: function 21 -/
def bodkinref13_In.f (a0 : Int) (a1 : Int) (a2 : Int) : Option (Bool) := if a0 ≤ (IntKind.u64.wrap (a2)) then (if a1 ≤ (IntKind.u64.wrap (a2)) then (some (decide (a0 ≤ (IntKind.u64.wrap ((IntKind.u64.wrap (a2)) - a1))))) else (some false)) else (some false)
set_option maxHeartbeats 8000000 in
set_option maxRecDepth 100000 in
theorem bodkinref13_In.calls (a0 : Int) (a1 : Int) (a2 : Int) (r : Bool) (w : World) (h : bodkinref13_In.f a0 a1 a2 = some r) :
    Calls Try.prog 21 #[.int .u64 a0, .int .u64 a1, .int .i64 a2] w fun e w' => e = .returned (.bool r) ∧ Drawn0 w w' := by
  have H : (if a0 ≤ (IntKind.u64.wrap (a2)) then (if a1 ≤ (IntKind.u64.wrap (a2)) then (some (decide (a0 ≤ (IntKind.u64.wrap ((IntKind.u64.wrap (a2)) - a1))))) else (some false)) else (some false)) = some r := h
  clear h
  by_cases c4 : a0 ≤ (IntKind.u64.wrap (a2))
  · rw [if_pos c4] at H
    have c4b0 : decide (a0 ≤ (IntKind.u64.wrap (a2))) = true := decide_eq_true c4
    clear c4
    by_cases c5 : a1 ≤ (IntKind.u64.wrap (a2))
    · rw [if_pos c5] at H
      have c5b0 : decide (a1 ≤ (IntKind.u64.wrap (a2))) = true := decide_eq_true c5
      clear c5
      obtain rfl := Option.some.inj H
      go_enter Try.func21, Try.ntmps21
      go_wp2
      go_ret
      exact ⟨by first | rfl | (simp; done) | (simp [*]; done), by repeat (first | exact Drawn0.refl _ | apply Drawn0.step)⟩
    · rw [if_neg c5] at H
      have c5b0 : decide (a1 ≤ (IntKind.u64.wrap (a2))) = false := decide_eq_false c5
      clear c5
      obtain rfl := Option.some.inj H
      go_enter Try.func21, Try.ntmps21
      go_wp2
      go_ret
      exact ⟨by first | rfl | (simp; done) | (simp [*]; done), by repeat (first | exact Drawn0.refl _ | apply Drawn0.step)⟩
  · rw [if_neg c4] at H
    have c4b0 : decide (a0 ≤ (IntKind.u64.wrap (a2))) = false := decide_eq_false c4
    clear c4
    obtain rfl := Option.some.inj H
    go_enter Try.func21, Try.ntmps21
    go_wp2
    go_ret
    exact ⟨by first | rfl | (simp; done) | (simp [*]; done), by repeat (first | exact Drawn0.refl _ | apply Drawn0.step)⟩

/-! ### bodkinref13_Bytes: function 15 -/
def bodkinref13_Bytes.f (l0 : List Int) (a1 : Int) (a2 : Int) (a3 : Int) (l4 : List Int) : Option (List Int × Int) := (bodkinref13_In.f a2 a3 (l4.length : Int)).bind fun t151 => ((bodkinref13_In.f a1 a3 (l0.length : Int)).bind fun t152 => (if t151 = true then (if t152 = true then (if 0 ≤ a1 then (if a1 ≤ (l0.length : Int) then ((some (l0.take (a1 : Int).toNat : List Int)).bind fun y153 => (if ([] : List Int).length + y153.length < 140737488355328 then ((some (([] : List Int) ++ y153 : List Int)).bind fun y157 => (if 0 ≤ a2 then (if a2 ≤ (IntKind.u64.wrap (a2 + a3)) then (if (IntKind.u64.wrap (a2 + a3)) ≤ (l4.length : Int) then ((some ((l4.take ((IntKind.u64.wrap (a2 + a3)) : Int).toNat).drop (a2 : Int).toNat : List Int)).bind fun y160 => (if y157.length + y160.length < 140737488355328 then ((some (y157 ++ y160 : List Int)).bind fun y164 => (if 0 ≤ (IntKind.u64.wrap (a1 + a3)) then (if (IntKind.u64.wrap (a1 + a3)) ≤ (l0.length : Int) then ((some (l0.drop ((IntKind.u64.wrap (a1 + a3)) : Int).toNat : List Int)).bind fun y167 => (if y164.length + y167.length < 140737488355328 then (some ((y164 ++ y167), 0)) else (none))) else (none)) else (none))) else (none))) else (none)) else (none)) else (none))) else (none))) else (none)) else (none)) else (some (l0, 44))) else (some (l0, 44))))
set_option maxHeartbeats 8000000 in
set_option maxRecDepth 100000 in
theorem bodkinref13_Bytes.calls (P0_ : Nat → Prop) (u9000_ : Value) (l0 : List Int) (a1 : Int) (a2 : Int) (a3 : Int) (A4 : Option Addr) (c4 : Nat) (l4 : List Int) (r1 : List Int) (r2 : Int) (w0 w : World) (hB : Below w0.heap.size w0 w) (ho0 : Kd.R (Kd.int .u8) 5 w w0.heap.size P0_ u9000_ l0) (hr4 : ∀ W_, Kept w W_ (fun k_ => P0_ k_) → Kd.C (Kd.int .u8) W_ A4 l4.length l4) (hc4 : l4.length ≤ c4) (h : bodkinref13_Bytes.f l0 a1 a2 a3 l4 = some (r1, r2)) :
    Calls Try.prog 15 #[u9000_, .int .u64 a1, .int .u64 a2, .int .u64 a3, .slice A4 l4.length c4] w fun e w' => ∃ v0_ : Value, e = .returned (.tuple #[v0_, .int .i64 r2]) ∧ Kd.R (Kd.int .u8) 5 w' w0.heap.size (fun k_ => (P0_ k_ ∨ w.heap.size ≤ k_)) v0_ r1 ∧ Below w0.heap.size w0 w' ∧ Kept w w' (fun k_ => P0_ k_) := by
  have HO0 := Aside0.mk (show Kd.R (Kd.int .u8) 5 w w0.heap.size (fun k_ => (P0_ k_ ∨ w.heap.size ≤ k_)) u9000_ l0 from Kd.R_mono ho0 (fun k_ hk => (.inl hk)))
  have HR4 := Aside0.mk hr4
  have HC4 := Aside0.mk hc4
  clear hr4 hc4
  have HK := Aside0.mk (Kept.refl w (fun k_ => P0_ k_))
  have HW0 := Aside0.mk hB.size
  have HB := Aside0.mk hB
  clear hB
  have H : ((bodkinref13_In.f a2 a3 (l4.length : Int)).bind fun t151 => ((bodkinref13_In.f a1 a3 (l0.length : Int)).bind fun t152 => (if t151 = true then (if t152 = true then (if 0 ≤ a1 then (if a1 ≤ (l0.length : Int) then ((some (l0.take (a1 : Int).toNat : List Int)).bind fun y153 => (if ([] : List Int).length + y153.length < 140737488355328 then ((some (([] : List Int) ++ y153 : List Int)).bind fun y157 => (if 0 ≤ a2 then (if a2 ≤ (IntKind.u64.wrap (a2 + a3)) then (if (IntKind.u64.wrap (a2 + a3)) ≤ (l4.length : Int) then ((some ((l4.take ((IntKind.u64.wrap (a2 + a3)) : Int).toNat).drop (a2 : Int).toNat : List Int)).bind fun y160 => (if y157.length + y160.length < 140737488355328 then ((some (y157 ++ y160 : List Int)).bind fun y164 => (if 0 ≤ (IntKind.u64.wrap (a1 + a3)) then (if (IntKind.u64.wrap (a1 + a3)) ≤ (l0.length : Int) then ((some (l0.drop ((IntKind.u64.wrap (a1 + a3)) : Int).toNat : List Int)).bind fun y167 => (if y164.length + y167.length < 140737488355328 then (some ((y164 ++ y167), 0)) else (none))) else (none)) else (none))) else (none))) else (none)) else (none)) else (none))) else (none))) else (none)) else (none)) else (some (l0, 44))) else (some (l0, 44))))) = some (r1, r2) := h
  clear h
  replace H := Option.bind_eq_some_iff.mp H
  obtain ⟨t151, A60, H⟩ := H
  replace H : ((bodkinref13_In.f a1 a3 (l0.length : Int)).bind fun t152 => (if t151 = true then (if t152 = true then (if 0 ≤ a1 then (if a1 ≤ (l0.length : Int) then ((some (l0.take (a1 : Int).toNat : List Int)).bind fun y153 => (if ([] : List Int).length + y153.length < 140737488355328 then ((some (([] : List Int) ++ y153 : List Int)).bind fun y157 => (if 0 ≤ a2 then (if a2 ≤ (IntKind.u64.wrap (a2 + a3)) then (if (IntKind.u64.wrap (a2 + a3)) ≤ (l4.length : Int) then ((some ((l4.take ((IntKind.u64.wrap (a2 + a3)) : Int).toNat).drop (a2 : Int).toNat : List Int)).bind fun y160 => (if y157.length + y160.length < 140737488355328 then ((some (y157 ++ y160 : List Int)).bind fun y164 => (if 0 ≤ (IntKind.u64.wrap (a1 + a3)) then (if (IntKind.u64.wrap (a1 + a3)) ≤ (l0.length : Int) then ((some (l0.drop ((IntKind.u64.wrap (a1 + a3)) : Int).toNat : List Int)).bind fun y167 => (if y164.length + y167.length < 140737488355328 then (some ((y164 ++ y167), 0)) else (none))) else (none)) else (none))) else (none))) else (none)) else (none)) else (none))) else (none))) else (none)) else (none)) else (some (l0, 44))) else (some (l0, 44)))) = some (r1, r2) := H
  have A6 := Aside0.mk A60
  clear A60
  replace H := Option.bind_eq_some_iff.mp H
  obtain ⟨t152, A70, H⟩ := H
  replace H : (if t151 = true then (if t152 = true then (if 0 ≤ a1 then (if a1 ≤ (l0.length : Int) then ((some (l0.take (a1 : Int).toNat : List Int)).bind fun y153 => (if ([] : List Int).length + y153.length < 140737488355328 then ((some (([] : List Int) ++ y153 : List Int)).bind fun y157 => (if 0 ≤ a2 then (if a2 ≤ (IntKind.u64.wrap (a2 + a3)) then (if (IntKind.u64.wrap (a2 + a3)) ≤ (l4.length : Int) then ((some ((l4.take ((IntKind.u64.wrap (a2 + a3)) : Int).toNat).drop (a2 : Int).toNat : List Int)).bind fun y160 => (if y157.length + y160.length < 140737488355328 then ((some (y157 ++ y160 : List Int)).bind fun y164 => (if 0 ≤ (IntKind.u64.wrap (a1 + a3)) then (if (IntKind.u64.wrap (a1 + a3)) ≤ (l0.length : Int) then ((some (l0.drop ((IntKind.u64.wrap (a1 + a3)) : Int).toNat : List Int)).bind fun y167 => (if y164.length + y167.length < 140737488355328 then (some ((y164 ++ y167), 0)) else (none))) else (none)) else (none))) else (none))) else (none)) else (none)) else (none))) else (none))) else (none)) else (none)) else (some (l0, 44))) else (some (l0, 44))) = some (r1, r2) := H
  have A7 := Aside0.mk A70
  clear A70
  by_cases c8 : t151 = true
  · subst c8
    have H1 : (if t152 = true then (if 0 ≤ a1 then (if a1 ≤ (l0.length : Int) then ((some (l0.take (a1 : Int).toNat : List Int)).bind fun y153 => (if ([] : List Int).length + y153.length < 140737488355328 then ((some (([] : List Int) ++ y153 : List Int)).bind fun y157 => (if 0 ≤ a2 then (if a2 ≤ (IntKind.u64.wrap (a2 + a3)) then (if (IntKind.u64.wrap (a2 + a3)) ≤ (l4.length : Int) then ((some ((l4.take ((IntKind.u64.wrap (a2 + a3)) : Int).toNat).drop (a2 : Int).toNat : List Int)).bind fun y160 => (if y157.length + y160.length < 140737488355328 then ((some (y157 ++ y160 : List Int)).bind fun y164 => (if 0 ≤ (IntKind.u64.wrap (a1 + a3)) then (if (IntKind.u64.wrap (a1 + a3)) ≤ (l0.length : Int) then ((some (l0.drop ((IntKind.u64.wrap (a1 + a3)) : Int).toNat : List Int)).bind fun y167 => (if y164.length + y167.length < 140737488355328 then (some ((y164 ++ y167), 0)) else (none))) else (none)) else (none))) else (none))) else (none)) else (none)) else (none))) else (none))) else (none)) else (none)) else (some (l0, 44))) = some (r1, r2) := by rw [if_pos rfl] at H; exact H
    clear H
    have H := H1
    clear H1
    by_cases c9 : t152 = true
    · subst c9
      have H1 : (if 0 ≤ a1 then (if a1 ≤ (l0.length : Int) then ((some (l0.take (a1 : Int).toNat : List Int)).bind fun y153 => (if ([] : List Int).length + y153.length < 140737488355328 then ((some (([] : List Int) ++ y153 : List Int)).bind fun y157 => (if 0 ≤ a2 then (if a2 ≤ (IntKind.u64.wrap (a2 + a3)) then (if (IntKind.u64.wrap (a2 + a3)) ≤ (l4.length : Int) then ((some ((l4.take ((IntKind.u64.wrap (a2 + a3)) : Int).toNat).drop (a2 : Int).toNat : List Int)).bind fun y160 => (if y157.length + y160.length < 140737488355328 then ((some (y157 ++ y160 : List Int)).bind fun y164 => (if 0 ≤ (IntKind.u64.wrap (a1 + a3)) then (if (IntKind.u64.wrap (a1 + a3)) ≤ (l0.length : Int) then ((some (l0.drop ((IntKind.u64.wrap (a1 + a3)) : Int).toNat : List Int)).bind fun y167 => (if y164.length + y167.length < 140737488355328 then (some ((y164 ++ y167), 0)) else (none))) else (none)) else (none))) else (none))) else (none)) else (none)) else (none))) else (none))) else (none)) else (none)) = some (r1, r2) := by rw [if_pos rfl] at H; exact H
      clear H
      have H := H1
      clear H1
      by_cases c10 : 0 ≤ a1
      · rw [if_pos c10] at H
        have c10b0 := eq_true c10
        have c10b1 : decide (0 ≤ a1) = true := decide_eq_true c10
        clear c10
        by_cases c11 : a1 ≤ (l0.length : Int)
        · rw [if_pos c11] at H
          have c11b0 := eq_true c11
          have c11b1 : decide (a1 ≤ (l0.length : Int)) = true := decide_eq_true c11
          clear c11
          obtain ⟨y153, hy153⟩ : ∃ y_ : List Int, y_ = (l0.take (a1 : Int).toNat) := ⟨_, rfl⟩
          replace H : (if ([] : List Int).length + y153.length < 140737488355328 then ((some (([] : List Int) ++ y153 : List Int)).bind fun y157 => (if 0 ≤ a2 then (if a2 ≤ (IntKind.u64.wrap (a2 + a3)) then (if (IntKind.u64.wrap (a2 + a3)) ≤ (l4.length : Int) then ((some ((l4.take ((IntKind.u64.wrap (a2 + a3)) : Int).toNat).drop (a2 : Int).toNat : List Int)).bind fun y160 => (if y157.length + y160.length < 140737488355328 then ((some (y157 ++ y160 : List Int)).bind fun y164 => (if 0 ≤ (IntKind.u64.wrap (a1 + a3)) then (if (IntKind.u64.wrap (a1 + a3)) ≤ (l0.length : Int) then ((some (l0.drop ((IntKind.u64.wrap (a1 + a3)) : Int).toNat : List Int)).bind fun y167 => (if y164.length + y167.length < 140737488355328 then (some ((y164 ++ y167), 0)) else (none))) else (none)) else (none))) else (none))) else (none)) else (none)) else (none))) else (none)) = some (r1, r2) := by first | (rw [hy153]; with_reducible exact H) | (have H2_ := (Option.bind_some _ _).symm.trans H; rw [hy153]; with_reducible exact H2_) | (have H2_ := (Option.bind_some _ _).symm.trans H; with_reducible exact H2_) | with_reducible exact H | (rw [hy153]; exact H) | exact H
          have Ny153 := Aside0.mk hy153
          clear hy153
          by_cases c12 : ([] : List Int).length + y153.length < 140737488355328
          · rw [if_pos c12] at H
            have LMc12 := Aside0.mk c12
            clear c12
            obtain ⟨y157, hy157⟩ : ∃ y_ : List Int, y_ = (([] : List Int) ++ y153) := ⟨_, rfl⟩
            replace H : (if 0 ≤ a2 then (if a2 ≤ (IntKind.u64.wrap (a2 + a3)) then (if (IntKind.u64.wrap (a2 + a3)) ≤ (l4.length : Int) then ((some ((l4.take ((IntKind.u64.wrap (a2 + a3)) : Int).toNat).drop (a2 : Int).toNat : List Int)).bind fun y160 => (if y157.length + y160.length < 140737488355328 then ((some (y157 ++ y160 : List Int)).bind fun y164 => (if 0 ≤ (IntKind.u64.wrap (a1 + a3)) then (if (IntKind.u64.wrap (a1 + a3)) ≤ (l0.length : Int) then ((some (l0.drop ((IntKind.u64.wrap (a1 + a3)) : Int).toNat : List Int)).bind fun y167 => (if y164.length + y167.length < 140737488355328 then (some ((y164 ++ y167), 0)) else (none))) else (none)) else (none))) else (none))) else (none)) else (none)) else (none)) = some (r1, r2) := by first | (rw [hy157]; with_reducible exact H) | (have H2_ := (Option.bind_some _ _).symm.trans H; rw [hy157]; with_reducible exact H2_) | (have H2_ := (Option.bind_some _ _).symm.trans H; with_reducible exact H2_) | with_reducible exact H | (rw [hy157]; exact H) | exact H
            have Ny157 := Aside0.mk hy157
            clear hy157
            by_cases c13 : 0 ≤ a2
            · rw [if_pos c13] at H
              have c13b0 := eq_true c13
              have c13b1 : decide (0 ≤ a2) = true := decide_eq_true c13
              clear c13
              by_cases c14 : a2 ≤ (IntKind.u64.wrap (a2 + a3))
              · rw [if_pos c14] at H
                have c14b0 := eq_true c14
                have c14b1 : decide (a2 ≤ (IntKind.u64.wrap (a2 + a3))) = true := decide_eq_true c14
                by_cases c15 : (IntKind.u64.wrap (a2 + a3)) ≤ (l4.length : Int)
                · rw [if_pos c15] at H
                  have c15b0 := eq_true c15
                  have c15b1 : decide ((IntKind.u64.wrap (a2 + a3)) ≤ (l4.length : Int)) = true := decide_eq_true c15
                  obtain ⟨y160, hy160⟩ : ∃ y_ : List Int, y_ = ((l4.take ((IntKind.u64.wrap (a2 + a3)) : Int).toNat).drop (a2 : Int).toNat) := ⟨_, rfl⟩
                  replace H : (if y157.length + y160.length < 140737488355328 then ((some (y157 ++ y160 : List Int)).bind fun y164 => (if 0 ≤ (IntKind.u64.wrap (a1 + a3)) then (if (IntKind.u64.wrap (a1 + a3)) ≤ (l0.length : Int) then ((some (l0.drop ((IntKind.u64.wrap (a1 + a3)) : Int).toNat : List Int)).bind fun y167 => (if y164.length + y167.length < 140737488355328 then (some ((y164 ++ y167), 0)) else (none))) else (none)) else (none))) else (none)) = some (r1, r2) := by first | (rw [hy160]; with_reducible exact H) | (have H2_ := (Option.bind_some _ _).symm.trans H; rw [hy160]; with_reducible exact H2_) | (have H2_ := (Option.bind_some _ _).symm.trans H; with_reducible exact H2_) | with_reducible exact H | (rw [hy160]; exact H) | exact H
                  have Ny160 := Aside0.mk hy160
                  clear hy160
                  by_cases c16 : y157.length + y160.length < 140737488355328
                  · rw [if_pos c16] at H
                    have LMc16 := Aside0.mk c16
                    clear c16
                    obtain ⟨y164, hy164⟩ : ∃ y_ : List Int, y_ = (y157 ++ y160) := ⟨_, rfl⟩
                    replace H : (if 0 ≤ (IntKind.u64.wrap (a1 + a3)) then (if (IntKind.u64.wrap (a1 + a3)) ≤ (l0.length : Int) then ((some (l0.drop ((IntKind.u64.wrap (a1 + a3)) : Int).toNat : List Int)).bind fun y167 => (if y164.length + y167.length < 140737488355328 then (some ((y164 ++ y167), 0)) else (none))) else (none)) else (none)) = some (r1, r2) := by first | (rw [hy164]; with_reducible exact H) | (have H2_ := (Option.bind_some _ _).symm.trans H; rw [hy164]; with_reducible exact H2_) | (have H2_ := (Option.bind_some _ _).symm.trans H; with_reducible exact H2_) | with_reducible exact H | (rw [hy164]; exact H) | exact H
                    have Ny164 := Aside0.mk hy164
                    clear hy164
                    obtain ⟨ji17, hji17⟩ : ∃ j_ : Int, (IntKind.u64.wrap (a1 + a3)) = j_ := ⟨_, rfl⟩
                    replace H : (if 0 ≤ (ji17) then (if (ji17) ≤ (l0.length : Int) then ((some (l0.drop ((ji17) : Int).toNat : List Int)).bind fun y167 => (if y164.length + y167.length < 140737488355328 then (some ((y164 ++ y167), 0)) else (none))) else (none)) else (none)) = some (r1, r2) := by first | (rw [hji17] at H; exact H) | (simp only [hji17] at H ⊢; exact H)
                    (try rw [hji17] at A6)
                    (try rw [hji17] at A7)
                    by_cases c18 : 0 ≤ (ji17)
                    · rw [if_pos c18] at H
                      have c18b0 := eq_true c18
                      have c18b1 : decide (0 ≤ (ji17)) = true := decide_eq_true c18
                      clear c18
                      by_cases c19 : (ji17) ≤ (l0.length : Int)
                      · rw [if_pos c19] at H
                        have c19b0 := eq_true c19
                        have c19b1 : decide ((ji17) ≤ (l0.length : Int)) = true := decide_eq_true c19
                        clear c19
                        obtain ⟨y167, hy167⟩ : ∃ y_ : List Int, y_ = (l0.drop ((ji17) : Int).toNat) := ⟨_, rfl⟩
                        replace H : (if y164.length + y167.length < 140737488355328 then (some ((y164 ++ y167), 0)) else (none)) = some (r1, r2) := by first | (rw [hy167]; with_reducible exact H) | (have H2_ := (Option.bind_some _ _).symm.trans H; rw [hy167]; with_reducible exact H2_) | (have H2_ := (Option.bind_some _ _).symm.trans H; with_reducible exact H2_) | with_reducible exact H | (rw [hy167]; exact H) | exact H
                        have Ny167 := Aside0.mk hy167
                        clear hy167
                        by_cases c20 : y164.length + y167.length < 140737488355328
                        · rw [if_pos c20] at H
                          have LMc20 := Aside0.mk c20
                          clear c20
                          obtain ⟨y171, hy171⟩ : ∃ y_ : List Int, y_ = (y164 ++ y167) := ⟨_, rfl⟩
                          replace H : (some (y171, 0)) = some (r1, r2) := by first | (rw [hy171]; with_reducible exact H) | (have H2_ := (Option.bind_some _ _).symm.trans H; rw [hy171]; with_reducible exact H2_) | (have H2_ := (Option.bind_some _ _).symm.trans H; with_reducible exact H2_) | with_reducible exact H | (rw [hy171]; exact H) | exact H
                          have Ny171 := Aside0.mk hy171
                          clear hy171
                          simp only [Option.some.injEq, Prod.mk.injEq] at H
                          obtain ⟨rfl, rfl⟩ := H
                          go_enter Try.func15, Try.ntmps15
                          go_wp2_with (first | ((with_reducible refine gate_callee (f := 21) rfl ?_); refine goesL_ (some 19) rfl rfl Try.func21 (by kernel_rfl) rfl #[.int .u64 a2, .int .u64 a3, .int .i64 (l4.length : Int)] rfl (by (try simp only [List.map_toArray, List.map_cons, List.map_nil]); first | done | rfl | (simp only [List.length_drop, List.length_take]; rfl)) ?_; (with_reducible refine (bodkinref13_In.calls a2 a3 (l4.length : Int) true _ A6.out).mono ?_); rintro e w' ⟨rfl, ⟨nd, rfl⟩⟩; refine ⟨_, rfl, ?_⟩; obtain ⟨Ao21, co21, eo21⟩ := Kd.R_slice HO0.out; subst eo21) | ((with_reducible refine gate_callee (f := 21) rfl ?_); refine goesL_ (some 24) rfl rfl Try.func21 (by kernel_rfl) rfl #[.int .u64 a1, .int .u64 a3, .int .i64 (l0.length : Int)] rfl (by (try simp only [List.map_toArray, List.map_cons, List.map_nil]); first | done | rfl | (simp only [List.length_drop, List.length_take]; rfl)) ?_; (with_reducible refine (bodkinref13_In.calls a1 a3 (l0.length : Int) true _ A7.out).mono ?_); rintro e w' ⟨rfl, ⟨nd, rfl⟩⟩; refine ⟨_, rfl, ?_⟩; have q22 : (a1 : Int) ≤ ((l0.length : Int) : Int) := of_decide_eq_true (by first | (with_reducible assumption) | assumption); obtain ⟨i022, hi022, _, hsz22, _⟩ := info_parts info5; have hroom22 : l0.length ≤ co21 := (Kd.R_reads' HO0.out).2.1; have hC22 : Kd.C (Kd.int .u8) _ Ao21 l0.length l0 := (Kd.R_reads' HO0.out).2.2; have hcut22 := fun (kk_ : IntKind) => cut_to (P := Try.prog) 29 5 kk_ Try.underlying29 hi022 Ao21 l0.length co21 a1 (of_decide_eq_true (by first | (with_reducible assumption) | assumption)) q22 hroom22; have hr22 := Kd.C_take (m := (a1 : Int).toNat) hC22 (by omega); have hy22 : y153.length = (a1 : Int).toNat := (by rw [Ny153.out, List.length_take]; omega); rw [← Ny153.out] at hr22; rw [← hy22] at hcut22; have HR156 := Aside0.mk hr22; have HC156 := Aside0.mk (show y153.length ≤ co21 from by omega); clear hr22 hC22 hroom22 hi022 hsz22; have KY22 := Aside0.mk hy22; clear hy22; have KL22 := Aside0.mk (show (a1 : Int).toNat ≤ l0.length from by omega); replace q22 := eq_true q22) | ((with_reducible refine gate_builtin (b := .append) (xs := #[.tmp 32, .tmp 35]) rfl ?_); at_builtin; refine Kd.R_append_rows (Kd.int .u8) (w0 := w0) w0.heap.size rfl (.tmp 32) (.tmp 35) 29 5 (.int .u8 0) 1 rfl Try.underlying29 info5 rfl (by decide) (by omega) (.slice none 0 0) ([] : List Int) y153 _ _ _ (fun k_ => (P0_ k_ ∨ w.heap.size ≤ k_) ∧ some k_ ≠ (.slice Ao21 l0.length co21 : Value).ownBlock) (fun _ => False) rfl rfl ?aO ?aR (fun _ _ h => h) (fun _ h => h.elim) ?aF ?aB ?aS ?aL ?_; (case aR => repeat (first | exact (by repeat (first | (with_reducible exact HR156.out) | (with_reducible refine Kd.C_alloc ?_ _) | (with_reducible refine Kd.C_drewN ?_ _) | (with_reducible refine Kd.C_drew ?_) | exact HR156.out)) | (with_reducible refine Kd.C_alloc ?_ _) | (with_reducible refine Kd.C_drewN ?_ _) | (with_reducible refine Kd.C_drew ?_))); (case aB => exact (by repeat (first | (with_reducible first | exact HB.out | apply below_alloc | apply pw_below_drewN | apply below_drew1) | exact HB.out))); (case aF => exact (fun k_ hk => ⟨(.inr (Nat.le_trans (by first | exact HK.out.1 | exact (show Kept w _ (fun k_ => P0_ k_) from by repeat (first | (with_reducible first | exact HK.out | apply Kept.alloc | apply Kept.drewN | apply Kept.drew) | exact HK.out)).1) hk)), Kd.fresh' (Kd.R_lt (by (with_reducible repeat (first | apply Kd.R_alloc | apply Kd.R_drewN | apply Kd.R_drew)); exact HO0.out)) k_ hk⟩)); (case aO => exact ((Kd.R_nil _ _ _ _ (fun k_ => (P0_ k_ ∨ w.heap.size ≤ k_) ∧ some k_ ≠ (.slice Ao21 l0.length co21 : Value).ownBlock)))); (case aS => exact (below_size (by repeat (first | (with_reducible first | exact HB.out | apply below_alloc | apply pw_below_drewN | apply below_drew1) | exact HB.out)))); (case aL => have := LMc12.out; omega); intro v158 w23 ho hb hg hat; rw [← Ny157.out] at ho; have n0_ := Aside0.mk (Kd.R_after (Kd.R_apart_nil (by (with_reducible repeat (first | apply Kd.R_alloc | apply Kd.R_drewN | apply Kd.R_drew)); exact HO0.out)) hg hat); have n1_ := Aside0.mk (hb); have n2_ := Aside0.mk (Kept.of_grown (S := (fun k_ => P0_ k_)) hg (by repeat (first | (with_reducible first | exact HK.out | apply Kept.alloc | apply Kept.drewN | apply Kept.drew) | exact HK.out)) (fun k_ e_ => by simp [Value.ownBlock] at e_)); have n3_ := Aside0.mk ((show Kd.C (Kd.int .u8) w23 Ao21 y153.length y153 from by rw [Ny153.out]; exact Kd.C_take (m := (a1 : Int).toNat) ((Kd.R_reads' (Kd.R_after (Kd.R_apart_nil (by (with_reducible repeat (first | apply Kd.R_alloc | apply Kd.R_drewN | apply Kd.R_drew)); exact HO0.out)) hg hat)).2.2) KL22.out)); have n4_ := Aside0.mk (ho); clear HO0; clear HB; clear HK; clear HR156; have HO0 := n0_; have HB := n1_; have HK := n2_; have HR156 := n3_; have HO159 := n4_; clear n0_ n1_ n2_ n3_ n4_; clear ho hb hg hat; have q24 : ((IntKind.u64.wrap (a2 + a3)) : Int) ≤ ((l4.length : Int) : Int) := of_decide_eq_true (by first | (with_reducible assumption) | assumption); obtain ⟨i024, hi024, _, hsz24, _⟩ := info_parts info5; have hroom24 : l4.length ≤ c4 := HC4.out; have hC24 : Kd.C (Kd.int .u8) _ A4 l4.length l4 := (Kd.C_kept_now HR4.out HK.out); have ql24 : (a2 : Int) ≤ ((IntKind.u64.wrap (a2 + a3)) : Int) := of_decide_eq_true (by first | (with_reducible assumption) | assumption); have q024 : (0 : Int) ≤ (a2 : Int) := of_decide_eq_true (by first | (with_reducible assumption) | assumption); have hcut24 := fun (kk_ kk2_ : IntKind) => cut_mid (P := Try.prog) 29 5 kk_ kk2_ Try.underlying29 hi024 1 hsz24 A4 l4.length c4 a2 (IntKind.u64.wrap (a2 + a3)) q024 ql24 q24 hroom24; have hr24 := Kd.C_mid (lo := (a2 : Int).toNat) (hi := ((IntKind.u64.wrap (a2 + a3)) : Int).toNat) (c := c4) hC24 (by omega) (by omega) hroom24; obtain ⟨A24, hA24⟩ : ∃ A1, A1 = (if c4 = (a2 : Int).toNat then A4 else (A4 : Option Addr).map (·.add ((a2 : Int).toNat * 1))) := ⟨_, rfl⟩; obtain ⟨c24, hc24⟩ : ∃ c1, c1 = c4 - (a2 : Int).toNat := ⟨_, rfl⟩; have hy24 : y160.length = ((IntKind.u64.wrap (a2 + a3)) : Int).toNat - (a2 : Int).toNat := (by rw [Ny160.out, List.length_drop, List.length_take] <;> omega); rw [show ((l4).take ((IntKind.u64.wrap (a2 + a3)) : Int).toNat).drop (a2 : Int).toNat = y160 from Ny160.out.symm] at hr24; replace hr24 : Kd.C (Kd.int .u8) _ A24 y160.length y160 := (by rw [hA24]; exact hr24); rw [← hy24, ← hA24, ← hc24] at hcut24; have HR163 := Aside0.mk hr24; have HC163 := Aside0.mk (show y160.length ≤ c24 from by rw [hy24, hc24]; exact Nat.sub_le_sub_right (Nat.le_trans (by omega) hroom24) _); clear hr24 hC24 hroom24 hi024 hsz24 hc24; have KY24 := Aside0.mk hy24; have KA24 := Aside0.mk hA24; clear hy24 hA24; have KL24 := Aside0.mk (show ((IntKind.u64.wrap (a2 + a3)) : Int).toNat ≤ l4.length from by omega); have KM24 := Aside0.mk (show (a2 : Int).toNat ≤ ((IntKind.u64.wrap (a2 + a3)) : Int).toNat from by omega); replace q24 := eq_true q24) | ((with_reducible refine gate_builtin (b := .append) (xs := #[.tmp 37, .tmp 43]) rfl ?_); at_builtin; refine Kd.R_append_rows (Kd.int .u8) (w0 := w0) w0.heap.size rfl (.tmp 37) (.tmp 43) 29 5 (.int .u8 0) 1 rfl Try.underlying29 info5 rfl (by decide) (by omega) v158 y157 y160 _ _ _ (fun k_ => (P0_ k_ ∨ w.heap.size ≤ k_) ∧ some k_ ≠ (.slice Ao21 l0.length co21 : Value).ownBlock) (fun _ => False) rfl rfl ?aO ?aR (fun _ _ h => h) (fun _ h => h.elim) ?aF ?aB ?aS ?aL ?_; (case aR => repeat (first | exact (by repeat (first | (with_reducible exact HR163.out) | (with_reducible refine Kd.C_alloc ?_ _) | (with_reducible refine Kd.C_drewN ?_ _) | (with_reducible refine Kd.C_drew ?_) | exact HR163.out)) | (with_reducible refine Kd.C_alloc ?_ _) | (with_reducible refine Kd.C_drewN ?_ _) | (with_reducible refine Kd.C_drew ?_))); (case aB => exact (by repeat (first | (with_reducible first | exact HB.out | apply below_alloc | apply pw_below_drewN | apply below_drew1) | exact HB.out))); (case aF => exact (fun k_ hk => ⟨(.inr (Nat.le_trans (by first | exact HK.out.1 | exact (show Kept w _ (fun k_ => P0_ k_) from by repeat (first | (with_reducible first | exact HK.out | apply Kept.alloc | apply Kept.drewN | apply Kept.drew) | exact HK.out)).1) hk)), Kd.fresh' (Kd.R_lt (by (with_reducible repeat (first | apply Kd.R_alloc | apply Kd.R_drewN | apply Kd.R_drew)); exact HO0.out)) k_ hk⟩)); (case aO => exact (by (with_reducible repeat (first | apply Kd.R_alloc | apply Kd.R_drewN | apply Kd.R_drew)); exact HO159.out)); (case aS => exact (below_size (by repeat (first | (with_reducible first | exact HB.out | apply below_alloc | apply pw_below_drewN | apply below_drew1) | exact HB.out)))); (case aL => have := LMc16.out; omega); intro v165 w25 ho hb hg hat; rw [← Ny164.out] at ho; have n0_ := Aside0.mk (Kd.R_after (ok := (fun k_ => (P0_ k_ ∨ w.heap.size ≤ k_))) (by (with_reducible repeat (first | apply Kd.R_alloc | apply Kd.R_drewN | apply Kd.R_drew)); exact HO0.out) hg hat); have n1_ := Aside0.mk (hb); have n2_ := Aside0.mk (Kept.of_grown (S := (fun k_ => P0_ k_)) hg (by repeat (first | (with_reducible first | exact HK.out | apply Kept.alloc | apply Kept.drewN | apply Kept.drew) | exact HK.out)) (fun k_ e_ => (HO159.out.1 k_ e_).1)); have n3_ := Aside0.mk ((show Kd.C (Kd.int .u8) w25 Ao21 y153.length y153 from by rw [Ny153.out]; exact Kd.C_take (m := (a1 : Int).toNat) ((Kd.R_reads' (Kd.R_after (ok := (fun k_ => (P0_ k_ ∨ w.heap.size ≤ k_))) (by (with_reducible repeat (first | apply Kd.R_alloc | apply Kd.R_drewN | apply Kd.R_drew)); exact HO0.out) hg hat)).2.2) KL22.out)); have n4_ := Aside0.mk ((show Kd.C (Kd.int .u8) w25 A24 y160.length y160 from by rw [Ny160.out, KA24.out]; exact Kd.C_mid (lo := (a2 : Int).toNat) (hi := ((IntKind.u64.wrap (a2 + a3)) : Int).toNat) (c := c4) (Kd.C_kept_now HR4.out (show Kept w w25 (fun k_ => P0_ k_) from (Kept.of_grown (S := (fun k_ => P0_ k_)) hg (by repeat (first | (with_reducible first | exact HK.out | apply Kept.alloc | apply Kept.drewN | apply Kept.drew) | exact HK.out)) (fun k_ e_ => (HO159.out.1 k_ e_).1)))) KM24.out KL24.out HC4.out)); have n5_ := Aside0.mk (ho); clear HO0; clear HB; clear HK; clear HR156; clear HR163; clear HO159; have HO0 := n0_; have HB := n1_; have HK := n2_; have HR156 := n3_; have HR163 := n4_; have HO166 := n5_; clear n0_ n1_ n2_ n3_ n4_ n5_; clear ho hb hg hat; have q26 : ((ji17) : Int) ≤ ((l0.length : Int) : Int) := of_decide_eq_true (by first | (with_reducible assumption) | assumption); obtain ⟨i026, hi026, _, hsz26, _⟩ := info_parts info5; have hroom26 : l0.length ≤ co21 := (Kd.R_reads' HO0.out).2.1; have hC26 : Kd.C (Kd.int .u8) _ Ao21 l0.length l0 := (Kd.R_reads' HO0.out).2.2; have q026 : (0 : Int) ≤ ((ji17) : Int) := of_decide_eq_true (by first | (with_reducible assumption) | assumption); have hcut26 := fun (kk_ : IntKind) => cut_from (P := Try.prog) 29 5 kk_ Try.underlying29 hi026 1 hsz26 Ao21 l0.length co21 (ji17) q026 q26; have hr26 := Kd.C_drop (m := ((ji17) : Int).toNat) (c := co21) hC26 (by omega) hroom26; obtain ⟨A26, hA26⟩ : ∃ A1, A1 = (if co21 = ((ji17) : Int).toNat then Ao21 else (Ao21 : Option Addr).map (·.add (((ji17) : Int).toNat * 1))) := ⟨_, rfl⟩; obtain ⟨c26, hc26⟩ : ∃ c1, c1 = co21 - ((ji17) : Int).toNat := ⟨_, rfl⟩; have hy26 : y167.length = l0.length - ((ji17) : Int).toNat := (by rw [Ny167.out, List.length_drop] <;> omega); rw [show (l0).drop ((ji17) : Int).toNat = y167 from Ny167.out.symm] at hr26; replace hr26 : Kd.C (Kd.int .u8) _ A26 y167.length y167 := (by rw [hA26]; exact hr26); rw [← hy26, ← hA26, ← hc26] at hcut26; have HR170 := Aside0.mk hr26; have HC170 := Aside0.mk (show y167.length ≤ c26 from by rw [hy26, hc26]; exact Nat.sub_le_sub_right hroom26 _); clear hr26 hC26 hroom26 hi026 hsz26 hc26; have KY26 := Aside0.mk hy26; have KA26 := Aside0.mk hA26; clear hy26 hA26; have KL26 := Aside0.mk (show ((ji17) : Int).toNat ≤ l0.length from by omega); replace q26 := eq_true q26) | ((with_reducible refine gate_builtin (b := .append) (xs := #[.tmp 45, .tmp 50]) rfl ?_); at_builtin; refine Kd.R_append_rows (Kd.int .u8) (w0 := w0) w0.heap.size rfl (.tmp 45) (.tmp 50) 29 5 (.int .u8 0) 1 rfl Try.underlying29 info5 rfl (by decide) (by omega) v165 y164 y167 _ _ _ (fun k_ => (P0_ k_ ∨ w.heap.size ≤ k_) ∧ some k_ ≠ (.slice Ao21 l0.length co21 : Value).ownBlock) (fun _ => False) rfl rfl ?aO ?aR (fun _ _ h => h) (fun _ h => h.elim) ?aF ?aB ?aS ?aL ?_; (case aR => repeat (first | exact (by repeat (first | (with_reducible exact HR170.out) | (with_reducible refine Kd.C_alloc ?_ _) | (with_reducible refine Kd.C_drewN ?_ _) | (with_reducible refine Kd.C_drew ?_) | exact HR170.out)) | (with_reducible refine Kd.C_alloc ?_ _) | (with_reducible refine Kd.C_drewN ?_ _) | (with_reducible refine Kd.C_drew ?_))); (case aB => exact (by repeat (first | (with_reducible first | exact HB.out | apply below_alloc | apply pw_below_drewN | apply below_drew1) | exact HB.out))); (case aF => exact (fun k_ hk => ⟨(.inr (Nat.le_trans (by first | exact HK.out.1 | exact (show Kept w _ (fun k_ => P0_ k_) from by repeat (first | (with_reducible first | exact HK.out | apply Kept.alloc | apply Kept.drewN | apply Kept.drew) | exact HK.out)).1) hk)), Kd.fresh' (Kd.R_lt (by (with_reducible repeat (first | apply Kd.R_alloc | apply Kd.R_drewN | apply Kd.R_drew)); exact HO0.out)) k_ hk⟩)); (case aO => exact (by (with_reducible repeat (first | apply Kd.R_alloc | apply Kd.R_drewN | apply Kd.R_drew)); exact HO166.out)); (case aS => exact (below_size (by repeat (first | (with_reducible first | exact HB.out | apply below_alloc | apply pw_below_drewN | apply below_drew1) | exact HB.out)))); (case aL => have := LMc20.out; omega); intro v172 w27 ho hb hg hat; rw [← Ny171.out] at ho; have n0_ := Aside0.mk (Kd.R_after (ok := (fun k_ => (P0_ k_ ∨ w.heap.size ≤ k_))) (by (with_reducible repeat (first | apply Kd.R_alloc | apply Kd.R_drewN | apply Kd.R_drew)); exact HO0.out) hg hat); have n1_ := Aside0.mk (hb); have n2_ := Aside0.mk (Kept.of_grown (S := (fun k_ => P0_ k_)) hg (by repeat (first | (with_reducible first | exact HK.out | apply Kept.alloc | apply Kept.drewN | apply Kept.drew) | exact HK.out)) (fun k_ e_ => (HO166.out.1 k_ e_).1)); have n3_ := Aside0.mk ((show Kd.C (Kd.int .u8) w27 Ao21 y153.length y153 from by rw [Ny153.out]; exact Kd.C_take (m := (a1 : Int).toNat) ((Kd.R_reads' (Kd.R_after (ok := (fun k_ => (P0_ k_ ∨ w.heap.size ≤ k_))) (by (with_reducible repeat (first | apply Kd.R_alloc | apply Kd.R_drewN | apply Kd.R_drew)); exact HO0.out) hg hat)).2.2) KL22.out)); have n4_ := Aside0.mk ((show Kd.C (Kd.int .u8) w27 A24 y160.length y160 from by rw [Ny160.out, KA24.out]; exact Kd.C_mid (lo := (a2 : Int).toNat) (hi := ((IntKind.u64.wrap (a2 + a3)) : Int).toNat) (c := c4) (Kd.C_kept_now HR4.out (show Kept w w27 (fun k_ => P0_ k_) from (Kept.of_grown (S := (fun k_ => P0_ k_)) hg (by repeat (first | (with_reducible first | exact HK.out | apply Kept.alloc | apply Kept.drewN | apply Kept.drew) | exact HK.out)) (fun k_ e_ => (HO166.out.1 k_ e_).1)))) KM24.out KL24.out HC4.out)); have n5_ := Aside0.mk ((show Kd.C (Kd.int .u8) w27 A26 y167.length y167 from by rw [Ny167.out, KA26.out]; exact Kd.C_drop (m := ((ji17) : Int).toNat) (c := co21) ((Kd.R_reads' (Kd.R_after (ok := (fun k_ => (P0_ k_ ∨ w.heap.size ≤ k_))) (by (with_reducible repeat (first | apply Kd.R_alloc | apply Kd.R_drewN | apply Kd.R_drew)); exact HO0.out) hg hat)).2.2) KL26.out ((Kd.R_reads' (Kd.R_after (ok := (fun k_ => (P0_ k_ ∨ w.heap.size ≤ k_))) (by (with_reducible repeat (first | apply Kd.R_alloc | apply Kd.R_drewN | apply Kd.R_drew)); exact HO0.out) hg hat)).2.1))); have n6_ := Aside0.mk (ho); clear HO0; clear HB; clear HK; clear HR156; clear HR163; clear HR170; clear HO166; have HO0 := n0_; have HB := n1_; have HK := n2_; have HR156 := n3_; have HR163 := n4_; have HR170 := n5_; have HO173 := n6_; clear n0_ n1_ n2_ n3_ n4_ n5_ n6_; clear ho hb hg hat))
                          go_ret2
                          exact ⟨_, by first | rfl | (simp [errW_none, errW_some] <;> rfl) | (simp only [← hji17]; first | rfl | (simp [errW_none, errW_some] <;> rfl)) | (simp [*, errW_none, errW_some] <;> rfl), by (with_reducible repeat (first | apply Kd.R_alloc | apply Kd.R_drewN | apply Kd.R_drew)); exact Kd.R_mono HO173.out (fun _ hk => hk.1), by repeat (first | (with_reducible first | exact HB.out | apply below_alloc | apply pw_below_drewN | apply below_drew1) | exact HB.out), by repeat (first | (with_reducible first | exact HK.out | apply Kept.alloc | apply Kept.drewN | apply Kept.drew) | exact HK.out)⟩
                        · rw [if_neg c20] at H
                          exact absurd H (by simp)
                      · rw [if_neg c19] at H
                        exact absurd H (by simp)
                    · rw [if_neg c18] at H
                      exact absurd H (by simp)
                  · rw [if_neg c16] at H
                    exact absurd H (by simp)
                · rw [if_neg c15] at H
                  exact absurd H (by simp)
              · rw [if_neg c14] at H
                exact absurd H (by simp)
            · rw [if_neg c13] at H
              exact absurd H (by simp)
          · rw [if_neg c12] at H
            exact absurd H (by simp)
        · rw [if_neg c11] at H
          exact absurd H (by simp)
      · rw [if_neg c10] at H
        exact absurd H (by simp)
    · replace c9 := Bool.eq_false_iff.mpr c9
      subst c9
      have H1 : (some (l0, 44)) = some (r1, r2) := by rw [if_neg (show ¬ (false = true) by decide)] at H; exact H
      clear H
      have H := H1
      clear H1
      simp only [Option.some.injEq, Prod.mk.injEq] at H
      obtain ⟨rfl, rfl⟩ := H
      go_enter Try.func15, Try.ntmps15
      go_wp2_with (first | ((with_reducible refine gate_callee (f := 21) rfl ?_); refine goesL_ (some 19) rfl rfl Try.func21 (by kernel_rfl) rfl #[.int .u64 a2, .int .u64 a3, .int .i64 (l4.length : Int)] rfl (by (try simp only [List.map_toArray, List.map_cons, List.map_nil]); first | done | rfl | (simp only [List.length_drop, List.length_take]; rfl)) ?_; (with_reducible refine (bodkinref13_In.calls a2 a3 (l4.length : Int) true _ A6.out).mono ?_); rintro e w' ⟨rfl, ⟨nd, rfl⟩⟩; refine ⟨_, rfl, ?_⟩; obtain ⟨Ao28, co28, eo28⟩ := Kd.R_slice HO0.out; subst eo28) | ((with_reducible refine gate_callee (f := 21) rfl ?_); refine goesL_ (some 24) rfl rfl Try.func21 (by kernel_rfl) rfl #[.int .u64 a1, .int .u64 a3, .int .i64 (l0.length : Int)] rfl (by (try simp only [List.map_toArray, List.map_cons, List.map_nil]); first | done | rfl | (simp only [List.length_drop, List.length_take]; rfl)) ?_; (with_reducible refine (bodkinref13_In.calls a1 a3 (l0.length : Int) false _ A7.out).mono ?_); rintro e w' ⟨rfl, ⟨nd, rfl⟩⟩; refine ⟨_, rfl, ?_⟩))
      go_ret2
      exact ⟨_, by first | rfl | (simp [errW_none, errW_some] <;> rfl) | (simp [*, errW_none, errW_some] <;> rfl), by (with_reducible repeat (first | apply Kd.R_alloc | apply Kd.R_drewN | apply Kd.R_drew)); exact HO0.out, by repeat (first | (with_reducible first | exact HB.out | apply below_alloc | apply pw_below_drewN | apply below_drew1) | exact HB.out), by repeat (first | (with_reducible first | exact HK.out | apply Kept.alloc | apply Kept.drewN | apply Kept.drew) | exact HK.out)⟩
  · replace c8 := Bool.eq_false_iff.mpr c8
    subst c8
    have H1 : (some (l0, 44)) = some (r1, r2) := by rw [if_neg (show ¬ (false = true) by decide)] at H; exact H
    clear H
    have H := H1
    clear H1
    simp only [Option.some.injEq, Prod.mk.injEq] at H
    obtain ⟨rfl, rfl⟩ := H
    go_enter Try.func15, Try.ntmps15
    go_wp2_with (first | ((with_reducible refine gate_callee (f := 21) rfl ?_); refine goesL_ (some 19) rfl rfl Try.func21 (by kernel_rfl) rfl #[.int .u64 a2, .int .u64 a3, .int .i64 (l4.length : Int)] rfl (by (try simp only [List.map_toArray, List.map_cons, List.map_nil]); first | done | rfl | (simp only [List.length_drop, List.length_take]; rfl)) ?_; (with_reducible refine (bodkinref13_In.calls a2 a3 (l4.length : Int) false _ A6.out).mono ?_); rintro e w' ⟨rfl, ⟨nd, rfl⟩⟩; refine ⟨_, rfl, ?_⟩; obtain ⟨Ao29, co29, eo29⟩ := Kd.R_slice HO0.out; subst eo29) | ((with_reducible refine gate_callee (f := 21) rfl ?_); refine goesL_ (some 24) rfl rfl Try.func21 (by kernel_rfl) rfl #[.int .u64 a1, .int .u64 a3, .int .i64 (l0.length : Int)] rfl (by (try simp only [List.map_toArray, List.map_cons, List.map_nil]); first | done | rfl | (simp only [List.length_drop, List.length_take]; rfl)) ?_; (with_reducible refine (bodkinref13_In.calls a1 a3 (l0.length : Int) t152 _ A7.out).mono ?_); rintro e w' ⟨rfl, ⟨nd, rfl⟩⟩; refine ⟨_, rfl, ?_⟩))
    go_ret2
    exact ⟨_, by first | rfl | (simp [errW_none, errW_some] <;> rfl) | (simp [*, errW_none, errW_some] <;> rfl), by (with_reducible repeat (first | apply Kd.R_alloc | apply Kd.R_drewN | apply Kd.R_drew)); exact HO0.out, by repeat (first | (with_reducible first | exact HB.out | apply below_alloc | apply pw_below_drewN | apply below_drew1) | exact HB.out), by repeat (first | (with_reducible first | exact HK.out | apply Kept.alloc | apply Kept.drewN | apply Kept.drew) | exact HK.out)⟩

/-! ### bodkinref13_Fill: function 17 -/
def bodkinref13_Fill.l0 : Nat → Int → Int → Int → List Int → Int → Option (List Int × Int)
  | 0, _, _, _, _, _ => none
  | k + 1, x1, x2, x3, x11, x12 => if x12 < (IntKind.u64.wrap (x1 + x3)) then (if 0 ≤ x12 then (if x12 < (x11.length : Int) then (bodkinref13_Fill.l0 k x1 x2 x3 (x11.set (x12 : Int).toNat x2) (IntKind.u64.wrap (x12 + 1))) else (none)) else (none)) else (some (x11, 0))
def bodkinref13_Fill.f (k : Nat) (l0 : List Int) (a1 : Int) (a2 : Int) (a3 : Int) : Option (List Int × Int) := (bodkinref13_In.f a1 a3 (l0.length : Int)).bind fun t174 => (if t174 = true then (if ([] : List Int).length + l0.length < 140737488355328 then (bodkinref13_Fill.l0 k a1 a2 a3 (([] : List Int) ++ l0) a1) else (none)) else (some (l0, 44)))
theorem bodkinref13_Fill.mono_l : ∀ k, (∀ y0 y1 y2 y3 y4, LeO (bodkinref13_Fill.l0 k y0 y1 y2 y3 y4) (bodkinref13_Fill.l0 (k + 1) y0 y1 y2 y3 y4))
  | 0 => fun _ _ _ _ _ r h => by simp [bodkinref13_Fill.l0] at h
  | k + 1 => by
    have ih0 := bodkinref13_Fill.mono_l k
    · intro y0 y1 y2 y3 y4
      unfold bodkinref13_Fill.l0
      repeat' first
      | (with_reducible exact ih0 _ _ _ _ _)
      | (with_reducible exact LeO.refl _)
      | (with_reducible exact LeO.none _)
      | (with_reducible refine LeO.ite ?_ ?_)
      | (with_reducible refine LeO.bind ?_ (fun _ => ?_))
      | exact ih0 _ _ _ _ _
      | exact LeO.none _
      | refine LeO.ite ?_ ?_
      | refine LeO.bind ?_ (fun _ => ?_)
theorem bodkinref13_Fill.mono : ∀ a0 a1 a2 a3 k, LeO (bodkinref13_Fill.f k a0 a1 a2 a3) (bodkinref13_Fill.f (k + 1) a0 a1 a2 a3) := by
  intro a0 a1 a2 a3 k
  have ih0 := bodkinref13_Fill.mono_l k
  unfold bodkinref13_Fill.f
  repeat' first
      | (with_reducible exact ih0 _ _ _ _ _)
      | (with_reducible exact LeO.refl _)
      | (with_reducible exact LeO.none _)
      | (with_reducible refine LeO.ite ?_ ?_)
      | (with_reducible refine LeO.bind ?_ (fun _ => ?_))
      | exact ih0 _ _ _ _ _
      | exact LeO.none _
      | refine LeO.ite ?_ ?_
      | refine LeO.bind ?_ (fun _ => ?_)
set_option maxHeartbeats 8000000 in
set_option maxRecDepth 100000 in
theorem bodkinref13_Fill.calls (k : Nat) (P0_ : Nat → Prop) (u9000_ : Value) (l0 : List Int) (a1 : Int) (a2 : Int) (a3 : Int) (r1 : List Int) (r2 : Int) (w0 w : World) (hB : Below w0.heap.size w0 w) (ho0 : Kd.R (Kd.int .u8) 5 w w0.heap.size P0_ u9000_ l0) (h : bodkinref13_Fill.f k l0 a1 a2 a3 = some (r1, r2)) :
    Calls Try.prog 17 #[u9000_, .int .u64 a1, .int .u8 a2, .int .u64 a3] w fun e w' => ∃ v0_ : Value, e = .returned (.tuple #[v0_, .int .i64 r2]) ∧ Kd.R (Kd.int .u8) 5 w' w0.heap.size (fun k_ => (P0_ k_ ∨ w.heap.size ≤ k_)) v0_ r1 ∧ Below w0.heap.size w0 w' ∧ Kept w w' (fun k_ => P0_ k_) := by
  have HO0 := Aside0.mk (show Kd.R (Kd.int .u8) 5 w w0.heap.size (fun k_ => (P0_ k_ ∨ w.heap.size ≤ k_)) u9000_ l0 from Kd.R_mono ho0 (fun k_ hk => (.inl hk)))
  have HK := Aside0.mk (Kept.refl w (fun k_ => P0_ k_))
  have HW0 := Aside0.mk hB.size
  have HB := Aside0.mk hB
  clear hB
  have H : ((bodkinref13_In.f a1 a3 (l0.length : Int)).bind fun t174 => (if t174 = true then (if ([] : List Int).length + l0.length < 140737488355328 then (bodkinref13_Fill.l0 k a1 a2 a3 (([] : List Int) ++ l0) a1) else (none)) else (some (l0, 44)))) = some (r1, r2) := h
  clear h
  replace H := Option.bind_eq_some_iff.mp H
  obtain ⟨t174, A50, H⟩ := H
  replace H : (if t174 = true then (if ([] : List Int).length + l0.length < 140737488355328 then (bodkinref13_Fill.l0 k a1 a2 a3 (([] : List Int) ++ l0) a1) else (none)) else (some (l0, 44))) = some (r1, r2) := H
  have A5 := Aside0.mk A50
  clear A50
  by_cases c6 : t174 = true
  · subst c6
    have H1 : (if ([] : List Int).length + l0.length < 140737488355328 then (bodkinref13_Fill.l0 k a1 a2 a3 (([] : List Int) ++ l0) a1) else (none)) = some (r1, r2) := by rw [if_pos rfl] at H; exact H
    clear H
    have H := H1
    clear H1
    by_cases c7 : ([] : List Int).length + l0.length < 140737488355328
    · rw [if_pos c7] at H
      have LMc7 := Aside0.mk c7
      clear c7
      obtain ⟨y175, hy175⟩ : ∃ y_ : List Int, y_ = (([] : List Int) ++ l0) := ⟨_, rfl⟩
      replace H : (bodkinref13_Fill.l0 k a1 a2 a3 y175 a1) = some (r1, r2) := by first | (rw [hy175]; with_reducible exact H) | (have H2_ := (Option.bind_some _ _).symm.trans H; rw [hy175]; with_reducible exact H2_) | (have H2_ := (Option.bind_some _ _).symm.trans H; with_reducible exact H2_) | with_reducible exact H | (rw [hy175]; exact H) | exact H
      have Ny175 := Aside0.mk hy175
      clear hy175
      have H' := Aside0.mk H
      clear H
      obtain ⟨Ao8, co8, eo8⟩ := Kd.R_slice HO0.out
      subst eo8
      go_enter Try.func17, Try.ntmps17
      go_wp2_with (first | ((with_reducible refine gate_callee (f := 21) rfl ?_); refine goesL_ (some 17) rfl rfl Try.func21 (by kernel_rfl) rfl #[.int .u64 a1, .int .u64 a3, .int .i64 (l0.length : Int)] rfl (by (try simp only [List.map_toArray, List.map_cons, List.map_nil]); first | done | rfl | (simp only [List.length_drop, List.length_take]; rfl)) ?_; (with_reducible refine (bodkinref13_In.calls a1 a3 (l0.length : Int) true _ A5.out).mono ?_); rintro e w' ⟨rfl, ⟨nd, rfl⟩⟩; refine ⟨_, rfl, ?_⟩) | ((with_reducible refine gate_builtin (b := .append) (xs := #[.tmp 21, .tmp 22]) rfl ?_); at_builtin; refine Kd.R_append_rows (Kd.int .u8) (w0 := w0) w0.heap.size rfl (.tmp 21) (.tmp 22) 29 5 (.int .u8 0) 1 rfl Try.underlying29 info5 rfl (by decide) (by omega) (.slice none 0 0) ([] : List Int) l0 _ _ _ (fun k_ => (P0_ k_ ∨ w.heap.size ≤ k_) ∧ some k_ ≠ (.slice Ao8 l0.length co8 : Value).ownBlock) (fun _ => False) rfl rfl ?aO ?aR (fun _ _ h => h) (fun _ h => h.elim) ?aF ?aB ?aS ?aL ?_; (case aR => repeat (first | exact (Kd.R_reads' HO0.out).2.2 | (with_reducible refine Kd.C_alloc ?_ _) | (with_reducible refine Kd.C_drewN ?_ _) | (with_reducible refine Kd.C_drew ?_))); (case aB => exact (by repeat (first | (with_reducible first | exact HB.out | apply below_alloc | apply pw_below_drewN | apply below_drew1) | exact HB.out))); (case aF => exact (fun k_ hk => ⟨(.inr (Nat.le_trans (by first | exact HK.out.1 | exact (show Kept w _ (fun k_ => P0_ k_) from by repeat (first | (with_reducible first | exact HK.out | apply Kept.alloc | apply Kept.drewN | apply Kept.drew) | exact HK.out)).1) hk)), Kd.fresh' (Kd.R_lt (by (with_reducible repeat (first | apply Kd.R_alloc | apply Kd.R_drewN | apply Kd.R_drew)); exact HO0.out)) k_ hk⟩)); (case aO => exact ((Kd.R_nil _ _ _ _ (fun k_ => (P0_ k_ ∨ w.heap.size ≤ k_) ∧ some k_ ≠ (.slice Ao8 l0.length co8 : Value).ownBlock)))); (case aS => exact (below_size (by repeat (first | (with_reducible first | exact HB.out | apply below_alloc | apply pw_below_drewN | apply below_drew1) | exact HB.out)))); (case aL => have := LMc7.out; omega); intro v176 w9 ho hb hg hat; rw [← Ny175.out] at ho; have n0_ := Aside0.mk (Kd.R_after (Kd.R_apart_nil (by (with_reducible repeat (first | apply Kd.R_alloc | apply Kd.R_drewN | apply Kd.R_drew)); exact HO0.out)) hg hat); have n1_ := Aside0.mk (hb); have n2_ := Aside0.mk (Kept.of_grown (S := (fun k_ => P0_ k_)) hg (by repeat (first | (with_reducible first | exact HK.out | apply Kept.alloc | apply Kept.drewN | apply Kept.drew) | exact HK.out)) (fun k_ e_ => by simp [Value.ownBlock] at e_)); have n3_ := Aside0.mk (ho); clear HO0; clear HB; clear HK; have HO0 := n0_; have HB := n1_; have HK := n2_; have HO177 := n3_; clear n0_ n1_ n2_ n3_; clear ho hb hg hat))
      try simp only [Act.put, List.setIfInBounds_toArray, List.set_cons_zero, List.set_cons_succ]
      go_loopg [12] k (fun kq v12 w' => ∃ (x11_1 : List Int) (x12_1 : Int), v12 = .int .u64 x12_1 ∧ Aside0 (bodkinref13_Fill.l0 kq a1 a2 a3 x11_1 x12_1 = some (r1, r2)) ∧ Aside0 (kq ≤ k) ∧ Aside0 (Kd.R (Kd.int .u8) 5 w' w0.heap.size (fun k_ => (P0_ k_ ∨ w.heap.size ≤ k_)) v176 x11_1) ∧ Aside0 (Kept w w' (fun k_ => P0_ k_)) ∧ Aside0 (Below w0.heap.size w0 w'))
      case atStart => exact ⟨(y175), (a1), (by first | rfl | (simp; done) | (simp [*]; done)), H', ⟨Nat.le_refl _⟩, ⟨by (with_reducible repeat (first | apply Kd.R_alloc | apply Kd.R_drewN | apply Kd.R_drew)); exact Kd.R_mono HO177.out (fun _ hk => hk.1)⟩, ⟨by repeat (first | (with_reducible first | exact HK.out | apply Kept.alloc | apply Kept.drewN | apply Kept.drew) | exact HK.out)⟩, ⟨by repeat (first | (with_reducible first | exact HB.out | apply below_alloc | apply pw_below_drewN | apply below_drew1) | exact HB.out)⟩⟩
      case round =>
        clear H'
        try clear c1
        try clear c2
        try clear p2
        try clear c6
        try clear c7
        obtain ⟨x11_1, x12_1, rfl, HA, HK1, HO_11, HK, HB⟩ := hrel
        cases gk with
        | zero => exact absurd HA.out (by simp [bodkinref13_Fill.l0])
        | succ k1 =>
          have H := HA.out
          clear HA
          simp only [bodkinref13_Fill.l0] at H
          by_cases c10 : x12_1 < (IntKind.u64.wrap (a1 + a3))
          · rw [if_pos c10] at H
            have c10b0 : decide (x12_1 < (IntKind.u64.wrap (a1 + a3))) = true := decide_eq_true c10
            clear c10
            by_cases c11 : 0 ≤ x12_1
            · rw [if_pos c11] at H
              have c11b0 : decide (0 ≤ x12_1) = true := decide_eq_true c11
              clear c11
              by_cases c12 : x12_1 < (x11_1.length : Int)
              · rw [if_pos c12] at H
                have c12b0 : decide (x12_1 < (x11_1.length : Int)) = true := decide_eq_true c12
                clear c12
                obtain ⟨y178, hy178⟩ : ∃ y_ : List Int, y_ = (x11_1.set (x12_1 : Int).toNat a2) := ⟨_, rfl⟩
                replace H : (bodkinref13_Fill.l0 k1 a1 a2 a3 y178 (IntKind.u64.wrap (x12_1 + 1))) = some (r1, r2) := by first | (rw [hy178]; with_reducible exact H) | (have H2_ := (Option.bind_some _ _).symm.trans H; rw [hy178]; with_reducible exact H2_) | (have H2_ := (Option.bind_some _ _).symm.trans H; with_reducible exact H2_) | with_reducible exact H | (rw [hy178]; exact H) | exact H
                have Ny178 := Aside0.mk hy178
                clear hy178
                have H' := Aside0.mk H
                clear H
                have p13 : 0 ≤ (x12_1 : Int) := of_decide_eq_true (by first | (with_reducible assumption) | assumption)
                have q13 : (x12_1 : Int) < ((x11_1.length : Int) : Int) := of_decide_eq_true (by first | (with_reducible assumption) | assumption)
                obtain ⟨go13, co13, eo13, gb13, gl13, cl13, HG13⟩ := Kd.R_form HO_11.out (by omega)
                (first | cases eo13 | (injection eo13 with ea_ en_ ec_; (first | subst ea_ | (injection ea_ with ea_; subst ea_)); subst ec_; clear en_))
                have GB13 := Aside0.mk gb13
                have GG13 := Aside0.mk HG13
                clear gb13 gl13 HG13
                have HMgo13 := Aside0.mk (show (P0_ go13 ∨ w.heap.size ≤ go13) from (HO_11.out.1 _ rfl))
                obtain ⟨hx13_0, hf13_0⟩ := Kd.R_celln 0 HO_11.out (x12_1 : Int) p13 q13
                replace p13 := eq_true p13
                replace q13 := eq_true q13
                have HP14 := Kd.R_putg HO_11.out (x12_1 : Int) a2
                go_wp2_with (first | ((with_reducible refine gate_store (t := 5) (p := 35) rfl ?_); refine store_event (t := 5) (p := 35) (v := ?vo_w15) (w1 := (wr.setCell ⟨go13, (x12_1 : Int).toNat, none⟩ (.int .u8 a2))) ?hg ?ho ?hn ?hr ?_; (case ho => rfl); (case hg => rfl); (case hn => rfl); (case hr => first | (go_simp; done) | (go_simp; rfl)); intro w15 hw; have hg : wr.grownBy w15 (some go13) := (by rw [hw]; exact HP14.2); have hp_ : Kd.R (Kd.int .u8) 5 w15 w0.heap.size (fun k_ => (P0_ k_ ∨ w.heap.size ≤ k_)) (.slice (some ⟨go13, 0, none⟩) x11_1.length co13) y178 := (by rw [hw, Ny178.out]; exact HP14.1); clear HP14; have n0_ := Aside0.mk (hp_); have n1_ := Aside0.mk ((by rw [hw]; exact below_set (HB.out) GB13.out : Below w0.heap.size w0 w15)); have n2_ := Aside0.mk (Kept.of_grown (S := (fun k_ => P0_ k_)) hg (by repeat (first | (with_reducible first | exact HK.out | apply Kept.alloc | apply Kept.drewN | apply Kept.drew) | exact HK.out)) (fun k_ e_ => (HO_11.out.1 k_ e_))); clear HO_11; clear HB; clear HK; have HO_11 := n0_; have HB := n1_; have HK := n2_; clear n0_ n1_ n2_; clear hg hw hp_))
                go_roundg k1
                case measure => have := HK1.out; omega
                case rel => exact ⟨(y178), (IntKind.u64.wrap (x12_1 + 1)), (by first | rfl | (simp; done) | (simp [*]; done)), H', ⟨by have := HK1.out; omega⟩, ⟨by (with_reducible repeat (first | apply Kd.R_alloc | apply Kd.R_drewN | apply Kd.R_drew)); exact HO_11.out⟩, ⟨by repeat (first | (with_reducible first | exact HK.out | apply Kept.alloc | apply Kept.drewN | apply Kept.drew) | exact HK.out)⟩, ⟨by repeat (first | (with_reducible first | exact HB.out | apply below_alloc | apply pw_below_drewN | apply below_drew1) | exact HB.out)⟩⟩
              · rw [if_neg c12] at H
                exact absurd H (by simp)
            · rw [if_neg c11] at H
              exact absurd H (by simp)
          · rw [if_neg c10] at H
            have c10b0 : decide (x12_1 < (IntKind.u64.wrap (a1 + a3))) = false := decide_eq_false c10
            clear c10
            simp only [Option.some.injEq, Prod.mk.injEq] at H
            obtain ⟨rfl, rfl⟩ := H
            go_wp2
            go_ret2
            exact ⟨_, by first | rfl | (simp [errW_none, errW_some] <;> rfl) | (simp [*, errW_none, errW_some] <;> rfl), by (with_reducible repeat (first | apply Kd.R_alloc | apply Kd.R_drewN | apply Kd.R_drew)); exact HO_11.out, by repeat (first | (with_reducible first | exact HB.out | apply below_alloc | apply pw_below_drewN | apply below_drew1) | exact HB.out), by repeat (first | (with_reducible first | exact HK.out | apply Kept.alloc | apply Kept.drewN | apply Kept.drew) | exact HK.out)⟩
    · rw [if_neg c7] at H
      exact absurd H (by simp)
  · replace c6 := Bool.eq_false_iff.mpr c6
    subst c6
    have H1 : (some (l0, 44)) = some (r1, r2) := by rw [if_neg (show ¬ (false = true) by decide)] at H; exact H
    clear H
    have H := H1
    clear H1
    simp only [Option.some.injEq, Prod.mk.injEq] at H
    obtain ⟨rfl, rfl⟩ := H
    obtain ⟨Ao16, co16, eo16⟩ := Kd.R_slice HO0.out
    subst eo16
    go_enter Try.func17, Try.ntmps17
    go_wp2_with (first | ((with_reducible refine gate_callee (f := 21) rfl ?_); refine goesL_ (some 17) rfl rfl Try.func21 (by kernel_rfl) rfl #[.int .u64 a1, .int .u64 a3, .int .i64 (l0.length : Int)] rfl (by (try simp only [List.map_toArray, List.map_cons, List.map_nil]); first | done | rfl | (simp only [List.length_drop, List.length_take]; rfl)) ?_; (with_reducible refine (bodkinref13_In.calls a1 a3 (l0.length : Int) false _ A5.out).mono ?_); rintro e w' ⟨rfl, ⟨nd, rfl⟩⟩; refine ⟨_, rfl, ?_⟩))
    go_ret2
    exact ⟨_, by first | rfl | (simp [errW_none, errW_some] <;> rfl) | (simp [*, errW_none, errW_some] <;> rfl), by (with_reducible repeat (first | apply Kd.R_alloc | apply Kd.R_drewN | apply Kd.R_drew)); exact HO0.out, by repeat (first | (with_reducible first | exact HB.out | apply below_alloc | apply pw_below_drewN | apply below_drew1) | exact HB.out), by repeat (first | (with_reducible first | exact HK.out | apply Kept.alloc | apply Kept.drewN | apply Kept.drew) | exact HK.out)⟩

-- NOT PRINTED: function 18 (store_Mem_Copy)

-- NOT PRINTED: function 4 (bodkinlaw13_StoreMem)

-- NOT PRINTED: function 5 (bodkinlaw13_StoreBack)

-- NOT PRINTED: function 24 (store_Table_Fill)

-- NOT PRINTED: function 22 (store_Table_Set)

/-! ### bodkinref13_Vals: function 23 -/
def bodkinref13_Vals.f (l0 : List (S26)) (a1 : Int) (a2 : Int) (a3 : Int) (l4 : List (S26)) : Option ((List (S26)) × Int) := (bodkinref13_In.f a2 a3 (l4.length : Int)).bind fun t182 => ((bodkinref13_In.f a1 a3 (l0.length : Int)).bind fun t183 => (if t182 = true then (if t183 = true then (if 0 ≤ a1 then (if a1 ≤ (l0.length : Int) then ((some (l0.take (a1 : Int).toNat : List (S26))).bind fun y184 => (if ([] : List (S26)).length + y184.length < 4398046511104 then ((some (([] : List (S26)) ++ y184 : List (S26))).bind fun y188 => (if 0 ≤ a2 then (if a2 ≤ (IntKind.u64.wrap (a2 + a3)) then (if (IntKind.u64.wrap (a2 + a3)) ≤ (l4.length : Int) then ((some ((l4.take ((IntKind.u64.wrap (a2 + a3)) : Int).toNat).drop (a2 : Int).toNat : List (S26))).bind fun y191 => (if y188.length + y191.length < 4398046511104 then ((some (y188 ++ y191 : List (S26))).bind fun y195 => (if 0 ≤ (IntKind.u64.wrap (a1 + a3)) then (if (IntKind.u64.wrap (a1 + a3)) ≤ (l0.length : Int) then ((some (l0.drop ((IntKind.u64.wrap (a1 + a3)) : Int).toNat : List (S26))).bind fun y198 => (if y195.length + y198.length < 4398046511104 then (some ((y195 ++ y198), 0)) else (none))) else (none)) else (none))) else (none))) else (none)) else (none)) else (none))) else (none))) else (none)) else (none)) else (some (l0, 45))) else (some (l0, 45))))
set_option maxHeartbeats 8000000 in
set_option maxRecDepth 100000 in
theorem bodkinref13_Vals.calls (P0_ : Nat → Prop) (u9000_ : Value) (l0 : List (S26)) (a1 : Int) (a2 : Int) (a3 : Int) (A4 : Option Addr) (c4 : Nat) (l4 : List (S26)) (r1 : List (S26)) (r2 : Int) (w0 w : World) (hB : Below w0.heap.size w0 w) (ho0 : Kd.R k26 26 w w0.heap.size P0_ u9000_ l0) (hr4 : ∀ W_, Kept w W_ (fun k_ => P0_ k_) → Kd.C k26 W_ A4 l4.length l4) (hc4 : l4.length ≤ c4) (h : bodkinref13_Vals.f l0 a1 a2 a3 l4 = some (r1, r2)) :
    Calls Try.prog 23 #[u9000_, .int .u64 a1, .int .u64 a2, .int .u64 a3, .slice A4 l4.length c4] w fun e w' => ∃ v0_ : Value, e = .returned (.tuple #[v0_, .int .i64 r2]) ∧ Kd.R k26 26 w' w0.heap.size (fun k_ => (P0_ k_ ∨ w.heap.size ≤ k_)) v0_ r1 ∧ Below w0.heap.size w0 w' ∧ Kept w w' (fun k_ => P0_ k_) := by
  have HO0 := Aside0.mk (show Kd.R k26 26 w w0.heap.size (fun k_ => (P0_ k_ ∨ w.heap.size ≤ k_)) u9000_ l0 from Kd.R_mono ho0 (fun k_ hk => (.inl hk)))
  have HR4 := Aside0.mk hr4
  have HC4 := Aside0.mk hc4
  clear hr4 hc4
  have HK := Aside0.mk (Kept.refl w (fun k_ => P0_ k_))
  have HW0 := Aside0.mk hB.size
  have HB := Aside0.mk hB
  clear hB
  have H : ((bodkinref13_In.f a2 a3 (l4.length : Int)).bind fun t182 => ((bodkinref13_In.f a1 a3 (l0.length : Int)).bind fun t183 => (if t182 = true then (if t183 = true then (if 0 ≤ a1 then (if a1 ≤ (l0.length : Int) then ((some (l0.take (a1 : Int).toNat : List (S26))).bind fun y184 => (if ([] : List (S26)).length + y184.length < 4398046511104 then ((some (([] : List (S26)) ++ y184 : List (S26))).bind fun y188 => (if 0 ≤ a2 then (if a2 ≤ (IntKind.u64.wrap (a2 + a3)) then (if (IntKind.u64.wrap (a2 + a3)) ≤ (l4.length : Int) then ((some ((l4.take ((IntKind.u64.wrap (a2 + a3)) : Int).toNat).drop (a2 : Int).toNat : List (S26))).bind fun y191 => (if y188.length + y191.length < 4398046511104 then ((some (y188 ++ y191 : List (S26))).bind fun y195 => (if 0 ≤ (IntKind.u64.wrap (a1 + a3)) then (if (IntKind.u64.wrap (a1 + a3)) ≤ (l0.length : Int) then ((some (l0.drop ((IntKind.u64.wrap (a1 + a3)) : Int).toNat : List (S26))).bind fun y198 => (if y195.length + y198.length < 4398046511104 then (some ((y195 ++ y198), 0)) else (none))) else (none)) else (none))) else (none))) else (none)) else (none)) else (none))) else (none))) else (none)) else (none)) else (some (l0, 45))) else (some (l0, 45))))) = some (r1, r2) := h
  clear h
  replace H := Option.bind_eq_some_iff.mp H
  obtain ⟨t182, A60, H⟩ := H
  replace H : ((bodkinref13_In.f a1 a3 (l0.length : Int)).bind fun t183 => (if t182 = true then (if t183 = true then (if 0 ≤ a1 then (if a1 ≤ (l0.length : Int) then ((some (l0.take (a1 : Int).toNat : List (S26))).bind fun y184 => (if ([] : List (S26)).length + y184.length < 4398046511104 then ((some (([] : List (S26)) ++ y184 : List (S26))).bind fun y188 => (if 0 ≤ a2 then (if a2 ≤ (IntKind.u64.wrap (a2 + a3)) then (if (IntKind.u64.wrap (a2 + a3)) ≤ (l4.length : Int) then ((some ((l4.take ((IntKind.u64.wrap (a2 + a3)) : Int).toNat).drop (a2 : Int).toNat : List (S26))).bind fun y191 => (if y188.length + y191.length < 4398046511104 then ((some (y188 ++ y191 : List (S26))).bind fun y195 => (if 0 ≤ (IntKind.u64.wrap (a1 + a3)) then (if (IntKind.u64.wrap (a1 + a3)) ≤ (l0.length : Int) then ((some (l0.drop ((IntKind.u64.wrap (a1 + a3)) : Int).toNat : List (S26))).bind fun y198 => (if y195.length + y198.length < 4398046511104 then (some ((y195 ++ y198), 0)) else (none))) else (none)) else (none))) else (none))) else (none)) else (none)) else (none))) else (none))) else (none)) else (none)) else (some (l0, 45))) else (some (l0, 45)))) = some (r1, r2) := H
  have A6 := Aside0.mk A60
  clear A60
  replace H := Option.bind_eq_some_iff.mp H
  obtain ⟨t183, A70, H⟩ := H
  replace H : (if t182 = true then (if t183 = true then (if 0 ≤ a1 then (if a1 ≤ (l0.length : Int) then ((some (l0.take (a1 : Int).toNat : List (S26))).bind fun y184 => (if ([] : List (S26)).length + y184.length < 4398046511104 then ((some (([] : List (S26)) ++ y184 : List (S26))).bind fun y188 => (if 0 ≤ a2 then (if a2 ≤ (IntKind.u64.wrap (a2 + a3)) then (if (IntKind.u64.wrap (a2 + a3)) ≤ (l4.length : Int) then ((some ((l4.take ((IntKind.u64.wrap (a2 + a3)) : Int).toNat).drop (a2 : Int).toNat : List (S26))).bind fun y191 => (if y188.length + y191.length < 4398046511104 then ((some (y188 ++ y191 : List (S26))).bind fun y195 => (if 0 ≤ (IntKind.u64.wrap (a1 + a3)) then (if (IntKind.u64.wrap (a1 + a3)) ≤ (l0.length : Int) then ((some (l0.drop ((IntKind.u64.wrap (a1 + a3)) : Int).toNat : List (S26))).bind fun y198 => (if y195.length + y198.length < 4398046511104 then (some ((y195 ++ y198), 0)) else (none))) else (none)) else (none))) else (none))) else (none)) else (none)) else (none))) else (none))) else (none)) else (none)) else (some (l0, 45))) else (some (l0, 45))) = some (r1, r2) := H
  have A7 := Aside0.mk A70
  clear A70
  by_cases c8 : t182 = true
  · subst c8
    have H1 : (if t183 = true then (if 0 ≤ a1 then (if a1 ≤ (l0.length : Int) then ((some (l0.take (a1 : Int).toNat : List (S26))).bind fun y184 => (if ([] : List (S26)).length + y184.length < 4398046511104 then ((some (([] : List (S26)) ++ y184 : List (S26))).bind fun y188 => (if 0 ≤ a2 then (if a2 ≤ (IntKind.u64.wrap (a2 + a3)) then (if (IntKind.u64.wrap (a2 + a3)) ≤ (l4.length : Int) then ((some ((l4.take ((IntKind.u64.wrap (a2 + a3)) : Int).toNat).drop (a2 : Int).toNat : List (S26))).bind fun y191 => (if y188.length + y191.length < 4398046511104 then ((some (y188 ++ y191 : List (S26))).bind fun y195 => (if 0 ≤ (IntKind.u64.wrap (a1 + a3)) then (if (IntKind.u64.wrap (a1 + a3)) ≤ (l0.length : Int) then ((some (l0.drop ((IntKind.u64.wrap (a1 + a3)) : Int).toNat : List (S26))).bind fun y198 => (if y195.length + y198.length < 4398046511104 then (some ((y195 ++ y198), 0)) else (none))) else (none)) else (none))) else (none))) else (none)) else (none)) else (none))) else (none))) else (none)) else (none)) else (some (l0, 45))) = some (r1, r2) := by rw [if_pos rfl] at H; exact H
    clear H
    have H := H1
    clear H1
    by_cases c9 : t183 = true
    · subst c9
      have H1 : (if 0 ≤ a1 then (if a1 ≤ (l0.length : Int) then ((some (l0.take (a1 : Int).toNat : List (S26))).bind fun y184 => (if ([] : List (S26)).length + y184.length < 4398046511104 then ((some (([] : List (S26)) ++ y184 : List (S26))).bind fun y188 => (if 0 ≤ a2 then (if a2 ≤ (IntKind.u64.wrap (a2 + a3)) then (if (IntKind.u64.wrap (a2 + a3)) ≤ (l4.length : Int) then ((some ((l4.take ((IntKind.u64.wrap (a2 + a3)) : Int).toNat).drop (a2 : Int).toNat : List (S26))).bind fun y191 => (if y188.length + y191.length < 4398046511104 then ((some (y188 ++ y191 : List (S26))).bind fun y195 => (if 0 ≤ (IntKind.u64.wrap (a1 + a3)) then (if (IntKind.u64.wrap (a1 + a3)) ≤ (l0.length : Int) then ((some (l0.drop ((IntKind.u64.wrap (a1 + a3)) : Int).toNat : List (S26))).bind fun y198 => (if y195.length + y198.length < 4398046511104 then (some ((y195 ++ y198), 0)) else (none))) else (none)) else (none))) else (none))) else (none)) else (none)) else (none))) else (none))) else (none)) else (none)) = some (r1, r2) := by rw [if_pos rfl] at H; exact H
      clear H
      have H := H1
      clear H1
      by_cases c10 : 0 ≤ a1
      · rw [if_pos c10] at H
        have c10b0 := eq_true c10
        have c10b1 : decide (0 ≤ a1) = true := decide_eq_true c10
        clear c10
        by_cases c11 : a1 ≤ (l0.length : Int)
        · rw [if_pos c11] at H
          have c11b0 := eq_true c11
          have c11b1 : decide (a1 ≤ (l0.length : Int)) = true := decide_eq_true c11
          clear c11
          obtain ⟨y184, hy184⟩ : ∃ y_ : List (S26), y_ = (l0.take (a1 : Int).toNat) := ⟨_, rfl⟩
          replace H : (if ([] : List (S26)).length + y184.length < 4398046511104 then ((some (([] : List (S26)) ++ y184 : List (S26))).bind fun y188 => (if 0 ≤ a2 then (if a2 ≤ (IntKind.u64.wrap (a2 + a3)) then (if (IntKind.u64.wrap (a2 + a3)) ≤ (l4.length : Int) then ((some ((l4.take ((IntKind.u64.wrap (a2 + a3)) : Int).toNat).drop (a2 : Int).toNat : List (S26))).bind fun y191 => (if y188.length + y191.length < 4398046511104 then ((some (y188 ++ y191 : List (S26))).bind fun y195 => (if 0 ≤ (IntKind.u64.wrap (a1 + a3)) then (if (IntKind.u64.wrap (a1 + a3)) ≤ (l0.length : Int) then ((some (l0.drop ((IntKind.u64.wrap (a1 + a3)) : Int).toNat : List (S26))).bind fun y198 => (if y195.length + y198.length < 4398046511104 then (some ((y195 ++ y198), 0)) else (none))) else (none)) else (none))) else (none))) else (none)) else (none)) else (none))) else (none)) = some (r1, r2) := by first | (rw [hy184]; with_reducible exact H) | (have H2_ := (Option.bind_some _ _).symm.trans H; rw [hy184]; with_reducible exact H2_) | (have H2_ := (Option.bind_some _ _).symm.trans H; with_reducible exact H2_) | with_reducible exact H | (rw [hy184]; exact H) | exact H
          have Ny184 := Aside0.mk hy184
          clear hy184
          by_cases c12 : ([] : List (S26)).length + y184.length < 4398046511104
          · rw [if_pos c12] at H
            have LMc12 := Aside0.mk c12
            clear c12
            obtain ⟨y188, hy188⟩ : ∃ y_ : List (S26), y_ = (([] : List (S26)) ++ y184) := ⟨_, rfl⟩
            replace H : (if 0 ≤ a2 then (if a2 ≤ (IntKind.u64.wrap (a2 + a3)) then (if (IntKind.u64.wrap (a2 + a3)) ≤ (l4.length : Int) then ((some ((l4.take ((IntKind.u64.wrap (a2 + a3)) : Int).toNat).drop (a2 : Int).toNat : List (S26))).bind fun y191 => (if y188.length + y191.length < 4398046511104 then ((some (y188 ++ y191 : List (S26))).bind fun y195 => (if 0 ≤ (IntKind.u64.wrap (a1 + a3)) then (if (IntKind.u64.wrap (a1 + a3)) ≤ (l0.length : Int) then ((some (l0.drop ((IntKind.u64.wrap (a1 + a3)) : Int).toNat : List (S26))).bind fun y198 => (if y195.length + y198.length < 4398046511104 then (some ((y195 ++ y198), 0)) else (none))) else (none)) else (none))) else (none))) else (none)) else (none)) else (none)) = some (r1, r2) := by first | (rw [hy188]; with_reducible exact H) | (have H2_ := (Option.bind_some _ _).symm.trans H; rw [hy188]; with_reducible exact H2_) | (have H2_ := (Option.bind_some _ _).symm.trans H; with_reducible exact H2_) | with_reducible exact H | (rw [hy188]; exact H) | exact H
            have Ny188 := Aside0.mk hy188
            clear hy188
            by_cases c13 : 0 ≤ a2
            · rw [if_pos c13] at H
              have c13b0 := eq_true c13
              have c13b1 : decide (0 ≤ a2) = true := decide_eq_true c13
              clear c13
              by_cases c14 : a2 ≤ (IntKind.u64.wrap (a2 + a3))
              · rw [if_pos c14] at H
                have c14b0 := eq_true c14
                have c14b1 : decide (a2 ≤ (IntKind.u64.wrap (a2 + a3))) = true := decide_eq_true c14
                by_cases c15 : (IntKind.u64.wrap (a2 + a3)) ≤ (l4.length : Int)
                · rw [if_pos c15] at H
                  have c15b0 := eq_true c15
                  have c15b1 : decide ((IntKind.u64.wrap (a2 + a3)) ≤ (l4.length : Int)) = true := decide_eq_true c15
                  obtain ⟨y191, hy191⟩ : ∃ y_ : List (S26), y_ = ((l4.take ((IntKind.u64.wrap (a2 + a3)) : Int).toNat).drop (a2 : Int).toNat) := ⟨_, rfl⟩
                  replace H : (if y188.length + y191.length < 4398046511104 then ((some (y188 ++ y191 : List (S26))).bind fun y195 => (if 0 ≤ (IntKind.u64.wrap (a1 + a3)) then (if (IntKind.u64.wrap (a1 + a3)) ≤ (l0.length : Int) then ((some (l0.drop ((IntKind.u64.wrap (a1 + a3)) : Int).toNat : List (S26))).bind fun y198 => (if y195.length + y198.length < 4398046511104 then (some ((y195 ++ y198), 0)) else (none))) else (none)) else (none))) else (none)) = some (r1, r2) := by first | (rw [hy191]; with_reducible exact H) | (have H2_ := (Option.bind_some _ _).symm.trans H; rw [hy191]; with_reducible exact H2_) | (have H2_ := (Option.bind_some _ _).symm.trans H; with_reducible exact H2_) | with_reducible exact H | (rw [hy191]; exact H) | exact H
                  have Ny191 := Aside0.mk hy191
                  clear hy191
                  by_cases c16 : y188.length + y191.length < 4398046511104
                  · rw [if_pos c16] at H
                    have LMc16 := Aside0.mk c16
                    clear c16
                    obtain ⟨y195, hy195⟩ : ∃ y_ : List (S26), y_ = (y188 ++ y191) := ⟨_, rfl⟩
                    replace H : (if 0 ≤ (IntKind.u64.wrap (a1 + a3)) then (if (IntKind.u64.wrap (a1 + a3)) ≤ (l0.length : Int) then ((some (l0.drop ((IntKind.u64.wrap (a1 + a3)) : Int).toNat : List (S26))).bind fun y198 => (if y195.length + y198.length < 4398046511104 then (some ((y195 ++ y198), 0)) else (none))) else (none)) else (none)) = some (r1, r2) := by first | (rw [hy195]; with_reducible exact H) | (have H2_ := (Option.bind_some _ _).symm.trans H; rw [hy195]; with_reducible exact H2_) | (have H2_ := (Option.bind_some _ _).symm.trans H; with_reducible exact H2_) | with_reducible exact H | (rw [hy195]; exact H) | exact H
                    have Ny195 := Aside0.mk hy195
                    clear hy195
                    obtain ⟨ji17, hji17⟩ : ∃ j_ : Int, (IntKind.u64.wrap (a1 + a3)) = j_ := ⟨_, rfl⟩
                    replace H : (if 0 ≤ (ji17) then (if (ji17) ≤ (l0.length : Int) then ((some (l0.drop ((ji17) : Int).toNat : List (S26))).bind fun y198 => (if y195.length + y198.length < 4398046511104 then (some ((y195 ++ y198), 0)) else (none))) else (none)) else (none)) = some (r1, r2) := by first | (rw [hji17] at H; exact H) | (simp only [hji17] at H ⊢; exact H)
                    (try rw [hji17] at A6)
                    (try rw [hji17] at A7)
                    by_cases c18 : 0 ≤ (ji17)
                    · rw [if_pos c18] at H
                      have c18b0 := eq_true c18
                      have c18b1 : decide (0 ≤ (ji17)) = true := decide_eq_true c18
                      clear c18
                      by_cases c19 : (ji17) ≤ (l0.length : Int)
                      · rw [if_pos c19] at H
                        have c19b0 := eq_true c19
                        have c19b1 : decide ((ji17) ≤ (l0.length : Int)) = true := decide_eq_true c19
                        clear c19
                        obtain ⟨y198, hy198⟩ : ∃ y_ : List (S26), y_ = (l0.drop ((ji17) : Int).toNat) := ⟨_, rfl⟩
                        replace H : (if y195.length + y198.length < 4398046511104 then (some ((y195 ++ y198), 0)) else (none)) = some (r1, r2) := by first | (rw [hy198]; with_reducible exact H) | (have H2_ := (Option.bind_some _ _).symm.trans H; rw [hy198]; with_reducible exact H2_) | (have H2_ := (Option.bind_some _ _).symm.trans H; with_reducible exact H2_) | with_reducible exact H | (rw [hy198]; exact H) | exact H
                        have Ny198 := Aside0.mk hy198
                        clear hy198
                        by_cases c20 : y195.length + y198.length < 4398046511104
                        · rw [if_pos c20] at H
                          have LMc20 := Aside0.mk c20
                          clear c20
                          obtain ⟨y202, hy202⟩ : ∃ y_ : List (S26), y_ = (y195 ++ y198) := ⟨_, rfl⟩
                          replace H : (some (y202, 0)) = some (r1, r2) := by first | (rw [hy202]; with_reducible exact H) | (have H2_ := (Option.bind_some _ _).symm.trans H; rw [hy202]; with_reducible exact H2_) | (have H2_ := (Option.bind_some _ _).symm.trans H; with_reducible exact H2_) | with_reducible exact H | (rw [hy202]; exact H) | exact H
                          have Ny202 := Aside0.mk hy202
                          clear hy202
                          simp only [Option.some.injEq, Prod.mk.injEq] at H
                          obtain ⟨rfl, rfl⟩ := H
                          go_enter Try.func23, Try.ntmps23
                          go_wp2_with (first | ((with_reducible refine gate_callee (f := 21) rfl ?_); refine goesL_ (some 19) rfl rfl Try.func21 (by kernel_rfl) rfl #[.int .u64 a2, .int .u64 a3, .int .i64 (l4.length : Int)] rfl (by (try simp only [List.map_toArray, List.map_cons, List.map_nil]); first | done | rfl | (simp only [List.length_drop, List.length_take]; rfl)) ?_; (with_reducible refine (bodkinref13_In.calls a2 a3 (l4.length : Int) true _ A6.out).mono ?_); rintro e w' ⟨rfl, ⟨nd, rfl⟩⟩; refine ⟨_, rfl, ?_⟩; obtain ⟨Ao21, co21, eo21⟩ := Kd.R_slice HO0.out; subst eo21) | ((with_reducible refine gate_callee (f := 21) rfl ?_); refine goesL_ (some 24) rfl rfl Try.func21 (by kernel_rfl) rfl #[.int .u64 a1, .int .u64 a3, .int .i64 (l0.length : Int)] rfl (by (try simp only [List.map_toArray, List.map_cons, List.map_nil]); first | done | rfl | (simp only [List.length_drop, List.length_take]; rfl)) ?_; (with_reducible refine (bodkinref13_In.calls a1 a3 (l0.length : Int) true _ A7.out).mono ?_); rintro e w' ⟨rfl, ⟨nd, rfl⟩⟩; refine ⟨_, rfl, ?_⟩; have q22 : (a1 : Int) ≤ ((l0.length : Int) : Int) := of_decide_eq_true (by first | (with_reducible assumption) | assumption); obtain ⟨i022, hi022, _, hsz22, _⟩ := info_parts info26; have hroom22 : l0.length ≤ co21 := (Kd.R_reads' HO0.out).2.1; have hC22 : Kd.C k26 _ Ao21 l0.length l0 := (Kd.R_reads' HO0.out).2.2; have hcut22 := fun (kk_ : IntKind) => cut_to (P := Try.prog) 38 26 kk_ Try.underlying38 hi022 Ao21 l0.length co21 a1 (of_decide_eq_true (by first | (with_reducible assumption) | assumption)) q22 hroom22; have hr22 := Kd.C_take (m := (a1 : Int).toNat) hC22 (by omega); have hy22 : y184.length = (a1 : Int).toNat := (by rw [Ny184.out, List.length_take]; omega); rw [← Ny184.out] at hr22; rw [← hy22] at hcut22; have HR187 := Aside0.mk hr22; have HC187 := Aside0.mk (show y184.length ≤ co21 from by omega); clear hr22 hC22 hroom22 hi022 hsz22; have KY22 := Aside0.mk hy22; clear hy22; have KL22 := Aside0.mk (show (a1 : Int).toNat ≤ l0.length from by omega); replace q22 := eq_true q22) | ((with_reducible refine gate_builtin (b := .append) (xs := #[.tmp 32, .tmp 35]) rfl ?_); at_builtin; refine Kd.R_append_rows k26 (w0 := w0) w0.heap.size rfl (.tmp 32) (.tmp 35) 38 26 (.agg #[(.int .i64 0), (.int .u64 0), (.int .u64 0), (.bool false)]) 32 rfl Try.underlying38 info26 rfl (by decide) (by omega) (.slice none 0 0) ([] : List (S26)) y184 _ _ _ (fun k_ => (P0_ k_ ∨ w.heap.size ≤ k_) ∧ some k_ ≠ (.slice Ao21 l0.length co21 : Value).ownBlock) (fun _ => False) rfl rfl ?aO ?aR (fun _ _ h => h) (fun _ h => h.elim) ?aF ?aB ?aS ?aL ?_; (case aR => repeat (first | exact (by repeat (first | (with_reducible exact HR187.out) | (with_reducible refine Kd.C_alloc ?_ _) | (with_reducible refine Kd.C_drewN ?_ _) | (with_reducible refine Kd.C_drew ?_) | exact HR187.out)) | (with_reducible refine Kd.C_alloc ?_ _) | (with_reducible refine Kd.C_drewN ?_ _) | (with_reducible refine Kd.C_drew ?_))); (case aB => exact (by repeat (first | (with_reducible first | exact HB.out | apply below_alloc | apply pw_below_drewN | apply below_drew1) | exact HB.out))); (case aF => exact (fun k_ hk => ⟨(.inr (Nat.le_trans (by first | exact HK.out.1 | exact (show Kept w _ (fun k_ => P0_ k_) from by repeat (first | (with_reducible first | exact HK.out | apply Kept.alloc | apply Kept.drewN | apply Kept.drew) | exact HK.out)).1) hk)), Kd.fresh' (Kd.R_lt (by (with_reducible repeat (first | apply Kd.R_alloc | apply Kd.R_drewN | apply Kd.R_drew)); exact HO0.out)) k_ hk⟩)); (case aO => exact ((Kd.R_nil _ _ _ _ (fun k_ => (P0_ k_ ∨ w.heap.size ≤ k_) ∧ some k_ ≠ (.slice Ao21 l0.length co21 : Value).ownBlock)))); (case aS => exact (below_size (by repeat (first | (with_reducible first | exact HB.out | apply below_alloc | apply pw_below_drewN | apply below_drew1) | exact HB.out)))); (case aL => have := LMc12.out; omega); intro v189 w23 ho hb hg hat; rw [← Ny188.out] at ho; have n0_ := Aside0.mk (Kd.R_after (Kd.R_apart_nil (by (with_reducible repeat (first | apply Kd.R_alloc | apply Kd.R_drewN | apply Kd.R_drew)); exact HO0.out)) hg hat); have n1_ := Aside0.mk (hb); have n2_ := Aside0.mk (Kept.of_grown (S := (fun k_ => P0_ k_)) hg (by repeat (first | (with_reducible first | exact HK.out | apply Kept.alloc | apply Kept.drewN | apply Kept.drew) | exact HK.out)) (fun k_ e_ => by simp [Value.ownBlock] at e_)); have n3_ := Aside0.mk ((show Kd.C k26 w23 Ao21 y184.length y184 from by rw [Ny184.out]; exact Kd.C_take (m := (a1 : Int).toNat) ((Kd.R_reads' (Kd.R_after (Kd.R_apart_nil (by (with_reducible repeat (first | apply Kd.R_alloc | apply Kd.R_drewN | apply Kd.R_drew)); exact HO0.out)) hg hat)).2.2) KL22.out)); have n4_ := Aside0.mk (ho); clear HO0; clear HB; clear HK; clear HR187; have HO0 := n0_; have HB := n1_; have HK := n2_; have HR187 := n3_; have HO190 := n4_; clear n0_ n1_ n2_ n3_ n4_; clear ho hb hg hat; have q24 : ((IntKind.u64.wrap (a2 + a3)) : Int) ≤ ((l4.length : Int) : Int) := of_decide_eq_true (by first | (with_reducible assumption) | assumption); obtain ⟨i024, hi024, _, hsz24, _⟩ := info_parts info26; have hroom24 : l4.length ≤ c4 := HC4.out; have hC24 : Kd.C k26 _ A4 l4.length l4 := (Kd.C_kept_now HR4.out HK.out); have ql24 : (a2 : Int) ≤ ((IntKind.u64.wrap (a2 + a3)) : Int) := of_decide_eq_true (by first | (with_reducible assumption) | assumption); have q024 : (0 : Int) ≤ (a2 : Int) := of_decide_eq_true (by first | (with_reducible assumption) | assumption); have hcut24 := fun (kk_ kk2_ : IntKind) => cut_mid (P := Try.prog) 38 26 kk_ kk2_ Try.underlying38 hi024 4 hsz24 A4 l4.length c4 a2 (IntKind.u64.wrap (a2 + a3)) q024 ql24 q24 hroom24; have hr24 := Kd.C_mid (lo := (a2 : Int).toNat) (hi := ((IntKind.u64.wrap (a2 + a3)) : Int).toNat) (c := c4) hC24 (by omega) (by omega) hroom24; obtain ⟨A24, hA24⟩ : ∃ A1, A1 = (if c4 = (a2 : Int).toNat then A4 else (A4 : Option Addr).map (·.add ((a2 : Int).toNat * 4))) := ⟨_, rfl⟩; obtain ⟨c24, hc24⟩ : ∃ c1, c1 = c4 - (a2 : Int).toNat := ⟨_, rfl⟩; have hy24 : y191.length = ((IntKind.u64.wrap (a2 + a3)) : Int).toNat - (a2 : Int).toNat := (by rw [Ny191.out, List.length_drop, List.length_take] <;> omega); rw [show ((l4).take ((IntKind.u64.wrap (a2 + a3)) : Int).toNat).drop (a2 : Int).toNat = y191 from Ny191.out.symm] at hr24; replace hr24 : Kd.C k26 _ A24 y191.length y191 := (by rw [hA24]; exact hr24); rw [← hy24, ← hA24, ← hc24] at hcut24; have HR194 := Aside0.mk hr24; have HC194 := Aside0.mk (show y191.length ≤ c24 from by rw [hy24, hc24]; exact Nat.sub_le_sub_right (Nat.le_trans (by omega) hroom24) _); clear hr24 hC24 hroom24 hi024 hsz24 hc24; have KY24 := Aside0.mk hy24; have KA24 := Aside0.mk hA24; clear hy24 hA24; have KL24 := Aside0.mk (show ((IntKind.u64.wrap (a2 + a3)) : Int).toNat ≤ l4.length from by omega); have KM24 := Aside0.mk (show (a2 : Int).toNat ≤ ((IntKind.u64.wrap (a2 + a3)) : Int).toNat from by omega); replace q24 := eq_true q24) | ((with_reducible refine gate_builtin (b := .append) (xs := #[.tmp 37, .tmp 43]) rfl ?_); at_builtin; refine Kd.R_append_rows k26 (w0 := w0) w0.heap.size rfl (.tmp 37) (.tmp 43) 38 26 (.agg #[(.int .i64 0), (.int .u64 0), (.int .u64 0), (.bool false)]) 32 rfl Try.underlying38 info26 rfl (by decide) (by omega) v189 y188 y191 _ _ _ (fun k_ => (P0_ k_ ∨ w.heap.size ≤ k_) ∧ some k_ ≠ (.slice Ao21 l0.length co21 : Value).ownBlock) (fun _ => False) rfl rfl ?aO ?aR (fun _ _ h => h) (fun _ h => h.elim) ?aF ?aB ?aS ?aL ?_; (case aR => repeat (first | exact (by repeat (first | (with_reducible exact HR194.out) | (with_reducible refine Kd.C_alloc ?_ _) | (with_reducible refine Kd.C_drewN ?_ _) | (with_reducible refine Kd.C_drew ?_) | exact HR194.out)) | (with_reducible refine Kd.C_alloc ?_ _) | (with_reducible refine Kd.C_drewN ?_ _) | (with_reducible refine Kd.C_drew ?_))); (case aB => exact (by repeat (first | (with_reducible first | exact HB.out | apply below_alloc | apply pw_below_drewN | apply below_drew1) | exact HB.out))); (case aF => exact (fun k_ hk => ⟨(.inr (Nat.le_trans (by first | exact HK.out.1 | exact (show Kept w _ (fun k_ => P0_ k_) from by repeat (first | (with_reducible first | exact HK.out | apply Kept.alloc | apply Kept.drewN | apply Kept.drew) | exact HK.out)).1) hk)), Kd.fresh' (Kd.R_lt (by (with_reducible repeat (first | apply Kd.R_alloc | apply Kd.R_drewN | apply Kd.R_drew)); exact HO0.out)) k_ hk⟩)); (case aO => exact (by (with_reducible repeat (first | apply Kd.R_alloc | apply Kd.R_drewN | apply Kd.R_drew)); exact HO190.out)); (case aS => exact (below_size (by repeat (first | (with_reducible first | exact HB.out | apply below_alloc | apply pw_below_drewN | apply below_drew1) | exact HB.out)))); (case aL => have := LMc16.out; omega); intro v196 w25 ho hb hg hat; rw [← Ny195.out] at ho; have n0_ := Aside0.mk (Kd.R_after (ok := (fun k_ => (P0_ k_ ∨ w.heap.size ≤ k_))) (by (with_reducible repeat (first | apply Kd.R_alloc | apply Kd.R_drewN | apply Kd.R_drew)); exact HO0.out) hg hat); have n1_ := Aside0.mk (hb); have n2_ := Aside0.mk (Kept.of_grown (S := (fun k_ => P0_ k_)) hg (by repeat (first | (with_reducible first | exact HK.out | apply Kept.alloc | apply Kept.drewN | apply Kept.drew) | exact HK.out)) (fun k_ e_ => (HO190.out.1 k_ e_).1)); have n3_ := Aside0.mk ((show Kd.C k26 w25 Ao21 y184.length y184 from by rw [Ny184.out]; exact Kd.C_take (m := (a1 : Int).toNat) ((Kd.R_reads' (Kd.R_after (ok := (fun k_ => (P0_ k_ ∨ w.heap.size ≤ k_))) (by (with_reducible repeat (first | apply Kd.R_alloc | apply Kd.R_drewN | apply Kd.R_drew)); exact HO0.out) hg hat)).2.2) KL22.out)); have n4_ := Aside0.mk ((show Kd.C k26 w25 A24 y191.length y191 from by rw [Ny191.out, KA24.out]; exact Kd.C_mid (lo := (a2 : Int).toNat) (hi := ((IntKind.u64.wrap (a2 + a3)) : Int).toNat) (c := c4) (Kd.C_kept_now HR4.out (show Kept w w25 (fun k_ => P0_ k_) from (Kept.of_grown (S := (fun k_ => P0_ k_)) hg (by repeat (first | (with_reducible first | exact HK.out | apply Kept.alloc | apply Kept.drewN | apply Kept.drew) | exact HK.out)) (fun k_ e_ => (HO190.out.1 k_ e_).1)))) KM24.out KL24.out HC4.out)); have n5_ := Aside0.mk (ho); clear HO0; clear HB; clear HK; clear HR187; clear HR194; clear HO190; have HO0 := n0_; have HB := n1_; have HK := n2_; have HR187 := n3_; have HR194 := n4_; have HO197 := n5_; clear n0_ n1_ n2_ n3_ n4_ n5_; clear ho hb hg hat; have q26 : ((ji17) : Int) ≤ ((l0.length : Int) : Int) := of_decide_eq_true (by first | (with_reducible assumption) | assumption); obtain ⟨i026, hi026, _, hsz26, _⟩ := info_parts info26; have hroom26 : l0.length ≤ co21 := (Kd.R_reads' HO0.out).2.1; have hC26 : Kd.C k26 _ Ao21 l0.length l0 := (Kd.R_reads' HO0.out).2.2; have q026 : (0 : Int) ≤ ((ji17) : Int) := of_decide_eq_true (by first | (with_reducible assumption) | assumption); have hcut26 := fun (kk_ : IntKind) => cut_from (P := Try.prog) 38 26 kk_ Try.underlying38 hi026 4 hsz26 Ao21 l0.length co21 (ji17) q026 q26; have hr26 := Kd.C_drop (m := ((ji17) : Int).toNat) (c := co21) hC26 (by omega) hroom26; obtain ⟨A26, hA26⟩ : ∃ A1, A1 = (if co21 = ((ji17) : Int).toNat then Ao21 else (Ao21 : Option Addr).map (·.add (((ji17) : Int).toNat * 4))) := ⟨_, rfl⟩; obtain ⟨c26, hc26⟩ : ∃ c1, c1 = co21 - ((ji17) : Int).toNat := ⟨_, rfl⟩; have hy26 : y198.length = l0.length - ((ji17) : Int).toNat := (by rw [Ny198.out, List.length_drop] <;> omega); rw [show (l0).drop ((ji17) : Int).toNat = y198 from Ny198.out.symm] at hr26; replace hr26 : Kd.C k26 _ A26 y198.length y198 := (by rw [hA26]; exact hr26); rw [← hy26, ← hA26, ← hc26] at hcut26; have HR201 := Aside0.mk hr26; have HC201 := Aside0.mk (show y198.length ≤ c26 from by rw [hy26, hc26]; exact Nat.sub_le_sub_right hroom26 _); clear hr26 hC26 hroom26 hi026 hsz26 hc26; have KY26 := Aside0.mk hy26; have KA26 := Aside0.mk hA26; clear hy26 hA26; have KL26 := Aside0.mk (show ((ji17) : Int).toNat ≤ l0.length from by omega); replace q26 := eq_true q26) | ((with_reducible refine gate_builtin (b := .append) (xs := #[.tmp 45, .tmp 50]) rfl ?_); at_builtin; refine Kd.R_append_rows k26 (w0 := w0) w0.heap.size rfl (.tmp 45) (.tmp 50) 38 26 (.agg #[(.int .i64 0), (.int .u64 0), (.int .u64 0), (.bool false)]) 32 rfl Try.underlying38 info26 rfl (by decide) (by omega) v196 y195 y198 _ _ _ (fun k_ => (P0_ k_ ∨ w.heap.size ≤ k_) ∧ some k_ ≠ (.slice Ao21 l0.length co21 : Value).ownBlock) (fun _ => False) rfl rfl ?aO ?aR (fun _ _ h => h) (fun _ h => h.elim) ?aF ?aB ?aS ?aL ?_; (case aR => repeat (first | exact (by repeat (first | (with_reducible exact HR201.out) | (with_reducible refine Kd.C_alloc ?_ _) | (with_reducible refine Kd.C_drewN ?_ _) | (with_reducible refine Kd.C_drew ?_) | exact HR201.out)) | (with_reducible refine Kd.C_alloc ?_ _) | (with_reducible refine Kd.C_drewN ?_ _) | (with_reducible refine Kd.C_drew ?_))); (case aB => exact (by repeat (first | (with_reducible first | exact HB.out | apply below_alloc | apply pw_below_drewN | apply below_drew1) | exact HB.out))); (case aF => exact (fun k_ hk => ⟨(.inr (Nat.le_trans (by first | exact HK.out.1 | exact (show Kept w _ (fun k_ => P0_ k_) from by repeat (first | (with_reducible first | exact HK.out | apply Kept.alloc | apply Kept.drewN | apply Kept.drew) | exact HK.out)).1) hk)), Kd.fresh' (Kd.R_lt (by (with_reducible repeat (first | apply Kd.R_alloc | apply Kd.R_drewN | apply Kd.R_drew)); exact HO0.out)) k_ hk⟩)); (case aO => exact (by (with_reducible repeat (first | apply Kd.R_alloc | apply Kd.R_drewN | apply Kd.R_drew)); exact HO197.out)); (case aS => exact (below_size (by repeat (first | (with_reducible first | exact HB.out | apply below_alloc | apply pw_below_drewN | apply below_drew1) | exact HB.out)))); (case aL => have := LMc20.out; omega); intro v203 w27 ho hb hg hat; rw [← Ny202.out] at ho; have n0_ := Aside0.mk (Kd.R_after (ok := (fun k_ => (P0_ k_ ∨ w.heap.size ≤ k_))) (by (with_reducible repeat (first | apply Kd.R_alloc | apply Kd.R_drewN | apply Kd.R_drew)); exact HO0.out) hg hat); have n1_ := Aside0.mk (hb); have n2_ := Aside0.mk (Kept.of_grown (S := (fun k_ => P0_ k_)) hg (by repeat (first | (with_reducible first | exact HK.out | apply Kept.alloc | apply Kept.drewN | apply Kept.drew) | exact HK.out)) (fun k_ e_ => (HO197.out.1 k_ e_).1)); have n3_ := Aside0.mk ((show Kd.C k26 w27 Ao21 y184.length y184 from by rw [Ny184.out]; exact Kd.C_take (m := (a1 : Int).toNat) ((Kd.R_reads' (Kd.R_after (ok := (fun k_ => (P0_ k_ ∨ w.heap.size ≤ k_))) (by (with_reducible repeat (first | apply Kd.R_alloc | apply Kd.R_drewN | apply Kd.R_drew)); exact HO0.out) hg hat)).2.2) KL22.out)); have n4_ := Aside0.mk ((show Kd.C k26 w27 A24 y191.length y191 from by rw [Ny191.out, KA24.out]; exact Kd.C_mid (lo := (a2 : Int).toNat) (hi := ((IntKind.u64.wrap (a2 + a3)) : Int).toNat) (c := c4) (Kd.C_kept_now HR4.out (show Kept w w27 (fun k_ => P0_ k_) from (Kept.of_grown (S := (fun k_ => P0_ k_)) hg (by repeat (first | (with_reducible first | exact HK.out | apply Kept.alloc | apply Kept.drewN | apply Kept.drew) | exact HK.out)) (fun k_ e_ => (HO197.out.1 k_ e_).1)))) KM24.out KL24.out HC4.out)); have n5_ := Aside0.mk ((show Kd.C k26 w27 A26 y198.length y198 from by rw [Ny198.out, KA26.out]; exact Kd.C_drop (m := ((ji17) : Int).toNat) (c := co21) ((Kd.R_reads' (Kd.R_after (ok := (fun k_ => (P0_ k_ ∨ w.heap.size ≤ k_))) (by (with_reducible repeat (first | apply Kd.R_alloc | apply Kd.R_drewN | apply Kd.R_drew)); exact HO0.out) hg hat)).2.2) KL26.out ((Kd.R_reads' (Kd.R_after (ok := (fun k_ => (P0_ k_ ∨ w.heap.size ≤ k_))) (by (with_reducible repeat (first | apply Kd.R_alloc | apply Kd.R_drewN | apply Kd.R_drew)); exact HO0.out) hg hat)).2.1))); have n6_ := Aside0.mk (ho); clear HO0; clear HB; clear HK; clear HR187; clear HR194; clear HR201; clear HO197; have HO0 := n0_; have HB := n1_; have HK := n2_; have HR187 := n3_; have HR194 := n4_; have HR201 := n5_; have HO204 := n6_; clear n0_ n1_ n2_ n3_ n4_ n5_ n6_; clear ho hb hg hat))
                          go_ret2
                          exact ⟨_, by first | rfl | (simp [errW_none, errW_some] <;> rfl) | (simp only [← hji17]; first | rfl | (simp [errW_none, errW_some] <;> rfl)) | (simp [*, errW_none, errW_some] <;> rfl), by (with_reducible repeat (first | apply Kd.R_alloc | apply Kd.R_drewN | apply Kd.R_drew)); exact Kd.R_mono HO204.out (fun _ hk => hk.1), by repeat (first | (with_reducible first | exact HB.out | apply below_alloc | apply pw_below_drewN | apply below_drew1) | exact HB.out), by repeat (first | (with_reducible first | exact HK.out | apply Kept.alloc | apply Kept.drewN | apply Kept.drew) | exact HK.out)⟩
                        · rw [if_neg c20] at H
                          exact absurd H (by simp)
                      · rw [if_neg c19] at H
                        exact absurd H (by simp)
                    · rw [if_neg c18] at H
                      exact absurd H (by simp)
                  · rw [if_neg c16] at H
                    exact absurd H (by simp)
                · rw [if_neg c15] at H
                  exact absurd H (by simp)
              · rw [if_neg c14] at H
                exact absurd H (by simp)
            · rw [if_neg c13] at H
              exact absurd H (by simp)
          · rw [if_neg c12] at H
            exact absurd H (by simp)
        · rw [if_neg c11] at H
          exact absurd H (by simp)
      · rw [if_neg c10] at H
        exact absurd H (by simp)
    · replace c9 := Bool.eq_false_iff.mpr c9
      subst c9
      have H1 : (some (l0, 45)) = some (r1, r2) := by rw [if_neg (show ¬ (false = true) by decide)] at H; exact H
      clear H
      have H := H1
      clear H1
      simp only [Option.some.injEq, Prod.mk.injEq] at H
      obtain ⟨rfl, rfl⟩ := H
      go_enter Try.func23, Try.ntmps23
      go_wp2_with (first | ((with_reducible refine gate_callee (f := 21) rfl ?_); refine goesL_ (some 19) rfl rfl Try.func21 (by kernel_rfl) rfl #[.int .u64 a2, .int .u64 a3, .int .i64 (l4.length : Int)] rfl (by (try simp only [List.map_toArray, List.map_cons, List.map_nil]); first | done | rfl | (simp only [List.length_drop, List.length_take]; rfl)) ?_; (with_reducible refine (bodkinref13_In.calls a2 a3 (l4.length : Int) true _ A6.out).mono ?_); rintro e w' ⟨rfl, ⟨nd, rfl⟩⟩; refine ⟨_, rfl, ?_⟩; obtain ⟨Ao28, co28, eo28⟩ := Kd.R_slice HO0.out; subst eo28) | ((with_reducible refine gate_callee (f := 21) rfl ?_); refine goesL_ (some 24) rfl rfl Try.func21 (by kernel_rfl) rfl #[.int .u64 a1, .int .u64 a3, .int .i64 (l0.length : Int)] rfl (by (try simp only [List.map_toArray, List.map_cons, List.map_nil]); first | done | rfl | (simp only [List.length_drop, List.length_take]; rfl)) ?_; (with_reducible refine (bodkinref13_In.calls a1 a3 (l0.length : Int) false _ A7.out).mono ?_); rintro e w' ⟨rfl, ⟨nd, rfl⟩⟩; refine ⟨_, rfl, ?_⟩))
      go_ret2
      exact ⟨_, by first | rfl | (simp [errW_none, errW_some] <;> rfl) | (simp [*, errW_none, errW_some] <;> rfl), by (with_reducible repeat (first | apply Kd.R_alloc | apply Kd.R_drewN | apply Kd.R_drew)); exact HO0.out, by repeat (first | (with_reducible first | exact HB.out | apply below_alloc | apply pw_below_drewN | apply below_drew1) | exact HB.out), by repeat (first | (with_reducible first | exact HK.out | apply Kept.alloc | apply Kept.drewN | apply Kept.drew) | exact HK.out)⟩
  · replace c8 := Bool.eq_false_iff.mpr c8
    subst c8
    have H1 : (some (l0, 45)) = some (r1, r2) := by rw [if_neg (show ¬ (false = true) by decide)] at H; exact H
    clear H
    have H := H1
    clear H1
    simp only [Option.some.injEq, Prod.mk.injEq] at H
    obtain ⟨rfl, rfl⟩ := H
    go_enter Try.func23, Try.ntmps23
    go_wp2_with (first | ((with_reducible refine gate_callee (f := 21) rfl ?_); refine goesL_ (some 19) rfl rfl Try.func21 (by kernel_rfl) rfl #[.int .u64 a2, .int .u64 a3, .int .i64 (l4.length : Int)] rfl (by (try simp only [List.map_toArray, List.map_cons, List.map_nil]); first | done | rfl | (simp only [List.length_drop, List.length_take]; rfl)) ?_; (with_reducible refine (bodkinref13_In.calls a2 a3 (l4.length : Int) false _ A6.out).mono ?_); rintro e w' ⟨rfl, ⟨nd, rfl⟩⟩; refine ⟨_, rfl, ?_⟩; obtain ⟨Ao29, co29, eo29⟩ := Kd.R_slice HO0.out; subst eo29) | ((with_reducible refine gate_callee (f := 21) rfl ?_); refine goesL_ (some 24) rfl rfl Try.func21 (by kernel_rfl) rfl #[.int .u64 a1, .int .u64 a3, .int .i64 (l0.length : Int)] rfl (by (try simp only [List.map_toArray, List.map_cons, List.map_nil]); first | done | rfl | (simp only [List.length_drop, List.length_take]; rfl)) ?_; (with_reducible refine (bodkinref13_In.calls a1 a3 (l0.length : Int) t183 _ A7.out).mono ?_); rintro e w' ⟨rfl, ⟨nd, rfl⟩⟩; refine ⟨_, rfl, ?_⟩))
    go_ret2
    exact ⟨_, by first | rfl | (simp [errW_none, errW_some] <;> rfl) | (simp [*, errW_none, errW_some] <;> rfl), by (with_reducible repeat (first | apply Kd.R_alloc | apply Kd.R_drewN | apply Kd.R_drew)); exact HO0.out, by repeat (first | (with_reducible first | exact HB.out | apply below_alloc | apply pw_below_drewN | apply below_drew1) | exact HB.out), by repeat (first | (with_reducible first | exact HK.out | apply Kept.alloc | apply Kept.drewN | apply Kept.drew) | exact HK.out)⟩

-- NOT PRINTED: function 26 (store_Table_Init)

-- NOT PRINTED: function 25 (store_Table_Copy)

-- NOT PRINTED: function 6 (bodkinlaw13_StoreTable)

end Go.Proofs.Ytjpbmmncakcbhaa.PA
