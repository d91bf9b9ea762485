/- YtmbpgnmhfmcbmaaDoor: Go functions as plain Lean functions, and that the calls come to them; written by a program of this session (wip/tools/mkprint.py). -/
import Derived.Test.YtmbpgnmhfmcbmaaDoorPAx0
import Derived.Test.YtmbpgnmhfmcbmaaDoorPAx3
namespace Go.Proofs.YtmbpgnmhfmcbmaaDoor.PA
open Go.RowKit Go.Proofs.YtmbpgnmhfmcbmaaDoorW.PrintWords Go.Proofs.YtmbpgnmhfmcbmaaDoorW.PrintLast Go.Proofs.YtmbpgnmhfmcbmaaDoorW.PrintMore
attribute [local go_sem] max2_int min2_int max_two min_two max_three min_three max_four min_four   -- for this text's walks alone
set_option linter.unusedVariables false
set_option linter.unusedSimpArgs false

/-! ### bodkinref02_Signed: function 10 -/
def bodkinref02_Signed.f (k : Nat) (a0 : Int) (a1 : Int) : Option (Int) := (bodkinref02_Right.f a0).bind fun t143 => (if t143 = true then ((bodkinref02_Cut.f k a0 a1).bind fun t144 => ((bodkinref02_bit.f k t144 (wrap64 (a0 - 1))).bind fun t145 => (if t145 = 1 then ((bodkinref02_Cut.f k a0 (IntKind.u64.wrap (-t144))).bind fun t146 => (some (wrap64 ((wrap64 (-(wrap64 (IntKind.u64.wrap (t146 - 1))))) - 1)))) else (some (wrap64 (t144)))))) else (some 0))
theorem bodkinref02_Signed.mono : ∀ a0 a1 k, LeO (bodkinref02_Signed.f k a0 a1) (bodkinref02_Signed.f (k + 1) a0 a1) := by
  intro a0 a1 k
  unfold bodkinref02_Signed.f
  repeat' first
      | (with_reducible exact bodkinref02_Cut.mono _ _ _)
      | (with_reducible exact bodkinref02_bit.mono _ _ _)
      | (with_reducible exact LeO.refl _)
      | (with_reducible exact LeO.none _)
      | (with_reducible refine LeO.ite ?_ ?_)
      | (with_reducible refine LeO.bind ?_ (fun _ => ?_))
      | exact bodkinref02_Cut.mono _ _ _
      | exact bodkinref02_bit.mono _ _ _
      | exact LeO.none _
      | refine LeO.ite ?_ ?_
      | refine LeO.bind ?_ (fun _ => ?_)
set_option maxHeartbeats 8000000 in
set_option maxRecDepth 100000 in
theorem bodkinref02_Signed.calls (k : Nat) (a0 : Int) (a1 : Int) (r : Int) (w : World) (hT : Amb w) (h : bodkinref02_Signed.f k a0 a1 = some r) :
    Calls Tryd.prog 10 #[.int .i64 a0, .int .u64 a1] w fun e w' => e = .returned (.int .i64 r) ∧ Drawn0 w w' := by
  have HT := Aside0.mk hT
  clear hT
  have H : ((bodkinref02_Right.f a0).bind fun t143 => (if t143 = true then ((bodkinref02_Cut.f k a0 a1).bind fun t144 => ((bodkinref02_bit.f k t144 (wrap64 (a0 - 1))).bind fun t145 => (if t145 = 1 then ((bodkinref02_Cut.f k a0 (IntKind.u64.wrap (-t144))).bind fun t146 => (some (wrap64 ((wrap64 (-(wrap64 (IntKind.u64.wrap (t146 - 1))))) - 1)))) else (some (wrap64 (t144)))))) else (some 0))) = some r := h
  clear h
  replace H := Option.bind_eq_some_iff.mp H
  obtain ⟨t143, A30, H⟩ := H
  replace H : (if t143 = true then ((bodkinref02_Cut.f k a0 a1).bind fun t144 => ((bodkinref02_bit.f k t144 (wrap64 (a0 - 1))).bind fun t145 => (if t145 = 1 then ((bodkinref02_Cut.f k a0 (IntKind.u64.wrap (-t144))).bind fun t146 => (some (wrap64 ((wrap64 (-(wrap64 (IntKind.u64.wrap (t146 - 1))))) - 1)))) else (some (wrap64 (t144)))))) else (some 0)) = some r := H
  have A3 := Aside0.mk A30
  clear A30
  by_cases c4 : t143 = true
  · subst c4
    have H1 : ((bodkinref02_Cut.f k a0 a1).bind fun t144 => ((bodkinref02_bit.f k t144 (wrap64 (a0 - 1))).bind fun t145 => (if t145 = 1 then ((bodkinref02_Cut.f k a0 (IntKind.u64.wrap (-t144))).bind fun t146 => (some (wrap64 ((wrap64 (-(wrap64 (IntKind.u64.wrap (t146 - 1))))) - 1)))) else (some (wrap64 (t144)))))) = some r := by rw [if_pos rfl] at H; exact H
    clear H
    have H := H1
    clear H1
    replace H := Option.bind_eq_some_iff.mp H
    obtain ⟨t144, A50, H⟩ := H
    replace H : ((bodkinref02_bit.f k t144 (wrap64 (a0 - 1))).bind fun t145 => (if t145 = 1 then ((bodkinref02_Cut.f k a0 (IntKind.u64.wrap (-t144))).bind fun t146 => (some (wrap64 ((wrap64 (-(wrap64 (IntKind.u64.wrap (t146 - 1))))) - 1)))) else (some (wrap64 (t144))))) = some r := H
    have A5 := Aside0.mk A50
    clear A50
    replace H := Option.bind_eq_some_iff.mp H
    obtain ⟨t145, A60, H⟩ := H
    replace H : (if t145 = 1 then ((bodkinref02_Cut.f k a0 (IntKind.u64.wrap (-t144))).bind fun t146 => (some (wrap64 ((wrap64 (-(wrap64 (IntKind.u64.wrap (t146 - 1))))) - 1)))) else (some (wrap64 (t144)))) = some r := H
    have A6 := Aside0.mk A60
    clear A60
    by_cases c7 : t145 = 1
    · rw [if_pos c7] at H
      have c7b0 : (t145 == 1) = true := beq_iff_eq.mpr c7
      have c7b1 : (t145 != 1) = false := bne_eq_false_iff_eq.mpr c7
      clear c7
      replace H := Option.bind_eq_some_iff.mp H
      obtain ⟨t146, A80, H⟩ := H
      replace H : (some (wrap64 ((wrap64 (-(wrap64 (IntKind.u64.wrap (t146 - 1))))) - 1))) = some r := H
      have A8 := Aside0.mk A80
      clear A80
      obtain rfl := Option.some.inj H
      go_enter Tryd.func10, Tryd.ntmps10
      go_wp2_with (first | ((with_reducible refine gate_callee (f := 14) rfl ?_); refine goesL_ (some 8) rfl rfl Tryd.func14 (by kernel_rfl) rfl #[.int .i64 a0] rfl (by (try simp only [List.map_toArray, List.map_cons, List.map_nil]); first | done | rfl | (simp only [List.length_drop, List.length_take]; rfl)) ?_; (with_reducible refine (bodkinref02_Right.calls a0 true _ ?side1 A3.out).mono ?_); (case side1 => exact Amb.below HT.out (by repeat (first | exact Below.refl _ _ | apply below_alloc | apply pw_below_drewN | apply below_drew1))); rintro e w' ⟨rfl, ⟨nd, rfl⟩⟩; refine ⟨_, rfl, ?_⟩) | ((with_reducible refine gate_callee (f := 15) rfl ?_); refine goesL_ (some 13) rfl rfl Tryd.func15 (by kernel_rfl) rfl #[.int .i64 a0, .int .u64 a1] rfl (by (try simp only [List.map_toArray, List.map_cons, List.map_nil]); first | done | rfl | (simp only [List.length_drop, List.length_take]; rfl)) ?_; (with_reducible refine (bodkinref02_Cut.calls k a0 a1 t144 _ ?side1 A5.out).mono ?_); (case side1 => exact Amb.below HT.out (by repeat (first | exact Below.refl _ _ | apply below_alloc | apply pw_below_drewN | apply below_drew1))); rintro e w' ⟨rfl, ⟨nd, rfl⟩⟩; refine ⟨_, rfl, ?_⟩) | ((with_reducible refine gate_callee (f := 21) rfl ?_); refine goesL_ (some 17) rfl rfl Tryd.func21 (by kernel_rfl) rfl #[.int .u64 t144, .int .i64 (wrap64 (a0 - 1))] rfl (by (try simp only [List.map_toArray, List.map_cons, List.map_nil]); first | done | rfl | (simp only [List.length_drop, List.length_take]; rfl)) ?_; (with_reducible refine (bodkinref02_bit.calls k t144 (wrap64 (a0 - 1)) t145 _ ?side1 A6.out).mono ?_); (case side1 => exact Amb.below HT.out (by repeat (first | exact Below.refl _ _ | apply below_alloc | apply pw_below_drewN | apply below_drew1))); rintro e w' ⟨rfl, ⟨nd, rfl⟩⟩; refine ⟨_, rfl, ?_⟩) | ((with_reducible refine gate_callee (f := 15) rfl ?_); refine goesL_ (some 22) rfl rfl Tryd.func15 (by kernel_rfl) rfl #[.int .i64 a0, .int .u64 (IntKind.u64.wrap (-t144))] rfl (by (try simp only [List.map_toArray, List.map_cons, List.map_nil]); first | done | rfl | (simp only [List.length_drop, List.length_take]; rfl)) ?_; (with_reducible refine (bodkinref02_Cut.calls k a0 (IntKind.u64.wrap (-t144)) t146 _ ?side1 A8.out).mono ?_); (case side1 => exact Amb.below HT.out (by repeat (first | exact Below.refl _ _ | apply below_alloc | apply pw_below_drewN | apply below_drew1))); rintro e w' ⟨rfl, ⟨nd, rfl⟩⟩; refine ⟨_, rfl, ?_⟩))
      go_ret
      exact ⟨by first | rfl | (simp; done) | (simp [*]; done), by repeat (first | exact Drawn0.refl _ | apply Drawn0.step)⟩
    · rw [if_neg c7] at H
      have c7b0 : (t145 == 1) = false := beq_eq_false_iff_ne.mpr c7
      have c7b1 : (t145 != 1) = true := bne_iff_ne.mpr c7
      obtain rfl := Option.some.inj H
      go_enter Tryd.func10, Tryd.ntmps10
      go_wp2_with (first | ((with_reducible refine gate_callee (f := 14) rfl ?_); refine goesL_ (some 8) rfl rfl Tryd.func14 (by kernel_rfl) rfl #[.int .i64 a0] rfl (by (try simp only [List.map_toArray, List.map_cons, List.map_nil]); first | done | rfl | (simp only [List.length_drop, List.length_take]; rfl)) ?_; (with_reducible refine (bodkinref02_Right.calls a0 true _ ?side1 A3.out).mono ?_); (case side1 => exact Amb.below HT.out (by repeat (first | exact Below.refl _ _ | apply below_alloc | apply pw_below_drewN | apply below_drew1))); rintro e w' ⟨rfl, ⟨nd, rfl⟩⟩; refine ⟨_, rfl, ?_⟩) | ((with_reducible refine gate_callee (f := 15) rfl ?_); refine goesL_ (some 13) rfl rfl Tryd.func15 (by kernel_rfl) rfl #[.int .i64 a0, .int .u64 a1] rfl (by (try simp only [List.map_toArray, List.map_cons, List.map_nil]); first | done | rfl | (simp only [List.length_drop, List.length_take]; rfl)) ?_; (with_reducible refine (bodkinref02_Cut.calls k a0 a1 t144 _ ?side1 A5.out).mono ?_); (case side1 => exact Amb.below HT.out (by repeat (first | exact Below.refl _ _ | apply below_alloc | apply pw_below_drewN | apply below_drew1))); rintro e w' ⟨rfl, ⟨nd, rfl⟩⟩; refine ⟨_, rfl, ?_⟩) | ((with_reducible refine gate_callee (f := 21) rfl ?_); refine goesL_ (some 17) rfl rfl Tryd.func21 (by kernel_rfl) rfl #[.int .u64 t144, .int .i64 (wrap64 (a0 - 1))] rfl (by (try simp only [List.map_toArray, List.map_cons, List.map_nil]); first | done | rfl | (simp only [List.length_drop, List.length_take]; rfl)) ?_; (with_reducible refine (bodkinref02_bit.calls k t144 (wrap64 (a0 - 1)) t145 _ ?side1 A6.out).mono ?_); (case side1 => exact Amb.below HT.out (by repeat (first | exact Below.refl _ _ | apply below_alloc | apply pw_below_drewN | apply below_drew1))); rintro e w' ⟨rfl, ⟨nd, rfl⟩⟩; refine ⟨_, rfl, ?_⟩))
      go_ret
      exact ⟨by first | rfl | (simp; done) | (simp [*]; done), by repeat (first | exact Drawn0.refl _ | apply Drawn0.step)⟩
  · replace c4 := Bool.eq_false_iff.mpr c4
    subst c4
    have H1 : (some 0) = some r := by rw [if_neg (show ¬ (false = true) by decide)] at H; exact H
    clear H
    have H := H1
    clear H1
    obtain rfl := Option.some.inj H
    go_enter Tryd.func10, Tryd.ntmps10
    go_wp2_with (first | ((with_reducible refine gate_callee (f := 14) rfl ?_); refine goesL_ (some 8) rfl rfl Tryd.func14 (by kernel_rfl) rfl #[.int .i64 a0] rfl (by (try simp only [List.map_toArray, List.map_cons, List.map_nil]); first | done | rfl | (simp only [List.length_drop, List.length_take]; rfl)) ?_; (with_reducible refine (bodkinref02_Right.calls a0 false _ ?side1 A3.out).mono ?_); (case side1 => exact Amb.below HT.out (by repeat (first | exact Below.refl _ _ | apply below_alloc | apply pw_below_drewN | apply below_drew1))); rintro e w' ⟨rfl, ⟨nd, rfl⟩⟩; refine ⟨_, rfl, ?_⟩))
    go_ret
    exact ⟨by first | rfl | (simp; done) | (simp [*]; done), by repeat (first | exact Drawn0.refl _ | apply Drawn0.step)⟩

/-! ### bodkinref02_Rel: function 6 -/
def bodkinref02_Rel.j0 : Nat → Int → Int → Int → Int → Bool → Option (Bool × Int)
  | 0, _, _, _, _, _ => none
  | k + 1, x0, x1, x2, x3, x25 => if x25 = true then (some (false, 1)) else ((bodkinref02_Cut.f k x0 x2).bind fun t148 => ((bodkinref02_Cut.f k x0 x3).bind fun t149 => ((bodkinref02_Signed.f k x0 t148).bind fun t150 => ((bodkinref02_Signed.f k x0 t149).bind fun t151 => ((some (([false, (t148 == t149), (t148 != t149), decide (t150 < t151), decide (t148 < t149), decide (t150 > t151), decide (t148 > t149), decide (t150 ≤ t151), decide (t148 ≤ t149), decide (t150 ≥ t151), decide (t148 ≥ t149)] : List Bool) : List Bool)).bind fun y152 => (if 0 ≤ x1 then (if x1 < (y152.length : Int) then (some (rdOf false y152 x1, 0)) else (none)) else (none)))))))
def bodkinref02_Rel.f (k : Nat) (a0 : Int) (a1 : Int) (a2 : Int) (a3 : Int) : Option (Bool × Int) := (bodkinref02_Right.f a0).bind fun t147 => (if t147 = true then (if a1 < 1 then (bodkinref02_Rel.j0 k a0 a1 a2 a3 true) else (bodkinref02_Rel.j0 k a0 a1 a2 a3 (decide (a1 > 10)))) else (bodkinref02_Rel.j0 k a0 a1 a2 a3 true))
theorem bodkinref02_Rel.mono_l : ∀ k, (∀ y0 y1 y2 y3 y4, LeO (bodkinref02_Rel.j0 k y0 y1 y2 y3 y4) (bodkinref02_Rel.j0 (k + 1) y0 y1 y2 y3 y4))
  | 0 => fun _ _ _ _ _ r h => by simp [bodkinref02_Rel.j0] at h
  | k + 1 => by
    have ih0 := bodkinref02_Rel.mono_l k
    · intro y0 y1 y2 y3 y4
      unfold bodkinref02_Rel.j0
      repeat' first
      | (with_reducible exact ih0 _ _ _ _ _)
      | (with_reducible exact bodkinref02_Cut.mono _ _ _)
      | (with_reducible exact bodkinref02_Signed.mono _ _ _)
      | (with_reducible exact LeO.refl _)
      | (with_reducible exact LeO.none _)
      | (with_reducible refine LeO.ite ?_ ?_)
      | (with_reducible refine LeO.bind ?_ (fun _ => ?_))
      | exact ih0 _ _ _ _ _
      | exact bodkinref02_Cut.mono _ _ _
      | exact bodkinref02_Signed.mono _ _ _
      | exact LeO.none _
      | refine LeO.ite ?_ ?_
      | refine LeO.bind ?_ (fun _ => ?_)
theorem bodkinref02_Rel.mono : ∀ a0 a1 a2 a3 k, LeO (bodkinref02_Rel.f k a0 a1 a2 a3) (bodkinref02_Rel.f (k + 1) a0 a1 a2 a3) := by
  intro a0 a1 a2 a3 k
  have ih0 := bodkinref02_Rel.mono_l k
  unfold bodkinref02_Rel.f
  repeat' first
      | (with_reducible exact ih0 _ _ _ _ _)
      | (with_reducible exact bodkinref02_Cut.mono _ _ _)
      | (with_reducible exact bodkinref02_Signed.mono _ _ _)
      | (with_reducible exact LeO.refl _)
      | (with_reducible exact LeO.none _)
      | (with_reducible refine LeO.ite ?_ ?_)
      | (with_reducible refine LeO.bind ?_ (fun _ => ?_))
      | exact ih0 _ _ _ _ _
      | exact bodkinref02_Cut.mono _ _ _
      | exact bodkinref02_Signed.mono _ _ _
      | exact LeO.none _
      | refine LeO.ite ?_ ?_
      | refine LeO.bind ?_ (fun _ => ?_)
set_option maxHeartbeats 8000000 in
set_option maxRecDepth 100000 in
theorem bodkinref02_Rel.calls (k : Nat) (a0 : Int) (a1 : Int) (a2 : Int) (a3 : Int) (r1 : Bool) (r2 : Int) (w : World) (hT : Amb w) (h : bodkinref02_Rel.f k a0 a1 a2 a3 = some (r1, r2)) :
    Calls Tryd.prog 6 #[.int .i64 a0, .int .i64 a1, .int .u64 a2, .int .u64 a3] w fun e w' => e = .returned (.tuple #[.bool r1, .int .i64 r2]) ∧ Below w.heap.size w w' := by
  have HT := Aside0.mk hT
  clear hT
  have HB := Aside0.mk (Below.refl w.heap.size w)
  have H : ((bodkinref02_Right.f a0).bind fun t147 => (if t147 = true then (if a1 < 1 then (bodkinref02_Rel.j0 k a0 a1 a2 a3 true) else (bodkinref02_Rel.j0 k a0 a1 a2 a3 (decide (a1 > 10)))) else (bodkinref02_Rel.j0 k a0 a1 a2 a3 true))) = some (r1, r2) := h
  clear h
  replace H := Option.bind_eq_some_iff.mp H
  obtain ⟨t147, A50, H⟩ := H
  replace H : (if t147 = true then (if a1 < 1 then (bodkinref02_Rel.j0 k a0 a1 a2 a3 true) else (bodkinref02_Rel.j0 k a0 a1 a2 a3 (decide (a1 > 10)))) else (bodkinref02_Rel.j0 k a0 a1 a2 a3 true)) = some (r1, r2) := H
  have A5 := Aside0.mk A50
  clear A50
  have HC6 := Aside0.mk H
  clear H
  go_enter Tryd.func6, Tryd.ntmps6
  go_upto_region 2 with (first | ((with_reducible refine gate_callee (f := 14) rfl ?_); refine goesL_ (some 15) rfl rfl Tryd.func14 (by kernel_rfl) rfl #[.int .i64 a0] rfl (by (try simp only [List.map_toArray, List.map_cons, List.map_nil]); first | done | rfl | (simp only [List.length_drop, List.length_take]; rfl)) ?_; (with_reducible refine (bodkinref02_Right.calls a0 t147 _ ?side1 A5.out).mono ?_); (case side1 => exact Amb.below HT.out (by repeat (first | (with_reducible first | exact HB.out | apply below_alloc | apply pw_below_drewN | apply below_drew1) | exact HB.out))); rintro e w' ⟨rfl, ⟨nd, rfl⟩⟩; refine ⟨_, rfl, ?_⟩))
  (try simp only [Act.put, List.setIfInBounds_toArray, List.set_cons_zero, List.set_cons_succ])
  go_cut [25] (fun v25 wc => ∃ (kq : Nat) (x25_5 : Bool), v25 = .bool x25_5 ∧ Aside0 (bodkinref02_Rel.j0 kq a0 a1 a2 a3 x25_5 = some (r1, r2)) ∧ Aside0 (kq ≤ k) ∧ Aside0 (Below w.heap.size w wc))
  case first =>
    have H := HC6.out
    clear HC6
    by_cases c7 : t147 = true
    · subst c7
      have H1 : (if a1 < 1 then (bodkinref02_Rel.j0 k a0 a1 a2 a3 true) else (bodkinref02_Rel.j0 k a0 a1 a2 a3 (decide (a1 > 10)))) = some (r1, r2) := by rw [if_pos rfl] at H; exact H
      clear H
      have H := H1
      clear H1
      by_cases c8 : a1 < 1
      · rw [if_pos c8] at H
        have c8b0 : decide (a1 < 1) = true := decide_eq_true c8
        clear c8
        (first | rw [c8b0] | (simp only [i64_w, i32_w]; rw [c8b0]) | skip)
        have H' := Aside0.mk H
        clear H
        go_wp2
        go_meet
        case rel => exact ⟨_, (true), (by first | rfl | (simp; done) | (simp [*]; done)), H', ⟨by first | omega | exact Nat.le_refl _⟩, ⟨by repeat (first | (with_reducible first | exact HB.out | apply below_alloc | apply pw_below_drewN | apply below_drew1) | exact HB.out)⟩⟩
      · rw [if_neg c8] at H
        have c8b0 : decide (a1 < 1) = false := decide_eq_false c8
        clear c8
        (first | rw [c8b0] | (simp only [i64_w, i32_w]; rw [c8b0]) | skip)
        have H' := Aside0.mk H
        clear H
        go_wp2
        go_meet
        case rel => exact ⟨_, (decide (a1 > 10)), (by first | rfl | (simp; done) | (simp [*]; done)), H', ⟨by first | omega | exact Nat.le_refl _⟩, ⟨by repeat (first | (with_reducible first | exact HB.out | apply below_alloc | apply pw_below_drewN | apply below_drew1) | exact HB.out)⟩⟩
    · replace c7 := Bool.eq_false_iff.mpr c7
      subst c7
      have H1 : (bodkinref02_Rel.j0 k a0 a1 a2 a3 true) = some (r1, r2) := by rw [if_neg (show ¬ (false = true) by decide)] at H; exact H
      clear H
      have H := H1
      clear H1
      have H' := Aside0.mk H
      clear H
      go_wp2
      go_meet
      case rel => exact ⟨_, (true), (by first | rfl | (simp; done) | (simp [*]; done)), H', ⟨by first | omega | exact Nat.le_refl _⟩, ⟨by repeat (first | (with_reducible first | exact HB.out | apply below_alloc | apply pw_below_drewN | apply below_drew1) | exact HB.out)⟩⟩
  case rest =>
    clear HC6
    try clear c1
    try clear p2
    try clear c6
    try clear c7
    try clear c8
    try clear c8b0
    obtain ⟨kq, x25_5, rfl, HA, HJ5, HB⟩ := hcut
    cases kq with
    | zero => exact absurd HA.out (by simp [bodkinref02_Rel.j0])
    | succ kj5 =>
      have H := HA.out
      clear HA
      simp only [bodkinref02_Rel.j0] at H
      by_cases c9 : x25_5 = true
      · subst c9
        have H1 : (some (false, 1)) = some (r1, r2) := by rw [if_pos rfl] at H; exact H
        clear H
        have H := H1
        clear H1
        simp only [Option.some.injEq, Prod.mk.injEq] at H
        obtain ⟨rfl, rfl⟩ := H
        go_wp2
        go_ret2
        exact ⟨by first | rfl | (simp [errW_none, errW_some] <;> rfl) | (simp [*, errW_none, errW_some] <;> rfl), by repeat (first | (with_reducible first | exact HB.out | apply below_alloc | apply pw_below_drewN | apply below_drew1) | exact HB.out)⟩
      · replace c9 := Bool.eq_false_iff.mpr c9
        subst c9
        have H1 : ((bodkinref02_Cut.f kj5 a0 a2).bind fun t148 => ((bodkinref02_Cut.f kj5 a0 a3).bind fun t149 => ((bodkinref02_Signed.f kj5 a0 t148).bind fun t150 => ((bodkinref02_Signed.f kj5 a0 t149).bind fun t151 => ((some (([false, (t148 == t149), (t148 != t149), decide (t150 < t151), decide (t148 < t149), decide (t150 > t151), decide (t148 > t149), decide (t150 ≤ t151), decide (t148 ≤ t149), decide (t150 ≥ t151), decide (t148 ≥ t149)] : List Bool) : List Bool)).bind fun y152 => (if 0 ≤ a1 then (if a1 < (y152.length : Int) then (some (rdOf false y152 a1, 0)) else (none)) else (none))))))) = some (r1, r2) := by rw [if_neg (show ¬ (false = true) by decide)] at H; exact H
        clear H
        have H := H1
        clear H1
        replace H := Option.bind_eq_some_iff.mp H
        obtain ⟨t148, A100, H⟩ := H
        replace H : ((bodkinref02_Cut.f kj5 a0 a3).bind fun t149 => ((bodkinref02_Signed.f kj5 a0 t148).bind fun t150 => ((bodkinref02_Signed.f kj5 a0 t149).bind fun t151 => ((some (([false, (t148 == t149), (t148 != t149), decide (t150 < t151), decide (t148 < t149), decide (t150 > t151), decide (t148 > t149), decide (t150 ≤ t151), decide (t148 ≤ t149), decide (t150 ≥ t151), decide (t148 ≥ t149)] : List Bool) : List Bool)).bind fun y152 => (if 0 ≤ a1 then (if a1 < (y152.length : Int) then (some (rdOf false y152 a1, 0)) else (none)) else (none)))))) = some (r1, r2) := H
        have A10 := Aside0.mk A100
        clear A100
        replace H := Option.bind_eq_some_iff.mp H
        obtain ⟨t149, A110, H⟩ := H
        replace H : ((bodkinref02_Signed.f kj5 a0 t148).bind fun t150 => ((bodkinref02_Signed.f kj5 a0 t149).bind fun t151 => ((some (([false, (t148 == t149), (t148 != t149), decide (t150 < t151), decide (t148 < t149), decide (t150 > t151), decide (t148 > t149), decide (t150 ≤ t151), decide (t148 ≤ t149), decide (t150 ≥ t151), decide (t148 ≥ t149)] : List Bool) : List Bool)).bind fun y152 => (if 0 ≤ a1 then (if a1 < (y152.length : Int) then (some (rdOf false y152 a1, 0)) else (none)) else (none))))) = some (r1, r2) := H
        have A11 := Aside0.mk A110
        clear A110
        replace H := Option.bind_eq_some_iff.mp H
        obtain ⟨t150, A120, H⟩ := H
        replace H : ((bodkinref02_Signed.f kj5 a0 t149).bind fun t151 => ((some (([false, (t148 == t149), (t148 != t149), decide (t150 < t151), decide (t148 < t149), decide (t150 > t151), decide (t148 > t149), decide (t150 ≤ t151), decide (t148 ≤ t149), decide (t150 ≥ t151), decide (t148 ≥ t149)] : List Bool) : List Bool)).bind fun y152 => (if 0 ≤ a1 then (if a1 < (y152.length : Int) then (some (rdOf false y152 a1, 0)) else (none)) else (none)))) = some (r1, r2) := H
        have A12 := Aside0.mk A120
        clear A120
        replace H := Option.bind_eq_some_iff.mp H
        obtain ⟨t151, A130, H⟩ := H
        replace H : ((some (([false, (t148 == t149), (t148 != t149), decide (t150 < t151), decide (t148 < t149), decide (t150 > t151), decide (t148 > t149), decide (t150 ≤ t151), decide (t148 ≤ t149), decide (t150 ≥ t151), decide (t148 ≥ t149)] : List Bool) : List Bool)).bind fun y152 => (if 0 ≤ a1 then (if a1 < (y152.length : Int) then (some (rdOf false y152 a1, 0)) else (none)) else (none))) = some (r1, r2) := H
        have A13 := Aside0.mk A130
        clear A130
        obtain ⟨y152, hy152⟩ : ∃ y_ : List Bool, y_ = (([false, (t148 == t149), (t148 != t149), decide (t150 < t151), decide (t148 < t149), decide (t150 > t151), decide (t148 > t149), decide (t150 ≤ t151), decide (t148 ≤ t149), decide (t150 ≥ t151), decide (t148 ≥ t149)] : List Bool)) := ⟨_, rfl⟩
        replace H : (if 0 ≤ a1 then (if a1 < (y152.length : Int) then (some (rdOf false y152 a1, 0)) else (none)) else (none)) = some (r1, r2) := by first | (rw [hy152]; with_reducible exact H) | (have H2_ := (Option.bind_some _ _).symm.trans H; rw [hy152]; with_reducible exact H2_) | (have H2_ := (Option.bind_some _ _).symm.trans H; with_reducible exact H2_) | with_reducible exact H | (rw [hy152]; exact H) | exact H
        have Ny152 := Aside0.mk hy152
        clear hy152
        by_cases c14 : 0 ≤ a1
        · rw [if_pos c14] at H
          have c14b0 : decide (0 ≤ a1) = true := decide_eq_true c14
          clear c14
          by_cases c15 : a1 < (y152.length : Int)
          · rw [if_pos c15] at H
            have c15b0 : decide (a1 < (y152.length : Int)) = true := decide_eq_true c15
            clear c15
            simp only [Option.some.injEq, Prod.mk.injEq] at H
            obtain ⟨rfl, rfl⟩ := H
            go_wp2_with (first | ((with_reducible refine gate_callee (f := 15) rfl ?_); refine goesL_ (some 28) rfl rfl Tryd.func15 (by kernel_rfl) rfl #[.int .i64 a0, .int .u64 a2] rfl (by (try simp only [List.map_toArray, List.map_cons, List.map_nil]); first | done | rfl | (simp only [List.length_drop, List.length_take]; rfl)) ?_; (with_reducible refine (bodkinref02_Cut.calls kj5 a0 a2 t148 _ ?side1 A10.out).mono ?_); (case side1 => exact Amb.below HT.out (by repeat (first | (with_reducible first | exact HB.out | apply below_alloc | apply pw_below_drewN | apply below_drew1) | exact HB.out))); rintro e w' ⟨rfl, ⟨nd, rfl⟩⟩; refine ⟨_, rfl, ?_⟩) | ((with_reducible refine gate_callee (f := 15) rfl ?_); refine goesL_ (some 31) rfl rfl Tryd.func15 (by kernel_rfl) rfl #[.int .i64 a0, .int .u64 a3] rfl (by (try simp only [List.map_toArray, List.map_cons, List.map_nil]); first | done | rfl | (simp only [List.length_drop, List.length_take]; rfl)) ?_; (with_reducible refine (bodkinref02_Cut.calls kj5 a0 a3 t149 _ ?side1 A11.out).mono ?_); (case side1 => exact Amb.below HT.out (by repeat (first | (with_reducible first | exact HB.out | apply below_alloc | apply pw_below_drewN | apply below_drew1) | exact HB.out))); rintro e w' ⟨rfl, ⟨nd, rfl⟩⟩; refine ⟨_, rfl, ?_⟩) | ((with_reducible refine gate_callee (f := 10) rfl ?_); refine goesL_ (some 34) rfl rfl Tryd.func10 (by kernel_rfl) rfl #[.int .i64 a0, .int .u64 t148] rfl (by (try simp only [List.map_toArray, List.map_cons, List.map_nil]); first | done | rfl | (simp only [List.length_drop, List.length_take]; rfl)) ?_; (with_reducible refine (bodkinref02_Signed.calls kj5 a0 t148 t150 _ ?side1 A12.out).mono ?_); (case side1 => exact Amb.below HT.out (by repeat (first | (with_reducible first | exact HB.out | apply below_alloc | apply pw_below_drewN | apply below_drew1) | exact HB.out))); rintro e w' ⟨rfl, ⟨nd, rfl⟩⟩; refine ⟨_, rfl, ?_⟩) | ((with_reducible refine gate_callee (f := 10) rfl ?_); refine goesL_ (some 37) rfl rfl Tryd.func10 (by kernel_rfl) rfl #[.int .i64 a0, .int .u64 t149] rfl (by (try simp only [List.map_toArray, List.map_cons, List.map_nil]); first | done | rfl | (simp only [List.length_drop, List.length_take]; rfl)) ?_; (with_reducible refine (bodkinref02_Signed.calls kj5 a0 t149 t151 _ ?side1 A13.out).mono ?_); (case side1 => exact Amb.below HT.out (by repeat (first | (with_reducible first | exact HB.out | apply below_alloc | apply pw_below_drewN | apply below_drew1) | exact HB.out))); rintro e w' ⟨rfl, ⟨nd, rfl⟩⟩; refine ⟨_, rfl, ?_⟩) | ((with_reducible refine gate_dst (N := 68) rfl ?_); refine Kd.R_lit Kd.bool _ 4 ?hg (N := 68) ?hd (xs := ([false, (t148 == t149), (t148 != t149), decide (t150 < t151), decide (t148 < t149), decide (t150 > t151), decide (t148 > t149), decide (t150 ≤ t151), decide (t148 ≤ t149), decide (t150 ≥ t151), decide (t148 ≥ t149)] : List Bool)) (inner := [.bool false, .bool (t148 == t149), .bool (t148 != t149), .bool (decide (t150 < t151)), .bool (decide (t148 < t149)), .bool (decide (t150 > t151)), .bool (decide (t148 > t149)), .bool (decide (t150 ≤ t151)), .bool (decide (t148 ≤ t149)), .bool (decide (t150 ≥ t151)), .bool (decide (t148 ≥ t149))]) (ok := fun _ => True) (okp := fun _ => True) ?hr ?hp (fun _ hk => hk) trivial (Below.refl _ _) (Nat.le_refl _) (by simp) ?_; (case hd => rfl); (case hg => rfl); (case hr => first | (go_simp; done) | (go_simp; rfl)); (case hp => exact (Reps.one (show Kd.M Kd.bool _ _ _ false [.bool false] from rfl) (Reps.one (show Kd.M Kd.bool _ _ _ (t148 == t149) [.bool (t148 == t149)] from rfl) (Reps.one (show Kd.M Kd.bool _ _ _ (t148 != t149) [.bool (t148 != t149)] from rfl) (Reps.one (show Kd.M Kd.bool _ _ _ (decide (t150 < t151)) [.bool (decide (t150 < t151))] from rfl) (Reps.one (show Kd.M Kd.bool _ _ _ (decide (t148 < t149)) [.bool (decide (t148 < t149))] from rfl) (Reps.one (show Kd.M Kd.bool _ _ _ (decide (t150 > t151)) [.bool (decide (t150 > t151))] from rfl) (Reps.one (show Kd.M Kd.bool _ _ _ (decide (t148 > t149)) [.bool (decide (t148 > t149))] from rfl) (Reps.one (show Kd.M Kd.bool _ _ _ (decide (t150 ≤ t151)) [.bool (decide (t150 ≤ t151))] from rfl) (Reps.one (show Kd.M Kd.bool _ _ _ (decide (t148 ≤ t149)) [.bool (decide (t148 ≤ t149))] from rfl) (Reps.one (show Kd.M Kd.bool _ _ _ (decide (t150 ≥ t151)) [.bool (decide (t150 ≥ t151))] from rfl) (Reps.one (show Kd.M Kd.bool _ _ _ (decide (t148 ≥ t149)) [.bool (decide (t148 ≥ t149))] from rfl) (Reps.none _ _))))))))))))); intro v153 w16 ho17 hb hg_ hnew_; clear hg_ hnew_; (first | rw [← Ny152.out] at ho17 | (simp only [Int.reduceToNat] at ho17; rw [← Ny152.out] at ho17)); have n0_ := Aside0.mk (Kd.R_lower ho17 (below_size (by repeat (first | (with_reducible first | exact HB.out | apply below_alloc | apply pw_below_drewN | apply below_drew1) | exact HB.out)))); have n1_ := Aside0.mk (below_step (by repeat (first | (with_reducible first | exact HB.out | apply below_alloc | apply pw_below_drewN | apply below_drew1) | exact HB.out)) hb); clear HB; have HO154 := n0_; have HB := n1_; clear n0_ n1_; clear hb ho17; obtain ⟨Ao18, co18, eo18⟩ := Kd.R_slice HO154.out; subst eo18; have p155 : 0 ≤ (a1 : Int) := of_decide_eq_true (by first | (with_reducible assumption) | assumption); have q155 : a1 < (y152.length : Int) := of_decide_eq_true (by first | (with_reducible assumption) | assumption); obtain ⟨ad155, e155, hx155_0⟩ := Kd.at_bool (Kd.R_reads' HO154.out).2.2 a1 p155 q155; cases e155; replace p155 := eq_true p155; replace q155 := eq_true q155))
            go_ret2
            exact ⟨by first | rfl | (simp [errW_none, errW_some] <;> rfl) | (simp [*, errW_none, errW_some] <;> rfl), by repeat (first | (with_reducible first | exact HB.out | apply below_alloc | apply pw_below_drewN | apply below_drew1) | exact HB.out)⟩
          · rw [if_neg c15] at H
            exact absurd H (by simp)
        · rw [if_neg c14] at H
          exact absurd H (by simp)

/-! ### bodkinref02_list: function 19 -/
def bodkinref02_list.l0 : Nat → Int → Int → List Int → Int → Option (List Int)
  | 0, _, _, _, _ => none
  | k + 1, x0, x1, x5, x6 => if x6 < x0 then (if x5.length < 17592186044416 then (bodkinref02_list.l0 k x0 (IntKind.u64.wrap (Int.tdiv x1 2)) (x5 ++ [Int.tmod x1 2]) (wrap64 (x6 + 1))) else (none)) else (some x5)
def bodkinref02_list.f (k : Nat) (a0 : Int) (a1 : Int) : Option (List Int) := bodkinref02_list.l0 k a0 a1 ([] : List Int) 0
theorem bodkinref02_list.mono_l : ∀ k, (∀ y0 y1 y2 y3, LeO (bodkinref02_list.l0 k y0 y1 y2 y3) (bodkinref02_list.l0 (k + 1) y0 y1 y2 y3))
  | 0 => fun _ _ _ _ r h => by simp [bodkinref02_list.l0] at h
  | k + 1 => by
    have ih0 := bodkinref02_list.mono_l k
    · intro y0 y1 y2 y3
      unfold bodkinref02_list.l0
      repeat' first
      | (with_reducible exact ih0 _ _ _ _)
      | (with_reducible exact LeO.refl _)
      | (with_reducible exact LeO.none _)
      | (with_reducible refine LeO.ite ?_ ?_)
      | (with_reducible refine LeO.bind ?_ (fun _ => ?_))
      | exact ih0 _ _ _ _
      | exact LeO.none _
      | refine LeO.ite ?_ ?_
      | refine LeO.bind ?_ (fun _ => ?_)
theorem bodkinref02_list.mono : ∀ a0 a1 k, LeO (bodkinref02_list.f k a0 a1) (bodkinref02_list.f (k + 1) a0 a1) := by
  intro a0 a1 k
  have ih0 := bodkinref02_list.mono_l k
  unfold bodkinref02_list.f
  repeat' first
      | (with_reducible exact ih0 _ _ _ _)
      | (with_reducible exact LeO.refl _)
      | (with_reducible exact LeO.none _)
      | (with_reducible refine LeO.ite ?_ ?_)
      | (with_reducible refine LeO.bind ?_ (fun _ => ?_))
      | exact ih0 _ _ _ _
      | exact LeO.none _
      | refine LeO.ite ?_ ?_
      | refine LeO.bind ?_ (fun _ => ?_)
set_option maxHeartbeats 8000000 in
set_option maxRecDepth 100000 in
theorem bodkinref02_list.calls (k : Nat) (a0 : Int) (a1 : Int) (r : List Int) (w : World) (hT : Amb w) (h : bodkinref02_list.f k a0 a1 = some r) :
    Calls Tryd.prog 19 #[.int .i64 a0, .int .u64 a1] w fun e w' => ∃ v0_ : Value, e = .returned (v0_) ∧ Kd.R (Kd.int .u64) 22 w' w.heap.size (fun _ => True) v0_ r ∧ Below w.heap.size w w' := by
  have HT := Aside0.mk hT
  clear hT
  have HB := Aside0.mk (Below.refl w.heap.size w)
  have H : (bodkinref02_list.l0 k a0 a1 ([] : List Int) 0) = some r := h
  clear h
  have H' := Aside0.mk H
  clear H
  go_enter Tryd.func19, Tryd.ntmps19
  go_wp2
  go_loopg [1, 5, 6] k (fun kq v1 v5 v6 w' => ∃ (x1_1 : Int) (x5_1 : List Int) (x6_1 : Int), v1 = .int .u64 x1_1 ∧ v6 = .int .i64 x6_1 ∧ Aside0 (bodkinref02_list.l0 kq a0 x1_1 x5_1 x6_1 = some r) ∧ Aside0 (kq ≤ k) ∧ Aside0 (Kd.R (Kd.int .u64) 22 w' w.heap.size (fun _ => True) v5 x5_1) ∧ Aside0 (Below w.heap.size w w'))
  case atStart => exact ⟨(a1), (([] : List Int)), (0), (by first | rfl | (simp; done) | (simp [*]; done)), (by first | rfl | (simp; done) | (simp [*]; done)), H', ⟨Nat.le_refl _⟩, ⟨by first | exact Kd.R_nil _ _ _ _ _ | exact Kd.N_nil _ _ _ _ _ | exact Kd.V_nil _ _ _ _ _ | exact Kd.Q_nil _ _ _ _ _ | exact Kd.S_nil _ _ _ _ _⟩, ⟨by repeat (first | (with_reducible first | exact HB.out | apply below_alloc | apply pw_below_drewN | apply below_drew1) | exact HB.out)⟩⟩
  case round =>
    clear H'
    try clear c1
    try clear p2
    obtain ⟨x1_1, x5_1, x6_1, rfl, rfl, HA, HK1, HO_5, HB⟩ := hrel
    cases gk with
    | zero => exact absurd HA.out (by simp [bodkinref02_list.l0])
    | succ k1 =>
      have H := HA.out
      clear HA
      simp only [bodkinref02_list.l0] at H
      by_cases c3 : x6_1 < a0
      · rw [if_pos c3] at H
        have c3b0 : decide (x6_1 < a0) = true := decide_eq_true c3
        clear c3
        by_cases c4 : x5_1.length < 17592186044416
        · rw [if_pos c4] at H
          have LMc4 := Aside0.mk c4
          clear c4
          obtain ⟨y156, hy156⟩ : ∃ y_ : List Int, y_ = (x5_1 ++ [Int.tmod x1_1 2]) := ⟨_, rfl⟩
          replace H : (bodkinref02_list.l0 k1 a0 (IntKind.u64.wrap (Int.tdiv x1_1 2)) y156 (wrap64 (x6_1 + 1))) = some r := by first | (rw [hy156]; with_reducible exact H) | (have H2_ := (Option.bind_some _ _).symm.trans H; rw [hy156]; with_reducible exact H2_) | (have H2_ := (Option.bind_some _ _).symm.trans H; with_reducible exact H2_) | with_reducible exact H | (rw [hy156]; exact H) | exact H
          have Ny156 := Aside0.mk hy156
          clear hy156
          have H' := Aside0.mk H
          clear H
          go_wp2_with (first | ((with_reducible refine gate_builtin (b := .append) (xs := #[.tmp 12, .tmp 15]) rfl ?_); at_builtin; refine Kd.R_append (Kd.int .u64) (w0 := w) w.heap.size rfl (.tmp 12) (.tmp 15) 38 22 (.int .u64 0) 8 rfl Tryd.underlying38 info22 rfl (by decide) (by omega) u5 x5_1 (Int.tmod x1_1 2) [.int .u64 (Int.tmod x1_1 2)] (fun _ => True) (fun _ => False) rfl rfl ?aP (fun _ hk => hk.elim) ?aF ?aO ?aB ?aS ?aL ?_; (case aP => exact rfl); (case aB => exact (by repeat (first | (with_reducible first | exact HB.out | apply below_alloc | apply pw_below_drewN | apply below_drew1) | exact HB.out))); (case aF => exact (fun _ _ => trivial)); (case aO => exact (by (with_reducible repeat (first | apply Kd.R_alloc | apply Kd.R_drewN | apply Kd.R_drew)); exact HO_5.out)); (case aS => exact (below_size (by repeat (first | (with_reducible first | exact HB.out | apply below_alloc | apply pw_below_drewN | apply below_drew1) | exact HB.out)))); (case aL => have := LMc4.out; omega); intro v157 w5 ho hb hg hat; rw [← Ny156.out] at ho; have n0_ := Aside0.mk (hb); have n1_ := Aside0.mk (ho); clear HB; clear HO_5; have HB := n0_; have HO158 := n1_; clear n0_ n1_; clear ho hb hg hat))
          go_roundg k1
          case measure => have := HK1.out; omega
          case rel => exact ⟨(IntKind.u64.wrap (Int.tdiv x1_1 2)), (y156), (wrap64 (x6_1 + 1)), (by first | rfl | (simp; done) | (simp [*]; done)), (by first | rfl | (simp; done) | (simp [*]; done)), H', ⟨by have := HK1.out; omega⟩, ⟨by (with_reducible repeat (first | apply Kd.R_alloc | apply Kd.R_drewN | apply Kd.R_drew)); exact HO158.out⟩, ⟨by repeat (first | (with_reducible first | exact HB.out | apply below_alloc | apply pw_below_drewN | apply below_drew1) | exact HB.out)⟩⟩
        · rw [if_neg c4] at H
          exact absurd H (by simp)
      · rw [if_neg c3] at H
        have c3b0 : decide (x6_1 < a0) = false := decide_eq_false c3
        clear c3
        obtain rfl := Option.some.inj H
        go_wp2
        go_ret
        exact ⟨_, by first | rfl | (simp [errW_none, errW_some] <;> rfl) | (simp [*, errW_none, errW_some] <;> rfl), by (with_reducible repeat (first | apply Kd.R_alloc | apply Kd.R_drewN | apply Kd.R_drew)); exact HO_5.out, by repeat (first | (with_reducible first | exact HB.out | apply below_alloc | apply pw_below_drewN | apply below_drew1) | exact HB.out)⟩

/-! ### bodkinref02_of: function 20 -/
def bodkinref02_of.l0 : Nat → List Int → Int → Int → Option (Int)
  | 0, _, _, _ => none
  | k + 1, x0, x3, x4 => if x4 ≥ 0 then (if 0 ≤ x4 then (if x4 < (x0.length : Int) then (bodkinref02_of.l0 k x0 (IntKind.u64.wrap ((IntKind.u64.wrap (x3 * 2)) + (rd x0 x4))) (wrap64 (x4 - 1))) else (none)) else (none)) else (some x3)
def bodkinref02_of.f (k : Nat) (l0 : List Int) : Option (Int) := bodkinref02_of.l0 k l0 0 (wrap64 ((l0.length : Int) - 1))
theorem bodkinref02_of.mono_l : ∀ k, (∀ y0 y1 y2, LeO (bodkinref02_of.l0 k y0 y1 y2) (bodkinref02_of.l0 (k + 1) y0 y1 y2))
  | 0 => fun _ _ _ r h => by simp [bodkinref02_of.l0] at h
  | k + 1 => by
    have ih0 := bodkinref02_of.mono_l k
    · intro y0 y1 y2
      unfold bodkinref02_of.l0
      repeat' first
      | (with_reducible exact ih0 _ _ _)
      | (with_reducible exact LeO.refl _)
      | (with_reducible exact LeO.none _)
      | (with_reducible refine LeO.ite ?_ ?_)
      | (with_reducible refine LeO.bind ?_ (fun _ => ?_))
      | exact ih0 _ _ _
      | exact LeO.none _
      | refine LeO.ite ?_ ?_
      | refine LeO.bind ?_ (fun _ => ?_)
theorem bodkinref02_of.mono : ∀ a0 k, LeO (bodkinref02_of.f k a0) (bodkinref02_of.f (k + 1) a0) := by
  intro a0 k
  have ih0 := bodkinref02_of.mono_l k
  unfold bodkinref02_of.f
  repeat' first
      | (with_reducible exact ih0 _ _ _)
      | (with_reducible exact LeO.refl _)
      | (with_reducible exact LeO.none _)
      | (with_reducible refine LeO.ite ?_ ?_)
      | (with_reducible refine LeO.bind ?_ (fun _ => ?_))
      | exact ih0 _ _ _
      | exact LeO.none _
      | refine LeO.ite ?_ ?_
      | refine LeO.bind ?_ (fun _ => ?_)
set_option maxHeartbeats 8000000 in
set_option maxRecDepth 100000 in
theorem bodkinref02_of.calls (k : Nat) (A0 : Option Addr) (c0 : Nat) (l0 : List Int) (r : Int) (w : World) (hr0 : Kd.C (Kd.int .u64) w A0 l0.length l0) (hc0 : l0.length ≤ c0) (hT : Amb w) (h : bodkinref02_of.f k l0 = some r) :
    Calls Tryd.prog 20 #[.slice A0 l0.length c0] w fun e w' => e = .returned (.int .u64 r) ∧ Drawn0 w w' := by
  have HT := Aside0.mk hT
  clear hT
  have HR0 := Aside0.mk hr0
  have HC0 := Aside0.mk hc0
  clear hr0 hc0
  have H : (bodkinref02_of.l0 k l0 0 (wrap64 ((l0.length : Int) - 1))) = some r := h
  clear h
  have H' := Aside0.mk H
  clear H
  go_enter Tryd.func20, Tryd.ntmps20
  go_wp2
  go_loopg [3, 4] k (fun kq v3 v4 w' => ∃ (x3_1 : Int) (x4_1 : Int), v3 = .int .u64 x3_1 ∧ v4 = .int .i64 x4_1 ∧ Aside0 (bodkinref02_of.l0 kq l0 x3_1 x4_1 = some r) ∧ Aside0 (kq ≤ k) ∧ Drawn0 w w')
  case atStart => exact ⟨(0), (wrap64 ((l0.length : Int) - 1)), (by first | rfl | (simp; done) | (simp [*]; done)), (by first | rfl | (simp; done) | (simp [*]; done)), H', ⟨Nat.le_refl _⟩, by repeat (first | exact Drawn0.refl _ | apply Drawn0.step)⟩
  case round =>
    clear H'
    obtain ⟨x3_1, x4_1, rfl, rfl, HA, HK1, ⟨m1, rfl⟩⟩ := hrel
    cases gk with
    | zero => exact absurd HA.out (by simp [bodkinref02_of.l0])
    | succ k1 =>
      have H := HA.out
      clear HA
      simp only [bodkinref02_of.l0] at H
      by_cases c2 : x4_1 ≥ 0
      · rw [if_pos c2] at H
        have c2b0 : decide (0 ≤ x4_1) = true := decide_eq_true c2
        clear c2
        by_cases c3 : 0 ≤ x4_1
        · rw [if_pos c3] at H
          have c3b0 : decide (0 ≤ x4_1) = true := decide_eq_true c3
          clear c3
          by_cases c4 : x4_1 < (l0.length : Int)
          · rw [if_pos c4] at H
            have c4b0 : decide (x4_1 < (l0.length : Int)) = true := decide_eq_true c4
            clear c4
            have H' := Aside0.mk H
            clear H
            have p159 : 0 ≤ (x4_1 : Int) := of_decide_eq_true (by first | (with_reducible assumption) | assumption)
            have q159 : x4_1 < (l0.length : Int) := of_decide_eq_true (by first | (with_reducible assumption) | assumption)
            obtain ⟨ad159, e159, hx159_0⟩ := Kd.at_int HR0.out x4_1 p159 q159
            cases e159
            replace p159 := eq_true p159
            replace q159 := eq_true q159
            go_wp2
            go_roundg k1
            case measure => have := HK1.out; omega
            case rel => exact ⟨(IntKind.u64.wrap ((IntKind.u64.wrap (x3_1 * 2)) + (rd l0 x4_1))), (wrap64 (x4_1 - 1)), (by first | rfl | (simp; done) | (simp [*]; done)), (by first | rfl | (simp; done) | (simp [*]; done)), H', ⟨by have := HK1.out; omega⟩, by repeat (first | exact Drawn0.refl _ | apply Drawn0.step)⟩
          · rw [if_neg c4] at H
            exact absurd H (by simp)
        · rw [if_neg c3] at H
          exact absurd H (by simp)
      · rw [if_neg c2] at H
        have c2b0 : decide (0 ≤ x4_1) = false := decide_eq_false c2
        clear c2
        obtain rfl := Option.some.inj H
        go_wp2
        go_ret
        exact ⟨by first | rfl | (simp; done) | (simp [*]; done), by repeat (first | exact Drawn0.refl _ | apply Drawn0.step)⟩

end Go.Proofs.YtmbpgnmhfmcbmaaDoor.PA
