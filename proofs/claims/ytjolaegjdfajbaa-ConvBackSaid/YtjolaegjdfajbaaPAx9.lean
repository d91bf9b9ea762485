/- Ytjolaegjdfajbaa: Go functions as plain Lean functions, and that the calls come to them; written by a program of this session (wip/tools/mkprint.py). -/
import Derived.Test.YtjolaegjdfajbaaPAx0
import Derived.Test.YtjolaegjdfajbaaPAx6
import Derived.Test.YtjolaegjdfajbaaPAx7
import Derived.Test.YtjolaegjdfajbaaPAx8
namespace Go.Proofs.Ytjolaegjdfajbaa.PA
open Go.RowKit Go.Proofs.YtjolaegjdfajbaaW.PrintWords Go.Proofs.YtjolaegjdfajbaaW.PrintLast Go.Proofs.YtjolaegjdfajbaaW.PrintMore
attribute [local go_sem] max2_int min2_int max_two min_two max_three min_three max_four min_four   -- for this text's walks alone
set_option linter.unusedVariables false
set_option linter.unusedSimpArgs false

/-! ### bodkinlaw04_ConvWords: function 4 -/
mutual
def bodkinlaw04_ConvWords.l0 : Nat → Int → Int → Option (Bool)
  | 0, _, _ => none
  | k + 1, x0, x4 => if x4 ≤ 64 then (bodkinlaw04_ConvWords.l1 k x0 x4 32) else (some true)
def bodkinlaw04_ConvWords.l1 : Nat → Int → Int → Int → Option (Bool)
  | 0, _, _, _ => none
  | k + 1, x0, x4, x5 => if x5 ≤ 64 then ((conv_Convert.f k x4 x5 false x0).bind fun bt230 => ((bodkinref04_Convert.f k x4 x5 false x0).bind fun bt232 => ((conv_Convert.f k x4 x5 true x0).bind fun bt234 => ((bodkinref04_Convert.f k x4 x5 true x0).bind fun bt236 => (if bt230.1 = bt232.1 then (if bt230.2 = bt232.2 then (if bt234.1 = bt236.1 then (if bt234.2 = bt236.2 then (bodkinlaw04_ConvWords.l1 k x0 x4 (wrap64 (x5 + 32))) else (some false)) else (some false)) else (some false)) else (some false)))))) else (bodkinlaw04_ConvWords.l0 k x0 (wrap64 (x4 + 32)))
end
def bodkinlaw04_ConvWords.f (k : Nat) (a0 : Int) : Option (Bool) := (bodkinlaw04_awake.f k).bind fun t229 => (if t229 = true then (bodkinlaw04_ConvWords.l0 k a0 32) else (some false))
theorem bodkinlaw04_ConvWords.mono_l : ∀ k, (∀ y0 y1, LeO (bodkinlaw04_ConvWords.l0 k y0 y1) (bodkinlaw04_ConvWords.l0 (k + 1) y0 y1)) ∧ (∀ y0 y1 y2, LeO (bodkinlaw04_ConvWords.l1 k y0 y1 y2) (bodkinlaw04_ConvWords.l1 (k + 1) y0 y1 y2))
  | 0 => ⟨fun _ _ r h => by simp [bodkinlaw04_ConvWords.l0] at h, fun _ _ _ r h => by simp [bodkinlaw04_ConvWords.l1] at h⟩
  | k + 1 => by
    obtain ⟨ih0, ih1⟩ := bodkinlaw04_ConvWords.mono_l k
    refine ⟨?_, ?_⟩
    · intro y0 y1
      unfold bodkinlaw04_ConvWords.l0
      repeat' first
      | (with_reducible exact ih0 _ _)
      | (with_reducible exact ih1 _ _ _)
      | (with_reducible exact bodkinlaw04_awake.mono _)
      | (with_reducible exact bodkinref04_Convert.mono _ _ _ _ _)
      | (with_reducible exact conv_Convert.mono _ _ _ _ _)
      | (with_reducible exact LeO.refl _)
      | (with_reducible exact LeO.none _)
      | (with_reducible refine LeO.ite ?_ ?_)
      | (with_reducible refine LeO.bind ?_ (fun _ => ?_))
      | exact ih0 _ _
      | exact ih1 _ _ _
      | exact bodkinlaw04_awake.mono _
      | exact bodkinref04_Convert.mono _ _ _ _ _
      | exact conv_Convert.mono _ _ _ _ _
      | exact LeO.none _
      | refine LeO.ite ?_ ?_
      | refine LeO.bind ?_ (fun _ => ?_)
    · intro y0 y1 y2
      unfold bodkinlaw04_ConvWords.l1
      repeat' first
      | (with_reducible exact ih0 _ _)
      | (with_reducible exact ih1 _ _ _)
      | (with_reducible exact bodkinlaw04_awake.mono _)
      | (with_reducible exact bodkinref04_Convert.mono _ _ _ _ _)
      | (with_reducible exact conv_Convert.mono _ _ _ _ _)
      | (with_reducible exact LeO.refl _)
      | (with_reducible exact LeO.none _)
      | (with_reducible refine LeO.ite ?_ ?_)
      | (with_reducible refine LeO.bind ?_ (fun _ => ?_))
      | exact ih0 _ _
      | exact ih1 _ _ _
      | exact bodkinlaw04_awake.mono _
      | exact bodkinref04_Convert.mono _ _ _ _ _
      | exact conv_Convert.mono _ _ _ _ _
      | exact LeO.none _
      | refine LeO.ite ?_ ?_
      | refine LeO.bind ?_ (fun _ => ?_)
theorem bodkinlaw04_ConvWords.mono : ∀ a0 k, LeO (bodkinlaw04_ConvWords.f k a0) (bodkinlaw04_ConvWords.f (k + 1) a0) := by
  intro a0 k
  obtain ⟨ih0, ih1⟩ := bodkinlaw04_ConvWords.mono_l k
  unfold bodkinlaw04_ConvWords.f
  repeat' first
      | (with_reducible exact ih0 _ _)
      | (with_reducible exact ih1 _ _ _)
      | (with_reducible exact bodkinlaw04_awake.mono _)
      | (with_reducible exact bodkinref04_Convert.mono _ _ _ _ _)
      | (with_reducible exact conv_Convert.mono _ _ _ _ _)
      | (with_reducible exact LeO.refl _)
      | (with_reducible exact LeO.none _)
      | (with_reducible refine LeO.ite ?_ ?_)
      | (with_reducible refine LeO.bind ?_ (fun _ => ?_))
      | exact ih0 _ _
      | exact ih1 _ _ _
      | exact bodkinlaw04_awake.mono _
      | exact bodkinref04_Convert.mono _ _ _ _ _
      | exact conv_Convert.mono _ _ _ _ _
      | exact LeO.none _
      | refine LeO.ite ?_ ?_
      | refine LeO.bind ?_ (fun _ => ?_)
set_option maxHeartbeats 8000000 in
set_option maxRecDepth 100000 in
theorem bodkinlaw04_ConvWords.calls (k : Nat) (a0 : Int) (r : Bool) (w : World) (h : bodkinlaw04_ConvWords.f k a0 = some r) :
    Calls Try.prog 4 #[.int .u64 a0] w fun e w' => e = .returned (.bool r) ∧ Below w.heap.size w w' := by
  have HB := Aside0.mk (Below.refl w.heap.size w)
  have H : ((bodkinlaw04_awake.f k).bind fun t229 => (if t229 = true then (bodkinlaw04_ConvWords.l0 k a0 32) else (some false))) = some r := h
  clear h
  replace H := Option.bind_eq_some_iff.mp H
  obtain ⟨t229, A20, H⟩ := H
  replace H : (if t229 = true then (bodkinlaw04_ConvWords.l0 k a0 32) else (some false)) = some r := H
  have A2 := Aside0.mk A20
  clear A20
  by_cases c3 : t229 = true
  · subst c3
    have H1 : (bodkinlaw04_ConvWords.l0 k a0 32) = some r := by rw [if_pos rfl] at H; exact H
    clear H
    have H := H1
    clear H1
    have H' := Aside0.mk H
    clear H
    go_enter Try.func4, Try.ntmps4
    go_wp2_with (first | ((with_reducible refine gate_callee (f := 8) rfl ?_); refine goesL_ (some 14) rfl rfl Try.func8 (by kernel_rfl) rfl #[] rfl (by (try simp only [List.map_toArray, List.map_cons, List.map_nil]); first | done | rfl | (simp only [List.length_drop, List.length_take]; rfl)) ?_; (with_reducible refine (bodkinlaw04_awake.calls k  true _ A2.out).mono ?_); rintro e w4 ⟨rfl, hb⟩; refine ⟨_, rfl, ?_⟩; have n0_ := Aside0.mk (below_step (by repeat (first | (with_reducible first | exact HB.out | apply below_alloc | apply pw_below_drewN | apply below_drew1) | exact HB.out)) hb); clear HB; have HB := n0_; clear n0_; (try clear hb); (try clear hb2); (try clear hk); (try clear hi)))
    go_loopg [4] k (fun kq v4 w' => ∃ (x4_1 : Int), v4 = .int .i64 x4_1 ∧ Aside0 (bodkinlaw04_ConvWords.l0 kq a0 x4_1 = some r) ∧ Aside0 (kq ≤ k) ∧ Aside0 (Below w.heap.size w w'))
    case atStart => exact ⟨(32), (by first | rfl | (simp; done) | (simp [*]; done)), H', ⟨Nat.le_refl _⟩, ⟨by repeat (first | (with_reducible first | exact HB.out | apply below_alloc | apply pw_below_drewN | apply below_drew1) | exact HB.out)⟩⟩
    case round =>
      clear H'
      try clear p2
      try clear c3
      try clear c4
      obtain ⟨x4_1, rfl, HA, HK1, HB⟩ := hrel
      cases gk with
      | zero => exact absurd HA.out (by simp [bodkinlaw04_ConvWords.l0])
      | succ k1 =>
        have H := HA.out
        clear HA
        simp only [bodkinlaw04_ConvWords.l0] at H
        by_cases c5 : x4_1 ≤ 64
        · rw [if_pos c5] at H
          have c5b0 : decide (x4_1 ≤ 64) = true := decide_eq_true c5
          clear c5
          have H' := Aside0.mk H
          clear H
          go_wp2
          go_loopg [5] k1 (fun kq v5 w' => ∃ (x5_2 : Int), v5 = .int .i64 x5_2 ∧ Aside0 (bodkinlaw04_ConvWords.l1 kq a0 x4_1 x5_2 = some r) ∧ Aside0 (kq ≤ k1) ∧ Aside0 (Below w.heap.size w w'))
          case atStart => exact ⟨(32), (by first | rfl | (simp; done) | (simp [*]; done)), H', ⟨Nat.le_refl _⟩, ⟨by repeat (first | (with_reducible first | exact HB.out | apply below_alloc | apply pw_below_drewN | apply below_drew1) | exact HB.out)⟩⟩
          case round =>
            clear H'
            try clear p2
            try clear c3
            try clear c4
            try clear c5
            try clear c5b0
            try clear p2
            obtain ⟨x5_2, rfl, HA, HK2, HB⟩ := hrel
            cases gk with
            | zero => exact absurd HA.out (by simp [bodkinlaw04_ConvWords.l1])
            | succ k2 =>
              have H := HA.out
              clear HA
              simp only [bodkinlaw04_ConvWords.l1] at H
              by_cases c6 : x5_2 ≤ 64
              · rw [if_pos c6] at H
                have c6b0 : decide (x5_2 ≤ 64) = true := decide_eq_true c6
                clear c6
                replace H := Option.bind_eq_some_iff.mp H
                obtain ⟨⟨t230, t231⟩, A70, H⟩ := H
                replace H : ((bodkinref04_Convert.f k2 x4_1 x5_2 false a0).bind fun bt232 => ((conv_Convert.f k2 x4_1 x5_2 true a0).bind fun bt234 => ((bodkinref04_Convert.f k2 x4_1 x5_2 true a0).bind fun bt236 => (if t230 = bt232.1 then (if t231 = bt232.2 then (if bt234.1 = bt236.1 then (if bt234.2 = bt236.2 then (bodkinlaw04_ConvWords.l1 k2 a0 x4_1 (wrap64 (x5_2 + 32))) else (some false)) else (some false)) else (some false)) else (some false))))) = some r := H
                have A7 := Aside0.mk A70
                clear A70
                replace H := Option.bind_eq_some_iff.mp H
                obtain ⟨⟨t232, t233⟩, A80, H⟩ := H
                replace H : ((conv_Convert.f k2 x4_1 x5_2 true a0).bind fun bt234 => ((bodkinref04_Convert.f k2 x4_1 x5_2 true a0).bind fun bt236 => (if t230 = t232 then (if t231 = t233 then (if bt234.1 = bt236.1 then (if bt234.2 = bt236.2 then (bodkinlaw04_ConvWords.l1 k2 a0 x4_1 (wrap64 (x5_2 + 32))) else (some false)) else (some false)) else (some false)) else (some false)))) = some r := H
                have A8 := Aside0.mk A80
                clear A80
                replace H := Option.bind_eq_some_iff.mp H
                obtain ⟨⟨t234, t235⟩, A90, H⟩ := H
                replace H : ((bodkinref04_Convert.f k2 x4_1 x5_2 true a0).bind fun bt236 => (if t230 = t232 then (if t231 = t233 then (if t234 = bt236.1 then (if t235 = bt236.2 then (bodkinlaw04_ConvWords.l1 k2 a0 x4_1 (wrap64 (x5_2 + 32))) else (some false)) else (some false)) else (some false)) else (some false))) = some r := H
                have A9 := Aside0.mk A90
                clear A90
                replace H := Option.bind_eq_some_iff.mp H
                obtain ⟨⟨t236, t237⟩, A100, H⟩ := H
                replace H : (if t230 = t232 then (if t231 = t233 then (if t234 = t236 then (if t235 = t237 then (bodkinlaw04_ConvWords.l1 k2 a0 x4_1 (wrap64 (x5_2 + 32))) else (some false)) else (some false)) else (some false)) else (some false)) = some r := H
                have A10 := Aside0.mk A100
                clear A100
                by_cases c11 : t230 = t232
                · rw [if_pos c11] at H
                  have c11b0 : (t230 == t232) = true := beq_iff_eq.mpr c11
                  have c11b1 : (t230 != t232) = false := bne_eq_false_iff_eq.mpr c11
                  clear c11
                  by_cases c12 : t231 = t233
                  · rw [if_pos c12] at H
                    have c12b0 : (t231 == t233) = true := beq_iff_eq.mpr c12
                    have c12b1 : (t231 != t233) = false := bne_eq_false_iff_eq.mpr c12
                    clear c12
                    by_cases c13 : t234 = t236
                    · rw [if_pos c13] at H
                      have c13b0 : (t234 == t236) = true := beq_iff_eq.mpr c13
                      have c13b1 : (t234 != t236) = false := bne_eq_false_iff_eq.mpr c13
                      clear c13
                      by_cases c14 : t235 = t237
                      · rw [if_pos c14] at H
                        have c14b0 : (t235 == t237) = true := beq_iff_eq.mpr c14
                        have c14b1 : (t235 != t237) = false := bne_eq_false_iff_eq.mpr c14
                        clear c14
                        have H' := Aside0.mk H
                        clear H
                        go_wp2_with (first | ((with_reducible refine gate_callee (f := 13) rfl ?_); refine goesL_ (some 29) rfl rfl Try.func13 (by kernel_rfl) rfl #[.int .i64 x4_1, .int .i64 x5_2, .bool false, .int .u64 a0] rfl (by (try simp only [List.map_toArray, List.map_cons, List.map_nil]); first | done | rfl | (simp only [List.length_drop, List.length_take]; rfl)) ?_; (with_reducible refine (conv_Convert.calls k2 x4_1 x5_2 false a0 t230 t231 _ A7.out).mono ?_); rintro e w15 ⟨rfl, hb⟩; refine ⟨_, rfl, ?_⟩; have n0_ := Aside0.mk (below_step (by repeat (first | (with_reducible first | exact HB.out | apply below_alloc | apply pw_below_drewN | apply below_drew1) | exact HB.out)) hb); clear HB; have HB := n0_; clear n0_; (try clear hb); (try clear hb2); (try clear hk); (try clear hi)) | ((with_reducible refine gate_callee (f := 15) rfl ?_); refine goesL_ (some 36) rfl rfl Try.func15 (by kernel_rfl) rfl #[.int .i64 x4_1, .int .i64 x5_2, .bool false, .int .u64 a0] rfl (by (try simp only [List.map_toArray, List.map_cons, List.map_nil]); first | done | rfl | (simp only [List.length_drop, List.length_take]; rfl)) ?_; (with_reducible refine (bodkinref04_Convert.calls k2 x4_1 x5_2 false a0 t232 t233 _ A8.out).mono ?_); rintro e w' ⟨rfl, ⟨nd, rfl⟩⟩; refine ⟨_, rfl, ?_⟩) | ((with_reducible refine gate_callee (f := 13) rfl ?_); refine goesL_ (some 43) rfl rfl Try.func13 (by kernel_rfl) rfl #[.int .i64 x4_1, .int .i64 x5_2, .bool true, .int .u64 a0] rfl (by (try simp only [List.map_toArray, List.map_cons, List.map_nil]); first | done | rfl | (simp only [List.length_drop, List.length_take]; rfl)) ?_; (with_reducible refine (conv_Convert.calls k2 x4_1 x5_2 true a0 t234 t235 _ A9.out).mono ?_); rintro e w16 ⟨rfl, hb⟩; refine ⟨_, rfl, ?_⟩; have n0_ := Aside0.mk (below_step (by repeat (first | (with_reducible first | exact HB.out | apply below_alloc | apply pw_below_drewN | apply below_drew1) | exact HB.out)) hb); clear HB; have HB := n0_; clear n0_; (try clear hb); (try clear hb2); (try clear hk); (try clear hi)) | ((with_reducible refine gate_callee (f := 15) rfl ?_); refine goesL_ (some 50) rfl rfl Try.func15 (by kernel_rfl) rfl #[.int .i64 x4_1, .int .i64 x5_2, .bool true, .int .u64 a0] rfl (by (try simp only [List.map_toArray, List.map_cons, List.map_nil]); first | done | rfl | (simp only [List.length_drop, List.length_take]; rfl)) ?_; (with_reducible refine (bodkinref04_Convert.calls k2 x4_1 x5_2 true a0 t236 t237 _ A10.out).mono ?_); rintro e w' ⟨rfl, ⟨nd, rfl⟩⟩; refine ⟨_, rfl, ?_⟩))
                        go_roundg k2
                        case measure => have := HK1.out; have := HK2.out; omega
                        case rel => exact ⟨(wrap64 (x5_2 + 32)), (by first | rfl | (simp; done) | (simp [*]; done)), H', ⟨by have := HK1.out; have := HK2.out; omega⟩, ⟨by repeat (first | (with_reducible first | exact HB.out | apply below_alloc | apply pw_below_drewN | apply below_drew1) | exact HB.out)⟩⟩
                      · rw [if_neg c14] at H
                        have c14b0 : (t235 == t237) = false := beq_eq_false_iff_ne.mpr c14
                        have c14b1 : (t235 != t237) = true := bne_iff_ne.mpr c14
                        obtain rfl := Option.some.inj H
                        go_wp2_with (first | ((with_reducible refine gate_callee (f := 13) rfl ?_); refine goesL_ (some 29) rfl rfl Try.func13 (by kernel_rfl) rfl #[.int .i64 x4_1, .int .i64 x5_2, .bool false, .int .u64 a0] rfl (by (try simp only [List.map_toArray, List.map_cons, List.map_nil]); first | done | rfl | (simp only [List.length_drop, List.length_take]; rfl)) ?_; (with_reducible refine (conv_Convert.calls k2 x4_1 x5_2 false a0 t230 t231 _ A7.out).mono ?_); rintro e w17 ⟨rfl, hb⟩; refine ⟨_, rfl, ?_⟩; have n0_ := Aside0.mk (below_step (by repeat (first | (with_reducible first | exact HB.out | apply below_alloc | apply pw_below_drewN | apply below_drew1) | exact HB.out)) hb); clear HB; have HB := n0_; clear n0_; (try clear hb); (try clear hb2); (try clear hk); (try clear hi)) | ((with_reducible refine gate_callee (f := 15) rfl ?_); refine goesL_ (some 36) rfl rfl Try.func15 (by kernel_rfl) rfl #[.int .i64 x4_1, .int .i64 x5_2, .bool false, .int .u64 a0] rfl (by (try simp only [List.map_toArray, List.map_cons, List.map_nil]); first | done | rfl | (simp only [List.length_drop, List.length_take]; rfl)) ?_; (with_reducible refine (bodkinref04_Convert.calls k2 x4_1 x5_2 false a0 t232 t233 _ A8.out).mono ?_); rintro e w' ⟨rfl, ⟨nd, rfl⟩⟩; refine ⟨_, rfl, ?_⟩) | ((with_reducible refine gate_callee (f := 13) rfl ?_); refine goesL_ (some 43) rfl rfl Try.func13 (by kernel_rfl) rfl #[.int .i64 x4_1, .int .i64 x5_2, .bool true, .int .u64 a0] rfl (by (try simp only [List.map_toArray, List.map_cons, List.map_nil]); first | done | rfl | (simp only [List.length_drop, List.length_take]; rfl)) ?_; (with_reducible refine (conv_Convert.calls k2 x4_1 x5_2 true a0 t234 t235 _ A9.out).mono ?_); rintro e w18 ⟨rfl, hb⟩; refine ⟨_, rfl, ?_⟩; have n0_ := Aside0.mk (below_step (by repeat (first | (with_reducible first | exact HB.out | apply below_alloc | apply pw_below_drewN | apply below_drew1) | exact HB.out)) hb); clear HB; have HB := n0_; clear n0_; (try clear hb); (try clear hb2); (try clear hk); (try clear hi)) | ((with_reducible refine gate_callee (f := 15) rfl ?_); refine goesL_ (some 50) rfl rfl Try.func15 (by kernel_rfl) rfl #[.int .i64 x4_1, .int .i64 x5_2, .bool true, .int .u64 a0] rfl (by (try simp only [List.map_toArray, List.map_cons, List.map_nil]); first | done | rfl | (simp only [List.length_drop, List.length_take]; rfl)) ?_; (with_reducible refine (bodkinref04_Convert.calls k2 x4_1 x5_2 true a0 t236 t237 _ A10.out).mono ?_); rintro e w' ⟨rfl, ⟨nd, rfl⟩⟩; refine ⟨_, rfl, ?_⟩))
                        go_ret
                        exact ⟨by first | rfl | (simp [errW_none, errW_some] <;> rfl) | (simp [*, errW_none, errW_some] <;> rfl), by repeat (first | (with_reducible first | exact HB.out | apply below_alloc | apply pw_below_drewN | apply below_drew1) | exact HB.out)⟩
                    · rw [if_neg c13] at H
                      have c13b0 : (t234 == t236) = false := beq_eq_false_iff_ne.mpr c13
                      have c13b1 : (t234 != t236) = true := bne_iff_ne.mpr c13
                      obtain rfl := Option.some.inj H
                      go_wp2_with (first | ((with_reducible refine gate_callee (f := 13) rfl ?_); refine goesL_ (some 29) rfl rfl Try.func13 (by kernel_rfl) rfl #[.int .i64 x4_1, .int .i64 x5_2, .bool false, .int .u64 a0] rfl (by (try simp only [List.map_toArray, List.map_cons, List.map_nil]); first | done | rfl | (simp only [List.length_drop, List.length_take]; rfl)) ?_; (with_reducible refine (conv_Convert.calls k2 x4_1 x5_2 false a0 t230 t231 _ A7.out).mono ?_); rintro e w19 ⟨rfl, hb⟩; refine ⟨_, rfl, ?_⟩; have n0_ := Aside0.mk (below_step (by repeat (first | (with_reducible first | exact HB.out | apply below_alloc | apply pw_below_drewN | apply below_drew1) | exact HB.out)) hb); clear HB; have HB := n0_; clear n0_; (try clear hb); (try clear hb2); (try clear hk); (try clear hi)) | ((with_reducible refine gate_callee (f := 15) rfl ?_); refine goesL_ (some 36) rfl rfl Try.func15 (by kernel_rfl) rfl #[.int .i64 x4_1, .int .i64 x5_2, .bool false, .int .u64 a0] rfl (by (try simp only [List.map_toArray, List.map_cons, List.map_nil]); first | done | rfl | (simp only [List.length_drop, List.length_take]; rfl)) ?_; (with_reducible refine (bodkinref04_Convert.calls k2 x4_1 x5_2 false a0 t232 t233 _ A8.out).mono ?_); rintro e w' ⟨rfl, ⟨nd, rfl⟩⟩; refine ⟨_, rfl, ?_⟩) | ((with_reducible refine gate_callee (f := 13) rfl ?_); refine goesL_ (some 43) rfl rfl Try.func13 (by kernel_rfl) rfl #[.int .i64 x4_1, .int .i64 x5_2, .bool true, .int .u64 a0] rfl (by (try simp only [List.map_toArray, List.map_cons, List.map_nil]); first | done | rfl | (simp only [List.length_drop, List.length_take]; rfl)) ?_; (with_reducible refine (conv_Convert.calls k2 x4_1 x5_2 true a0 t234 t235 _ A9.out).mono ?_); rintro e w20 ⟨rfl, hb⟩; refine ⟨_, rfl, ?_⟩; have n0_ := Aside0.mk (below_step (by repeat (first | (with_reducible first | exact HB.out | apply below_alloc | apply pw_below_drewN | apply below_drew1) | exact HB.out)) hb); clear HB; have HB := n0_; clear n0_; (try clear hb); (try clear hb2); (try clear hk); (try clear hi)) | ((with_reducible refine gate_callee (f := 15) rfl ?_); refine goesL_ (some 50) rfl rfl Try.func15 (by kernel_rfl) rfl #[.int .i64 x4_1, .int .i64 x5_2, .bool true, .int .u64 a0] rfl (by (try simp only [List.map_toArray, List.map_cons, List.map_nil]); first | done | rfl | (simp only [List.length_drop, List.length_take]; rfl)) ?_; (with_reducible refine (bodkinref04_Convert.calls k2 x4_1 x5_2 true a0 t236 t237 _ A10.out).mono ?_); rintro e w' ⟨rfl, ⟨nd, rfl⟩⟩; refine ⟨_, rfl, ?_⟩))
                      go_ret
                      exact ⟨by first | rfl | (simp [errW_none, errW_some] <;> rfl) | (simp [*, errW_none, errW_some] <;> rfl), by repeat (first | (with_reducible first | exact HB.out | apply below_alloc | apply pw_below_drewN | apply below_drew1) | exact HB.out)⟩
                  · rw [if_neg c12] at H
                    have c12b0 : (t231 == t233) = false := beq_eq_false_iff_ne.mpr c12
                    have c12b1 : (t231 != t233) = true := bne_iff_ne.mpr c12
                    obtain rfl := Option.some.inj H
                    go_wp2_with (first | ((with_reducible refine gate_callee (f := 13) rfl ?_); refine goesL_ (some 29) rfl rfl Try.func13 (by kernel_rfl) rfl #[.int .i64 x4_1, .int .i64 x5_2, .bool false, .int .u64 a0] rfl (by (try simp only [List.map_toArray, List.map_cons, List.map_nil]); first | done | rfl | (simp only [List.length_drop, List.length_take]; rfl)) ?_; (with_reducible refine (conv_Convert.calls k2 x4_1 x5_2 false a0 t230 t231 _ A7.out).mono ?_); rintro e w21 ⟨rfl, hb⟩; refine ⟨_, rfl, ?_⟩; have n0_ := Aside0.mk (below_step (by repeat (first | (with_reducible first | exact HB.out | apply below_alloc | apply pw_below_drewN | apply below_drew1) | exact HB.out)) hb); clear HB; have HB := n0_; clear n0_; (try clear hb); (try clear hb2); (try clear hk); (try clear hi)) | ((with_reducible refine gate_callee (f := 15) rfl ?_); refine goesL_ (some 36) rfl rfl Try.func15 (by kernel_rfl) rfl #[.int .i64 x4_1, .int .i64 x5_2, .bool false, .int .u64 a0] rfl (by (try simp only [List.map_toArray, List.map_cons, List.map_nil]); first | done | rfl | (simp only [List.length_drop, List.length_take]; rfl)) ?_; (with_reducible refine (bodkinref04_Convert.calls k2 x4_1 x5_2 false a0 t232 t233 _ A8.out).mono ?_); rintro e w' ⟨rfl, ⟨nd, rfl⟩⟩; refine ⟨_, rfl, ?_⟩) | ((with_reducible refine gate_callee (f := 13) rfl ?_); refine goesL_ (some 43) rfl rfl Try.func13 (by kernel_rfl) rfl #[.int .i64 x4_1, .int .i64 x5_2, .bool true, .int .u64 a0] rfl (by (try simp only [List.map_toArray, List.map_cons, List.map_nil]); first | done | rfl | (simp only [List.length_drop, List.length_take]; rfl)) ?_; (with_reducible refine (conv_Convert.calls k2 x4_1 x5_2 true a0 t234 t235 _ A9.out).mono ?_); rintro e w22 ⟨rfl, hb⟩; refine ⟨_, rfl, ?_⟩; have n0_ := Aside0.mk (below_step (by repeat (first | (with_reducible first | exact HB.out | apply below_alloc | apply pw_below_drewN | apply below_drew1) | exact HB.out)) hb); clear HB; have HB := n0_; clear n0_; (try clear hb); (try clear hb2); (try clear hk); (try clear hi)) | ((with_reducible refine gate_callee (f := 15) rfl ?_); refine goesL_ (some 50) rfl rfl Try.func15 (by kernel_rfl) rfl #[.int .i64 x4_1, .int .i64 x5_2, .bool true, .int .u64 a0] rfl (by (try simp only [List.map_toArray, List.map_cons, List.map_nil]); first | done | rfl | (simp only [List.length_drop, List.length_take]; rfl)) ?_; (with_reducible refine (bodkinref04_Convert.calls k2 x4_1 x5_2 true a0 t236 t237 _ A10.out).mono ?_); rintro e w' ⟨rfl, ⟨nd, rfl⟩⟩; refine ⟨_, rfl, ?_⟩))
                    go_ret
                    exact ⟨by first | rfl | (simp [errW_none, errW_some] <;> rfl) | (simp [*, errW_none, errW_some] <;> rfl), by repeat (first | (with_reducible first | exact HB.out | apply below_alloc | apply pw_below_drewN | apply below_drew1) | exact HB.out)⟩
                · rw [if_neg c11] at H
                  have c11b0 : (t230 == t232) = false := beq_eq_false_iff_ne.mpr c11
                  have c11b1 : (t230 != t232) = true := bne_iff_ne.mpr c11
                  obtain rfl := Option.some.inj H
                  go_wp2_with (first | ((with_reducible refine gate_callee (f := 13) rfl ?_); refine goesL_ (some 29) rfl rfl Try.func13 (by kernel_rfl) rfl #[.int .i64 x4_1, .int .i64 x5_2, .bool false, .int .u64 a0] rfl (by (try simp only [List.map_toArray, List.map_cons, List.map_nil]); first | done | rfl | (simp only [List.length_drop, List.length_take]; rfl)) ?_; (with_reducible refine (conv_Convert.calls k2 x4_1 x5_2 false a0 t230 t231 _ A7.out).mono ?_); rintro e w23 ⟨rfl, hb⟩; refine ⟨_, rfl, ?_⟩; have n0_ := Aside0.mk (below_step (by repeat (first | (with_reducible first | exact HB.out | apply below_alloc | apply pw_below_drewN | apply below_drew1) | exact HB.out)) hb); clear HB; have HB := n0_; clear n0_; (try clear hb); (try clear hb2); (try clear hk); (try clear hi)) | ((with_reducible refine gate_callee (f := 15) rfl ?_); refine goesL_ (some 36) rfl rfl Try.func15 (by kernel_rfl) rfl #[.int .i64 x4_1, .int .i64 x5_2, .bool false, .int .u64 a0] rfl (by (try simp only [List.map_toArray, List.map_cons, List.map_nil]); first | done | rfl | (simp only [List.length_drop, List.length_take]; rfl)) ?_; (with_reducible refine (bodkinref04_Convert.calls k2 x4_1 x5_2 false a0 t232 t233 _ A8.out).mono ?_); rintro e w' ⟨rfl, ⟨nd, rfl⟩⟩; refine ⟨_, rfl, ?_⟩) | ((with_reducible refine gate_callee (f := 13) rfl ?_); refine goesL_ (some 43) rfl rfl Try.func13 (by kernel_rfl) rfl #[.int .i64 x4_1, .int .i64 x5_2, .bool true, .int .u64 a0] rfl (by (try simp only [List.map_toArray, List.map_cons, List.map_nil]); first | done | rfl | (simp only [List.length_drop, List.length_take]; rfl)) ?_; (with_reducible refine (conv_Convert.calls k2 x4_1 x5_2 true a0 t234 t235 _ A9.out).mono ?_); rintro e w24 ⟨rfl, hb⟩; refine ⟨_, rfl, ?_⟩; have n0_ := Aside0.mk (below_step (by repeat (first | (with_reducible first | exact HB.out | apply below_alloc | apply pw_below_drewN | apply below_drew1) | exact HB.out)) hb); clear HB; have HB := n0_; clear n0_; (try clear hb); (try clear hb2); (try clear hk); (try clear hi)) | ((with_reducible refine gate_callee (f := 15) rfl ?_); refine goesL_ (some 50) rfl rfl Try.func15 (by kernel_rfl) rfl #[.int .i64 x4_1, .int .i64 x5_2, .bool true, .int .u64 a0] rfl (by (try simp only [List.map_toArray, List.map_cons, List.map_nil]); first | done | rfl | (simp only [List.length_drop, List.length_take]; rfl)) ?_; (with_reducible refine (bodkinref04_Convert.calls k2 x4_1 x5_2 true a0 t236 t237 _ A10.out).mono ?_); rintro e w' ⟨rfl, ⟨nd, rfl⟩⟩; refine ⟨_, rfl, ?_⟩))
                  go_ret
                  exact ⟨by first | rfl | (simp [errW_none, errW_some] <;> rfl) | (simp [*, errW_none, errW_some] <;> rfl), by repeat (first | (with_reducible first | exact HB.out | apply below_alloc | apply pw_below_drewN | apply below_drew1) | exact HB.out)⟩
              · rw [if_neg c6] at H
                have c6b0 : decide (x5_2 ≤ 64) = false := decide_eq_false c6
                clear c6
                have H' := Aside0.mk H
                clear H
                go_wp2
                go_roundg k2
                case measure => have := HK1.out; have := HK2.out; omega
                case rel => exact ⟨(wrap64 (x4_1 + 32)), (by first | rfl | (simp; done) | (simp [*]; done)), H', ⟨by have := HK1.out; have := HK2.out; omega⟩, ⟨by repeat (first | (with_reducible first | exact HB.out | apply below_alloc | apply pw_below_drewN | apply below_drew1) | exact HB.out)⟩⟩
        · rw [if_neg c5] at H
          have c5b0 : decide (x4_1 ≤ 64) = false := decide_eq_false c5
          clear c5
          obtain rfl := Option.some.inj H
          go_wp2
          go_ret
          exact ⟨by first | rfl | (simp [errW_none, errW_some] <;> rfl) | (simp [*, errW_none, errW_some] <;> rfl), by repeat (first | (with_reducible first | exact HB.out | apply below_alloc | apply pw_below_drewN | apply below_drew1) | exact HB.out)⟩
  · replace c3 := Bool.eq_false_iff.mpr c3
    subst c3
    have H1 : (some false) = some r := by rw [if_neg (show ¬ (false = true) by decide)] at H; exact H
    clear H
    have H := H1
    clear H1
    obtain rfl := Option.some.inj H
    go_enter Try.func4, Try.ntmps4
    go_wp2_with (first | ((with_reducible refine gate_callee (f := 8) rfl ?_); refine goesL_ (some 14) rfl rfl Try.func8 (by kernel_rfl) rfl #[] rfl (by (try simp only [List.map_toArray, List.map_cons, List.map_nil]); first | done | rfl | (simp only [List.length_drop, List.length_take]; rfl)) ?_; (with_reducible refine (bodkinlaw04_awake.calls k  false _ A2.out).mono ?_); rintro e w25 ⟨rfl, hb⟩; refine ⟨_, rfl, ?_⟩; have n0_ := Aside0.mk (below_step (by repeat (first | (with_reducible first | exact HB.out | apply below_alloc | apply pw_below_drewN | apply below_drew1) | exact HB.out)) hb); clear HB; have HB := n0_; clear n0_; (try clear hb); (try clear hb2); (try clear hk); (try clear hi)))
    go_ret
    exact ⟨by first | rfl | (simp [errW_none, errW_some] <;> rfl) | (simp [*, errW_none, errW_some] <;> rfl), by repeat (first | (with_reducible first | exact HB.out | apply below_alloc | apply pw_below_drewN | apply below_drew1) | exact HB.out)⟩

/-- THE ONE PURE STATEMENT of bodkinlaw04_ConvWords: yours. -/
def bodkinlaw04_ConvWords.Pure : Prop := ∀ (a0 : Int), (Lit.int .u64 a0).wf = true → ∃ k, bodkinlaw04_ConvWords.f k a0 = some true
theorem bodkinlaw04_ConvWords.walk (P : bodkinlaw04_ConvWords.Pure) (a0 : Int) (w : World) (w0 : (Lit.int .u64 a0).wf = true) :
    Calls Try.prog 4 #[.int .u64 a0] w fun e w' => e = .returned (.bool true) ∧ Below w.heap.size w w' := by
  obtain ⟨k, h⟩ := P a0 w0
  refine (bodkinlaw04_ConvWords.calls k a0 true w h).mono ?_
  rintro e w' ⟨rfl, hd⟩
  exact ⟨rfl, hd⟩

-- NOT PRINTED: function 39 (bodkinref04_value)

-- NOT PRINTED: function 54 (math_archTrunc)

-- NOT PRINTED: function 59 (math_Abs)

-- NOT PRINTED: function 60 (math_Copysign)

-- NOT PRINTED: function 55 (math_trunc)

-- NOT PRINTED: function 40 (math_Trunc)

/-! ### bodkinref04_Trunc: function 18 (by hand) -/
/-- The float cut towards 0, as an integer. -/
def cutV (s : Bool) (m : Nat) (e : Int) : Int := if s = true then -((Fl.TV m e : Nat) : Int) else ((Fl.TV m e : Nat) : Int)
def bodkinref04_Trunc.o (k : Nat) (a1 : Int) (a2 a3 below : Bool) : Option (Int × Int) :=
  if a3 = true then (bodkinref02_Cut.f k a1 18446744073709551615).bind fun en => some (Fl.endOf a2 below en, 0) else some (0, 42)
def bodkinref04_Trunc.d (k : Nat) (a1 : Int) (a2 a3 : Bool) : Ieee.Datum → Option (Int × Int)
  | .nan _ _ => some (0, if a3 = true then 0 else 43)
  | .infinity s => bodkinref04_Trunc.o k a1 a2 a3 s
  | .number s m e =>
    if cutV s m e < Fl.leastI a1 a2 then bodkinref04_Trunc.o k a1 a2 a3 true
    else if Fl.mostI a1 a2 ≤ cutV s m e then bodkinref04_Trunc.o k a1 a2 a3 false
    else if cutV s m e < 0 then (bodkinref02_Cut.f k a1 (IntKind.u64.wrap (cutV s m e))).bind fun c => some (c, 0)
    else some (cutV s m e, 0)
def bodkinref04_Trunc.f (k : Nat) (a0 : Int) (a1 : Int) (a2 : Bool) (a3 : Bool) (a4 : Int) : Option (Int × Int) :=
  if (a0 = 32 ∨ a0 = 64) ∧ (a1 = 32 ∨ a1 = 64) then bodkinref04_Trunc.d k a1 a2 a3 (Fl.rdn a0 a4) else some (0, 1)
theorem bodkinref04_Trunc.mono_o (a1 : Int) (a2 a3 below : Bool) (k : Nat) : LeO (bodkinref04_Trunc.o k a1 a2 a3 below) (bodkinref04_Trunc.o (k + 1) a1 a2 a3 below) := by
  intro r h
  unfold bodkinref04_Trunc.o at h ⊢
  split at h
  · rename_i hc
    rw [if_pos hc]
    obtain ⟨c, hc1, h'⟩ := Option.bind_eq_some_iff.mp h
    rw [bodkinref02_Cut.mono _ _ _ _ hc1]
    exact h'
  · rename_i hc
    rw [if_neg hc]
    exact h
theorem bodkinref04_Trunc.mono : ∀ a0 a1 a2 a3 a4 k, LeO (bodkinref04_Trunc.f k a0 a1 a2 a3 a4) (bodkinref04_Trunc.f (k + 1) a0 a1 a2 a3 a4) := by
  intro a0 a1 a2 a3 a4 k r h
  unfold bodkinref04_Trunc.f at h ⊢
  split at h
  · rename_i hc
    rw [if_pos hc]
    cases hd : Fl.rdn a0 a4 with
    | nan s t => rw [hd] at h; exact h
    | infinity s => rw [hd] at h; exact bodkinref04_Trunc.mono_o _ _ _ _ _ r h
    | number s m e =>
      rw [hd] at h
      simp only [bodkinref04_Trunc.d] at h ⊢
      split at h
      · rename_i h1; rw [if_pos h1]; exact bodkinref04_Trunc.mono_o _ _ _ _ _ r h
      · rename_i h1
        rw [if_neg h1]
        split at h
        · rename_i h2; rw [if_pos h2]; exact bodkinref04_Trunc.mono_o _ _ _ _ _ r h
        · rename_i h2
          rw [if_neg h2]
          split at h
          · rename_i h3
            rw [if_pos h3]
            obtain ⟨c, hc1, h'⟩ := Option.bind_eq_some_iff.mp h
            rw [bodkinref02_Cut.mono _ _ _ _ hc1]
            exact h'
          · rename_i h3; rw [if_neg h3]; exact h
  · rename_i hc
    rw [if_neg hc]
    exact h
theorem bodkinref04_Trunc.calls_o (k : Nat) (a0 a1 : Int) (a2 a3 below : Bool) (a4 : Int) (r1 r2 : Int) (w : World) (hn : a0 = 32 ∨ a0 = 64) (ht : a1 = 32 ∨ a1 = 64)
    (ho : ∀ b, Fl.VP (Fl.rdn a0 a4) b → Fl.OutAt a1 a2 below b) (h : bodkinref04_Trunc.o k a1 a2 a3 below = some (r1, r2)) :
    Calls Try.prog 18 #[.int .i64 a0, .int .i64 a1, .bool a2, .bool a3, .int .u64 a4] w fun e w' => e = .returned (.tuple #[.int .u64 r1, .int .i64 r2]) ∧ Drawn0 w w' := by
  unfold bodkinref04_Trunc.o at h
  cases a3 with
  | false =>
    rw [if_neg (by decide)] at h
    simp only [Option.some.injEq, Prod.mk.injEq] at h
    obtain ⟨rfl, rfl⟩ := h
    exact Fl.out_trap a0 a1 a2 below a4 w hn ht ho
  | true =>
    rw [if_pos rfl] at h
    obtain ⟨en, hc, h'⟩ := Option.bind_eq_some_iff.mp h
    simp only [Option.some.injEq, Prod.mk.injEq] at h'
    obtain ⟨rfl, rfl⟩ := h'
    exact Fl.out_sat a0 a1 a2 below a4 w hn ht ho en (fun W => (bodkinref02_Cut.calls k _ _ _ W hc).mono fun e w' h => h)
theorem bodkinref04_Trunc.calls (k : Nat) (a0 : Int) (a1 : Int) (a2 : Bool) (a3 : Bool) (a4 : Int) (r1 : Int) (r2 : Int) (w : World) (h : bodkinref04_Trunc.f k a0 a1 a2 a3 a4 = some (r1, r2)) :
    Calls Try.prog 18 #[.int .i64 a0, .int .i64 a1, .bool a2, .bool a3, .int .u64 a4] w fun e w' => e = .returned (.tuple #[.int .u64 r1, .int .i64 r2]) ∧ Drawn0 w w' := by
  unfold bodkinref04_Trunc.f at h
  by_cases hc : (a0 = 32 ∨ a0 = 64) ∧ (a1 = 32 ∨ a1 = 64)
  · rw [if_pos hc] at h
    obtain ⟨hn, ht⟩ := hc
    cases hd : Fl.rdn a0 a4 with
    | nan s t =>
      rw [hd] at h
      simp only [bodkinref04_Trunc.d, Option.some.injEq, Prod.mk.injEq] at h
      obtain ⟨rfl, rfl⟩ := h
      exact Fl.nan_case a0 a1 a2 a3 a4 w hn ht hd
    | infinity s =>
      rw [hd] at h
      refine bodkinref04_Trunc.calls_o k a0 a1 a2 a3 s a4 r1 r2 w hn ht ?_ h
      intro b hb
      rw [hd] at hb
      have hi := Fl.truncW_inf hb
      refine ⟨by rw [show Ieee.double.read b = .infinity s from hb]; rfl, Fl.ord_self_inf hb, Fl.inf_lt hi (Fl.num_least ht a2), fun hs => ?_⟩
      rw [Fl.inf_ge hi (Fl.num_most ht a2), hs]
      rfl
    | number s m e =>
      rw [hd] at h
      simp only [bodkinref04_Trunc.d] at h
      have facts : ∀ b, Fl.VP (Fl.rdn a0 a4) b → (Ieee.double.read b).isNaN = false ∧ (FloatKind.f64.format.order b b != some .eq) = false ∧ Fl.Facts a1 a2 (Fl.truncW b) (cutV s m e) := by
        intro b hb
        rw [hd] at hb
        obtain ⟨h1, h2, h3⟩ := Fl.cut_int hb
        exact ⟨h1, h2, Fl.facts_of ht a2 h3⟩
      split at h
      · rename_i h1
        refine bodkinref04_Trunc.calls_o k a0 a1 a2 a3 true a4 r1 r2 w hn ht ?_ h
        intro b hb
        obtain ⟨g1, g2, g3⟩ := facts b hb
        exact ⟨g1, g2, by rw [g3.lt, decide_eq_true h1], fun hs => by cases hs⟩
      · rename_i h1
        split at h
        · rename_i h2
          refine bodkinref04_Trunc.calls_o k a0 a1 a2 a3 false a4 r1 r2 w hn ht ?_ h
          intro b hb
          obtain ⟨g1, g2, g3⟩ := facts b hb
          exact ⟨g1, g2, by rw [g3.lt, decide_eq_false h1], fun _ => by rw [g3.ge, decide_eq_true h2]⟩
        · rename_i h2
          split at h
          · rename_i h3
            obtain ⟨c, hc1, h'⟩ := Option.bind_eq_some_iff.mp h
            simp only [Option.some.injEq, Prod.mk.injEq] at h'
            obtain ⟨rfl, rfl⟩ := h'
            cases a2 with
            | false => exact absurd (show cutV s m e < Fl.leastI a1 false from h3) h1
            | true => exact Fl.in_neg a0 a1 a3 a4 w hn ht hd (cutV s m e) rfl (by omega) h3 c (fun W => (bodkinref02_Cut.calls k _ _ _ W hc1).mono fun e w' h => h)
          · rename_i h3
            simp only [Option.some.injEq, Prod.mk.injEq] at h
            obtain ⟨rfl, rfl⟩ := h
            by_cases h4 : cutV s m e < 9223372036854775808
            · exact Fl.in_mid a0 a1 a2 a3 a4 w hn ht hd (cutV s m e) rfl (by omega) (by omega) h4
            · have hb : a1 = 64 ∧ a2 = false := by
                rcases ht with rfl | rfl <;> cases a2
                · exact absurd (show (4294967296 : Int) ≤ cutV s m e by omega) h2
                · exact absurd (show (2147483648 : Int) ≤ cutV s m e by omega) h2
                · exact ⟨rfl, rfl⟩
                · exact absurd (show (9223372036854775808 : Int) ≤ cutV s m e by omega) h2
              obtain ⟨rfl, rfl⟩ := hb
              exact Fl.in_big a0 a3 a4 w hn hd (cutV s m e) rfl (by omega) (Int.not_le.1 h2)
  · rw [if_neg hc] at h
    simp only [Option.some.injEq, Prod.mk.injEq] at h
    obtain ⟨rfl, rfl⟩ := h
    exact Fl.bad_size a0 a1 a2 a3 a4 w hc


/-! ### bodkinlaw04_ConvTruncs: function 7 -/
def bodkinlaw04_ConvTruncs.f (k : Nat) (a0 : Int) (a1 : Int) (a2 : Bool) (a3 : Bool) (a4 : Int) : Option (Bool) := (bodkinlaw04_awake.f k).bind fun t238 => (if t238 = true then ((conv_Trunc.f k a0 a1 a2 a3 a4).bind fun bt239 => ((bodkinref04_Trunc.f k a0 a1 a2 a3 a4).bind fun bt241 => (if bt239.1 = bt241.1 then (some (bt239.2 == bt241.2)) else (some false)))) else (some false))
theorem bodkinlaw04_ConvTruncs.mono : ∀ a0 a1 a2 a3 a4 k, LeO (bodkinlaw04_ConvTruncs.f k a0 a1 a2 a3 a4) (bodkinlaw04_ConvTruncs.f (k + 1) a0 a1 a2 a3 a4) := by
  intro a0 a1 a2 a3 a4 k
  unfold bodkinlaw04_ConvTruncs.f
  repeat' first
      | (with_reducible exact bodkinlaw04_awake.mono _)
      | (with_reducible exact bodkinref04_Trunc.mono _ _ _ _ _ _)
      | (with_reducible exact conv_Trunc.mono _ _ _ _ _ _)
      | (with_reducible exact LeO.refl _)
      | (with_reducible exact LeO.none _)
      | (with_reducible refine LeO.ite ?_ ?_)
      | (with_reducible refine LeO.bind ?_ (fun _ => ?_))
      | exact bodkinlaw04_awake.mono _
      | exact bodkinref04_Trunc.mono _ _ _ _ _ _
      | exact conv_Trunc.mono _ _ _ _ _ _
      | exact LeO.none _
      | refine LeO.ite ?_ ?_
      | refine LeO.bind ?_ (fun _ => ?_)
set_option maxHeartbeats 8000000 in
set_option maxRecDepth 100000 in
theorem bodkinlaw04_ConvTruncs.calls (k : Nat) (a0 : Int) (a1 : Int) (a2 : Bool) (a3 : Bool) (a4 : Int) (r : Bool) (w : World) (h : bodkinlaw04_ConvTruncs.f k a0 a1 a2 a3 a4 = some r) :
    Calls Try.prog 7 #[.int .i64 a0, .int .i64 a1, .bool a2, .bool a3, .int .u64 a4] w fun e w' => e = .returned (.bool r) ∧ Below w.heap.size w w' := by
  have HB := Aside0.mk (Below.refl w.heap.size w)
  have H : ((bodkinlaw04_awake.f k).bind fun t238 => (if t238 = true then ((conv_Trunc.f k a0 a1 a2 a3 a4).bind fun bt239 => ((bodkinref04_Trunc.f k a0 a1 a2 a3 a4).bind fun bt241 => (if bt239.1 = bt241.1 then (some (bt239.2 == bt241.2)) else (some false)))) else (some false))) = some r := h
  clear h
  replace H := Option.bind_eq_some_iff.mp H
  obtain ⟨t238, A60, H⟩ := H
  replace H : (if t238 = true then ((conv_Trunc.f k a0 a1 a2 a3 a4).bind fun bt239 => ((bodkinref04_Trunc.f k a0 a1 a2 a3 a4).bind fun bt241 => (if bt239.1 = bt241.1 then (some (bt239.2 == bt241.2)) else (some false)))) else (some false)) = some r := H
  have A6 := Aside0.mk A60
  clear A60
  by_cases c7 : t238 = true
  · subst c7
    have H1 : ((conv_Trunc.f k a0 a1 a2 a3 a4).bind fun bt239 => ((bodkinref04_Trunc.f k a0 a1 a2 a3 a4).bind fun bt241 => (if bt239.1 = bt241.1 then (some (bt239.2 == bt241.2)) else (some false)))) = some r := by rw [if_pos rfl] at H; exact H
    clear H
    have H := H1
    clear H1
    replace H := Option.bind_eq_some_iff.mp H
    obtain ⟨⟨t239, t240⟩, A80, H⟩ := H
    replace H : ((bodkinref04_Trunc.f k a0 a1 a2 a3 a4).bind fun bt241 => (if t239 = bt241.1 then (some (t240 == bt241.2)) else (some false))) = some r := H
    have A8 := Aside0.mk A80
    clear A80
    replace H := Option.bind_eq_some_iff.mp H
    obtain ⟨⟨t241, t242⟩, A90, H⟩ := H
    replace H : (if t239 = t241 then (some (t240 == t242)) else (some false)) = some r := H
    have A9 := Aside0.mk A90
    clear A90
    by_cases c10 : t239 = t241
    · rw [if_pos c10] at H
      have c10b0 : (t239 == t241) = true := beq_iff_eq.mpr c10
      have c10b1 : (t239 != t241) = false := bne_eq_false_iff_eq.mpr c10
      clear c10
      obtain rfl := Option.some.inj H
      go_enter Try.func7, Try.ntmps7
      go_wp2_with (first | ((with_reducible refine gate_callee (f := 8) rfl ?_); refine goesL_ (some 16) rfl rfl Try.func8 (by kernel_rfl) rfl #[] rfl (by (try simp only [List.map_toArray, List.map_cons, List.map_nil]); first | done | rfl | (simp only [List.length_drop, List.length_take]; rfl)) ?_; (with_reducible refine (bodkinlaw04_awake.calls k  true _ A6.out).mono ?_); rintro e w11 ⟨rfl, hb⟩; refine ⟨_, rfl, ?_⟩; have n0_ := Aside0.mk (below_step (by repeat (first | (with_reducible first | exact HB.out | apply below_alloc | apply pw_below_drewN | apply below_drew1) | exact HB.out)) hb); clear HB; have HB := n0_; clear n0_; (try clear hb); (try clear hb2); (try clear hk); (try clear hi)) | ((with_reducible refine gate_callee (f := 14) rfl ?_); refine goesL_ (some 25) rfl rfl Try.func14 (by kernel_rfl) rfl #[.int .i64 a0, .int .i64 a1, .bool a2, .bool a3, .int .u64 a4] rfl (by (try simp only [List.map_toArray, List.map_cons, List.map_nil]); first | done | rfl | (simp only [List.length_drop, List.length_take]; rfl)) ?_; (with_reducible refine (conv_Trunc.calls k a0 a1 a2 a3 a4 t239 t240 _ A8.out).mono ?_); rintro e w12 ⟨rfl, hb⟩; refine ⟨_, rfl, ?_⟩; have n0_ := Aside0.mk (below_step (by repeat (first | (with_reducible first | exact HB.out | apply below_alloc | apply pw_below_drewN | apply below_drew1) | exact HB.out)) hb); clear HB; have HB := n0_; clear n0_; (try clear hb); (try clear hb2); (try clear hk); (try clear hi)) | ((with_reducible refine gate_callee (f := 18) rfl ?_); refine goesL_ (some 34) rfl rfl Try.func18 (by kernel_rfl) rfl #[.int .i64 a0, .int .i64 a1, .bool a2, .bool a3, .int .u64 a4] rfl (by (try simp only [List.map_toArray, List.map_cons, List.map_nil]); first | done | rfl | (simp only [List.length_drop, List.length_take]; rfl)) ?_; (with_reducible refine (bodkinref04_Trunc.calls k a0 a1 a2 a3 a4 t241 t242 _ A9.out).mono ?_); rintro e w' ⟨rfl, ⟨nd, rfl⟩⟩; refine ⟨_, rfl, ?_⟩))
      go_ret
      exact ⟨by first | rfl | (simp [errW_none, errW_some] <;> rfl) | (simp [*, errW_none, errW_some] <;> rfl), by repeat (first | (with_reducible first | exact HB.out | apply below_alloc | apply pw_below_drewN | apply below_drew1) | exact HB.out)⟩
    · rw [if_neg c10] at H
      have c10b0 : (t239 == t241) = false := beq_eq_false_iff_ne.mpr c10
      have c10b1 : (t239 != t241) = true := bne_iff_ne.mpr c10
      obtain rfl := Option.some.inj H
      go_enter Try.func7, Try.ntmps7
      go_wp2_with (first | ((with_reducible refine gate_callee (f := 8) rfl ?_); refine goesL_ (some 16) rfl rfl Try.func8 (by kernel_rfl) rfl #[] rfl (by (try simp only [List.map_toArray, List.map_cons, List.map_nil]); first | done | rfl | (simp only [List.length_drop, List.length_take]; rfl)) ?_; (with_reducible refine (bodkinlaw04_awake.calls k  true _ A6.out).mono ?_); rintro e w13 ⟨rfl, hb⟩; refine ⟨_, rfl, ?_⟩; have n0_ := Aside0.mk (below_step (by repeat (first | (with_reducible first | exact HB.out | apply below_alloc | apply pw_below_drewN | apply below_drew1) | exact HB.out)) hb); clear HB; have HB := n0_; clear n0_; (try clear hb); (try clear hb2); (try clear hk); (try clear hi)) | ((with_reducible refine gate_callee (f := 14) rfl ?_); refine goesL_ (some 25) rfl rfl Try.func14 (by kernel_rfl) rfl #[.int .i64 a0, .int .i64 a1, .bool a2, .bool a3, .int .u64 a4] rfl (by (try simp only [List.map_toArray, List.map_cons, List.map_nil]); first | done | rfl | (simp only [List.length_drop, List.length_take]; rfl)) ?_; (with_reducible refine (conv_Trunc.calls k a0 a1 a2 a3 a4 t239 t240 _ A8.out).mono ?_); rintro e w14 ⟨rfl, hb⟩; refine ⟨_, rfl, ?_⟩; have n0_ := Aside0.mk (below_step (by repeat (first | (with_reducible first | exact HB.out | apply below_alloc | apply pw_below_drewN | apply below_drew1) | exact HB.out)) hb); clear HB; have HB := n0_; clear n0_; (try clear hb); (try clear hb2); (try clear hk); (try clear hi)) | ((with_reducible refine gate_callee (f := 18) rfl ?_); refine goesL_ (some 34) rfl rfl Try.func18 (by kernel_rfl) rfl #[.int .i64 a0, .int .i64 a1, .bool a2, .bool a3, .int .u64 a4] rfl (by (try simp only [List.map_toArray, List.map_cons, List.map_nil]); first | done | rfl | (simp only [List.length_drop, List.length_take]; rfl)) ?_; (with_reducible refine (bodkinref04_Trunc.calls k a0 a1 a2 a3 a4 t241 t242 _ A9.out).mono ?_); rintro e w' ⟨rfl, ⟨nd, rfl⟩⟩; refine ⟨_, rfl, ?_⟩))
      go_ret
      exact ⟨by first | rfl | (simp [errW_none, errW_some] <;> rfl) | (simp [*, errW_none, errW_some] <;> rfl), by repeat (first | (with_reducible first | exact HB.out | apply below_alloc | apply pw_below_drewN | apply below_drew1) | exact HB.out)⟩
  · replace c7 := Bool.eq_false_iff.mpr c7
    subst c7
    have H1 : (some false) = some r := by rw [if_neg (show ¬ (false = true) by decide)] at H; exact H
    clear H
    have H := H1
    clear H1
    obtain rfl := Option.some.inj H
    go_enter Try.func7, Try.ntmps7
    go_wp2_with (first | ((with_reducible refine gate_callee (f := 8) rfl ?_); refine goesL_ (some 16) rfl rfl Try.func8 (by kernel_rfl) rfl #[] rfl (by (try simp only [List.map_toArray, List.map_cons, List.map_nil]); first | done | rfl | (simp only [List.length_drop, List.length_take]; rfl)) ?_; (with_reducible refine (bodkinlaw04_awake.calls k  false _ A6.out).mono ?_); rintro e w15 ⟨rfl, hb⟩; refine ⟨_, rfl, ?_⟩; have n0_ := Aside0.mk (below_step (by repeat (first | (with_reducible first | exact HB.out | apply below_alloc | apply pw_below_drewN | apply below_drew1) | exact HB.out)) hb); clear HB; have HB := n0_; clear n0_; (try clear hb); (try clear hb2); (try clear hk); (try clear hi)))
    go_ret
    exact ⟨by first | rfl | (simp [errW_none, errW_some] <;> rfl) | (simp [*, errW_none, errW_some] <;> rfl), by repeat (first | (with_reducible first | exact HB.out | apply below_alloc | apply pw_below_drewN | apply below_drew1) | exact HB.out)⟩

/-- THE ONE PURE STATEMENT of bodkinlaw04_ConvTruncs: yours. -/
def bodkinlaw04_ConvTruncs.Pure : Prop := ∀ (a0 : Int) (a1 : Int) (a2 : Bool) (a3 : Bool) (a4 : Int), (Lit.int .i64 a0).wf = true → (Lit.int .i64 a1).wf = true → (Lit.int .u64 a4).wf = true → ∃ k, bodkinlaw04_ConvTruncs.f k a0 a1 a2 a3 a4 = some true
theorem bodkinlaw04_ConvTruncs.walk (P : bodkinlaw04_ConvTruncs.Pure) (a0 : Int) (a1 : Int) (a2 : Bool) (a3 : Bool) (a4 : Int) (w : World) (w0 : (Lit.int .i64 a0).wf = true) (w1 : (Lit.int .i64 a1).wf = true) (w4 : (Lit.int .u64 a4).wf = true) :
    Calls Try.prog 7 #[.int .i64 a0, .int .i64 a1, .bool a2, .bool a3, .int .u64 a4] w fun e w' => e = .returned (.bool true) ∧ Below w.heap.size w w' := by
  obtain ⟨k, h⟩ := P a0 a1 a2 a3 a4 w0 w1 w4
  refine (bodkinlaw04_ConvTruncs.calls k a0 a1 a2 a3 a4 true w h).mono ?_
  rintro e w' ⟨rfl, hd⟩
  exact ⟨rfl, hd⟩

end Go.Proofs.Ytjolaegjdfajbaa.PA
