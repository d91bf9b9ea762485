/- The reference's reading of a float's bits as one of 64 bits (value), walked: the float stands for the same number, infinity, or for no number. -/
import Derived.Test.YtjolaegjdfajbaaFl
namespace Go.Proofs.Ytjolaegjdfajbaa.Fl
open Go.RowKit Go.Proofs.YtjolaegjdfajbaaW.PrintWords Go.Proofs.YtjolaegjdfajbaaW.PrintLast Go.Proofs.YtjolaegjdfajbaaW.PrintMore
open Ieee (Datum)
set_option linter.unusedVariables false
set_option linter.unusedSimpArgs false

/-- What the bits of a float of a size stand for. -/
def rdn (n a : Int) : Datum := if n = 32 then Ieee.single.read (a % 4294967296).toNat else Ieee.double.read a.toNat
/-- A float of 64 bits that stands for the same. -/
def VP (d : Datum) (b : Nat) : Prop :=
  match d with
  | .nan _ _ => (Ieee.double.read b).isNaN = true
  | .infinity s => Ieee.double.read b = .infinity s
  | .number s m e => ∃ (t m2 : Nat) (e2 : Int), Ieee.double.read b = .number s m2 e2 ∧ m2 = m * 2 ^ t ∧ (m = 0 ∨ e2 = e - t)

theorem VP_self (b : Nat) : VP (Ieee.double.read b) b := by
  unfold VP
  split
  · rename_i h; rw [h]; rfl
  · rename_i h; exact h
  · rename_i s m e h
    exact ⟨0, m, e, h, by simp, .inr (by simp)⟩

theorem isNaN_iff (b : Nat) (h : Ieee.double.infRung < b % Ieee.double.signWeight) : (Ieee.double.read b).isNaN = true := by
  have hb : Ieee.double.binade ≤ Ieee.double.infRung := by decide +kernel
  unfold Ieee.Format.read
  dsimp only
  rw [if_neg (by omega), if_neg (by omega), if_neg (by omega)]
  rfl
theorem nan_bits (t : Nat) : (Ieee.double.read ((t % 2) * 2 ^ 63 + 0x7ff0000000000000 + 1 + (t / 2) % (2 ^ 52 - 1))).isNaN = true := by
  apply isNaN_iff
  have h1 : Ieee.double.infRung = 9218868437227405312 := by decide +kernel
  have h2 : Ieee.double.signWeight = 9223372036854775808 := by decide +kernel
  rw [h1, h2]
  have hx : (t / 2) % (2 ^ 52 - 1) < 2 ^ 52 - 1 := Nat.mod_lt _ (by decide)
  generalize (t / 2) % (2 ^ 52 - 1) = x at *
  rcases Nat.mod_two_eq_zero_or_one t with h | h <;> rw [h] <;> omega

theorem single_few (b : Nat) (s : Bool) (m : Nat) (e : Int) (h : Ieee.single.read b = .number s m e) : m < 16777216 ∧ -149 ≤ e ∧ e ≤ 104 := by
  have c1 : Ieee.single.binade = 8388608 := by decide +kernel
  have c2 : Ieee.single.infRung = 2139095040 := by decide +kernel
  have c3 : Ieee.single.signWeight = 2147483648 := by decide +kernel
  have c4 : Ieee.single.leastPlace = -149 := by decide +kernel
  unfold Ieee.Format.read at h
  dsimp only at h
  rw [c1, c2, c3, c4] at h
  have hm : b % 2147483648 < 2147483648 := Nat.mod_lt _ (by decide)
  generalize b % 2147483648 = r at *
  split at h
  · injection h with x y z
    omega
  · split at h
    · injection h with x y z
      omega
    · split at h <;> cases h
theorem promote_number (s : Bool) (m : Nat) (e : Int) (hm : m < 16777216) (h0 : -149 ≤ e) (h1 : e ≤ 104) :
    ∃ (t m2 : Nat) (e2 : Int), Ieee.double.read (Ieee.double.write (.number s m e)) = .number s m2 e2 ∧ m2 = m * 2 ^ t ∧ (m = 0 ∨ e2 = e - t) := by
  have c4 : Ieee.double.leastPlace = -1074 := by decide +kernel
  have c5 : Ieee.double.fractionBits = 52 := rfl
  have c6 : (2 : Int) ^ Ieee.double.exponentBits = 2048 := by decide +kernel
  show ∃ (t m2 : Nat) (e2 : Int), Ieee.double.read (Ieee.double.nearest s m e) = _ ∧ _
  by_cases hz : m = 0
  · subst hz
    have e1 : Ieee.double.nearest s 0 e = Ieee.double.word s 0 := by simp [Ieee.Format.nearest]
    refine ⟨0, 0, -1074, ?_, by simp, .inl rfl⟩
    rw [e1]
    cases s <;> decide +kernel
  · have hl : m.log2 < 24 := (Nat.log2_lt hz).2 (by omega)
    obtain ⟨_, h3⟩ := Fp.nearest_few Ieee.double s m e hz (by omega) (by rw [c4, c5]; omega) (by rw [c4, c5, c6]; omega)
    exact ⟨_, _, _, h3, rfl, .inr rfl⟩

/-- The NaN that a conversion of a NaN gives. -/
def nanOf (b : Nat) (w : World) : Nat := (Question.nanConv .f64 b).cut (w.tape w.drawn (.nanConv .f64 b))
theorem nanOf_nan (b : Nat) (w : World) : (Ieee.double.read (nanOf b w)).isNaN = true := nan_bits _
theorem run_nanConv (b : Nat) (s : Bool) (t : Nat) (h : Ieee.single.read b = .nan s t) (w : World) : (convert 57 37 (.float .f32 b)).run Try.prog w = .ok (.float .f64 (nanOf b w)) w.drew := by
  have hd : Try.prog.underlying 37 = some (.float .f64) := Try.underlying37
  have hs : Try.prog.underlying 57 = some (.float .f32) := Try.underlying57
  have hde : FloatKind.f32.decode b = .nan s t := h
  simp [convert, run_underlying hs, run_underlying hd, Conv.floatToFloat, hde, Question.forced, nanOf]

/-- The float of 64 bits that a float of 32 bits that is no NaN becomes. -/
theorem conv_fine (b : Nat) (h : (Ieee.single.read b).isNaN = false) : floatToFloatBits .f32 b .f64 = some (Ieee.double.write (Ieee.single.read b)) ∧ VP (Ieee.single.read b) (Ieee.double.write (Ieee.single.read b)) := by
  cases hd : Ieee.single.read b with
  | nan s t => rw [hd] at h; cases h
  | infinity s =>
    constructor
    · simp only [floatToFloatBits, FloatKind.decode, FloatKind.format, hd]
      rfl
    · exact read_inf Ieee.double (by decide +kernel) s
  | number s m e =>
    obtain ⟨h1, h2, h3⟩ := single_few b s m e hd
    obtain ⟨t, m2, e2, hr, hv⟩ := promote_number s m e h1 h2 h3
    constructor
    · have hde : FloatKind.f32.decode b = .number s m e := hd
      have hr' : (FloatKind.f64.decode (FloatKind.f64.encode (.number s m e))).isInfinity = false := by
        show (Ieee.double.read (Ieee.double.write (.number s m e))).isInfinity = false
        rw [hr]; rfl
      unfold floatToFloatBits
      rw [if_neg (by decide), hde]
      dsimp only
      rw [hr']
      rfl
    · exact ⟨t, m2, e2, hr, hv⟩
theorem run_fine (b : Nat) (h : (Ieee.single.read b).isNaN = false) (w : World) : (convert 57 37 (.float .f32 b)).run Try.prog w = .ok (.float .f64 (Ieee.double.write (Ieee.single.read b))) w :=
  run_convert_float_float w 57 37 .f32 .f64 b _ (by kernel_rfl) Try.underlying37 (conv_fine b h).1

theorem value_calls20 (n a : Int) (w : World) (hn : n = 32 ∨ n = 64) : Calls Try.prog 20 #[.int .i64 n, .int .u64 a] w fun e w' => (∃ b, e = .returned (.float .f64 b) ∧ VP (rdn n a) b) ∧ Drawn0 w w' := by
  rcases hn with rfl | rfl
  · cases hd : (Ieee.single.read (a % 4294967296).toNat).isNaN with
    | true =>
      obtain ⟨s, t, hd'⟩ : ∃ s t, Ieee.single.read (a % 4294967296).toNat = .nan s t := by
        cases hx : Ieee.single.read (a % 4294967296).toNat with
        | nan s t => exact ⟨s, t, rfl⟩
        | number s m e => rw [hx] at hd; cases hd
        | infinity s => rw [hx] at hd; cases hd
      have hrun := run_nanConv _ s t hd'
      have hx : ∀ W, VP (rdn 32 a) (nanOf (a % 4294967296).toNat W) := fun W => by
        unfold rdn; rw [if_pos rfl, hd']; exact nanOf_nan _ _
      have HX := Aside0.mk hx
      clear hx hd hd'
      go_enter Try.func20, Try.ntmps20
      go_wp2_with (go_at_call 37; refine (F32_calls a _).mono ?_; rintro e w' ⟨rfl, ⟨nd, rfl⟩⟩)
      go_ret
      exact ⟨⟨_, rfl, HX.out _⟩, by repeat (first | exact Drawn0.refl _ | exact Drawn0.step (n := 1) (by assumption) | apply Drawn0.step)⟩
    | false =>
      have hrun := run_fine _ hd
      have hx : VP (rdn 32 a) (Ieee.double.write (Ieee.single.read (a % 4294967296).toNat)) := by
        unfold rdn; rw [if_pos rfl]; exact (conv_fine _ hd).2
      have HX := Aside0.mk hx
      clear hx hd
      generalize Ieee.double.write (Ieee.single.read (a % 4294967296).toNat) = b at *
      go_enter Try.func20, Try.ntmps20
      go_wp2_with (go_at_call 37; refine (F32_calls a _).mono ?_; rintro e w' ⟨rfl, ⟨nd, rfl⟩⟩)
      go_ret
      exact ⟨⟨_, rfl, HX.out⟩, by repeat (first | exact Drawn0.refl _ | apply Drawn0.step)⟩
  · go_enter Try.func20, Try.ntmps20
    go_wp2_with (go_at_call 38; refine (F64_calls a _).mono ?_; rintro e w' ⟨rfl, ⟨nd, rfl⟩⟩)
    go_ret
    exact ⟨⟨_, rfl, VP_self _⟩, by repeat (first | exact Drawn0.refl _ | apply Drawn0.step)⟩

/-! ### kinds -/
def clsD (d : Datum) : Int := match d with | .number _ m _ => if m = 0 then 1 else 2 | .infinity _ => 3 | .nan _ _ => 4
theorem read_zero : Ieee.double.read 0 = .number false 0 (-1074) := by decide +kernel
theorem ord_zero_number {b : Nat} {s : Bool} {m : Nat} {e : Int} (h : Ieee.double.read b = .number s m e) : (FloatKind.f64.format.order b 0 == some .eq) = decide (m = 0) := by
  show (Datum.order (Ieee.double.read b) (Ieee.double.read 0) == some .eq) = _
  rw [h, read_zero]
  simp only [Datum.order]
  have hz : Ieee.signed false 0 (-1074 - min e (-1074)).toNat = 0 := by simp [Ieee.signed]
  rw [hz]
  generalize (e - min e (-1074)).toNat = k
  by_cases hm : m = 0
  · subst hm
    cases s <;> simp [Ieee.signed]
  · rw [decide_eq_false hm]
    have hp : 0 < m <<< k := by rw [Nat.shiftLeft_eq]; exact Nat.mul_pos (Nat.pos_of_ne_zero hm) (Nat.two_pow_pos k)
    generalize hX : m <<< k = X at hp
    cases s
    · have e1 : Ieee.signed false m k = (X : Int) := by unfold Ieee.signed; rw [hX]; rfl
      rw [e1]
      show (some (if (X : Int) < 0 then Ordering.lt else if (X : Int) = 0 then .eq else .gt) == some .eq) = false
      rw [if_neg (by omega), if_neg (by omega)]
      rfl
    · have e1 : Ieee.signed true m k = -(X : Int) := by unfold Ieee.signed; rw [hX]; rfl
      rw [e1]
      show (some (if -(X : Int) < 0 then Ordering.lt else if -(X : Int) = 0 then .eq else .gt) == some .eq) = false
      rw [if_pos (by omega)]
      rfl
theorem ord_self_number {b : Nat} {s : Bool} {m : Nat} {e : Int} (h : Ieee.double.read b = .number s m e) : (FloatKind.f64.format.order b b != some .eq) = false := by
  have : FloatKind.f64.format.order b b = some .eq := order_self (by show (Ieee.double.read b).isNaN = false; rw [h]; rfl)
  rw [this]; rfl
theorem ord_zero_inf {b : Nat} {s : Bool} (h : Ieee.double.read b = .infinity s) : (FloatKind.f64.format.order b 0 == some .eq) = false := by
  show (Datum.order (Ieee.double.read b) (Ieee.double.read 0) == some .eq) = _
  rw [h, read_zero]
  cases s <;> rfl
theorem ord_self_inf {b : Nat} {s : Bool} (h : Ieee.double.read b = .infinity s) : (FloatKind.f64.format.order b b != some .eq) = false := by
  have : FloatKind.f64.format.order b b = some .eq := order_self (by show (Ieee.double.read b).isNaN = false; rw [h]; rfl)
  rw [this]; rfl
theorem order_nan {b c : Nat} (h : (Ieee.double.read b).isNaN = true) : FloatKind.f64.format.order b c = none := by
  show Datum.order (Ieee.double.read b) (Ieee.double.read c) = none
  cases hd : Ieee.double.read b with
  | nan s t => rfl
  | number s m e => rw [hd] at h; cases h
  | infinity s => rw [hd] at h; cases h
theorem sub_self_number {b : Nat} {s : Bool} {m : Nat} {e : Int} (h : Ieee.double.read b = .number s m e) : floatBits .sub .f64 b b = some 0 := by
  show ((Ieee.double.read b).sum (Ieee.double.read b).opposite).map Ieee.double.write = some 0
  rw [h]
  simp only [Datum.opposite, Datum.sum]
  have ht : Ieee.signed s m (e - min e e).toNat + Ieee.signed (!s) m (e - min e e).toNat = 0 := by
    cases s <;> simp [Ieee.signed] <;> omega
  rw [ht]
  simp only [Option.map_some, if_true, Int.natAbs_zero]
  congr 1
  show Ieee.double.nearest (s && !s) 0 _ = 0
  have hs : (s && !s) = false := by cases s <;> rfl
  rw [hs]
  simp [Ieee.Format.nearest, Ieee.Format.word]
/-- The NaN that an infinity without itself gives. -/
def nanSub (b : Nat) (w : World) : Nat := (Question.nanBits .f64 b b).cut (w.tape w.drawn (.nanBits .f64 b b))
theorem nanSub_nan (b : Nat) (w : World) : (Ieee.double.read (nanSub b w)).isNaN = true := nan_bits _
theorem run_sub_inf {b : Nat} {s : Bool} (h : Ieee.double.read b = .infinity s) (w : World) : (binOp .sub 37 (.float .f64 b) (.float .f64 b)).run Try.prog w = .ok (.float .f64 (nanSub b w)) w.drew := by
  have hs : FloatKind.f64.format.sub b b = none := by
    show ((Ieee.double.read b).sum (Ieee.double.read b).opposite).map Ieee.double.write = none
    rw [h]
    cases s <;> rfl
  simp [binOp, Op.floatArith, hs, Question.forced, nanSub]
theorem ord_nanSub (b : Nat) (w : World) : (FloatKind.f64.format.order (nanSub b w) 0 != some .eq) = true := by
  rw [order_nan (nanSub_nan b w)]; rfl

theorem Kind_calls (n a : Int) (w : World) (hn : n = 32 ∨ n = 64) : Calls Try.prog 11 #[.int .i64 n, .int .u64 a] w fun e w' => e = .returned (.int .i64 (clsD (rdn n a))) ∧ Drawn0 w w' := by
  have g1 : (n != 32 && n != 64) = false := by rcases hn with rfl | rfl <;> rfl
  have C := value_calls20 n a
  have HC := Aside0.mk C
  clear C
  cases hd : rdn n a with
  | nan s t =>
    have H := Aside0.mk hd
    clear hd g1
    rcases hn with rfl | rfl <;> (
      go_enter Try.func11, Try.ntmps11
      go_wp2_with fail
      refine (HC.out _ (by decide)).mono ?_
      rintro e w' ⟨⟨b, rfl, hb⟩, ⟨nd, rfl⟩⟩
      rw [H.out] at hb
      have f0 : (FloatKind.f64.format.order b 0 == some .eq) = false := by rw [order_nan hb]; rfl
      have f1 : (FloatKind.f64.format.order b b != some .eq) = true := by rw [order_nan hb]; rfl
      clear hb
      go_wp2
      go_ret
      exact ⟨rfl, by repeat (first | exact Drawn0.refl _ | apply Drawn0.step)⟩)
  | infinity s =>
    have H := Aside0.mk hd
    clear hd g1
    rcases hn with rfl | rfl <;> (
      go_enter Try.func11, Try.ntmps11
      go_wp2_with fail
      refine (HC.out _ (by decide)).mono ?_
      rintro e w' ⟨⟨b, rfl, hb⟩, ⟨nd, rfl⟩⟩
      rw [H.out] at hb
      have f0 := ord_zero_inf hb
      have f1 := ord_self_inf hb
      have f2 := run_sub_inf hb
      have f3 := ord_nanSub b
      clear hb
      go_wp2
      go_ret
      exact ⟨rfl, by repeat (first | exact Drawn0.refl _ | exact Drawn0.step (n := 1) (by assumption) | apply Drawn0.step)⟩)
  | number s m e =>
    have H := Aside0.mk hd
    clear hd g1
    by_cases hm : m = 0
    · have e1 : clsD (.number s m e) = 1 := if_pos hm
      rw [e1]
      clear e1
      rcases hn with rfl | rfl <;> (
        go_enter Try.func11, Try.ntmps11
        go_wp2_with fail
        refine (HC.out _ (by decide)).mono ?_
        rintro e w' ⟨⟨b, rfl, hb⟩, ⟨nd, rfl⟩⟩
        rw [H.out] at hb
        obtain ⟨t, m2, e2, hr, h2, h3⟩ := hb
        have f0 : (FloatKind.f64.format.order b 0 == some .eq) = true := by rw [ord_zero_number hr, h2, hm]; simp
        clear hr h2 h3 hm H
        go_wp2
        go_ret
        exact ⟨rfl, by repeat (first | exact Drawn0.refl _ | apply Drawn0.step)⟩)
    · have e1 : clsD (.number s m e) = 2 := if_neg hm
      rw [e1]
      clear e1
      rcases hn with rfl | rfl <;> (
        go_enter Try.func11, Try.ntmps11
        go_wp2_with fail
        refine (HC.out _ (by decide)).mono ?_
        rintro e w' ⟨⟨b, rfl, hb⟩, ⟨nd, rfl⟩⟩
        rw [H.out] at hb
        obtain ⟨t, m2, e2, hr, h2, h3⟩ := hb
        have hm2 : m2 ≠ 0 := by rw [h2]; exact Nat.mul_ne_zero hm (Nat.pos_iff_ne_zero.1 (Nat.two_pow_pos t))
        have f0 : (FloatKind.f64.format.order b 0 == some .eq) = false := by rw [ord_zero_number hr, decide_eq_false hm2]
        have f1 := ord_self_number hr
        have f2 : ∀ W : World, (binOp .sub 37 (.float .f64 b) (.float .f64 b)).run Try.prog W = .ok (.float .f64 0) W := fun W => run_float_arith W .sub 37 .f64 b b 0 (sub_self_number hr)
        have f3 : (FloatKind.f64.format.order 0 0 != some .eq) = false := by decide +kernel
        clear hr h2 h3 hm hm2 H
        go_wp2
        go_ret
        exact ⟨rfl, by repeat (first | exact Drawn0.refl _ | apply Drawn0.step)⟩)
theorem Kind_no (n a : Int) (w : World) (h1 : (n != 32) = true) (h2 : (n != 64) = true) : Calls Try.prog 11 #[.int .i64 n, .int .u64 a] w fun e w' => e = .returned (.int .i64 0) ∧ Drawn0 w w' := by
  go_enter Try.func11, Try.ntmps11
  go_wp2
  go_ret
  exact ⟨rfl, by repeat (first | exact Drawn0.refl _ | apply Drawn0.step)⟩
end Go.Proofs.Ytjolaegjdfajbaa.Fl
