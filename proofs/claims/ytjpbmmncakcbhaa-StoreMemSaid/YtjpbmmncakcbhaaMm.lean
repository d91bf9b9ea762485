/- The law StoreMem walked: whatever the input, true. -/
import Derived.Test.YtjpbmmncakcbhaaRb
namespace Go.Proofs.Ytjpbmmncakcbhaa.PA
open Go.RowKit Go.Proofs.YtjpbmmncakcbhaaW.PrintWords Go.Proofs.YtjpbmmncakcbhaaW.PrintLast Go.Proofs.YtjpbmmncakcbhaaW.PrintMore
attribute [local go_sem] max2_int min2_int max_two min_two max_three min_three max_four min_four
set_option linter.unusedVariables false
set_option linter.unusedSimpArgs false

/-- What StoreMem has in memory: the limits, the memory, the reference's bytes. -/
structure MS (w0 : World) (base b5 g : Nat) (m0 mx : Int) (m2 : Bool) (B v : Value) (Lm Lv : List Int) (w : World) : Prop where
  h5 : w.heap[b5]? = some (.cells #[.int .i64 m0, .int .i64 mx, .bool m2] 23 (0, 0))
  mem : MemAt w base g m0 mx m2 B Lm
  row : Kd.R (Kd.int .u8) 5 w base (fun k => v.ownBlock = some k) v Lv
  sep : ∀ k, v.ownBlock = some k → k ≠ g ∧ B.ownBlock ≠ some k
  below : Below base w0 w
theorem MS.step {w0 w w1 : World} {base b5 g : Nat} {m0 mx : Int} {m2 : Bool} {B v : Value} {Lm Lv : List Int} {S : Nat → Prop} (h : MS w0 base b5 g m0 mx m2 B v Lm Lv w) (hk : Kept w w1 S)
    (hS : ∀ k, S k → k ≠ b5 ∧ k ≠ g ∧ B.ownBlock ≠ some k ∧ v.ownBlock ≠ some k) (hb : Below base w0 w1) : MS w0 base b5 g m0 mx m2 B v Lm Lv w1 :=
  ⟨blk_kept h.h5 hk (fun e => (hS _ e).1 rfl), h.mem.keep hk (fun e => (hS _ e).2.1 rfl) (fun k hk' e => (hS _ e).2.2.1 hk'),
    Kd.R_step h.row (fun k ho hlt => hk.2 k hlt (fun e => (hS _ e).2.2.2 ho)), h.sep, hb⟩
theorem MS.size {w0 w : World} {base b5 g : Nat} {m0 mx : Int} {m2 : Bool} {B v : Value} {Lm Lv : List Int} (h : MS w0 base b5 g m0 mx m2 B v Lm Lv w) : base ≤ w.heap.size :=
  Nat.le_trans h.mem.le (Nat.le_of_lt (blk_lt h.mem.at_))
theorem MS.new {w0 w w1 : World} {base b5 g : Nat} {m0 mx : Int} {m2 : Bool} {B v : Value} {Lm Lv : List Int} (h : MS w0 base b5 g m0 mx m2 B v Lm Lv w) (hb : Below w.heap.size w w1) : MS w0 base b5 g m0 mx m2 B v Lm Lv w1 :=
  h.step (Kept.of_below hb (fun _ => False)) (fun _ e => e.elim) (h.below.trans (hb.mono h.size))
theorem MS.alloc {w0 w : World} {base b5 g : Nat} {m0 mx : Int} {m2 : Bool} {B v : Value} {Lm Lv : List Int} (h : MS w0 base b5 g m0 mx m2 B v Lm Lv w) (o : Obj) : MS w0 base b5 g m0 mx m2 B v Lm Lv (w.alloc o) :=
  h.new (below_alloc (Below.refl _ _) o)
theorem MS.drew {w0 w : World} {base b5 g : Nat} {m0 mx : Int} {m2 : Bool} {B v : Value} {Lm Lv : List Int} (h : MS w0 base b5 g m0 mx m2 B v Lm Lv w) : MS w0 base b5 g m0 mx m2 B v Lm Lv w.drew :=
  h.new (below_drew1 (Below.refl _ _))

theorem MS.putv {w0 w w1 : World} {base b5 g : Nat} {m0 mx : Int} {m2 : Bool} {B v : Value} {Lm Lv Lv' : List Int} (h : MS w0 base b5 g m0 mx m2 B v Lm Lv w) (hg : w.grownBy w1 v.ownBlock)
    (hR : Kd.R (Kd.int .u8) 5 w1 base (fun k => v.ownBlock = some k) v Lv') : MS w0 base b5 g m0 mx m2 B v Lm Lv' w1 :=
  ⟨blk_grown h.h5 hg (Kd.R_ne h.row h.h5 (by decide)),
    h.mem.keep (S := fun k => v.ownBlock = some k) ⟨hg.size, fun i hi hS => hg.block i hi (fun e => hS e.symm)⟩ (fun e => (h.sep _ e).1 rfl) (fun k hk e => (h.sep _ e).2 hk), hR, h.sep,
    h.below.grown hg h.size (Kd.R_base h.row)⟩
theorem MS.putm {w0 w w1 : World} {base b5 g : Nat} {m0 mx : Int} {m2 : Bool} {B v : Value} {Lm Lm' Lv : List Int} (h : MS w0 base b5 g m0 mx m2 B v Lm Lv w) (hg : w.grownBy w1 B.ownBlock)
    (hR : Kd.R (Kd.int .u8) 5 w1 base (fun k => B.ownBlock = some k) B Lm') : MS w0 base b5 g m0 mx m2 B v Lm' Lv w1 :=
  ⟨blk_grown h.h5 hg (Kd.R_ne h.mem.row h.h5 (by decide)),
    h.mem.grown hg hR, Kd.R_step h.row (fun k ho hlt => hg.block k hlt (fun e => (h.sep k ho).2 e.symm)), h.sep, h.below.grown hg h.size (Kd.R_base h.mem.row)⟩

theorem MS.call {w0 w w1 : World} {base b5 g : Nat} {m0 mx : Int} {m2 : Bool} {B v v' : Value} {Lm Lv Lv' : List Int} (h : MS w0 base b5 g m0 mx m2 B v Lm Lv w) (hk : Kept w w1 (fun k => v.ownBlock = some k))
    (hR : Kd.R (Kd.int .u8) 5 w1 base (fun k => v.ownBlock = some k ∨ w.heap.size ≤ k) v' Lv') (hb : Below base w0 w1) : MS w0 base b5 g m0 mx m2 B v' Lm Lv' w1 :=
  ⟨blk_kept h.h5 hk (fun e => Kd.R_ne h.row h.h5 (by decide) e.symm),
    h.mem.keep hk (fun e => (h.sep _ e).1 rfl) (fun k hk' e => (h.sep _ e).2 hk'), Kd.R_reok rfl hR (fun _ e => e),
    fun k e => by
      rcases hR.1 k e with h1 | h1
      · exact h.sep k h1
      · have h2 := blk_lt h.mem.at_
        exact ⟨by omega, fun e2 => by have := Kd.R_lt h.mem.row k e2; omega⟩, hb⟩
theorem MS.grow {w0 w w1 : World} {base b5 g : Nat} {m0 mx : Int} {m2 : Bool} {B B' v : Value} {Lm Lm' Lv : List Int} (h : MS w0 base b5 g m0 mx m2 B v Lm Lv w) (hM : MemAt w1 base g m0 mx m2 B' Lm') (hb : Below base w0 w1)
    (hk : Kept w w1 (memS g B)) (ho : ∀ k, B'.ownBlock = some k → B.ownBlock = some k ∨ w.heap.size ≤ k) : MS w0 base b5 g m0 mx m2 B' v Lm' Lv w1 :=
  ⟨blk_kept h.h5 hk (fun e => e.elim (fun e => blk_ne h.h5 h.mem.at_ (by decide) e) (fun e => Kd.R_ne h.mem.row h.h5 (by decide) e.symm)),
    hM,
    Kd.R_step h.row (fun k ho2 hlt => hk.2 k hlt (fun e => e.elim (fun e => (h.sep k ho2).1 e) (fun e => (h.sep k ho2).2 e))),
    fun k e => ⟨(h.sep k e).1, fun e2 => (ho k e2).elim (fun e3 => (h.sep k e).2 e3) (fun e3 => by have := Kd.R_lt h.row k e; omega)⟩, hb⟩


theorem grow_bound (L : List Int) (m1 : Int) (m2 : Bool) (n most : Int) (hn : 0 ≤ n) (hm : memMost m1 m2 most ≤ 4) (hL : L.length ≤ 327680) : (mem_Grow L m1 m2 n most).1.length ≤ 327680 := by
  unfold mem_Grow
  generalize memMost m1 m2 most = t at hm
  by_cases h1 : (L.length : Int) / 65536 > t
  · rw [if_pos h1]; exact hL
  · rw [if_neg h1]
    by_cases h2 : n > t - (L.length : Int) / 65536
    · rw [if_pos h2]; exact hL
    · rw [if_neg h2]
      show (L ++ List.replicate (n * 65536).toNat (0 : Int)).length ≤ _
      rw [List.length_append, List.length_replicate]
      omega

theorem and_255 (a : Int) (h0 : 0 ≤ a) (h1 : a < 18446744073709551616) : 0 ≤ Go.bits .and .u64 a 255 ∧ Go.bits .and .u64 a 255 < 256 := by
  have h := bits_mask .u64 64 (by decide) (fun n a b => u64w a (by simpa using b)) 8 (by decide) a h0 (by omega)
  have e : ((2 : Int) ^ 8 - 1) = 255 := by decide
  rw [e] at h
  rw [h]
  have e2 : ((2 : Int) ^ 8) = 256 := by decide
  rw [e2]
  omega

theorem MS.ref {w0 w w1 : World} {base b5 g : Nat} {m0 mx : Int} {m2 : Bool} {B v v' : Value} {Lm Lv Lv' : List Int} (h : MS w0 base b5 g m0 mx m2 B v Lm Lv w) (hb : Below w.heap.size w w1)
    (hv : (v' = v ∧ Lv' = Lv) ∨ Kd.R (Kd.int .u8) 5 w1 w.heap.size (fun _ => True) v' Lv') : MS w0 base b5 g m0 mx m2 B v' Lm Lv' w1 := by
  have h1 := h.new hb
  rcases hv with ⟨rfl, rfl⟩ | hR
  · exact h1
  · have hlow := Kd.R_base hR
    exact ⟨h1.h5, h1.mem, Kd.R_reok rfl (Kd.R_lower hR h.size) (fun _ e => e), fun k e => ⟨by have := hlow k e; have := blk_lt h.mem.at_; omega, fun e2 => by have := hlow k e; have := Kd.R_lt h.mem.row k e2; omega⟩, h1.below⟩
theorem MS.act {w0 w w1 : World} {base b5 g b : Nat} {m0 mx : Int} {m2 : Bool} {B v : Value} {Lm Lv : List Int} {c : Array Value} (h : MS w0 base b5 g m0 mx m2 B v Lm Lv w) (ha : w.heap[b]? = some (.cells c 49 (0, 0))) (hk : Kept w w1 (memS g B)) : w1.heap[b]? = some (.cells c 49 (0, 0)) :=
  blk_kept ha hk (fun e => e.elim (fun e => blk_ne ha h.mem.at_ (by decide) e) (fun e => Kd.R_ne h.mem.row ha (by decide) e.symm))
theorem MS.actv {w0 w w1 : World} {base b5 g b : Nat} {m0 mx : Int} {m2 : Bool} {B v : Value} {Lm Lv : List Int} {c : Array Value} (h : MS w0 base b5 g m0 mx m2 B v Lm Lv w) (ha : w.heap[b]? = some (.cells c 49 (0, 0))) (hk : Kept w w1 (fun k => v.ownBlock = some k)) : w1.heap[b]? = some (.cells c 49 (0, 0)) :=
  blk_kept ha hk (fun e => Kd.R_ne h.row ha (by decide) e.symm)

/-- An act's numbers are of their kinds. -/
structure OkAct (x : S49) : Prop where
  k0 : -9223372036854775808 ≤ x.f0 ∧ x.f0 < 9223372036854775808
  k1 : 0 ≤ x.f1 ∧ x.f1 < 18446744073709551616
  k2 : 0 ≤ x.f2 ∧ x.f2 < 18446744073709551616
  k3 : 0 ≤ x.f3 ∧ x.f3 < 18446744073709551616

set_option maxHeartbeats 64000000 in
set_option maxRecDepth 100000 in
theorem StoreMem.walk (pages m0 m1 : Int) (m2 : Bool) (As : Option Addr) (cs : Nat) (acts : List S49) (most : Int) (w : World) (hC : Kd.C k49 w As acts.length acts) (hc : acts.length ≤ cs) (hok : ∀ x ∈ acts, OkAct x) :
    Calls Try.prog 4 #[.int .i64 pages, .agg #[.int .i64 m0, .int .i64 m1, .bool m2], .slice As acts.length cs, .int .i64 most] w fun e w' => e = .returned (.bool true) ∧ Below w.heap.size w w' := by
  have HC := Aside0.mk hC
  have HOK := Aside0.mk hok
  have hal : acts.length ≤ 9223372036854775807 := hC.2.1
  have hz1 : (w.alloc (.cells #[.int .i64 m0, .int .i64 m1, .bool m2] 23 (0, 0))).heap.size = w.heap.size + 1 := by show (w.heap.push _).size = _; exact Array.size_push _
  have HZ1 := Aside0.mk hz1
  have H5 := Aside0.mk (alloc_at w (.cells #[.int .i64 m0, .int .i64 m1, .bool m2] 23 (0, 0)))
  have HB0 := Aside0.mk (below_alloc (Below.refl w.heap.size w) (.cells #[.int .i64 m0, .int .i64 m1, .bool m2] 23 (0, 0)))
  clear hz1 hC hok
  go_enter Try.func4, Try.ntmps4
  go_wp2_with (fail)
  refine (awake.calls _).mono ?_
  rintro e w1 ⟨rfl, q1⟩
  have HB1 := Aside0.mk (HB0.out.trans (q1.mono HB0.out.size))
  have H51 := Aside0.mk ((q1.block w.heap.size (by rw [HZ1.out]; omega)).trans H5.out)
  clear q1 H5 HB0 HZ1
  generalize hb5 : w.heap.size = b5 at H51 ⊢
  have HV5 := Aside0.mk hb5
  clear hb5
  by_cases hp : pages < 0
  · go_wp2_with (fail)
    go_ret
    exact ⟨rfl, HB1.out⟩
  · by_cases hp2 : pages > 2
    · go_wp2_with (fail)
      go_ret
      exact ⟨rfl, HB1.out⟩
    · obtain ⟨N, hN⟩ : ∃ N : Int, N = pages * 65536 := ⟨_, rfl⟩
      have hNb : 0 ≤ N ∧ N ≤ 131072 := by omega
      have hmul : wrap64 N = N := w64 (by omega) (by omega)
      have hmul1 : IntKind.i64.wrap N = N := by unfold IntKind.wrap; simp [IntKind.signed, IntKind.bits]; omega
      have hmul2 : pages * 65536 = N := hN.symm
      have HNb := Aside0.mk hNb
      have HN0 := Aside0.mk hNb.1
      have HN1 := Aside0.mk (show N.toNat * 1 ≤ 281474976710656 by omega)
      clear hN hNb
      go_wp2_with (fail)
      refine start_ (n := 7) (S := fun w' => w'.cell? ⟨b5, 0, none⟩ = some (.int .i64 m0) ∧ w'.cell? ⟨b5, 1, none⟩ = some (.int .i64 m1) ∧ w'.cell? ⟨b5, 2, none⟩ = some (.bool m2) ∧ w'.heap[b5]? = some (.cells #[.int .i64 m0, .int .i64 m1, .bool m2] 23 (0, 0)) ∧ Below w.heap.size w w') (ds := [5]) #[false, false, false, false, false, false, false] (by kernel_rfl) rfl rfl ⟨((blk_cell H51.out 0).trans rfl), ((blk_cell H51.out 1).trans rfl), ((blk_cell H51.out 2).trans rfl), H51.out, (below_drew1 HB1.out)⟩ (fun hHeld => ?_)
      refine pure_ (i := 1) (N := some 34) (v := ?_) (a' := ?_) #[false, true, false, false, false, false, false] rfl rfl (by kernel_rfl) (fun _ _ _ h => h) (Or.inl ⟨by rfl, ?_⟩) ?_ ?_
      rotate_left
      · intro w'
        go_simp
        with_reducible rfl
      rotate_left
      · simp only [Act.put, List.setIfInBounds_toArray, List.set_cons_zero, List.set_cons_succ, i64_w, i32_w]
        rfl
      refine pure_ (i := 2) (N := some 35) (v := ?_) (a' := ?_) #[false, true, true, false, false, false, false] rfl rfl (by kernel_rfl) (fun _ _ _ h => h) (Or.inl ⟨by rfl, ?_⟩) ?_ ?_
      rotate_left
      · intro w'
        go_simp
        with_reducible rfl
      rotate_left
      · simp only [Act.put, List.setIfInBounds_toArray, List.set_cons_zero, List.set_cons_succ, i64_w, i32_w]
        rfl
      refine take_ (i := 0) (N := some 33) (v := ?_) (a' := ?_) #[true, true, true, false, false, false, false] rfl rfl (by kernel_rfl) (fun _ _ _ h => h) (Or.inl ⟨by rfl, ?_⟩) hHeld ?_ ?_
      rotate_left
      · rintro w' ⟨s0, s1, s2, s3, s4⟩
        go_simp
        with_reducible rfl
      rotate_left
      · simp only [Act.put, List.setIfInBounds_toArray, List.set_cons_zero, List.set_cons_succ, i64_w, i32_w]
        rfl
      refine one_ (i := 3) (N := some 36) #[true, true, true, true, false, false, false] rfl rfl (by kernel_rfl) (by decide) (fun K hK => ?_)
      have hT := hHeld.2.2.2
      refine Kd.R_make_step (Kd.int .u8) (w0 := w) w.heap.size 5 (by rfl) (N := 36) rfl 29 (.tmp 35) (.tmp 35) rfl N rfl rfl Try.underlying29 (.int .u8 0) 1 info5 rfl (by decide) (by decide) (0 : Int) (okp := fun _ => False) (ok := fun _ => True) rfl (fun _ h => h.elim) trivial HN0.out HN1.out hT.2 hT.2.size ?_
      intro v1 w3 ho hb hg hat
      obtain ⟨A1, c1, rfl⟩ := Kd.R_slice ho
      have HO3 := Aside0.mk ho
      have hU := (show _ ∧ _ from ⟨blk_grown hT.1 hg (by simp), hb⟩)
      clear ho hb hg hat
      refine hK.out _ _ ⟨((blk_cell hU.1 0).trans rfl), ((blk_cell hU.1 1).trans rfl), ((blk_cell hU.1 2).trans rfl), hU.1, hU.2⟩ (fun hHeld => ?_)
      clear hK K
      refine norm_ (a' := ?_) ?_ ?_
      rotate_left
      · show Act.put _ (some 36) _ = _
        simp only [Act.put, List.setIfInBounds_toArray, List.set_cons_zero, List.set_cons_succ, i64_w, i32_w]
        rfl
      refine pure_ (i := 4) (N := some 37) (v := ?_) (a' := ?_) #[true, true, true, true, true, false, false] rfl rfl (by kernel_rfl) (fun _ _ _ h => h) (Or.inl ⟨by rfl, ?_⟩) ?_ ?_
      rotate_left
      · intro w'
        go_simp
        with_reducible rfl
      rotate_left
      · simp only [Act.put, List.setIfInBounds_toArray, List.set_cons_zero, List.set_cons_succ, i64_w, i32_w]
        rfl
      refine last_ (i := 5) (N := some 38) #[true, true, true, true, true, true, false] rfl rfl (by kernel_rfl) (by decide) (fun K hK => ?_)
      have hT := hHeld.2.2.2
      have HT5 := Aside0.mk hT
      refine value_ (w1 := ?_) (v := ?_) (by rfl) rfl ?_ ?_
      rotate_left 2
      · go_simp
        constructor
        · rfl
        · rfl
      refine hK.out _ _ ?_
      clear hK K
      refine norm_ (a' := ?_) ?_ ?_
      rotate_left
      · show Act.put _ (some 38) _ = _
        simp only [Act.put, List.setIfInBounds_toArray, List.set_cons_zero, List.set_cons_succ, i64_w, i32_w]
        rfl
      refine pure_ (i := 6) (N := some 10) (v := ?_) (a' := ?_) #[true, true, true, true, true, true, true] rfl rfl (by kernel_rfl) (fun _ _ _ h => h) (Or.inl ⟨by rfl, ?_⟩) ?_ ?_
      rotate_left
      · intro w'
        go_simp
        with_reducible rfl
      rotate_left
      · simp only [Act.put, List.setIfInBounds_toArray, List.set_cons_zero, List.set_cons_succ, i64_w, i32_w]
        rfl
      refine done_ (by kernel_rfl) ?_
      obtain ⟨L0, hL0⟩ : ∃ L0, L0 = List.replicate N.toNat (0 : Int) := ⟨_, rfl⟩
      have hLl : L0.length = N.toNat := by rw [hL0]; exact List.length_replicate
      have HO4 := HO3.out
      rw [← hL0, hLl] at HO4
      have HM4 := Aside0.mk (MemAt.box (x0 := m0) (x1 := m1) (x2 := m2) HT5.out.2 HT5.out.2.size HO4)
      have H54 := Aside0.mk ((Below.heap_alloc w3 (.cells #[.int .i64 m0, .int .i64 m1, .bool m2, .slice A1 N.toNat c1] 31 (0, 0)) b5 (blk_lt HT5.out.1)).trans HT5.out.1)
      have HLL := Aside0.mk hLl
      have hz4 : (w3.alloc (.cells #[.int .i64 m0, .int .i64 m1, .bool m2, .slice A1 N.toNat c1] 31 (0, 0))).heap.size = w3.heap.size + 1 := by show (w3.heap.push _).size = _; exact Array.size_push _
      have HZ4 := Aside0.mk hz4
      have HO3l := Aside0.mk (Kd.R_lt HO4)
      have HL0 := Aside0.mk hL0
      clear HO3 HT5 HO4 hLl hz4 hL0 hHeld hT H51 HB1
      generalize hg : w3.heap.size = g at HM4 HZ4 HO3l ⊢
      generalize w3.alloc _ = w4 at HM4 H54 HZ4 ⊢
      clear hg
      go_wp2_with (first | ((with_reducible refine gate_dst (N := 41) rfl ?_); refine Kd.R_make (Kd.int .u8) (w0 := w) w.heap.size 5 rfl (N := 41) rfl 29 (.tmp 40) (.tmp 40) rfl N rfl rfl Try.underlying29 (.int .u8 0) 1 info5 rfl (by decide) (by decide) (0 : Int) (okp := fun _ => False) (ok := fun k => w4.heap.size ≤ k) rfl (fun _ h => h.elim) (Nat.le_refl _) HN0.out HN1.out HM4.out.2 HM4.out.2.size ?_; intro v2 w5 ho hb hg2 hat; rw [← HL0.out] at ho; obtain ⟨A2, c2, rfl⟩ := Kd.R_slice ho; rw [HLL.out] at ho ⊢; have HG5 := Aside0.mk (show MS w w.heap.size b5 g m0 m1 m2 (.slice A1 N.toNat c1) (.slice A2 N.toNat c2) L0 L0 w5 from ⟨blk_grown H54.out hg2 (by simp), HM4.out.1.keep (Kept.of_below (below_of_grown hg2) (fun _ => False)) (fun h => h) (fun _ _ h => h), Kd.R_reok rfl ho (fun _ h => h), fun k hk => ⟨by have := ho.1 k hk; have := HZ4.out; omega, fun e => by have := HO3l.out k e; have := ho.1 k hk; have := HZ4.out; omega⟩, hb⟩); clear ho hb hg2 hat) | fail)
      have HGs := HG5
      rw [← HLL.out] at HGs
      clear HG5 HM4 H54 HZ4 HO3l
      go_loopw [11, 12] (fun v11 v12 wr => ∃ (i : Nat) (A6 : Option Addr) (c6 : Nat) (A7 : Option Addr) (c7 : Nat) (L : List Int), v12 = .int .i64 i ∧ i ≤ 12 ∧ v11 = .slice A6 L.length c6 ∧ Aside0 (L.length ≤ 327680) ∧ Aside0 (MS w w.heap.size b5 g m0 m1 m2 (.slice A7 L.length c7) (.slice A6 L.length c6) L L wr))
        (fun _ v12 _ => 13 - (intOf v12).toNat)
      case atStart => exact ⟨0, A2, c2, A1, c1, L0, rfl, by omega, by rw [HLL.out], ⟨by rw [HLL.out]; have := HNb.out; omega⟩, HGs⟩
      case round =>
        obtain ⟨i, A6, c6, A7, c7, L, rfl, hi12, rfl, HLb, HMS⟩ := hrel
        by_cases hia : i < acts.length
        · by_cases hi : i < 12
          · obtain ⟨x, ad, Al, cl, hx, rfl, hcl, hCl, hx0, hx1, hx2, hx3, hx4, hx5, hx6, hx7, hx8, hx9⟩ := at_T49 HC.out i hia
            replace hx0 := pw_cell_below HMS.out.below hx0
            replace hx1 := pw_cell_below HMS.out.below hx1
            replace hx2 := pw_cell_below HMS.out.below hx2
            replace hx3 := pw_cell_below HMS.out.below hx3
            replace hx4 := pw_cell_below HMS.out.below hx4
            replace hx5 := pw_cell_below HMS.out.below hx5
            replace hx6 := pw_cell_below HMS.out.below hx6
            replace hx7 := pw_cell_below HMS.out.below hx7
            replace hx8 := pw_cell_below HMS.out.below hx8
            replace hx9 := pw_cell_below HMS.out.below hx9
            have HX := Aside0.mk (HOK.out x (List.mem_of_getElem? hx))
            have HCl := Aside0.mk hCl
            have HMx := Aside0.mk (HMS.out.alloc (.cells #[.int .i64 x.f0, .int .u64 x.f1, .int .u64 x.f2, .int .u64 x.f3, .int .u8 x.f4, .slice Al x.f5.length cl, .int .i64 x.f6.f0, .int .u64 x.f6.f1, .int .u64 x.f6.f2, .bool x.f6.f3] 49 (0, 0)))
            have HAx := Aside0.mk (alloc_at wr (.cells #[.int .i64 x.f0, .int .u64 x.f1, .int .u64 x.f2, .int .u64 x.f3, .int .u8 x.f4, .slice Al x.f5.length cl, .int .i64 x.f6.f0, .int .u64 x.f6.f1, .int .u64 x.f6.f2, .bool x.f6.f3] 49 (0, 0)))
            clear hCl hx
            by_cases hl1 : x.f5.length > 1000
            · go_wp2_with (fail)
              go_ret
              exact ⟨rfl, HMx.out.below⟩
            · by_cases hk0 : x.f0.tmod 6 = 0
              · as_aux_lemma =>
                  go_wp2_with (fail)
                  generalize hb13 : wr.heap.size = b13 at HAx ⊢
                  generalize wr.alloc _ = wx at HMx HAx ⊢
                  clear hb13
                  refine (mem_Write.calls w.heap.size g m0 m1 m2 (.slice A7 L.length c7) L x.f1 Al cl x.f5 w wx HX.out.k1.1 HMx.out.below HMx.out.mem (Kd.C_below HCl.out HMx.out.below) hcl).mono ?_
                  rintro e wa ⟨rfl, q1, q2, q3⟩
                  have HMS2 := Aside0.mk (HMx.out.grow q1 q2 q3 (fun k e => .inl e))
                  have HA2 := Aside0.mk (HMx.out.act HAx.out q3)
                  have hlq := (Kd.R_reads' q1.row).1
                  obtain ⟨M, hM⟩ : ∃ M, M = (mem_Init L x.f1 0 x.f5.length x.f5).1 := ⟨_, rfl⟩
                  obtain ⟨E, hE⟩ : ∃ E, E = (mem_Init L x.f1 0 x.f5.length x.f5).2 := ⟨_, rfl⟩
                  rw [← hM] at HMS2 hlq
                  have HLM := Aside0.mk (show M.length ≤ 327680 by rw [← hlq]; exact HLb.out)
                  have HI := Aside0.mk (show mem_Init L x.f1 0 x.f5.length x.f5 = (M, E) by rw [hM, hE])
                  rw [← hE]
                  have HLQ := Aside0.mk hlq
                  clear q1 q2 q3 hM hE hlq HMx HAx
                  have hy0 : wa.cell? ⟨b13, 0, none⟩ = some (.int .i64 x.f0) := (blk_cell HA2.out 0).trans rfl
                  have hy1 : wa.cell? ⟨b13, 1, none⟩ = some (.int .u64 x.f1) := (blk_cell HA2.out 1).trans rfl
                  have hy2 : wa.cell? ⟨b13, 2, none⟩ = some (.int .u64 x.f2) := (blk_cell HA2.out 2).trans rfl
                  have hy3 : wa.cell? ⟨b13, 3, none⟩ = some (.int .u64 x.f3) := (blk_cell HA2.out 3).trans rfl
                  have hy4 : wa.cell? ⟨b13, 4, none⟩ = some (.int .u8 x.f4) := (blk_cell HA2.out 4).trans rfl
                  have hy5 : wa.cell? ⟨b13, 5, none⟩ = some (.slice Al x.f5.length cl) := (blk_cell HA2.out 5).trans rfl
                  have hul := wrap_len x.f5 (by omega)
                  go_wp2_with (fail)
                  refine (refBytes.calls A6 c6 L x.f1 0 x.f5.length Al cl x.f5 wa HX.out.k1.1 (by omega) (by omega) (Kd.R_reads' HMS2.out.row).2.2 (Kd.R_reads' HMS2.out.row).2.1 (Kd.C_below HCl.out HMS2.out.below) hcl (by have := HLb.out; omega) (by omega)).mono ?_
                  rintro e wb ⟨v9, rfl, q1, q2⟩
                  rw [HI.out] at q2 ⊢
                  have hms := HMS2.out.ref q1 q2
                  obtain ⟨A9, c9, rfl⟩ := Kd.R_slice hms.row
                  rw [HLQ.out] at hms
                  have HM3 := Aside0.mk hms
                  clear q1 q2 hms HMS2
                  go_wp2_with (fail)
                  refine start_ (n := 13) (S := fun w' => w'.cell? ⟨g, 3, none⟩ = some (.slice A7 M.length c7) ∧ (convert 29 9 (.slice A7 M.length c7)).run Try.prog w' = .ok (.string (strOfNums M)) w' ∧ (convert 29 9 (.slice A9 M.length c9)).run Try.prog w' = .ok (.string (strOfNums M)) w' ∧ MS w w.heap.size b5 g m0 m1 m2 (.slice A7 M.length c7) (.slice A9 M.length c9) M M w') (ds := []) #[false, false, false, false, false, false, false, false, false, false, false, false, false] (by kernel_rfl) rfl rfl ⟨((blk_cell HM3.out.mem.at_ 3).trans rfl), (own_string (P := Try.prog) (dst := 9) Try.underlying29 Try.underlying5 Try.underlying9 (Kd.own_of_R HM3.out.drew.mem.row)), (own_string (P := Try.prog) (dst := 9) Try.underlying29 Try.underlying5 Try.underlying9 (Kd.own_of_R HM3.out.drew.row)), HM3.out.drew⟩ (fun hHeld => ?_)
                  refine pure_ (i := 0) (N := some 252) (v := ?_) (a' := ?_) #[true, false, false, false, false, false, false, false, false, false, false, false, false] rfl rfl (by kernel_rfl) (fun _ _ _ h => h) (Or.inl ⟨by rfl, ?_⟩) ?_ ?_
                  rotate_left
                  · intro w'
                    go_simp
                    with_reducible rfl
                  rotate_left
                  · simp only [Act.put, List.setIfInBounds_toArray, List.set_cons_zero, List.set_cons_succ, i64_w, i32_w]
                    rfl
                  refine pure_ (i := 1) (N := some 253) (v := ?_) (a' := ?_) #[true, true, false, false, false, false, false, false, false, false, false, false, false] rfl rfl (by kernel_rfl) (fun _ _ _ h => h) (Or.inl ⟨by rfl, ?_⟩) ?_ ?_
                  rotate_left
                  · intro w'
                    go_simp
                    with_reducible rfl
                  rotate_left
                  · simp only [Act.put, List.setIfInBounds_toArray, List.set_cons_zero, List.set_cons_succ, i64_w, i32_w]
                    rfl
                  refine pure_ (i := 2) (N := some 254) (v := ?_) (a' := ?_) #[true, true, true, false, false, false, false, false, false, false, false, false, false] rfl rfl (by kernel_rfl) (fun _ _ _ h => h) (Or.inl ⟨by rfl, ?_⟩) ?_ ?_
                  rotate_left
                  · intro w'
                    go_simp
                    with_reducible rfl
                  rotate_left
                  · simp only [Act.put, List.setIfInBounds_toArray, List.set_cons_zero, List.set_cons_succ, i64_w, i32_w]
                    rfl
                  refine pure_ (i := 3) (N := some 255) (v := ?_) (a' := ?_) #[true, true, true, true, false, false, false, false, false, false, false, false, false] rfl rfl (by kernel_rfl) (fun _ _ _ h => h) (Or.inl ⟨by rfl, ?_⟩) ?_ ?_
                  rotate_left
                  · intro w'
                    go_simp
                    with_reducible rfl
                  rotate_left
                  · simp only [Act.put, List.setIfInBounds_toArray, List.set_cons_zero, List.set_cons_succ, i64_w, i32_w]
                    rfl
                  refine pure_ (i := 4) (N := some 256) (v := ?_) (a' := ?_) #[true, true, true, true, true, false, false, false, false, false, false, false, false] rfl rfl (by kernel_rfl) (fun _ _ _ h => h) (Or.inl ⟨by rfl, ?_⟩) ?_ ?_
                  rotate_left
                  · intro w'
                    go_simp
                    with_reducible rfl
                  rotate_left
                  · simp only [Act.put, List.setIfInBounds_toArray, List.set_cons_zero, List.set_cons_succ, i64_w, i32_w]
                    rfl
                  refine pure_ (i := 5) (N := some 257) (v := ?_) (a' := ?_) #[true, true, true, true, true, true, false, false, false, false, false, false, false] rfl rfl (by kernel_rfl) (fun _ _ _ h => h) (Or.inl ⟨by rfl, ?_⟩) ?_ ?_
                  rotate_left
                  · intro w'
                    go_simp
                    with_reducible rfl
                  rotate_left
                  · simp only [Act.put, List.setIfInBounds_toArray, List.set_cons_zero, List.set_cons_succ, i64_w, i32_w]
                    rfl
                  refine pure_ (i := 6) (N := some 258) (v := ?_) (a' := ?_) #[true, true, true, true, true, true, true, false, false, false, false, false, false] rfl rfl (by kernel_rfl) (fun _ _ _ h => h) (Or.inl ⟨by rfl, ?_⟩) ?_ ?_
                  rotate_left
                  · intro w'
                    go_simp
                    with_reducible rfl
                  rotate_left
                  · simp only [Act.put, List.setIfInBounds_toArray, List.set_cons_zero, List.set_cons_succ, i64_w, i32_w]
                    rfl
                  refine pure_ (i := 9) (N := some 261) (v := ?_) (a' := ?_) #[true, true, true, true, true, true, true, false, false, true, false, false, false] rfl rfl (by kernel_rfl) (fun _ _ _ h => h) (Or.inl ⟨by rfl, ?_⟩) ?_ ?_
                  rotate_left
                  · intro w'
                    go_simp
                    with_reducible rfl
                  rotate_left
                  · simp only [Act.put, List.setIfInBounds_toArray, List.set_cons_zero, List.set_cons_succ, i64_w, i32_w]
                    rfl
                  refine take_ (i := 7) (N := some 259) (v := ?_) (a' := ?_) #[true, true, true, true, true, true, true, true, false, true, false, false, false] rfl rfl (by kernel_rfl) (fun _ _ _ h => h) (Or.inl ⟨by rfl, ?_⟩) hHeld ?_ ?_
                  rotate_left
                  · rintro w' ⟨s0, s1, s2, s3⟩
                    go_simp
                    with_reducible rfl
                  rotate_left
                  · simp only [Act.put, List.setIfInBounds_toArray, List.set_cons_zero, List.set_cons_succ, i64_w, i32_w]
                    rfl
                  refine take_ (i := 8) (N := some 260) (v := ?_) (a' := ?_) #[true, true, true, true, true, true, true, true, true, true, false, false, false] rfl rfl (by kernel_rfl) (fun _ _ _ h => h) (Or.inl ⟨by rfl, ?_⟩) hHeld ?_ ?_
                  rotate_left
                  · rintro w' ⟨s0, s1, s2, s3⟩
                    go_simp
                    with_reducible rfl
                  rotate_left
                  · simp only [Act.put, List.setIfInBounds_toArray, List.set_cons_zero, List.set_cons_succ, i64_w, i32_w]
                    rfl
                  refine take_ (i := 10) (N := some 262) (v := ?_) (a' := ?_) #[true, true, true, true, true, true, true, true, true, true, true, false, false] rfl rfl (by kernel_rfl) (fun _ _ _ h => h) (Or.inl ⟨by rfl, ?_⟩) hHeld ?_ ?_
                  rotate_left
                  · rintro w' ⟨s0, s1, s2, s3⟩
                    go_simp
                    with_reducible rfl
                  rotate_left
                  · simp only [Act.put, List.setIfInBounds_toArray, List.set_cons_zero, List.set_cons_succ, i64_w, i32_w]
                    rfl
                  refine pure_ (i := 11) (N := some 263) (v := ?_) (a' := ?_) #[true, true, true, true, true, true, true, true, true, true, true, true, false] rfl rfl (by kernel_rfl) (fun _ _ _ h => h) (Or.inl ⟨by rfl, ?_⟩) ?_ ?_
                  rotate_left
                  · intro w'
                    go_simp
                    with_reducible rfl
                  rotate_left
                  · simp only [Act.put, List.setIfInBounds_toArray, List.set_cons_zero, List.set_cons_succ, i64_w, i32_w]
                    rfl
                  refine pure_ (i := 12) (N := some 264) (v := ?_) (a' := ?_) #[true, true, true, true, true, true, true, true, true, true, true, true, true] rfl rfl (by kernel_rfl) (fun _ _ _ h => h) (Or.inl ⟨by rfl, ?_⟩) ?_ ?_
                  rotate_left
                  · intro w'
                    go_simp
                    with_reducible rfl
                  rotate_left
                  · simp only [Act.put, List.setIfInBounds_toArray, List.set_cons_zero, List.set_cons_succ, i64_w, i32_w]
                    rfl
                  refine done_ (by kernel_rfl) ?_
                  have HE := Aside0.mk hHeld.2.2.2
                  clear hHeld
                  go_wp2_with (fail)
                  exact ⟨⟨i + 1, A9, c9, A7, c7, M, by go_num, by omega, rfl, HLM, HE⟩, by simp [intOf]; omega⟩
              · by_cases hk1 : x.f0.tmod 6 = 1
                · as_aux_lemma =>
                    go_wp2_with (fail)
                    generalize hb13 : wr.heap.size = b13 at HAx ⊢
                    generalize wr.alloc _ = wx at HMx HAx ⊢
                    clear hb13
                    refine (mem_Fill.calls w.heap.size g m0 m1 m2 (.slice A7 L.length c7) L x.f1 x.f4 x.f3 w wx HX.out.k1.1 HX.out.k3.1 HMx.out.below HMx.out.mem).mono ?_
                    rintro e wa ⟨rfl, q1, q2, q3⟩
                    have HMS2 := Aside0.mk (HMx.out.grow q1 q2 q3 (fun k e => .inl e))
                    have HA2 := Aside0.mk (HMx.out.act HAx.out q3)
                    have hlq := (Kd.R_reads' q1.row).1
                    obtain ⟨M, hM⟩ : ∃ M, M = (mem_Fill L x.f1 x.f4 x.f3).1 := ⟨_, rfl⟩
                    obtain ⟨E, hE⟩ : ∃ E, E = (mem_Fill L x.f1 x.f4 x.f3).2 := ⟨_, rfl⟩
                    rw [← hM] at HMS2 hlq
                    have HLM := Aside0.mk (show M.length ≤ 327680 by rw [← hlq]; exact HLb.out)
                    have HI := Aside0.mk (show mem_Fill L x.f1 x.f4 x.f3 = (M, E) by rw [hM, hE])
                    rw [← hE]
                    have HLQ := Aside0.mk hlq
                    clear q1 q2 q3 hM hE hlq HMx HAx
                    have hy0 : wa.cell? ⟨b13, 0, none⟩ = some (.int .i64 x.f0) := (blk_cell HA2.out 0).trans rfl
                    have hy1 : wa.cell? ⟨b13, 1, none⟩ = some (.int .u64 x.f1) := (blk_cell HA2.out 1).trans rfl
                    have hy2 : wa.cell? ⟨b13, 2, none⟩ = some (.int .u64 x.f2) := (blk_cell HA2.out 2).trans rfl
                    have hy3 : wa.cell? ⟨b13, 3, none⟩ = some (.int .u64 x.f3) := (blk_cell HA2.out 3).trans rfl
                    have hy4 : wa.cell? ⟨b13, 4, none⟩ = some (.int .u8 x.f4) := (blk_cell HA2.out 4).trans rfl
                    have hy5 : wa.cell? ⟨b13, 5, none⟩ = some (.slice Al x.f5.length cl) := (blk_cell HA2.out 5).trans rfl
                    go_wp2_with (fail)
                    refine (bodkinref13_Fill.calls 327685 (fun k => (Value.slice A6 L.length c6).ownBlock = some k) (.slice A6 L.length c6) L x.f1 x.f4 x.f3 M E w wa HMS2.out.below HMS2.out.row (by rw [refFill_is L x.f1 x.f4 x.f3 HX.out.k1.1 HX.out.k3.1 HLb.out, HI.out])).mono ?_
                    rintro e wb ⟨v9, rfl, q1, q2, q3⟩
                    have hms := HMS2.out.call q3 q1 q2
                    obtain ⟨A9, c9, rfl⟩ := Kd.R_slice hms.row
                    rw [HLQ.out] at hms
                    have HM3 := Aside0.mk hms
                    clear q1 q2 q3 hms HMS2
                    go_wp2_with (fail)
                    refine start_ (n := 13) (S := fun w' => w'.cell? ⟨g, 3, none⟩ = some (.slice A7 M.length c7) ∧ (convert 29 9 (.slice A7 M.length c7)).run Try.prog w' = .ok (.string (strOfNums M)) w' ∧ (convert 29 9 (.slice A9 M.length c9)).run Try.prog w' = .ok (.string (strOfNums M)) w' ∧ MS w w.heap.size b5 g m0 m1 m2 (.slice A7 M.length c7) (.slice A9 M.length c9) M M w') (ds := []) #[false, false, false, false, false, false, false, false, false, false, false, false, false] (by kernel_rfl) rfl rfl ⟨((blk_cell HM3.out.mem.at_ 3).trans rfl), (own_string (P := Try.prog) (dst := 9) Try.underlying29 Try.underlying5 Try.underlying9 (Kd.own_of_R HM3.out.drew.mem.row)), (own_string (P := Try.prog) (dst := 9) Try.underlying29 Try.underlying5 Try.underlying9 (Kd.own_of_R HM3.out.drew.row)), HM3.out.drew⟩ (fun hHeld => ?_)
                    refine pure_ (i := 0) (N := some 252) (v := ?_) (a' := ?_) #[true, false, false, false, false, false, false, false, false, false, false, false, false] rfl rfl (by kernel_rfl) (fun _ _ _ h => h) (Or.inl ⟨by rfl, ?_⟩) ?_ ?_
                    rotate_left
                    · intro w'
                      go_simp
                      with_reducible rfl
                    rotate_left
                    · simp only [Act.put, List.setIfInBounds_toArray, List.set_cons_zero, List.set_cons_succ, i64_w, i32_w]
                      rfl
                    refine pure_ (i := 1) (N := some 253) (v := ?_) (a' := ?_) #[true, true, false, false, false, false, false, false, false, false, false, false, false] rfl rfl (by kernel_rfl) (fun _ _ _ h => h) (Or.inl ⟨by rfl, ?_⟩) ?_ ?_
                    rotate_left
                    · intro w'
                      go_simp
                      with_reducible rfl
                    rotate_left
                    · simp only [Act.put, List.setIfInBounds_toArray, List.set_cons_zero, List.set_cons_succ, i64_w, i32_w]
                      rfl
                    refine pure_ (i := 2) (N := some 254) (v := ?_) (a' := ?_) #[true, true, true, false, false, false, false, false, false, false, false, false, false] rfl rfl (by kernel_rfl) (fun _ _ _ h => h) (Or.inl ⟨by rfl, ?_⟩) ?_ ?_
                    rotate_left
                    · intro w'
                      go_simp
                      with_reducible rfl
                    rotate_left
                    · simp only [Act.put, List.setIfInBounds_toArray, List.set_cons_zero, List.set_cons_succ, i64_w, i32_w]
                      rfl
                    refine pure_ (i := 3) (N := some 255) (v := ?_) (a' := ?_) #[true, true, true, true, false, false, false, false, false, false, false, false, false] rfl rfl (by kernel_rfl) (fun _ _ _ h => h) (Or.inl ⟨by rfl, ?_⟩) ?_ ?_
                    rotate_left
                    · intro w'
                      go_simp
                      with_reducible rfl
                    rotate_left
                    · simp only [Act.put, List.setIfInBounds_toArray, List.set_cons_zero, List.set_cons_succ, i64_w, i32_w]
                      rfl
                    refine pure_ (i := 4) (N := some 256) (v := ?_) (a' := ?_) #[true, true, true, true, true, false, false, false, false, false, false, false, false] rfl rfl (by kernel_rfl) (fun _ _ _ h => h) (Or.inl ⟨by rfl, ?_⟩) ?_ ?_
                    rotate_left
                    · intro w'
                      go_simp
                      with_reducible rfl
                    rotate_left
                    · simp only [Act.put, List.setIfInBounds_toArray, List.set_cons_zero, List.set_cons_succ, i64_w, i32_w]
                      rfl
                    refine pure_ (i := 5) (N := some 257) (v := ?_) (a' := ?_) #[true, true, true, true, true, true, false, false, false, false, false, false, false] rfl rfl (by kernel_rfl) (fun _ _ _ h => h) (Or.inl ⟨by rfl, ?_⟩) ?_ ?_
                    rotate_left
                    · intro w'
                      go_simp
                      with_reducible rfl
                    rotate_left
                    · simp only [Act.put, List.setIfInBounds_toArray, List.set_cons_zero, List.set_cons_succ, i64_w, i32_w]
                      rfl
                    refine pure_ (i := 6) (N := some 258) (v := ?_) (a' := ?_) #[true, true, true, true, true, true, true, false, false, false, false, false, false] rfl rfl (by kernel_rfl) (fun _ _ _ h => h) (Or.inl ⟨by rfl, ?_⟩) ?_ ?_
                    rotate_left
                    · intro w'
                      go_simp
                      with_reducible rfl
                    rotate_left
                    · simp only [Act.put, List.setIfInBounds_toArray, List.set_cons_zero, List.set_cons_succ, i64_w, i32_w]
                      rfl
                    refine pure_ (i := 9) (N := some 261) (v := ?_) (a' := ?_) #[true, true, true, true, true, true, true, false, false, true, false, false, false] rfl rfl (by kernel_rfl) (fun _ _ _ h => h) (Or.inl ⟨by rfl, ?_⟩) ?_ ?_
                    rotate_left
                    · intro w'
                      go_simp
                      with_reducible rfl
                    rotate_left
                    · simp only [Act.put, List.setIfInBounds_toArray, List.set_cons_zero, List.set_cons_succ, i64_w, i32_w]
                      rfl
                    refine take_ (i := 7) (N := some 259) (v := ?_) (a' := ?_) #[true, true, true, true, true, true, true, true, false, true, false, false, false] rfl rfl (by kernel_rfl) (fun _ _ _ h => h) (Or.inl ⟨by rfl, ?_⟩) hHeld ?_ ?_
                    rotate_left
                    · rintro w' ⟨s0, s1, s2, s3⟩
                      go_simp
                      with_reducible rfl
                    rotate_left
                    · simp only [Act.put, List.setIfInBounds_toArray, List.set_cons_zero, List.set_cons_succ, i64_w, i32_w]
                      rfl
                    refine take_ (i := 8) (N := some 260) (v := ?_) (a' := ?_) #[true, true, true, true, true, true, true, true, true, true, false, false, false] rfl rfl (by kernel_rfl) (fun _ _ _ h => h) (Or.inl ⟨by rfl, ?_⟩) hHeld ?_ ?_
                    rotate_left
                    · rintro w' ⟨s0, s1, s2, s3⟩
                      go_simp
                      with_reducible rfl
                    rotate_left
                    · simp only [Act.put, List.setIfInBounds_toArray, List.set_cons_zero, List.set_cons_succ, i64_w, i32_w]
                      rfl
                    refine take_ (i := 10) (N := some 262) (v := ?_) (a' := ?_) #[true, true, true, true, true, true, true, true, true, true, true, false, false] rfl rfl (by kernel_rfl) (fun _ _ _ h => h) (Or.inl ⟨by rfl, ?_⟩) hHeld ?_ ?_
                    rotate_left
                    · rintro w' ⟨s0, s1, s2, s3⟩
                      go_simp
                      with_reducible rfl
                    rotate_left
                    · simp only [Act.put, List.setIfInBounds_toArray, List.set_cons_zero, List.set_cons_succ, i64_w, i32_w]
                      rfl
                    refine pure_ (i := 11) (N := some 263) (v := ?_) (a' := ?_) #[true, true, true, true, true, true, true, true, true, true, true, true, false] rfl rfl (by kernel_rfl) (fun _ _ _ h => h) (Or.inl ⟨by rfl, ?_⟩) ?_ ?_
                    rotate_left
                    · intro w'
                      go_simp
                      with_reducible rfl
                    rotate_left
                    · simp only [Act.put, List.setIfInBounds_toArray, List.set_cons_zero, List.set_cons_succ, i64_w, i32_w]
                      rfl
                    refine pure_ (i := 12) (N := some 264) (v := ?_) (a' := ?_) #[true, true, true, true, true, true, true, true, true, true, true, true, true] rfl rfl (by kernel_rfl) (fun _ _ _ h => h) (Or.inl ⟨by rfl, ?_⟩) ?_ ?_
                    rotate_left
                    · intro w'
                      go_simp
                      with_reducible rfl
                    rotate_left
                    · simp only [Act.put, List.setIfInBounds_toArray, List.set_cons_zero, List.set_cons_succ, i64_w, i32_w]
                      rfl
                    refine done_ (by kernel_rfl) ?_
                    have HE := Aside0.mk hHeld.2.2.2
                    clear hHeld
                    go_wp2_with (fail)
                    exact ⟨⟨i + 1, A9, c9, A7, c7, M, by go_num, by omega, rfl, HLM, HE⟩, by simp [intOf]; omega⟩
                · by_cases hk2 : x.f0.tmod 6 = 2
                  · as_aux_lemma =>
                      go_wp2_with (fail)
                      generalize hb13 : wr.heap.size = b13 at HAx ⊢
                      generalize wr.alloc _ = wx at HMx HAx ⊢
                      clear hb13
                      refine (mem_Copy.calls w.heap.size g m0 m1 m2 (.slice A7 L.length c7) L x.f1 x.f2 x.f3 w wx HX.out.k1.1 HX.out.k2.1 HX.out.k3.1 HMx.out.below HMx.out.mem).mono ?_
                      rintro e wa ⟨rfl, q1, q2, q3⟩
                      have HMS2 := Aside0.mk (HMx.out.grow q1 q2 q3 (fun k e => .inl e))
                      have HA2 := Aside0.mk (HMx.out.act HAx.out q3)
                      have hlq := (Kd.R_reads' q1.row).1
                      obtain ⟨M, hM⟩ : ∃ M, M = (mem_Init L x.f1 x.f2 x.f3 L).1 := ⟨_, rfl⟩
                      obtain ⟨E, hE⟩ : ∃ E, E = (mem_Init L x.f1 x.f2 x.f3 L).2 := ⟨_, rfl⟩
                      rw [← hM] at HMS2 hlq
                      have HLM := Aside0.mk (show M.length ≤ 327680 by rw [← hlq]; exact HLb.out)
                      have HI := Aside0.mk (show mem_Init L x.f1 x.f2 x.f3 L = (M, E) by rw [hM, hE])
                      rw [← hE]
                      have HLQ := Aside0.mk hlq
                      clear q1 q2 q3 hM hE hlq HMx HAx
                      have hy0 : wa.cell? ⟨b13, 0, none⟩ = some (.int .i64 x.f0) := (blk_cell HA2.out 0).trans rfl
                      have hy1 : wa.cell? ⟨b13, 1, none⟩ = some (.int .u64 x.f1) := (blk_cell HA2.out 1).trans rfl
                      have hy2 : wa.cell? ⟨b13, 2, none⟩ = some (.int .u64 x.f2) := (blk_cell HA2.out 2).trans rfl
                      have hy3 : wa.cell? ⟨b13, 3, none⟩ = some (.int .u64 x.f3) := (blk_cell HA2.out 3).trans rfl
                      have hy4 : wa.cell? ⟨b13, 4, none⟩ = some (.int .u8 x.f4) := (blk_cell HA2.out 4).trans rfl
                      have hy5 : wa.cell? ⟨b13, 5, none⟩ = some (.slice Al x.f5.length cl) := (blk_cell HA2.out 5).trans rfl
                      go_wp2_with (fail)
                      refine (refBytes.calls A6 c6 L x.f1 x.f2 x.f3 A6 c6 L wa HX.out.k1.1 HX.out.k2.1 HX.out.k3.1 (Kd.R_reads' HMS2.out.row).2.2 (Kd.R_reads' HMS2.out.row).2.1 (Kd.R_reads' HMS2.out.row).2.2 (Kd.R_reads' HMS2.out.row).2.1 (by have := HLb.out; omega) (by have := HLb.out; omega)).mono ?_
                      rintro e wb ⟨v9, rfl, q1, q2⟩
                      rw [HI.out] at q2 ⊢
                      have hms := HMS2.out.ref q1 q2
                      obtain ⟨A9, c9, rfl⟩ := Kd.R_slice hms.row
                      rw [HLQ.out] at hms
                      have HM3 := Aside0.mk hms
                      clear q1 q2 hms HMS2
                      go_wp2_with (fail)
                      refine start_ (n := 13) (S := fun w' => w'.cell? ⟨g, 3, none⟩ = some (.slice A7 M.length c7) ∧ (convert 29 9 (.slice A7 M.length c7)).run Try.prog w' = .ok (.string (strOfNums M)) w' ∧ (convert 29 9 (.slice A9 M.length c9)).run Try.prog w' = .ok (.string (strOfNums M)) w' ∧ MS w w.heap.size b5 g m0 m1 m2 (.slice A7 M.length c7) (.slice A9 M.length c9) M M w') (ds := []) #[false, false, false, false, false, false, false, false, false, false, false, false, false] (by kernel_rfl) rfl rfl ⟨((blk_cell HM3.out.mem.at_ 3).trans rfl), (own_string (P := Try.prog) (dst := 9) Try.underlying29 Try.underlying5 Try.underlying9 (Kd.own_of_R HM3.out.drew.mem.row)), (own_string (P := Try.prog) (dst := 9) Try.underlying29 Try.underlying5 Try.underlying9 (Kd.own_of_R HM3.out.drew.row)), HM3.out.drew⟩ (fun hHeld => ?_)
                      refine pure_ (i := 0) (N := some 252) (v := ?_) (a' := ?_) #[true, false, false, false, false, false, false, false, false, false, false, false, false] rfl rfl (by kernel_rfl) (fun _ _ _ h => h) (Or.inl ⟨by rfl, ?_⟩) ?_ ?_
                      rotate_left
                      · intro w'
                        go_simp
                        with_reducible rfl
                      rotate_left
                      · simp only [Act.put, List.setIfInBounds_toArray, List.set_cons_zero, List.set_cons_succ, i64_w, i32_w]
                        rfl
                      refine pure_ (i := 1) (N := some 253) (v := ?_) (a' := ?_) #[true, true, false, false, false, false, false, false, false, false, false, false, false] rfl rfl (by kernel_rfl) (fun _ _ _ h => h) (Or.inl ⟨by rfl, ?_⟩) ?_ ?_
                      rotate_left
                      · intro w'
                        go_simp
                        with_reducible rfl
                      rotate_left
                      · simp only [Act.put, List.setIfInBounds_toArray, List.set_cons_zero, List.set_cons_succ, i64_w, i32_w]
                        rfl
                      refine pure_ (i := 2) (N := some 254) (v := ?_) (a' := ?_) #[true, true, true, false, false, false, false, false, false, false, false, false, false] rfl rfl (by kernel_rfl) (fun _ _ _ h => h) (Or.inl ⟨by rfl, ?_⟩) ?_ ?_
                      rotate_left
                      · intro w'
                        go_simp
                        with_reducible rfl
                      rotate_left
                      · simp only [Act.put, List.setIfInBounds_toArray, List.set_cons_zero, List.set_cons_succ, i64_w, i32_w]
                        rfl
                      refine pure_ (i := 3) (N := some 255) (v := ?_) (a' := ?_) #[true, true, true, true, false, false, false, false, false, false, false, false, false] rfl rfl (by kernel_rfl) (fun _ _ _ h => h) (Or.inl ⟨by rfl, ?_⟩) ?_ ?_
                      rotate_left
                      · intro w'
                        go_simp
                        with_reducible rfl
                      rotate_left
                      · simp only [Act.put, List.setIfInBounds_toArray, List.set_cons_zero, List.set_cons_succ, i64_w, i32_w]
                        rfl
                      refine pure_ (i := 4) (N := some 256) (v := ?_) (a' := ?_) #[true, true, true, true, true, false, false, false, false, false, false, false, false] rfl rfl (by kernel_rfl) (fun _ _ _ h => h) (Or.inl ⟨by rfl, ?_⟩) ?_ ?_
                      rotate_left
                      · intro w'
                        go_simp
                        with_reducible rfl
                      rotate_left
                      · simp only [Act.put, List.setIfInBounds_toArray, List.set_cons_zero, List.set_cons_succ, i64_w, i32_w]
                        rfl
                      refine pure_ (i := 5) (N := some 257) (v := ?_) (a' := ?_) #[true, true, true, true, true, true, false, false, false, false, false, false, false] rfl rfl (by kernel_rfl) (fun _ _ _ h => h) (Or.inl ⟨by rfl, ?_⟩) ?_ ?_
                      rotate_left
                      · intro w'
                        go_simp
                        with_reducible rfl
                      rotate_left
                      · simp only [Act.put, List.setIfInBounds_toArray, List.set_cons_zero, List.set_cons_succ, i64_w, i32_w]
                        rfl
                      refine pure_ (i := 6) (N := some 258) (v := ?_) (a' := ?_) #[true, true, true, true, true, true, true, false, false, false, false, false, false] rfl rfl (by kernel_rfl) (fun _ _ _ h => h) (Or.inl ⟨by rfl, ?_⟩) ?_ ?_
                      rotate_left
                      · intro w'
                        go_simp
                        with_reducible rfl
                      rotate_left
                      · simp only [Act.put, List.setIfInBounds_toArray, List.set_cons_zero, List.set_cons_succ, i64_w, i32_w]
                        rfl
                      refine pure_ (i := 9) (N := some 261) (v := ?_) (a' := ?_) #[true, true, true, true, true, true, true, false, false, true, false, false, false] rfl rfl (by kernel_rfl) (fun _ _ _ h => h) (Or.inl ⟨by rfl, ?_⟩) ?_ ?_
                      rotate_left
                      · intro w'
                        go_simp
                        with_reducible rfl
                      rotate_left
                      · simp only [Act.put, List.setIfInBounds_toArray, List.set_cons_zero, List.set_cons_succ, i64_w, i32_w]
                        rfl
                      refine take_ (i := 7) (N := some 259) (v := ?_) (a' := ?_) #[true, true, true, true, true, true, true, true, false, true, false, false, false] rfl rfl (by kernel_rfl) (fun _ _ _ h => h) (Or.inl ⟨by rfl, ?_⟩) hHeld ?_ ?_
                      rotate_left
                      · rintro w' ⟨s0, s1, s2, s3⟩
                        go_simp
                        with_reducible rfl
                      rotate_left
                      · simp only [Act.put, List.setIfInBounds_toArray, List.set_cons_zero, List.set_cons_succ, i64_w, i32_w]
                        rfl
                      refine take_ (i := 8) (N := some 260) (v := ?_) (a' := ?_) #[true, true, true, true, true, true, true, true, true, true, false, false, false] rfl rfl (by kernel_rfl) (fun _ _ _ h => h) (Or.inl ⟨by rfl, ?_⟩) hHeld ?_ ?_
                      rotate_left
                      · rintro w' ⟨s0, s1, s2, s3⟩
                        go_simp
                        with_reducible rfl
                      rotate_left
                      · simp only [Act.put, List.setIfInBounds_toArray, List.set_cons_zero, List.set_cons_succ, i64_w, i32_w]
                        rfl
                      refine take_ (i := 10) (N := some 262) (v := ?_) (a' := ?_) #[true, true, true, true, true, true, true, true, true, true, true, false, false] rfl rfl (by kernel_rfl) (fun _ _ _ h => h) (Or.inl ⟨by rfl, ?_⟩) hHeld ?_ ?_
                      rotate_left
                      · rintro w' ⟨s0, s1, s2, s3⟩
                        go_simp
                        with_reducible rfl
                      rotate_left
                      · simp only [Act.put, List.setIfInBounds_toArray, List.set_cons_zero, List.set_cons_succ, i64_w, i32_w]
                        rfl
                      refine pure_ (i := 11) (N := some 263) (v := ?_) (a' := ?_) #[true, true, true, true, true, true, true, true, true, true, true, true, false] rfl rfl (by kernel_rfl) (fun _ _ _ h => h) (Or.inl ⟨by rfl, ?_⟩) ?_ ?_
                      rotate_left
                      · intro w'
                        go_simp
                        with_reducible rfl
                      rotate_left
                      · simp only [Act.put, List.setIfInBounds_toArray, List.set_cons_zero, List.set_cons_succ, i64_w, i32_w]
                        rfl
                      refine pure_ (i := 12) (N := some 264) (v := ?_) (a' := ?_) #[true, true, true, true, true, true, true, true, true, true, true, true, true] rfl rfl (by kernel_rfl) (fun _ _ _ h => h) (Or.inl ⟨by rfl, ?_⟩) ?_ ?_
                      rotate_left
                      · intro w'
                        go_simp
                        with_reducible rfl
                      rotate_left
                      · simp only [Act.put, List.setIfInBounds_toArray, List.set_cons_zero, List.set_cons_succ, i64_w, i32_w]
                        rfl
                      refine done_ (by kernel_rfl) ?_
                      have HE := Aside0.mk hHeld.2.2.2
                      clear hHeld
                      go_wp2_with (fail)
                      exact ⟨⟨i + 1, A9, c9, A7, c7, M, by go_num, by omega, rfl, HLM, HE⟩, by simp [intOf]; omega⟩
                  · by_cases hk3 : x.f0.tmod 6 = 3
                    · as_aux_lemma =>
                        go_wp2_with (fail)
                        generalize hb13 : wr.heap.size = b13 at HAx ⊢
                        generalize wr.alloc _ = wx at HMx HAx ⊢
                        clear hb13
                        refine (mem_Init.calls w.heap.size g m0 m1 m2 (.slice A7 L.length c7) L x.f1 x.f2 x.f3 Al cl x.f5 w wx HX.out.k1.1 HX.out.k2.1 HX.out.k3.1 HMx.out.below HMx.out.mem (Kd.C_below HCl.out HMx.out.below) hcl).mono ?_
                        rintro e wa ⟨rfl, q1, q2, q3⟩
                        have HMS2 := Aside0.mk (HMx.out.grow q1 q2 q3 (fun k e => .inl e))
                        have HA2 := Aside0.mk (HMx.out.act HAx.out q3)
                        have hlq := (Kd.R_reads' q1.row).1
                        obtain ⟨M, hM⟩ : ∃ M, M = (mem_Init L x.f1 x.f2 x.f3 x.f5).1 := ⟨_, rfl⟩
                        obtain ⟨E, hE⟩ : ∃ E, E = (mem_Init L x.f1 x.f2 x.f3 x.f5).2 := ⟨_, rfl⟩
                        rw [← hM] at HMS2 hlq
                        have HLM := Aside0.mk (show M.length ≤ 327680 by rw [← hlq]; exact HLb.out)
                        have HI := Aside0.mk (show mem_Init L x.f1 x.f2 x.f3 x.f5 = (M, E) by rw [hM, hE])
                        rw [← hE]
                        have HLQ := Aside0.mk hlq
                        clear q1 q2 q3 hM hE hlq HMx HAx
                        have hy0 : wa.cell? ⟨b13, 0, none⟩ = some (.int .i64 x.f0) := (blk_cell HA2.out 0).trans rfl
                        have hy1 : wa.cell? ⟨b13, 1, none⟩ = some (.int .u64 x.f1) := (blk_cell HA2.out 1).trans rfl
                        have hy2 : wa.cell? ⟨b13, 2, none⟩ = some (.int .u64 x.f2) := (blk_cell HA2.out 2).trans rfl
                        have hy3 : wa.cell? ⟨b13, 3, none⟩ = some (.int .u64 x.f3) := (blk_cell HA2.out 3).trans rfl
                        have hy4 : wa.cell? ⟨b13, 4, none⟩ = some (.int .u8 x.f4) := (blk_cell HA2.out 4).trans rfl
                        have hy5 : wa.cell? ⟨b13, 5, none⟩ = some (.slice Al x.f5.length cl) := (blk_cell HA2.out 5).trans rfl
                        go_wp2_with (fail)
                        refine (refBytes.calls A6 c6 L x.f1 x.f2 x.f3 Al cl x.f5 wa HX.out.k1.1 HX.out.k2.1 HX.out.k3.1 (Kd.R_reads' HMS2.out.row).2.2 (Kd.R_reads' HMS2.out.row).2.1 (Kd.C_below HCl.out HMS2.out.below) hcl (by have := HLb.out; omega) (by omega)).mono ?_
                        rintro e wb ⟨v9, rfl, q1, q2⟩
                        rw [HI.out] at q2 ⊢
                        have hms := HMS2.out.ref q1 q2
                        obtain ⟨A9, c9, rfl⟩ := Kd.R_slice hms.row
                        rw [HLQ.out] at hms
                        have HM3 := Aside0.mk hms
                        clear q1 q2 hms HMS2
                        go_wp2_with (fail)
                        refine start_ (n := 13) (S := fun w' => w'.cell? ⟨g, 3, none⟩ = some (.slice A7 M.length c7) ∧ (convert 29 9 (.slice A7 M.length c7)).run Try.prog w' = .ok (.string (strOfNums M)) w' ∧ (convert 29 9 (.slice A9 M.length c9)).run Try.prog w' = .ok (.string (strOfNums M)) w' ∧ MS w w.heap.size b5 g m0 m1 m2 (.slice A7 M.length c7) (.slice A9 M.length c9) M M w') (ds := []) #[false, false, false, false, false, false, false, false, false, false, false, false, false] (by kernel_rfl) rfl rfl ⟨((blk_cell HM3.out.mem.at_ 3).trans rfl), (own_string (P := Try.prog) (dst := 9) Try.underlying29 Try.underlying5 Try.underlying9 (Kd.own_of_R HM3.out.drew.mem.row)), (own_string (P := Try.prog) (dst := 9) Try.underlying29 Try.underlying5 Try.underlying9 (Kd.own_of_R HM3.out.drew.row)), HM3.out.drew⟩ (fun hHeld => ?_)
                        refine pure_ (i := 0) (N := some 252) (v := ?_) (a' := ?_) #[true, false, false, false, false, false, false, false, false, false, false, false, false] rfl rfl (by kernel_rfl) (fun _ _ _ h => h) (Or.inl ⟨by rfl, ?_⟩) ?_ ?_
                        rotate_left
                        · intro w'
                          go_simp
                          with_reducible rfl
                        rotate_left
                        · simp only [Act.put, List.setIfInBounds_toArray, List.set_cons_zero, List.set_cons_succ, i64_w, i32_w]
                          rfl
                        refine pure_ (i := 1) (N := some 253) (v := ?_) (a' := ?_) #[true, true, false, false, false, false, false, false, false, false, false, false, false] rfl rfl (by kernel_rfl) (fun _ _ _ h => h) (Or.inl ⟨by rfl, ?_⟩) ?_ ?_
                        rotate_left
                        · intro w'
                          go_simp
                          with_reducible rfl
                        rotate_left
                        · simp only [Act.put, List.setIfInBounds_toArray, List.set_cons_zero, List.set_cons_succ, i64_w, i32_w]
                          rfl
                        refine pure_ (i := 2) (N := some 254) (v := ?_) (a' := ?_) #[true, true, true, false, false, false, false, false, false, false, false, false, false] rfl rfl (by kernel_rfl) (fun _ _ _ h => h) (Or.inl ⟨by rfl, ?_⟩) ?_ ?_
                        rotate_left
                        · intro w'
                          go_simp
                          with_reducible rfl
                        rotate_left
                        · simp only [Act.put, List.setIfInBounds_toArray, List.set_cons_zero, List.set_cons_succ, i64_w, i32_w]
                          rfl
                        refine pure_ (i := 3) (N := some 255) (v := ?_) (a' := ?_) #[true, true, true, true, false, false, false, false, false, false, false, false, false] rfl rfl (by kernel_rfl) (fun _ _ _ h => h) (Or.inl ⟨by rfl, ?_⟩) ?_ ?_
                        rotate_left
                        · intro w'
                          go_simp
                          with_reducible rfl
                        rotate_left
                        · simp only [Act.put, List.setIfInBounds_toArray, List.set_cons_zero, List.set_cons_succ, i64_w, i32_w]
                          rfl
                        refine pure_ (i := 4) (N := some 256) (v := ?_) (a' := ?_) #[true, true, true, true, true, false, false, false, false, false, false, false, false] rfl rfl (by kernel_rfl) (fun _ _ _ h => h) (Or.inl ⟨by rfl, ?_⟩) ?_ ?_
                        rotate_left
                        · intro w'
                          go_simp
                          with_reducible rfl
                        rotate_left
                        · simp only [Act.put, List.setIfInBounds_toArray, List.set_cons_zero, List.set_cons_succ, i64_w, i32_w]
                          rfl
                        refine pure_ (i := 5) (N := some 257) (v := ?_) (a' := ?_) #[true, true, true, true, true, true, false, false, false, false, false, false, false] rfl rfl (by kernel_rfl) (fun _ _ _ h => h) (Or.inl ⟨by rfl, ?_⟩) ?_ ?_
                        rotate_left
                        · intro w'
                          go_simp
                          with_reducible rfl
                        rotate_left
                        · simp only [Act.put, List.setIfInBounds_toArray, List.set_cons_zero, List.set_cons_succ, i64_w, i32_w]
                          rfl
                        refine pure_ (i := 6) (N := some 258) (v := ?_) (a' := ?_) #[true, true, true, true, true, true, true, false, false, false, false, false, false] rfl rfl (by kernel_rfl) (fun _ _ _ h => h) (Or.inl ⟨by rfl, ?_⟩) ?_ ?_
                        rotate_left
                        · intro w'
                          go_simp
                          with_reducible rfl
                        rotate_left
                        · simp only [Act.put, List.setIfInBounds_toArray, List.set_cons_zero, List.set_cons_succ, i64_w, i32_w]
                          rfl
                        refine pure_ (i := 9) (N := some 261) (v := ?_) (a' := ?_) #[true, true, true, true, true, true, true, false, false, true, false, false, false] rfl rfl (by kernel_rfl) (fun _ _ _ h => h) (Or.inl ⟨by rfl, ?_⟩) ?_ ?_
                        rotate_left
                        · intro w'
                          go_simp
                          with_reducible rfl
                        rotate_left
                        · simp only [Act.put, List.setIfInBounds_toArray, List.set_cons_zero, List.set_cons_succ, i64_w, i32_w]
                          rfl
                        refine take_ (i := 7) (N := some 259) (v := ?_) (a' := ?_) #[true, true, true, true, true, true, true, true, false, true, false, false, false] rfl rfl (by kernel_rfl) (fun _ _ _ h => h) (Or.inl ⟨by rfl, ?_⟩) hHeld ?_ ?_
                        rotate_left
                        · rintro w' ⟨s0, s1, s2, s3⟩
                          go_simp
                          with_reducible rfl
                        rotate_left
                        · simp only [Act.put, List.setIfInBounds_toArray, List.set_cons_zero, List.set_cons_succ, i64_w, i32_w]
                          rfl
                        refine take_ (i := 8) (N := some 260) (v := ?_) (a' := ?_) #[true, true, true, true, true, true, true, true, true, true, false, false, false] rfl rfl (by kernel_rfl) (fun _ _ _ h => h) (Or.inl ⟨by rfl, ?_⟩) hHeld ?_ ?_
                        rotate_left
                        · rintro w' ⟨s0, s1, s2, s3⟩
                          go_simp
                          with_reducible rfl
                        rotate_left
                        · simp only [Act.put, List.setIfInBounds_toArray, List.set_cons_zero, List.set_cons_succ, i64_w, i32_w]
                          rfl
                        refine take_ (i := 10) (N := some 262) (v := ?_) (a' := ?_) #[true, true, true, true, true, true, true, true, true, true, true, false, false] rfl rfl (by kernel_rfl) (fun _ _ _ h => h) (Or.inl ⟨by rfl, ?_⟩) hHeld ?_ ?_
                        rotate_left
                        · rintro w' ⟨s0, s1, s2, s3⟩
                          go_simp
                          with_reducible rfl
                        rotate_left
                        · simp only [Act.put, List.setIfInBounds_toArray, List.set_cons_zero, List.set_cons_succ, i64_w, i32_w]
                          rfl
                        refine pure_ (i := 11) (N := some 263) (v := ?_) (a' := ?_) #[true, true, true, true, true, true, true, true, true, true, true, true, false] rfl rfl (by kernel_rfl) (fun _ _ _ h => h) (Or.inl ⟨by rfl, ?_⟩) ?_ ?_
                        rotate_left
                        · intro w'
                          go_simp
                          with_reducible rfl
                        rotate_left
                        · simp only [Act.put, List.setIfInBounds_toArray, List.set_cons_zero, List.set_cons_succ, i64_w, i32_w]
                          rfl
                        refine pure_ (i := 12) (N := some 264) (v := ?_) (a' := ?_) #[true, true, true, true, true, true, true, true, true, true, true, true, true] rfl rfl (by kernel_rfl) (fun _ _ _ h => h) (Or.inl ⟨by rfl, ?_⟩) ?_ ?_
                        rotate_left
                        · intro w'
                          go_simp
                          with_reducible rfl
                        rotate_left
                        · simp only [Act.put, List.setIfInBounds_toArray, List.set_cons_zero, List.set_cons_succ, i64_w, i32_w]
                          rfl
                        refine done_ (by kernel_rfl) ?_
                        have HE := Aside0.mk hHeld.2.2.2
                        clear hHeld
                        go_wp2_with (fail)
                        exact ⟨⟨i + 1, A9, c9, A7, c7, M, by go_num, by omega, rfl, HLM, HE⟩, by simp [intOf]; omega⟩
                    · by_cases hk4 : x.f0.tmod 6 = 4
                      · as_aux_lemma =>
                          have hqb := and_255 x.f3 HX.out.k3.1 HX.out.k3.2
                          generalize hq : Go.bits .and .u64 x.f3 255 = q at hqb
                          obtain ⟨hq0, hq1⟩ := hqb
                          have hqu : IntKind.u64.wrap q = q := u64w (by omega) (by omega)
                          go_wp2_with (fail)
                          generalize hb13 : wr.heap.size = b13 at HAx ⊢
                          generalize wr.alloc _ = wx at HMx HAx ⊢
                          clear hb13
                          have hy0s : wx.cell? ⟨b13, 0, none⟩ = some (.int .i64 x.f0) := (blk_cell HAx.out 0).trans rfl
                          have hy1s : wx.cell? ⟨b13, 1, none⟩ = some (.int .u64 x.f1) := (blk_cell HAx.out 1).trans rfl
                          have hy2s : wx.cell? ⟨b13, 2, none⟩ = some (.int .u64 x.f2) := (blk_cell HAx.out 2).trans rfl
                          have hy3s : wx.cell? ⟨b13, 3, none⟩ = some (.int .u64 x.f3) := (blk_cell HAx.out 3).trans rfl
                          have hy4s : wx.cell? ⟨b13, 4, none⟩ = some (.int .u8 x.f4) := (blk_cell HAx.out 4).trans rfl
                          have hy5s : wx.cell? ⟨b13, 5, none⟩ = some (.slice Al x.f5.length cl) := (blk_cell HAx.out 5).trans rfl
                          have HZx := Aside0.mk (show MS w w.heap.size b5 g m0 m1 m2 (.slice A7 L.length c7) (.slice A6 L.length c6) L L wx from HMx.out)
                          generalize hwz : wx.heap.size = wz
                          have HWZ := Aside0.mk hwz
                          clear hwz
                          have hLb := HLb.out
                          go_wp2_with (fail)
                          refine (mem_Read.calls w.heap.size g m0 m1 m2 (.slice A7 L.length c7) L x.f1 q w wx HX.out.k1.1 hq0 (by omega) HMx.out.below HMx.out.mem (by omega)).mono ?_
                          rintro e wa ⟨vv, rfl, q1, q2, q3⟩
                          rw [HWZ.out] at q1
                          have HMS2 := Aside0.mk (HMx.out.step q3 (fun _ e => e.elim) q2)
                          have HA2 := Aside0.mk (blk_kept HAx.out q3 (fun e => e))
                          have HRv := Aside0.mk q1
                          have HSv := Aside0.mk (show ∀ k, wz ≤ k → k ≠ b5 ∧ k ≠ g ∧ (Value.slice A7 L.length c7).ownBlock ≠ some k ∧ (Value.slice A6 L.length c6).ownBlock ≠ some k from by
                            intro k hk
                            have e0 := HWZ.out
                            have e1 := blk_lt HZx.out.h5
                            have e2 := blk_lt HZx.out.mem.at_
                            exact ⟨by omega, by omega, fun e => by have := Kd.R_lt HZx.out.mem.row k e; omega, fun e => by have := Kd.R_lt HZx.out.row k e; omega⟩)
                          clear q1 q2 q3 HMx HAx HZx hy0s hy1s hy2s hy3s hy4s hy5s
                          have hLc : L.length ≤ c6 := (Kd.R_reads' HMS2.out.row).2.1
                          have HIN := Aside0.mk (refIn_is x.f1 q L.length HX.out.k1.1 hq0 (by omega))
                          have HF := Aside0.mk HX.out.k1
                          have hy0 : wa.cell? ⟨b13, 0, none⟩ = some (.int .i64 x.f0) := (blk_cell HA2.out 0).trans rfl
                          have hy1 : wa.cell? ⟨b13, 1, none⟩ = some (.int .u64 x.f1) := (blk_cell HA2.out 1).trans rfl
                          have hy2 : wa.cell? ⟨b13, 2, none⟩ = some (.int .u64 x.f2) := (blk_cell HA2.out 2).trans rfl
                          have hy3 : wa.cell? ⟨b13, 3, none⟩ = some (.int .u64 x.f3) := (blk_cell HA2.out 3).trans rfl
                          have hy4 : wa.cell? ⟨b13, 4, none⟩ = some (.int .u8 x.f4) := (blk_cell HA2.out 4).trans rfl
                          have hy5 : wa.cell? ⟨b13, 5, none⟩ = some (.slice Al x.f5.length cl) := (blk_cell HA2.out 5).trans rfl
                          by_cases hin : x.f1 + q ≤ L.length
                          · have hRd : mem_Read L x.f1 q = ((L.take (x.f1 + q).toNat).drop x.f1.toNat, 0) := by unfold mem_Read; rw [if_pos hin]
                            rw [hRd] at HRv ⊢
                            rw [decide_eq_true hin] at HIN
                            obtain ⟨hf0, hf1⟩ := HF.out
                            obtain ⟨i0, hi', _, hsz, _⟩ := info_parts info5
                            have hcB := cut_mid (P := Try.prog) 29 5 .u64 .u64 Try.underlying29 hi' 1 hsz A6 L.length c6 x.f1 (x.f1 + q) hf0 (by omega) (by omega) hLc
                            generalize hA8 : (if c6 = x.f1.toNat then A6 else Option.map (fun z => z.add (x.f1.toNat * 1)) A6) = A8 at hcB
                            obtain ⟨X, hX⟩ : ∃ X, X = (L.take (x.f1 + q).toNat).drop x.f1.toNat := ⟨_, rfl⟩
                            have hXl : X.length = (x.f1 + q).toNat - x.f1.toNat := by rw [hX, List.length_drop, List.length_take]; omega
                            have hC6 : Kd.C (Kd.int .u8) wa A6 L.length L := (Kd.R_reads' HMS2.out.row).2.2
                            have hCm := Kd.C_mid (lo := x.f1.toNat) (hi := (x.f1 + q).toNat) (c := c6) hC6 (by omega) (by omega) hLc
                            rw [← hX] at hCm HRv ⊢
                            replace hCm : Kd.C (Kd.int .u8) wa A8 X.length X := hA8 ▸ hCm
                            rw [hXl] at hCm
                            have HCm := Aside0.mk hCm
                            obtain ⟨sX, hsX⟩ : ∃ sX, sX = strOfNums X := ⟨_, rfl⟩
                            have HsX := Aside0.mk hsX.symm
                            have HXl := Aside0.mk (show X.length ≤ 256 by omega)
                            have hwr : IntKind.u64.wrap (x.f1 + q) = x.f1 + q := u64w (by omega) (by omega)
                            obtain ⟨Av, cv, rfl⟩ := Kd.R_slice HRv.out
                            clear hRd hX hXl hC6 hCm hi' hsz hA8 hsX
                            go_wp2_with (fail)
                            refine (bodkinref13_In.calls x.f1 q L.length true _ HIN.out).mono ?_
                            rintro e wb ⟨rfl, ⟨nd, rfl⟩⟩
                            go_wp2_with (fail)
                            refine start_ (n := 35) (S := fun w' => w'.cell? ⟨b13, 1, none⟩ = some (.int .u64 x.f1) ∧ (convert 29 9 (.slice Av X.length cv)).run Try.prog w' = .ok (.string sX) w' ∧ (convert 29 9 (.slice A8 ((x.f1 + q).toNat - x.f1.toNat) (c6 - x.f1.toNat))).run Try.prog w' = .ok (.string sX) w' ∧ MS w w.heap.size b5 g m0 m1 m2 (.slice A7 L.length c7) (.slice A6 L.length c6) L L w' ∧ Kd.R (Kd.int .u8) 5 w' w.heap.size (fun k => wz ≤ k) (.slice Av X.length cv) X) (ds := []) #[false, false, false, false, false, false, false, false, false, false, false, false, false, false, false, false, false, false, false, false, false, false, false, false, false, false, false, false, false, false, false, false, false, false, false] (by kernel_rfl) rfl rfl ⟨((blk_cell HA2.out 1).trans rfl), (HsX.out ▸ own_string (P := Try.prog) (dst := 9) Try.underlying29 Try.underlying5 Try.underlying9 (Kd.own_of_R (Kd.R_drew (Kd.R_drewN HRv.out nd)))), (HsX.out ▸ Kd.C_string (P := Try.prog) (dst := 9) Try.underlying29 Try.underlying5 Try.underlying9 (Kd.C_drew (Kd.C_drewN HCm.out nd))), ((HMS2.out.new (pw_below_drewN (Below.refl _ _) nd)).drew), (Kd.R_drew (Kd.R_drewN HRv.out nd))⟩ (fun hHeld => ?_)
                            refine pure_ (i := 0) (N := some 203) (v := ?_) (a' := ?_) #[true, false, false, false, false, false, false, false, false, false, false, false, false, false, false, false, false, false, false, false, false, false, false, false, false, false, false, false, false, false, false, false, false, false, false] rfl rfl (by kernel_rfl) (fun _ _ _ h => h) (Or.inl ⟨by rfl, ?_⟩) ?_ ?_
                            rotate_left
                            · intro w'
                              go_simp
                              with_reducible rfl
                            rotate_left
                            · simp only [Act.put, List.setIfInBounds_toArray, List.set_cons_zero, List.set_cons_succ, i64_w, i32_w]
                              rfl
                            refine pure_ (i := 1) (N := some 204) (v := ?_) (a' := ?_) #[true, true, false, false, false, false, false, false, false, false, false, false, false, false, false, false, false, false, false, false, false, false, false, false, false, false, false, false, false, false, false, false, false, false, false] rfl rfl (by kernel_rfl) (fun _ _ _ h => h) (Or.inl ⟨by rfl, ?_⟩) ?_ ?_
                            rotate_left
                            · intro w'
                              go_simp
                              with_reducible rfl
                            rotate_left
                            · simp only [Act.put, List.setIfInBounds_toArray, List.set_cons_zero, List.set_cons_succ, i64_w, i32_w]
                              rfl
                            refine pure_ (i := 2) (N := some 205) (v := ?_) (a' := ?_) #[true, true, true, false, false, false, false, false, false, false, false, false, false, false, false, false, false, false, false, false, false, false, false, false, false, false, false, false, false, false, false, false, false, false, false] rfl rfl (by kernel_rfl) (fun _ _ _ h => h) (Or.inl ⟨by rfl, ?_⟩) ?_ ?_
                            rotate_left
                            · intro w'
                              go_simp
                              with_reducible rfl
                            rotate_left
                            · simp only [Act.put, List.setIfInBounds_toArray, List.set_cons_zero, List.set_cons_succ, i64_w, i32_w]
                              rfl
                            refine pure_ (i := 3) (N := some 206) (v := ?_) (a' := ?_) #[true, true, true, true, false, false, false, false, false, false, false, false, false, false, false, false, false, false, false, false, false, false, false, false, false, false, false, false, false, false, false, false, false, false, false] rfl rfl (by kernel_rfl) (fun _ _ _ h => h) (Or.inl ⟨by rfl, ?_⟩) ?_ ?_
                            rotate_left
                            · intro w'
                              go_simp
                              with_reducible rfl
                            rotate_left
                            · simp only [Act.put, List.setIfInBounds_toArray, List.set_cons_zero, List.set_cons_succ, i64_w, i32_w]
                              rfl
                            refine pure_ (i := 4) (N := some 207) (v := ?_) (a' := ?_) #[true, true, true, true, true, false, false, false, false, false, false, false, false, false, false, false, false, false, false, false, false, false, false, false, false, false, false, false, false, false, false, false, false, false, false] rfl rfl (by kernel_rfl) (fun _ _ _ h => h) (Or.inl ⟨by rfl, ?_⟩) ?_ ?_
                            rotate_left
                            · intro w'
                              go_simp
                              with_reducible rfl
                            rotate_left
                            · simp only [Act.put, List.setIfInBounds_toArray, List.set_cons_zero, List.set_cons_succ, i64_w, i32_w]
                              rfl
                            refine pure_ (i := 5) (N := some 208) (v := ?_) (a' := ?_) #[true, true, true, true, true, true, false, false, false, false, false, false, false, false, false, false, false, false, false, false, false, false, false, false, false, false, false, false, false, false, false, false, false, false, false] rfl rfl (by kernel_rfl) (fun _ _ _ h => h) (Or.inl ⟨by rfl, ?_⟩) ?_ ?_
                            rotate_left
                            · intro w'
                              go_simp
                              with_reducible rfl
                            rotate_left
                            · simp only [Act.put, List.setIfInBounds_toArray, List.set_cons_zero, List.set_cons_succ, i64_w, i32_w]
                              rfl
                            refine pure_ (i := 6) (N := some 209) (v := ?_) (a' := ?_) #[true, true, true, true, true, true, true, false, false, false, false, false, false, false, false, false, false, false, false, false, false, false, false, false, false, false, false, false, false, false, false, false, false, false, false] rfl rfl (by kernel_rfl) (fun _ _ _ h => h) (Or.inl ⟨by rfl, ?_⟩) ?_ ?_
                            rotate_left
                            · intro w'
                              go_simp
                              with_reducible rfl
                            rotate_left
                            · simp only [Act.put, List.setIfInBounds_toArray, List.set_cons_zero, List.set_cons_succ, i64_w, i32_w]
                              rfl
                            refine pure_ (i := 7) (N := some 210) (v := ?_) (a' := ?_) #[true, true, true, true, true, true, true, true, false, false, false, false, false, false, false, false, false, false, false, false, false, false, false, false, false, false, false, false, false, false, false, false, false, false, false] rfl rfl (by kernel_rfl) (fun _ _ _ h => h) (Or.inl ⟨by rfl, ?_⟩) ?_ ?_
                            rotate_left
                            · intro w'
                              go_simp
                              with_reducible rfl
                            rotate_left
                            · simp only [Act.put, List.setIfInBounds_toArray, List.set_cons_zero, List.set_cons_succ, i64_w, i32_w]
                              rfl
                            refine pure_ (i := 9) (N := some 212) (v := ?_) (a' := ?_) #[true, true, true, true, true, true, true, true, false, true, false, false, false, false, false, false, false, false, false, false, false, false, false, false, false, false, false, false, false, false, false, false, false, false, false] rfl rfl (by kernel_rfl) (fun _ _ _ h => h) (Or.inl ⟨by rfl, ?_⟩) ?_ ?_
                            rotate_left
                            · intro w'
                              go_simp
                              with_reducible rfl
                            rotate_left
                            · simp only [Act.put, List.setIfInBounds_toArray, List.set_cons_zero, List.set_cons_succ, i64_w, i32_w]
                              rfl
                            refine pure_ (i := 10) (N := some 213) (v := ?_) (a' := ?_) #[true, true, true, true, true, true, true, true, false, true, true, false, false, false, false, false, false, false, false, false, false, false, false, false, false, false, false, false, false, false, false, false, false, false, false] rfl rfl (by kernel_rfl) (fun _ _ _ h => h) (Or.inl ⟨by rfl, ?_⟩) ?_ ?_
                            rotate_left
                            · intro w'
                              go_simp
                              with_reducible rfl
                            rotate_left
                            · simp only [Act.put, List.setIfInBounds_toArray, List.set_cons_zero, List.set_cons_succ, i64_w, i32_w]
                              rfl
                            refine pure_ (i := 12) (N := some 215) (v := ?_) (a' := ?_) #[true, true, true, true, true, true, true, true, false, true, true, false, true, false, false, false, false, false, false, false, false, false, false, false, false, false, false, false, false, false, false, false, false, false, false] rfl rfl (by kernel_rfl) (fun _ _ _ h => h) (Or.inl ⟨by rfl, ?_⟩) ?_ ?_
                            rotate_left
                            · intro w'
                              go_simp
                              with_reducible rfl
                            rotate_left
                            · simp only [Act.put, List.setIfInBounds_toArray, List.set_cons_zero, List.set_cons_succ, i64_w, i32_w]
                              rfl
                            refine pure_ (i := 14) (N := some 217) (v := ?_) (a' := ?_) #[true, true, true, true, true, true, true, true, false, true, true, false, true, false, true, false, false, false, false, false, false, false, false, false, false, false, false, false, false, false, false, false, false, false, false] rfl rfl (by kernel_rfl) (fun _ _ _ h => h) (Or.inl ⟨by rfl, ?_⟩) ?_ ?_
                            rotate_left
                            · intro w'
                              go_simp
                              with_reducible rfl
                            rotate_left
                            · simp only [Act.put, List.setIfInBounds_toArray, List.set_cons_zero, List.set_cons_succ, i64_w, i32_w]
                              rfl
                            refine pure_ (i := 15) (N := some 218) (v := ?_) (a' := ?_) #[true, true, true, true, true, true, true, true, false, true, true, false, true, false, true, true, false, false, false, false, false, false, false, false, false, false, false, false, false, false, false, false, false, false, false] rfl rfl (by kernel_rfl) (fun _ _ _ h => h) (Or.inl ⟨by rfl, ?_⟩) ?_ ?_
                            rotate_left
                            · intro w'
                              go_simp
                              with_reducible rfl
                            rotate_left
                            · simp only [Act.put, List.setIfInBounds_toArray, List.set_cons_zero, List.set_cons_succ, i64_w, i32_w]
                              rfl
                            refine take_ (i := 8) (N := some 211) (v := ?_) (a' := ?_) #[true, true, true, true, true, true, true, true, true, true, true, false, true, false, true, true, false, false, false, false, false, false, false, false, false, false, false, false, false, false, false, false, false, false, false] rfl rfl (by kernel_rfl) (fun _ _ _ h => h) (Or.inl ⟨by rfl, ?_⟩) hHeld ?_ ?_
                            rotate_left
                            · rintro w' ⟨s0, s1, s2, s3, s4⟩
                              go_simp
                              with_reducible rfl
                            rotate_left
                            · simp only [Act.put, List.setIfInBounds_toArray, List.set_cons_zero, List.set_cons_succ, i64_w, i32_w]
                              rfl
                            refine take_ (i := 11) (N := some 214) (v := ?_) (a' := ?_) #[true, true, true, true, true, true, true, true, true, true, true, true, true, false, true, true, false, false, false, false, false, false, false, false, false, false, false, false, false, false, false, false, false, false, false] rfl rfl (by kernel_rfl) (fun _ _ _ h => h) (Or.inl ⟨by rfl, ?_⟩) hHeld ?_ ?_
                            rotate_left
                            · rintro w' ⟨s0, s1, s2, s3, s4⟩
                              go_simp
                              with_reducible rfl
                            rotate_left
                            · simp only [Act.put, List.setIfInBounds_toArray, List.set_cons_zero, List.set_cons_succ, i64_w, i32_w]
                              rfl
                            refine take_ (i := 13) (N := some 216) (v := ?_) (a' := ?_) #[true, true, true, true, true, true, true, true, true, true, true, true, true, true, true, true, false, false, false, false, false, false, false, false, false, false, false, false, false, false, false, false, false, false, false] rfl rfl (by kernel_rfl) (fun _ _ _ h => h) (Or.inl ⟨by rfl, ?_⟩) hHeld ?_ ?_
                            rotate_left
                            · rintro w' ⟨s0, s1, s2, s3, s4⟩
                              go_simp
                              with_reducible rfl
                            rotate_left
                            · simp only [Act.put, List.setIfInBounds_toArray, List.set_cons_zero, List.set_cons_succ, i64_w, i32_w]
                              rfl
                            refine pure_ (i := 16) (N := some 219) (v := ?_) (a' := ?_) #[true, true, true, true, true, true, true, true, true, true, true, true, true, true, true, true, true, false, false, false, false, false, false, false, false, false, false, false, false, false, false, false, false, false, false] rfl rfl (by kernel_rfl) (fun _ _ _ h => h) (Or.inl ⟨by rfl, ?_⟩) ?_ ?_
                            rotate_left
                            · intro w'
                              go_simp
                              with_reducible rfl
                            rotate_left
                            · simp only [Act.put, List.setIfInBounds_toArray, List.set_cons_zero, List.set_cons_succ, i64_w, i32_w]
                              rfl
                            refine pure_ (i := 17) (N := some 220) (v := ?_) (a' := ?_) #[true, true, true, true, true, true, true, true, true, true, true, true, true, true, true, true, true, true, false, false, false, false, false, false, false, false, false, false, false, false, false, false, false, false, false] rfl rfl (by kernel_rfl) (fun _ _ _ h => h) (Or.inl ⟨by rfl, ?_⟩) ?_ ?_
                            rotate_left
                            · intro w'
                              go_simp
                              with_reducible rfl
                            rotate_left
                            · simp only [Act.put, List.setIfInBounds_toArray, List.set_cons_zero, List.set_cons_succ, i64_w, i32_w]
                              rfl
                            refine take_ (i := 18) (N := some 221) (v := ?_) (a' := ?_) #[true, true, true, true, true, true, true, true, true, true, true, true, true, true, true, true, true, true, true, false, false, false, false, false, false, false, false, false, false, false, false, false, false, false, false] rfl rfl (by kernel_rfl) (fun _ _ _ h => h) (Or.inl ⟨by rfl, ?_⟩) hHeld ?_ ?_
                            rotate_left
                            · rintro w' ⟨s0, s1, s2, s3, s4⟩
                              go_simp
                              with_reducible rfl
                            rotate_left
                            · simp only [Act.put, List.setIfInBounds_toArray, List.set_cons_zero, List.set_cons_succ, i64_w, i32_w]
                              rfl
                            refine pure_ (i := 19) (N := some 222) (v := ?_) (a' := ?_) #[true, true, true, true, true, true, true, true, true, true, true, true, true, true, true, true, true, true, true, true, false, false, false, false, false, false, false, false, false, false, false, false, false, false, false] rfl rfl (by kernel_rfl) (fun _ _ _ h => h) (Or.inl ⟨by rfl, ?_⟩) ?_ ?_
                            rotate_left
                            · intro w'
                              go_simp
                              with_reducible rfl
                            rotate_left
                            · simp only [Act.put, List.setIfInBounds_toArray, List.set_cons_zero, List.set_cons_succ, i64_w, i32_w]
                              rfl
                            refine pure_ (i := 20) (N := some 223) (v := ?_) (a' := ?_) #[true, true, true, true, true, true, true, true, true, true, true, true, true, true, true, true, true, true, true, true, true, false, false, false, false, false, false, false, false, false, false, false, false, false, false] rfl rfl (by kernel_rfl) (fun _ _ _ h => h) (Or.inl ⟨by rfl, ?_⟩) ?_ ?_
                            rotate_left
                            · intro w'
                              go_simp
                              with_reducible rfl
                            rotate_left
                            · simp only [Act.put, List.setIfInBounds_toArray, List.set_cons_zero, List.set_cons_succ, i64_w, i32_w]
                              rfl
                            refine pure_ (i := 21) (N := some 224) (v := ?_) (a' := ?_) #[true, true, true, true, true, true, true, true, true, true, true, true, true, true, true, true, true, true, true, true, true, true, false, false, false, false, false, false, false, false, false, false, false, false, false] rfl rfl (by kernel_rfl) (fun _ _ _ h => h) (Or.inl ⟨by rfl, ?_⟩) ?_ ?_
                            rotate_left
                            · intro w'
                              go_simp
                              with_reducible rfl
                            rotate_left
                            · simp only [Act.put, List.setIfInBounds_toArray, List.set_cons_zero, List.set_cons_succ, i64_w, i32_w]
                              rfl
                            refine pure_ (i := 22) (N := some 225) (v := ?_) (a' := ?_) #[true, true, true, true, true, true, true, true, true, true, true, true, true, true, true, true, true, true, true, true, true, true, true, false, false, false, false, false, false, false, false, false, false, false, false] rfl rfl (by kernel_rfl) (fun _ _ _ h => h) (Or.inl ⟨by rfl, ?_⟩) ?_ ?_
                            rotate_left
                            · intro w'
                              go_simp
                              with_reducible rfl
                            rotate_left
                            · simp only [Act.put, List.setIfInBounds_toArray, List.set_cons_zero, List.set_cons_succ, i64_w, i32_w]
                              rfl
                            refine pure_ (i := 23) (N := some 226) (v := ?_) (a' := ?_) #[true, true, true, true, true, true, true, true, true, true, true, true, true, true, true, true, true, true, true, true, true, true, true, true, false, false, false, false, false, false, false, false, false, false, false] rfl rfl (by kernel_rfl) (fun _ _ _ h => h) (Or.inl ⟨by rfl, ?_⟩) ?_ ?_
                            rotate_left
                            · intro w'
                              go_simp
                              with_reducible rfl
                            rotate_left
                            · simp only [Act.put, List.setIfInBounds_toArray, List.set_cons_zero, List.set_cons_succ, i64_w, i32_w]
                              rfl
                            refine pure_ (i := 24) (N := some 227) (v := ?_) (a' := ?_) #[true, true, true, true, true, true, true, true, true, true, true, true, true, true, true, true, true, true, true, true, true, true, true, true, true, false, false, false, false, false, false, false, false, false, false] rfl rfl (by kernel_rfl) (fun _ _ _ h => h) (Or.inl ⟨by rfl, ?_⟩) ?_ ?_
                            rotate_left
                            · intro w'
                              go_simp
                              with_reducible rfl
                            rotate_left
                            · simp only [Act.put, List.setIfInBounds_toArray, List.set_cons_zero, List.set_cons_succ, i64_w, i32_w]
                              rfl
                            refine pure_ (i := 25) (N := some 228) (v := ?_) (a' := ?_) #[true, true, true, true, true, true, true, true, true, true, true, true, true, true, true, true, true, true, true, true, true, true, true, true, true, true, false, false, false, false, false, false, false, false, false] rfl rfl (by kernel_rfl) (fun _ _ _ h => h) (Or.inl ⟨by rfl, ?_⟩) ?_ ?_
                            rotate_left
                            · intro w'
                              go_simp
                              with_reducible rfl
                            rotate_left
                            · simp only [Act.put, List.setIfInBounds_toArray, List.set_cons_zero, List.set_cons_succ, i64_w, i32_w]
                              rfl
                            refine pure_ (i := 26) (N := some 229) (v := undef) (a' := ?_) #[true, true, true, true, true, true, true, true, true, true, true, true, true, true, true, true, true, true, true, true, true, true, true, true, true, true, true, false, false, false, false, false, false, false, false] rfl rfl (by kernel_rfl) (fun _ _ _ h => h) (Or.inr ⟨by rfl, rfl⟩) ?_ ?_
                            rotate_left
                            · simp only [Act.put, List.setIfInBounds_toArray, List.set_cons_zero, List.set_cons_succ, i64_w, i32_w]
                              rfl
                            refine pure_ (i := 27) (N := some 230) (v := undef) (a' := ?_) #[true, true, true, true, true, true, true, true, true, true, true, true, true, true, true, true, true, true, true, true, true, true, true, true, true, true, true, true, false, false, false, false, false, false, false] rfl rfl (by kernel_rfl) (fun _ _ _ h => h) (Or.inr ⟨by rfl, rfl⟩) ?_ ?_
                            rotate_left
                            · simp only [Act.put, List.setIfInBounds_toArray, List.set_cons_zero, List.set_cons_succ, i64_w, i32_w]
                              rfl
                            refine pure_ (i := 28) (N := some 231) (v := undef) (a' := ?_) #[true, true, true, true, true, true, true, true, true, true, true, true, true, true, true, true, true, true, true, true, true, true, true, true, true, true, true, true, true, false, false, false, false, false, false] rfl rfl (by kernel_rfl) (fun _ _ _ h => h) (Or.inr ⟨by rfl, rfl⟩) ?_ ?_
                            rotate_left
                            · simp only [Act.put, List.setIfInBounds_toArray, List.set_cons_zero, List.set_cons_succ, i64_w, i32_w]
                              rfl
                            refine pure_ (i := 29) (N := some 232) (v := undef) (a' := ?_) #[true, true, true, true, true, true, true, true, true, true, true, true, true, true, true, true, true, true, true, true, true, true, true, true, true, true, true, true, true, true, false, false, false, false, false] rfl rfl (by kernel_rfl) (fun _ _ _ h => h) (Or.inr ⟨by rfl, rfl⟩) ?_ ?_
                            rotate_left
                            · simp only [Act.put, List.setIfInBounds_toArray, List.set_cons_zero, List.set_cons_succ, i64_w, i32_w]
                              rfl
                            refine pure_ (i := 30) (N := some 233) (v := undef) (a' := ?_) #[true, true, true, true, true, true, true, true, true, true, true, true, true, true, true, true, true, true, true, true, true, true, true, true, true, true, true, true, true, true, true, false, false, false, false] rfl rfl (by kernel_rfl) (fun _ _ _ h => h) (Or.inr ⟨by rfl, rfl⟩) ?_ ?_
                            rotate_left
                            · simp only [Act.put, List.setIfInBounds_toArray, List.set_cons_zero, List.set_cons_succ, i64_w, i32_w]
                              rfl
                            refine pure_ (i := 31) (N := some 234) (v := undef) (a' := ?_) #[true, true, true, true, true, true, true, true, true, true, true, true, true, true, true, true, true, true, true, true, true, true, true, true, true, true, true, true, true, true, true, true, false, false, false] rfl rfl (by kernel_rfl) (fun _ _ _ h => h) (Or.inr ⟨by rfl, rfl⟩) ?_ ?_
                            rotate_left
                            · simp only [Act.put, List.setIfInBounds_toArray, List.set_cons_zero, List.set_cons_succ, i64_w, i32_w]
                              rfl
                            refine pure_ (i := 32) (N := some 235) (v := undef) (a' := ?_) #[true, true, true, true, true, true, true, true, true, true, true, true, true, true, true, true, true, true, true, true, true, true, true, true, true, true, true, true, true, true, true, true, true, false, false] rfl rfl (by kernel_rfl) (fun _ _ _ h => h) (Or.inr ⟨by rfl, rfl⟩) ?_ ?_
                            rotate_left
                            · simp only [Act.put, List.setIfInBounds_toArray, List.set_cons_zero, List.set_cons_succ, i64_w, i32_w]
                              rfl
                            refine pure_ (i := 33) (N := some 236) (v := ?_) (a' := ?_) #[true, true, true, true, true, true, true, true, true, true, true, true, true, true, true, true, true, true, true, true, true, true, true, true, true, true, true, true, true, true, true, true, true, true, false] rfl rfl (by kernel_rfl) (fun _ _ _ h => h) (Or.inl ⟨by rfl, ?_⟩) ?_ ?_
                            rotate_left
                            · intro w'
                              go_simp
                              with_reducible rfl
                            rotate_left
                            · simp only [Act.put, List.setIfInBounds_toArray, List.set_cons_zero, List.set_cons_succ, i64_w, i32_w]
                              rfl
                            refine pure_ (i := 34) (N := some 237) (v := ?_) (a' := ?_) #[true, true, true, true, true, true, true, true, true, true, true, true, true, true, true, true, true, true, true, true, true, true, true, true, true, true, true, true, true, true, true, true, true, true, true] rfl rfl (by kernel_rfl) (fun _ _ _ h => h) (Or.inl ⟨by rfl, ?_⟩) ?_ ?_
                            rotate_left
                            · intro w'
                              go_simp
                              with_reducible rfl
                            rotate_left
                            · simp only [Act.put, List.setIfInBounds_toArray, List.set_cons_zero, List.set_cons_succ, i64_w, i32_w]
                              rfl
                            refine done_ (by kernel_rfl) ?_
                            have HE := Aside0.mk hHeld.2.2.2.1
                            have HV := Aside0.mk hHeld.2.2.2.2
                            clear hHeld
                            go_wp2_with (fail)
                            generalize ((wa.drewN nd).drew) = wl at HE HV ⊢
                            go_loopw [20] (fun v20 wr2 => ∃ (j : Nat) (Bs : List Int), v20 = .int .i64 j ∧ j ≤ X.length ∧ Aside0 (Bs.length = X.length) ∧ Aside0 (MS w w.heap.size b5 g m0 m1 m2 (.slice A7 L.length c7) (.slice A6 L.length c6) L L wr2) ∧ Aside0 (Kd.R (Kd.int .u8) 5 wr2 w.heap.size (fun k => wz ≤ k) (.slice Av X.length cv) Bs))
                              (fun v20 _ => X.length - (intOf v20).toNat)
                            case atStart => exact ⟨0, X, rfl, Nat.zero_le _, ⟨rfl⟩, HE, HV⟩
                            case round =>
                              obtain ⟨j, Bs, rfl, hjX, HBl, HMj, HRj⟩ := hrel
                              have hXl2 := HXl.out
                              by_cases hjl : j < X.length
                              · have hbl := HBl.out
                                obtain ⟨gb, cb, hvb, _, _, _, _⟩ := Kd.R_form HRj.out (by omega)
                                injection hvb with e1 e2 e3
                                clear e2
                                subst e1; subst e3
                                obtain ⟨hc1, hf1⟩ := Kd.R_celln (0 : Int) HRj.out (j : Int) (by omega) (by omega)
                                generalize rdOf (0 : Int) Bs (j : Int) = z at hc1
                                have hput := Kd.R_putg HRj.out (j : Int) (Go.bits .xor .u8 z 255)
                                rw [Int.toNat_natCast] at hput hc1 hf1
                                have HP := Aside0.mk hput
                                clear hput hbl
                                have hj2 : (j : Int) < (X.length : Int) := by omega
                                go_wp2_with (fail)
                                refine ⟨⟨j + 1, Bs.set j (Go.bits .xor .u8 z 255), by go_num, by omega, ⟨by rw [List.length_set]; exact HBl.out⟩, ⟨HMj.out.step (S := fun k => k = gb) ⟨HP.out.2.size, fun k hk hS => HP.out.2.block k hk (fun e => hS (by injection e))⟩ (fun k hk => by have h1 := HSv.out gb (HRj.out.1 gb rfl); rw [hk]; exact h1) (HMj.out.below.grown HP.out.2 HMj.out.size (fun k e => by injection e with e; rw [← e]; exact Kd.R_base HRj.out gb rfl))⟩, ⟨HP.out.1⟩⟩, by simp [intOf]; omega⟩
                              · have hje : j = X.length := by omega
                                subst hje
                                have HM3 := HMj
                                have HLM := HLb
                                go_wp2_with (fail)
                                refine start_ (n := 13) (S := fun w' => w'.cell? ⟨g, 3, none⟩ = some (.slice A7 L.length c7) ∧ (convert 29 9 (.slice A7 L.length c7)).run Try.prog w' = .ok (.string (strOfNums L)) w' ∧ (convert 29 9 (.slice A6 L.length c6)).run Try.prog w' = .ok (.string (strOfNums L)) w' ∧ MS w w.heap.size b5 g m0 m1 m2 (.slice A7 L.length c7) (.slice A6 L.length c6) L L w') (ds := []) #[false, false, false, false, false, false, false, false, false, false, false, false, false] (by kernel_rfl) rfl rfl ⟨((blk_cell HM3.out.mem.at_ 3).trans rfl), (own_string (P := Try.prog) (dst := 9) Try.underlying29 Try.underlying5 Try.underlying9 (Kd.own_of_R HM3.out.drew.mem.row)), (own_string (P := Try.prog) (dst := 9) Try.underlying29 Try.underlying5 Try.underlying9 (Kd.own_of_R HM3.out.drew.row)), HM3.out.drew⟩ (fun hHeld => ?_)
                                refine pure_ (i := 0) (N := some 252) (v := ?_) (a' := ?_) #[true, false, false, false, false, false, false, false, false, false, false, false, false] rfl rfl (by kernel_rfl) (fun _ _ _ h => h) (Or.inl ⟨by rfl, ?_⟩) ?_ ?_
                                rotate_left
                                · intro w'
                                  go_simp
                                  with_reducible rfl
                                rotate_left
                                · simp only [Act.put, List.setIfInBounds_toArray, List.set_cons_zero, List.set_cons_succ, i64_w, i32_w]
                                  rfl
                                refine pure_ (i := 1) (N := some 253) (v := ?_) (a' := ?_) #[true, true, false, false, false, false, false, false, false, false, false, false, false] rfl rfl (by kernel_rfl) (fun _ _ _ h => h) (Or.inl ⟨by rfl, ?_⟩) ?_ ?_
                                rotate_left
                                · intro w'
                                  go_simp
                                  with_reducible rfl
                                rotate_left
                                · simp only [Act.put, List.setIfInBounds_toArray, List.set_cons_zero, List.set_cons_succ, i64_w, i32_w]
                                  rfl
                                refine pure_ (i := 2) (N := some 254) (v := ?_) (a' := ?_) #[true, true, true, false, false, false, false, false, false, false, false, false, false] rfl rfl (by kernel_rfl) (fun _ _ _ h => h) (Or.inl ⟨by rfl, ?_⟩) ?_ ?_
                                rotate_left
                                · intro w'
                                  go_simp
                                  with_reducible rfl
                                rotate_left
                                · simp only [Act.put, List.setIfInBounds_toArray, List.set_cons_zero, List.set_cons_succ, i64_w, i32_w]
                                  rfl
                                refine pure_ (i := 3) (N := some 255) (v := ?_) (a' := ?_) #[true, true, true, true, false, false, false, false, false, false, false, false, false] rfl rfl (by kernel_rfl) (fun _ _ _ h => h) (Or.inl ⟨by rfl, ?_⟩) ?_ ?_
                                rotate_left
                                · intro w'
                                  go_simp
                                  with_reducible rfl
                                rotate_left
                                · simp only [Act.put, List.setIfInBounds_toArray, List.set_cons_zero, List.set_cons_succ, i64_w, i32_w]
                                  rfl
                                refine pure_ (i := 4) (N := some 256) (v := ?_) (a' := ?_) #[true, true, true, true, true, false, false, false, false, false, false, false, false] rfl rfl (by kernel_rfl) (fun _ _ _ h => h) (Or.inl ⟨by rfl, ?_⟩) ?_ ?_
                                rotate_left
                                · intro w'
                                  go_simp
                                  with_reducible rfl
                                rotate_left
                                · simp only [Act.put, List.setIfInBounds_toArray, List.set_cons_zero, List.set_cons_succ, i64_w, i32_w]
                                  rfl
                                refine pure_ (i := 5) (N := some 257) (v := ?_) (a' := ?_) #[true, true, true, true, true, true, false, false, false, false, false, false, false] rfl rfl (by kernel_rfl) (fun _ _ _ h => h) (Or.inl ⟨by rfl, ?_⟩) ?_ ?_
                                rotate_left
                                · intro w'
                                  go_simp
                                  with_reducible rfl
                                rotate_left
                                · simp only [Act.put, List.setIfInBounds_toArray, List.set_cons_zero, List.set_cons_succ, i64_w, i32_w]
                                  rfl
                                refine pure_ (i := 6) (N := some 258) (v := ?_) (a' := ?_) #[true, true, true, true, true, true, true, false, false, false, false, false, false] rfl rfl (by kernel_rfl) (fun _ _ _ h => h) (Or.inl ⟨by rfl, ?_⟩) ?_ ?_
                                rotate_left
                                · intro w'
                                  go_simp
                                  with_reducible rfl
                                rotate_left
                                · simp only [Act.put, List.setIfInBounds_toArray, List.set_cons_zero, List.set_cons_succ, i64_w, i32_w]
                                  rfl
                                refine pure_ (i := 9) (N := some 261) (v := ?_) (a' := ?_) #[true, true, true, true, true, true, true, false, false, true, false, false, false] rfl rfl (by kernel_rfl) (fun _ _ _ h => h) (Or.inl ⟨by rfl, ?_⟩) ?_ ?_
                                rotate_left
                                · intro w'
                                  go_simp
                                  with_reducible rfl
                                rotate_left
                                · simp only [Act.put, List.setIfInBounds_toArray, List.set_cons_zero, List.set_cons_succ, i64_w, i32_w]
                                  rfl
                                refine take_ (i := 7) (N := some 259) (v := ?_) (a' := ?_) #[true, true, true, true, true, true, true, true, false, true, false, false, false] rfl rfl (by kernel_rfl) (fun _ _ _ h => h) (Or.inl ⟨by rfl, ?_⟩) hHeld ?_ ?_
                                rotate_left
                                · rintro w' ⟨s0, s1, s2, s3⟩
                                  go_simp
                                  with_reducible rfl
                                rotate_left
                                · simp only [Act.put, List.setIfInBounds_toArray, List.set_cons_zero, List.set_cons_succ, i64_w, i32_w]
                                  rfl
                                refine take_ (i := 8) (N := some 260) (v := ?_) (a' := ?_) #[true, true, true, true, true, true, true, true, true, true, false, false, false] rfl rfl (by kernel_rfl) (fun _ _ _ h => h) (Or.inl ⟨by rfl, ?_⟩) hHeld ?_ ?_
                                rotate_left
                                · rintro w' ⟨s0, s1, s2, s3⟩
                                  go_simp
                                  with_reducible rfl
                                rotate_left
                                · simp only [Act.put, List.setIfInBounds_toArray, List.set_cons_zero, List.set_cons_succ, i64_w, i32_w]
                                  rfl
                                refine take_ (i := 10) (N := some 262) (v := ?_) (a' := ?_) #[true, true, true, true, true, true, true, true, true, true, true, false, false] rfl rfl (by kernel_rfl) (fun _ _ _ h => h) (Or.inl ⟨by rfl, ?_⟩) hHeld ?_ ?_
                                rotate_left
                                · rintro w' ⟨s0, s1, s2, s3⟩
                                  go_simp
                                  with_reducible rfl
                                rotate_left
                                · simp only [Act.put, List.setIfInBounds_toArray, List.set_cons_zero, List.set_cons_succ, i64_w, i32_w]
                                  rfl
                                refine pure_ (i := 11) (N := some 263) (v := ?_) (a' := ?_) #[true, true, true, true, true, true, true, true, true, true, true, true, false] rfl rfl (by kernel_rfl) (fun _ _ _ h => h) (Or.inl ⟨by rfl, ?_⟩) ?_ ?_
                                rotate_left
                                · intro w'
                                  go_simp
                                  with_reducible rfl
                                rotate_left
                                · simp only [Act.put, List.setIfInBounds_toArray, List.set_cons_zero, List.set_cons_succ, i64_w, i32_w]
                                  rfl
                                refine pure_ (i := 12) (N := some 264) (v := ?_) (a' := ?_) #[true, true, true, true, true, true, true, true, true, true, true, true, true] rfl rfl (by kernel_rfl) (fun _ _ _ h => h) (Or.inl ⟨by rfl, ?_⟩) ?_ ?_
                                rotate_left
                                · intro w'
                                  go_simp
                                  with_reducible rfl
                                rotate_left
                                · simp only [Act.put, List.setIfInBounds_toArray, List.set_cons_zero, List.set_cons_succ, i64_w, i32_w]
                                  rfl
                                refine done_ (by kernel_rfl) ?_
                                have HE := Aside0.mk hHeld.2.2.2
                                clear hHeld
                                go_wp2_with (fail)
                                exact ⟨⟨i + 1, A6, c6, A7, c7, L, by go_num, by omega, rfl, HLM, HE⟩, by simp [intOf]; omega⟩
                          · have hRd : mem_Read L x.f1 q = ([], 44) := by unfold mem_Read; rw [if_neg hin]
                            rw [hRd] at HRv ⊢
                            rw [decide_eq_false hin] at HIN
                            obtain ⟨Av, cv, rfl⟩ := Kd.R_slice HRv.out
                            clear hRd
                            go_wp2_with (fail)
                            refine (bodkinref13_In.calls x.f1 q L.length false _ HIN.out).mono ?_
                            rintro e wb ⟨rfl, ⟨nd, rfl⟩⟩
                            go_wp2_with (fail)
                            refine start_ (n := 35) (S := fun w' => MS w w.heap.size b5 g m0 m1 m2 (.slice A7 L.length c7) (.slice A6 L.length c6) L L w') (ds := []) #[false, false, false, false, false, false, false, false, false, false, false, false, false, false, false, false, false, false, false, false, false, false, false, false, false, false, false, false, false, false, false, false, false, false, false] (by kernel_rfl) rfl rfl (((HMS2.out.new (pw_below_drewN (Below.refl _ _) nd)).drew)) (fun hHeld => ?_)
                            refine pure_ (i := 0) (N := some 203) (v := ?_) (a' := ?_) #[true, false, false, false, false, false, false, false, false, false, false, false, false, false, false, false, false, false, false, false, false, false, false, false, false, false, false, false, false, false, false, false, false, false, false] rfl rfl (by kernel_rfl) (fun _ _ _ h => h) (Or.inl ⟨by rfl, ?_⟩) ?_ ?_
                            rotate_left
                            · intro w'
                              go_simp
                              with_reducible rfl
                            rotate_left
                            · simp only [Act.put, List.setIfInBounds_toArray, List.set_cons_zero, List.set_cons_succ, i64_w, i32_w]
                              rfl
                            refine pure_ (i := 1) (N := some 204) (v := ?_) (a' := ?_) #[true, true, false, false, false, false, false, false, false, false, false, false, false, false, false, false, false, false, false, false, false, false, false, false, false, false, false, false, false, false, false, false, false, false, false] rfl rfl (by kernel_rfl) (fun _ _ _ h => h) (Or.inl ⟨by rfl, ?_⟩) ?_ ?_
                            rotate_left
                            · intro w'
                              go_simp
                              with_reducible rfl
                            rotate_left
                            · simp only [Act.put, List.setIfInBounds_toArray, List.set_cons_zero, List.set_cons_succ, i64_w, i32_w]
                              rfl
                            refine pure_ (i := 2) (N := some 205) (v := ?_) (a' := ?_) #[true, true, true, false, false, false, false, false, false, false, false, false, false, false, false, false, false, false, false, false, false, false, false, false, false, false, false, false, false, false, false, false, false, false, false] rfl rfl (by kernel_rfl) (fun _ _ _ h => h) (Or.inl ⟨by rfl, ?_⟩) ?_ ?_
                            rotate_left
                            · intro w'
                              go_simp
                              with_reducible rfl
                            rotate_left
                            · simp only [Act.put, List.setIfInBounds_toArray, List.set_cons_zero, List.set_cons_succ, i64_w, i32_w]
                              rfl
                            refine pure_ (i := 3) (N := some 206) (v := ?_) (a' := ?_) #[true, true, true, true, false, false, false, false, false, false, false, false, false, false, false, false, false, false, false, false, false, false, false, false, false, false, false, false, false, false, false, false, false, false, false] rfl rfl (by kernel_rfl) (fun _ _ _ h => h) (Or.inl ⟨by rfl, ?_⟩) ?_ ?_
                            rotate_left
                            · intro w'
                              go_simp
                              with_reducible rfl
                            rotate_left
                            · simp only [Act.put, List.setIfInBounds_toArray, List.set_cons_zero, List.set_cons_succ, i64_w, i32_w]
                              rfl
                            refine pure_ (i := 4) (N := some 207) (v := ?_) (a' := ?_) #[true, true, true, true, true, false, false, false, false, false, false, false, false, false, false, false, false, false, false, false, false, false, false, false, false, false, false, false, false, false, false, false, false, false, false] rfl rfl (by kernel_rfl) (fun _ _ _ h => h) (Or.inl ⟨by rfl, ?_⟩) ?_ ?_
                            rotate_left
                            · intro w'
                              go_simp
                              with_reducible rfl
                            rotate_left
                            · simp only [Act.put, List.setIfInBounds_toArray, List.set_cons_zero, List.set_cons_succ, i64_w, i32_w]
                              rfl
                            refine pure_ (i := 5) (N := some 208) (v := ?_) (a' := ?_) #[true, true, true, true, true, true, false, false, false, false, false, false, false, false, false, false, false, false, false, false, false, false, false, false, false, false, false, false, false, false, false, false, false, false, false] rfl rfl (by kernel_rfl) (fun _ _ _ h => h) (Or.inl ⟨by rfl, ?_⟩) ?_ ?_
                            rotate_left
                            · intro w'
                              go_simp
                              with_reducible rfl
                            rotate_left
                            · simp only [Act.put, List.setIfInBounds_toArray, List.set_cons_zero, List.set_cons_succ, i64_w, i32_w]
                              rfl
                            refine pure_ (i := 6) (N := some 209) (v := ?_) (a' := ?_) #[true, true, true, true, true, true, true, false, false, false, false, false, false, false, false, false, false, false, false, false, false, false, false, false, false, false, false, false, false, false, false, false, false, false, false] rfl rfl (by kernel_rfl) (fun _ _ _ h => h) (Or.inl ⟨by rfl, ?_⟩) ?_ ?_
                            rotate_left
                            · intro w'
                              go_simp
                              with_reducible rfl
                            rotate_left
                            · simp only [Act.put, List.setIfInBounds_toArray, List.set_cons_zero, List.set_cons_succ, i64_w, i32_w]
                              rfl
                            refine pure_ (i := 7) (N := some 210) (v := undef) (a' := ?_) #[true, true, true, true, true, true, true, true, false, false, false, false, false, false, false, false, false, false, false, false, false, false, false, false, false, false, false, false, false, false, false, false, false, false, false] rfl rfl (by kernel_rfl) (fun _ _ _ h => h) (Or.inr ⟨by rfl, rfl⟩) ?_ ?_
                            rotate_left
                            · simp only [Act.put, List.setIfInBounds_toArray, List.set_cons_zero, List.set_cons_succ, i64_w, i32_w]
                              rfl
                            refine pure_ (i := 8) (N := some 211) (v := undef) (a' := ?_) #[true, true, true, true, true, true, true, true, true, false, false, false, false, false, false, false, false, false, false, false, false, false, false, false, false, false, false, false, false, false, false, false, false, false, false] rfl rfl (by kernel_rfl) (fun _ _ _ h => h) (Or.inr ⟨by rfl, rfl⟩) ?_ ?_
                            rotate_left
                            · simp only [Act.put, List.setIfInBounds_toArray, List.set_cons_zero, List.set_cons_succ, i64_w, i32_w]
                              rfl
                            refine pure_ (i := 9) (N := some 212) (v := undef) (a' := ?_) #[true, true, true, true, true, true, true, true, true, true, false, false, false, false, false, false, false, false, false, false, false, false, false, false, false, false, false, false, false, false, false, false, false, false, false] rfl rfl (by kernel_rfl) (fun _ _ _ h => h) (Or.inr ⟨by rfl, rfl⟩) ?_ ?_
                            rotate_left
                            · simp only [Act.put, List.setIfInBounds_toArray, List.set_cons_zero, List.set_cons_succ, i64_w, i32_w]
                              rfl
                            refine pure_ (i := 10) (N := some 213) (v := undef) (a' := ?_) #[true, true, true, true, true, true, true, true, true, true, true, false, false, false, false, false, false, false, false, false, false, false, false, false, false, false, false, false, false, false, false, false, false, false, false] rfl rfl (by kernel_rfl) (fun _ _ _ h => h) (Or.inr ⟨by rfl, rfl⟩) ?_ ?_
                            rotate_left
                            · simp only [Act.put, List.setIfInBounds_toArray, List.set_cons_zero, List.set_cons_succ, i64_w, i32_w]
                              rfl
                            refine pure_ (i := 11) (N := some 214) (v := undef) (a' := ?_) #[true, true, true, true, true, true, true, true, true, true, true, true, false, false, false, false, false, false, false, false, false, false, false, false, false, false, false, false, false, false, false, false, false, false, false] rfl rfl (by kernel_rfl) (fun _ _ _ h => h) (Or.inr ⟨by rfl, rfl⟩) ?_ ?_
                            rotate_left
                            · simp only [Act.put, List.setIfInBounds_toArray, List.set_cons_zero, List.set_cons_succ, i64_w, i32_w]
                              rfl
                            refine pure_ (i := 12) (N := some 215) (v := undef) (a' := ?_) #[true, true, true, true, true, true, true, true, true, true, true, true, true, false, false, false, false, false, false, false, false, false, false, false, false, false, false, false, false, false, false, false, false, false, false] rfl rfl (by kernel_rfl) (fun _ _ _ h => h) (Or.inr ⟨by rfl, rfl⟩) ?_ ?_
                            rotate_left
                            · simp only [Act.put, List.setIfInBounds_toArray, List.set_cons_zero, List.set_cons_succ, i64_w, i32_w]
                              rfl
                            refine pure_ (i := 13) (N := some 216) (v := undef) (a' := ?_) #[true, true, true, true, true, true, true, true, true, true, true, true, true, true, false, false, false, false, false, false, false, false, false, false, false, false, false, false, false, false, false, false, false, false, false] rfl rfl (by kernel_rfl) (fun _ _ _ h => h) (Or.inr ⟨by rfl, rfl⟩) ?_ ?_
                            rotate_left
                            · simp only [Act.put, List.setIfInBounds_toArray, List.set_cons_zero, List.set_cons_succ, i64_w, i32_w]
                              rfl
                            refine pure_ (i := 14) (N := some 217) (v := undef) (a' := ?_) #[true, true, true, true, true, true, true, true, true, true, true, true, true, true, true, false, false, false, false, false, false, false, false, false, false, false, false, false, false, false, false, false, false, false, false] rfl rfl (by kernel_rfl) (fun _ _ _ h => h) (Or.inr ⟨by rfl, rfl⟩) ?_ ?_
                            rotate_left
                            · simp only [Act.put, List.setIfInBounds_toArray, List.set_cons_zero, List.set_cons_succ, i64_w, i32_w]
                              rfl
                            refine pure_ (i := 15) (N := some 218) (v := undef) (a' := ?_) #[true, true, true, true, true, true, true, true, true, true, true, true, true, true, true, true, false, false, false, false, false, false, false, false, false, false, false, false, false, false, false, false, false, false, false] rfl rfl (by kernel_rfl) (fun _ _ _ h => h) (Or.inr ⟨by rfl, rfl⟩) ?_ ?_
                            rotate_left
                            · simp only [Act.put, List.setIfInBounds_toArray, List.set_cons_zero, List.set_cons_succ, i64_w, i32_w]
                              rfl
                            refine pure_ (i := 16) (N := some 219) (v := undef) (a' := ?_) #[true, true, true, true, true, true, true, true, true, true, true, true, true, true, true, true, true, false, false, false, false, false, false, false, false, false, false, false, false, false, false, false, false, false, false] rfl rfl (by kernel_rfl) (fun _ _ _ h => h) (Or.inr ⟨by rfl, rfl⟩) ?_ ?_
                            rotate_left
                            · simp only [Act.put, List.setIfInBounds_toArray, List.set_cons_zero, List.set_cons_succ, i64_w, i32_w]
                              rfl
                            refine pure_ (i := 17) (N := some 220) (v := undef) (a' := ?_) #[true, true, true, true, true, true, true, true, true, true, true, true, true, true, true, true, true, true, false, false, false, false, false, false, false, false, false, false, false, false, false, false, false, false, false] rfl rfl (by kernel_rfl) (fun _ _ _ h => h) (Or.inr ⟨by rfl, rfl⟩) ?_ ?_
                            rotate_left
                            · simp only [Act.put, List.setIfInBounds_toArray, List.set_cons_zero, List.set_cons_succ, i64_w, i32_w]
                              rfl
                            refine pure_ (i := 18) (N := some 221) (v := undef) (a' := ?_) #[true, true, true, true, true, true, true, true, true, true, true, true, true, true, true, true, true, true, true, false, false, false, false, false, false, false, false, false, false, false, false, false, false, false, false] rfl rfl (by kernel_rfl) (fun _ _ _ h => h) (Or.inr ⟨by rfl, rfl⟩) ?_ ?_
                            rotate_left
                            · simp only [Act.put, List.setIfInBounds_toArray, List.set_cons_zero, List.set_cons_succ, i64_w, i32_w]
                              rfl
                            refine pure_ (i := 19) (N := some 222) (v := undef) (a' := ?_) #[true, true, true, true, true, true, true, true, true, true, true, true, true, true, true, true, true, true, true, true, false, false, false, false, false, false, false, false, false, false, false, false, false, false, false] rfl rfl (by kernel_rfl) (fun _ _ _ h => h) (Or.inr ⟨by rfl, rfl⟩) ?_ ?_
                            rotate_left
                            · simp only [Act.put, List.setIfInBounds_toArray, List.set_cons_zero, List.set_cons_succ, i64_w, i32_w]
                              rfl
                            refine pure_ (i := 20) (N := some 223) (v := ?_) (a' := ?_) #[true, true, true, true, true, true, true, true, true, true, true, true, true, true, true, true, true, true, true, true, true, false, false, false, false, false, false, false, false, false, false, false, false, false, false] rfl rfl (by kernel_rfl) (fun _ _ _ h => h) (Or.inl ⟨by rfl, ?_⟩) ?_ ?_
                            rotate_left
                            · intro w'
                              go_simp
                              with_reducible rfl
                            rotate_left
                            · simp only [Act.put, List.setIfInBounds_toArray, List.set_cons_zero, List.set_cons_succ, i64_w, i32_w]
                              rfl
                            refine pure_ (i := 21) (N := some 224) (v := ?_) (a' := ?_) #[true, true, true, true, true, true, true, true, true, true, true, true, true, true, true, true, true, true, true, true, true, true, false, false, false, false, false, false, false, false, false, false, false, false, false] rfl rfl (by kernel_rfl) (fun _ _ _ h => h) (Or.inl ⟨by rfl, ?_⟩) ?_ ?_
                            rotate_left
                            · intro w'
                              go_simp
                              with_reducible rfl
                            rotate_left
                            · simp only [Act.put, List.setIfInBounds_toArray, List.set_cons_zero, List.set_cons_succ, i64_w, i32_w]
                              rfl
                            refine pure_ (i := 22) (N := some 225) (v := ?_) (a' := ?_) #[true, true, true, true, true, true, true, true, true, true, true, true, true, true, true, true, true, true, true, true, true, true, true, false, false, false, false, false, false, false, false, false, false, false, false] rfl rfl (by kernel_rfl) (fun _ _ _ h => h) (Or.inl ⟨by rfl, ?_⟩) ?_ ?_
                            rotate_left
                            · intro w'
                              go_simp
                              with_reducible rfl
                            rotate_left
                            · simp only [Act.put, List.setIfInBounds_toArray, List.set_cons_zero, List.set_cons_succ, i64_w, i32_w]
                              rfl
                            refine pure_ (i := 23) (N := some 226) (v := ?_) (a' := ?_) #[true, true, true, true, true, true, true, true, true, true, true, true, true, true, true, true, true, true, true, true, true, true, true, true, false, false, false, false, false, false, false, false, false, false, false] rfl rfl (by kernel_rfl) (fun _ _ _ h => h) (Or.inl ⟨by rfl, ?_⟩) ?_ ?_
                            rotate_left
                            · intro w'
                              go_simp
                              with_reducible rfl
                            rotate_left
                            · simp only [Act.put, List.setIfInBounds_toArray, List.set_cons_zero, List.set_cons_succ, i64_w, i32_w]
                              rfl
                            refine pure_ (i := 24) (N := some 227) (v := ?_) (a' := ?_) #[true, true, true, true, true, true, true, true, true, true, true, true, true, true, true, true, true, true, true, true, true, true, true, true, true, false, false, false, false, false, false, false, false, false, false] rfl rfl (by kernel_rfl) (fun _ _ _ h => h) (Or.inl ⟨by rfl, ?_⟩) ?_ ?_
                            rotate_left
                            · intro w'
                              go_simp
                              with_reducible rfl
                            rotate_left
                            · simp only [Act.put, List.setIfInBounds_toArray, List.set_cons_zero, List.set_cons_succ, i64_w, i32_w]
                              rfl
                            refine pure_ (i := 25) (N := some 228) (v := ?_) (a' := ?_) #[true, true, true, true, true, true, true, true, true, true, true, true, true, true, true, true, true, true, true, true, true, true, true, true, true, true, false, false, false, false, false, false, false, false, false] rfl rfl (by kernel_rfl) (fun _ _ _ h => h) (Or.inl ⟨by rfl, ?_⟩) ?_ ?_
                            rotate_left
                            · intro w'
                              go_simp
                              with_reducible rfl
                            rotate_left
                            · simp only [Act.put, List.setIfInBounds_toArray, List.set_cons_zero, List.set_cons_succ, i64_w, i32_w]
                              rfl
                            refine pure_ (i := 26) (N := some 229) (v := ?_) (a' := ?_) #[true, true, true, true, true, true, true, true, true, true, true, true, true, true, true, true, true, true, true, true, true, true, true, true, true, true, true, false, false, false, false, false, false, false, false] rfl rfl (by kernel_rfl) (fun _ _ _ h => h) (Or.inl ⟨by rfl, ?_⟩) ?_ ?_
                            rotate_left
                            · intro w'
                              go_simp
                              with_reducible rfl
                            rotate_left
                            · simp only [Act.put, List.setIfInBounds_toArray, List.set_cons_zero, List.set_cons_succ, i64_w, i32_w]
                              rfl
                            refine pure_ (i := 27) (N := some 230) (v := ?_) (a' := ?_) #[true, true, true, true, true, true, true, true, true, true, true, true, true, true, true, true, true, true, true, true, true, true, true, true, true, true, true, true, false, false, false, false, false, false, false] rfl rfl (by kernel_rfl) (fun _ _ _ h => h) (Or.inl ⟨by rfl, ?_⟩) ?_ ?_
                            rotate_left
                            · intro w'
                              go_simp
                              with_reducible rfl
                            rotate_left
                            · simp only [Act.put, List.setIfInBounds_toArray, List.set_cons_zero, List.set_cons_succ, i64_w, i32_w]
                              rfl
                            refine pure_ (i := 28) (N := some 231) (v := ?_) (a' := ?_) #[true, true, true, true, true, true, true, true, true, true, true, true, true, true, true, true, true, true, true, true, true, true, true, true, true, true, true, true, true, false, false, false, false, false, false] rfl rfl (by kernel_rfl) (fun _ _ _ h => h) (Or.inl ⟨by rfl, ?_⟩) ?_ ?_
                            rotate_left
                            · intro w'
                              go_simp
                              with_reducible rfl
                            rotate_left
                            · simp only [Act.put, List.setIfInBounds_toArray, List.set_cons_zero, List.set_cons_succ, i64_w, i32_w]
                              rfl
                            refine pure_ (i := 29) (N := some 232) (v := ?_) (a' := ?_) #[true, true, true, true, true, true, true, true, true, true, true, true, true, true, true, true, true, true, true, true, true, true, true, true, true, true, true, true, true, true, false, false, false, false, false] rfl rfl (by kernel_rfl) (fun _ _ _ h => h) (Or.inl ⟨by rfl, ?_⟩) ?_ ?_
                            rotate_left
                            · intro w'
                              go_simp
                              with_reducible rfl
                            rotate_left
                            · simp only [Act.put, List.setIfInBounds_toArray, List.set_cons_zero, List.set_cons_succ, i64_w, i32_w]
                              rfl
                            refine pure_ (i := 30) (N := some 233) (v := ?_) (a' := ?_) #[true, true, true, true, true, true, true, true, true, true, true, true, true, true, true, true, true, true, true, true, true, true, true, true, true, true, true, true, true, true, true, false, false, false, false] rfl rfl (by kernel_rfl) (fun _ _ _ h => h) (Or.inl ⟨by rfl, ?_⟩) ?_ ?_
                            rotate_left
                            · intro w'
                              go_simp
                              with_reducible rfl
                            rotate_left
                            · simp only [Act.put, List.setIfInBounds_toArray, List.set_cons_zero, List.set_cons_succ, i64_w, i32_w]
                              rfl
                            refine pure_ (i := 31) (N := some 234) (v := ?_) (a' := ?_) #[true, true, true, true, true, true, true, true, true, true, true, true, true, true, true, true, true, true, true, true, true, true, true, true, true, true, true, true, true, true, true, true, false, false, false] rfl rfl (by kernel_rfl) (fun _ _ _ h => h) (Or.inl ⟨by rfl, ?_⟩) ?_ ?_
                            rotate_left
                            · intro w'
                              go_simp
                              with_reducible rfl
                            rotate_left
                            · simp only [Act.put, List.setIfInBounds_toArray, List.set_cons_zero, List.set_cons_succ, i64_w, i32_w]
                              rfl
                            refine pure_ (i := 32) (N := some 235) (v := ?_) (a' := ?_) #[true, true, true, true, true, true, true, true, true, true, true, true, true, true, true, true, true, true, true, true, true, true, true, true, true, true, true, true, true, true, true, true, true, false, false] rfl rfl (by kernel_rfl) (fun _ _ _ h => h) (Or.inl ⟨by rfl, ?_⟩) ?_ ?_
                            rotate_left
                            · intro w'
                              go_simp
                              with_reducible rfl
                            rotate_left
                            · simp only [Act.put, List.setIfInBounds_toArray, List.set_cons_zero, List.set_cons_succ, i64_w, i32_w]
                              rfl
                            refine pure_ (i := 33) (N := some 236) (v := ?_) (a' := ?_) #[true, true, true, true, true, true, true, true, true, true, true, true, true, true, true, true, true, true, true, true, true, true, true, true, true, true, true, true, true, true, true, true, true, true, false] rfl rfl (by kernel_rfl) (fun _ _ _ h => h) (Or.inl ⟨by rfl, ?_⟩) ?_ ?_
                            rotate_left
                            · intro w'
                              go_simp
                              with_reducible rfl
                            rotate_left
                            · simp only [Act.put, List.setIfInBounds_toArray, List.set_cons_zero, List.set_cons_succ, i64_w, i32_w]
                              rfl
                            refine pure_ (i := 34) (N := some 237) (v := ?_) (a' := ?_) #[true, true, true, true, true, true, true, true, true, true, true, true, true, true, true, true, true, true, true, true, true, true, true, true, true, true, true, true, true, true, true, true, true, true, true] rfl rfl (by kernel_rfl) (fun _ _ _ h => h) (Or.inl ⟨by rfl, ?_⟩) ?_ ?_
                            rotate_left
                            · intro w'
                              go_simp
                              with_reducible rfl
                            rotate_left
                            · simp only [Act.put, List.setIfInBounds_toArray, List.set_cons_zero, List.set_cons_succ, i64_w, i32_w]
                              rfl
                            refine done_ (by kernel_rfl) ?_
                            have HM3 := Aside0.mk hHeld
                            have HLM := HLb
                            clear hHeld HMS2
                            go_wp2_with (fail)
                            generalize ((wa.drewN nd).drew) = wl at HM3 ⊢
                            go_loopw [20] (fun v20 wr2 => v20 = .int .i64 0 ∧ Aside0 (MS w w.heap.size b5 g m0 m1 m2 (.slice A7 L.length c7) (.slice A6 L.length c6) L L wr2)) (fun _ _ => 0)
                            case atStart => exact ⟨rfl, HM3⟩
                            case round =>
                              obtain ⟨rfl, HMj⟩ := hrel
                              clear HM3
                              have HM3 := HMj
                              go_wp2_with (fail)
                              refine start_ (n := 13) (S := fun w' => w'.cell? ⟨g, 3, none⟩ = some (.slice A7 L.length c7) ∧ (convert 29 9 (.slice A7 L.length c7)).run Try.prog w' = .ok (.string (strOfNums L)) w' ∧ (convert 29 9 (.slice A6 L.length c6)).run Try.prog w' = .ok (.string (strOfNums L)) w' ∧ MS w w.heap.size b5 g m0 m1 m2 (.slice A7 L.length c7) (.slice A6 L.length c6) L L w') (ds := []) #[false, false, false, false, false, false, false, false, false, false, false, false, false] (by kernel_rfl) rfl rfl ⟨((blk_cell HM3.out.mem.at_ 3).trans rfl), (own_string (P := Try.prog) (dst := 9) Try.underlying29 Try.underlying5 Try.underlying9 (Kd.own_of_R HM3.out.drew.mem.row)), (own_string (P := Try.prog) (dst := 9) Try.underlying29 Try.underlying5 Try.underlying9 (Kd.own_of_R HM3.out.drew.row)), HM3.out.drew⟩ (fun hHeld => ?_)
                              refine pure_ (i := 0) (N := some 252) (v := ?_) (a' := ?_) #[true, false, false, false, false, false, false, false, false, false, false, false, false] rfl rfl (by kernel_rfl) (fun _ _ _ h => h) (Or.inl ⟨by rfl, ?_⟩) ?_ ?_
                              rotate_left
                              · intro w'
                                go_simp
                                with_reducible rfl
                              rotate_left
                              · simp only [Act.put, List.setIfInBounds_toArray, List.set_cons_zero, List.set_cons_succ, i64_w, i32_w]
                                rfl
                              refine pure_ (i := 1) (N := some 253) (v := ?_) (a' := ?_) #[true, true, false, false, false, false, false, false, false, false, false, false, false] rfl rfl (by kernel_rfl) (fun _ _ _ h => h) (Or.inl ⟨by rfl, ?_⟩) ?_ ?_
                              rotate_left
                              · intro w'
                                go_simp
                                with_reducible rfl
                              rotate_left
                              · simp only [Act.put, List.setIfInBounds_toArray, List.set_cons_zero, List.set_cons_succ, i64_w, i32_w]
                                rfl
                              refine pure_ (i := 2) (N := some 254) (v := ?_) (a' := ?_) #[true, true, true, false, false, false, false, false, false, false, false, false, false] rfl rfl (by kernel_rfl) (fun _ _ _ h => h) (Or.inl ⟨by rfl, ?_⟩) ?_ ?_
                              rotate_left
                              · intro w'
                                go_simp
                                with_reducible rfl
                              rotate_left
                              · simp only [Act.put, List.setIfInBounds_toArray, List.set_cons_zero, List.set_cons_succ, i64_w, i32_w]
                                rfl
                              refine pure_ (i := 3) (N := some 255) (v := ?_) (a' := ?_) #[true, true, true, true, false, false, false, false, false, false, false, false, false] rfl rfl (by kernel_rfl) (fun _ _ _ h => h) (Or.inl ⟨by rfl, ?_⟩) ?_ ?_
                              rotate_left
                              · intro w'
                                go_simp
                                with_reducible rfl
                              rotate_left
                              · simp only [Act.put, List.setIfInBounds_toArray, List.set_cons_zero, List.set_cons_succ, i64_w, i32_w]
                                rfl
                              refine pure_ (i := 4) (N := some 256) (v := ?_) (a' := ?_) #[true, true, true, true, true, false, false, false, false, false, false, false, false] rfl rfl (by kernel_rfl) (fun _ _ _ h => h) (Or.inl ⟨by rfl, ?_⟩) ?_ ?_
                              rotate_left
                              · intro w'
                                go_simp
                                with_reducible rfl
                              rotate_left
                              · simp only [Act.put, List.setIfInBounds_toArray, List.set_cons_zero, List.set_cons_succ, i64_w, i32_w]
                                rfl
                              refine pure_ (i := 5) (N := some 257) (v := ?_) (a' := ?_) #[true, true, true, true, true, true, false, false, false, false, false, false, false] rfl rfl (by kernel_rfl) (fun _ _ _ h => h) (Or.inl ⟨by rfl, ?_⟩) ?_ ?_
                              rotate_left
                              · intro w'
                                go_simp
                                with_reducible rfl
                              rotate_left
                              · simp only [Act.put, List.setIfInBounds_toArray, List.set_cons_zero, List.set_cons_succ, i64_w, i32_w]
                                rfl
                              refine pure_ (i := 6) (N := some 258) (v := ?_) (a' := ?_) #[true, true, true, true, true, true, true, false, false, false, false, false, false] rfl rfl (by kernel_rfl) (fun _ _ _ h => h) (Or.inl ⟨by rfl, ?_⟩) ?_ ?_
                              rotate_left
                              · intro w'
                                go_simp
                                with_reducible rfl
                              rotate_left
                              · simp only [Act.put, List.setIfInBounds_toArray, List.set_cons_zero, List.set_cons_succ, i64_w, i32_w]
                                rfl
                              refine pure_ (i := 9) (N := some 261) (v := ?_) (a' := ?_) #[true, true, true, true, true, true, true, false, false, true, false, false, false] rfl rfl (by kernel_rfl) (fun _ _ _ h => h) (Or.inl ⟨by rfl, ?_⟩) ?_ ?_
                              rotate_left
                              · intro w'
                                go_simp
                                with_reducible rfl
                              rotate_left
                              · simp only [Act.put, List.setIfInBounds_toArray, List.set_cons_zero, List.set_cons_succ, i64_w, i32_w]
                                rfl
                              refine take_ (i := 7) (N := some 259) (v := ?_) (a' := ?_) #[true, true, true, true, true, true, true, true, false, true, false, false, false] rfl rfl (by kernel_rfl) (fun _ _ _ h => h) (Or.inl ⟨by rfl, ?_⟩) hHeld ?_ ?_
                              rotate_left
                              · rintro w' ⟨s0, s1, s2, s3⟩
                                go_simp
                                with_reducible rfl
                              rotate_left
                              · simp only [Act.put, List.setIfInBounds_toArray, List.set_cons_zero, List.set_cons_succ, i64_w, i32_w]
                                rfl
                              refine take_ (i := 8) (N := some 260) (v := ?_) (a' := ?_) #[true, true, true, true, true, true, true, true, true, true, false, false, false] rfl rfl (by kernel_rfl) (fun _ _ _ h => h) (Or.inl ⟨by rfl, ?_⟩) hHeld ?_ ?_
                              rotate_left
                              · rintro w' ⟨s0, s1, s2, s3⟩
                                go_simp
                                with_reducible rfl
                              rotate_left
                              · simp only [Act.put, List.setIfInBounds_toArray, List.set_cons_zero, List.set_cons_succ, i64_w, i32_w]
                                rfl
                              refine take_ (i := 10) (N := some 262) (v := ?_) (a' := ?_) #[true, true, true, true, true, true, true, true, true, true, true, false, false] rfl rfl (by kernel_rfl) (fun _ _ _ h => h) (Or.inl ⟨by rfl, ?_⟩) hHeld ?_ ?_
                              rotate_left
                              · rintro w' ⟨s0, s1, s2, s3⟩
                                go_simp
                                with_reducible rfl
                              rotate_left
                              · simp only [Act.put, List.setIfInBounds_toArray, List.set_cons_zero, List.set_cons_succ, i64_w, i32_w]
                                rfl
                              refine pure_ (i := 11) (N := some 263) (v := ?_) (a' := ?_) #[true, true, true, true, true, true, true, true, true, true, true, true, false] rfl rfl (by kernel_rfl) (fun _ _ _ h => h) (Or.inl ⟨by rfl, ?_⟩) ?_ ?_
                              rotate_left
                              · intro w'
                                go_simp
                                with_reducible rfl
                              rotate_left
                              · simp only [Act.put, List.setIfInBounds_toArray, List.set_cons_zero, List.set_cons_succ, i64_w, i32_w]
                                rfl
                              refine pure_ (i := 12) (N := some 264) (v := ?_) (a' := ?_) #[true, true, true, true, true, true, true, true, true, true, true, true, true] rfl rfl (by kernel_rfl) (fun _ _ _ h => h) (Or.inl ⟨by rfl, ?_⟩) ?_ ?_
                              rotate_left
                              · intro w'
                                go_simp
                                with_reducible rfl
                              rotate_left
                              · simp only [Act.put, List.setIfInBounds_toArray, List.set_cons_zero, List.set_cons_succ, i64_w, i32_w]
                                rfl
                              refine done_ (by kernel_rfl) ?_
                              have HE := Aside0.mk hHeld.2.2.2
                              clear hHeld
                              go_wp2_with (fail)
                              exact ⟨⟨i + 1, A6, c6, A7, c7, L, by go_num, by omega, rfl, HLM, HE⟩, by simp [intOf]; omega⟩
                      · as_aux_lemma =>
                          have h50 : wr.cell? ⟨b5, 0, none⟩ = some (.int .i64 m0) := (blk_cell HMS.out.h5 0).trans rfl
                          clear h50
                          have hy5 := HMx.out.h5
                          have hg0 : (wr.alloc (.cells #[.int .i64 x.f0, .int .u64 x.f1, .int .u64 x.f2, .int .u64 x.f3, .int .u8 x.f4, .slice Al x.f5.length cl, .int .i64 x.f6.f0, .int .u64 x.f6.f1, .int .u64 x.f6.f2, .bool x.f6.f3] 49 (0, 0))).cell? ⟨b5, 0, none⟩ = some (.int .i64 m0) := (blk_cell hy5 0).trans rfl
                          have hg1 : (wr.alloc (.cells #[.int .i64 x.f0, .int .u64 x.f1, .int .u64 x.f2, .int .u64 x.f3, .int .u8 x.f4, .slice Al x.f5.length cl, .int .i64 x.f6.f0, .int .u64 x.f6.f1, .int .u64 x.f6.f2, .bool x.f6.f3] 49 (0, 0))).cell? ⟨b5, 1, none⟩ = some (.int .i64 m1) := (blk_cell hy5 1).trans rfl
                          have hg2 : (wr.alloc (.cells #[.int .i64 x.f0, .int .u64 x.f1, .int .u64 x.f2, .int .u64 x.f3, .int .u8 x.f4, .slice Al x.f5.length cl, .int .i64 x.f6.f0, .int .u64 x.f6.f1, .int .u64 x.f6.f2, .bool x.f6.f3] 49 (0, 0))).cell? ⟨b5, 2, none⟩ = some (.bool m2) := (blk_cell hy5 2).trans rfl
                          clear hy5
                          by_cases hm4 : most > 4 ∧ ¬ (m2 = true ∧ m1 ≤ 4)
                          · obtain ⟨hm5, hm6⟩ := hm4
                            cases m2 with
                            | false =>
                              go_wp2_with (fail)
                              go_ret
                              exact ⟨rfl, HMx.out.below⟩
                            | true =>
                              have hm7 : ¬ m1 ≤ 4 := fun h => hm6 ⟨rfl, h⟩
                              clear hm6
                              go_wp2_with (fail)
                              go_ret
                              exact ⟨rfl, HMx.out.below⟩
                          · have hmm : memMost m1 m2 most ≤ 4 := by
                              unfold memMost mn
                              cases m2 with
                              | false =>
                                have : most ≤ 4 := by
                                  rcases Int.lt_or_le 4 most with h | h
                                  · exact absurd ⟨h, fun h2 => by cases h2.1⟩ hm4
                                  · exact h
                                repeat' split
                                all_goals first | omega | (rename_i hh; cases hh)
                              | true =>
                                have : most ≤ 4 ∨ m1 ≤ 4 := by
                                  rcases Int.lt_or_le 4 most with h | h
                                  · rcases Int.lt_or_le 4 m1 with h2 | h2
                                    · exact absurd ⟨h, fun h3 => by have := h3.2; omega⟩ hm4
                                    · exact .inr h2
                                  · exact .inl h
                                rw [if_pos rfl]
                                repeat' split
                                all_goals omega
                            have HMM := Aside0.mk hmm
                            have HM4 := Aside0.mk hm4
                            clear hmm hm4
                            obtain ⟨G1, hG1⟩ : ∃ G1, G1 = (mem_Grow L m1 m2 x.f3 most).1 := ⟨_, rfl⟩
                            obtain ⟨G2, hG2⟩ : ∃ G2, G2 = (mem_Grow L m1 m2 x.f3 most).2 := ⟨_, rfl⟩
                            have HMG := Aside0.mk (show mem_Grow L m1 m2 x.f3 most = (G1, G2) by rw [hG1, hG2])
                            have HLM := Aside0.mk (show G1.length ≤ 327680 from by rw [hG1]; exact grow_bound L m1 m2 x.f3 most HX.out.k3.1 HMM.out HLb.out)
                            clear hG1 hG2
                            have key : ∀ (wx : World) (b13 : Nat), True := fun _ _ => trivial
                            clear key
                            by_cases hm5 : most > 4
                            · have hm8 : m2 = true ∧ m1 ≤ 4 := Classical.byContradiction (fun h => HM4.out ⟨hm5, h⟩)
                              obtain ⟨hm9, hm10⟩ := hm8
                              subst hm9
                              go_wp2_with (fail)
                              generalize hb13 : wr.heap.size = b13 at HAx ⊢
                              generalize wr.alloc _ = wx at HMx HAx ⊢
                              clear hb13
                              refine (mem_Grow.calls w.heap.size g m0 m1 true (.slice A7 L.length c7) L x.f3 most w wx HX.out.k3.1 HMx.out.below HMx.out.mem).mono ?_
                              rintro e wa ⟨B7, rfl, q1, q2, q3, q4⟩
                              rw [HMG.out] at q1 ⊢
                              obtain ⟨A8, c8, rfl⟩ := Kd.R_slice q1.row
                              have HMS2 := Aside0.mk (HMx.out.grow q1 q2 q3 q4)
                              have HA2 := Aside0.mk (HMx.out.act HAx.out q3)
                              have HRG := Aside0.mk (refGrow_is L m0 m1 true x.f3 most HX.out.k3.1 (by have := HLb.out; omega))
                              clear q1 q2 q3 q4 HMx HAx hg0 hg1 hg2
                              have hy0 : wa.cell? ⟨b13, 0, none⟩ = some (.int .i64 x.f0) := (blk_cell HA2.out 0).trans rfl
                              have hy1 : wa.cell? ⟨b13, 1, none⟩ = some (.int .u64 x.f1) := (blk_cell HA2.out 1).trans rfl
                              have hy2 : wa.cell? ⟨b13, 2, none⟩ = some (.int .u64 x.f2) := (blk_cell HA2.out 2).trans rfl
                              have hy3 : wa.cell? ⟨b13, 3, none⟩ = some (.int .u64 x.f3) := (blk_cell HA2.out 3).trans rfl
                              have hy4 : wa.cell? ⟨b13, 4, none⟩ = some (.int .u8 x.f4) := (blk_cell HA2.out 4).trans rfl
                              have hy5 : wa.cell? ⟨b13, 5, none⟩ = some (.slice Al x.f5.length cl) := (blk_cell HA2.out 5).trans rfl
                              have hg0 : wa.cell? ⟨b5, 0, none⟩ = some (.int .i64 m0) := (blk_cell HMS2.out.h5 0).trans rfl
                              have hg1 : wa.cell? ⟨b5, 1, none⟩ = some (.int .i64 m1) := (blk_cell HMS2.out.h5 1).trans rfl
                              have hg2 : wa.cell? ⟨b5, 2, none⟩ = some (.bool true) := (blk_cell HMS2.out.h5 2).trans rfl
                              go_wp2_with (fail)
                              refine (bodkinref13_Grow.calls 5 (fun k => (Value.slice A6 L.length c6).ownBlock = some k) (.slice A6 L.length c6) L m0 m1 true x.f3 most G1 G2 w wa HMS2.out.below HMS2.out.row (by rw [HRG.out, HMG.out])).mono ?_
                              rintro e wb ⟨v9, rfl, q1, q2, q3⟩
                              have hms := HMS2.out.call q3 q1 q2
                              obtain ⟨A9, c9, rfl⟩ := Kd.R_slice hms.row
                              have HM3 := Aside0.mk hms
                              clear q1 q2 q3 hms HMS2 hg0 hg1 hg2
                              go_wp2_with (fail)
                              refine start_ (n := 13) (S := fun w' => w'.cell? ⟨g, 3, none⟩ = some (.slice A8 G1.length c8) ∧ (convert 29 9 (.slice A8 G1.length c8)).run Try.prog w' = .ok (.string (strOfNums G1)) w' ∧ (convert 29 9 (.slice A9 G1.length c9)).run Try.prog w' = .ok (.string (strOfNums G1)) w' ∧ MS w w.heap.size b5 g m0 m1 true (.slice A8 G1.length c8) (.slice A9 G1.length c9) G1 G1 w') (ds := []) #[false, false, false, false, false, false, false, false, false, false, false, false, false] (by kernel_rfl) rfl rfl ⟨((blk_cell HM3.out.mem.at_ 3).trans rfl), (own_string (P := Try.prog) (dst := 9) Try.underlying29 Try.underlying5 Try.underlying9 (Kd.own_of_R HM3.out.drew.mem.row)), (own_string (P := Try.prog) (dst := 9) Try.underlying29 Try.underlying5 Try.underlying9 (Kd.own_of_R HM3.out.drew.row)), HM3.out.drew⟩ (fun hHeld => ?_)
                              refine pure_ (i := 0) (N := some 252) (v := ?_) (a' := ?_) #[true, false, false, false, false, false, false, false, false, false, false, false, false] rfl rfl (by kernel_rfl) (fun _ _ _ h => h) (Or.inl ⟨by rfl, ?_⟩) ?_ ?_
                              rotate_left
                              · intro w'
                                go_simp
                                with_reducible rfl
                              rotate_left
                              · simp only [Act.put, List.setIfInBounds_toArray, List.set_cons_zero, List.set_cons_succ, i64_w, i32_w]
                                rfl
                              refine pure_ (i := 1) (N := some 253) (v := ?_) (a' := ?_) #[true, true, false, false, false, false, false, false, false, false, false, false, false] rfl rfl (by kernel_rfl) (fun _ _ _ h => h) (Or.inl ⟨by rfl, ?_⟩) ?_ ?_
                              rotate_left
                              · intro w'
                                go_simp
                                with_reducible rfl
                              rotate_left
                              · simp only [Act.put, List.setIfInBounds_toArray, List.set_cons_zero, List.set_cons_succ, i64_w, i32_w]
                                rfl
                              refine pure_ (i := 2) (N := some 254) (v := ?_) (a' := ?_) #[true, true, true, false, false, false, false, false, false, false, false, false, false] rfl rfl (by kernel_rfl) (fun _ _ _ h => h) (Or.inl ⟨by rfl, ?_⟩) ?_ ?_
                              rotate_left
                              · intro w'
                                go_simp
                                with_reducible rfl
                              rotate_left
                              · simp only [Act.put, List.setIfInBounds_toArray, List.set_cons_zero, List.set_cons_succ, i64_w, i32_w]
                                rfl
                              refine pure_ (i := 3) (N := some 255) (v := ?_) (a' := ?_) #[true, true, true, true, false, false, false, false, false, false, false, false, false] rfl rfl (by kernel_rfl) (fun _ _ _ h => h) (Or.inl ⟨by rfl, ?_⟩) ?_ ?_
                              rotate_left
                              · intro w'
                                go_simp
                                with_reducible rfl
                              rotate_left
                              · simp only [Act.put, List.setIfInBounds_toArray, List.set_cons_zero, List.set_cons_succ, i64_w, i32_w]
                                rfl
                              refine pure_ (i := 4) (N := some 256) (v := ?_) (a' := ?_) #[true, true, true, true, true, false, false, false, false, false, false, false, false] rfl rfl (by kernel_rfl) (fun _ _ _ h => h) (Or.inl ⟨by rfl, ?_⟩) ?_ ?_
                              rotate_left
                              · intro w'
                                go_simp
                                with_reducible rfl
                              rotate_left
                              · simp only [Act.put, List.setIfInBounds_toArray, List.set_cons_zero, List.set_cons_succ, i64_w, i32_w]
                                rfl
                              refine pure_ (i := 5) (N := some 257) (v := ?_) (a' := ?_) #[true, true, true, true, true, true, false, false, false, false, false, false, false] rfl rfl (by kernel_rfl) (fun _ _ _ h => h) (Or.inl ⟨by rfl, ?_⟩) ?_ ?_
                              rotate_left
                              · intro w'
                                go_simp
                                with_reducible rfl
                              rotate_left
                              · simp only [Act.put, List.setIfInBounds_toArray, List.set_cons_zero, List.set_cons_succ, i64_w, i32_w]
                                rfl
                              refine pure_ (i := 6) (N := some 258) (v := ?_) (a' := ?_) #[true, true, true, true, true, true, true, false, false, false, false, false, false] rfl rfl (by kernel_rfl) (fun _ _ _ h => h) (Or.inl ⟨by rfl, ?_⟩) ?_ ?_
                              rotate_left
                              · intro w'
                                go_simp
                                with_reducible rfl
                              rotate_left
                              · simp only [Act.put, List.setIfInBounds_toArray, List.set_cons_zero, List.set_cons_succ, i64_w, i32_w]
                                rfl
                              refine pure_ (i := 9) (N := some 261) (v := ?_) (a' := ?_) #[true, true, true, true, true, true, true, false, false, true, false, false, false] rfl rfl (by kernel_rfl) (fun _ _ _ h => h) (Or.inl ⟨by rfl, ?_⟩) ?_ ?_
                              rotate_left
                              · intro w'
                                go_simp
                                with_reducible rfl
                              rotate_left
                              · simp only [Act.put, List.setIfInBounds_toArray, List.set_cons_zero, List.set_cons_succ, i64_w, i32_w]
                                rfl
                              refine take_ (i := 7) (N := some 259) (v := ?_) (a' := ?_) #[true, true, true, true, true, true, true, true, false, true, false, false, false] rfl rfl (by kernel_rfl) (fun _ _ _ h => h) (Or.inl ⟨by rfl, ?_⟩) hHeld ?_ ?_
                              rotate_left
                              · rintro w' ⟨s0, s1, s2, s3⟩
                                go_simp
                                with_reducible rfl
                              rotate_left
                              · simp only [Act.put, List.setIfInBounds_toArray, List.set_cons_zero, List.set_cons_succ, i64_w, i32_w]
                                rfl
                              refine take_ (i := 8) (N := some 260) (v := ?_) (a' := ?_) #[true, true, true, true, true, true, true, true, true, true, false, false, false] rfl rfl (by kernel_rfl) (fun _ _ _ h => h) (Or.inl ⟨by rfl, ?_⟩) hHeld ?_ ?_
                              rotate_left
                              · rintro w' ⟨s0, s1, s2, s3⟩
                                go_simp
                                with_reducible rfl
                              rotate_left
                              · simp only [Act.put, List.setIfInBounds_toArray, List.set_cons_zero, List.set_cons_succ, i64_w, i32_w]
                                rfl
                              refine take_ (i := 10) (N := some 262) (v := ?_) (a' := ?_) #[true, true, true, true, true, true, true, true, true, true, true, false, false] rfl rfl (by kernel_rfl) (fun _ _ _ h => h) (Or.inl ⟨by rfl, ?_⟩) hHeld ?_ ?_
                              rotate_left
                              · rintro w' ⟨s0, s1, s2, s3⟩
                                go_simp
                                with_reducible rfl
                              rotate_left
                              · simp only [Act.put, List.setIfInBounds_toArray, List.set_cons_zero, List.set_cons_succ, i64_w, i32_w]
                                rfl
                              refine pure_ (i := 11) (N := some 263) (v := ?_) (a' := ?_) #[true, true, true, true, true, true, true, true, true, true, true, true, false] rfl rfl (by kernel_rfl) (fun _ _ _ h => h) (Or.inl ⟨by rfl, ?_⟩) ?_ ?_
                              rotate_left
                              · intro w'
                                go_simp
                                with_reducible rfl
                              rotate_left
                              · simp only [Act.put, List.setIfInBounds_toArray, List.set_cons_zero, List.set_cons_succ, i64_w, i32_w]
                                rfl
                              refine pure_ (i := 12) (N := some 264) (v := ?_) (a' := ?_) #[true, true, true, true, true, true, true, true, true, true, true, true, true] rfl rfl (by kernel_rfl) (fun _ _ _ h => h) (Or.inl ⟨by rfl, ?_⟩) ?_ ?_
                              rotate_left
                              · intro w'
                                go_simp
                                with_reducible rfl
                              rotate_left
                              · simp only [Act.put, List.setIfInBounds_toArray, List.set_cons_zero, List.set_cons_succ, i64_w, i32_w]
                                rfl
                              refine done_ (by kernel_rfl) ?_
                              have HE := Aside0.mk hHeld.2.2.2
                              clear hHeld
                              go_wp2_with (fail)
                              exact ⟨⟨i + 1, A9, c9, A8, c8, G1, by go_num, by omega, rfl, HLM, HE⟩, by simp [intOf]; omega⟩
                            · skip
                              go_wp2_with (fail)
                              generalize hb13 : wr.heap.size = b13 at HAx ⊢
                              generalize wr.alloc _ = wx at HMx HAx ⊢
                              clear hb13
                              refine (mem_Grow.calls w.heap.size g m0 m1 m2 (.slice A7 L.length c7) L x.f3 most w wx HX.out.k3.1 HMx.out.below HMx.out.mem).mono ?_
                              rintro e wa ⟨B7, rfl, q1, q2, q3, q4⟩
                              rw [HMG.out] at q1 ⊢
                              obtain ⟨A8, c8, rfl⟩ := Kd.R_slice q1.row
                              have HMS2 := Aside0.mk (HMx.out.grow q1 q2 q3 q4)
                              have HA2 := Aside0.mk (HMx.out.act HAx.out q3)
                              have HRG := Aside0.mk (refGrow_is L m0 m1 m2 x.f3 most HX.out.k3.1 (by have := HLb.out; omega))
                              clear q1 q2 q3 q4 HMx HAx hg0 hg1 hg2
                              have hy0 : wa.cell? ⟨b13, 0, none⟩ = some (.int .i64 x.f0) := (blk_cell HA2.out 0).trans rfl
                              have hy1 : wa.cell? ⟨b13, 1, none⟩ = some (.int .u64 x.f1) := (blk_cell HA2.out 1).trans rfl
                              have hy2 : wa.cell? ⟨b13, 2, none⟩ = some (.int .u64 x.f2) := (blk_cell HA2.out 2).trans rfl
                              have hy3 : wa.cell? ⟨b13, 3, none⟩ = some (.int .u64 x.f3) := (blk_cell HA2.out 3).trans rfl
                              have hy4 : wa.cell? ⟨b13, 4, none⟩ = some (.int .u8 x.f4) := (blk_cell HA2.out 4).trans rfl
                              have hy5 : wa.cell? ⟨b13, 5, none⟩ = some (.slice Al x.f5.length cl) := (blk_cell HA2.out 5).trans rfl
                              have hg0 : wa.cell? ⟨b5, 0, none⟩ = some (.int .i64 m0) := (blk_cell HMS2.out.h5 0).trans rfl
                              have hg1 : wa.cell? ⟨b5, 1, none⟩ = some (.int .i64 m1) := (blk_cell HMS2.out.h5 1).trans rfl
                              have hg2 : wa.cell? ⟨b5, 2, none⟩ = some (.bool m2) := (blk_cell HMS2.out.h5 2).trans rfl
                              go_wp2_with (fail)
                              refine (bodkinref13_Grow.calls 5 (fun k => (Value.slice A6 L.length c6).ownBlock = some k) (.slice A6 L.length c6) L m0 m1 m2 x.f3 most G1 G2 w wa HMS2.out.below HMS2.out.row (by rw [HRG.out, HMG.out])).mono ?_
                              rintro e wb ⟨v9, rfl, q1, q2, q3⟩
                              have hms := HMS2.out.call q3 q1 q2
                              obtain ⟨A9, c9, rfl⟩ := Kd.R_slice hms.row
                              have HM3 := Aside0.mk hms
                              clear q1 q2 q3 hms HMS2 hg0 hg1 hg2
                              go_wp2_with (fail)
                              refine start_ (n := 13) (S := fun w' => w'.cell? ⟨g, 3, none⟩ = some (.slice A8 G1.length c8) ∧ (convert 29 9 (.slice A8 G1.length c8)).run Try.prog w' = .ok (.string (strOfNums G1)) w' ∧ (convert 29 9 (.slice A9 G1.length c9)).run Try.prog w' = .ok (.string (strOfNums G1)) w' ∧ MS w w.heap.size b5 g m0 m1 m2 (.slice A8 G1.length c8) (.slice A9 G1.length c9) G1 G1 w') (ds := []) #[false, false, false, false, false, false, false, false, false, false, false, false, false] (by kernel_rfl) rfl rfl ⟨((blk_cell HM3.out.mem.at_ 3).trans rfl), (own_string (P := Try.prog) (dst := 9) Try.underlying29 Try.underlying5 Try.underlying9 (Kd.own_of_R HM3.out.drew.mem.row)), (own_string (P := Try.prog) (dst := 9) Try.underlying29 Try.underlying5 Try.underlying9 (Kd.own_of_R HM3.out.drew.row)), HM3.out.drew⟩ (fun hHeld => ?_)
                              refine pure_ (i := 0) (N := some 252) (v := ?_) (a' := ?_) #[true, false, false, false, false, false, false, false, false, false, false, false, false] rfl rfl (by kernel_rfl) (fun _ _ _ h => h) (Or.inl ⟨by rfl, ?_⟩) ?_ ?_
                              rotate_left
                              · intro w'
                                go_simp
                                with_reducible rfl
                              rotate_left
                              · simp only [Act.put, List.setIfInBounds_toArray, List.set_cons_zero, List.set_cons_succ, i64_w, i32_w]
                                rfl
                              refine pure_ (i := 1) (N := some 253) (v := ?_) (a' := ?_) #[true, true, false, false, false, false, false, false, false, false, false, false, false] rfl rfl (by kernel_rfl) (fun _ _ _ h => h) (Or.inl ⟨by rfl, ?_⟩) ?_ ?_
                              rotate_left
                              · intro w'
                                go_simp
                                with_reducible rfl
                              rotate_left
                              · simp only [Act.put, List.setIfInBounds_toArray, List.set_cons_zero, List.set_cons_succ, i64_w, i32_w]
                                rfl
                              refine pure_ (i := 2) (N := some 254) (v := ?_) (a' := ?_) #[true, true, true, false, false, false, false, false, false, false, false, false, false] rfl rfl (by kernel_rfl) (fun _ _ _ h => h) (Or.inl ⟨by rfl, ?_⟩) ?_ ?_
                              rotate_left
                              · intro w'
                                go_simp
                                with_reducible rfl
                              rotate_left
                              · simp only [Act.put, List.setIfInBounds_toArray, List.set_cons_zero, List.set_cons_succ, i64_w, i32_w]
                                rfl
                              refine pure_ (i := 3) (N := some 255) (v := ?_) (a' := ?_) #[true, true, true, true, false, false, false, false, false, false, false, false, false] rfl rfl (by kernel_rfl) (fun _ _ _ h => h) (Or.inl ⟨by rfl, ?_⟩) ?_ ?_
                              rotate_left
                              · intro w'
                                go_simp
                                with_reducible rfl
                              rotate_left
                              · simp only [Act.put, List.setIfInBounds_toArray, List.set_cons_zero, List.set_cons_succ, i64_w, i32_w]
                                rfl
                              refine pure_ (i := 4) (N := some 256) (v := ?_) (a' := ?_) #[true, true, true, true, true, false, false, false, false, false, false, false, false] rfl rfl (by kernel_rfl) (fun _ _ _ h => h) (Or.inl ⟨by rfl, ?_⟩) ?_ ?_
                              rotate_left
                              · intro w'
                                go_simp
                                with_reducible rfl
                              rotate_left
                              · simp only [Act.put, List.setIfInBounds_toArray, List.set_cons_zero, List.set_cons_succ, i64_w, i32_w]
                                rfl
                              refine pure_ (i := 5) (N := some 257) (v := ?_) (a' := ?_) #[true, true, true, true, true, true, false, false, false, false, false, false, false] rfl rfl (by kernel_rfl) (fun _ _ _ h => h) (Or.inl ⟨by rfl, ?_⟩) ?_ ?_
                              rotate_left
                              · intro w'
                                go_simp
                                with_reducible rfl
                              rotate_left
                              · simp only [Act.put, List.setIfInBounds_toArray, List.set_cons_zero, List.set_cons_succ, i64_w, i32_w]
                                rfl
                              refine pure_ (i := 6) (N := some 258) (v := ?_) (a' := ?_) #[true, true, true, true, true, true, true, false, false, false, false, false, false] rfl rfl (by kernel_rfl) (fun _ _ _ h => h) (Or.inl ⟨by rfl, ?_⟩) ?_ ?_
                              rotate_left
                              · intro w'
                                go_simp
                                with_reducible rfl
                              rotate_left
                              · simp only [Act.put, List.setIfInBounds_toArray, List.set_cons_zero, List.set_cons_succ, i64_w, i32_w]
                                rfl
                              refine pure_ (i := 9) (N := some 261) (v := ?_) (a' := ?_) #[true, true, true, true, true, true, true, false, false, true, false, false, false] rfl rfl (by kernel_rfl) (fun _ _ _ h => h) (Or.inl ⟨by rfl, ?_⟩) ?_ ?_
                              rotate_left
                              · intro w'
                                go_simp
                                with_reducible rfl
                              rotate_left
                              · simp only [Act.put, List.setIfInBounds_toArray, List.set_cons_zero, List.set_cons_succ, i64_w, i32_w]
                                rfl
                              refine take_ (i := 7) (N := some 259) (v := ?_) (a' := ?_) #[true, true, true, true, true, true, true, true, false, true, false, false, false] rfl rfl (by kernel_rfl) (fun _ _ _ h => h) (Or.inl ⟨by rfl, ?_⟩) hHeld ?_ ?_
                              rotate_left
                              · rintro w' ⟨s0, s1, s2, s3⟩
                                go_simp
                                with_reducible rfl
                              rotate_left
                              · simp only [Act.put, List.setIfInBounds_toArray, List.set_cons_zero, List.set_cons_succ, i64_w, i32_w]
                                rfl
                              refine take_ (i := 8) (N := some 260) (v := ?_) (a' := ?_) #[true, true, true, true, true, true, true, true, true, true, false, false, false] rfl rfl (by kernel_rfl) (fun _ _ _ h => h) (Or.inl ⟨by rfl, ?_⟩) hHeld ?_ ?_
                              rotate_left
                              · rintro w' ⟨s0, s1, s2, s3⟩
                                go_simp
                                with_reducible rfl
                              rotate_left
                              · simp only [Act.put, List.setIfInBounds_toArray, List.set_cons_zero, List.set_cons_succ, i64_w, i32_w]
                                rfl
                              refine take_ (i := 10) (N := some 262) (v := ?_) (a' := ?_) #[true, true, true, true, true, true, true, true, true, true, true, false, false] rfl rfl (by kernel_rfl) (fun _ _ _ h => h) (Or.inl ⟨by rfl, ?_⟩) hHeld ?_ ?_
                              rotate_left
                              · rintro w' ⟨s0, s1, s2, s3⟩
                                go_simp
                                with_reducible rfl
                              rotate_left
                              · simp only [Act.put, List.setIfInBounds_toArray, List.set_cons_zero, List.set_cons_succ, i64_w, i32_w]
                                rfl
                              refine pure_ (i := 11) (N := some 263) (v := ?_) (a' := ?_) #[true, true, true, true, true, true, true, true, true, true, true, true, false] rfl rfl (by kernel_rfl) (fun _ _ _ h => h) (Or.inl ⟨by rfl, ?_⟩) ?_ ?_
                              rotate_left
                              · intro w'
                                go_simp
                                with_reducible rfl
                              rotate_left
                              · simp only [Act.put, List.setIfInBounds_toArray, List.set_cons_zero, List.set_cons_succ, i64_w, i32_w]
                                rfl
                              refine pure_ (i := 12) (N := some 264) (v := ?_) (a' := ?_) #[true, true, true, true, true, true, true, true, true, true, true, true, true] rfl rfl (by kernel_rfl) (fun _ _ _ h => h) (Or.inl ⟨by rfl, ?_⟩) ?_ ?_
                              rotate_left
                              · intro w'
                                go_simp
                                with_reducible rfl
                              rotate_left
                              · simp only [Act.put, List.setIfInBounds_toArray, List.set_cons_zero, List.set_cons_succ, i64_w, i32_w]
                                rfl
                              refine done_ (by kernel_rfl) ?_
                              have HE := Aside0.mk hHeld.2.2.2
                              clear hHeld
                              go_wp2_with (fail)
                              exact ⟨⟨i + 1, A9, c9, A8, c8, G1, by go_num, by omega, rfl, HLM, HE⟩, by simp [intOf]; omega⟩
          · go_wp2_with (fail)
            go_ret
            exact ⟨rfl, HMS.out.below⟩
        · go_wp2_with (fail)
          go_ret
          exact ⟨rfl, HMS.out.below⟩
end Go.Proofs.Ytjpbmmncakcbhaa.PA
