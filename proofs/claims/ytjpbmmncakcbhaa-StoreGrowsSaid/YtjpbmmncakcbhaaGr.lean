/- The law StoreGrows walked: whatever the input, true. -/
import Derived.Test.YtjpbmmncakcbhaaPg
import Derived.Test.YtjpbmmncakcbhaaBk
namespace Go.Proofs.Ytjpbmmncakcbhaa.PA
open Go.RowKit Go.Proofs.YtjpbmmncakcbhaaW.PrintWords Go.Proofs.YtjpbmmncakcbhaaW.PrintLast Go.Proofs.YtjpbmmncakcbhaaW.PrintMore
attribute [local go_sem] max2_int min2_int max_two min_two max_three min_three max_four min_four
set_option linter.unusedVariables false
set_option linter.unusedSimpArgs false

theorem and_one (a : Int) : Go.bits .and .i64 a 1 = 0 ∨ Go.bits .and .i64 a 1 = 1 := by
  show IntKind.i64.wrap ((BitVec.ofInt 64 a &&& BitVec.ofInt 64 1).toNat : Int) = 0 ∨ IntKind.i64.wrap ((BitVec.ofInt 64 a &&& BitVec.ofInt 64 1).toNat : Int) = 1
  rw [BitVec.toNat_and, show (BitVec.ofInt 64 1).toNat = 1 by decide, Nat.and_one_is_mod]
  rcases Nat.mod_two_eq_zero_or_one (BitVec.ofInt 64 a).toNat with h | h <;> rw [h]
  · exact .inl (by decide)
  · exact .inr (by decide)

/-- What StoreGrows has in memory beside its tables: the limits, the value, the memory, the reference's bytes. -/
structure GS (w0 : World) (base b5 b8 g : Nat) (m0 mx : Int) (x : S26) (B v : Value) (Lm Lv : List Int) (w : World) : Prop where
  h5 : w.heap[b5]? = some (.cells #[.int .i64 m0, .int .i64 mx, .bool true] 23 (0, 0))
  h8 : w.heap[b8]? = some (.cells #[.int .i64 x.f0, .int .u64 x.f1, .int .u64 x.f2, .bool x.f3] 26 (0, 0))
  mem : MemAt w base g m0 mx true B Lm
  row : Kd.R (Kd.int .u8) 5 w base (fun k => v.ownBlock = some k) v Lv
  sep : ∀ k, v.ownBlock = some k → k ≠ g ∧ B.ownBlock ≠ some k
  below : Below base w0 w
theorem GS.step {w0 w w1 : World} {base b5 b8 g : Nat} {m0 mx : Int} {x : S26} {B v : Value} {Lm Lv : List Int} {S : Nat → Prop} (h : GS w0 base b5 b8 g m0 mx x B v Lm Lv w) (hk : Kept w w1 S)
    (hS : ∀ k, S k → k ≠ b5 ∧ k ≠ b8 ∧ k ≠ g ∧ B.ownBlock ≠ some k ∧ v.ownBlock ≠ some k) (hb : Below base w0 w1) : GS w0 base b5 b8 g m0 mx x B v Lm Lv w1 :=
  ⟨blk_kept h.h5 hk (fun e => (hS _ e).1 rfl), blk_kept h.h8 hk (fun e => (hS _ e).2.1 rfl), h.mem.keep hk (fun e => (hS _ e).2.2.1 rfl) (fun k hk' e => (hS _ e).2.2.2.1 hk'),
    Kd.R_step h.row (fun k ho hlt => hk.2 k hlt (fun e => (hS _ e).2.2.2.2 ho)), h.sep, hb⟩
theorem GS.size {w0 w : World} {base b5 b8 g : Nat} {m0 mx : Int} {x : S26} {B v : Value} {Lm Lv : List Int} (h : GS w0 base b5 b8 g m0 mx x B v Lm Lv w) : base ≤ w.heap.size :=
  Nat.le_trans h.mem.le (Nat.le_of_lt (blk_lt h.mem.at_))
theorem GS.new {w0 w w1 : World} {base b5 b8 g : Nat} {m0 mx : Int} {x : S26} {B v : Value} {Lm Lv : List Int} (h : GS w0 base b5 b8 g m0 mx x B v Lm Lv w) (hb : Below w.heap.size w w1) : GS w0 base b5 b8 g m0 mx x B v Lm Lv w1 :=
  h.step (Kept.of_below hb (fun _ => False)) (fun _ e => e.elim) (h.below.trans (hb.mono h.size))
theorem GS.alloc {w0 w : World} {base b5 b8 g : Nat} {m0 mx : Int} {x : S26} {B v : Value} {Lm Lv : List Int} (h : GS w0 base b5 b8 g m0 mx x B v Lm Lv w) (o : Obj) : GS w0 base b5 b8 g m0 mx x B v Lm Lv (w.alloc o) :=
  h.new (below_alloc (Below.refl _ _) o)
theorem GS.drew {w0 w : World} {base b5 b8 g : Nat} {m0 mx : Int} {x : S26} {B v : Value} {Lm Lv : List Int} (h : GS w0 base b5 b8 g m0 mx x B v Lm Lv w) : GS w0 base b5 b8 g m0 mx x B v Lm Lv w.drew :=
  h.new (below_drew1 (Below.refl _ _))

theorem GS.putv {w0 w w1 : World} {base b5 b8 g : Nat} {m0 mx : Int} {x : S26} {B v : Value} {Lm Lv Lv' : List Int} (h : GS w0 base b5 b8 g m0 mx x B v Lm Lv w) (hg : w.grownBy w1 v.ownBlock)
    (hR : Kd.R (Kd.int .u8) 5 w1 base (fun k => v.ownBlock = some k) v Lv') : GS w0 base b5 b8 g m0 mx x B v Lm Lv' w1 :=
  ⟨blk_grown h.h5 hg (Kd.R_ne h.row h.h5 (by decide)), blk_grown h.h8 hg (Kd.R_ne h.row h.h8 (by decide)),
    h.mem.keep (S := fun k => v.ownBlock = some k) ⟨hg.size, fun i hi hS => hg.block i hi (fun e => hS e.symm)⟩ (fun e => (h.sep _ e).1 rfl) (fun k hk e => (h.sep _ e).2 hk), hR, h.sep,
    h.below.grown hg h.size (Kd.R_base h.row)⟩
theorem GS.putm {w0 w w1 : World} {base b5 b8 g : Nat} {m0 mx : Int} {x : S26} {B v : Value} {Lm Lm' Lv : List Int} (h : GS w0 base b5 b8 g m0 mx x B v Lm Lv w) (hg : w.grownBy w1 B.ownBlock)
    (hR : Kd.R (Kd.int .u8) 5 w1 base (fun k => B.ownBlock = some k) B Lm') : GS w0 base b5 b8 g m0 mx x B v Lm' Lv w1 :=
  ⟨blk_grown h.h5 hg (Kd.R_ne h.mem.row h.h5 (by decide)), blk_grown h.h8 hg (Kd.R_ne h.mem.row h.h8 (by decide)),
    h.mem.grown hg hR, Kd.R_step h.row (fun k ho hlt => hg.block k hlt (fun e => (h.sep k ho).2 e.symm)), h.sep, h.below.grown hg h.size (Kd.R_base h.mem.row)⟩

theorem GS.call {w0 w w1 : World} {base b5 b8 g : Nat} {m0 mx : Int} {x : S26} {B v v' : Value} {Lm Lv Lv' : List Int} (h : GS w0 base b5 b8 g m0 mx x B v Lm Lv w) (hk : Kept w w1 (fun k => v.ownBlock = some k))
    (hR : Kd.R (Kd.int .u8) 5 w1 base (fun k => v.ownBlock = some k ∨ w.heap.size ≤ k) v' Lv') (hb : Below base w0 w1) : GS w0 base b5 b8 g m0 mx x B v' Lm Lv' w1 :=
  ⟨blk_kept h.h5 hk (fun e => Kd.R_ne h.row h.h5 (by decide) e.symm), blk_kept h.h8 hk (fun e => Kd.R_ne h.row h.h8 (by decide) e.symm),
    h.mem.keep hk (fun e => (h.sep _ e).1 rfl) (fun k hk' e => (h.sep _ e).2 hk'), Kd.R_reok rfl hR (fun _ e => e),
    fun k e => by
      rcases hR.1 k e with h1 | h1
      · exact h.sep k h1
      · have h2 := blk_lt h.mem.at_
        exact ⟨by omega, fun e2 => by have := Kd.R_lt h.mem.row k e2; omega⟩, hb⟩
theorem GS.grow {w0 w w1 : World} {base b5 b8 g : Nat} {m0 mx : Int} {x : S26} {B B' v : Value} {Lm Lm' Lv : List Int} (h : GS w0 base b5 b8 g m0 mx x B v Lm Lv w) (hM : MemAt w1 base g m0 mx true B' Lm') (hb : Below base w0 w1)
    (hk : Kept w w1 (memS g B)) (ho : ∀ k, B'.ownBlock = some k → B.ownBlock = some k ∨ w.heap.size ≤ k) : GS w0 base b5 b8 g m0 mx x B' v Lm' Lv w1 :=
  ⟨blk_kept h.h5 hk (fun e => e.elim (fun e => blk_ne h.h5 h.mem.at_ (by decide) e) (fun e => Kd.R_ne h.mem.row h.h5 (by decide) e.symm)),
    blk_kept h.h8 hk (fun e => e.elim (fun e => blk_ne h.h8 h.mem.at_ (by decide) e) (fun e => Kd.R_ne h.mem.row h.h8 (by decide) e.symm)), hM,
    Kd.R_step h.row (fun k ho2 hlt => hk.2 k hlt (fun e => e.elim (fun e => (h.sep k ho2).1 e) (fun e => (h.sep k ho2).2 e))),
    fun k e => ⟨(h.sep k e).1, fun e2 => (ho k e2).elim (fun e3 => (h.sep k e).2 e3) (fun e3 => by have := Kd.R_lt h.row k e; omega)⟩, hb⟩

/-- .. and with its table. -/
structure GT (w0 : World) (base b5 b8 g gt : Nat) (m0 mx : Int) (x : S26) (B v Bt : Value) (Lm Lv : List Int) (Lt : List S26) (w : World) : Prop where
  gs : GS w0 base b5 b8 g m0 mx x B v Lm Lv w
  tab : TabAt w base gt 0 m0 mx true Bt Lt
  sep : ∀ k, memS gt Bt k → k ≠ b5 ∧ k ≠ b8 ∧ k ≠ g ∧ B.ownBlock ≠ some k ∧ v.ownBlock ≠ some k
theorem GT.new {w0 w w1 : World} {base b5 b8 g gt : Nat} {m0 mx : Int} {x : S26} {B v Bt : Value} {Lm Lv : List Int} {Lt : List S26} (h : GT w0 base b5 b8 g gt m0 mx x B v Bt Lm Lv Lt w) (hk : Kept w w1 (fun _ => False)) (hb : Below base w0 w1) : GT w0 base b5 b8 g gt m0 mx x B v Bt Lm Lv Lt w1 :=
  ⟨h.gs.step hk (fun _ e => e.elim) hb, h.tab.kept hk (fun e => e) (fun _ _ e => e), h.sep⟩
theorem GT.drew {w0 w : World} {base b5 b8 g gt : Nat} {m0 mx : Int} {x : S26} {B v Bt : Value} {Lm Lv : List Int} {Lt : List S26} (h : GT w0 base b5 b8 g gt m0 mx x B v Bt Lm Lv Lt w) : GT w0 base b5 b8 g gt m0 mx x B v Bt Lm Lv Lt w.drew :=
  h.new (Kept.drew (Kept.refl _ _)) (below_drew1 h.gs.below)

/-- From the memory's making on. b5, b8: the limits and the value, addressed. -/
def GrowsPost (w0 : World) (e : Ending) (w' : World) : Prop := e = .returned (.bool true) ∧ Below w0.heap.size w0 w'

set_option maxHeartbeats 32000000 in
set_option maxRecDepth 100000 in
theorem StoreGrows.walk (m0 m1 : Int) (m2 : Bool) (n most : Int) (x : S26) (before : Int) (w : World) (hn : 0 ≤ n ∧ n < 18446744073709551616) (hmost : -9223372036854775808 ≤ most ∧ most < 9223372036854775808) (hm1 : -9223372036854775808 ≤ m1 ∧ m1 < 9223372036854775808) :
    Calls Try.prog 3 #[.agg #[.int .i64 m0, .int .i64 m1, .bool m2], .int .u64 n, .int .i64 most, .agg #[.int .i64 x.f0, .int .u64 x.f1, .int .u64 x.f2, .bool x.f3], .int .i64 before] w fun e w' => e = .returned (.bool true) ∧ Below w.heap.size w w' := by
  obtain ⟨hn0, hn1⟩ := hn
  obtain ⟨hs0, hs1⟩ := hmost
  obtain ⟨hx0, hx1⟩ := hm1
  have hk := and_one before
  generalize hkk : Go.bits .and .i64 before 1 = kk at hk
  have HK := Aside0.mk hk
  have hz1 : (w.alloc (.cells #[.int .i64 m0, .int .i64 m1, .bool m2] 23 (0, 0))).heap.size = w.heap.size + 1 := by show (w.heap.push _).size = _; exact Array.size_push _
  have hz2 : ((w.alloc (.cells #[.int .i64 m0, .int .i64 m1, .bool m2] 23 (0, 0))).alloc (.cells #[.int .i64 x.f0, .int .u64 x.f1, .int .u64 x.f2, .bool x.f3] 26 (0, 0))).heap.size = w.heap.size + 2 := by
    show ((w.alloc _).heap.push _).size = _
    rw [Array.size_push, hz1]
  have HZ2 := Aside0.mk hz2
  have H5 := Aside0.mk ((Below.heap_alloc (w.alloc (.cells #[.int .i64 m0, .int .i64 m1, .bool m2] 23 (0, 0))) (.cells #[.int .i64 x.f0, .int .u64 x.f1, .int .u64 x.f2, .bool x.f3] 26 (0, 0)) w.heap.size (by omega)).trans (alloc_at w (.cells #[.int .i64 m0, .int .i64 m1, .bool m2] 23 (0, 0))))
  have H8 := Aside0.mk (show ((w.alloc (.cells #[.int .i64 m0, .int .i64 m1, .bool m2] 23 (0, 0))).alloc (.cells #[.int .i64 x.f0, .int .u64 x.f1, .int .u64 x.f2, .bool x.f3] 26 (0, 0))).heap[w.heap.size + 1]? = some (.cells #[.int .i64 x.f0, .int .u64 x.f1, .int .u64 x.f2, .bool x.f3] 26 (0, 0)) by rw [← hz1]; exact alloc_at _ _)
  have HB0 := Aside0.mk (below_alloc (below_alloc (Below.refl w.heap.size w) (.cells #[.int .i64 m0, .int .i64 m1, .bool m2] 23 (0, 0))) (.cells #[.int .i64 x.f0, .int .u64 x.f1, .int .u64 x.f2, .bool x.f3] 26 (0, 0)))
  clear hz1 hz2
  go_enter Try.func3, Try.ntmps3
  go_wp2_with (fail)
  refine (awake.calls _).mono ?_
  rintro e w1 ⟨rfl, q1⟩
  have HB1 := Aside0.mk (HB0.out.trans (q1.mono HB0.out.size))
  have H51 := Aside0.mk ((q1.block w.heap.size (by rw [HZ2.out]; omega)).trans H5.out)
  have H81 := Aside0.mk ((q1.block (w.heap.size + 1) (by rw [HZ2.out]; omega)).trans H8.out)
  clear q1 H5 H8 HB0 HZ2
  generalize hb5 : w.heap.size = b5 at H51 H81 ⊢
  generalize hb8 : b5 + 1 = b8 at H81 ⊢
  have HV5 := Aside0.mk hb5
  have HV8 := Aside0.mk hb8
  clear hb5 hb8
  have h50 : w1.cell? ⟨b5, 0, none⟩ = some (.int .i64 m0) := (blk_cell H51.out 0).trans rfl
  have h51 : w1.cell? ⟨b5, 1, none⟩ = some (.int .i64 m1) := (blk_cell H51.out 1).trans rfl
  have h52 : w1.cell? ⟨b5, 2, none⟩ = some (.bool m2) := (blk_cell H51.out 2).trans rfl
  have f50 := blk_frozen H51.out 0
  have f51 := blk_frozen H51.out 1
  have f52 := blk_frozen H51.out 2
  go_upto_region 5 with (fail)
  go_cut [35] (fun v35 wc => ∃ c : Bool, v35 = .bool c ∧ Aside0 (c = (!m2 || decide (4 < m1))) ∧ wc = w1)
  case first =>
    cases m2 with
    | false =>
      go_wp2_with (fail)
      go_meet
      case rel => exact ⟨_, rfl, ⟨rfl⟩, rfl⟩
    | true =>
      go_wp2_with (fail)
      go_meet
      case rel => exact ⟨_, rfl, ⟨rfl⟩, rfl⟩
  case rest =>
    obtain ⟨c, rfl, HC, rfl⟩ := hcut
    go_upto_if 35 with (fail)
    go_cut [] (fun wc => ∃ mx : Int, mx ≤ 4 ∧ Aside0 (wc.heap[b5]? = some (.cells #[.int .i64 m0, .int .i64 mx, .bool true] 23 (0, 0))) ∧ Aside0 (wc.heap[b8]? = some (.cells #[.int .i64 x.f0, .int .u64 x.f1, .int .u64 x.f2, .bool x.f3] 26 (0, 0))) ∧ Aside0 (Below w.heap.size w wc))
    case first =>
      cases c with
      | false =>
        go_wp2_with (fail)
        go_meet
        case rel =>
          have h := HC.out
          cases m2 with
          | false => cases h
          | true =>
            have h4 : decide (4 < m1) = false := h.symm
            have h5 := of_decide_eq_false h4
            exact ⟨m1, by omega, ⟨H51.out⟩, ⟨H81.out⟩, ⟨HB1.out⟩⟩
      | true =>
        go_wp2_with (fail)
        go_meet
        case rel =>
          have h5 : w.heap.size ≤ b5 := Nat.le_of_eq HV5.out
          have h8 : b8 ≠ b5 := by have := HV8.out; omega
          exact ⟨4, Int.le_refl _, ⟨blk_put (cs := #[.int .i64 m0, .int .i64 4, .bool m2]) (blk_put (cs := #[.int .i64 m0, .int .i64 m1, .bool m2]) (blk_put (cs := #[.int .i64 m0, .int .i64 m1, .bool m2]) H51.out 0 _ rfl) 1 _ rfl) 2 _ rfl⟩,
            ⟨blk_far (blk_far (blk_far H81.out (p := ⟨b5, 0, none⟩) h8 _) (p := ⟨b5, 1, none⟩) h8 _) (p := ⟨b5, 2, none⟩) h8 _⟩, ⟨((HB1.out.setCell (p := ⟨b5, 0, none⟩) h5 _).setCell (p := ⟨b5, 1, none⟩) h5 _).setCell (p := ⟨b5, 2, none⟩) h5 _⟩⟩
    case rest =>
      obtain ⟨mx, hmx, H52, H82, HB2⟩ := hcut
      clear h50 h51 h52 f50 f51 f52 H51 H81 HB1
      obtain ⟨N, hN⟩ : ∃ N : Int, N = kk * 65536 := ⟨_, rfl⟩
      have hN2 : N = 0 ∨ N = 65536 := by have := HK.out; omega
      have hmul : wrap64 N = N := w64 (by omega) (by omega)
      have hmul1 : IntKind.i64.wrap N = N := by unfold IntKind.wrap; simp [IntKind.signed, IntKind.bits]; omega
      have hmul2 : kk * 65536 = N := hN.symm
      have hkk0 : 0 ≤ kk := by omega
      have hkk1 : kk ≤ 1 := by omega
      have HN := Aside0.mk hN2
      have HN0 := Aside0.mk (show 0 ≤ N by omega)
      have HN1 := Aside0.mk (show N.toNat * 1 ≤ 281474976710656 by omega)
      clear hk hN2 hN
      go_wp2_with (fail)
      refine start_ (n := 7) (S := fun w' => w'.cell? ⟨b5, 0, none⟩ = some (.int .i64 m0) ∧ w'.cell? ⟨b5, 1, none⟩ = some (.int .i64 mx) ∧ w'.cell? ⟨b5, 2, none⟩ = some (.bool true) ∧ w'.heap[b5]? = some (.cells #[.int .i64 m0, .int .i64 mx, .bool true] 23 (0, 0)) ∧ w'.heap[b8]? = some (.cells #[.int .i64 x.f0, .int .u64 x.f1, .int .u64 x.f2, .bool x.f3] 26 (0, 0)) ∧ Below w.heap.size w w') (ds := [5]) #[false, false, false, false, false, false, false] (by kernel_rfl) rfl rfl ⟨((blk_cell H52.out 0).trans rfl), ((blk_cell H52.out 1).trans rfl), ((blk_cell H52.out 2).trans rfl), H52.out, H82.out, (below_drew1 HB2.out)⟩ (fun hHeld => ?_)
      refine pure_ (i := 1) (N := some 40) (v := ?_) (a' := ?_) #[false, true, false, false, false, false, false] rfl rfl (by kernel_rfl) (fun _ _ _ h => h) (Or.inl ⟨by rfl, ?_⟩) ?_ ?_
      rotate_left
      · intro w'
        go_simp
        with_reducible rfl
      rotate_left
      · simp only [Act.put, List.setIfInBounds_toArray, List.set_cons_zero, List.set_cons_succ, i64_w, i32_w]
        rfl
      refine pure_ (i := 2) (N := some 41) (v := ?_) (a' := ?_) #[false, true, true, false, false, false, false] rfl rfl (by kernel_rfl) (fun _ _ _ h => h) (Or.inl ⟨by rfl, ?_⟩) ?_ ?_
      rotate_left
      · intro w'
        go_simp
        with_reducible rfl
      rotate_left
      · simp only [Act.put, List.setIfInBounds_toArray, List.set_cons_zero, List.set_cons_succ, i64_w, i32_w]
        rfl
      refine take_ (i := 0) (N := some 39) (v := ?_) (a' := ?_) #[true, true, true, false, false, false, false] rfl rfl (by kernel_rfl) (fun _ _ _ h => h) (Or.inl ⟨by rfl, ?_⟩) hHeld ?_ ?_
      rotate_left
      · rintro w' ⟨s0, s1, s2, s3, s4, s5⟩
        go_simp
        with_reducible rfl
      rotate_left
      · simp only [Act.put, List.setIfInBounds_toArray, List.set_cons_zero, List.set_cons_succ, i64_w, i32_w]
        rfl
      refine one_ (i := 3) (N := some 42) #[true, true, true, true, false, false, false] rfl rfl (by kernel_rfl) (by decide) (fun K hK => ?_)
      have hT := hHeld.2.2.2
      refine Kd.R_make_step (Kd.int .u8) (w0 := w) w.heap.size 5 (by rfl) (N := 42) rfl 29 (.tmp 41) (.tmp 41) rfl N rfl rfl Try.underlying29 (.int .u8 0) 1 info5 rfl (by decide) (by decide) (0 : Int) (okp := fun _ => False) (ok := fun _ => True) rfl (fun _ h => h.elim) trivial HN0.out HN1.out hT.2.2 hT.2.2.size ?_
      intro v1 w3 ho hb hg hat
      obtain ⟨A1, c1, rfl⟩ := Kd.R_slice ho
      have HO3 := Aside0.mk ho
      have hU := (show _ ∧ _ ∧ _ from ⟨blk_grown hT.1 hg (by simp), blk_grown hT.2.1 hg (by simp), hb⟩)
      clear ho hb hg hat
      refine hK.out _ _ ⟨((blk_cell hU.1 0).trans rfl), ((blk_cell hU.1 1).trans rfl), ((blk_cell hU.1 2).trans rfl), hU.1, hU.2.1, hU.2.2⟩ (fun hHeld => ?_)
      clear hK K
      refine norm_ (a' := ?_) ?_ ?_
      rotate_left
      · show Act.put _ (some 42) _ = _
        simp only [Act.put, List.setIfInBounds_toArray, List.set_cons_zero, List.set_cons_succ, i64_w, i32_w]
        rfl
      refine pure_ (i := 4) (N := some 43) (v := ?_) (a' := ?_) #[true, true, true, true, true, false, false] rfl rfl (by kernel_rfl) (fun _ _ _ h => h) (Or.inl ⟨by rfl, ?_⟩) ?_ ?_
      rotate_left
      · intro w'
        go_simp
        with_reducible rfl
      rotate_left
      · simp only [Act.put, List.setIfInBounds_toArray, List.set_cons_zero, List.set_cons_succ, i64_w, i32_w]
        rfl
      refine last_ (i := 5) (N := some 44) #[true, true, true, true, true, true, false] rfl rfl (by kernel_rfl) (by decide) (fun K hK => ?_)
      have hT := hHeld.2.2.2
      have HT5 := Aside0.mk hT
      refine value_ (w1 := ?_) (v := ?_) (by rfl) rfl ?_ ?_
      rotate_left 2
      · go_simp
        constructor
        · rfl
        · rfl
      refine hK.out _ _ ?_
      clear hK K
      refine norm_ (a' := ?_) ?_ ?_
      rotate_left
      · show Act.put _ (some 44) _ = _
        simp only [Act.put, List.setIfInBounds_toArray, List.set_cons_zero, List.set_cons_succ, i64_w, i32_w]
        rfl
      refine pure_ (i := 6) (N := some 13) (v := ?_) (a' := ?_) #[true, true, true, true, true, true, true] rfl rfl (by kernel_rfl) (fun _ _ _ h => h) (Or.inl ⟨by rfl, ?_⟩) ?_ ?_
      rotate_left
      · intro w'
        go_simp
        with_reducible rfl
      rotate_left
      · simp only [Act.put, List.setIfInBounds_toArray, List.set_cons_zero, List.set_cons_succ, i64_w, i32_w]
        rfl
      refine done_ (by kernel_rfl) ?_
      obtain ⟨L0, hL0⟩ : ∃ L0, L0 = List.replicate N.toNat (0 : Int) := ⟨_, rfl⟩
      have hLl : L0.length = N.toNat := by rw [hL0]; exact List.length_replicate
      have HO4 := HO3.out
      rw [← hL0, hLl] at HO4
      have HM4 := Aside0.mk (MemAt.box (x0 := m0) (x1 := mx) (x2 := true) HT5.out.2.2 HT5.out.2.2.size HO4)
      have H54 := Aside0.mk ((Below.heap_alloc w3 (.cells #[.int .i64 m0, .int .i64 mx, .bool true, .slice A1 N.toNat c1] 31 (0, 0)) b5 (blk_lt HT5.out.1)).trans HT5.out.1)
      have H84 := Aside0.mk ((Below.heap_alloc w3 (.cells #[.int .i64 m0, .int .i64 mx, .bool true, .slice A1 N.toNat c1] 31 (0, 0)) b8 (blk_lt HT5.out.2.1)).trans HT5.out.2.1)
      have HLL := Aside0.mk hLl
      have hz4 : (w3.alloc (.cells #[.int .i64 m0, .int .i64 mx, .bool true, .slice A1 N.toNat c1] 31 (0, 0))).heap.size = w3.heap.size + 1 := by show (w3.heap.push _).size = _; exact Array.size_push _
      have HZ4 := Aside0.mk hz4
      have HO3l := Aside0.mk (Kd.R_lt HO4)
      have HL0 := Aside0.mk hL0
      clear HO3 HT5 HO4 hLl hz4 hL0 hHeld hT H52 H82 HB2
      generalize hg : w3.heap.size = g at HM4 HZ4 HO3l ⊢
      generalize w3.alloc _ = w4 at HM4 H54 H84 HZ4 ⊢
      clear hg
      go_wp2_with (first | ((with_reducible refine gate_dst (N := 47) rfl ?_); refine Kd.R_make (Kd.int .u8) (w0 := w) w.heap.size 5 rfl (N := 47) rfl 29 (.tmp 46) (.tmp 46) rfl N rfl rfl Try.underlying29 (.int .u8 0) 1 info5 rfl (by decide) (by decide) (0 : Int) (okp := fun _ => False) (ok := fun k => w4.heap.size ≤ k) rfl (fun _ h => h.elim) (Nat.le_refl _) HN0.out HN1.out HM4.out.2 HM4.out.2.size ?_; intro v2 w5 ho hb hg2 hat; rw [← HL0.out] at ho; obtain ⟨A2, c2, rfl⟩ := Kd.R_slice ho; rw [HLL.out] at ho ⊢; have HG5 := Aside0.mk (show GS w w.heap.size b5 b8 g m0 mx x (.slice A1 N.toNat c1) (.slice A2 N.toNat c2) L0 L0 w5 from ⟨blk_grown H54.out hg2 (by simp), blk_grown H84.out hg2 (by simp), HM4.out.1.keep (Kept.of_below (below_of_grown hg2) (fun _ => False)) (fun h => h) (fun _ _ h => h), Kd.R_reok rfl ho (fun _ h => h), fun k hk => ⟨by have := ho.1 k hk; have := HZ4.out; omega, fun e => by have := HO3l.out k e; have := ho.1 k hk; have := HZ4.out; omega⟩, hb⟩); clear ho hb hg2 hat) | fail)
      clear HM4 H54 H84 HZ4 HO3l
      have HGs := HG5
      clear HG5
      go_loopw [15] (fun v15 wr => ∃ i : Nat, v15 = .int .i64 i ∧ i ≤ 66536 ∧ ∃ Li : List Int, Aside0 (Li.length = N.toNat) ∧ Aside0 (GS w w.heap.size b5 b8 g m0 mx x (.slice A1 N.toNat c1) (.slice A2 N.toNat c2) Li Li wr))
        (fun v15 _ => 66537 - (intOf v15).toNat)
      case atStart => exact ⟨0, rfl, by omega, L0, HLL, HGs⟩
      case round =>
        obtain ⟨i, rfl, hi66, Li, HLi, HGi⟩ := hrel
        have hN0 := HN0.out
        have hN65 : N ≤ 65536 := by have := HN.out; omega
        by_cases hiN : (i : Int) < N
        · have hlen := HLi.out
          have hG := HGi.out
          obtain ⟨gb, cb, hvb, _, _, _, _⟩ := Kd.R_form hG.row (by omega)
          obtain ⟨ga, ca, hva, _, _, _, _⟩ := Kd.R_form hG.mem.row (by omega)
          injection hvb with e1 e2 e3
          injection hva with e4 e5 e6
          clear e2 e5
          subst e1; subst e3; subst e4; subst e6
          obtain ⟨hx1, hf1⟩ := Kd.R_celln (0 : Int) hG.row (i : Int) (by omega) (by omega)
          have hp1 := Kd.R_putg hG.row (i : Int) ((i : Int) % 256)
          rw [Int.toNat_natCast] at hp1
          have hG1 := hG.putv hp1.2 hp1.1
          have hl1 : (Li.set i ((i : Int) % 256)).length = N.toNat := by rw [List.length_set]; exact hlen
          obtain ⟨hx2, hf2⟩ := Kd.R_celln (0 : Int) hG1.mem.row (i : Int) (by omega) (by omega)
          have hp2 := Kd.R_putg hG1.mem.row (i : Int) ((i : Int) % 256)
          rw [Int.toNat_natCast] at hp2 hx2 hf2
          have HG2 := Aside0.mk (hG1.putm hp2.2 hp2.1)
          have hc3 := (blk_cell hG1.mem.at_ 3).trans (rfl : _ = some _)
          have HL2 := Aside0.mk hl1
          clear hlen hG hG1 hp1 hp2 hl1
          generalize rdOf (0 : Int) Li (i : Int) = z2 at hx2
          generalize rdOf (0 : Int) Li (i : Int) = z1 at hx1
          rw [Int.toNat_natCast] at hx1 hf1
          have hi2 : (i : Int) < (N.toNat : Int) := by omega
          go_wp2_with (fail)
          exact ⟨⟨i + 1000, by go_num, by omega, _, HL2, HG2⟩, by simp [intOf]; omega⟩
        · have hlen := HLi.out
          have h50 : wr.cell? ⟨b5, 0, none⟩ = some (.int .i64 m0) := (blk_cell HGi.out.h5 0).trans rfl
          have h51 : wr.cell? ⟨b5, 1, none⟩ = some (.int .i64 mx) := (blk_cell HGi.out.h5 1).trans rfl
          have h52 : wr.cell? ⟨b5, 2, none⟩ = some (.bool true) := (blk_cell HGi.out.h5 2).trans rfl
          have HLg := Aside0.mk (show Li.length ≤ 1073741824 by omega)
          have HRG := Aside0.mk (refGrow_is Li m0 mx true n most hn0 HLg.out)
          obtain ⟨G1, hG1⟩ : ∃ G1, G1 = (mem_Grow Li mx true n most).1 := ⟨_, rfl⟩
          obtain ⟨G2, hG2⟩ : ∃ G2, G2 = (mem_Grow Li mx true n most).2 := ⟨_, rfl⟩
          have HMG := Aside0.mk (show mem_Grow Li mx true n most = (G1, G2) by rw [hG1, hG2])
          clear hG1 hG2 hlen HGs
          go_wp2_with (fail)
          refine (bodkinref13_Grow.calls 5 (fun k => (Value.slice A2 N.toNat c2).ownBlock = some k) (.slice A2 N.toNat c2) Li m0 mx true n most G1 G2 w wr HGi.out.below HGi.out.row (by rw [HRG.out, HMG.out])).mono ?_
          rintro e w6 ⟨v6, rfl, q1, q2, q3⟩
          obtain ⟨A6, c6, rfl⟩ := Kd.R_slice q1
          have HG6 := Aside0.mk (HGi.out.call q3 q1 q2)
          clear q1 q2 q3 h50 h51 h52 HGi
          go_wp2_with (fail)
          refine (mem_Grow.calls w.heap.size g m0 mx true (.slice A1 N.toNat c1) Li n most w w6 hn0 HG6.out.below HG6.out.mem).mono ?_
          rintro e w7 ⟨B7, rfl, q1, q2, q3, q4⟩
          rw [HMG.out] at q1 ⊢
          obtain ⟨A7, c7, rfl⟩ := Kd.R_slice q1.row
          have HG7 := Aside0.mk (HG6.out.grow q1 q2 q3 q4)
          clear q1 q2 q3 q4 HG6 HMG HRG
          have hku : IntKind.u64.wrap kk = kk := u64w (by omega) (by omega)
          have HR5 := Aside0.mk (refRepeat_is ⟨5, 0, 0, false⟩ kk hkk0 (by omega) 3 (by omega))
          obtain ⟨LT, hLT⟩ : ∃ LT : List S26, LT = List.replicate kk.toNat ⟨5, 0, 0, false⟩ := ⟨_, rfl⟩
          rw [← hLT] at HR5
          have HLT := Aside0.mk (show LT.length ≤ 1 by rw [hLT, List.length_replicate]; omega)
          clear hLT
          go_wp2_with (fail)
          refine start_ (n := 9) (S := fun w' => w'.cell? ⟨b5, 0, none⟩ = some (.int .i64 m0) ∧ w'.cell? ⟨b5, 1, none⟩ = some (.int .i64 mx) ∧ w'.cell? ⟨b5, 2, none⟩ = some (.bool true) ∧ GS w w.heap.size b5 b8 g m0 mx x (.slice A7 G1.length c7) (.slice A6 G1.length c6) G1 G1 w') (ds := [7]) #[false, false, false, false, false, false, false, false, false] (by kernel_rfl) rfl rfl ⟨((blk_cell HG7.out.h5 0).trans rfl), ((blk_cell HG7.out.h5 1).trans rfl), ((blk_cell HG7.out.h5 2).trans rfl), HG7.out.drew⟩ (fun hHeld => ?_)
          refine pure_ (i := 2) (N := some 81) (v := ?_) (a' := ?_) #[false, false, true, false, false, false, false, false, false] rfl rfl (by kernel_rfl) (fun _ _ _ h => h) (Or.inl ⟨by rfl, ?_⟩) ?_ ?_
          rotate_left
          · intro w'
            go_simp
            with_reducible rfl
          rotate_left
          · simp only [Act.put, List.setIfInBounds_toArray, List.set_cons_zero, List.set_cons_succ, i64_w, i32_w]
            rfl
          refine pure_ (i := 3) (N := some 82) (v := ?_) (a' := ?_) #[false, false, true, true, false, false, false, false, false] rfl rfl (by kernel_rfl) (fun _ _ _ h => h) (Or.inl ⟨by rfl, ?_⟩) ?_ ?_
          rotate_left
          · intro w'
            go_simp
            with_reducible rfl
          rotate_left
          · simp only [Act.put, List.setIfInBounds_toArray, List.set_cons_zero, List.set_cons_succ, i64_w, i32_w]
            rfl
          refine pure_ (i := 4) (N := some 83) (v := ?_) (a' := ?_) #[false, false, true, true, true, false, false, false, false] rfl rfl (by kernel_rfl) (fun _ _ _ h => h) (Or.inl ⟨by rfl, ?_⟩) ?_ ?_
          rotate_left
          · intro w'
            go_simp
            with_reducible rfl
          rotate_left
          · simp only [Act.put, List.setIfInBounds_toArray, List.set_cons_zero, List.set_cons_succ, i64_w, i32_w]
            rfl
          refine take_ (i := 0) (N := some 79) (v := ?_) (a' := ?_) #[true, false, true, true, true, false, false, false, false] rfl rfl (by kernel_rfl) (fun _ _ _ h => h) (Or.inl ⟨by rfl, ?_⟩) hHeld ?_ ?_
          rotate_left
          · rintro w' ⟨s0, s1, s2, s3⟩
            go_simp
            with_reducible rfl
          rotate_left
          · simp only [Act.put, List.setIfInBounds_toArray, List.set_cons_zero, List.set_cons_succ, i64_w, i32_w]
            rfl
          refine pure_ (i := 1) (N := some 80) (v := ?_) (a' := ?_) #[true, true, true, true, true, false, false, false, false] rfl rfl (by kernel_rfl) (fun _ _ _ h => h) (Or.inl ⟨by rfl, ?_⟩) ?_ ?_
          rotate_left
          · intro w'
            go_simp
            with_reducible rfl
          rotate_left
          · simp only [Act.put, List.setIfInBounds_toArray, List.set_cons_zero, List.set_cons_succ, i64_w, i32_w]
            rfl
          refine one_ (i := 5) (N := some 84) #[true, true, true, true, true, true, false, false, false] rfl rfl (by kernel_rfl) (by decide) (fun K hK => ?_)
          have hT := hHeld.2.2.2
          refine goes_ Try.func10 (by kernel_rfl) rfl #[.agg #[.int .i64 5, .int .u64 0, .int .u64 0, .bool false], .int .u64 kk] (by rfl) rfl rfl (by simp only [List.map_toArray, List.map_cons, List.map_nil]; rfl) ?_
          with_reducible refine (bodkinref13_Repeat.calls 3 5 0 0 false kk LT _ HR5.out).mono ?_
          rintro e w8 ⟨v8, rfl, g1, g2⟩
          refine ⟨_, rfl, ?_⟩
          obtain ⟨A8, c8, rfl⟩ := Kd.R_slice g1
          have hU := hT.new g2
          have HR8 := Aside0.mk (Kd.R_lower g1 hT.size)
          have HS8 := Aside0.mk (Kd.R_base g1)
          have HT8 := Aside0.mk hT
          have HZ8 := Aside0.mk g2.size
          clear g1 g2
          refine hK.out _ _ ⟨((blk_cell hU.h5 0).trans rfl), ((blk_cell hU.h5 1).trans rfl), ((blk_cell hU.h5 2).trans rfl), hU⟩ (fun hHeld => ?_)
          clear hK K
          refine norm_ (a' := ?_) ?_ ?_
          rotate_left
          · show Act.put _ (some 84) _ = _
            simp only [Act.put, List.setIfInBounds_toArray, List.set_cons_zero, List.set_cons_succ, i64_w, i32_w]
            rfl
          refine pure_ (i := 6) (N := some 85) (v := ?_) (a' := ?_) #[true, true, true, true, true, true, true, false, false] rfl rfl (by kernel_rfl) (fun _ _ _ h => h) (Or.inl ⟨by rfl, ?_⟩) ?_ ?_
          rotate_left
          · intro w'
            go_simp
            with_reducible rfl
          rotate_left
          · simp only [Act.put, List.setIfInBounds_toArray, List.set_cons_zero, List.set_cons_succ, i64_w, i32_w]
            rfl
          refine last_ (i := 7) (N := some 86) #[true, true, true, true, true, true, true, true, false] rfl rfl (by kernel_rfl) (by decide) (fun K hK => ?_)
          have HU8 := Aside0.mk hHeld.2.2.2
          refine value_ (w1 := ?_) (v := ?_) (by rfl) rfl ?_ ?_
          rotate_left 2
          · go_simp
            constructor
            · rfl
            · rfl
          refine hK.out _ _ ?_
          clear hK K
          refine norm_ (a' := ?_) ?_ ?_
          rotate_left
          · show Act.put _ (some 86) _ = _
            simp only [Act.put, List.setIfInBounds_toArray, List.set_cons_zero, List.set_cons_succ, i64_w, i32_w]
            rfl
          refine pure_ (i := 8) (N := some 19) (v := ?_) (a' := ?_) #[true, true, true, true, true, true, true, true, true] rfl rfl (by kernel_rfl) (fun _ _ _ h => h) (Or.inl ⟨by rfl, ?_⟩) ?_ ?_
          rotate_left
          · intro w'
            go_simp
            with_reducible rfl
          rotate_left
          · simp only [Act.put, List.setIfInBounds_toArray, List.set_cons_zero, List.set_cons_succ, i64_w, i32_w]
            rfl
          refine done_ (by kernel_rfl) ?_
          have HB9 := Aside0.mk (TabAt.box (y := 0) (x0 := m0) (x1 := mx) (x2 := true) HU8.out.below HU8.out.size HR8.out)
          have HG9 := Aside0.mk (HU8.out.alloc (.cells #[.int .i64 0, .int .i64 m0, .int .i64 mx, .bool true, .slice A8 LT.length c8] 41 (0, 0)))
          have HSP := Aside0.mk (show ∀ k, memS w8.heap.size (.slice A8 LT.length c8) k → k ≠ b5 ∧ k ≠ b8 ∧ k ≠ g ∧ (Value.slice A7 G1.length c7).ownBlock ≠ some k ∧ (Value.slice A6 G1.length c6).ownBlock ≠ some k from by
            intro k hk
            have h1 : w7.drew.heap.size ≤ k := hk.elim (fun e => by have := HZ8.out; omega) (fun e => HS8.out k e)
            have l5 := blk_lt HT8.out.h5
            have l8 := blk_lt HT8.out.h8
            have lg := blk_lt HT8.out.mem.at_
            exact ⟨by omega, by omega, by omega, fun e => by have := Kd.R_lt HT8.out.mem.row k e; omega, fun e => by have := Kd.R_lt HT8.out.row k e; omega⟩)
          clear HU8 HR8 HS8 HT8 HZ8 hHeld hU hT HG7
          generalize hgt : w8.heap.size = gt at HB9 HSP ⊢
          generalize w8.alloc _ = w9 at HB9 HG9 ⊢
          clear hgt
          have HG := Aside0.mk (show GT w w.heap.size b5 b8 g gt m0 mx x (.slice A7 G1.length c7) (.slice A6 G1.length c6) (.slice A8 LT.length c8) G1 G1 LT w9 from ⟨HG9.out, HB9.out.1, HSP.out⟩)
          clear HB9 HSP HG9
          have HGTb := Aside0.mk (refGrowTable_is LT m0 mx true n x hn0 (by have := HLT.out; omega))
          obtain ⟨T1, hT1⟩ : ∃ T1, T1 = (tab_Grow LT mx true n x).1 := ⟨_, rfl⟩
          obtain ⟨T2, hT2⟩ : ∃ T2, T2 = (tab_Grow LT mx true n x).2 := ⟨_, rfl⟩
          have HTG := Aside0.mk (show tab_Grow LT mx true n x = (T1, T2) by rw [hT1, hT2])
          have HTL := Aside0.mk (show T1.length ≤ 1048576 from by
            rw [hT1]
            have h1 := HLT.out
            unfold tab_Grow tabMost mn
            repeat' split
            all_goals first | (show LT.length ≤ _; omega) | (show (LT ++ List.replicate n.toNat x).length ≤ _; rw [List.length_append, List.length_replicate]; omega))
          clear hT1 hT2
          go_wp2_with (fail)
          refine start_ (n := 13) (S := fun w' => w'.cell? ⟨b5, 0, none⟩ = some (.int .i64 m0) ∧ w'.cell? ⟨b5, 1, none⟩ = some (.int .i64 mx) ∧ w'.cell? ⟨b5, 2, none⟩ = some (.bool true) ∧ w'.cell? ⟨b8, 0, none⟩ = some (.int .i64 x.f0) ∧ w'.cell? ⟨b8, 1, none⟩ = some (.int .u64 x.f1) ∧ w'.cell? ⟨b8, 2, none⟩ = some (.int .u64 x.f2) ∧ w'.cell? ⟨b8, 3, none⟩ = some (.bool x.f3) ∧ GT w w.heap.size b5 b8 g gt m0 mx x (.slice A7 G1.length c7) (.slice A6 G1.length c6) (.slice A8 LT.length c8) G1 G1 LT w') (ds := []) #[false, false, false, false, false, false, false, false, false, false, false, false, false] (by kernel_rfl) rfl rfl ⟨((blk_cell HG.out.gs.h5 0).trans rfl), ((blk_cell HG.out.gs.h5 1).trans rfl), ((blk_cell HG.out.gs.h5 2).trans rfl), ((blk_cell HG.out.gs.h8 0).trans rfl), ((blk_cell HG.out.gs.h8 1).trans rfl), ((blk_cell HG.out.gs.h8 2).trans rfl), ((blk_cell HG.out.gs.h8 3).trans rfl), HG.out.drew⟩ (fun hHeld => ?_)
          refine pure_ (i := 0) (N := some 88) (v := ?_) (a' := ?_) #[true, false, false, false, false, false, false, false, false, false, false, false, false] rfl rfl (by kernel_rfl) (fun _ _ _ h => h) (Or.inl ⟨by rfl, ?_⟩) ?_ ?_
          rotate_left
          · intro w'
            go_simp
            with_reducible rfl
          rotate_left
          · simp only [Act.put, List.setIfInBounds_toArray, List.set_cons_zero, List.set_cons_succ, i64_w, i32_w]
            rfl
          refine pure_ (i := 1) (N := some 89) (v := ?_) (a' := ?_) #[true, true, false, false, false, false, false, false, false, false, false, false, false] rfl rfl (by kernel_rfl) (fun _ _ _ h => h) (Or.inl ⟨by rfl, ?_⟩) ?_ ?_
          rotate_left
          · intro w'
            go_simp
            with_reducible rfl
          rotate_left
          · simp only [Act.put, List.setIfInBounds_toArray, List.set_cons_zero, List.set_cons_succ, i64_w, i32_w]
            rfl
          refine pure_ (i := 2) (N := some 90) (v := ?_) (a' := ?_) #[true, true, true, false, false, false, false, false, false, false, false, false, false] rfl rfl (by kernel_rfl) (fun _ _ _ h => h) (Or.inl ⟨by rfl, ?_⟩) ?_ ?_
          rotate_left
          · intro w'
            go_simp
            with_reducible rfl
          rotate_left
          · simp only [Act.put, List.setIfInBounds_toArray, List.set_cons_zero, List.set_cons_succ, i64_w, i32_w]
            rfl
          refine pure_ (i := 5) (N := some 93) (v := ?_) (a' := ?_) #[true, true, true, false, false, true, false, false, false, false, false, false, false] rfl rfl (by kernel_rfl) (fun _ _ _ h => h) (Or.inl ⟨by rfl, ?_⟩) ?_ ?_
          rotate_left
          · intro w'
            go_simp
            with_reducible rfl
          rotate_left
          · simp only [Act.put, List.setIfInBounds_toArray, List.set_cons_zero, List.set_cons_succ, i64_w, i32_w]
            rfl
          refine take_ (i := 4) (N := some 92) (v := ?_) (a' := ?_) #[true, true, true, false, true, true, false, false, false, false, false, false, false] rfl rfl (by kernel_rfl) (fun _ _ _ h => h) (Or.inl ⟨by rfl, ?_⟩) hHeld ?_ ?_
          rotate_left
          · rintro w' ⟨s0, s1, s2, s3, s4, s5, s6, s7⟩
            go_simp
            with_reducible rfl
          rotate_left
          · simp only [Act.put, List.setIfInBounds_toArray, List.set_cons_zero, List.set_cons_succ, i64_w, i32_w]
            rfl
          refine take_ (i := 6) (N := some 94) (v := ?_) (a' := ?_) #[true, true, true, false, true, true, true, false, false, false, false, false, false] rfl rfl (by kernel_rfl) (fun _ _ _ h => h) (Or.inl ⟨by rfl, ?_⟩) hHeld ?_ ?_
          rotate_left
          · rintro w' ⟨s0, s1, s2, s3, s4, s5, s6, s7⟩
            go_simp
            with_reducible rfl
          rotate_left
          · simp only [Act.put, List.setIfInBounds_toArray, List.set_cons_zero, List.set_cons_succ, i64_w, i32_w]
            rfl
          refine one_ (i := 3) (N := some 91) #[true, true, true, true, true, true, true, false, false, false, false, false, false] rfl rfl (by kernel_rfl) (by decide) (fun K hK => ?_)
          have hT := hHeld.2.2.2.2.2.2.2
          refine goes_ Try.func10 (by kernel_rfl) rfl #[.agg #[.int .i64 5, .int .u64 0, .int .u64 0, .bool false], .int .u64 kk] (by rfl) rfl rfl (by simp only [List.map_toArray, List.map_cons, List.map_nil]; rfl) ?_
          with_reducible refine (bodkinref13_Repeat.calls 3 5 0 0 false kk LT _ HR5.out).mono ?_
          rintro e wa ⟨v8, rfl, g1, g2⟩
          refine ⟨_, rfl, ?_⟩
          obtain ⟨Aa, ca, rfl⟩ := Kd.R_slice g1
          have HKa := Aside0.mk (Kept.of_below g2 (fun _ => False))
          have hU := hT.new HKa.out (hT.gs.below.trans (g2.mono hT.gs.size))
          have HRa := Aside0.mk (Kd.R_lower (Kd.R_mono (Kd.R_bound g1) (ok' := fun k => w9.heap.size ≤ k) (fun _ h => h.2.1)) hT.gs.size)
          clear g1 g2
          refine hK.out _ _ ⟨((blk_cell hU.gs.h5 0).trans rfl), ((blk_cell hU.gs.h5 1).trans rfl), ((blk_cell hU.gs.h5 2).trans rfl), ((blk_cell hU.gs.h8 0).trans rfl), ((blk_cell hU.gs.h8 1).trans rfl), ((blk_cell hU.gs.h8 2).trans rfl), ((blk_cell hU.gs.h8 3).trans rfl), hU⟩ (fun hHeld => ?_)
          clear hK K
          refine norm_ (a' := ?_) ?_ ?_
          rotate_left
          · show Act.put _ (some 91) _ = _
            simp only [Act.put, List.setIfInBounds_toArray, List.set_cons_zero, List.set_cons_succ, i64_w, i32_w]
            rfl
          refine one_ (i := 7) (N := some 95) #[true, true, true, true, true, true, true, true, false, false, false, false, false] rfl rfl (by kernel_rfl) (by decide) (fun K hK => ?_)
          have hT := hHeld.2.2.2.2.2.2.2
          refine goes_ Try.func11 (by kernel_rfl) rfl #[.slice Aa LT.length ca, .agg #[.int .i64 m0, .int .i64 mx, .bool true], .int .u64 n, .agg #[.int .i64 x.f0, .int .u64 x.f1, .int .u64 x.f2, .bool x.f3]] (by rfl) rfl rfl (by simp only [List.map_toArray, List.map_cons, List.map_nil]; rfl) ?_
          with_reducible refine (bodkinref13_GrowTable.calls 10005 (fun k => w9.heap.size ≤ k) (.slice Aa LT.length ca) LT m0 mx true n x.f0 x.f1 x.f2 x.f3 T1 T2 w _ hT.gs.below HRa.out (by rw [HGTb.out, HTG.out])).mono ?_
          rintro e wb ⟨v9, rfl, g1, g2, g3⟩
          refine ⟨_, rfl, ?_⟩
          obtain ⟨Ab, cb, rfl⟩ := Kd.R_slice g1
          have HKb := Aside0.mk (HKa.out.then_ g3 (fun _ h => .inr h))
          have hU := HG.out.new HKb.out g2
          have HRb := Aside0.mk (Kd.R_mono g1 (ok' := fun k => w9.heap.size ≤ k) (fun k h => h.elim (fun h => h) (fun h => Nat.le_trans HKa.out.1 h)))
          clear g1 g2 g3
          refine hK.out _ _ ⟨((blk_cell hU.gs.h5 0).trans rfl), ((blk_cell hU.gs.h5 1).trans rfl), ((blk_cell hU.gs.h5 2).trans rfl), ((blk_cell hU.gs.h8 0).trans rfl), ((blk_cell hU.gs.h8 1).trans rfl), ((blk_cell hU.gs.h8 2).trans rfl), ((blk_cell hU.gs.h8 3).trans rfl), hU⟩ (fun hHeld => ?_)
          clear hK K
          refine norm_ (a' := ?_) ?_ ?_
          rotate_left
          · show Act.put _ (some 95) _ = _
            simp only [Act.put, List.setIfInBounds_toArray, List.set_cons_zero, List.set_cons_succ, i64_w, i32_w]
            rfl
          refine pure_ (i := 8) (N := some 87) (v := ?_) (a' := ?_) #[true, true, true, true, true, true, true, true, true, false, false, false, false] rfl rfl (by kernel_rfl) (fun _ _ _ h => h) (Or.inl ⟨by rfl, ?_⟩) ?_ ?_
          rotate_left
          · intro w'
            go_simp
            with_reducible rfl
          rotate_left
          · simp only [Act.put, List.setIfInBounds_toArray, List.set_cons_zero, List.set_cons_succ, i64_w, i32_w]
            rfl
          refine pure_ (i := 9) (N := some 96) (v := ?_) (a' := ?_) #[true, true, true, true, true, true, true, true, true, true, false, false, false] rfl rfl (by kernel_rfl) (fun _ _ _ h => h) (Or.inl ⟨by rfl, ?_⟩) ?_ ?_
          rotate_left
          · intro w'
            go_simp
            with_reducible rfl
          rotate_left
          · simp only [Act.put, List.setIfInBounds_toArray, List.set_cons_zero, List.set_cons_succ, i64_w, i32_w]
            rfl
          refine pure_ (i := 10) (N := some 97) (v := ?_) (a' := ?_) #[true, true, true, true, true, true, true, true, true, true, true, false, false] rfl rfl (by kernel_rfl) (fun _ _ _ h => h) (Or.inl ⟨by rfl, ?_⟩) ?_ ?_
          rotate_left
          · intro w'
            go_simp
            with_reducible rfl
          rotate_left
          · simp only [Act.put, List.setIfInBounds_toArray, List.set_cons_zero, List.set_cons_succ, i64_w, i32_w]
            rfl
          refine pure_ (i := 11) (N := some 20) (v := ?_) (a' := ?_) #[true, true, true, true, true, true, true, true, true, true, true, true, false] rfl rfl (by kernel_rfl) (fun _ _ _ h => h) (Or.inl ⟨by rfl, ?_⟩) ?_ ?_
          rotate_left
          · intro w'
            go_simp
            with_reducible rfl
          rotate_left
          · simp only [Act.put, List.setIfInBounds_toArray, List.set_cons_zero, List.set_cons_succ, i64_w, i32_w]
            rfl
          refine pure_ (i := 12) (N := some 21) (v := ?_) (a' := ?_) #[true, true, true, true, true, true, true, true, true, true, true, true, true] rfl rfl (by kernel_rfl) (fun _ _ _ h => h) (Or.inl ⟨by rfl, ?_⟩) ?_ ?_
          rotate_left
          · intro w'
            go_simp
            with_reducible rfl
          rotate_left
          · simp only [Act.put, List.setIfInBounds_toArray, List.set_cons_zero, List.set_cons_succ, i64_w, i32_w]
            rfl
          refine done_ (by kernel_rfl) ?_
          have HGb := Aside0.mk hHeld.2.2.2.2.2.2.2
          have hb0 := hHeld.2.2.2.1
          have hb1 := hHeld.2.2.2.2.1
          have hb2 := hHeld.2.2.2.2.2.1
          have hb3 := hHeld.2.2.2.2.2.2.1
          have HGL := Aside0.mk (show ∀ k, memS gt (.slice A8 LT.length c8) k → k < w9.heap.size from fun k hk => hk.elim (fun e => by rw [e]; exact blk_lt HG.out.tab.at_) (fun e => Kd.R_lt HG.out.tab.row k e))
          clear hHeld hT hU HG HGTb
          go_wp2_with (fail)
          refine (tab_Grow.calls w.heap.size gt 0 m0 mx true (.slice A8 LT.length c8) LT n x w wb hn0 hn1 HGb.out.gs.below HGb.out.tab).mono ?_
          rintro e we ⟨B10, rfl, q1, q2, q3, q4⟩
          rw [HTG.out] at q1 ⊢
          obtain ⟨A10, c10, rfl⟩ := Kd.R_slice q1.row
          have HSe := Aside0.mk (HGb.out.gs.step q3 HGb.out.sep q2)
          have HTe := Aside0.mk q1
          have HUe := Aside0.mk (Kd.R_step HRb.out (w1 := we) (fun k ho hlt => q3.2 k hlt (fun h => by have := HGL.out k h; omega)))
          clear q1 q2 q3 q4 HGb HRb hb0 hb1 hb2 hb3
          have HSd := Aside0.mk (refSame_is T1 HTL.out)
          go_wp2_with (fail)
          refine start_ (n := 27) (S := fun w' => w'.cell? ⟨g, 3, none⟩ = some (.slice A7 G1.length c7) ∧ w'.cell? ⟨gt, 4, none⟩ = some (.slice A10 T1.length c10) ∧ (convert 29 9 (.slice A7 G1.length c7)).run Try.prog w' = .ok (.string (strOfNums G1)) w' ∧ (convert 29 9 (.slice A6 G1.length c6)).run Try.prog w' = .ok (.string (strOfNums G1)) w' ∧ Kd.C k26 w' A10 T1.length T1 ∧ Kd.C k26 w' Ab T1.length T1 ∧ Below w.heap.size w w') (ds := [24]) #[false, false, false, false, false, false, false, false, false, false, false, false, false, false, false, false, false, false, false, false, false, false, false, false, false, false, false] (by kernel_rfl) rfl rfl ⟨((blk_cell HSe.out.mem.at_ 3).trans rfl), ((blk_cell HTe.out.at_ 4).trans rfl), (own_string (P := Try.prog) (dst := 9) Try.underlying29 Try.underlying5 Try.underlying9 (Kd.own_of_R HSe.out.drew.mem.row)), (own_string (P := Try.prog) (dst := 9) Try.underlying29 Try.underlying5 Try.underlying9 (Kd.own_of_R HSe.out.drew.row)), (Kd.C_drew (Kd.R_reads' HTe.out.row).2.2), (Kd.C_drew (Kd.R_reads' HUe.out).2.2), (below_drew1 HSe.out.below)⟩ (fun hHeld => ?_)
          refine pure_ (i := 0) (N := some 102) (v := ?_) (a' := ?_) #[true, false, false, false, false, false, false, false, false, false, false, false, false, false, false, false, false, false, false, false, false, false, false, false, false, false, false] rfl rfl (by kernel_rfl) (fun _ _ _ h => h) (Or.inl ⟨by rfl, ?_⟩) ?_ ?_
          rotate_left
          · intro w'
            go_simp
            with_reducible rfl
          rotate_left
          · simp only [Act.put, List.setIfInBounds_toArray, List.set_cons_zero, List.set_cons_succ, i64_w, i32_w]
            rfl
          refine pure_ (i := 1) (N := some 103) (v := ?_) (a' := ?_) #[true, true, false, false, false, false, false, false, false, false, false, false, false, false, false, false, false, false, false, false, false, false, false, false, false, false, false] rfl rfl (by kernel_rfl) (fun _ _ _ h => h) (Or.inl ⟨by rfl, ?_⟩) ?_ ?_
          rotate_left
          · intro w'
            go_simp
            with_reducible rfl
          rotate_left
          · simp only [Act.put, List.setIfInBounds_toArray, List.set_cons_zero, List.set_cons_succ, i64_w, i32_w]
            rfl
          refine pure_ (i := 2) (N := some 104) (v := ?_) (a' := ?_) #[true, true, true, false, false, false, false, false, false, false, false, false, false, false, false, false, false, false, false, false, false, false, false, false, false, false, false] rfl rfl (by kernel_rfl) (fun _ _ _ h => h) (Or.inl ⟨by rfl, ?_⟩) ?_ ?_
          rotate_left
          · intro w'
            go_simp
            with_reducible rfl
          rotate_left
          · simp only [Act.put, List.setIfInBounds_toArray, List.set_cons_zero, List.set_cons_succ, i64_w, i32_w]
            rfl
          refine pure_ (i := 3) (N := some 105) (v := ?_) (a' := ?_) #[true, true, true, true, false, false, false, false, false, false, false, false, false, false, false, false, false, false, false, false, false, false, false, false, false, false, false] rfl rfl (by kernel_rfl) (fun _ _ _ h => h) (Or.inl ⟨by rfl, ?_⟩) ?_ ?_
          rotate_left
          · intro w'
            go_simp
            with_reducible rfl
          rotate_left
          · simp only [Act.put, List.setIfInBounds_toArray, List.set_cons_zero, List.set_cons_succ, i64_w, i32_w]
            rfl
          refine pure_ (i := 4) (N := some 106) (v := ?_) (a' := ?_) #[true, true, true, true, true, false, false, false, false, false, false, false, false, false, false, false, false, false, false, false, false, false, false, false, false, false, false] rfl rfl (by kernel_rfl) (fun _ _ _ h => h) (Or.inl ⟨by rfl, ?_⟩) ?_ ?_
          rotate_left
          · intro w'
            go_simp
            with_reducible rfl
          rotate_left
          · simp only [Act.put, List.setIfInBounds_toArray, List.set_cons_zero, List.set_cons_succ, i64_w, i32_w]
            rfl
          refine pure_ (i := 5) (N := some 107) (v := ?_) (a' := ?_) #[true, true, true, true, true, true, false, false, false, false, false, false, false, false, false, false, false, false, false, false, false, false, false, false, false, false, false] rfl rfl (by kernel_rfl) (fun _ _ _ h => h) (Or.inl ⟨by rfl, ?_⟩) ?_ ?_
          rotate_left
          · intro w'
            go_simp
            with_reducible rfl
          rotate_left
          · simp only [Act.put, List.setIfInBounds_toArray, List.set_cons_zero, List.set_cons_succ, i64_w, i32_w]
            rfl
          refine pure_ (i := 6) (N := some 108) (v := ?_) (a' := ?_) #[true, true, true, true, true, true, true, false, false, false, false, false, false, false, false, false, false, false, false, false, false, false, false, false, false, false, false] rfl rfl (by kernel_rfl) (fun _ _ _ h => h) (Or.inl ⟨by rfl, ?_⟩) ?_ ?_
          rotate_left
          · intro w'
            go_simp
            with_reducible rfl
          rotate_left
          · simp only [Act.put, List.setIfInBounds_toArray, List.set_cons_zero, List.set_cons_succ, i64_w, i32_w]
            rfl
          refine pure_ (i := 9) (N := some 111) (v := ?_) (a' := ?_) #[true, true, true, true, true, true, true, false, false, true, false, false, false, false, false, false, false, false, false, false, false, false, false, false, false, false, false] rfl rfl (by kernel_rfl) (fun _ _ _ h => h) (Or.inl ⟨by rfl, ?_⟩) ?_ ?_
          rotate_left
          · intro w'
            go_simp
            with_reducible rfl
          rotate_left
          · simp only [Act.put, List.setIfInBounds_toArray, List.set_cons_zero, List.set_cons_succ, i64_w, i32_w]
            rfl
          refine take_ (i := 7) (N := some 109) (v := ?_) (a' := ?_) #[true, true, true, true, true, true, true, true, false, true, false, false, false, false, false, false, false, false, false, false, false, false, false, false, false, false, false] rfl rfl (by kernel_rfl) (fun _ _ _ h => h) (Or.inl ⟨by rfl, ?_⟩) hHeld ?_ ?_
          rotate_left
          · rintro w' ⟨s0, s1, s2, s3, s4, s5, s6⟩
            go_simp
            with_reducible rfl
          rotate_left
          · simp only [Act.put, List.setIfInBounds_toArray, List.set_cons_zero, List.set_cons_succ, i64_w, i32_w]
            rfl
          refine take_ (i := 8) (N := some 110) (v := ?_) (a' := ?_) #[true, true, true, true, true, true, true, true, true, true, false, false, false, false, false, false, false, false, false, false, false, false, false, false, false, false, false] rfl rfl (by kernel_rfl) (fun _ _ _ h => h) (Or.inl ⟨by rfl, ?_⟩) hHeld ?_ ?_
          rotate_left
          · rintro w' ⟨s0, s1, s2, s3, s4, s5, s6⟩
            go_simp
            with_reducible rfl
          rotate_left
          · simp only [Act.put, List.setIfInBounds_toArray, List.set_cons_zero, List.set_cons_succ, i64_w, i32_w]
            rfl
          refine take_ (i := 10) (N := some 112) (v := ?_) (a' := ?_) #[true, true, true, true, true, true, true, true, true, true, true, false, false, false, false, false, false, false, false, false, false, false, false, false, false, false, false] rfl rfl (by kernel_rfl) (fun _ _ _ h => h) (Or.inl ⟨by rfl, ?_⟩) hHeld ?_ ?_
          rotate_left
          · rintro w' ⟨s0, s1, s2, s3, s4, s5, s6⟩
            go_simp
            with_reducible rfl
          rotate_left
          · simp only [Act.put, List.setIfInBounds_toArray, List.set_cons_zero, List.set_cons_succ, i64_w, i32_w]
            rfl
          refine pure_ (i := 11) (N := some 113) (v := ?_) (a' := ?_) #[true, true, true, true, true, true, true, true, true, true, true, true, false, false, false, false, false, false, false, false, false, false, false, false, false, false, false] rfl rfl (by kernel_rfl) (fun _ _ _ h => h) (Or.inl ⟨by rfl, ?_⟩) ?_ ?_
          rotate_left
          · intro w'
            go_simp
            with_reducible rfl
          rotate_left
          · simp only [Act.put, List.setIfInBounds_toArray, List.set_cons_zero, List.set_cons_succ, i64_w, i32_w]
            rfl
          refine pure_ (i := 12) (N := some 114) (v := ?_) (a' := ?_) #[true, true, true, true, true, true, true, true, true, true, true, true, true, false, false, false, false, false, false, false, false, false, false, false, false, false, false] rfl rfl (by kernel_rfl) (fun _ _ _ h => h) (Or.inl ⟨by rfl, ?_⟩) ?_ ?_
          rotate_left
          · intro w'
            go_simp
            with_reducible rfl
          rotate_left
          · simp only [Act.put, List.setIfInBounds_toArray, List.set_cons_zero, List.set_cons_succ, i64_w, i32_w]
            rfl
          refine pure_ (i := 13) (N := some 115) (v := ?_) (a' := ?_) #[true, true, true, true, true, true, true, true, true, true, true, true, true, true, false, false, false, false, false, false, false, false, false, false, false, false, false] rfl rfl (by kernel_rfl) (fun _ _ _ h => h) (Or.inl ⟨by rfl, ?_⟩) ?_ ?_
          rotate_left
          · intro w'
            go_simp
            with_reducible rfl
          rotate_left
          · simp only [Act.put, List.setIfInBounds_toArray, List.set_cons_zero, List.set_cons_succ, i64_w, i32_w]
            rfl
          refine pure_ (i := 14) (N := some 116) (v := ?_) (a' := ?_) #[true, true, true, true, true, true, true, true, true, true, true, true, true, true, true, false, false, false, false, false, false, false, false, false, false, false, false] rfl rfl (by kernel_rfl) (fun _ _ _ h => h) (Or.inl ⟨by rfl, ?_⟩) ?_ ?_
          rotate_left
          · intro w'
            go_simp
            with_reducible rfl
          rotate_left
          · simp only [Act.put, List.setIfInBounds_toArray, List.set_cons_zero, List.set_cons_succ, i64_w, i32_w]
            rfl
          refine pure_ (i := 15) (N := some 117) (v := ?_) (a' := ?_) #[true, true, true, true, true, true, true, true, true, true, true, true, true, true, true, true, false, false, false, false, false, false, false, false, false, false, false] rfl rfl (by kernel_rfl) (fun _ _ _ h => h) (Or.inl ⟨by rfl, ?_⟩) ?_ ?_
          rotate_left
          · intro w'
            go_simp
            with_reducible rfl
          rotate_left
          · simp only [Act.put, List.setIfInBounds_toArray, List.set_cons_zero, List.set_cons_succ, i64_w, i32_w]
            rfl
          refine pure_ (i := 16) (N := some 118) (v := ?_) (a' := ?_) #[true, true, true, true, true, true, true, true, true, true, true, true, true, true, true, true, true, false, false, false, false, false, false, false, false, false, false] rfl rfl (by kernel_rfl) (fun _ _ _ h => h) (Or.inl ⟨by rfl, ?_⟩) ?_ ?_
          rotate_left
          · intro w'
            go_simp
            with_reducible rfl
          rotate_left
          · simp only [Act.put, List.setIfInBounds_toArray, List.set_cons_zero, List.set_cons_succ, i64_w, i32_w]
            rfl
          refine pure_ (i := 17) (N := some 119) (v := ?_) (a' := ?_) #[true, true, true, true, true, true, true, true, true, true, true, true, true, true, true, true, true, true, false, false, false, false, false, false, false, false, false] rfl rfl (by kernel_rfl) (fun _ _ _ h => h) (Or.inl ⟨by rfl, ?_⟩) ?_ ?_
          rotate_left
          · intro w'
            go_simp
            with_reducible rfl
          rotate_left
          · simp only [Act.put, List.setIfInBounds_toArray, List.set_cons_zero, List.set_cons_succ, i64_w, i32_w]
            rfl
          refine pure_ (i := 18) (N := some 120) (v := ?_) (a' := ?_) #[true, true, true, true, true, true, true, true, true, true, true, true, true, true, true, true, true, true, true, false, false, false, false, false, false, false, false] rfl rfl (by kernel_rfl) (fun _ _ _ h => h) (Or.inl ⟨by rfl, ?_⟩) ?_ ?_
          rotate_left
          · intro w'
            go_simp
            with_reducible rfl
          rotate_left
          · simp only [Act.put, List.setIfInBounds_toArray, List.set_cons_zero, List.set_cons_succ, i64_w, i32_w]
            rfl
          refine pure_ (i := 19) (N := some 121) (v := ?_) (a' := ?_) #[true, true, true, true, true, true, true, true, true, true, true, true, true, true, true, true, true, true, true, true, false, false, false, false, false, false, false] rfl rfl (by kernel_rfl) (fun _ _ _ h => h) (Or.inl ⟨by rfl, ?_⟩) ?_ ?_
          rotate_left
          · intro w'
            go_simp
            with_reducible rfl
          rotate_left
          · simp only [Act.put, List.setIfInBounds_toArray, List.set_cons_zero, List.set_cons_succ, i64_w, i32_w]
            rfl
          refine pure_ (i := 20) (N := some 122) (v := ?_) (a' := ?_) #[true, true, true, true, true, true, true, true, true, true, true, true, true, true, true, true, true, true, true, true, true, false, false, false, false, false, false] rfl rfl (by kernel_rfl) (fun _ _ _ h => h) (Or.inl ⟨by rfl, ?_⟩) ?_ ?_
          rotate_left
          · intro w'
            go_simp
            with_reducible rfl
          rotate_left
          · simp only [Act.put, List.setIfInBounds_toArray, List.set_cons_zero, List.set_cons_succ, i64_w, i32_w]
            rfl
          refine pure_ (i := 21) (N := some 123) (v := ?_) (a' := ?_) #[true, true, true, true, true, true, true, true, true, true, true, true, true, true, true, true, true, true, true, true, true, true, false, false, false, false, false] rfl rfl (by kernel_rfl) (fun _ _ _ h => h) (Or.inl ⟨by rfl, ?_⟩) ?_ ?_
          rotate_left
          · intro w'
            go_simp
            with_reducible rfl
          rotate_left
          · simp only [Act.put, List.setIfInBounds_toArray, List.set_cons_zero, List.set_cons_succ, i64_w, i32_w]
            rfl
          refine pure_ (i := 23) (N := some 125) (v := ?_) (a' := ?_) #[true, true, true, true, true, true, true, true, true, true, true, true, true, true, true, true, true, true, true, true, true, true, false, true, false, false, false] rfl rfl (by kernel_rfl) (fun _ _ _ h => h) (Or.inl ⟨by rfl, ?_⟩) ?_ ?_
          rotate_left
          · intro w'
            go_simp
            with_reducible rfl
          rotate_left
          · simp only [Act.put, List.setIfInBounds_toArray, List.set_cons_zero, List.set_cons_succ, i64_w, i32_w]
            rfl
          refine take_ (i := 22) (N := some 124) (v := ?_) (a' := ?_) #[true, true, true, true, true, true, true, true, true, true, true, true, true, true, true, true, true, true, true, true, true, true, true, true, false, false, false] rfl rfl (by kernel_rfl) (fun _ _ _ h => h) (Or.inl ⟨by rfl, ?_⟩) hHeld ?_ ?_
          rotate_left
          · rintro w' ⟨s0, s1, s2, s3, s4, s5, s6⟩
            go_simp
            with_reducible rfl
          rotate_left
          · simp only [Act.put, List.setIfInBounds_toArray, List.set_cons_zero, List.set_cons_succ, i64_w, i32_w]
            rfl
          refine last_ (i := 24) (N := some 126) #[true, true, true, true, true, true, true, true, true, true, true, true, true, true, true, true, true, true, true, true, true, true, true, true, true, false, false] rfl rfl (by kernel_rfl) (by decide) (fun K hK => ?_)
          refine goes_ Try.func13 (by kernel_rfl) rfl #[.slice A10 T1.length c10, .slice Ab T1.length cb] (by rfl) rfl rfl (by simp only [List.map_toArray, List.map_cons, List.map_nil]; rfl) ?_
          with_reducible refine (bodkinref13_Same.calls (T1.length + 1) A10 c10 T1 Ab cb T1 true _ hHeld.2.2.2.2.1 (Kd.R_reads' HTe.out.row).2.1 hHeld.2.2.2.2.2.1 (Kd.R_reads' HUe.out).2.1 HSd.out).mono ?_
          rintro e wf ⟨rfl, ⟨nf, rfl⟩⟩
          refine ⟨_, rfl, ?_⟩
          have HBf := Aside0.mk (pw_below_drewN hHeld.2.2.2.2.2.2 nf)
          refine hK.out _ _ ?_
          clear hK K
          refine norm_ (a' := ?_) ?_ ?_
          rotate_left
          · show Act.put _ (some 126) _ = _
            simp only [Act.put, List.setIfInBounds_toArray, List.set_cons_zero, List.set_cons_succ, i64_w, i32_w]
            rfl
          refine pure_ (i := 25) (N := some 127) (v := ?_) (a' := ?_) #[true, true, true, true, true, true, true, true, true, true, true, true, true, true, true, true, true, true, true, true, true, true, true, true, true, true, false] rfl rfl (by kernel_rfl) (fun _ _ _ h => h) (Or.inl ⟨by rfl, ?_⟩) ?_ ?_
          rotate_left
          · intro w'
            go_simp
            with_reducible rfl
          rotate_left
          · simp only [Act.put, List.setIfInBounds_toArray, List.set_cons_zero, List.set_cons_succ, i64_w, i32_w]
            rfl
          refine pure_ (i := 26) (N := some 10) (v := ?_) (a' := ?_) #[true, true, true, true, true, true, true, true, true, true, true, true, true, true, true, true, true, true, true, true, true, true, true, true, true, true, true] rfl rfl (by kernel_rfl) (fun _ _ _ h => h) (Or.inl ⟨by rfl, ?_⟩) ?_ ?_
          rotate_left
          · intro w'
            go_simp
            with_reducible rfl
          rotate_left
          · simp only [Act.put, List.setIfInBounds_toArray, List.set_cons_zero, List.set_cons_succ, i64_w, i32_w]
            rfl
          refine done_ (by kernel_rfl) ?_
          go_wp2_with (fail)
          go_ret
          exact ⟨by simp, HBf.out⟩
end Go.Proofs.Ytjpbmmncakcbhaa.PA
