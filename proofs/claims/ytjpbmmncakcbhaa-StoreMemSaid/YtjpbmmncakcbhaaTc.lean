/- The methods of a table (store.Table): Grow; no condition. -/
import Derived.Test.YtjpbmmncakcbhaaTb
namespace Go.Proofs.Ytjpbmmncakcbhaa.PA
open Go.RowKit Go.Proofs.YtjpbmmncakcbhaaW.PrintWords Go.Proofs.YtjpbmmncakcbhaaW.PrintLast Go.Proofs.YtjpbmmncakcbhaaW.PrintMore
attribute [local go_sem] max2_int min2_int max_two min_two max_three min_three max_four min_four
set_option linter.unusedVariables false
set_option linter.unusedSimpArgs false

theorem C_lit1 {w : World} {b : Nat} {x : S26} (h : w.heap[b]? = some (.cells #[.int .i64 x.f0, .int .u64 x.f1, .int .u64 x.f2, .bool x.f3] 26 (0, 0))) : Kd.C k26 w (some ⟨b, 0, none⟩) 1 [x] := by
  refine ⟨rfl, by decide, fun _ => ⟨_, rfl, fun j p hj => ?_⟩⟩
  cases j with
  | zero =>
    injection hj with hj
    subst hj
    refine ⟨[.int .i64 x.f0, .int .u64 x.f1, .int .u64 x.f2, .bool x.f3], rfl, k26_mk _ _, fun i u hu => ?_⟩
    have hi : i < 4 := by
      have := (List.getElem?_eq_some_iff.1 hu).1
      simpa using this
    rw [show 0 * k26.sz + i = i by rw [Nat.zero_mul, Nat.zero_add]]
    have hadd : (⟨b, 0, none⟩ : Addr).add i = ⟨b, i, none⟩ := by unfold Addr.add; split <;> simp_all
    rw [hadd, blk_cell h i, ← hu, List.getElem?_toArray]
  | succ j => simp at hj

theorem TabAt.kept {w w1 : World} {base g : Nat} {y x0 x1 : Int} {x2 : Bool} {B : Value} {l : List S26} {S : Nat → Prop} (h : TabAt w base g y x0 x1 x2 B l) (hk : Kept w w1 S) (hg : ¬ S g) (hB : ∀ k, B.ownBlock = some k → ¬ S k) : TabAt w1 base g y x0 x1 x2 B l :=
  ⟨h.le, blk_kept h.at_ hk hg, Kd.R_step h.row (fun k ho hlt => hk.2 k hlt (hB k ho)), h.ne⟩

theorem TabAt.stored {w w1 w0 : World} {base g : Nat} {y x0 x1 : Int} {x2 : Bool} {B B' : Value} {l l' : List S26} (h : TabAt w base g y x0 x1 x2 B l) (hb : Below base w0 w1) (hg : w.grownBy w1 B.ownBlock)
    (hR : Kd.R k26 26 w1 base (fun _ => True) B' l') (hat : B'.ownBlock = B.ownBlock ∨ ∃ b, B'.ownBlock = some b ∧ w.heap.size ≤ b) :
    TabAt (w1.setCell ⟨g, 4, none⟩ B') base g y x0 x1 x2 B' l' ∧ Below base w0 (w1.setCell ⟨g, 4, none⟩ B') ∧ Kept w (w1.setCell ⟨g, 4, none⟩ B') (memS g B) ∧ (∀ k, B'.ownBlock = some k → B.ownBlock = some k ∨ w.heap.size ≤ k) := by
  have h1 : w1.heap[g]? = some (.cells #[.int .i64 y, .int .i64 x0, .int .i64 x1, .bool x2, B] 41 (0, 0)) := (hg.block g (blk_lt h.at_) (fun e => h.ne e.symm)).trans h.at_
  have hne : some g ≠ B'.ownBlock := Kd.R_ne hR h1 (by decide)
  refine ⟨⟨h.le, blk_put h1 4 _ rfl, ?_, fun e => hne e.symm⟩, hb.setCell h.le _, (kept_grown hg).setCell (.inl (.inl rfl)) _, ?_⟩
  · exact Kd.R_far (Kd.R_reok rfl hR (fun k hk => hk)) (fun k hk e => hne (by rw [hk, e])) _
  · intro k hk
    rcases hat with e | ⟨b, e, hb⟩
    · exact .inl (by rw [← e]; exact hk)
    · rw [e] at hk; injection hk with hk; exact .inr (by omega)

def tabMost (x1 : Int) (x2 : Bool) : Int := if x2 = true then mn 10000 x1 else 10000
def tab_Grow (l : List S26) (x1 : Int) (x2 : Bool) (n : Int) (x : S26) : List S26 × Int :=
  if (l.length : Int) > tabMost x1 x2 then (l, -1) else if n > tabMost x1 x2 - (l.length : Int) then (l, -1) else (l ++ List.replicate n.toNat x, (l.length : Int))

set_option maxHeartbeats 8000000 in
set_option maxRecDepth 100000 in
theorem tab_Grow.calls (base g : Nat) (y x0 x1 : Int) (x2 : Bool) (B : Value) (l : List S26) (n : Int) (x : S26) (w0 w : World)
    (h0 : 0 ≤ n) (hn : n < 18446744073709551616) (hB : Below base w0 w) (hM : TabAt w base g y x0 x1 x2 B l) :
    Calls Try.prog 12 #[.pointer (some ⟨g, 0, none⟩), .int .u64 n, .agg #[.int .i64 x.f0, .int .u64 x.f1, .int .u64 x.f2, .bool x.f3]] w fun e w' =>
      ∃ B', e = .returned (.int .i64 (tab_Grow l x1 x2 n x).2) ∧ TabAt w' base g y x0 x1 x2 B' (tab_Grow l x1 x2 n x).1 ∧ Below base w0 w' ∧ Kept w w' (memS g B) ∧ (∀ k, B'.ownBlock = some k → B.ownBlock = some k ∨ w.heap.size ≤ k) := by
  have HS := Aside0.mk (Nat.le_trans hM.le (Nat.le_of_lt (blk_lt hM.at_)))
  obtain ⟨Ab, cb, rfl, hlb, hCb⟩ := Kd.R_reads hM.row
  have hll : l.length ≤ 9223372036854775807 := hCb.2.1
  obtain ⟨o, ho⟩ : ∃ o, o = Obj.cells #[.int .i64 x.f0, .int .u64 x.f1, .int .u64 x.f2, .bool x.f3] 26 (0, 0) := ⟨_, rfl⟩
  have HM := Aside0.mk hM
  have HM1 := Aside0.mk (hM.alloc (.cells #[.int .i64 x.f0, .int .u64 x.f1, .int .u64 x.f2, .bool x.f3] 26 (0, 0)))
  have HA := Aside0.mk (alloc_at w (.cells #[.int .i64 x.f0, .int .u64 x.f1, .int .u64 x.f2, .bool x.f3] 26 (0, 0)))
  have HB1 := Aside0.mk (hB.alloc HS.out (.cells #[.int .i64 x.f0, .int .u64 x.f1, .int .u64 x.f2, .bool x.f3] 26 (0, 0)))
  have HK1 := Aside0.mk (Kept.alloc (Kept.refl w (memS g (.slice Ab l.length cb))) (.cells #[.int .i64 x.f0, .int .u64 x.f1, .int .u64 x.f2, .bool x.f3] 26 (0, 0)))
  have hc4 : (w.alloc (.cells #[.int .i64 x.f0, .int .u64 x.f1, .int .u64 x.f2, .bool x.f3] 26 (0, 0))).cell? ⟨g, 4, none⟩ = some (.slice Ab l.length cb) := (blk_cell HM1.out.at_ 4).trans rfl
  have hc3 : (w.alloc (.cells #[.int .i64 x.f0, .int .u64 x.f1, .int .u64 x.f2, .bool x.f3] 26 (0, 0))).cell? ⟨g, 3, none⟩ = some (.bool x2) := (blk_cell HM1.out.at_ 3).trans rfl
  have hc2 : (w.alloc (.cells #[.int .i64 x.f0, .int .u64 x.f1, .int .u64 x.f2, .bool x.f3] 26 (0, 0))).cell? ⟨g, 2, none⟩ = some (.int .i64 x1) := (blk_cell HM1.out.at_ 2).trans rfl
  clear hM hCb hB ho o
  cases x2 with
  | false =>
    by_cases k1 : (l.length : Int) > 10000
    · have eM : tab_Grow l x1 false n x = (l, -1) := by unfold tab_Grow tabMost mn; (repeat' split) <;> first | rfl | (exfalso; omega) | (exfalso; simp_all; done)
      rw [eM]
      clear eM
      go_enter Try.func12, Try.ntmps12
      go_wp2_with (fail)
      go_ret
      first | exact ⟨_, rfl, HM1.out, HB1.out, HK1.out, fun k hk => .inl hk⟩ | exact ⟨rfl, _, HM1.out, HB1.out, HK1.out, fun k hk => .inl hk⟩
    · by_cases k2 : n > 10000 - (l.length : Int)
      · have eM : tab_Grow l x1 false n x = (l, -1) := by unfold tab_Grow tabMost mn; (repeat' split) <;> first | rfl | (exfalso; omega) | (exfalso; simp_all; done)
        rw [eM]
        clear eM
        go_enter Try.func12, Try.ntmps12
        go_wp2_with (fail)
        go_ret
        first | exact ⟨_, rfl, HM1.out, HB1.out, HK1.out, fun k hk => .inl hk⟩ | exact ⟨rfl, _, HM1.out, HB1.out, HK1.out, fun k hk => .inl hk⟩
      · have eM : tab_Grow l x1 false n x = (l ++ List.replicate n.toNat x, (l.length : Int)) := by unfold tab_Grow tabMost mn; (repeat' split) <;> first | rfl | (exfalso; omega) | (exfalso; simp_all; done)
        rw [eM]
        clear eM
        have hwn : IntKind.i64.wrap n = n := by unfold IntKind.wrap; simp [IntKind.signed, IntKind.bits]; omega
        have HLT := Aside0.mk (show ∀ k, (Value.slice Ab l.length cb).ownBlock = some k → k < w.heap.size from Kd.R_lt HM.out.row)
        go_enter Try.func12, Try.ntmps12
        go_wp2_with (fail)
        generalize hw1 : w.alloc (.cells #[.int .i64 x.f0, .int .u64 x.f1, .int .u64 x.f2, .bool x.f3] 26 (0, 0)) = w1 at HM1 HA HB1 HK1 hc4 hc3 hc2 ⊢
        generalize hb5 : w.heap.size = b5 at HA HLT ⊢
        have HW5 := Aside0.mk hb5
        clear hw1 hb5
        refine start_ (n := 14) (S := fun w' => w'.cell? ⟨g, 4, none⟩ = some (.slice Ab l.length cb) ∧ w'.cell? ⟨b5, 0, none⟩ = some (.int .i64 x.f0) ∧ w'.cell? ⟨b5, 1, none⟩ = some (.int .u64 x.f1) ∧ w'.cell? ⟨b5, 2, none⟩ = some (.int .u64 x.f2) ∧ w'.cell? ⟨b5, 3, none⟩ = some (.bool x.f3) ∧ w'.heap[b5]? = some (.cells #[.int .i64 x.f0, .int .u64 x.f1, .int .u64 x.f2, .bool x.f3] 26 (0, 0)) ∧ TabAt w' base g y x0 x1 false (.slice Ab l.length cb) l ∧ Below base w0 w' ∧ Kept w w' (memS g (.slice Ab l.length cb))) (ds := [10, 13]) #[false, false, false, false, false, false, false, false, false, false, false, false, false, false] (by kernel_rfl) rfl rfl ⟨((blk_cell HM1.out.at_ 4).trans rfl), ((blk_cell HA.out 0).trans rfl), ((blk_cell HA.out 1).trans rfl), ((blk_cell HA.out 2).trans rfl), ((blk_cell HA.out 3).trans rfl), HA.out, HM1.out.drew, (below_drew1 HB1.out), (Kept.drew HK1.out)⟩ (fun hHeld => ?_)
        refine pure_ (i := 0) (N := some 41) (v := ?_) (a' := ?_) #[true, false, false, false, false, false, false, false, false, false, false, false, false, false] rfl rfl (by kernel_rfl) (fun _ _ _ h => h) (Or.inl ⟨by rfl, ?_⟩) ?_ ?_
        rotate_left
        · intro w'
          go_simp
          with_reducible rfl
        rotate_left
        · simp only [Act.put, List.setIfInBounds_toArray, List.set_cons_zero, List.set_cons_succ, i64_w, i32_w]
          rfl
        refine pure_ (i := 1) (N := some 42) (v := ?_) (a' := ?_) #[true, true, false, false, false, false, false, false, false, false, false, false, false, false] rfl rfl (by kernel_rfl) (fun _ _ _ h => h) (Or.inl ⟨by rfl, ?_⟩) ?_ ?_
        rotate_left
        · intro w'
          go_simp
          with_reducible rfl
        rotate_left
        · simp only [Act.put, List.setIfInBounds_toArray, List.set_cons_zero, List.set_cons_succ, i64_w, i32_w]
          rfl
        refine pure_ (i := 2) (N := some 43) (v := ?_) (a' := ?_) #[true, true, true, false, false, false, false, false, false, false, false, false, false, false] rfl rfl (by kernel_rfl) (fun _ _ _ h => h) (Or.inl ⟨by rfl, ?_⟩) ?_ ?_
        rotate_left
        · intro w'
          go_simp
          with_reducible rfl
        rotate_left
        · simp only [Act.put, List.setIfInBounds_toArray, List.set_cons_zero, List.set_cons_succ, i64_w, i32_w]
          rfl
        refine pure_ (i := 3) (N := some 44) (v := ?_) (a' := ?_) #[true, true, true, true, false, false, false, false, false, false, false, false, false, false] rfl rfl (by kernel_rfl) (fun _ _ _ h => h) (Or.inl ⟨by rfl, ?_⟩) ?_ ?_
        rotate_left
        · intro w'
          go_simp
          with_reducible rfl
        rotate_left
        · simp only [Act.put, List.setIfInBounds_toArray, List.set_cons_zero, List.set_cons_succ, i64_w, i32_w]
          rfl
        refine pure_ (i := 7) (N := some 48) (v := ?_) (a' := ?_) #[true, true, true, true, false, false, false, true, false, false, false, false, false, false] rfl rfl (by kernel_rfl) (fun _ _ _ h => h) (Or.inl ⟨by rfl, ?_⟩) ?_ ?_
        rotate_left
        · intro w'
          go_simp
          with_reducible rfl
        rotate_left
        · simp only [Act.put, List.setIfInBounds_toArray, List.set_cons_zero, List.set_cons_succ, i64_w, i32_w]
          rfl
        refine pure_ (i := 8) (N := some 49) (v := ?_) (a' := ?_) #[true, true, true, true, false, false, false, true, true, false, false, false, false, false] rfl rfl (by kernel_rfl) (fun _ _ _ h => h) (Or.inl ⟨by rfl, ?_⟩) ?_ ?_
        rotate_left
        · intro w'
          go_simp
          with_reducible rfl
        rotate_left
        · simp only [Act.put, List.setIfInBounds_toArray, List.set_cons_zero, List.set_cons_succ, i64_w, i32_w]
          rfl
        refine take_ (i := 4) (N := some 45) (v := ?_) (a' := ?_) #[true, true, true, true, true, false, false, true, true, false, false, false, false, false] rfl rfl (by kernel_rfl) (fun _ _ _ h => h) (Or.inl ⟨by rfl, ?_⟩) hHeld ?_ ?_
        rotate_left
        · rintro w' ⟨s0, s1, s2, s3, s4, s5, s6, s7, s8⟩
          go_simp
          with_reducible rfl
        rotate_left
        · simp only [Act.put, List.setIfInBounds_toArray, List.set_cons_zero, List.set_cons_succ, i64_w, i32_w]
          rfl
        refine take_ (i := 5) (N := some 46) (v := ?_) (a' := ?_) #[true, true, true, true, true, true, false, true, true, false, false, false, false, false] rfl rfl (by kernel_rfl) (fun _ _ _ h => h) (Or.inl ⟨by rfl, ?_⟩) hHeld ?_ ?_
        rotate_left
        · rintro w' ⟨s0, s1, s2, s3, s4, s5, s6, s7, s8⟩
          go_simp
          with_reducible rfl
        rotate_left
        · simp only [Act.put, List.setIfInBounds_toArray, List.set_cons_zero, List.set_cons_succ, i64_w, i32_w]
          rfl
        refine one_ (i := 6) (N := some 47) #[true, true, true, true, true, true, true, true, true, false, false, false, false, false] rfl rfl (by kernel_rfl) (by decide) (fun K hK => ?_)
        refine value_ (w1 := ?_) (v := ?_) (by rfl) rfl ?_ ?_
        rotate_left 2
        · go_simp
          constructor
          · rfl
          · rfl
        have hT := hHeld.2.2.2.2.2
        have HL6 := Aside0.mk (Kd.C_drew (C_lit1 (alloc_at w1 (.cells #[.int .i64 x.f0, .int .u64 x.f1, .int .u64 x.f2, .bool x.f3] 26 (0, 0)))))
        refine hK.out _ _ ⟨((blk_cell (hT.2.1.alloc _).at_ 4).trans rfl), ((blk_cell (blk_alloc hT.1 _) 0).trans rfl), ((blk_cell (blk_alloc hT.1 _) 1).trans rfl), ((blk_cell (blk_alloc hT.1 _) 2).trans rfl), ((blk_cell (blk_alloc hT.1 _) 3).trans rfl), (blk_alloc hT.1 _), (hT.2.1.alloc _), (hT.2.2.1.alloc (Nat.le_trans hT.2.1.le (Nat.le_of_lt (blk_lt hT.2.1.at_))) _), (Kept.alloc hT.2.2.2 _)⟩ (fun hHeld => ?_)
        clear hK K
        refine norm_ (a' := ?_) ?_ ?_
        rotate_left
        · show Act.put _ (some 47) _ = _
          simp only [Act.put, List.setIfInBounds_toArray, List.set_cons_zero, List.set_cons_succ, i64_w, i32_w]
          rfl
        refine one_ (i := 9) (N := some 50) #[true, true, true, true, true, true, true, true, true, true, false, false, false, false] rfl rfl (by kernel_rfl) (by decide) (fun K hK => ?_)
        have hT := hHeld.2.2.2.2.2
        refine goes_ Try.func29 (by kernel_rfl) rfl #[.slice (some ⟨w1.heap.size, 0, none⟩) 1 1, .int .i64 n] (by rfl) rfl rfl (by simp only [List.map_toArray, List.map_cons, List.map_nil]; rfl) ?_
        with_reducible refine (slices_Repeat.calls base _ 1 x n w0 _ h0 (by omega) hT.2.2.1 (Nat.le_trans hT.2.1.le (Nat.le_of_lt (blk_lt hT.2.1.at_))) HL6.out (Nat.le_refl _)).mono ?_
        rintro e w3 ⟨v3, rfl, g1, g2, g3⟩
        refine ⟨_, rfl, ?_⟩
        obtain ⟨A3, c3, rfl⟩ := Kd.R_slice g1
        have HC9 := Aside0.mk (Kd.R_reads' g1).2.2
        have hU := (show _ ∧ _ ∧ _ ∧ _ from ⟨blk_kept hT.1 g3 (fun h => h), hT.2.1.kept g3 (fun h => h) (fun _ _ h => h), g2, hT.2.2.2.then_ g3 (fun _ h => h.elim)⟩)
        clear g1 g2 g3
        refine hK.out _ _ ⟨((blk_cell hU.2.1.at_ 4).trans rfl), ((blk_cell hU.1 0).trans rfl), ((blk_cell hU.1 1).trans rfl), ((blk_cell hU.1 2).trans rfl), ((blk_cell hU.1 3).trans rfl), hU.1, hU.2.1, hU.2.2.1, hU.2.2.2⟩ (fun hHeld => ?_)
        clear hK K
        refine norm_ (a' := ?_) ?_ ?_
        rotate_left
        · show Act.put _ (some 50) _ = _
          simp only [Act.put, List.setIfInBounds_toArray, List.set_cons_zero, List.set_cons_succ, i64_w, i32_w]
          rfl
        refine last_ (i := 10) (N := some 51) #[true, true, true, true, true, true, true, true, true, true, true, false, false, false] rfl rfl (by kernel_rfl) (by decide) (fun K hK => ?_)
        have hT := hHeld.2.2.2.2.2
        refine Kd.R_append_rows_step k26 (w0 := w0) base (by rfl) (.tmp 45) (.tmp 50) 38 26 (.agg #[(.int .i64 0), (.int .u64 0), (.int .u64 0), (.bool false)]) 32 rfl Try.underlying38 info26 rfl (by decide) (by omega) (.slice Ab l.length cb) l (List.replicate n.toNat x) A3 (List.replicate n.toNat x).length c3 (fun _ => True) (fun _ => False) rfl (by simp only [List.length_replicate]; rfl) (Kd.R_mono hT.2.1.row (fun _ _ => trivial)) HC9.out (fun _ _ h => flat_26.km h) (fun _ h => h.elim) (fun _ _ => trivial) hT.2.2.1 (Nat.le_trans hT.2.1.le (Nat.le_of_lt (blk_lt hT.2.1.at_))) (by rw [List.length_replicate]; omega) ?_
        intro v4 w4 ho hb hg hat
        obtain ⟨A4, c4, rfl⟩ := Kd.R_slice ho
        have HF4 := Aside0.mk (hT.2.1.stored hb hg ho hat)
        have HK4 := Aside0.mk hT.2.2.2
        have HAT := Aside0.mk (show _ = _ from blk_grown hT.2.1.at_ hg (fun e => hT.2.1.ne e.symm))
        have hcs := (blk_cell HAT.out 4).trans (rfl : _ = some _)
        have hfs := blk_frozen HAT.out 4
        clear ho hb hg hat
        refine hK.out _ _ ?_
        clear hK K
        refine norm_ (a' := ?_) ?_ ?_
        rotate_left
        · show Act.put _ (some 51) _ = _
          simp only [Act.put, List.setIfInBounds_toArray, List.set_cons_zero, List.set_cons_succ, i64_w, i32_w]
          rfl
        refine pure_ (i := 11) (N := some 52) (v := ?_) (a' := ?_) #[true, true, true, true, true, true, true, true, true, true, true, true, false, false] rfl rfl (by kernel_rfl) (fun _ _ _ h => h) (Or.inl ⟨by rfl, ?_⟩) ?_ ?_
        rotate_left
        · intro w'
          go_simp
          with_reducible rfl
        rotate_left
        · simp only [Act.put, List.setIfInBounds_toArray, List.set_cons_zero, List.set_cons_succ, i64_w, i32_w]
          rfl
        refine pure_ (i := 12) (N := some 53) (v := ?_) (a' := ?_) #[true, true, true, true, true, true, true, true, true, true, true, true, true, false] rfl rfl (by kernel_rfl) (fun _ _ _ h => h) (Or.inl ⟨by rfl, ?_⟩) ?_ ?_
        rotate_left
        · intro w'
          go_simp
          with_reducible rfl
        rotate_left
        · simp only [Act.put, List.setIfInBounds_toArray, List.set_cons_zero, List.set_cons_succ, i64_w, i32_w]
          rfl
        refine last_ (i := 13) (N := none) #[true, true, true, true, true, true, true, true, true, true, true, true, true, true] rfl rfl (by kernel_rfl) (by decide) (fun K hK => ?_)
        refine skip_ (w1 := ?_) (by rfl) rfl ?_ ?_
        rotate_left
        · go_simp
          rfl
        refine hK.out _ _ ?_
        clear hK K
        refine done_ (by kernel_rfl) ?_
        go_wp2_with (fail)
        go_ret
        obtain ⟨f1, f2, f3, f4⟩ := HF4.out
        rw [show (l ++ List.replicate n.toNat x).length = l.length + n.toNat by simp] at f1 f2 f3 f4
        have f5 := HK4.out.then_ f3 (fun _ h => .inl h)
        have f6 := fun k hk => (f4 k hk).imp_right (fun h => Nat.le_trans (Nat.le_trans (Nat.le_refl w.heap.size) HK4.out.1) h)
        exact ⟨_, rfl, f1, f2, f5, f6⟩
  | true =>
    by_cases hmn : x1 < 10000
    · skip
      by_cases k1 : (l.length : Int) > x1
      · have eM : tab_Grow l x1 true n x = (l, -1) := by unfold tab_Grow tabMost mn; (repeat' split) <;> first | rfl | (exfalso; omega) | (exfalso; simp_all; done)
        rw [eM]
        clear eM
        go_enter Try.func12, Try.ntmps12
        go_wp2_with (fail)
        go_ret
        first | exact ⟨_, rfl, HM1.out, HB1.out, HK1.out, fun k hk => .inl hk⟩ | exact ⟨rfl, _, HM1.out, HB1.out, HK1.out, fun k hk => .inl hk⟩
      · by_cases k2 : n > x1 - (l.length : Int)
        · have eM : tab_Grow l x1 true n x = (l, -1) := by unfold tab_Grow tabMost mn; (repeat' split) <;> first | rfl | (exfalso; omega) | (exfalso; simp_all; done)
          rw [eM]
          clear eM
          go_enter Try.func12, Try.ntmps12
          go_wp2_with (fail)
          go_ret
          first | exact ⟨_, rfl, HM1.out, HB1.out, HK1.out, fun k hk => .inl hk⟩ | exact ⟨rfl, _, HM1.out, HB1.out, HK1.out, fun k hk => .inl hk⟩
        · have eM : tab_Grow l x1 true n x = (l ++ List.replicate n.toNat x, (l.length : Int)) := by unfold tab_Grow tabMost mn; (repeat' split) <;> first | rfl | (exfalso; omega) | (exfalso; simp_all; done)
          rw [eM]
          clear eM
          have hwn : IntKind.i64.wrap n = n := by unfold IntKind.wrap; simp [IntKind.signed, IntKind.bits]; omega
          have HLT := Aside0.mk (show ∀ k, (Value.slice Ab l.length cb).ownBlock = some k → k < w.heap.size from Kd.R_lt HM.out.row)
          go_enter Try.func12, Try.ntmps12
          go_wp2_with (fail)
          generalize hw1 : w.alloc (.cells #[.int .i64 x.f0, .int .u64 x.f1, .int .u64 x.f2, .bool x.f3] 26 (0, 0)) = w1 at HM1 HA HB1 HK1 hc4 hc3 hc2 ⊢
          generalize hb5 : w.heap.size = b5 at HA HLT ⊢
          have HW5 := Aside0.mk hb5
          clear hw1 hb5
          refine start_ (n := 14) (S := fun w' => w'.cell? ⟨g, 4, none⟩ = some (.slice Ab l.length cb) ∧ w'.cell? ⟨b5, 0, none⟩ = some (.int .i64 x.f0) ∧ w'.cell? ⟨b5, 1, none⟩ = some (.int .u64 x.f1) ∧ w'.cell? ⟨b5, 2, none⟩ = some (.int .u64 x.f2) ∧ w'.cell? ⟨b5, 3, none⟩ = some (.bool x.f3) ∧ w'.heap[b5]? = some (.cells #[.int .i64 x.f0, .int .u64 x.f1, .int .u64 x.f2, .bool x.f3] 26 (0, 0)) ∧ TabAt w' base g y x0 x1 true (.slice Ab l.length cb) l ∧ Below base w0 w' ∧ Kept w w' (memS g (.slice Ab l.length cb))) (ds := [10, 13]) #[false, false, false, false, false, false, false, false, false, false, false, false, false, false] (by kernel_rfl) rfl rfl ⟨((blk_cell HM1.out.at_ 4).trans rfl), ((blk_cell HA.out 0).trans rfl), ((blk_cell HA.out 1).trans rfl), ((blk_cell HA.out 2).trans rfl), ((blk_cell HA.out 3).trans rfl), HA.out, HM1.out.drew, (below_drew1 HB1.out), (Kept.drew HK1.out)⟩ (fun hHeld => ?_)
          refine pure_ (i := 0) (N := some 41) (v := ?_) (a' := ?_) #[true, false, false, false, false, false, false, false, false, false, false, false, false, false] rfl rfl (by kernel_rfl) (fun _ _ _ h => h) (Or.inl ⟨by rfl, ?_⟩) ?_ ?_
          rotate_left
          · intro w'
            go_simp
            with_reducible rfl
          rotate_left
          · simp only [Act.put, List.setIfInBounds_toArray, List.set_cons_zero, List.set_cons_succ, i64_w, i32_w]
            rfl
          refine pure_ (i := 1) (N := some 42) (v := ?_) (a' := ?_) #[true, true, false, false, false, false, false, false, false, false, false, false, false, false] rfl rfl (by kernel_rfl) (fun _ _ _ h => h) (Or.inl ⟨by rfl, ?_⟩) ?_ ?_
          rotate_left
          · intro w'
            go_simp
            with_reducible rfl
          rotate_left
          · simp only [Act.put, List.setIfInBounds_toArray, List.set_cons_zero, List.set_cons_succ, i64_w, i32_w]
            rfl
          refine pure_ (i := 2) (N := some 43) (v := ?_) (a' := ?_) #[true, true, true, false, false, false, false, false, false, false, false, false, false, false] rfl rfl (by kernel_rfl) (fun _ _ _ h => h) (Or.inl ⟨by rfl, ?_⟩) ?_ ?_
          rotate_left
          · intro w'
            go_simp
            with_reducible rfl
          rotate_left
          · simp only [Act.put, List.setIfInBounds_toArray, List.set_cons_zero, List.set_cons_succ, i64_w, i32_w]
            rfl
          refine pure_ (i := 3) (N := some 44) (v := ?_) (a' := ?_) #[true, true, true, true, false, false, false, false, false, false, false, false, false, false] rfl rfl (by kernel_rfl) (fun _ _ _ h => h) (Or.inl ⟨by rfl, ?_⟩) ?_ ?_
          rotate_left
          · intro w'
            go_simp
            with_reducible rfl
          rotate_left
          · simp only [Act.put, List.setIfInBounds_toArray, List.set_cons_zero, List.set_cons_succ, i64_w, i32_w]
            rfl
          refine pure_ (i := 7) (N := some 48) (v := ?_) (a' := ?_) #[true, true, true, true, false, false, false, true, false, false, false, false, false, false] rfl rfl (by kernel_rfl) (fun _ _ _ h => h) (Or.inl ⟨by rfl, ?_⟩) ?_ ?_
          rotate_left
          · intro w'
            go_simp
            with_reducible rfl
          rotate_left
          · simp only [Act.put, List.setIfInBounds_toArray, List.set_cons_zero, List.set_cons_succ, i64_w, i32_w]
            rfl
          refine pure_ (i := 8) (N := some 49) (v := ?_) (a' := ?_) #[true, true, true, true, false, false, false, true, true, false, false, false, false, false] rfl rfl (by kernel_rfl) (fun _ _ _ h => h) (Or.inl ⟨by rfl, ?_⟩) ?_ ?_
          rotate_left
          · intro w'
            go_simp
            with_reducible rfl
          rotate_left
          · simp only [Act.put, List.setIfInBounds_toArray, List.set_cons_zero, List.set_cons_succ, i64_w, i32_w]
            rfl
          refine take_ (i := 4) (N := some 45) (v := ?_) (a' := ?_) #[true, true, true, true, true, false, false, true, true, false, false, false, false, false] rfl rfl (by kernel_rfl) (fun _ _ _ h => h) (Or.inl ⟨by rfl, ?_⟩) hHeld ?_ ?_
          rotate_left
          · rintro w' ⟨s0, s1, s2, s3, s4, s5, s6, s7, s8⟩
            go_simp
            with_reducible rfl
          rotate_left
          · simp only [Act.put, List.setIfInBounds_toArray, List.set_cons_zero, List.set_cons_succ, i64_w, i32_w]
            rfl
          refine take_ (i := 5) (N := some 46) (v := ?_) (a' := ?_) #[true, true, true, true, true, true, false, true, true, false, false, false, false, false] rfl rfl (by kernel_rfl) (fun _ _ _ h => h) (Or.inl ⟨by rfl, ?_⟩) hHeld ?_ ?_
          rotate_left
          · rintro w' ⟨s0, s1, s2, s3, s4, s5, s6, s7, s8⟩
            go_simp
            with_reducible rfl
          rotate_left
          · simp only [Act.put, List.setIfInBounds_toArray, List.set_cons_zero, List.set_cons_succ, i64_w, i32_w]
            rfl
          refine one_ (i := 6) (N := some 47) #[true, true, true, true, true, true, true, true, true, false, false, false, false, false] rfl rfl (by kernel_rfl) (by decide) (fun K hK => ?_)
          refine value_ (w1 := ?_) (v := ?_) (by rfl) rfl ?_ ?_
          rotate_left 2
          · go_simp
            constructor
            · rfl
            · rfl
          have hT := hHeld.2.2.2.2.2
          have HL6 := Aside0.mk (Kd.C_drew (C_lit1 (alloc_at w1 (.cells #[.int .i64 x.f0, .int .u64 x.f1, .int .u64 x.f2, .bool x.f3] 26 (0, 0)))))
          refine hK.out _ _ ⟨((blk_cell (hT.2.1.alloc _).at_ 4).trans rfl), ((blk_cell (blk_alloc hT.1 _) 0).trans rfl), ((blk_cell (blk_alloc hT.1 _) 1).trans rfl), ((blk_cell (blk_alloc hT.1 _) 2).trans rfl), ((blk_cell (blk_alloc hT.1 _) 3).trans rfl), (blk_alloc hT.1 _), (hT.2.1.alloc _), (hT.2.2.1.alloc (Nat.le_trans hT.2.1.le (Nat.le_of_lt (blk_lt hT.2.1.at_))) _), (Kept.alloc hT.2.2.2 _)⟩ (fun hHeld => ?_)
          clear hK K
          refine norm_ (a' := ?_) ?_ ?_
          rotate_left
          · show Act.put _ (some 47) _ = _
            simp only [Act.put, List.setIfInBounds_toArray, List.set_cons_zero, List.set_cons_succ, i64_w, i32_w]
            rfl
          refine one_ (i := 9) (N := some 50) #[true, true, true, true, true, true, true, true, true, true, false, false, false, false] rfl rfl (by kernel_rfl) (by decide) (fun K hK => ?_)
          have hT := hHeld.2.2.2.2.2
          refine goes_ Try.func29 (by kernel_rfl) rfl #[.slice (some ⟨w1.heap.size, 0, none⟩) 1 1, .int .i64 n] (by rfl) rfl rfl (by simp only [List.map_toArray, List.map_cons, List.map_nil]; rfl) ?_
          with_reducible refine (slices_Repeat.calls base _ 1 x n w0 _ h0 (by omega) hT.2.2.1 (Nat.le_trans hT.2.1.le (Nat.le_of_lt (blk_lt hT.2.1.at_))) HL6.out (Nat.le_refl _)).mono ?_
          rintro e w3 ⟨v3, rfl, g1, g2, g3⟩
          refine ⟨_, rfl, ?_⟩
          obtain ⟨A3, c3, rfl⟩ := Kd.R_slice g1
          have HC9 := Aside0.mk (Kd.R_reads' g1).2.2
          have hU := (show _ ∧ _ ∧ _ ∧ _ from ⟨blk_kept hT.1 g3 (fun h => h), hT.2.1.kept g3 (fun h => h) (fun _ _ h => h), g2, hT.2.2.2.then_ g3 (fun _ h => h.elim)⟩)
          clear g1 g2 g3
          refine hK.out _ _ ⟨((blk_cell hU.2.1.at_ 4).trans rfl), ((blk_cell hU.1 0).trans rfl), ((blk_cell hU.1 1).trans rfl), ((blk_cell hU.1 2).trans rfl), ((blk_cell hU.1 3).trans rfl), hU.1, hU.2.1, hU.2.2.1, hU.2.2.2⟩ (fun hHeld => ?_)
          clear hK K
          refine norm_ (a' := ?_) ?_ ?_
          rotate_left
          · show Act.put _ (some 50) _ = _
            simp only [Act.put, List.setIfInBounds_toArray, List.set_cons_zero, List.set_cons_succ, i64_w, i32_w]
            rfl
          refine last_ (i := 10) (N := some 51) #[true, true, true, true, true, true, true, true, true, true, true, false, false, false] rfl rfl (by kernel_rfl) (by decide) (fun K hK => ?_)
          have hT := hHeld.2.2.2.2.2
          refine Kd.R_append_rows_step k26 (w0 := w0) base (by rfl) (.tmp 45) (.tmp 50) 38 26 (.agg #[(.int .i64 0), (.int .u64 0), (.int .u64 0), (.bool false)]) 32 rfl Try.underlying38 info26 rfl (by decide) (by omega) (.slice Ab l.length cb) l (List.replicate n.toNat x) A3 (List.replicate n.toNat x).length c3 (fun _ => True) (fun _ => False) rfl (by simp only [List.length_replicate]; rfl) (Kd.R_mono hT.2.1.row (fun _ _ => trivial)) HC9.out (fun _ _ h => flat_26.km h) (fun _ h => h.elim) (fun _ _ => trivial) hT.2.2.1 (Nat.le_trans hT.2.1.le (Nat.le_of_lt (blk_lt hT.2.1.at_))) (by rw [List.length_replicate]; omega) ?_
          intro v4 w4 ho hb hg hat
          obtain ⟨A4, c4, rfl⟩ := Kd.R_slice ho
          have HF4 := Aside0.mk (hT.2.1.stored hb hg ho hat)
          have HK4 := Aside0.mk hT.2.2.2
          have HAT := Aside0.mk (show _ = _ from blk_grown hT.2.1.at_ hg (fun e => hT.2.1.ne e.symm))
          have hcs := (blk_cell HAT.out 4).trans (rfl : _ = some _)
          have hfs := blk_frozen HAT.out 4
          clear ho hb hg hat
          refine hK.out _ _ ?_
          clear hK K
          refine norm_ (a' := ?_) ?_ ?_
          rotate_left
          · show Act.put _ (some 51) _ = _
            simp only [Act.put, List.setIfInBounds_toArray, List.set_cons_zero, List.set_cons_succ, i64_w, i32_w]
            rfl
          refine pure_ (i := 11) (N := some 52) (v := ?_) (a' := ?_) #[true, true, true, true, true, true, true, true, true, true, true, true, false, false] rfl rfl (by kernel_rfl) (fun _ _ _ h => h) (Or.inl ⟨by rfl, ?_⟩) ?_ ?_
          rotate_left
          · intro w'
            go_simp
            with_reducible rfl
          rotate_left
          · simp only [Act.put, List.setIfInBounds_toArray, List.set_cons_zero, List.set_cons_succ, i64_w, i32_w]
            rfl
          refine pure_ (i := 12) (N := some 53) (v := ?_) (a' := ?_) #[true, true, true, true, true, true, true, true, true, true, true, true, true, false] rfl rfl (by kernel_rfl) (fun _ _ _ h => h) (Or.inl ⟨by rfl, ?_⟩) ?_ ?_
          rotate_left
          · intro w'
            go_simp
            with_reducible rfl
          rotate_left
          · simp only [Act.put, List.setIfInBounds_toArray, List.set_cons_zero, List.set_cons_succ, i64_w, i32_w]
            rfl
          refine last_ (i := 13) (N := none) #[true, true, true, true, true, true, true, true, true, true, true, true, true, true] rfl rfl (by kernel_rfl) (by decide) (fun K hK => ?_)
          refine skip_ (w1 := ?_) (by rfl) rfl ?_ ?_
          rotate_left
          · go_simp
            rfl
          refine hK.out _ _ ?_
          clear hK K
          refine done_ (by kernel_rfl) ?_
          go_wp2_with (fail)
          go_ret
          obtain ⟨f1, f2, f3, f4⟩ := HF4.out
          rw [show (l ++ List.replicate n.toNat x).length = l.length + n.toNat by simp] at f1 f2 f3 f4
          have f5 := HK4.out.then_ f3 (fun _ h => .inl h)
          have f6 := fun k hk => (f4 k hk).imp_right (fun h => Nat.le_trans (Nat.le_trans (Nat.le_refl w.heap.size) HK4.out.1) h)
          exact ⟨_, rfl, f1, f2, f5, f6⟩
    · skip
      by_cases k1 : (l.length : Int) > 10000
      · have eM : tab_Grow l x1 true n x = (l, -1) := by unfold tab_Grow tabMost mn; (repeat' split) <;> first | rfl | (exfalso; omega) | (exfalso; simp_all; done)
        rw [eM]
        clear eM
        go_enter Try.func12, Try.ntmps12
        go_wp2_with (fail)
        go_ret
        first | exact ⟨_, rfl, HM1.out, HB1.out, HK1.out, fun k hk => .inl hk⟩ | exact ⟨rfl, _, HM1.out, HB1.out, HK1.out, fun k hk => .inl hk⟩
      · by_cases k2 : n > 10000 - (l.length : Int)
        · have eM : tab_Grow l x1 true n x = (l, -1) := by unfold tab_Grow tabMost mn; (repeat' split) <;> first | rfl | (exfalso; omega) | (exfalso; simp_all; done)
          rw [eM]
          clear eM
          go_enter Try.func12, Try.ntmps12
          go_wp2_with (fail)
          go_ret
          first | exact ⟨_, rfl, HM1.out, HB1.out, HK1.out, fun k hk => .inl hk⟩ | exact ⟨rfl, _, HM1.out, HB1.out, HK1.out, fun k hk => .inl hk⟩
        · have eM : tab_Grow l x1 true n x = (l ++ List.replicate n.toNat x, (l.length : Int)) := by unfold tab_Grow tabMost mn; (repeat' split) <;> first | rfl | (exfalso; omega) | (exfalso; simp_all; done)
          rw [eM]
          clear eM
          have hwn : IntKind.i64.wrap n = n := by unfold IntKind.wrap; simp [IntKind.signed, IntKind.bits]; omega
          have HLT := Aside0.mk (show ∀ k, (Value.slice Ab l.length cb).ownBlock = some k → k < w.heap.size from Kd.R_lt HM.out.row)
          go_enter Try.func12, Try.ntmps12
          go_wp2_with (fail)
          generalize hw1 : w.alloc (.cells #[.int .i64 x.f0, .int .u64 x.f1, .int .u64 x.f2, .bool x.f3] 26 (0, 0)) = w1 at HM1 HA HB1 HK1 hc4 hc3 hc2 ⊢
          generalize hb5 : w.heap.size = b5 at HA HLT ⊢
          have HW5 := Aside0.mk hb5
          clear hw1 hb5
          refine start_ (n := 14) (S := fun w' => w'.cell? ⟨g, 4, none⟩ = some (.slice Ab l.length cb) ∧ w'.cell? ⟨b5, 0, none⟩ = some (.int .i64 x.f0) ∧ w'.cell? ⟨b5, 1, none⟩ = some (.int .u64 x.f1) ∧ w'.cell? ⟨b5, 2, none⟩ = some (.int .u64 x.f2) ∧ w'.cell? ⟨b5, 3, none⟩ = some (.bool x.f3) ∧ w'.heap[b5]? = some (.cells #[.int .i64 x.f0, .int .u64 x.f1, .int .u64 x.f2, .bool x.f3] 26 (0, 0)) ∧ TabAt w' base g y x0 x1 true (.slice Ab l.length cb) l ∧ Below base w0 w' ∧ Kept w w' (memS g (.slice Ab l.length cb))) (ds := [10, 13]) #[false, false, false, false, false, false, false, false, false, false, false, false, false, false] (by kernel_rfl) rfl rfl ⟨((blk_cell HM1.out.at_ 4).trans rfl), ((blk_cell HA.out 0).trans rfl), ((blk_cell HA.out 1).trans rfl), ((blk_cell HA.out 2).trans rfl), ((blk_cell HA.out 3).trans rfl), HA.out, HM1.out.drew, (below_drew1 HB1.out), (Kept.drew HK1.out)⟩ (fun hHeld => ?_)
          refine pure_ (i := 0) (N := some 41) (v := ?_) (a' := ?_) #[true, false, false, false, false, false, false, false, false, false, false, false, false, false] rfl rfl (by kernel_rfl) (fun _ _ _ h => h) (Or.inl ⟨by rfl, ?_⟩) ?_ ?_
          rotate_left
          · intro w'
            go_simp
            with_reducible rfl
          rotate_left
          · simp only [Act.put, List.setIfInBounds_toArray, List.set_cons_zero, List.set_cons_succ, i64_w, i32_w]
            rfl
          refine pure_ (i := 1) (N := some 42) (v := ?_) (a' := ?_) #[true, true, false, false, false, false, false, false, false, false, false, false, false, false] rfl rfl (by kernel_rfl) (fun _ _ _ h => h) (Or.inl ⟨by rfl, ?_⟩) ?_ ?_
          rotate_left
          · intro w'
            go_simp
            with_reducible rfl
          rotate_left
          · simp only [Act.put, List.setIfInBounds_toArray, List.set_cons_zero, List.set_cons_succ, i64_w, i32_w]
            rfl
          refine pure_ (i := 2) (N := some 43) (v := ?_) (a' := ?_) #[true, true, true, false, false, false, false, false, false, false, false, false, false, false] rfl rfl (by kernel_rfl) (fun _ _ _ h => h) (Or.inl ⟨by rfl, ?_⟩) ?_ ?_
          rotate_left
          · intro w'
            go_simp
            with_reducible rfl
          rotate_left
          · simp only [Act.put, List.setIfInBounds_toArray, List.set_cons_zero, List.set_cons_succ, i64_w, i32_w]
            rfl
          refine pure_ (i := 3) (N := some 44) (v := ?_) (a' := ?_) #[true, true, true, true, false, false, false, false, false, false, false, false, false, false] rfl rfl (by kernel_rfl) (fun _ _ _ h => h) (Or.inl ⟨by rfl, ?_⟩) ?_ ?_
          rotate_left
          · intro w'
            go_simp
            with_reducible rfl
          rotate_left
          · simp only [Act.put, List.setIfInBounds_toArray, List.set_cons_zero, List.set_cons_succ, i64_w, i32_w]
            rfl
          refine pure_ (i := 7) (N := some 48) (v := ?_) (a' := ?_) #[true, true, true, true, false, false, false, true, false, false, false, false, false, false] rfl rfl (by kernel_rfl) (fun _ _ _ h => h) (Or.inl ⟨by rfl, ?_⟩) ?_ ?_
          rotate_left
          · intro w'
            go_simp
            with_reducible rfl
          rotate_left
          · simp only [Act.put, List.setIfInBounds_toArray, List.set_cons_zero, List.set_cons_succ, i64_w, i32_w]
            rfl
          refine pure_ (i := 8) (N := some 49) (v := ?_) (a' := ?_) #[true, true, true, true, false, false, false, true, true, false, false, false, false, false] rfl rfl (by kernel_rfl) (fun _ _ _ h => h) (Or.inl ⟨by rfl, ?_⟩) ?_ ?_
          rotate_left
          · intro w'
            go_simp
            with_reducible rfl
          rotate_left
          · simp only [Act.put, List.setIfInBounds_toArray, List.set_cons_zero, List.set_cons_succ, i64_w, i32_w]
            rfl
          refine take_ (i := 4) (N := some 45) (v := ?_) (a' := ?_) #[true, true, true, true, true, false, false, true, true, false, false, false, false, false] rfl rfl (by kernel_rfl) (fun _ _ _ h => h) (Or.inl ⟨by rfl, ?_⟩) hHeld ?_ ?_
          rotate_left
          · rintro w' ⟨s0, s1, s2, s3, s4, s5, s6, s7, s8⟩
            go_simp
            with_reducible rfl
          rotate_left
          · simp only [Act.put, List.setIfInBounds_toArray, List.set_cons_zero, List.set_cons_succ, i64_w, i32_w]
            rfl
          refine take_ (i := 5) (N := some 46) (v := ?_) (a' := ?_) #[true, true, true, true, true, true, false, true, true, false, false, false, false, false] rfl rfl (by kernel_rfl) (fun _ _ _ h => h) (Or.inl ⟨by rfl, ?_⟩) hHeld ?_ ?_
          rotate_left
          · rintro w' ⟨s0, s1, s2, s3, s4, s5, s6, s7, s8⟩
            go_simp
            with_reducible rfl
          rotate_left
          · simp only [Act.put, List.setIfInBounds_toArray, List.set_cons_zero, List.set_cons_succ, i64_w, i32_w]
            rfl
          refine one_ (i := 6) (N := some 47) #[true, true, true, true, true, true, true, true, true, false, false, false, false, false] rfl rfl (by kernel_rfl) (by decide) (fun K hK => ?_)
          refine value_ (w1 := ?_) (v := ?_) (by rfl) rfl ?_ ?_
          rotate_left 2
          · go_simp
            constructor
            · rfl
            · rfl
          have hT := hHeld.2.2.2.2.2
          have HL6 := Aside0.mk (Kd.C_drew (C_lit1 (alloc_at w1 (.cells #[.int .i64 x.f0, .int .u64 x.f1, .int .u64 x.f2, .bool x.f3] 26 (0, 0)))))
          refine hK.out _ _ ⟨((blk_cell (hT.2.1.alloc _).at_ 4).trans rfl), ((blk_cell (blk_alloc hT.1 _) 0).trans rfl), ((blk_cell (blk_alloc hT.1 _) 1).trans rfl), ((blk_cell (blk_alloc hT.1 _) 2).trans rfl), ((blk_cell (blk_alloc hT.1 _) 3).trans rfl), (blk_alloc hT.1 _), (hT.2.1.alloc _), (hT.2.2.1.alloc (Nat.le_trans hT.2.1.le (Nat.le_of_lt (blk_lt hT.2.1.at_))) _), (Kept.alloc hT.2.2.2 _)⟩ (fun hHeld => ?_)
          clear hK K
          refine norm_ (a' := ?_) ?_ ?_
          rotate_left
          · show Act.put _ (some 47) _ = _
            simp only [Act.put, List.setIfInBounds_toArray, List.set_cons_zero, List.set_cons_succ, i64_w, i32_w]
            rfl
          refine one_ (i := 9) (N := some 50) #[true, true, true, true, true, true, true, true, true, true, false, false, false, false] rfl rfl (by kernel_rfl) (by decide) (fun K hK => ?_)
          have hT := hHeld.2.2.2.2.2
          refine goes_ Try.func29 (by kernel_rfl) rfl #[.slice (some ⟨w1.heap.size, 0, none⟩) 1 1, .int .i64 n] (by rfl) rfl rfl (by simp only [List.map_toArray, List.map_cons, List.map_nil]; rfl) ?_
          with_reducible refine (slices_Repeat.calls base _ 1 x n w0 _ h0 (by omega) hT.2.2.1 (Nat.le_trans hT.2.1.le (Nat.le_of_lt (blk_lt hT.2.1.at_))) HL6.out (Nat.le_refl _)).mono ?_
          rintro e w3 ⟨v3, rfl, g1, g2, g3⟩
          refine ⟨_, rfl, ?_⟩
          obtain ⟨A3, c3, rfl⟩ := Kd.R_slice g1
          have HC9 := Aside0.mk (Kd.R_reads' g1).2.2
          have hU := (show _ ∧ _ ∧ _ ∧ _ from ⟨blk_kept hT.1 g3 (fun h => h), hT.2.1.kept g3 (fun h => h) (fun _ _ h => h), g2, hT.2.2.2.then_ g3 (fun _ h => h.elim)⟩)
          clear g1 g2 g3
          refine hK.out _ _ ⟨((blk_cell hU.2.1.at_ 4).trans rfl), ((blk_cell hU.1 0).trans rfl), ((blk_cell hU.1 1).trans rfl), ((blk_cell hU.1 2).trans rfl), ((blk_cell hU.1 3).trans rfl), hU.1, hU.2.1, hU.2.2.1, hU.2.2.2⟩ (fun hHeld => ?_)
          clear hK K
          refine norm_ (a' := ?_) ?_ ?_
          rotate_left
          · show Act.put _ (some 50) _ = _
            simp only [Act.put, List.setIfInBounds_toArray, List.set_cons_zero, List.set_cons_succ, i64_w, i32_w]
            rfl
          refine last_ (i := 10) (N := some 51) #[true, true, true, true, true, true, true, true, true, true, true, false, false, false] rfl rfl (by kernel_rfl) (by decide) (fun K hK => ?_)
          have hT := hHeld.2.2.2.2.2
          refine Kd.R_append_rows_step k26 (w0 := w0) base (by rfl) (.tmp 45) (.tmp 50) 38 26 (.agg #[(.int .i64 0), (.int .u64 0), (.int .u64 0), (.bool false)]) 32 rfl Try.underlying38 info26 rfl (by decide) (by omega) (.slice Ab l.length cb) l (List.replicate n.toNat x) A3 (List.replicate n.toNat x).length c3 (fun _ => True) (fun _ => False) rfl (by simp only [List.length_replicate]; rfl) (Kd.R_mono hT.2.1.row (fun _ _ => trivial)) HC9.out (fun _ _ h => flat_26.km h) (fun _ h => h.elim) (fun _ _ => trivial) hT.2.2.1 (Nat.le_trans hT.2.1.le (Nat.le_of_lt (blk_lt hT.2.1.at_))) (by rw [List.length_replicate]; omega) ?_
          intro v4 w4 ho hb hg hat
          obtain ⟨A4, c4, rfl⟩ := Kd.R_slice ho
          have HF4 := Aside0.mk (hT.2.1.stored hb hg ho hat)
          have HK4 := Aside0.mk hT.2.2.2
          have HAT := Aside0.mk (show _ = _ from blk_grown hT.2.1.at_ hg (fun e => hT.2.1.ne e.symm))
          have hcs := (blk_cell HAT.out 4).trans (rfl : _ = some _)
          have hfs := blk_frozen HAT.out 4
          clear ho hb hg hat
          refine hK.out _ _ ?_
          clear hK K
          refine norm_ (a' := ?_) ?_ ?_
          rotate_left
          · show Act.put _ (some 51) _ = _
            simp only [Act.put, List.setIfInBounds_toArray, List.set_cons_zero, List.set_cons_succ, i64_w, i32_w]
            rfl
          refine pure_ (i := 11) (N := some 52) (v := ?_) (a' := ?_) #[true, true, true, true, true, true, true, true, true, true, true, true, false, false] rfl rfl (by kernel_rfl) (fun _ _ _ h => h) (Or.inl ⟨by rfl, ?_⟩) ?_ ?_
          rotate_left
          · intro w'
            go_simp
            with_reducible rfl
          rotate_left
          · simp only [Act.put, List.setIfInBounds_toArray, List.set_cons_zero, List.set_cons_succ, i64_w, i32_w]
            rfl
          refine pure_ (i := 12) (N := some 53) (v := ?_) (a' := ?_) #[true, true, true, true, true, true, true, true, true, true, true, true, true, false] rfl rfl (by kernel_rfl) (fun _ _ _ h => h) (Or.inl ⟨by rfl, ?_⟩) ?_ ?_
          rotate_left
          · intro w'
            go_simp
            with_reducible rfl
          rotate_left
          · simp only [Act.put, List.setIfInBounds_toArray, List.set_cons_zero, List.set_cons_succ, i64_w, i32_w]
            rfl
          refine last_ (i := 13) (N := none) #[true, true, true, true, true, true, true, true, true, true, true, true, true, true] rfl rfl (by kernel_rfl) (by decide) (fun K hK => ?_)
          refine skip_ (w1 := ?_) (by rfl) rfl ?_ ?_
          rotate_left
          · go_simp
            rfl
          refine hK.out _ _ ?_
          clear hK K
          refine done_ (by kernel_rfl) ?_
          go_wp2_with (fail)
          go_ret
          obtain ⟨f1, f2, f3, f4⟩ := HF4.out
          rw [show (l ++ List.replicate n.toNat x).length = l.length + n.toNat by simp] at f1 f2 f3 f4
          have f5 := HK4.out.then_ f3 (fun _ h => .inl h)
          have f6 := fun k hk => (f4 k hk).imp_right (fun h => Nat.le_trans (Nat.le_trans (Nat.le_refl w.heap.size) HK4.out.1) h)
          exact ⟨_, rfl, f1, f2, f5, f6⟩
end Go.Proofs.Ytjpbmmncakcbhaa.PA
