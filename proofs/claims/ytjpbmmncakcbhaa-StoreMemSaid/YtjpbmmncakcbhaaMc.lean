/- The methods of a memory (store.Mem): Grow, Read; no condition. -/
import Derived.Test.YtjpbmmncakcbhaaMb
import Derived.Lib.LazyBuf
namespace Go.Proofs.Ytjpbmmncakcbhaa.PA
open Go.RowKit Go.Proofs.YtjpbmmncakcbhaaW.PrintWords Go.Proofs.YtjpbmmncakcbhaaW.PrintLast Go.Proofs.YtjpbmmncakcbhaaW.PrintMore
attribute [local go_sem] max2_int min2_int max_two min_two max_three min_three max_four min_four
set_option linter.unusedVariables false
set_option linter.unusedSimpArgs false

theorem Lib_run_equalIn {P : Program} (w : World) (d : Nat) (t e : TypeId) (a : Option Addr) (l c : Nat) (h : P.underlying t = some (.slice e)) : (Op.equalIn (d + 1) t (.slice a l c) (.slice none 0 0)).run P w = .ok a.isNone w := by
  cases a <;> simp [Op.equalIn, run_underlying h]
theorem Lib_run_eql_slice_nil {P : Program} (w : World) (t e : TypeId) (a : Option Addr) (l c : Nat) (h : P.underlying t = some (.slice e)) : (binOp .eql t (.slice a l c) (.slice none 0 0)).run P w = .ok (.bool a.isNone) w := by
  have h2 : (Op.equal t (.slice a l c) (.slice none 0 0)).run P w = .ok a.isNone w := Lib_run_equalIn w 9999 t e a l c h
  simp [binOp, h2]
theorem R_lit_empty {w w' : World} {base : Nat} (hb : base ≤ w.heap.size) (hw : w'.heap[w.heap.size]? = some (.cells #[] 5 (0, 0))) : Kd.R (Kd.int .u8) 5 w' base (fun k => w.heap.size ≤ k) (.slice (some ⟨w.heap.size, 0, none⟩) 0 0) [] :=
  ⟨fun k hk => by simp [Value.ownBlock] at hk; omega, [], ⟨rfl, .inr ⟨w.heap.size, 0, #[], rfl, hb, hw, Nat.le_refl _, by decide, rfl, rfl⟩⟩, Reps.none _ _⟩

set_option maxHeartbeats 8000000 in
set_option maxRecDepth 100000 in
theorem slices_Clone.calls (base : Nat) (A : Option Addr) (c : Nat) (b : List Int) (w0 w : World)
    (hB : Below base w0 w) (hbase : base ≤ w.heap.size) (hC : Kd.C (Kd.int .u8) w A b.length b) (hc : b.length ≤ c) (hl : b.length ≤ 140737488355328) :
    Calls Try.prog 31 #[.slice A b.length c] w fun e w' =>
      ∃ v, e = .returned v ∧ Kd.R (Kd.int .u8) 5 w' base (fun k => w.heap.size ≤ k) v b ∧ Below base w0 w' ∧ Kept w w' (fun _ => False) := by
  have HC := Aside0.mk hC
  have HB := Aside0.mk hB
  clear hB hC
  cases A with
  | none =>
    have hb0 : b = [] := by
      cases b with
      | nil => rfl
      | cons x t => obtain ⟨ad, h, _⟩ := HC.out.2.2 (by simp); cases h
    subst hb0
    have hnil : ∀ W, (binOp .eql 29 (.slice none 0 c) (.slice none 0 0)).run Try.prog W = .ok (.bool true) W := fun W => Lib_run_eql_slice_nil W 29 5 none 0 c Try.underlying29
    go_enter Try.func31, Try.ntmps31
    go_wp2_with (fail)
    go_ret
    exact ⟨_, rfl, Kd.R_nil _ _ _ _ _, HB.out, Kept.refl _ _⟩
  | some ad =>
    have hnil : ∀ W, (binOp .eql 29 (.slice (some ad) b.length c) (.slice none 0 0)).run Try.prog W = .ok (.bool false) W := fun W => Lib_run_eql_slice_nil W 29 5 (some ad) b.length c Try.underlying29
    have hsz : (w.alloc (.cells #[] 5 (0, 0))).heap.size = w.heap.size + 1 := by show (w.heap.push _).size = _; exact Array.size_push _
    have HO := Aside0.mk (R_lit_empty (w' := w.alloc (.cells #[] 5 (0, 0))) hbase (by show (w.heap.push _)[w.heap.size]? = _; exact Array.getElem?_push_size))
    have HF := Aside0.mk (show ∀ k, (w.alloc (.cells #[] 5 (0, 0))).heap.size ≤ k → w.heap.size ≤ k from fun k hk => by omega)
    have HS := Aside0.mk (show base ≤ (w.alloc (.cells #[] 5 (0, 0))).heap.size by omega)
    have HL := Aside0.mk (show (([] : List Int).length + b.length) * 1 ≤ 140737488355328 by simpa using hl)
    have HE := Aside0.mk (Kd.C_alloc HC.out (.cells #[] 5 (0, 0)))
    have HB0 := Aside0.mk (HB.out.alloc hbase (.cells #[] 5 (0, 0)))
    have HZ := Aside0.mk hsz
    clear hsz
    go_enter Try.func31, Try.ntmps31
    go_wp2_with (first | ((with_reducible refine gate_builtin (b := .append) (xs := #[.tmp 5, .tmp 6]) rfl ?_); at_builtin; refine Kd.R_append_rows (Kd.int .u8) (w0 := w0) base rfl (.tmp 5) (.tmp 6) 29 5 (.int .u8 0) 1 rfl Try.underlying29 info5 rfl (by decide) (by omega) (.slice (some ⟨w.heap.size, 0, none⟩) 0 0) ([] : List Int) b (some ad) b.length c (fun k => w.heap.size ≤ k) (fun _ => False) rfl rfl HO.out HE.out (fun _ _ h => h) (fun _ h => h.elim) HF.out HB0.out HS.out HL.out ?_; intro v1 w1 ho hb hg hat; have HO1 := Aside0.mk ho; have HB1 := Aside0.mk hb; have HW1 := Aside0.mk hg; clear ho hb hg hat))
    go_ret
    exact ⟨_, rfl, HO1.out, HB1.out, ⟨by have := HW1.out.size; have := HZ.out; omega, fun i hi _ => (HW1.out.block i (by have := HZ.out; omega) (by simp [Value.ownBlock]; omega)).trans (Below.heap_alloc _ _ _ hi)⟩⟩

theorem MemAt.at1 {w w1 : World} {base g : Nat} {x0 x1 : Int} {x2 : Bool} {B : Value} {l : List Int} (h : MemAt w base g x0 x1 x2 B l) (hg : w.grownBy w1 B.ownBlock) :
    w1.heap[g]? = some (.cells #[.int .i64 x0, .int .i64 x1, .bool x2, B] 31 (0, 0)) := (hg.block g (blk_lt h.at_) (fun e => h.ne e.symm)).trans h.at_

theorem MemAt.stored {w w1 w0 : World} {base g : Nat} {x0 x1 : Int} {x2 : Bool} {B B' : Value} {l l' : List Int} (h : MemAt w base g x0 x1 x2 B l) (hb : Below base w0 w1) (hg : w.grownBy w1 B.ownBlock)
    (hR : Kd.R (Kd.int .u8) 5 w1 base (fun _ => True) B' l') (hat : B'.ownBlock = B.ownBlock ∨ ∃ b, B'.ownBlock = some b ∧ w.heap.size ≤ b) :
    MemAt (w1.setCell ⟨g, 3, none⟩ B') base g x0 x1 x2 B' l' ∧ Below base w0 (w1.setCell ⟨g, 3, none⟩ B') ∧ Kept w (w1.setCell ⟨g, 3, none⟩ B') (memS g B) ∧ (∀ k, B'.ownBlock = some k → B.ownBlock = some k ∨ w.heap.size ≤ k) := by
  have h1 := h.at1 hg
  have hne : some g ≠ B'.ownBlock := Kd.R_ne hR h1 (by decide)
  refine ⟨⟨h.le, blk_put h1 3 _ rfl, ?_, fun e => hne e.symm⟩, hb.setCell h.le _, (kept_grown hg).setCell (.inl (.inl rfl)) _, ?_⟩
  · exact Kd.R_far (Kd.R_reok rfl hR (fun k hk => hk)) (fun k hk e => hne (by rw [hk, e])) _
  · intro k hk
    rcases hat with e | ⟨b, e, hb⟩
    · exact .inl (by rw [← e]; exact hk)
    · rw [e] at hk; injection hk with hk; exact .inr (by omega)

def memMost (x1 : Int) (x2 : Bool) (most : Int) : Int := if x2 = true then mn (mn most 65536) x1 else mn most 65536
def mem_Grow (l : List Int) (x1 : Int) (x2 : Bool) (n most : Int) : List Int × Int :=
  if (l.length : Int) / 65536 > memMost x1 x2 most then (l, -1) else if n > memMost x1 x2 most - (l.length : Int) / 65536 then (l, -1) else (l ++ List.replicate (n * 65536).toNat 0, (l.length : Int) / 65536)

set_option maxHeartbeats 8000000 in
set_option maxRecDepth 100000 in
theorem mem_Grow.calls (base g : Nat) (x0 x1 : Int) (x2 : Bool) (B : Value) (l : List Int) (n most : Int) (w0 w : World)
    (h0 : 0 ≤ n) (hB : Below base w0 w) (hM : MemAt w base g x0 x1 x2 B l) :
    Calls Try.prog 9 #[.pointer (some ⟨g, 0, none⟩), .int .u64 n, .int .i64 most] w fun e w' =>
      ∃ B', e = .returned (.int .i64 (mem_Grow l x1 x2 n most).2) ∧ MemAt w' base g x0 x1 x2 B' (mem_Grow l x1 x2 n most).1 ∧ Below base w0 w' ∧ Kept w w' (memS g B) ∧ (∀ k, B'.ownBlock = some k → B.ownBlock = some k ∨ w.heap.size ≤ k) := by
  have HM := Aside0.mk hM
  have HB := Aside0.mk hB
  obtain ⟨Ab, cb, rfl, hlb, hCb⟩ := Kd.R_reads hM.row
  have hll : l.length ≤ 9223372036854775807 := hCb.2.1
  have hc0 : w.cell? ⟨g, 3, none⟩ = some (.slice Ab l.length cb) := (blk_cell hM.at_ 3).trans rfl
  have hc1 : w.cell? ⟨g, 2, none⟩ = some (.bool x2) := (blk_cell hM.at_ 2).trans rfl
  have hc2 : w.cell? ⟨g, 1, none⟩ = some (.int .i64 x1) := (blk_cell hM.at_ 1).trans rfl
  have HR := Aside0.mk (Kd.R_mono (ok' := fun _ => True) hM.row (fun _ _ => trivial))
  have HS := Aside0.mk (Nat.le_trans hM.le (Nat.le_of_lt (blk_lt hM.at_)))
  clear hM hCb hB
  cases x2 with
  | true =>
    go_enter Try.func9, Try.ntmps9
    go_wp2_with (first | ((with_reducible refine gate_builtin (b := .append) (xs := #[.tmp 47, .tmp 49]) rfl ?_); at_builtin; refine Kd.R_append_zeros (Kd.int .u8) (w0 := w0) base rfl (.tmp 47) (.tmp 49) 29 24 5 (.int .u8 0) 1 rfl Try.underlying29 Try.underlying24 info5 rfl (by decide) (by omega) _ l (0 : Int) (n * 65536) (fun _ => True) rfl rfl rfl (fun _ _ => trivial) HR.out (by omega) HB.out HS.out (by omega) ?_; intro v1 w1 ho hb hg hat; have HG1 := Aside0.mk (HM.out.at1 hg); have hcs := (blk_cell HG1.out 3).trans (rfl : _ = some _); obtain ⟨A1, c1, rfl⟩ := Kd.R_slice ho; have hfs := blk_frozen HG1.out 3; have HO1 := Aside0.mk ho; have HB1 := Aside0.mk hb; have HW1 := Aside0.mk hg; have HA1 := Aside0.mk hat; clear ho hb hg hat))
    all_goals first
      | (exfalso; omega)
      | (have eM : mem_Grow l x1 true n most = (l, -1) := by
          unfold mem_Grow memMost mn
          repeat' split
          all_goals first | rfl | (exfalso; omega) | (exfalso; simp_all; done)
         rw [eM]
         go_ret
         first | exact ⟨_, rfl, HM.out, HB.out, Kept.refl _ _, fun k hk => .inl hk⟩ | exact ⟨rfl, _, HM.out, HB.out, Kept.refl _ _, fun k hk => .inl hk⟩)
      | (have e0 : n = 0 := by omega
         have eM : mem_Grow l x1 true n most = (l, (l.length : Int) / 65536) := by
          subst e0
          unfold mem_Grow memMost mn
          repeat' split
          all_goals first | (simp; done) | (exfalso; omega) | (exfalso; simp_all; done)
         rw [eM]
         go_ret
         first | exact ⟨_, rfl, HM.out, HB.out, Kept.refl _ _, fun k hk => .inl hk⟩ | exact ⟨rfl, _, HM.out, HB.out, Kept.refl _ _, fun k hk => .inl hk⟩)
      | (have eM : mem_Grow l x1 true n most = (l ++ List.replicate (n * 65536).toNat 0, (l.length : Int) / 65536) := by
          unfold mem_Grow memMost mn
          repeat' split
          all_goals first | rfl | (exfalso; omega) | (exfalso; simp_all; done)
         rw [eM]
         go_ret
         obtain ⟨f1, f2, f3, f4⟩ := HM.out.stored HB1.out HW1.out HO1.out HA1.out
         rw [show (l ++ List.replicate (n * 65536).toNat (0 : Int)).length = l.length + (n * 65536).toNat by simp] at f1 f2 f3 f4
         first | exact ⟨_, rfl, f1, f2, f3, f4⟩ | exact ⟨rfl, _, f1, f2, f3, f4⟩)
  | false =>
    go_enter Try.func9, Try.ntmps9
    go_wp2_with (first | ((with_reducible refine gate_builtin (b := .append) (xs := #[.tmp 47, .tmp 49]) rfl ?_); at_builtin; refine Kd.R_append_zeros (Kd.int .u8) (w0 := w0) base rfl (.tmp 47) (.tmp 49) 29 24 5 (.int .u8 0) 1 rfl Try.underlying29 Try.underlying24 info5 rfl (by decide) (by omega) _ l (0 : Int) (n * 65536) (fun _ => True) rfl rfl rfl (fun _ _ => trivial) HR.out (by omega) HB.out HS.out (by omega) ?_; intro v1 w1 ho hb hg hat; have HG1 := Aside0.mk (HM.out.at1 hg); have hcs := (blk_cell HG1.out 3).trans (rfl : _ = some _); obtain ⟨A1, c1, rfl⟩ := Kd.R_slice ho; have hfs := blk_frozen HG1.out 3; have HO1 := Aside0.mk ho; have HB1 := Aside0.mk hb; have HW1 := Aside0.mk hg; have HA1 := Aside0.mk hat; clear ho hb hg hat))
    all_goals first
      | (exfalso; omega)
      | (have eM : mem_Grow l x1 false n most = (l, -1) := by
          unfold mem_Grow memMost mn
          repeat' split
          all_goals first | rfl | (exfalso; omega) | (exfalso; simp_all; done)
         rw [eM]
         go_ret
         first | exact ⟨_, rfl, HM.out, HB.out, Kept.refl _ _, fun k hk => .inl hk⟩ | exact ⟨rfl, _, HM.out, HB.out, Kept.refl _ _, fun k hk => .inl hk⟩)
      | (have e0 : n = 0 := by omega
         have eM : mem_Grow l x1 false n most = (l, (l.length : Int) / 65536) := by
          subst e0
          unfold mem_Grow memMost mn
          repeat' split
          all_goals first | (simp; done) | (exfalso; omega) | (exfalso; simp_all; done)
         rw [eM]
         go_ret
         first | exact ⟨_, rfl, HM.out, HB.out, Kept.refl _ _, fun k hk => .inl hk⟩ | exact ⟨rfl, _, HM.out, HB.out, Kept.refl _ _, fun k hk => .inl hk⟩)
      | (have eM : mem_Grow l x1 false n most = (l ++ List.replicate (n * 65536).toNat 0, (l.length : Int) / 65536) := by
          unfold mem_Grow memMost mn
          repeat' split
          all_goals first | rfl | (exfalso; omega) | (exfalso; simp_all; done)
         rw [eM]
         go_ret
         obtain ⟨f1, f2, f3, f4⟩ := HM.out.stored HB1.out HW1.out HO1.out HA1.out
         rw [show (l ++ List.replicate (n * 65536).toNat (0 : Int)).length = l.length + (n * 65536).toNat by simp] at f1 f2 f3 f4
         first | exact ⟨_, rfl, f1, f2, f3, f4⟩ | exact ⟨rfl, _, f1, f2, f3, f4⟩)
end Go.Proofs.Ytjpbmmncakcbhaa.PA
