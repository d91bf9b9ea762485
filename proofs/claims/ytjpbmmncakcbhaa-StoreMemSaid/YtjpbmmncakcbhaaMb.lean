/- The methods of a memory (store.Mem): Write, Copy, Fill; no condition. -/
import Derived.Test.YtjpbmmncakcbhaaMa
namespace Go.Proofs.Ytjpbmmncakcbhaa.PA
open Go.RowKit Go.Proofs.YtjpbmmncakcbhaaW.PrintWords Go.Proofs.YtjpbmmncakcbhaaW.PrintLast Go.Proofs.YtjpbmmncakcbhaaW.PrintMore
set_option linter.unusedVariables false
set_option linter.unusedSimpArgs false

theorem wrap_len {α : Type} (l : List α) (h : l.length ≤ 9223372036854775807) : IntKind.u64.wrap (l.length : Int) = l.length := by
  unfold IntKind.wrap; simp [IntKind.signed, IntKind.bits]; omega

set_option maxHeartbeats 8000000 in
set_option maxRecDepth 100000 in
theorem mem_Write.calls (base g : Nat) (x0 x1 : Int) (x2 : Bool) (B : Value) (l : List Int) (dt : Int) (A : Option Addr) (c : Nat) (b : List Int) (w0 w : World)
    (h0 : 0 ≤ dt) (hB : Below base w0 w) (hM : MemAt w base g x0 x1 x2 B l) (hC : Kd.C (Kd.int .u8) w A b.length b) (hc : b.length ≤ c) :
    Calls Try.prog 14 #[.pointer (some ⟨g, 0, none⟩), .int .u64 dt, .slice A b.length c] w fun e w' =>
      e = .returned (.int .i64 (mem_Init l dt 0 b.length b).2) ∧ MemAt w' base g x0 x1 x2 B (mem_Init l dt 0 b.length b).1 ∧ Below base w0 w' ∧ Kept w w' (memS g B) := by
  have HM := Aside0.mk hM
  have HC := Aside0.mk hC
  have HB := Aside0.mk hB
  have hbl : b.length ≤ 9223372036854775807 := hC.2.1
  have hwl := wrap_len b hbl
  clear hM hC hB
  go_enter Try.func14, Try.ntmps14
  go_wp2_with (fail)
  refine (mem_Init.calls base g x0 x1 x2 B l dt 0 b.length A c b w0 w h0 (by omega) (by omega) HB.out HM.out HC.out hc).mono ?_
  rintro e w1 ⟨rfl, H1, H2, H3⟩
  have H1' := Aside0.mk H1
  have H2' := Aside0.mk H2
  have H3' := Aside0.mk H3
  clear H1 H2 H3
  go_wp2_with (fail)
  go_ret
  exact ⟨rfl, H1'.out, H2'.out, H3'.out⟩

set_option maxHeartbeats 8000000 in
set_option maxRecDepth 100000 in
theorem mem_Copy.calls (base g : Nat) (x0 x1 : Int) (x2 : Bool) (B : Value) (l : List Int) (dt fr n : Int) (w0 w : World)
    (h0 : 0 ≤ dt) (h1 : 0 ≤ fr) (h2 : 0 ≤ n) (hB : Below base w0 w) (hM : MemAt w base g x0 x1 x2 B l) :
    Calls Try.prog 18 #[.pointer (some ⟨g, 0, none⟩), .int .u64 dt, .int .u64 fr, .int .u64 n] w fun e w' =>
      e = .returned (.int .i64 (mem_Init l dt fr n l).2) ∧ MemAt w' base g x0 x1 x2 B (mem_Init l dt fr n l).1 ∧ Below base w0 w' ∧ Kept w w' (memS g B) := by
  have HM := Aside0.mk hM
  have HB := Aside0.mk hB
  obtain ⟨Ab, cb, rfl, hlb, hCb⟩ := Kd.R_reads hM.row
  have HC := Aside0.mk hCb
  have hc0 : w.cell? ⟨g, 3, none⟩ = some (.slice Ab l.length cb) := (blk_cell hM.at_ 3).trans rfl
  clear hM hCb hB
  go_enter Try.func18, Try.ntmps18
  go_wp2_with (fail)
  refine (mem_Init.calls base g x0 x1 x2 _ l dt fr n Ab cb l w0 w h0 h1 h2 HB.out HM.out HC.out hlb).mono ?_
  rintro e w1 ⟨rfl, H1, H2, H3⟩
  have H1' := Aside0.mk H1
  have H2' := Aside0.mk H2
  have H3' := Aside0.mk H3
  clear H1 H2 H3
  go_wp2_with (fail)
  go_ret
  exact ⟨rfl, H1'.out, H2'.out, H3'.out⟩

theorem MemAt.grown {w w1 : World} {base g : Nat} {x0 x1 : Int} {x2 : Bool} {B : Value} {l l' : List Int} (h : MemAt w base g x0 x1 x2 B l) (hg : w.grownBy w1 B.ownBlock)
    (hR : Kd.R (Kd.int .u8) 5 w1 base (fun k => B.ownBlock = some k) B l') : MemAt w1 base g x0 x1 x2 B l' := ⟨h.le, (hg.block g (blk_lt h.at_) (fun e => h.ne e.symm)).trans h.at_, hR, h.ne⟩
theorem MemAt.below {w w1 w0 : World} {base g : Nat} {x0 x1 : Int} {x2 : Bool} {B : Value} {l : List Int} (h : MemAt w base g x0 x1 x2 B l) (hb : Below base w0 w) (hg : w.grownBy w1 B.ownBlock) : Below base w0 w1 :=
  hb.grown hg (Nat.le_trans h.le (Nat.le_of_lt (blk_lt h.at_))) (Kd.R_base h.row)

def mem_Fill (l : List Int) (at_ x n : Int) : List Int × Int :=
  if at_ + n ≤ l.length then (l.take at_.toNat ++ (List.replicate n.toNat x ++ l.drop (at_ + n).toNat), 0) else (l, 44)

theorem fill_step (l : List Int) (a k : Nat) (x : Int) (h : a + k < l.length) :
    (l.take a ++ (List.replicate k x ++ l.drop (a + k))).set (a + k) x = l.take a ++ (List.replicate (k + 1) x ++ l.drop (a + (k + 1))) := by
  have e1 : (l.take a).length = a := by rw [List.length_take]; omega
  rw [List.set_append_right _ _ (by omega), e1, List.set_append_right _ _ (by simp), List.length_replicate, show a + k - a - k = 0 by omega]
  congr 1
  rw [List.drop_eq_getElem_cons h, List.set_cons_zero, List.replicate_succ', List.append_assoc]
  rfl

set_option maxHeartbeats 8000000 in
set_option maxRecDepth 100000 in
theorem mem_Fill.calls (base g : Nat) (x0 x1 : Int) (x2 : Bool) (B : Value) (l : List Int) (a x n : Int) (w0 w : World)
    (h0 : 0 ≤ a) (h2 : 0 ≤ n) (hB : Below base w0 w) (hM : MemAt w base g x0 x1 x2 B l) :
    Calls Try.prog 16 #[.pointer (some ⟨g, 0, none⟩), .int .u64 a, .int .u8 x, .int .u64 n] w fun e w' =>
      e = .returned (.int .i64 (mem_Fill l a x n).2) ∧ MemAt w' base g x0 x1 x2 B (mem_Fill l a x n).1 ∧ Below base w0 w' ∧ Kept w w' (memS g B) := by
  have HM := Aside0.mk hM
  have HB := Aside0.mk hB
  obtain ⟨Ab, cb, rfl, hlb, hCb⟩ := Kd.R_reads hM.row
  have hll : l.length ≤ 9223372036854775807 := hCb.2.1
  have E1 := Aside0.mk (in_is a n l.length h0 h2 hll)
  have hc0 : w.cell? ⟨g, 3, none⟩ = some (.slice Ab l.length cb) := (blk_cell hM.at_ 3).trans rfl
  clear hM hCb hB
  by_cases c1 : a + n ≤ l.length
  · have eI : mem_Fill l a x n = (l.take a.toNat ++ (List.replicate n.toNat x ++ l.drop (a + n).toNat), 0) := by unfold mem_Fill; rw [if_pos c1]
    rw [eI]
    rw [decide_eq_true c1] at E1
    clear eI
    go_enter Try.func16, Try.ntmps16
    go_wp2_with (fail)
    refine (store_in.calls a n l.length true w E1.out).mono ?_
    rintro e w1 ⟨rfl, ⟨nd, rfl⟩⟩
    go_wp2_with (fail)
    go_loopw [24] (fun i wr => ∃ k : Nat, i = .int .u64 k ∧ (k : Int) ≤ n ∧ Aside0 (MemAt wr base g x0 x1 x2 (.slice Ab l.length cb) (l.take a.toNat ++ (List.replicate k x ++ l.drop (a.toNat + k)))) ∧ Aside0 (Below base w0 wr) ∧ Aside0 (Kept w wr (memS g (.slice Ab l.length cb))))
      (fun i _ => n.toNat - (intOf i).toNat)
    case atStart => exact ⟨0, rfl, by omega, ⟨by simpa using HM.out.drewN nd⟩, ⟨pw_below_drewN HB.out _⟩, ⟨Kept.drewN (Kept.refl _ _) _⟩⟩
    case round =>
      obtain ⟨k, rfl, hk, HMr, HBr, HKr⟩ := hrel
      have hlen : (l.take a.toNat ++ (List.replicate k x ++ l.drop (a.toNat + k))).length = l.length := by
        simp only [List.length_append, List.length_take, List.length_drop, List.length_replicate]; omega
      have hcr : wr.cell? ⟨g, 3, none⟩ = some (.slice Ab l.length cb) := (blk_cell HMr.out.at_ 3).trans rfl
      by_cases hkn : (k : Int) < n
      · obtain ⟨gb, cap, hv, hb, hlt, cells, hcells⟩ := Kd.R_form HMr.out.row (by omega)
        injection hv with ha hnn hcc; clear hnn
        subst ha; subst hcc
        have hrw := HMr.out.row
        have hput := Kd.R_putg hrw (a + k) x
        obtain ⟨hrc, hrf⟩ := Kd.R_celln (0 : Int) hrw (a + k) (by omega) (by omega)
        rw [show (a + (k : Int)).toNat = a.toNat + k by omega] at hput
        rw [fill_step l a.toNat k x (by omega), ← show (a + (k : Int)).toNat = a.toNat + k by omega] at hput
        have HP := Aside0.mk hput
        clear hput hrw hcells
        generalize rdOf (0 : Int) (l.take a.toNat ++ (List.replicate k x ++ l.drop (a.toNat + k))) (a + k) = z at hrc
        have HG := Aside0.mk hlen
        have Hb := Aside0.mk hb
        clear hlen hlt hb hc0
        go_wp2_with (fail)
        refine ⟨⟨k + 1, by go_num, by omega, ⟨HMr.out.grown HP.out.2 ?_⟩, ⟨HMr.out.below HBr.out HP.out.2⟩, ⟨HKr.out.then_ (kept_grown (B := .slice (some ⟨gb, 0, none⟩) l.length cb) HP.out.2) (fun _ h => .inl h)⟩⟩, by simp [intOf]; omega⟩
        exact HP.out.1
      · have hkk : (k : Int) = n := by omega
        go_wp2_with (fail)
        go_ret
        refine ⟨rfl, ?_, HBr.out, HKr.out⟩
        have e1 : k = n.toNat := by omega
        have e2 : (a + n).toNat = a.toNat + n.toNat := by omega
        rw [e2, ← e1]
        exact HMr.out
  · have eI : mem_Fill l a x n = (l, 44) := by unfold mem_Fill; rw [if_neg c1]
    rw [eI]
    rw [decide_eq_false c1] at E1
    clear eI
    go_enter Try.func16, Try.ntmps16
    go_wp2_with (fail)
    refine (store_in.calls a n l.length false w E1.out).mono ?_
    rintro e w1 ⟨rfl, ⟨nd, rfl⟩⟩
    go_wp2_with (fail)
    go_ret
    exact ⟨rfl, HM.out.drewN _, pw_below_drewN HB.out _, Kept.refl _ _⟩
end Go.Proofs.Ytjpbmmncakcbhaa.PA
