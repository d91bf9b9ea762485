/- The methods of a memory (store.Mem): Read; no condition. -/
import Derived.Test.YtjpbmmncakcbhaaMc
namespace Go.Proofs.Ytjpbmmncakcbhaa.PA
open Go.RowKit Go.Proofs.YtjpbmmncakcbhaaW.PrintWords Go.Proofs.YtjpbmmncakcbhaaW.PrintLast Go.Proofs.YtjpbmmncakcbhaaW.PrintMore
set_option linter.unusedVariables false
set_option linter.unusedSimpArgs false

def mem_Read (l : List Int) (a n : Int) : List Int × Int :=
  if a + n ≤ l.length then ((l.take (a + n).toNat).drop a.toNat, 0) else ([], 44)
set_option maxHeartbeats 8000000 in
set_option maxRecDepth 100000 in
theorem mem_Read.calls (base g : Nat) (x0 x1 : Int) (x2 : Bool) (B : Value) (l : List Int) (a n : Int) (w0 w : World)
    (h0 : 0 ≤ a) (h2 : 0 ≤ n) (h3 : n ≤ 9223372036854775807) (hB : Below base w0 w) (hM : MemAt w base g x0 x1 x2 B l) (hl : l.length ≤ 140737488355328) :
    Calls Try.prog 20 #[.pointer (some ⟨g, 0, none⟩), .int .u64 a, .int .i64 n] w fun e w' =>
      ∃ v, e = .returned (.tuple #[v, .int .i64 (mem_Read l a n).2]) ∧ Kd.R (Kd.int .u8) 5 w' base (fun k => w.heap.size ≤ k) v (mem_Read l a n).1 ∧ Below base w0 w' ∧ Kept w w' (fun _ => False) := by
  have HM := Aside0.mk hM
  have HB := Aside0.mk hB
  obtain ⟨Ab, cb, rfl, hlb, hCb⟩ := Kd.R_reads hM.row
  have E1 := Aside0.mk (in_is a n l.length h0 h2 (by omega))
  have hc0 : w.cell? ⟨g, 3, none⟩ = some (.slice Ab l.length cb) := (blk_cell hM.at_ 3).trans rfl
  have HC := Aside0.mk hCb
  have HS := Aside0.mk (Nat.le_trans hM.le (Nat.le_of_lt (blk_lt hM.at_)))
  clear hM hCb hB
  by_cases c1 : a + n ≤ l.length
  · have eI : mem_Read l a n = ((l.take (a + n).toNat).drop a.toNat, 0) := by unfold mem_Read; rw [if_pos c1]
    rw [eI]
    rw [decide_eq_true c1] at E1
    clear eI
    obtain ⟨i0, hi, _, hsz, _⟩ := info_parts info5
    have hcB := cut_mid (P := Try.prog) 29 5 .u64 .u64 Try.underlying29 hi 1 hsz Ab l.length cb a (a + n) h0 (by omega) (by omega) hlb
    have hlen : ((l.take (a + n).toNat).drop a.toNat).length = (a + n).toNat - a.toNat := by rw [List.length_drop, List.length_take]; omega
    generalize hA8 : (if cb = a.toNat then Ab else Option.map (fun x => x.add (a.toNat * 1)) Ab) = A8 at hcB
    have hwr : IntKind.u64.wrap (a + n) = a + n := by unfold IntKind.wrap; simp [IntKind.signed, IntKind.bits]; omega
    have hwn : IntKind.u64.wrap n = n := by unfold IntKind.wrap; simp [IntKind.signed, IntKind.bits]; omega
    have HA8 := Aside0.mk hA8
    have HLN := Aside0.mk hlen
    clear hi hsz hA8 hlen
    go_enter Try.func20, Try.ntmps20
    go_wp2_with (fail)
    refine (store_in.calls a n l.length true w E1.out).mono ?_
    rintro e w1 ⟨rfl, ⟨nd, rfl⟩⟩
    go_wp2_with (fail)
    have hCm := Kd.C_mid (lo := a.toNat) (hi := (a + n).toNat) (c := cb) (Kd.C_drewN HC.out nd) (by omega) (by omega) hlb
    replace hCm : Kd.C (Kd.int .u8) (w.drewN nd) A8 _ _ := HA8.out ▸ hCm
    have hcl := slices_Clone.calls base A8 (cb - a.toNat) _ w0 (w.drewN nd) (pw_below_drewN HB.out _) HS.out hCm (by rw [HLN.out]; omega) (by rw [HLN.out]; omega)
    rw [HLN.out] at hcl
    refine hcl.mono ?_
    rintro e w1 ⟨v, rfl, H1, H2, H3⟩
    have H1' := Aside0.mk H1
    have H2' := Aside0.mk H2
    have H3' := Aside0.mk H3
    clear H1 H2 H3
    go_wp2_with (fail)
    go_ret2
    exact ⟨_, rfl, H1'.out, H2'.out, H3'.out⟩
  · have eI : mem_Read l a n = ([], 44) := by unfold mem_Read; rw [if_neg c1]
    rw [eI]
    rw [decide_eq_false c1] at E1
    clear eI
    have hwn : IntKind.u64.wrap n = n := by unfold IntKind.wrap; simp [IntKind.signed, IntKind.bits]; omega
    go_enter Try.func20, Try.ntmps20
    go_wp2_with (fail)
    refine (store_in.calls a n l.length false w E1.out).mono ?_
    rintro e w1 ⟨rfl, ⟨nd, rfl⟩⟩
    go_wp2_with (fail)
    go_ret2
    exact ⟨_, rfl, Kd.R_nil _ _ _ _ _, pw_below_drewN HB.out _, Kept.refl _ _⟩
end Go.Proofs.Ytjpbmmncakcbhaa.PA
