/- The methods of a memory (store.Mem): what each comes to, as laws over lists of bytes; no condition. -/
import Derived.Test.YtjpbmmncakcbhaaCa
import Derived.StillTailTactics
namespace Go.Proofs.Ytjpbmmncakcbhaa.PA
open Go.RowKit Go.Proofs.YtjpbmmncakcbhaaW.PrintWords Go.Proofs.YtjpbmmncakcbhaaW.PrintLast Go.Proofs.YtjpbmmncakcbhaaW.PrintMore
set_option linter.unusedVariables false
set_option linter.unusedSimpArgs false

/-- Within: at + n are places of a row of so many. -/
theorem in_is (a n : Int) (l : Nat) (ha : 0 ≤ a) (hn : 0 ≤ n) (hl : l ≤ 9223372036854775807) : store_in.f a n (l : Int) = some (decide (a + n ≤ l)) := by
  have hw : IntKind.u64.wrap (l : Int) = l := by
    unfold IntKind.wrap; simp [IntKind.signed, IntKind.bits]; omega
  unfold store_in.f
  rw [hw]
  by_cases h : a ≤ l
  · rw [if_pos h]
    have hw2 : IntKind.u64.wrap ((l : Int) - a) = l - a := by
      unfold IntKind.wrap; simp [IntKind.signed, IntKind.bits]; omega
    rw [hw2]
    congr 1
    apply decide_eq_decide.mpr
    omega
  · rw [if_neg h]
    congr 1
    symm
    apply decide_eq_false
    omega

/-- A memory behind a pointer: its limits, and its bytes in a row of its own. -/
structure MemAt (w : World) (base g : Nat) (x0 x1 : Int) (x2 : Bool) (B : Value) (l : List Int) : Prop where
  le : base ≤ g
  at_ : w.heap[g]? = some (.cells #[.int .i64 x0, .int .i64 x1, .bool x2, B] 31 (0, 0))
  row : Kd.R (Kd.int .u8) 5 w base (fun k => B.ownBlock = some k) B l
  ne : B.ownBlock ≠ some g

theorem MemAt.drewN {w : World} {base g : Nat} {x0 x1 : Int} {x2 : Bool} {B : Value} {l : List Int} (h : MemAt w base g x0 x1 x2 B l) (n : Nat) : MemAt (w.drewN n) base g x0 x1 x2 B l := ⟨h.le, h.at_, Kd.R_drewN h.row n, h.ne⟩
theorem MemAt.drew {w : World} {base g : Nat} {x0 x1 : Int} {x2 : Bool} {B : Value} {l : List Int} (h : MemAt w base g x0 x1 x2 B l) : MemAt w.drew base g x0 x1 x2 B l := ⟨h.le, h.at_, Kd.R_drew h.row, h.ne⟩

/-- What a method may have written: the memory itself and its row. -/
def memS (g : Nat) (B : Value) (k : Nat) : Prop := k = g ∨ B.ownBlock = some k

theorem kept_grown {w w1 : World} {g : Nat} {B : Value} (h : w.grownBy w1 B.ownBlock) : Kept w w1 (memS g B) := ⟨h.size, fun i hi hS => h.block i hi (fun e => hS (.inr e.symm))⟩

def mem_Init (l : List Int) (dt fr n : Int) (b : List Int) : List Int × Int :=
  if fr + n ≤ b.length ∧ dt + n ≤ l.length then (l.take dt.toNat ++ ((b.take (fr + n).toNat).drop fr.toNat ++ l.drop (dt + n).toNat), 0) else (l, 44)

set_option maxHeartbeats 8000000 in
set_option maxRecDepth 100000 in
theorem mem_Init.calls (base g : Nat) (x0 x1 : Int) (x2 : Bool) (B : Value) (l : List Int) (dt fr n : Int) (A : Option Addr) (c : Nat) (b : List Int) (w0 w : World)
    (h0 : 0 ≤ dt) (h1 : 0 ≤ fr) (h2 : 0 ≤ n) (hB : Below base w0 w) (hM : MemAt w base g x0 x1 x2 B l) (hC : Kd.C (Kd.int .u8) w A b.length b) (hc : b.length ≤ c) :
    Calls Try.prog 19 #[.pointer (some ⟨g, 0, none⟩), .int .u64 dt, .int .u64 fr, .int .u64 n, .slice A b.length c] w fun e w' =>
      e = .returned (.int .i64 (mem_Init l dt fr n b).2) ∧ MemAt w' base g x0 x1 x2 B (mem_Init l dt fr n b).1 ∧ Below base w0 w' ∧ Kept w w' (memS g B) := by
  have HM := Aside0.mk hM
  obtain ⟨hle, hat, hrow, hne⟩ := hM
  obtain ⟨Ab, cb, rfl, hlb, hCb⟩ := Kd.R_reads hrow
  have hbl : b.length ≤ 9223372036854775807 := hC.2.1
  have hll : l.length ≤ 9223372036854775807 := hCb.2.1
  have hc0 : w.cell? ⟨g, 3, none⟩ = some (.slice Ab l.length cb) := (blk_cell hat 3).trans rfl
  have HB := Aside0.mk hB
  have E1 := Aside0.mk (in_is fr n b.length h1 h2 hbl)
  have E2 := Aside0.mk (in_is dt n l.length h0 h2 hll)
  have HC := Aside0.mk hC
  have HG := Aside0.mk hat
  have HR := Aside0.mk hrow
  have HN := Aside0.mk hne
  clear hat hrow hCb hB hC hne
  by_cases c1 : fr + n ≤ b.length
  · by_cases c2 : dt + n ≤ l.length
    · have eI : mem_Init l dt fr n b = (l.take dt.toNat ++ ((b.take (fr + n).toNat).drop fr.toNat ++ l.drop (dt + n).toNat), 0) := by unfold mem_Init; rw [if_pos ⟨c1, c2⟩]
      rw [eI]
      rw [decide_eq_true c1] at E1
      rw [decide_eq_true c2] at E2
      clear eI
      obtain ⟨i0, hi, _, hsz, _⟩ := info_parts info5
      have hcA := cut_from (P := Try.prog) 29 5 .u64 Try.underlying29 hi 1 hsz Ab l.length cb dt h0 (by omega)
      have hcB := cut_mid (P := Try.prog) 29 5 .u64 .u64 Try.underlying29 hi 1 hsz A b.length c fr (fr + n) h1 (by omega) (by omega) hc
      generalize hA7 : (if cb = dt.toNat then Ab else Option.map (fun x => x.add (dt.toNat * 1)) Ab) = A7 at hcA
      generalize hA8 : (if c = fr.toNat then A else Option.map (fun x => x.add (fr.toNat * 1)) A) = A8 at hcB
      have HA7 := Aside0.mk hA7
      have HA8 := Aside0.mk hA8
      clear hi hsz hA7 hA8
      go_enter Try.func19, Try.ntmps19
      go_wp2_with (fail)
      refine (store_in.calls fr n b.length true w E1.out).mono ?_
      rintro e w1 ⟨rfl, ⟨nd, rfl⟩⟩
      go_wp2_with (fail)
      refine (store_in.calls dt n l.length true _ E2.out).mono ?_
      rintro e w1 ⟨rfl, ⟨nd2, rfl⟩⟩
      go_wp2_with (fail)
      refine wp_region_still_tail 12 (by kernel_rfl) (by kernel_rfl) ?_
      generalize hw : ({ w.drewN (nd + nd2) with drawn := (w.drewN (nd + nd2)).drawn + 1 } : World) = w2
      have hw2 : w2 = (w.drewN (nd + nd2)).drew := hw.symm
      clear hw
      have HR2 := Aside0.mk (show Kd.R (Kd.int .u8) 5 w2 base _ _ l by rw [hw2]; exact Kd.R_drew (Kd.R_drewN HR.out _))
      have HC2 := Aside0.mk (show Kd.C (Kd.int .u8) w2 A b.length b by rw [hw2]; exact Kd.C_drew (Kd.C_drewN HC.out _))
      have hc2 : w2.cell? ⟨g, 3, none⟩ = some (.slice Ab l.length cb) := by rw [hw2]; exact hc0
      have HB2 := Aside0.mk (show Below base w0 w2 by rw [hw2]; exact below_drew1 (pw_below_drewN HB.out _))
      have HK2 := Aside0.mk (show Kept w w2 (memS g (.slice Ab l.length cb)) by rw [hw2]; exact Kept.drew (Kept.drewN (Kept.refl _ _) _))
      have HG2 := Aside0.mk (show w2.heap[g]? = some (.cells #[.int .i64 x0, .int .i64 x1, .bool x2, .slice Ab l.length cb] 31 (0, 0)) by rw [hw2]; exact HG.out)
      have hwr : IntKind.u64.wrap (fr + n) = fr + n := by unfold IntKind.wrap; simp [IntKind.signed, IntKind.bits]; omega
      clear hw2 hc0
      simp only [List.take_succ_cons, List.take_zero, List.drop_succ_cons, List.drop_zero]
      repeat still_step
      try refine wpStill_nil ?_
      have hlen : ((b.take (fr + n).toNat).drop fr.toNat).length = (fr + n).toNat - fr.toNat := by rw [List.length_drop, List.length_take]; omega
      have hCm := Kd.C_mid (lo := fr.toNat) (hi := (fr + n).toNat) (c := c) HC2.out (by omega) (by omega) hc
      rw [hlen] at hCm
      replace hCm : Kd.C (Kd.int .u8) w2 A8 _ _ := HA8.out ▸ hCm
      refine wpList_copy_flat flat_u8 rfl (.tmp 37) (.tmp 43) 29 29 rfl Try.underlying29 (by kernel_rfl) Ab cb l _ dt.toNat _ _ _ HR2.out (congrArg (fun z => Value.slice z (l.length - dt.toNat) (cb - dt.toNat)) HA7.out.symm) rfl hCm (by omega) ?_
      intro w3 hR3 hG3
      have h3 : dt.toNat + ((fr + n).toNat - fr.toNat) = (dt + n).toNat := by omega
      rw [h3] at hR3
      have HR3 := Aside0.mk hR3
      have HG3 := Aside0.mk hG3
      clear hR3 hG3 hCm
      go_wp2_with (fail)
      go_ret
      exact ⟨rfl, ⟨hle, (HG3.out.block g (blk_lt HG2.out) (fun e => HN.out e.symm)).trans HG2.out, HR3.out, HN.out⟩, HB2.out.grown HG3.out (Nat.le_trans hle (Nat.le_of_lt (blk_lt HG2.out))) (Kd.R_base HR2.out), HK2.out.then_ (kept_grown HG3.out) (fun _ h => .inl h)⟩
    · have eI : mem_Init l dt fr n b = (l, 44) := by unfold mem_Init; rw [if_neg]; omega
      rw [eI]
      rw [decide_eq_true c1] at E1
      rw [decide_eq_false c2] at E2
      clear eI
      go_enter Try.func19, Try.ntmps19
      go_wp2_with (fail)
      refine (store_in.calls fr n b.length true w E1.out).mono ?_
      rintro e w1 ⟨rfl, ⟨nd, rfl⟩⟩
      go_wp2_with (fail)
      refine (store_in.calls dt n l.length false _ E2.out).mono ?_
      rintro e w1 ⟨rfl, ⟨nd2, rfl⟩⟩
      go_wp2_with (fail)
      go_ret
      exact ⟨rfl, HM.out.drewN _, pw_below_drewN HB.out _, Kept.refl _ _⟩
  · have eI : mem_Init l dt fr n b = (l, 44) := by unfold mem_Init; rw [if_neg]; omega
    rw [eI]
    rw [decide_eq_false c1] at E1
    clear eI
    go_enter Try.func19, Try.ntmps19
    go_wp2_with (fail)
    refine (store_in.calls fr n b.length false w E1.out).mono ?_
    rintro e w1 ⟨rfl, ⟨nd, rfl⟩⟩
    go_wp2_with (fail)
    go_ret
    exact ⟨rfl, HM.out.drewN _, pw_below_drewN HB.out _, Kept.refl _ _⟩
end Go.Proofs.Ytjpbmmncakcbhaa.PA
