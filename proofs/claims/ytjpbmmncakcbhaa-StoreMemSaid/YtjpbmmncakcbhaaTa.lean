/- The methods of a table (store.Table): Init, Get, Fill, Set; no condition. -/
import Derived.Test.YtjpbmmncakcbhaaMd
namespace Go.Proofs.Ytjpbmmncakcbhaa.PA
open Go.RowKit Go.Proofs.YtjpbmmncakcbhaaW.PrintWords Go.Proofs.YtjpbmmncakcbhaaW.PrintLast Go.Proofs.YtjpbmmncakcbhaaW.PrintMore
set_option linter.unusedVariables false
set_option linter.unusedSimpArgs false

/-- A table behind a pointer: its type, and its values in a row of its own. -/
structure TabAt (w : World) (base g : Nat) (y x0 x1 : Int) (x2 : Bool) (B : Value) (l : List S26) : Prop where
  le : base ≤ g
  at_ : w.heap[g]? = some (.cells #[.int .i64 y, .int .i64 x0, .int .i64 x1, .bool x2, B] 41 (0, 0))
  row : Kd.R k26 26 w base (fun k => B.ownBlock = some k) B l
  ne : B.ownBlock ≠ some g
theorem TabAt.drewN {w : World} {base g : Nat} {y x0 x1 : Int} {x2 : Bool} {B : Value} {l : List S26} (h : TabAt w base g y x0 x1 x2 B l) (n : Nat) : TabAt (w.drewN n) base g y x0 x1 x2 B l := ⟨h.le, h.at_, Kd.R_drewN h.row n, h.ne⟩
theorem TabAt.drew {w : World} {base g : Nat} {y x0 x1 : Int} {x2 : Bool} {B : Value} {l : List S26} (h : TabAt w base g y x0 x1 x2 B l) : TabAt w.drew base g y x0 x1 x2 B l := ⟨h.le, h.at_, Kd.R_drew h.row, h.ne⟩
/-- An element's cells. -/
theorem row26 {W : World} {base gb n cap : Nat} {ok : Nat → Prop} {xs : List S26} (h : Kd.R k26 26 W base ok (.slice (some ⟨gb, 0, none⟩) n cap) xs) (i : Int) (h0 : 0 ≤ i) (h1 : i < n) :
    ∃ x, xs[i.toNat]? = some x ∧ W.cell? ⟨gb, i.toNat * 4, none⟩ = some (.int .i64 x.f0) ∧ W.cell? ⟨gb, i.toNat * 4 + 1, none⟩ = some (.int .u64 x.f1) ∧ W.cell? ⟨gb, i.toNat * 4 + 2, none⟩ = some (.int .u64 x.f2) ∧ W.cell? ⟨gb, i.toNat * 4 + 3, none⟩ = some (.bool x.f3) ∧ ∀ j, W.frozen? ⟨gb, i.toNat * 4 + j, none⟩ = false := by
  obtain ⟨c, hc, hM, hcc, hf⟩ := Kd.R_elem h z26 i h0 h1
  have hn : n = xs.length := (Kd.R_reads' h).1
  have hlt : i.toNat < xs.length := by omega
  have hM' := k26_openM hM
  subst hM'
  refine ⟨xs[i.toNat], List.getElem?_eq_getElem hlt, ?_⟩
  have e : xs.getD i.toNat z26 = xs[i.toNat] := by rw [List.getD_eq_getElem?_getD, List.getElem?_eq_getElem hlt]; rfl
  rw [e] at hcc
  exact ⟨hcc 0 _ rfl, hcc 1 _ rfl, hcc 2 _ rfl, hcc 3 _ rfl, fun j => hf j⟩

def tab_Init (l : List S26) (dt fr n : Int) (b : List S26) : List S26 × Int :=
  if fr + n ≤ b.length ∧ dt + n ≤ l.length then (l.take dt.toNat ++ ((b.take (fr + n).toNat).drop fr.toNat ++ l.drop (dt + n).toNat), 0) else (l, 45)

set_option maxHeartbeats 8000000 in
set_option maxRecDepth 100000 in
theorem tab_Init.calls (base g : Nat) (y x0 x1 : Int) (x2 : Bool) (B : Value) (l : List S26) (dt fr n : Int) (A : Option Addr) (c : Nat) (b : List S26) (w0 w : World)
    (h0 : 0 ≤ dt) (h1 : 0 ≤ fr) (h2 : 0 ≤ n) (hB : Below base w0 w) (hM : TabAt w base g y x0 x1 x2 B l) (hC : Kd.C (k26) w A b.length b) (hc : b.length ≤ c) :
    Calls Try.prog 26 #[.pointer (some ⟨g, 0, none⟩), .int .u64 dt, .int .u64 fr, .int .u64 n, .slice A b.length c] w fun e w' =>
      e = .returned (.int .i64 (tab_Init l dt fr n b).2) ∧ TabAt w' base g y x0 x1 x2 B (tab_Init l dt fr n b).1 ∧ Below base w0 w' ∧ Kept w w' (memS g B) := by
  have HM := Aside0.mk hM
  obtain ⟨hle, hat, hrow, hne⟩ := hM
  obtain ⟨Ab, cb, rfl, hlb, hCb⟩ := Kd.R_reads hrow
  have hbl : b.length ≤ 9223372036854775807 := hC.2.1
  have hll : l.length ≤ 9223372036854775807 := hCb.2.1
  have hc0 : w.cell? ⟨g, 4, none⟩ = some (.slice Ab l.length cb) := (blk_cell hat 4).trans rfl
  have HB := Aside0.mk hB
  have E1 := Aside0.mk (in_is fr n b.length h1 h2 hbl)
  have E2 := Aside0.mk (in_is dt n l.length h0 h2 hll)
  have HC := Aside0.mk hC
  have HG := Aside0.mk hat
  have HR := Aside0.mk hrow
  have HN := Aside0.mk hne
  clear hat hrow hCb hB hC hne
  by_cases c1 : fr + n ≤ b.length
  · by_cases c2 : dt + n ≤ l.length
    · have eI : tab_Init l dt fr n b = (l.take dt.toNat ++ ((b.take (fr + n).toNat).drop fr.toNat ++ l.drop (dt + n).toNat), 0) := by unfold tab_Init; rw [if_pos ⟨c1, c2⟩]
      rw [eI]
      rw [decide_eq_true c1] at E1
      rw [decide_eq_true c2] at E2
      clear eI
      obtain ⟨i0, hi, _, hsz, _⟩ := info_parts info26
      have hcA := cut_from (P := Try.prog) 38 26 .u64 Try.underlying38 hi 4 hsz Ab l.length cb dt h0 (by omega)
      have hcB := cut_mid (P := Try.prog) 38 26 .u64 .u64 Try.underlying38 hi 4 hsz A b.length c fr (fr + n) h1 (by omega) (by omega) hc
      generalize hA7 : (if cb = dt.toNat then Ab else Option.map (fun x => x.add (dt.toNat * 4)) Ab) = A7 at hcA
      generalize hA8 : (if c = fr.toNat then A else Option.map (fun x => x.add (fr.toNat * 4)) A) = A8 at hcB
      have HA7 := Aside0.mk hA7
      have HA8 := Aside0.mk hA8
      clear hi hsz hA7 hA8
      go_enter Try.func26, Try.ntmps26
      go_wp2_with (fail)
      refine (store_in.calls fr n b.length true w E1.out).mono ?_
      rintro e w1 ⟨rfl, ⟨nd, rfl⟩⟩
      go_wp2_with (fail)
      refine (store_in.calls dt n l.length true _ E2.out).mono ?_
      rintro e w1 ⟨rfl, ⟨nd2, rfl⟩⟩
      go_wp2_with (fail)
      refine wp_region_still_tail 12 (by kernel_rfl) (by kernel_rfl) ?_
      generalize hw : ({ w.drewN (nd + nd2) with drawn := (w.drewN (nd + nd2)).drawn + 1 } : World) = w2
      have hw2 : w2 = (w.drewN (nd + nd2)).drew := hw.symm
      clear hw
      have HR2 := Aside0.mk (show Kd.R (k26) 26 w2 base _ _ l by rw [hw2]; exact Kd.R_drew (Kd.R_drewN HR.out _))
      have HC2 := Aside0.mk (show Kd.C (k26) w2 A b.length b by rw [hw2]; exact Kd.C_drew (Kd.C_drewN HC.out _))
      have hc2 : w2.cell? ⟨g, 4, none⟩ = some (.slice Ab l.length cb) := by rw [hw2]; exact hc0
      have HB2 := Aside0.mk (show Below base w0 w2 by rw [hw2]; exact below_drew1 (pw_below_drewN HB.out _))
      have HK2 := Aside0.mk (show Kept w w2 (memS g (.slice Ab l.length cb)) by rw [hw2]; exact Kept.drew (Kept.drewN (Kept.refl _ _) _))
      have HG2 := Aside0.mk (show w2.heap[g]? = some (.cells #[.int .i64 y, .int .i64 x0, .int .i64 x1, .bool x2, .slice Ab l.length cb] 41 (0, 0)) by rw [hw2]; exact HG.out)
      have hwr : IntKind.u64.wrap (fr + n) = fr + n := by unfold IntKind.wrap; simp [IntKind.signed, IntKind.bits]; omega
      clear hw2 hc0
      simp only [List.take_succ_cons, List.take_zero, List.drop_succ_cons, List.drop_zero]
      repeat still_step
      try refine wpStill_nil ?_
      have hlen : ((b.take (fr + n).toNat).drop fr.toNat).length = (fr + n).toNat - fr.toNat := by rw [List.length_drop, List.length_take]; omega
      have hCm := Kd.C_mid (lo := fr.toNat) (hi := (fr + n).toNat) (c := c) HC2.out (by omega) (by omega) hc
      rw [hlen] at hCm
      replace hCm : Kd.C (k26) w2 A8 _ _ := HA8.out ▸ hCm
      refine wpList_copy_flat flat_26 rfl (.tmp 37) (.tmp 43) 38 38 rfl Try.underlying38 (by kernel_rfl) Ab cb l _ dt.toNat _ _ _ HR2.out (congrArg (fun z => Value.slice z (l.length - dt.toNat) (cb - dt.toNat)) HA7.out.symm) rfl hCm (by omega) ?_
      intro w3 hR3 hG3
      have h3 : dt.toNat + ((fr + n).toNat - fr.toNat) = (dt + n).toNat := by omega
      rw [h3] at hR3
      have HR3 := Aside0.mk hR3
      have HG3 := Aside0.mk hG3
      clear hR3 hG3 hCm
      go_wp2_with (fail)
      go_ret
      exact ⟨rfl, ⟨hle, (HG3.out.block g (blk_lt HG2.out) (fun e => HN.out e.symm)).trans HG2.out, HR3.out, HN.out⟩, HB2.out.grown HG3.out (Nat.le_trans hle (Nat.le_of_lt (blk_lt HG2.out))) (Kd.R_base HR2.out), HK2.out.then_ (kept_grown HG3.out) (fun _ h => .inl h)⟩
    · have eI : tab_Init l dt fr n b = (l, 45) := by unfold tab_Init; rw [if_neg]; omega
      rw [eI]
      rw [decide_eq_true c1] at E1
      rw [decide_eq_false c2] at E2
      clear eI
      go_enter Try.func26, Try.ntmps26
      go_wp2_with (fail)
      refine (store_in.calls fr n b.length true w E1.out).mono ?_
      rintro e w1 ⟨rfl, ⟨nd, rfl⟩⟩
      go_wp2_with (fail)
      refine (store_in.calls dt n l.length false _ E2.out).mono ?_
      rintro e w1 ⟨rfl, ⟨nd2, rfl⟩⟩
      go_wp2_with (fail)
      go_ret
      exact ⟨rfl, HM.out.drewN _, pw_below_drewN HB.out _, Kept.refl _ _⟩
  · have eI : tab_Init l dt fr n b = (l, 45) := by unfold tab_Init; rw [if_neg]; omega
    rw [eI]
    rw [decide_eq_false c1] at E1
    clear eI
    go_enter Try.func26, Try.ntmps26
    go_wp2_with (fail)
    refine (store_in.calls fr n b.length false w E1.out).mono ?_
    rintro e w1 ⟨rfl, ⟨nd, rfl⟩⟩
    go_wp2_with (fail)
    go_ret
    exact ⟨rfl, HM.out.drewN _, pw_below_drewN HB.out _, Kept.refl _ _⟩
theorem TabAt.grown {w w1 : World} {base g : Nat} {y x0 x1 : Int} {x2 : Bool} {B : Value} {l l' : List S26} (h : TabAt w base g y x0 x1 x2 B l) (hg : w.grownBy w1 B.ownBlock)
    (hR : Kd.R (k26) 26 w1 base (fun k => B.ownBlock = some k) B l') : TabAt w1 base g y x0 x1 x2 B l' := ⟨h.le, (hg.block g (blk_lt h.at_) (fun e => h.ne e.symm)).trans h.at_, hR, h.ne⟩
theorem TabAt.below {w w1 w0 : World} {base g : Nat} {y x0 x1 : Int} {x2 : Bool} {B : Value} {l : List S26} (h : TabAt w base g y x0 x1 x2 B l) (hb : Below base w0 w) (hg : w.grownBy w1 B.ownBlock) : Below base w0 w1 :=
  hb.grown hg (Nat.le_trans h.le (Nat.le_of_lt (blk_lt h.at_))) (Kd.R_base h.row)


theorem TabAt.alloc {w : World} {base g : Nat} {y x0 x1 : Int} {x2 : Bool} {B : Value} {l : List S26} (h : TabAt w base g y x0 x1 x2 B l) (o : Obj) : TabAt (w.alloc o) base g y x0 x1 x2 B l :=
  ⟨h.le, (Below.heap_alloc w o g (blk_lt h.at_)).trans h.at_, Kd.R_alloc h.row o, h.ne⟩
theorem alloc_at (w : World) (o : Obj) : (w.alloc o).heap[w.heap.size]? = some o := by show (w.heap.push _)[w.heap.size]? = _; exact Array.getElem?_push_size

def tab_Get (l : List S26) (i : Int) : S26 × Int := if i + 1 ≤ l.length then (l.getD i.toNat z26, 0) else (z26, 45)
set_option maxHeartbeats 8000000 in
set_option maxRecDepth 100000 in
theorem tab_Get.calls (base g : Nat) (y x0 x1 : Int) (x2 : Bool) (B : Value) (l : List S26) (i : Int) (w : World)
    (h0 : 0 ≤ i) (hM : TabAt w base g y x0 x1 x2 B l) :
    Calls Try.prog 27 #[.pointer (some ⟨g, 0, none⟩), .int .u64 i] w fun e w' =>
      e = .returned (.tuple #[.agg #[.int .i64 (tab_Get l i).1.f0, .int .u64 (tab_Get l i).1.f1, .int .u64 (tab_Get l i).1.f2, .bool (tab_Get l i).1.f3], .int .i64 (tab_Get l i).2]) ∧ Below w.heap.size w w' := by
  have HM := Aside0.mk hM
  obtain ⟨Ab, cb, rfl, hlb, hCb⟩ := Kd.R_reads hM.row
  have hll : l.length ≤ 9223372036854775807 := hCb.2.1
  have E1 := Aside0.mk (in_is i 1 l.length h0 (by omega) hll)
  have HM1 := Aside0.mk (hM.alloc (.cells #[.int .i64 0, .int .u64 0, .int .u64 0, .bool false] 26 (0, 0)))
  have hc0 : (w.alloc (.cells #[.int .i64 0, .int .u64 0, .int .u64 0, .bool false] 26 (0, 0))).cell? ⟨g, 4, none⟩ = some (.slice Ab l.length cb) := (blk_cell HM1.out.at_ 4).trans rfl
  have HA := Aside0.mk (alloc_at w (.cells #[.int .i64 0, .int .u64 0, .int .u64 0, .bool false] 26 (0, 0)))
  have HB := Aside0.mk (below_alloc (Below.refl w.heap.size w) (.cells #[.int .i64 0, .int .u64 0, .int .u64 0, .bool false] 26 (0, 0)))
  clear hM hCb
  by_cases c1 : i + 1 ≤ l.length
  · rw [decide_eq_true c1] at E1
    obtain ⟨gb, cap, hv, hb, hlt, cells, hcells⟩ := Kd.R_form HM1.out.row (by omega)
    injection hv with ha hnn hcc; clear hnn
    subst ha; subst hcc
    obtain ⟨x, hx, hk0, hk1, hk2, hk3, hf⟩ := row26 HM1.out.row i h0 (by omega)
    have eI : tab_Get l i = (x, 0) := by unfold tab_Get; rw [if_pos c1, List.getD_eq_getElem?_getD, hx]; rfl
    rw [eI]
    clear eI hcells hx hf hlt hb
    go_enter Try.func27, Try.ntmps27
    go_wp2_with (fail)
    refine (store_in.calls i 1 l.length true _ E1.out).mono ?_
    rintro e w1 ⟨rfl, ⟨nd, rfl⟩⟩
    go_wp2_with (fail)
    refine bodyPost_ret (results_ct rfl _ _ w.heap.size 26 #[.int .i64 x.f0, .int .u64 x.f1, .int .u64 x.f2, .bool x.f3] (0, 0) _ rfl
      (blk_put (cs := #[.int .i64 x.f0, .int .u64 x.f1, .int .u64 x.f2, .bool false]) (blk_put (cs := #[.int .i64 x.f0, .int .u64 x.f1, .int .u64 0, .bool false]) (blk_put (cs := #[.int .i64 x.f0, .int .u64 0, .int .u64 0, .bool false]) (blk_put (cs := #[.int .i64 0, .int .u64 0, .int .u64 0, .bool false]) HA.out 0 _ rfl) 1 _ rfl) 2 _ rfl) 3 _ rfl) Try.underlying26 rfl (by kernel_rfl)) rfl ?_
    exact ⟨rfl, ((((pw_below_drewN HB.out nd).setCell (Nat.le_refl _) _).setCell (Nat.le_refl _) _).setCell (Nat.le_refl _) _).setCell (Nat.le_refl _) _⟩
  · rw [decide_eq_false c1] at E1
    have eI : tab_Get l i = (z26, 45) := by unfold tab_Get; rw [if_neg c1]
    rw [eI]
    clear eI
    go_enter Try.func27, Try.ntmps27
    go_wp2_with (fail)
    refine (store_in.calls i 1 l.length false _ E1.out).mono ?_
    rintro e w1 ⟨rfl, ⟨nd, rfl⟩⟩
    go_wp2_with (fail)
    refine bodyPost_ret (results_ct rfl _ _ w.heap.size 26 #[.int .i64 z26.f0, .int .u64 z26.f1, .int .u64 z26.f2, .bool z26.f3] (0, 0) _ rfl
      (blk_put (cs := #[.int .i64 z26.f0, .int .u64 z26.f1, .int .u64 z26.f2, .bool false]) (blk_put (cs := #[.int .i64 z26.f0, .int .u64 z26.f1, .int .u64 0, .bool false]) (blk_put (cs := #[.int .i64 z26.f0, .int .u64 0, .int .u64 0, .bool false]) (blk_put (cs := #[.int .i64 0, .int .u64 0, .int .u64 0, .bool false]) HA.out 0 _ rfl) 1 _ rfl) 2 _ rfl) 3 _ rfl) Try.underlying26 rfl (by kernel_rfl)) rfl ?_
    exact ⟨rfl, ((((pw_below_drewN HB.out nd).setCell (Nat.le_refl _) _).setCell (Nat.le_refl _) _).setCell (Nat.le_refl _) _).setCell (Nat.le_refl _) _⟩

def tab_Fill (l : List S26) (at_ : Int) (x : S26) (n : Int) : List S26 × Int :=
  if at_ + n ≤ l.length then (l.take at_.toNat ++ (List.replicate n.toNat x ++ l.drop (at_ + n).toNat), 0) else (l, 45)
theorem fill_step26 (l : List S26) (a k : Nat) (x : S26) (h : a + k < l.length) :
    (l.take a ++ (List.replicate k x ++ l.drop (a + k))).set (a + k) x = l.take a ++ (List.replicate (k + 1) x ++ l.drop (a + (k + 1))) := by
  have e1 : (l.take a).length = a := by rw [List.length_take]; omega
  rw [List.set_append_right _ _ (by omega), e1, List.set_append_right _ _ (by simp), List.length_replicate, show a + k - a - k = 0 by omega]
  congr 1
  rw [List.drop_eq_getElem_cons h, List.set_cons_zero, List.replicate_succ', List.append_assoc]
  rfl

set_option maxHeartbeats 8000000 in
set_option maxRecDepth 100000 in
theorem tab_Fill.calls (base g : Nat) (y x0 x1 : Int) (x2 : Bool) (B : Value) (l : List S26) (a : Int) (x : S26) (n : Int) (w0 w : World)
    (h0 : 0 ≤ a) (h2 : 0 ≤ n) (hB : Below base w0 w) (hM : TabAt w base g y x0 x1 x2 B l) :
    Calls Try.prog 24 #[.pointer (some ⟨g, 0, none⟩), .int .u64 a, .agg #[.int .i64 x.f0, .int .u64 x.f1, .int .u64 x.f2, .bool x.f3], .int .u64 n] w fun e w' =>
      e = .returned (.int .i64 (tab_Fill l a x n).2) ∧ TabAt w' base g y x0 x1 x2 B (tab_Fill l a x n).1 ∧ Below base w0 w' ∧ Kept w w' (memS g B) := by
  have HM := Aside0.mk hM
  have HS := Aside0.mk (Nat.le_trans hM.le (Nat.le_of_lt (blk_lt hM.at_)))
  obtain ⟨Ab, cb, rfl, hlb, hCb⟩ := Kd.R_reads hM.row
  have hll : l.length ≤ 9223372036854775807 := hCb.2.1
  have E1 := Aside0.mk (in_is a n l.length h0 h2 hll)
  have HM1 := Aside0.mk (hM.alloc (.cells #[.int .i64 x.f0, .int .u64 x.f1, .int .u64 x.f2, .bool x.f3] 26 (0, 0)))
  have hc0 : (w.alloc (.cells #[.int .i64 x.f0, .int .u64 x.f1, .int .u64 x.f2, .bool x.f3] 26 (0, 0))).cell? ⟨g, 4, none⟩ = some (.slice Ab l.length cb) := (blk_cell HM1.out.at_ 4).trans rfl
  have HA := Aside0.mk (alloc_at w (.cells #[.int .i64 x.f0, .int .u64 x.f1, .int .u64 x.f2, .bool x.f3] 26 (0, 0)))
  have HB1 := Aside0.mk (hB.alloc HS.out (.cells #[.int .i64 x.f0, .int .u64 x.f1, .int .u64 x.f2, .bool x.f3] 26 (0, 0)))
  have HK1 := Aside0.mk (Kept.alloc (Kept.refl w (memS g (.slice Ab l.length cb))) (.cells #[.int .i64 x.f0, .int .u64 x.f1, .int .u64 x.f2, .bool x.f3] 26 (0, 0)))
  clear hM hCb hB
  by_cases c1 : a + n ≤ l.length
  · have eI : tab_Fill l a x n = (l.take a.toNat ++ (List.replicate n.toNat x ++ l.drop (a + n).toNat), 0) := by unfold tab_Fill; rw [if_pos c1]
    rw [eI]
    rw [decide_eq_true c1] at E1
    clear eI
    go_enter Try.func24, Try.ntmps24
    go_wp2_with (fail)
    refine (store_in.calls a n l.length true _ E1.out).mono ?_
    rintro e w1 ⟨rfl, ⟨nd, rfl⟩⟩
    go_wp2_with (fail)
    generalize hb6 : w.heap.size = b6
    have H6 := Aside0.mk hb6
    clear hb6
    go_loopw [24] (fun i wr => ∃ k : Nat, i = .int .u64 k ∧ (k : Int) ≤ n ∧ Aside0 (TabAt wr base g y x0 x1 x2 (.slice Ab l.length cb) (l.take a.toNat ++ (List.replicate k x ++ l.drop (a.toNat + k)))) ∧ Aside0 (Below base w0 wr) ∧ Aside0 (Kept w wr (memS g (.slice Ab l.length cb))) ∧ Aside0 (wr.heap[b6]? = some (.cells #[.int .i64 x.f0, .int .u64 x.f1, .int .u64 x.f2, .bool x.f3] 26 (0, 0))))
      (fun i _ => n.toNat - (intOf i).toNat)
    case atStart => exact ⟨0, rfl, by omega, ⟨by simpa using HM1.out.drewN nd⟩, ⟨pw_below_drewN HB1.out _⟩, ⟨Kept.drewN HK1.out _⟩, ⟨by rw [← H6.out]; exact HA.out⟩⟩
    case round =>
      obtain ⟨k, rfl, hk, HMr, HBr, HKr, H6r⟩ := hrel
      have hcr : wr.cell? ⟨g, 4, none⟩ = some (.slice Ab l.length cb) := (blk_cell HMr.out.at_ 4).trans rfl
      have h60 : wr.cell? ⟨b6, 0, none⟩ = some (.int .i64 x.f0) := (blk_cell H6r.out 0).trans rfl
      have h61 : wr.cell? ⟨b6, 1, none⟩ = some (.int .u64 x.f1) := (blk_cell H6r.out 1).trans rfl
      have h62 : wr.cell? ⟨b6, 2, none⟩ = some (.int .u64 x.f2) := (blk_cell H6r.out 2).trans rfl
      have h63 : wr.cell? ⟨b6, 3, none⟩ = some (.bool x.f3) := (blk_cell H6r.out 3).trans rfl
      clear hc0
      by_cases hkn : (k : Int) < n
      · have hlen : (l.take a.toNat ++ (List.replicate k x ++ l.drop (a.toNat + k))).length = l.length := by
          simp only [List.length_append, List.length_take, List.length_drop, List.length_replicate]; omega
        obtain ⟨gb, cap, hv, hb, hlt, cells, hcells⟩ := Kd.R_form HMr.out.row (by omega)
        injection hv with ha hnn hcc; clear hnn
        subst ha; subst hcc
        have HLEN := Aside0.mk hlen
        clear hlen hlt hb hcells
        go_wp2_with (fail)
        refine wp_region_still_tail 9 (by kernel_rfl) (by kernel_rfl) ?_
        generalize hw : ({ wr with drawn := wr.drawn + 1 } : World) = w2
        have hw2 : w2 = wr.drew := hw.symm
        clear hw
        have HM2 := Aside0.mk (show TabAt w2 base g y x0 x1 x2 _ _ by rw [hw2]; exact HMr.out.drew)
        have HB2 := Aside0.mk (show Below base w0 w2 by rw [hw2]; exact below_drew1 HBr.out)
        have HK2 := Aside0.mk (show Kept w w2 _ by rw [hw2]; exact Kept.drew HKr.out)
        have H62 := Aside0.mk (show w2.heap[b6]? = some (.cells #[.int .i64 x.f0, .int .u64 x.f1, .int .u64 x.f2, .bool x.f3] 26 (0, 0)) by rw [hw2]; exact H6r.out)
        clear hw2 hcr h60 h61 h62 h63
        have hcr : w2.cell? ⟨g, 4, none⟩ = some (.slice (some ⟨gb, 0, none⟩) l.length cb) := (blk_cell HM2.out.at_ 4).trans rfl
        have h60 : w2.cell? ⟨b6, 0, none⟩ = some (.int .i64 x.f0) := (blk_cell H62.out 0).trans rfl
        have h61 : w2.cell? ⟨b6, 1, none⟩ = some (.int .u64 x.f1) := (blk_cell H62.out 1).trans rfl
        have h62 : w2.cell? ⟨b6, 2, none⟩ = some (.int .u64 x.f2) := (blk_cell H62.out 2).trans rfl
        have h63 : w2.cell? ⟨b6, 3, none⟩ = some (.bool x.f3) := (blk_cell H62.out 3).trans rfl
        have hwr : IntKind.u64.wrap (a + k) = a + k := by unfold IntKind.wrap; simp [IntKind.signed, IntKind.bits]; omega
        have hi1 : a + (k : Int) < (l.length : Int) := by omega
        have hi0 : 0 ≤ a + (k : Int) := by omega
        simp only [List.take_succ_cons, List.take_zero, List.drop_succ_cons, List.drop_zero]
        repeat still_step
        try refine wpStill_nil ?_
        obtain ⟨c, hcl, hcM, hcc, hcf⟩ := Kd.R_elem HM2.out.row z26 (a + k) hi0 hi1
        have hcs : c.take 0 ++ [.int .i64 x.f0, .int .u64 x.f1, .int .u64 x.f2, .bool x.f3] ++ c.drop (0 + 4) = [.int .i64 x.f0, .int .u64 x.f1, .int .u64 x.f2, .bool x.f3] := by
          have e : c.length = 4 := hcl
          rw [List.drop_eq_nil_of_le (by omega)]; rfl
        have hMx : k26.M w2 base (fun _ => False) x (c.take 0 ++ [.int .i64 x.f0, .int .u64 x.f1, .int .u64 x.f2, .bool x.f3] ++ c.drop (0 + 4)) := by rw [hcs]; exact k26_mkM _ _ _ _
        refine Kd.R_store k26 (w0 := w0) base rfl rfl 26 (.tmp 35) (.tmp 34) rfl 26 (a + k) 0 _ x _ [.int .i64 x.f0, .int .u64 x.f1, .int .u64 x.f2, .bool x.f3] c _ (fun _ => False) rfl rfl rfl rfl (by kernel_rfl) (by intro q hq; simp at hq; rcases hq with rfl | rfl | rfl | rfl <;> rfl) HM2.out.row hi0 hi1 hcl hcc (Nat.le_refl _) hMx (fun _ h => h.elim) HB2.out ?_
        intro w3 hR3 hB3 hG3
        rw [show (a + (k : Int)).toNat = a.toNat + k by omega, fill_step26 l a.toNat k x (by omega)] at hR3
        have HR3 := Aside0.mk hR3
        have HB3 := Aside0.mk hB3
        have HG3 := Aside0.mk hG3
        clear hR3 hB3 hG3 hcl hcM hcc hcf hcs hMx hcr h60 h61 h62 h63
        go_wp2_with (fail)
        refine ⟨⟨k + 1, by go_num, by omega, ⟨HM2.out.grown HG3.out HR3.out⟩, ⟨HB3.out⟩, ⟨HK2.out.then_ (kept_grown (B := .slice (some ⟨gb, 0, none⟩) l.length cb) HG3.out) (fun _ h => .inl h)⟩, ⟨blk_grown H62.out HG3.out ?_⟩⟩, by simp [intOf]; omega⟩
        have hlt := Kd.R_lt HM.out.row gb rfl
        have := H6.out
        intro e; injection e with e; omega
      · have hkk : (k : Int) = n := by omega
        go_wp2_with (fail)
        go_ret
        refine ⟨rfl, ?_, HBr.out, HKr.out⟩
        have e1 : k = n.toNat := by omega
        have e2 : (a + n).toNat = a.toNat + n.toNat := by omega
        rw [e2, ← e1]
        exact HMr.out
  · have eI : tab_Fill l a x n = (l, 45) := by unfold tab_Fill; rw [if_neg c1]
    rw [eI]
    rw [decide_eq_false c1] at E1
    clear eI
    go_enter Try.func24, Try.ntmps24
    go_wp2_with (fail)
    refine (store_in.calls a n l.length false _ E1.out).mono ?_
    rintro e w1 ⟨rfl, ⟨nd, rfl⟩⟩
    go_wp2_with (fail)
    go_ret
    exact ⟨rfl, HM1.out.drewN _, pw_below_drewN HB1.out _, Kept.drewN HK1.out _⟩

set_option maxHeartbeats 8000000 in
set_option maxRecDepth 100000 in
theorem tab_Set.calls (base g : Nat) (y x0 x1 : Int) (x2 : Bool) (B : Value) (l : List S26) (a : Int) (x : S26) (w0 w : World)
    (h0 : 0 ≤ a) (hB : Below base w0 w) (hM : TabAt w base g y x0 x1 x2 B l) :
    Calls Try.prog 22 #[.pointer (some ⟨g, 0, none⟩), .int .u64 a, .agg #[.int .i64 x.f0, .int .u64 x.f1, .int .u64 x.f2, .bool x.f3]] w fun e w' =>
      e = .returned (.int .i64 (tab_Fill l a x 1).2) ∧ TabAt w' base g y x0 x1 x2 B (tab_Fill l a x 1).1 ∧ Below base w0 w' ∧ Kept w w' (memS g B) := by
  have HS := Aside0.mk (Nat.le_trans hM.le (Nat.le_of_lt (blk_lt hM.at_)))
  have HM1 := Aside0.mk (hM.alloc (.cells #[.int .i64 x.f0, .int .u64 x.f1, .int .u64 x.f2, .bool x.f3] 26 (0, 0)))
  have HB1 := Aside0.mk (hB.alloc HS.out (.cells #[.int .i64 x.f0, .int .u64 x.f1, .int .u64 x.f2, .bool x.f3] 26 (0, 0)))
  have HK1 := Aside0.mk (Kept.alloc (Kept.refl w (memS g B)) (.cells #[.int .i64 x.f0, .int .u64 x.f1, .int .u64 x.f2, .bool x.f3] 26 (0, 0)))
  clear hB hM
  go_enter Try.func22, Try.ntmps22
  go_wp2_with (fail)
  refine (tab_Fill.calls base g y x0 x1 x2 B l a x 1 w0 _ h0 (by omega) HB1.out HM1.out).mono ?_
  rintro e w1 ⟨rfl, H1, H2, H3⟩
  have H1' := Aside0.mk H1
  have H2' := Aside0.mk H2
  have H3' := Aside0.mk H3
  clear H1 H2 H3
  go_wp2_with (fail)
  go_ret
  exact ⟨rfl, H1'.out, H2'.out, HK1.out.then_ H3'.out (fun _ h => .inl h)⟩

/-- A table that copies from itself. -/
theorem tab_Copy.own (base g : Nat) (y x0 x1 : Int) (x2 : Bool) (B : Value) (l : List S26) (dt fr n : Int) (w0 w : World)
    (h0 : 0 ≤ dt) (h1 : 0 ≤ fr) (h2 : 0 ≤ n) (hB : Below base w0 w) (hM : TabAt w base g y x0 x1 x2 B l) :
    Calls Try.prog 25 #[.pointer (some ⟨g, 0, none⟩), .int .u64 dt, .int .u64 fr, .int .u64 n, .pointer (some ⟨g, 0, none⟩)] w fun e w' =>
      e = .returned (.int .i64 (tab_Init l dt fr n l).2) ∧ TabAt w' base g y x0 x1 x2 B (tab_Init l dt fr n l).1 ∧ Below base w0 w' ∧ Kept w w' (memS g B) := by
  have HM := Aside0.mk hM
  have HB := Aside0.mk hB
  obtain ⟨Ab, cb, rfl, hlb, hCb⟩ := Kd.R_reads hM.row
  have HC := Aside0.mk hCb
  have hc0 : w.cell? ⟨g, 4, none⟩ = some (.slice Ab l.length cb) := (blk_cell hM.at_ 4).trans rfl
  clear hM hCb hB
  go_enter Try.func25, Try.ntmps25
  go_wp2_with (fail)
  refine (tab_Init.calls base g y x0 x1 x2 _ l dt fr n Ab cb l w0 w h0 h1 h2 HB.out HM.out HC.out hlb).mono ?_
  rintro e w1 ⟨rfl, H1, H2, H3⟩
  have H1' := Aside0.mk H1
  have H2' := Aside0.mk H2
  have H3' := Aside0.mk H3
  clear H1 H2 H3
  go_wp2_with (fail)
  go_ret
  exact ⟨rfl, H1'.out, H2'.out, H3'.out⟩
/-- A table that copies from another. -/
theorem tab_Copy.far (base g : Nat) (y x0 x1 : Int) (x2 : Bool) (B : Value) (l : List S26) (base' g' : Nat) (y' x0' x1' : Int) (x2' : Bool) (B' : Value) (l' : List S26) (dt fr n : Int) (w0 w : World)
    (h0 : 0 ≤ dt) (h1 : 0 ≤ fr) (h2 : 0 ≤ n) (hB : Below base w0 w) (hM : TabAt w base g y x0 x1 x2 B l) (hM' : TabAt w base' g' y' x0' x1' x2' B' l') :
    Calls Try.prog 25 #[.pointer (some ⟨g, 0, none⟩), .int .u64 dt, .int .u64 fr, .int .u64 n, .pointer (some ⟨g', 0, none⟩)] w fun e w' =>
      e = .returned (.int .i64 (tab_Init l dt fr n l').2) ∧ TabAt w' base g y x0 x1 x2 B (tab_Init l dt fr n l').1 ∧ Below base w0 w' ∧ Kept w w' (memS g B) := by
  have HM := Aside0.mk hM
  have HB := Aside0.mk hB
  obtain ⟨Ab, cb, rfl, hlb, hCb⟩ := Kd.R_reads hM'.row
  have HC := Aside0.mk hCb
  have hc0 : w.cell? ⟨g', 4, none⟩ = some (.slice Ab l'.length cb) := (blk_cell hM'.at_ 4).trans rfl
  clear hM hCb hB hM'
  go_enter Try.func25, Try.ntmps25
  go_wp2_with (fail)
  refine (tab_Init.calls base g y x0 x1 x2 _ l dt fr n Ab cb l' w0 w h0 h1 h2 HB.out HM.out HC.out hlb).mono ?_
  rintro e w1 ⟨rfl, H1, H2, H3⟩
  have H1' := Aside0.mk H1
  have H2' := Aside0.mk H2
  have H3' := Aside0.mk H3
  clear H1 H2 H3
  go_wp2_with (fail)
  go_ret
  exact ⟨rfl, H1'.out, H2'.out, H3'.out⟩
end Go.Proofs.Ytjpbmmncakcbhaa.PA
