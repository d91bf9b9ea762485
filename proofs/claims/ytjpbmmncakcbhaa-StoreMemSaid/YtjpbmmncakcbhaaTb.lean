/- slices.Repeat at one value: so many of it; no condition. -/
import Derived.Test.YtjpbmmncakcbhaaTa
namespace Go.Proofs.Ytjpbmmncakcbhaa.PA
open Go.RowKit Go.Proofs.YtjpbmmncakcbhaaW.PrintWords Go.Proofs.YtjpbmmncakcbhaaW.PrintLast Go.Proofs.YtjpbmmncakcbhaaW.PrintMore
set_option linter.unusedVariables false
set_option linter.unusedSimpArgs false

theorem u64w {x : Int} (h0 : 0 ≤ x) (h1 : x < 18446744073709551616) : IntKind.u64.wrap x = x := by
  unfold IntKind.wrap; simp [IntKind.signed, IntKind.bits]; omega
theorem and_low {x : Int} (h0 : 0 ≤ x) (h1 : x < 4294967296) : Go.bits .and .u64 x 4294967295 = x := by
  have h := bits_mask .u64 64 (by decide) (fun n a b => u64w a (by simpa using b)) 32 (by decide) x h0 (by omega)
  have e : ((2 : Int) ^ 32 - 1) = 4294967295 := by decide
  rw [e] at h
  rw [h]
  have : ((2 : Int) ^ 32) = 4294967296 := by decide
  rw [this]
  omega
theorem mul_one_is (n : Int) (h0 : 0 ≤ n) (h1 : n ≤ 1048576) : bits_Mul.f 1 n = some (0, n) := by
  have e : bits_Mul64.f 1 n = some (0, n) := by
    unfold bits_Mul64.f
    rw [and_low (x := n) h0 (by omega), and_low (x := 1) (by omega) (by omega)]
    have e1 : (1 : Int) / 4294967296 = 0 := by decide
    have e2 : n / 4294967296 = 0 := by omega
    rw [e1, e2]
    simp only [Int.zero_mul, Int.mul_zero, Int.one_mul, Int.zero_add, Int.add_zero]
    rw [u64w (x := 0) (by omega) (by omega), u64w (x := n) h0 (by omega)]
    simp only [e2, Int.zero_add]
    rw [u64w (x := 0) (by omega) (by omega)]
    rw [and_low (x := 0) (by omega) (by omega)]
    simp only [Int.zero_add, Int.add_zero]
    rw [u64w (x := 0) (by omega) (by omega)]
    simp [u64w (x := 0) (by omega) (by omega)]
  unfold bits_Mul.f
  rw [e]
  rfl

section
variable {α : Type} {d : Kd α} {e : Nat} {W : World} {base : Nat} {ok : Nat → Prop}
/-- copy over what fits. -/
theorem copy_min_run {P : Program} (hF : Flat d) (t t' ty : TypeId) (ht : P.underlying t = some (.slice e)) (hinfo : (P.info? e).map (·.size) = some d.sz)
    (Ab : Option Addr) (cb : Nat) (xs ys : List α) (off : Nat) (dp : Option Addr) (dl dc : Nat) (A : Option Addr) (m c k : Nat)
    (HO : d.R e W base ok (.slice Ab xs.length cb) xs) (hdp : dp = if cb = off then Ab else Ab.map (·.add (off * d.sz))) (hdl : dl = xs.length - off)
    (HR : d.C W A m ys) (hoff : off ≤ xs.length) (hk : k = Nat.min m (xs.length - off)) :
    ∃ w1, (Builtin.copy_ #[t, t'] ty #[.slice dp dl dc, .slice A m c]).run P W = .ok (goInt k) w1 ∧ d.R e w1 base ok (.slice Ab xs.length cb) (xs.take off ++ (ys.take k ++ xs.drop (off + k))) ∧ W.grownBy w1 (Value.slice Ab xs.length cb).ownBlock := by
  subst hdp hdl
  have hm : ys.length = m := HR.1
  have hkm : k ≤ m := by rw [hk]; exact Nat.min_le_left _ _
  have hkx : k ≤ xs.length - off := by rw [hk]; exact Nat.min_le_right _ _
  rcases Nat.eq_zero_or_pos k with h0 | hp
  · refine ⟨W, ?_, ?_, World.grownBy.refl W _⟩
    · have := run_copy_zero (P := P) W t t' ty e d.sz (if cb = off then Ab else Ab.map (·.add (off * d.sz))) A (xs.length - off) dc m c ht hinfo (by rw [← hk]; exact h0)
      rw [h0]; exact this
    · rw [h0]; simpa using HO
  · obtain ⟨g, cap, hv, hb, hlt, cells, hcells⟩ := Kd.R_form HO (by omega)
    injection hv with ha _ hc
    subst ha; subst hc
    obtain ⟨ad, hA, _⟩ := HR.2.2 (by omega)
    subst hA
    have HR' : d.C W (some ad) ys.length ys := by rw [hm]; exact HR
    have HRk := Kd.C_take (m := k) HR' (by omega)
    have hlk : (ys.take k).length = k := by rw [List.length_take]; omega
    obtain ⟨cs, hreps, hsrc⟩ := ReadsRow.inner_ HRk
    obtain ⟨cur, hh, hfit2, hR2, hgr⟩ := R_splice hF HO off hreps (fun _ _ hk => hF.km hk) (by omega)
    have hcap : xs.length ≤ cb := (Kd.R_reads' HO).2.1
    have h1 : ∀ u ∈ cs, u.oneCell' = true := Kd.reps_one hreps hF.pos (fun _ _ hk => d.K_one hk)
    rw [hlk] at hR2
    refine ⟨_, ?_, hR2, by simpa [Value.ownBlock] using hgr⟩
    rw [if_neg (by omega)]
    have := run_copy_rows (P := P) W t t' ty e d.sz g (off * d.sz) (xs.length - off) dc ad m c cur e cs ht hinfo hh (by rw [← hk, hreps.1, hlk]) hsrc hfit2 h1
    rw [← hk] at this
    have hadd : (⟨g, 0, none⟩ : Addr).add (off * d.sz) = ⟨g, off * d.sz, none⟩ := by unfold Addr.add; split <;> simp_all
    simp only [Option.map_some, hadd]
    exact this
theorem wpList_copy_min {P : Program} {ops : Array Oper} {rest : List Oper} {o : Oper} {a : Act} {Q : Exit → Act → World → Prop} (hF : Flat d) (hgd : o.guard = none) (s x : Operand) (t t' : TypeId)
    (ho : o.op = .call { callee := .builtin .copy, args := #[s, x], argTypes := #[t, t'] }) (ht : P.underlying t = some (.slice e)) (hinfo : (P.info? e).map (·.size) = some d.sz)
    (Ab : Option Addr) (cb : Nat) (xs ys : List α) (off : Nat) (dp : Option Addr) (dl dc : Nat) (A : Option Addr) (m c k : Nat)
    (HO : d.R e W base ok (.slice Ab xs.length cb) xs) (hs : a.eval s = .slice dp dl dc) (hdp : dp = if cb = off then Ab else Ab.map (·.add (off * d.sz))) (hdl : dl = xs.length - off)
    (hx : a.eval x = .slice A m c) (HR : d.C W A m ys) (hoff : off ≤ xs.length) (hk : k = Nat.min m (xs.length - off))
    (h : ∀ w1, d.R e w1 base ok (.slice Ab xs.length cb) (xs.take off ++ (ys.take k ++ xs.drop (off + k))) → W.grownBy w1 (Value.slice Ab xs.length cb).ownBlock → wpList P ops Q rest (a.put o.dst (.int .i64 k)) w1) :
    wpList P ops Q (o :: rest) a W := by
  obtain ⟨w1, hr, hrow, hg⟩ := copy_min_run (P := P) hF t t' o.type ht hinfo Ab cb xs ys off dp dl dc A m c k HO hdp hdl HR hoff hk
  refine wpList_plain hgd fun K hK => ?_
  unfold Oper.wp execOp
  simp only [ho, resolve, invoke, builtin, Sem.run_bind, Sem.run_pure, Result.andThen_ok, List.map_toArray, List.map_cons, List.map_nil, hs, hx, hr]
  exact hK _ _ (h w1 hrow hg)
theorem copy_min_step {P : Program} {ops : Array Oper} {o : Oper} {a : Act} {Q : Exit → Act → World → Prop} {Kc : Act → World → Prop} (hF : Flat d) (hw : Region.wanted o (yielded ops a.tmps) = true) (s x : Operand) (t t' : TypeId)
    (ho : o.op = .call { callee := .builtin .copy, args := #[s, x], argTypes := #[t, t'] }) (ht : P.underlying t = some (.slice e)) (hinfo : (P.info? e).map (·.size) = some d.sz)
    (Ab : Option Addr) (cb : Nat) (xs ys : List α) (off : Nat) (dp : Option Addr) (dl dc : Nat) (A : Option Addr) (m c k : Nat)
    (HO : d.R e W base ok (.slice Ab xs.length cb) xs) (hs : a.eval s = .slice dp dl dc) (hdp : dp = if cb = off then Ab else Ab.map (·.add (off * d.sz))) (hdl : dl = xs.length - off)
    (hx : a.eval x = .slice A m c) (HR : d.C W A m ys) (hoff : off ≤ xs.length) (hk : k = Nat.min m (xs.length - off))
    (h : ∀ w1, d.R e w1 base ok (.slice Ab xs.length cb) (xs.take off ++ (ys.take k ++ xs.drop (off + k))) → W.grownBy w1 (Value.slice Ab xs.length cb).ownBlock → Kc (a.put o.dst (.int .i64 k)) w1) :
    if Region.wanted o (yielded ops a.tmps) = true then Oper.wp P o a W Kc Q else Kc (a.put o.dst undef) W := by
  obtain ⟨w1, hr, hrow, hg⟩ := copy_min_run (P := P) hF t t' o.type ht hinfo Ab cb xs ys off dp dl dc A m c k HO hdp hdl HR hoff hk
  rw [if_pos hw]
  unfold Oper.wp execOp
  simp only [ho, resolve, invoke, builtin, Sem.run_bind, Sem.run_pure, Result.andThen_ok, List.map_toArray, List.map_cons, List.map_nil, hs, hx, hr]
  exact h w1 hrow hg
theorem at_zero (A : Option Addr) (c s : Nat) : A = if c = 0 then A else A.map (·.add (0 * s)) := by
  split
  · rfl
  · cases A <;> simp [Addr.add]
theorem rep_first (x z : α) (N : Nat) : (List.replicate N z).take 0 ++ ([x].take (Nat.min 1 N) ++ (List.replicate N z).drop (0 + Nat.min 1 N)) = List.replicate (Nat.min 1 N) x ++ List.replicate (N - Nat.min 1 N) z := by
  cases N with
  | zero => rfl
  | succ m =>
    have : Nat.min 1 (m + 1) = 1 := Nat.min_eq_left (by omega)
    rw [this]
    simp [List.replicate_succ]
theorem rep_more (x z : α) (N k j : Nat) (hk : k ≤ N) (hj : j = Nat.min k (N - k)) :
    (List.replicate k x ++ List.replicate (N - k) z).take k ++ (((List.replicate k x ++ List.replicate (N - k) z).take k).take j ++ (List.replicate k x ++ List.replicate (N - k) z).drop (k + j)) = List.replicate (k + j) x ++ List.replicate (N - (k + j)) z := by
  have hjk : j ≤ k := by rw [hj]; exact Nat.min_le_left _ _
  have hjn : j ≤ N - k := by rw [hj]; exact Nat.min_le_right _ _
  have e1 : (List.replicate k x ++ List.replicate (N - k) z).take k = List.replicate k x := by rw [List.take_left' (by simp)]
  rw [e1, List.take_replicate, Nat.min_eq_left hjk, ← List.append_assoc, List.replicate_append_replicate]
  congr 1
  rw [List.drop_append, List.length_replicate, List.drop_replicate, List.drop_replicate, show k - (k + j) = 0 by omega, List.replicate_zero, List.nil_append]
  congr 1
  omega
end

theorem below_of_grown {w w1 : World} (hg : w.grownBy w1 none) : Below w.heap.size w w1 := ⟨hg.os, hg.tape, hg.output, hg.size, fun k hk => hg.block k hk (by simp)⟩

set_option maxHeartbeats 8000000 in
set_option maxRecDepth 100000 in
theorem slices_Repeat.calls (base : Nat) (A : Option Addr) (c : Nat) (x : S26) (n : Int) (w0 w : World)
    (h0 : 0 ≤ n) (h1 : n ≤ 1048576) (hB : Below base w0 w) (hbase : base ≤ w.heap.size) (hC : Kd.C k26 w A 1 [x]) (hc : 1 ≤ c) :
    Calls Try.prog 29 #[.slice A 1 c, .int .i64 n] w fun e w' =>
      ∃ v, e = .returned v ∧ Kd.R k26 26 w' base (fun k => w.heap.size ≤ k) v (List.replicate n.toNat x) ∧ Below base w0 w' ∧ Kept w w' (fun _ => False) := by
  have HC := Aside0.mk hC
  have HB := Aside0.mk hB
  have HS := Aside0.mk hbase
  have EM := Aside0.mk (mul_one_is n h0 h1)
  have HL := Aside0.mk (show n.toNat * 32 ≤ 281474976710656 by omega)
  clear hB hC
  go_enter Try.func29, Try.ntmps29
  go_wp2_with (fail)
  refine (bits_Mul.calls 1 n 0 n w EM.out).mono ?_
  rintro e w1 ⟨rfl, ⟨nd, rfl⟩⟩
  have HS1 := Aside0.mk (show base ≤ (w.drewN nd).heap.size from HS.out)
  have HB1 := Aside0.mk (pw_below_drewN HB.out nd)
  go_wp2_with (first | ((with_reducible refine gate_dst (N := 30) rfl ?_); refine Kd.R_make k26 (w0 := w0) base 26 rfl (N := 30) rfl 38 (.tmp 29) (.tmp 29) rfl n rfl rfl Try.underlying38 (.agg #[.int .i64 0, .int .u64 0, .int .u64 0, .bool false]) 32 info26 rfl (by decide) (by decide) z26 (okp := fun _ => False) (ok := fun k => w.heap.size ≤ k) (k26_mkM _ _ _ z26) (fun _ h => h.elim) (Nat.le_refl _) h0 HL.out HB1.out HS1.out ?_; intro v1 w2 ho hb hg hat; obtain ⟨A1, c1, rfl⟩ := Kd.R_slice ho; have HO2 := Aside0.mk ho; have HB2 := Aside0.mk hb; have HG2 := Aside0.mk hg; have HC2 := Aside0.mk (show Kd.C k26 w2 A 1 [x] from Kd.C_below (Kd.C_drewN HC.out nd) (below_of_grown hg)); clear ho hb hg hat) | ((with_reducible refine gate_builtin (b := .copy) (xs := #[.tmp 31, .tmp 32]) rfl ?_); refine wpList_copy_min (d := k26) flat_26 rfl (.tmp 31) (.tmp 32) 38 38 rfl Try.underlying38 (by kernel_rfl) A1 c1 (List.replicate n.toNat z26) [x] 0 A1 n.toNat c1 A 1 c (Nat.min 1 n.toNat) HO2.out rfl (at_zero _ _ _) (by simp) rfl HC2.out (Nat.zero_le _) (by simp) ?_; intro w3 hR3 hG3; rw [rep_first] at hR3; have HO3 := Aside0.mk hR3; have HB3 := Aside0.mk (HB2.out.grown hG3 (Nat.le_trans HS1.out HG2.out.size) (Kd.R_base HO2.out)); have HK3 := Aside0.mk (show Kept w w3 (fun _ => False) from ⟨Nat.le_trans HG2.out.size hG3.size, fun i hi _ => (hG3.block i (Nat.lt_of_lt_of_le hi HG2.out.size) (fun e => by have := HO2.out.1 i e.symm; omega)).trans (HG2.out.block i hi (by simp))⟩); clear hR3 hG3))
  have hN : n = n.toNat := by omega
  generalize hNN : n.toNat = N at *
  subst hN
  obtain ⟨k1, hk1⟩ : ∃ k1, k1 = Nat.min 1 N := ⟨_, rfl⟩
  go_loopw [8] (fun i wr => ∃ k : Nat, i = .int .i64 k ∧ k ≤ N ∧ (0 < N → 0 < k) ∧ Aside0 (Kd.R k26 26 wr base (fun k => w.heap.size ≤ k) (.slice A1 N c1) (List.replicate k x ++ List.replicate (N - k) z26)) ∧ Aside0 (Below base w0 wr) ∧ Aside0 (Kept w wr (fun _ => False)))
    (fun i _ => N - (intOf i).toNat)
  case atStart => exact ⟨_, rfl, Nat.min_le_right _ _, fun h => Nat.lt_min.mpr ⟨by omega, h⟩, ⟨by have h3 := HO3.out; rw [List.length_replicate] at h3; exact h3⟩, ⟨HB3.out⟩, ⟨HK3.out⟩⟩
  case round =>
    obtain ⟨k, rfl, hk, hkp, HOr, HBr, HKr⟩ := hrel
    by_cases hkn : k < N
    · have hkp := hkp (by omega)
      have hLN : (List.replicate k x ++ List.replicate (N - k) z26).length = N := by rw [List.length_append, List.length_replicate, List.length_replicate]; omega
      have HOl := Aside0.mk (show Kd.R k26 26 wr base (fun k => w.heap.size ≤ k) (.slice A1 (List.replicate k x ++ List.replicate (N - k) z26).length c1) _ by rw [hLN]; exact HOr.out)
      obtain ⟨i0, hi, _, hsz, _⟩ := info_parts info26
      have hNc : N ≤ c1 := by have h3 := (Kd.R_reads' HOl.out).2.1; rw [hLN] at h3; exact h3
      have hcA := cut_from (P := Try.prog) 38 26 .i64 Try.underlying38 hi 4 hsz A1 N c1 (k : Int) (by omega) (by omega)
      have hcB := cut_to (P := Try.prog) 38 26 .i64 Try.underlying38 hi A1 N c1 (k : Int) (by omega) (by omega) hNc
      rw [Int.toNat_natCast] at hcA hcB
      generalize hA7 : (if c1 = k then A1 else Option.map (fun y => y.add (k * 4)) A1) = A7 at hcA
      obtain ⟨j, hj⟩ : ∃ j, j = Nat.min k (N - k) := ⟨_, rfl⟩
      have hjk : j ≤ N - k := by rw [hj]; exact Nat.min_le_right _ _
      have hj0 : 0 < j := by rw [hj]; exact Nat.lt_min.mpr ⟨hkp, by omega⟩
      have hwr : IntKind.i64.wrap ((k : Int) + j) = k + j := by unfold IntKind.wrap; simp [IntKind.signed, IntKind.bits]; omega
      have HA7 := Aside0.mk hA7
      have HJ := Aside0.mk hj
      have HLN := Aside0.mk hLN
      have HCt := Aside0.mk (Kd.C_take (m := k) (Kd.R_reads' HOl.out).2.2 (by omega))
      have HTL := Aside0.mk (show ((List.replicate k x ++ List.replicate (N - k) z26).take k).length = k by rw [List.length_take, hLN]; omega)
      clear hA7 hj hLN hi hsz
      go_wp2_with (fail)
      refine start_ (n := 10) (S := fun w' => True) (ds := []) #[false, false, false, false, false, false, false, false, false, false] (by kernel_rfl) rfl rfl trivial (fun hHeld => ?_)
      refine pure_ (i := 0) (N := some 38) (v := ?_) (a' := ?_) #[true, false, false, false, false, false, false, false, false, false] rfl rfl (by kernel_rfl) (fun _ _ _ h => h) (Or.inl ⟨by rfl, ?_⟩) ?_ ?_
      rotate_left
      · intro w'
        go_simp
        with_reducible rfl
      rotate_left
      · simp only [Act.put, List.setIfInBounds_toArray, List.set_cons_zero, List.set_cons_succ, i64_w, i32_w]
        rfl
      refine pure_ (i := 1) (N := some 39) (v := ?_) (a' := ?_) #[true, true, false, false, false, false, false, false, false, false] rfl rfl (by kernel_rfl) (fun _ _ _ h => h) (Or.inl ⟨by rfl, ?_⟩) ?_ ?_
      rotate_left
      · intro w'
        go_simp
        with_reducible rfl
      rotate_left
      · simp only [Act.put, List.setIfInBounds_toArray, List.set_cons_zero, List.set_cons_succ, i64_w, i32_w]
        rfl
      refine pure_ (i := 2) (N := some 40) (v := ?_) (a' := ?_) #[true, true, true, false, false, false, false, false, false, false] rfl rfl (by kernel_rfl) (fun _ _ _ h => h) (Or.inl ⟨by rfl, ?_⟩) ?_ ?_
      rotate_left
      · intro w'
        go_simp
        with_reducible rfl
      rotate_left
      · simp only [Act.put, List.setIfInBounds_toArray, List.set_cons_zero, List.set_cons_succ, i64_w, i32_w]
        rfl
      refine pure_ (i := 3) (N := some 41) (v := ?_) (a' := ?_) #[true, true, true, true, false, false, false, false, false, false] rfl rfl (by kernel_rfl) (fun _ _ _ h => h) (Or.inl ⟨by rfl, ?_⟩) ?_ ?_
      rotate_left
      · intro w'
        go_simp
        with_reducible rfl
      rotate_left
      · simp only [Act.put, List.setIfInBounds_toArray, List.set_cons_zero, List.set_cons_succ, i64_w, i32_w]
        rfl
      refine pure_ (i := 4) (N := some 42) (v := ?_) (a' := ?_) #[true, true, true, true, true, false, false, false, false, false] rfl rfl (by kernel_rfl) (fun _ _ _ h => h) (Or.inl ⟨by rfl, ?_⟩) ?_ ?_
      rotate_left
      · intro w'
        go_simp
        with_reducible rfl
      rotate_left
      · simp only [Act.put, List.setIfInBounds_toArray, List.set_cons_zero, List.set_cons_succ, i64_w, i32_w]
        rfl
      refine pure_ (i := 5) (N := some 43) (v := ?_) (a' := ?_) #[true, true, true, true, true, true, false, false, false, false] rfl rfl (by kernel_rfl) (fun _ _ _ h => h) (Or.inl ⟨by rfl, ?_⟩) ?_ ?_
      rotate_left
      · intro w'
        go_simp
        with_reducible rfl
      rotate_left
      · simp only [Act.put, List.setIfInBounds_toArray, List.set_cons_zero, List.set_cons_succ, i64_w, i32_w]
        rfl
      refine pure_ (i := 6) (N := some 44) (v := ?_) (a' := ?_) #[true, true, true, true, true, true, true, false, false, false] rfl rfl (by kernel_rfl) (fun _ _ _ h => h) (Or.inl ⟨by rfl, ?_⟩) ?_ ?_
      rotate_left
      · intro w'
        go_simp
        with_reducible rfl
      rotate_left
      · simp only [Act.put, List.setIfInBounds_toArray, List.set_cons_zero, List.set_cons_succ, i64_w, i32_w]
        rfl
      refine one_ (i := 7) (N := some 45) #[true, true, true, true, true, true, true, true, false, false] rfl rfl (by kernel_rfl) (by decide) (fun K hK => ?_)
      refine copy_min_step (d := k26) flat_26 (by rfl) (.tmp 41) (.tmp 44) 38 38 rfl Try.underlying38 (by kernel_rfl) A1 c1 (List.replicate k x ++ List.replicate (N - k) z26) ((List.replicate k x ++ List.replicate (N - k) z26).take k) k A7 (N - k) (c1 - k) A1 k c1 j (Kd.R_drew HOl.out) rfl HA7.out.symm (by rw [HLN.out]) rfl (by have h3 := Kd.C_drew HCt.out; rw [HTL.out] at h3; exact h3) (by rw [HLN.out]; exact hk) (by rw [HLN.out]; exact HJ.out) ?_
      intro w3 hR3 hG3
      rw [rep_more x z26 N k j hk HJ.out, HLN.out] at hR3
      have HR3 := Aside0.mk hR3
      have HG3 := Aside0.mk hG3
      clear hR3 hG3
      refine hK.out _ _ trivial (fun hHeld => ?_)
      clear hK K
      refine norm_ (a' := ?_) ?_ ?_
      rotate_left
      · show Act.put _ (some 45) _ = _
        simp only [Act.put, List.setIfInBounds_toArray, List.set_cons_zero, List.set_cons_succ, i64_w, i32_w]
        rfl
      refine pure_ (i := 8) (N := some 46) (v := ?_) (a' := ?_) #[true, true, true, true, true, true, true, true, true, false] rfl rfl (by kernel_rfl) (fun _ _ _ h => h) (Or.inl ⟨by rfl, ?_⟩) ?_ ?_
      rotate_left
      · intro w'
        go_simp
        with_reducible rfl
      rotate_left
      · simp only [Act.put, List.setIfInBounds_toArray, List.set_cons_zero, List.set_cons_succ, i64_w, i32_w]
        rfl
      refine pure_ (i := 9) (N := some 8) (v := ?_) (a' := ?_) #[true, true, true, true, true, true, true, true, true, true] rfl rfl (by kernel_rfl) (fun _ _ _ h => h) (Or.inl ⟨by rfl, ?_⟩) ?_ ?_
      rotate_left
      · intro w'
        go_simp
        with_reducible rfl
      rotate_left
      · simp only [Act.put, List.setIfInBounds_toArray, List.set_cons_zero, List.set_cons_succ, i64_w, i32_w]
        rfl
      refine done_ (by kernel_rfl) ?_
      go_wp2_with (fail)
      exact ⟨⟨k + j, by go_num, by omega, fun _ => by omega, ⟨HR3.out⟩, ⟨(below_drew1 HBr.out).grown HG3.out (Nat.le_trans HS.out HKr.out.1) (Kd.R_base HOl.out)⟩, ⟨(Kept.drew HKr.out).then_ (S2 := fun k => w.heap.size ≤ k) ⟨HG3.out.size, fun i hi hS => HG3.out.block i hi (fun e => hS (HOl.out.1 i e.symm))⟩ (fun _ h => .inr h)⟩⟩, by simp [intOf]; omega⟩
    · have hkk : k = N := by omega
      subst hkk
      go_wp2_with (fail)
      go_ret
      exact ⟨_, rfl, by have h3 := HOr.out; rw [Nat.sub_self, List.replicate_zero, List.append_nil] at h3; rw [Int.toNat_natCast]; exact h3, HBr.out, HKr.out⟩
end Go.Proofs.Ytjpbmmncakcbhaa.PA
