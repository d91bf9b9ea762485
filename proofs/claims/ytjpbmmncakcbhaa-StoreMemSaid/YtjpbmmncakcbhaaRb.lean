/- The reference's Bytes and Vals walked, where the rows are only read; no condition but on how long they are. -/
import Derived.Test.YtjpbmmncakcbhaaPm
namespace Go.Proofs.Ytjpbmmncakcbhaa.PA
open Go.RowKit Go.Proofs.YtjpbmmncakcbhaaW.PrintWords Go.Proofs.YtjpbmmncakcbhaaW.PrintLast Go.Proofs.YtjpbmmncakcbhaaW.PrintMore
set_option linter.unusedVariables false
set_option linter.unusedSimpArgs false

set_option maxHeartbeats 16000000 in
set_option maxRecDepth 100000 in
/-- Bytes: both rows are only read; what comes back is the first itself, or new. -/
theorem refBytes.calls (A : Option Addr) (c : Nat) (L : List Int) (dt fr n : Int) (A4 : Option Addr) (c4 : Nat) (b : List Int) (w : World) (h0 : 0 ≤ dt) (h1 : 0 ≤ fr) (h2 : 0 ≤ n)
    (hL : Kd.C (Kd.int .u8) w A L.length L) (hc : L.length ≤ c) (hb : Kd.C (Kd.int .u8) w A4 b.length b) (hc4 : b.length ≤ c4) (hLb : L.length ≤ 1073741824) (hbb : b.length ≤ 1073741824) :
    Calls Try.prog 15 #[.slice A L.length c, .int .u64 dt, .int .u64 fr, .int .u64 n, .slice A4 b.length c4] w fun e w' => ∃ v, e = .returned (.tuple #[v, .int .i64 (mem_Init L dt fr n b).2]) ∧ Below w.heap.size w w' ∧
      ((v = .slice A L.length c ∧ (mem_Init L dt fr n b).1 = L) ∨ Kd.R (Kd.int .u8) 5 w' w.heap.size (fun _ => True) v (mem_Init L dt fr n b).1) := by
  have HL := Aside0.mk hL
  have HBb := Aside0.mk hb
  have E1 := Aside0.mk (refIn_is fr n b.length h1 h2 (by omega))
  have E2 := Aside0.mk (refIn_is dt n L.length h0 h2 (by omega))
  clear hL hb
  by_cases k1 : fr + n ≤ b.length
  · by_cases k2 : dt + n ≤ L.length
    · have eI : mem_Init L dt fr n b = (L.take dt.toNat ++ ((b.take (fr + n).toNat).drop fr.toNat ++ L.drop (dt + n).toNat), 0) := by unfold mem_Init; rw [if_pos ⟨k1, k2⟩]
      rw [eI]
      rw [decide_eq_true k1] at E1
      rw [decide_eq_true k2] at E2
      clear eI
      obtain ⟨i0, hi, _, hsz, _⟩ := info_parts info5
      have hcA := cut_to (P := Try.prog) 29 5 .u64 Try.underlying29 hi A L.length c dt h0 (by omega) hc
      have hcB := cut_mid (P := Try.prog) 29 5 .u64 .u64 Try.underlying29 hi 1 hsz A4 b.length c4 fr (fr + n) h1 (by omega) (by omega) hc4
      have hcC := cut_from (P := Try.prog) 29 5 .u64 Try.underlying29 hi 1 hsz A L.length c (dt + n) (by omega) (by omega)
      generalize hA7 : (if c4 = fr.toNat then A4 else Option.map (fun x => x.add (fr.toNat * 1)) A4) = A7 at hcB
      generalize hA8 : (if c = (dt + n).toNat then A else Option.map (fun x => x.add ((dt + n).toNat * 1)) A) = A8 at hcC
      obtain ⟨X1, hX1⟩ : ∃ X, X = L.take dt.toNat := ⟨_, rfl⟩
      obtain ⟨X2, hX2⟩ : ∃ X, X = (b.take (fr + n).toNat).drop fr.toNat := ⟨_, rfl⟩
      obtain ⟨X3, hX3⟩ : ∃ X, X = L.drop (dt + n).toNat := ⟨_, rfl⟩
      rw [← hX1, ← hX2, ← hX3]
      have n1 : X1.length = dt.toNat := by rw [hX1, List.length_take]; omega
      have n2 : X2.length = (fr + n).toNat - fr.toNat := by rw [hX2, List.length_drop, List.length_take]; omega
      have n3 : X3.length = L.length - (dt + n).toNat := by rw [hX3, List.length_drop]
      have HC1 := Aside0.mk (show ∀ W, Below w.heap.size w W → Kd.C (Kd.int .u8) W A dt.toNat X1 from fun W hW => by
        have h := Kd.C_take (m := dt.toNat) (Kd.C_below HL.out hW) (by omega)
        rw [← hX1, n1] at h
        exact h)
      have HC2 := Aside0.mk (show ∀ W, Below w.heap.size w W → Kd.C (Kd.int .u8) W A7 ((fr + n).toNat - fr.toNat) X2 from fun W hW => by
        have h := Kd.C_mid (lo := fr.toNat) (hi := (fr + n).toNat) (c := c4) (Kd.C_below HBb.out hW) (by omega) (by omega) hc4
        rw [← hX2, n2] at h
        exact hA7 ▸ h)
      have HC3 := Aside0.mk (show ∀ W, Below w.heap.size w W → Kd.C (Kd.int .u8) W A8 (L.length - (dt + n).toNat) X3 from fun W hW => by
        have h := Kd.C_drop (m := (dt + n).toNat) (c := c) (Kd.C_below HL.out hW) (by omega) hc
        rw [← hX3, n3] at h
        exact hA8 ▸ h)
      have HN1 := Aside0.mk n1
      have HN2 := Aside0.mk n2
      have HN3 := Aside0.mk n3
      have hwr1 : IntKind.u64.wrap (dt + n) = dt + n := u64w (by omega) (by omega)
      have hwr2 : IntKind.u64.wrap (fr + n) = fr + n := u64w (by omega) (by omega)
      have hB1 : (([] : List Int).length + dt.toNat) * 1 ≤ 140737488355328 := by simp; omega
      have hB2 : (X1.length + ((fr + n).toNat - fr.toNat)) * 1 ≤ 140737488355328 := by rw [n1]; omega
      have hB3 : ((X1 ++ X2).length + (L.length - (dt + n).toNat)) * 1 ≤ 140737488355328 := by rw [List.length_append, n1, n2]; omega
      have HB1 := Aside0.mk hB1
      have HB2 := Aside0.mk hB2
      have HB3 := Aside0.mk hB3
      clear hX1 hX2 hX3 n1 n2 n3 hi hsz hA7 hA8 hB1 hB2 hB3
      go_enter Try.func15, Try.ntmps15
      go_wp2_with (fail)
      refine (bodkinref13_In.calls fr n b.length true w E1.out).mono ?_
      rintro e w1 ⟨rfl, ⟨nd, rfl⟩⟩
      go_wp2_with (fail)
      refine (bodkinref13_In.calls dt n L.length true _ E2.out).mono ?_
      rintro e w1 ⟨rfl, ⟨nd2, rfl⟩⟩
      have HW1 := Aside0.mk (show Below w.heap.size w (w.drewN (nd + nd2)) from pw_below_drewN (Below.refl _ _) _)
      go_wp2_with (first | ((with_reducible refine gate_builtin (b := .append) (xs := #[.tmp 32, .tmp 35]) rfl ?_); at_builtin; refine Kd.R_append_rows (Kd.int .u8) (w0 := w) w.heap.size rfl (.tmp 32) (.tmp 35) 29 5 (.int .u8 0) 1 rfl Try.underlying29 info5 rfl (by decide) (by omega) (.slice none 0 0) ([] : List Int) X1 A dt.toNat c (fun _ => True) (fun _ => False) rfl rfl (Kd.R_nil _ _ _ _ _) (HC1.out _ HW1.out) (fun _ _ h => flat_u8.km h) (fun _ h => h.elim) (fun _ _ => trivial) HW1.out HW1.out.size HB1.out ?_; intro v2 w2 ho hb hg hat; rw [List.nil_append] at ho; obtain ⟨Av, cv, rfl⟩ := Kd.R_slice ho; have HO2 := Aside0.mk ho; have HW2 := Aside0.mk hb; clear ho hb hg hat) | ((with_reducible refine gate_builtin (b := .append) (xs := #[.tmp 37, .tmp 43]) rfl ?_); at_builtin; refine Kd.R_append_rows (Kd.int .u8) (w0 := w) w.heap.size rfl (.tmp 37) (.tmp 43) 29 5 (.int .u8 0) 1 rfl Try.underlying29 info5 rfl (by decide) (by omega) (.slice Av X1.length cv) X1 X2 A7 ((fr + n).toNat - fr.toNat) (c4 - fr.toNat) (fun _ => True) (fun _ => False) rfl rfl HO2.out (HC2.out _ HW2.out) (fun _ _ h => flat_u8.km h) (fun _ h => h.elim) (fun _ _ => trivial) HW2.out HW2.out.size HB2.out ?_; intro v3 w3 ho hb hg hat; obtain ⟨Au, cu, rfl⟩ := Kd.R_slice ho; have HO3 := Aside0.mk ho; have HW3 := Aside0.mk hb; clear ho hb hg hat) | ((with_reducible refine gate_builtin (b := .append) (xs := #[.tmp 45, .tmp 50]) rfl ?_); at_builtin; refine Kd.R_append_rows (Kd.int .u8) (w0 := w) w.heap.size rfl (.tmp 45) (.tmp 50) 29 5 (.int .u8 0) 1 rfl Try.underlying29 info5 rfl (by decide) (by omega) (.slice Au (X1 ++ X2).length cu) (X1 ++ X2) X3 A8 (L.length - (dt + n).toNat) (c - (dt + n).toNat) (fun _ => True) (fun _ => False) (by first | rfl | (simp only [List.length_append]; rfl)) rfl HO3.out (HC3.out _ HW3.out) (fun _ _ h => flat_u8.km h) (fun _ h => h.elim) (fun _ _ => trivial) HW3.out HW3.out.size HB3.out ?_; intro v4 w4 ho hb hg hat; have HO4 := Aside0.mk ho; have HW4 := Aside0.mk hb; clear ho hb hg hat))
      go_ret2
      exact ⟨_, rfl, HW4.out, .inr (by rw [← List.append_assoc]; exact HO4.out)⟩
    · have eI : mem_Init L dt fr n b = (L, 44) := by unfold mem_Init; rw [if_neg]; omega
      rw [eI]
      rw [decide_eq_true k1] at E1
      rw [decide_eq_false k2] at E2
      clear eI
      go_enter Try.func15, Try.ntmps15
      go_wp2_with (fail)
      refine (bodkinref13_In.calls fr n b.length true w E1.out).mono ?_
      rintro e w1 ⟨rfl, ⟨nd, rfl⟩⟩
      go_wp2_with (fail)
      refine (bodkinref13_In.calls dt n L.length false _ E2.out).mono ?_
      rintro e w1 ⟨rfl, ⟨nd2, rfl⟩⟩
      go_wp2_with (fail)
      go_ret2
      exact ⟨_, rfl, pw_below_drewN (Below.refl _ _) _, .inl ⟨rfl, by first | rfl | trivial⟩⟩
  · have eI : mem_Init L dt fr n b = (L, 44) := by unfold mem_Init; rw [if_neg]; omega
    rw [eI]
    rw [decide_eq_false k1] at E1
    clear eI
    go_enter Try.func15, Try.ntmps15
    go_wp2_with (fail)
    refine (bodkinref13_In.calls fr n b.length false w E1.out).mono ?_
    rintro e w1 ⟨rfl, ⟨nd, rfl⟩⟩
    by_cases k2 : dt + n ≤ L.length
    · rw [decide_eq_true k2] at E2
      go_wp2_with (fail)
      refine (bodkinref13_In.calls dt n L.length true _ E2.out).mono ?_
      rintro e w1 ⟨rfl, ⟨nd2, rfl⟩⟩
      go_wp2_with (fail)
      go_ret2
      exact ⟨_, rfl, pw_below_drewN (Below.refl _ _) _, .inl ⟨rfl, by first | rfl | trivial⟩⟩
    · rw [decide_eq_false k2] at E2
      go_wp2_with (fail)
      refine (bodkinref13_In.calls dt n L.length false _ E2.out).mono ?_
      rintro e w1 ⟨rfl, ⟨nd2, rfl⟩⟩
      go_wp2_with (fail)
      go_ret2
      exact ⟨_, rfl, pw_below_drewN (Below.refl _ _) _, .inl ⟨rfl, by first | rfl | trivial⟩⟩

set_option maxHeartbeats 16000000 in
set_option maxRecDepth 100000 in
/-- Vals: both rows are only read; what comes back is the first itself, or new. -/
theorem refVals.calls (A : Option Addr) (c : Nat) (L : List S26) (dt fr n : Int) (A4 : Option Addr) (c4 : Nat) (b : List S26) (w : World) (h0 : 0 ≤ dt) (h1 : 0 ≤ fr) (h2 : 0 ≤ n)
    (hL : Kd.C k26 w A L.length L) (hc : L.length ≤ c) (hb : Kd.C k26 w A4 b.length b) (hc4 : b.length ≤ c4) (hLb : L.length ≤ 1073741824) (hbb : b.length ≤ 1073741824) :
    Calls Try.prog 23 #[.slice A L.length c, .int .u64 dt, .int .u64 fr, .int .u64 n, .slice A4 b.length c4] w fun e w' => ∃ v, e = .returned (.tuple #[v, .int .i64 (tab_Init L dt fr n b).2]) ∧ Below w.heap.size w w' ∧
      ((v = .slice A L.length c ∧ (tab_Init L dt fr n b).1 = L) ∨ Kd.R k26 26 w' w.heap.size (fun _ => True) v (tab_Init L dt fr n b).1) := by
  have HL := Aside0.mk hL
  have HBb := Aside0.mk hb
  have E1 := Aside0.mk (refIn_is fr n b.length h1 h2 (by omega))
  have E2 := Aside0.mk (refIn_is dt n L.length h0 h2 (by omega))
  clear hL hb
  by_cases k1 : fr + n ≤ b.length
  · by_cases k2 : dt + n ≤ L.length
    · have eI : tab_Init L dt fr n b = (L.take dt.toNat ++ ((b.take (fr + n).toNat).drop fr.toNat ++ L.drop (dt + n).toNat), 0) := by unfold tab_Init; rw [if_pos ⟨k1, k2⟩]
      rw [eI]
      rw [decide_eq_true k1] at E1
      rw [decide_eq_true k2] at E2
      clear eI
      obtain ⟨i0, hi, _, hsz, _⟩ := info_parts info26
      have hcA := cut_to (P := Try.prog) 38 26 .u64 Try.underlying38 hi A L.length c dt h0 (by omega) hc
      have hcB := cut_mid (P := Try.prog) 38 26 .u64 .u64 Try.underlying38 hi 4 hsz A4 b.length c4 fr (fr + n) h1 (by omega) (by omega) hc4
      have hcC := cut_from (P := Try.prog) 38 26 .u64 Try.underlying38 hi 4 hsz A L.length c (dt + n) (by omega) (by omega)
      generalize hA7 : (if c4 = fr.toNat then A4 else Option.map (fun x => x.add (fr.toNat * 4)) A4) = A7 at hcB
      generalize hA8 : (if c = (dt + n).toNat then A else Option.map (fun x => x.add ((dt + n).toNat * 4)) A) = A8 at hcC
      obtain ⟨X1, hX1⟩ : ∃ X, X = L.take dt.toNat := ⟨_, rfl⟩
      obtain ⟨X2, hX2⟩ : ∃ X, X = (b.take (fr + n).toNat).drop fr.toNat := ⟨_, rfl⟩
      obtain ⟨X3, hX3⟩ : ∃ X, X = L.drop (dt + n).toNat := ⟨_, rfl⟩
      rw [← hX1, ← hX2, ← hX3]
      have n1 : X1.length = dt.toNat := by rw [hX1, List.length_take]; omega
      have n2 : X2.length = (fr + n).toNat - fr.toNat := by rw [hX2, List.length_drop, List.length_take]; omega
      have n3 : X3.length = L.length - (dt + n).toNat := by rw [hX3, List.length_drop]
      have HC1 := Aside0.mk (show ∀ W, Below w.heap.size w W → Kd.C k26 W A dt.toNat X1 from fun W hW => by
        have h := Kd.C_take (m := dt.toNat) (Kd.C_below HL.out hW) (by omega)
        rw [← hX1, n1] at h
        exact h)
      have HC2 := Aside0.mk (show ∀ W, Below w.heap.size w W → Kd.C k26 W A7 ((fr + n).toNat - fr.toNat) X2 from fun W hW => by
        have h := Kd.C_mid (lo := fr.toNat) (hi := (fr + n).toNat) (c := c4) (Kd.C_below HBb.out hW) (by omega) (by omega) hc4
        rw [← hX2, n2] at h
        exact hA7 ▸ h)
      have HC3 := Aside0.mk (show ∀ W, Below w.heap.size w W → Kd.C k26 W A8 (L.length - (dt + n).toNat) X3 from fun W hW => by
        have h := Kd.C_drop (m := (dt + n).toNat) (c := c) (Kd.C_below HL.out hW) (by omega) hc
        rw [← hX3, n3] at h
        exact hA8 ▸ h)
      have HN1 := Aside0.mk n1
      have HN2 := Aside0.mk n2
      have HN3 := Aside0.mk n3
      have hwr1 : IntKind.u64.wrap (dt + n) = dt + n := u64w (by omega) (by omega)
      have hwr2 : IntKind.u64.wrap (fr + n) = fr + n := u64w (by omega) (by omega)
      have hB1 : (([] : List S26).length + dt.toNat) * 32 ≤ 140737488355328 := by simp; omega
      have hB2 : (X1.length + ((fr + n).toNat - fr.toNat)) * 32 ≤ 140737488355328 := by rw [n1]; omega
      have hB3 : ((X1 ++ X2).length + (L.length - (dt + n).toNat)) * 32 ≤ 140737488355328 := by rw [List.length_append, n1, n2]; omega
      have HB1 := Aside0.mk hB1
      have HB2 := Aside0.mk hB2
      have HB3 := Aside0.mk hB3
      clear hX1 hX2 hX3 n1 n2 n3 hi hsz hA7 hA8 hB1 hB2 hB3
      go_enter Try.func23, Try.ntmps23
      go_wp2_with (fail)
      refine (bodkinref13_In.calls fr n b.length true w E1.out).mono ?_
      rintro e w1 ⟨rfl, ⟨nd, rfl⟩⟩
      go_wp2_with (fail)
      refine (bodkinref13_In.calls dt n L.length true _ E2.out).mono ?_
      rintro e w1 ⟨rfl, ⟨nd2, rfl⟩⟩
      have HW1 := Aside0.mk (show Below w.heap.size w (w.drewN (nd + nd2)) from pw_below_drewN (Below.refl _ _) _)
      go_wp2_with (first | ((with_reducible refine gate_builtin (b := .append) (xs := #[.tmp 32, .tmp 35]) rfl ?_); at_builtin; refine Kd.R_append_rows k26 (w0 := w) w.heap.size rfl (.tmp 32) (.tmp 35) 38 26 (.agg #[(.int .i64 0), (.int .u64 0), (.int .u64 0), (.bool false)]) 32 rfl Try.underlying38 info26 rfl (by decide) (by omega) (.slice none 0 0) ([] : List S26) X1 A dt.toNat c (fun _ => True) (fun _ => False) rfl rfl (Kd.R_nil _ _ _ _ _) (HC1.out _ HW1.out) (fun _ _ h => flat_26.km h) (fun _ h => h.elim) (fun _ _ => trivial) HW1.out HW1.out.size HB1.out ?_; intro v2 w2 ho hb hg hat; rw [List.nil_append] at ho; obtain ⟨Av, cv, rfl⟩ := Kd.R_slice ho; have HO2 := Aside0.mk ho; have HW2 := Aside0.mk hb; clear ho hb hg hat) | ((with_reducible refine gate_builtin (b := .append) (xs := #[.tmp 37, .tmp 43]) rfl ?_); at_builtin; refine Kd.R_append_rows k26 (w0 := w) w.heap.size rfl (.tmp 37) (.tmp 43) 38 26 (.agg #[(.int .i64 0), (.int .u64 0), (.int .u64 0), (.bool false)]) 32 rfl Try.underlying38 info26 rfl (by decide) (by omega) (.slice Av X1.length cv) X1 X2 A7 ((fr + n).toNat - fr.toNat) (c4 - fr.toNat) (fun _ => True) (fun _ => False) rfl rfl HO2.out (HC2.out _ HW2.out) (fun _ _ h => flat_26.km h) (fun _ h => h.elim) (fun _ _ => trivial) HW2.out HW2.out.size HB2.out ?_; intro v3 w3 ho hb hg hat; obtain ⟨Au, cu, rfl⟩ := Kd.R_slice ho; have HO3 := Aside0.mk ho; have HW3 := Aside0.mk hb; clear ho hb hg hat) | ((with_reducible refine gate_builtin (b := .append) (xs := #[.tmp 45, .tmp 50]) rfl ?_); at_builtin; refine Kd.R_append_rows k26 (w0 := w) w.heap.size rfl (.tmp 45) (.tmp 50) 38 26 (.agg #[(.int .i64 0), (.int .u64 0), (.int .u64 0), (.bool false)]) 32 rfl Try.underlying38 info26 rfl (by decide) (by omega) (.slice Au (X1 ++ X2).length cu) (X1 ++ X2) X3 A8 (L.length - (dt + n).toNat) (c - (dt + n).toNat) (fun _ => True) (fun _ => False) (by first | rfl | (simp only [List.length_append]; rfl)) rfl HO3.out (HC3.out _ HW3.out) (fun _ _ h => flat_26.km h) (fun _ h => h.elim) (fun _ _ => trivial) HW3.out HW3.out.size HB3.out ?_; intro v4 w4 ho hb hg hat; have HO4 := Aside0.mk ho; have HW4 := Aside0.mk hb; clear ho hb hg hat))
      go_ret2
      exact ⟨_, rfl, HW4.out, .inr (by rw [← List.append_assoc]; exact HO4.out)⟩
    · have eI : tab_Init L dt fr n b = (L, 45) := by unfold tab_Init; rw [if_neg]; omega
      rw [eI]
      rw [decide_eq_true k1] at E1
      rw [decide_eq_false k2] at E2
      clear eI
      go_enter Try.func23, Try.ntmps23
      go_wp2_with (fail)
      refine (bodkinref13_In.calls fr n b.length true w E1.out).mono ?_
      rintro e w1 ⟨rfl, ⟨nd, rfl⟩⟩
      go_wp2_with (fail)
      refine (bodkinref13_In.calls dt n L.length false _ E2.out).mono ?_
      rintro e w1 ⟨rfl, ⟨nd2, rfl⟩⟩
      go_wp2_with (fail)
      go_ret2
      exact ⟨_, rfl, pw_below_drewN (Below.refl _ _) _, .inl ⟨rfl, by first | rfl | trivial⟩⟩
  · have eI : tab_Init L dt fr n b = (L, 45) := by unfold tab_Init; rw [if_neg]; omega
    rw [eI]
    rw [decide_eq_false k1] at E1
    clear eI
    go_enter Try.func23, Try.ntmps23
    go_wp2_with (fail)
    refine (bodkinref13_In.calls fr n b.length false w E1.out).mono ?_
    rintro e w1 ⟨rfl, ⟨nd, rfl⟩⟩
    by_cases k2 : dt + n ≤ L.length
    · rw [decide_eq_true k2] at E2
      go_wp2_with (fail)
      refine (bodkinref13_In.calls dt n L.length true _ E2.out).mono ?_
      rintro e w1 ⟨rfl, ⟨nd2, rfl⟩⟩
      go_wp2_with (fail)
      go_ret2
      exact ⟨_, rfl, pw_below_drewN (Below.refl _ _) _, .inl ⟨rfl, by first | rfl | trivial⟩⟩
    · rw [decide_eq_false k2] at E2
      go_wp2_with (fail)
      refine (bodkinref13_In.calls dt n L.length false _ E2.out).mono ?_
      rintro e w1 ⟨rfl, ⟨nd2, rfl⟩⟩
      go_wp2_with (fail)
      go_ret2
      exact ⟨_, rfl, pw_below_drewN (Below.refl _ _) _, .inl ⟨rfl, by first | rfl | trivial⟩⟩
end Go.Proofs.Ytjpbmmncakcbhaa.PA
