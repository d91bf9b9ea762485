/- The law StoreBack walked: whatever the input, true. -/
import Derived.Test.YtjpbmmncakcbhaaAw
namespace Go.Proofs.Ytjpbmmncakcbhaa.PA
open Go.RowKit Go.Proofs.YtjpbmmncakcbhaaW.PrintWords Go.Proofs.YtjpbmmncakcbhaaW.PrintLast Go.Proofs.YtjpbmmncakcbhaaW.PrintMore
attribute [local go_sem] max2_int min2_int max_two min_two max_three min_three max_four min_four
set_option linter.unusedVariables false
set_option linter.unusedSimpArgs false

theorem bd_u64 {a : Int} (h : (Lit.int .u64 a).wf = true) : 0 ≤ a ∧ a < 18446744073709551616 := by
  have h1 : IntKind.u64.min ≤ a ∧ a ≤ IntKind.u64.max := by simpa [Lit.wf] using h
  have e1 : IntKind.u64.min = 0 := by decide
  have e2 : IntKind.u64.max = 18446744073709551615 := by decide
  omega
theorem bd_u8 {a : Int} (h : (Lit.int .u8 a).wf = true) : 0 ≤ a ∧ a < 256 := by
  have h1 : IntKind.u8.min ≤ a ∧ a ≤ IntKind.u8.max := by simpa [Lit.wf] using h
  have e1 : IntKind.u8.min = 0 := by decide
  have e2 : IntKind.u8.max = 255 := by decide
  omega
theorem bd_i64 {a : Int} (h : (Lit.int .i64 a).wf = true) : -9223372036854775808 ≤ a ∧ a < 9223372036854775808 := by
  have h1 : IntKind.i64.min ≤ a ∧ a ≤ IntKind.i64.max := by simpa [Lit.wf] using h
  have e1 : IntKind.i64.min = -9223372036854775808 := by decide
  have e2 : IntKind.i64.max = 9223372036854775807 := by decide
  omega
theorem bytesOf_str (xs : List Int) (h : ∀ x ∈ xs, 0 ≤ x ∧ x < 256) : bytesOf (strOfNums xs) = xs := by
  unfold bytesOf
  rw [strOfNums_data, List.map_map]
  induction xs with
  | nil => rfl
  | cons x t ih =>
    rw [List.map_cons, ih (fun y hy => h y (List.mem_cons_of_mem _ hy))]
    congr 1
    have hx := h x List.mem_cons_self
    simp only [Function.comp, UInt8.toNat_ofNat']
    omega
theorem str_extract (xs : List Int) (a b : Nat) : (strOfNums xs).extract a b = strOfNums ((xs.take b).drop a) := by
  apply ByteArray.ext
  rw [ByteArray.data_extract]
  unfold strOfNums
  simp [List.map_take, List.map_drop, List.drop_take]
theorem str_slice (xs : List Int) (a b : Int) (h0 : 0 ≤ a) (h1 : a ≤ b) (h2 : b ≤ xs.length) (W : World) :
    (Instr.slice 9 (.string (strOfNums xs)) (some (.int .u64 a)) (some (.int .u64 b)) none).run Try.prog W = .ok (.string (strOfNums ((xs.take b.toNat).drop a.toNat))) W := by
  rw [← str_extract]
  exact run_slice_string W 9 (strOfNums xs) .u64 .u64 a b Try.underlying9 h0 h1 (by rw [strOfNums_size]; exact h2)
theorem back_list (l : List Int) (dt fr n : Nat) (h1 : fr + n ≤ l.length) (h2 : dt + n ≤ l.length) :
    ((l.take dt ++ ((l.take (fr + n)).drop fr ++ l.drop (dt + n))).take (dt + n)).drop dt = (l.take (fr + n)).drop fr := by
  have e1 : (l.take dt).length = dt := by rw [List.length_take]; omega
  have e2 : ((l.take (fr + n)).drop fr).length = n := by rw [List.length_drop, List.length_take]; omega
  rw [List.drop_take, List.drop_left' e1]
  rw [show dt + n - dt = n by omega, List.take_left' e2]
theorem back_again (l : List Int) (dt n : Nat) (X : List Int) (hX : X.length = n) (h2 : dt + n ≤ l.length) :
    (l.take dt ++ (X ++ l.drop (dt + n))).take dt ++ (((l.take (dt + n)).drop dt) ++ (l.take dt ++ (X ++ l.drop (dt + n))).drop (dt + n)) = l := by
  have e1 : (l.take dt).length = dt := by rw [List.length_take]; omega
  rw [List.take_left' e1]
  have e3 : (l.take dt ++ (X ++ l.drop (dt + n))).drop (dt + n) = l.drop (dt + n) := by
    rw [← List.append_assoc, List.drop_left' (by rw [List.length_append, e1, hX])]
  rw [e3]
  have e4 : (l.take (dt + n)).drop dt = (l.drop dt).take n := by rw [List.drop_take]; congr 1; omega
  rw [e4, ← List.drop_drop, List.take_append_drop, List.take_append_drop]

set_option maxHeartbeats 16000000 in
set_option maxRecDepth 100000 in
theorem StoreBack.walk (A0 : Option Addr) (c0 : Nat) (l : List Int) (dt fr n : Int) (w : World) (hC : Kd.C (Kd.int .u8) w A0 l.length l) (hc : l.length ≤ c0) (hwf : ∀ x ∈ l, (Lit.int .u8 x).wf = true) (hl : l.length ≤ 140737488351232)
    (w1 : (Lit.int .u64 dt).wf = true) (w2 : (Lit.int .u64 fr).wf = true) (w3 : (Lit.int .u64 n).wf = true) :
    Calls Try.prog 5 #[.slice A0 l.length c0, .int .u64 dt, .int .u64 fr, .int .u64 n] w fun e w' => e = .returned (.bool true) ∧ Below w.heap.size w w' := by
  have HC := Aside0.mk hC
  have b1 : 0 ≤ dt ∧ dt < 18446744073709551616 := bd_u64 w1
  have b2 : 0 ≤ fr ∧ fr < 18446744073709551616 := bd_u64 w2
  have b3 : 0 ≤ n ∧ n < 18446744073709551616 := bd_u64 w3
  have HW := Aside0.mk (show ∀ x ∈ l, 0 ≤ x ∧ x < 256 from fun x hx => bd_u8 (hwf x hx))
  clear hwf w1 w2 w3 hC
  obtain ⟨b11, b12⟩ := b1
  obtain ⟨b21, b22⟩ := b2
  obtain ⟨b31, b32⟩ := b3
  go_enter Try.func5, Try.ntmps5
  go_wp2_with (fail)
  refine (awake.calls w).mono ?_
  rintro e w1 ⟨rfl, q1⟩
  have HB1 := Aside0.mk q1
  have HC1 := Aside0.mk (Kd.C_below HC.out q1)
  clear q1
  by_cases hlen : l.length > 2000
  · go_wp2_with (fail)
    go_ret
    exact ⟨rfl, HB1.out⟩
  · have HLL := Aside0.mk (show (([] : List Int).length + l.length) * 1 ≤ 140737488355328 by simp; omega)
    go_wp2_with (first | ((with_reducible refine gate_builtin (b := .append) (xs := #[.tmp 21, .tmp 22]) rfl ?_); at_builtin; refine Kd.R_append_rows (Kd.int .u8) (w0 := w) w.heap.size rfl (.tmp 21) (.tmp 22) 29 5 (.int .u8 0) 1 rfl Try.underlying29 info5 rfl (by decide) (by omega) (.slice none 0 0) ([] : List Int) l A0 l.length c0 (fun _ => True) (fun _ => False) rfl rfl (Kd.R_nil _ _ _ _ _) HC1.out (fun _ _ h => h) (fun _ h => h.elim) (fun _ _ => trivial) HB1.out HB1.out.size HLL.out ?_; intro v1 w2 ho hb hg hat; rw [List.nil_append] at ho; obtain ⟨A1, c1, rfl⟩ := Kd.R_slice ho; have HM := Aside0.mk (MemAt.box (x0 := 0) (x1 := 0) (x2 := false) hb hb.size ho); have HC2 := Aside0.mk (Kd.C_alloc (Kd.C_below HC1.out (show Below w1.heap.size w1 w2 from ⟨hg.os, hg.tape, hg.output, hg.size, fun k hk => hg.block k hk (by simp [Value.ownBlock])⟩)) (.cells #[.int .i64 0, .int .i64 0, .bool false, .slice A1 l.length c1] 31 (0, 0))); have hcv := Kd.C_string (P := Try.prog) (dst := 9) (c := c0) Try.underlying29 Try.underlying5 Try.underlying9 HC2.out; clear ho hb hg hat) | fail)
    clear hcv
    generalize hw3 : w2.alloc _ = w3 at HM HC2 ⊢
    generalize hg : w2.heap.size = g at HM ⊢
    clear hw3 hg
    generalize hs : strOfNums l = s
    have HS := Aside0.mk hs
    clear hs
    refine (mem_Copy.calls w.heap.size g 0 0 false (.slice A1 l.length c1) l dt fr n w w3 b11 b21 b31 HM.out.2 HM.out.1).mono ?_
    rintro e w4 ⟨rfl, q1, q2, q3⟩
    have HB4 := Aside0.mk q2
    by_cases hin : fr + n ≤ l.length ∧ dt + n ≤ l.length
    · obtain ⟨hi1, hi2⟩ := hin
      have eI : mem_Init l dt fr n l = (l.take dt.toNat ++ ((l.take (fr + n).toNat).drop fr.toNat ++ l.drop (dt + n).toNat), 0) := by unfold mem_Init; rw [if_pos ⟨hi1, hi2⟩]
      rw [eI] at q1 ⊢
      have HM4 := Aside0.mk q1
      clear q1 q2 q3 eI
      obtain ⟨X, hX⟩ : ∃ X, X = (l.take (fr + n).toNat).drop fr.toNat := ⟨_, rfl⟩
      obtain ⟨L, hL⟩ : ∃ L, L = l.take dt.toNat ++ (X ++ l.drop (dt + n).toNat) := ⟨_, rfl⟩
      obtain ⟨Y, hY⟩ : ∃ Y, Y = (l.take (dt + n).toNat).drop dt.toNat := ⟨_, rfl⟩
      rw [← hX, ← hL] at HM4
      have hXn : X.length = n.toNat := by rw [hX, List.length_drop, List.length_take]; omega
      have hYn : Y.length = n.toNat := by rw [hY, List.length_drop, List.length_take]; omega
      have hLn : L.length = l.length := by rw [hL]; simp only [List.length_append, List.length_take, List.length_drop, hXn]; omega
      have eX : (L.take (dt + n).toNat).drop dt.toNat = X := by
        have := back_list l dt.toNat fr.toNat n.toNat (by omega) (by omega)
        rw [hL, hX, show (dt + n).toNat = dt.toNat + n.toNat by omega, show (fr + n).toNat = fr.toNat + n.toNat by omega]
        exact this
      have eZ : mem_Init L dt 0 Y.length Y = (l, 0) := by
        unfold mem_Init
        rw [if_pos ⟨by omega, by omega⟩]
        have := back_again l dt.toNat n.toNat X hXn (by omega)
        rw [show ((0 : Int) + Y.length).toNat = Y.length by omega, List.take_length, show (0 : Int).toNat = 0 from rfl, List.drop_zero, show (dt + (Y.length : Int)).toNat = dt.toNat + n.toNat by omega, hL, show (dt + n).toNat = dt.toNat + n.toNat by omega]
        rw [hY, show (dt + n).toNat = dt.toNat + n.toNat by omega]
        rw [this]
      have HYb := Aside0.mk (show ∀ x ∈ Y, 0 ≤ x ∧ x < 256 from fun x hx => HW.out x (by rw [hY] at hx; exact List.mem_of_mem_take (List.mem_of_mem_drop hx)))
      have HZ := Aside0.mk eZ
      have hss := str_slice l fr (fr + n) b21 (by omega) (by omega)
      have hst := str_slice l dt (dt + n) b11 (by omega) (by omega)
      rw [HS.out, ← hX] at hss
      rw [HS.out, ← hY] at hst
      obtain ⟨i0, hi, _, hsz, _⟩ := info_parts info5
      have hc1 : l.length ≤ c1 := by have h3 := (Kd.R_reads' HM4.out.row).2.1; exact h3
      have hcB := cut_mid (P := Try.prog) 29 5 .u64 .u64 Try.underlying29 hi 1 hsz A1 l.length c1 dt (dt + n) b11 (by omega) (by omega) hc1
      generalize hA7 : (if c1 = dt.toNat then A1 else Option.map (fun x => x.add (dt.toNat * 1)) A1) = A7 at hcB
      have hC4 : Kd.C (Kd.int .u8) w4 A1 L.length L := (Kd.R_reads' HM4.out.row).2.2
      have hCm := Kd.C_mid (lo := dt.toNat) (hi := (dt + n).toNat) (c := c1) hC4 (by omega) (by omega) (by omega)
      clear hC4
      rw [eX] at hCm
      replace hCm : Kd.C (Kd.int .u8) w4 A7 X.length X := hA7 ▸ hCm
      rw [show X.length = (dt + n).toNat - dt.toNat by omega] at hCm
      have hcv := Kd.C_string (P := Try.prog) (dst := 9) (c := c1 - dt.toNat) Try.underlying29 Try.underlying5 Try.underlying9 (Kd.C_drew hCm)
      have hwr1 : IntKind.u64.wrap (dt + n) = dt + n := u64w (by omega) (by omega)
      have hwr2 : IntKind.u64.wrap (fr + n) = fr + n := u64w (by omega) (by omega)
      have HYn := Aside0.mk hYn
      clear hL hY hX eX eZ hXn hYn hLn hCm hi hsz hA7 hc1
      generalize hsx : strOfNums X = sx at hss hcv
      generalize hsy : strOfNums Y = sy at hst
      have HSY := Aside0.mk hsy
      clear hsy hsx
      have HCV := Aside0.mk hcv
      clear hcv
      go_wp2_with (fail)
      refine start_ (n := 17) (S := fun w' => w'.cell? ⟨g, 3, none⟩ = some (.slice A1 l.length c1) ∧ (convert 29 9 (.slice A7 ((dt + n).toNat - dt.toNat) (c1 - dt.toNat))).run Try.prog w' = .ok (.string sx) w' ∧ w' = w4.drew) (ds := []) #[false, false, false, false, false, false, false, false, false, false, false, false, false, false, false, false, false] (by kernel_rfl) rfl rfl ⟨((blk_cell HM4.out.at_ 3).trans rfl), HCV.out, rfl⟩ (fun hHeld => ?_)
      refine pure_ (i := 0) (N := some 47) (v := ?_) (a' := ?_) #[true, false, false, false, false, false, false, false, false, false, false, false, false, false, false, false, false] rfl rfl (by kernel_rfl) (fun _ _ _ h => h) (Or.inl ⟨by rfl, ?_⟩) ?_ ?_
      rotate_left
      · intro w'
        go_simp
        with_reducible rfl
      rotate_left
      · simp only [Act.put, List.setIfInBounds_toArray, List.set_cons_zero, List.set_cons_succ, i64_w, i32_w]
        rfl
      refine pure_ (i := 1) (N := some 48) (v := ?_) (a' := ?_) #[true, true, false, false, false, false, false, false, false, false, false, false, false, false, false, false, false] rfl rfl (by kernel_rfl) (fun _ _ _ h => h) (Or.inl ⟨by rfl, ?_⟩) ?_ ?_
      rotate_left
      · intro w'
        go_simp
        with_reducible rfl
      rotate_left
      · simp only [Act.put, List.setIfInBounds_toArray, List.set_cons_zero, List.set_cons_succ, i64_w, i32_w]
        rfl
      refine pure_ (i := 2) (N := some 49) (v := ?_) (a' := ?_) #[true, true, true, false, false, false, false, false, false, false, false, false, false, false, false, false, false] rfl rfl (by kernel_rfl) (fun _ _ _ h => h) (Or.inl ⟨by rfl, ?_⟩) ?_ ?_
      rotate_left
      · intro w'
        go_simp
        with_reducible rfl
      rotate_left
      · simp only [Act.put, List.setIfInBounds_toArray, List.set_cons_zero, List.set_cons_succ, i64_w, i32_w]
        rfl
      refine pure_ (i := 4) (N := some 51) (v := ?_) (a' := ?_) #[true, true, true, false, true, false, false, false, false, false, false, false, false, false, false, false, false] rfl rfl (by kernel_rfl) (fun _ _ _ h => h) (Or.inl ⟨by rfl, ?_⟩) ?_ ?_
      rotate_left
      · intro w'
        go_simp
        with_reducible rfl
      rotate_left
      · simp only [Act.put, List.setIfInBounds_toArray, List.set_cons_zero, List.set_cons_succ, i64_w, i32_w]
        rfl
      refine pure_ (i := 5) (N := some 52) (v := ?_) (a' := ?_) #[true, true, true, false, true, true, false, false, false, false, false, false, false, false, false, false, false] rfl rfl (by kernel_rfl) (fun _ _ _ h => h) (Or.inl ⟨by rfl, ?_⟩) ?_ ?_
      rotate_left
      · intro w'
        go_simp
        with_reducible rfl
      rotate_left
      · simp only [Act.put, List.setIfInBounds_toArray, List.set_cons_zero, List.set_cons_succ, i64_w, i32_w]
        rfl
      refine pure_ (i := 6) (N := some 53) (v := ?_) (a' := ?_) #[true, true, true, false, true, true, true, false, false, false, false, false, false, false, false, false, false] rfl rfl (by kernel_rfl) (fun _ _ _ h => h) (Or.inl ⟨by rfl, ?_⟩) ?_ ?_
      rotate_left
      · intro w'
        go_simp
        with_reducible rfl
      rotate_left
      · simp only [Act.put, List.setIfInBounds_toArray, List.set_cons_zero, List.set_cons_succ, i64_w, i32_w]
        rfl
      refine pure_ (i := 7) (N := some 54) (v := ?_) (a' := ?_) #[true, true, true, false, true, true, true, true, false, false, false, false, false, false, false, false, false] rfl rfl (by kernel_rfl) (fun _ _ _ h => h) (Or.inl ⟨by rfl, ?_⟩) ?_ ?_
      rotate_left
      · intro w'
        go_simp
        with_reducible rfl
      rotate_left
      · simp only [Act.put, List.setIfInBounds_toArray, List.set_cons_zero, List.set_cons_succ, i64_w, i32_w]
        rfl
      refine pure_ (i := 10) (N := some 57) (v := ?_) (a' := ?_) #[true, true, true, false, true, true, true, true, false, false, true, false, false, false, false, false, false] rfl rfl (by kernel_rfl) (fun _ _ _ h => h) (Or.inl ⟨by rfl, ?_⟩) ?_ ?_
      rotate_left
      · intro w'
        go_simp
        with_reducible rfl
      rotate_left
      · simp only [Act.put, List.setIfInBounds_toArray, List.set_cons_zero, List.set_cons_succ, i64_w, i32_w]
        rfl
      refine pure_ (i := 11) (N := some 58) (v := ?_) (a' := ?_) #[true, true, true, false, true, true, true, true, false, false, true, true, false, false, false, false, false] rfl rfl (by kernel_rfl) (fun _ _ _ h => h) (Or.inl ⟨by rfl, ?_⟩) ?_ ?_
      rotate_left
      · intro w'
        go_simp
        with_reducible rfl
      rotate_left
      · simp only [Act.put, List.setIfInBounds_toArray, List.set_cons_zero, List.set_cons_succ, i64_w, i32_w]
        rfl
      refine pure_ (i := 12) (N := some 59) (v := ?_) (a' := ?_) #[true, true, true, false, true, true, true, true, false, false, true, true, true, false, false, false, false] rfl rfl (by kernel_rfl) (fun _ _ _ h => h) (Or.inl ⟨by rfl, ?_⟩) ?_ ?_
      rotate_left
      · intro w'
        go_simp
        with_reducible rfl
      rotate_left
      · simp only [Act.put, List.setIfInBounds_toArray, List.set_cons_zero, List.set_cons_succ, i64_w, i32_w]
        rfl
      refine pure_ (i := 13) (N := some 60) (v := ?_) (a' := ?_) #[true, true, true, false, true, true, true, true, false, false, true, true, true, true, false, false, false] rfl rfl (by kernel_rfl) (fun _ _ _ h => h) (Or.inl ⟨by rfl, ?_⟩) ?_ ?_
      rotate_left
      · intro w'
        go_simp
        with_reducible rfl
      rotate_left
      · simp only [Act.put, List.setIfInBounds_toArray, List.set_cons_zero, List.set_cons_succ, i64_w, i32_w]
        rfl
      refine pure_ (i := 14) (N := some 61) (v := ?_) (a' := ?_) #[true, true, true, false, true, true, true, true, false, false, true, true, true, true, true, false, false] rfl rfl (by kernel_rfl) (fun _ _ _ h => h) (Or.inl ⟨by rfl, ?_⟩) ?_ ?_
      rotate_left
      · intro w'
        go_simp
        with_reducible rfl
      rotate_left
      · simp only [Act.put, List.setIfInBounds_toArray, List.set_cons_zero, List.set_cons_succ, i64_w, i32_w]
        rfl
      refine pure_ (i := 15) (N := some 62) (v := ?_) (a' := ?_) #[true, true, true, false, true, true, true, true, false, false, true, true, true, true, true, true, false] rfl rfl (by kernel_rfl) (fun _ _ _ h => h) (Or.inl ⟨by rfl, ?_⟩) ?_ ?_
      rotate_left
      · intro w'
        go_simp
        with_reducible rfl
      rotate_left
      · simp only [Act.put, List.setIfInBounds_toArray, List.set_cons_zero, List.set_cons_succ, i64_w, i32_w]
        rfl
      refine take_ (i := 3) (N := some 50) (v := ?_) (a' := ?_) #[true, true, true, true, true, true, true, true, false, false, true, true, true, true, true, true, false] rfl rfl (by kernel_rfl) (fun _ _ _ h => h) (Or.inl ⟨by rfl, ?_⟩) hHeld ?_ ?_
      rotate_left
      · rintro w' ⟨s0, s1, s2⟩
        go_simp
        with_reducible rfl
      rotate_left
      · simp only [Act.put, List.setIfInBounds_toArray, List.set_cons_zero, List.set_cons_succ, i64_w, i32_w]
        rfl
      refine pure_ (i := 8) (N := some 55) (v := ?_) (a' := ?_) #[true, true, true, true, true, true, true, true, true, false, true, true, true, true, true, true, false] rfl rfl (by kernel_rfl) (fun _ _ _ h => h) (Or.inl ⟨by rfl, ?_⟩) ?_ ?_
      rotate_left
      · intro w'
        go_simp
        with_reducible rfl
      rotate_left
      · simp only [Act.put, List.setIfInBounds_toArray, List.set_cons_zero, List.set_cons_succ, i64_w, i32_w]
        rfl
      refine one_ (i := 9) (N := some 56) #[true, true, true, true, true, true, true, true, true, true, true, true, true, true, true, true, false] rfl rfl (by kernel_rfl) (by decide) (fun K hK => ?_)
      refine value_ (w1 := ?_) (v := ?_) (by rfl) rfl ?_ ?_
      rotate_left 2
      · go_simp
        constructor
        · rfl
        · rfl
      refine hK.out _ _ ⟨hHeld.1, hHeld.2.1, hHeld.2.2⟩ (fun hHeld => ?_)
      clear hK K
      refine norm_ (a' := ?_) ?_ ?_
      rotate_left
      · show Act.put _ (some 56) _ = _
        simp only [Act.put, List.setIfInBounds_toArray, List.set_cons_zero, List.set_cons_succ, i64_w, i32_w]
        rfl
      refine pure_ (i := 16) (N := some 63) (v := ?_) (a' := ?_) #[true, true, true, true, true, true, true, true, true, true, true, true, true, true, true, true, true] rfl rfl (by kernel_rfl) (fun _ _ _ h => h) (Or.inl ⟨by rfl, ?_⟩) ?_ ?_
      rotate_left
      · intro w'
        go_simp
        with_reducible rfl
      rotate_left
      · simp only [Act.put, List.setIfInBounds_toArray, List.set_cons_zero, List.set_cons_succ, i64_w, i32_w]
        rfl
      refine done_ (by kernel_rfl) ?_
      have hcb := Lib.run_convert_string_bytes (P := Try.prog) w4.drew 9 29 5 sy Try.underlying9 Try.underlying29 Try.underlying5
      have HMb := Aside0.mk (show MemAt (Lib.bytesWorld w4.drew 5 sy) w.heap.size g 0 0 false (.slice A1 l.length c1) L from
        (⟨HM4.out.le, HM4.out.at_, Kd.R_drew HM4.out.row, HM4.out.ne⟩ : MemAt w4.drew w.heap.size g 0 0 false (.slice A1 l.length c1) L).keep (Kept.of_below (bytes_below (Below.refl _ _) (Nat.le_refl _) 5 sy) (fun _ => False)) (fun h => h) (fun _ _ h => h))
      have HBb := Aside0.mk (show Below w.heap.size w (Lib.bytesWorld w4.drew 5 sy) from bytes_below (below_drew1 HB4.out) HB4.out.size 5 sy)
      have HBy := Aside0.mk (show bytesOf sy = Y by rw [← HSY.out]; exact bytesOf_str Y HYb.out)
      have HSz := Aside0.mk (show sy.size = Y.length by rw [← HSY.out]; exact strOfNums_size Y)
      have HCb := Aside0.mk (show Kd.C (Kd.int .u8) (Lib.bytesWorld w4.drew 5 sy) (some ⟨w4.drew.heap.size, 0, none⟩) Y.length Y from by
        have h3 := Kd.C_of_reads (d := (0 : Int)) (h1 := fun _ => rfl) (bytes_reads w4.drew 5 sy (by rw [HSz.out, HYn.out]; omega))
        rw [HBy.out, HSz.out] at h3
        exact h3)
      have HGc := Aside0.mk (show Y.length ≤ grownCap w4.drew sy.size 0 5 from by rw [← HSz.out]; exact grownCap_ge _ _ _ _)
      rw [HSz.out] at hcb HGc
      go_wp2_with (fail)
      all_goals first
        | (go_ret; exact ⟨rfl, below_drew1 HB4.out⟩)
        | (refine (mem_Write.calls w.heap.size g 0 0 false (.slice A1 l.length c1) L dt (some ⟨w4.drew.heap.size, 0, none⟩) _ Y w _ b11 HBb.out HMb.out HCb.out HGc.out).mono ?_
           rintro e w6 ⟨rfl, q1, q2, q3⟩
           rw [HZ.out] at q1 ⊢
           have hc6 : w6.cell? ⟨g, 3, none⟩ = some (.slice A1 l.length c1) := (blk_cell q1.at_ 3).trans rfl
           have hcv := own_string (P := Try.prog) (dst := 9) Try.underlying29 Try.underlying5 Try.underlying9 (Kd.own_of_R q1.row)
           rw [HS.out] at hcv
           have HB6 := Aside0.mk q2
           clear q1 q2 q3
           go_wp2_with (fail)
           go_ret
           exact ⟨by simp, HB6.out⟩)
    · have eI : mem_Init l dt fr n l = (l, 44) := by unfold mem_Init; rw [if_neg hin]
      rw [eI] at q1 ⊢
      have hc4 : w4.cell? ⟨g, 3, none⟩ = some (.slice A1 l.length c1) := (blk_cell q1.at_ 3).trans rfl
      have hcv := own_string (P := Try.prog) (dst := 9) Try.underlying29 Try.underlying5 Try.underlying9 (Kd.own_of_R q1.row)
      rw [HS.out] at hcv
      clear q1 q2 q3 eI
      go_wp2_with (fail)
      go_ret
      exact ⟨by simp, HB4.out⟩
end Go.Proofs.Ytjpbmmncakcbhaa.PA
