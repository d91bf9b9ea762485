/- awake: what the law of the store asks first comes to true. -/
import Derived.Test.YtjpbmmncakcbhaaTc
import Derived.Lib.SlBytesConst
namespace Go.Proofs.Ytjpbmmncakcbhaa.PA
open Go.RowKit Go.Proofs.YtjpbmmncakcbhaaW.PrintWords Go.Proofs.YtjpbmmncakcbhaaW.PrintLast Go.Proofs.YtjpbmmncakcbhaaW.PrintMore
attribute [local go_sem] max2_int min2_int max_two min_two max_three min_three max_four min_four
set_option linter.unusedVariables false
set_option linter.unusedSimpArgs false

/-- A memory is laid over a row that was made. -/
theorem MemAt.box {w w0 : World} {base : Nat} {x0 x1 : Int} {x2 : Bool} {B : Value} {l : List Int} (hb : Below base w0 w) (hbase : base ≤ w.heap.size) (hR : Kd.R (Kd.int .u8) 5 w base (fun _ => True) B l) :
    MemAt (w.alloc (.cells #[.int .i64 x0, .int .i64 x1, .bool x2, B] 31 (0, 0))) base w.heap.size x0 x1 x2 B l ∧ Below base w0 (w.alloc (.cells #[.int .i64 x0, .int .i64 x1, .bool x2, B] 31 (0, 0))) :=
  ⟨⟨hbase, alloc_at w _, Kd.R_alloc (Kd.R_reok rfl hR (fun _ h => h)) _, fun e => by have := Kd.R_lt hR _ e; omega⟩, hb.alloc hbase _⟩
theorem TabAt.box {w w0 : World} {base : Nat} {y x0 x1 : Int} {x2 : Bool} {B : Value} {l : List S26} (hb : Below base w0 w) (hbase : base ≤ w.heap.size) (hR : Kd.R k26 26 w base (fun _ => True) B l) :
    TabAt (w.alloc (.cells #[.int .i64 y, .int .i64 x0, .int .i64 x1, .bool x2, B] 41 (0, 0))) base w.heap.size y x0 x1 x2 B l ∧ Below base w0 (w.alloc (.cells #[.int .i64 y, .int .i64 x0, .int .i64 x1, .bool x2, B] 41 (0, 0))) :=
  ⟨⟨hbase, alloc_at w _, Kd.R_alloc (Kd.R_reok rfl hR (fun _ h => h)) _, fun e => by have := Kd.R_lt hR _ e; omega⟩, hb.alloc hbase _⟩
theorem MemAt.keep {w w1 : World} {base g : Nat} {x0 x1 : Int} {x2 : Bool} {B : Value} {l : List Int} {S : Nat → Prop} (h : MemAt w base g x0 x1 x2 B l) (hk : Kept w w1 S) (hg : ¬ S g) (hB : ∀ k, B.ownBlock = some k → ¬ S k) : MemAt w1 base g x0 x1 x2 B l :=
  ⟨h.le, blk_kept h.at_ hk hg, Kd.R_step h.row (fun k ho hlt => hk.2 k hlt (hB k ho)), h.ne⟩
theorem MemAt.alloc {w : World} {base g : Nat} {x0 x1 : Int} {x2 : Bool} {B : Value} {l : List Int} (h : MemAt w base g x0 x1 x2 B l) (o : Obj) : MemAt (w.alloc o) base g x0 x1 x2 B l :=
  ⟨h.le, (Below.heap_alloc w o g (blk_lt h.at_)).trans h.at_, Kd.R_alloc h.row o, h.ne⟩

theorem fill_none (l : List Int) (x : Int) (hl : l.length = 65536) : mem_Fill l 65536 x 0 = (l, 0) := by
  unfold mem_Fill
  rw [if_pos (by omega)]
  have e1 : ((65536 : Int)).toNat = l.length := by omega
  have e2 : ((65536 : Int) + 0).toNat = l.length := by omega
  rw [e1, e2, List.take_length, List.drop_length]
  simp
theorem fill_over (l : List Int) (x : Int) (hl : l.length = 65536) : mem_Fill l 65537 x 0 = (l, 44) := by
  unfold mem_Fill
  rw [if_neg (by omega)]

theorem C_lit2 {w : World} {b : Nat} {x y : Int} {fr : Nat × Nat} (h : w.heap[b]? = some (.cells #[.int .u8 x, .int .u8 y] 5 fr)) : Kd.C (Kd.int .u8) w (some ⟨b, 0, none⟩) ([x, y] : List Int).length [x, y] := by
  have e : ∀ i, i < 2 → w.cell? ⟨b, i, none⟩ = some (.int .u8 (([x, y] : List Int).getD i 0)) := by
    intro i hi
    rw [cell_of_row w b i _ 5 fr h]
    match i, hi with
    | 0, _ => rfl
    | 1, _ => rfl
  have hadd : ∀ i, (⟨b, 0, none⟩ : Addr).add i = ⟨b, i, none⟩ := by intro i; unfold Addr.add; split <;> simp_all
  refine ⟨rfl, by simp, fun _ => ⟨_, rfl, fun j p hj => ?_⟩⟩
  have hj2 : j < 2 := (List.getElem?_eq_some_iff.1 hj).1
  refine ⟨[.int .u8 p], rfl, rfl, fun i u hu => ?_⟩
  have hi : i = 0 := by
    have := (List.getElem?_eq_some_iff.1 hu).1
    simp at this; exact this
  subst hi
  injection hu with hu
  subst hu
  have hs : j * (Kd.int .u8).sz + 0 = j := Nat.mul_one j
  rw [hs, hadd, e j hj2]
  have : ([x, y] : List Int).getD j 0 = p := by rw [List.getD_eq_getElem?_getD, hj]; rfl
  rw [this]
theorem R_lit2 {w : World} {b base : Nat} (hb : base ≤ b) (h : w.heap[b]? = some (.cells #[.int .i64 0, .int .u64 0, .int .u64 0, .bool false, .int .i64 0, .int .u64 0, .int .u64 0, .bool false] 26 (0, 0))) :
    Kd.R k26 26 w base (fun _ => True) (.slice (some ⟨b, 0, none⟩) 2 2) [z26, z26] :=
  ⟨fun _ _ => trivial, _, ⟨rfl, .inr ⟨b, 2, _, rfl, hb, h, Nat.le_refl _, by decide, rfl, rfl⟩⟩, Reps.c4 (k26_mkM _ _ _ z26) (Reps.c4 (k26_mkM _ _ _ z26) (Reps.none _ _))⟩

theorem write_is (l : List Int) (hl : l.length = 65536) : mem_Init l 3 0 ([97, 98] : List Int).length [97, 98] = (l.take 3 ++ ([97, 98] ++ l.drop 5), 0) := by
  unfold mem_Init
  rw [if_pos ⟨by simp, by rw [hl]; simp⟩]
  rfl
theorem write_len (l : List Int) (hl : l.length = 65536) : (l.take 3 ++ (([97, 98] : List Int) ++ l.drop 5)).length = 65536 := by
  simp [hl]
theorem read_is (l : List Int) (hl : l = List.replicate (65536 : Int).toNat 0) : mem_Read (l.take 3 ++ (([97, 98] : List Int) ++ l.drop 5)) 2 3 = ([0, 97, 98], 0) := by
  have hlen : l.length = 65536 := by rw [hl]; exact List.length_replicate
  unfold mem_Read
  rw [if_pos (by rw [write_len l hlen]; decide)]
  obtain ⟨a, b, c, t, rfl⟩ : ∃ a b c t, l = a :: b :: c :: t := by
    match l, hlen with
    | a :: b :: c :: t, _ => exact ⟨a, b, c, t, rfl⟩
    | [a, b], h => simp at h
    | [a], h => simp at h
    | [], h => simp at h
  have hc : c = 0 := by
    have h2 : (a :: b :: c :: t)[2]? = (List.replicate (65536 : Int).toNat (0 : Int))[2]? := by rw [hl]
    rw [List.getElem?_replicate] at h2
    rw [if_pos (by decide)] at h2
    injection h2
  subst hc
  rfl
theorem grow_no (l : List Int) (hl : l.length = 65536) : mem_Grow l 1 true 1 9 = (l, -1) := by
  unfold mem_Grow
  rw [hl]
  have : memMost 1 true 9 = 1 := by decide
  rw [this]
  rw [if_neg (by decide), if_pos (by decide)]

set_option maxHeartbeats 8000000 in
set_option maxRecDepth 100000 in
theorem awake.calls (w : World) : Calls Try.prog 7 #[] w fun e w' => e = .returned (.bool true) ∧ Below w.heap.size w w' := by
  go_enter Try.func7, Try.ntmps7
  go_wp2_with (first | ((with_reducible refine gate_dst (N := 12) rfl ?_); refine Kd.R_make (Kd.int .u8) (w0 := w) w.heap.size 5 rfl (N := 12) rfl 29 (.const (.int .i64 65536)) (.const (.int .i64 65536)) rfl 65536 rfl rfl Try.underlying29 (.int .u8 0) 1 info5 rfl (by decide) (by decide) (0 : Int) (okp := fun _ => False) (ok := fun _ => True) rfl (fun _ h => h.elim) trivial (by decide) (by decide) (Below.refl _ _) (Nat.le_refl _) ?_; intro v1 w1 ho hb hg hat; obtain ⟨L0, hL0⟩ : ∃ L, L = List.replicate (65536 : Int).toNat (0 : Int) := ⟨_, rfl⟩; have hlen : L0.length = 65536 := (by rw [hL0]; exact List.length_replicate); rw [← hL0] at ho; obtain ⟨A1, c1, rfl⟩ := Kd.R_slice ho; rw [hlen] at ho; have HM := Aside0.mk (MemAt.box (x0 := 0) (x1 := 1) (x2 := true) hb hb.size ho); have HL0 := Aside0.mk hL0; have HLEN := Aside0.mk hlen; rw [hlen]; clear ho hb hg hat hL0 hlen) | fail)
  generalize hw2 : w1.alloc _ = w2 at HM ⊢
  generalize hgm : w1.heap.size = gm at HM ⊢
  clear hw2 hgm
  have F1 := Aside0.mk (fill_none L0 1 HLEN.out)
  have F2 := Aside0.mk (fill_over L0 1 HLEN.out)
  have F3 := Aside0.mk (write_is L0 HLEN.out)
  have F4 := Aside0.mk (read_is L0 HL0.out)
  have F5 := Aside0.mk (grow_no _ (write_len L0 HLEN.out))
  have F6 := Aside0.mk (write_len L0 HLEN.out)
  obtain ⟨L1, hL1⟩ : ∃ L1, L1 = L0.take 3 ++ (([97, 98] : List Int) ++ L0.drop 5) := ⟨_, rfl⟩
  rw [← hL1] at F3 F4 F5 F6
  clear hL1
  refine (mem_Fill.calls w.heap.size gm 0 1 true _ L0 65536 1 0 w w2 (by omega) (by omega) HM.out.2 HM.out.1).mono ?_
  rintro e w3 ⟨rfl, q1, q2, q3⟩
  rw [F1.out] at q1 ⊢
  have HM3 := Aside0.mk q1
  have HB3 := Aside0.mk q2
  clear q1 q2 q3 HM
  go_wp2_with (fail)
  refine (mem_Fill.calls w.heap.size gm 0 1 true _ L0 65537 1 0 w w3 (by omega) (by omega) HB3.out HM3.out).mono ?_
  rintro e w4 ⟨rfl, q1, q2, q3⟩
  rw [F2.out] at q1 ⊢
  have HM4 := Aside0.mk q1
  have HB4 := Aside0.mk q2
  clear q1 q2 q3 HM3 HB3
  have hcv : (convert 29 29 (.slice (some ⟨w4.heap.size, 0, none⟩) 2 2)).run Try.prog (w4.alloc (.cells #[.int .u8 97, .int .u8 98] 5)) = .ok (.slice (some ⟨w4.heap.size, 0, none⟩) 2 2) (w4.alloc (.cells #[.int .u8 97, .int .u8 98] 5 (2, 3))) := Lib.run_convert_bytes_const (P := Try.prog) w4 29 5 #[.int .u8 97, .int .u8 98] 2 2 Try.underlying29 Try.underlying5
  have HL4 := Aside0.mk (C_lit2 (alloc_at w4 (.cells #[.int .u8 97, .int .u8 98] 5 (2, 3))))
  have HM5 := Aside0.mk (HM4.out.alloc (.cells #[.int .u8 97, .int .u8 98] 5 (2, 3)))
  have HB5 := Aside0.mk (HB4.out.alloc (Nat.le_trans HM4.out.le (Nat.le_of_lt (blk_lt HM4.out.at_))) (.cells #[.int .u8 97, .int .u8 98] 5 (2, 3)))
  go_wp2_with (fail)
  refine (mem_Write.calls w.heap.size gm 0 1 true _ L0 3 (some ⟨w4.heap.size, 0, none⟩) 2 [97, 98] w _ (by omega) HB5.out HM5.out HL4.out (by decide)).mono ?_
  rintro e w6 ⟨rfl, q1, q2, q3⟩
  rw [F3.out] at q1 ⊢
  have HM6 := Aside0.mk q1
  have HB6 := Aside0.mk q2
  have HS6 := Aside0.mk (Nat.le_trans q1.le (Nat.le_of_lt (blk_lt q1.at_)))
  clear q1 q2 q3 HM4 HB4 HL4 HM5 HB5 hcv
  go_wp2_with (fail)
  refine (mem_Read.calls w.heap.size gm 0 1 true _ L1 2 3 w w6 (by omega) (by omega) (by omega) HB6.out HM6.out (by rw [F6.out]; decide)).mono ?_
  rintro e w7 ⟨v7, rfl, q1, q2, q3⟩
  rw [F4.out] at q1 ⊢
  have HV7 := Aside0.mk (Kd.R_bound q1)
  have HM7 := Aside0.mk (HM6.out.keep q3 (fun h => h) (fun _ _ h => h))
  have HB7 := Aside0.mk q2
  have HK7 := Aside0.mk q3
  have HG6 := Aside0.mk (blk_lt HM6.out.at_)
  have HO6 := Aside0.mk (Kd.R_lt HM6.out.row)
  have HS7 := Aside0.mk (Nat.le_trans HS6.out q3.1)
  clear q1 q2 q3 HB6
  go_wp2_with (fail)
  have HR8 := Aside0.mk (R_lit2 (base := w.heap.size) HS7.out (alloc_at w7 (.cells #[.int .i64 0, .int .u64 0, .int .u64 0, .bool false, .int .i64 0, .int .u64 0, .int .u64 0, .bool false] 26 (0, 0))))
  have HZ8 : (w7.alloc (.cells #[.int .i64 0, .int .u64 0, .int .u64 0, .bool false, .int .i64 0, .int .u64 0, .int .u64 0, .bool false] 26 (0, 0))).heap.size = w7.heap.size + 1 := by show (w7.heap.push _).size = _; exact Array.size_push _
  have HT9 := Aside0.mk (TabAt.box (y := 0) (x0 := 0) (x1 := 0) (x2 := false) (HB7.out.alloc HS7.out (.cells #[.int .i64 0, .int .u64 0, .int .u64 0, .bool false, .int .i64 0, .int .u64 0, .int .u64 0, .bool false] 26 (0, 0))) (by rw [HZ8]; have := HS7.out; omega) HR8.out)
  have HK9 := Aside0.mk (Kept.alloc (Kept.alloc (Kept.refl w7 (fun _ => False)) (.cells #[.int .i64 0, .int .u64 0, .int .u64 0, .bool false, .int .i64 0, .int .u64 0, .int .u64 0, .bool false] 26 (0, 0))) (.cells #[.int .i64 0, .int .i64 0, .int .i64 0, .bool false, .slice (some ⟨w7.heap.size, 0, none⟩) 2 2] 41 (0, 0)))
  rw [HZ8] at HT9
  clear HZ8 HR8
  generalize (w7.alloc _).alloc _ = w9 at HT9 HK9 ⊢
  refine (tab_Grow.calls w.heap.size (w7.heap.size + 1) 0 0 0 false _ [z26, z26] 2 ⟨112, 5, 0, false⟩ w w9 (by omega) (by omega) HT9.out.2 HT9.out.1).mono ?_
  rintro e w10 ⟨B10, rfl, q1, q2, q3, q4⟩
  rw [show tab_Grow [z26, z26] 0 false 2 ⟨112, 5, 0, false⟩ = ([z26, z26, ⟨112, 5, 0, false⟩, ⟨112, 5, 0, false⟩], 2) from rfl] at q1 ⊢
  have HT10 := Aside0.mk q1
  have HB10 := Aside0.mk q2
  have HK10 := Aside0.mk (HK9.out.then_ q3 (fun k h => .inr (h.elim (fun h => by omega) (fun h => by simp [Value.ownBlock] at h; omega))))
  clear q1 q2 q3 q4 HT9 HK9 HB7
  go_wp2_with (fail)
  refine (tab_Get.calls w.heap.size (w7.heap.size + 1) 0 0 0 false B10 [z26, z26, ⟨112, 5, 0, false⟩, ⟨112, 5, 0, false⟩] 3 w10 (by omega) HT10.out).mono ?_
  rintro e w11 ⟨rfl, q1⟩
  rw [show tab_Get [z26, z26, ⟨112, 5, 0, false⟩, ⟨112, 5, 0, false⟩] 3 = (⟨112, 5, 0, false⟩, 0) from rfl]
  have HB11 := Aside0.mk (HB10.out.trans (q1.mono (Nat.le_trans HS7.out HK10.out.1)))
  have HK11 := Aside0.mk (HK10.out.below q1)
  clear q1 HB10 HK10 HT10
  go_wp2_with (fail)
  have HK12 := Aside0.mk (Kept.alloc HK11.out (.cells #[.int .i64 112, .int .u64 5, .int .u64 0, .bool false] 26 (0, 0)))
  have HB12 := Aside0.mk (HB11.out.alloc (Nat.le_trans HS7.out HK11.out.1) (.cells #[.int .i64 112, .int .u64 5, .int .u64 0, .bool false] 26 (0, 0)))
  have HM12 := Aside0.mk (HM7.out.keep HK12.out (fun h => h) (fun _ _ h => h))
  have HA12 := Aside0.mk (alloc_at w11 (.cells #[.int .i64 112, .int .u64 5, .int .u64 0, .bool false] 26 (0, 0)))
  have hv7 : w7.heap.size ≤ w11.heap.size := HK11.out.1
  generalize w11.alloc _ = w12 at HK12 HB12 HM12 HA12 ⊢
  generalize w11.heap.size = b9 at HA12 hv7 ⊢
  have HV9 := Aside0.mk hv7
  clear hv7 HB11 HK11 HM7
  refine (mem_Grow.calls w.heap.size gm 0 1 true _ L1 1 9 w w12 (by omega) HB12.out HM12.out).mono ?_
  rintro e w13 ⟨B13, rfl, q1, q2, q3, q4⟩
  rw [F5.out]
  have HB13 := Aside0.mk q2
  have hgb : ∀ k, memS gm (.slice A1 65536 c1) k → k < w6.heap.size := fun k h => h.elim (fun h => by have := HG6.out; omega) (fun h => HO6.out k h)
  have HA13 := Aside0.mk (blk_kept HA12.out q3 (fun h => by have := hgb _ h; have := HV9.out; have := HK7.out.1; omega))
  have hc9 : w13.cell? ⟨b9, 1, none⟩ = some (.int .u64 5) := (blk_cell HA13.out 1).trans rfl
  have hv13 := Kd.R_step (Kd.R_step HV7.out (w1 := w12) (fun k _ hlt => HK12.out.2 k hlt (fun h => h))) (w1 := w13) (fun k ho hlt => q3.2 k hlt (fun h => by have := hgb k h; have := ho.1; omega))
  have hcv := own_string (P := Try.prog) (dst := 9) Try.underlying29 Try.underlying5 Try.underlying9 (Kd.own_of_R hv13)
  have hstr : strOfNums [0, 97, 98] = ⟨#[0, 97, 98]⟩ := rfl
  rw [hstr] at hcv
  clear hgb q1 q2 q3 q4 hv13 hstr
  go_wp2_with (fail)
  refine (store_Zero.calls 112 112 0 0 true w13 rfl).mono ?_
  rintro e w14 ⟨rfl, q1⟩
  have HB14 := Aside0.mk (HB13.out.trans (q1.mono HB13.out.size))
  clear q1
  have hfd : ∀ W : World, (Instr.field 26 (.agg #[.int .i64 112, .int .u64 0, .int .u64 0, .bool true]) 3).run Try.prog W = .ok (.bool true) W := fun _ => by kernel_rfl
  go_wp2_with (fail)
  go_ret
  exact ⟨rfl, HB14.out⟩
end Go.Proofs.Ytjpbmmncakcbhaa.PA
