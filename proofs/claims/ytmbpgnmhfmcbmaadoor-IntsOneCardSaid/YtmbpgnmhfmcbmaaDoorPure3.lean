/- Plain laws: what any one number comes to (leading zeros, trailing zeros, bits, extensions, without its sign, its opposite) is the same by the program and by the reference; so is the whole statement IntsOne, as a Lean function. -/
import Derived.Test.YtmbpgnmhfmcbmaaDoorPure2
namespace Go.Proofs.YtmbpgnmhfmcbmaaDoor.PA
open Go.RowKit Go.Proofs.YtmbpgnmhfmcbmaaDoorW.PrintWords Go.Proofs.YtmbpgnmhfmcbmaaDoorW.PrintLast Go.Proofs.YtmbpgnmhfmcbmaaDoorW.PrintMore
set_option linter.unusedVariables false

/-- The lowest n bits, the lowest first. -/
def bl : Nat → Nat → List Int
  | 0, _ => []
  | n + 1, a => ((a % 2 : Nat) : Int) :: bl n (a / 2)
theorem bl_len : ∀ n a, (bl n a).length = n
  | 0, _ => rfl
  | n + 1, a => by simp [bl, bl_len n]
theorem bl_get : ∀ (n a i : Nat), i < n → (bl n a).getD i 0 = ((a / 2 ^ i % 2 : Nat) : Int)
  | 0, _, _, h => by omega
  | n + 1, a, 0, _ => by simp [bl]
  | n + 1, a, i + 1, h => by
    show (bl n (a / 2)).getD i 0 = _
    rw [bl_get n (a / 2) i (by omega), Nat.div_div_eq_div_mul, ← Nat.pow_succ']
theorem rd_bl {n a i : Nat} (h : i < n) : rd (bl n a) (i : Int) = ((a / 2 ^ i % 2 : Nat) : Int) := by
  unfold rd; rw [Int.toNat_natCast]; exact bl_get n a i h

theorem list_l0 (n : Nat) (hn : n ≤ 64) : ∀ (d k i a : Nat) (acc : List Int), a < 18446744073709551616 → i + d = n → d < k → acc.length = i →
    bodkinref02_list.l0 k n a acc i = some (acc ++ bl d a) := by
  intro d
  induction d with
  | zero =>
    intro k i a acc ha hi hk hl
    obtain ⟨k, rfl⟩ : ∃ m, k = m + 1 := ⟨k - 1, by omega⟩
    simp only [bodkinref02_list.l0]
    rw [if_neg (by omega)]
    simp [bl]
  | succ d ih =>
    intro k i a acc ha hi hk hl
    obtain ⟨k, rfl⟩ : ∃ m, k = m + 1 := ⟨k - 1, by omega⟩
    simp only [bodkinref02_list.l0]
    have e2 : wrap64 ((i : Int) + 1) = ((i + 1 : Nat) : Int) := by rw [w64] <;> omega
    have e3 : IntKind.u64.wrap (Int.tdiv (a : Int) 2) = ((a / 2 : Nat) : Int) := by rw [div2 (by omega), wu]; omega
    have e4 : Int.tmod (a : Int) 2 = ((a % 2 : Nat) : Int) := by rw [mod2 (by omega)]; omega
    rw [if_pos (by omega), if_pos (by omega), e2, e3, e4, ih k (i + 1) (a / 2) _ (by omega) (by omega) (by omega) (by simp [hl])]
    simp [bl]
theorem list_eq (n : Nat) (hn : n ≤ 64) (a : Nat) (ha : a < 18446744073709551616) (k : Nat) (hk : 64 < k) : bodkinref02_list.f k n a = some (bl n a) := by
  unfold bodkinref02_list.f
  have := list_l0 n hn n k 0 a [] ha (by omega) (by omega) rfl
  simpa using this

/-- The number of bits. -/
def valL : List Int → Int
  | [] => 0
  | b :: l => b + 2 * valL l
theorem valL_bl : ∀ n a, valL (bl n a) = ((a % 2 ^ n : Nat) : Int)
  | 0, a => by simp [bl, valL, Nat.mod_one]
  | n + 1, a => by
    show ((a % 2 : Nat) : Int) + 2 * valL (bl n (a / 2)) = _
    rw [valL_bl n (a / 2), Nat.pow_succ', Nat.mod_mul]
    simp
theorem valL_append (l m : List Int) : valL (l ++ m) = valL l + 2 ^ l.length * valL m := by
  induction l with
  | nil => simp [valL]
  | cons b l ih =>
    show b + 2 * valL (l ++ m) = b + 2 * valL l + 2 ^ (l.length + 1) * valL m
    rw [ih, Int.pow_succ, Int.mul_add, Int.mul_comm (2 ^ l.length) 2, Int.mul_assoc]
    omega
/-- Are all of a row's numbers bits? -/
def bits01 (l : List Int) : Prop := ∀ x ∈ l, x = 0 ∨ x = 1
theorem valL_bounds : ∀ l : List Int, bits01 l → 0 ≤ valL l ∧ valL l < 2 ^ l.length
  | [], _ => by simp [valL]
  | b :: l, h => by
    have h1 := h b (by simp)
    have h2 := valL_bounds l (fun x hx => h x (by simp [hx]))
    have e : (2 : Int) ^ (l.length + 1) = 2 ^ l.length * 2 := Int.pow_succ ..
    show 0 ≤ b + 2 * valL l ∧ b + 2 * valL l < 2 ^ (l.length + 1)
    omega
theorem bl_bits : ∀ n a, bits01 (bl n a)
  | 0, _ => by intro x hx; simp [bl] at hx
  | n + 1, a => by
    intro x hx
    rcases List.mem_cons.1 hx with rfl | hx
    · omega
    · exact bl_bits n (a / 2) x hx
theorem of_l0 (l : List Int) (hl : l.length ≤ 64) (hb : bits01 l) : ∀ (i k : Nat), i ≤ l.length → i < k → bodkinref02_of.l0 k l (valL (l.drop i)) ((i : Int) - 1) = some (valL l) := by
  intro i
  induction i with
  | zero =>
    intro k hi hk
    obtain ⟨k, rfl⟩ : ∃ m, k = m + 1 := ⟨k - 1, by omega⟩
    simp only [bodkinref02_of.l0]
    rw [if_neg (by omega)]
    simp
  | succ i ih =>
    intro k hi hk
    obtain ⟨k, rfl⟩ : ∃ m, k = m + 1 := ⟨k - 1, by omega⟩
    simp only [bodkinref02_of.l0]
    have e0 : ((i + 1 : Nat) : Int) - 1 = i := by omega
    have e1 : wrap64 ((i : Int) - 1) = (i : Int) - 1 := by rw [w64] <;> omega
    have hc : l.drop i = l.getD i 0 :: l.drop (i + 1) := by
      rw [List.drop_eq_getElem_cons (by omega)]
      simp [List.getD_eq_getElem?_getD, List.getElem?_eq_getElem (show i < l.length by omega)]
    have hv : valL (l.drop i) = rd l (i : Int) + 2 * valL (l.drop (i + 1)) := by
      rw [hc]
      unfold rd
      rw [Int.toNat_natCast]
      rfl
    have b1 := valL_bounds (l.drop (i + 1)) (fun x hx => hb x (List.mem_of_mem_drop hx))
    have b0 := valL_bounds (l.drop i) (fun x hx => hb x (List.mem_of_mem_drop hx))
    have b2 := two_pow_le (show (l.drop (i + 1)).length ≤ 63 by simp; omega)
    have b3 := two_pow_le (show (l.drop i).length ≤ 64 by simp; omega)
    have e2 : IntKind.u64.wrap (IntKind.u64.wrap (valL (l.drop (i + 1)) * 2) + rd l (i : Int)) = valL (l.drop i) := by
      rw [wu, wu]
      omega
    rw [e0, if_pos (by omega), if_pos (by omega), if_pos (by omega), e1, e2]
    exact ih k (by omega) (by omega)
theorem of_eq (l : List Int) (hl : l.length ≤ 64) (hb : bits01 l) (k : Nat) (hk : 64 < k) : bodkinref02_of.f k l = some (valL l) := by
  unfold bodkinref02_of.f
  have := of_l0 l hl hb l.length k (Nat.le_refl _) (by omega)
  rw [w64 (by omega) (by omega)]
  simpa [valL] using this

/-! ### leading zeros -/
theorem bitLen_at {x i : Nat} (h0 : 2 ^ i ≤ x) (h1 : x < 2 ^ (i + 1)) (h2 : i < 64) : Lib.bitLen x = i + 1 := by
  have h3 : 2 ^ (i + 1) ≤ 2 ^ 64 := Nat.pow_le_pow_right (by decide) (by omega)
  rw [Lib.bitLen_shift i x h0 (by omega)]
  have hp := Nat.two_pow_pos i
  have e : x / 2 ^ i = 1 := by
    rw [Nat.pow_succ] at h1
    exact Nat.div_eq_of_lt_le (by omega) (by omega)
  rw [e]
  rfl
theorem clz_l0 (n a : Nat) (hn : n ≤ 64) : ∀ (i k : Nat), i ≤ n → a < 2 ^ i → i < k → bodkinref02_Un.l0 k (bl n a) ((n - i : Nat) : Int) ((i : Int) - 1) = some (((n - Lib.bitLen a : Nat) : Int), 0) := by
  intro i
  induction i with
  | zero =>
    intro k hi ha hk
    obtain ⟨k, rfl⟩ : ∃ m, k = m + 1 := ⟨k - 1, by omega⟩
    obtain rfl : a = 0 := by simpa using ha
    simp only [bodkinref02_Un.l0]
    rw [if_neg (by omega)]
    rfl
  | succ i ih =>
    intro k hi ha hk
    obtain ⟨k, rfl⟩ : ∃ m, k = m + 1 := ⟨k - 1, by omega⟩
    simp only [bodkinref02_Un.l0]
    have e0 : ((i + 1 : Nat) : Int) - 1 = i := by omega
    have e1 : wrap64 ((i : Int) - 1) = (i : Int) - 1 := by rw [w64] <;> omega
    have e2 : IntKind.u64.wrap (((n - (i + 1) : Nat) : Int) + 1) = ((n - i : Nat) : Int) := by rw [wu]; omega
    have hp := Nat.two_pow_pos i
    rw [Nat.pow_succ] at ha
    rw [e0, if_pos (by omega), if_pos (by omega), if_pos (by rw [bl_len]; omega), rd_bl (by omega)]
    by_cases hb : a / 2 ^ i % 2 = 0
    · rw [if_pos (by omega), e1, e2]
      have hlt : a / 2 ^ i < 2 := Nat.div_lt_of_lt_mul (by omega)
      have h0 : a / 2 ^ i = 0 := by generalize a / 2 ^ i = q at hb hlt ⊢; clear e2 e1 e0; omega
      exact ih k (by omega) (by rcases Nat.div_eq_zero_iff.1 h0 with h | h <;> omega) (by omega)
    · rw [if_neg (by omega)]
      have hge : 2 ^ i ≤ a := by
        rcases Nat.lt_or_ge a (2 ^ i) with h | h
        · rw [Nat.div_eq_of_lt h] at hb; simp at hb
        · exact h
      rw [bitLen_at hge (by rw [Nat.pow_succ]; omega) (by omega)]

/-! ### trailing zeros -/
theorem ctzFrom_at : ∀ (i f a : Nat), i < f → a % 2 ^ i = 0 → a / 2 ^ i % 2 = 1 → Lib.ctzFrom f a = i
  | 0, f, a, hf, _, h1 => by
    obtain ⟨f, rfl⟩ : ∃ m, f = m + 1 := ⟨f - 1, by omega⟩
    simp at h1
    simp [Lib.ctzFrom, h1]
  | i + 1, f, a, hf, h0, h1 => by
    obtain ⟨f, rfl⟩ : ∃ m, f = m + 1 := ⟨f - 1, by omega⟩
    have e : a % 2 = 0 := by
      have := Nat.mod_mod_of_dvd a (show 2 ∣ 2 ^ (i + 1) from ⟨2 ^ i, Nat.pow_succ'⟩)
      omega
    have h0' : a / 2 % 2 ^ i = 0 := by
      rw [Nat.pow_succ', Nat.mod_mul] at h0
      omega
    rw [Nat.pow_succ', ← Nat.div_div_eq_div_mul] at h1
    unfold Lib.ctzFrom
    rw [if_neg (by omega), ctzFrom_at i f (a / 2) (by omega) h0' h1]
    omega
theorem ctz_l1 (n a : Nat) (hn : n ≤ 64) (ha : a < 2 ^ n) : ∀ (d i k : Nat), i + d = n → a % 2 ^ i = 0 → d < k →
    bodkinref02_Un.l1 k (n : Int) (bl n a) (i : Int) (i : Int) = some (mn (Lib.ctz 64 a : Int) n, 0) := by
  intro d
  induction d with
  | zero =>
    intro i k hi h0 hk
    obtain ⟨k, rfl⟩ : ∃ m, k = m + 1 := ⟨k - 1, by omega⟩
    obtain rfl : i = n := by omega
    simp only [bodkinref02_Un.l1]
    rw [Nat.mod_eq_of_lt ha] at h0
    subst h0
    rw [if_neg (by omega)]
    unfold mn Lib.ctz
    simp only [if_true]
    congr 2
    split <;> omega
  | succ d ih =>
    intro i k hi h0 hk
    obtain ⟨k, rfl⟩ : ∃ m, k = m + 1 := ⟨k - 1, by omega⟩
    simp only [bodkinref02_Un.l1]
    have e1 : wrap64 ((i : Int) + 1) = ((i + 1 : Nat) : Int) := by rw [w64] <;> omega
    have e2 : IntKind.u64.wrap ((i : Int) + 1) = ((i + 1 : Nat) : Int) := by rw [wu]; omega
    rw [if_pos (by omega), if_pos (by omega), if_pos (by rw [bl_len]; omega), rd_bl (by omega)]
    by_cases hb : a / 2 ^ i % 2 = 0
    · rw [if_pos (by omega), e1, e2]
      exact ih (i + 1) k (by omega) (by rw [Nat.pow_succ, Nat.mod_mul]; simp [h0, hb]) (by omega)
    · rw [if_neg (by omega)]
      have h1 : a / 2 ^ i % 2 = 1 := by omega
      have hne : a ≠ 0 := by rintro rfl; simp at hb
      unfold mn Lib.ctz
      rw [if_neg hne, ctzFrom_at i 64 a (by omega) h0 h1, if_neg (by omega)]

/-! ### bits that are 1 -/
theorem pop_l2 (n a : Nat) (hn : n ≤ 64) : ∀ (d i k c : Nat), i + d = n → d < k → c ≤ i →
    bodkinref02_Un.l2 k (n : Int) (bl n a) (c : Int) (i : Int) = some (((c + Lib.popAux d (a / 2 ^ i) : Nat) : Int), 0) := by
  intro d
  induction d with
  | zero =>
    intro i k c hi hk hc
    obtain ⟨k, rfl⟩ : ∃ m, k = m + 1 := ⟨k - 1, by omega⟩
    simp only [bodkinref02_Un.l2]
    rw [if_neg (by omega)]
    simp [Lib.popAux]
  | succ d ih =>
    intro i k c hi hk hc
    obtain ⟨k, rfl⟩ : ∃ m, k = m + 1 := ⟨k - 1, by omega⟩
    simp only [bodkinref02_Un.l2]
    have e1 : wrap64 ((i : Int) + 1) = ((i + 1 : Nat) : Int) := by rw [w64] <;> omega
    have e2 : IntKind.u64.wrap ((c : Int) + ((a / 2 ^ i % 2 : Nat) : Int)) = ((c + a / 2 ^ i % 2 : Nat) : Int) := by rw [wu]; omega
    rw [if_pos (by omega), if_pos (by omega), if_pos (by rw [bl_len]; omega), rd_bl (by omega), e1, e2, ih (i + 1) k _ (by omega) (by omega) (by omega)]
    have : Lib.popAux (d + 1) (a / 2 ^ i) = a / 2 ^ i % 2 + Lib.popAux d (a / 2 ^ i / 2) := rfl
    rw [this, Nat.div_div_eq_div_mul, ← Nat.pow_succ, Nat.add_assoc]
theorem pop_low (n a : Nat) (hn : n ≤ 64) (ha : a < 2 ^ n) : Lib.popAux 64 a = Lib.popAux n a := by
  obtain ⟨d, hd⟩ : ∃ d, 64 = n + d := ⟨64 - n, by omega⟩
  rw [hd, pop_add, Nat.div_eq_of_lt ha, pop_zero, Nat.add_zero]

/-! ### extensions -/
theorem ext_l3 (n w : Nat) (hn : n ≤ 64) (hw0 : 0 < w) (hwn : w ≤ n) (a : Nat) : ∀ (d i k : Nat), i + d = n → w ≤ i → d + 65 < k →
    bodkinref02_Un.l3 k (n : Int) (bl w a ++ (List.replicate (i - w) ((a / 2 ^ (w - 1) % 2 : Nat) : Int) ++ bl (n - i) (a / 2 ^ i))) (w : Int) (i : Int) =
      some (valL (bl w a ++ List.replicate (n - w) ((a / 2 ^ (w - 1) % 2 : Nat) : Int)), 0) := by
  intro d
  induction d with
  | zero =>
    intro i k hi hwi hk
    obtain ⟨k, rfl⟩ : ∃ m, k = m + 1 := ⟨k - 1, by omega⟩
    obtain rfl : i = n := by omega
    simp only [bodkinref02_Un.l3]
    rw [if_neg (by omega), Nat.sub_self]
    simp only [bl, List.append_nil]
    rw [of_eq _ (by simp [bl_len]; omega) ?_ k (by omega)]
    · rfl
    · intro x hx
      rcases List.mem_append.1 hx with hx | hx
      · exact bl_bits _ _ x hx
      · have := (List.mem_replicate.1 hx).2
        omega
  | succ d ih =>
    intro i k hi hwi hk
    obtain ⟨k, rfl⟩ : ∃ m, k = m + 1 := ⟨k - 1, by omega⟩
    simp only [bodkinref02_Un.l3]
    have e1 : wrap64 ((i : Int) + 1) = ((i + 1 : Nat) : Int) := by rw [w64] <;> omega
    have e2 : wrap64 ((w : Int) - 1) = ((w - 1 : Nat) : Int) := by rw [w64] <;> omega
    have hlen : (bl w a ++ (List.replicate (i - w) ((a / 2 ^ (w - 1) % 2 : Nat) : Int) ++ bl (n - i) (a / 2 ^ i))).length = n := by
      simp [bl_len]; omega
    have hrd : rd (bl w a ++ (List.replicate (i - w) ((a / 2 ^ (w - 1) % 2 : Nat) : Int) ++ bl (n - i) (a / 2 ^ i))) ((w - 1 : Nat) : Int) = ((a / 2 ^ (w - 1) % 2 : Nat) : Int) := by
      have := rd_bl (a := a) (show w - 1 < w by omega)
      unfold rd at this ⊢
      rw [Int.toNat_natCast] at this ⊢
      rw [← this]
      simp only [List.getD_eq_getElem?_getD]
      rw [List.getElem?_append_left (by rw [bl_len]; omega)]
    rw [if_pos (by omega), e2, if_pos (by omega), if_pos (by rw [hlen]; omega), if_pos (by omega), if_pos (by rw [hlen]; omega), hrd, e1]
    have hset : (bl w a ++ (List.replicate (i - w) ((a / 2 ^ (w - 1) % 2 : Nat) : Int) ++ bl (n - i) (a / 2 ^ i))).set ((i : Int)).toNat ((a / 2 ^ (w - 1) % 2 : Nat) : Int) =
        bl w a ++ (List.replicate (i + 1 - w) ((a / 2 ^ (w - 1) % 2 : Nat) : Int) ++ bl (n - (i + 1)) (a / 2 ^ (i + 1))) := by
      rw [Int.toNat_natCast, List.set_append_right _ _ (by rw [bl_len]; omega), List.set_append_right _ _ (by rw [bl_len, List.length_replicate]; omega), bl_len, List.length_replicate]
      rw [show i - w - (i - w) = 0 by omega, show n - i = (n - (i + 1)) + 1 by omega]
      show _ ++ (_ ++ (_ :: bl (n - (i + 1)) (a / 2 ^ i / 2))) = _
      rw [Nat.div_div_eq_div_mul, ← Nat.pow_succ, show i + 1 - w = (i - w) + 1 by omega, List.replicate_succ']
      simp
    rw [hset]
    exact ih (i + 1) k (by omega) (by omega) (by omega)
theorem valL_rep (b : Int) : ∀ m : Nat, valL (List.replicate m b) = b * (2 ^ m - 1)
  | 0 => by simp [valL]
  | m + 1 => by
    show b + 2 * valL (List.replicate m b) = _
    have e1 : b * ((2 : Int) ^ m - 1) = b * 2 ^ m - b := by rw [Int.mul_sub, Int.mul_one]
    have e2 : b * ((2 : Int) ^ m * 2 - 1) = b * 2 ^ m * 2 - b := by rw [Int.mul_sub, Int.mul_one, Int.mul_assoc]
    rw [valL_rep b m, Int.pow_succ, e1, e2]
    omega
theorem bl_append : ∀ (w m a : Nat), bl (w + m) a = bl w a ++ bl m (a / 2 ^ w)
  | 0, m, a => by simp [bl]
  | w + 1, m, a => by
    rw [Nat.add_right_comm]
    show _ :: bl (w + m) (a / 2) = _ :: (bl w (a / 2) ++ _)
    rw [bl_append w m (a / 2), Nat.div_div_eq_div_mul, ← Nat.pow_succ']
theorem bitLenAux_le : ∀ f x, Lib.bitLenAux f x ≤ f
  | 0, _ => Nat.le_refl _
  | f + 1, x => by
    unfold Lib.bitLenAux
    have := bitLenAux_le f (x / 2)
    split <;> omega
theorem bitLen_le {n a : Nat} (hn : n ≤ 64) (ha : a < 2 ^ n) : Lib.bitLen a ≤ n := by
  have := Lib.bitLenAux_fuel n a ha 64 hn
  unfold Lib.bitLen
  rw [this]
  exact bitLenAux_le n a
theorem ctz_bounds (a : Nat) (ha : a < 18446744073709551616) : Lib.ctz 64 a ≤ 64 := by
  unfold Lib.ctz
  split
  · omega
  · rename_i h
    obtain ⟨m, hm, hk⟩ := Lib.ctzFrom_spec 64 a (by omega) (by omega)
    omega

/-- A number that is extended. -/
theorem ext_eq {n w : Nat} (hn : Wd n) (hw : w = 8 ∨ w = 16 ∨ w = 32) (hwn : w < n) (A : Nat) (hA : A < 2 ^ n) (k : Nat) (hk : 200 < k) :
    bodkinref02_Un.l3 k (n : Int) (bl n A) (w : Int) (w : Int) = some (IntKind.u64.wrap (sg w (A : Int)) % 2 ^ n, 0) := by
  have hl := hn.le
  have h := ext_l3 n w hl.2 (by omega) (by omega) A (n - w) w k (by omega) (Nat.le_refl _) (by omega)
  rw [Nat.sub_self] at h
  simp only [List.replicate_zero, List.nil_append] at h
  rw [← bl_append, show w + (n - w) = n by omega] at h
  rw [h, valL_append, valL_bl, valL_rep, bl_len]
  congr 2
  rw [wu]
  unfold sg
  rcases hn with rfl | rfl | rfl | rfl <;> rcases hw with rfl | rfl | rfl <;> first | omega | (simp only [Nat.reducePow, Nat.reduceSub, Int.reducePow, Int.reduceSub, Nat.reduceAdd]; split <;> omega)

theorem j4_8 (k : Nat) (x0 x2 : Int) (l : List Int) : bodkinref02_Un.j4 (k + 1) x0 4 x2 l 4 ((4 : Int) == 4) = bodkinref02_Un.l3 k x0 l 8 8 := by
  simp [bodkinref02_Un.j4, rd, wrap64]
theorem j4_16 (k : Nat) (x0 x2 : Int) (l : List Int) : bodkinref02_Un.j4 (k + 1) x0 5 x2 l 5 ((5 : Int) == 5) = bodkinref02_Un.l3 k x0 l 16 16 := by
  simp [bodkinref02_Un.j4, rd, wrap64]
theorem j4_32 (k : Nat) (x0 x2 : Int) (l : List Int) : bodkinref02_Un.j4 (k + 1) x0 6 x2 l 6 ((6 : Int) == 6) = bodkinref02_Un.l3 k x0 l 32 32 := by
  simp [bodkinref02_Un.j4, rd, wrap64]
set_option maxHeartbeats 4000000 in
theorem Un_same (n op a : Int) (a0 : 0 ≤ a) (a1 : a < 18446744073709551616) (k : Nat) (hk : 300 < k) :
    ∃ r, ints_Un.f k n op a = some r ∧ bodkinref02_Un.f k n op a = some r := by
  obtain ⟨k, rfl⟩ : ∃ m, k = m + 1 := ⟨k - 1, by omega⟩
  unfold ints_Un.f bodkinref02_Un.f
  by_cases hw : ∃ m : Nat, Wd m ∧ n = m
  rotate_left
  · have hw' : ∀ m : Nat, Wd m → n ≠ m := fun m hm e => hw ⟨m, hm, e⟩
    rw [right_no hw', Right_no hw']
    exact ⟨(0, 1), by simp [ints_Un.j0], by simp [bodkinref02_Un.j0]⟩
  obtain ⟨n, hn, rfl⟩ := hw
  have hl := hn.le
  rw [right_yes hn, Right_yes hn]
  simp only [Option.bind_some, if_true]
  by_cases h1 : op < 1
  · rw [if_pos h1, if_pos h1]
    exact ⟨(0, 1), by simp [ints_Un.j0], by simp [bodkinref02_Un.j0]⟩
  rw [if_neg h1, if_neg h1]
  by_cases h2 : op > 8
  · rw [if_pos h2, decide_eq_true h2]
    exact ⟨(0, 1), by simp [ints_Un.j0], by simp [bodkinref02_Un.j0]⟩
  rw [if_neg h2, decide_eq_false h2]
  have c0 : 0 ≤ a % 2 ^ n := Int.emod_nonneg _ (by have := two_pow_pos n; omega)
  have c1 : a % 2 ^ n < 2 ^ n := Int.emod_lt_of_pos a (two_pow_pos n)
  have c2 : a % 2 ^ n < 18446744073709551616 := by have h3 := two_pow_le hl.2; omega
  obtain ⟨A, hA⟩ := Int.eq_ofNat_of_zero_le c0
  have hA1 : A < 2 ^ n := by rw [hA] at c1; exact_mod_cast c1
  have hA2 : A < 18446744073709551616 := by omega
  -- the program's own step
  have P : ∀ f : Int → Option (Int × Int), (ints_mask.f (n : Int)).bind f = f ((2 : Int) ^ n - 1) := fun f => by rw [mask_eq hn]; rfl
  have Q : ∀ f : Int → Option (Int × Int), (bodkinref02_Cut.f k (n : Int) a).bind f = f (A : Int) := fun f => by rw [Cut_eq hn a0 a1 k (by omega), hA]; rfl
  have R : ∀ f : List Int → Option (Int × Int), (bodkinref02_list.f k (n : Int) (A : Int)).bind f = f (bl n A) := fun f => by rw [list_eq n hl.2 A hA2 k (by omega)]; rfl
  have M : Go.bits .and .u64 a ((2 : Int) ^ n - 1) = A := by rw [and_mask hl.2 a0 a1, hA]
  have N : ∀ x : Int, Go.bits .and .u64 (IntKind.u64.wrap x) ((2 : Int) ^ n - 1) = IntKind.u64.wrap x % 2 ^ n := fun x => and_mask hl.2 (by rw [wu]; omega) (by rw [wu]; omega)
  have C : bodkinref02_Cut.f k (n : Int) (IntKind.u64.wrap (-(A : Int))) = some (IntKind.u64.wrap (-(A : Int)) % 2 ^ n) := Cut_eq hn (by rw [wu]; omega) (by rw [wu]; omega) k (by omega)
  have ho : op = 1 ∨ op = 2 ∨ op = 3 ∨ op = 4 ∨ op = 5 ∨ op = 6 ∨ op = 7 ∨ op = 8 := by omega
  rcases ho with rfl | rfl | rfl | rfl | rfl | rfl | rfl | rfl
  · -- leading zeros
    refine ⟨(((n - Lib.bitLen A : Nat) : Int), 0), ?_, ?_⟩
    · simp only [ints_Un.j0]
      rw [if_neg (by decide), P, if_pos trivial, M]
      unfold bits_Len64.f
      rw [if_pos (by omega), Int.toNat_natCast]
      simp only [Option.bind_some]
      have := bitLen_le hl.2 hA1
      rw [w64 (by omega) (by omega), wu]
      congr 2
      omega
    · simp only [bodkinref02_Un.j0]
      rw [if_neg (by decide), if_neg (by decide), if_neg (by decide), if_neg (by decide), Q, R, if_pos trivial, w64 (by omega) (by omega)]
      have := clz_l0 n A hl.2 n k (Nat.le_refl _) hA1 (by omega)
      rw [Nat.sub_self] at this
      exact this
  · -- trailing zeros
    refine ⟨(mn (Lib.ctz 64 A : Int) n, 0), ?_, ?_⟩
    · simp only [ints_Un.j0]
      rw [if_neg (by decide), P, if_neg (by decide), if_pos trivial, M]
      unfold bits_TrailingZeros64.f
      rw [if_pos (by omega), Int.toNat_natCast]
      simp only [Option.bind_some]
      have := ctz_bounds A hA2
      have hb : 0 ≤ mn (Lib.ctz 64 A : Int) n ∧ mn (Lib.ctz 64 A : Int) n ≤ 64 := by unfold mn; split <;> omega
      rw [wu]
      congr 2
      omega
    · simp only [bodkinref02_Un.j0]
      rw [if_neg (by decide), if_neg (by decide), if_neg (by decide), if_neg (by decide), Q, R, if_neg (by decide), if_pos trivial]
      exact ctz_l1 n A hl.2 hA1 n 0 k (by omega) (by simp [Nat.mod_one]) (by omega)
  · -- bits that are 1
    refine ⟨((Lib.popAux 64 A : Int), 0), ?_, ?_⟩
    · simp only [ints_Un.j0]
      rw [if_neg (by decide), P, if_neg (by decide), if_neg (by decide), if_pos trivial, M, OnesCount_eq A hA2]
      simp only [Option.bind_some]
      have := pop_le 64 A
      rw [wu, Int.emod_eq_of_lt (by omega) (by omega)]
    · simp only [bodkinref02_Un.j0]
      rw [if_neg (by decide), if_neg (by decide), if_neg (by decide), if_neg (by decide), Q, R, if_neg (by decide), if_neg (by decide), if_pos trivial]
      have := pop_l2 n A hl.2 n 0 k 0 (by omega) (by omega) (Nat.le_refl _)
      rw [pop_low n A hl.2 hA1]
      simpa using this
  · -- 8 bits
    have S : shl .i64 8 (IntKind.u64.wrap (wrap64 (4 - 4))) = 8 := by decide +kernel
    by_cases h8 : (n : Int) ≤ 8
    · refine ⟨(0, 1), ?_, ?_⟩
      · simp only [ints_Un.j0]
        rw [if_neg (by decide), P, if_neg (by decide), if_neg (by decide), if_neg (by decide), if_neg (by decide), if_neg (by decide), if_pos (by decide +kernel), S, if_pos h8]
      · rw [if_pos rfl, if_pos h8]
        simp [bodkinref02_Un.j0]
    · refine ⟨(IntKind.u64.wrap (sg 8 (A : Int)) % 2 ^ n, 0), ?_, ?_⟩
      · simp only [ints_Un.j0]
        rw [if_neg (by decide), P, if_neg (by decide), if_neg (by decide), if_neg (by decide), if_neg (by decide), if_neg (by decide), if_pos (by decide +kernel), S, if_neg h8, M,
          show (8 : Int) = ((8 : Nat) : Int) from rfl, Signed_eq (by unfold Wd; omega) (by omega) (by omega)]
        simp only [Option.bind_some]
        rw [N]
      · rw [if_pos rfl, if_neg h8, if_neg (by decide), if_neg (by decide)]
        simp only [bodkinref02_Un.j0]
        rw [if_neg (by decide), Q, R, if_neg (by decide), if_neg (by decide), if_neg (by decide), if_pos trivial]
        obtain ⟨k, rfl⟩ : ∃ m, k = m + 1 := ⟨k - 1, by omega⟩
        rw [j4_8]
        exact ext_eq hn (.inl rfl) (by omega) A hA1 k (by omega)
  · -- 16 bits
    have S : shl .i64 8 (IntKind.u64.wrap (wrap64 (5 - 4))) = 16 := by decide +kernel
    by_cases h8 : (n : Int) ≤ 16
    · refine ⟨(0, 1), ?_, ?_⟩
      · simp only [ints_Un.j0]
        rw [if_neg (by decide), P, if_neg (by decide), if_neg (by decide), if_neg (by decide), if_neg (by decide), if_neg (by decide), if_pos (by decide +kernel), S, if_pos h8]
      · rw [if_neg (by decide), if_pos rfl, if_pos h8]
        simp [bodkinref02_Un.j0]
    · refine ⟨(IntKind.u64.wrap (sg 16 (A : Int)) % 2 ^ n, 0), ?_, ?_⟩
      · simp only [ints_Un.j0]
        rw [if_neg (by decide), P, if_neg (by decide), if_neg (by decide), if_neg (by decide), if_neg (by decide), if_neg (by decide), if_pos (by decide +kernel), S, if_neg h8, M,
          show (16 : Int) = ((16 : Nat) : Int) from rfl, Signed_eq (by unfold Wd; omega) (by omega) (by omega)]
        simp only [Option.bind_some]
        rw [N]
      · rw [if_neg (by decide), if_pos rfl, if_neg h8, if_neg (by decide)]
        simp only [bodkinref02_Un.j0]
        rw [if_neg (by decide), Q, R, if_neg (by decide), if_neg (by decide), if_neg (by decide), if_neg (by decide), if_pos trivial]
        obtain ⟨k, rfl⟩ : ∃ m, k = m + 1 := ⟨k - 1, by omega⟩
        rw [j4_16]
        exact ext_eq hn (.inr (.inl rfl)) (by omega) A hA1 k (by omega)
  · -- 32 bits
    have S : shl .i64 8 (IntKind.u64.wrap (wrap64 (6 - 4))) = 32 := by decide +kernel
    by_cases h8 : (n : Int) ≤ 32
    · refine ⟨(0, 1), ?_, ?_⟩
      · simp only [ints_Un.j0]
        rw [if_neg (by decide), P, if_neg (by decide), if_neg (by decide), if_neg (by decide), if_neg (by decide), if_neg (by decide), if_pos (by decide +kernel), S, if_pos h8]
      · rw [if_neg (by decide), if_neg (by decide), if_pos rfl, decide_eq_true h8]
        simp [bodkinref02_Un.j0]
    · refine ⟨(IntKind.u64.wrap (sg 32 (A : Int)) % 2 ^ n, 0), ?_, ?_⟩
      · simp only [ints_Un.j0]
        rw [if_neg (by decide), P, if_neg (by decide), if_neg (by decide), if_neg (by decide), if_neg (by decide), if_neg (by decide), if_pos (by decide +kernel), S, if_neg h8, M,
          show (32 : Int) = ((32 : Nat) : Int) from rfl, Signed_eq (by unfold Wd; omega) (by omega) (by omega)]
        simp only [Option.bind_some]
        rw [N]
      · rw [if_neg (by decide), if_neg (by decide), if_pos rfl, decide_eq_false h8]
        simp only [bodkinref02_Un.j0]
        rw [if_neg (by decide), Q, R, if_neg (by decide), if_neg (by decide), if_neg (by decide), if_neg (by decide), if_neg (by decide)]
        obtain ⟨k, rfl⟩ : ∃ m, k = m + 1 := ⟨k - 1, by omega⟩
        rw [j4_32]
        exact ext_eq hn (.inr (.inr rfl)) (by omega) A hA1 k (by omega)
  · -- without its sign
    have hrd : rd (bl n A) ((n - 1 : Nat) : Int) = ((A / 2 ^ (n - 1) % 2 : Nat) : Int) := rd_bl (by omega)
    have hneg : A / 2 ^ (n - 1) % 2 = 0 ↔ sg n (A : Int) ≥ 0 := by
      unfold sg
      rcases hn with rfl | rfl | rfl | rfl <;> (split <;> omega)
    have hm1 : wrap64 ((n : Int) - 1) = ((n - 1 : Nat) : Int) := by rw [w64] <;> omega
    refine ⟨(if sg n (A : Int) ≥ 0 then (A : Int) else IntKind.u64.wrap (-(A : Int)) % 2 ^ n, 0), ?_, ?_⟩
    · simp only [ints_Un.j0]
      rw [if_neg (by decide), P, if_neg (by decide), if_neg (by decide), if_neg (by decide), if_pos trivial, M, Signed_eq hn (by omega) (by omega)]
      simp only [Option.bind_some]
      rw [N]
      split <;> rfl
    · rw [if_neg (by decide), if_neg (by decide), if_neg (by decide)]
      simp only [bodkinref02_Un.j0]
      rw [if_neg (by decide), Q, R, if_neg (by decide), if_neg (by decide), if_neg (by decide), if_neg (by decide), if_neg (by decide)]
      obtain ⟨k, rfl⟩ : ∃ m, k = m + 1 := ⟨k - 1, by omega⟩
      simp only [bodkinref02_Un.j4]
      rw [if_neg (by decide), if_pos trivial, hm1, if_pos (by omega), if_pos (by rw [bl_len]; omega), hrd]
      by_cases hs : A / 2 ^ (n - 1) % 2 = 0
      · rw [if_pos (by rw [hs]; rfl), if_pos (hneg.1 hs)]
      · have C' : bodkinref02_Cut.f k (n : Int) (IntKind.u64.wrap (-(A : Int))) = some (IntKind.u64.wrap (-(A : Int)) % 2 ^ n) := Cut_eq hn (by rw [wu]; omega) (by rw [wu]; omega) k (by omega)
        rw [if_neg (by intro h; exact hs (by exact_mod_cast h)), if_neg (fun h => hs (hneg.2 h)), C']
        rfl
  · -- its opposite
    refine ⟨(IntKind.u64.wrap (-(A : Int)) % 2 ^ n, 0), ?_, ?_⟩
    · simp only [ints_Un.j0]
      rw [if_neg (by decide), P, if_neg (by decide), if_neg (by decide), if_neg (by decide), if_neg (by decide), if_pos trivial, M, N]
    · rw [if_neg (by decide), if_neg (by decide), if_neg (by decide)]
      simp only [bodkinref02_Un.j0]
      rw [if_neg (by decide), Q, R, if_neg (by decide), if_neg (by decide), if_neg (by decide), if_neg (by decide), if_neg (by decide)]
      obtain ⟨k, rfl⟩ : ∃ m, k = m + 1 := ⟨k - 1, by omega⟩
      simp only [bodkinref02_Un.j4]
      have C' : bodkinref02_Cut.f k (n : Int) (IntKind.u64.wrap (-(A : Int))) = some (IntKind.u64.wrap (-(A : Int)) % 2 ^ n) := Cut_eq hn (by rw [wu]; omega) (by rw [wu]; omega) k (by omega)
      rw [if_neg (by decide), if_neg (by decide), C']
      rfl

/-- The whole statement, as a Lean function. -/
theorem IntsOne_pure (n op a b : Int) (a0 : 0 ≤ a) (a1 : a < 18446744073709551616) (b0 : 0 ≤ b) (b1 : b < 18446744073709551616) :
    bodkinlaw02_IntsOne.f 400 n op a b = some true := by
  unfold bodkinlaw02_IntsOne.f
  rw [awake_true 400 (by decide)]
  simp only [Option.bind_some, if_true]
  obtain ⟨r, hr1, hr2⟩ := Rel_same n op a b a0 a1 b0 b1 400 (by decide)
  obtain ⟨u, hu1, hu2⟩ := Un_same n op a a0 a1 400 (by decide)
  obtain ⟨s, hs1, hs2⟩ := Signed_same n a a0 a1 400 (by decide)
  rw [hr1, hr2, hu1, hu2]
  simp [hs1, hs2]
end Go.Proofs.YtmbpgnmhfmcbmaaDoor.PA
