/- What the reference of the store computes, as laws over lists: bytes put in, bytes filled; and an act of a script, as it lies in memory. -/
import Derived.Test.YtjpbmmncakcbhaaPg
import Derived.Test.YtjpbmmncakcbhaaBk
namespace Go.Proofs.Ytjpbmmncakcbhaa.PA
open Go.RowKit Go.Proofs.YtjpbmmncakcbhaaW.PrintWords Go.Proofs.YtjpbmmncakcbhaaW.PrintLast Go.Proofs.YtjpbmmncakcbhaaW.PrintMore
set_option linter.unusedVariables false
set_option linter.unusedSimpArgs false

theorem refIn_is (a n : Int) (l : Nat) (ha : 0 ≤ a) (hn : 0 ≤ n) (hl : l ≤ 9223372036854775807) : bodkinref13_In.f a n (l : Int) = some (decide (a + n ≤ l)) := by
  have hw : IntKind.u64.wrap (l : Int) = l := u64w (by omega) (by omega)
  unfold bodkinref13_In.f
  rw [hw]
  by_cases h : a ≤ l
  · rw [if_pos h]
    by_cases h2 : n ≤ l
    · rw [if_pos h2, u64w (x := (l : Int) - n) (by omega) (by omega)]
      congr 1
      apply decide_eq_decide.mpr
      omega
    · rw [if_neg h2]
      congr 1
      symm
      apply decide_eq_false
      omega
  · rw [if_neg h]
    congr 1
    symm
    apply decide_eq_false
    omega

theorem refBytes_is (L : List Int) (a1 a2 a3 : Int) (b : List Int) (h1 : 0 ≤ a1) (h2 : 0 ≤ a2) (h3 : 0 ≤ a3) (hL : L.length ≤ 1073741824) (hb : b.length ≤ 140737488351232) :
    bodkinref13_Bytes.f L a1 a2 a3 b = some (mem_Init L a1 a2 a3 b) := by
  unfold bodkinref13_Bytes.f
  rw [refIn_is a2 a3 b.length h2 h3 (by omega), bindS, refIn_is a1 a3 L.length h1 h3 (by omega), bindS]
  unfold mem_Init
  by_cases c1 : a2 + a3 ≤ b.length
  · rw [if_pos (decide_eq_true c1)]
    by_cases c2 : a1 + a3 ≤ L.length
    · rw [if_pos (decide_eq_true c2), if_pos (show a2 + a3 ≤ (b.length : Int) ∧ a1 + a3 ≤ (L.length : Int) from ⟨c1, c2⟩), if_pos h1, if_pos (by omega), bindS, if_pos (by simp; omega), bindS, u64w (x := a2 + a3) (by omega) (by omega), u64w (x := a1 + a3) (by omega) (by omega),
        if_pos h2, if_pos (by omega), if_pos c1, bindS, if_pos (by simp; omega), bindS, if_pos (by omega), if_pos c2, bindS, if_pos (by simp; omega)]
      simp [List.append_assoc]
    · rw [if_neg (by simpa using c2), if_neg (by omega)]
  · rw [if_neg (by simpa using c1), if_neg (by omega)]

theorem refFill_l0 (L : List Int) (a x : Nat) (xv : Int) (n : Nat) (hx : x = n) (h : a + n ≤ L.length) (hL : L.length ≤ 1073741824) : ∀ (d k j : Nat), j + d = n → d < k →
    bodkinref13_Fill.l0 k (a : Int) xv (n : Int) (L.take a ++ (List.replicate j xv ++ L.drop (a + j))) ((a + j : Nat) : Int) = some (L.take a ++ (List.replicate n xv ++ L.drop (a + n)), 0) := by
  intro d
  induction d with
  | zero =>
    intro k j hj hk
    obtain ⟨k, rfl⟩ : ∃ m, k = m + 1 := ⟨k - 1, by omega⟩
    have : j = n := by omega
    subst this
    rw [bodkinref13_Fill.l0, u64w (x := (a : Int) + (j : Int)) (by omega) (by omega), if_neg (by omega)]
  | succ d ih =>
    intro k j hj hk
    obtain ⟨k, rfl⟩ : ∃ m, k = m + 1 := ⟨k - 1, by omega⟩
    rw [bodkinref13_Fill.l0, u64w (x := (a : Int) + (n : Int)) (by omega) (by omega), if_pos (by omega), if_pos (by omega), if_pos (by simp only [List.length_append, List.length_take, List.length_replicate, List.length_drop]; omega),
      u64w (by omega) (by omega), Int.toNat_natCast, fill_step L a j xv (by omega)]
    have := ih k (j + 1) (by omega) (by omega)
    rw [show ((a + (j + 1) : Nat) : Int) = ((a + j : Nat) : Int) + 1 by omega] at this
    exact this
theorem refFill_is (L : List Int) (a xv n : Int) (h1 : 0 ≤ a) (h3 : 0 ≤ n) (hL : L.length ≤ 327680) : bodkinref13_Fill.f 327685 L a xv n = some (mem_Fill L a xv n) := by
  unfold bodkinref13_Fill.f
  rw [refIn_is a n L.length h1 h3 (by omega), bindS]
  unfold mem_Fill
  by_cases c2 : a + n ≤ L.length
  · rw [if_pos (decide_eq_true c2), if_pos c2, if_pos (by simp; omega), List.nil_append]
    have := refFill_l0 L a.toNat n.toNat xv n.toNat rfl (by omega) (by omega) n.toNat 327685 0 (by omega) (by omega)
    rw [show ((a.toNat : Nat) : Int) = a by omega, show ((n.toNat : Nat) : Int) = n by omega, show ((a.toNat + 0 : Nat) : Int) = a by omega] at this
    simp only [List.replicate_zero, List.nil_append, Nat.add_zero, List.take_append_drop] at this
    rw [this, show (a + n).toNat = a.toNat + n.toNat by omega]
  · rw [if_neg (by simpa using c2), if_neg c2]

/-! An act. -/
structure S49 where
  f0 : Int
  f1 : Int
  f2 : Int
  f3 : Int
  f4 : Int
  f5 : List Int
  f6 : S26
def z49 : S49 := ⟨0, 0, 0, 0, 0, [], z26⟩
def k49 : Kd S49 := Kd.iso (Kd.pair (Kd.int .i64) (Kd.pair (Kd.int .u64) (Kd.pair (Kd.int .u64) (Kd.pair (Kd.int .u64) (Kd.pair (Kd.int .u8) (Kd.pair (Kd.slice 5 (Kd.int .u8)) k26)))))) (fun x : S49 => (x.f0, x.f1, x.f2, x.f3, x.f4, x.f5, x.f6))
theorem k49_open {w : World} {x : S49} {cs : List Value} (h : k49.K w x cs) : ∃ A c, x.f5.length ≤ c ∧ Kd.C (Kd.int .u8) w A x.f5.length x.f5 ∧ cs = [.int .i64 x.f0, .int .u64 x.f1, .int .u64 x.f2, .int .u64 x.f3, .int .u8 x.f4, .slice A x.f5.length c, .int .i64 x.f6.f0, .int .u64 x.f6.f1, .int .u64 x.f6.f2, .bool x.f6.f3] := by
  obtain ⟨_, _, rfl, rfl, ⟨_, _, rfl, rfl, ⟨_, _, rfl, rfl, ⟨_, _, rfl, rfl, ⟨_, _, rfl, rfl, ⟨_, _, rfl, ⟨A, c, rfl, hc, hC⟩, hv⟩⟩⟩⟩⟩⟩ := h
  have hv' := k26_open hv
  subst hv'
  exact ⟨A, c, hc, hC, rfl⟩
theorem k49_mk {w : World} {x : S49} {A : Option Addr} {c : Nat} (hc : x.f5.length ≤ c) (hC : Kd.C (Kd.int .u8) w A x.f5.length x.f5) : k49.K w x [.int .i64 x.f0, .int .u64 x.f1, .int .u64 x.f2, .int .u64 x.f3, .int .u8 x.f4, .slice A x.f5.length c, .int .i64 x.f6.f0, .int .u64 x.f6.f1, .int .u64 x.f6.f2, .bool x.f6.f3] :=
  ⟨[.int .i64 x.f0], _, rfl, rfl, ⟨[.int .u64 x.f1], _, rfl, rfl, ⟨[.int .u64 x.f2], _, rfl, rfl, ⟨[.int .u64 x.f3], _, rfl, rfl, ⟨[.int .u8 x.f4], _, rfl, rfl, ⟨[.slice A x.f5.length c], _, rfl, ⟨A, c, rfl, hc, hC⟩, k26_mk _ _⟩⟩⟩⟩⟩⟩
/-- An act's cells. -/
theorem at_T49 {w : World} {A : Option Addr} {xs : List S49} (h : Kd.C k49 w A xs.length xs) (i : Nat) (h1 : i < xs.length) : ∃ (x : S49) (ad : Addr) (Al : Option Addr) (cl : Nat), xs[i]? = some x ∧ A = some ad ∧ x.f5.length ≤ cl ∧ Kd.C (Kd.int .u8) w Al x.f5.length x.f5 ∧
    w.cell? (ad.add (i * 10)) = some (.int .i64 x.f0) ∧ w.cell? ⟨(ad.add (i * 10)).block, (ad.add (i * 10)).off + 1, none⟩ = some (.int .u64 x.f1) ∧ w.cell? ⟨(ad.add (i * 10)).block, (ad.add (i * 10)).off + 2, none⟩ = some (.int .u64 x.f2) ∧
    w.cell? ⟨(ad.add (i * 10)).block, (ad.add (i * 10)).off + 3, none⟩ = some (.int .u64 x.f3) ∧ w.cell? ⟨(ad.add (i * 10)).block, (ad.add (i * 10)).off + 4, none⟩ = some (.int .u8 x.f4) ∧ w.cell? ⟨(ad.add (i * 10)).block, (ad.add (i * 10)).off + 5, none⟩ = some (.slice Al x.f5.length cl) ∧
    w.cell? ⟨(ad.add (i * 10)).block, (ad.add (i * 10)).off + 6, none⟩ = some (.int .i64 x.f6.f0) ∧ w.cell? ⟨(ad.add (i * 10)).block, (ad.add (i * 10)).off + 7, none⟩ = some (.int .u64 x.f6.f1) ∧ w.cell? ⟨(ad.add (i * 10)).block, (ad.add (i * 10)).off + 8, none⟩ = some (.int .u64 x.f6.f2) ∧
    w.cell? ⟨(ad.add (i * 10)).block, (ad.add (i * 10)).off + 9, none⟩ = some (.bool x.f6.f3) := by
  obtain ⟨ad, c, e, _, hK, hc0⟩ := Kd.C_get h z49 (i : Int) (by omega) (by omega)
  rw [Int.toNat_natCast] at hc0 hK
  have hx : xs.getD i z49 = xs[i] := by rw [List.getD_eq_getElem?_getD, List.getElem?_eq_getElem h1]; rfl
  rw [hx] at hK
  have hc : ∀ j u, c[j]? = some u → w.cell? (ad.add (i * 10 + j)) = some u := hc0
  obtain ⟨Al, cl, hcl, hCl, rfl⟩ := k49_open hK
  have hf : ∀ j u, 0 < j → _ → w.cell? ⟨(ad.add (i * 10)).block, (ad.add (i * 10)).off + j, none⟩ = some u := fun j u hj hu => by rw [← add_field _ _ j hj]; exact hc j u hu
  exact ⟨xs[i], ad, Al, cl, List.getElem?_eq_getElem h1, e, hcl, hCl, hc 0 _ rfl, hf 1 _ (by omega) rfl, hf 2 _ (by omega) rfl, hf 3 _ (by omega) rfl, hf 4 _ (by omega) rfl, hf 5 _ (by omega) rfl, hf 6 _ (by omega) rfl, hf 7 _ (by omega) rfl, hf 8 _ (by omega) rfl, hf 9 _ (by omega) rfl⟩
end Go.Proofs.Ytjpbmmncakcbhaa.PA
