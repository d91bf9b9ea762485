/- What the reference of the store computes, as laws over lists: pages and values that grow, a value many times, rows that are the same. -/
import Derived.Test.YtjpbmmncakcbhaaAw
namespace Go.Proofs.Ytjpbmmncakcbhaa.PA
open Go.RowKit Go.Proofs.YtjpbmmncakcbhaaW.PrintWords Go.Proofs.YtjpbmmncakcbhaaW.PrintLast Go.Proofs.YtjpbmmncakcbhaaW.PrintMore
set_option linter.unusedVariables false
set_option linter.unusedSimpArgs false

theorem bindS {α β : Type} (a : α) (f : α → Option β) : (some a).bind f = f a := by cases h : some a with
  | none => cases h
  | some b => injection h with h; rw [h]; rfl
theorem w64 {n : Int} (h0 : -9223372036854775808 ≤ n) (h1 : n < 9223372036854775808) : wrap64 n = n := by unfold wrap64; omega

theorem refGrow_tail (L : List Int) (n m was : Int) (hn0 : 0 ≤ n) (hw0 : 0 ≤ was) (hw1 : was ≤ 1048576) (hL : L.length ≤ 1073741824) :
    (if n > 65536 then (some (L, (-1))) else (if (wrap64 (was + (wrap64 n))) > m then (some (L, (-1))) else (if ([] : List Int).length + L.length < 140737488355328 then ((some (([] : List Int) ++ L : List Int)).bind fun y111 => (if 0 ≤ (wrap64 ((wrap64 n) * 65536)) then (if y111.length + (wrap64 ((wrap64 n) * 65536) : Int).toNat < 140737488355328 then (some ((y111 ++ List.replicate (wrap64 ((wrap64 n) * 65536) : Int).toNat 0), was)) else (none)) else (none))) else (none)))) =
      some (if n > 65536 then (L, -1) else if was + n > m then (L, -1) else (L ++ List.replicate (n * 65536).toNat 0, was)) := by
  by_cases h1 : n > 65536
  · rw [if_pos h1, if_pos h1]
  · rw [if_neg h1, if_neg h1, w64 (n := n) (by omega) (by omega), w64 (n := was + n) (by omega) (by omega), w64 (n := n * 65536) (by omega) (by omega)]
    by_cases h2 : was + n > m
    · rw [if_pos h2, if_pos h2]
    · rw [if_neg h2, if_neg h2, if_pos (by simp; omega), bindS, if_pos (by omega), if_pos (by simp; omega), List.nil_append]

theorem refGrow_is (L : List Int) (x0 x1 : Int) (x2 : Bool) (n most : Int) (hn0 : 0 ≤ n) (hL : L.length ≤ 1073741824) :
    bodkinref13_Grow.f 5 L x0 x1 x2 n most = some (mem_Grow L x1 x2 n most) := by
  have hw : wrap64 ((L.length : Int) / 65536) = (L.length : Int) / 65536 := w64 (by omega) (by omega)
  obtain ⟨was, hwas⟩ : ∃ was : Int, was = (L.length : Int) / 65536 := ⟨_, rfl⟩
  have h1 : 0 ≤ was := by omega
  have h2 : was ≤ 1048576 := by omega
  unfold mem_Grow memMost
  simp only [bodkinref13_Grow.f, bodkinref13_Grow.j0, bodkinref13_Grow.j1]
  rw [hw, ← hwas]
  simp only [refGrow_tail L n _ was hn0 h1 h2 hL]
  clear hw hwas
  cases x2 with
  | true =>
    simp only [if_true]
    unfold mn
    by_cases hm : most > 65536
    · rw [if_pos hm, if_pos (show (65536 : Int) < most from hm)]
      by_cases hx : x1 < 65536
      · rw [if_pos (decide_eq_true hx), if_pos hx]
        congr 1
        repeat' split
        all_goals first | rfl | omega
      · rw [if_neg (by simpa using hx), if_neg hx]
        congr 1
        repeat' split
        all_goals first | rfl | omega
    · rw [if_neg hm, if_neg (show ¬ (65536 : Int) < most from hm)]
      by_cases hx : x1 < most
      · rw [if_pos (decide_eq_true hx), if_pos hx]
        congr 1
        repeat' split
        all_goals first | rfl | omega
      · rw [if_neg (by simpa using hx), if_neg hx]
        congr 1
        repeat' split
        all_goals first | rfl | omega
  | false =>
    simp only [Bool.false_eq_true, if_false]
    unfold mn
    by_cases hm : most > 65536
    · rw [if_pos hm, if_pos (show (65536 : Int) < most from hm)]
      congr 1
      repeat' split
      all_goals first | rfl | omega
    · rw [if_neg hm, if_neg (show ¬ (65536 : Int) < most from hm)]
      congr 1
      repeat' split
      all_goals first | rfl | omega

theorem refRepeat_l0 (x : S26) (N : Nat) (hN : N ≤ 1048576) : ∀ (d k j : Nat), j + d = N → d < k →
    bodkinref13_Repeat.l0 k (N : Int) (List.replicate j x) (j : Int) x.f0 x.f1 x.f2 x.f3 = some (List.replicate N x) := by
  intro d
  induction d with
  | zero =>
    intro k j hj hk
    obtain ⟨k, rfl⟩ : ∃ m, k = m + 1 := ⟨k - 1, by omega⟩
    rw [bodkinref13_Repeat.l0, if_neg (by omega), show j = N by omega]
  | succ d ih =>
    intro k j hj hk
    obtain ⟨k, rfl⟩ : ∃ m, k = m + 1 := ⟨k - 1, by omega⟩
    rw [bodkinref13_Repeat.l0, if_pos (by omega), if_pos (by rw [List.length_replicate]; omega), u64w (by omega) (by omega)]
    have e : List.replicate j x ++ [(⟨x.f0, x.f1, x.f2, x.f3⟩ : S26)] = List.replicate (j + 1) x := by rw [List.replicate_succ']
    rw [e]
    exact ih k (j + 1) (by omega) (by omega)
theorem refRepeat_is (x : S26) (n : Int) (h0 : 0 ≤ n) (hN : n ≤ 1048576) (k : Nat) (hk : n.toNat < k) : bodkinref13_Repeat.f k x.f0 x.f1 x.f2 x.f3 n = some (List.replicate n.toNat x) := by
  have := refRepeat_l0 x n.toNat (by omega) n.toNat k 0 (by omega) hk
  unfold bodkinref13_Repeat.f
  rw [show ((n.toNat : Nat) : Int) = n by omega] at this
  exact this

theorem refGrowTable_is (l : List S26) (x0 x1 : Int) (x2 : Bool) (n : Int) (x : S26) (hn0 : 0 ≤ n) (hl : l.length ≤ 1048576) :
    bodkinref13_GrowTable.f 10005 l x0 x1 x2 n x.f0 x.f1 x.f2 x.f3 = some (tab_Grow l x1 x2 n x) := by
  have tail : ∀ m : Int, (if n > 10000 then (some (l, (-1 : Int))) else (if (wrap64 ((l.length : Int) + (wrap64 n))) > m then (some (l, (-1))) else (if ([] : List S26).length + l.length < 4398046511104 then ((some (([] : List S26) ++ l : List S26)).bind fun y129 => ((bodkinref13_Repeat.f 10004 x.f0 x.f1 x.f2 x.f3 n).bind fun t132 => (if y129.length + t132.length < 4398046511104 then (some ((y129 ++ t132), (l.length : Int))) else (none)))) else (none)))) =
      some (if n > 10000 then (l, -1) else if (l.length : Int) + n > m then (l, -1) else (l ++ List.replicate n.toNat x, (l.length : Int))) := by
    intro m
    by_cases h1 : n > 10000
    · rw [if_pos h1, if_pos h1]
    · rw [if_neg h1, if_neg h1, w64 (n := n) (by omega) (by omega), w64 (n := (l.length : Int) + n) (by omega) (by omega)]
      by_cases h2 : (l.length : Int) + n > m
      · rw [if_pos h2, if_pos h2]
      · rw [if_neg h2, if_neg h2, if_pos (by simp; omega), bindS, refRepeat_is x n hn0 (by omega) 10004 (by omega), bindS, if_pos (by simp; omega), List.nil_append]
  unfold tab_Grow tabMost
  simp only [bodkinref13_GrowTable.f, bodkinref13_GrowTable.j0]
  simp only [tail]
  cases x2 with
  | true =>
    simp only [if_true]
    unfold mn
    by_cases hx : x1 < 10000
    · rw [if_pos (decide_eq_true hx), if_pos hx]
      congr 1
      repeat' split
      all_goals first | rfl | omega
    · rw [if_neg (by simpa using hx), if_neg hx]
      congr 1
      repeat' split
      all_goals first | rfl | omega
  | false =>
    simp only [Bool.false_eq_true, if_false]
    congr 1
    repeat' split
    all_goals first | rfl | omega

theorem refSame_l0 (l : List S26) (hl : l.length ≤ 1048576) : ∀ (d k j : Nat), j + d = l.length → d < k → bodkinref13_Same.l0 k l l (j : Int) = some true := by
  intro d
  induction d with
  | zero =>
    intro k j hj hk
    obtain ⟨k, rfl⟩ : ∃ m, k = m + 1 := ⟨k - 1, by omega⟩
    rw [bodkinref13_Same.l0, if_neg (by omega)]
  | succ d ih =>
    intro k j hj hk
    obtain ⟨k, rfl⟩ : ∃ m, k = m + 1 := ⟨k - 1, by omega⟩
    rw [bodkinref13_Same.l0, if_pos (by omega), if_pos (by omega), if_pos (by omega), if_neg (by simp), w64 (by omega) (by omega)]
    exact ih k (j + 1) (by omega) (by omega)
theorem refSame_is (l : List S26) (hl : l.length ≤ 1048576) : bodkinref13_Same.f (l.length + 1) l l = some true := by
  unfold bodkinref13_Same.f
  rw [if_pos rfl]
  exact refSame_l0 l hl l.length (l.length + 1) 0 (by omega) (by omega)
end Go.Proofs.Ytjpbmmncakcbhaa.PA
