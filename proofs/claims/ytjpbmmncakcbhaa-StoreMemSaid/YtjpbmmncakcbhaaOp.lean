/- The script of acts, an argument of a row, opened: a row that is only read, each act's numbers of their kinds; no condition. -/
import Derived.Test.YtjpbmmncakcbhaaPm
import Derived.Deep.Slices
import Derived.WalkKit
import Derived.ChangeArms
import Derived.ChangeSlices
import Derived.Lib.SmallJoins
namespace Go.Proofs.Ytjpbmmncakcbhaa.PA
open Go.ChangeShapes Go.WideShapes Go.ChangeAt Go.RowKit Go.Joins Go.Deep Go.Proofs.YtjpbmmncakcbhaaW.PrintWords Go.Proofs.YtjpbmmncakcbhaaW.PrintLast Go.Proofs.YtjpbmmncakcbhaaW.PrintMore
set_option linter.unusedVariables false

/-- An act's numbers are of their kinds. -/
structure ActOk (x : S49) : Prop where
  k0 : -9223372036854775808 ≤ x.f0 ∧ x.f0 < 9223372036854775808
  k1 : 0 ≤ x.f1 ∧ x.f1 < 18446744073709551616
  k2 : 0 ≤ x.f2 ∧ x.f2 < 18446744073709551616
  k3 : 0 ≤ x.f3 ∧ x.f3 < 18446744073709551616

theorem act_open {H : Type} {enc : TypeId × Value → H} {w : World} {base : Nat} {spare : Nat → Bool} {held : Bool} {n : Nat} {cs : List Value} {y : DataW H × List MemPlace} (h : DataW.trod enc Try.prog w base spare held n 49 cs = some y) :
    ∃ x : S49, k49.K w x cs ∧ ActOk x := by
  obtain ⟨xs, n', rfl, rfl, hcl, hlen, hf⟩ := DataW.trod_struct Try.underlying49 h
  have hl : cs.length = 10 := hcl.trans (by kernel_rfl)
  have hx : xs.length = 7 := hlen
  match cs, hl with
  | [c0, c1, c2, c3, c4, c5, c6, c7, c8, c9], _ =>
    match xs, hx with
    | [x0, x1, x2, x3, x4, x5, x6], _ =>
      have h0 := hf 0 ( { name := "Kind", type := 3, offset := 0, embedded := false, tag := "", pkgPath := "", byteOffset := 0 } ) rfl
      have h1 := hf 1 ( { name := "A", type := 24, offset := 1, embedded := false, tag := "", pkgPath := "", byteOffset := 8 } ) rfl
      have h2 := hf 2 ( { name := "B", type := 24, offset := 2, embedded := false, tag := "", pkgPath := "", byteOffset := 16 } ) rfl
      have h3 := hf 3 ( { name := "N", type := 24, offset := 3, embedded := false, tag := "", pkgPath := "", byteOffset := 24 } ) rfl
      have h4 := hf 4 ( { name := "C", type := 5, offset := 4, embedded := false, tag := "", pkgPath := "", byteOffset := 32 } ) rfl
      have h5 := hf 5 ( { name := "L", type := 29, offset := 5, embedded := false, tag := "", pkgPath := "", byteOffset := 40 } ) rfl
      have h6 := hf 6 ( { name := "V", type := 26, offset := 6, embedded := false, tag := "", pkgPath := "", byteOffset := 64 } ) rfl
      have e3 : Try.prog.cellsOf 3 = 1 := by kernel_rfl
      have e24 : Try.prog.cellsOf 24 = 1 := by kernel_rfl
      have e5 : Try.prog.cellsOf 5 = 1 := by kernel_rfl
      have e29 : Try.prog.cellsOf 29 = 1 := by kernel_rfl
      have e26 : Try.prog.cellsOf 26 = 4 := by kernel_rfl
      simp only [e3, e24, e5, e29, e26, List.drop_zero, List.drop_succ_cons, List.take_succ_cons, List.take_zero, List.getElem?_cons_zero, List.getElem?_cons_succ] at h0 h1 h2 h3 h4 h5 h6
      obtain ⟨a0, f0, -, w0⟩ := DataW.trod_int Try.underlying3 h0
      obtain ⟨a1, f1, -, w1⟩ := DataW.trod_int Try.underlying24 h1
      obtain ⟨a2, f2, -, w2⟩ := DataW.trod_int Try.underlying24 h2
      obtain ⟨a3, f3, -, w3⟩ := DataW.trod_int Try.underlying24 h3
      obtain ⟨a4, f4, -, w4⟩ := DataW.trod_int Try.underlying5 h4
      simp at f0 f1 f2 f3 f4
      subst f0 f1 f2 f3 f4
      obtain ⟨xs6, n6, -, -, -, hlen6, hf6⟩ := DataW.trod_struct Try.underlying26 h6
      have g0 := hf6 0 ( { name := "Type", type := 3, offset := 0, embedded := false, tag := "", pkgPath := "", byteOffset := 0 } ) rfl
      have g1 := hf6 1 ( { name := "Lo", type := 24, offset := 1, embedded := false, tag := "", pkgPath := "", byteOffset := 8 } ) rfl
      have g2 := hf6 2 ( { name := "Hi", type := 24, offset := 2, embedded := false, tag := "", pkgPath := "", byteOffset := 16 } ) rfl
      have g3 := hf6 3 ( { name := "Null", type := 4, offset := 3, embedded := false, tag := "", pkgPath := "", byteOffset := 24 } ) rfl
      have hx6 : xs6.length = 4 := hlen6
      match xs6, hx6 with
      | [z0, z1, z2, z3], _ =>
        have e4 : Try.prog.cellsOf 4 = 1 := by kernel_rfl
        simp only [e3, e24, e4, List.drop_zero, List.drop_succ_cons, List.take_succ_cons, List.take_zero, List.getElem?_cons_zero, List.getElem?_cons_succ] at g0 g1 g2 g3
        obtain ⟨b0, q0, -, -⟩ := DataW.trod_int Try.underlying3 g0
        obtain ⟨b1, q1, -, -⟩ := DataW.trod_int Try.underlying24 g1
        obtain ⟨b2, q2, -, -⟩ := DataW.trod_int Try.underlying24 g2
        obtain ⟨b3, q3, -⟩ := DataW.trod_bool Try.underlying4 g3
        simp at q0 q1 q2 q3
        subst q0 q1 q2 q3
        rcases open_ints Try.underlying29 Try.underlying5 e5 h5 with ⟨hs, -⟩ | ⟨a, len, cap, zs, hs, -, hlc, hcm, hzl, -, hcell, -⟩
        · simp at hs
          subst hs
          exact ⟨⟨a0, a1, a2, a3, a4, [], ⟨b0, b1, b2, b3⟩⟩, k49_mk (x := ⟨a0, a1, a2, a3, a4, [], ⟨b0, b1, b2, b3⟩⟩) (A := none) (c := 0) (Nat.le_refl _) (Kd.C_of_reads (h1 := fun _ => rfl) (ReadsInt.nil _ _)), ⟨bd_i64 w0, bd_u64 w1, bd_u64 w2, bd_u64 w3⟩⟩
        · simp at hs
          subst hs
          have hzc : len ≤ zs.length := by rw [hzl]; split <;> omega
          have ht : (zs.take len).length = len := by rw [List.length_take]; omega
          have hR : ReadsInt w .u8 (some a) (zs.take len).length (zs.take len) := by
            refine ⟨rfl, by rw [ht]; have : maxLen = 9223372036854775807 := rfl; omega, fun _ => ⟨a, rfl, fun i hi => ?_⟩⟩
            rw [hcell i (by omega), List.getD_eq_getElem?_getD, List.getD_eq_getElem?_getD, List.getElem?_take_of_lt (by omega)]
          refine ⟨⟨a0, a1, a2, a3, a4, zs.take len, ⟨b0, b1, b2, b3⟩⟩, ?_, ⟨bd_i64 w0, bd_u64 w1, bd_u64 w2, bd_u64 w3⟩⟩
          have := k49_mk (w := w) (x := ⟨a0, a1, a2, a3, a4, zs.take len, ⟨b0, b1, b2, b3⟩⟩) (A := some a) (c := cap) (by show (zs.take len).length ≤ cap; omega) (Kd.C_of_reads (h1 := fun _ => rfl) hR)
          rw [show (S49.f5 ⟨a0, a1, a2, a3, a4, zs.take len, ⟨b0, b1, b2, b3⟩⟩).length = len from ht] at this
          exact this

theorem acts_open {H : Type} {enc : TypeId × Value → H} {w : World} {held : Bool} {r : Reach} {b : Nat} {v : Value} {d : DataW H} {p : List MemPlace} (hv : Value.okWide Try.prog w r b 47 v) (h : DataW.Trod enc Try.prog w 0 (fun _ => true) held 47 v d p) :
    ∃ (As : Option Addr) (cs : Nat) (acts : List S49), v = .slice As acts.length cs ∧ acts.length ≤ cs ∧ Kd.C k49 w As acts.length acts ∧ ∀ x ∈ acts, ActOk x := by
  obtain ⟨A, len, cap, rfl⟩ := okWide_slice Try.underlying47 hv
  obtain ⟨m, hm⟩ := h
  rcases open_slice Try.underlying47 hm with ⟨hs, -⟩ | ⟨a, len', cap', m', n, D, Pl, hs, -, hlc, hcm, hmm, -, hi⟩
  · have e : Value.slice A len cap = .slice none 0 0 := by simpa [Value.cells] using hs
    cases e
    exact ⟨none, 0, [], rfl, Nat.le_refl _, ⟨rfl, by simp, fun h => absurd h (Nat.lt_irrefl 0)⟩, fun x hx => by simp at hx⟩
  · have e : Value.slice A len cap = .slice (some a) len' cap' := by simpa [Value.cells] using hs
    cases e
    have e49 : Try.prog.cellsOf 49 = 10 := by kernel_rfl
    rw [e49] at hi
    have hm' : len ≤ m' := by rw [hmm]; split <;> omega
    haveI : Inhabited S49 := ⟨z49⟩
    obtain ⟨X, hX⟩ := choose_lt (α := S49) (n := len) (p := fun i x => ∃ cs', w.cells? 0 (a.add (i * 10)) 10 = some cs' ∧ k49.K w x cs' ∧ ActOk x) (fun i hlt => by
      obtain ⟨cs', h1, h2⟩ := hi i (by omega)
      obtain ⟨x, hx, hok⟩ := act_open h2
      exact ⟨x, cs', h1, hx, hok⟩)
    have hl : ((List.range len).map X).length = len := by simp
    refine ⟨some a, cap, (List.range len).map X, by rw [hl], by rw [hl]; exact hlc, ?_, ?_⟩
    · rw [hl]
      refine ⟨hl, by have : maxLen = 9223372036854775807 := rfl; omega, fun _ => ⟨a, rfl, fun j x hj => ?_⟩⟩
      obtain ⟨hj1, hj2⟩ := List.getElem?_eq_some_iff.1 hj
      rw [hl] at hj1
      have : x = X j := by simpa using hj2.symm
      subst this
      obtain ⟨cs', h1, h2, -⟩ := hX j hj1
      obtain ⟨-, hcl, hat⟩ := World.cells?_some h1
      refine ⟨cs', hcl, h2, fun i u hu => ?_⟩
      have hilt : i < 10 := by have := (List.getElem?_eq_some_iff.1 hu).1; omega
      have := hat i hilt
      rw [Go.Deep.add_add] at this
      rw [show k49.sz = 10 from rfl, this, hu]
    · intro x hx
      obtain ⟨j, hj, rfl⟩ := List.mem_map.1 hx
      exact (hX j (List.mem_range.1 hj)).choose_spec.2.2
end Go.Proofs.Ytjpbmmncakcbhaa.PA
