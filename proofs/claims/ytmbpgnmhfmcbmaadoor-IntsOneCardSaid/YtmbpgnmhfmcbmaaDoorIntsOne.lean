/- For every size, operation and numbers, IntsOne returns true: the row, and its card, tied to the program's text (math/bits.deBruijn64tab as its initialiser lays it). No condition of ours. -/
import Derived.Test.YtmbpgnmhfmcbmaaDoorCards
import Derived.Test.YtmbpgnmhfmcbmaaDoorTie
import Derived.Test.YtmbpgnmhfmcbmaaDoorPure3
import Derived.ProofKit
import Derived.OpenShut
import Derived.LaidMore
import Derived.Lay
import Derived.SevenTiedAt
import Derived.Stop.Joined
namespace Go.Proofs.YtmbpgnmhfmcbmaaDoor.IntsOne
open Go.ChangeShapes Go.WideShapes Go.ChangeAt Go.RowKit
set_option linter.unusedVariables false

theorem own : ownKnob Tryd.prog.godebug = none := by kernel_rfl
def tabZ : List Int := Lib.deBruijn64tab.map fun n : Nat => (n : Int)
theorem tabZ_laid : (Rows.laid_math_bits_deBruijn64tab : DataW Unit) = .agg (tabZ.map fun n => .lit (.int .u8 n)) := by rfl
theorem tab_cell {W : World} (h : laidMetH Tryd.prog Rows.intsOneRow.laid W) (r : Nat) (hr : r < 64) : W.cell? ⟨0, r, none⟩ = some (.int .u8 (tabZ.getD r 0)) := by
  rw [MakeChecks.laidMetH_plain _ _ _ (by kernel_rfl)] at h
  obtain ⟨ps, ⟨g, t, cs, fuel, p, q, hg, ht, hv, hd, _, _⟩, _⟩ := h
  obtain rfl := Option.some.inj ((show Tryd.prog.globalNamed "math/bits.deBruijn64tab" = some 0 by kernel_rfl).symm.trans hg)
  obtain rfl := Option.some.inj ((show (Tryd.prog.globals[0]?).map (·.type) = some 45 by kernel_rfl).symm.trans ht)
  rw [tabZ_laid] at hd
  obtain ⟨xs, m, _, ex, _, hl, hel⟩ := DataW.trod_array Tryd.underlying45 hd
  have c5 : Tryd.prog.cellsOf 5 = 1 := by kernel_rfl
  have hE := hel r hr
  rw [c5, Nat.mul_one, List.getElem?_eq_getElem (by omega)] at hE
  obtain ⟨z, e1, e2, _⟩ := DataW.trod_int Tryd.underlying5 hE
  have hlen : tabZ.length = 64 := by rfl
  have e3 : (xs.map (·.1)) = tabZ.map fun n => .lit (.int .u8 n) := (DataW.agg.inj (Prod.mk.inj ex).1).symm
  have e4 : (xs.map (·.1))[r]? = (tabZ.map fun n => (DataW.lit (.int .u8 n) : DataW Unit))[r]? := by rw [e3]
  rw [List.getElem?_map, List.getElem?_map, List.getElem?_eq_getElem (by omega : r < xs.length), List.getElem?_eq_getElem (by omega : r < tabZ.length), e2] at e4
  have hz : z = tabZ.getD r 0 := by
    simp only [Option.map_some, Option.some.injEq, DataW.lit.injEq, Lit.int.injEq, true_and] at e4
    rw [e4, List.getD, List.getElem?_eq_getElem (by omega : r < tabZ.length)]; rfl
  rw [World.var?_cell hg hv r, ← hz]
  have : cs.toList[r]? = some (.int .u8 z) := by
    have h0 : ((cs.toList.drop r).take 1)[0]? = some (.int .u8 z) := by rw [e1]; rfl
    simpa using h0
  simpa using this
theorem amb_of {W : World} (h : laidMetH Tryd.prog Rows.intsOneRow.laid W) : Amb W := by
  constructor
  · have := tab_cell h 0 (by decide)
    rcases Nat.eq_zero_or_pos W.heap.size with hz | hz
    · have hn : W.heap[0]? = none := Array.getElem?_eq_none (by omega)
      simp [World.cell?, hn] at this
    · exact hz
  · intro j hj
    have hj' : j < 64 := hj
    rw [tab_cell h j hj']
    have e : (tabZ.getD j 0) = ((Lib.deBruijn64tab.getD j 0 : Nat) : Int) := by
      simp only [tabZ, List.getD_eq_getElem?_getD, List.getElem?_map]
      rw [List.getElem?_eq_getElem hj]
      rfl
    rw [e]

theorem bd_u64 {a : Int} (h : (Lit.int .u64 a).wf = true) : 0 ≤ a ∧ a < 18446744073709551616 := by
  have h1 : IntKind.u64.min ≤ a ∧ a ≤ IntKind.u64.max := by simpa [Lit.wf] using h
  have m : IntKind.u64.min = 0 := by decide +kernel
  have M : IntKind.u64.max = 18446744073709551615 := by decide +kernel
  omega

set_option maxRecDepth 100000 in
theorem lifted (os : Os) (started : os.Started) (H : Type) (enc : TypeId × Value → H) :
    ReturnsInHanded {} Tryd.checked os 3 .any (fun w args => (Rows.intsOneSpec.pre enc Tryd.prog Tryd.f3 Rows.intsOneRow.domain false w args ∧ laidMetH Tryd.prog Rows.intsOneRow.laid w) ∧ sizedMet enc Tryd.prog Tryd.f3 (OpenSpec.ofChange Rows.intsOneSpec) false w args)
      (Rows.intsOneSpec.post enc Tryd.prog Tryd.f3 false true false false) := by
  refine returnsInHanded_of_change_and (C := Tryd.checked) (X := fun w _ => laidMetH Tryd.prog Rows.intsOneRow.laid w) (fun _ _ _ hh h => h.of_heap hh) own started (by kernel_rfl) Tryd.func3
    (ChangeSpec.witness_shaped (enc := enc) (C := Tryd.checked) (os := os) (X := fun w _ => laidMetH Tryd.prog Rows.intsOneRow.laid w) false (World.laidAll Tryd.prog os Rows.intsOneRow.laid) #[.int .i64 0, .int .i64 0, .int .u64 0, .int .u64 0] 8 (World.laidAll_os _ _ _)
      (World.shaped_of_ZipB (by kernel_rfl) (by kernel_rfl)) (by kernel_rfl) (by kernel_rfl) (by kernel_rfl)
      (by rw [MakeChecks.laidMetH_plain _ _ _ (by kernel_rfl)]; exact laidMet_laidAll _ (by kernel_rfl) (by kernel_rfl))) ?_
  intro W base args ds gs before hval0 hW hc _ hL _
  have hval : ∀ (j : Nat) t v, Tryd.f3.params[j]? = some t → args[j]? = some v → Value.okWide Tryd.prog W .any base t v := hval0
  have hW' := hW
  obtain ⟨p, q, hA0, hV, rfl, _, _⟩ := hW
  have hA : DataW.TrodAll enc Tryd.prog W 0 (fun _ => true) true Tryd.f3.params.toList args.toList ds p := hA0
  rw [Tryd.params3] at hA hval
  obtain ⟨v0, v1, v2, v3, d0, d1, d2, d3, p0, p1, p2, p3, rfl, rfl, rfl, h0, h1, h2, h3⟩ := trodAll_four hA
  obtain ⟨rfl, rfl⟩ := trodVars_none hV
  obtain ⟨a0, rfl, rfl, rfl, w0⟩ := open_int Tryd.underlying3 (hval 0 3 v0 rfl rfl) h0
  obtain ⟨a1, rfl, rfl, rfl, w1⟩ := open_int Tryd.underlying3 (hval 1 3 v1 rfl rfl) h1
  obtain ⟨a2, rfl, rfl, rfl, w2⟩ := open_int Tryd.underlying22 (hval 2 22 v2 rfl rfl) h2
  obtain ⟨a3, rfl, rfl, rfl, w3⟩ := open_int Tryd.underlying22 (hval 3 22 v3 rfl rfl) h3
  have b2 := bd_u64 w2
  have b3 := bd_u64 w3
  clear hA0 hval0
  simp only [List.append_nil] at hW'
  refine (PA.bodkinlaw02_IntsOne.calls 400 a0 a1 a2 a3 true W (amb_of hL) (PA.IntsOne_pure a0 a1 a2 a3 b2.1 b2.2 b3.1 b3.2)).mono fun e W' ⟨he, bel⟩ => ?_
  subst he
  exact ⟨_, rfl, _, _, _, [], _, [], hW', trodAll_mk1 (shut_bool Tryd.underlying4 _), trodAll_mk4 (shut_int Tryd.underlying3 w0) (shut_int Tryd.underlying3 w1) (shut_int Tryd.underlying22 w2) (shut_int Tryd.underlying22 w3), rfl, bel.frame _, fun h => by cases h⟩

theorem holds : Rows.IntsOneSaid :=
  OpenClaim.holds_of_wide 3 Tryd.f3 rfl rfl rfl rfl rfl rfl rfl ⟨rfl, rfl, rfl, rfl, rfl⟩ rfl rfl rfl rfl rfl (by kernel_rfl) Tryd.func3 (by kernel_rfl)
    (of_decide_eq_true (by kernel_rfl)) (by unfold Func.isWrapper; first | (rw [if_pos (by decide +kernel)]; kernel_rfl) | (rw [if_neg (by decide +kernel)]; exact ⟨rfl, rfl⟩))
    (fun os started H enc _ => lifted os started H enc)
theorem card_holds : Rows.IntsOneCardSaid :=
  Claim7.holds_tied_plain_at .later [] [.data] true (true, "0f791334992053aa4de196cff1d74734d7362c315d89020ce1a9bee822f5317c") false holds (fun _ h => by cases h) (by kernel_rfl) (fun _ h => by cases h) intsOne_row_tie rfl ⟨rfl, rfl⟩ (by kernel_rfl) rfl
    (fun f fn hf hfn => by
      obtain rfl : f = 3 := Option.some.inj ((show Tryd.prog.funcNamed "bodkin/bodkinlaw02.IntsOne" = some 3 by kernel_rfl).symm.trans hf) |>.symm
      obtain rfl : fn = Tryd.f3 := (Option.some.inj (Tryd.func3.symm.trans hfn)).symm
      exact ⟨by kernel_rfl, fun j t ht => by
        rw [Tryd.params3] at ht
        have hm : t ∈ [3, 3, 22, 22] := by simpa using Array.mem_of_getElem? ht
        have hall : ([3, 3, 22, 22].all fun u => !Tryd.prog.wantsStandIn u) = true := by kernel_rfl
        exact (show Tryd.prog.wantsStandIn t = false by simpa using List.all_eq_true.1 hall t hm)⟩)
    (by kernel_rfl)
#print axioms card_holds
end Go.Proofs.YtmbpgnmhfmcbmaaDoor.IntsOne
