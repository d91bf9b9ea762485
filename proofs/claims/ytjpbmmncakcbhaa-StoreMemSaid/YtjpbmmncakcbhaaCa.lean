/- Copying rows whose elements are of several plain cells: a law for the builtin copy, and what is kept; no condition. -/
import Derived.Test.YtjpbmmncakcbhaaPAx
import Derived.Laws.CopyOwn
namespace Go.Proofs.Ytjpbmmncakcbhaa.PA
open Go.RowKit Go.Proofs.YtjpbmmncakcbhaaW.PrintWords Go.Proofs.YtjpbmmncakcbhaaW.PrintLast Go.Proofs.YtjpbmmncakcbhaaW.PrintMore
set_option linter.unusedVariables false
set_option linter.unusedSimpArgs false

/-- A kind whose cells say all: no row inside. -/
structure Flat {α : Type} (d : Kd α) : Prop where
  mm : ∀ {W W' : World} {base base' : Nat} {ok ok' : Nat → Prop} {x : α} {c : List Value}, d.M W base ok x c → d.M W' base' ok' x c
  km : ∀ {W W' : World} {base : Nat} {ok : Nat → Prop} {x : α} {c : List Value}, d.K W x c → d.M W' base ok x c
  pos : 0 < d.sz
theorem flat_u8 : Flat (Kd.int .u8) := ⟨fun h => h, fun h => h, Nat.one_pos⟩
theorem flat_26 : Flat k26 := ⟨fun h => by rw [k26_openM h]; exact k26_mkM _ _ _ _, fun h => by rw [k26_open h]; exact k26_mkM _ _ _ _, Nat.succ_pos _⟩

theorem run_copy_rows {P : Program} (w : World) (dT sT ty elem : TypeId) (sz g o dLen dCap : Nat) (a : Addr) (sLen sCap : Nat) (cur : Array Value) (t : TypeId) (cs : List Value)
    (hu : P.underlying dT = some (.slice elem)) (hs : (P.info? elem).map (·.size) = some sz)
    (hg : w.heap[g]? = some (.cells cur t (0, 0))) (hn : cs.length = Nat.min sLen dLen * sz)
    (hsrc : ∀ j v, cs[j]? = some v → w.cell? (a.add j) = some v) (hfit : o + cs.length ≤ cur.size) (h1 : ∀ v ∈ cs, v.oneCell' = true) :
    (Builtin.copy_ #[dT, sT] ty #[.slice (some ⟨g, o, none⟩) dLen dCap, .slice (some a) sLen sCap]).run P w =
      .ok (goInt (Nat.min sLen dLen)) (w.setRow g (cur.toList.take o ++ cs ++ cur.toList.drop (o + cs.length)).toArray) := by
  have hl := run_loadCells_list (P := P) w a cs hsrc
  have hst := run_storeCells_at P g o t cs 0 cur w hg (by simpa using hfit) h1
  cases hq : P.info? elem with
  | none => simp [hq] at hs
  | some i =>
    have hi : i.size = sz := by simpa [hq] using hs
    simp [Builtin.copy_, run_underlying hu, Builtin.lenOf, Builtin.firstCells, sizeOf, typeInfo, hq, hi, ← hn, hl, hst]
theorem run_copy_zero {P : Program} (w : World) (dT sT ty elem : TypeId) (sz : Nat) (d a : Option Addr) (dLen dCap sLen sCap : Nat) (hu : P.underlying dT = some (.slice elem)) (hs : (P.info? elem).map (·.size) = some sz) (hn : Nat.min sLen dLen = 0) :
    (Builtin.copy_ #[dT, sT] ty #[.slice d dLen dCap, .slice a sLen sCap]).run P w = .ok (goInt 0) w := by
  cases hq : P.info? elem with
  | none => simp [hq] at hs
  | some i =>
    have hl : ∀ (x : Addr), (loadCells x 0).run P w = .ok #[] w := fun x => by simpa using run_loadCells_list (P := P) w x [] (by simp)
    cases d <;> cases a <;> simp [Builtin.copy_, run_underlying hu, Builtin.lenOf, Builtin.firstCells, sizeOf, typeInfo, hq, hn, storeCells, hl]

theorem splice_take {β : Type} (C cs : List β) (a N : Nat) (h : a + cs.length ≤ N) (hN : N ≤ C.length) : (C.take a ++ cs ++ C.drop (a + cs.length)).take N = (C.take N).take a ++ (cs ++ (C.take N).drop (a + cs.length)) := by
  rw [List.append_assoc, List.take_append, List.take_take, List.length_take, Nat.min_eq_left (show a ≤ C.length by omega), Nat.min_eq_right (show a ≤ N by omega), List.take_take, Nat.min_eq_left (show a ≤ N by omega)]
  congr 1
  rw [List.take_append, List.take_of_length_le (by omega)]
  congr 1
  rw [List.drop_take]
  congr 1
  omega

section
variable {α : Type} {d : Kd α} {e : Nat} {W : World} {base : Nat} {ok : Nat → Prop} {xs ys : List α}
/-- A piece of a row written over. -/
theorem R_splice (hF : Flat d) {g cap : Nat} (h : d.R e W base ok (.slice (some ⟨g, 0, none⟩) xs.length cap) xs) (o : Nat) {R : α → List Value → Prop} {cs : List Value} (hcs : Reps R d.sz ys cs) (hR : ∀ x c, R x c → d.M W base (fun _ => False) x c) (hfit : o + ys.length ≤ xs.length) :
    ∃ cur, W.heap[g]? = some (.cells cur e (0, 0)) ∧ o * d.sz + cs.length ≤ cur.size ∧
      d.R e (W.setRow g (cur.toList.take (o * d.sz) ++ cs ++ cur.toList.drop (o * d.sz + cs.length)).toArray) base ok (.slice (some ⟨g, 0, none⟩) xs.length cap) (xs.take o ++ (ys ++ xs.drop (o + ys.length))) ∧
      W.grownBy (W.setRow g (cur.toList.take (o * d.sz) ++ cs ++ cur.toList.drop (o * d.sz + cs.length)).toArray) (some g) := by
  obtain ⟨h0, inner, ⟨ho1, ho2⟩, hr⟩ := h
  rcases ho2 with ⟨hv, _⟩ | ⟨g', cap', cur, hv, hb, hh, hnc, hcm, hsz, htk⟩
  · cases hv
  injection hv with ha _ hc
  injection ha with ha
  injection ha with hg
  subst hg; subst hc
  have e1 : xs.length * d.sz ≤ cap * d.sz := Nat.mul_le_mul_right _ hnc
  have e2 : (o + ys.length) * d.sz ≤ xs.length * d.sz := Nat.mul_le_mul_right _ hfit
  have e3 : cs.length = ys.length * d.sz := hcs.1
  rw [Nat.add_mul] at e2
  have hfit2 : o * d.sz + cs.length ≤ cur.size := by omega
  have hln : (xs.take o ++ (ys ++ xs.drop (o + ys.length))).length = xs.length := by
    simp only [List.length_append, List.length_take, List.length_drop]; omega
  refine ⟨cur, hh, hfit2, ⟨h0, inner.take (o * d.sz) ++ (cs ++ inner.drop ((o + ys.length) * d.sz)), ⟨?_, .inr ⟨g, cap, _, by rw [hln], hb, setRow_heap W g cur _ e (0, 0) hh, by rw [hln]; exact hnc, hcm, ?_, ?_⟩⟩, ?_⟩, ⟨rfl, rfl, rfl, by simp [World.setRow], fun k _ hk => setRow_other W g k _ (fun he => hk (by rw [he]))⟩⟩
  · rw [hln]
    simp only [List.length_append, List.length_take, List.length_drop, ho1, Nat.add_mul]; omega
  · simp only [List.size_toArray, List.length_append, List.length_take, List.length_drop, Array.length_toList]; omega
  · rw [hln]
    rw [← htk]
    rw [splice_take cur.toList cs (o * d.sz) (xs.length * d.sz) (by omega) (by rw [Array.length_toList (xs := cur)]; omega), Nat.add_mul, ← e3]
  · have hr' : Reps (fun x c => d.M W base (fun k => ok k ∧ some k ≠ (Value.slice (some ⟨g, 0, none⟩) xs.length cap).ownBlock) x c) d.sz xs inner := hr
    refine Kd.reps_append ((Kd.reps_take hr (by omega)).imp_ (fun _ _ hp => hF.mm hp)) (Kd.reps_append (hcs.imp_ (fun _ _ hp => hF.mm (hR _ _ hp))) ?_)
    exact (Kd.reps_drop hr).imp_ (fun _ _ hp => hF.mm hp)

theorem wpList_copy_flat {P : Program} {ops : Array Oper} {rest : List Oper} {o : Oper} {a : Act} {Q : Exit → Act → World → Prop} (hF : Flat d) (hgd : o.guard = none) (s x : Operand) (t t' : TypeId)
    (ho : o.op = .call { callee := .builtin .copy, args := #[s, x], argTypes := #[t, t'] }) (ht : P.underlying t = some (.slice e)) (hinfo : (P.info? e).map (·.size) = some d.sz)
    (Ab : Option Addr) (cb : Nat) (xs ys : List α) (off : Nat) (A : Option Addr) (m c : Nat)
    (HO : d.R e W base ok (.slice Ab xs.length cb) xs) (hs : a.eval s = .slice (if cb = off then Ab else Ab.map (·.add (off * d.sz))) (xs.length - off) (cb - off))
    (hx : a.eval x = .slice A m c) (HR : d.C W A m ys) (hfit : off + m ≤ xs.length)
    (h : ∀ w1, d.R e w1 base ok (.slice Ab xs.length cb) (xs.take off ++ (ys ++ xs.drop (off + m))) → W.grownBy w1 (Value.slice Ab xs.length cb).ownBlock → wpList P ops Q rest (a.put o.dst (.int .i64 m)) w1) :
    wpList P ops Q (o :: rest) a W := by
  have hm : ys.length = m := HR.1
  have hmin : Nat.min m (xs.length - off) = m := Nat.min_eq_left (by omega)
  have fin : ∀ w1, (Builtin.copy_ #[t, t'] o.type #[.slice (if cb = off then Ab else Ab.map (·.add (off * d.sz))) (xs.length - off) (cb - off), .slice A m c]).run P W = .ok (goInt m) w1 → d.R e w1 base ok (.slice Ab xs.length cb) (xs.take off ++ (ys ++ xs.drop (off + m))) → W.grownBy w1 (Value.slice Ab xs.length cb).ownBlock → wpList P ops Q (o :: rest) a W := by
    intro w1 hr hrow hg
    refine wpList_plain hgd fun K hK => ?_
    unfold Oper.wp execOp
    simp only [ho, resolve, invoke, builtin, Sem.run_bind, Sem.run_pure, Result.andThen_ok, List.map_toArray, List.map_cons, List.map_nil, hs, hx, hr]
    exact hK _ _ (h w1 hrow hg)
  rcases Nat.eq_zero_or_pos m with h0 | hp
  · refine fin W ?_ ?_ (World.grownBy.refl W _)
    · have := run_copy_zero (P := P) W t t' o.type e d.sz (if cb = off then Ab else Ab.map (·.add (off * d.sz))) A (xs.length - off) (cb - off) m c ht hinfo (by rw [hmin]; exact h0)
      rw [h0] at this ⊢; exact this
    · have : ys = [] := List.eq_nil_of_length_eq_zero (by omega)
      subst this
      rw [h0]; simpa using HO
  · obtain ⟨g, cap, hv, hb, hlt, cells, hcells⟩ := Kd.R_form HO (by omega)
    injection hv with ha _ hc
    subst ha; subst hc
    obtain ⟨ad, hA, _⟩ := HR.2.2 hp
    subst hA
    obtain ⟨cs, hreps, hsrc⟩ := ReadsRow.inner_ HR
    obtain ⟨cur, hh, hfit2, hR2, hgr⟩ := R_splice hF HO off hreps (fun _ _ hk => hF.km hk) (by omega)
    have hcap : xs.length ≤ cb := (Kd.R_reads' HO).2.1
    have h1 : ∀ u ∈ cs, u.oneCell' = true := Kd.reps_one hreps hF.pos (fun _ _ hk => d.K_one hk)
    refine fin _ ?_ (by rw [← hm]; exact hR2) (by simpa [Value.ownBlock] using hgr)
    rw [if_neg (by omega)]
    have := run_copy_rows (P := P) W t t' o.type e d.sz g (off * d.sz) (xs.length - off) (cb - off) ad m c cur e cs ht hinfo hh (by rw [hmin, hreps.1, hm]) hsrc hfit2 h1
    rw [hmin] at this
    have hadd : (⟨g, 0, none⟩ : Addr).add (off * d.sz) = ⟨g, off * d.sz, none⟩ := by unfold Addr.add; split <;> simp_all
    simp only [Option.map_some, hadd]
    exact this
end
end Go.Proofs.Ytjpbmmncakcbhaa.PA
