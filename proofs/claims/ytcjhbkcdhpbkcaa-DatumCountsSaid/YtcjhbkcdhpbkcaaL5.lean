/- What the program's functions compute, shown of their code (L5). Own text; parts are printed by a program of this claim's author. -/
import Derived.Test.YtcjhbkcdhpbkcaaWd
import Derived.Test.YtcjhbkcdhpbkcaaRows
import Derived.WalkKit
import Derived.ProofKit
import Derived.OpenShut
import Derived.ShutString
import Derived.ChangeOld
import Derived.SizedLaws
/- DatumCounts: for every input that the statement speaks of the law returns true and leaves what it was handed. (Own text.) -/
namespace Go.Proofs.Ytcjhbkcdhpbkcaa
set_option linter.unusedVariables false
set_option linter.unusedSimpArgs false
set_option linter.unusedSectionVars false
open Go.Bx Go.Bx.Dat
open Go.Proofs Go.ChangeShapes Go.WideShapes Go.ChangeAt Go.RowKit
set_option linter.unusedVariables false

theorem own_ : ownKnob Try.prog.godebug = none := by kernel_rfl
theorem laidOut : laidOutB Try.prog = true := by kernel_rfl
set_option maxRecDepth 100000 in
theorem lifted5 (os : Os) (started : os.Started) (H : Type) (enc : TypeId × Value → H) :
    ReturnsInHanded {} Try.checked os 5 .any (Rows.datumCountsSpec.pre6 enc Try.prog Try.f5 Rows.datumCountsRow.domain false) (Rows.datumCountsSpec.post enc Try.prog Try.f5 false true false false) := by
  refine returnsInHanded_of_change_sized (C := Try.checked) own_ started (by kernel_rfl) Try.func5
    (ChangeSpec.witness6 (enc := enc) (C := Try.checked) false ⟨#[], #[.agg #[.int .i64 0, .bool false, .slice none 0 0, .slice none 0 0, .bool false, .string ByteArray.empty, .slice none 0 0, .bool false], .agg #[.int .i64 0, .bool false, .slice none 0 0, .slice none 0 0, .bool false, .string ByteArray.empty, .slice none 0 0, .bool false]], []⟩ 8 (by kernel_rfl) (by kernel_rfl) (by kernel_rfl) (by kernel_rfl)) ?_
  intro W base args ds gs before hval0 hW hcnd hsz0 _
  have hsz : (DataW.weightsEach Try.prog (Try.f5.params.toList ++ Rows.datumCountsSpec.plain.varTypes Try.prog) (ds ++ gs)).all (· ≤ reachBytes) = true := hsz0
  have hval : ∀ (j : Nat) t v, Try.f5.params[j]? = some t → args[j]? = some v → Value.okWide Try.prog W .any base t v := hval0
  have hW' := hW
  obtain ⟨p, q, hA0, hV, rfl, hfz, hnd⟩ := hW
  have hA : DataW.TrodAll enc Try.prog W 0 (fun _ => true) true Try.f5.params.toList args.toList ds p := hA0
  rw [Try.params5] at hA hval hsz
  obtain ⟨v0, vs0, d0, ds0, p0, q0, hargs, rfl, rfl, h0, r0⟩ := trodAll_cons hA
  obtain ⟨v1, vs1, d1, ds1, p1, q1, rfl, rfl, rfl, h1, r1⟩ := trodAll_cons r0
  obtain ⟨rfl, rfl, rfl⟩ := trodAll_nil r1
  obtain rfl : args = #[v0, v1] := by cases args; simp_all
  obtain ⟨rfl, rfl⟩ := trodVars_none hV
  have lt0 : ∀ x ∈ p0, x.block < W.heap.size := by obtain ⟨m, hm⟩ := h0; exact DataW.trod_lt m _ _ _ hm
  have k0 := h0
  have lt1 : ∀ x ∈ p1, x.block < W.heap.size := by obtain ⟨m, hm⟩ := h1; exact DataW.trod_lt m _ _ _ hm
  have k1 := h1
  have wt : ∀ (j : Nat) t (d : DataW H), ([28, 28] : List Nat)[j]? = some t → [d0, d1][j]? = some d → ∀ z ∈ d.weights Try.prog t, z ≤ reachBytes := by
    intro j t d ht hd z hz
    have := List.all_eq_true.1 hsz z (DataW.weights_mem_each (j := j) (t := t) (d := d) (by rw [List.getElem?_append_left]; exact ht; exact (List.getElem?_eq_some_iff.1 ht).1) (by rw [List.getElem?_append_left]; exact hd; exact (List.getElem?_eq_some_iff.1 hd).1) z hz)
    simpa using this
  obtain ⟨c0, rfl, _⟩ := okWide_struct Try.underlying28 (hval 0 28 v0 rfl rfl)
  obtain ⟨c1, rfl, _⟩ := okWide_struct Try.underlying28 (hval 1 28 v1 rfl rfl)
  obtain ⟨m0, hm0⟩ := h0
  obtain ⟨xs0, e0, _, s0⟩ := read_repR tabOK okD_ok m0 28 rfl _ _ hm0 (wt 0 28 d0 rfl rfl)
  obtain ⟨x0, rfl, b0⟩ := shape_datum _ _ _ s0
  obtain ⟨m1, hm1⟩ := h1
  obtain ⟨xs1, e1, _, s1⟩ := read_repR tabOK okD_ok m1 28 rfl _ _ hm1 (wt 1 28 d1 rfl rfl)
  obtain ⟨x1, rfl, b1⟩ := shape_datum _ _ _ s1
  have hcall := f5_ok x0 x1 b0 b1
  refine (law_pure (E := E) (W := W) (fun _ => .junk) hcall (((Reps.cons (Rep.to_agg (by first | exact e0 | simpa [Value.cells] using e0)) (Reps.nil _))).append ((Reps.cons (Rep.to_agg (by first | exact e1 | simpa [Value.cells] using e1)) (Reps.nil _))))).mono fun e W' ⟨he, bel⟩ => ?_
  subst he
  exact ⟨_, rfl, _, _, _, [], _, [], hW', trodAll_mk1 (shut_bool Try.underlying4 _), (trodAll_cons_mk (Below.trod laidOut (by kernel_rfl) (of_decide_eq_true (by kernel_rfl)) k0 bel lt0) (trodAll_cons_mk (Below.trod laidOut (by kernel_rfl) (of_decide_eq_true (by kernel_rfl)) k1 bel lt1) trodAll_mk0)), rfl, bel.frame _, fun h => by cases h⟩

theorem over5 : Rows.datumCountsRow.holds Try.pinned (OpenSpec.ofChange Rows.datumCountsSpec) :=
  OpenClaim.holds_of_wide 5 Try.f5 rfl rfl rfl rfl rfl rfl rfl ⟨rfl, rfl, rfl, rfl, rfl⟩ rfl rfl rfl rfl rfl (by kernel_rfl) Try.func5 (by kernel_rfl)
    (of_decide_eq_true (by kernel_rfl)) (by unfold Func.isWrapper; first | (rw [if_pos (by decide +kernel)]; kernel_rfl) | (rw [if_neg (by decide +kernel)]; exact ⟨rfl, rfl⟩))
    (fun os started H enc _ => lifted5 os started H enc)
/-- DatumCounts, as the statement says. -/
theorem datumCounts_holds : Rows.DatumCountsSaid := over5
#print axioms datumCounts_holds
end Go.Proofs.Ytcjhbkcdhpbkcaa
