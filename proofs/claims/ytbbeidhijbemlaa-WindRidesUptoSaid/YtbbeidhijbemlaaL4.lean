/- What the program's functions compute, shown of their code (L4). Own text; parts are printed by a program of this claim's author. -/
import Derived.Test.YtbbeidhijbemlaaWd
import Derived.Deep.CondSized
/- What the bound on the bulk of what was handed gives: lengths. (Own text; bulk_one, bulk_part, bulk_len after UptoLemmas.) -/

namespace Go.Proofs.Ytbbeidhijbemlaa
set_option linter.unusedVariables false
set_option linter.unusedSimpArgs false
set_option linter.unusedSectionVars false
open Go.Bx Go.Bx.Wind
open Go.Proofs Go.ChangeShapes Go.WideShapes Go.ChangeAt Go.RowKit
set_option linter.unusedVariables false

theorem bulk_one {H : Type} (d : DataW H) : 1 ≤ Rows.uptoBulk d := by
  cases d with
  | lit l => cases l <;> simp [Rows.uptoBulk]
  | _ => simp [Rows.uptoBulk]
theorem bulk_part {H : Type} {d : DataW H} {l : List (DataW H)} (h : d ∈ l) : Rows.uptoBulk d ≤ Rows.uptoBulkAll l := by
  induction l with
  | nil => cases h
  | cons x r ih =>
    simp only [Rows.uptoBulkAll]
    cases List.mem_cons.1 h with
    | inl e => subst e; omega
    | inr e => have := ih e; omega
theorem bulk_len {H : Type} (l : List (DataW H)) : l.length ≤ Rows.uptoBulkAll l := by
  induction l with
  | nil => simp [Rows.uptoBulkAll]
  | cons x r ih => have := bulk_one x; simp only [Rows.uptoBulkAll, List.length_cons]; omega
theorem bulk_bound {H : Type} {l : List (DataW H)} (hk : Rows.uptoSmall H l = true) : Rows.uptoBulkAll l ≤ 1048576 := of_decide_eq_true hk
theorem bulk_at {H : Type} {d : DataW H} {l : List (DataW H)} (hk : Rows.uptoSmall H l = true) (h : d ∈ l) : Rows.uptoBulk d ≤ 1048576 := Nat.le_trans (bulk_part h) (bulk_bound hk)
theorem ints_bulk {H : Type} {n : Nat} {l : List Int} {d : DataW H} (h : Shape tab (n + 2) 25 [.sl (l.map (cInt .i64))] d) : l.length ≤ Rows.uptoBulk d := by
  have h' : ∃ es, ([.sl (l.map (cInt .i64))] : Cs) = [.sl es] ∧ (∀ r, tab 3 = some r → es.length * r.bytes ≤ reachBytes) ∧ ((es = [] ∧ d = .nil) ∨ ∃ ds rest, d = .slice ds rest ∧ ds.length = es.length ∧ ∀ (i : Nat) c y, es[i]? = some c → ds[i]? = some y → Shape tab (n + 1) 3 c y) := h
  obtain ⟨es, h1, _, h3⟩ := h'
  have he : l.map (cInt .i64) = es := by simpa using h1
  have hl : l.length = es.length := by rw [← he]; simp
  rcases h3 with ⟨rfl, _⟩ | ⟨ds, rest, rfl, h4, _⟩
  · simp at hl; subst hl; simp
  · have := bulk_len ds
    simp only [Rows.uptoBulk]; omega
theorem trip_bulk {H : Type} {t : Trip} {d : DataW H} (h : Shape tab 8 31 (cTrip t) d) : t.In.length ≤ Rows.uptoBulk d := by
  have h' : ∃ ds, d = .agg ds ∧ ShapeF (fun t p (d : DataW H) => Shape tab 7 t p d) [(0, 3), (1, 25), (2, 25)] (cTrip t) ds := h
  obtain ⟨ds, rfl, hh⟩ := h'; clear h
  obtain ⟨p, q, d0, r, e0, rfl, s0, h⟩ := hh
  obtain ⟨p1, q1, d1, r1, rfl, rfl, s1, h⟩ := h
  obtain ⟨p2, q2, d2, r2, rfl, rfl, s2, h⟩ := h
  obtain ⟨rfl, rfl⟩ := h
  obtain ⟨k, rfl, _⟩ := shape_int (T := tab) (t := 3) (k := .i64) rfl s0
  obtain ⟨l, rfl, hl⟩ := shape_ints s1
  obtain ⟨m, rfl, hm⟩ := shape_ints s2
  have := ints_bulk s2
  have e : (t.In.map (cInt .i64)) = m.map (cInt .i64) := by simp [cTrip, cInt] at e0; simpa [cInt] using e0.2.2
  have hl : t.In.length = m.length := by have := congrArg List.length e; simpa using this
  simp only [Rows.uptoBulk, Rows.uptoBulkAll]; omega
end Go.Proofs.Ytbbeidhijbemlaa

/- WindRides: for every input that the statement speaks of the law returns true and leaves what it was handed. (Own text.) -/
namespace Go.Proofs.Ytbbeidhijbemlaa
set_option linter.unusedVariables false
set_option linter.unusedSimpArgs false
set_option linter.unusedSectionVars false
open Go.Bx Go.Bx.Wind
open Go.Proofs Go.ChangeShapes Go.WideShapes Go.ChangeAt Go.RowKit
set_option linter.unusedVariables false

set_option maxRecDepth 100000 in
theorem lifted4 (os : Os) (started : os.Started) (H : Type) (enc : TypeId × Value → H) (F : Stop.Interp) :
    ReturnsInHanded {} Try.checked os 4 .any ((Rows.OpenSpec.upto Rows.windRidesSpec).pre6 enc Try.prog Try.f4 Rows.windRidesUptoRow.domain false) (((Rows.OpenSpec.upto Rows.windRidesSpec).at F).post enc Try.prog Try.f4 false true false false) := by
  refine returnsInHanded_of_cond_sized (C := Try.checked) (s := Rows.OpenSpec.upto Rows.windRidesSpec) (k := Rows.uptoSmall) rfl own_ started (by kernel_rfl) Try.func4
    (OpenSpec.witness (enc := enc) (C := Try.checked) (s := Rows.OpenSpec.upto Rows.windRidesSpec) (k := Rows.uptoSmall) rfl false ⟨#[], #[.slice none 0 0, .agg #[.int .i64 0, .slice none 0 0, .slice none 0 0]], []⟩ 8 (by kernel_rfl) (by kernel_rfl) (by kernel_rfl)
      (x := ([.nil, .agg [.lit (.int .i64 0), .nil, .nil]], [], [])) (by kernel_rfl) rfl (by kernel_rfl)) ?_
  intro W base args ds gs before hval0 hW hcnd hk hsz0 _
  have hsz : (DataW.weightsEach Try.prog (Try.f4.params.toList ++ (Rows.OpenSpec.upto Rows.windRidesSpec).bare.plain.varTypes Try.prog) (ds ++ gs)).all (· ≤ reachBytes) = true := hsz0
  have hval : ∀ (j : Nat) t v, Try.f4.params[j]? = some t → args[j]? = some v → Value.okWide Try.prog W .any base t v := hval0
  have hW' := hW
  obtain ⟨p, q, hA0, hV, rfl, hfz, hnd⟩ := hW
  have hA : DataW.TrodAll enc Try.prog W 0 (fun _ => true) true Try.f4.params.toList args.toList ds p := hA0
  rw [Try.params4] at hA hval hsz
  obtain ⟨v0, vs0, d0, ds0, p0, q0, hargs, rfl, rfl, h0, r0⟩ := trodAll_cons hA
  obtain ⟨v1, vs1, d1, ds1, p1, q1, rfl, rfl, rfl, h1, r1⟩ := trodAll_cons r0
  obtain ⟨rfl, rfl, rfl⟩ := trodAll_nil r1
  obtain rfl : args = #[v0, v1] := by cases args; simp_all
  obtain ⟨rfl, rfl⟩ := trodVars_none hV
  have lt0 : ∀ x ∈ p0, x.block < W.heap.size := by obtain ⟨m, hm⟩ := h0; exact DataW.trod_lt m _ _ _ hm
  have k0 := h0
  have lt1 : ∀ x ∈ p1, x.block < W.heap.size := by obtain ⟨m, hm⟩ := h1; exact DataW.trod_lt m _ _ _ hm
  have k1 := h1
  have wt : ∀ (j : Nat) t (d : DataW H), ([25, 31] : List Nat)[j]? = some t → [d0, d1][j]? = some d → ∀ z ∈ d.weights Try.prog t, z ≤ reachBytes := by
    intro j t d ht hd z hz
    have := List.all_eq_true.1 hsz z (DataW.weights_mem_each (j := j) (t := t) (d := d) (by rw [List.getElem?_append_left]; exact ht; exact (List.getElem?_eq_some_iff.1 ht).1) (by rw [List.getElem?_append_left]; exact hd; exact (List.getElem?_eq_some_iff.1 hd).1) z hz)
    simpa using this
  obtain ⟨a0, l0, c0, rfl⟩ := okWide_slice Try.underlying25 (hval 0 25 v0 rfl rfl)
  obtain ⟨c1, rfl, _⟩ := okWide_struct Try.underlying31 (hval 1 31 v1 rfl rfl)
  obtain ⟨m0, hm0⟩ := h0
  obtain ⟨xs0, e0, _, s0⟩ := read_rep tabOK 8 25 (by decide) m0 _ _ hm0 (wt 0 25 d0 rfl rfl)
  obtain ⟨x0, rfl, b0⟩ := shape_ints s0
  obtain ⟨m1, hm1⟩ := h1
  obtain ⟨xs1, e1, _, s1⟩ := read_rep tabOK 8 31 (by decide) m1 _ _ hm1 (wt 1 31 d1 rfl rfl)
  obtain ⟨x1, rfl, b1, b1'⟩ := shape_trip s1
  have hcall := f4_ok x0 x1 true (f4_eq x0 x1 (by have := ints_bulk (d := d0) s0; have := bulk_at hk (d := d0) (by simp); omega) (Nat.le_trans b1 (by decide)) (by have := trip_bulk (d := d1) s1; have := bulk_at hk (d := d1) (by simp); omega))
  refine (law_pure (E := E) (W := W) (fun _ => .junk) hcall ((e0).append ((Reps.cons (Rep.to_agg (by first | exact e1 | simpa [Value.cells, cTrip] using e1)) (Reps.nil _))))).mono fun e W' ⟨he, bel⟩ => ?_
  subst he
  exact ⟨_, rfl, _, _, _, [], _, [], hW', trodAll_mk1 (shut_bool Try.underlying4 _), (trodAll_cons_mk (Below.trod laidOut (by kernel_rfl) (of_decide_eq_true (by kernel_rfl)) k0 bel lt0) (trodAll_cons_mk (Below.trod laidOut (by kernel_rfl) (of_decide_eq_true (by kernel_rfl)) k1 bel lt1) trodAll_mk0)), rfl, bel.frame _, fun h => by cases h⟩

theorem over4 : Rows.windRidesUptoRow.holds Try.pinned (Rows.OpenSpec.upto Rows.windRidesSpec) :=
  OpenClaim.holds_of_cond 4 Try.f4 rfl rfl rfl rfl rfl rfl rfl ⟨rfl, rfl, rfl, rfl, rfl⟩ rfl rfl rfl rfl rfl (by kernel_rfl) Try.func4 (by kernel_rfl)
    (of_decide_eq_true (by kernel_rfl)) (by unfold Func.isWrapper; first | (rw [if_pos (by decide +kernel)]; kernel_rfl) | (rw [if_neg (by decide +kernel)]; exact ⟨rfl, rfl⟩))
    (fun os started H enc _ F => lifted4 os started H enc F)
/-- WindRides, as the second form says. -/
theorem windRidesUpto_holds : Rows.WindRidesUptoSaid := over4
#print axioms windRidesUpto_holds
end Go.Proofs.Ytbbeidhijbemlaa
