/- What the program's functions compute, shown of their code (Wa). Own text; parts are printed by a program of this claim's author. -/
import Derived.Test.YtbbeidhijbemlaaBc
import Derived.Test.YtbbeidhijbemlaaChecked
/- The table of the program's types, printed by tab.py; the evaluator's givens. (Own text.) -/
namespace Go.Bx.WindW
set_option linter.unusedVariables false
set_option linter.unusedSimpArgs false
set_option linter.unusedSectionVars false
open Go.Proofs
def tab : Tab
  | 3 => some { desc := .int .i64, sz := 1, bytes := 8, zero := [.int .i64 0], eq := false, lv := [none] }
  | 4 => some { desc := .bool, sz := 1, bytes := 1, zero := [.bool false], eq := false, lv := [none] }
  | 22 => some { desc := .slice 44, sz := 1, bytes := 24, zero := [.slice none 0 0], eq := false, lv := [some 3] }
  | 25 => some { desc := .slice 3, sz := 1, bytes := 24, zero := [.slice none 0 0], eq := false, lv := [some 1] }
  | 31 => some { desc := .struct [(0, 3), (1, 25), (2, 25)], sz := 3, bytes := 56, zero := [.int .i64 0, .slice none 0 0, .slice none 0 0], eq := false, lv := [none, some 1, some 1] }
  | 34 => some { desc := .int .i64, sz := 1, bytes := 8, zero := [.int .i64 0], eq := false, lv := [none] }
  | 44 => some { desc := .struct [(0, 3), (1, 3), (2, 25)], sz := 3, bytes := 40, zero := [.int .i64 0, .int .i64 0, .slice none 0 0], eq := false, lv := [none, none, some 1] }
  | 45 => some { desc := .slice 48, sz := 1, bytes := 24, zero := [.slice none 0 0], eq := false, lv := [some 1] }
  | 48 => some { desc := .struct [(0, 3)], sz := 1, bytes := 8, zero := [.int .i64 0], eq := true, lv := [none] }
  | _ => none
theorem tab3 : tab 3 = some { desc := .int .i64, sz := 1, bytes := 8, zero := [.int .i64 0], eq := false, lv := [none] } := rfl
theorem tab4 : tab 4 = some { desc := .bool, sz := 1, bytes := 1, zero := [.bool false], eq := false, lv := [none] } := rfl
theorem tab22 : tab 22 = some { desc := .slice 44, sz := 1, bytes := 24, zero := [.slice none 0 0], eq := false, lv := [some 3] } := rfl
theorem tab25 : tab 25 = some { desc := .slice 3, sz := 1, bytes := 24, zero := [.slice none 0 0], eq := false, lv := [some 1] } := rfl
theorem tab31 : tab 31 = some { desc := .struct [(0, 3), (1, 25), (2, 25)], sz := 3, bytes := 56, zero := [.int .i64 0, .slice none 0 0, .slice none 0 0], eq := false, lv := [none, some 1, some 1] } := rfl
theorem tab34 : tab 34 = some { desc := .int .i64, sz := 1, bytes := 8, zero := [.int .i64 0], eq := false, lv := [none] } := rfl
theorem tab44 : tab 44 = some { desc := .struct [(0, 3), (1, 3), (2, 25)], sz := 3, bytes := 40, zero := [.int .i64 0, .int .i64 0, .slice none 0 0], eq := false, lv := [none, none, some 1] } := rfl
theorem tab45 : tab 45 = some { desc := .slice 48, sz := 1, bytes := 24, zero := [.slice none 0 0], eq := false, lv := [some 1] } := rfl
theorem tab48 : tab 48 = some { desc := .struct [(0, 3)], sz := 1, bytes := 8, zero := [.int .i64 0], eq := true, lv := [none] } := rfl
theorem tabOK : TabOK Try.prog tab := by
  intro t r h
  unfold tab at h
  split at h
  · cases h; exact RowOK.of Try.underlying3 rfl (z := (.int .i64 0)) (by kernel_rfl) rfl rfl (fun h => by cases h)
  · cases h; exact RowOK.of Try.underlying4 rfl (z := (.bool false)) (by kernel_rfl) rfl rfl (fun h => by cases h)
  · cases h; exact RowOK.of Try.underlying22 rfl (z := (.slice none 0 0)) (by kernel_rfl) rfl rfl (fun h => by cases h)
  · cases h; exact RowOK.of Try.underlying25 rfl (z := (.slice none 0 0)) (by kernel_rfl) rfl rfl (fun h => by cases h)
  · cases h; exact RowOK.of Try.underlying31 ⟨_, rfl, rfl⟩ (z := .agg #[.int .i64 0, .slice none 0 0, .slice none 0 0]) (by kernel_rfl) rfl rfl (fun h => by cases h)
  · cases h; exact RowOK.of Try.underlying34 rfl (z := (.int .i64 0)) (by kernel_rfl) rfl rfl (fun h => by cases h)
  · cases h; exact RowOK.of Try.underlying44 ⟨_, rfl, rfl⟩ (z := .agg #[.int .i64 0, .int .i64 0, .slice none 0 0]) (by kernel_rfl) rfl rfl (fun h => by cases h)
  · cases h; exact RowOK.of Try.underlying45 rfl (z := (.slice none 0 0)) (by kernel_rfl) rfl rfl (fun h => by cases h)
  · cases h; exact RowOK.of Try.underlying48 ⟨_, rfl, rfl⟩ (z := .agg #[.int .i64 0]) (by kernel_rfl) rfl rfl (fun _ => ⟨by kernel_rfl, by kernel_rfl, _, Try.underlying48, by simp⟩)
  · cases h

/-- slices.Clone, told by a contract of its own (F25). -/
def ext : CI := fun f args σ => if f = 25 then (match args with
  | [.sl es] => if (es.all fun c => c.length == 1) = true ∧ es.length * 8 ≤ 140737488355328 then some (.own false 1 es, σ, none) else none
  | _ => none) else none

noncomputable def E : Env := ⟨Try.prog, tab, fun _ => .junk, ext, fun f => f == 26⟩
theorem E_T : E.T = tab := rfl
theorem E_gl : E.gl = fun _ => .junk := rfl
theorem E_br : E.br = fun f => f == 26 := rfl
theorem mixed : Try.prog.follows .mixedOrders = true := by kernel_rfl
theorem names : ∀ (f : Nat) fn, Try.prog.funcs[f]? = some fn → fn.name ≠ "runtime.NumGoroutine" := by
  have h : (Try.prog.funcs.all fun fn => fn.name != "runtime.NumGoroutine") = true := by kernel_rfl
  intro f fn hf
  have := Array.all_eq_true_iff_forall_mem.1 h fn (Array.mem_of_getElem? hf)
  simpa using this
end Go.Bx.WindW

/- sibylref15.Same. (Own text.) -/
namespace Go.Bx.WindW
set_option linter.unusedVariables false
set_option linter.unusedSimpArgs false
set_option linter.unusedSectionVars false
open Go.Proofs
set_option linter.unusedSimpArgs false
set_option linter.unusedVariables false
set_option maxRecDepth 10000

theorem loop9 (a b : List Int) (hab : a.length = b.length) (hlen : a.length ≤ 140737488355328) (σ : Store) (low : Option Nat) (c0 : Nat) (R : Option (Ex × FS) → Prop) : ∀ (k i : Nat), i + k = a.length → ∀ (x2 x3 x4 x6 x7 x8 x9 x10 x11 x12 x13 x14 x15 x16 x17 x18 x19 x20 x21 x22 x23 x24 x25 : AV),
    (∀ y2 y3 y5 y6 y7 y8 y9 y10 y11 y12 y13 y14 y15 y16 y17 y18 y19 y20 y21 y22 y23 y24 y25 : AV, R (some (if a.drop i = b.drop i then .exit 0 else .ret, ⟨[ints a, ints b, y2, y3, if a.drop i = b.drop i then x4 else .v (.bool false), y5, y6, y7, y8, y9, y10, y11, y12, y13, y14, y15, y16, y17, y18, y19, y20, y21, y22, y23, y24, y25], σ, low, c0⟩))) →
    R (ev1 E (callL E) (taskL E) (.loop (lb Try.f9 0)) ⟨[ints a, ints b, x2, x3, x4, .v (.int .i64 i), x6, x7, x8, x9, x10, x11, x12, x13, x14, x15, x16, x17, x18, x19, x20, x21, x22, x23, x24, x25], σ, low, c0⟩)
  | 0, i, hk, x2, x3, x4, x6, x7, x8, x9, x10, x11, x12, x13, x14, x15, x16, x17, x18, x19, x20, x21, x22, x23, x24, x25, hR => by
    have h0 : ¬ ((i : Int) < (a.length : Int)) := by omega
    have hd : a.drop i = b.drop i := by rw [List.drop_of_length_le (by omega), List.drop_of_length_le (by omega)]
    rw [if_pos hd, if_pos hd] at hR
    apply loop_outR (ex := .exit 0)
    case h =>
      simp only [Try.f9, lb, Option.getD_some, loopsOf, List.nil_append, List.append_nil, List.cons_append, List.getElem?_cons_zero, List.getElem?_cons_succ]
      simp (decide := true) only [ev1_skip, ev1_label, ev1_exit, ev1_goto, ev1_ret, ev1_region, ev1_seq, ev1_cond, ev1_block, andThen_nrm, andThen_exit, andThen_goto, andThen_ret, pick_bool, blk_nrm, blk_ret, blk_goto, blk_exit, evRegion, evOps, stepG, stepO, wantedAV, evO, evA, evB, evOp, putTm, E_T, E_gl, E_br, List.toList_toArray, List.getD_cons_zero, List.getD_cons_succ, List.set, Option.map_some, lenAV, omin_right, omin_left, cut_none, tdesc, tab3, tab4, tab22, tab25, tab31, tab34, tab44, tab45, tab48, List.getElem?_toArray, List.getElem?_cons_zero, List.getElem?_cons_succ, Option.bind_some, List.length_map, evBin, intBin, bothNil, constOp, Bool.false_and, Bool.not_true, Bool.and_false, Bool.false_eq_true, if_false, if_true, Bool.or_false, Bool.not_false, Bool.and_true, Bool.true_and, indexAddrAV, ints, Option.isSome_none, Option.isSome_some, List.getElem?_map, List.length_cons, List.length_nil, evLoad, ofCells, TD.isAgg, decide_eq_true_eq, reduceIte, List.take_succ_cons, List.take_zero, List.drop_zero, List.drop_succ_cons, Nat.reduceAdd, Nat.reduceLeDiff, Nat.reduceEqDiff, Nat.zero_add, Nat.le_refl, decide_true, decide_false, Nat.reduceSub, Nat.reduceLT, reduceCtorEq, List.append_nil, List.nil_append, List.cons_append, List.replicate, bb_true, bb_false, eqCells, h0]
      rfl
    case hx => nofun
    case k => exact hR ..
  | k + 1, i, hk, x2, x3, x4, x6, x7, x8, x9, x10, x11, x12, x13, x14, x15, x16, x17, x18, x19, x20, x21, x22, x23, x24, x25, hR => by
    have h0 : (i : Int) < (a.length : Int) := by omega
    have h1 : i < a.length := by omega
    have h2 : i < b.length := by omega
    have h3 : a[((i : Int)).toNat]? = some a[i] := by simp [h1]
    have h4 : b[((i : Int)).toNat]? = some b[i] := by simp [h2]
    have h5 : 0 ≤ (i : Int) := by omega
    have hw : IntKind.i64.wrap ((i : Int) + 1) = ((i + 1 : Nat) : Int) := by rw [IntWalk.i64_in _ (by omega)]; omega
    rw [List.drop_eq_getElem_cons h1, List.drop_eq_getElem_cons h2] at hR
    by_cases he : a[i] = b[i]
    · have hn : (a[i] != b[i]) = false := by simp [he]
      apply loop_onR
      case h =>
        simp only [Try.f9, lb, Option.getD_some, loopsOf, List.nil_append, List.append_nil, List.cons_append, List.getElem?_cons_zero, List.getElem?_cons_succ]
        simp (decide := true) only [ev1_skip, ev1_label, ev1_exit, ev1_goto, ev1_ret, ev1_region, ev1_seq, ev1_cond, ev1_block, andThen_nrm, andThen_exit, andThen_goto, andThen_ret, pick_bool, blk_nrm, blk_ret, blk_goto, blk_exit, evRegion, evOps, stepG, stepO, wantedAV, evO, evA, evB, evOp, putTm, E_T, E_gl, E_br, List.toList_toArray, List.getD_cons_zero, List.getD_cons_succ, List.set, Option.map_some, lenAV, omin_right, omin_left, cut_none, tdesc, tab3, tab4, tab22, tab25, tab31, tab34, tab44, tab45, tab48, List.getElem?_toArray, List.getElem?_cons_zero, List.getElem?_cons_succ, Option.bind_some, List.length_map, evBin, intBin, bothNil, constOp, Bool.false_and, Bool.not_true, Bool.and_false, Bool.false_eq_true, if_false, if_true, Bool.or_false, Bool.not_false, Bool.and_true, Bool.true_and, indexAddrAV, ints, Option.isSome_none, Option.isSome_some, List.getElem?_map, List.length_cons, List.length_nil, evLoad, ofCells, TD.isAgg, decide_eq_true_eq, reduceIte, List.take_succ_cons, List.take_zero, List.drop_zero, List.drop_succ_cons, Nat.reduceAdd, Nat.reduceLeDiff, Nat.reduceEqDiff, Nat.zero_add, Nat.le_refl, decide_true, decide_false, Nat.reduceSub, Nat.reduceLT, reduceCtorEq, List.append_nil, List.nil_append, List.cons_append, List.replicate, bb_true, bb_false, eqCells, h0, h3, h4, h5, hn, hw]
        rfl
      case k =>
        refine loop9 a b hab hlen σ low c0 R k (i + 1) (by omega) _ _ _ _ _ _ _ _ _ _ _ _ _ _ _ _ _ _ _ _ _ _ _ ?_
        simpa only [he, List.cons.injEq, true_and] using hR
    · have hn : (a[i] != b[i]) = true := by simp [he]
      apply loop_outR (ex := .ret)
      case h =>
        simp only [Try.f9, lb, Option.getD_some, loopsOf, List.nil_append, List.append_nil, List.cons_append, List.getElem?_cons_zero, List.getElem?_cons_succ]
        simp (decide := true) only [ev1_skip, ev1_label, ev1_exit, ev1_goto, ev1_ret, ev1_region, ev1_seq, ev1_cond, ev1_block, andThen_nrm, andThen_exit, andThen_goto, andThen_ret, pick_bool, blk_nrm, blk_ret, blk_goto, blk_exit, evRegion, evOps, stepG, stepO, wantedAV, evO, evA, evB, evOp, putTm, E_T, E_gl, E_br, List.toList_toArray, List.getD_cons_zero, List.getD_cons_succ, List.set, Option.map_some, lenAV, omin_right, omin_left, cut_none, tdesc, tab3, tab4, tab22, tab25, tab31, tab34, tab44, tab45, tab48, List.getElem?_toArray, List.getElem?_cons_zero, List.getElem?_cons_succ, Option.bind_some, List.length_map, evBin, intBin, bothNil, constOp, Bool.false_and, Bool.not_true, Bool.and_false, Bool.false_eq_true, if_false, if_true, Bool.or_false, Bool.not_false, Bool.and_true, Bool.true_and, indexAddrAV, ints, Option.isSome_none, Option.isSome_some, List.getElem?_map, List.length_cons, List.length_nil, evLoad, ofCells, TD.isAgg, decide_eq_true_eq, reduceIte, List.take_succ_cons, List.take_zero, List.drop_zero, List.drop_succ_cons, Nat.reduceAdd, Nat.reduceLeDiff, Nat.reduceEqDiff, Nat.zero_add, Nat.le_refl, decide_true, decide_false, Nat.reduceSub, Nat.reduceLT, reduceCtorEq, List.append_nil, List.nil_append, List.cons_append, List.replicate, bb_true, bb_false, eqCells, h0, h3, h4, h5, hn]
        rfl
      case hx => nofun
      case k =>
        have hne : ¬ (a[i] :: a.drop (i + 1) = b[i] :: b.drop (i + 1)) := fun h => he (List.cons.inj h).1
        rw [if_neg hne, if_neg hne] at hR
        exact hR ..

theorem res9 : Try.f9.results = #[.tmp 4] := rfl
theorem rt9 : Try.f9.resultTypes = #[4] := rfl

theorem f9_ok (a b : List Int) (hlen : a.length ≤ 140737488355328) (σ : Store) : callL E 9 [ints a, ints b] σ = some (.v (.bool (a == b)), σ, none) := by
  refine callL_ends (fn := Try.f9) (nt := 26) Try.func9 rfl rfl rfl ?_
  by_cases hab : a.length = b.length
  · have hn : ((a.length : Int) != (b.length : Int)) = false := by simp [hab]
    simp (decide := true) only [ev1_skip, ev1_label, ev1_exit, ev1_goto, ev1_ret, ev1_region, ev1_seq, ev1_cond, ev1_block, andThen_nrm, andThen_exit, andThen_goto, andThen_ret, pick_bool, blk_nrm, blk_ret, blk_goto, blk_exit, evRegion, evOps, stepG, stepO, wantedAV, evO, evA, evB, evOp, putTm, E_T, E_gl, E_br, List.toList_toArray, List.getD_cons_zero, List.getD_cons_succ, List.set, Option.map_some, lenAV, omin_right, omin_left, cut_none, tdesc, tab3, tab4, tab22, tab25, tab31, tab34, tab44, tab45, tab48, List.getElem?_toArray, List.getElem?_cons_zero, List.getElem?_cons_succ, Option.bind_some, List.length_map, evBin, intBin, bothNil, constOp, Bool.false_and, Bool.not_true, Bool.and_false, Bool.false_eq_true, if_false, if_true, Bool.or_false, Bool.not_false, Bool.and_true, Bool.true_and, indexAddrAV, ints, Option.isSome_none, Option.isSome_some, List.getElem?_map, List.length_cons, List.length_nil, evLoad, ofCells, TD.isAgg, decide_eq_true_eq, reduceIte, List.take_succ_cons, List.take_zero, List.drop_zero, List.drop_succ_cons, Nat.reduceAdd, Nat.reduceLeDiff, Nat.reduceEqDiff, Nat.zero_add, Nat.le_refl, decide_true, decide_false, Nat.reduceSub, Nat.reduceLT, reduceCtorEq, List.append_nil, List.nil_append, List.cons_append, List.replicate, bb_true, bb_false, eqCells, hn]
    refine loop9 a b hab hlen σ none σ.clock (fun r => Ends E σ Try.f9 (.v (.bool (a == b)), σ, none) (andThen (blk 0 r) _)) a.length 0 (by omega) _ _ _ _ _ _ _ _ _ _ _ _ _ _ _ _ _ _ _ _ _ _ _ ?_
    intro y2 y3 y5 y6 y7 y8 y9 y10 y11 y12 y13 y14 y15 y16 y17 y18 y19 y20 y21 y22 y23 y24 y25
    simp only [List.drop_zero]
    by_cases he : a = b
    · simp (decide := true) only [ev1_skip, ev1_label, ev1_exit, ev1_goto, ev1_ret, ev1_region, ev1_seq, ev1_cond, ev1_block, andThen_nrm, andThen_exit, andThen_goto, andThen_ret, pick_bool, blk_nrm, blk_ret, blk_goto, blk_exit, evRegion, evOps, stepG, stepO, wantedAV, evO, evA, evB, evOp, putTm, E_T, E_gl, E_br, List.toList_toArray, List.getD_cons_zero, List.getD_cons_succ, List.set, Option.map_some, lenAV, omin_right, omin_left, cut_none, tdesc, tab3, tab4, tab22, tab25, tab31, tab34, tab44, tab45, tab48, List.getElem?_toArray, List.getElem?_cons_zero, List.getElem?_cons_succ, Option.bind_some, List.length_map, evBin, intBin, bothNil, constOp, Bool.false_and, Bool.not_true, Bool.and_false, Bool.false_eq_true, if_false, if_true, Bool.or_false, Bool.not_false, Bool.and_true, Bool.true_and, indexAddrAV, ints, Option.isSome_none, Option.isSome_some, List.getElem?_map, List.length_cons, List.length_nil, evLoad, ofCells, TD.isAgg, decide_eq_true_eq, reduceIte, List.take_succ_cons, List.take_zero, List.drop_zero, List.drop_succ_cons, Nat.reduceAdd, Nat.reduceLeDiff, Nat.reduceEqDiff, Nat.zero_add, Nat.le_refl, decide_true, decide_false, Nat.reduceSub, Nat.reduceLT, reduceCtorEq, List.append_nil, List.nil_append, List.cons_append, List.replicate, bb_true, bb_false, eqCells, he]
      apply Ends.ret
      simp only [evReturn, retShare, evReturn0, resAV, mapO, exportVs, exportV, exportL, export1, rowsOf, cells, rowOf, innerIds, shareAll, freshL, E_T, tab3, tab4, tab22, tab25, tab31, tab34, tab44, tab45, tab48, List.toList_toArray, List.getD_cons_zero, List.getD_cons_succ, List.flatMap_cons, List.flatMap_nil, List.append_nil, List.nil_append, List.foldl_nil, omin_right, omin_left, cut_none, one, closed, List.all_cons, List.all_nil, List.nodup_nil, Bool.and_true, Bool.true_and, Option.map_some, and_true, true_and, if_true, Option.isSome_none, Bool.false_eq_true, or_true, false_or, reduceIte, if_pos, rowIds, List.length_nil, List.nodup_cons, List.not_mem_nil, not_false_eq_true, and_self, Nat.zero_add, Nat.le_refl, false_implies, implies_true, slice_all, slice_map, Bool.false_and, List.flatMap, List.map_cons, List.map_nil, List.flatten_cons, List.flatten_nil, List.foldl_cons, cells_row, cells_nil, cells_int, cells_bool, cells_sl, cells_agg, decide_true, tdesc, ob_new_if, ob_put_if, clock_new, clock_put, eq_self, Nat.le_add_right, Nat.left_eq_add, Nat.add_eq_left, Nat.one_ne_zero, res9, rt9, beq_self_eq_true]
    · have hb : (a == b) = false := by simp [he]
      simp (decide := true) only [ev1_skip, ev1_label, ev1_exit, ev1_goto, ev1_ret, ev1_region, ev1_seq, ev1_cond, ev1_block, andThen_nrm, andThen_exit, andThen_goto, andThen_ret, pick_bool, blk_nrm, blk_ret, blk_goto, blk_exit, evRegion, evOps, stepG, stepO, wantedAV, evO, evA, evB, evOp, putTm, E_T, E_gl, E_br, List.toList_toArray, List.getD_cons_zero, List.getD_cons_succ, List.set, Option.map_some, lenAV, omin_right, omin_left, cut_none, tdesc, tab3, tab4, tab22, tab25, tab31, tab34, tab44, tab45, tab48, List.getElem?_toArray, List.getElem?_cons_zero, List.getElem?_cons_succ, Option.bind_some, List.length_map, evBin, intBin, bothNil, constOp, Bool.false_and, Bool.not_true, Bool.and_false, Bool.false_eq_true, if_false, if_true, Bool.or_false, Bool.not_false, Bool.and_true, Bool.true_and, indexAddrAV, ints, Option.isSome_none, Option.isSome_some, List.getElem?_map, List.length_cons, List.length_nil, evLoad, ofCells, TD.isAgg, decide_eq_true_eq, reduceIte, List.take_succ_cons, List.take_zero, List.drop_zero, List.drop_succ_cons, Nat.reduceAdd, Nat.reduceLeDiff, Nat.reduceEqDiff, Nat.zero_add, Nat.le_refl, decide_true, decide_false, Nat.reduceSub, Nat.reduceLT, reduceCtorEq, List.append_nil, List.nil_append, List.cons_append, List.replicate, bb_true, bb_false, eqCells, he]
      apply Ends.ret
      simp only [evReturn, retShare, evReturn0, resAV, mapO, exportVs, exportV, exportL, export1, rowsOf, cells, rowOf, innerIds, shareAll, freshL, E_T, tab3, tab4, tab22, tab25, tab31, tab34, tab44, tab45, tab48, List.toList_toArray, List.getD_cons_zero, List.getD_cons_succ, List.flatMap_cons, List.flatMap_nil, List.append_nil, List.nil_append, List.foldl_nil, omin_right, omin_left, cut_none, one, closed, List.all_cons, List.all_nil, List.nodup_nil, Bool.and_true, Bool.true_and, Option.map_some, and_true, true_and, if_true, Option.isSome_none, Bool.false_eq_true, or_true, false_or, reduceIte, if_pos, rowIds, List.length_nil, List.nodup_cons, List.not_mem_nil, not_false_eq_true, and_self, Nat.zero_add, Nat.le_refl, false_implies, implies_true, slice_all, slice_map, Bool.false_and, List.flatMap, List.map_cons, List.map_nil, List.flatten_cons, List.flatten_nil, List.foldl_cons, cells_row, cells_nil, cells_int, cells_bool, cells_sl, cells_agg, decide_true, tdesc, ob_new_if, ob_put_if, clock_new, clock_put, eq_self, Nat.le_add_right, Nat.left_eq_add, Nat.add_eq_left, Nat.one_ne_zero, res9, rt9, hb]
  · have hn : ((a.length : Int) != (b.length : Int)) = true := by simp; omega
    have hb : (a == b) = false := by simp; exact fun h => hab (by rw [h])
    simp (decide := true) only [ev1_skip, ev1_label, ev1_exit, ev1_goto, ev1_ret, ev1_region, ev1_seq, ev1_cond, ev1_block, andThen_nrm, andThen_exit, andThen_goto, andThen_ret, pick_bool, blk_nrm, blk_ret, blk_goto, blk_exit, evRegion, evOps, stepG, stepO, wantedAV, evO, evA, evB, evOp, putTm, E_T, E_gl, E_br, List.toList_toArray, List.getD_cons_zero, List.getD_cons_succ, List.set, Option.map_some, lenAV, omin_right, omin_left, cut_none, tdesc, tab3, tab4, tab22, tab25, tab31, tab34, tab44, tab45, tab48, List.getElem?_toArray, List.getElem?_cons_zero, List.getElem?_cons_succ, Option.bind_some, List.length_map, evBin, intBin, bothNil, constOp, Bool.false_and, Bool.not_true, Bool.and_false, Bool.false_eq_true, if_false, if_true, Bool.or_false, Bool.not_false, Bool.and_true, Bool.true_and, indexAddrAV, ints, Option.isSome_none, Option.isSome_some, List.getElem?_map, List.length_cons, List.length_nil, evLoad, ofCells, TD.isAgg, decide_eq_true_eq, reduceIte, List.take_succ_cons, List.take_zero, List.drop_zero, List.drop_succ_cons, Nat.reduceAdd, Nat.reduceLeDiff, Nat.reduceEqDiff, Nat.zero_add, Nat.le_refl, decide_true, decide_false, Nat.reduceSub, Nat.reduceLT, reduceCtorEq, List.append_nil, List.nil_append, List.cons_append, List.replicate, bb_true, bb_false, eqCells, hn]
    apply Ends.ret
    simp only [evReturn, retShare, evReturn0, resAV, mapO, exportVs, exportV, exportL, export1, rowsOf, cells, rowOf, innerIds, shareAll, freshL, E_T, tab3, tab4, tab22, tab25, tab31, tab34, tab44, tab45, tab48, List.toList_toArray, List.getD_cons_zero, List.getD_cons_succ, List.flatMap_cons, List.flatMap_nil, List.append_nil, List.nil_append, List.foldl_nil, omin_right, omin_left, cut_none, one, closed, List.all_cons, List.all_nil, List.nodup_nil, Bool.and_true, Bool.true_and, Option.map_some, and_true, true_and, if_true, Option.isSome_none, Bool.false_eq_true, or_true, false_or, reduceIte, if_pos, rowIds, List.length_nil, List.nodup_cons, List.not_mem_nil, not_false_eq_true, and_self, Nat.zero_add, Nat.le_refl, false_implies, implies_true, slice_all, slice_map, Bool.false_and, List.flatMap, List.map_cons, List.map_nil, List.flatten_cons, List.flatten_nil, List.foldl_cons, cells_row, cells_nil, cells_int, cells_bool, cells_sl, cells_agg, decide_true, tdesc, ob_new_if, ob_put_if, clock_new, clock_put, eq_self, Nat.le_add_right, Nat.left_eq_add, Nat.add_eq_left, Nat.one_ne_zero, res9, rt9, hb]
end Go.Bx.WindW

/- wind.marks. (Own text.) -/
namespace Go.Bx.WindW
set_option linter.unusedVariables false
set_option linter.unusedSimpArgs false
set_option linter.unusedSectionVars false
open Go.Proofs
set_option linter.unusedSimpArgs false
set_option linter.unusedVariables false
set_option maxRecDepth 10000

structure Fr where
  k : Int
  id : Int
  h : AV

def Fr.c (f : Fr) : Cs := [.v (.int .i64 f.k), .v (.int .i64 f.id), f.h]
def frames (l : List Fr) : AV := .sl (l.map Fr.c)
def winds (l : List Fr) : List Int := (l.filter fun f => f.k == 2).map (·.id)

theorem loop23 (l : List Fr) (hl : ∀ f ∈ l, leaf f.h = true) (hlen : l.length * 40 ≤ 140737488355328) (c0 : Nat) (R : Option (Ex × FS) → Prop) : ∀ (k i : Nat), i + k = l.length → ∀ (σ : Store) (es : List Cs) (x0 x1 x2 x3 x4 x5 x9 x10 x11 x12 x13 x14 x15 x16 x17 x18 x19 x20 x21 x22 : AV), c0 ≤ σ.clock → es.length ≤ i → RowAt c0 σ x3 1 es →
    (∀ σ', Keeps c0 σ σ' → ∀ y0 y1 y2 y3 y4 y5 y8 y9 y10 y11 y12 y13 y14 y15 y16 y17 y18 y19 y20 y21 y22 : AV, RowAt c0 σ' y3 1 (es ++ (winds (l.drop i)).map fun n => [.v (.int .i64 n)]) → R (some (.exit 0, ⟨[y0, y1, y2, y3, y4, y5, frames l, .v (.int .i64 l.length), y8, y9, y10, y11, y12, y13, y14, y15, y16, y17, y18, y19, y20, y21, y22], σ', none, c0⟩))) →
    R (ev1 E (callL E) (taskL E) (.loop (lb Try.f23 0)) ⟨[x0, x1, x2, x3, x4, x5, frames l, .v (.int .i64 l.length), .v (.int .i64 i), x9, x10, x11, x12, x13, x14, x15, x16, x17, x18, x19, x20, x21, x22], σ, none, c0⟩)
  | 0, i, hk, σ, es, x0, x1, x2, x3, x4, x5, x9, x10, x11, x12, x13, x14, x15, x16, x17, x18, x19, x20, x21, x22, hc, hes, hrow, hR => by
    have h0 : ¬ ((i : Int) < (l.length : Int)) := by omega
    have hd : l.drop i = [] := List.drop_of_length_le (by omega)
    apply loop_outR (ex := .exit 0)
    case h =>
      simp only [Try.f23, lb, Option.getD_some, loopsOf, List.nil_append, List.append_nil, List.cons_append, List.getElem?_cons_zero, List.getElem?_cons_succ]
      simp (decide := true) only [ev1_skip, ev1_label, ev1_exit, ev1_goto, ev1_ret, ev1_region, ev1_seq, ev1_cond, ev1_block, andThen_nrm, andThen_exit, andThen_goto, andThen_ret, pick_bool, blk_nrm, blk_ret, blk_goto, blk_exit, evRegion, evOps, stepG, stepO, wantedAV, evO, evA, evB, evOp, putTm, E_T, E_gl, E_br, List.toList_toArray, List.getD_cons_zero, List.getD_cons_succ, List.set, Option.map_some, lenAV, omin_right, omin_left, cut_none, tdesc, tab3, tab4, tab22, tab25, tab31, tab34, tab44, tab45, tab48, List.getElem?_toArray, List.getElem?_cons_zero, List.getElem?_cons_succ, Option.bind_some, List.length_map, evBin, intBin, bothNil, constOp, Bool.false_and, Bool.not_true, Bool.and_false, Bool.false_eq_true, if_false, if_true, Bool.or_false, Bool.not_false, Bool.and_true, Bool.true_and, indexAddrAV, ints, Option.isSome_none, Option.isSome_some, List.getElem?_map, List.length_cons, List.length_nil, evLoad, ofCells, TD.isAgg, decide_eq_true_eq, reduceIte, List.take_succ_cons, List.take_zero, List.drop_zero, List.drop_succ_cons, Nat.reduceAdd, Nat.reduceLeDiff, Nat.reduceEqDiff, Nat.zero_add, Nat.le_refl, decide_true, decide_false, Nat.reduceSub, Nat.reduceLT, reduceCtorEq, List.append_nil, List.nil_append, List.cons_append, List.replicate, bb_true, bb_false, eqCells, h0]
      rfl
    case hx => nofun
    case k => exact hR σ (Keeps.refl _ _) _ _ _ _ _ _ _ _ _ _ _ _ _ _ _ _ _ _ _ _ _ (by rw [hd]; simpa [winds] using hrow)
  | k + 1, i, hk, σ, es, x0, x1, x2, x3, x4, x5, x9, x10, x11, x12, x13, x14, x15, x16, x17, x18, x19, x20, x21, x22, hc, hes, hrow, hR => by
    have h0 : (i : Int) < (l.length : Int) := by omega
    have h1 : i < l.length := by omega
    have h3 : l[((i : Int)).toNat]? = some l[i] := by simp [h1]
    have h5 : 0 ≤ (i : Int) := by omega
    have hw : IntKind.i64.wrap ((i : Int) + 1) = ((i + 1 : Nat) : Int) := by rw [IntWalk.i64_in _ (by omega)]; omega
    have hleaf := hl l[i] (List.getElem_mem h1)
    have hsz : (es.length + 1) * 8 ≤ 140737488355328 := by omega
    by_cases hk2 : l[i].k = 2
    · have hn : (l[i].k == 2) = true := by simpa using hk2
      have hd : winds (l.drop i) = l[i].id :: winds (l.drop (i + 1)) := by unfold winds; rw [List.drop_eq_getElem_cons h1, List.filter_cons_of_pos (by simp [hk2]), List.map_cons]
      rw [hd, List.map_cons] at hR
      rcases hrow with ⟨rfl, rfl⟩ | ⟨id, rfl, hid1, hid2, hob⟩
      · apply loop_onR
        case h =>
          simp only [Try.f23, lb, Option.getD_some, loopsOf, List.nil_append, List.append_nil, List.cons_append, List.getElem?_cons_zero, List.getElem?_cons_succ]
          simp (decide := true) (disch := (first | omega | (simp only [clock_new, clock_put]; done) | (simp only [clock_new, clock_put]; omega))) only [ev1_skip, ev1_label, ev1_exit, ev1_goto, ev1_ret, ev1_region, ev1_seq, ev1_cond, ev1_block, andThen_nrm, andThen_exit, andThen_goto, andThen_ret, pick_bool, blk_nrm, blk_ret, blk_goto, blk_exit, evRegion, evOps, stepG, stepO, wantedAV, evO, evA, evB, evOp, putTm, E_T, E_gl, E_br, List.toList_toArray, List.getD_cons_zero, List.getD_cons_succ, List.set, Option.map_some, lenAV, omin_right, omin_left, cut_none, tdesc, tab3, tab4, tab22, tab25, tab31, tab34, tab44, tab45, tab48, List.getElem?_toArray, List.getElem?_cons_zero, List.getElem?_cons_succ, Option.bind_some, List.length_map, evBin, intBin, bothNil, constOp, Bool.false_and, Bool.not_true, Bool.and_false, Bool.false_eq_true, if_false, if_true, Bool.or_false, Bool.not_false, Bool.and_true, Bool.true_and, indexAddrAV, ints, Option.isSome_none, Option.isSome_some, List.getElem?_map, List.length_cons, List.length_nil, evLoad, ofCells, TD.isAgg, decide_eq_true_eq, reduceIte, List.take_succ_cons, List.take_zero, List.drop_zero, List.drop_succ_cons, Nat.reduceAdd, Nat.reduceLeDiff, Nat.reduceEqDiff, Nat.zero_add, Nat.le_refl, decide_true, decide_false, Nat.reduceSub, Nat.reduceLT, reduceCtorEq, List.append_nil, List.nil_append, List.cons_append, List.replicate, bb_true, bb_false, eqCells, evStore, evAppend, elems, flatOf, cells_agg, cells_int, cells_bool, cells_str, cells_nil, cells_nilp, cells_sl, cells_row, cells_ptr, cut_ge, cut_omin, putAt, clock_new, clock_put, ob_new_if, ob_put_if, Nat.left_eq_add, Nat.add_eq_left, Nat.add_left_cancel_iff, eq_self, Nat.succ_ne_self, fillL, slice_all, slice_map, slice_one, slice_nil, List.take_append_drop, List.all_cons, List.all_nil, beq_self_eq_true, and_self, List.length_set, List.map_cons, List.map_nil, ne_eq, List.range_succ, List.range_zero, List.append_eq, List.length_append, fieldPlaceT, leaf_int, leaf_bool, leaf_str, leaf_nil, leaf_nilp, leaf_sl, leaf_row, pl_int, pl_bool, pl_str, pl_nil, pl_nilp, pl_sl, pl_row, Nat.one_ne_zero, false_implies, implies_true, forall_const, not_false_eq_true, List.toList_toArray, true_and, and_true, List.zip_cons_cons, frames, Fr.c, h0, h3, h5, hw, hleaf, hn]
          rfl
        case k =>
          refine loop23 l hl hlen c0 R k (i + 1) (by omega) _ [[.v (.int .i64 l[i].id)]] _ _ _ _ _ _ _ _ _ _ _ _ _ _ _ _ _ _ _ _ ?_ ?_ (.inr ⟨σ.clock + 1 + 1, rfl, ?_, ?_, ob_new_eq rfl⟩) (fun σ'' hK2 => ?_)
          · simp only [clock_new, clock_put]; omega
          · simp
          · omega
          · simp only [clock_new, clock_put]; omega
          · refine hR σ'' (Keeps.trans ?_ hK2)
            ((repeat' (first | exact Keeps.refl _ _ | refine Keeps.new ?_ ?_ _ | refine Keeps.put ?_ ?_ _)) <;> (first | omega | (simp only [clock_new, clock_put]; omega)))
      · have n0 : (id = σ.clock) = False := by simp; omega
        have n1 : (id = σ.clock + 1) = False := by simp; omega
        apply loop_onR
        case h =>
          simp only [Try.f23, lb, Option.getD_some, loopsOf, List.nil_append, List.append_nil, List.cons_append, List.getElem?_cons_zero, List.getElem?_cons_succ]
          simp (decide := true) (disch := (first | omega | (simp only [clock_new, clock_put]; done) | (simp only [clock_new, clock_put]; omega))) only [ev1_skip, ev1_label, ev1_exit, ev1_goto, ev1_ret, ev1_region, ev1_seq, ev1_cond, ev1_block, andThen_nrm, andThen_exit, andThen_goto, andThen_ret, pick_bool, blk_nrm, blk_ret, blk_goto, blk_exit, evRegion, evOps, stepG, stepO, wantedAV, evO, evA, evB, evOp, putTm, E_T, E_gl, E_br, List.toList_toArray, List.getD_cons_zero, List.getD_cons_succ, List.set, Option.map_some, lenAV, omin_right, omin_left, cut_none, tdesc, tab3, tab4, tab22, tab25, tab31, tab34, tab44, tab45, tab48, List.getElem?_toArray, List.getElem?_cons_zero, List.getElem?_cons_succ, Option.bind_some, List.length_map, evBin, intBin, bothNil, constOp, Bool.false_and, Bool.not_true, Bool.and_false, Bool.false_eq_true, if_false, if_true, Bool.or_false, Bool.not_false, Bool.and_true, Bool.true_and, indexAddrAV, ints, Option.isSome_none, Option.isSome_some, List.getElem?_map, List.length_cons, List.length_nil, evLoad, ofCells, TD.isAgg, decide_eq_true_eq, reduceIte, List.take_succ_cons, List.take_zero, List.drop_zero, List.drop_succ_cons, Nat.reduceAdd, Nat.reduceLeDiff, Nat.reduceEqDiff, Nat.zero_add, Nat.le_refl, decide_true, decide_false, Nat.reduceSub, Nat.reduceLT, reduceCtorEq, List.append_nil, List.nil_append, List.cons_append, List.replicate, bb_true, bb_false, eqCells, evStore, evAppend, elems, flatOf, cells_agg, cells_int, cells_bool, cells_str, cells_nil, cells_nilp, cells_sl, cells_row, cells_ptr, cut_ge, cut_omin, putAt, clock_new, clock_put, ob_new_if, ob_put_if, Nat.left_eq_add, Nat.add_eq_left, Nat.add_left_cancel_iff, eq_self, Nat.succ_ne_self, fillL, slice_all, slice_map, slice_one, slice_nil, List.take_append_drop, List.all_cons, List.all_nil, beq_self_eq_true, and_self, List.length_set, List.map_cons, List.map_nil, ne_eq, List.range_succ, List.range_zero, List.append_eq, List.length_append, fieldPlaceT, leaf_int, leaf_bool, leaf_str, leaf_nil, leaf_nilp, leaf_sl, leaf_row, pl_int, pl_bool, pl_str, pl_nil, pl_nilp, pl_sl, pl_row, Nat.one_ne_zero, false_implies, implies_true, forall_const, not_false_eq_true, List.toList_toArray, true_and, and_true, List.zip_cons_cons, frames, Fr.c, h0, h3, h5, hw, hleaf, hn, hob, hsz, n0, n1]
          rfl
        case k =>
          refine loop23 l hl hlen c0 R k (i + 1) (by omega) _ (es ++ [[.v (.int .i64 l[i].id)]]) _ _ _ _ _ _ _ _ _ _ _ _ _ _ _ _ _ _ _ _ ?_ ?_ (.inr ⟨σ.clock + 1 + 1, ?_, ?_, ?_, ob_new_eq rfl⟩) (fun σ'' hK2 => ?_)
          · simp only [clock_new, clock_put]; omega
          · simp; omega
          · simp
          · omega
          · simp only [clock_new, clock_put]; omega
          · simp only [List.append_assoc]
            refine hR σ'' (Keeps.trans ?_ hK2)
            ((repeat' (first | exact Keeps.refl _ _ | refine Keeps.new ?_ ?_ _ | refine Keeps.put ?_ ?_ _)) <;> (first | omega | (simp only [clock_new, clock_put]; omega)))
    · have hn : (l[i].k == 2) = false := by simpa using hk2
      have hd : winds (l.drop i) = winds (l.drop (i + 1)) := by unfold winds; rw [List.drop_eq_getElem_cons h1, List.filter_cons_of_neg (by simp [hk2])]
      apply loop_onR
      case h =>
        simp only [Try.f23, lb, Option.getD_some, loopsOf, List.nil_append, List.append_nil, List.cons_append, List.getElem?_cons_zero, List.getElem?_cons_succ]
        simp (decide := true) (disch := (first | omega | (simp only [clock_new, clock_put]; done) | (simp only [clock_new, clock_put]; omega))) only [ev1_skip, ev1_label, ev1_exit, ev1_goto, ev1_ret, ev1_region, ev1_seq, ev1_cond, ev1_block, andThen_nrm, andThen_exit, andThen_goto, andThen_ret, pick_bool, blk_nrm, blk_ret, blk_goto, blk_exit, evRegion, evOps, stepG, stepO, wantedAV, evO, evA, evB, evOp, putTm, E_T, E_gl, E_br, List.toList_toArray, List.getD_cons_zero, List.getD_cons_succ, List.set, Option.map_some, lenAV, omin_right, omin_left, cut_none, tdesc, tab3, tab4, tab22, tab25, tab31, tab34, tab44, tab45, tab48, List.getElem?_toArray, List.getElem?_cons_zero, List.getElem?_cons_succ, Option.bind_some, List.length_map, evBin, intBin, bothNil, constOp, Bool.false_and, Bool.not_true, Bool.and_false, Bool.false_eq_true, if_false, if_true, Bool.or_false, Bool.not_false, Bool.and_true, Bool.true_and, indexAddrAV, ints, Option.isSome_none, Option.isSome_some, List.getElem?_map, List.length_cons, List.length_nil, evLoad, ofCells, TD.isAgg, decide_eq_true_eq, reduceIte, List.take_succ_cons, List.take_zero, List.drop_zero, List.drop_succ_cons, Nat.reduceAdd, Nat.reduceLeDiff, Nat.reduceEqDiff, Nat.zero_add, Nat.le_refl, decide_true, decide_false, Nat.reduceSub, Nat.reduceLT, reduceCtorEq, List.append_nil, List.nil_append, List.cons_append, List.replicate, bb_true, bb_false, eqCells, evStore, evAppend, elems, flatOf, cells_agg, cells_int, cells_bool, cells_str, cells_nil, cells_nilp, cells_sl, cells_row, cells_ptr, cut_ge, cut_omin, putAt, clock_new, clock_put, ob_new_if, ob_put_if, Nat.left_eq_add, Nat.add_eq_left, Nat.add_left_cancel_iff, eq_self, Nat.succ_ne_self, fillL, slice_all, slice_map, slice_one, slice_nil, List.take_append_drop, List.all_cons, List.all_nil, beq_self_eq_true, and_self, List.length_set, List.map_cons, List.map_nil, ne_eq, List.range_succ, List.range_zero, List.append_eq, List.length_append, fieldPlaceT, leaf_int, leaf_bool, leaf_str, leaf_nil, leaf_nilp, leaf_sl, leaf_row, pl_int, pl_bool, pl_str, pl_nil, pl_nilp, pl_sl, pl_row, Nat.one_ne_zero, false_implies, implies_true, forall_const, not_false_eq_true, List.toList_toArray, true_and, and_true, List.zip_cons_cons, frames, Fr.c, h0, h3, h5, hw, hleaf, hn]
        rfl
      case k =>
        refine loop23 l hl hlen c0 R k (i + 1) (by omega) _ es _ _ _ _ _ _ _ _ _ _ _ _ _ _ _ _ _ _ _ _ ?_ (by omega) (hrow.mono ?_) (fun σ'' hK2 => ?_)
        · simp only [clock_new, clock_put]; omega
        · ((repeat' (first | exact Keeps.refl _ _ | refine Keeps.new ?_ ?_ _ | refine Keeps.put ?_ ?_ _)) <;> (first | omega | (simp only [clock_new, clock_put]; omega)))
        · rw [hd] at hR
          refine hR σ'' (Keeps.trans ?_ hK2)
          ((repeat' (first | exact Keeps.refl _ _ | refine Keeps.new ?_ ?_ _ | refine Keeps.put ?_ ?_ _)) <;> (first | omega | (simp only [clock_new, clock_put]; omega)))
theorem res23 : Try.f23.results = #[.tmp 2] := rfl
theorem rt23 : Try.f23.resultTypes = #[45] := rfl

theorem f23_ok (l : List Fr) (hl : ∀ f ∈ l, leaf f.h = true) (hlen : l.length * 40 ≤ 140737488355328) (σ : Store) : callL E 23 [frames l] σ = some (ownInts (winds l), σ, none) := by
  refine callL_ends (fn := Try.f23) (nt := 23) Try.func23 rfl rfl rfl ?_
  simp (decide := true) only [ev1_skip, ev1_label, ev1_exit, ev1_goto, ev1_ret, ev1_region, ev1_seq, ev1_cond, ev1_block, andThen_nrm, andThen_exit, andThen_goto, andThen_ret, pick_bool, blk_nrm, blk_ret, blk_goto, blk_exit, evRegion, evOps, stepG, stepO, wantedAV, evO, evA, evB, evOp, putTm, E_T, E_gl, E_br, List.toList_toArray, List.getD_cons_zero, List.getD_cons_succ, List.set, Option.map_some, lenAV, omin_right, omin_left, cut_none, tdesc, tab3, tab4, tab22, tab25, tab31, tab34, tab44, tab45, tab48, List.getElem?_toArray, List.getElem?_cons_zero, List.getElem?_cons_succ, Option.bind_some, List.length_map, evBin, intBin, bothNil, constOp, Bool.false_and, Bool.not_true, Bool.and_false, Bool.false_eq_true, if_false, if_true, Bool.or_false, Bool.not_false, Bool.and_true, Bool.true_and, indexAddrAV, ints, Option.isSome_none, Option.isSome_some, List.getElem?_map, List.length_cons, List.length_nil, evLoad, ofCells, TD.isAgg, decide_eq_true_eq, reduceIte, List.take_succ_cons, List.take_zero, List.drop_zero, List.drop_succ_cons, Nat.reduceAdd, Nat.reduceLeDiff, Nat.reduceEqDiff, Nat.zero_add, Nat.le_refl, decide_true, decide_false, Nat.reduceSub, Nat.reduceLT, reduceCtorEq, List.append_nil, List.nil_append, List.cons_append, List.replicate, bb_true, bb_false, eqCells, frames]
  refine loop23 l hl hlen σ.clock (fun r => Ends E σ Try.f23 (ownInts (winds l), σ, none) (andThen (blk 0 r) _)) l.length 0 (by omega) σ [] _ _ _ _ _ _ _ _ _ _ _ _ _ _ _ _ _ _ _ _ (Nat.le_refl _) (by simp) (.inl ⟨rfl, rfl⟩) ?_
  intro σ' hK y0 y1 y2 y3 y4 y5 y8 y9 y10 y11 y12 y13 y14 y15 y16 y17 y18 y19 y20 y21 y22 hrow
  simp (decide := true) only [ev1_skip, ev1_label, ev1_exit, ev1_goto, ev1_ret, ev1_region, ev1_seq, ev1_cond, ev1_block, andThen_nrm, andThen_exit, andThen_goto, andThen_ret, pick_bool, blk_nrm, blk_ret, blk_goto, blk_exit, evRegion, evOps, stepG, stepO, wantedAV, evO, evA, evB, evOp, putTm, E_T, E_gl, E_br, List.toList_toArray, List.getD_cons_zero, List.getD_cons_succ, List.set, Option.map_some, lenAV, omin_right, omin_left, cut_none, tdesc, tab3, tab4, tab22, tab25, tab31, tab34, tab44, tab45, tab48, List.getElem?_toArray, List.getElem?_cons_zero, List.getElem?_cons_succ, Option.bind_some, List.length_map, evBin, intBin, bothNil, constOp, Bool.false_and, Bool.not_true, Bool.and_false, Bool.false_eq_true, if_false, if_true, Bool.or_false, Bool.not_false, Bool.and_true, Bool.true_and, indexAddrAV, ints, Option.isSome_none, Option.isSome_some, List.getElem?_map, List.length_cons, List.length_nil, evLoad, ofCells, TD.isAgg, decide_eq_true_eq, reduceIte, List.take_succ_cons, List.take_zero, List.drop_zero, List.drop_succ_cons, Nat.reduceAdd, Nat.reduceLeDiff, Nat.reduceEqDiff, Nat.zero_add, Nat.le_refl, decide_true, decide_false, Nat.reduceSub, Nat.reduceLT, reduceCtorEq, List.append_nil, List.nil_append, List.cons_append, List.replicate, bb_true, bb_false, eqCells]
  apply Ends.ret
  simp only [List.drop_zero, List.nil_append] at hrow
  generalize hes : (winds l).map (fun n => [AV.v (Value.int IntKind.i64 n)]) = es at hrow
  rcases hrow with ⟨rfl, rfl⟩ | ⟨id, rfl, h1, h2, h3⟩
  · simp only [evReturn, retShare, evReturn0, resAV, mapO, exportVs, exportV, exportL, export1, rowsOf, cells, rowOf, innerIds, shareAll, freshL, E_T, tab3, tab4, tab22, tab25, tab31, tab34, tab44, tab45, tab48, List.toList_toArray, List.getD_cons_zero, List.getD_cons_succ, List.flatMap_cons, List.flatMap_nil, List.append_nil, List.nil_append, List.foldl_nil, omin_right, omin_left, cut_none, one, closed, List.all_cons, List.all_nil, List.nodup_nil, Bool.and_true, Bool.true_and, Option.map_some, and_true, true_and, if_true, Option.isSome_none, Bool.false_eq_true, or_true, false_or, reduceIte, if_pos, rowIds, List.length_nil, List.nodup_cons, List.not_mem_nil, not_false_eq_true, and_self, Nat.zero_add, Nat.le_refl, false_implies, implies_true, slice_all, slice_map, Bool.false_and, List.flatMap, List.map_cons, List.map_nil, List.flatten_cons, List.flatten_nil, List.foldl_cons, cells_row, cells_nil, cells_int, cells_bool, cells_sl, cells_agg, decide_true, tdesc, ob_new_if, ob_put_if, clock_new, clock_put, eq_self, Nat.le_add_right, Nat.left_eq_add, Nat.add_eq_left, Nat.one_ne_zero, res23, rt23, ownInts, hes]
  · simp only [evReturn, retShare, evReturn0, resAV, mapO, exportVs, exportV, exportL, export1, rowsOf, cells, rowOf, innerIds, shareAll, freshL, E_T, tab3, tab4, tab22, tab25, tab31, tab34, tab44, tab45, tab48, List.toList_toArray, List.getD_cons_zero, List.getD_cons_succ, List.flatMap_cons, List.flatMap_nil, List.append_nil, List.nil_append, List.foldl_nil, omin_right, omin_left, cut_none, one, closed, List.all_cons, List.all_nil, List.nodup_nil, Bool.and_true, Bool.true_and, Option.map_some, and_true, true_and, if_true, Option.isSome_none, Bool.false_eq_true, or_true, false_or, reduceIte, if_pos, rowIds, List.length_nil, List.nodup_cons, List.not_mem_nil, not_false_eq_true, and_self, Nat.zero_add, Nat.le_refl, false_implies, implies_true, slice_all, slice_map, Bool.false_and, List.flatMap, List.map_cons, List.map_nil, List.flatten_cons, List.flatten_nil, List.foldl_cons, cells_row, cells_nil, cells_int, cells_bool, cells_sl, cells_agg, decide_true, tdesc, ob_new_if, ob_put_if, clock_new, clock_put, eq_self, Nat.le_add_right, Nat.left_eq_add, Nat.add_eq_left, Nat.one_ne_zero, res23, rt23, ownInts, hes, h3, h1]
end Go.Bx.WindW

/- wind.Winds. (Own text.) -/
namespace Go.Bx.WindW
set_option linter.unusedVariables false
set_option linter.unusedSimpArgs false
set_option linter.unusedSectionVars false
open Go.Proofs
set_option linter.unusedSimpArgs false
set_option linter.unusedVariables false
set_option maxRecDepth 10000

theorem loop10 (m : List Int) (hlen : m.length * 8 ≤ 140737488355328) (κ c0 j : Nat) (hcκ : c0 ≤ κ) (hj : j < κ) (R : Option (Ex × FS) → Prop) : ∀ (k i : Nat), i + k = m.length → ∀ (σ : Store) (es : List Cs) (x0 x1 x2 x3 x4 x5 x6 x10 x11 x12 x13 x14 x15 x16 x17 x18 x19 : AV), κ ≤ σ.clock → es.length ≤ i → σ.ob j = some ⟨1, false, true, m.map fun n => [.v (.int .i64 n)]⟩ → RowAt κ σ x3 1 es →
    (∀ σ', Keeps κ σ σ' → ∀ y0 y1 y2 y3 y4 y5 y6 y7 y8 y9 y10 y11 y12 y13 y14 y15 y16 y17 y18 y19 : AV, RowAt κ σ' y3 1 (es ++ (m.drop i).map fun n => [.v (.int .i64 n)]) → R (some (.exit 0, ⟨[y0, y1, y2, y3, y4, y5, y6, y7, y8, y9, y10, y11, y12, y13, y14, y15, y16, y17, y18, y19], σ', none, c0⟩))) →
    R (ev1 E (callL E) (taskL E) (.loop (lb Try.f10 0)) ⟨[x0, x1, x2, x3, x4, x5, x6, .row j 1 0 m.length, .v (.int .i64 m.length), .v (.int .i64 i), x10, x11, x12, x13, x14, x15, x16, x17, x18, x19], σ, none, c0⟩)
  | 0, i, hk, σ, es, x0, x1, x2, x3, x4, x5, x6, x10, x11, x12, x13, x14, x15, x16, x17, x18, x19, hc, hes, hob7, hrow, hR => by
    have h0 : ¬ ((i : Int) < (m.length : Int)) := by omega
    have hd : m.drop i = [] := List.drop_of_length_le (by omega)
    apply loop_outR (ex := .exit 0)
    case h =>
      simp only [Try.f10, lb, Option.getD_some, loopsOf, List.nil_append, List.append_nil, List.cons_append, List.getElem?_cons_zero, List.getElem?_cons_succ]
      simp (decide := true) only [ev1_skip, ev1_label, ev1_exit, ev1_goto, ev1_ret, ev1_region, ev1_seq, ev1_cond, ev1_block, andThen_nrm, andThen_exit, andThen_goto, andThen_ret, pick_bool, blk_nrm, blk_ret, blk_goto, blk_exit, evRegion, evOps, stepG, stepO, wantedAV, evO, evA, evB, evOp, putTm, E_T, E_gl, E_br, List.toList_toArray, List.getD_cons_zero, List.getD_cons_succ, List.set, Option.map_some, lenAV, omin_right, omin_left, cut_none, tdesc, tab3, tab4, tab22, tab25, tab31, tab34, tab44, tab45, tab48, List.getElem?_toArray, List.getElem?_cons_zero, List.getElem?_cons_succ, Option.bind_some, List.length_map, evBin, intBin, bothNil, constOp, Bool.false_and, Bool.not_true, Bool.and_false, Bool.false_eq_true, if_false, if_true, Bool.or_false, Bool.not_false, Bool.and_true, Bool.true_and, indexAddrAV, ints, Option.isSome_none, Option.isSome_some, List.getElem?_map, List.length_cons, List.length_nil, evLoad, ofCells, TD.isAgg, decide_eq_true_eq, reduceIte, List.take_succ_cons, List.take_zero, List.drop_zero, List.drop_succ_cons, Nat.reduceAdd, Nat.reduceLeDiff, Nat.reduceEqDiff, Nat.zero_add, Nat.le_refl, decide_true, decide_false, Nat.reduceSub, Nat.reduceLT, reduceCtorEq, List.append_nil, List.nil_append, List.cons_append, List.replicate, bb_true, bb_false, eqCells, h0]
      rfl
    case hx => nofun
    case k => exact hR σ (Keeps.refl _ _) _ _ _ _ _ _ _ _ _ _ _ _ _ _ _ _ _ _ _ _ (by rw [hd]; simpa using hrow)
  | k + 1, i, hk, σ, es, x0, x1, x2, x3, x4, x5, x6, x10, x11, x12, x13, x14, x15, x16, x17, x18, x19, hc, hes, hob7, hrow, hR => by
    have h0 : (i : Int) < (m.length : Int) := by omega
    have h1 : i < m.length := by omega
    have h3 : m[i]? = some m[i] := by simp [h1]
    have h5 : 0 ≤ (i : Int) := by omega
    have h6 : ((i : Int)).toNat = i := by simp
    have hw : IntKind.i64.wrap ((i : Int) + 1) = ((i + 1 : Nat) : Int) := by rw [IntWalk.i64_in _ (by omega)]; omega
    have hsz : (es.length + 1) * 8 ≤ 140737488355328 := by omega
    have m0 : (j = σ.clock) = False := by simp; omega
    have m1 : (j = σ.clock + 1) = False := by simp; omega
    have hd : m.drop i = m[i] :: m.drop (i + 1) := List.drop_eq_getElem_cons h1
    rw [hd, List.map_cons] at hR
    rcases hrow with ⟨rfl, rfl⟩ | ⟨id, rfl, hid1, hid2, hob⟩
    · apply loop_onR
      case h =>
        simp only [Try.f10, lb, Option.getD_some, loopsOf, List.nil_append, List.append_nil, List.cons_append, List.getElem?_cons_zero, List.getElem?_cons_succ]
        simp (decide := true) (disch := (first | omega | (simp only [clock_new, clock_put]; done) | (simp only [clock_new, clock_put]; omega))) only [ev1_skip, ev1_label, ev1_exit, ev1_goto, ev1_ret, ev1_region, ev1_seq, ev1_cond, ev1_block, andThen_nrm, andThen_exit, andThen_goto, andThen_ret, pick_bool, blk_nrm, blk_ret, blk_goto, blk_exit, evRegion, evOps, stepG, stepO, wantedAV, evO, evA, evB, evOp, putTm, E_T, E_gl, E_br, List.toList_toArray, List.getD_cons_zero, List.getD_cons_succ, List.set, Option.map_some, lenAV, omin_right, omin_left, cut_none, tdesc, tab3, tab4, tab22, tab25, tab31, tab34, tab44, tab45, tab48, List.getElem?_toArray, List.getElem?_cons_zero, List.getElem?_cons_succ, Option.bind_some, List.length_map, evBin, intBin, bothNil, constOp, Bool.false_and, Bool.not_true, Bool.and_false, Bool.false_eq_true, if_false, if_true, Bool.or_false, Bool.not_false, Bool.and_true, Bool.true_and, indexAddrAV, ints, Option.isSome_none, Option.isSome_some, List.getElem?_map, List.length_cons, List.length_nil, evLoad, ofCells, TD.isAgg, decide_eq_true_eq, reduceIte, List.take_succ_cons, List.take_zero, List.drop_zero, List.drop_succ_cons, Nat.reduceAdd, Nat.reduceLeDiff, Nat.reduceEqDiff, Nat.zero_add, Nat.le_refl, decide_true, decide_false, Nat.reduceSub, Nat.reduceLT, reduceCtorEq, List.append_nil, List.nil_append, List.cons_append, List.replicate, bb_true, bb_false, eqCells, evStore, evAppend, elems, flatOf, cells_agg, cells_int, cells_bool, cells_str, cells_nil, cells_nilp, cells_sl, cells_row, cells_ptr, cut_ge, cut_omin, putAt, clock_new, clock_put, ob_new_if, ob_put_if, Nat.left_eq_add, Nat.add_eq_left, Nat.add_left_cancel_iff, eq_self, Nat.succ_ne_self, fillL, slice_all, slice_map, slice_one, slice_nil, List.take_append_drop, List.all_cons, List.all_nil, beq_self_eq_true, and_self, List.length_set, List.map_cons, List.map_nil, ne_eq, List.range_succ, List.range_zero, List.append_eq, List.length_append, fieldPlaceT, leaf_int, leaf_bool, leaf_str, leaf_nil, leaf_nilp, leaf_sl, leaf_row, pl_int, pl_bool, pl_str, pl_nil, pl_nilp, pl_sl, pl_row, Nat.one_ne_zero, false_implies, implies_true, forall_const, not_false_eq_true, List.toList_toArray, true_and, and_true, List.zip_cons_cons, h0, h1, h3, h5, h6, hw, hob7, m0, m1]
        rfl
      case k =>
        refine loop10 m hlen κ c0 j hcκ hj R k (i + 1) (by omega) _ [[.v (.int .i64 m[i])]] _ _ _ _ _ _ _ _ _ _ _ _ _ _ _ _ _ ?_ ?_ ?_ (.inr ⟨σ.clock + 1 + 1, rfl, ?_, ?_, ob_new_eq rfl⟩) (fun σ'' hK2 => ?_)
        · simp only [clock_new, clock_put]; omega
        · simp
        · refine (Keeps.ob (κ := κ) (σ := σ) ?_ j hj).trans hob7
          ((repeat' (first | exact Keeps.refl _ _ | refine Keeps.new ?_ ?_ _ | refine Keeps.put ?_ ?_ _)) <;> (first | omega | (simp only [clock_new, clock_put]; omega)))
        · omega
        · simp only [clock_new, clock_put]; omega
        · refine hR σ'' (Keeps.trans ?_ hK2)
          ((repeat' (first | exact Keeps.refl _ _ | refine Keeps.new ?_ ?_ _ | refine Keeps.put ?_ ?_ _)) <;> (first | omega | (simp only [clock_new, clock_put]; omega)))
    · have n0 : (id = σ.clock) = False := by simp; omega
      have n1 : (id = σ.clock + 1) = False := by simp; omega
      apply loop_onR
      case h =>
        simp only [Try.f10, lb, Option.getD_some, loopsOf, List.nil_append, List.append_nil, List.cons_append, List.getElem?_cons_zero, List.getElem?_cons_succ]
        simp (decide := true) (disch := (first | omega | (simp only [clock_new, clock_put]; done) | (simp only [clock_new, clock_put]; omega))) only [ev1_skip, ev1_label, ev1_exit, ev1_goto, ev1_ret, ev1_region, ev1_seq, ev1_cond, ev1_block, andThen_nrm, andThen_exit, andThen_goto, andThen_ret, pick_bool, blk_nrm, blk_ret, blk_goto, blk_exit, evRegion, evOps, stepG, stepO, wantedAV, evO, evA, evB, evOp, putTm, E_T, E_gl, E_br, List.toList_toArray, List.getD_cons_zero, List.getD_cons_succ, List.set, Option.map_some, lenAV, omin_right, omin_left, cut_none, tdesc, tab3, tab4, tab22, tab25, tab31, tab34, tab44, tab45, tab48, List.getElem?_toArray, List.getElem?_cons_zero, List.getElem?_cons_succ, Option.bind_some, List.length_map, evBin, intBin, bothNil, constOp, Bool.false_and, Bool.not_true, Bool.and_false, Bool.false_eq_true, if_false, if_true, Bool.or_false, Bool.not_false, Bool.and_true, Bool.true_and, indexAddrAV, ints, Option.isSome_none, Option.isSome_some, List.getElem?_map, List.length_cons, List.length_nil, evLoad, ofCells, TD.isAgg, decide_eq_true_eq, reduceIte, List.take_succ_cons, List.take_zero, List.drop_zero, List.drop_succ_cons, Nat.reduceAdd, Nat.reduceLeDiff, Nat.reduceEqDiff, Nat.zero_add, Nat.le_refl, decide_true, decide_false, Nat.reduceSub, Nat.reduceLT, reduceCtorEq, List.append_nil, List.nil_append, List.cons_append, List.replicate, bb_true, bb_false, eqCells, evStore, evAppend, elems, flatOf, cells_agg, cells_int, cells_bool, cells_str, cells_nil, cells_nilp, cells_sl, cells_row, cells_ptr, cut_ge, cut_omin, putAt, clock_new, clock_put, ob_new_if, ob_put_if, Nat.left_eq_add, Nat.add_eq_left, Nat.add_left_cancel_iff, eq_self, Nat.succ_ne_self, fillL, slice_all, slice_map, slice_one, slice_nil, List.take_append_drop, List.all_cons, List.all_nil, beq_self_eq_true, and_self, List.length_set, List.map_cons, List.map_nil, ne_eq, List.range_succ, List.range_zero, List.append_eq, List.length_append, fieldPlaceT, leaf_int, leaf_bool, leaf_str, leaf_nil, leaf_nilp, leaf_sl, leaf_row, pl_int, pl_bool, pl_str, pl_nil, pl_nilp, pl_sl, pl_row, Nat.one_ne_zero, false_implies, implies_true, forall_const, not_false_eq_true, List.toList_toArray, true_and, and_true, List.zip_cons_cons, h0, h1, h3, h5, h6, hw, hob7, m0, m1, hob, hsz, n0, n1]
        rfl
      case k =>
        refine loop10 m hlen κ c0 j hcκ hj R k (i + 1) (by omega) _ (es ++ [[.v (.int .i64 m[i])]]) _ _ _ _ _ _ _ _ _ _ _ _ _ _ _ _ _ ?_ ?_ ?_ (.inr ⟨σ.clock + 1 + 1, ?_, ?_, ?_, ob_new_eq rfl⟩) (fun σ'' hK2 => ?_)
        · simp only [clock_new, clock_put]; omega
        · simp; omega
        · refine (Keeps.ob (κ := κ) (σ := σ) ?_ j hj).trans hob7
          ((repeat' (first | exact Keeps.refl _ _ | refine Keeps.new ?_ ?_ _ | refine Keeps.put ?_ ?_ _)) <;> (first | omega | (simp only [clock_new, clock_put]; omega)))
        · simp
        · omega
        · simp only [clock_new, clock_put]; omega
        · simp only [List.append_assoc]
          refine hR σ'' (Keeps.trans ?_ hK2)
          ((repeat' (first | exact Keeps.refl _ _ | refine Keeps.new ?_ ?_ _ | refine Keeps.put ?_ ?_ _)) <;> (first | omega | (simp only [clock_new, clock_put]; omega)))

theorem res10 : Try.f10.results = #[.tmp 2] := rfl
theorem rt10 : Try.f10.resultTypes = #[25] := rfl

theorem winds_le (l : List Fr) : (winds l).length ≤ l.length := by unfold winds; rw [List.length_map]; exact List.length_filter_le _ _

theorem f10_ok (l : List Fr) (hl : ∀ f ∈ l, leaf f.h = true) (hlen : l.length * 40 ≤ 140737488355328) (σ : Store) : callL E 10 [frames l] σ = some (ownInts (winds l), σ, none) := by
  have h23 : ∀ σ, callL E 23 [.sl (l.map Fr.c)] σ = some (ownInts (winds l), σ, none) := f23_ok l hl hlen
  have hwl := winds_le l
  refine callL_ends (fn := Try.f10) (nt := 20) Try.func10 rfl rfl rfl ?_
  simp (decide := true) only [ev1_skip, ev1_label, ev1_exit, ev1_goto, ev1_ret, ev1_region, ev1_seq, ev1_cond, ev1_block, andThen_nrm, andThen_exit, andThen_goto, andThen_ret, pick_bool, blk_nrm, blk_ret, blk_goto, blk_exit, evRegion, evOps, stepG, stepO, wantedAV, evO, evA, evB, evOp, putTm, E_T, E_gl, E_br, List.toList_toArray, List.getD_cons_zero, List.getD_cons_succ, List.set, Option.map_some, lenAV, omin_right, omin_left, cut_none, tdesc, tab3, tab4, tab22, tab25, tab31, tab34, tab44, tab45, tab48, List.getElem?_toArray, List.getElem?_cons_zero, List.getElem?_cons_succ, Option.bind_some, List.length_map, evBin, intBin, bothNil, constOp, Bool.false_and, Bool.not_true, Bool.and_false, Bool.false_eq_true, if_false, if_true, Bool.or_false, Bool.not_false, Bool.and_true, Bool.true_and, indexAddrAV, ints, Option.isSome_none, Option.isSome_some, List.getElem?_map, List.length_cons, List.length_nil, evLoad, ofCells, TD.isAgg, decide_eq_true_eq, reduceIte, List.take_succ_cons, List.take_zero, List.drop_zero, List.drop_succ_cons, Nat.reduceAdd, Nat.reduceLeDiff, Nat.reduceEqDiff, Nat.zero_add, Nat.le_refl, decide_true, decide_false, Nat.reduceSub, Nat.reduceLT, reduceCtorEq, List.append_nil, List.nil_append, List.cons_append, List.replicate, bb_true, bb_false, eqCells, frames, evCall, List.toList_toArray, List.map_cons, List.map_nil, List.nil_append, List.append_nil, List.cons_append, List.flatMap_cons, List.flatMap_nil, rowIds_v, rowIds_sl, rowIds_row, rowIds_agg, shareAll_nil, shareAll_cons, freshL_nil, share, reify_row, freshL, fresh1, List.foldl_cons, List.foldl_nil, slice_map, slice_all, mapO, reify_int, reify_bool, reify_str, reify_nil, reify_sl, reify_agg, importAV_v, importAV_sl, importAV_own, importAV_agg, importAV_tup, importL, import2L, import1, import2, ownInts, h23]
  refine loop10 (winds l) (by omega) (σ.clock + 1) σ.clock σ.clock (by omega) (by omega) (fun r => Ends E σ Try.f10 (ownInts (winds l), σ, none) (andThen (blk 0 r) _)) (winds l).length 0 (by omega) (σ.new ⟨1, false, true, _⟩) [] _ _ _ _ _ _ _ _ _ _ _ _ _ _ _ _ _ (Nat.le_refl _) (by simp) (ob_new_eq rfl) (.inl ⟨rfl, rfl⟩) ?_
  intro σ' hK y0 y1 y2 y3 y4 y5 y6 y7 y8 y9 y10 y11 y12 y13 y14 y15 y16 y17 y18 y19 hrow
  simp (decide := true) only [ev1_skip, ev1_label, ev1_exit, ev1_goto, ev1_ret, ev1_region, ev1_seq, ev1_cond, ev1_block, andThen_nrm, andThen_exit, andThen_goto, andThen_ret, pick_bool, blk_nrm, blk_ret, blk_goto, blk_exit, evRegion, evOps, stepG, stepO, wantedAV, evO, evA, evB, evOp, putTm, E_T, E_gl, E_br, List.toList_toArray, List.getD_cons_zero, List.getD_cons_succ, List.set, Option.map_some, lenAV, omin_right, omin_left, cut_none, tdesc, tab3, tab4, tab22, tab25, tab31, tab34, tab44, tab45, tab48, List.getElem?_toArray, List.getElem?_cons_zero, List.getElem?_cons_succ, Option.bind_some, List.length_map, evBin, intBin, bothNil, constOp, Bool.false_and, Bool.not_true, Bool.and_false, Bool.false_eq_true, if_false, if_true, Bool.or_false, Bool.not_false, Bool.and_true, Bool.true_and, indexAddrAV, ints, Option.isSome_none, Option.isSome_some, List.getElem?_map, List.length_cons, List.length_nil, evLoad, ofCells, TD.isAgg, decide_eq_true_eq, reduceIte, List.take_succ_cons, List.take_zero, List.drop_zero, List.drop_succ_cons, Nat.reduceAdd, Nat.reduceLeDiff, Nat.reduceEqDiff, Nat.zero_add, Nat.le_refl, decide_true, decide_false, Nat.reduceSub, Nat.reduceLT, reduceCtorEq, List.append_nil, List.nil_append, List.cons_append, List.replicate, bb_true, bb_false, eqCells]
  apply Ends.ret
  simp only [List.drop_zero, List.nil_append] at hrow
  generalize hes : (winds l).map (fun n => [AV.v (Value.int IntKind.i64 n)]) = es at hrow
  rcases hrow with ⟨rfl, rfl⟩ | ⟨id, rfl, h1, h2, h3⟩
  · simp only [evReturn, retShare, evReturn0, resAV, mapO, exportVs, exportV, exportL, export1, rowsOf, cells, rowOf, innerIds, shareAll, freshL, E_T, tab3, tab4, tab22, tab25, tab31, tab34, tab44, tab45, tab48, List.toList_toArray, List.getD_cons_zero, List.getD_cons_succ, List.flatMap_cons, List.flatMap_nil, List.append_nil, List.nil_append, List.foldl_nil, omin_right, omin_left, cut_none, one, closed, List.all_cons, List.all_nil, List.nodup_nil, Bool.and_true, Bool.true_and, Option.map_some, and_true, true_and, if_true, Option.isSome_none, Bool.false_eq_true, or_true, false_or, reduceIte, if_pos, rowIds, List.length_nil, List.nodup_cons, List.not_mem_nil, not_false_eq_true, and_self, Nat.zero_add, Nat.le_refl, false_implies, implies_true, slice_all, slice_map, Bool.false_and, List.flatMap, List.map_cons, List.map_nil, List.flatten_cons, List.flatten_nil, List.foldl_cons, cells_row, cells_nil, cells_int, cells_bool, cells_sl, cells_agg, decide_true, tdesc, ob_new_if, ob_put_if, clock_new, clock_put, eq_self, Nat.le_add_right, Nat.left_eq_add, Nat.add_eq_left, Nat.one_ne_zero, res10, rt10, ownInts, hes]
  · have h1' : σ.clock ≤ id := by omega
    simp only [evReturn, retShare, evReturn0, resAV, mapO, exportVs, exportV, exportL, export1, rowsOf, cells, rowOf, innerIds, shareAll, freshL, E_T, tab3, tab4, tab22, tab25, tab31, tab34, tab44, tab45, tab48, List.toList_toArray, List.getD_cons_zero, List.getD_cons_succ, List.flatMap_cons, List.flatMap_nil, List.append_nil, List.nil_append, List.foldl_nil, omin_right, omin_left, cut_none, one, closed, List.all_cons, List.all_nil, List.nodup_nil, Bool.and_true, Bool.true_and, Option.map_some, and_true, true_and, if_true, Option.isSome_none, Bool.false_eq_true, or_true, false_or, reduceIte, if_pos, rowIds, List.length_nil, List.nodup_cons, List.not_mem_nil, not_false_eq_true, and_self, Nat.zero_add, Nat.le_refl, false_implies, implies_true, slice_all, slice_map, Bool.false_and, List.flatMap, List.map_cons, List.map_nil, List.flatten_cons, List.flatten_nil, List.foldl_cons, cells_row, cells_nil, cells_int, cells_bool, cells_sl, cells_agg, decide_true, tdesc, ob_new_if, ob_put_if, clock_new, clock_put, eq_self, Nat.le_add_right, Nat.left_eq_add, Nat.add_eq_left, Nat.one_ne_zero, res10, rt10, ownInts, hes, h3, h1']
end Go.Bx.WindW

/- wind.common, wind.Common. (Own text.) -/
namespace Go.Bx.WindW
set_option linter.unusedVariables false
set_option linter.unusedSimpArgs false
set_option linter.unusedSectionVars false
open Go.Proofs
set_option linter.unusedSimpArgs false
set_option linter.unusedVariables false
set_option maxRecDepth 10000

def lcp : List Int → List Int → Nat
  | a :: xs, b :: ys => if a = b then lcp xs ys + 1 else 0
  | _, _ => 0

theorem lcp_nil_r (l : List Int) : lcp l [] = 0 := by cases l <;> rfl

theorem loop24 (a b : List Int) (hlen : a.length ≤ 140737488355328) (σ : Store) (low : Option Nat) (c0 : Nat) (R : Option (Ex × FS) → Prop) : ∀ (k i : Nat), i + k = min a.length b.length → ∀ (x2 x3 x4 x6 x7 x8 x9 x10 x11 x12 x13 x14 x15 x16 x17 x18 x19 x20 x21 x22 x23 x24 x25 x26 : AV),
    (∀ y2 y3 y4 y6 y7 y8 y9 y10 y11 y12 y13 y14 y15 y16 y17 y18 y19 y20 y21 y22 y23 y24 y25 y26 : AV, R (some (.exit 0, ⟨[ints a, ints b, y2, y3, y4, .v (.int .i64 (i + lcp (a.drop i) (b.drop i) : Nat)), y6, y7, y8, y9, y10, y11, y12, y13, y14, y15, y16, y17, y18, y19, y20, y21, y22, y23, y24, y25, y26], σ, low, c0⟩))) →
    R (ev1 E (callL E) (taskL E) (.loop (lb Try.f24 0)) ⟨[ints a, ints b, x2, x3, x4, .v (.int .i64 i), x6, x7, x8, x9, x10, x11, x12, x13, x14, x15, x16, x17, x18, x19, x20, x21, x22, x23, x24, x25, x26], σ, low, c0⟩)
  | 0, i, hk, x2, x3, x4, x6, x7, x8, x9, x10, x11, x12, x13, x14, x15, x16, x17, x18, x19, x20, x21, x22, x23, x24, x25, x26, hR => by
    have hm : (if (b.length : Int) < (a.length : Int) then (b.length : Int) else (a.length : Int)) = ((min a.length b.length : Nat) : Int) := by split <;> omega
    have h0 : ((i : Int) < ((min a.length b.length : Nat) : Int)) = False := by simp only [eq_iff_iff, iff_false]; omega
    have hd : lcp (a.drop i) (b.drop i) = 0 := by
      rcases Nat.lt_or_ge i a.length with h | h
      · rw [List.drop_of_length_le (i := i) (l := b) (by omega), lcp_nil_r]
      · rw [List.drop_of_length_le (i := i) (l := a) (by omega)]; rfl
    rw [hd] at hR
    apply loop_outR (ex := .exit 0)
    case h =>
      simp only [Try.f24, lb, Option.getD_some, loopsOf, List.nil_append, List.append_nil, List.cons_append, List.getElem?_cons_zero, List.getElem?_cons_succ]
      simp (decide := true) only [ev1_skip, ev1_label, ev1_exit, ev1_goto, ev1_ret, ev1_region, ev1_seq, ev1_cond, ev1_block, andThen_nrm, andThen_exit, andThen_goto, andThen_ret, pick_bool, blk_nrm, blk_ret, blk_goto, blk_exit, evRegion, evOps, stepG, stepO, wantedAV, evO, evA, evB, evOp, putTm, E_T, E_gl, E_br, List.toList_toArray, List.getD_cons_zero, List.getD_cons_succ, List.set, Option.map_some, lenAV, omin_right, omin_left, cut_none, tdesc, tab3, tab4, tab22, tab25, tab31, tab34, tab44, tab45, tab48, List.getElem?_toArray, List.getElem?_cons_zero, List.getElem?_cons_succ, Option.bind_some, List.length_map, evBin, intBin, bothNil, constOp, Bool.false_and, Bool.not_true, Bool.and_false, Bool.false_eq_true, if_false, if_true, Bool.or_false, Bool.not_false, Bool.and_true, Bool.true_and, indexAddrAV, ints, Option.isSome_none, Option.isSome_some, List.getElem?_map, List.length_cons, List.length_nil, evLoad, ofCells, TD.isAgg, decide_eq_true_eq, reduceIte, List.take_succ_cons, List.take_zero, List.drop_zero, List.drop_succ_cons, Nat.reduceAdd, Nat.reduceLeDiff, Nat.reduceEqDiff, Nat.zero_add, Nat.le_refl, decide_true, decide_false, Nat.reduceSub, Nat.reduceLT, reduceCtorEq, List.append_nil, List.nil_append, List.cons_append, List.replicate, bb_true, bb_false, eqCells, hm, h0]
      rfl
    case hx => nofun
    case k => exact hR ..
  | k + 1, i, hk, x2, x3, x4, x6, x7, x8, x9, x10, x11, x12, x13, x14, x15, x16, x17, x18, x19, x20, x21, x22, x23, x24, x25, x26, hR => by
    have hm : (if (b.length : Int) < (a.length : Int) then (b.length : Int) else (a.length : Int)) = ((min a.length b.length : Nat) : Int) := by split <;> omega
    have h0 : ((i : Int) < ((min a.length b.length : Nat) : Int)) = True := by simp only [eq_iff_iff, iff_true]; omega
    have h1 : i < a.length := by omega
    have h2 : i < b.length := by omega
    have h3 : a[((i : Int)).toNat]? = some a[i] := by simp [h1]
    have h4 : b[((i : Int)).toNat]? = some b[i] := by simp [h2]
    have h5 : 0 ≤ (i : Int) := by omega
    have hw : IntKind.i64.wrap ((i : Int) + 1) = ((i + 1 : Nat) : Int) := by rw [IntWalk.i64_in _ (by omega)]; omega
    rw [List.drop_eq_getElem_cons h1, List.drop_eq_getElem_cons h2] at hR
    by_cases he : a[i] = b[i]
    · have hn : (a[i] == b[i]) = true := by simp [he]
      have hd : i + lcp (a[i] :: a.drop (i + 1)) (b[i] :: b.drop (i + 1)) = i + 1 + lcp (a.drop (i + 1)) (b.drop (i + 1)) := by rw [lcp, if_pos he]; omega
      rw [hd] at hR
      apply loop_onR
      case h =>
        simp only [Try.f24, lb, Option.getD_some, loopsOf, List.nil_append, List.append_nil, List.cons_append, List.getElem?_cons_zero, List.getElem?_cons_succ]
        simp (decide := true) only [ev1_skip, ev1_label, ev1_exit, ev1_goto, ev1_ret, ev1_region, ev1_seq, ev1_cond, ev1_block, andThen_nrm, andThen_exit, andThen_goto, andThen_ret, pick_bool, blk_nrm, blk_ret, blk_goto, blk_exit, evRegion, evOps, stepG, stepO, wantedAV, evO, evA, evB, evOp, putTm, E_T, E_gl, E_br, List.toList_toArray, List.getD_cons_zero, List.getD_cons_succ, List.set, Option.map_some, lenAV, omin_right, omin_left, cut_none, tdesc, tab3, tab4, tab22, tab25, tab31, tab34, tab44, tab45, tab48, List.getElem?_toArray, List.getElem?_cons_zero, List.getElem?_cons_succ, Option.bind_some, List.length_map, evBin, intBin, bothNil, constOp, Bool.false_and, Bool.not_true, Bool.and_false, Bool.false_eq_true, if_false, if_true, Bool.or_false, Bool.not_false, Bool.and_true, Bool.true_and, indexAddrAV, ints, Option.isSome_none, Option.isSome_some, List.getElem?_map, List.length_cons, List.length_nil, evLoad, ofCells, TD.isAgg, decide_eq_true_eq, reduceIte, List.take_succ_cons, List.take_zero, List.drop_zero, List.drop_succ_cons, Nat.reduceAdd, Nat.reduceLeDiff, Nat.reduceEqDiff, Nat.zero_add, Nat.le_refl, decide_true, decide_false, Nat.reduceSub, Nat.reduceLT, reduceCtorEq, List.append_nil, List.nil_append, List.cons_append, List.replicate, bb_true, bb_false, eqCells, hm, h0, h3, h4, h5, hn, hw]
        rfl
      case k => exact loop24 a b hlen σ low c0 R k (i + 1) (by omega) _ _ _ _ _ _ _ _ _ _ _ _ _ _ _ _ _ _ _ _ _ _ _ _ hR
    · have hn : (a[i] == b[i]) = false := by simp [he]
      have hd : i + lcp (a[i] :: a.drop (i + 1)) (b[i] :: b.drop (i + 1)) = i := by rw [lcp, if_neg he]; rfl
      rw [hd] at hR
      apply loop_outR (ex := .exit 0)
      case h =>
        simp only [Try.f24, lb, Option.getD_some, loopsOf, List.nil_append, List.append_nil, List.cons_append, List.getElem?_cons_zero, List.getElem?_cons_succ]
        simp (decide := true) only [ev1_skip, ev1_label, ev1_exit, ev1_goto, ev1_ret, ev1_region, ev1_seq, ev1_cond, ev1_block, andThen_nrm, andThen_exit, andThen_goto, andThen_ret, pick_bool, blk_nrm, blk_ret, blk_goto, blk_exit, evRegion, evOps, stepG, stepO, wantedAV, evO, evA, evB, evOp, putTm, E_T, E_gl, E_br, List.toList_toArray, List.getD_cons_zero, List.getD_cons_succ, List.set, Option.map_some, lenAV, omin_right, omin_left, cut_none, tdesc, tab3, tab4, tab22, tab25, tab31, tab34, tab44, tab45, tab48, List.getElem?_toArray, List.getElem?_cons_zero, List.getElem?_cons_succ, Option.bind_some, List.length_map, evBin, intBin, bothNil, constOp, Bool.false_and, Bool.not_true, Bool.and_false, Bool.false_eq_true, if_false, if_true, Bool.or_false, Bool.not_false, Bool.and_true, Bool.true_and, indexAddrAV, ints, Option.isSome_none, Option.isSome_some, List.getElem?_map, List.length_cons, List.length_nil, evLoad, ofCells, TD.isAgg, decide_eq_true_eq, reduceIte, List.take_succ_cons, List.take_zero, List.drop_zero, List.drop_succ_cons, Nat.reduceAdd, Nat.reduceLeDiff, Nat.reduceEqDiff, Nat.zero_add, Nat.le_refl, decide_true, decide_false, Nat.reduceSub, Nat.reduceLT, reduceCtorEq, List.append_nil, List.nil_append, List.cons_append, List.replicate, bb_true, bb_false, eqCells, hm, h0, h3, h4, h5, hn]
        rfl
      case hx => nofun
      case k => exact hR ..

theorem res24 : Try.f24.results = #[.tmp 4] := rfl
theorem rt24 : Try.f24.resultTypes = #[3] := rfl

theorem f24_ok (a b : List Int) (hlen : a.length ≤ 140737488355328) (σ : Store) : callL E 24 [ints a, ints b] σ = some (.v (.int .i64 (lcp a b)), σ, none) := by
  refine callL_ends (fn := Try.f24) (nt := 27) Try.func24 rfl rfl rfl ?_
  simp (decide := true) only [ev1_skip, ev1_label, ev1_exit, ev1_goto, ev1_ret, ev1_region, ev1_seq, ev1_cond, ev1_block, andThen_nrm, andThen_exit, andThen_goto, andThen_ret, pick_bool, blk_nrm, blk_ret, blk_goto, blk_exit, evRegion, evOps, stepG, stepO, wantedAV, evO, evA, evB, evOp, putTm, E_T, E_gl, E_br, List.toList_toArray, List.getD_cons_zero, List.getD_cons_succ, List.set, Option.map_some, lenAV, omin_right, omin_left, cut_none, tdesc, tab3, tab4, tab22, tab25, tab31, tab34, tab44, tab45, tab48, List.getElem?_toArray, List.getElem?_cons_zero, List.getElem?_cons_succ, Option.bind_some, List.length_map, evBin, intBin, bothNil, constOp, Bool.false_and, Bool.not_true, Bool.and_false, Bool.false_eq_true, if_false, if_true, Bool.or_false, Bool.not_false, Bool.and_true, Bool.true_and, indexAddrAV, ints, Option.isSome_none, Option.isSome_some, List.getElem?_map, List.length_cons, List.length_nil, evLoad, ofCells, TD.isAgg, decide_eq_true_eq, reduceIte, List.take_succ_cons, List.take_zero, List.drop_zero, List.drop_succ_cons, Nat.reduceAdd, Nat.reduceLeDiff, Nat.reduceEqDiff, Nat.zero_add, Nat.le_refl, decide_true, decide_false, Nat.reduceSub, Nat.reduceLT, reduceCtorEq, List.append_nil, List.nil_append, List.cons_append, List.replicate, bb_true, bb_false, eqCells]
  refine loop24 a b hlen σ none σ.clock (fun r => Ends E σ Try.f24 (.v (.int .i64 (lcp a b)), σ, none) (andThen (blk 0 r) _)) (min a.length b.length) 0 (by omega) _ _ _ _ _ _ _ _ _ _ _ _ _ _ _ _ _ _ _ _ _ _ _ _ ?_
  intro y2 y3 y4 y6 y7 y8 y9 y10 y11 y12 y13 y14 y15 y16 y17 y18 y19 y20 y21 y22 y23 y24 y25 y26
  simp (decide := true) only [ev1_skip, ev1_label, ev1_exit, ev1_goto, ev1_ret, ev1_region, ev1_seq, ev1_cond, ev1_block, andThen_nrm, andThen_exit, andThen_goto, andThen_ret, pick_bool, blk_nrm, blk_ret, blk_goto, blk_exit, evRegion, evOps, stepG, stepO, wantedAV, evO, evA, evB, evOp, putTm, E_T, E_gl, E_br, List.toList_toArray, List.getD_cons_zero, List.getD_cons_succ, List.set, Option.map_some, lenAV, omin_right, omin_left, cut_none, tdesc, tab3, tab4, tab22, tab25, tab31, tab34, tab44, tab45, tab48, List.getElem?_toArray, List.getElem?_cons_zero, List.getElem?_cons_succ, Option.bind_some, List.length_map, evBin, intBin, bothNil, constOp, Bool.false_and, Bool.not_true, Bool.and_false, Bool.false_eq_true, if_false, if_true, Bool.or_false, Bool.not_false, Bool.and_true, Bool.true_and, indexAddrAV, ints, Option.isSome_none, Option.isSome_some, List.getElem?_map, List.length_cons, List.length_nil, evLoad, ofCells, TD.isAgg, decide_eq_true_eq, reduceIte, List.take_succ_cons, List.take_zero, List.drop_zero, List.drop_succ_cons, Nat.reduceAdd, Nat.reduceLeDiff, Nat.reduceEqDiff, Nat.zero_add, Nat.le_refl, decide_true, decide_false, Nat.reduceSub, Nat.reduceLT, reduceCtorEq, List.append_nil, List.nil_append, List.cons_append, List.replicate, bb_true, bb_false, eqCells]
  apply Ends.ret
  simp only [evReturn, retShare, evReturn0, resAV, mapO, exportVs, exportV, exportL, export1, rowsOf, cells, rowOf, innerIds, shareAll, freshL, E_T, tab3, tab4, tab22, tab25, tab31, tab34, tab44, tab45, tab48, List.toList_toArray, List.getD_cons_zero, List.getD_cons_succ, List.flatMap_cons, List.flatMap_nil, List.append_nil, List.nil_append, List.foldl_nil, omin_right, omin_left, cut_none, one, closed, List.all_cons, List.all_nil, List.nodup_nil, Bool.and_true, Bool.true_and, Option.map_some, and_true, true_and, if_true, Option.isSome_none, Bool.false_eq_true, or_true, false_or, reduceIte, if_pos, rowIds, List.length_nil, List.nodup_cons, List.not_mem_nil, not_false_eq_true, and_self, Nat.zero_add, Nat.le_refl, false_implies, implies_true, slice_all, slice_map, Bool.false_and, List.flatMap, List.map_cons, List.map_nil, List.flatten_cons, List.flatten_nil, List.foldl_cons, cells_row, cells_nil, cells_int, cells_bool, cells_sl, cells_agg, decide_true, tdesc, ob_new_if, ob_put_if, clock_new, clock_put, eq_self, Nat.le_add_right, Nat.left_eq_add, Nat.add_eq_left, Nat.one_ne_zero, res24, rt24]

theorem res13 : Try.f13.results = #[.tmp 4] := rfl
theorem rt13 : Try.f13.resultTypes = #[3] := rfl

theorem f13_ok (l m : List Fr) (hl : ∀ f ∈ l, leaf f.h = true) (hm : ∀ f ∈ m, leaf f.h = true) (hlen : l.length * 40 ≤ 140737488355328) (hlen2 : m.length * 40 ≤ 140737488355328) (σ : Store) :
    callL E 13 [frames l, frames m] σ = some (.v (.int .i64 (lcp (winds l) (winds m))), σ, none) := by
  have h23 : ∀ σ, callL E 23 [.sl (l.map Fr.c)] σ = some (ownInts (winds l), σ, none) := f23_ok l hl hlen
  have h23' : ∀ σ, callL E 23 [.sl (m.map Fr.c)] σ = some (ownInts (winds m), σ, none) := f23_ok m hm hlen2
  have hwl := winds_le l
  have h24 : ∀ σ, callL E 24 [.sl ((winds l).map fun n => [.v (.int .i64 n)]), .sl ((winds m).map fun n => [.v (.int .i64 n)])] σ = some (.v (.int .i64 (lcp (winds l) (winds m))), σ, none) := f24_ok (winds l) (winds m) (by omega)
  refine callL_ends (fn := Try.f13) (nt := 10) Try.func13 rfl rfl rfl ?_
  simp (decide := true) (disch := (first | omega | (simp only [clock_new, clock_put]; done) | (simp only [clock_new, clock_put]; omega))) only [ev1_skip, ev1_label, ev1_exit, ev1_goto, ev1_ret, ev1_region, ev1_seq, ev1_cond, ev1_block, andThen_nrm, andThen_exit, andThen_goto, andThen_ret, pick_bool, blk_nrm, blk_ret, blk_goto, blk_exit, evRegion, evOps, stepG, stepO, wantedAV, evO, evA, evB, evOp, putTm, E_T, E_gl, E_br, List.toList_toArray, List.getD_cons_zero, List.getD_cons_succ, List.set, Option.map_some, lenAV, omin_right, omin_left, cut_none, tdesc, tab3, tab4, tab22, tab25, tab31, tab34, tab44, tab45, tab48, List.getElem?_toArray, List.getElem?_cons_zero, List.getElem?_cons_succ, Option.bind_some, List.length_map, evBin, intBin, bothNil, constOp, Bool.false_and, Bool.not_true, Bool.and_false, Bool.false_eq_true, if_false, if_true, Bool.or_false, Bool.not_false, Bool.and_true, Bool.true_and, indexAddrAV, ints, Option.isSome_none, Option.isSome_some, List.getElem?_map, List.length_cons, List.length_nil, evLoad, ofCells, TD.isAgg, decide_eq_true_eq, reduceIte, List.take_succ_cons, List.take_zero, List.drop_zero, List.drop_succ_cons, Nat.reduceAdd, Nat.reduceLeDiff, Nat.reduceEqDiff, Nat.zero_add, Nat.le_refl, decide_true, decide_false, Nat.reduceSub, Nat.reduceLT, reduceCtorEq, List.append_nil, List.nil_append, List.cons_append, List.replicate, bb_true, bb_false, eqCells, evStore, evAppend, elems, flatOf, cells_agg, cells_int, cells_bool, cells_str, cells_nil, cells_nilp, cells_sl, cells_row, cells_ptr, cut_ge, cut_omin, putAt, clock_new, clock_put, ob_new_if, ob_put_if, Nat.left_eq_add, Nat.add_eq_left, Nat.add_left_cancel_iff, eq_self, Nat.succ_ne_self, fillL, slice_all, slice_map, slice_one, slice_nil, List.take_append_drop, List.all_cons, List.all_nil, beq_self_eq_true, and_self, List.length_set, List.map_cons, List.map_nil, ne_eq, List.range_succ, List.range_zero, List.append_eq, List.length_append, fieldPlaceT, leaf_int, leaf_bool, leaf_str, leaf_nil, leaf_nilp, leaf_sl, leaf_row, pl_int, pl_bool, pl_str, pl_nil, pl_nilp, pl_sl, pl_row, Nat.one_ne_zero, false_implies, implies_true, forall_const, not_false_eq_true, List.toList_toArray, true_and, and_true, List.zip_cons_cons, frames, evCall, List.toList_toArray, List.map_cons, List.map_nil, List.nil_append, List.append_nil, List.cons_append, List.flatMap_cons, List.flatMap_nil, rowIds_v, rowIds_sl, rowIds_row, rowIds_agg, shareAll_nil, shareAll_cons, freshL_nil, share, reify_row, freshL, fresh1, List.foldl_cons, List.foldl_nil, slice_map, slice_all, mapO, reify_int, reify_bool, reify_str, reify_nil, reify_sl, reify_agg, importAV_v, importAV_sl, importAV_own, importAV_agg, importAV_tup, importL, import2L, import1, import2, ownInts, h23, h23', h24]
  apply Ends.ret
  simp only [evReturn, retShare, evReturn0, resAV, mapO, exportVs, exportV, exportL, export1, rowsOf, cells, rowOf, innerIds, shareAll, freshL, E_T, tab3, tab4, tab22, tab25, tab31, tab34, tab44, tab45, tab48, List.toList_toArray, List.getD_cons_zero, List.getD_cons_succ, List.flatMap_cons, List.flatMap_nil, List.append_nil, List.nil_append, List.foldl_nil, omin_right, omin_left, cut_none, one, closed, List.all_cons, List.all_nil, List.nodup_nil, Bool.and_true, Bool.true_and, Option.map_some, and_true, true_and, if_true, Option.isSome_none, Bool.false_eq_true, or_true, false_or, reduceIte, if_pos, rowIds, List.length_nil, List.nodup_cons, List.not_mem_nil, not_false_eq_true, and_self, Nat.zero_add, Nat.le_refl, false_implies, implies_true, slice_all, slice_map, Bool.false_and, List.flatMap, List.map_cons, List.map_nil, List.flatten_cons, List.flatten_nil, List.foldl_cons, cells_row, cells_nil, cells_int, cells_bool, cells_sl, cells_agg, decide_true, tdesc, ob_new_if, ob_put_if, clock_new, clock_put, eq_self, Nat.le_add_right, Nat.left_eq_add, Nat.add_eq_left, Nat.one_ne_zero, res13, rt13]
end Go.Bx.WindW

/- sibylref15.Winds, SameTrip. (Own text.) -/
namespace Go.Bx.WindW
set_option linter.unusedVariables false
set_option linter.unusedSimpArgs false
set_option linter.unusedSectionVars false
open Go.Proofs
set_option linter.unusedSimpArgs false
set_option linter.unusedVariables false
set_option maxRecDepth 10000

theorem loop12 (l : List Fr) (hlen : l.length * 40 ≤ 140737488355328) (c0 : Nat) (R : Option (Ex × FS) → Prop) : ∀ (k i : Nat), i + k = l.length → ∀ (σ : Store) (es : List Cs) (x1 x2 x3 x5 x6 x7 x8 x9 x10 x11 x12 x13 x14 x15 x16 x17 x18 x19 x20 x21 x22 x23 x24 x25 : AV), c0 ≤ σ.clock → es.length ≤ i → RowAt c0 σ x3 1 es →
    (∀ σ', Keeps c0 σ σ' → ∀ y0 y1 y2 y3 y4 y5 y6 y7 y8 y9 y10 y11 y12 y13 y14 y15 y16 y17 y18 y19 y20 y21 y22 y23 y24 y25 : AV, RowAt c0 σ' y3 1 (es ++ (winds (l.drop i)).map fun n => [.v (.int .i64 n)]) → R (some (.exit 0, ⟨[y0, y1, y2, y3, y4, y5, y6, y7, y8, y9, y10, y11, y12, y13, y14, y15, y16, y17, y18, y19, y20, y21, y22, y23, y24, y25], σ', none, c0⟩))) →
    R (ev1 E (callL E) (taskL E) (.loop (lb Try.f12 0)) ⟨[frames l, x1, x2, x3, .v (.int .i64 i), x5, x6, x7, x8, x9, x10, x11, x12, x13, x14, x15, x16, x17, x18, x19, x20, x21, x22, x23, x24, x25], σ, none, c0⟩)
  | 0, i, hk, σ, es, x1, x2, x3, x5, x6, x7, x8, x9, x10, x11, x12, x13, x14, x15, x16, x17, x18, x19, x20, x21, x22, x23, x24, x25, hc, hes, hrow, hR => by
    have h0 : ¬ ((i : Int) < (l.length : Int)) := by omega
    have hd : l.drop i = [] := List.drop_of_length_le (by omega)
    apply loop_outR (ex := .exit 0)
    case h =>
      simp only [Try.f12, lb, Option.getD_some, loopsOf, List.nil_append, List.append_nil, List.cons_append, List.getElem?_cons_zero, List.getElem?_cons_succ]
      simp (decide := true) only [ev1_skip, ev1_label, ev1_exit, ev1_goto, ev1_ret, ev1_region, ev1_seq, ev1_cond, ev1_block, andThen_nrm, andThen_exit, andThen_goto, andThen_ret, pick_bool, blk_nrm, blk_ret, blk_goto, blk_exit, evRegion, evOps, stepG, stepO, wantedAV, evO, evA, evB, evOp, putTm, E_T, E_gl, E_br, List.toList_toArray, List.getD_cons_zero, List.getD_cons_succ, List.set, Option.map_some, lenAV, omin_right, omin_left, cut_none, tdesc, tab3, tab4, tab22, tab25, tab31, tab34, tab44, tab45, tab48, List.getElem?_toArray, List.getElem?_cons_zero, List.getElem?_cons_succ, Option.bind_some, List.length_map, evBin, intBin, bothNil, constOp, Bool.false_and, Bool.not_true, Bool.and_false, Bool.false_eq_true, if_false, if_true, Bool.or_false, Bool.not_false, Bool.and_true, Bool.true_and, indexAddrAV, ints, Option.isSome_none, Option.isSome_some, List.getElem?_map, List.length_cons, List.length_nil, evLoad, ofCells, TD.isAgg, decide_eq_true_eq, reduceIte, List.take_succ_cons, List.take_zero, List.drop_zero, List.drop_succ_cons, Nat.reduceAdd, Nat.reduceLeDiff, Nat.reduceEqDiff, Nat.zero_add, Nat.le_refl, decide_true, decide_false, Nat.reduceSub, Nat.reduceLT, reduceCtorEq, List.append_nil, List.nil_append, List.cons_append, List.replicate, bb_true, bb_false, eqCells, frames, h0]
      rfl
    case hx => nofun
    case k => exact hR σ (Keeps.refl _ _) _ _ _ _ _ _ _ _ _ _ _ _ _ _ _ _ _ _ _ _ _ _ _ _ _ _ (by rw [hd]; simpa [winds] using hrow)
  | k + 1, i, hk, σ, es, x1, x2, x3, x5, x6, x7, x8, x9, x10, x11, x12, x13, x14, x15, x16, x17, x18, x19, x20, x21, x22, x23, x24, x25, hc, hes, hrow, hR => by
    have h0 : (i : Int) < (l.length : Int) := by omega
    have h1 : i < l.length := by omega
    have h3 : l[((i : Int)).toNat]? = some l[i] := by simp [h1]
    have h5 : 0 ≤ (i : Int) := by omega
    have hw : IntKind.i64.wrap ((i : Int) + 1) = ((i + 1 : Nat) : Int) := by rw [IntWalk.i64_in _ (by omega)]; omega
    have hsz : (es.length + 1) * 8 ≤ 140737488355328 := by omega
    by_cases hk2 : l[i].k = 2
    · have hn : (l[i].k == 2) = true := by simpa using hk2
      have hd : winds (l.drop i) = l[i].id :: winds (l.drop (i + 1)) := by unfold winds; rw [List.drop_eq_getElem_cons h1, List.filter_cons_of_pos (by simp [hk2]), List.map_cons]
      rw [hd, List.map_cons] at hR
      rcases hrow with ⟨rfl, rfl⟩ | ⟨id, rfl, hid1, hid2, hob⟩
      · apply loop_onR
        case h =>
          simp only [Try.f12, lb, Option.getD_some, loopsOf, List.nil_append, List.append_nil, List.cons_append, List.getElem?_cons_zero, List.getElem?_cons_succ]
          simp (decide := true) (disch := (first | omega | (simp only [clock_new, clock_put]; done) | (simp only [clock_new, clock_put]; omega))) only [ev1_skip, ev1_label, ev1_exit, ev1_goto, ev1_ret, ev1_region, ev1_seq, ev1_cond, ev1_block, andThen_nrm, andThen_exit, andThen_goto, andThen_ret, pick_bool, blk_nrm, blk_ret, blk_goto, blk_exit, evRegion, evOps, stepG, stepO, wantedAV, evO, evA, evB, evOp, putTm, E_T, E_gl, E_br, List.toList_toArray, List.getD_cons_zero, List.getD_cons_succ, List.set, Option.map_some, lenAV, omin_right, omin_left, cut_none, tdesc, tab3, tab4, tab22, tab25, tab31, tab34, tab44, tab45, tab48, List.getElem?_toArray, List.getElem?_cons_zero, List.getElem?_cons_succ, Option.bind_some, List.length_map, evBin, intBin, bothNil, constOp, Bool.false_and, Bool.not_true, Bool.and_false, Bool.false_eq_true, if_false, if_true, Bool.or_false, Bool.not_false, Bool.and_true, Bool.true_and, indexAddrAV, ints, Option.isSome_none, Option.isSome_some, List.getElem?_map, List.length_cons, List.length_nil, evLoad, ofCells, TD.isAgg, decide_eq_true_eq, reduceIte, List.take_succ_cons, List.take_zero, List.drop_zero, List.drop_succ_cons, Nat.reduceAdd, Nat.reduceLeDiff, Nat.reduceEqDiff, Nat.zero_add, Nat.le_refl, decide_true, decide_false, Nat.reduceSub, Nat.reduceLT, reduceCtorEq, List.append_nil, List.nil_append, List.cons_append, List.replicate, bb_true, bb_false, eqCells, evStore, evAppend, elems, flatOf, cells_agg, cells_int, cells_bool, cells_str, cells_nil, cells_nilp, cells_sl, cells_row, cells_ptr, cut_ge, cut_omin, putAt, clock_new, clock_put, ob_new_if, ob_put_if, Nat.left_eq_add, Nat.add_eq_left, Nat.add_left_cancel_iff, eq_self, Nat.succ_ne_self, fillL, slice_all, slice_map, slice_one, slice_nil, List.take_append_drop, List.all_cons, List.all_nil, beq_self_eq_true, and_self, List.length_set, List.map_cons, List.map_nil, ne_eq, List.range_succ, List.range_zero, List.append_eq, List.length_append, fieldPlaceT, leaf_int, leaf_bool, leaf_str, leaf_nil, leaf_nilp, leaf_sl, leaf_row, pl_int, pl_bool, pl_str, pl_nil, pl_nilp, pl_sl, pl_row, Nat.one_ne_zero, false_implies, implies_true, forall_const, not_false_eq_true, List.toList_toArray, true_and, and_true, List.zip_cons_cons, frames, Fr.c, h0, h3, h5, hw, hn]
          rfl
        case k =>
          refine loop12 l hlen c0 R k (i + 1) (by omega) _ [[.v (.int .i64 l[i].id)]] _ _ _ _ _ _ _ _ _ _ _ _ _ _ _ _ _ _ _ _ _ _ _ _ ?_ ?_ (.inr ⟨σ.clock + 1, rfl, ?_, ?_, ob_new_eq rfl⟩) (fun σ'' hK2 => ?_)
          · simp only [clock_new, clock_put]; omega
          · simp
          · omega
          · simp only [clock_new, clock_put]; omega
          · refine hR σ'' (Keeps.trans ?_ hK2)
            ((repeat' (first | exact Keeps.refl _ _ | refine Keeps.new ?_ ?_ _ | refine Keeps.put ?_ ?_ _)) <;> (first | omega | (simp only [clock_new, clock_put]; omega)))
      · have n0 : (id = σ.clock) = False := by simp; omega
        apply loop_onR
        case h =>
          simp only [Try.f12, lb, Option.getD_some, loopsOf, List.nil_append, List.append_nil, List.cons_append, List.getElem?_cons_zero, List.getElem?_cons_succ]
          simp (decide := true) (disch := (first | omega | (simp only [clock_new, clock_put]; done) | (simp only [clock_new, clock_put]; omega))) only [ev1_skip, ev1_label, ev1_exit, ev1_goto, ev1_ret, ev1_region, ev1_seq, ev1_cond, ev1_block, andThen_nrm, andThen_exit, andThen_goto, andThen_ret, pick_bool, blk_nrm, blk_ret, blk_goto, blk_exit, evRegion, evOps, stepG, stepO, wantedAV, evO, evA, evB, evOp, putTm, E_T, E_gl, E_br, List.toList_toArray, List.getD_cons_zero, List.getD_cons_succ, List.set, Option.map_some, lenAV, omin_right, omin_left, cut_none, tdesc, tab3, tab4, tab22, tab25, tab31, tab34, tab44, tab45, tab48, List.getElem?_toArray, List.getElem?_cons_zero, List.getElem?_cons_succ, Option.bind_some, List.length_map, evBin, intBin, bothNil, constOp, Bool.false_and, Bool.not_true, Bool.and_false, Bool.false_eq_true, if_false, if_true, Bool.or_false, Bool.not_false, Bool.and_true, Bool.true_and, indexAddrAV, ints, Option.isSome_none, Option.isSome_some, List.getElem?_map, List.length_cons, List.length_nil, evLoad, ofCells, TD.isAgg, decide_eq_true_eq, reduceIte, List.take_succ_cons, List.take_zero, List.drop_zero, List.drop_succ_cons, Nat.reduceAdd, Nat.reduceLeDiff, Nat.reduceEqDiff, Nat.zero_add, Nat.le_refl, decide_true, decide_false, Nat.reduceSub, Nat.reduceLT, reduceCtorEq, List.append_nil, List.nil_append, List.cons_append, List.replicate, bb_true, bb_false, eqCells, evStore, evAppend, elems, flatOf, cells_agg, cells_int, cells_bool, cells_str, cells_nil, cells_nilp, cells_sl, cells_row, cells_ptr, cut_ge, cut_omin, putAt, clock_new, clock_put, ob_new_if, ob_put_if, Nat.left_eq_add, Nat.add_eq_left, Nat.add_left_cancel_iff, eq_self, Nat.succ_ne_self, fillL, slice_all, slice_map, slice_one, slice_nil, List.take_append_drop, List.all_cons, List.all_nil, beq_self_eq_true, and_self, List.length_set, List.map_cons, List.map_nil, ne_eq, List.range_succ, List.range_zero, List.append_eq, List.length_append, fieldPlaceT, leaf_int, leaf_bool, leaf_str, leaf_nil, leaf_nilp, leaf_sl, leaf_row, pl_int, pl_bool, pl_str, pl_nil, pl_nilp, pl_sl, pl_row, Nat.one_ne_zero, false_implies, implies_true, forall_const, not_false_eq_true, List.toList_toArray, true_and, and_true, List.zip_cons_cons, frames, Fr.c, h0, h3, h5, hw, hn, hob, hsz, n0]
          rfl
        case k =>
          refine loop12 l hlen c0 R k (i + 1) (by omega) _ (es ++ [[.v (.int .i64 l[i].id)]]) _ _ _ _ _ _ _ _ _ _ _ _ _ _ _ _ _ _ _ _ _ _ _ _ ?_ ?_ (.inr ⟨σ.clock + 1, ?_, ?_, ?_, ob_new_eq rfl⟩) (fun σ'' hK2 => ?_)
          · simp only [clock_new, clock_put]; omega
          · simp; omega
          · simp
          · omega
          · simp only [clock_new, clock_put]; omega
          · simp only [List.append_assoc]
            refine hR σ'' (Keeps.trans ?_ hK2)
            ((repeat' (first | exact Keeps.refl _ _ | refine Keeps.new ?_ ?_ _ | refine Keeps.put ?_ ?_ _)) <;> (first | omega | (simp only [clock_new, clock_put]; omega)))
    · have hn : (l[i].k == 2) = false := by simpa using hk2
      have hd : winds (l.drop i) = winds (l.drop (i + 1)) := by unfold winds; rw [List.drop_eq_getElem_cons h1, List.filter_cons_of_neg (by simp [hk2])]
      apply loop_onR
      case h =>
        simp only [Try.f12, lb, Option.getD_some, loopsOf, List.nil_append, List.append_nil, List.cons_append, List.getElem?_cons_zero, List.getElem?_cons_succ]
        simp (decide := true) (disch := (first | omega | (simp only [clock_new, clock_put]; done) | (simp only [clock_new, clock_put]; omega))) only [ev1_skip, ev1_label, ev1_exit, ev1_goto, ev1_ret, ev1_region, ev1_seq, ev1_cond, ev1_block, andThen_nrm, andThen_exit, andThen_goto, andThen_ret, pick_bool, blk_nrm, blk_ret, blk_goto, blk_exit, evRegion, evOps, stepG, stepO, wantedAV, evO, evA, evB, evOp, putTm, E_T, E_gl, E_br, List.toList_toArray, List.getD_cons_zero, List.getD_cons_succ, List.set, Option.map_some, lenAV, omin_right, omin_left, cut_none, tdesc, tab3, tab4, tab22, tab25, tab31, tab34, tab44, tab45, tab48, List.getElem?_toArray, List.getElem?_cons_zero, List.getElem?_cons_succ, Option.bind_some, List.length_map, evBin, intBin, bothNil, constOp, Bool.false_and, Bool.not_true, Bool.and_false, Bool.false_eq_true, if_false, if_true, Bool.or_false, Bool.not_false, Bool.and_true, Bool.true_and, indexAddrAV, ints, Option.isSome_none, Option.isSome_some, List.getElem?_map, List.length_cons, List.length_nil, evLoad, ofCells, TD.isAgg, decide_eq_true_eq, reduceIte, List.take_succ_cons, List.take_zero, List.drop_zero, List.drop_succ_cons, Nat.reduceAdd, Nat.reduceLeDiff, Nat.reduceEqDiff, Nat.zero_add, Nat.le_refl, decide_true, decide_false, Nat.reduceSub, Nat.reduceLT, reduceCtorEq, List.append_nil, List.nil_append, List.cons_append, List.replicate, bb_true, bb_false, eqCells, evStore, evAppend, elems, flatOf, cells_agg, cells_int, cells_bool, cells_str, cells_nil, cells_nilp, cells_sl, cells_row, cells_ptr, cut_ge, cut_omin, putAt, clock_new, clock_put, ob_new_if, ob_put_if, Nat.left_eq_add, Nat.add_eq_left, Nat.add_left_cancel_iff, eq_self, Nat.succ_ne_self, fillL, slice_all, slice_map, slice_one, slice_nil, List.take_append_drop, List.all_cons, List.all_nil, beq_self_eq_true, and_self, List.length_set, List.map_cons, List.map_nil, ne_eq, List.range_succ, List.range_zero, List.append_eq, List.length_append, fieldPlaceT, leaf_int, leaf_bool, leaf_str, leaf_nil, leaf_nilp, leaf_sl, leaf_row, pl_int, pl_bool, pl_str, pl_nil, pl_nilp, pl_sl, pl_row, Nat.one_ne_zero, false_implies, implies_true, forall_const, not_false_eq_true, List.toList_toArray, true_and, and_true, List.zip_cons_cons, frames, Fr.c, h0, h3, h5, hw, hn]
        rfl
      case k =>
        rw [hd] at hR
        exact loop12 l hlen c0 R k (i + 1) (by omega) _ es _ _ _ _ _ _ _ _ _ _ _ _ _ _ _ _ _ _ _ _ _ _ _ _ hc (by omega) hrow hR

theorem res12 : Try.f12.results = #[.tmp 2] := rfl
theorem rt12 : Try.f12.resultTypes = #[25] := rfl

theorem f12_ok (l : List Fr) (hlen : l.length * 40 ≤ 140737488355328) (σ : Store) : callL E 12 [frames l] σ = some (ownInts (winds l), σ, none) := by
  refine callL_ends (fn := Try.f12) (nt := 26) Try.func12 rfl rfl rfl ?_
  simp (decide := true) only [ev1_skip, ev1_label, ev1_exit, ev1_goto, ev1_ret, ev1_region, ev1_seq, ev1_cond, ev1_block, andThen_nrm, andThen_exit, andThen_goto, andThen_ret, pick_bool, blk_nrm, blk_ret, blk_goto, blk_exit, evRegion, evOps, stepG, stepO, wantedAV, evO, evA, evB, evOp, putTm, E_T, E_gl, E_br, List.toList_toArray, List.getD_cons_zero, List.getD_cons_succ, List.set, Option.map_some, lenAV, omin_right, omin_left, cut_none, tdesc, tab3, tab4, tab22, tab25, tab31, tab34, tab44, tab45, tab48, List.getElem?_toArray, List.getElem?_cons_zero, List.getElem?_cons_succ, Option.bind_some, List.length_map, evBin, intBin, bothNil, constOp, Bool.false_and, Bool.not_true, Bool.and_false, Bool.false_eq_true, if_false, if_true, Bool.or_false, Bool.not_false, Bool.and_true, Bool.true_and, indexAddrAV, ints, Option.isSome_none, Option.isSome_some, List.getElem?_map, List.length_cons, List.length_nil, evLoad, ofCells, TD.isAgg, decide_eq_true_eq, reduceIte, List.take_succ_cons, List.take_zero, List.drop_zero, List.drop_succ_cons, Nat.reduceAdd, Nat.reduceLeDiff, Nat.reduceEqDiff, Nat.zero_add, Nat.le_refl, decide_true, decide_false, Nat.reduceSub, Nat.reduceLT, reduceCtorEq, List.append_nil, List.nil_append, List.cons_append, List.replicate, bb_true, bb_false, eqCells, frames]
  refine loop12 l hlen σ.clock (fun r => Ends E σ Try.f12 (ownInts (winds l), σ, none) (andThen (blk 0 r) _)) l.length 0 (by omega) σ [] _ _ _ _ _ _ _ _ _ _ _ _ _ _ _ _ _ _ _ _ _ _ _ _ (Nat.le_refl _) (by simp) (.inl ⟨rfl, rfl⟩) ?_
  intro σ' hK y0 y1 y2 y3 y4 y5 y6 y7 y8 y9 y10 y11 y12 y13 y14 y15 y16 y17 y18 y19 y20 y21 y22 y23 y24 y25 hrow
  simp (decide := true) only [ev1_skip, ev1_label, ev1_exit, ev1_goto, ev1_ret, ev1_region, ev1_seq, ev1_cond, ev1_block, andThen_nrm, andThen_exit, andThen_goto, andThen_ret, pick_bool, blk_nrm, blk_ret, blk_goto, blk_exit, evRegion, evOps, stepG, stepO, wantedAV, evO, evA, evB, evOp, putTm, E_T, E_gl, E_br, List.toList_toArray, List.getD_cons_zero, List.getD_cons_succ, List.set, Option.map_some, lenAV, omin_right, omin_left, cut_none, tdesc, tab3, tab4, tab22, tab25, tab31, tab34, tab44, tab45, tab48, List.getElem?_toArray, List.getElem?_cons_zero, List.getElem?_cons_succ, Option.bind_some, List.length_map, evBin, intBin, bothNil, constOp, Bool.false_and, Bool.not_true, Bool.and_false, Bool.false_eq_true, if_false, if_true, Bool.or_false, Bool.not_false, Bool.and_true, Bool.true_and, indexAddrAV, ints, Option.isSome_none, Option.isSome_some, List.getElem?_map, List.length_cons, List.length_nil, evLoad, ofCells, TD.isAgg, decide_eq_true_eq, reduceIte, List.take_succ_cons, List.take_zero, List.drop_zero, List.drop_succ_cons, Nat.reduceAdd, Nat.reduceLeDiff, Nat.reduceEqDiff, Nat.zero_add, Nat.le_refl, decide_true, decide_false, Nat.reduceSub, Nat.reduceLT, reduceCtorEq, List.append_nil, List.nil_append, List.cons_append, List.replicate, bb_true, bb_false, eqCells]
  apply Ends.ret
  simp only [List.drop_zero, List.nil_append] at hrow
  generalize hes : (winds l).map (fun n => [AV.v (Value.int IntKind.i64 n)]) = es at hrow
  rcases hrow with ⟨rfl, rfl⟩ | ⟨id, rfl, h1, h2, h3⟩
  · simp only [evReturn, retShare, evReturn0, resAV, mapO, exportVs, exportV, exportL, export1, rowsOf, cells, rowOf, innerIds, shareAll, freshL, E_T, tab3, tab4, tab22, tab25, tab31, tab34, tab44, tab45, tab48, List.toList_toArray, List.getD_cons_zero, List.getD_cons_succ, List.flatMap_cons, List.flatMap_nil, List.append_nil, List.nil_append, List.foldl_nil, omin_right, omin_left, cut_none, one, closed, List.all_cons, List.all_nil, List.nodup_nil, Bool.and_true, Bool.true_and, Option.map_some, and_true, true_and, if_true, Option.isSome_none, Bool.false_eq_true, or_true, false_or, reduceIte, if_pos, rowIds, List.length_nil, List.nodup_cons, List.not_mem_nil, not_false_eq_true, and_self, Nat.zero_add, Nat.le_refl, false_implies, implies_true, slice_all, slice_map, Bool.false_and, List.flatMap, List.map_cons, List.map_nil, List.flatten_cons, List.flatten_nil, List.foldl_cons, cells_row, cells_nil, cells_int, cells_bool, cells_sl, cells_agg, decide_true, tdesc, ob_new_if, ob_put_if, clock_new, clock_put, eq_self, Nat.le_add_right, Nat.left_eq_add, Nat.add_eq_left, Nat.one_ne_zero, res12, rt12, ownInts, hes]
  · simp only [evReturn, retShare, evReturn0, resAV, mapO, exportVs, exportV, exportL, export1, rowsOf, cells, rowOf, innerIds, shareAll, freshL, E_T, tab3, tab4, tab22, tab25, tab31, tab34, tab44, tab45, tab48, List.toList_toArray, List.getD_cons_zero, List.getD_cons_succ, List.flatMap_cons, List.flatMap_nil, List.append_nil, List.nil_append, List.foldl_nil, omin_right, omin_left, cut_none, one, closed, List.all_cons, List.all_nil, List.nodup_nil, Bool.and_true, Bool.true_and, Option.map_some, and_true, true_and, if_true, Option.isSome_none, Bool.false_eq_true, or_true, false_or, reduceIte, if_pos, rowIds, List.length_nil, List.nodup_cons, List.not_mem_nil, not_false_eq_true, and_self, Nat.zero_add, Nat.le_refl, false_implies, implies_true, slice_all, slice_map, Bool.false_and, List.flatMap, List.map_cons, List.map_nil, List.flatten_cons, List.flatten_nil, List.foldl_cons, cells_row, cells_nil, cells_int, cells_bool, cells_sl, cells_agg, decide_true, tdesc, ob_new_if, ob_put_if, clock_new, clock_put, eq_self, Nat.le_add_right, Nat.left_eq_add, Nat.add_eq_left, Nat.one_ne_zero, res12, rt12, ownInts, hes, h3, h1]

/-! ### trips -/
structure Tr where
  n : Int
  out : List Int
  inn : List Int
  deriving DecidableEq
def Tr.c (t : Tr) : Cs := [.v (.int .i64 t.n), ints t.out, ints t.inn]
def trip (t : Tr) : AV := .agg t.c

theorem res15 : Try.f15.results = #[.tmp 4] := rfl
theorem rt15 : Try.f15.resultTypes = #[4] := rfl

set_option maxHeartbeats 2000000 in
theorem f15_ok (s t : Tr) (h1 : s.out.length ≤ 140737488355328) (h2 : s.inn.length ≤ 140737488355328) (σ : Store) : callL E 15 [trip s, trip t] σ = some (.v (.bool (s == t)), σ, none) := by
  have h9 : ∀ σ, callL E 9 [.sl (s.out.map fun n => [.v (.int .i64 n)]), .sl (t.out.map fun n => [.v (.int .i64 n)])] σ = some (.v (.bool (s.out == t.out)), σ, none) := f9_ok s.out t.out h1
  have h9' : ∀ σ, callL E 9 [.sl (s.inn.map fun n => [.v (.int .i64 n)]), .sl (t.inn.map fun n => [.v (.int .i64 n)])] σ = some (.v (.bool (s.inn == t.inn)), σ, none) := f9_ok s.inn t.inn h2
  refine callL_ends (fn := Try.f15) (nt := 24) Try.func15 rfl rfl rfl ?_
  have hst : (s == t) = ((s.n == t.n) && (s.out == t.out) && (s.inn == t.inn)) := by
    cases s; cases t; rw [Bool.eq_iff_iff]; simp [and_assoc]
  rw [hst]
  cases e1 : (s.n == t.n)
  · simp (decide := true) (disch := (first | omega | (simp only [clock_new, clock_put]; done) | (simp only [clock_new, clock_put]; omega))) only [ev1_skip, ev1_label, ev1_exit, ev1_goto, ev1_ret, ev1_region, ev1_seq, ev1_cond, ev1_block, andThen_nrm, andThen_exit, andThen_goto, andThen_ret, pick_bool, blk_nrm, blk_ret, blk_goto, blk_exit, evRegion, evOps, stepG, stepO, wantedAV, evO, evA, evB, evOp, putTm, E_T, E_gl, E_br, List.toList_toArray, List.getD_cons_zero, List.getD_cons_succ, List.set, Option.map_some, lenAV, omin_right, omin_left, cut_none, tdesc, tab3, tab4, tab22, tab25, tab31, tab34, tab44, tab45, tab48, List.getElem?_toArray, List.getElem?_cons_zero, List.getElem?_cons_succ, Option.bind_some, List.length_map, evBin, intBin, bothNil, constOp, Bool.false_and, Bool.not_true, Bool.and_false, Bool.false_eq_true, if_false, if_true, Bool.or_false, Bool.not_false, Bool.and_true, Bool.true_and, indexAddrAV, ints, Option.isSome_none, Option.isSome_some, List.getElem?_map, List.length_cons, List.length_nil, evLoad, ofCells, TD.isAgg, decide_eq_true_eq, reduceIte, List.take_succ_cons, List.take_zero, List.drop_zero, List.drop_succ_cons, Nat.reduceAdd, Nat.reduceLeDiff, Nat.reduceEqDiff, Nat.zero_add, Nat.le_refl, decide_true, decide_false, Nat.reduceSub, Nat.reduceLT, reduceCtorEq, List.append_nil, List.nil_append, List.cons_append, List.replicate, bb_true, bb_false, eqCells, evStore, evAppend, elems, flatOf, cells_agg, cells_int, cells_bool, cells_str, cells_nil, cells_nilp, cells_sl, cells_row, cells_ptr, cut_ge, cut_omin, putAt, clock_new, clock_put, ob_new_if, ob_put_if, Nat.left_eq_add, Nat.add_eq_left, Nat.add_left_cancel_iff, eq_self, Nat.succ_ne_self, fillL, slice_all, slice_map, slice_one, slice_nil, List.take_append_drop, List.all_cons, List.all_nil, beq_self_eq_true, and_self, List.length_set, List.map_cons, List.map_nil, ne_eq, List.range_succ, List.range_zero, List.append_eq, List.length_append, fieldPlaceT, leaf_int, leaf_bool, leaf_str, leaf_nil, leaf_nilp, leaf_sl, leaf_row, pl_int, pl_bool, pl_str, pl_nil, pl_nilp, pl_sl, pl_row, Nat.one_ne_zero, false_implies, implies_true, forall_const, not_false_eq_true, List.toList_toArray, true_and, and_true, List.zip_cons_cons, trip, Tr.c, evCall, List.toList_toArray, List.map_cons, List.map_nil, List.nil_append, List.append_nil, List.cons_append, List.flatMap_cons, List.flatMap_nil, rowIds_v, rowIds_sl, rowIds_row, rowIds_agg, shareAll_nil, shareAll_cons, freshL_nil, share, reify_row, freshL, fresh1, List.foldl_cons, List.foldl_nil, slice_map, slice_all, mapO, reify_int, reify_bool, reify_str, reify_nil, reify_sl, reify_agg, importAV_v, importAV_sl, importAV_own, importAV_agg, importAV_tup, importL, import2L, import1, import2, ownInts, e1]
    apply Ends.ret
    simp only [evReturn, retShare, evReturn0, resAV, mapO, exportVs, exportV, exportL, export1, rowsOf, cells, rowOf, innerIds, shareAll, freshL, E_T, tab3, tab4, tab22, tab25, tab31, tab34, tab44, tab45, tab48, List.toList_toArray, List.getD_cons_zero, List.getD_cons_succ, List.flatMap_cons, List.flatMap_nil, List.append_nil, List.nil_append, List.foldl_nil, omin_right, omin_left, cut_none, one, closed, List.all_cons, List.all_nil, List.nodup_nil, Bool.and_true, Bool.true_and, Option.map_some, and_true, true_and, if_true, Option.isSome_none, Bool.false_eq_true, or_true, false_or, reduceIte, if_pos, rowIds, List.length_nil, List.nodup_cons, List.not_mem_nil, not_false_eq_true, and_self, Nat.zero_add, Nat.le_refl, false_implies, implies_true, slice_all, slice_map, Bool.false_and, List.flatMap, List.map_cons, List.map_nil, List.flatten_cons, List.flatten_nil, List.foldl_cons, cells_row, cells_nil, cells_int, cells_bool, cells_sl, cells_agg, decide_true, tdesc, ob_new_if, ob_put_if, clock_new, clock_put, eq_self, Nat.le_add_right, Nat.left_eq_add, Nat.add_eq_left, Nat.one_ne_zero, res15, rt15, Bool.false_and]
  · cases e2 : (s.out == t.out)
    · simp (decide := true) (disch := (first | omega | (simp only [clock_new, clock_put]; done) | (simp only [clock_new, clock_put]; omega))) only [ev1_skip, ev1_label, ev1_exit, ev1_goto, ev1_ret, ev1_region, ev1_seq, ev1_cond, ev1_block, andThen_nrm, andThen_exit, andThen_goto, andThen_ret, pick_bool, blk_nrm, blk_ret, blk_goto, blk_exit, evRegion, evOps, stepG, stepO, wantedAV, evO, evA, evB, evOp, putTm, E_T, E_gl, E_br, List.toList_toArray, List.getD_cons_zero, List.getD_cons_succ, List.set, Option.map_some, lenAV, omin_right, omin_left, cut_none, tdesc, tab3, tab4, tab22, tab25, tab31, tab34, tab44, tab45, tab48, List.getElem?_toArray, List.getElem?_cons_zero, List.getElem?_cons_succ, Option.bind_some, List.length_map, evBin, intBin, bothNil, constOp, Bool.false_and, Bool.not_true, Bool.and_false, Bool.false_eq_true, if_false, if_true, Bool.or_false, Bool.not_false, Bool.and_true, Bool.true_and, indexAddrAV, ints, Option.isSome_none, Option.isSome_some, List.getElem?_map, List.length_cons, List.length_nil, evLoad, ofCells, TD.isAgg, decide_eq_true_eq, reduceIte, List.take_succ_cons, List.take_zero, List.drop_zero, List.drop_succ_cons, Nat.reduceAdd, Nat.reduceLeDiff, Nat.reduceEqDiff, Nat.zero_add, Nat.le_refl, decide_true, decide_false, Nat.reduceSub, Nat.reduceLT, reduceCtorEq, List.append_nil, List.nil_append, List.cons_append, List.replicate, bb_true, bb_false, eqCells, evStore, evAppend, elems, flatOf, cells_agg, cells_int, cells_bool, cells_str, cells_nil, cells_nilp, cells_sl, cells_row, cells_ptr, cut_ge, cut_omin, putAt, clock_new, clock_put, ob_new_if, ob_put_if, Nat.left_eq_add, Nat.add_eq_left, Nat.add_left_cancel_iff, eq_self, Nat.succ_ne_self, fillL, slice_all, slice_map, slice_one, slice_nil, List.take_append_drop, List.all_cons, List.all_nil, beq_self_eq_true, and_self, List.length_set, List.map_cons, List.map_nil, ne_eq, List.range_succ, List.range_zero, List.append_eq, List.length_append, fieldPlaceT, leaf_int, leaf_bool, leaf_str, leaf_nil, leaf_nilp, leaf_sl, leaf_row, pl_int, pl_bool, pl_str, pl_nil, pl_nilp, pl_sl, pl_row, Nat.one_ne_zero, false_implies, implies_true, forall_const, not_false_eq_true, List.toList_toArray, true_and, and_true, List.zip_cons_cons, trip, Tr.c, evCall, List.toList_toArray, List.map_cons, List.map_nil, List.nil_append, List.append_nil, List.cons_append, List.flatMap_cons, List.flatMap_nil, rowIds_v, rowIds_sl, rowIds_row, rowIds_agg, shareAll_nil, shareAll_cons, freshL_nil, share, reify_row, freshL, fresh1, List.foldl_cons, List.foldl_nil, slice_map, slice_all, mapO, reify_int, reify_bool, reify_str, reify_nil, reify_sl, reify_agg, importAV_v, importAV_sl, importAV_own, importAV_agg, importAV_tup, importL, import2L, import1, import2, ownInts, h9, e1, e2]
      apply Ends.ret
      simp only [evReturn, retShare, evReturn0, resAV, mapO, exportVs, exportV, exportL, export1, rowsOf, cells, rowOf, innerIds, shareAll, freshL, E_T, tab3, tab4, tab22, tab25, tab31, tab34, tab44, tab45, tab48, List.toList_toArray, List.getD_cons_zero, List.getD_cons_succ, List.flatMap_cons, List.flatMap_nil, List.append_nil, List.nil_append, List.foldl_nil, omin_right, omin_left, cut_none, one, closed, List.all_cons, List.all_nil, List.nodup_nil, Bool.and_true, Bool.true_and, Option.map_some, and_true, true_and, if_true, Option.isSome_none, Bool.false_eq_true, or_true, false_or, reduceIte, if_pos, rowIds, List.length_nil, List.nodup_cons, List.not_mem_nil, not_false_eq_true, and_self, Nat.zero_add, Nat.le_refl, false_implies, implies_true, slice_all, slice_map, Bool.false_and, List.flatMap, List.map_cons, List.map_nil, List.flatten_cons, List.flatten_nil, List.foldl_cons, cells_row, cells_nil, cells_int, cells_bool, cells_sl, cells_agg, decide_true, tdesc, ob_new_if, ob_put_if, clock_new, clock_put, eq_self, Nat.le_add_right, Nat.left_eq_add, Nat.add_eq_left, Nat.one_ne_zero, res15, rt15, Bool.false_and, Bool.and_false]
    · simp (decide := true) (disch := (first | omega | (simp only [clock_new, clock_put]; done) | (simp only [clock_new, clock_put]; omega))) only [ev1_skip, ev1_label, ev1_exit, ev1_goto, ev1_ret, ev1_region, ev1_seq, ev1_cond, ev1_block, andThen_nrm, andThen_exit, andThen_goto, andThen_ret, pick_bool, blk_nrm, blk_ret, blk_goto, blk_exit, evRegion, evOps, stepG, stepO, wantedAV, evO, evA, evB, evOp, putTm, E_T, E_gl, E_br, List.toList_toArray, List.getD_cons_zero, List.getD_cons_succ, List.set, Option.map_some, lenAV, omin_right, omin_left, cut_none, tdesc, tab3, tab4, tab22, tab25, tab31, tab34, tab44, tab45, tab48, List.getElem?_toArray, List.getElem?_cons_zero, List.getElem?_cons_succ, Option.bind_some, List.length_map, evBin, intBin, bothNil, constOp, Bool.false_and, Bool.not_true, Bool.and_false, Bool.false_eq_true, if_false, if_true, Bool.or_false, Bool.not_false, Bool.and_true, Bool.true_and, indexAddrAV, ints, Option.isSome_none, Option.isSome_some, List.getElem?_map, List.length_cons, List.length_nil, evLoad, ofCells, TD.isAgg, decide_eq_true_eq, reduceIte, List.take_succ_cons, List.take_zero, List.drop_zero, List.drop_succ_cons, Nat.reduceAdd, Nat.reduceLeDiff, Nat.reduceEqDiff, Nat.zero_add, Nat.le_refl, decide_true, decide_false, Nat.reduceSub, Nat.reduceLT, reduceCtorEq, List.append_nil, List.nil_append, List.cons_append, List.replicate, bb_true, bb_false, eqCells, evStore, evAppend, elems, flatOf, cells_agg, cells_int, cells_bool, cells_str, cells_nil, cells_nilp, cells_sl, cells_row, cells_ptr, cut_ge, cut_omin, putAt, clock_new, clock_put, ob_new_if, ob_put_if, Nat.left_eq_add, Nat.add_eq_left, Nat.add_left_cancel_iff, eq_self, Nat.succ_ne_self, fillL, slice_all, slice_map, slice_one, slice_nil, List.take_append_drop, List.all_cons, List.all_nil, beq_self_eq_true, and_self, List.length_set, List.map_cons, List.map_nil, ne_eq, List.range_succ, List.range_zero, List.append_eq, List.length_append, fieldPlaceT, leaf_int, leaf_bool, leaf_str, leaf_nil, leaf_nilp, leaf_sl, leaf_row, pl_int, pl_bool, pl_str, pl_nil, pl_nilp, pl_sl, pl_row, Nat.one_ne_zero, false_implies, implies_true, forall_const, not_false_eq_true, List.toList_toArray, true_and, and_true, List.zip_cons_cons, trip, Tr.c, evCall, List.toList_toArray, List.map_cons, List.map_nil, List.nil_append, List.append_nil, List.cons_append, List.flatMap_cons, List.flatMap_nil, rowIds_v, rowIds_sl, rowIds_row, rowIds_agg, shareAll_nil, shareAll_cons, freshL_nil, share, reify_row, freshL, fresh1, List.foldl_cons, List.foldl_nil, slice_map, slice_all, mapO, reify_int, reify_bool, reify_str, reify_nil, reify_sl, reify_agg, importAV_v, importAV_sl, importAV_own, importAV_agg, importAV_tup, importL, import2L, import1, import2, ownInts, h9, h9', e1, e2]
      apply Ends.ret
      simp only [evReturn, retShare, evReturn0, resAV, mapO, exportVs, exportV, exportL, export1, rowsOf, cells, rowOf, innerIds, shareAll, freshL, E_T, tab3, tab4, tab22, tab25, tab31, tab34, tab44, tab45, tab48, List.toList_toArray, List.getD_cons_zero, List.getD_cons_succ, List.flatMap_cons, List.flatMap_nil, List.append_nil, List.nil_append, List.foldl_nil, omin_right, omin_left, cut_none, one, closed, List.all_cons, List.all_nil, List.nodup_nil, Bool.and_true, Bool.true_and, Option.map_some, and_true, true_and, if_true, Option.isSome_none, Bool.false_eq_true, or_true, false_or, reduceIte, if_pos, rowIds, List.length_nil, List.nodup_cons, List.not_mem_nil, not_false_eq_true, and_self, Nat.zero_add, Nat.le_refl, false_implies, implies_true, slice_all, slice_map, Bool.false_and, List.flatMap, List.map_cons, List.map_nil, List.flatten_cons, List.flatten_nil, List.foldl_cons, cells_row, cells_nil, cells_int, cells_bool, cells_sl, cells_agg, decide_true, tdesc, ob_new_if, ob_put_if, clock_new, clock_put, eq_self, Nat.le_add_right, Nat.left_eq_add, Nat.add_eq_left, Nat.one_ne_zero, res15, rt15, Bool.and_self, Bool.true_and]
end Go.Bx.WindW

/- slices.Clone of numbers: by hand, for whether a slice is nil is not told by its elements. (Own text.) -/
namespace Go.Bx.WindW
set_option linter.unusedVariables false
set_option linter.unusedSimpArgs false
set_option linter.unusedSectionVars false
open Go.Proofs
set_option linter.unusedSimpArgs false
set_option linter.unusedVariables false
set_option maxRecDepth 10000

theorem res25 : Try.f25.results = #[.tmp 2] := rfl
theorem rt25 : Try.f25.resultTypes = #[25] := rfl

theorem append_own (σ : Store) (es : List Cs) (hes : (es.all fun c => c.length == 1) = true) (hlen : es.length * 8 ≤ 140737488355328) :
    evAppend tab (σ.new ⟨1, false, true, []⟩) 25 (.row σ.clock 1 0 0) (.sl es) = some ⟨.row (σ.clock + 1) 1 0 es.length, ((σ.new ⟨1, false, true, []⟩).put σ.clock none).new ⟨1, false, true, es⟩, some σ.clock, true⟩ := by
  have h1 : (0 + es.length) * 8 ≤ 140737488355328 := by omega
  simp (decide := true) [evAppend, tdesc, tab25, tab3, elems, hes, hlen, ob_new_if, clock_new, slice, flatOf]

theorem clone_ok (base : Nat) (es : List Cs) (hes : (es.all fun c => c.length == 1) = true) (hlen : es.length * 8 ≤ 140737488355328) (σ : Store) : CallOK E base 25 [.sl es] σ (.own false 1 es) σ none := by
  refine call_hand (body := _) Try.func25 rfl (names 25 _ Try.func25) ?_
  intro c us hI hG hus
  have hS0 := start_SR hI hus 8
  refine wp_seq (region_ok tabOK (noCI_ok E base) hI hG mixed hS0 (s1 := ?s1) ?h1 (fun a1 c1 hS1 => ?_))
  case h1 =>
    simp (decide := true) only [ev1_skip, ev1_label, ev1_exit, ev1_goto, ev1_ret, ev1_region, ev1_seq, ev1_cond, ev1_block, andThen_nrm, andThen_exit, andThen_goto, andThen_ret, pick_bool, blk_nrm, blk_ret, blk_goto, blk_exit, evRegion, evOps, stepG, stepO, wantedAV, evO, evA, evB, evOp, putTm, E_T, E_gl, E_br, List.toList_toArray, List.getD_cons_zero, List.getD_cons_succ, List.set, Option.map_some, lenAV, omin_right, omin_left, cut_none, tdesc, tab3, tab4, tab22, tab25, tab31, tab34, tab44, tab45, tab48, List.getElem?_toArray, List.getElem?_cons_zero, List.getElem?_cons_succ, Option.bind_some, List.length_map, evBin, intBin, bothNil, constOp, Bool.false_and, Bool.not_true, Bool.and_false, Bool.false_eq_true, if_false, if_true, Bool.or_false, Bool.not_false, Bool.and_true, Bool.true_and, indexAddrAV, ints, Option.isSome_none, Option.isSome_some, List.getElem?_map, List.length_cons, List.length_nil, evLoad, ofCells, TD.isAgg, decide_eq_true_eq, reduceIte, List.take_succ_cons, List.take_zero, List.drop_zero, List.drop_succ_cons, Nat.reduceAdd, Nat.reduceLeDiff, Nat.reduceEqDiff, Nat.zero_add, Nat.le_refl, decide_true, decide_false, Nat.reduceSub, Nat.reduceLT, reduceCtorEq, List.append_nil, List.nil_append, List.cons_append, List.replicate, bb_true, bb_false, eqCells]
    rfl
  refine wp_seq (wp_seq (wp_region_list ?_))
  refine wpList_step fun K hK => step_ok tabOK (noCI_ok E base) hI hG (f := ⟨false, false⟩) (s1 := ?s2) hS1 ?h2 K _ (fun u c2 hS2 => hK _ _ ?_)
  case h2 =>
    simp (decide := true) only [ev1_skip, ev1_label, ev1_exit, ev1_goto, ev1_ret, ev1_region, ev1_seq, ev1_cond, ev1_block, andThen_nrm, andThen_exit, andThen_goto, andThen_ret, pick_bool, blk_nrm, blk_ret, blk_goto, blk_exit, evRegion, evOps, stepG, stepO, wantedAV, evO, evA, evB, evOp, putTm, E_T, E_gl, E_br, List.toList_toArray, List.getD_cons_zero, List.getD_cons_succ, List.set, Option.map_some, lenAV, omin_right, omin_left, cut_none, tdesc, tab3, tab4, tab22, tab25, tab31, tab34, tab44, tab45, tab48, List.getElem?_toArray, List.getElem?_cons_zero, List.getElem?_cons_succ, Option.bind_some, List.length_map, evBin, intBin, bothNil, constOp, Bool.false_and, Bool.not_true, Bool.and_false, Bool.false_eq_true, if_false, if_true, Bool.or_false, Bool.not_false, Bool.and_true, Bool.true_and, indexAddrAV, ints, Option.isSome_none, Option.isSome_some, List.getElem?_map, List.length_cons, List.length_nil, evLoad, ofCells, TD.isAgg, decide_eq_true_eq, reduceIte, List.take_succ_cons, List.take_zero, List.drop_zero, List.drop_succ_cons, Nat.reduceAdd, Nat.reduceLeDiff, Nat.reduceEqDiff, Nat.zero_add, Nat.le_refl, decide_true, decide_false, Nat.reduceSub, Nat.reduceLT, reduceCtorEq, List.append_nil, List.nil_append, List.cons_append, List.replicate, bb_true, bb_false, eqCells]
    rfl
  generalize ha2 : a1.put _ u = a2 at hS2
  have h3 : Rep c2 (.sl es) (a2.eval (.tmp 3)) := hS2.tm 3
  generalize hv : a2.eval (.tmp 3) = v at h3
  cases h3 with
  | @sl _ A n cap sz b o u' hn hc hA hsz hcell hrep =>
    refine wpList_plain rfl fun K hK => ?_
    unfold Oper.wp
    rw [nilEq_exec (P := E.P) tabOK (t := 25) (e := 3) rfl rfl hv rfl]
    refine hK _ _ ?_
    have hS3 := hS2.put (some 4) (Rep.v (c := c2) (.bool A.isNone))
    show (Code.cond _ _ _).wp E.P _ _ _
    cases A with
    | none =>
      have he : es = [] := Classical.byContradiction fun h => by cases hA h
      subst he
      refine code_ok tabOK (noCI_ok E base) (noTI_ok E base) mixed hI hG _ (ex := .ret) (s1 := ?s4) ?h4 hS3 (fun a' c' hS4 => ?_)
      case h4 =>
        simp (decide := true) only [ev1_skip, ev1_label, ev1_exit, ev1_goto, ev1_ret, ev1_region, ev1_seq, ev1_cond, ev1_block, andThen_nrm, andThen_exit, andThen_goto, andThen_ret, pick_bool, blk_nrm, blk_ret, blk_goto, blk_exit, evRegion, evOps, stepG, stepO, wantedAV, evO, evA, evB, evOp, putTm, E_T, E_gl, E_br, List.toList_toArray, List.getD_cons_zero, List.getD_cons_succ, List.set, Option.map_some, lenAV, omin_right, omin_left, cut_none, tdesc, tab3, tab4, tab22, tab25, tab31, tab34, tab44, tab45, tab48, List.getElem?_toArray, List.getElem?_cons_zero, List.getElem?_cons_succ, Option.bind_some, List.length_map, evBin, intBin, bothNil, constOp, Bool.false_and, Bool.not_true, Bool.and_false, Bool.false_eq_true, if_false, if_true, Bool.or_false, Bool.not_false, Bool.and_true, Bool.true_and, indexAddrAV, ints, Option.isSome_none, Option.isSome_some, List.getElem?_map, List.length_cons, List.length_nil, evLoad, ofCells, TD.isAgg, decide_eq_true_eq, reduceIte, List.take_succ_cons, List.take_zero, List.drop_zero, List.drop_succ_cons, Nat.reduceAdd, Nat.reduceLeDiff, Nat.reduceEqDiff, Nat.zero_add, Nat.le_refl, decide_true, decide_false, Nat.reduceSub, Nat.reduceLT, reduceCtorEq, List.append_nil, List.nil_append, List.cons_append, List.replicate, bb_true, bb_false, eqCells, Option.isNone_none]
        rfl
      refine ret_post tabOK hI hS4 (.inl rfl) ?_
      simp only [evReturn, retShare, evReturn0, resAV, mapO, exportVs, exportV, exportL, export1, rowsOf, cells, rowOf, innerIds, shareAll, freshL, E_T, tab3, tab4, tab22, tab25, tab31, tab34, tab44, tab45, tab48, List.toList_toArray, List.getD_cons_zero, List.getD_cons_succ, List.flatMap_cons, List.flatMap_nil, List.append_nil, List.nil_append, List.foldl_nil, omin_right, omin_left, cut_none, one, closed, List.all_cons, List.all_nil, List.nodup_nil, Bool.and_true, Bool.true_and, Option.map_some, and_true, true_and, if_true, Option.isSome_none, Bool.false_eq_true, or_true, false_or, reduceIte, if_pos, rowIds, List.length_nil, List.nodup_cons, List.not_mem_nil, not_false_eq_true, and_self, Nat.zero_add, Nat.le_refl, false_implies, implies_true, slice_all, slice_map, Bool.false_and, List.flatMap, List.map_cons, List.map_nil, List.flatten_cons, List.flatten_nil, List.foldl_cons, cells_row, cells_nil, cells_int, cells_bool, cells_sl, cells_agg, decide_true, tdesc, ob_new_if, ob_put_if, clock_new, clock_put, eq_self, Nat.le_add_right, Nat.left_eq_add, Nat.add_eq_left, Nat.one_ne_zero, res25, rt25]
    | some ad =>
      refine code_ok tabOK (noCI_ok E base) (noTI_ok E base) mixed hI hG _ (ex := .nrm) (s1 := ?s5) ?h5 hS3 (fun a' c' hS5 => ?_)
      case h5 =>
        simp (decide := true) only [ev1_skip, ev1_label, ev1_exit, ev1_goto, ev1_ret, ev1_region, ev1_seq, ev1_cond, ev1_block, andThen_nrm, andThen_exit, andThen_goto, andThen_ret, pick_bool, blk_nrm, blk_ret, blk_goto, blk_exit, evRegion, evOps, stepG, stepO, wantedAV, evO, evA, evB, evOp, putTm, E_T, E_gl, E_br, List.toList_toArray, List.getD_cons_zero, List.getD_cons_succ, List.set, Option.map_some, lenAV, omin_right, omin_left, cut_none, tdesc, tab3, tab4, tab22, tab25, tab31, tab34, tab44, tab45, tab48, List.getElem?_toArray, List.getElem?_cons_zero, List.getElem?_cons_succ, Option.bind_some, List.length_map, evBin, intBin, bothNil, constOp, Bool.false_and, Bool.not_true, Bool.and_false, Bool.false_eq_true, if_false, if_true, Bool.or_false, Bool.not_false, Bool.and_true, Bool.true_and, indexAddrAV, ints, Option.isSome_none, Option.isSome_some, List.getElem?_map, List.length_cons, List.length_nil, evLoad, ofCells, TD.isAgg, decide_eq_true_eq, reduceIte, List.take_succ_cons, List.take_zero, List.drop_zero, List.drop_succ_cons, Nat.reduceAdd, Nat.reduceLeDiff, Nat.reduceEqDiff, Nat.zero_add, Nat.le_refl, decide_true, decide_false, Nat.reduceSub, Nat.reduceLT, reduceCtorEq, List.append_nil, List.nil_append, List.cons_append, List.replicate, bb_true, bb_false, eqCells, Option.isNone_some]
        rfl
      show (Code.seq _ _).wp E.P _ _ _
      refine code_ok tabOK (noCI_ok E base) (noTI_ok E base) mixed hI hG _ (ex := .ret) (s1 := ?s6) ?h6 hS5 (fun a' c' hS6 => ?_)
      case h6 =>
        simp (decide := true) (disch := (first | omega | (simp only [clock_new, clock_put]; done) | (simp only [clock_new, clock_put]; omega))) only [ev1_skip, ev1_label, ev1_exit, ev1_goto, ev1_ret, ev1_region, ev1_seq, ev1_cond, ev1_block, andThen_nrm, andThen_exit, andThen_goto, andThen_ret, pick_bool, blk_nrm, blk_ret, blk_goto, blk_exit, evRegion, evOps, stepG, stepO, wantedAV, evO, evA, evB, evOp, putTm, E_T, E_gl, E_br, List.toList_toArray, List.getD_cons_zero, List.getD_cons_succ, List.set, Option.map_some, lenAV, omin_right, omin_left, cut_none, tdesc, tab3, tab4, tab22, tab25, tab31, tab34, tab44, tab45, tab48, List.getElem?_toArray, List.getElem?_cons_zero, List.getElem?_cons_succ, Option.bind_some, List.length_map, evBin, intBin, bothNil, constOp, Bool.false_and, Bool.not_true, Bool.and_false, Bool.false_eq_true, if_false, if_true, Bool.or_false, Bool.not_false, Bool.and_true, Bool.true_and, indexAddrAV, ints, Option.isSome_none, Option.isSome_some, List.getElem?_map, List.length_cons, List.length_nil, evLoad, ofCells, TD.isAgg, decide_eq_true_eq, reduceIte, List.take_succ_cons, List.take_zero, List.drop_zero, List.drop_succ_cons, Nat.reduceAdd, Nat.reduceLeDiff, Nat.reduceEqDiff, Nat.zero_add, Nat.le_refl, decide_true, decide_false, Nat.reduceSub, Nat.reduceLT, reduceCtorEq, List.append_nil, List.nil_append, List.cons_append, List.replicate, bb_true, bb_false, eqCells, evStore, evAppend, elems, flatOf, cells_agg, cells_int, cells_bool, cells_str, cells_nil, cells_nilp, cells_sl, cells_row, cells_ptr, cut_ge, cut_omin, putAt, clock_new, clock_put, ob_new_if, ob_put_if, Nat.left_eq_add, Nat.add_eq_left, Nat.add_left_cancel_iff, eq_self, Nat.succ_ne_self, fillL, slice_all, slice_map, slice_one, slice_nil, List.take_append_drop, List.all_cons, List.all_nil, beq_self_eq_true, and_self, List.length_set, List.map_cons, List.map_nil, ne_eq, List.range_succ, List.range_zero, List.append_eq, List.length_append, fieldPlaceT, leaf_int, leaf_bool, leaf_str, leaf_nil, leaf_nilp, leaf_sl, leaf_row, pl_int, pl_bool, pl_str, pl_nil, pl_nilp, pl_sl, pl_row, Nat.one_ne_zero, false_implies, implies_true, forall_const, not_false_eq_true, List.toList_toArray, true_and, and_true, List.zip_cons_cons, hes, hlen]
        rfl
      refine ret_post tabOK hI hS6 (.inl rfl) ?_
      simp only [evReturn, retShare, evReturn0, resAV, mapO, exportVs, exportV, exportL, export1, rowsOf, cells, rowOf, innerIds, shareAll, freshL, E_T, tab3, tab4, tab22, tab25, tab31, tab34, tab44, tab45, tab48, List.toList_toArray, List.getD_cons_zero, List.getD_cons_succ, List.flatMap_cons, List.flatMap_nil, List.append_nil, List.nil_append, List.foldl_nil, omin_right, omin_left, cut_none, one, closed, List.all_cons, List.all_nil, List.nodup_nil, Bool.and_true, Bool.true_and, Option.map_some, and_true, true_and, if_true, Option.isSome_none, Bool.false_eq_true, or_true, false_or, reduceIte, if_pos, rowIds, List.length_nil, List.nodup_cons, List.not_mem_nil, not_false_eq_true, and_self, Nat.zero_add, Nat.le_refl, false_implies, implies_true, slice_all, slice_map, Bool.false_and, List.flatMap, List.map_cons, List.map_nil, List.flatten_cons, List.flatten_nil, List.foldl_cons, cells_row, cells_nil, cells_int, cells_bool, cells_sl, cells_agg, decide_true, tdesc, ob_new_if, ob_put_if, clock_new, clock_put, eq_self, Nat.le_add_right, Nat.left_eq_add, Nat.add_eq_left, Nat.one_ne_zero, res25, rt25]

theorem extOK (base : Nat) : CIOK E base E.ext := by
  intro f args σ r σr tl h
  have h' : ext f args σ = some (r, σr, tl) := h
  unfold ext at h'
  split at h'
  · rename_i hf; subst hf
    split at h'
    · split at h'
      · rename_i hc; cases h'; exact clone_ok base _ hc.1 hc.2 _
      · cases h'
    · cases h'
  · cases h'

theorem f25_ok (l : List Int) (hlen : l.length * 8 ≤ 140737488355328) (σ : Store) : callL E 25 [ints l] σ = some (ownInts l, σ, none) := by
  refine callL_ext ?_
  show ext 25 [ints l] σ = _
  unfold ext ints ownInts
  rw [if_pos rfl]
  simp only
  rw [if_pos ⟨by simp, by simpa using hlen⟩]
end Go.Bx.WindW

/- slices.Reverse of numbers, by reference. (Own text.) -/
namespace Go.Bx.WindW
set_option linter.unusedVariables false
set_option linter.unusedSimpArgs false
set_option linter.unusedSectionVars false
open Go.Proofs
set_option linter.unusedSimpArgs false
set_option linter.unusedVariables false
set_option maxRecDepth 10000

def cs (l : List Int) : List Cs := l.map fun n => [.v (.int .i64 n)]

theorem omin_same (a : Nat) : omin (some a) (some a) = some a := by simp [omin]

theorem swap_cs (p m q : List Int) (a b : Int) : ((cs (p ++ (a :: (m ++ [b])) ++ q)).set p.length [.v (.int .i64 b)]).set (p.length + m.length + 1) [.v (.int .i64 a)] = cs (p ++ [b] ++ m ++ ([a] ++ q)) := by
  unfold cs
  simp only [List.map_append, List.map_cons, List.map_nil, List.append_assoc, List.cons_append, List.nil_append]
  rw [List.set_append_right _ _ (by simp)]
  simp only [List.length_map, Nat.sub_self, List.set_cons_zero]
  rw [List.set_append_right _ _ (by simp; omega)]
  simp only [List.length_map]
  have : p.length + m.length + 1 - p.length = m.length + 1 := by omega
  rw [this, List.set_cons_succ, List.set_append_right _ _ (by simp)]
  simp

set_option maxHeartbeats 4000000 in
theorem loop26 (id n c0 : Nat) (hn : n ≤ 140737488355328) (hid : id < c0) (R : Option (Ex × FS) → Prop) : ∀ (fuel : Nat) (p m q : List Int), m.length ≤ fuel → p.length + m.length + q.length = n → ∀ (σ : Store) (low : Option Nat) (x1 x4 x5 x6 x7 x8 x9 x10 x11 x12 x13 x14 x15 x16 x17 x18 x19 x20 x21 x22 x23 x24 x25 x26 x27 : AV),
    σ.ob id = some ⟨1, false, true, cs (p ++ m ++ q)⟩ → (low = none ∨ low = some id) →
    (∀ σ' low', σ'.clock = σ.clock → σ'.ob id = some ⟨1, false, true, cs (p ++ m.reverse ++ q)⟩ → (∀ j, j ≠ id → σ'.ob j = σ.ob j) → (low' = some id ∨ (low' = low ∧ σ' = σ)) → ∀ y0 y1 y2 y3 y4 y5 y6 y7 y8 y9 y10 y11 y12 y13 y14 y15 y16 y17 y18 y19 y20 y21 y22 y23 y24 y25 y26 y27 : AV, R (some (.exit 0, ⟨[y0, y1, y2, y3, y4, y5, y6, y7, y8, y9, y10, y11, y12, y13, y14, y15, y16, y17, y18, y19, y20, y21, y22, y23, y24, y25, y26, y27], σ', low', c0⟩))) →
    R (ev1 E (callL E) (taskL E) (.loop (lb Try.f26 0)) ⟨[.row id 1 0 n, x1, .v (.int .i64 p.length), .v (.int .i64 ((p.length : Int) + m.length - 1)), x4, x5, x6, x7, x8, x9, x10, x11, x12, x13, x14, x15, x16, x17, x18, x19, x20, x21, x22, x23, x24, x25, x26, x27], σ, low, c0⟩) := by
  intro fuel
  induction fuel with
  | zero =>
    intro p m q hm hpn σ low x1 x4 x5 x6 x7 x8 x9 x10 x11 x12 x13 x14 x15 x16 x17 x18 x19 x20 x21 x22 x23 x24 x25 x26 x27 hob hlow hR
    obtain rfl : m = [] := List.eq_nil_of_length_eq_zero (by omega)
    generalize hjj : (p.length : Int) + (([] : List Int).length : Int) - 1 = jj
    have h0 : ((p.length : Int) < jj) = False := by simp at hjj ⊢; omega
    apply loop_outR (ex := .exit 0)
    case h =>
      simp only [Try.f26, lb, Option.getD_some, loopsOf, List.nil_append, List.append_nil, List.cons_append, List.getElem?_cons_zero, List.getElem?_cons_succ]
      simp (decide := true) only [ev1_skip, ev1_label, ev1_exit, ev1_goto, ev1_ret, ev1_region, ev1_seq, ev1_cond, ev1_block, andThen_nrm, andThen_exit, andThen_goto, andThen_ret, pick_bool, blk_nrm, blk_ret, blk_goto, blk_exit, evRegion, evOps, stepG, stepO, wantedAV, evO, evA, evB, evOp, putTm, E_T, E_gl, E_br, List.toList_toArray, List.getD_cons_zero, List.getD_cons_succ, List.set, Option.map_some, lenAV, omin_right, omin_left, cut_none, tdesc, tab3, tab4, tab22, tab25, tab31, tab34, tab44, tab45, tab48, List.getElem?_toArray, List.getElem?_cons_zero, List.getElem?_cons_succ, Option.bind_some, List.length_map, evBin, intBin, bothNil, constOp, Bool.false_and, Bool.not_true, Bool.and_false, Bool.false_eq_true, if_false, if_true, Bool.or_false, Bool.not_false, Bool.and_true, Bool.true_and, indexAddrAV, ints, Option.isSome_none, Option.isSome_some, List.getElem?_map, List.length_cons, List.length_nil, evLoad, ofCells, TD.isAgg, decide_eq_true_eq, reduceIte, List.take_succ_cons, List.take_zero, List.drop_zero, List.drop_succ_cons, Nat.reduceAdd, Nat.reduceLeDiff, Nat.reduceEqDiff, Nat.zero_add, Nat.le_refl, decide_true, decide_false, Nat.reduceSub, Nat.reduceLT, reduceCtorEq, List.append_nil, List.nil_append, List.cons_append, List.replicate, bb_true, bb_false, eqCells, h0]
      rfl
    case hx => nofun
    case k => exact hR σ low rfl (by simpa using hob) (fun _ _ => rfl) (.inr ⟨rfl, rfl⟩) _ _ _ _ _ _ _ _ _ _ _ _ _ _ _ _ _ _ _ _ _ _ _ _ _ _ _ _
  | succ fuel ih =>
    intro p m q hm hpn σ low x1 x4 x5 x6 x7 x8 x9 x10 x11 x12 x13 x14 x15 x16 x17 x18 x19 x20 x21 x22 x23 x24 x25 x26 x27 hob hlow hR
    by_cases hm2 : m.length ≤ 1
    · generalize hjj : (p.length : Int) + (m.length : Int) - 1 = jj
      have h0 : ((p.length : Int) < jj) = False := by simp; omega
      have hrev : m.reverse = m := by
        match m, hm2 with
        | [], _ => rfl
        | [a], _ => rfl
      rw [hrev] at hR
      apply loop_outR (ex := .exit 0)
      case h =>
        simp only [Try.f26, lb, Option.getD_some, loopsOf, List.nil_append, List.append_nil, List.cons_append, List.getElem?_cons_zero, List.getElem?_cons_succ]
        simp (decide := true) only [ev1_skip, ev1_label, ev1_exit, ev1_goto, ev1_ret, ev1_region, ev1_seq, ev1_cond, ev1_block, andThen_nrm, andThen_exit, andThen_goto, andThen_ret, pick_bool, blk_nrm, blk_ret, blk_goto, blk_exit, evRegion, evOps, stepG, stepO, wantedAV, evO, evA, evB, evOp, putTm, E_T, E_gl, E_br, List.toList_toArray, List.getD_cons_zero, List.getD_cons_succ, List.set, Option.map_some, lenAV, omin_right, omin_left, cut_none, tdesc, tab3, tab4, tab22, tab25, tab31, tab34, tab44, tab45, tab48, List.getElem?_toArray, List.getElem?_cons_zero, List.getElem?_cons_succ, Option.bind_some, List.length_map, evBin, intBin, bothNil, constOp, Bool.false_and, Bool.not_true, Bool.and_false, Bool.false_eq_true, if_false, if_true, Bool.or_false, Bool.not_false, Bool.and_true, Bool.true_and, indexAddrAV, ints, Option.isSome_none, Option.isSome_some, List.getElem?_map, List.length_cons, List.length_nil, evLoad, ofCells, TD.isAgg, decide_eq_true_eq, reduceIte, List.take_succ_cons, List.take_zero, List.drop_zero, List.drop_succ_cons, Nat.reduceAdd, Nat.reduceLeDiff, Nat.reduceEqDiff, Nat.zero_add, Nat.le_refl, decide_true, decide_false, Nat.reduceSub, Nat.reduceLT, reduceCtorEq, List.append_nil, List.nil_append, List.cons_append, List.replicate, bb_true, bb_false, eqCells, h0]
        rfl
      case hx => nofun
      case k => exact hR σ low rfl hob (fun _ _ => rfl) (.inr ⟨rfl, rfl⟩) _ _ _ _ _ _ _ _ _ _ _ _ _ _ _ _ _ _ _ _ _ _ _ _ _ _ _ _
    · obtain ⟨a, m', b, rfl⟩ : ∃ a m' b, m = a :: (m' ++ [b]) := by
        match m, hm2 with
        | a :: m1, h =>
          have hne : m1 ≠ [] := by intro e; subst e; simp at h
          exact ⟨a, m1.dropLast, m1.getLast hne, by rw [List.dropLast_concat_getLast]⟩
      have hlen : (a :: (m' ++ [b])).length = m'.length + 2 := by simp
      rw [hlen] at hm hpn
      have hj : (p.length : Int) + ((a :: (m' ++ [b])).length : Int) - 1 = ((p.length + m'.length + 1 : Nat) : Int) := by rw [hlen]; omega
      have hj2 : ((p.length + 1 : Nat) : Int) + (m'.length : Int) - 1 = ((p.length + m'.length : Nat) : Int) := by omega
      rw [hj]
      have h0 : ((p.length : Int) < ((p.length + m'.length + 1 : Nat) : Int)) = True := by simp only [eq_iff_iff, iff_true]; omega
      have hw1 : IntKind.i64.wrap ((p.length : Int) + 1) = ((p.length + 1 : Nat) : Int) := by rw [IntWalk.i64_in _ (by omega)]; omega
      have hw2 : IntKind.i64.wrap (((p.length + m'.length + 1 : Nat) : Int) - 1) = ((p.length + m'.length : Nat) : Int) := by rw [IntWalk.i64_in _ (by omega)]; omega
      have g0 : 0 ≤ (p.length : Int) := by omega
      have g1 : 0 ≤ ((p.length + m'.length + 1 : Nat) : Int) := by omega
      have g2 : p.length < n := by omega
      have g3 : p.length + m'.length + 1 < n := by omega
      have t0 : ((p.length : Int)).toNat = p.length := Int.toNat_natCast _
      have t1 : (((p.length + m'.length + 1 : Nat) : Int)).toNat = p.length + m'.length + 1 := Int.toNat_natCast _
      generalize hes : cs (p ++ (a :: (m' ++ [b])) ++ q) = es at hob
      have e1 : es[p.length]? = some [.v (.int .i64 a)] := by rw [← hes]; simp [cs]
      have e2 : es[p.length + m'.length + 1]? = some [.v (.int .i64 b)] := by
        rw [← hes]; unfold cs
        rw [List.getElem?_map, List.append_assoc, List.getElem?_append_right (by omega)]
        have : p.length + m'.length + 1 - p.length = m'.length + 1 := by omega
        simp [this]
      have e3 : (es.set p.length [.v (.int .i64 b)])[p.length + m'.length + 1]? = some [.v (.int .i64 b)] := by
        rw [List.getElem?_set_ne (by omega)]; exact e2
      have hc : cut c0 (some id) = some id := by simp [cut, hid]
      have e4 := swap_cs p m' q a b
      rw [hes] at e4
      have ho1 : omin (omin low (some id)) (some id) = some id := by rcases hlow with rfl | rfl <;> simp [omin]
      apply loop_onR
      case h =>
        simp only [Try.f26, lb, Option.getD_some, loopsOf, List.nil_append, List.append_nil, List.cons_append, List.getElem?_cons_zero, List.getElem?_cons_succ]
        simp (decide := true) only [ev1_skip, ev1_label, ev1_exit, ev1_goto, ev1_ret, ev1_region, ev1_seq, ev1_cond, ev1_block, andThen_nrm, andThen_exit, andThen_goto, andThen_ret, pick_bool, blk_nrm, blk_ret, blk_goto, blk_exit, evRegion, evOps, stepG, stepO, wantedAV, evO, evA, evB, evOp, putTm, E_T, E_gl, E_br, List.toList_toArray, List.getD_cons_zero, List.getD_cons_succ, List.set, Option.map_some, lenAV, omin_right, omin_left, cut_none, tdesc, tab3, tab4, tab22, tab25, tab31, tab34, tab44, tab45, tab48, List.getElem?_toArray, List.getElem?_cons_zero, List.getElem?_cons_succ, Option.bind_some, List.length_map, evBin, intBin, bothNil, constOp, Bool.false_and, Bool.not_true, Bool.and_false, Bool.false_eq_true, if_false, if_true, Bool.or_false, Bool.not_false, Bool.and_true, Bool.true_and, indexAddrAV, ints, Option.isSome_none, Option.isSome_some, List.getElem?_map, List.length_cons, List.length_nil, evLoad, ofCells, TD.isAgg, decide_eq_true_eq, reduceIte, List.take_succ_cons, List.take_zero, List.drop_zero, List.drop_succ_cons, Nat.reduceAdd, Nat.reduceLeDiff, Nat.reduceEqDiff, Nat.zero_add, Nat.le_refl, decide_true, decide_false, Nat.reduceSub, Nat.reduceLT, reduceCtorEq, List.append_nil, List.nil_append, List.cons_append, List.replicate, bb_true, bb_false, eqCells, evStore, evAppend, elems, flatOf, cells_agg, cells_int, cells_bool, cells_str, cells_nil, cells_nilp, cells_sl, cells_row, cells_ptr, cut_ge, cut_omin, putAt, clock_new, clock_put, ob_new_if, ob_put_if, Nat.left_eq_add, Nat.add_eq_left, Nat.add_left_cancel_iff, eq_self, Nat.succ_ne_self, fillL, slice_all, slice_map, slice_one, slice_nil, List.take_append_drop, List.all_cons, List.all_nil, beq_self_eq_true, and_self, List.length_set, List.map_cons, List.map_nil, ne_eq, List.range_succ, List.range_zero, List.append_eq, List.length_append, fieldPlaceT, leaf_int, leaf_bool, leaf_str, leaf_nil, leaf_nilp, leaf_sl, leaf_row, pl_int, pl_bool, pl_str, pl_nil, pl_nilp, pl_sl, pl_row, Nat.one_ne_zero, false_implies, implies_true, forall_const, not_false_eq_true, List.toList_toArray, true_and, and_true, List.zip_cons_cons, h0, hw1, hw2, g0, g1, g2, g3, t0, t1, hob, e1, e2, e3, hc, ho1]
        rfl
      case k =>
        have hl : (p ++ [b]).length = p.length + 1 := by simp
        have key := ih (p ++ [b]) m' (a :: q) (by omega) (by simp; omega)
        rw [hl, hj2] at key
        refine key _ _ _ _ _ _ _ _ _ _ _ _ _ _ _ _ _ _ _ _ _ _ _ _ _ _ _ ?_ (.inr rfl) ?_
        · rw [ob_put_eq rfl, e4]; rfl
        · intro σ'' low'' h1 h2 h3 h4 y0 y1 y2 y3 y4 y5 y6 y7 y8 y9 y10 y11 y12 y13 y14 y15 y16 y17 y18 y19 y20 y21 y22 y23 y24 y25 y26 y27
          refine hR σ'' low'' h1 ?_ (fun j hj => (h3 j hj).trans (by rw [ob_put_ne hj, ob_put_ne hj])) (.inl ?_) y0 y1 y2 y3 y4 y5 y6 y7 y8 y9 y10 y11 y12 y13 y14 y15 y16 y17 y18 y19 y20 y21 y22 y23 y24 y25 y26 y27
          · rw [h2]; simp
          · rcases h4 with h4 | ⟨h4, _⟩ <;> exact h4

theorem res26 : Try.f26.results = #[] := rfl
theorem rt26 : Try.f26.resultTypes = #[] := rfl

/-- Reversed in place. -/
theorem f26_ok (l : List Int) (hlen : l.length ≤ 140737488355328) (σ : Store) (id : Nat) (hid : id < σ.clock) (hob : σ.ob id = some ⟨1, false, true, cs l⟩) :
    ∃ σ' tl, callL E 26 [.row id 1 0 l.length] σ = some (.tup [], σ', tl) ∧ σ'.clock = σ.clock ∧ σ'.ob id = some ⟨1, false, true, cs l.reverse⟩ ∧ (∀ j, j ≠ id → σ'.ob j = σ.ob j) ∧ (tl = none ∨ tl = some id) := by
  have hw : IntKind.i64.wrap ((l.length : Int) - 1) = (l.length : Int) - 1 := by rw [IntWalk.i64_in _ (by omega)]
  suffices h : ∃ res : CR, (∃ σ' tl, res = (.tup [], σ', tl) ∧ σ'.clock = σ.clock ∧ σ'.ob id = some ⟨1, false, true, cs l.reverse⟩ ∧ (∀ j, j ≠ id → σ'.ob j = σ.ob j) ∧ (tl = none ∨ tl = some id)) ∧
      Ends E σ Try.f26 res (ev1 E (callL E) (taskL E) (Try.f26.body.getD .skip) ⟨[.row id 1 0 l.length] ++ List.replicate 27 (.v undef), σ, none, σ.clock⟩) by
    obtain ⟨res, ⟨σ', tl, rfl, h1⟩, h2⟩ := h
    exact ⟨σ', tl, callL_ends (nt := 28) Try.func26 rfl rfl rfl h2, h1⟩
  simp only [Try.f26, Option.getD_some]
  simp (decide := true) only [ev1_skip, ev1_label, ev1_exit, ev1_goto, ev1_ret, ev1_region, ev1_seq, ev1_cond, ev1_block, andThen_nrm, andThen_exit, andThen_goto, andThen_ret, pick_bool, blk_nrm, blk_ret, blk_goto, blk_exit, evRegion, evOps, stepG, stepO, wantedAV, evO, evA, evB, evOp, putTm, E_T, E_gl, E_br, List.toList_toArray, List.getD_cons_zero, List.getD_cons_succ, List.set, Option.map_some, lenAV, omin_right, omin_left, cut_none, tdesc, tab3, tab4, tab22, tab25, tab31, tab34, tab44, tab45, tab48, List.getElem?_toArray, List.getElem?_cons_zero, List.getElem?_cons_succ, Option.bind_some, List.length_map, evBin, intBin, bothNil, constOp, Bool.false_and, Bool.not_true, Bool.and_false, Bool.false_eq_true, if_false, if_true, Bool.or_false, Bool.not_false, Bool.and_true, Bool.true_and, indexAddrAV, ints, Option.isSome_none, Option.isSome_some, List.getElem?_map, List.length_cons, List.length_nil, evLoad, ofCells, TD.isAgg, decide_eq_true_eq, reduceIte, List.take_succ_cons, List.take_zero, List.drop_zero, List.drop_succ_cons, Nat.reduceAdd, Nat.reduceLeDiff, Nat.reduceEqDiff, Nat.zero_add, Nat.le_refl, decide_true, decide_false, Nat.reduceSub, Nat.reduceLT, reduceCtorEq, List.append_nil, List.nil_append, List.cons_append, List.replicate, bb_true, bb_false, eqCells, hw]
  have key := loop26 id l.length σ.clock hlen hid (fun r => ∃ res : CR, (∃ σ' tl, res = (.tup [], σ', tl) ∧ σ'.clock = σ.clock ∧ σ'.ob id = some ⟨1, false, true, cs l.reverse⟩ ∧ (∀ j, j ≠ id → σ'.ob j = σ.ob j) ∧ (tl = none ∨ tl = some id)) ∧ Ends E σ Try.f26 res (blk 0 r)) l.length [] l [] (Nat.le_refl _) (by simp)
  simp only [List.length_nil, List.nil_append, List.append_nil, Int.natCast_zero, Int.zero_add] at key
  refine key σ none _ _ _ _ _ _ _ _ _ _ _ _ _ _ _ _ _ _ _ _ _ _ _ _ _ hob (.inl rfl) ?_
  intro σ' low' h1 h2 h3 h4 y0 y1 y2 y3 y4 y5 y6 y7 y8 y9 y10 y11 y12 y13 y14 y15 y16 y17 y18 y19 y20 y21 y22 y23 y24 y25 y26 y27
  rcases h4 with rfl | ⟨rfl, rfl⟩
  · refine ⟨(.tup [], σ', some id), ⟨σ', some id, rfl, h1, h2, h3, .inr rfl⟩, ?_⟩
    simp (decide := true) only [ev1_skip, ev1_label, ev1_exit, ev1_goto, ev1_ret, ev1_region, ev1_seq, ev1_cond, ev1_block, andThen_nrm, andThen_exit, andThen_goto, andThen_ret, pick_bool, blk_nrm, blk_ret, blk_goto, blk_exit, evRegion, evOps, stepG, stepO, wantedAV, evO, evA, evB, evOp, putTm, E_T, E_gl, E_br, List.toList_toArray, List.getD_cons_zero, List.getD_cons_succ, List.set, Option.map_some, lenAV, omin_right, omin_left, cut_none, tdesc, tab3, tab4, tab22, tab25, tab31, tab34, tab44, tab45, tab48, List.getElem?_toArray, List.getElem?_cons_zero, List.getElem?_cons_succ, Option.bind_some, List.length_map, evBin, intBin, bothNil, constOp, Bool.false_and, Bool.not_true, Bool.and_false, Bool.false_eq_true, if_false, if_true, Bool.or_false, Bool.not_false, Bool.and_true, Bool.true_and, indexAddrAV, ints, Option.isSome_none, Option.isSome_some, List.getElem?_map, List.length_cons, List.length_nil, evLoad, ofCells, TD.isAgg, decide_eq_true_eq, reduceIte, List.take_succ_cons, List.take_zero, List.drop_zero, List.drop_succ_cons, Nat.reduceAdd, Nat.reduceLeDiff, Nat.reduceEqDiff, Nat.zero_add, Nat.le_refl, decide_true, decide_false, Nat.reduceSub, Nat.reduceLT, reduceCtorEq, List.append_nil, List.nil_append, List.cons_append, List.replicate, bb_true, bb_false, eqCells]
    apply Ends.nrm
    simp only [evReturn, retShare, evReturn0, resAV, mapO, exportVs, exportV, exportL, export1, rowsOf, cells, rowOf, innerIds, shareAll, freshL, E_T, tab3, tab4, tab22, tab25, tab31, tab34, tab44, tab45, tab48, List.toList_toArray, List.getD_cons_zero, List.getD_cons_succ, List.flatMap_cons, List.flatMap_nil, List.append_nil, List.nil_append, List.foldl_nil, omin_right, omin_left, cut_none, one, closed, List.all_cons, List.all_nil, List.nodup_nil, Bool.and_true, Bool.true_and, Option.map_some, and_true, true_and, if_true, Option.isSome_none, Bool.false_eq_true, or_true, false_or, reduceIte, if_pos, rowIds, List.length_nil, List.nodup_cons, List.not_mem_nil, not_false_eq_true, and_self, Nat.zero_add, Nat.le_refl, false_implies, implies_true, slice_all, slice_map, Bool.false_and, List.flatMap, List.map_cons, List.map_nil, List.flatten_cons, List.flatten_nil, List.foldl_cons, cells_row, cells_nil, cells_int, cells_bool, cells_sl, cells_agg, decide_true, tdesc, ob_new_if, ob_put_if, clock_new, clock_put, eq_self, Nat.le_add_right, Nat.left_eq_add, Nat.add_eq_left, Nat.one_ne_zero, res26, rt26, killAll]
  · refine ⟨(.tup [], σ', none), ⟨σ', none, rfl, rfl, h2, h3, .inl rfl⟩, ?_⟩
    simp (decide := true) only [ev1_skip, ev1_label, ev1_exit, ev1_goto, ev1_ret, ev1_region, ev1_seq, ev1_cond, ev1_block, andThen_nrm, andThen_exit, andThen_goto, andThen_ret, pick_bool, blk_nrm, blk_ret, blk_goto, blk_exit, evRegion, evOps, stepG, stepO, wantedAV, evO, evA, evB, evOp, putTm, E_T, E_gl, E_br, List.toList_toArray, List.getD_cons_zero, List.getD_cons_succ, List.set, Option.map_some, lenAV, omin_right, omin_left, cut_none, tdesc, tab3, tab4, tab22, tab25, tab31, tab34, tab44, tab45, tab48, List.getElem?_toArray, List.getElem?_cons_zero, List.getElem?_cons_succ, Option.bind_some, List.length_map, evBin, intBin, bothNil, constOp, Bool.false_and, Bool.not_true, Bool.and_false, Bool.false_eq_true, if_false, if_true, Bool.or_false, Bool.not_false, Bool.and_true, Bool.true_and, indexAddrAV, ints, Option.isSome_none, Option.isSome_some, List.getElem?_map, List.length_cons, List.length_nil, evLoad, ofCells, TD.isAgg, decide_eq_true_eq, reduceIte, List.take_succ_cons, List.take_zero, List.drop_zero, List.drop_succ_cons, Nat.reduceAdd, Nat.reduceLeDiff, Nat.reduceEqDiff, Nat.zero_add, Nat.le_refl, decide_true, decide_false, Nat.reduceSub, Nat.reduceLT, reduceCtorEq, List.append_nil, List.nil_append, List.cons_append, List.replicate, bb_true, bb_false, eqCells]
    apply Ends.nrm
    simp only [evReturn, retShare, evReturn0, resAV, mapO, exportVs, exportV, exportL, export1, rowsOf, cells, rowOf, innerIds, shareAll, freshL, E_T, tab3, tab4, tab22, tab25, tab31, tab34, tab44, tab45, tab48, List.toList_toArray, List.getD_cons_zero, List.getD_cons_succ, List.flatMap_cons, List.flatMap_nil, List.append_nil, List.nil_append, List.foldl_nil, omin_right, omin_left, cut_none, one, closed, List.all_cons, List.all_nil, List.nodup_nil, Bool.and_true, Bool.true_and, Option.map_some, and_true, true_and, if_true, Option.isSome_none, Bool.false_eq_true, or_true, false_or, reduceIte, if_pos, rowIds, List.length_nil, List.nodup_cons, List.not_mem_nil, not_false_eq_true, and_self, Nat.zero_add, Nat.le_refl, false_implies, implies_true, slice_all, slice_map, Bool.false_and, List.flatMap, List.map_cons, List.map_nil, List.flatten_cons, List.flatten_nil, List.foldl_cons, cells_row, cells_nil, cells_int, cells_bool, cells_sl, cells_agg, decide_true, tdesc, ob_new_if, ob_put_if, clock_new, clock_put, eq_self, Nat.le_add_right, Nat.left_eq_add, Nat.add_eq_left, Nat.one_ne_zero, res26, rt26]
end Go.Bx.WindW

/- wind.Plan. (Own text; under way.) -/
namespace Go.Bx.WindW
set_option linter.unusedVariables false
set_option linter.unusedSimpArgs false
set_option linter.unusedSectionVars false
open Go.Proofs
set_option linter.unusedSimpArgs false
set_option linter.unusedVariables false
set_option maxRecDepth 10000

theorem lcp_le : ∀ (a b : List Int), lcp a b ≤ a.length ∧ lcp a b ≤ b.length
  | [], b => by simp [lcp]
  | a :: xs, [] => by simp [lcp]
  | a :: xs, b :: ys => by
    have := lcp_le xs ys
    unfold lcp
    split <;> simp <;> omega

theorem res16 : Try.f16.results = #[.cell 4 31] := rfl
theorem rt16 : Try.f16.resultTypes = #[31] := rfl

theorem f26_of {σ : Store} {id n : Nat} {r : Option CR} (hc : callL E 26 [.row id 1 0 n] σ = r) (l : List Int) (hn : n = l.length) (hlen : l.length ≤ 140737488355328) (hid : id < σ.clock) (hob : σ.ob id = some ⟨1, false, true, cs l⟩) :
    ∃ σ' tl, r = some (.tup [], σ', tl) ∧ σ'.clock = σ.clock ∧ σ'.ob id = some ⟨1, false, true, cs l.reverse⟩ ∧ (∀ j, j ≠ id → σ'.ob j = σ.ob j) ∧ (tl = none ∨ tl = some id) := by
  subst hn
  obtain ⟨σ', tl, h, h1⟩ := f26_ok l hlen σ id hid hob
  exact ⟨σ', tl, hc.symm.trans h, h1⟩

set_option maxHeartbeats 8000000 in
theorem f16_ok (l m : List Fr) (hl : ∀ f ∈ l, leaf f.h = true) (hm : ∀ f ∈ m, leaf f.h = true) (hlen : l.length * 40 ≤ 140737488355328) (hlen2 : m.length * 40 ≤ 140737488355328) (σ : Store) :
    callL E 16 [frames l, frames m] σ = some (.agg [.v (.int .i64 (lcp (winds l) (winds m))), ownInts ((winds l).drop (lcp (winds l) (winds m))).reverse, ownInts ((winds m).drop (lcp (winds l) (winds m)))], σ, none) := by
  have h10 : ∀ σ, callL E 10 [.sl (l.map Fr.c)] σ = some (ownInts (winds l), σ, none) := f10_ok l hl hlen
  have h10' : ∀ σ, callL E 10 [.sl (m.map Fr.c)] σ = some (ownInts (winds m), σ, none) := f10_ok m hm hlen2
  have h13 : ∀ σ, callL E 13 [.sl (l.map Fr.c), .sl (m.map Fr.c)] σ = some (.v (.int .i64 (lcp (winds l) (winds m))), σ, none) := f13_ok l m hl hm hlen hlen2
  have hwl := winds_le l
  have hwm := winds_le m
  obtain ⟨hk1, hk2⟩ := lcp_le (winds l) (winds m)
  have hk3 : lcp (winds l) (winds m) + ((winds l).length - lcp (winds l) (winds m)) ≤ (winds l).length := by omega
  have hk4 : lcp (winds l) (winds m) + ((winds m).length - lcp (winds l) (winds m)) ≤ (winds m).length := by omega
  have h25 : ∀ σ, callL E 25 [.sl (((winds l).drop (lcp (winds l) (winds m))).map fun n => [.v (.int .i64 n)])] σ = some (ownInts ((winds l).drop (lcp (winds l) (winds m))), σ, none) := f25_ok _ (by simp; omega)
  have h25' : ∀ σ, callL E 25 [.sl (((winds m).drop (lcp (winds l) (winds m))).map fun n => [.v (.int .i64 n)])] σ = some (ownInts ((winds m).drop (lcp (winds l) (winds m))), σ, none) := f25_ok _ (by simp; omega)
  refine callL_ends (fn := Try.f16) (nt := 30) Try.func16 rfl rfl rfl ?_
  simp (decide := true) (disch := (first | omega | (simp only [clock_new, clock_put]; done) | (simp only [clock_new, clock_put]; omega))) only [ev1_skip, ev1_label, ev1_exit, ev1_goto, ev1_ret, ev1_region, ev1_seq, ev1_cond, ev1_block, andThen_nrm, andThen_exit, andThen_goto, andThen_ret, pick_bool, blk_nrm, blk_ret, blk_goto, blk_exit, evRegion, evOps, stepG, stepO, wantedAV, evO, evA, evB, evOp, putTm, E_T, E_gl, E_br, List.toList_toArray, List.getD_cons_zero, List.getD_cons_succ, List.set, Option.map_some, lenAV, omin_right, omin_left, cut_none, tdesc, tab3, tab4, tab22, tab25, tab31, tab34, tab44, tab45, tab48, List.getElem?_toArray, List.getElem?_cons_zero, List.getElem?_cons_succ, Option.bind_some, List.length_map, evBin, intBin, bothNil, constOp, Bool.false_and, Bool.not_true, Bool.and_false, Bool.false_eq_true, if_false, if_true, Bool.or_false, Bool.not_false, Bool.and_true, Bool.true_and, indexAddrAV, ints, Option.isSome_none, Option.isSome_some, List.getElem?_map, List.length_cons, List.length_nil, evLoad, ofCells, TD.isAgg, decide_eq_true_eq, reduceIte, List.take_succ_cons, List.take_zero, List.drop_zero, List.drop_succ_cons, Nat.reduceAdd, Nat.reduceLeDiff, Nat.reduceEqDiff, Nat.zero_add, Nat.le_refl, decide_true, decide_false, Nat.reduceSub, Nat.reduceLT, reduceCtorEq, List.append_nil, List.nil_append, List.cons_append, List.replicate, bb_true, bb_false, eqCells, evStore, evAppend, elems, flatOf, cells_agg, cells_int, cells_bool, cells_str, cells_nil, cells_nilp, cells_sl, cells_row, cells_ptr, cut_ge, cut_omin, putAt, clock_new, clock_put, ob_new_if, ob_put_if, Nat.left_eq_add, Nat.add_eq_left, Nat.add_left_cancel_iff, eq_self, Nat.succ_ne_self, fillL, slice_all, slice_map, slice_one, slice_nil, List.take_append_drop, List.all_cons, List.all_nil, beq_self_eq_true, and_self, List.length_set, List.map_cons, List.map_nil, ne_eq, List.range_succ, List.range_zero, List.append_eq, List.length_append, fieldPlaceT, leaf_int, leaf_bool, leaf_str, leaf_nil, leaf_nilp, leaf_sl, leaf_row, pl_int, pl_bool, pl_str, pl_nil, pl_nilp, pl_sl, pl_row, Nat.one_ne_zero, false_implies, implies_true, forall_const, not_false_eq_true, List.toList_toArray, true_and, and_true, List.zip_cons_cons, frames, evCall, List.toList_toArray, List.map_cons, List.map_nil, List.nil_append, List.append_nil, List.cons_append, List.flatMap_cons, List.flatMap_nil, rowIds_v, rowIds_sl, rowIds_row, rowIds_agg, shareAll_nil, shareAll_cons, freshL_nil, share, reify_row, freshL, fresh1, List.foldl_cons, List.foldl_nil, slice_map, slice_all, mapO, reify_int, reify_bool, reify_str, reify_nil, reify_sl, reify_agg, importAV_v, importAV_sl, importAV_own, importAV_agg, importAV_tup, importL, import2L, import1, import2, ownInts, sliceAV, boundAV, Option.map_none, Int.toNat_natCast, slice_drop, Nat.zero_add, and_self, Int.natCast_nonneg, List.length_drop, h10, h10', h13, h25, h25', hk1, hk2, hk3, hk4]
  generalize hc : callL E 26 _ _ = rr
  obtain ⟨σ', tl, rfl, c1, c2, c3, c4⟩ := f26_of hc ((winds l).drop (lcp (winds l) (winds m))) (by simp) (by simp; omega) (by simp only [clock_new, clock_put]; omega)
    (by simp (decide := true) only [ob_new_if, ob_put_if, clock_new, clock_put, Nat.left_eq_add, Nat.add_eq_left, Nat.add_left_cancel_iff, eq_self, Nat.reduceEqDiff, Nat.reduceAdd, if_true, if_false, reduceIte, cs, Nat.add_assoc])
  rcases c4 with rfl | rfl
  · simp (decide := true) (disch := (first | omega | (simp only [clock_new, clock_put]; done) | (simp only [clock_new, clock_put]; omega))) only [ev1_skip, ev1_label, ev1_exit, ev1_goto, ev1_ret, ev1_region, ev1_seq, ev1_cond, ev1_block, andThen_nrm, andThen_exit, andThen_goto, andThen_ret, pick_bool, blk_nrm, blk_ret, blk_goto, blk_exit, evRegion, evOps, stepG, stepO, wantedAV, evO, evA, evB, evOp, putTm, E_T, E_gl, E_br, List.toList_toArray, List.getD_cons_zero, List.getD_cons_succ, List.set, Option.map_some, lenAV, omin_right, omin_left, cut_none, tdesc, tab3, tab4, tab22, tab25, tab31, tab34, tab44, tab45, tab48, List.getElem?_toArray, List.getElem?_cons_zero, List.getElem?_cons_succ, Option.bind_some, List.length_map, evBin, intBin, bothNil, constOp, Bool.false_and, Bool.not_true, Bool.and_false, Bool.false_eq_true, if_false, if_true, Bool.or_false, Bool.not_false, Bool.and_true, Bool.true_and, indexAddrAV, ints, Option.isSome_none, Option.isSome_some, List.getElem?_map, List.length_cons, List.length_nil, evLoad, ofCells, TD.isAgg, decide_eq_true_eq, reduceIte, List.take_succ_cons, List.take_zero, List.drop_zero, List.drop_succ_cons, Nat.reduceAdd, Nat.reduceLeDiff, Nat.reduceEqDiff, Nat.zero_add, Nat.le_refl, decide_true, decide_false, Nat.reduceSub, Nat.reduceLT, reduceCtorEq, List.append_nil, List.nil_append, List.cons_append, List.replicate, bb_true, bb_false, eqCells, evStore, evAppend, elems, flatOf, cells_agg, cells_int, cells_bool, cells_str, cells_nil, cells_nilp, cells_sl, cells_row, cells_ptr, cut_ge, cut_omin, putAt, clock_new, clock_put, ob_new_if, ob_put_if, Nat.left_eq_add, Nat.add_eq_left, Nat.add_left_cancel_iff, eq_self, Nat.succ_ne_self, fillL, slice_all, slice_map, slice_one, slice_nil, List.take_append_drop, List.all_cons, List.all_nil, beq_self_eq_true, and_self, List.length_set, List.map_cons, List.map_nil, ne_eq, List.range_succ, List.range_zero, List.append_eq, List.length_append, fieldPlaceT, leaf_int, leaf_bool, leaf_str, leaf_nil, leaf_nilp, leaf_sl, leaf_row, pl_int, pl_bool, pl_str, pl_nil, pl_nilp, pl_sl, pl_row, Nat.one_ne_zero, false_implies, implies_true, forall_const, not_false_eq_true, List.toList_toArray, true_and, and_true, List.zip_cons_cons, evCall, List.toList_toArray, List.map_cons, List.map_nil, List.nil_append, List.append_nil, List.cons_append, List.flatMap_cons, List.flatMap_nil, rowIds_v, rowIds_sl, rowIds_row, rowIds_agg, shareAll_nil, shareAll_cons, freshL_nil, share, reify_row, freshL, fresh1, List.foldl_cons, List.foldl_nil, slice_map, slice_all, mapO, reify_int, reify_bool, reify_str, reify_nil, reify_sl, reify_agg, importAV_v, importAV_sl, importAV_own, importAV_agg, importAV_tup, importL, import2L, import1, import2, ownInts, sliceAV, boundAV, Option.map_none, Int.toNat_natCast, slice_drop, Nat.zero_add, and_self, Int.natCast_nonneg, List.length_drop, c1, c2, c3, Nat.add_assoc]
    apply Ends.ret
    generalize hσe : σ'.put σ.clock _ = σe
    have hA : σe.ob σ.clock = some ⟨3, false, false, [[.v (.int .i64 (lcp (winds l) (winds m))), .row (σ.clock + 3) 1 0 ((winds l).length - lcp (winds l) (winds m)), .row (σ.clock + 4) 1 0 ((winds m).length - lcp (winds l) (winds m))]]⟩ := by
      rw [← hσe]; exact ob_put_eq rfl
    have hB : σe.ob (σ.clock + 3) = some ⟨1, false, true, cs ((winds l).drop (lcp (winds l) (winds m))).reverse⟩ := by
      rw [← hσe, ob_put_ne (by omega)]; exact c2
    have hC : σe.ob (σ.clock + 4) = some ⟨1, false, true, cs ((winds m).drop (lcp (winds l) (winds m)))⟩ := by
      rw [← hσe, ob_put_ne (by omega), c3 _ (by omega)]
      simp (decide := true) only [ob_new_if, ob_put_if, clock_new, clock_put, Nat.left_eq_add, Nat.add_eq_left, Nat.add_left_cancel_iff, eq_self, Nat.reduceEqDiff, Nat.reduceAdd, if_true, if_false, reduceIte, cs, Nat.add_assoc]
    have q1 : (winds l).length - lcp (winds l) (winds m) = (cs ((winds l).drop (lcp (winds l) (winds m))).reverse).length := by simp [cs]
    have q2 : (winds m).length - lcp (winds l) (winds m) = (cs ((winds m).drop (lcp (winds l) (winds m)))).length := by simp [cs]
    simp only [q1, q2] at hA ⊢
    simp (decide := true) only [evReturn, retShare, evReturn0, resAV, mapO, exportVs, exportV, exportL, export1, rowsOf, cells, rowOf, innerIds, shareAll, freshL, E_T, tab3, tab4, tab22, tab25, tab31, tab34, tab44, tab45, tab48, List.toList_toArray, List.getD_cons_zero, List.getD_cons_succ, List.flatMap_cons, List.flatMap_nil, List.append_nil, List.nil_append, List.foldl_nil, omin_right, omin_left, cut_none, one, closed, List.all_cons, List.all_nil, List.nodup_nil, Bool.and_true, Bool.true_and, Option.map_some, and_true, true_and, if_true, Option.isSome_none, Bool.false_eq_true, or_true, false_or, reduceIte, if_pos, rowIds, List.length_nil, List.nodup_cons, List.not_mem_nil, not_false_eq_true, and_self, Nat.zero_add, Nat.le_refl, false_implies, implies_true, slice_all, slice_map, Bool.false_and, List.flatMap, List.map_cons, List.map_nil, List.flatten_cons, List.flatten_nil, List.foldl_cons, cells_row, cells_nil, cells_int, cells_bool, cells_sl, cells_agg, decide_true, tdesc, ob_new_if, ob_put_if, clock_new, clock_put, eq_self, Nat.le_add_right, Nat.left_eq_add, Nat.add_eq_left, Nat.one_ne_zero, evLoad, ofCells, TD.isAgg, List.getElem?_cons_zero, List.drop_zero, List.take_succ_cons, List.take_zero, List.length_cons, Nat.reduceAdd, Nat.reduceLeDiff, res16, rt16, hA, hB, hC]
    rw [if_pos (by simp)]
    rfl
  · simp (decide := true) (disch := (first | omega | (simp only [clock_new, clock_put]; done) | (simp only [clock_new, clock_put]; omega))) only [ev1_skip, ev1_label, ev1_exit, ev1_goto, ev1_ret, ev1_region, ev1_seq, ev1_cond, ev1_block, andThen_nrm, andThen_exit, andThen_goto, andThen_ret, pick_bool, blk_nrm, blk_ret, blk_goto, blk_exit, evRegion, evOps, stepG, stepO, wantedAV, evO, evA, evB, evOp, putTm, E_T, E_gl, E_br, List.toList_toArray, List.getD_cons_zero, List.getD_cons_succ, List.set, Option.map_some, lenAV, omin_right, omin_left, cut_none, tdesc, tab3, tab4, tab22, tab25, tab31, tab34, tab44, tab45, tab48, List.getElem?_toArray, List.getElem?_cons_zero, List.getElem?_cons_succ, Option.bind_some, List.length_map, evBin, intBin, bothNil, constOp, Bool.false_and, Bool.not_true, Bool.and_false, Bool.false_eq_true, if_false, if_true, Bool.or_false, Bool.not_false, Bool.and_true, Bool.true_and, indexAddrAV, ints, Option.isSome_none, Option.isSome_some, List.getElem?_map, List.length_cons, List.length_nil, evLoad, ofCells, TD.isAgg, decide_eq_true_eq, reduceIte, List.take_succ_cons, List.take_zero, List.drop_zero, List.drop_succ_cons, Nat.reduceAdd, Nat.reduceLeDiff, Nat.reduceEqDiff, Nat.zero_add, Nat.le_refl, decide_true, decide_false, Nat.reduceSub, Nat.reduceLT, reduceCtorEq, List.append_nil, List.nil_append, List.cons_append, List.replicate, bb_true, bb_false, eqCells, evStore, evAppend, elems, flatOf, cells_agg, cells_int, cells_bool, cells_str, cells_nil, cells_nilp, cells_sl, cells_row, cells_ptr, cut_ge, cut_omin, putAt, clock_new, clock_put, ob_new_if, ob_put_if, Nat.left_eq_add, Nat.add_eq_left, Nat.add_left_cancel_iff, eq_self, Nat.succ_ne_self, fillL, slice_all, slice_map, slice_one, slice_nil, List.take_append_drop, List.all_cons, List.all_nil, beq_self_eq_true, and_self, List.length_set, List.map_cons, List.map_nil, ne_eq, List.range_succ, List.range_zero, List.append_eq, List.length_append, fieldPlaceT, leaf_int, leaf_bool, leaf_str, leaf_nil, leaf_nilp, leaf_sl, leaf_row, pl_int, pl_bool, pl_str, pl_nil, pl_nilp, pl_sl, pl_row, Nat.one_ne_zero, false_implies, implies_true, forall_const, not_false_eq_true, List.toList_toArray, true_and, and_true, List.zip_cons_cons, evCall, List.toList_toArray, List.map_cons, List.map_nil, List.nil_append, List.append_nil, List.cons_append, List.flatMap_cons, List.flatMap_nil, rowIds_v, rowIds_sl, rowIds_row, rowIds_agg, shareAll_nil, shareAll_cons, freshL_nil, share, reify_row, freshL, fresh1, List.foldl_cons, List.foldl_nil, slice_map, slice_all, mapO, reify_int, reify_bool, reify_str, reify_nil, reify_sl, reify_agg, importAV_v, importAV_sl, importAV_own, importAV_agg, importAV_tup, importL, import2L, import1, import2, ownInts, sliceAV, boundAV, Option.map_none, Int.toNat_natCast, slice_drop, Nat.zero_add, and_self, Int.natCast_nonneg, List.length_drop, c1, c2, c3, Nat.add_assoc]
    apply Ends.ret
    generalize hσe : σ'.put σ.clock _ = σe
    have hA : σe.ob σ.clock = some ⟨3, false, false, [[.v (.int .i64 (lcp (winds l) (winds m))), .row (σ.clock + 3) 1 0 ((winds l).length - lcp (winds l) (winds m)), .row (σ.clock + 4) 1 0 ((winds m).length - lcp (winds l) (winds m))]]⟩ := by
      rw [← hσe]; exact ob_put_eq rfl
    have hB : σe.ob (σ.clock + 3) = some ⟨1, false, true, cs ((winds l).drop (lcp (winds l) (winds m))).reverse⟩ := by
      rw [← hσe, ob_put_ne (by omega)]; exact c2
    have hC : σe.ob (σ.clock + 4) = some ⟨1, false, true, cs ((winds m).drop (lcp (winds l) (winds m)))⟩ := by
      rw [← hσe, ob_put_ne (by omega), c3 _ (by omega)]
      simp (decide := true) only [ob_new_if, ob_put_if, clock_new, clock_put, Nat.left_eq_add, Nat.add_eq_left, Nat.add_left_cancel_iff, eq_self, Nat.reduceEqDiff, Nat.reduceAdd, if_true, if_false, reduceIte, cs, Nat.add_assoc]
    have q1 : (winds l).length - lcp (winds l) (winds m) = (cs ((winds l).drop (lcp (winds l) (winds m))).reverse).length := by simp [cs]
    have q2 : (winds m).length - lcp (winds l) (winds m) = (cs ((winds m).drop (lcp (winds l) (winds m)))).length := by simp [cs]
    simp only [q1, q2] at hA ⊢
    simp (decide := true) only [evReturn, retShare, evReturn0, resAV, mapO, exportVs, exportV, exportL, export1, rowsOf, cells, rowOf, innerIds, shareAll, freshL, E_T, tab3, tab4, tab22, tab25, tab31, tab34, tab44, tab45, tab48, List.toList_toArray, List.getD_cons_zero, List.getD_cons_succ, List.flatMap_cons, List.flatMap_nil, List.append_nil, List.nil_append, List.foldl_nil, omin_right, omin_left, cut_none, one, closed, List.all_cons, List.all_nil, List.nodup_nil, Bool.and_true, Bool.true_and, Option.map_some, and_true, true_and, if_true, Option.isSome_none, Bool.false_eq_true, or_true, false_or, reduceIte, if_pos, rowIds, List.length_nil, List.nodup_cons, List.not_mem_nil, not_false_eq_true, and_self, Nat.zero_add, Nat.le_refl, false_implies, implies_true, slice_all, slice_map, Bool.false_and, List.flatMap, List.map_cons, List.map_nil, List.flatten_cons, List.flatten_nil, List.foldl_cons, cells_row, cells_nil, cells_int, cells_bool, cells_sl, cells_agg, decide_true, tdesc, ob_new_if, ob_put_if, clock_new, clock_put, eq_self, Nat.le_add_right, Nat.left_eq_add, Nat.add_eq_left, Nat.one_ne_zero, evLoad, ofCells, TD.isAgg, List.getElem?_cons_zero, List.drop_zero, List.take_succ_cons, List.take_zero, List.length_cons, Nat.reduceAdd, Nat.reduceLeDiff, res16, rt16, hA, hB, hC]
    rw [if_pos (by simp)]
    rfl
end Go.Bx.WindW
