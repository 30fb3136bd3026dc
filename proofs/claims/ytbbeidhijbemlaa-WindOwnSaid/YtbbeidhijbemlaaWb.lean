/- What the program's functions compute, shown of their code (Wb). Own text; parts are printed by a program of this claim's author. -/
import Derived.Test.YtbbeidhijbemlaaWa
import Derived.Test.YtbbeidhijbemlaaChecked
/- The table of the types, printed by pf.py. (Own text.) -/
namespace Go.Bx.Wind
set_option linter.unusedVariables false
set_option linter.unusedSimpArgs false
set_option linter.unusedSectionVars false
open Go.Proofs
def tab : Tab
  | 3 => some { desc := .int .i64, sz := 1, bytes := 8, zero := [.int .i64 0], eq := false, lv := [none] }
  | 4 => some { desc := .bool, sz := 1, bytes := 1, zero := [.bool false], eq := false, lv := [none] }
  | 22 => some { desc := .slice 44, sz := 1, bytes := 24, zero := [.slice none 0 0], eq := false, lv := [some 3] }
  | 25 => some { desc := .slice 3, sz := 1, bytes := 24, zero := [.slice none 0 0], eq := false, lv := [some 1] }
  | 31 => some { desc := .struct [(0, 3), (1, 25), (2, 25)], sz := 3, bytes := 56, zero := [.int .i64 0, .slice none 0 0, .slice none 0 0], eq := false, lv := [none, some 1, some 1] }
  | 34 => some { desc := .int .i64, sz := 1, bytes := 8, zero := [.int .i64 0], eq := false, lv := [none] }
  | 44 => some { desc := .struct [(0, 3), (1, 3), (2, 25)], sz := 3, bytes := 40, zero := [.int .i64 0, .int .i64 0, .slice none 0 0], eq := false, lv := [none, none, some 1] }
  | 45 => some { desc := .slice 48, sz := 1, bytes := 24, zero := [.slice none 0 0], eq := false, lv := [some 1] }
  | 48 => some { desc := .struct [(0, 3)], sz := 1, bytes := 8, zero := [.int .i64 0], eq := true, lv := [none] }
  | _ => none
theorem tab3 : tab 3 = some { desc := .int .i64, sz := 1, bytes := 8, zero := [.int .i64 0], eq := false, lv := [none] } := rfl
theorem tab4 : tab 4 = some { desc := .bool, sz := 1, bytes := 1, zero := [.bool false], eq := false, lv := [none] } := rfl
theorem tab22 : tab 22 = some { desc := .slice 44, sz := 1, bytes := 24, zero := [.slice none 0 0], eq := false, lv := [some 3] } := rfl
theorem tab25 : tab 25 = some { desc := .slice 3, sz := 1, bytes := 24, zero := [.slice none 0 0], eq := false, lv := [some 1] } := rfl
theorem tab31 : tab 31 = some { desc := .struct [(0, 3), (1, 25), (2, 25)], sz := 3, bytes := 56, zero := [.int .i64 0, .slice none 0 0, .slice none 0 0], eq := false, lv := [none, some 1, some 1] } := rfl
theorem tab34 : tab 34 = some { desc := .int .i64, sz := 1, bytes := 8, zero := [.int .i64 0], eq := false, lv := [none] } := rfl
theorem tab44 : tab 44 = some { desc := .struct [(0, 3), (1, 3), (2, 25)], sz := 3, bytes := 40, zero := [.int .i64 0, .int .i64 0, .slice none 0 0], eq := false, lv := [none, none, some 1] } := rfl
theorem tab45 : tab 45 = some { desc := .slice 48, sz := 1, bytes := 24, zero := [.slice none 0 0], eq := false, lv := [some 1] } := rfl
theorem tab48 : tab 48 = some { desc := .struct [(0, 3)], sz := 1, bytes := 8, zero := [.int .i64 0], eq := true, lv := [none] } := rfl
theorem tabOK : TabOK Try.prog tab := by
  intro t r h
  unfold tab at h
  split at h
  · cases h; exact RowOK.of Try.underlying3 rfl (z := (.int .i64 0)) (by kernel_rfl) rfl rfl (fun h => by cases h)
  · cases h; exact RowOK.of Try.underlying4 rfl (z := (.bool false)) (by kernel_rfl) rfl rfl (fun h => by cases h)
  · cases h; exact RowOK.of Try.underlying22 rfl (z := (.slice none 0 0)) (by kernel_rfl) rfl rfl (fun h => by cases h)
  · cases h; exact RowOK.of Try.underlying25 rfl (z := (.slice none 0 0)) (by kernel_rfl) rfl rfl (fun h => by cases h)
  · cases h; exact RowOK.of Try.underlying31 ⟨_, rfl, rfl⟩ (z := .agg #[.int .i64 0, .slice none 0 0, .slice none 0 0]) (by kernel_rfl) rfl rfl (fun h => by cases h)
  · cases h; exact RowOK.of Try.underlying34 rfl (z := (.int .i64 0)) (by kernel_rfl) rfl rfl (fun h => by cases h)
  · cases h; exact RowOK.of Try.underlying44 ⟨_, rfl, rfl⟩ (z := .agg #[.int .i64 0, .int .i64 0, .slice none 0 0]) (by kernel_rfl) rfl rfl (fun h => by cases h)
  · cases h; exact RowOK.of Try.underlying45 rfl (z := (.slice none 0 0)) (by kernel_rfl) rfl rfl (fun h => by cases h)
  · cases h; exact RowOK.of Try.underlying48 ⟨_, rfl, rfl⟩ (z := .agg #[.int .i64 0]) (by kernel_rfl) rfl rfl (fun _ => ⟨by kernel_rfl, by kernel_rfl, _, Try.underlying48, by simp⟩)
  · cases h
theorem tabs : ((((tab 3 = some { desc := .int .i64, sz := 1, bytes := 8, zero := [.int .i64 0], eq := false, lv := [none] }) ∧ (tab 4 = some { desc := .bool, sz := 1, bytes := 1, zero := [.bool false], eq := false, lv := [none] })) ∧ ((tab 22 = some { desc := .slice 44, sz := 1, bytes := 24, zero := [.slice none 0 0], eq := false, lv := [some 3] }) ∧ (tab 25 = some { desc := .slice 3, sz := 1, bytes := 24, zero := [.slice none 0 0], eq := false, lv := [some 1] }))) ∧ (((tab 31 = some { desc := .struct [(0, 3), (1, 25), (2, 25)], sz := 3, bytes := 56, zero := [.int .i64 0, .slice none 0 0, .slice none 0 0], eq := false, lv := [none, some 1, some 1] }) ∧ (tab 34 = some { desc := .int .i64, sz := 1, bytes := 8, zero := [.int .i64 0], eq := false, lv := [none] })) ∧ ((tab 44 = some { desc := .struct [(0, 3), (1, 3), (2, 25)], sz := 3, bytes := 40, zero := [.int .i64 0, .int .i64 0, .slice none 0 0], eq := false, lv := [none, none, some 1] }) ∧ ((tab 45 = some { desc := .slice 48, sz := 1, bytes := 24, zero := [.slice none 0 0], eq := false, lv := [some 1] }) ∧ (tab 48 = some { desc := .struct [(0, 3)], sz := 1, bytes := 8, zero := [.int .i64 0], eq := true, lv := [none] }))))) := (And.intro (And.intro (And.intro (tab3) (tab4)) (And.intro (tab22) (tab25))) (And.intro (And.intro (tab31) (tab34)) (And.intro (tab44) (And.intro (tab45) (tab48)))))
structure Frame where
  Kind : Int
  Id : Int
  Hs : List Int
  deriving DecidableEq
def cFrame (x : Frame) : Cs := [.v (.int .i64 x.Kind), .v (.int .i64 x.Id), .sl (List.map (cInt .i64) x.Hs)]
theorem cFrame_eq (x : Frame) : cFrame x = [.v (.int .i64 x.Kind), .v (.int .i64 x.Id), .sl (List.map (cInt .i64) x.Hs)] := rfl
theorem lenFrame (l : List Frame) : ((l.map cFrame).all fun e => e.length == 3) = true := all_len (c := cFrame) (n := 3) (fun _ => rfl) l
theorem plFrame (x : Frame) : (cFrame x).all pl = true := rfl
theorem injFrame (x y : Frame) (h : cFrame x = cFrame y) : x = y := by
  cases x; cases y
  simp only [cFrame_eq, List.cons.injEq, AV.v.injEq, Value.int.injEq, Value.bool.injEq, Value.string.injEq, AV.sl.injEq, mkS_eq, true_and, and_true] at h
  obtain ⟨h0, h1, h2⟩ := h
  have h2 := inj_map inj_int _ _ h2
  simp only [Frame.mk.injEq]; exact ⟨h0, h1, h2⟩
theorem ext_Frame {x y : Frame} (h0 : x.Kind = y.Kind) (h1 : x.Id = y.Id) (h2 : x.Hs = y.Hs) : x = y := by cases x; cases y; simp_all
structure Mark where
  id : Int
  deriving DecidableEq
def cMark (x : Mark) : Cs := [.v (.int .i64 x.id)]
theorem cMark_eq (x : Mark) : cMark x = [.v (.int .i64 x.id)] := rfl
theorem lenMark (l : List Mark) : ((l.map cMark).all fun e => e.length == 1) = true := all_len (c := cMark) (n := 1) (fun _ => rfl) l
theorem plMark (x : Mark) : (cMark x).all pl = true := rfl
theorem injMark (x y : Mark) (h : cMark x = cMark y) : x = y := by
  cases x; cases y
  simp only [cMark_eq, List.cons.injEq, AV.v.injEq, Value.int.injEq, Value.bool.injEq, Value.string.injEq, AV.sl.injEq, mkS_eq, true_and, and_true] at h
  have h0 := h
  simp only [Mark.mk.injEq]; exact h0
theorem ext_Mark {x y : Mark} (h0 : x.id = y.id) : x = y := by cases x; cases y; simp_all
structure Trip where
  Common : Int
  Out : List Int
  In : List Int
  deriving DecidableEq
def cTrip (x : Trip) : Cs := [.v (.int .i64 x.Common), .sl (List.map (cInt .i64) x.Out), .sl (List.map (cInt .i64) x.In)]
theorem cTrip_eq (x : Trip) : cTrip x = [.v (.int .i64 x.Common), .sl (List.map (cInt .i64) x.Out), .sl (List.map (cInt .i64) x.In)] := rfl
theorem lenTrip (l : List Trip) : ((l.map cTrip).all fun e => e.length == 3) = true := all_len (c := cTrip) (n := 3) (fun _ => rfl) l
theorem plTrip (x : Trip) : (cTrip x).all pl = true := rfl
theorem injTrip (x y : Trip) (h : cTrip x = cTrip y) : x = y := by
  cases x; cases y
  simp only [cTrip_eq, List.cons.injEq, AV.v.injEq, Value.int.injEq, Value.bool.injEq, Value.string.injEq, AV.sl.injEq, mkS_eq, true_and, and_true] at h
  obtain ⟨h0, h1, h2⟩ := h
  have h1 := inj_map inj_int _ _ h1
  have h2 := inj_map inj_int _ _ h2
  simp only [Trip.mk.injEq]; exact ⟨h0, h1, h2⟩
theorem ext_Trip {x y : Trip} (h0 : x.Common = y.Common) (h1 : x.Out = y.Out) (h2 : x.In = y.In) : x = y := by cases x; cases y; simp_all
theorem tys : (((∀ (x : Frame), cFrame x = [.v (.int .i64 x.Kind), .v (.int .i64 x.Id), .sl (List.map (cInt .i64) x.Hs)]) ∧ ((∀ (l : List Frame), ((l.map cFrame).all fun e => e.length == 3) = true) ∧ (∀ (x : Mark), cMark x = [.v (.int .i64 x.id)]))) ∧ ((∀ (l : List Mark), ((l.map cMark).all fun e => e.length == 1) = true) ∧ ((∀ (x : Trip), cTrip x = [.v (.int .i64 x.Common), .sl (List.map (cInt .i64) x.Out), .sl (List.map (cInt .i64) x.In)]) ∧ (∀ (l : List Trip), ((l.map cTrip).all fun e => e.length == 3) = true)))) := (And.intro (And.intro (@cFrame_eq) (And.intro (@lenFrame) (@cMark_eq))) (And.intro (@lenMark) (And.intro (@cTrip_eq) (@lenTrip))))
noncomputable def E : Env := ⟨Try.prog, tab, fun _ => .junk, fun _ _ _ => none, fun _ => false⟩
theorem E_T : E.T = tab := rfl
theorem E_gl : E.gl = fun _ => .junk := rfl
theorem E_br : E.br = fun _ => false := rfl
theorem mixed : Try.prog.follows .mixedOrders = true := by kernel_rfl
theorem names : ∀ (f : Nat) fn, Try.prog.funcs[f]? = some fn → fn.name ≠ "runtime.NumGoroutine" := by
  have h : (Try.prog.funcs.all fun fn => fn.name != "runtime.NumGoroutine") = true := by kernel_rfl
  intro f fn hf
  have := Array.all_eq_true_iff_forall_mem.1 h fn (Array.mem_of_getElem? hf)
  simpa using this
end Go.Bx.Wind

/- sibyl/sibylref15.Same, printed by pf.py. (Own text.) -/
namespace Go.Bx.Wind
set_option linter.unusedVariables false
set_option linter.unusedSimpArgs false
set_option linter.unusedSectionVars false
open Go.Proofs
set_option linter.unusedSimpArgs false
set_option linter.unusedVariables false
set_option maxRecDepth 10000
def f9_l0 (a : List Int) (b : List Int) (i : Int) : Option (Ou Bool Unit) :=
  if (decide (i < (a.length : Int))) = true then
    (rd a i >>= fun e4 =>
    rd b i >>= fun e5 =>
    if (e4 != e5) = true then
      (some (.ret false))
    else
      f9_l0 a b (IntKind.i64.wrap (i + 1)))
  else
    some (.nxt ())
  partial_fixpoint

/-- sibyl/sibylref15.Same -/
def f9 (a : List Int) (b : List Int) : Option (Bool) :=
  if ((a.length : Int) != (b.length : Int)) = true then
    (some false)
  else
    f9_l0 a b 0 >>= fun o2 => match o2 with
    | .ret r0 => some r0
    | .nxt wo2 =>
      some true

theorem f9_res : Try.f9.results = #[.tmp 4] := rfl
theorem f9_rt : Try.f9.resultTypes = #[4] := rfl

set_option maxHeartbeats 4000000 in
theorem f9_l0_ok {base : Nat} {c00 : Ctx} (hU : Under E base c00 nilStore) (a : List Int) (b : List Int) : ∀ (i : Int) (o2 : Ou Bool Unit), f9_l0 a b i = some o2 →
    WpL E base c00 nilStore (lb Try.f9 0) ⟨.sl (List.map (cInt .i64) a) :: .sl (List.map (cInt .i64) b) :: jj 3 (.v (.int .i64 i) :: jj 20 []), St [], none, 0⟩ (fun ex s1 => match o2 with | .ret r0 => ex = .ret ∧ Rt E base c00 Try.f9 (.v (.bool r0)) s1 | .nxt wo2 => ex = .exit 0 ∧ Wk base c00 nilStore s1 ⟨jj 26 [], St [], none, 0⟩) := by
  refine f9_l0.partial_correctness a b (fun i o2 => WpL E base c00 nilStore (lb Try.f9 0) ⟨.sl (List.map (cInt .i64) a) :: .sl (List.map (cInt .i64) b) :: jj 3 (.v (.int .i64 i) :: jj 20 []), St [], none, 0⟩ (fun ex s1 => match o2 with | .ret r0 => ex = .ret ∧ Rt E base c00 Try.f9 (.v (.bool r0)) s1 | .nxt wo2 => ex = .exit 0 ∧ Wk base c00 nilStore s1 ⟨jj 26 [], St [], none, 0⟩)) ?_
  intro lp__ ih i o2 h
  refine WpL.stepE (by simp only [Try.f9, lb, Option.getD_some, loopsOf, List.nil_append, List.append_nil, List.cons_append, List.getElem?_cons_zero, List.getElem?_cons_succ]; rfl) ?_
  try simp only [jjs]
  refine Wp.seq ?_
  refine Wp.seq ?_
  refine Wp.region hU no_ok (by simp (decide := true) (disch := (first | omega | (simp only [List.length_append, List.length_map, List.length_cons, List.length_nil]; omega))) only [evOp, putTm, E_T, E_gl, E_br, tdesc, reduceIte, reduceCtorEq, Nat.reduceAdd, Nat.reduceSub, Nat.reduceLT, Nat.reduceLeDiff, Nat.reduceEqDiff, bxm, tabs, evA, lenAV, evBin, intBin, strBin, bothNil, constOp, eqCells, tys]; rfl) ?_
  refine thenN ?_
  refine Wp.cond hU (t := decide (i < (a.length : Int))) rfl (fun hc3 => ?_) (fun hc3 => ?_)
  · rw [if_t hc3] at h
    refine Wp.skip ?_
    refine thenN ?_
    refine Wp.seq ?_
    refine Wp.block ?_
    refine Wp.seq ?_
    obtain ⟨e4, he4, h⟩ := bind_some h
    obtain ⟨he4a, he4b, he4c⟩ := rd_some he4
    obtain ⟨e5, he5, h⟩ := bind_some h
    obtain ⟨he5a, he5b, he5c⟩ := rd_some he5
    refine Wp.region hU no_ok (by simp (decide := true) (disch := (first | omega | (simp only [List.length_append, List.length_map, List.length_cons, List.length_nil]; omega))) only [evOp, putTm, E_T, E_gl, E_br, tdesc, reduceIte, reduceCtorEq, Nat.reduceAdd, Nat.reduceSub, Nat.reduceLT, Nat.reduceLeDiff, Nat.reduceEqDiff, bxm, tabs, indexAddrAV, evLoad, ldV, ofCells, TD.isAgg, evBin, intBin, strBin, bothNil, constOp, eqCells, he4a, he4b, he4c, he5a, he5b, he5c, hc3, tys]; rfl) ?_
    refine thenN ?_
    refine Wp.cond hU (t := e4 != e5) rfl (fun hc6 => ?_) (fun hc6 => ?_)
    · rw [if_t hc6] at h
      refine Wp.seq ?_
      refine Wp.region hU no_ok (by simp (decide := true) (disch := (first | omega | (simp only [List.length_append, List.length_map, List.length_cons, List.length_nil]; omega))) only [evOp, putTm, E_T, E_gl, E_br, tdesc, reduceIte, reduceCtorEq, Nat.reduceAdd, Nat.reduceSub, Nat.reduceLT, Nat.reduceLeDiff, Nat.reduceEqDiff, bxm, tabs, hc3, hc6, tys]; rfl) ?_
      refine thenN ?_
      refine Wp.ret ?_
      refine blkR ?_
      refine thenR ?_
      refine againR ?_
      obtain rfl := Option.some.inj h
      refine ⟨rfl, ?_⟩
      refine Rt.of ?_
      simp (decide := true) only [evReturn, retShare, evReturn0, resAV, evLoad, ofCells, TD.isAgg, mapO, exportVs, exportV, exportL, export1, rowsOf, rowOf, innerIds, rowIds, one, closed, share, fresh1, E_T, reduceIte, reduceCtorEq, Nat.reduceAdd, Nat.reduceSub, Nat.reduceLT, Nat.reduceLeDiff, Nat.reduceEqDiff, bxm, tabs, List.map_append, f9_res, f9_rt, tys]
    · rw [if_f hc6] at h
      refine Wp.skip ?_
      refine blkN ?_
      refine thenN ?_
      refine Wp.region hU no_ok (by simp (decide := true) (disch := (first | omega | (simp only [List.length_append, List.length_map, List.length_cons, List.length_nil]; omega))) only [evOp, putTm, E_T, E_gl, E_br, tdesc, reduceIte, reduceCtorEq, Nat.reduceAdd, Nat.reduceSub, Nat.reduceLT, Nat.reduceLeDiff, Nat.reduceEqDiff, bxm, tabs, evBin, intBin, strBin, bothNil, constOp, eqCells, hc3, hc6, tys]; rfl) ?_
      refine againN ?_
      refine Wk.wpL ?_ (ih (IntKind.i64.wrap (i + 1)) _ h)
      try simp only [jjs]
      refine Wk.weak hU [] _ (by decide) ?_ ?_
      · exact .nil
      · (repeat' (first | exact WVs.nil | refine WVs.cons ?_ ?_ | (refine WVs.aggW ?_) | (refine WVs.fnW ?_ ?_))) <;> (first | exact WV.junk _ | exact WV.keep rfl | exact WV.row rfl | exact WV.nil rfl | exact WV.nilsl | exact WV.emp rfl | exact WV.empsl | exact WV.ptr rfl | (refine WV.row_eq rfl ?_; simp only [bxw, tys]) | (refine WV.view (k := 3) ?_; simp (decide := true) only [reify, share, fresh1, reduceIte, reduceCtorEq, Nat.reduceAdd, bxm, tys]) | (refine WV.eq ?_ rfl; simp only [bxw, tys]))
  · rw [if_f hc3] at h
    refine Wp.exit ?_
    refine thenE ?_
    refine againE ?_
    obtain rfl := Option.some.inj h
    refine ⟨rfl, ?_⟩
    try simp only [jjs]
    refine Wk.weak hU [] _ (by decide) ?_ ?_
    · exact .nil
    · (repeat' (first | exact WVs.nil | refine WVs.cons ?_ ?_ | (refine WVs.aggW ?_) | (refine WVs.fnW ?_ ?_))) <;> (first | exact WV.junk _ | exact WV.keep rfl | exact WV.row rfl | exact WV.nil rfl | exact WV.nilsl | exact WV.emp rfl | exact WV.empsl | exact WV.ptr rfl | (refine WV.row_eq rfl ?_; simp only [bxw, tys]) | (refine WV.view (k := 3) ?_; simp (decide := true) only [reify, share, fresh1, reduceIte, reduceCtorEq, Nat.reduceAdd, bxm, tys]) | (refine WV.eq ?_ rfl; simp only [bxw, tys]))

set_option maxHeartbeats 4000000 in
theorem f9_ok (a : List Int) (b : List Int) (r : Bool) (h : f9 a b = some r) : PureOK E 9 [.sl (List.map (cInt .i64) a), .sl (List.map (cInt .i64) b)] (.v (.bool r)) := by
  unfold f9 at h
  refine pure_of_wp tabOK mixed (fn := Try.f9) (nt := 26) Try.func9 rfl rfl (names _ _ Try.func9) rfl rfl (fun _ => rfl) (fun base c00 hU => ?_)
  refine Wk.wp (s2 := ⟨.sl (List.map (cInt .i64) a) :: .sl (List.map (cInt .i64) b) :: jj 24 [], St [], none, 0⟩) ?_ ?_
  · refine Wk.weak hU [] _ (by decide) .nil ?_
    simp only [jjs, List.length_cons, List.length_nil, Nat.reduceAdd, Nat.reduceSub, List.replicate, List.cons_append, List.nil_append]
    repeat' (first | exact WVs.nil | refine WVs.cons ?_ ?_)
    all_goals first | exact WV.junk _ | exact WV.keep rfl | exact .agg rfl (aggKeep rfl)
  try simp only [jjs]
  refine Wp.seq ?_
  refine Wp.region hU no_ok (by simp (decide := true) (disch := (first | omega | (simp only [List.length_append, List.length_map, List.length_cons, List.length_nil]; omega))) only [evOp, putTm, E_T, E_gl, E_br, tdesc, reduceIte, reduceCtorEq, Nat.reduceAdd, Nat.reduceSub, Nat.reduceLT, Nat.reduceLeDiff, Nat.reduceEqDiff, bxm, tabs, tys]; rfl) ?_
  refine thenN ?_
  refine Wp.seq ?_
  refine Wp.seq ?_
  refine Wp.region hU no_ok (by simp (decide := true) (disch := (first | omega | (simp only [List.length_append, List.length_map, List.length_cons, List.length_nil]; omega))) only [evOp, putTm, E_T, E_gl, E_br, tdesc, reduceIte, reduceCtorEq, Nat.reduceAdd, Nat.reduceSub, Nat.reduceLT, Nat.reduceLeDiff, Nat.reduceEqDiff, bxm, tabs, evA, lenAV, evBin, intBin, strBin, bothNil, constOp, eqCells, tys]; rfl) ?_
  refine thenN ?_
  refine Wp.cond hU (t := (a.length : Int) != (b.length : Int)) rfl (fun hc1 => ?_) (fun hc1 => ?_)
  · rw [if_t hc1] at h
    refine Wp.seq ?_
    refine Wp.region hU no_ok (by simp (decide := true) (disch := (first | omega | (simp only [List.length_append, List.length_map, List.length_cons, List.length_nil]; omega))) only [evOp, putTm, E_T, E_gl, E_br, tdesc, reduceIte, reduceCtorEq, Nat.reduceAdd, Nat.reduceSub, Nat.reduceLT, Nat.reduceLeDiff, Nat.reduceEqDiff, bxm, tabs, hc1, tys]; rfl) ?_
    refine thenN ?_
    refine Wp.ret ?_
    refine thenR ?_
    obtain rfl := Option.some.inj h
    refine ⟨.inl rfl, ?_⟩
    refine Rt.of ?_
    simp (decide := true) only [evReturn, retShare, evReturn0, resAV, evLoad, ofCells, TD.isAgg, mapO, exportVs, exportV, exportL, export1, rowsOf, rowOf, innerIds, rowIds, one, closed, share, fresh1, E_T, reduceIte, reduceCtorEq, Nat.reduceAdd, Nat.reduceSub, Nat.reduceLT, Nat.reduceLeDiff, Nat.reduceEqDiff, bxm, tabs, List.map_append, f9_res, f9_rt, tys]
  · rw [if_f hc1] at h
    refine Wp.skip ?_
    refine thenN ?_
    refine Wp.seq ?_
    refine Wp.seq ?_
    refine Wp.region hU no_ok (by simp (decide := true) (disch := (first | omega | (simp only [List.length_append, List.length_map, List.length_cons, List.length_nil]; omega))) only [evOp, putTm, E_T, E_gl, E_br, tdesc, reduceIte, reduceCtorEq, Nat.reduceAdd, Nat.reduceSub, Nat.reduceLT, Nat.reduceLeDiff, Nat.reduceEqDiff, bxm, tabs, hc1, tys]; rfl) ?_
    refine thenN ?_
    refine Wp.block ?_
    obtain ⟨o2, ho2, h⟩ := bind_some h
    refine Wp.loop ?_
    refine Tw.mono (Wk.wpL (s2 := ⟨.sl (List.map (cInt .i64) a) :: .sl (List.map (cInt .i64) b) :: jj 3 (.v (.int .i64 0) :: jj 20 []), St [], none, 0⟩) ?_ (f9_l0_ok hU a b 0 o2 ho2)) (fun ex s1 hp => ?_)
    · try simp only [jjs]
      refine Wk.weak hU [] _ (by decide) ?_ ?_
      · exact .nil
      · (repeat' (first | exact WVs.nil | refine WVs.cons ?_ ?_ | (refine WVs.aggW ?_) | (refine WVs.fnW ?_ ?_))) <;> (first | exact WV.junk _ | exact WV.keep rfl | exact WV.row rfl | exact WV.nil rfl | exact WV.nilsl | exact WV.emp rfl | exact WV.empsl | exact WV.ptr rfl | (refine WV.row_eq rfl ?_; simp only [bxw, tys]) | (refine WV.view (k := 3) ?_; simp (decide := true) only [reify, share, fresh1, reduceIte, reduceCtorEq, Nat.reduceAdd, bxm, tys]) | (refine WV.eq ?_ rfl; simp only [bxw, tys]))
    · cases o2 with
      | ret r0 =>
        obtain ⟨rfl, hp⟩ := hp
        obtain rfl := Option.some.inj h
        refine blkR ?_
        refine thenR ?_
        exact ⟨.inl rfl, hp⟩
      | nxt wo2 =>
        obtain ⟨rfl, hp⟩ := hp
        dsimp only at h
        refine blkE ?_
        refine thenN ?_
        refine hp.wp ?_
        try simp only [jjs]
        refine Wp.seq ?_
        refine Wp.region hU no_ok (by simp (decide := true) (disch := (first | omega | (simp only [List.length_append, List.length_map, List.length_cons, List.length_nil]; omega))) only [evOp, putTm, E_T, E_gl, E_br, tdesc, reduceIte, reduceCtorEq, Nat.reduceAdd, Nat.reduceSub, Nat.reduceLT, Nat.reduceLeDiff, Nat.reduceEqDiff, bxm, tabs, hc1, tys]; rfl) ?_
        refine thenN ?_
        refine Wp.ret ?_
        obtain rfl := Option.some.inj h
        refine ⟨.inl rfl, ?_⟩
        refine Rt.of ?_
        simp (decide := true) only [evReturn, retShare, evReturn0, resAV, evLoad, ofCells, TD.isAgg, mapO, exportVs, exportV, exportL, export1, rowsOf, rowOf, innerIds, rowIds, one, closed, share, fresh1, E_T, reduceIte, reduceCtorEq, Nat.reduceAdd, Nat.reduceSub, Nat.reduceLT, Nat.reduceLeDiff, Nat.reduceEqDiff, bxm, tabs, List.map_append, f9_res, f9_rt, tys]

noncomputable def f9_tbl : CI := tbl 9 (fun p : (List Int) × (List Int) => [.sl (List.map (cInt .i64) p.1), .sl (List.map (cInt .i64) p.2)]) (fun p => (f9 p.1 p.2).map fun r => .v (.bool r))
theorem f9_tbl_ok {base : Nat} : CIOK E base f9_tbl := tbl_ok fun p r h => by obtain ⟨q, hq, rfl⟩ := Option.map_eq_some_iff.1 h; exact f9_ok p.1 p.2 q hq
theorem f9_call {a : List Int} {b : List Int} {r : Bool} (h : f9 a b = some r) (σ : Store) : f9_tbl 9 [.sl (List.map (cInt .i64) a), .sl (List.map (cInt .i64) b)] σ = some (.v (.bool r), σ, none) :=
  tbl_eq (x := (a, b)) (fun x y e => by
    obtain ⟨x0, x1⟩ := x; obtain ⟨y0, y1⟩ := y
    have e0 := av_sl inj_int (List.cons.inj e).1
    have e1 := av_sl inj_int (List.cons.inj (List.cons.inj e).2).1
    subst e0 e1; rfl) (by simp [h]) σ
end Go.Bx.Wind

/- sibyl/wind.marks, printed by pf.py. (Own text.) -/
namespace Go.Bx.Wind
set_option linter.unusedVariables false
set_option linter.unusedSimpArgs false
set_option linter.unusedSectionVars false
open Go.Proofs
set_option linter.unusedSimpArgs false
set_option linter.unusedVariables false
set_option maxRecDepth 10000
def f23_l0 (fs : List Frame) (out : List Mark) (v : Int) : Option ((List Mark)) :=
  if (decide (v < (fs.length : Int))) = true then
    ((rd fs v >>= fun e4 =>
    if (e4.Kind == 2) = true then
      (ap 8 out [(⟨e4.Id⟩ : Mark)] >>= fun a6 =>
      some a6)
    else
      some out : Option ((List Mark))) >>= fun o3 =>
    f23_l0 fs o3 (IntKind.i64.wrap (v + 1)))
  else
    some out
  partial_fixpoint

/-- sibyl/wind.marks -/
def f23 (fs : List Frame) : Option (List Mark) :=
  f23_l0 fs [] 0 >>= fun o1 =>
  some o1

theorem f23_res : Try.f23.results = #[.tmp 2] := rfl
theorem f23_rt : Try.f23.resultTypes = #[45] := rfl

set_option maxHeartbeats 4000000 in
theorem f23_l0_ok {base : Nat} {c00 : Ctx} (hU : Under E base c00 nilStore) (fs : List Frame) : ∀ (out : List Mark) (v : Int) (o1 : (List Mark)), f23_l0 fs out v = some o1 →
    WpL E base c00 nilStore (lb Try.f23 0) ⟨jj 3 (.row 0 1 0 ((out).length) :: jj 2 (.sl (List.map cFrame fs) :: .v (.int .i64 (fs.length : Int)) :: .v (.int .i64 v) :: jj 14 [])), St [some ⟨1, false, true, List.map cMark out⟩], none, 0⟩ (fun ex s1 => ex = .exit 0 ∧ Wk base c00 nilStore s1 ⟨jj 3 (.row 0 1 0 ((o1).length) :: jj 19 []), St [some ⟨1, false, true, List.map cMark o1⟩], none, 0⟩) := by
  refine f23_l0.partial_correctness fs (fun out v o1 => WpL E base c00 nilStore (lb Try.f23 0) ⟨jj 3 (.row 0 1 0 ((out).length) :: jj 2 (.sl (List.map cFrame fs) :: .v (.int .i64 (fs.length : Int)) :: .v (.int .i64 v) :: jj 14 [])), St [some ⟨1, false, true, List.map cMark out⟩], none, 0⟩ (fun ex s1 => ex = .exit 0 ∧ Wk base c00 nilStore s1 ⟨jj 3 (.row 0 1 0 ((o1).length) :: jj 19 []), St [some ⟨1, false, true, List.map cMark o1⟩], none, 0⟩)) ?_
  intro lp__ ih out v o1 h
  refine WpL.stepE (by simp only [Try.f23, lb, Option.getD_some, loopsOf, List.nil_append, List.append_nil, List.cons_append, List.getElem?_cons_zero, List.getElem?_cons_succ]; rfl) ?_
  try simp only [jjs]
  refine Wp.seq ?_
  refine Wp.region hU no_ok (by simp (decide := true) (disch := (first | omega | (simp only [List.length_append, List.length_map, List.length_cons, List.length_nil]; omega))) only [evOp, putTm, E_T, E_gl, E_br, tdesc, reduceIte, reduceCtorEq, Nat.reduceAdd, Nat.reduceSub, Nat.reduceLT, Nat.reduceLeDiff, Nat.reduceEqDiff, bxm, tabs, evBin, intBin, strBin, bothNil, constOp, eqCells, tys]; rfl) ?_
  refine thenN ?_
  refine Wp.seq ?_
  refine Wp.cond hU (t := decide (v < (fs.length : Int))) rfl (fun hc2 => ?_) (fun hc2 => ?_)
  · rw [if_t hc2] at h
    refine Wp.skip ?_
    refine thenN ?_
    obtain ⟨o3, ho3, h⟩ := bind_some h
    refine Wp.seq1 (JP := (fun ex s1 => ex = .nrm ∧ Wk base c00 nilStore s1 ⟨jj 3 (.row 0 1 0 ((o3).length) :: jj 2 (.sl (List.map cFrame fs) :: .v (.int .i64 (fs.length : Int)) :: .v (.int .i64 v) :: jj 14 [])), St [some ⟨1, false, true, List.map cMark o3⟩], none, 0⟩)) ?_ (fun ex s1 hp => ?_)
    · replace h := ho3
      refine Wp.block ?_
      refine Wp.seq ?_
      obtain ⟨e4, he4, h⟩ := bind_some h
      obtain ⟨he4a, he4b, he4c⟩ := rd_some he4
      refine Wp.region hU no_ok (by simp (decide := true) (disch := (first | omega | (simp only [List.length_append, List.length_map, List.length_cons, List.length_nil]; omega))) only [evOp, putTm, E_T, E_gl, E_br, tdesc, reduceIte, reduceCtorEq, Nat.reduceAdd, Nat.reduceSub, Nat.reduceLT, Nat.reduceLeDiff, Nat.reduceEqDiff, bxm, tabs, indexAddrAV, evLoad, ldV, ofCells, TD.isAgg, evStore, putAt, he4a, he4b, he4c, hc2, tys]; rfl) ?_
      refine thenN ?_
      refine Wp.seq ?_
      refine Wp.region hU no_ok (by simp (decide := true) (disch := (first | omega | (simp only [List.length_append, List.length_map, List.length_cons, List.length_nil]; omega))) only [evOp, putTm, E_T, E_gl, E_br, tdesc, reduceIte, reduceCtorEq, Nat.reduceAdd, Nat.reduceSub, Nat.reduceLT, Nat.reduceLeDiff, Nat.reduceEqDiff, bxm, tabs, fieldPlaceT, evLoad, ldV, ofCells, TD.isAgg, evBin, intBin, strBin, bothNil, constOp, eqCells, hc2, tys]; rfl) ?_
      refine thenN ?_
      refine Wp.cond hU (t := e4.Kind == 2) rfl (fun hc5 => ?_) (fun hc5 => ?_)
      · rw [if_t hc5] at h
        obtain ⟨a6, ha6, h⟩ := bind_some h
        obtain ⟨ha6a, ha6b⟩ := ap_some ha6
        try simp only [List.length_cons, List.length_nil, Nat.zero_add, Nat.add_zero, Nat.reduceAdd] at ha6a
        refine Wp.region hU no_ok (by simp (decide := true) (disch := (first | omega | (simp only [List.length_append, List.length_map, List.length_cons, List.length_nil]; omega))) only [evOp, putTm, E_T, E_gl, E_br, tdesc, reduceIte, reduceCtorEq, Nat.reduceAdd, Nat.reduceSub, Nat.reduceLT, Nat.reduceLeDiff, Nat.reduceEqDiff, bxm, tabs, fieldPlaceT, evLoad, ldV, ofCells, TD.isAgg, evA, fillL, putAt, evAppend, elems, flatOf, ha6a, hc2, hc5, tys]; rfl) ?_
        refine blkN ?_
        obtain rfl := Option.some.inj h
        refine ⟨rfl, ?_⟩
        try simp only [jjs]
        refine Wk.weak hU [some 3] _ (by decide) ?_ ?_
        · refine .obj rfl ?_ ?_
          · first | exact .same _ _ _ | (refine WO.same_eq ?_; simp only [bxw, ha6b, tys]; done)
          exact .nil
        · (repeat' (first | exact WVs.nil | refine WVs.cons ?_ ?_ | (refine WVs.aggW ?_) | (refine WVs.fnW ?_ ?_))) <;> (first | exact WV.junk _ | exact WV.keep rfl | exact WV.row rfl | exact WV.nil rfl | exact WV.nilsl | exact WV.emp rfl | exact WV.empsl | exact WV.ptr rfl | (refine WV.row_eq rfl ?_; simp only [bxw, ha6b, tys]) | (refine WV.view (k := 3) ?_; simp (decide := true) only [reify, share, fresh1, reduceIte, reduceCtorEq, Nat.reduceAdd, bxm, tys]) | (refine WV.eq ?_ rfl; simp only [bxw, ha6b, tys]))
      · rw [if_f hc5] at h
        refine Wp.skip ?_
        refine blkN ?_
        obtain rfl := Option.some.inj h
        refine ⟨rfl, ?_⟩
        try simp only [jjs]
        refine Wk.weak hU [some 0] _ (by decide) ?_ ?_
        · refine .obj rfl ?_ ?_
          · first | exact .same _ _ _ | (refine WO.same_eq ?_; simp only [bxw, tys]; done)
          exact .nil
        · (repeat' (first | exact WVs.nil | refine WVs.cons ?_ ?_ | (refine WVs.aggW ?_) | (refine WVs.fnW ?_ ?_))) <;> (first | exact WV.junk _ | exact WV.keep rfl | exact WV.row rfl | exact WV.nil rfl | exact WV.nilsl | exact WV.emp rfl | exact WV.empsl | exact WV.ptr rfl | (refine WV.row_eq rfl ?_; simp only [bxw, tys]) | (refine WV.view (k := 3) ?_; simp (decide := true) only [reify, share, fresh1, reduceIte, reduceCtorEq, Nat.reduceAdd, bxm, tys]) | (refine WV.eq ?_ rfl; simp only [bxw, tys]))
    · obtain ⟨rfl, hp⟩ := hp
      refine thenN (hp.wp ?_)
      try simp only [jjs]
      refine Wp.region hU no_ok (by simp (decide := true) (disch := (first | omega | (simp only [List.length_append, List.length_map, List.length_cons, List.length_nil]; omega))) only [evOp, putTm, E_T, E_gl, E_br, tdesc, reduceIte, reduceCtorEq, Nat.reduceAdd, Nat.reduceSub, Nat.reduceLT, Nat.reduceLeDiff, Nat.reduceEqDiff, bxm, tabs, evBin, intBin, strBin, bothNil, constOp, eqCells, hc2, tys]; rfl) ?_
      refine againN ?_
      refine Wk.wpL ?_ (ih o3 (IntKind.i64.wrap (v + 1)) _ h)
      try simp only [jjs]
      refine Wk.weak hU [some 0] _ (by decide) ?_ ?_
      · refine .obj rfl ?_ ?_
        · first | exact .same _ _ _ | (refine WO.same_eq ?_; simp only [bxw, tys]; done)
        exact .nil
      · (repeat' (first | exact WVs.nil | refine WVs.cons ?_ ?_ | (refine WVs.aggW ?_) | (refine WVs.fnW ?_ ?_))) <;> (first | exact WV.junk _ | exact WV.keep rfl | exact WV.row rfl | exact WV.nil rfl | exact WV.nilsl | exact WV.emp rfl | exact WV.empsl | exact WV.ptr rfl | (refine WV.row_eq rfl ?_; simp only [bxw, tys]) | (refine WV.view (k := 3) ?_; simp (decide := true) only [reify, share, fresh1, reduceIte, reduceCtorEq, Nat.reduceAdd, bxm, tys]) | (refine WV.eq ?_ rfl; simp only [bxw, tys]))
  · rw [if_f hc2] at h
    refine Wp.exit ?_
    refine thenE ?_
    refine againE ?_
    obtain rfl := Option.some.inj h
    refine ⟨rfl, ?_⟩
    try simp only [jjs]
    refine Wk.weak hU [some 0] _ (by decide) ?_ ?_
    · refine .obj rfl ?_ ?_
      · first | exact .same _ _ _ | (refine WO.same_eq ?_; simp only [bxw, tys]; done)
      exact .nil
    · (repeat' (first | exact WVs.nil | refine WVs.cons ?_ ?_ | (refine WVs.aggW ?_) | (refine WVs.fnW ?_ ?_))) <;> (first | exact WV.junk _ | exact WV.keep rfl | exact WV.row rfl | exact WV.nil rfl | exact WV.nilsl | exact WV.emp rfl | exact WV.empsl | exact WV.ptr rfl | (refine WV.row_eq rfl ?_; simp only [bxw, tys]) | (refine WV.view (k := 3) ?_; simp (decide := true) only [reify, share, fresh1, reduceIte, reduceCtorEq, Nat.reduceAdd, bxm, tys]) | (refine WV.eq ?_ rfl; simp only [bxw, tys]))

set_option maxHeartbeats 4000000 in
theorem f23_ok (fs : List Frame) (r : List Mark) (h : f23 fs = some r) : PureOK E 23 [.sl (List.map cFrame fs)] (.own false 1 (List.map cMark r)) := by
  unfold f23 at h
  refine pure_of_wp tabOK mixed (fn := Try.f23) (nt := 23) Try.func23 rfl rfl (names _ _ Try.func23) rfl rfl (fun _ => rfl) (fun base c00 hU => ?_)
  refine Wk.wp (s2 := ⟨.sl (List.map cFrame fs) :: jj 22 [], St [], none, 0⟩) ?_ ?_
  · refine Wk.weak hU [] _ (by decide) .nil ?_
    simp only [jjs, List.length_cons, List.length_nil, Nat.reduceAdd, Nat.reduceSub, List.replicate, List.cons_append, List.nil_append]
    repeat' (first | exact WVs.nil | refine WVs.cons ?_ ?_)
    all_goals first | exact WV.junk _ | exact WV.keep rfl | exact .agg rfl (aggKeep rfl)
  try simp only [jjs]
  refine Wp.seq ?_
  refine Wp.region hU no_ok (by simp (decide := true) (disch := (first | omega | (simp only [List.length_append, List.length_map, List.length_cons, List.length_nil]; omega))) only [evOp, putTm, E_T, E_gl, E_br, tdesc, reduceIte, reduceCtorEq, Nat.reduceAdd, Nat.reduceSub, Nat.reduceLT, Nat.reduceLeDiff, Nat.reduceEqDiff, bxm, tabs, tys]; rfl) ?_
  refine thenN ?_
  refine Wp.seq ?_
  refine Wp.region hU no_ok (by simp (decide := true) (disch := (first | omega | (simp only [List.length_append, List.length_map, List.length_cons, List.length_nil]; omega))) only [evOp, putTm, E_T, E_gl, E_br, tdesc, reduceIte, reduceCtorEq, Nat.reduceAdd, Nat.reduceSub, Nat.reduceLT, Nat.reduceLeDiff, Nat.reduceEqDiff, bxm, tabs, tys]; rfl) ?_
  refine thenN ?_
  refine Wp.seq ?_
  refine Wp.seq ?_
  refine Wp.region hU no_ok (by simp (decide := true) (disch := (first | omega | (simp only [List.length_append, List.length_map, List.length_cons, List.length_nil]; omega))) only [evOp, putTm, E_T, E_gl, E_br, tdesc, reduceIte, reduceCtorEq, Nat.reduceAdd, Nat.reduceSub, Nat.reduceLT, Nat.reduceLeDiff, Nat.reduceEqDiff, bxm, tabs, evA, lenAV, tys]; rfl) ?_
  refine thenN ?_
  refine Wp.block ?_
  obtain ⟨o1, ho1, h⟩ := bind_some h
  refine Wp.loop ?_
  refine Tw.mono (Wk.wpL (s2 := ⟨jj 3 (.row 0 1 0 (([]).length) :: jj 2 (.sl (List.map cFrame fs) :: .v (.int .i64 (fs.length : Int)) :: .v (.int .i64 0) :: jj 14 [])), St [some ⟨1, false, true, List.map cMark []⟩], none, 0⟩) ?_ (f23_l0_ok hU fs [] 0 o1 ho1)) (fun ex s1 hp => ?_)
  · try simp only [jjs]
    refine Wk.weak hU [none] _ (by decide) ?_ ?_
    · refine .virt ?_
      exact .nil
    · (repeat' (first | exact WVs.nil | refine WVs.cons ?_ ?_ | (refine WVs.aggW ?_) | (refine WVs.fnW ?_ ?_))) <;> (first | exact WV.junk _ | exact WV.keep rfl | exact WV.row rfl | exact WV.nil rfl | exact WV.nilsl | exact WV.emp rfl | exact WV.empsl | exact WV.ptr rfl | (refine WV.row_eq rfl ?_; simp only [bxw, tys]) | (refine WV.view (k := 3) ?_; simp (decide := true) only [reify, share, fresh1, reduceIte, reduceCtorEq, Nat.reduceAdd, bxm, tys]) | (refine WV.eq ?_ rfl; simp only [bxw, tys]))
  · obtain ⟨rfl, hp⟩ := hp
    refine blkE ?_
    refine thenN ?_
    refine hp.wp ?_
    try simp only [jjs]
    refine Wp.seq ?_
    refine Wp.region hU no_ok (by simp (decide := true) (disch := (first | omega | (simp only [List.length_append, List.length_map, List.length_cons, List.length_nil]; omega))) only [evOp, putTm, E_T, E_gl, E_br, tdesc, reduceIte, reduceCtorEq, Nat.reduceAdd, Nat.reduceSub, Nat.reduceLT, Nat.reduceLeDiff, Nat.reduceEqDiff, bxm, tabs, tys]; rfl) ?_
    refine thenN ?_
    refine Wp.ret ?_
    obtain rfl := Option.some.inj h
    refine ⟨.inl rfl, ?_⟩
    refine Rt.of ?_
    simp (decide := true) only [evReturn, retShare, evReturn0, resAV, evLoad, ofCells, TD.isAgg, mapO, exportVs, exportV, exportL, export1, rowsOf, rowOf, innerIds, rowIds, one, closed, share, fresh1, E_T, reduceIte, reduceCtorEq, Nat.reduceAdd, Nat.reduceSub, Nat.reduceLT, Nat.reduceLeDiff, Nat.reduceEqDiff, bxm, tabs, List.map_append, f23_res, f23_rt, tys]

noncomputable def f23_tbl : CI := tbl 23 (fun p : (List Frame) => [.sl (List.map cFrame p)]) (fun p => (f23 p).map fun r => .own false 1 (List.map cMark r))
theorem f23_tbl_ok {base : Nat} : CIOK E base f23_tbl := tbl_ok fun p r h => by obtain ⟨q, hq, rfl⟩ := Option.map_eq_some_iff.1 h; exact f23_ok p q hq
theorem f23_call {fs : List Frame} {r : List Mark} (h : f23 fs = some r) (σ : Store) : f23_tbl 23 [.sl (List.map cFrame fs)] σ = some (.own false 1 (List.map cMark r), σ, none) :=
  tbl_eq (x := (fs)) (fun x y e => by
    exact av_sl injFrame (List.cons.inj e).1) (by simp [h]) σ
end Go.Bx.Wind

/- sibyl/wind.Winds, printed by pf.py. (Own text.) -/
namespace Go.Bx.Wind
set_option linter.unusedVariables false
set_option linter.unusedSimpArgs false
set_option linter.unusedSectionVars false
open Go.Proofs
set_option linter.unusedSimpArgs false
set_option linter.unusedVariables false
set_option maxRecDepth 10000
def f10_l0 (r1 : List Mark) (out : List Int) (v : Int) : Option ((List Int)) :=
  if (decide (v < (r1.length : Int))) = true then
    (rd r1 v >>= fun e4 =>
    ap 8 out [e4.id] >>= fun a5 =>
    f10_l0 r1 a5 (IntKind.i64.wrap (v + 1)))
  else
    some out
  partial_fixpoint

/-- sibyl/wind.Winds -/
def f10 (fs : List Frame) : Option (List Int) :=
  f23 fs >>= fun r1 =>
  f10_l0 r1 [] 0 >>= fun o2 =>
  some o2

noncomputable def f10_ci : CI := (CI.or 23 f23_tbl (fun _ _ _ => none))
theorem f10_ci_ok (base : Nat) : CIOK E base f10_ci := (or_ok f23_tbl_ok no_ok)
theorem f10_res : Try.f10.results = #[.tmp 2] := rfl
theorem f10_rt : Try.f10.resultTypes = #[25] := rfl

set_option maxHeartbeats 4000000 in
theorem f10_l0_ok {base : Nat} {c00 : Ctx} (hU : Under E base c00 nilStore) (r1 : List Mark) : ∀ (out : List Int) (v : Int) (o2 : (List Int)), f10_l0 r1 out v = some o2 →
    WpL E base c00 nilStore (lb Try.f10 0) ⟨jj 3 (.row 0 1 0 ((out).length) :: jj 3 (.row 1 1 0 ((r1).length) :: .v (.int .i64 (r1.length : Int)) :: .v (.int .i64 v) :: jj 10 [])), St [some ⟨1, false, true, List.map (cInt .i64) out⟩, some ⟨1, false, true, List.map cMark r1⟩], none, 0⟩ (fun ex s1 => ex = .exit 0 ∧ Wk base c00 nilStore s1 ⟨jj 3 (.row 0 1 0 ((o2).length) :: jj 16 []), St [some ⟨1, false, true, List.map (cInt .i64) o2⟩], none, 0⟩) := by
  refine f10_l0.partial_correctness r1 (fun out v o2 => WpL E base c00 nilStore (lb Try.f10 0) ⟨jj 3 (.row 0 1 0 ((out).length) :: jj 3 (.row 1 1 0 ((r1).length) :: .v (.int .i64 (r1.length : Int)) :: .v (.int .i64 v) :: jj 10 [])), St [some ⟨1, false, true, List.map (cInt .i64) out⟩, some ⟨1, false, true, List.map cMark r1⟩], none, 0⟩ (fun ex s1 => ex = .exit 0 ∧ Wk base c00 nilStore s1 ⟨jj 3 (.row 0 1 0 ((o2).length) :: jj 16 []), St [some ⟨1, false, true, List.map (cInt .i64) o2⟩], none, 0⟩)) ?_
  intro lp__ ih out v o2 h
  refine WpL.stepE (by simp only [Try.f10, lb, Option.getD_some, loopsOf, List.nil_append, List.append_nil, List.cons_append, List.getElem?_cons_zero, List.getElem?_cons_succ]; rfl) ?_
  try simp only [jjs]
  refine Wp.seq ?_
  refine Wp.region hU (f10_ci_ok _) (by simp (decide := true) (disch := (first | omega | (simp only [List.length_append, List.length_map, List.length_cons, List.length_nil]; omega))) only [evOp, putTm, E_T, E_gl, E_br, tdesc, reduceIte, reduceCtorEq, Nat.reduceAdd, Nat.reduceSub, Nat.reduceLT, Nat.reduceLeDiff, Nat.reduceEqDiff, bxm, tabs, evBin, intBin, strBin, bothNil, constOp, eqCells, tys]; rfl) ?_
  refine thenN ?_
  refine Wp.seq ?_
  refine Wp.cond hU (t := decide (v < (r1.length : Int))) rfl (fun hc3 => ?_) (fun hc3 => ?_)
  · rw [if_t hc3] at h
    refine Wp.skip ?_
    refine thenN ?_
    refine Wp.seq ?_
    refine Wp.block ?_
    refine Wp.seq ?_
    obtain ⟨e4, he4, h⟩ := bind_some h
    obtain ⟨he4a, he4b, he4c⟩ := rd_some he4
    refine Wp.region hU (f10_ci_ok _) (by simp (decide := true) (disch := (first | omega | (simp only [List.length_append, List.length_map, List.length_cons, List.length_nil]; omega))) only [evOp, putTm, E_T, E_gl, E_br, tdesc, reduceIte, reduceCtorEq, Nat.reduceAdd, Nat.reduceSub, Nat.reduceLT, Nat.reduceLeDiff, Nat.reduceEqDiff, bxm, tabs, indexAddrAV, evLoad, ldV, ofCells, TD.isAgg, evStore, putAt, he4a, he4b, he4c, hc3, tys]; rfl) ?_
    refine thenN ?_
    obtain ⟨a5, ha5, h⟩ := bind_some h
    obtain ⟨ha5a, ha5b⟩ := ap_some ha5
    try simp only [List.length_cons, List.length_nil, Nat.zero_add, Nat.add_zero, Nat.reduceAdd] at ha5a
    refine Wp.region hU (f10_ci_ok _) (by simp (decide := true) (disch := (first | omega | (simp only [List.length_append, List.length_map, List.length_cons, List.length_nil]; omega))) only [evOp, putTm, E_T, E_gl, E_br, tdesc, reduceIte, reduceCtorEq, Nat.reduceAdd, Nat.reduceSub, Nat.reduceLT, Nat.reduceLeDiff, Nat.reduceEqDiff, bxm, tabs, fieldPlaceT, evLoad, ldV, ofCells, TD.isAgg, evA, evAppend, elems, flatOf, ha5a, hc3, tys]; rfl) ?_
    refine blkN ?_
    refine thenN ?_
    refine Wk.wp (s2 := ⟨jj 3 (.row 0 1 0 ((a5).length) :: jj 3 (.row 1 1 0 ((r1).length) :: .v (.int .i64 (r1.length : Int)) :: .v (.int .i64 v) :: jj 10 [])), St [some ⟨1, false, true, List.map (cInt .i64) a5⟩, some ⟨1, false, true, List.map cMark r1⟩], none, 0⟩) ?_ ?_
    · try simp only [jjs]
      refine Wk.weak hU [some 4, some 1] _ (by decide) ?_ ?_
      · refine .obj rfl ?_ ?_
        · first | exact .same _ _ _ | (refine WO.same_eq ?_; simp only [bxw, ha5b, tys]; done)
        refine .obj rfl ?_ ?_
        · first | exact .same _ _ _ | (refine WO.same_eq ?_; simp only [bxw, ha5b, tys]; done)
        exact .nil
      · (repeat' (first | exact WVs.nil | refine WVs.cons ?_ ?_ | (refine WVs.aggW ?_) | (refine WVs.fnW ?_ ?_))) <;> (first | exact WV.junk _ | exact WV.keep rfl | exact WV.row rfl | exact WV.nil rfl | exact WV.nilsl | exact WV.emp rfl | exact WV.empsl | exact WV.ptr rfl | (refine WV.row_eq rfl ?_; simp only [bxw, ha5b, tys]) | (refine WV.view (k := 3) ?_; simp (decide := true) only [reify, share, fresh1, reduceIte, reduceCtorEq, Nat.reduceAdd, bxm, tys]) | (refine WV.eq ?_ rfl; simp only [bxw, ha5b, tys]))
    try simp only [jjs]
    refine Wp.region hU (f10_ci_ok _) (by simp (decide := true) (disch := (first | omega | (simp only [List.length_append, List.length_map, List.length_cons, List.length_nil]; omega))) only [evOp, putTm, E_T, E_gl, E_br, tdesc, reduceIte, reduceCtorEq, Nat.reduceAdd, Nat.reduceSub, Nat.reduceLT, Nat.reduceLeDiff, Nat.reduceEqDiff, bxm, tabs, evBin, intBin, strBin, bothNil, constOp, eqCells, hc3, tys]; rfl) ?_
    refine againN ?_
    refine Wk.wpL ?_ (ih a5 (IntKind.i64.wrap (v + 1)) _ h)
    try simp only [jjs]
    refine Wk.weak hU [some 0, some 1] _ (by decide) ?_ ?_
    · refine .obj rfl ?_ ?_
      · first | exact .same _ _ _ | (refine WO.same_eq ?_; simp only [bxw, ha5b, tys]; done)
      refine .obj rfl ?_ ?_
      · first | exact .same _ _ _ | (refine WO.same_eq ?_; simp only [bxw, ha5b, tys]; done)
      exact .nil
    · (repeat' (first | exact WVs.nil | refine WVs.cons ?_ ?_ | (refine WVs.aggW ?_) | (refine WVs.fnW ?_ ?_))) <;> (first | exact WV.junk _ | exact WV.keep rfl | exact WV.row rfl | exact WV.nil rfl | exact WV.nilsl | exact WV.emp rfl | exact WV.empsl | exact WV.ptr rfl | (refine WV.row_eq rfl ?_; simp only [bxw, ha5b, tys]) | (refine WV.view (k := 3) ?_; simp (decide := true) only [reify, share, fresh1, reduceIte, reduceCtorEq, Nat.reduceAdd, bxm, tys]) | (refine WV.eq ?_ rfl; simp only [bxw, ha5b, tys]))
  · rw [if_f hc3] at h
    refine Wp.exit ?_
    refine thenE ?_
    refine againE ?_
    obtain rfl := Option.some.inj h
    refine ⟨rfl, ?_⟩
    try simp only [jjs]
    refine Wk.weak hU [some 0] _ (by decide) ?_ ?_
    · refine .obj rfl ?_ ?_
      · first | exact .same _ _ _ | (refine WO.same_eq ?_; simp only [bxw, tys]; done)
      exact .nil
    · (repeat' (first | exact WVs.nil | refine WVs.cons ?_ ?_ | (refine WVs.aggW ?_) | (refine WVs.fnW ?_ ?_))) <;> (first | exact WV.junk _ | exact WV.keep rfl | exact WV.row rfl | exact WV.nil rfl | exact WV.nilsl | exact WV.emp rfl | exact WV.empsl | exact WV.ptr rfl | (refine WV.row_eq rfl ?_; simp only [bxw, tys]) | (refine WV.view (k := 3) ?_; simp (decide := true) only [reify, share, fresh1, reduceIte, reduceCtorEq, Nat.reduceAdd, bxm, tys]) | (refine WV.eq ?_ rfl; simp only [bxw, tys]))

set_option maxHeartbeats 4000000 in
theorem f10_ok (fs : List Frame) (r : List Int) (h : f10 fs = some r) : PureOK E 10 [.sl (List.map cFrame fs)] (.own false 1 (List.map (cInt .i64) r)) := by
  unfold f10 at h
  refine pure_of_wp tabOK mixed (fn := Try.f10) (nt := 20) Try.func10 rfl rfl (names _ _ Try.func10) rfl rfl (fun _ => rfl) (fun base c00 hU => ?_)
  refine Wk.wp (s2 := ⟨.sl (List.map cFrame fs) :: jj 19 [], St [], none, 0⟩) ?_ ?_
  · refine Wk.weak hU [] _ (by decide) .nil ?_
    simp only [jjs, List.length_cons, List.length_nil, Nat.reduceAdd, Nat.reduceSub, List.replicate, List.cons_append, List.nil_append]
    repeat' (first | exact WVs.nil | refine WVs.cons ?_ ?_)
    all_goals first | exact WV.junk _ | exact WV.keep rfl | exact .agg rfl (aggKeep rfl)
  try simp only [jjs]
  refine Wp.seq ?_
  refine Wp.region hU (f10_ci_ok _) (by simp (decide := true) (disch := (first | omega | (simp only [List.length_append, List.length_map, List.length_cons, List.length_nil]; omega))) only [evOp, putTm, E_T, E_gl, E_br, tdesc, reduceIte, reduceCtorEq, Nat.reduceAdd, Nat.reduceSub, Nat.reduceLT, Nat.reduceLeDiff, Nat.reduceEqDiff, bxm, tabs, tys]; rfl) ?_
  refine thenN ?_
  refine Wp.seq ?_
  refine Wp.region hU (f10_ci_ok _) (by simp (decide := true) (disch := (first | omega | (simp only [List.length_append, List.length_map, List.length_cons, List.length_nil]; omega))) only [evOp, putTm, E_T, E_gl, E_br, tdesc, reduceIte, reduceCtorEq, Nat.reduceAdd, Nat.reduceSub, Nat.reduceLT, Nat.reduceLeDiff, Nat.reduceEqDiff, bxm, tabs, tys]; rfl) ?_
  refine thenN ?_
  refine Wp.seq ?_
  refine Wp.seq ?_
  obtain ⟨r1, hr1, h⟩ := bind_some h
  have hr1c : ∀ σ, f10_ci 23 [.sl (List.map cFrame fs)] σ = some (.own false 1 (List.map cMark r1), σ, none) := fun σ => f23_call hr1 σ
  refine Wp.region hU (f10_ci_ok _) (by simp (decide := true) (disch := (first | omega | (simp only [List.length_append, List.length_map, List.length_cons, List.length_nil]; omega))) only [evOp, putTm, E_T, E_gl, E_br, tdesc, reduceIte, reduceCtorEq, Nat.reduceAdd, Nat.reduceSub, Nat.reduceLT, Nat.reduceLeDiff, Nat.reduceEqDiff, bxm, tabs, evCall, mapO, importL, import2L, import1, import2, share, fresh1, freshL, evA, lenAV, hr1c, tys]; rfl) ?_
  refine thenN ?_
  refine Wp.block ?_
  obtain ⟨o2, ho2, h⟩ := bind_some h
  refine Wp.loop ?_
  refine Tw.mono (Wk.wpL (s2 := ⟨jj 3 (.row 0 1 0 (([]).length) :: jj 3 (.row 1 1 0 ((r1).length) :: .v (.int .i64 (r1.length : Int)) :: .v (.int .i64 0) :: jj 10 [])), St [some ⟨1, false, true, List.map (cInt .i64) []⟩, some ⟨1, false, true, List.map cMark r1⟩], none, 0⟩) ?_ (f10_l0_ok hU r1 [] 0 o2 ho2)) (fun ex s1 hp => ?_)
  · try simp only [jjs]
    refine Wk.weak hU [none, some 0] _ (by decide) ?_ ?_
    · refine .virt ?_
      refine .obj rfl ?_ ?_
      · first | exact .same _ _ _ | (refine WO.same_eq ?_; simp only [bxw, tys]; done)
      exact .nil
    · (repeat' (first | exact WVs.nil | refine WVs.cons ?_ ?_ | (refine WVs.aggW ?_) | (refine WVs.fnW ?_ ?_))) <;> (first | exact WV.junk _ | exact WV.keep rfl | exact WV.row rfl | exact WV.nil rfl | exact WV.nilsl | exact WV.emp rfl | exact WV.empsl | exact WV.ptr rfl | (refine WV.row_eq rfl ?_; simp only [bxw, tys]) | (refine WV.view (k := 3) ?_; simp (decide := true) only [reify, share, fresh1, reduceIte, reduceCtorEq, Nat.reduceAdd, bxm, tys]) | (refine WV.eq ?_ rfl; simp only [bxw, tys]))
  · obtain ⟨rfl, hp⟩ := hp
    refine blkE ?_
    refine thenN ?_
    refine hp.wp ?_
    try simp only [jjs]
    refine Wp.seq ?_
    refine Wp.region hU (f10_ci_ok _) (by simp (decide := true) (disch := (first | omega | (simp only [List.length_append, List.length_map, List.length_cons, List.length_nil]; omega))) only [evOp, putTm, E_T, E_gl, E_br, tdesc, reduceIte, reduceCtorEq, Nat.reduceAdd, Nat.reduceSub, Nat.reduceLT, Nat.reduceLeDiff, Nat.reduceEqDiff, bxm, tabs, tys]; rfl) ?_
    refine thenN ?_
    refine Wp.ret ?_
    obtain rfl := Option.some.inj h
    refine ⟨.inl rfl, ?_⟩
    refine Rt.of ?_
    simp (decide := true) only [evReturn, retShare, evReturn0, resAV, evLoad, ofCells, TD.isAgg, mapO, exportVs, exportV, exportL, export1, rowsOf, rowOf, innerIds, rowIds, one, closed, share, fresh1, E_T, reduceIte, reduceCtorEq, Nat.reduceAdd, Nat.reduceSub, Nat.reduceLT, Nat.reduceLeDiff, Nat.reduceEqDiff, bxm, tabs, List.map_append, f10_res, f10_rt, tys]

noncomputable def f10_tbl : CI := tbl 10 (fun p : (List Frame) => [.sl (List.map cFrame p)]) (fun p => (f10 p).map fun r => .own false 1 (List.map (cInt .i64) r))
theorem f10_tbl_ok {base : Nat} : CIOK E base f10_tbl := tbl_ok fun p r h => by obtain ⟨q, hq, rfl⟩ := Option.map_eq_some_iff.1 h; exact f10_ok p q hq
theorem f10_call {fs : List Frame} {r : List Int} (h : f10 fs = some r) (σ : Store) : f10_tbl 10 [.sl (List.map cFrame fs)] σ = some (.own false 1 (List.map (cInt .i64) r), σ, none) :=
  tbl_eq (x := (fs)) (fun x y e => by
    exact av_sl injFrame (List.cons.inj e).1) (by simp [h]) σ
end Go.Bx.Wind

/- sibyl/wind.common, printed by pf.py. (Own text.) -/
namespace Go.Bx.Wind
set_option linter.unusedVariables false
set_option linter.unusedSimpArgs false
set_option linter.unusedSectionVars false
open Go.Proofs
set_option linter.unusedSimpArgs false
set_option linter.unusedVariables false
set_option maxRecDepth 10000
def f24_l0 (a : List Mark) (b : List Mark) (n : Int) : Option (Int) :=
  if (decide (n < (if (b.length : Int) < (a.length : Int) then (b.length : Int) else (a.length : Int)))) = true then
    (rd a n >>= fun e2 =>
    rd b n >>= fun e3 =>
    if (e2.id == e3.id) = true then
      (f24_l0 a b (IntKind.i64.wrap (n + 1)))
    else
      some n)
  else
    some n
  partial_fixpoint

/-- sibyl/wind.common -/
def f24 (a : List Mark) (b : List Mark) : Option (Int) :=
  f24_l0 a b 0 >>= fun o1 =>
  some o1

theorem f24_res : Try.f24.results = #[.tmp 4] := rfl
theorem f24_rt : Try.f24.resultTypes = #[3] := rfl

set_option maxHeartbeats 4000000 in
theorem f24_l0_ok {base : Nat} {c00 : Ctx} (hU : Under E base c00 nilStore) (a : List Mark) (b : List Mark) : ∀ (n : Int) (o1 : Int), f24_l0 a b n = some o1 →
    WpL E base c00 nilStore (lb Try.f24 0) ⟨.sl (List.map cMark a) :: .sl (List.map cMark b) :: jj 3 (.v (.int .i64 n) :: jj 21 []), St [], none, 0⟩ (fun ex s1 => ex = .exit 0 ∧ Wk base c00 nilStore s1 ⟨jj 5 (.v (.int .i64 o1) :: jj 21 []), St [], none, 0⟩) := by
  refine f24_l0.partial_correctness a b (fun n o1 => WpL E base c00 nilStore (lb Try.f24 0) ⟨.sl (List.map cMark a) :: .sl (List.map cMark b) :: jj 3 (.v (.int .i64 n) :: jj 21 []), St [], none, 0⟩ (fun ex s1 => ex = .exit 0 ∧ Wk base c00 nilStore s1 ⟨jj 5 (.v (.int .i64 o1) :: jj 21 []), St [], none, 0⟩)) ?_
  intro lp__ ih n o1 h
  refine WpL.stepE (by simp only [Try.f24, lb, Option.getD_some, loopsOf, List.nil_append, List.append_nil, List.cons_append, List.getElem?_cons_zero, List.getElem?_cons_succ]; rfl) ?_
  try simp only [jjs]
  refine Wp.seq ?_
  refine Wp.seq ?_
  rcases Bool.eq_false_or_eq_true (decide (n < (if (b.length : Int) < (a.length : Int) then (b.length : Int) else (a.length : Int)))) with hg18 | hg18
  · rw [if_t hg18] at h
    obtain ⟨e2, he2, h⟩ := bind_some h
    obtain ⟨he2a, he2b, he2c⟩ := rd_some he2
    obtain ⟨e3, he3, h⟩ := bind_some h
    obtain ⟨he3a, he3b, he3c⟩ := rd_some he3
    refine Wp.region hU no_ok (by simp (decide := true) (disch := (first | omega | (simp only [List.length_append, List.length_map, List.length_cons, List.length_nil]; omega))) only [evOp, putTm, E_T, E_gl, E_br, tdesc, reduceIte, reduceCtorEq, Nat.reduceAdd, Nat.reduceSub, Nat.reduceLT, Nat.reduceLeDiff, Nat.reduceEqDiff, bxm, tabs, evA, lenAV, evBin, intBin, strBin, bothNil, constOp, eqCells, indexAddrAV, evLoad, ldV, ofCells, TD.isAgg, he2a, he2b, he2c, he3a, he3b, he3c, hg18, tys]; rfl) ?_
    refine thenN ?_
    refine Wp.cond hU (t := e2.id == e3.id) rfl (fun hc4 => ?_) (fun hc4 => ?_)
    · rw [if_t hc4] at h
      refine Wp.skip ?_
      refine thenN ?_
      refine Wp.block ?_
      refine Wp.region hU no_ok (by simp (decide := true) (disch := (first | omega | (simp only [List.length_append, List.length_map, List.length_cons, List.length_nil]; omega))) only [evOp, putTm, E_T, E_gl, E_br, tdesc, reduceIte, reduceCtorEq, Nat.reduceAdd, Nat.reduceSub, Nat.reduceLT, Nat.reduceLeDiff, Nat.reduceEqDiff, bxm, tabs, evBin, intBin, strBin, bothNil, constOp, eqCells, hg18, hc4, tys]; rfl) ?_
      refine blkN ?_
      refine againN ?_
      refine Wk.wpL ?_ (ih (IntKind.i64.wrap (n + 1)) _ h)
      try simp only [jjs]
      refine Wk.weak hU [] _ (by decide) ?_ ?_
      · exact .nil
      · (repeat' (first | exact WVs.nil | refine WVs.cons ?_ ?_ | (refine WVs.aggW ?_) | (refine WVs.fnW ?_ ?_))) <;> (first | exact WV.junk _ | exact WV.keep rfl | exact WV.row rfl | exact WV.nil rfl | exact WV.nilsl | exact WV.emp rfl | exact WV.empsl | exact WV.ptr rfl | (refine WV.row_eq rfl ?_; simp only [bxw, tys]) | (refine WV.view (k := 3) ?_; simp (decide := true) only [reify, share, fresh1, reduceIte, reduceCtorEq, Nat.reduceAdd, bxm, tys]) | (refine WV.eq ?_ rfl; simp only [bxw, tys]))
    · rw [if_f hc4] at h
      refine Wp.exit ?_
      refine thenE ?_
      refine againE ?_
      obtain rfl := Option.some.inj h
      refine ⟨rfl, ?_⟩
      try simp only [jjs]
      refine Wk.weak hU [] _ (by decide) ?_ ?_
      · exact .nil
      · (repeat' (first | exact WVs.nil | refine WVs.cons ?_ ?_ | (refine WVs.aggW ?_) | (refine WVs.fnW ?_ ?_))) <;> (first | exact WV.junk _ | exact WV.keep rfl | exact WV.row rfl | exact WV.nil rfl | exact WV.nilsl | exact WV.emp rfl | exact WV.empsl | exact WV.ptr rfl | (refine WV.row_eq rfl ?_; simp only [bxw, tys]) | (refine WV.view (k := 3) ?_; simp (decide := true) only [reify, share, fresh1, reduceIte, reduceCtorEq, Nat.reduceAdd, bxm, tys]) | (refine WV.eq ?_ rfl; simp only [bxw, tys]))
  · rw [if_f hg18] at h
    refine Wp.region hU no_ok (by simp (decide := true) (disch := (first | omega | (simp only [List.length_append, List.length_map, List.length_cons, List.length_nil]; omega))) only [evOp, putTm, E_T, E_gl, E_br, tdesc, reduceIte, reduceCtorEq, Nat.reduceAdd, Nat.reduceSub, Nat.reduceLT, Nat.reduceLeDiff, Nat.reduceEqDiff, bxm, tabs, evA, lenAV, evBin, intBin, strBin, bothNil, constOp, eqCells, indexAddrAV, evLoad, ldV, ofCells, TD.isAgg, hg18, tys]; rfl) ?_
    refine thenN ?_
    refine Wp.cond hU (t := false) rfl (fun hc => by cases hc) (fun _ => ?_)
    refine Wp.exit ?_
    refine thenE ?_
    refine againE ?_
    obtain rfl := Option.some.inj h
    refine ⟨rfl, ?_⟩
    try simp only [jjs]
    refine Wk.weak hU [] _ (by decide) ?_ ?_
    · exact .nil
    · (repeat' (first | exact WVs.nil | refine WVs.cons ?_ ?_ | (refine WVs.aggW ?_) | (refine WVs.fnW ?_ ?_))) <;> (first | exact WV.junk _ | exact WV.keep rfl | exact WV.row rfl | exact WV.nil rfl | exact WV.nilsl | exact WV.emp rfl | exact WV.empsl | exact WV.ptr rfl | (refine WV.row_eq rfl ?_; simp only [bxw, tys]) | (refine WV.view (k := 3) ?_; simp (decide := true) only [reify, share, fresh1, reduceIte, reduceCtorEq, Nat.reduceAdd, bxm, tys]) | (refine WV.eq ?_ rfl; simp only [bxw, tys]))

set_option maxHeartbeats 4000000 in
theorem f24_ok (a : List Mark) (b : List Mark) (r : Int) (h : f24 a b = some r) : PureOK E 24 [.sl (List.map cMark a), .sl (List.map cMark b)] (.v (.int .i64 r)) := by
  unfold f24 at h
  refine pure_of_wp tabOK mixed (fn := Try.f24) (nt := 27) Try.func24 rfl rfl (names _ _ Try.func24) rfl rfl (fun _ => rfl) (fun base c00 hU => ?_)
  refine Wk.wp (s2 := ⟨.sl (List.map cMark a) :: .sl (List.map cMark b) :: jj 25 [], St [], none, 0⟩) ?_ ?_
  · refine Wk.weak hU [] _ (by decide) .nil ?_
    simp only [jjs, List.length_cons, List.length_nil, Nat.reduceAdd, Nat.reduceSub, List.replicate, List.cons_append, List.nil_append]
    repeat' (first | exact WVs.nil | refine WVs.cons ?_ ?_)
    all_goals first | exact WV.junk _ | exact WV.keep rfl | exact .agg rfl (aggKeep rfl)
  try simp only [jjs]
  refine Wp.seq ?_
  refine Wp.region hU no_ok (by simp (decide := true) (disch := (first | omega | (simp only [List.length_append, List.length_map, List.length_cons, List.length_nil]; omega))) only [evOp, putTm, E_T, E_gl, E_br, tdesc, reduceIte, reduceCtorEq, Nat.reduceAdd, Nat.reduceSub, Nat.reduceLT, Nat.reduceLeDiff, Nat.reduceEqDiff, bxm, tabs, tys]; rfl) ?_
  refine thenN ?_
  refine Wp.seq ?_
  refine Wp.region hU no_ok (by simp (decide := true) (disch := (first | omega | (simp only [List.length_append, List.length_map, List.length_cons, List.length_nil]; omega))) only [evOp, putTm, E_T, E_gl, E_br, tdesc, reduceIte, reduceCtorEq, Nat.reduceAdd, Nat.reduceSub, Nat.reduceLT, Nat.reduceLeDiff, Nat.reduceEqDiff, bxm, tabs, tys]; rfl) ?_
  refine thenN ?_
  refine Wp.seq ?_
  refine Wp.block ?_
  obtain ⟨o1, ho1, h⟩ := bind_some h
  refine Wp.loop ?_
  refine Tw.mono (Wk.wpL (s2 := ⟨.sl (List.map cMark a) :: .sl (List.map cMark b) :: jj 3 (.v (.int .i64 0) :: jj 21 []), St [], none, 0⟩) ?_ (f24_l0_ok hU a b 0 o1 ho1)) (fun ex s1 hp => ?_)
  · try simp only [jjs]
    refine Wk.weak hU [] _ (by decide) ?_ ?_
    · exact .nil
    · (repeat' (first | exact WVs.nil | refine WVs.cons ?_ ?_ | (refine WVs.aggW ?_) | (refine WVs.fnW ?_ ?_))) <;> (first | exact WV.junk _ | exact WV.keep rfl | exact WV.row rfl | exact WV.nil rfl | exact WV.nilsl | exact WV.emp rfl | exact WV.empsl | exact WV.ptr rfl | (refine WV.row_eq rfl ?_; simp only [bxw, tys]) | (refine WV.view (k := 3) ?_; simp (decide := true) only [reify, share, fresh1, reduceIte, reduceCtorEq, Nat.reduceAdd, bxm, tys]) | (refine WV.eq ?_ rfl; simp only [bxw, tys]))
  · obtain ⟨rfl, hp⟩ := hp
    refine blkE ?_
    refine thenN ?_
    refine hp.wp ?_
    try simp only [jjs]
    refine Wp.seq ?_
    refine Wp.region hU no_ok (by simp (decide := true) (disch := (first | omega | (simp only [List.length_append, List.length_map, List.length_cons, List.length_nil]; omega))) only [evOp, putTm, E_T, E_gl, E_br, tdesc, reduceIte, reduceCtorEq, Nat.reduceAdd, Nat.reduceSub, Nat.reduceLT, Nat.reduceLeDiff, Nat.reduceEqDiff, bxm, tabs, tys]; rfl) ?_
    refine thenN ?_
    refine Wp.ret ?_
    obtain rfl := Option.some.inj h
    refine ⟨.inl rfl, ?_⟩
    refine Rt.of ?_
    simp (decide := true) only [evReturn, retShare, evReturn0, resAV, evLoad, ofCells, TD.isAgg, mapO, exportVs, exportV, exportL, export1, rowsOf, rowOf, innerIds, rowIds, one, closed, share, fresh1, E_T, reduceIte, reduceCtorEq, Nat.reduceAdd, Nat.reduceSub, Nat.reduceLT, Nat.reduceLeDiff, Nat.reduceEqDiff, bxm, tabs, List.map_append, f24_res, f24_rt, tys]

noncomputable def f24_tbl : CI := tbl 24 (fun p : (List Mark) × (List Mark) => [.sl (List.map cMark p.1), .sl (List.map cMark p.2)]) (fun p => (f24 p.1 p.2).map fun r => .v (.int .i64 r))
theorem f24_tbl_ok {base : Nat} : CIOK E base f24_tbl := tbl_ok fun p r h => by obtain ⟨q, hq, rfl⟩ := Option.map_eq_some_iff.1 h; exact f24_ok p.1 p.2 q hq
theorem f24_call {a : List Mark} {b : List Mark} {r : Int} (h : f24 a b = some r) (σ : Store) : f24_tbl 24 [.sl (List.map cMark a), .sl (List.map cMark b)] σ = some (.v (.int .i64 r), σ, none) :=
  tbl_eq (x := (a, b)) (fun x y e => by
    obtain ⟨x0, x1⟩ := x; obtain ⟨y0, y1⟩ := y
    have e0 := av_sl injMark (List.cons.inj e).1
    have e1 := av_sl injMark (List.cons.inj (List.cons.inj e).2).1
    subst e0 e1; rfl) (by simp [h]) σ
end Go.Bx.Wind

/- sibyl/wind.Common, printed by pf.py. (Own text.) -/
namespace Go.Bx.Wind
set_option linter.unusedVariables false
set_option linter.unusedSimpArgs false
set_option linter.unusedSectionVars false
open Go.Proofs
set_option linter.unusedSimpArgs false
set_option linter.unusedVariables false
set_option maxRecDepth 10000
/-- sibyl/wind.Common -/
def f13 (from_ : List Frame) (to : List Frame) : Option (Int) :=
  f23 from_ >>= fun r1 =>
  f23 to >>= fun r2 =>
  f24 r1 r2 >>= fun r3 =>
  some r3

noncomputable def f13_ci : CI := (CI.or 23 f23_tbl (CI.or 24 f24_tbl (fun _ _ _ => none)))
theorem f13_ci_ok (base : Nat) : CIOK E base f13_ci := (or_ok f23_tbl_ok (or_ok f24_tbl_ok no_ok))
theorem f13_res : Try.f13.results = #[.tmp 4] := rfl
theorem f13_rt : Try.f13.resultTypes = #[3] := rfl

set_option maxHeartbeats 4000000 in
theorem f13_ok (from_ : List Frame) (to : List Frame) (r : Int) (h : f13 from_ to = some r) : PureOK E 13 [.sl (List.map cFrame from_), .sl (List.map cFrame to)] (.v (.int .i64 r)) := by
  unfold f13 at h
  refine pure_of_wp tabOK mixed (fn := Try.f13) (nt := 10) Try.func13 rfl rfl (names _ _ Try.func13) rfl rfl (fun _ => rfl) (fun base c00 hU => ?_)
  refine Wk.wp (s2 := ⟨.sl (List.map cFrame from_) :: .sl (List.map cFrame to) :: jj 8 [], St [], none, 0⟩) ?_ ?_
  · refine Wk.weak hU [] _ (by decide) .nil ?_
    simp only [jjs, List.length_cons, List.length_nil, Nat.reduceAdd, Nat.reduceSub, List.replicate, List.cons_append, List.nil_append]
    repeat' (first | exact WVs.nil | refine WVs.cons ?_ ?_)
    all_goals first | exact WV.junk _ | exact WV.keep rfl | exact .agg rfl (aggKeep rfl)
  try simp only [jjs]
  refine Wp.seq ?_
  refine Wp.region hU (f13_ci_ok _) (by simp (decide := true) (disch := (first | omega | (simp only [List.length_append, List.length_map, List.length_cons, List.length_nil]; omega))) only [evOp, putTm, E_T, E_gl, E_br, tdesc, reduceIte, reduceCtorEq, Nat.reduceAdd, Nat.reduceSub, Nat.reduceLT, Nat.reduceLeDiff, Nat.reduceEqDiff, bxm, tabs, tys]; rfl) ?_
  refine thenN ?_
  refine Wp.seq ?_
  obtain ⟨r1, hr1, h⟩ := bind_some h
  have hr1c : ∀ σ, f13_ci 23 [.sl (List.map cFrame from_)] σ = some (.own false 1 (List.map cMark r1), σ, none) := fun σ => f23_call hr1 σ
  obtain ⟨r2, hr2, h⟩ := bind_some h
  have hr2c : ∀ σ, f13_ci 23 [.sl (List.map cFrame to)] σ = some (.own false 1 (List.map cMark r2), σ, none) := fun σ => f23_call hr2 σ
  obtain ⟨r3, hr3, h⟩ := bind_some h
  have hr3c : ∀ σ, f13_ci 24 [.sl (List.map cMark r1), .sl (List.map cMark r2)] σ = some (.v (.int .i64 r3), σ, none) := fun σ => f24_call hr3 σ
  refine Wp.region hU (f13_ci_ok _) (by simp (decide := true) (disch := (first | omega | (simp only [List.length_append, List.length_map, List.length_cons, List.length_nil]; omega))) only [evOp, putTm, E_T, E_gl, E_br, tdesc, reduceIte, reduceCtorEq, Nat.reduceAdd, Nat.reduceSub, Nat.reduceLT, Nat.reduceLeDiff, Nat.reduceEqDiff, bxm, tabs, evCall, mapO, importL, import2L, import1, import2, share, fresh1, freshL, hr1c, hr2c, hr3c, tys]; rfl) ?_
  refine thenN ?_
  refine Wp.ret ?_
  obtain rfl := Option.some.inj h
  refine ⟨.inl rfl, ?_⟩
  refine Rt.of ?_
  simp (decide := true) only [evReturn, retShare, evReturn0, resAV, evLoad, ofCells, TD.isAgg, mapO, exportVs, exportV, exportL, export1, rowsOf, rowOf, innerIds, rowIds, one, closed, share, fresh1, E_T, reduceIte, reduceCtorEq, Nat.reduceAdd, Nat.reduceSub, Nat.reduceLT, Nat.reduceLeDiff, Nat.reduceEqDiff, bxm, tabs, List.map_append, f13_res, f13_rt, tys]

noncomputable def f13_tbl : CI := tbl 13 (fun p : (List Frame) × (List Frame) => [.sl (List.map cFrame p.1), .sl (List.map cFrame p.2)]) (fun p => (f13 p.1 p.2).map fun r => .v (.int .i64 r))
theorem f13_tbl_ok {base : Nat} : CIOK E base f13_tbl := tbl_ok fun p r h => by obtain ⟨q, hq, rfl⟩ := Option.map_eq_some_iff.1 h; exact f13_ok p.1 p.2 q hq
theorem f13_call {from_ : List Frame} {to : List Frame} {r : Int} (h : f13 from_ to = some r) (σ : Store) : f13_tbl 13 [.sl (List.map cFrame from_), .sl (List.map cFrame to)] σ = some (.v (.int .i64 r), σ, none) :=
  tbl_eq (x := (from_, to)) (fun x y e => by
    obtain ⟨x0, x1⟩ := x; obtain ⟨y0, y1⟩ := y
    have e0 := av_sl injFrame (List.cons.inj e).1
    have e1 := av_sl injFrame (List.cons.inj (List.cons.inj e).2).1
    subst e0 e1; rfl) (by simp [h]) σ
end Go.Bx.Wind

/- sibyl/sibylref15.Winds, printed by pf.py. (Own text.) -/
namespace Go.Bx.Wind
set_option linter.unusedVariables false
set_option linter.unusedSimpArgs false
set_option linter.unusedSectionVars false
open Go.Proofs
set_option linter.unusedSimpArgs false
set_option linter.unusedVariables false
set_option maxRecDepth 10000
def f12_l0 (fs : List Frame) (out : List Int) (i : Int) : Option ((List Int)) :=
  if (decide (i < (fs.length : Int))) = true then
    ((rd fs i >>= fun e4 =>
    if (e4.Kind == 2) = true then
      (rd fs i >>= fun e6 =>
      ap 8 out [e6.Id] >>= fun a7 =>
      some a7)
    else
      some out : Option ((List Int))) >>= fun o3 =>
    f12_l0 fs o3 (IntKind.i64.wrap (i + 1)))
  else
    some out
  partial_fixpoint

/-- sibyl/sibylref15.Winds -/
def f12 (fs : List Frame) : Option (List Int) :=
  f12_l0 fs [] 0 >>= fun o1 =>
  some o1

theorem f12_res : Try.f12.results = #[.tmp 2] := rfl
theorem f12_rt : Try.f12.resultTypes = #[25] := rfl

set_option maxHeartbeats 4000000 in
theorem f12_l0_ok {base : Nat} {c00 : Ctx} (hU : Under E base c00 nilStore) (fs : List Frame) : ∀ (out : List Int) (i : Int) (o1 : (List Int)), f12_l0 fs out i = some o1 →
    WpL E base c00 nilStore (lb Try.f12 0) ⟨.sl (List.map cFrame fs) :: jj 2 (.row 0 1 0 ((out).length) :: .v (.int .i64 i) :: jj 21 []), St [some ⟨1, false, true, List.map (cInt .i64) out⟩], none, 0⟩ (fun ex s1 => ex = .exit 0 ∧ Wk base c00 nilStore s1 ⟨jj 3 (.row 0 1 0 ((o1).length) :: jj 22 []), St [some ⟨1, false, true, List.map (cInt .i64) o1⟩], none, 0⟩) := by
  refine f12_l0.partial_correctness fs (fun out i o1 => WpL E base c00 nilStore (lb Try.f12 0) ⟨.sl (List.map cFrame fs) :: jj 2 (.row 0 1 0 ((out).length) :: .v (.int .i64 i) :: jj 21 []), St [some ⟨1, false, true, List.map (cInt .i64) out⟩], none, 0⟩ (fun ex s1 => ex = .exit 0 ∧ Wk base c00 nilStore s1 ⟨jj 3 (.row 0 1 0 ((o1).length) :: jj 22 []), St [some ⟨1, false, true, List.map (cInt .i64) o1⟩], none, 0⟩)) ?_
  intro lp__ ih out i o1 h
  refine WpL.stepE (by simp only [Try.f12, lb, Option.getD_some, loopsOf, List.nil_append, List.append_nil, List.cons_append, List.getElem?_cons_zero, List.getElem?_cons_succ]; rfl) ?_
  try simp only [jjs]
  refine Wp.seq ?_
  refine Wp.seq ?_
  refine Wp.region hU no_ok (by simp (decide := true) (disch := (first | omega | (simp only [List.length_append, List.length_map, List.length_cons, List.length_nil]; omega))) only [evOp, putTm, E_T, E_gl, E_br, tdesc, reduceIte, reduceCtorEq, Nat.reduceAdd, Nat.reduceSub, Nat.reduceLT, Nat.reduceLeDiff, Nat.reduceEqDiff, bxm, tabs, evA, lenAV, evBin, intBin, strBin, bothNil, constOp, eqCells, tys]; rfl) ?_
  refine thenN ?_
  refine Wp.cond hU (t := decide (i < (fs.length : Int))) rfl (fun hc2 => ?_) (fun hc2 => ?_)
  · rw [if_t hc2] at h
    refine Wp.skip ?_
    refine thenN ?_
    obtain ⟨o3, ho3, h⟩ := bind_some h
    refine Wp.seq1 (JP := (fun ex s1 => ex = .nrm ∧ Wk base c00 nilStore s1 ⟨.sl (List.map cFrame fs) :: jj 2 (.row 0 1 0 ((o3).length) :: .v (.int .i64 i) :: jj 21 []), St [some ⟨1, false, true, List.map (cInt .i64) o3⟩], none, 0⟩)) ?_ (fun ex s1 hp => ?_)
    · replace h := ho3
      refine Wp.block ?_
      refine Wp.seq ?_
      obtain ⟨e4, he4, h⟩ := bind_some h
      obtain ⟨he4a, he4b, he4c⟩ := rd_some he4
      refine Wp.region hU no_ok (by simp (decide := true) (disch := (first | omega | (simp only [List.length_append, List.length_map, List.length_cons, List.length_nil]; omega))) only [evOp, putTm, E_T, E_gl, E_br, tdesc, reduceIte, reduceCtorEq, Nat.reduceAdd, Nat.reduceSub, Nat.reduceLT, Nat.reduceLeDiff, Nat.reduceEqDiff, bxm, tabs, indexAddrAV, fieldPlaceT, evLoad, ldV, ofCells, TD.isAgg, evBin, intBin, strBin, bothNil, constOp, eqCells, he4a, he4b, he4c, hc2, tys]; rfl) ?_
      refine thenN ?_
      refine Wp.cond hU (t := e4.Kind == 2) rfl (fun hc5 => ?_) (fun hc5 => ?_)
      · rw [if_t hc5] at h
        obtain ⟨e6, he6, h⟩ := bind_some h
        obtain ⟨he6a, he6b, he6c⟩ := rd_some he6
        obtain ⟨a7, ha7, h⟩ := bind_some h
        obtain ⟨ha7a, ha7b⟩ := ap_some ha7
        try simp only [List.length_cons, List.length_nil, Nat.zero_add, Nat.add_zero, Nat.reduceAdd] at ha7a
        refine Wp.region hU no_ok (by simp (decide := true) (disch := (first | omega | (simp only [List.length_append, List.length_map, List.length_cons, List.length_nil]; omega))) only [evOp, putTm, E_T, E_gl, E_br, tdesc, reduceIte, reduceCtorEq, Nat.reduceAdd, Nat.reduceSub, Nat.reduceLT, Nat.reduceLeDiff, Nat.reduceEqDiff, bxm, tabs, indexAddrAV, fieldPlaceT, evLoad, ldV, ofCells, TD.isAgg, evA, evAppend, elems, flatOf, he6a, he6b, he6c, ha7a, hc2, hc5, tys]; rfl) ?_
        refine blkN ?_
        obtain rfl := Option.some.inj h
        refine ⟨rfl, ?_⟩
        try simp only [jjs]
        refine Wk.weak hU [some 2] _ (by decide) ?_ ?_
        · refine .obj rfl ?_ ?_
          · first | exact .same _ _ _ | (refine WO.same_eq ?_; simp only [bxw, ha7b, tys]; done)
          exact .nil
        · (repeat' (first | exact WVs.nil | refine WVs.cons ?_ ?_ | (refine WVs.aggW ?_) | (refine WVs.fnW ?_ ?_))) <;> (first | exact WV.junk _ | exact WV.keep rfl | exact WV.row rfl | exact WV.nil rfl | exact WV.nilsl | exact WV.emp rfl | exact WV.empsl | exact WV.ptr rfl | (refine WV.row_eq rfl ?_; simp only [bxw, ha7b, tys]) | (refine WV.view (k := 3) ?_; simp (decide := true) only [reify, share, fresh1, reduceIte, reduceCtorEq, Nat.reduceAdd, bxm, tys]) | (refine WV.eq ?_ rfl; simp only [bxw, ha7b, tys]))
      · rw [if_f hc5] at h
        refine Wp.skip ?_
        refine blkN ?_
        obtain rfl := Option.some.inj h
        refine ⟨rfl, ?_⟩
        try simp only [jjs]
        refine Wk.weak hU [some 0] _ (by decide) ?_ ?_
        · refine .obj rfl ?_ ?_
          · first | exact .same _ _ _ | (refine WO.same_eq ?_; simp only [bxw, tys]; done)
          exact .nil
        · (repeat' (first | exact WVs.nil | refine WVs.cons ?_ ?_ | (refine WVs.aggW ?_) | (refine WVs.fnW ?_ ?_))) <;> (first | exact WV.junk _ | exact WV.keep rfl | exact WV.row rfl | exact WV.nil rfl | exact WV.nilsl | exact WV.emp rfl | exact WV.empsl | exact WV.ptr rfl | (refine WV.row_eq rfl ?_; simp only [bxw, tys]) | (refine WV.view (k := 3) ?_; simp (decide := true) only [reify, share, fresh1, reduceIte, reduceCtorEq, Nat.reduceAdd, bxm, tys]) | (refine WV.eq ?_ rfl; simp only [bxw, tys]))
    · obtain ⟨rfl, hp⟩ := hp
      refine thenN (hp.wp ?_)
      try simp only [jjs]
      refine Wp.region hU no_ok (by simp (decide := true) (disch := (first | omega | (simp only [List.length_append, List.length_map, List.length_cons, List.length_nil]; omega))) only [evOp, putTm, E_T, E_gl, E_br, tdesc, reduceIte, reduceCtorEq, Nat.reduceAdd, Nat.reduceSub, Nat.reduceLT, Nat.reduceLeDiff, Nat.reduceEqDiff, bxm, tabs, evBin, intBin, strBin, bothNil, constOp, eqCells, hc2, tys]; rfl) ?_
      refine againN ?_
      refine Wk.wpL ?_ (ih o3 (IntKind.i64.wrap (i + 1)) _ h)
      try simp only [jjs]
      refine Wk.weak hU [some 0] _ (by decide) ?_ ?_
      · refine .obj rfl ?_ ?_
        · first | exact .same _ _ _ | (refine WO.same_eq ?_; simp only [bxw, tys]; done)
        exact .nil
      · (repeat' (first | exact WVs.nil | refine WVs.cons ?_ ?_ | (refine WVs.aggW ?_) | (refine WVs.fnW ?_ ?_))) <;> (first | exact WV.junk _ | exact WV.keep rfl | exact WV.row rfl | exact WV.nil rfl | exact WV.nilsl | exact WV.emp rfl | exact WV.empsl | exact WV.ptr rfl | (refine WV.row_eq rfl ?_; simp only [bxw, tys]) | (refine WV.view (k := 3) ?_; simp (decide := true) only [reify, share, fresh1, reduceIte, reduceCtorEq, Nat.reduceAdd, bxm, tys]) | (refine WV.eq ?_ rfl; simp only [bxw, tys]))
  · rw [if_f hc2] at h
    refine Wp.exit ?_
    refine thenE ?_
    refine againE ?_
    obtain rfl := Option.some.inj h
    refine ⟨rfl, ?_⟩
    try simp only [jjs]
    refine Wk.weak hU [some 0] _ (by decide) ?_ ?_
    · refine .obj rfl ?_ ?_
      · first | exact .same _ _ _ | (refine WO.same_eq ?_; simp only [bxw, tys]; done)
      exact .nil
    · (repeat' (first | exact WVs.nil | refine WVs.cons ?_ ?_ | (refine WVs.aggW ?_) | (refine WVs.fnW ?_ ?_))) <;> (first | exact WV.junk _ | exact WV.keep rfl | exact WV.row rfl | exact WV.nil rfl | exact WV.nilsl | exact WV.emp rfl | exact WV.empsl | exact WV.ptr rfl | (refine WV.row_eq rfl ?_; simp only [bxw, tys]) | (refine WV.view (k := 3) ?_; simp (decide := true) only [reify, share, fresh1, reduceIte, reduceCtorEq, Nat.reduceAdd, bxm, tys]) | (refine WV.eq ?_ rfl; simp only [bxw, tys]))

set_option maxHeartbeats 4000000 in
theorem f12_ok (fs : List Frame) (r : List Int) (h : f12 fs = some r) : PureOK E 12 [.sl (List.map cFrame fs)] (.own false 1 (List.map (cInt .i64) r)) := by
  unfold f12 at h
  refine pure_of_wp tabOK mixed (fn := Try.f12) (nt := 26) Try.func12 rfl rfl (names _ _ Try.func12) rfl rfl (fun _ => rfl) (fun base c00 hU => ?_)
  refine Wk.wp (s2 := ⟨.sl (List.map cFrame fs) :: jj 25 [], St [], none, 0⟩) ?_ ?_
  · refine Wk.weak hU [] _ (by decide) .nil ?_
    simp only [jjs, List.length_cons, List.length_nil, Nat.reduceAdd, Nat.reduceSub, List.replicate, List.cons_append, List.nil_append]
    repeat' (first | exact WVs.nil | refine WVs.cons ?_ ?_)
    all_goals first | exact WV.junk _ | exact WV.keep rfl | exact .agg rfl (aggKeep rfl)
  try simp only [jjs]
  refine Wp.seq ?_
  refine Wp.region hU no_ok (by simp (decide := true) (disch := (first | omega | (simp only [List.length_append, List.length_map, List.length_cons, List.length_nil]; omega))) only [evOp, putTm, E_T, E_gl, E_br, tdesc, reduceIte, reduceCtorEq, Nat.reduceAdd, Nat.reduceSub, Nat.reduceLT, Nat.reduceLeDiff, Nat.reduceEqDiff, bxm, tabs, tys]; rfl) ?_
  refine thenN ?_
  refine Wp.seq ?_
  refine Wp.region hU no_ok (by simp (decide := true) (disch := (first | omega | (simp only [List.length_append, List.length_map, List.length_cons, List.length_nil]; omega))) only [evOp, putTm, E_T, E_gl, E_br, tdesc, reduceIte, reduceCtorEq, Nat.reduceAdd, Nat.reduceSub, Nat.reduceLT, Nat.reduceLeDiff, Nat.reduceEqDiff, bxm, tabs, tys]; rfl) ?_
  refine thenN ?_
  refine Wp.seq ?_
  refine Wp.seq ?_
  refine Wp.region hU no_ok (by simp (decide := true) (disch := (first | omega | (simp only [List.length_append, List.length_map, List.length_cons, List.length_nil]; omega))) only [evOp, putTm, E_T, E_gl, E_br, tdesc, reduceIte, reduceCtorEq, Nat.reduceAdd, Nat.reduceSub, Nat.reduceLT, Nat.reduceLeDiff, Nat.reduceEqDiff, bxm, tabs, tys]; rfl) ?_
  refine thenN ?_
  refine Wp.block ?_
  obtain ⟨o1, ho1, h⟩ := bind_some h
  refine Wp.loop ?_
  refine Tw.mono (Wk.wpL (s2 := ⟨.sl (List.map cFrame fs) :: jj 2 (.row 0 1 0 (([]).length) :: .v (.int .i64 0) :: jj 21 []), St [some ⟨1, false, true, List.map (cInt .i64) []⟩], none, 0⟩) ?_ (f12_l0_ok hU fs [] 0 o1 ho1)) (fun ex s1 hp => ?_)
  · try simp only [jjs]
    refine Wk.weak hU [none] _ (by decide) ?_ ?_
    · refine .virt ?_
      exact .nil
    · (repeat' (first | exact WVs.nil | refine WVs.cons ?_ ?_ | (refine WVs.aggW ?_) | (refine WVs.fnW ?_ ?_))) <;> (first | exact WV.junk _ | exact WV.keep rfl | exact WV.row rfl | exact WV.nil rfl | exact WV.nilsl | exact WV.emp rfl | exact WV.empsl | exact WV.ptr rfl | (refine WV.row_eq rfl ?_; simp only [bxw, tys]) | (refine WV.view (k := 3) ?_; simp (decide := true) only [reify, share, fresh1, reduceIte, reduceCtorEq, Nat.reduceAdd, bxm, tys]) | (refine WV.eq ?_ rfl; simp only [bxw, tys]))
  · obtain ⟨rfl, hp⟩ := hp
    refine blkE ?_
    refine thenN ?_
    refine hp.wp ?_
    try simp only [jjs]
    refine Wp.seq ?_
    refine Wp.region hU no_ok (by simp (decide := true) (disch := (first | omega | (simp only [List.length_append, List.length_map, List.length_cons, List.length_nil]; omega))) only [evOp, putTm, E_T, E_gl, E_br, tdesc, reduceIte, reduceCtorEq, Nat.reduceAdd, Nat.reduceSub, Nat.reduceLT, Nat.reduceLeDiff, Nat.reduceEqDiff, bxm, tabs, tys]; rfl) ?_
    refine thenN ?_
    refine Wp.ret ?_
    obtain rfl := Option.some.inj h
    refine ⟨.inl rfl, ?_⟩
    refine Rt.of ?_
    simp (decide := true) only [evReturn, retShare, evReturn0, resAV, evLoad, ofCells, TD.isAgg, mapO, exportVs, exportV, exportL, export1, rowsOf, rowOf, innerIds, rowIds, one, closed, share, fresh1, E_T, reduceIte, reduceCtorEq, Nat.reduceAdd, Nat.reduceSub, Nat.reduceLT, Nat.reduceLeDiff, Nat.reduceEqDiff, bxm, tabs, List.map_append, f12_res, f12_rt, tys]

noncomputable def f12_tbl : CI := tbl 12 (fun p : (List Frame) => [.sl (List.map cFrame p)]) (fun p => (f12 p).map fun r => .own false 1 (List.map (cInt .i64) r))
theorem f12_tbl_ok {base : Nat} : CIOK E base f12_tbl := tbl_ok fun p r h => by obtain ⟨q, hq, rfl⟩ := Option.map_eq_some_iff.1 h; exact f12_ok p q hq
theorem f12_call {fs : List Frame} {r : List Int} (h : f12 fs = some r) (σ : Store) : f12_tbl 12 [.sl (List.map cFrame fs)] σ = some (.own false 1 (List.map (cInt .i64) r), σ, none) :=
  tbl_eq (x := (fs)) (fun x y e => by
    exact av_sl injFrame (List.cons.inj e).1) (by simp [h]) σ
end Go.Bx.Wind

/- sibyl/sibylref15.Common, printed by pf.py. (Own text.) -/
namespace Go.Bx.Wind
set_option linter.unusedVariables false
set_option linter.unusedSimpArgs false
set_option linter.unusedSectionVars false
open Go.Proofs
set_option linter.unusedSimpArgs false
set_option linter.unusedVariables false
set_option maxRecDepth 10000
def f14_l0 (r1 : List Int) (r2 : List Int) (n : Int) : Option (Int) :=
  if (decide (n < (r1.length : Int))) = true then
    (if (decide (n < (r2.length : Int))) = true then
      (rd r1 n >>= fun e4 =>
      rd r2 n >>= fun e5 =>
      if (e4 == e5) = true then
        (f14_l0 r1 r2 (IntKind.i64.wrap (n + 1)))
      else
        some n)
    else
      some n)
  else
    some n
  partial_fixpoint

/-- sibyl/sibylref15.Common -/
def f14 (from_ : List Frame) (to : List Frame) : Option (Int) :=
  f12 from_ >>= fun r1 =>
  f12 to >>= fun r2 =>
  f14_l0 r1 r2 0 >>= fun o3 =>
  some o3

noncomputable def f14_ci : CI := (CI.or 12 f12_tbl (fun _ _ _ => none))
theorem f14_ci_ok (base : Nat) : CIOK E base f14_ci := (or_ok f12_tbl_ok no_ok)
theorem f14_res : Try.f14.results = #[.tmp 4] := rfl
theorem f14_rt : Try.f14.resultTypes = #[3] := rfl

set_option maxHeartbeats 4000000 in
theorem f14_l0_ok {base : Nat} {c00 : Ctx} (hU : Under E base c00 nilStore) (r1 : List Int) (r2 : List Int) : ∀ (n : Int) (o3 : Int), f14_l0 r1 r2 n = some o3 →
    WpL E base c00 nilStore (lb Try.f14 0) ⟨jj 5 (.row 0 1 0 ((r1).length) :: .row 1 1 0 ((r2).length) :: .v (.int .i64 n) :: jj 28 []), St [some ⟨1, false, true, List.map (cInt .i64) r1⟩, some ⟨1, false, true, List.map (cInt .i64) r2⟩], none, 0⟩ (fun ex s1 => ex = .exit 0 ∧ Wk base c00 nilStore s1 ⟨jj 7 (.v (.int .i64 o3) :: jj 28 []), St [], none, 0⟩) := by
  refine f14_l0.partial_correctness r1 r2 (fun n o3 => WpL E base c00 nilStore (lb Try.f14 0) ⟨jj 5 (.row 0 1 0 ((r1).length) :: .row 1 1 0 ((r2).length) :: .v (.int .i64 n) :: jj 28 []), St [some ⟨1, false, true, List.map (cInt .i64) r1⟩, some ⟨1, false, true, List.map (cInt .i64) r2⟩], none, 0⟩ (fun ex s1 => ex = .exit 0 ∧ Wk base c00 nilStore s1 ⟨jj 7 (.v (.int .i64 o3) :: jj 28 []), St [], none, 0⟩)) ?_
  intro lp__ ih n o3 h
  refine WpL.stepE (by simp only [Try.f14, lb, Option.getD_some, loopsOf, List.nil_append, List.append_nil, List.cons_append, List.getElem?_cons_zero, List.getElem?_cons_succ]; rfl) ?_
  try simp only [jjs]
  refine Wp.seq ?_
  refine Wp.seq ?_
  rcases Bool.eq_false_or_eq_true (decide (n < (r1.length : Int))) with hg35 | hg35
  · rw [if_t hg35] at h
    rcases Bool.eq_false_or_eq_true (decide (n < (r2.length : Int))) with hg36 | hg36
    · rw [if_t hg36] at h
      obtain ⟨e4, he4, h⟩ := bind_some h
      obtain ⟨he4a, he4b, he4c⟩ := rd_some he4
      obtain ⟨e5, he5, h⟩ := bind_some h
      obtain ⟨he5a, he5b, he5c⟩ := rd_some he5
      refine Wp.region hU (f14_ci_ok _) (by simp (decide := true) (disch := (first | omega | (simp only [List.length_append, List.length_map, List.length_cons, List.length_nil]; omega))) only [evOp, putTm, E_T, E_gl, E_br, tdesc, reduceIte, reduceCtorEq, Nat.reduceAdd, Nat.reduceSub, Nat.reduceLT, Nat.reduceLeDiff, Nat.reduceEqDiff, bxm, tabs, evA, lenAV, evBin, intBin, strBin, bothNil, constOp, eqCells, indexAddrAV, evLoad, ldV, ofCells, TD.isAgg, he4a, he4b, he4c, he5a, he5b, he5c, hg35, hg36, tys]; rfl) ?_
      refine thenN ?_
      refine Wp.cond hU (t := e4 == e5) rfl (fun hc6 => ?_) (fun hc6 => ?_)
      · rw [if_t hc6] at h
        refine Wp.skip ?_
        refine thenN ?_
        refine Wp.block ?_
        refine Wp.region hU (f14_ci_ok _) (by simp (decide := true) (disch := (first | omega | (simp only [List.length_append, List.length_map, List.length_cons, List.length_nil]; omega))) only [evOp, putTm, E_T, E_gl, E_br, tdesc, reduceIte, reduceCtorEq, Nat.reduceAdd, Nat.reduceSub, Nat.reduceLT, Nat.reduceLeDiff, Nat.reduceEqDiff, bxm, tabs, evBin, intBin, strBin, bothNil, constOp, eqCells, hg35, hg36, hc6, tys]; rfl) ?_
        refine blkN ?_
        refine againN ?_
        refine Wk.wpL ?_ (ih (IntKind.i64.wrap (n + 1)) _ h)
        try simp only [jjs]
        refine Wk.weak hU [some 0, some 1] _ (by decide) ?_ ?_
        · refine .obj rfl ?_ ?_
          · first | exact .same _ _ _ | (refine WO.same_eq ?_; simp only [bxw, tys]; done)
          refine .obj rfl ?_ ?_
          · first | exact .same _ _ _ | (refine WO.same_eq ?_; simp only [bxw, tys]; done)
          exact .nil
        · (repeat' (first | exact WVs.nil | refine WVs.cons ?_ ?_ | (refine WVs.aggW ?_) | (refine WVs.fnW ?_ ?_))) <;> (first | exact WV.junk _ | exact WV.keep rfl | exact WV.row rfl | exact WV.nil rfl | exact WV.nilsl | exact WV.emp rfl | exact WV.empsl | exact WV.ptr rfl | (refine WV.row_eq rfl ?_; simp only [bxw, tys]) | (refine WV.view (k := 3) ?_; simp (decide := true) only [reify, share, fresh1, reduceIte, reduceCtorEq, Nat.reduceAdd, bxm, tys]) | (refine WV.eq ?_ rfl; simp only [bxw, tys]))
      · rw [if_f hc6] at h
        refine Wp.exit ?_
        refine thenE ?_
        refine againE ?_
        obtain rfl := Option.some.inj h
        refine ⟨rfl, ?_⟩
        try simp only [jjs]
        refine Wk.weak hU [] _ (by decide) ?_ ?_
        · exact .nil
        · (repeat' (first | exact WVs.nil | refine WVs.cons ?_ ?_ | (refine WVs.aggW ?_) | (refine WVs.fnW ?_ ?_))) <;> (first | exact WV.junk _ | exact WV.keep rfl | exact WV.row rfl | exact WV.nil rfl | exact WV.nilsl | exact WV.emp rfl | exact WV.empsl | exact WV.ptr rfl | (refine WV.row_eq rfl ?_; simp only [bxw, tys]) | (refine WV.view (k := 3) ?_; simp (decide := true) only [reify, share, fresh1, reduceIte, reduceCtorEq, Nat.reduceAdd, bxm, tys]) | (refine WV.eq ?_ rfl; simp only [bxw, tys]))
    · rw [if_f hg36] at h
      refine Wp.region hU (f14_ci_ok _) (by simp (decide := true) (disch := (first | omega | (simp only [List.length_append, List.length_map, List.length_cons, List.length_nil]; omega))) only [evOp, putTm, E_T, E_gl, E_br, tdesc, reduceIte, reduceCtorEq, Nat.reduceAdd, Nat.reduceSub, Nat.reduceLT, Nat.reduceLeDiff, Nat.reduceEqDiff, bxm, tabs, evA, lenAV, evBin, intBin, strBin, bothNil, constOp, eqCells, indexAddrAV, evLoad, ldV, ofCells, TD.isAgg, hg35, hg36, tys]; rfl) ?_
      refine thenN ?_
      refine Wp.cond hU (t := false) rfl (fun hc => by cases hc) (fun _ => ?_)
      refine Wp.exit ?_
      refine thenE ?_
      refine againE ?_
      obtain rfl := Option.some.inj h
      refine ⟨rfl, ?_⟩
      try simp only [jjs]
      refine Wk.weak hU [] _ (by decide) ?_ ?_
      · exact .nil
      · (repeat' (first | exact WVs.nil | refine WVs.cons ?_ ?_ | (refine WVs.aggW ?_) | (refine WVs.fnW ?_ ?_))) <;> (first | exact WV.junk _ | exact WV.keep rfl | exact WV.row rfl | exact WV.nil rfl | exact WV.nilsl | exact WV.emp rfl | exact WV.empsl | exact WV.ptr rfl | (refine WV.row_eq rfl ?_; simp only [bxw, tys]) | (refine WV.view (k := 3) ?_; simp (decide := true) only [reify, share, fresh1, reduceIte, reduceCtorEq, Nat.reduceAdd, bxm, tys]) | (refine WV.eq ?_ rfl; simp only [bxw, tys]))
  · rw [if_f hg35] at h
    refine Wp.region hU (f14_ci_ok _) (by simp (decide := true) (disch := (first | omega | (simp only [List.length_append, List.length_map, List.length_cons, List.length_nil]; omega))) only [evOp, putTm, E_T, E_gl, E_br, tdesc, reduceIte, reduceCtorEq, Nat.reduceAdd, Nat.reduceSub, Nat.reduceLT, Nat.reduceLeDiff, Nat.reduceEqDiff, bxm, tabs, evA, lenAV, evBin, intBin, strBin, bothNil, constOp, eqCells, indexAddrAV, evLoad, ldV, ofCells, TD.isAgg, hg35, tys]; rfl) ?_
    refine thenN ?_
    refine Wp.cond hU (t := false) rfl (fun hc => by cases hc) (fun _ => ?_)
    refine Wp.exit ?_
    refine thenE ?_
    refine againE ?_
    obtain rfl := Option.some.inj h
    refine ⟨rfl, ?_⟩
    try simp only [jjs]
    refine Wk.weak hU [] _ (by decide) ?_ ?_
    · exact .nil
    · (repeat' (first | exact WVs.nil | refine WVs.cons ?_ ?_ | (refine WVs.aggW ?_) | (refine WVs.fnW ?_ ?_))) <;> (first | exact WV.junk _ | exact WV.keep rfl | exact WV.row rfl | exact WV.nil rfl | exact WV.nilsl | exact WV.emp rfl | exact WV.empsl | exact WV.ptr rfl | (refine WV.row_eq rfl ?_; simp only [bxw, tys]) | (refine WV.view (k := 3) ?_; simp (decide := true) only [reify, share, fresh1, reduceIte, reduceCtorEq, Nat.reduceAdd, bxm, tys]) | (refine WV.eq ?_ rfl; simp only [bxw, tys]))

set_option maxHeartbeats 4000000 in
theorem f14_ok (from_ : List Frame) (to : List Frame) (r : Int) (h : f14 from_ to = some r) : PureOK E 14 [.sl (List.map cFrame from_), .sl (List.map cFrame to)] (.v (.int .i64 r)) := by
  unfold f14 at h
  refine pure_of_wp tabOK mixed (fn := Try.f14) (nt := 36) Try.func14 rfl rfl (names _ _ Try.func14) rfl rfl (fun _ => rfl) (fun base c00 hU => ?_)
  refine Wk.wp (s2 := ⟨.sl (List.map cFrame from_) :: .sl (List.map cFrame to) :: jj 34 [], St [], none, 0⟩) ?_ ?_
  · refine Wk.weak hU [] _ (by decide) .nil ?_
    simp only [jjs, List.length_cons, List.length_nil, Nat.reduceAdd, Nat.reduceSub, List.replicate, List.cons_append, List.nil_append]
    repeat' (first | exact WVs.nil | refine WVs.cons ?_ ?_)
    all_goals first | exact WV.junk _ | exact WV.keep rfl | exact .agg rfl (aggKeep rfl)
  try simp only [jjs]
  refine Wp.seq ?_
  refine Wp.region hU (f14_ci_ok _) (by simp (decide := true) (disch := (first | omega | (simp only [List.length_append, List.length_map, List.length_cons, List.length_nil]; omega))) only [evOp, putTm, E_T, E_gl, E_br, tdesc, reduceIte, reduceCtorEq, Nat.reduceAdd, Nat.reduceSub, Nat.reduceLT, Nat.reduceLeDiff, Nat.reduceEqDiff, bxm, tabs, tys]; rfl) ?_
  refine thenN ?_
  refine Wp.seq ?_
  obtain ⟨r1, hr1, h⟩ := bind_some h
  have hr1c : ∀ σ, f14_ci 12 [.sl (List.map cFrame from_)] σ = some (.own false 1 (List.map (cInt .i64) r1), σ, none) := fun σ => f12_call hr1 σ
  obtain ⟨r2, hr2, h⟩ := bind_some h
  have hr2c : ∀ σ, f14_ci 12 [.sl (List.map cFrame to)] σ = some (.own false 1 (List.map (cInt .i64) r2), σ, none) := fun σ => f12_call hr2 σ
  refine Wp.region hU (f14_ci_ok _) (by simp (decide := true) (disch := (first | omega | (simp only [List.length_append, List.length_map, List.length_cons, List.length_nil]; omega))) only [evOp, putTm, E_T, E_gl, E_br, tdesc, reduceIte, reduceCtorEq, Nat.reduceAdd, Nat.reduceSub, Nat.reduceLT, Nat.reduceLeDiff, Nat.reduceEqDiff, bxm, tabs, evCall, mapO, importL, import2L, import1, import2, share, fresh1, freshL, hr1c, hr2c, tys]; rfl) ?_
  refine thenN ?_
  refine Wp.seq ?_
  refine Wp.region hU (f14_ci_ok _) (by simp (decide := true) (disch := (first | omega | (simp only [List.length_append, List.length_map, List.length_cons, List.length_nil]; omega))) only [evOp, putTm, E_T, E_gl, E_br, tdesc, reduceIte, reduceCtorEq, Nat.reduceAdd, Nat.reduceSub, Nat.reduceLT, Nat.reduceLeDiff, Nat.reduceEqDiff, bxm, tabs, tys]; rfl) ?_
  refine thenN ?_
  refine Wp.seq ?_
  refine Wp.block ?_
  obtain ⟨o3, ho3, h⟩ := bind_some h
  refine Wp.loop ?_
  refine Tw.mono (Wk.wpL (s2 := ⟨jj 5 (.row 0 1 0 ((r1).length) :: .row 1 1 0 ((r2).length) :: .v (.int .i64 0) :: jj 28 []), St [some ⟨1, false, true, List.map (cInt .i64) r1⟩, some ⟨1, false, true, List.map (cInt .i64) r2⟩], none, 0⟩) ?_ (f14_l0_ok hU r1 r2 0 o3 ho3)) (fun ex s1 hp => ?_)
  · try simp only [jjs]
    refine Wk.weak hU [some 0, some 1] _ (by decide) ?_ ?_
    · refine .obj rfl ?_ ?_
      · first | exact .same _ _ _ | (refine WO.same_eq ?_; simp only [bxw, tys]; done)
      refine .obj rfl ?_ ?_
      · first | exact .same _ _ _ | (refine WO.same_eq ?_; simp only [bxw, tys]; done)
      exact .nil
    · (repeat' (first | exact WVs.nil | refine WVs.cons ?_ ?_ | (refine WVs.aggW ?_) | (refine WVs.fnW ?_ ?_))) <;> (first | exact WV.junk _ | exact WV.keep rfl | exact WV.row rfl | exact WV.nil rfl | exact WV.nilsl | exact WV.emp rfl | exact WV.empsl | exact WV.ptr rfl | (refine WV.row_eq rfl ?_; simp only [bxw, tys]) | (refine WV.view (k := 3) ?_; simp (decide := true) only [reify, share, fresh1, reduceIte, reduceCtorEq, Nat.reduceAdd, bxm, tys]) | (refine WV.eq ?_ rfl; simp only [bxw, tys]))
  · obtain ⟨rfl, hp⟩ := hp
    refine blkE ?_
    refine thenN ?_
    refine hp.wp ?_
    try simp only [jjs]
    refine Wp.seq ?_
    refine Wp.region hU (f14_ci_ok _) (by simp (decide := true) (disch := (first | omega | (simp only [List.length_append, List.length_map, List.length_cons, List.length_nil]; omega))) only [evOp, putTm, E_T, E_gl, E_br, tdesc, reduceIte, reduceCtorEq, Nat.reduceAdd, Nat.reduceSub, Nat.reduceLT, Nat.reduceLeDiff, Nat.reduceEqDiff, bxm, tabs, tys]; rfl) ?_
    refine thenN ?_
    refine Wp.ret ?_
    obtain rfl := Option.some.inj h
    refine ⟨.inl rfl, ?_⟩
    refine Rt.of ?_
    simp (decide := true) only [evReturn, retShare, evReturn0, resAV, evLoad, ofCells, TD.isAgg, mapO, exportVs, exportV, exportL, export1, rowsOf, rowOf, innerIds, rowIds, one, closed, share, fresh1, E_T, reduceIte, reduceCtorEq, Nat.reduceAdd, Nat.reduceSub, Nat.reduceLT, Nat.reduceLeDiff, Nat.reduceEqDiff, bxm, tabs, List.map_append, f14_res, f14_rt, tys]

noncomputable def f14_tbl : CI := tbl 14 (fun p : (List Frame) × (List Frame) => [.sl (List.map cFrame p.1), .sl (List.map cFrame p.2)]) (fun p => (f14 p.1 p.2).map fun r => .v (.int .i64 r))
theorem f14_tbl_ok {base : Nat} : CIOK E base f14_tbl := tbl_ok fun p r h => by obtain ⟨q, hq, rfl⟩ := Option.map_eq_some_iff.1 h; exact f14_ok p.1 p.2 q hq
theorem f14_call {from_ : List Frame} {to : List Frame} {r : Int} (h : f14 from_ to = some r) (σ : Store) : f14_tbl 14 [.sl (List.map cFrame from_), .sl (List.map cFrame to)] σ = some (.v (.int .i64 r), σ, none) :=
  tbl_eq (x := (from_, to)) (fun x y e => by
    obtain ⟨x0, x1⟩ := x; obtain ⟨y0, y1⟩ := y
    have e0 := av_sl injFrame (List.cons.inj e).1
    have e1 := av_sl injFrame (List.cons.inj (List.cons.inj e).2).1
    subst e0 e1; rfl) (by simp [h]) σ
end Go.Bx.Wind

/- sibyl/sibylref15.SameTrip, printed by pf.py. (Own text.) -/
namespace Go.Bx.Wind
set_option linter.unusedVariables false
set_option linter.unusedSimpArgs false
set_option linter.unusedSectionVars false
open Go.Proofs
set_option linter.unusedSimpArgs false
set_option linter.unusedVariables false
set_option maxRecDepth 10000
/-- sibyl/sibylref15.SameTrip -/
def f15 (a : Trip) (b : Trip) : Option (Bool) :=
  (if (a.Common == b.Common) = true then
    (f9 a.Out b.Out >>= fun r2 =>
    if r2 = true then
      (f9 a.In b.In >>= fun r3 =>
      some r3)
    else
      some false)
  else
    some false : Option (Bool)) >>= fun o1 =>
  some o1

noncomputable def f15_ci : CI := (CI.or 9 f9_tbl (fun _ _ _ => none))
theorem f15_ci_ok (base : Nat) : CIOK E base f15_ci := (or_ok f9_tbl_ok no_ok)
theorem f15_res : Try.f15.results = #[.tmp 4] := rfl
theorem f15_rt : Try.f15.resultTypes = #[4] := rfl

set_option maxHeartbeats 4000000 in
theorem f15_ok (a : Trip) (b : Trip) (r : Bool) (h : f15 a b = some r) : PureOK E 15 [.agg [.v (.int .i64 a.Common), .sl (List.map (cInt .i64) a.Out), .sl (List.map (cInt .i64) a.In)], .agg [.v (.int .i64 b.Common), .sl (List.map (cInt .i64) b.Out), .sl (List.map (cInt .i64) b.In)]] (.v (.bool r)) := by
  unfold f15 at h
  refine pure_of_wp tabOK mixed (fn := Try.f15) (nt := 24) Try.func15 rfl rfl (names _ _ Try.func15) rfl rfl (fun _ => rfl) (fun base c00 hU => ?_)
  refine Wk.wp (s2 := ⟨.agg [.v (.int .i64 a.Common), .sl (List.map (cInt .i64) a.Out), .sl (List.map (cInt .i64) a.In)] :: .agg [.v (.int .i64 b.Common), .sl (List.map (cInt .i64) b.Out), .sl (List.map (cInt .i64) b.In)] :: jj 22 [], St [], none, 0⟩) ?_ ?_
  · refine Wk.weak hU [] _ (by decide) .nil ?_
    simp only [jjs, List.length_cons, List.length_nil, Nat.reduceAdd, Nat.reduceSub, List.replicate, List.cons_append, List.nil_append]
    repeat' (first | exact WVs.nil | refine WVs.cons ?_ ?_)
    all_goals first | exact WV.junk _ | exact WV.keep rfl | exact .agg rfl (aggKeep rfl)
  try simp only [jjs]
  refine Wp.seq ?_
  refine Wp.region hU (f15_ci_ok _) (by simp (decide := true) (disch := (first | omega | (simp only [List.length_append, List.length_map, List.length_cons, List.length_nil]; omega))) only [evOp, putTm, E_T, E_gl, E_br, tdesc, reduceIte, reduceCtorEq, Nat.reduceAdd, Nat.reduceSub, Nat.reduceLT, Nat.reduceLeDiff, Nat.reduceEqDiff, bxm, tabs, tys]; rfl) ?_
  refine thenN ?_
  obtain ⟨o1, ho1, h⟩ := bind_some h
  refine Wp.seq1 (JP := (fun ex s1 => ex = .nrm ∧ Wk base c00 nilStore s1 ⟨jj 4 (.v (.bool o1) :: jj 19 []), St [], none, 0⟩)) ?_ (fun ex s1 hp => ?_)
  · replace h := ho1
    rcases Bool.eq_false_or_eq_true (a.Common == b.Common) with hg5 | hg5
    · rw [if_t hg5] at h
      obtain ⟨r2, hr2, h⟩ := bind_some h
      have hr2c : ∀ σ, f15_ci 9 [.sl (List.map (cInt .i64) a.Out), .sl (List.map (cInt .i64) b.Out)] σ = some (.v (.bool r2), σ, none) := fun σ => f9_call hr2 σ
      rcases Bool.eq_false_or_eq_true (r2) with hg6 | hg6
      · rw [if_t hg6] at h
        obtain ⟨r3, hr3, h⟩ := bind_some h
        have hr3c : ∀ σ, f15_ci 9 [.sl (List.map (cInt .i64) a.In), .sl (List.map (cInt .i64) b.In)] σ = some (.v (.bool r3), σ, none) := fun σ => f9_call hr3 σ
        refine Wp.region hU (f15_ci_ok _) (by simp (decide := true) (disch := (first | omega | (simp only [List.length_append, List.length_map, List.length_cons, List.length_nil]; omega))) only [evOp, putTm, E_T, E_gl, E_br, tdesc, reduceIte, reduceCtorEq, Nat.reduceAdd, Nat.reduceSub, Nat.reduceLT, Nat.reduceLeDiff, Nat.reduceEqDiff, bxm, tabs, fieldPlaceT, evLoad, ldV, ofCells, TD.isAgg, evBin, intBin, strBin, bothNil, constOp, eqCells, evCall, mapO, importL, import2L, import1, import2, share, fresh1, freshL, hr2c, hr3c, hg5, hg6, tys]; rfl) ?_
        obtain rfl := Option.some.inj h
        refine ⟨rfl, ?_⟩
        try simp only [jjs]
        refine Wk.weak hU [] _ (by decide) ?_ ?_
        · exact .nil
        · (repeat' (first | exact WVs.nil | refine WVs.cons ?_ ?_ | (refine WVs.aggW ?_) | (refine WVs.fnW ?_ ?_))) <;> (first | exact WV.junk _ | exact WV.keep rfl | exact WV.row rfl | exact WV.nil rfl | exact WV.nilsl | exact WV.emp rfl | exact WV.empsl | exact WV.ptr rfl | (refine WV.row_eq rfl ?_; simp only [bxw, tys]) | (refine WV.view (k := 3) ?_; simp (decide := true) only [reify, share, fresh1, reduceIte, reduceCtorEq, Nat.reduceAdd, bxm, tys]) | (refine WV.eq ?_ rfl; simp only [bxw, tys]))
      · rw [if_f hg6] at h
        refine Wp.region hU (f15_ci_ok _) (by simp (decide := true) (disch := (first | omega | (simp only [List.length_append, List.length_map, List.length_cons, List.length_nil]; omega))) only [evOp, putTm, E_T, E_gl, E_br, tdesc, reduceIte, reduceCtorEq, Nat.reduceAdd, Nat.reduceSub, Nat.reduceLT, Nat.reduceLeDiff, Nat.reduceEqDiff, bxm, tabs, fieldPlaceT, evLoad, ldV, ofCells, TD.isAgg, evBin, intBin, strBin, bothNil, constOp, eqCells, evCall, mapO, importL, import2L, import1, import2, share, fresh1, freshL, hr2c, hg5, hg6, tys]; rfl) ?_
        obtain rfl := Option.some.inj h
        refine ⟨rfl, ?_⟩
        try simp only [jjs]
        refine Wk.weak hU [] _ (by decide) ?_ ?_
        · exact .nil
        · (repeat' (first | exact WVs.nil | refine WVs.cons ?_ ?_ | (refine WVs.aggW ?_) | (refine WVs.fnW ?_ ?_))) <;> (first | exact WV.junk _ | exact WV.keep rfl | exact WV.row rfl | exact WV.nil rfl | exact WV.nilsl | exact WV.emp rfl | exact WV.empsl | exact WV.ptr rfl | (refine WV.row_eq rfl ?_; simp only [bxw, tys]) | (refine WV.view (k := 3) ?_; simp (decide := true) only [reify, share, fresh1, reduceIte, reduceCtorEq, Nat.reduceAdd, bxm, tys]) | (refine WV.eq ?_ rfl; simp only [bxw, tys]))
    · rw [if_f hg5] at h
      refine Wp.region hU (f15_ci_ok _) (by simp (decide := true) (disch := (first | omega | (simp only [List.length_append, List.length_map, List.length_cons, List.length_nil]; omega))) only [evOp, putTm, E_T, E_gl, E_br, tdesc, reduceIte, reduceCtorEq, Nat.reduceAdd, Nat.reduceSub, Nat.reduceLT, Nat.reduceLeDiff, Nat.reduceEqDiff, bxm, tabs, fieldPlaceT, evLoad, ldV, ofCells, TD.isAgg, evBin, intBin, strBin, bothNil, constOp, eqCells, evCall, mapO, importL, import2L, import1, import2, share, fresh1, freshL, hg5, tys]; rfl) ?_
      obtain rfl := Option.some.inj h
      refine ⟨rfl, ?_⟩
      try simp only [jjs]
      refine Wk.weak hU [] _ (by decide) ?_ ?_
      · exact .nil
      · (repeat' (first | exact WVs.nil | refine WVs.cons ?_ ?_ | (refine WVs.aggW ?_) | (refine WVs.fnW ?_ ?_))) <;> (first | exact WV.junk _ | exact WV.keep rfl | exact WV.row rfl | exact WV.nil rfl | exact WV.nilsl | exact WV.emp rfl | exact WV.empsl | exact WV.ptr rfl | (refine WV.row_eq rfl ?_; simp only [bxw, tys]) | (refine WV.view (k := 3) ?_; simp (decide := true) only [reify, share, fresh1, reduceIte, reduceCtorEq, Nat.reduceAdd, bxm, tys]) | (refine WV.eq ?_ rfl; simp only [bxw, tys]))
  · obtain ⟨rfl, hp⟩ := hp
    refine thenN (hp.wp ?_)
    try simp only [jjs]
    refine Wp.ret ?_
    obtain rfl := Option.some.inj h
    refine ⟨.inl rfl, ?_⟩
    refine Rt.of ?_
    simp (decide := true) only [evReturn, retShare, evReturn0, resAV, evLoad, ofCells, TD.isAgg, mapO, exportVs, exportV, exportL, export1, rowsOf, rowOf, innerIds, rowIds, one, closed, share, fresh1, E_T, reduceIte, reduceCtorEq, Nat.reduceAdd, Nat.reduceSub, Nat.reduceLT, Nat.reduceLeDiff, Nat.reduceEqDiff, bxm, tabs, List.map_append, f15_res, f15_rt, tys]

noncomputable def f15_tbl : CI := tbl 15 (fun p : Trip × Trip => [.agg [.v (.int .i64 p.1.Common), .sl (List.map (cInt .i64) p.1.Out), .sl (List.map (cInt .i64) p.1.In)], .agg [.v (.int .i64 p.2.Common), .sl (List.map (cInt .i64) p.2.Out), .sl (List.map (cInt .i64) p.2.In)]]) (fun p => (f15 p.1 p.2).map fun r => .v (.bool r))
theorem f15_tbl_ok {base : Nat} : CIOK E base f15_tbl := tbl_ok fun p r h => by obtain ⟨q, hq, rfl⟩ := Option.map_eq_some_iff.1 h; exact f15_ok p.1 p.2 q hq
theorem f15_call {a : Trip} {b : Trip} {r : Bool} (h : f15 a b = some r) (σ : Store) : f15_tbl 15 [.agg [.v (.int .i64 a.Common), .sl (List.map (cInt .i64) a.Out), .sl (List.map (cInt .i64) a.In)], .agg [.v (.int .i64 b.Common), .sl (List.map (cInt .i64) b.Out), .sl (List.map (cInt .i64) b.In)]] σ = some (.v (.bool r), σ, none) :=
  tbl_eq (x := (a, b)) (fun x y e => by
    obtain ⟨x0, x1⟩ := x; obtain ⟨y0, y1⟩ := y
    have e0 := av_agg injTrip (List.cons.inj e).1
    have e1 := av_agg injTrip (List.cons.inj (List.cons.inj e).2).1
    subst e0 e1; rfl) (by simp [h]) σ
end Go.Bx.Wind

/- sibyl/sibyllaw15.winds, printed by pf.py. (Own text.) -/
namespace Go.Bx.Wind
set_option linter.unusedVariables false
set_option linter.unusedSimpArgs false
set_option linter.unusedSectionVars false
open Go.Proofs
set_option linter.unusedSimpArgs false
set_option linter.unusedVariables false
set_option maxRecDepth 10000
def f22_l0 (l : List Int) (out : List Frame) (v : Int) : Option ((List Frame)) :=
  if (decide (v < (l.length : Int))) = true then
    (rd l v >>= fun e3 =>
    ap 40 out [(⟨2, e3, []⟩ : Frame)] >>= fun a4 =>
    f22_l0 l a4 (IntKind.i64.wrap (v + 1)))
  else
    some out
  partial_fixpoint

/-- sibyl/sibyllaw15.winds -/
def f22 (l : List Int) : Option (List Frame) :=
  f22_l0 l [] 0 >>= fun o1 =>
  some o1

theorem f22_res : Try.f22.results = #[.tmp 2] := rfl
theorem f22_rt : Try.f22.resultTypes = #[22] := rfl

set_option maxHeartbeats 4000000 in
theorem f22_l0_ok {base : Nat} {c00 : Ctx} (hU : Under E base c00 nilStore) (l : List Int) : ∀ (out : List Frame) (v : Int) (o1 : (List Frame)), f22_l0 l out v = some o1 →
    WpL E base c00 nilStore (lb Try.f22 0) ⟨.sl (List.map (cInt .i64) l) :: jj 2 (.row 0 3 0 ((out).length) :: jj 2 (.v (.int .i64 (l.length : Int)) :: .v (.int .i64 v) :: jj 12 [])), St [some ⟨3, false, true, List.map cFrame out⟩], none, 0⟩ (fun ex s1 => ex = .exit 0 ∧ Wk base c00 nilStore s1 ⟨jj 3 (.row 0 3 0 ((o1).length) :: jj 16 []), St [some ⟨3, false, true, List.map cFrame o1⟩], none, 0⟩) := by
  refine f22_l0.partial_correctness l (fun out v o1 => WpL E base c00 nilStore (lb Try.f22 0) ⟨.sl (List.map (cInt .i64) l) :: jj 2 (.row 0 3 0 ((out).length) :: jj 2 (.v (.int .i64 (l.length : Int)) :: .v (.int .i64 v) :: jj 12 [])), St [some ⟨3, false, true, List.map cFrame out⟩], none, 0⟩ (fun ex s1 => ex = .exit 0 ∧ Wk base c00 nilStore s1 ⟨jj 3 (.row 0 3 0 ((o1).length) :: jj 16 []), St [some ⟨3, false, true, List.map cFrame o1⟩], none, 0⟩)) ?_
  intro lp__ ih out v o1 h
  refine WpL.stepE (by simp only [Try.f22, lb, Option.getD_some, loopsOf, List.nil_append, List.append_nil, List.cons_append, List.getElem?_cons_zero, List.getElem?_cons_succ]; rfl) ?_
  try simp only [jjs]
  refine Wp.seq ?_
  refine Wp.region hU no_ok (by simp (decide := true) (disch := (first | omega | (simp only [List.length_append, List.length_map, List.length_cons, List.length_nil]; omega))) only [evOp, putTm, E_T, E_gl, E_br, tdesc, reduceIte, reduceCtorEq, Nat.reduceAdd, Nat.reduceSub, Nat.reduceLT, Nat.reduceLeDiff, Nat.reduceEqDiff, bxm, tabs, evBin, intBin, strBin, bothNil, constOp, eqCells, tys]; rfl) ?_
  refine thenN ?_
  refine Wp.seq ?_
  refine Wp.cond hU (t := decide (v < (l.length : Int))) rfl (fun hc2 => ?_) (fun hc2 => ?_)
  · rw [if_t hc2] at h
    refine Wp.skip ?_
    refine thenN ?_
    refine Wp.seq ?_
    refine Wp.block ?_
    refine Wp.seq ?_
    refine Wp.region hU no_ok (by simp (decide := true) (disch := (first | omega | (simp only [List.length_append, List.length_map, List.length_cons, List.length_nil]; omega))) only [evOp, putTm, E_T, E_gl, E_br, tdesc, reduceIte, reduceCtorEq, Nat.reduceAdd, Nat.reduceSub, Nat.reduceLT, Nat.reduceLeDiff, Nat.reduceEqDiff, bxm, tabs, hc2, tys]; rfl) ?_
    refine thenN ?_
    obtain ⟨e3, he3, h⟩ := bind_some h
    obtain ⟨he3a, he3b, he3c⟩ := rd_some he3
    obtain ⟨a4, ha4, h⟩ := bind_some h
    obtain ⟨ha4a, ha4b⟩ := ap_some ha4
    try simp only [List.length_cons, List.length_nil, Nat.zero_add, Nat.add_zero, Nat.reduceAdd] at ha4a
    refine Wp.region hU no_ok (by simp (decide := true) (disch := (first | omega | (simp only [List.length_append, List.length_map, List.length_cons, List.length_nil]; omega))) only [evOp, putTm, E_T, E_gl, E_br, tdesc, reduceIte, reduceCtorEq, Nat.reduceAdd, Nat.reduceSub, Nat.reduceLT, Nat.reduceLeDiff, Nat.reduceEqDiff, bxm, tabs, indexAddrAV, evLoad, ldV, ofCells, TD.isAgg, evA, fillL, putAt, evAppend, elems, flatOf, he3a, he3b, he3c, ha4a, hc2, tys]; rfl) ?_
    refine blkN ?_
    refine thenN ?_
    refine Wk.wp (s2 := ⟨.sl (List.map (cInt .i64) l) :: jj 2 (.row 0 3 0 ((a4).length) :: jj 2 (.v (.int .i64 (l.length : Int)) :: .v (.int .i64 v) :: jj 12 [])), St [some ⟨3, false, true, List.map cFrame a4⟩], none, 0⟩) ?_ ?_
    · try simp only [jjs]
      refine Wk.weak hU [some 2] _ (by decide) ?_ ?_
      · refine .obj rfl ?_ ?_
        · refine WO.grow (c := cFrame) (l := out) (ys := [[.v (.int .i64 2), .v (.int .i64 e3), .sl []]]) plFrame ?_ rfl ?_
          · repeat' (first | exact WL.nil | refine WL.cons ?_ ?_)
            all_goals (repeat' (first | exact WVs.nil | refine WVs.cons ?_ ?_ | (refine WVs.aggW ?_) | (refine WVs.fnW ?_ ?_))) <;> (first | exact WV.junk _ | exact WV.keep rfl | exact WV.row rfl | exact WV.nil rfl | exact WV.nilsl | exact WV.emp rfl | exact WV.empsl | exact WV.ptr rfl | (refine WV.row_eq rfl ?_; simp only [bxw, ha4b, tys]) | (refine WV.view (k := 3) ?_; simp (decide := true) only [reify, share, fresh1, reduceIte, reduceCtorEq, Nat.reduceAdd, bxm, tys]) | (refine WV.eq ?_ rfl; simp only [bxw, ha4b, tys]))
          · simp only [bxw, ha4b, tys]
        exact .nil
      · (repeat' (first | exact WVs.nil | refine WVs.cons ?_ ?_ | (refine WVs.aggW ?_) | (refine WVs.fnW ?_ ?_))) <;> (first | exact WV.junk _ | exact WV.keep rfl | exact WV.row rfl | exact WV.nil rfl | exact WV.nilsl | exact WV.emp rfl | exact WV.empsl | exact WV.ptr rfl | (refine WV.row_eq rfl ?_; simp only [bxw, ha4b, tys]) | (refine WV.view (k := 3) ?_; simp (decide := true) only [reify, share, fresh1, reduceIte, reduceCtorEq, Nat.reduceAdd, bxm, tys]) | (refine WV.eq ?_ rfl; simp only [bxw, ha4b, tys]))
    try simp only [jjs]
    refine Wp.region hU no_ok (by simp (decide := true) (disch := (first | omega | (simp only [List.length_append, List.length_map, List.length_cons, List.length_nil]; omega))) only [evOp, putTm, E_T, E_gl, E_br, tdesc, reduceIte, reduceCtorEq, Nat.reduceAdd, Nat.reduceSub, Nat.reduceLT, Nat.reduceLeDiff, Nat.reduceEqDiff, bxm, tabs, evBin, intBin, strBin, bothNil, constOp, eqCells, hc2, tys]; rfl) ?_
    refine againN ?_
    refine Wk.wpL ?_ (ih a4 (IntKind.i64.wrap (v + 1)) _ h)
    try simp only [jjs]
    refine Wk.weak hU [some 0] _ (by decide) ?_ ?_
    · refine .obj rfl ?_ ?_
      · first | exact .same _ _ _ | (refine WO.same_eq ?_; simp only [bxw, ha4b, tys]; done)
      exact .nil
    · (repeat' (first | exact WVs.nil | refine WVs.cons ?_ ?_ | (refine WVs.aggW ?_) | (refine WVs.fnW ?_ ?_))) <;> (first | exact WV.junk _ | exact WV.keep rfl | exact WV.row rfl | exact WV.nil rfl | exact WV.nilsl | exact WV.emp rfl | exact WV.empsl | exact WV.ptr rfl | (refine WV.row_eq rfl ?_; simp only [bxw, ha4b, tys]) | (refine WV.view (k := 3) ?_; simp (decide := true) only [reify, share, fresh1, reduceIte, reduceCtorEq, Nat.reduceAdd, bxm, tys]) | (refine WV.eq ?_ rfl; simp only [bxw, ha4b, tys]))
  · rw [if_f hc2] at h
    refine Wp.exit ?_
    refine thenE ?_
    refine againE ?_
    obtain rfl := Option.some.inj h
    refine ⟨rfl, ?_⟩
    try simp only [jjs]
    refine Wk.weak hU [some 0] _ (by decide) ?_ ?_
    · refine .obj rfl ?_ ?_
      · first | exact .same _ _ _ | (refine WO.same_eq ?_; simp only [bxw, tys]; done)
      exact .nil
    · (repeat' (first | exact WVs.nil | refine WVs.cons ?_ ?_ | (refine WVs.aggW ?_) | (refine WVs.fnW ?_ ?_))) <;> (first | exact WV.junk _ | exact WV.keep rfl | exact WV.row rfl | exact WV.nil rfl | exact WV.nilsl | exact WV.emp rfl | exact WV.empsl | exact WV.ptr rfl | (refine WV.row_eq rfl ?_; simp only [bxw, tys]) | (refine WV.view (k := 3) ?_; simp (decide := true) only [reify, share, fresh1, reduceIte, reduceCtorEq, Nat.reduceAdd, bxm, tys]) | (refine WV.eq ?_ rfl; simp only [bxw, tys]))

set_option maxHeartbeats 4000000 in
theorem f22_ok (l : List Int) (r : List Frame) (h : f22 l = some r) : PureOK E 22 [.sl (List.map (cInt .i64) l)] (.own false 3 (List.map cFrame r)) := by
  unfold f22 at h
  refine pure_of_wp tabOK mixed (fn := Try.f22) (nt := 20) Try.func22 rfl rfl (names _ _ Try.func22) rfl rfl (fun _ => rfl) (fun base c00 hU => ?_)
  refine Wk.wp (s2 := ⟨.sl (List.map (cInt .i64) l) :: jj 19 [], St [], none, 0⟩) ?_ ?_
  · refine Wk.weak hU [] _ (by decide) .nil ?_
    simp only [jjs, List.length_cons, List.length_nil, Nat.reduceAdd, Nat.reduceSub, List.replicate, List.cons_append, List.nil_append]
    repeat' (first | exact WVs.nil | refine WVs.cons ?_ ?_)
    all_goals first | exact WV.junk _ | exact WV.keep rfl | exact .agg rfl (aggKeep rfl)
  try simp only [jjs]
  refine Wp.seq ?_
  refine Wp.region hU no_ok (by simp (decide := true) (disch := (first | omega | (simp only [List.length_append, List.length_map, List.length_cons, List.length_nil]; omega))) only [evOp, putTm, E_T, E_gl, E_br, tdesc, reduceIte, reduceCtorEq, Nat.reduceAdd, Nat.reduceSub, Nat.reduceLT, Nat.reduceLeDiff, Nat.reduceEqDiff, bxm, tabs, tys]; rfl) ?_
  refine thenN ?_
  refine Wp.seq ?_
  refine Wp.region hU no_ok (by simp (decide := true) (disch := (first | omega | (simp only [List.length_append, List.length_map, List.length_cons, List.length_nil]; omega))) only [evOp, putTm, E_T, E_gl, E_br, tdesc, reduceIte, reduceCtorEq, Nat.reduceAdd, Nat.reduceSub, Nat.reduceLT, Nat.reduceLeDiff, Nat.reduceEqDiff, bxm, tabs, tys]; rfl) ?_
  refine thenN ?_
  refine Wp.seq ?_
  refine Wp.seq ?_
  refine Wp.region hU no_ok (by simp (decide := true) (disch := (first | omega | (simp only [List.length_append, List.length_map, List.length_cons, List.length_nil]; omega))) only [evOp, putTm, E_T, E_gl, E_br, tdesc, reduceIte, reduceCtorEq, Nat.reduceAdd, Nat.reduceSub, Nat.reduceLT, Nat.reduceLeDiff, Nat.reduceEqDiff, bxm, tabs, evA, lenAV, tys]; rfl) ?_
  refine thenN ?_
  refine Wp.block ?_
  obtain ⟨o1, ho1, h⟩ := bind_some h
  refine Wp.loop ?_
  refine Tw.mono (Wk.wpL (s2 := ⟨.sl (List.map (cInt .i64) l) :: jj 2 (.row 0 3 0 (([]).length) :: jj 2 (.v (.int .i64 (l.length : Int)) :: .v (.int .i64 0) :: jj 12 [])), St [some ⟨3, false, true, List.map cFrame []⟩], none, 0⟩) ?_ (f22_l0_ok hU l [] 0 o1 ho1)) (fun ex s1 hp => ?_)
  · try simp only [jjs]
    refine Wk.weak hU [none] _ (by decide) ?_ ?_
    · refine .virt ?_
      exact .nil
    · (repeat' (first | exact WVs.nil | refine WVs.cons ?_ ?_ | (refine WVs.aggW ?_) | (refine WVs.fnW ?_ ?_))) <;> (first | exact WV.junk _ | exact WV.keep rfl | exact WV.row rfl | exact WV.nil rfl | exact WV.nilsl | exact WV.emp rfl | exact WV.empsl | exact WV.ptr rfl | (refine WV.row_eq rfl ?_; simp only [bxw, tys]) | (refine WV.view (k := 3) ?_; simp (decide := true) only [reify, share, fresh1, reduceIte, reduceCtorEq, Nat.reduceAdd, bxm, tys]) | (refine WV.eq ?_ rfl; simp only [bxw, tys]))
  · obtain ⟨rfl, hp⟩ := hp
    refine blkE ?_
    refine thenN ?_
    refine hp.wp ?_
    try simp only [jjs]
    refine Wp.seq ?_
    refine Wp.region hU no_ok (by simp (decide := true) (disch := (first | omega | (simp only [List.length_append, List.length_map, List.length_cons, List.length_nil]; omega))) only [evOp, putTm, E_T, E_gl, E_br, tdesc, reduceIte, reduceCtorEq, Nat.reduceAdd, Nat.reduceSub, Nat.reduceLT, Nat.reduceLeDiff, Nat.reduceEqDiff, bxm, tabs, tys]; rfl) ?_
    refine thenN ?_
    refine Wp.ret ?_
    obtain rfl := Option.some.inj h
    refine ⟨.inl rfl, ?_⟩
    refine Rt.of ?_
    simp (decide := true) only [evReturn, retShare, evReturn0, resAV, evLoad, ofCells, TD.isAgg, mapO, exportVs, exportV, exportL, export1, rowsOf, rowOf, innerIds, rowIds, one, closed, share, fresh1, E_T, reduceIte, reduceCtorEq, Nat.reduceAdd, Nat.reduceSub, Nat.reduceLT, Nat.reduceLeDiff, Nat.reduceEqDiff, bxm, tabs, List.map_append, f22_res, f22_rt, tys]

noncomputable def f22_tbl : CI := tbl 22 (fun p : (List Int) => [.sl (List.map (cInt .i64) p)]) (fun p => (f22 p).map fun r => .own false 3 (List.map cFrame r))
theorem f22_tbl_ok {base : Nat} : CIOK E base f22_tbl := tbl_ok fun p r h => by obtain ⟨q, hq, rfl⟩ := Option.map_eq_some_iff.1 h; exact f22_ok p q hq
theorem f22_call {l : List Int} {r : List Frame} (h : f22 l = some r) (σ : Store) : f22_tbl 22 [.sl (List.map (cInt .i64) l)] σ = some (.own false 3 (List.map cFrame r), σ, none) :=
  tbl_eq (x := (l)) (fun x y e => by
    exact av_sl inj_int (List.cons.inj e).1) (by simp [h]) σ
end Go.Bx.Wind

/- sibyl/sibyllaw15.Frames, printed by pf.py. (Own text.) -/
namespace Go.Bx.Wind
set_option linter.unusedVariables false
set_option linter.unusedSimpArgs false
set_option linter.unusedSectionVars false
open Go.Proofs
set_option linter.unusedSimpArgs false
set_option linter.unusedVariables false
set_option maxRecDepth 10000
def f11_l0 (l : List Frame) (out : List Frame) (v : Int) : Option ((List Frame)) :=
  if (decide (v < (l.length : Int))) = true then
    (rd l v >>= fun e3 =>
    ap 8 [] e3.Hs >>= fun a4 =>
    ap 40 out [(⟨e3.Kind, e3.Id, a4⟩ : Frame)] >>= fun a5 =>
    f11_l0 l a5 (IntKind.i64.wrap (v + 1)))
  else
    some out
  partial_fixpoint

/-- sibyl/sibyllaw15.Frames -/
def f11 (l : List Frame) : Option (List Frame) :=
  f11_l0 l [] 0 >>= fun o1 =>
  some o1

theorem f11_res : Try.f11.results = #[.tmp 2] := rfl
theorem f11_rt : Try.f11.resultTypes = #[22] := rfl

set_option maxHeartbeats 4000000 in
theorem f11_l0_ok {base : Nat} {c00 : Ctx} (hU : Under E base c00 nilStore) (l : List Frame) : ∀ (out : List Frame) (v : Int) (o1 : (List Frame)), f11_l0 l out v = some o1 →
    WpL E base c00 nilStore (lb Try.f11 0) ⟨.sl (List.map cFrame l) :: jj 2 (.row 0 3 0 ((out).length) :: jj 3 (.v (.int .i64 (l.length : Int)) :: .v (.int .i64 v) :: jj 17 [])), St [some ⟨3, false, true, List.map cFrame out⟩], none, 0⟩ (fun ex s1 => ex = .exit 0 ∧ Wk base c00 nilStore s1 ⟨jj 3 (.row 0 3 0 ((o1).length) :: jj 22 []), St [some ⟨3, false, true, List.map cFrame o1⟩], none, 0⟩) := by
  refine f11_l0.partial_correctness l (fun out v o1 => WpL E base c00 nilStore (lb Try.f11 0) ⟨.sl (List.map cFrame l) :: jj 2 (.row 0 3 0 ((out).length) :: jj 3 (.v (.int .i64 (l.length : Int)) :: .v (.int .i64 v) :: jj 17 [])), St [some ⟨3, false, true, List.map cFrame out⟩], none, 0⟩ (fun ex s1 => ex = .exit 0 ∧ Wk base c00 nilStore s1 ⟨jj 3 (.row 0 3 0 ((o1).length) :: jj 22 []), St [some ⟨3, false, true, List.map cFrame o1⟩], none, 0⟩)) ?_
  intro lp__ ih out v o1 h
  refine WpL.stepE (by simp only [Try.f11, lb, Option.getD_some, loopsOf, List.nil_append, List.append_nil, List.cons_append, List.getElem?_cons_zero, List.getElem?_cons_succ]; rfl) ?_
  try simp only [jjs]
  refine Wp.seq ?_
  refine Wp.region hU no_ok (by simp (decide := true) (disch := (first | omega | (simp only [List.length_append, List.length_map, List.length_cons, List.length_nil]; omega))) only [evOp, putTm, E_T, E_gl, E_br, tdesc, reduceIte, reduceCtorEq, Nat.reduceAdd, Nat.reduceSub, Nat.reduceLT, Nat.reduceLeDiff, Nat.reduceEqDiff, bxm, tabs, evBin, intBin, strBin, bothNil, constOp, eqCells, tys]; rfl) ?_
  refine thenN ?_
  refine Wp.seq ?_
  refine Wp.cond hU (t := decide (v < (l.length : Int))) rfl (fun hc2 => ?_) (fun hc2 => ?_)
  · rw [if_t hc2] at h
    refine Wp.skip ?_
    refine thenN ?_
    refine Wp.seq ?_
    refine Wp.block ?_
    refine Wp.seq ?_
    refine Wp.region hU no_ok (by simp (decide := true) (disch := (first | omega | (simp only [List.length_append, List.length_map, List.length_cons, List.length_nil]; omega))) only [evOp, putTm, E_T, E_gl, E_br, tdesc, reduceIte, reduceCtorEq, Nat.reduceAdd, Nat.reduceSub, Nat.reduceLT, Nat.reduceLeDiff, Nat.reduceEqDiff, bxm, tabs, hc2, tys]; rfl) ?_
    refine thenN ?_
    refine Wp.seq ?_
    obtain ⟨e3, he3, h⟩ := bind_some h
    obtain ⟨he3a, he3b, he3c⟩ := rd_some he3
    refine Wp.region hU no_ok (by simp (decide := true) (disch := (first | omega | (simp only [List.length_append, List.length_map, List.length_cons, List.length_nil]; omega))) only [evOp, putTm, E_T, E_gl, E_br, tdesc, reduceIte, reduceCtorEq, Nat.reduceAdd, Nat.reduceSub, Nat.reduceLT, Nat.reduceLeDiff, Nat.reduceEqDiff, bxm, tabs, indexAddrAV, evLoad, ldV, ofCells, TD.isAgg, evStore, putAt, he3a, he3b, he3c, hc2, tys]; rfl) ?_
    refine thenN ?_
    refine Wp.seq ?_
    obtain ⟨a4, ha4, h⟩ := bind_some h
    obtain ⟨ha4a, ha4b⟩ := ap_some ha4
    try simp only [List.length_cons, List.length_nil, Nat.zero_add, Nat.add_zero, Nat.reduceAdd] at ha4a
    refine Wp.region hU no_ok (by simp (decide := true) (disch := (first | omega | (simp only [List.length_append, List.length_map, List.length_cons, List.length_nil]; omega))) only [evOp, putTm, E_T, E_gl, E_br, tdesc, reduceIte, reduceCtorEq, Nat.reduceAdd, Nat.reduceSub, Nat.reduceLT, Nat.reduceLeDiff, Nat.reduceEqDiff, bxm, tabs, evA, fieldPlaceT, evLoad, ldV, ofCells, TD.isAgg, evAppend, elems, flatOf, evStore, putAt, ha4a, hc2, tys]; rfl) ?_
    refine thenN ?_
    refine Wk.wp (s2 := ⟨.sl (List.map cFrame l) :: jj 2 (.row 0 3 0 ((out).length) :: jj 1 (.ptr 1 0 0 :: jj 1 (.v (.int .i64 (l.length : Int)) :: .v (.int .i64 v) :: jj 17 []))), St [some ⟨3, false, true, List.map cFrame out⟩, some ⟨3, false, false, [[.v (.int .i64 e3.Kind), .v (.int .i64 e3.Id), .row 2 1 0 ((a4).length)]]⟩, some ⟨1, false, true, List.map (cInt .i64) a4⟩], none, 0⟩) ?_ ?_
    · try simp only [jjs]
      refine Wk.weak hU [some 0, some 1, some 3] _ (by decide) ?_ ?_
      · refine .obj rfl ?_ ?_
        · first | exact .same _ _ _ | (refine WO.same_eq ?_; simp only [bxw, ha4b, tys]; done)
        refine .obj rfl ?_ ?_
        · refine .mk ?_ (by simp only [bxm, leaf_ptr]) nofun
          refine .cons ?_ .nil
          (repeat' (first | exact WVs.nil | refine WVs.cons ?_ ?_ | (refine WVs.aggW ?_) | (refine WVs.fnW ?_ ?_))) <;> (first | exact WV.junk _ | exact WV.keep rfl | exact WV.row rfl | exact WV.nil rfl | exact WV.nilsl | exact WV.emp rfl | exact WV.empsl | exact WV.ptr rfl | (refine WV.row_eq rfl ?_; simp only [bxw, ha4b, tys]) | (refine WV.view (k := 3) ?_; simp (decide := true) only [reify, share, fresh1, reduceIte, reduceCtorEq, Nat.reduceAdd, bxm, tys]) | (refine WV.eq ?_ rfl; simp only [bxw, ha4b, tys]))
        refine .obj rfl ?_ ?_
        · first | exact .same _ _ _ | (refine WO.same_eq ?_; simp only [bxw, ha4b, tys]; done)
        exact .nil
      · (repeat' (first | exact WVs.nil | refine WVs.cons ?_ ?_ | (refine WVs.aggW ?_) | (refine WVs.fnW ?_ ?_))) <;> (first | exact WV.junk _ | exact WV.keep rfl | exact WV.row rfl | exact WV.nil rfl | exact WV.nilsl | exact WV.emp rfl | exact WV.empsl | exact WV.ptr rfl | (refine WV.row_eq rfl ?_; simp only [bxw, ha4b, tys]) | (refine WV.view (k := 3) ?_; simp (decide := true) only [reify, share, fresh1, reduceIte, reduceCtorEq, Nat.reduceAdd, bxm, tys]) | (refine WV.eq ?_ rfl; simp only [bxw, ha4b, tys]))
    try simp only [jjs]
    obtain ⟨a5, ha5, h⟩ := bind_some h
    obtain ⟨ha5a, ha5b⟩ := ap_some ha5
    try simp only [List.length_cons, List.length_nil, Nat.zero_add, Nat.add_zero, Nat.reduceAdd] at ha5a
    refine Wp.region hU no_ok (by simp (decide := true) (disch := (first | omega | (simp only [List.length_append, List.length_map, List.length_cons, List.length_nil]; omega))) only [evOp, putTm, E_T, E_gl, E_br, tdesc, reduceIte, reduceCtorEq, Nat.reduceAdd, Nat.reduceSub, Nat.reduceLT, Nat.reduceLeDiff, Nat.reduceEqDiff, bxm, tabs, evLoad, ldV, ofCells, TD.isAgg, evA, evAppend, elems, flatOf, ha5a, hc2, tys]; rfl) ?_
    refine blkN ?_
    refine thenN ?_
    refine Wk.wp (s2 := ⟨.sl (List.map cFrame l) :: jj 2 (.row 0 3 0 ((a5).length) :: jj 3 (.v (.int .i64 (l.length : Int)) :: .v (.int .i64 v) :: jj 17 [])), St [some ⟨3, false, true, List.map cFrame a5⟩], none, 0⟩) ?_ ?_
    · refine Wk.share hU [2] ?_
      simp (decide := true) only [share, fresh1, reduceIte, reduceCtorEq, Nat.reduceAdd, bxm]
      try simp only [jjs]
      refine Wk.weak hU [some 4] _ (by decide) ?_ ?_
      · refine .obj rfl ?_ ?_
        · refine WO.grow (c := cFrame) (l := out) (ys := [[.v (.int .i64 e3.Kind), .v (.int .i64 e3.Id), .sl (List.map (cInt .i64) a4)]]) plFrame ?_ rfl ?_
          · repeat' (first | exact WL.nil | refine WL.cons ?_ ?_)
            all_goals (repeat' (first | exact WVs.nil | refine WVs.cons ?_ ?_ | (refine WVs.aggW ?_) | (refine WVs.fnW ?_ ?_))) <;> (first | exact WV.junk _ | exact WV.keep rfl | exact WV.row rfl | exact WV.nil rfl | exact WV.nilsl | exact WV.emp rfl | exact WV.empsl | exact WV.ptr rfl | (refine WV.row_eq rfl ?_; simp only [bxw, ha4b, ha5b, tys]) | (refine WV.view (k := 3) ?_; simp (decide := true) only [reify, share, fresh1, reduceIte, reduceCtorEq, Nat.reduceAdd, bxm, tys]) | (refine WV.eq ?_ rfl; simp only [bxw, ha4b, ha5b, tys]))
          · simp only [bxw, ha4b, ha5b, tys]
        exact .nil
      · (repeat' (first | exact WVs.nil | refine WVs.cons ?_ ?_ | (refine WVs.aggW ?_) | (refine WVs.fnW ?_ ?_))) <;> (first | exact WV.junk _ | exact WV.keep rfl | exact WV.row rfl | exact WV.nil rfl | exact WV.nilsl | exact WV.emp rfl | exact WV.empsl | exact WV.ptr rfl | (refine WV.row_eq rfl ?_; simp only [bxw, ha4b, ha5b, tys]) | (refine WV.view (k := 3) ?_; simp (decide := true) only [reify, share, fresh1, reduceIte, reduceCtorEq, Nat.reduceAdd, bxm, tys]) | (refine WV.eq ?_ rfl; simp only [bxw, ha4b, ha5b, tys]))
    try simp only [jjs]
    refine Wp.region hU no_ok (by simp (decide := true) (disch := (first | omega | (simp only [List.length_append, List.length_map, List.length_cons, List.length_nil]; omega))) only [evOp, putTm, E_T, E_gl, E_br, tdesc, reduceIte, reduceCtorEq, Nat.reduceAdd, Nat.reduceSub, Nat.reduceLT, Nat.reduceLeDiff, Nat.reduceEqDiff, bxm, tabs, evBin, intBin, strBin, bothNil, constOp, eqCells, hc2, tys]; rfl) ?_
    refine againN ?_
    refine Wk.wpL ?_ (ih a5 (IntKind.i64.wrap (v + 1)) _ h)
    try simp only [jjs]
    refine Wk.weak hU [some 0] _ (by decide) ?_ ?_
    · refine .obj rfl ?_ ?_
      · first | exact .same _ _ _ | (refine WO.same_eq ?_; simp only [bxw, ha4b, ha5b, tys]; done)
      exact .nil
    · (repeat' (first | exact WVs.nil | refine WVs.cons ?_ ?_ | (refine WVs.aggW ?_) | (refine WVs.fnW ?_ ?_))) <;> (first | exact WV.junk _ | exact WV.keep rfl | exact WV.row rfl | exact WV.nil rfl | exact WV.nilsl | exact WV.emp rfl | exact WV.empsl | exact WV.ptr rfl | (refine WV.row_eq rfl ?_; simp only [bxw, ha4b, ha5b, tys]) | (refine WV.view (k := 3) ?_; simp (decide := true) only [reify, share, fresh1, reduceIte, reduceCtorEq, Nat.reduceAdd, bxm, tys]) | (refine WV.eq ?_ rfl; simp only [bxw, ha4b, ha5b, tys]))
  · rw [if_f hc2] at h
    refine Wp.exit ?_
    refine thenE ?_
    refine againE ?_
    obtain rfl := Option.some.inj h
    refine ⟨rfl, ?_⟩
    try simp only [jjs]
    refine Wk.weak hU [some 0] _ (by decide) ?_ ?_
    · refine .obj rfl ?_ ?_
      · first | exact .same _ _ _ | (refine WO.same_eq ?_; simp only [bxw, tys]; done)
      exact .nil
    · (repeat' (first | exact WVs.nil | refine WVs.cons ?_ ?_ | (refine WVs.aggW ?_) | (refine WVs.fnW ?_ ?_))) <;> (first | exact WV.junk _ | exact WV.keep rfl | exact WV.row rfl | exact WV.nil rfl | exact WV.nilsl | exact WV.emp rfl | exact WV.empsl | exact WV.ptr rfl | (refine WV.row_eq rfl ?_; simp only [bxw, tys]) | (refine WV.view (k := 3) ?_; simp (decide := true) only [reify, share, fresh1, reduceIte, reduceCtorEq, Nat.reduceAdd, bxm, tys]) | (refine WV.eq ?_ rfl; simp only [bxw, tys]))

set_option maxHeartbeats 4000000 in
theorem f11_ok (l : List Frame) (r : List Frame) (h : f11 l = some r) : PureOK E 11 [.sl (List.map cFrame l)] (.own false 3 (List.map cFrame r)) := by
  unfold f11 at h
  refine pure_of_wp tabOK mixed (fn := Try.f11) (nt := 26) Try.func11 rfl rfl (names _ _ Try.func11) rfl rfl (fun _ => rfl) (fun base c00 hU => ?_)
  refine Wk.wp (s2 := ⟨.sl (List.map cFrame l) :: jj 25 [], St [], none, 0⟩) ?_ ?_
  · refine Wk.weak hU [] _ (by decide) .nil ?_
    simp only [jjs, List.length_cons, List.length_nil, Nat.reduceAdd, Nat.reduceSub, List.replicate, List.cons_append, List.nil_append]
    repeat' (first | exact WVs.nil | refine WVs.cons ?_ ?_)
    all_goals first | exact WV.junk _ | exact WV.keep rfl | exact .agg rfl (aggKeep rfl)
  try simp only [jjs]
  refine Wp.seq ?_
  refine Wp.region hU no_ok (by simp (decide := true) (disch := (first | omega | (simp only [List.length_append, List.length_map, List.length_cons, List.length_nil]; omega))) only [evOp, putTm, E_T, E_gl, E_br, tdesc, reduceIte, reduceCtorEq, Nat.reduceAdd, Nat.reduceSub, Nat.reduceLT, Nat.reduceLeDiff, Nat.reduceEqDiff, bxm, tabs, tys]; rfl) ?_
  refine thenN ?_
  refine Wp.seq ?_
  refine Wp.region hU no_ok (by simp (decide := true) (disch := (first | omega | (simp only [List.length_append, List.length_map, List.length_cons, List.length_nil]; omega))) only [evOp, putTm, E_T, E_gl, E_br, tdesc, reduceIte, reduceCtorEq, Nat.reduceAdd, Nat.reduceSub, Nat.reduceLT, Nat.reduceLeDiff, Nat.reduceEqDiff, bxm, tabs, tys]; rfl) ?_
  refine thenN ?_
  refine Wp.seq ?_
  refine Wp.seq ?_
  refine Wp.region hU no_ok (by simp (decide := true) (disch := (first | omega | (simp only [List.length_append, List.length_map, List.length_cons, List.length_nil]; omega))) only [evOp, putTm, E_T, E_gl, E_br, tdesc, reduceIte, reduceCtorEq, Nat.reduceAdd, Nat.reduceSub, Nat.reduceLT, Nat.reduceLeDiff, Nat.reduceEqDiff, bxm, tabs, evA, lenAV, tys]; rfl) ?_
  refine thenN ?_
  refine Wp.block ?_
  obtain ⟨o1, ho1, h⟩ := bind_some h
  refine Wp.loop ?_
  refine Tw.mono (Wk.wpL (s2 := ⟨.sl (List.map cFrame l) :: jj 2 (.row 0 3 0 (([]).length) :: jj 3 (.v (.int .i64 (l.length : Int)) :: .v (.int .i64 0) :: jj 17 [])), St [some ⟨3, false, true, List.map cFrame []⟩], none, 0⟩) ?_ (f11_l0_ok hU l [] 0 o1 ho1)) (fun ex s1 hp => ?_)
  · try simp only [jjs]
    refine Wk.weak hU [none] _ (by decide) ?_ ?_
    · refine .virt ?_
      exact .nil
    · (repeat' (first | exact WVs.nil | refine WVs.cons ?_ ?_ | (refine WVs.aggW ?_) | (refine WVs.fnW ?_ ?_))) <;> (first | exact WV.junk _ | exact WV.keep rfl | exact WV.row rfl | exact WV.nil rfl | exact WV.nilsl | exact WV.emp rfl | exact WV.empsl | exact WV.ptr rfl | (refine WV.row_eq rfl ?_; simp only [bxw, tys]) | (refine WV.view (k := 3) ?_; simp (decide := true) only [reify, share, fresh1, reduceIte, reduceCtorEq, Nat.reduceAdd, bxm, tys]) | (refine WV.eq ?_ rfl; simp only [bxw, tys]))
  · obtain ⟨rfl, hp⟩ := hp
    refine blkE ?_
    refine thenN ?_
    refine hp.wp ?_
    try simp only [jjs]
    refine Wp.seq ?_
    refine Wp.region hU no_ok (by simp (decide := true) (disch := (first | omega | (simp only [List.length_append, List.length_map, List.length_cons, List.length_nil]; omega))) only [evOp, putTm, E_T, E_gl, E_br, tdesc, reduceIte, reduceCtorEq, Nat.reduceAdd, Nat.reduceSub, Nat.reduceLT, Nat.reduceLeDiff, Nat.reduceEqDiff, bxm, tabs, tys]; rfl) ?_
    refine thenN ?_
    refine Wp.ret ?_
    obtain rfl := Option.some.inj h
    refine ⟨.inl rfl, ?_⟩
    refine Rt.of ?_
    simp (decide := true) only [evReturn, retShare, evReturn0, resAV, evLoad, ofCells, TD.isAgg, mapO, exportVs, exportV, exportL, export1, rowsOf, rowOf, innerIds, rowIds, one, closed, share, fresh1, E_T, reduceIte, reduceCtorEq, Nat.reduceAdd, Nat.reduceSub, Nat.reduceLT, Nat.reduceLeDiff, Nat.reduceEqDiff, bxm, tabs, List.map_append, f11_res, f11_rt, tys]

noncomputable def f11_tbl : CI := tbl 11 (fun p : (List Frame) => [.sl (List.map cFrame p)]) (fun p => (f11 p).map fun r => .own false 3 (List.map cFrame r))
theorem f11_tbl_ok {base : Nat} : CIOK E base f11_tbl := tbl_ok fun p r h => by obtain ⟨q, hq, rfl⟩ := Option.map_eq_some_iff.1 h; exact f11_ok p q hq
theorem f11_call {l : List Frame} {r : List Frame} (h : f11 l = some r) (σ : Store) : f11_tbl 11 [.sl (List.map cFrame l)] σ = some (.own false 3 (List.map cFrame r), σ, none) :=
  tbl_eq (x := (l)) (fun x y e => by
    exact av_sl injFrame (List.cons.inj e).1) (by simp [h]) σ
end Go.Bx.Wind

/- sibyl/sibylref15.Plan, printed by pf.py. (Own text.) -/
namespace Go.Bx.Wind
set_option linter.unusedVariables false
set_option linter.unusedSimpArgs false
set_option linter.unusedSectionVars false
open Go.Proofs
set_option linter.unusedSimpArgs false
set_option linter.unusedVariables false
set_option maxRecDepth 10000
def f17_l0 (r1 : List Int) (r3 : Int) (t_1 : List Int) (i : Int) : Option ((List Int)) :=
  if (decide (i ≥ r3)) = true then
    (rd r1 i >>= fun e6 =>
    ap 8 t_1 [e6] >>= fun a7 =>
    f17_l0 r1 r3 a7 (IntKind.i64.wrap (i - 1)))
  else
    some t_1
  partial_fixpoint

def f17_l1 (r2 : List Int) (t_2 : List Int) (i : Int) : Option ((List Int)) :=
  if (decide (i < (r2.length : Int))) = true then
    (rd r2 i >>= fun e10 =>
    ap 8 t_2 [e10] >>= fun a11 =>
    f17_l1 r2 a11 (IntKind.i64.wrap (i + 1)))
  else
    some t_2
  partial_fixpoint

/-- sibyl/sibylref15.Plan -/
def f17 (from_ : List Frame) (to : List Frame) : Option (Trip) :=
  f12 from_ >>= fun r1 =>
  f12 to >>= fun r2 =>
  f14 from_ to >>= fun r3 =>
  f17_l0 r1 r3 [] (IntKind.i64.wrap ((r1.length : Int) - 1)) >>= fun o4 =>
  f17_l1 r2 [] r3 >>= fun o8 =>
  some (⟨r3, o4, o8⟩ : Trip)

noncomputable def f17_ci : CI := (CI.or 12 f12_tbl (CI.or 14 f14_tbl (fun _ _ _ => none)))
theorem f17_ci_ok (base : Nat) : CIOK E base f17_ci := (or_ok f12_tbl_ok (or_ok f14_tbl_ok no_ok))
theorem f17_res : Try.f17.results = #[.cell 4 31] := rfl
theorem f17_rt : Try.f17.resultTypes = #[31] := rfl

set_option maxHeartbeats 4000000 in
theorem f17_l0_ok {base : Nat} {c00 : Ctx} (hU : Under E base c00 nilStore) (r1 : List Int) (r3 : Int) (r2 : List Int) : ∀ (t_1 : List Int) (i : Int) (o4 : (List Int)), f17_l0 r1 r3 t_1 i = some o4 →
    WpL E base c00 nilStore (lb Try.f17 0) ⟨jj 4 (.ptr 0 0 0 :: .row 1 1 0 ((r1).length) :: .row 2 1 0 ((r2).length) :: .ptr 3 0 0 :: .v (.int .i64 i) :: jj 45 []), St [some ⟨3, false, false, [[.v (.int .i64 0), .v (.slice none 0 0), .v (.slice none 0 0)]]⟩, some ⟨1, false, true, List.map (cInt .i64) r1⟩, some ⟨1, false, true, List.map (cInt .i64) r2⟩, some ⟨3, false, false, [[.v (.int .i64 r3), .row 4 1 0 ((t_1).length), .v (.slice none 0 0)]]⟩, some ⟨1, false, true, List.map (cInt .i64) t_1⟩], none, 0⟩ (fun ex s1 => ex = .exit 0 ∧ Wk base c00 nilStore s1 ⟨jj 4 (.ptr 0 0 0 :: jj 1 (.row 1 1 0 ((r2).length) :: .ptr 2 0 0 :: jj 46 [])), St [some ⟨3, false, false, [[.v (.int .i64 0), .v (.slice none 0 0), .v (.slice none 0 0)]]⟩, some ⟨1, false, true, List.map (cInt .i64) r2⟩, some ⟨3, false, false, [[.v (.int .i64 r3), .row 3 1 0 ((o4).length), .v (.slice none 0 0)]]⟩, some ⟨1, false, true, List.map (cInt .i64) o4⟩], none, 0⟩) := by
  refine f17_l0.partial_correctness r1 r3 (fun t_1 i o4 => WpL E base c00 nilStore (lb Try.f17 0) ⟨jj 4 (.ptr 0 0 0 :: .row 1 1 0 ((r1).length) :: .row 2 1 0 ((r2).length) :: .ptr 3 0 0 :: .v (.int .i64 i) :: jj 45 []), St [some ⟨3, false, false, [[.v (.int .i64 0), .v (.slice none 0 0), .v (.slice none 0 0)]]⟩, some ⟨1, false, true, List.map (cInt .i64) r1⟩, some ⟨1, false, true, List.map (cInt .i64) r2⟩, some ⟨3, false, false, [[.v (.int .i64 r3), .row 4 1 0 ((t_1).length), .v (.slice none 0 0)]]⟩, some ⟨1, false, true, List.map (cInt .i64) t_1⟩], none, 0⟩ (fun ex s1 => ex = .exit 0 ∧ Wk base c00 nilStore s1 ⟨jj 4 (.ptr 0 0 0 :: jj 1 (.row 1 1 0 ((r2).length) :: .ptr 2 0 0 :: jj 46 [])), St [some ⟨3, false, false, [[.v (.int .i64 0), .v (.slice none 0 0), .v (.slice none 0 0)]]⟩, some ⟨1, false, true, List.map (cInt .i64) r2⟩, some ⟨3, false, false, [[.v (.int .i64 r3), .row 3 1 0 ((o4).length), .v (.slice none 0 0)]]⟩, some ⟨1, false, true, List.map (cInt .i64) o4⟩], none, 0⟩)) ?_
  intro lp__ ih t_1 i o4 h
  refine WpL.stepE (by simp only [Try.f17, lb, Option.getD_some, loopsOf, List.nil_append, List.append_nil, List.cons_append, List.getElem?_cons_zero, List.getElem?_cons_succ]; rfl) ?_
  try simp only [jjs]
  refine Wp.seq ?_
  refine Wp.seq ?_
  refine Wp.region hU (f17_ci_ok _) (by simp (decide := true) (disch := (first | omega | (simp only [List.length_append, List.length_map, List.length_cons, List.length_nil]; omega))) only [evOp, putTm, E_T, E_gl, E_br, tdesc, reduceIte, reduceCtorEq, Nat.reduceAdd, Nat.reduceSub, Nat.reduceLT, Nat.reduceLeDiff, Nat.reduceEqDiff, bxm, tabs, fieldPlaceT, evLoad, ldV, ofCells, TD.isAgg, evBin, intBin, strBin, bothNil, constOp, eqCells, tys]; rfl) ?_
  refine thenN ?_
  refine Wp.cond hU (t := decide (i ≥ r3)) rfl (fun hc5 => ?_) (fun hc5 => ?_)
  · rw [if_t hc5] at h
    refine Wp.skip ?_
    refine thenN ?_
    refine Wp.seq ?_
    refine Wp.block ?_
    obtain ⟨e6, he6, h⟩ := bind_some h
    obtain ⟨he6a, he6b, he6c⟩ := rd_some he6
    obtain ⟨a7, ha7, h⟩ := bind_some h
    obtain ⟨ha7a, ha7b⟩ := ap_some ha7
    try simp only [List.length_cons, List.length_nil, Nat.zero_add, Nat.add_zero, Nat.reduceAdd] at ha7a
    refine Wp.region hU (f17_ci_ok _) (by simp (decide := true) (disch := (first | omega | (simp only [List.length_append, List.length_map, List.length_cons, List.length_nil]; omega))) only [evOp, putTm, E_T, E_gl, E_br, tdesc, reduceIte, reduceCtorEq, Nat.reduceAdd, Nat.reduceSub, Nat.reduceLT, Nat.reduceLeDiff, Nat.reduceEqDiff, bxm, tabs, fieldPlaceT, evLoad, ldV, ofCells, TD.isAgg, indexAddrAV, evA, evAppend, elems, flatOf, evStore, putAt, he6a, he6b, he6c, ha7a, hc5, tys]; rfl) ?_
    refine blkN ?_
    refine thenN ?_
    refine Wk.wp (s2 := ⟨jj 4 (.ptr 0 0 0 :: .row 1 1 0 ((r1).length) :: .row 2 1 0 ((r2).length) :: .ptr 3 0 0 :: .v (.int .i64 i) :: jj 45 []), St [some ⟨3, false, false, [[.v (.int .i64 0), .v (.slice none 0 0), .v (.slice none 0 0)]]⟩, some ⟨1, false, true, List.map (cInt .i64) r1⟩, some ⟨1, false, true, List.map (cInt .i64) r2⟩, some ⟨3, false, false, [[.v (.int .i64 r3), .row 4 1 0 ((a7).length), .v (.slice none 0 0)]]⟩, some ⟨1, false, true, List.map (cInt .i64) a7⟩], none, 0⟩) ?_ ?_
    · try simp only [jjs]
      refine Wk.weak hU [some 0, some 1, some 2, some 3, some 6] _ (by decide) ?_ ?_
      · refine .obj rfl ?_ ?_
        · refine .mk ?_ (by simp only [bxm, leaf_ptr]) nofun
          refine .cons ?_ .nil
          (repeat' (first | exact WVs.nil | refine WVs.cons ?_ ?_ | (refine WVs.aggW ?_) | (refine WVs.fnW ?_ ?_))) <;> (first | exact WV.junk _ | exact WV.keep rfl | exact WV.row rfl | exact WV.nil rfl | exact WV.nilsl | exact WV.emp rfl | exact WV.empsl | exact WV.ptr rfl | (refine WV.row_eq rfl ?_; simp only [bxw, ha7b, tys]) | (refine WV.view (k := 3) ?_; simp (decide := true) only [reify, share, fresh1, reduceIte, reduceCtorEq, Nat.reduceAdd, bxm, tys]) | (refine WV.eq ?_ rfl; simp only [bxw, ha7b, tys]))
        refine .obj rfl ?_ ?_
        · first | exact .same _ _ _ | (refine WO.same_eq ?_; simp only [bxw, ha7b, tys]; done)
        refine .obj rfl ?_ ?_
        · first | exact .same _ _ _ | (refine WO.same_eq ?_; simp only [bxw, ha7b, tys]; done)
        refine .obj rfl ?_ ?_
        · refine .mk ?_ (by simp only [bxm, leaf_ptr]) nofun
          refine .cons ?_ .nil
          (repeat' (first | exact WVs.nil | refine WVs.cons ?_ ?_ | (refine WVs.aggW ?_) | (refine WVs.fnW ?_ ?_))) <;> (first | exact WV.junk _ | exact WV.keep rfl | exact WV.row rfl | exact WV.nil rfl | exact WV.nilsl | exact WV.emp rfl | exact WV.empsl | exact WV.ptr rfl | (refine WV.row_eq rfl ?_; simp only [bxw, ha7b, tys]) | (refine WV.view (k := 3) ?_; simp (decide := true) only [reify, share, fresh1, reduceIte, reduceCtorEq, Nat.reduceAdd, bxm, tys]) | (refine WV.eq ?_ rfl; simp only [bxw, ha7b, tys]))
        refine .obj rfl ?_ ?_
        · first | exact .same _ _ _ | (refine WO.same_eq ?_; simp only [bxw, ha7b, tys]; done)
        exact .nil
      · (repeat' (first | exact WVs.nil | refine WVs.cons ?_ ?_ | (refine WVs.aggW ?_) | (refine WVs.fnW ?_ ?_))) <;> (first | exact WV.junk _ | exact WV.keep rfl | exact WV.row rfl | exact WV.nil rfl | exact WV.nilsl | exact WV.emp rfl | exact WV.empsl | exact WV.ptr rfl | (refine WV.row_eq rfl ?_; simp only [bxw, ha7b, tys]) | (refine WV.view (k := 3) ?_; simp (decide := true) only [reify, share, fresh1, reduceIte, reduceCtorEq, Nat.reduceAdd, bxm, tys]) | (refine WV.eq ?_ rfl; simp only [bxw, ha7b, tys]))
    try simp only [jjs]
    refine Wp.region hU (f17_ci_ok _) (by simp (decide := true) (disch := (first | omega | (simp only [List.length_append, List.length_map, List.length_cons, List.length_nil]; omega))) only [evOp, putTm, E_T, E_gl, E_br, tdesc, reduceIte, reduceCtorEq, Nat.reduceAdd, Nat.reduceSub, Nat.reduceLT, Nat.reduceLeDiff, Nat.reduceEqDiff, bxm, tabs, evBin, intBin, strBin, bothNil, constOp, eqCells, hc5, tys]; rfl) ?_
    refine againN ?_
    refine Wk.wpL ?_ (ih a7 (IntKind.i64.wrap (i - 1)) _ h)
    try simp only [jjs]
    refine Wk.weak hU [some 0, some 1, some 2, some 3, some 4] _ (by decide) ?_ ?_
    · refine .obj rfl ?_ ?_
      · refine .mk ?_ (by simp only [bxm, leaf_ptr]) nofun
        refine .cons ?_ .nil
        (repeat' (first | exact WVs.nil | refine WVs.cons ?_ ?_ | (refine WVs.aggW ?_) | (refine WVs.fnW ?_ ?_))) <;> (first | exact WV.junk _ | exact WV.keep rfl | exact WV.row rfl | exact WV.nil rfl | exact WV.nilsl | exact WV.emp rfl | exact WV.empsl | exact WV.ptr rfl | (refine WV.row_eq rfl ?_; simp only [bxw, ha7b, tys]) | (refine WV.view (k := 3) ?_; simp (decide := true) only [reify, share, fresh1, reduceIte, reduceCtorEq, Nat.reduceAdd, bxm, tys]) | (refine WV.eq ?_ rfl; simp only [bxw, ha7b, tys]))
      refine .obj rfl ?_ ?_
      · first | exact .same _ _ _ | (refine WO.same_eq ?_; simp only [bxw, ha7b, tys]; done)
      refine .obj rfl ?_ ?_
      · first | exact .same _ _ _ | (refine WO.same_eq ?_; simp only [bxw, ha7b, tys]; done)
      refine .obj rfl ?_ ?_
      · refine .mk ?_ (by simp only [bxm, leaf_ptr]) nofun
        refine .cons ?_ .nil
        (repeat' (first | exact WVs.nil | refine WVs.cons ?_ ?_ | (refine WVs.aggW ?_) | (refine WVs.fnW ?_ ?_))) <;> (first | exact WV.junk _ | exact WV.keep rfl | exact WV.row rfl | exact WV.nil rfl | exact WV.nilsl | exact WV.emp rfl | exact WV.empsl | exact WV.ptr rfl | (refine WV.row_eq rfl ?_; simp only [bxw, ha7b, tys]) | (refine WV.view (k := 3) ?_; simp (decide := true) only [reify, share, fresh1, reduceIte, reduceCtorEq, Nat.reduceAdd, bxm, tys]) | (refine WV.eq ?_ rfl; simp only [bxw, ha7b, tys]))
      refine .obj rfl ?_ ?_
      · first | exact .same _ _ _ | (refine WO.same_eq ?_; simp only [bxw, ha7b, tys]; done)
      exact .nil
    · (repeat' (first | exact WVs.nil | refine WVs.cons ?_ ?_ | (refine WVs.aggW ?_) | (refine WVs.fnW ?_ ?_))) <;> (first | exact WV.junk _ | exact WV.keep rfl | exact WV.row rfl | exact WV.nil rfl | exact WV.nilsl | exact WV.emp rfl | exact WV.empsl | exact WV.ptr rfl | (refine WV.row_eq rfl ?_; simp only [bxw, ha7b, tys]) | (refine WV.view (k := 3) ?_; simp (decide := true) only [reify, share, fresh1, reduceIte, reduceCtorEq, Nat.reduceAdd, bxm, tys]) | (refine WV.eq ?_ rfl; simp only [bxw, ha7b, tys]))
  · rw [if_f hc5] at h
    refine Wp.exit ?_
    refine thenE ?_
    refine againE ?_
    obtain rfl := Option.some.inj h
    refine ⟨rfl, ?_⟩
    try simp only [jjs]
    refine Wk.weak hU [some 0, some 2, some 3, some 4] _ (by decide) ?_ ?_
    · refine .obj rfl ?_ ?_
      · refine .mk ?_ (by simp only [bxm, leaf_ptr]) nofun
        refine .cons ?_ .nil
        (repeat' (first | exact WVs.nil | refine WVs.cons ?_ ?_ | (refine WVs.aggW ?_) | (refine WVs.fnW ?_ ?_))) <;> (first | exact WV.junk _ | exact WV.keep rfl | exact WV.row rfl | exact WV.nil rfl | exact WV.nilsl | exact WV.emp rfl | exact WV.empsl | exact WV.ptr rfl | (refine WV.row_eq rfl ?_; simp only [bxw, tys]) | (refine WV.view (k := 3) ?_; simp (decide := true) only [reify, share, fresh1, reduceIte, reduceCtorEq, Nat.reduceAdd, bxm, tys]) | (refine WV.eq ?_ rfl; simp only [bxw, tys]))
      refine .obj rfl ?_ ?_
      · first | exact .same _ _ _ | (refine WO.same_eq ?_; simp only [bxw, tys]; done)
      refine .obj rfl ?_ ?_
      · refine .mk ?_ (by simp only [bxm, leaf_ptr]) nofun
        refine .cons ?_ .nil
        (repeat' (first | exact WVs.nil | refine WVs.cons ?_ ?_ | (refine WVs.aggW ?_) | (refine WVs.fnW ?_ ?_))) <;> (first | exact WV.junk _ | exact WV.keep rfl | exact WV.row rfl | exact WV.nil rfl | exact WV.nilsl | exact WV.emp rfl | exact WV.empsl | exact WV.ptr rfl | (refine WV.row_eq rfl ?_; simp only [bxw, tys]) | (refine WV.view (k := 3) ?_; simp (decide := true) only [reify, share, fresh1, reduceIte, reduceCtorEq, Nat.reduceAdd, bxm, tys]) | (refine WV.eq ?_ rfl; simp only [bxw, tys]))
      refine .obj rfl ?_ ?_
      · first | exact .same _ _ _ | (refine WO.same_eq ?_; simp only [bxw, tys]; done)
      exact .nil
    · (repeat' (first | exact WVs.nil | refine WVs.cons ?_ ?_ | (refine WVs.aggW ?_) | (refine WVs.fnW ?_ ?_))) <;> (first | exact WV.junk _ | exact WV.keep rfl | exact WV.row rfl | exact WV.nil rfl | exact WV.nilsl | exact WV.emp rfl | exact WV.empsl | exact WV.ptr rfl | (refine WV.row_eq rfl ?_; simp only [bxw, tys]) | (refine WV.view (k := 3) ?_; simp (decide := true) only [reify, share, fresh1, reduceIte, reduceCtorEq, Nat.reduceAdd, bxm, tys]) | (refine WV.eq ?_ rfl; simp only [bxw, tys]))

set_option maxHeartbeats 4000000 in
theorem f17_l1_ok {base : Nat} {c00 : Ctx} (hU : Under E base c00 nilStore) (r2 : List Int) (r3 : Int) (o4 : (List Int)) : ∀ (t_2 : List Int) (i : Int) (o8 : (List Int)), f17_l1 r2 t_2 i = some o8 →
    WpL E base c00 nilStore (lb Try.f17 1) ⟨jj 4 (.ptr 0 0 0 :: jj 1 (.row 1 1 0 ((r2).length) :: .ptr 2 0 0 :: jj 1 (.v (.int .i64 i) :: jj 44 []))), St [some ⟨3, false, false, [[.v (.int .i64 0), .v (.slice none 0 0), .v (.slice none 0 0)]]⟩, some ⟨1, false, true, List.map (cInt .i64) r2⟩, some ⟨3, false, false, [[.v (.int .i64 r3), .row 3 1 0 ((o4).length), .row 4 1 0 ((t_2).length)]]⟩, some ⟨1, false, true, List.map (cInt .i64) o4⟩, some ⟨1, false, true, List.map (cInt .i64) t_2⟩], none, 0⟩ (fun ex s1 => ex = .exit 2 ∧ Wk base c00 nilStore s1 ⟨jj 4 (.ptr 0 0 0 :: jj 2 (.ptr 1 0 0 :: jj 46 [])), St [some ⟨3, false, false, [[.v (.int .i64 0), .v (.slice none 0 0), .v (.slice none 0 0)]]⟩, some ⟨3, false, false, [[.v (.int .i64 r3), .row 2 1 0 ((o4).length), .row 3 1 0 ((o8).length)]]⟩, some ⟨1, false, true, List.map (cInt .i64) o4⟩, some ⟨1, false, true, List.map (cInt .i64) o8⟩], none, 0⟩) := by
  refine f17_l1.partial_correctness r2 (fun t_2 i o8 => WpL E base c00 nilStore (lb Try.f17 1) ⟨jj 4 (.ptr 0 0 0 :: jj 1 (.row 1 1 0 ((r2).length) :: .ptr 2 0 0 :: jj 1 (.v (.int .i64 i) :: jj 44 []))), St [some ⟨3, false, false, [[.v (.int .i64 0), .v (.slice none 0 0), .v (.slice none 0 0)]]⟩, some ⟨1, false, true, List.map (cInt .i64) r2⟩, some ⟨3, false, false, [[.v (.int .i64 r3), .row 3 1 0 ((o4).length), .row 4 1 0 ((t_2).length)]]⟩, some ⟨1, false, true, List.map (cInt .i64) o4⟩, some ⟨1, false, true, List.map (cInt .i64) t_2⟩], none, 0⟩ (fun ex s1 => ex = .exit 2 ∧ Wk base c00 nilStore s1 ⟨jj 4 (.ptr 0 0 0 :: jj 2 (.ptr 1 0 0 :: jj 46 [])), St [some ⟨3, false, false, [[.v (.int .i64 0), .v (.slice none 0 0), .v (.slice none 0 0)]]⟩, some ⟨3, false, false, [[.v (.int .i64 r3), .row 2 1 0 ((o4).length), .row 3 1 0 ((o8).length)]]⟩, some ⟨1, false, true, List.map (cInt .i64) o4⟩, some ⟨1, false, true, List.map (cInt .i64) o8⟩], none, 0⟩)) ?_
  intro lp__ ih t_2 i o8 h
  refine WpL.stepE (by simp only [Try.f17, lb, Option.getD_some, loopsOf, List.nil_append, List.append_nil, List.cons_append, List.getElem?_cons_zero, List.getElem?_cons_succ]; rfl) ?_
  try simp only [jjs]
  refine Wp.seq ?_
  refine Wp.seq ?_
  refine Wp.region hU (f17_ci_ok _) (by simp (decide := true) (disch := (first | omega | (simp only [List.length_append, List.length_map, List.length_cons, List.length_nil]; omega))) only [evOp, putTm, E_T, E_gl, E_br, tdesc, reduceIte, reduceCtorEq, Nat.reduceAdd, Nat.reduceSub, Nat.reduceLT, Nat.reduceLeDiff, Nat.reduceEqDiff, bxm, tabs, evA, lenAV, evBin, intBin, strBin, bothNil, constOp, eqCells, tys]; rfl) ?_
  refine thenN ?_
  refine Wp.cond hU (t := decide (i < (r2.length : Int))) rfl (fun hc9 => ?_) (fun hc9 => ?_)
  · rw [if_t hc9] at h
    refine Wp.skip ?_
    refine thenN ?_
    refine Wp.seq ?_
    refine Wp.block ?_
    obtain ⟨e10, he10, h⟩ := bind_some h
    obtain ⟨he10a, he10b, he10c⟩ := rd_some he10
    obtain ⟨a11, ha11, h⟩ := bind_some h
    obtain ⟨ha11a, ha11b⟩ := ap_some ha11
    try simp only [List.length_cons, List.length_nil, Nat.zero_add, Nat.add_zero, Nat.reduceAdd] at ha11a
    refine Wp.region hU (f17_ci_ok _) (by simp (decide := true) (disch := (first | omega | (simp only [List.length_append, List.length_map, List.length_cons, List.length_nil]; omega))) only [evOp, putTm, E_T, E_gl, E_br, tdesc, reduceIte, reduceCtorEq, Nat.reduceAdd, Nat.reduceSub, Nat.reduceLT, Nat.reduceLeDiff, Nat.reduceEqDiff, bxm, tabs, fieldPlaceT, evLoad, ldV, ofCells, TD.isAgg, indexAddrAV, evA, evAppend, elems, flatOf, evStore, putAt, he10a, he10b, he10c, ha11a, hc9, tys]; rfl) ?_
    refine blkN ?_
    refine thenN ?_
    refine Wk.wp (s2 := ⟨jj 4 (.ptr 0 0 0 :: jj 1 (.row 1 1 0 ((r2).length) :: .ptr 2 0 0 :: jj 1 (.v (.int .i64 i) :: jj 44 []))), St [some ⟨3, false, false, [[.v (.int .i64 0), .v (.slice none 0 0), .v (.slice none 0 0)]]⟩, some ⟨1, false, true, List.map (cInt .i64) r2⟩, some ⟨3, false, false, [[.v (.int .i64 r3), .row 3 1 0 ((o4).length), .row 4 1 0 ((a11).length)]]⟩, some ⟨1, false, true, List.map (cInt .i64) o4⟩, some ⟨1, false, true, List.map (cInt .i64) a11⟩], none, 0⟩) ?_ ?_
    · try simp only [jjs]
      refine Wk.weak hU [some 0, some 1, some 2, some 3, some 6] _ (by decide) ?_ ?_
      · refine .obj rfl ?_ ?_
        · refine .mk ?_ (by simp only [bxm, leaf_ptr]) nofun
          refine .cons ?_ .nil
          (repeat' (first | exact WVs.nil | refine WVs.cons ?_ ?_ | (refine WVs.aggW ?_) | (refine WVs.fnW ?_ ?_))) <;> (first | exact WV.junk _ | exact WV.keep rfl | exact WV.row rfl | exact WV.nil rfl | exact WV.nilsl | exact WV.emp rfl | exact WV.empsl | exact WV.ptr rfl | (refine WV.row_eq rfl ?_; simp only [bxw, ha11b, tys]) | (refine WV.view (k := 3) ?_; simp (decide := true) only [reify, share, fresh1, reduceIte, reduceCtorEq, Nat.reduceAdd, bxm, tys]) | (refine WV.eq ?_ rfl; simp only [bxw, ha11b, tys]))
        refine .obj rfl ?_ ?_
        · first | exact .same _ _ _ | (refine WO.same_eq ?_; simp only [bxw, ha11b, tys]; done)
        refine .obj rfl ?_ ?_
        · refine .mk ?_ (by simp only [bxm, leaf_ptr]) nofun
          refine .cons ?_ .nil
          (repeat' (first | exact WVs.nil | refine WVs.cons ?_ ?_ | (refine WVs.aggW ?_) | (refine WVs.fnW ?_ ?_))) <;> (first | exact WV.junk _ | exact WV.keep rfl | exact WV.row rfl | exact WV.nil rfl | exact WV.nilsl | exact WV.emp rfl | exact WV.empsl | exact WV.ptr rfl | (refine WV.row_eq rfl ?_; simp only [bxw, ha11b, tys]) | (refine WV.view (k := 3) ?_; simp (decide := true) only [reify, share, fresh1, reduceIte, reduceCtorEq, Nat.reduceAdd, bxm, tys]) | (refine WV.eq ?_ rfl; simp only [bxw, ha11b, tys]))
        refine .obj rfl ?_ ?_
        · first | exact .same _ _ _ | (refine WO.same_eq ?_; simp only [bxw, ha11b, tys]; done)
        refine .obj rfl ?_ ?_
        · first | exact .same _ _ _ | (refine WO.same_eq ?_; simp only [bxw, ha11b, tys]; done)
        exact .nil
      · (repeat' (first | exact WVs.nil | refine WVs.cons ?_ ?_ | (refine WVs.aggW ?_) | (refine WVs.fnW ?_ ?_))) <;> (first | exact WV.junk _ | exact WV.keep rfl | exact WV.row rfl | exact WV.nil rfl | exact WV.nilsl | exact WV.emp rfl | exact WV.empsl | exact WV.ptr rfl | (refine WV.row_eq rfl ?_; simp only [bxw, ha11b, tys]) | (refine WV.view (k := 3) ?_; simp (decide := true) only [reify, share, fresh1, reduceIte, reduceCtorEq, Nat.reduceAdd, bxm, tys]) | (refine WV.eq ?_ rfl; simp only [bxw, ha11b, tys]))
    try simp only [jjs]
    refine Wp.region hU (f17_ci_ok _) (by simp (decide := true) (disch := (first | omega | (simp only [List.length_append, List.length_map, List.length_cons, List.length_nil]; omega))) only [evOp, putTm, E_T, E_gl, E_br, tdesc, reduceIte, reduceCtorEq, Nat.reduceAdd, Nat.reduceSub, Nat.reduceLT, Nat.reduceLeDiff, Nat.reduceEqDiff, bxm, tabs, evBin, intBin, strBin, bothNil, constOp, eqCells, hc9, tys]; rfl) ?_
    refine againN ?_
    refine Wk.wpL ?_ (ih a11 (IntKind.i64.wrap (i + 1)) _ h)
    try simp only [jjs]
    refine Wk.weak hU [some 0, some 1, some 2, some 3, some 4] _ (by decide) ?_ ?_
    · refine .obj rfl ?_ ?_
      · refine .mk ?_ (by simp only [bxm, leaf_ptr]) nofun
        refine .cons ?_ .nil
        (repeat' (first | exact WVs.nil | refine WVs.cons ?_ ?_ | (refine WVs.aggW ?_) | (refine WVs.fnW ?_ ?_))) <;> (first | exact WV.junk _ | exact WV.keep rfl | exact WV.row rfl | exact WV.nil rfl | exact WV.nilsl | exact WV.emp rfl | exact WV.empsl | exact WV.ptr rfl | (refine WV.row_eq rfl ?_; simp only [bxw, ha11b, tys]) | (refine WV.view (k := 3) ?_; simp (decide := true) only [reify, share, fresh1, reduceIte, reduceCtorEq, Nat.reduceAdd, bxm, tys]) | (refine WV.eq ?_ rfl; simp only [bxw, ha11b, tys]))
      refine .obj rfl ?_ ?_
      · first | exact .same _ _ _ | (refine WO.same_eq ?_; simp only [bxw, ha11b, tys]; done)
      refine .obj rfl ?_ ?_
      · refine .mk ?_ (by simp only [bxm, leaf_ptr]) nofun
        refine .cons ?_ .nil
        (repeat' (first | exact WVs.nil | refine WVs.cons ?_ ?_ | (refine WVs.aggW ?_) | (refine WVs.fnW ?_ ?_))) <;> (first | exact WV.junk _ | exact WV.keep rfl | exact WV.row rfl | exact WV.nil rfl | exact WV.nilsl | exact WV.emp rfl | exact WV.empsl | exact WV.ptr rfl | (refine WV.row_eq rfl ?_; simp only [bxw, ha11b, tys]) | (refine WV.view (k := 3) ?_; simp (decide := true) only [reify, share, fresh1, reduceIte, reduceCtorEq, Nat.reduceAdd, bxm, tys]) | (refine WV.eq ?_ rfl; simp only [bxw, ha11b, tys]))
      refine .obj rfl ?_ ?_
      · first | exact .same _ _ _ | (refine WO.same_eq ?_; simp only [bxw, ha11b, tys]; done)
      refine .obj rfl ?_ ?_
      · first | exact .same _ _ _ | (refine WO.same_eq ?_; simp only [bxw, ha11b, tys]; done)
      exact .nil
    · (repeat' (first | exact WVs.nil | refine WVs.cons ?_ ?_ | (refine WVs.aggW ?_) | (refine WVs.fnW ?_ ?_))) <;> (first | exact WV.junk _ | exact WV.keep rfl | exact WV.row rfl | exact WV.nil rfl | exact WV.nilsl | exact WV.emp rfl | exact WV.empsl | exact WV.ptr rfl | (refine WV.row_eq rfl ?_; simp only [bxw, ha11b, tys]) | (refine WV.view (k := 3) ?_; simp (decide := true) only [reify, share, fresh1, reduceIte, reduceCtorEq, Nat.reduceAdd, bxm, tys]) | (refine WV.eq ?_ rfl; simp only [bxw, ha11b, tys]))
  · rw [if_f hc9] at h
    refine Wp.exit ?_
    refine thenE ?_
    refine againE ?_
    obtain rfl := Option.some.inj h
    refine ⟨rfl, ?_⟩
    try simp only [jjs]
    refine Wk.weak hU [some 0, some 2, some 3, some 4] _ (by decide) ?_ ?_
    · refine .obj rfl ?_ ?_
      · refine .mk ?_ (by simp only [bxm, leaf_ptr]) nofun
        refine .cons ?_ .nil
        (repeat' (first | exact WVs.nil | refine WVs.cons ?_ ?_ | (refine WVs.aggW ?_) | (refine WVs.fnW ?_ ?_))) <;> (first | exact WV.junk _ | exact WV.keep rfl | exact WV.row rfl | exact WV.nil rfl | exact WV.nilsl | exact WV.emp rfl | exact WV.empsl | exact WV.ptr rfl | (refine WV.row_eq rfl ?_; simp only [bxw, tys]) | (refine WV.view (k := 3) ?_; simp (decide := true) only [reify, share, fresh1, reduceIte, reduceCtorEq, Nat.reduceAdd, bxm, tys]) | (refine WV.eq ?_ rfl; simp only [bxw, tys]))
      refine .obj rfl ?_ ?_
      · refine .mk ?_ (by simp only [bxm, leaf_ptr]) nofun
        refine .cons ?_ .nil
        (repeat' (first | exact WVs.nil | refine WVs.cons ?_ ?_ | (refine WVs.aggW ?_) | (refine WVs.fnW ?_ ?_))) <;> (first | exact WV.junk _ | exact WV.keep rfl | exact WV.row rfl | exact WV.nil rfl | exact WV.nilsl | exact WV.emp rfl | exact WV.empsl | exact WV.ptr rfl | (refine WV.row_eq rfl ?_; simp only [bxw, tys]) | (refine WV.view (k := 3) ?_; simp (decide := true) only [reify, share, fresh1, reduceIte, reduceCtorEq, Nat.reduceAdd, bxm, tys]) | (refine WV.eq ?_ rfl; simp only [bxw, tys]))
      refine .obj rfl ?_ ?_
      · first | exact .same _ _ _ | (refine WO.same_eq ?_; simp only [bxw, tys]; done)
      refine .obj rfl ?_ ?_
      · first | exact .same _ _ _ | (refine WO.same_eq ?_; simp only [bxw, tys]; done)
      exact .nil
    · (repeat' (first | exact WVs.nil | refine WVs.cons ?_ ?_ | (refine WVs.aggW ?_) | (refine WVs.fnW ?_ ?_))) <;> (first | exact WV.junk _ | exact WV.keep rfl | exact WV.row rfl | exact WV.nil rfl | exact WV.nilsl | exact WV.emp rfl | exact WV.empsl | exact WV.ptr rfl | (refine WV.row_eq rfl ?_; simp only [bxw, tys]) | (refine WV.view (k := 3) ?_; simp (decide := true) only [reify, share, fresh1, reduceIte, reduceCtorEq, Nat.reduceAdd, bxm, tys]) | (refine WV.eq ?_ rfl; simp only [bxw, tys]))

set_option maxHeartbeats 4000000 in
theorem f17_ok (from_ : List Frame) (to : List Frame) (r : Trip) (h : f17 from_ to = some r) : PureOK E 17 [.sl (List.map cFrame from_), .sl (List.map cFrame to)] (.agg [.v (.int .i64 r.Common), .own false 1 (List.map (cInt .i64) r.Out), .own false 1 (List.map (cInt .i64) r.In)]) := by
  unfold f17 at h
  refine pure_of_wp tabOK mixed (fn := Try.f17) (nt := 54) Try.func17 rfl rfl (names _ _ Try.func17) rfl rfl (fun _ => rfl) (fun base c00 hU => ?_)
  refine Wk.wp (s2 := ⟨.sl (List.map cFrame from_) :: .sl (List.map cFrame to) :: jj 52 [], St [], none, 0⟩) ?_ ?_
  · refine Wk.weak hU [] _ (by decide) .nil ?_
    simp only [jjs, List.length_cons, List.length_nil, Nat.reduceAdd, Nat.reduceSub, List.replicate, List.cons_append, List.nil_append]
    repeat' (first | exact WVs.nil | refine WVs.cons ?_ ?_)
    all_goals first | exact WV.junk _ | exact WV.keep rfl | exact .agg rfl (aggKeep rfl)
  try simp only [jjs]
  refine Wp.seq ?_
  refine Wp.region hU (f17_ci_ok _) (by simp (decide := true) (disch := (first | omega | (simp only [List.length_append, List.length_map, List.length_cons, List.length_nil]; omega))) only [evOp, putTm, E_T, E_gl, E_br, tdesc, reduceIte, reduceCtorEq, Nat.reduceAdd, Nat.reduceSub, Nat.reduceLT, Nat.reduceLeDiff, Nat.reduceEqDiff, bxm, tabs, tys]; rfl) ?_
  refine thenN ?_
  refine Wp.seq ?_
  obtain ⟨r1, hr1, h⟩ := bind_some h
  have hr1c : ∀ σ, f17_ci 12 [.sl (List.map cFrame from_)] σ = some (.own false 1 (List.map (cInt .i64) r1), σ, none) := fun σ => f12_call hr1 σ
  obtain ⟨r2, hr2, h⟩ := bind_some h
  have hr2c : ∀ σ, f17_ci 12 [.sl (List.map cFrame to)] σ = some (.own false 1 (List.map (cInt .i64) r2), σ, none) := fun σ => f12_call hr2 σ
  refine Wp.region hU (f17_ci_ok _) (by simp (decide := true) (disch := (first | omega | (simp only [List.length_append, List.length_map, List.length_cons, List.length_nil]; omega))) only [evOp, putTm, E_T, E_gl, E_br, tdesc, reduceIte, reduceCtorEq, Nat.reduceAdd, Nat.reduceSub, Nat.reduceLT, Nat.reduceLeDiff, Nat.reduceEqDiff, bxm, tabs, evCall, mapO, importL, import2L, import1, import2, share, fresh1, freshL, hr1c, hr2c, tys]; rfl) ?_
  refine thenN ?_
  refine Wp.seq ?_
  obtain ⟨r3, hr3, h⟩ := bind_some h
  have hr3c : ∀ σ, f17_ci 14 [.sl (List.map cFrame from_), .sl (List.map cFrame to)] σ = some (.v (.int .i64 r3), σ, none) := fun σ => f14_call hr3 σ
  refine Wp.region hU (f17_ci_ok _) (by simp (decide := true) (disch := (first | omega | (simp only [List.length_append, List.length_map, List.length_cons, List.length_nil]; omega))) only [evOp, putTm, E_T, E_gl, E_br, tdesc, reduceIte, reduceCtorEq, Nat.reduceAdd, Nat.reduceSub, Nat.reduceLT, Nat.reduceLeDiff, Nat.reduceEqDiff, bxm, tabs, evCall, mapO, importL, import2L, import1, import2, share, fresh1, freshL, evA, fillL, putAt, evStore, hr3c, tys]; rfl) ?_
  refine thenN ?_
  refine Wp.seq ?_
  refine Wp.seq ?_
  refine Wp.region hU (f17_ci_ok _) (by simp (decide := true) (disch := (first | omega | (simp only [List.length_append, List.length_map, List.length_cons, List.length_nil]; omega))) only [evOp, putTm, E_T, E_gl, E_br, tdesc, reduceIte, reduceCtorEq, Nat.reduceAdd, Nat.reduceSub, Nat.reduceLT, Nat.reduceLeDiff, Nat.reduceEqDiff, bxm, tabs, evA, lenAV, evBin, intBin, strBin, bothNil, constOp, eqCells, tys]; rfl) ?_
  refine thenN ?_
  refine Wp.block ?_
  obtain ⟨o4, ho4, h⟩ := bind_some h
  refine Wp.loop ?_
  refine Tw.mono (Wk.wpL (s2 := ⟨jj 4 (.ptr 0 0 0 :: .row 1 1 0 ((r1).length) :: .row 2 1 0 ((r2).length) :: .ptr 3 0 0 :: .v (.int .i64 (IntKind.i64.wrap ((r1.length : Int) - 1))) :: jj 45 []), St [some ⟨3, false, false, [[.v (.int .i64 0), .v (.slice none 0 0), .v (.slice none 0 0)]]⟩, some ⟨1, false, true, List.map (cInt .i64) r1⟩, some ⟨1, false, true, List.map (cInt .i64) r2⟩, some ⟨3, false, false, [[.v (.int .i64 r3), .row 4 1 0 (([]).length), .v (.slice none 0 0)]]⟩, some ⟨1, false, true, List.map (cInt .i64) []⟩], none, 0⟩) ?_ (f17_l0_ok hU r1 r3 r2 [] (IntKind.i64.wrap ((r1.length : Int) - 1)) o4 ho4)) (fun ex s1 hp => ?_)
  · try simp only [jjs]
    refine Wk.weak hU [some 0, some 1, some 2, some 3, none] _ (by decide) ?_ ?_
    · refine .obj rfl ?_ ?_
      · refine .mk ?_ (by simp only [bxm, leaf_ptr]) nofun
        refine .cons ?_ .nil
        (repeat' (first | exact WVs.nil | refine WVs.cons ?_ ?_ | (refine WVs.aggW ?_) | (refine WVs.fnW ?_ ?_))) <;> (first | exact WV.junk _ | exact WV.keep rfl | exact WV.row rfl | exact WV.nil rfl | exact WV.nilsl | exact WV.emp rfl | exact WV.empsl | exact WV.ptr rfl | (refine WV.row_eq rfl ?_; simp only [bxw, tys]) | (refine WV.view (k := 3) ?_; simp (decide := true) only [reify, share, fresh1, reduceIte, reduceCtorEq, Nat.reduceAdd, bxm, tys]) | (refine WV.eq ?_ rfl; simp only [bxw, tys]))
      refine .obj rfl ?_ ?_
      · first | exact .same _ _ _ | (refine WO.same_eq ?_; simp only [bxw, tys]; done)
      refine .obj rfl ?_ ?_
      · first | exact .same _ _ _ | (refine WO.same_eq ?_; simp only [bxw, tys]; done)
      refine .obj rfl ?_ ?_
      · refine .mk ?_ (by simp only [bxm, leaf_ptr]) nofun
        refine .cons ?_ .nil
        (repeat' (first | exact WVs.nil | refine WVs.cons ?_ ?_ | (refine WVs.aggW ?_) | (refine WVs.fnW ?_ ?_))) <;> (first | exact WV.junk _ | exact WV.keep rfl | exact WV.row rfl | exact WV.nil rfl | exact WV.nilsl | exact WV.emp rfl | exact WV.empsl | exact WV.ptr rfl | (refine WV.row_eq rfl ?_; simp only [bxw, tys]) | (refine WV.view (k := 3) ?_; simp (decide := true) only [reify, share, fresh1, reduceIte, reduceCtorEq, Nat.reduceAdd, bxm, tys]) | (refine WV.eq ?_ rfl; simp only [bxw, tys]))
      refine .virt ?_
      exact .nil
    · (repeat' (first | exact WVs.nil | refine WVs.cons ?_ ?_ | (refine WVs.aggW ?_) | (refine WVs.fnW ?_ ?_))) <;> (first | exact WV.junk _ | exact WV.keep rfl | exact WV.row rfl | exact WV.nil rfl | exact WV.nilsl | exact WV.emp rfl | exact WV.empsl | exact WV.ptr rfl | (refine WV.row_eq rfl ?_; simp only [bxw, tys]) | (refine WV.view (k := 3) ?_; simp (decide := true) only [reify, share, fresh1, reduceIte, reduceCtorEq, Nat.reduceAdd, bxm, tys]) | (refine WV.eq ?_ rfl; simp only [bxw, tys]))
  · obtain ⟨rfl, hp⟩ := hp
    refine blkE ?_
    refine thenN ?_
    refine hp.wp ?_
    try simp only [jjs]
    refine Wp.seq ?_
    refine Wp.seq ?_
    refine Wp.region hU (f17_ci_ok _) (by simp (decide := true) (disch := (first | omega | (simp only [List.length_append, List.length_map, List.length_cons, List.length_nil]; omega))) only [evOp, putTm, E_T, E_gl, E_br, tdesc, reduceIte, reduceCtorEq, Nat.reduceAdd, Nat.reduceSub, Nat.reduceLT, Nat.reduceLeDiff, Nat.reduceEqDiff, bxm, tabs, fieldPlaceT, evLoad, ldV, ofCells, TD.isAgg, tys]; rfl) ?_
    refine thenN ?_
    refine Wp.block ?_
    obtain ⟨o8, ho8, h⟩ := bind_some h
    refine Wp.loop ?_
    refine Tw.mono (Wk.wpL (s2 := ⟨jj 4 (.ptr 0 0 0 :: jj 1 (.row 1 1 0 ((r2).length) :: .ptr 2 0 0 :: jj 1 (.v (.int .i64 r3) :: jj 44 []))), St [some ⟨3, false, false, [[.v (.int .i64 0), .v (.slice none 0 0), .v (.slice none 0 0)]]⟩, some ⟨1, false, true, List.map (cInt .i64) r2⟩, some ⟨3, false, false, [[.v (.int .i64 r3), .row 3 1 0 ((o4).length), .row 4 1 0 (([]).length)]]⟩, some ⟨1, false, true, List.map (cInt .i64) o4⟩, some ⟨1, false, true, List.map (cInt .i64) []⟩], none, 0⟩) ?_ (f17_l1_ok hU r2 r3 o4 [] r3 o8 ho8)) (fun ex s1 hp => ?_)
    · try simp only [jjs]
      refine Wk.weak hU [some 0, some 1, some 2, some 3, none] _ (by decide) ?_ ?_
      · refine .obj rfl ?_ ?_
        · refine .mk ?_ (by simp only [bxm, leaf_ptr]) nofun
          refine .cons ?_ .nil
          (repeat' (first | exact WVs.nil | refine WVs.cons ?_ ?_ | (refine WVs.aggW ?_) | (refine WVs.fnW ?_ ?_))) <;> (first | exact WV.junk _ | exact WV.keep rfl | exact WV.row rfl | exact WV.nil rfl | exact WV.nilsl | exact WV.emp rfl | exact WV.empsl | exact WV.ptr rfl | (refine WV.row_eq rfl ?_; simp only [bxw, tys]) | (refine WV.view (k := 3) ?_; simp (decide := true) only [reify, share, fresh1, reduceIte, reduceCtorEq, Nat.reduceAdd, bxm, tys]) | (refine WV.eq ?_ rfl; simp only [bxw, tys]))
        refine .obj rfl ?_ ?_
        · first | exact .same _ _ _ | (refine WO.same_eq ?_; simp only [bxw, tys]; done)
        refine .obj rfl ?_ ?_
        · refine .mk ?_ (by simp only [bxm, leaf_ptr]) nofun
          refine .cons ?_ .nil
          (repeat' (first | exact WVs.nil | refine WVs.cons ?_ ?_ | (refine WVs.aggW ?_) | (refine WVs.fnW ?_ ?_))) <;> (first | exact WV.junk _ | exact WV.keep rfl | exact WV.row rfl | exact WV.nil rfl | exact WV.nilsl | exact WV.emp rfl | exact WV.empsl | exact WV.ptr rfl | (refine WV.row_eq rfl ?_; simp only [bxw, tys]) | (refine WV.view (k := 3) ?_; simp (decide := true) only [reify, share, fresh1, reduceIte, reduceCtorEq, Nat.reduceAdd, bxm, tys]) | (refine WV.eq ?_ rfl; simp only [bxw, tys]))
        refine .obj rfl ?_ ?_
        · first | exact .same _ _ _ | (refine WO.same_eq ?_; simp only [bxw, tys]; done)
        refine .virt ?_
        exact .nil
      · (repeat' (first | exact WVs.nil | refine WVs.cons ?_ ?_ | (refine WVs.aggW ?_) | (refine WVs.fnW ?_ ?_))) <;> (first | exact WV.junk _ | exact WV.keep rfl | exact WV.row rfl | exact WV.nil rfl | exact WV.nilsl | exact WV.emp rfl | exact WV.empsl | exact WV.ptr rfl | (refine WV.row_eq rfl ?_; simp only [bxw, tys]) | (refine WV.view (k := 3) ?_; simp (decide := true) only [reify, share, fresh1, reduceIte, reduceCtorEq, Nat.reduceAdd, bxm, tys]) | (refine WV.eq ?_ rfl; simp only [bxw, tys]))
    · obtain ⟨rfl, hp⟩ := hp
      refine blkE ?_
      refine thenN ?_
      refine hp.wp ?_
      try simp only [jjs]
      refine Wp.seq ?_
      refine Wp.region hU (f17_ci_ok _) (by simp (decide := true) (disch := (first | omega | (simp only [List.length_append, List.length_map, List.length_cons, List.length_nil]; omega))) only [evOp, putTm, E_T, E_gl, E_br, tdesc, reduceIte, reduceCtorEq, Nat.reduceAdd, Nat.reduceSub, Nat.reduceLT, Nat.reduceLeDiff, Nat.reduceEqDiff, bxm, tabs, evLoad, ldV, ofCells, TD.isAgg, evStore, putAt, tys]; rfl) ?_
      refine thenN ?_
      refine Wp.ret ?_
      obtain rfl := Option.some.inj h
      refine ⟨.inl rfl, ?_⟩
      refine Rt.of ?_
      simp (decide := true) only [evReturn, retShare, evReturn0, resAV, evLoad, ofCells, TD.isAgg, mapO, exportVs, exportV, exportL, export1, rowsOf, rowOf, innerIds, rowIds, one, closed, share, fresh1, E_T, reduceIte, reduceCtorEq, Nat.reduceAdd, Nat.reduceSub, Nat.reduceLT, Nat.reduceLeDiff, Nat.reduceEqDiff, bxm, tabs, List.map_append, f17_res, f17_rt, tys]

noncomputable def f17_tbl : CI := tbl 17 (fun p : (List Frame) × (List Frame) => [.sl (List.map cFrame p.1), .sl (List.map cFrame p.2)]) (fun p => (f17 p.1 p.2).map fun r => .agg [.v (.int .i64 r.Common), .own false 1 (List.map (cInt .i64) r.Out), .own false 1 (List.map (cInt .i64) r.In)])
theorem f17_tbl_ok {base : Nat} : CIOK E base f17_tbl := tbl_ok fun p r h => by obtain ⟨q, hq, rfl⟩ := Option.map_eq_some_iff.1 h; exact f17_ok p.1 p.2 q hq
theorem f17_call {from_ : List Frame} {to : List Frame} {r : Trip} (h : f17 from_ to = some r) (σ : Store) : f17_tbl 17 [.sl (List.map cFrame from_), .sl (List.map cFrame to)] σ = some (.agg [.v (.int .i64 r.Common), .own false 1 (List.map (cInt .i64) r.Out), .own false 1 (List.map (cInt .i64) r.In)], σ, none) :=
  tbl_eq (x := (from_, to)) (fun x y e => by
    obtain ⟨x0, x1⟩ := x; obtain ⟨y0, y1⟩ := y
    have e0 := av_sl injFrame (List.cons.inj e).1
    have e1 := av_sl injFrame (List.cons.inj (List.cons.inj e).2).1
    subst e0 e1; rfl) (by simp [h]) σ
end Go.Bx.Wind

/- sibyl/sibylref15.Ride, printed by pf.py. (Own text.) -/
namespace Go.Bx.Wind
set_option linter.unusedVariables false
set_option linter.unusedSimpArgs false
set_option linter.unusedSectionVars false
open Go.Proofs
set_option linter.unusedSimpArgs false
set_option linter.unusedVariables false
set_option maxRecDepth 10000
def f19_l0 (t : Trip) (out : List Int) (i : Int) : Option (Ou ((List Int) × Int) ((List Int))) :=
  if (decide (i < (t.Out.length : Int))) = true then
    (if ((out.length : Int) == 0) = true then
      (some (.ret ([], 150)))
    else
      rd out (IntKind.i64.wrap ((out.length : Int) - 1)) >>= fun e4 =>
      rd t.Out i >>= fun e5 =>
      if (e4 != e5) = true then
        (some (.ret ([], 150)))
      else
        cutL out 0 (IntKind.i64.wrap ((out.length : Int) - 1)) >>= fun p7 =>
        f19_l0 t p7 (IntKind.i64.wrap (i + 1)))
  else
    some (.nxt out)
  partial_fixpoint

/-- sibyl/sibylref15.Ride -/
def f19 (at_ : List Int) (t : Trip) : Option ((List Int) × Int) :=
  ap 8 [] at_ >>= fun a1 =>
  f19_l0 t a1 0 >>= fun o2 => match o2 with
  | .ret r0 => some r0
  | .nxt wo2 =>
    if ((wo2.length : Int) != t.Common) = true then
      (some ([], 150))
    else
      ap 8 wo2 t.In >>= fun a9 =>
      some (a9, 0)

theorem f19_res : Try.f19.results = #[.tmp 4, .tmp 5] := rfl
theorem f19_rt : Try.f19.resultTypes = #[25, 3] := rfl

set_option maxHeartbeats 4000000 in
theorem f19_l0_ok {base : Nat} {c00 : Ctx} (hU : Under E base c00 nilStore) (t : Trip) : ∀ (out : List Int) (i : Int) (o2 : Ou ((List Int) × Int) ((List Int))), f19_l0 t out i = some o2 →
    WpL E base c00 nilStore (lb Try.f19 0) ⟨jj 3 (.ptr 0 0 0 :: jj 2 (.row 1 1 0 ((out).length) :: .v (.int .i64 i) :: jj 41 [])), St [some ⟨3, false, false, [[.v (.int .i64 t.Common), .sl (List.map (cInt .i64) t.Out), .sl (List.map (cInt .i64) t.In)]]⟩, some ⟨1, false, true, List.map (cInt .i64) out⟩], none, 0⟩ (fun ex s1 => match o2 with | .ret r0 => ex = .ret ∧ Rt E base c00 Try.f19 (.tup [.own false 1 (List.map (cInt .i64) r0.1), .v (.int .i64 r0.2)]) s1 | .nxt wo2 => ex = .exit 0 ∧ Wk base c00 nilStore s1 ⟨jj 3 (.ptr 0 0 0 :: jj 2 (.row 1 1 0 ((wo2).length) :: jj 42 [])), St [some ⟨3, false, false, [[.v (.int .i64 t.Common), .sl (List.map (cInt .i64) t.Out), .sl (List.map (cInt .i64) t.In)]]⟩, some ⟨1, false, true, List.map (cInt .i64) wo2⟩], none, 0⟩) := by
  refine f19_l0.partial_correctness t (fun out i o2 => WpL E base c00 nilStore (lb Try.f19 0) ⟨jj 3 (.ptr 0 0 0 :: jj 2 (.row 1 1 0 ((out).length) :: .v (.int .i64 i) :: jj 41 [])), St [some ⟨3, false, false, [[.v (.int .i64 t.Common), .sl (List.map (cInt .i64) t.Out), .sl (List.map (cInt .i64) t.In)]]⟩, some ⟨1, false, true, List.map (cInt .i64) out⟩], none, 0⟩ (fun ex s1 => match o2 with | .ret r0 => ex = .ret ∧ Rt E base c00 Try.f19 (.tup [.own false 1 (List.map (cInt .i64) r0.1), .v (.int .i64 r0.2)]) s1 | .nxt wo2 => ex = .exit 0 ∧ Wk base c00 nilStore s1 ⟨jj 3 (.ptr 0 0 0 :: jj 2 (.row 1 1 0 ((wo2).length) :: jj 42 [])), St [some ⟨3, false, false, [[.v (.int .i64 t.Common), .sl (List.map (cInt .i64) t.Out), .sl (List.map (cInt .i64) t.In)]]⟩, some ⟨1, false, true, List.map (cInt .i64) wo2⟩], none, 0⟩)) ?_
  intro lp__ ih out i o2 h
  refine WpL.stepE (by simp only [Try.f19, lb, Option.getD_some, loopsOf, List.nil_append, List.append_nil, List.cons_append, List.getElem?_cons_zero, List.getElem?_cons_succ]; rfl) ?_
  try simp only [jjs]
  refine Wp.seq ?_
  refine Wp.seq ?_
  refine Wp.region hU no_ok (by simp (decide := true) (disch := (first | omega | (simp only [List.length_append, List.length_map, List.length_cons, List.length_nil]; omega))) only [evOp, putTm, E_T, E_gl, E_br, tdesc, reduceIte, reduceCtorEq, Nat.reduceAdd, Nat.reduceSub, Nat.reduceLT, Nat.reduceLeDiff, Nat.reduceEqDiff, bxm, tabs, fieldPlaceT, evLoad, ldV, ofCells, TD.isAgg, evA, lenAV, evBin, intBin, strBin, bothNil, constOp, eqCells, tys]; rfl) ?_
  refine thenN ?_
  refine Wp.cond hU (t := decide (i < (t.Out.length : Int))) rfl (fun hc3 => ?_) (fun hc3 => ?_)
  · rw [if_t hc3] at h
    refine Wp.skip ?_
    refine thenN ?_
    refine Wp.seq ?_
    refine Wp.block ?_
    refine Wp.seq ?_
    refine Wp.seq ?_
    rcases Bool.eq_false_or_eq_true ((out.length : Int) == 0) with hg20 | hg20
    · rw [if_t hg20] at h
      refine Wp.region hU no_ok (by simp (decide := true) (disch := (first | omega | (simp only [List.length_append, List.length_map, List.length_cons, List.length_nil]; omega))) only [evOp, putTm, E_T, E_gl, E_br, tdesc, reduceIte, reduceCtorEq, Nat.reduceAdd, Nat.reduceSub, Nat.reduceLT, Nat.reduceLeDiff, Nat.reduceEqDiff, bxm, tabs, evA, lenAV, evBin, intBin, strBin, bothNil, constOp, eqCells, indexAddrAV, evLoad, ldV, ofCells, TD.isAgg, fieldPlaceT, hc3, hg20, tys]; rfl) ?_
      refine thenN ?_
      refine Wp.cond hU (t := true) rfl (fun _ => ?_) (fun hc => by cases hc)
      refine Wp.seq ?_
      refine Wp.region hU no_ok (by simp (decide := true) (disch := (first | omega | (simp only [List.length_append, List.length_map, List.length_cons, List.length_nil]; omega))) only [evOp, putTm, E_T, E_gl, E_br, tdesc, reduceIte, reduceCtorEq, Nat.reduceAdd, Nat.reduceSub, Nat.reduceLT, Nat.reduceLeDiff, Nat.reduceEqDiff, bxm, tabs, hc3, hg20, tys]; rfl) ?_
      refine thenN ?_
      refine Wp.ret ?_
      refine thenR ?_
      refine blkR ?_
      refine thenR ?_
      refine againR ?_
      obtain rfl := Option.some.inj h
      refine ⟨rfl, ?_⟩
      refine Rt.of ?_
      simp (decide := true) only [evReturn, retShare, evReturn0, resAV, evLoad, ofCells, TD.isAgg, mapO, exportVs, exportV, exportL, export1, rowsOf, rowOf, innerIds, rowIds, one, closed, share, fresh1, E_T, reduceIte, reduceCtorEq, Nat.reduceAdd, Nat.reduceSub, Nat.reduceLT, Nat.reduceLeDiff, Nat.reduceEqDiff, bxm, tabs, List.map_append, f19_res, f19_rt, tys]
    · rw [if_f hg20] at h
      obtain ⟨e4, he4, h⟩ := bind_some h
      obtain ⟨he4a, he4b, he4c⟩ := rd_some he4
      obtain ⟨e5, he5, h⟩ := bind_some h
      obtain ⟨he5a, he5b, he5c⟩ := rd_some he5
      refine Wp.region hU no_ok (by simp (decide := true) (disch := (first | omega | (simp only [List.length_append, List.length_map, List.length_cons, List.length_nil]; omega))) only [evOp, putTm, E_T, E_gl, E_br, tdesc, reduceIte, reduceCtorEq, Nat.reduceAdd, Nat.reduceSub, Nat.reduceLT, Nat.reduceLeDiff, Nat.reduceEqDiff, bxm, tabs, evA, lenAV, evBin, intBin, strBin, bothNil, constOp, eqCells, indexAddrAV, evLoad, ldV, ofCells, TD.isAgg, fieldPlaceT, he4a, he4b, he4c, he5a, he5b, he5c, hc3, hg20, tys]; rfl) ?_
      refine thenN ?_
      refine Wp.cond hU (t := e4 != e5) rfl (fun hc6 => ?_) (fun hc6 => ?_)
      · rw [if_t hc6] at h
        refine Wp.seq ?_
        refine Wp.region hU no_ok (by simp (decide := true) (disch := (first | omega | (simp only [List.length_append, List.length_map, List.length_cons, List.length_nil]; omega))) only [evOp, putTm, E_T, E_gl, E_br, tdesc, reduceIte, reduceCtorEq, Nat.reduceAdd, Nat.reduceSub, Nat.reduceLT, Nat.reduceLeDiff, Nat.reduceEqDiff, bxm, tabs, hc3, hg20, hc6, tys]; rfl) ?_
        refine thenN ?_
        refine Wp.ret ?_
        refine thenR ?_
        refine blkR ?_
        refine thenR ?_
        refine againR ?_
        obtain rfl := Option.some.inj h
        refine ⟨rfl, ?_⟩
        refine Rt.of ?_
        simp (decide := true) only [evReturn, retShare, evReturn0, resAV, evLoad, ofCells, TD.isAgg, mapO, exportVs, exportV, exportL, export1, rowsOf, rowOf, innerIds, rowIds, one, closed, share, fresh1, E_T, reduceIte, reduceCtorEq, Nat.reduceAdd, Nat.reduceSub, Nat.reduceLT, Nat.reduceLeDiff, Nat.reduceEqDiff, bxm, tabs, List.map_append, f19_res, f19_rt, tys]
      · rw [if_f hc6] at h
        refine Wp.skip ?_
        refine thenN ?_
        obtain ⟨p7, hp7, h⟩ := bind_some h
        obtain ⟨hp7a, hp7b, hp7c, hp7d, hp7e, hp7f⟩ := cutL_some hp7
        refine Wp.region hU no_ok (by simp (decide := true) (disch := (first | omega | (simp only [List.length_append, List.length_map, List.length_cons, List.length_nil]; omega))) only [evOp, putTm, E_T, E_gl, E_br, tdesc, reduceIte, reduceCtorEq, Nat.reduceAdd, Nat.reduceSub, Nat.reduceLT, Nat.reduceLeDiff, Nat.reduceEqDiff, bxm, tabs, evA, lenAV, evBin, intBin, strBin, bothNil, constOp, eqCells, sliceAV, boundAV, hp7a, hp7b, hp7c, hp7d, slice_take, hc3, hg20, hc6, tys]; rfl) ?_
        refine blkN ?_
        refine thenN ?_
        refine Wp.region hU no_ok (by simp (decide := true) (disch := (first | omega | (simp only [List.length_append, List.length_map, List.length_cons, List.length_nil]; omega))) only [evOp, putTm, E_T, E_gl, E_br, tdesc, reduceIte, reduceCtorEq, Nat.reduceAdd, Nat.reduceSub, Nat.reduceLT, Nat.reduceLeDiff, Nat.reduceEqDiff, bxm, tabs, evBin, intBin, strBin, bothNil, constOp, eqCells, slice_take, hp7a, hp7b, hp7c, hp7d, hc3, hg20, hc6, tys]; rfl) ?_
        refine againN ?_
        refine Wk.wpL ?_ (ih p7 (IntKind.i64.wrap (i + 1)) _ h)
        try simp only [jjs]
        refine Wk.weak hU [some 0, some 1] _ (by decide) ?_ ?_
        · refine .obj rfl ?_ ?_
          · refine .mk ?_ (by simp only [bxm, leaf_ptr]) nofun
            refine .cons ?_ .nil
            (repeat' (first | exact WVs.nil | refine WVs.cons ?_ ?_ | (refine WVs.aggW ?_) | (refine WVs.fnW ?_ ?_))) <;> (first | exact WV.junk _ | exact WV.keep rfl | exact WV.row rfl | exact WV.nil rfl | exact WV.nilsl | exact WV.emp rfl | exact WV.empsl | exact WV.ptr rfl | (refine WV.row_eq rfl ?_; simp only [bxw, hp7f, tys]) | (refine WV.view (k := 3) ?_; simp (decide := true) only [reify, share, fresh1, reduceIte, reduceCtorEq, Nat.reduceAdd, bxm, hp7e, tys, slice_take, Int.toNat_zero, List.drop_zero, true_and, and_true, hp7c, hp7d]) | (refine WV.eq ?_ rfl; simp only [bxw, hp7e, tys]))
          refine .obj rfl ?_ ?_
          · refine WO.trunc_eq ⟨(IntKind.i64.wrap ((out.length : Int) - 1)).toNat, ?_⟩; simp only [bxw, hp7e, tys]
          exact .nil
        · (repeat' (first | exact WVs.nil | refine WVs.cons ?_ ?_ | (refine WVs.aggW ?_) | (refine WVs.fnW ?_ ?_))) <;> (first | exact WV.junk _ | exact WV.keep rfl | exact WV.row rfl | exact WV.nil rfl | exact WV.nilsl | exact WV.emp rfl | exact WV.empsl | exact WV.ptr rfl | (refine WV.row_eq rfl ?_; simp only [bxw, hp7f, tys]) | (refine WV.view (k := 3) ?_; simp (decide := true) only [reify, share, fresh1, reduceIte, reduceCtorEq, Nat.reduceAdd, bxm, hp7e, tys, slice_take, Int.toNat_zero, List.drop_zero, true_and, and_true, hp7c, hp7d]) | (refine WV.eq ?_ rfl; simp only [bxw, hp7e, tys]))
  · rw [if_f hc3] at h
    refine Wp.exit ?_
    refine thenE ?_
    refine againE ?_
    obtain rfl := Option.some.inj h
    refine ⟨rfl, ?_⟩
    try simp only [jjs]
    refine Wk.weak hU [some 0, some 1] _ (by decide) ?_ ?_
    · refine .obj rfl ?_ ?_
      · refine .mk ?_ (by simp only [bxm, leaf_ptr]) nofun
        refine .cons ?_ .nil
        (repeat' (first | exact WVs.nil | refine WVs.cons ?_ ?_ | (refine WVs.aggW ?_) | (refine WVs.fnW ?_ ?_))) <;> (first | exact WV.junk _ | exact WV.keep rfl | exact WV.row rfl | exact WV.nil rfl | exact WV.nilsl | exact WV.emp rfl | exact WV.empsl | exact WV.ptr rfl | (refine WV.row_eq rfl ?_; simp only [bxw, tys]) | (refine WV.view (k := 3) ?_; simp (decide := true) only [reify, share, fresh1, reduceIte, reduceCtorEq, Nat.reduceAdd, bxm, tys]) | (refine WV.eq ?_ rfl; simp only [bxw, tys]))
      refine .obj rfl ?_ ?_
      · first | exact .same _ _ _ | (refine WO.same_eq ?_; simp only [bxw, tys]; done)
      exact .nil
    · (repeat' (first | exact WVs.nil | refine WVs.cons ?_ ?_ | (refine WVs.aggW ?_) | (refine WVs.fnW ?_ ?_))) <;> (first | exact WV.junk _ | exact WV.keep rfl | exact WV.row rfl | exact WV.nil rfl | exact WV.nilsl | exact WV.emp rfl | exact WV.empsl | exact WV.ptr rfl | (refine WV.row_eq rfl ?_; simp only [bxw, tys]) | (refine WV.view (k := 3) ?_; simp (decide := true) only [reify, share, fresh1, reduceIte, reduceCtorEq, Nat.reduceAdd, bxm, tys]) | (refine WV.eq ?_ rfl; simp only [bxw, tys]))

set_option maxHeartbeats 4000000 in
theorem f19_ok (at_ : List Int) (t : Trip) (r : (List Int) × Int) (h : f19 at_ t = some r) : PureOK E 19 [.sl (List.map (cInt .i64) at_), .agg [.v (.int .i64 t.Common), .sl (List.map (cInt .i64) t.Out), .sl (List.map (cInt .i64) t.In)]] (.tup [.own false 1 (List.map (cInt .i64) r.1), .v (.int .i64 r.2)]) := by
  unfold f19 at h
  refine pure_of_wp tabOK mixed (fn := Try.f19) (nt := 49) Try.func19 rfl rfl (names _ _ Try.func19) rfl rfl (fun _ => rfl) (fun base c00 hU => ?_)
  refine Wk.wp (s2 := ⟨.sl (List.map (cInt .i64) at_) :: .agg [.v (.int .i64 t.Common), .sl (List.map (cInt .i64) t.Out), .sl (List.map (cInt .i64) t.In)] :: jj 47 [], St [], none, 0⟩) ?_ ?_
  · refine Wk.weak hU [] _ (by decide) .nil ?_
    simp only [jjs, List.length_cons, List.length_nil, Nat.reduceAdd, Nat.reduceSub, List.replicate, List.cons_append, List.nil_append]
    repeat' (first | exact WVs.nil | refine WVs.cons ?_ ?_)
    all_goals first | exact WV.junk _ | exact WV.keep rfl | exact .agg rfl (aggKeep rfl)
  try simp only [jjs]
  refine Wp.seq ?_
  refine Wp.region hU no_ok (by simp (decide := true) (disch := (first | omega | (simp only [List.length_append, List.length_map, List.length_cons, List.length_nil]; omega))) only [evOp, putTm, E_T, E_gl, E_br, tdesc, reduceIte, reduceCtorEq, Nat.reduceAdd, Nat.reduceSub, Nat.reduceLT, Nat.reduceLeDiff, Nat.reduceEqDiff, bxm, tabs, tys]; rfl) ?_
  refine thenN ?_
  refine Wp.seq ?_
  obtain ⟨a1, ha1, h⟩ := bind_some h
  obtain ⟨ha1a, ha1b⟩ := ap_some ha1
  try simp only [List.length_cons, List.length_nil, Nat.zero_add, Nat.add_zero, Nat.reduceAdd] at ha1a
  refine Wp.region hU no_ok (by simp (decide := true) (disch := (first | omega | (simp only [List.length_append, List.length_map, List.length_cons, List.length_nil]; omega))) only [evOp, putTm, E_T, E_gl, E_br, tdesc, reduceIte, reduceCtorEq, Nat.reduceAdd, Nat.reduceSub, Nat.reduceLT, Nat.reduceLeDiff, Nat.reduceEqDiff, bxm, tabs, evA, evAppend, elems, flatOf, ha1a, tys]; rfl) ?_
  refine thenN ?_
  refine Wk.wp (s2 := ⟨jj 3 (.ptr 0 0 0 :: jj 2 (.row 1 1 0 ((a1).length) :: jj 42 [])), St [some ⟨3, false, false, [[.v (.int .i64 t.Common), .sl (List.map (cInt .i64) t.Out), .sl (List.map (cInt .i64) t.In)]]⟩, some ⟨1, false, true, List.map (cInt .i64) a1⟩], none, 0⟩) ?_ ?_
  · try simp only [jjs]
    refine Wk.weak hU [some 0, some 2] _ (by decide) ?_ ?_
    · refine .obj rfl ?_ ?_
      · refine .mk ?_ (by simp only [bxm, leaf_ptr]) nofun
        refine .cons ?_ .nil
        (repeat' (first | exact WVs.nil | refine WVs.cons ?_ ?_ | (refine WVs.aggW ?_) | (refine WVs.fnW ?_ ?_))) <;> (first | exact WV.junk _ | exact WV.keep rfl | exact WV.row rfl | exact WV.nil rfl | exact WV.nilsl | exact WV.emp rfl | exact WV.empsl | exact WV.ptr rfl | (refine WV.row_eq rfl ?_; simp only [bxw, ha1b, tys]) | (refine WV.view (k := 3) ?_; simp (decide := true) only [reify, share, fresh1, reduceIte, reduceCtorEq, Nat.reduceAdd, bxm, tys]) | (refine WV.eq ?_ rfl; simp only [bxw, ha1b, tys]))
      refine .obj rfl ?_ ?_
      · first | exact .same _ _ _ | (refine WO.same_eq ?_; simp only [bxw, ha1b, tys]; done)
      exact .nil
    · (repeat' (first | exact WVs.nil | refine WVs.cons ?_ ?_ | (refine WVs.aggW ?_) | (refine WVs.fnW ?_ ?_))) <;> (first | exact WV.junk _ | exact WV.keep rfl | exact WV.row rfl | exact WV.nil rfl | exact WV.nilsl | exact WV.emp rfl | exact WV.empsl | exact WV.ptr rfl | (refine WV.row_eq rfl ?_; simp only [bxw, ha1b, tys]) | (refine WV.view (k := 3) ?_; simp (decide := true) only [reify, share, fresh1, reduceIte, reduceCtorEq, Nat.reduceAdd, bxm, tys]) | (refine WV.eq ?_ rfl; simp only [bxw, ha1b, tys]))
  try simp only [jjs]
  refine Wp.seq ?_
  refine Wp.seq ?_
  refine Wp.region hU no_ok (by simp (decide := true) (disch := (first | omega | (simp only [List.length_append, List.length_map, List.length_cons, List.length_nil]; omega))) only [evOp, putTm, E_T, E_gl, E_br, tdesc, reduceIte, reduceCtorEq, Nat.reduceAdd, Nat.reduceSub, Nat.reduceLT, Nat.reduceLeDiff, Nat.reduceEqDiff, bxm, tabs, tys]; rfl) ?_
  refine thenN ?_
  refine Wp.block ?_
  obtain ⟨o2, ho2, h⟩ := bind_some h
  refine Wp.loop ?_
  refine Tw.mono (Wk.wpL (s2 := ⟨jj 3 (.ptr 0 0 0 :: jj 2 (.row 1 1 0 ((a1).length) :: .v (.int .i64 0) :: jj 41 [])), St [some ⟨3, false, false, [[.v (.int .i64 t.Common), .sl (List.map (cInt .i64) t.Out), .sl (List.map (cInt .i64) t.In)]]⟩, some ⟨1, false, true, List.map (cInt .i64) a1⟩], none, 0⟩) ?_ (f19_l0_ok hU t a1 0 o2 ho2)) (fun ex s1 hp => ?_)
  · try simp only [jjs]
    refine Wk.weak hU [some 0, some 1] _ (by decide) ?_ ?_
    · refine .obj rfl ?_ ?_
      · refine .mk ?_ (by simp only [bxm, leaf_ptr]) nofun
        refine .cons ?_ .nil
        (repeat' (first | exact WVs.nil | refine WVs.cons ?_ ?_ | (refine WVs.aggW ?_) | (refine WVs.fnW ?_ ?_))) <;> (first | exact WV.junk _ | exact WV.keep rfl | exact WV.row rfl | exact WV.nil rfl | exact WV.nilsl | exact WV.emp rfl | exact WV.empsl | exact WV.ptr rfl | (refine WV.row_eq rfl ?_; simp only [bxw, ha1b, tys]) | (refine WV.view (k := 3) ?_; simp (decide := true) only [reify, share, fresh1, reduceIte, reduceCtorEq, Nat.reduceAdd, bxm, tys]) | (refine WV.eq ?_ rfl; simp only [bxw, ha1b, tys]))
      refine .obj rfl ?_ ?_
      · first | exact .same _ _ _ | (refine WO.same_eq ?_; simp only [bxw, ha1b, tys]; done)
      exact .nil
    · (repeat' (first | exact WVs.nil | refine WVs.cons ?_ ?_ | (refine WVs.aggW ?_) | (refine WVs.fnW ?_ ?_))) <;> (first | exact WV.junk _ | exact WV.keep rfl | exact WV.row rfl | exact WV.nil rfl | exact WV.nilsl | exact WV.emp rfl | exact WV.empsl | exact WV.ptr rfl | (refine WV.row_eq rfl ?_; simp only [bxw, ha1b, tys]) | (refine WV.view (k := 3) ?_; simp (decide := true) only [reify, share, fresh1, reduceIte, reduceCtorEq, Nat.reduceAdd, bxm, tys]) | (refine WV.eq ?_ rfl; simp only [bxw, ha1b, tys]))
  · cases o2 with
    | ret r0 =>
      obtain ⟨rfl, hp⟩ := hp
      obtain rfl := Option.some.inj h
      refine blkR ?_
      refine thenR ?_
      exact ⟨.inl rfl, hp⟩
    | nxt wo2 =>
      obtain ⟨rfl, hp⟩ := hp
      dsimp only at h
      refine blkE ?_
      refine thenN ?_
      refine hp.wp ?_
      try simp only [jjs]
      refine Wp.seq ?_
      refine Wp.seq ?_
      refine Wp.region hU no_ok (by simp (decide := true) (disch := (first | omega | (simp only [List.length_append, List.length_map, List.length_cons, List.length_nil]; omega))) only [evOp, putTm, E_T, E_gl, E_br, tdesc, reduceIte, reduceCtorEq, Nat.reduceAdd, Nat.reduceSub, Nat.reduceLT, Nat.reduceLeDiff, Nat.reduceEqDiff, bxm, tabs, evA, lenAV, fieldPlaceT, evLoad, ldV, ofCells, TD.isAgg, evBin, intBin, strBin, bothNil, constOp, eqCells, tys]; rfl) ?_
      refine thenN ?_
      refine Wp.cond hU (t := (wo2.length : Int) != t.Common) rfl (fun hc8 => ?_) (fun hc8 => ?_)
      · rw [if_t hc8] at h
        refine Wp.seq ?_
        refine Wp.region hU no_ok (by simp (decide := true) (disch := (first | omega | (simp only [List.length_append, List.length_map, List.length_cons, List.length_nil]; omega))) only [evOp, putTm, E_T, E_gl, E_br, tdesc, reduceIte, reduceCtorEq, Nat.reduceAdd, Nat.reduceSub, Nat.reduceLT, Nat.reduceLeDiff, Nat.reduceEqDiff, bxm, tabs, hc8, tys]; rfl) ?_
        refine thenN ?_
        refine Wp.ret ?_
        refine thenR ?_
        obtain rfl := Option.some.inj h
        refine ⟨.inl rfl, ?_⟩
        refine Rt.of ?_
        simp (decide := true) only [evReturn, retShare, evReturn0, resAV, evLoad, ofCells, TD.isAgg, mapO, exportVs, exportV, exportL, export1, rowsOf, rowOf, innerIds, rowIds, one, closed, share, fresh1, E_T, reduceIte, reduceCtorEq, Nat.reduceAdd, Nat.reduceSub, Nat.reduceLT, Nat.reduceLeDiff, Nat.reduceEqDiff, bxm, tabs, List.map_append, f19_res, f19_rt, tys, ha1b]
      · rw [if_f hc8] at h
        refine Wp.skip ?_
        refine thenN ?_
        refine Wp.seq ?_
        obtain ⟨a9, ha9, h⟩ := bind_some h
        obtain ⟨ha9a, ha9b⟩ := ap_some ha9
        try simp only [List.length_cons, List.length_nil, Nat.zero_add, Nat.add_zero, Nat.reduceAdd] at ha9a
        refine Wp.region hU no_ok (by simp (decide := true) (disch := (first | omega | (simp only [List.length_append, List.length_map, List.length_cons, List.length_nil]; omega))) only [evOp, putTm, E_T, E_gl, E_br, tdesc, reduceIte, reduceCtorEq, Nat.reduceAdd, Nat.reduceSub, Nat.reduceLT, Nat.reduceLeDiff, Nat.reduceEqDiff, bxm, tabs, fieldPlaceT, evLoad, ldV, ofCells, TD.isAgg, evAppend, elems, flatOf, ha9a, hc8, tys]; rfl) ?_
        refine thenN ?_
        refine Wp.ret ?_
        obtain rfl := Option.some.inj h
        refine ⟨.inl rfl, ?_⟩
        refine Rt.of ?_
        simp (decide := true) only [evReturn, retShare, evReturn0, resAV, evLoad, ofCells, TD.isAgg, mapO, exportVs, exportV, exportL, export1, rowsOf, rowOf, innerIds, rowIds, one, closed, share, fresh1, E_T, reduceIte, reduceCtorEq, Nat.reduceAdd, Nat.reduceSub, Nat.reduceLT, Nat.reduceLeDiff, Nat.reduceEqDiff, bxm, tabs, List.map_append, f19_res, f19_rt, tys, ha1b, ha9b]

noncomputable def f19_tbl : CI := tbl 19 (fun p : (List Int) × Trip => [.sl (List.map (cInt .i64) p.1), .agg [.v (.int .i64 p.2.Common), .sl (List.map (cInt .i64) p.2.Out), .sl (List.map (cInt .i64) p.2.In)]]) (fun p => (f19 p.1 p.2).map fun r => .tup [.own false 1 (List.map (cInt .i64) r.1), .v (.int .i64 r.2)])
theorem f19_tbl_ok {base : Nat} : CIOK E base f19_tbl := tbl_ok fun p r h => by obtain ⟨q, hq, rfl⟩ := Option.map_eq_some_iff.1 h; exact f19_ok p.1 p.2 q hq
theorem f19_call {at_ : List Int} {t : Trip} {r : (List Int) × Int} (h : f19 at_ t = some r) (σ : Store) : f19_tbl 19 [.sl (List.map (cInt .i64) at_), .agg [.v (.int .i64 t.Common), .sl (List.map (cInt .i64) t.Out), .sl (List.map (cInt .i64) t.In)]] σ = some (.tup [.own false 1 (List.map (cInt .i64) r.1), .v (.int .i64 r.2)], σ, none) :=
  tbl_eq (x := (at_, t)) (fun x y e => by
    obtain ⟨x0, x1⟩ := x; obtain ⟨y0, y1⟩ := y
    have e0 := av_sl inj_int (List.cons.inj e).1
    have e1 := av_agg injTrip (List.cons.inj (List.cons.inj e).2).1
    subst e0 e1; rfl) (by simp [h]) σ
end Go.Bx.Wind

/- sibyl/sibylref15.Nearest, printed by pf.py. (Own text.) -/
namespace Go.Bx.Wind
set_option linter.unusedVariables false
set_option linter.unusedSimpArgs false
set_option linter.unusedSectionVars false
open Go.Proofs
set_option linter.unusedSimpArgs false
set_option linter.unusedVariables false
set_option maxRecDepth 10000
def f21_l0 (fs : List Frame) (i : Int) : Option (Ou ((List Int) × Int) Unit) :=
  if (decide (i ≥ 0)) = true then
    (rd fs i >>= fun e3 =>
    if (e3.Kind == 3) = true then
      (rd fs i >>= fun e5 =>
      some (.ret (e5.Hs, i)))
    else
      f21_l0 fs (IntKind.i64.wrap (i - 1)))
  else
    some (.nxt ())
  partial_fixpoint

/-- sibyl/sibylref15.Nearest -/
def f21 (fs : List Frame) : Option ((List Int) × Int) :=
  f21_l0 fs (IntKind.i64.wrap ((fs.length : Int) - 1)) >>= fun o1 => match o1 with
  | .ret r0 => some r0
  | .nxt wo1 =>
    some ([], -1)

theorem f21_res : Try.f21.results = #[.tmp 2, .tmp 3] := rfl
theorem f21_rt : Try.f21.resultTypes = #[25, 3] := rfl

set_option maxHeartbeats 4000000 in
theorem f21_l0_ok {base : Nat} {c00 : Ctx} (hU : Under E base c00 nilStore) (fs : List Frame) : ∀ (i : Int) (o1 : Ou ((List Int) × Int) Unit), f21_l0 fs i = some o1 →
    WpL E base c00 nilStore (lb Try.f21 0) ⟨.sl (List.map cFrame fs) :: jj 3 (.v (.int .i64 i) :: jj 19 []), St [], none, 0⟩ (fun ex s1 => match o1 with | .ret r0 => ex = .ret ∧ Rt E base c00 Try.f21 (.tup [.sl (List.map (cInt .i64) r0.1), .v (.int .i64 r0.2)]) s1 | .nxt wo1 => ex = .exit 0 ∧ Wk base c00 nilStore s1 ⟨jj 24 [], St [], none, 0⟩) := by
  refine f21_l0.partial_correctness fs (fun i o1 => WpL E base c00 nilStore (lb Try.f21 0) ⟨.sl (List.map cFrame fs) :: jj 3 (.v (.int .i64 i) :: jj 19 []), St [], none, 0⟩ (fun ex s1 => match o1 with | .ret r0 => ex = .ret ∧ Rt E base c00 Try.f21 (.tup [.sl (List.map (cInt .i64) r0.1), .v (.int .i64 r0.2)]) s1 | .nxt wo1 => ex = .exit 0 ∧ Wk base c00 nilStore s1 ⟨jj 24 [], St [], none, 0⟩)) ?_
  intro lp__ ih i o1 h
  refine WpL.stepE (by simp only [Try.f21, lb, Option.getD_some, loopsOf, List.nil_append, List.append_nil, List.cons_append, List.getElem?_cons_zero, List.getElem?_cons_succ]; rfl) ?_
  try simp only [jjs]
  refine Wp.seq ?_
  refine Wp.seq ?_
  refine Wp.region hU no_ok (by simp (decide := true) (disch := (first | omega | (simp only [List.length_append, List.length_map, List.length_cons, List.length_nil]; omega))) only [evOp, putTm, E_T, E_gl, E_br, tdesc, reduceIte, reduceCtorEq, Nat.reduceAdd, Nat.reduceSub, Nat.reduceLT, Nat.reduceLeDiff, Nat.reduceEqDiff, bxm, tabs, evBin, intBin, strBin, bothNil, constOp, eqCells, tys]; rfl) ?_
  refine thenN ?_
  refine Wp.cond hU (t := decide (i ≥ 0)) rfl (fun hc2 => ?_) (fun hc2 => ?_)
  · rw [if_t hc2] at h
    refine Wp.skip ?_
    refine thenN ?_
    refine Wp.seq ?_
    refine Wp.block ?_
    refine Wp.seq ?_
    obtain ⟨e3, he3, h⟩ := bind_some h
    obtain ⟨he3a, he3b, he3c⟩ := rd_some he3
    refine Wp.region hU no_ok (by simp (decide := true) (disch := (first | omega | (simp only [List.length_append, List.length_map, List.length_cons, List.length_nil]; omega))) only [evOp, putTm, E_T, E_gl, E_br, tdesc, reduceIte, reduceCtorEq, Nat.reduceAdd, Nat.reduceSub, Nat.reduceLT, Nat.reduceLeDiff, Nat.reduceEqDiff, bxm, tabs, indexAddrAV, fieldPlaceT, evLoad, ldV, ofCells, TD.isAgg, evBin, intBin, strBin, bothNil, constOp, eqCells, he3a, he3b, he3c, hc2, tys]; rfl) ?_
    refine thenN ?_
    refine Wp.cond hU (t := e3.Kind == 3) rfl (fun hc4 => ?_) (fun hc4 => ?_)
    · rw [if_t hc4] at h
      refine Wp.seq ?_
      obtain ⟨e5, he5, h⟩ := bind_some h
      obtain ⟨he5a, he5b, he5c⟩ := rd_some he5
      refine Wp.region hU no_ok (by simp (decide := true) (disch := (first | omega | (simp only [List.length_append, List.length_map, List.length_cons, List.length_nil]; omega))) only [evOp, putTm, E_T, E_gl, E_br, tdesc, reduceIte, reduceCtorEq, Nat.reduceAdd, Nat.reduceSub, Nat.reduceLT, Nat.reduceLeDiff, Nat.reduceEqDiff, bxm, tabs, indexAddrAV, fieldPlaceT, evLoad, ldV, ofCells, TD.isAgg, he5a, he5b, he5c, hc2, hc4, tys]; rfl) ?_
      refine thenN ?_
      refine Wp.ret ?_
      refine blkR ?_
      refine thenR ?_
      refine againR ?_
      obtain rfl := Option.some.inj h
      refine ⟨rfl, ?_⟩
      refine Rt.of ?_
      simp (decide := true) only [evReturn, retShare, evReturn0, resAV, evLoad, ofCells, TD.isAgg, mapO, exportVs, exportV, exportL, export1, rowsOf, rowOf, innerIds, rowIds, one, closed, share, fresh1, E_T, reduceIte, reduceCtorEq, Nat.reduceAdd, Nat.reduceSub, Nat.reduceLT, Nat.reduceLeDiff, Nat.reduceEqDiff, bxm, tabs, List.map_append, f21_res, f21_rt, tys]
    · rw [if_f hc4] at h
      refine Wp.skip ?_
      refine blkN ?_
      refine thenN ?_
      refine Wp.region hU no_ok (by simp (decide := true) (disch := (first | omega | (simp only [List.length_append, List.length_map, List.length_cons, List.length_nil]; omega))) only [evOp, putTm, E_T, E_gl, E_br, tdesc, reduceIte, reduceCtorEq, Nat.reduceAdd, Nat.reduceSub, Nat.reduceLT, Nat.reduceLeDiff, Nat.reduceEqDiff, bxm, tabs, evBin, intBin, strBin, bothNil, constOp, eqCells, hc2, hc4, tys]; rfl) ?_
      refine againN ?_
      refine Wk.wpL ?_ (ih (IntKind.i64.wrap (i - 1)) _ h)
      try simp only [jjs]
      refine Wk.weak hU [] _ (by decide) ?_ ?_
      · exact .nil
      · (repeat' (first | exact WVs.nil | refine WVs.cons ?_ ?_ | (refine WVs.aggW ?_) | (refine WVs.fnW ?_ ?_))) <;> (first | exact WV.junk _ | exact WV.keep rfl | exact WV.row rfl | exact WV.nil rfl | exact WV.nilsl | exact WV.emp rfl | exact WV.empsl | exact WV.ptr rfl | (refine WV.row_eq rfl ?_; simp only [bxw, tys]) | (refine WV.view (k := 3) ?_; simp (decide := true) only [reify, share, fresh1, reduceIte, reduceCtorEq, Nat.reduceAdd, bxm, tys]) | (refine WV.eq ?_ rfl; simp only [bxw, tys]))
  · rw [if_f hc2] at h
    refine Wp.exit ?_
    refine thenE ?_
    refine againE ?_
    obtain rfl := Option.some.inj h
    refine ⟨rfl, ?_⟩
    try simp only [jjs]
    refine Wk.weak hU [] _ (by decide) ?_ ?_
    · exact .nil
    · (repeat' (first | exact WVs.nil | refine WVs.cons ?_ ?_ | (refine WVs.aggW ?_) | (refine WVs.fnW ?_ ?_))) <;> (first | exact WV.junk _ | exact WV.keep rfl | exact WV.row rfl | exact WV.nil rfl | exact WV.nilsl | exact WV.emp rfl | exact WV.empsl | exact WV.ptr rfl | (refine WV.row_eq rfl ?_; simp only [bxw, tys]) | (refine WV.view (k := 3) ?_; simp (decide := true) only [reify, share, fresh1, reduceIte, reduceCtorEq, Nat.reduceAdd, bxm, tys]) | (refine WV.eq ?_ rfl; simp only [bxw, tys]))

set_option maxHeartbeats 4000000 in
theorem f21_ok (fs : List Frame) (r : (List Int) × Int) (h : f21 fs = some r) : PureOK E 21 [.sl (List.map cFrame fs)] (.tup [.sl (List.map (cInt .i64) r.1), .v (.int .i64 r.2)]) := by
  unfold f21 at h
  refine pure_of_wp tabOK mixed (fn := Try.f21) (nt := 24) Try.func21 rfl rfl (names _ _ Try.func21) rfl rfl (fun _ => rfl) (fun base c00 hU => ?_)
  refine Wk.wp (s2 := ⟨.sl (List.map cFrame fs) :: jj 23 [], St [], none, 0⟩) ?_ ?_
  · refine Wk.weak hU [] _ (by decide) .nil ?_
    simp only [jjs, List.length_cons, List.length_nil, Nat.reduceAdd, Nat.reduceSub, List.replicate, List.cons_append, List.nil_append]
    repeat' (first | exact WVs.nil | refine WVs.cons ?_ ?_)
    all_goals first | exact WV.junk _ | exact WV.keep rfl | exact .agg rfl (aggKeep rfl)
  try simp only [jjs]
  refine Wp.seq ?_
  refine Wp.region hU no_ok (by simp (decide := true) (disch := (first | omega | (simp only [List.length_append, List.length_map, List.length_cons, List.length_nil]; omega))) only [evOp, putTm, E_T, E_gl, E_br, tdesc, reduceIte, reduceCtorEq, Nat.reduceAdd, Nat.reduceSub, Nat.reduceLT, Nat.reduceLeDiff, Nat.reduceEqDiff, bxm, tabs, tys]; rfl) ?_
  refine thenN ?_
  refine Wp.seq ?_
  refine Wp.seq ?_
  refine Wp.region hU no_ok (by simp (decide := true) (disch := (first | omega | (simp only [List.length_append, List.length_map, List.length_cons, List.length_nil]; omega))) only [evOp, putTm, E_T, E_gl, E_br, tdesc, reduceIte, reduceCtorEq, Nat.reduceAdd, Nat.reduceSub, Nat.reduceLT, Nat.reduceLeDiff, Nat.reduceEqDiff, bxm, tabs, evA, lenAV, evBin, intBin, strBin, bothNil, constOp, eqCells, tys]; rfl) ?_
  refine thenN ?_
  refine Wp.block ?_
  obtain ⟨o1, ho1, h⟩ := bind_some h
  refine Wp.loop ?_
  refine Tw.mono (Wk.wpL (s2 := ⟨.sl (List.map cFrame fs) :: jj 3 (.v (.int .i64 (IntKind.i64.wrap ((fs.length : Int) - 1))) :: jj 19 []), St [], none, 0⟩) ?_ (f21_l0_ok hU fs (IntKind.i64.wrap ((fs.length : Int) - 1)) o1 ho1)) (fun ex s1 hp => ?_)
  · try simp only [jjs]
    refine Wk.weak hU [] _ (by decide) ?_ ?_
    · exact .nil
    · (repeat' (first | exact WVs.nil | refine WVs.cons ?_ ?_ | (refine WVs.aggW ?_) | (refine WVs.fnW ?_ ?_))) <;> (first | exact WV.junk _ | exact WV.keep rfl | exact WV.row rfl | exact WV.nil rfl | exact WV.nilsl | exact WV.emp rfl | exact WV.empsl | exact WV.ptr rfl | (refine WV.row_eq rfl ?_; simp only [bxw, tys]) | (refine WV.view (k := 3) ?_; simp (decide := true) only [reify, share, fresh1, reduceIte, reduceCtorEq, Nat.reduceAdd, bxm, tys]) | (refine WV.eq ?_ rfl; simp only [bxw, tys]))
  · cases o1 with
    | ret r0 =>
      obtain ⟨rfl, hp⟩ := hp
      obtain rfl := Option.some.inj h
      refine blkR ?_
      refine thenR ?_
      exact ⟨.inl rfl, hp⟩
    | nxt wo1 =>
      obtain ⟨rfl, hp⟩ := hp
      dsimp only at h
      refine blkE ?_
      refine thenN ?_
      refine hp.wp ?_
      try simp only [jjs]
      refine Wp.seq ?_
      refine Wp.region hU no_ok (by simp (decide := true) (disch := (first | omega | (simp only [List.length_append, List.length_map, List.length_cons, List.length_nil]; omega))) only [evOp, putTm, E_T, E_gl, E_br, tdesc, reduceIte, reduceCtorEq, Nat.reduceAdd, Nat.reduceSub, Nat.reduceLT, Nat.reduceLeDiff, Nat.reduceEqDiff, bxm, tabs, tys]; rfl) ?_
      refine thenN ?_
      refine Wp.ret ?_
      obtain rfl := Option.some.inj h
      refine ⟨.inl rfl, ?_⟩
      refine Rt.wk (s2 := ⟨jj 2 (.sl (List.map (cInt .i64) []) :: .v (.int .i64 (-1)) :: jj 20 []), St [], none, 0⟩) ?_ (Rt.of ?_)
      · try simp only [jjs]
        refine Wk.weak hU [] _ (by decide) ?_ ?_
        · exact .nil
        · (repeat' (first | exact WVs.nil | refine WVs.cons ?_ ?_ | (refine WVs.aggW ?_) | (refine WVs.fnW ?_ ?_))) <;> (first | exact WV.junk _ | exact WV.keep rfl | exact WV.row rfl | exact WV.nil rfl | exact WV.nilsl | exact WV.emp rfl | exact WV.empsl | exact WV.ptr rfl | (refine WV.row_eq rfl ?_; simp only [bxw, tys]) | (refine WV.view (k := 3) ?_; simp (decide := true) only [reify, share, fresh1, reduceIte, reduceCtorEq, Nat.reduceAdd, bxm, tys]) | (refine WV.eq ?_ rfl; simp only [bxw, tys]))
      try simp only [jjs]
      simp (decide := true) only [evReturn, retShare, evReturn0, resAV, evLoad, ofCells, TD.isAgg, mapO, exportVs, exportV, exportL, export1, rowsOf, rowOf, innerIds, rowIds, one, closed, share, fresh1, E_T, reduceIte, reduceCtorEq, Nat.reduceAdd, Nat.reduceSub, Nat.reduceLT, Nat.reduceLeDiff, Nat.reduceEqDiff, bxm, tabs, List.map_append, f21_res, f21_rt, tys]

noncomputable def f21_tbl : CI := tbl 21 (fun p : (List Frame) => [.sl (List.map cFrame p)]) (fun p => (f21 p).map fun r => .tup [.sl (List.map (cInt .i64) r.1), .v (.int .i64 r.2)])
theorem f21_tbl_ok {base : Nat} : CIOK E base f21_tbl := tbl_ok fun p r h => by obtain ⟨q, hq, rfl⟩ := Option.map_eq_some_iff.1 h; exact f21_ok p q hq
theorem f21_call {fs : List Frame} {r : (List Int) × Int} (h : f21 fs = some r) (σ : Store) : f21_tbl 21 [.sl (List.map cFrame fs)] σ = some (.tup [.sl (List.map (cInt .i64) r.1), .v (.int .i64 r.2)], σ, none) :=
  tbl_eq (x := (fs)) (fun x y e => by
    exact av_sl injFrame (List.cons.inj e).1) (by simp [h]) σ
end Go.Bx.Wind
